/- Printed by a program of this session (wip/tools), out of the translation: functions with the same answers as the Go code, and the contracts of the code. Lean checks it. -/
import Derived.Test.YtendmmagjjhfnaaM0
import Derived.Test.YtendmmagjjhfnaaM23
namespace Go.Proofs.Ytendmmagjjhfnaa.M
open Go.RowKit Go.Proofs.YtendmmagjjhfnaaW.PrintWords Go.Proofs.YtendmmagjjhfnaaW.PrintLast Go.Proofs.YtendmmagjjhfnaaW.PrintMore
attribute [local go_sem] max2_int min2_int max_two min_two max_three min_three max_four min_four   -- for this text's walks alone
set_option linter.unusedVariables false
set_option linter.unusedSimpArgs false

/-! ### partitalaw10_Made: function 12 -/
mutual
def partitalaw10_Made.j1 : Nat → Int → Int → Int → Int → List (S38) → Option ((List (S38)))
  | 0, _, _, _, _, _ => none
  | k + 1, x1, x2, x3, x4, x11 => if (x11.length : Int) = 0 then (partitalaw10_Made.j2 k x1 x2 x3 x4 x11 (x11.length : Int) true) else (partitalaw10_Made.j2 k x1 x2 x3 x4 x11 (x11.length : Int) ((Int.tmod x1 7) == 0))
def partitalaw10_Made.j2 : Nat → Int → Int → Int → Int → List (S38) → Int → Bool → Option ((List (S38)))
  | 0, _, _, _, _, _, _, _ => none
  | k + 1, x1, x2, x3, x4, x11, x13, x41 => if x41 = true then (some x11) else none
def partitalaw10_Made.j3 : Nat → Int → Int → List (S38) → Int → Int → Option ((List (S38)))
  | 0, _, _, _, _, _ => none
  | k + 1, x3, x4, x11, x13, x14 => if x14 = 2 then (partitalaw10_Made.j4 k x3 x4 x11 x13 x14 true) else (partitalaw10_Made.j4 k x3 x4 x11 x13 x14 (x14 == 5))
def partitalaw10_Made.j4 : Nat → Int → Int → List (S38) → Int → Int → Bool → Option ((List (S38)))
  | 0, _, _, _, _, _, _ => none
  | k + 1, x3, x4, x11, x13, x14, x68 => if x68 = true then (if x13 = 0 then (none) else (if 0 ≤ (((Int.tdiv x3 2) % 256) % x13) then (if (((Int.tdiv x3 2) % 256) % x13) < (x11.length : Int) then ((some (x11.set ((((Int.tdiv x3 2) % 256) % x13) : Int).toNat (⟨(rd_T38 x11 (((Int.tdiv x3 2) % 256) % x13)).f0, (rd_T38 x11 (((Int.tdiv x3 2) % 256) % x13)).f1, (rd_T38 x11 (((Int.tdiv x3 2) % 256) % x13)).f2, (rd_T38 x11 (((Int.tdiv x3 2) % 256) % x13)).f3, (rd_T38 x11 (((Int.tdiv x3 2) % 256) % x13)).f4, (rd_T38 x11 (((Int.tdiv x3 2) % 256) % x13)).f5, true, (rd_T38 x11 (((Int.tdiv x3 2) % 256) % x13)).f7⟩ : S38) : List (S38))).bind fun y215 => (if x14 = 3 then (if 0 ≤ (Int.tmod (wrap64 (x4)) x13) then (if (Int.tmod (wrap64 (x4)) x13) < (x11.length : Int) then ((some (y215.set ((Int.tmod (wrap64 (x4)) x13) : Int).toNat (⟨(rd_T38 y215 (Int.tmod (wrap64 (x4)) x13)).f0, (rd_T38 y215 (Int.tmod (wrap64 (x4)) x13)).f1, (rd_T38 y215 (Int.tmod (wrap64 (x4)) x13)).f2, (rd_T38 y215 (Int.tmod (wrap64 (x4)) x13)).f3, true, (rd_T38 y215 (Int.tmod (wrap64 (x4)) x13)).f5, (rd_T38 y215 (Int.tmod (wrap64 (x4)) x13)).f6, (rd_T38 y215 (Int.tmod (wrap64 (x4)) x13)).f7⟩ : S38) : List (S38))).bind fun y216 => (if 0 ≤ (((Int.tdiv x4 3) % 256) % x13) then (if (((Int.tdiv x4 3) % 256) % x13) < (x11.length : Int) then (some (y216.set ((((Int.tdiv x4 3) % 256) % x13) : Int).toNat (⟨(rd_T38 y216 (((Int.tdiv x4 3) % 256) % x13)).f0, (rd_T38 y216 (((Int.tdiv x4 3) % 256) % x13)).f1, (rd_T38 y216 (((Int.tdiv x4 3) % 256) % x13)).f2, (rd_T38 y216 (((Int.tdiv x4 3) % 256) % x13)).f3, (rd_T38 y216 (((Int.tdiv x4 3) % 256) % x13)).f4, true, (rd_T38 y216 (((Int.tdiv x4 3) % 256) % x13)).f6, (rd_T38 y216 (((Int.tdiv x4 3) % 256) % x13)).f7⟩ : S38))) else (none)) else (none))) else (none)) else (none)) else (if x14 = 6 then (if 0 ≤ (Int.tmod (wrap64 (x4)) x13) then (if (Int.tmod (wrap64 (x4)) x13) < (x11.length : Int) then ((some (y215.set ((Int.tmod (wrap64 (x4)) x13) : Int).toNat (⟨(rd_T38 y215 (Int.tmod (wrap64 (x4)) x13)).f0, (rd_T38 y215 (Int.tmod (wrap64 (x4)) x13)).f1, (rd_T38 y215 (Int.tmod (wrap64 (x4)) x13)).f2, (rd_T38 y215 (Int.tmod (wrap64 (x4)) x13)).f3, true, (rd_T38 y215 (Int.tmod (wrap64 (x4)) x13)).f5, (rd_T38 y215 (Int.tmod (wrap64 (x4)) x13)).f6, (rd_T38 y215 (Int.tmod (wrap64 (x4)) x13)).f7⟩ : S38) : List (S38))).bind fun y218 => (if 0 ≤ (((Int.tdiv x4 3) % 256) % x13) then (if (((Int.tdiv x4 3) % 256) % x13) < (x11.length : Int) then (some (y218.set ((((Int.tdiv x4 3) % 256) % x13) : Int).toNat (⟨(rd_T38 y218 (((Int.tdiv x4 3) % 256) % x13)).f0, (rd_T38 y218 (((Int.tdiv x4 3) % 256) % x13)).f1, (rd_T38 y218 (((Int.tdiv x4 3) % 256) % x13)).f2, (rd_T38 y218 (((Int.tdiv x4 3) % 256) % x13)).f3, (rd_T38 y218 (((Int.tdiv x4 3) % 256) % x13)).f4, true, (rd_T38 y218 (((Int.tdiv x4 3) % 256) % x13)).f6, (rd_T38 y218 (((Int.tdiv x4 3) % 256) % x13)).f7⟩ : S38))) else (none)) else (none))) else (none)) else (none)) else (some y215)))) else (none)) else (none))) else (if x14 = 3 then (if x13 = 0 then (none) else (if 0 ≤ (Int.tmod (wrap64 (x4)) x13) then (if (Int.tmod (wrap64 (x4)) x13) < (x11.length : Int) then ((some (x11.set ((Int.tmod (wrap64 (x4)) x13) : Int).toNat (⟨(rd_T38 x11 (Int.tmod (wrap64 (x4)) x13)).f0, (rd_T38 x11 (Int.tmod (wrap64 (x4)) x13)).f1, (rd_T38 x11 (Int.tmod (wrap64 (x4)) x13)).f2, (rd_T38 x11 (Int.tmod (wrap64 (x4)) x13)).f3, true, (rd_T38 x11 (Int.tmod (wrap64 (x4)) x13)).f5, (rd_T38 x11 (Int.tmod (wrap64 (x4)) x13)).f6, (rd_T38 x11 (Int.tmod (wrap64 (x4)) x13)).f7⟩ : S38) : List (S38))).bind fun y220 => (if 0 ≤ (((Int.tdiv x4 3) % 256) % x13) then (if (((Int.tdiv x4 3) % 256) % x13) < (x11.length : Int) then (some (y220.set ((((Int.tdiv x4 3) % 256) % x13) : Int).toNat (⟨(rd_T38 y220 (((Int.tdiv x4 3) % 256) % x13)).f0, (rd_T38 y220 (((Int.tdiv x4 3) % 256) % x13)).f1, (rd_T38 y220 (((Int.tdiv x4 3) % 256) % x13)).f2, (rd_T38 y220 (((Int.tdiv x4 3) % 256) % x13)).f3, (rd_T38 y220 (((Int.tdiv x4 3) % 256) % x13)).f4, true, (rd_T38 y220 (((Int.tdiv x4 3) % 256) % x13)).f6, (rd_T38 y220 (((Int.tdiv x4 3) % 256) % x13)).f7⟩ : S38))) else (none)) else (none))) else (none)) else (none))) else (if x14 = 6 then (if x13 = 0 then (none) else (if 0 ≤ (Int.tmod (wrap64 (x4)) x13) then (if (Int.tmod (wrap64 (x4)) x13) < (x11.length : Int) then ((some (x11.set ((Int.tmod (wrap64 (x4)) x13) : Int).toNat (⟨(rd_T38 x11 (Int.tmod (wrap64 (x4)) x13)).f0, (rd_T38 x11 (Int.tmod (wrap64 (x4)) x13)).f1, (rd_T38 x11 (Int.tmod (wrap64 (x4)) x13)).f2, (rd_T38 x11 (Int.tmod (wrap64 (x4)) x13)).f3, true, (rd_T38 x11 (Int.tmod (wrap64 (x4)) x13)).f5, (rd_T38 x11 (Int.tmod (wrap64 (x4)) x13)).f6, (rd_T38 x11 (Int.tmod (wrap64 (x4)) x13)).f7⟩ : S38) : List (S38))).bind fun y222 => (if 0 ≤ (((Int.tdiv x4 3) % 256) % x13) then (if (((Int.tdiv x4 3) % 256) % x13) < (x11.length : Int) then (some (y222.set ((((Int.tdiv x4 3) % 256) % x13) : Int).toNat (⟨(rd_T38 y222 (((Int.tdiv x4 3) % 256) % x13)).f0, (rd_T38 y222 (((Int.tdiv x4 3) % 256) % x13)).f1, (rd_T38 y222 (((Int.tdiv x4 3) % 256) % x13)).f2, (rd_T38 y222 (((Int.tdiv x4 3) % 256) % x13)).f3, (rd_T38 y222 (((Int.tdiv x4 3) % 256) % x13)).f4, true, (rd_T38 y222 (((Int.tdiv x4 3) % 256) % x13)).f6, (rd_T38 y222 (((Int.tdiv x4 3) % 256) % x13)).f7⟩ : S38))) else (none)) else (none))) else (none)) else (none))) else (some x11)))
def partitalaw10_Made.l0 : Nat → List (S46) → Int → Int → Int → Int → List (S38) → Int → Option ((List (S38)))
  | 0, _, _, _, _, _, _, _ => none
  | k + 1, x0, x1, x2, x3, x4, x11, x12 => if x12 < (x0.length : Int) then (if x12 < 30 then (if 0 ≤ x12 then ((partitalaw10_Turn_turn.f k ((rd_T46 x0 x12).f0) ((rd_T46 x0 x12).f1) ((rd_T46 x0 x12).f2)).bind fun bt200 => (if x11.length < 2513169434916 then (partitalaw10_Made.l0 k x0 x1 x2 x3 x4 (x11 ++ [(⟨bt200.1, bt200.2.1, bt200.2.2.1, bt200.2.2.2.1, bt200.2.2.2.2.1, bt200.2.2.2.2.2.1, bt200.2.2.2.2.2.2.1, bt200.2.2.2.2.2.2.2⟩ : S38)]) (wrap64 (x12 + 1))) else (none))) else (none)) else (partitalaw10_Made.j1 k x1 x2 x3 x4 x11)) else (partitalaw10_Made.j1 k x1 x2 x3 x4 x11)
end
def partitalaw10_Made.f (k : Nat) (l0 : List (S46)) (a1 : Int) (a2 : Int) (a3 : Int) (a4 : Int) : Option ((List (S38))) := partitalaw10_Made.l0 k l0 a1 a2 a3 a4 ([] : List (S38)) 0
theorem partitalaw10_Made.mono_l : ∀ k, (∀ y0 y1 y2 y3 y4, LeO (partitalaw10_Made.j1 k y0 y1 y2 y3 y4) (partitalaw10_Made.j1 (k + 1) y0 y1 y2 y3 y4)) ∧ (∀ y0 y1 y2 y3 y4 y5 y6, LeO (partitalaw10_Made.j2 k y0 y1 y2 y3 y4 y5 y6) (partitalaw10_Made.j2 (k + 1) y0 y1 y2 y3 y4 y5 y6)) ∧ (∀ y0 y1 y2 y3 y4, LeO (partitalaw10_Made.j3 k y0 y1 y2 y3 y4) (partitalaw10_Made.j3 (k + 1) y0 y1 y2 y3 y4)) ∧ (∀ y0 y1 y2 y3 y4 y5, LeO (partitalaw10_Made.j4 k y0 y1 y2 y3 y4 y5) (partitalaw10_Made.j4 (k + 1) y0 y1 y2 y3 y4 y5)) ∧ (∀ y0 y1 y2 y3 y4 y5 y6, LeO (partitalaw10_Made.l0 k y0 y1 y2 y3 y4 y5 y6) (partitalaw10_Made.l0 (k + 1) y0 y1 y2 y3 y4 y5 y6))
  | 0 => ⟨fun _ _ _ _ _ r h => by simp [partitalaw10_Made.j1] at h, fun _ _ _ _ _ _ _ r h => by simp [partitalaw10_Made.j2] at h, fun _ _ _ _ _ r h => by simp [partitalaw10_Made.j3] at h, fun _ _ _ _ _ _ r h => by simp [partitalaw10_Made.j4] at h, fun _ _ _ _ _ _ _ r h => by simp [partitalaw10_Made.l0] at h⟩
  | k + 1 => by
    obtain ⟨ih0, ih1, ih2, ih3, ih4⟩ := partitalaw10_Made.mono_l k
    refine ⟨?_, ?_, ?_, ?_, ?_⟩
    · intro y0 y1 y2 y3 y4
      unfold partitalaw10_Made.j1
      repeat' first
      | (with_reducible exact ih0 _ _ _ _ _)
      | (with_reducible exact ih1 _ _ _ _ _ _ _)
      | (with_reducible exact ih2 _ _ _ _ _)
      | (with_reducible exact ih3 _ _ _ _ _ _)
      | (with_reducible exact ih4 _ _ _ _ _ _ _)
      | (with_reducible exact partitalaw10_Turn_turn.mono _ _ _ _)
      | (with_reducible exact LeO.refl _)
      | (with_reducible exact LeO.none _)
      | (with_reducible refine LeO.ite ?_ ?_)
      | (with_reducible refine LeO.bind ?_ (fun _ => ?_))
      | exact ih0 _ _ _ _ _
      | exact ih1 _ _ _ _ _ _ _
      | exact ih2 _ _ _ _ _
      | exact ih3 _ _ _ _ _ _
      | exact ih4 _ _ _ _ _ _ _
      | exact partitalaw10_Turn_turn.mono _ _ _ _
      | exact LeO.none _
      | refine LeO.ite ?_ ?_
      | refine LeO.bind ?_ (fun _ => ?_)
    · intro y0 y1 y2 y3 y4 y5 y6
      unfold partitalaw10_Made.j2
      repeat' first
      | (with_reducible exact ih0 _ _ _ _ _)
      | (with_reducible exact ih1 _ _ _ _ _ _ _)
      | (with_reducible exact ih2 _ _ _ _ _)
      | (with_reducible exact ih3 _ _ _ _ _ _)
      | (with_reducible exact ih4 _ _ _ _ _ _ _)
      | (with_reducible exact partitalaw10_Turn_turn.mono _ _ _ _)
      | (with_reducible exact LeO.refl _)
      | (with_reducible exact LeO.none _)
      | (with_reducible refine LeO.ite ?_ ?_)
      | (with_reducible refine LeO.bind ?_ (fun _ => ?_))
      | exact ih0 _ _ _ _ _
      | exact ih1 _ _ _ _ _ _ _
      | exact ih2 _ _ _ _ _
      | exact ih3 _ _ _ _ _ _
      | exact ih4 _ _ _ _ _ _ _
      | exact partitalaw10_Turn_turn.mono _ _ _ _
      | exact LeO.none _
      | refine LeO.ite ?_ ?_
      | refine LeO.bind ?_ (fun _ => ?_)
    · intro y0 y1 y2 y3 y4
      unfold partitalaw10_Made.j3
      repeat' first
      | (with_reducible exact ih0 _ _ _ _ _)
      | (with_reducible exact ih1 _ _ _ _ _ _ _)
      | (with_reducible exact ih2 _ _ _ _ _)
      | (with_reducible exact ih3 _ _ _ _ _ _)
      | (with_reducible exact ih4 _ _ _ _ _ _ _)
      | (with_reducible exact partitalaw10_Turn_turn.mono _ _ _ _)
      | (with_reducible exact LeO.refl _)
      | (with_reducible exact LeO.none _)
      | (with_reducible refine LeO.ite ?_ ?_)
      | (with_reducible refine LeO.bind ?_ (fun _ => ?_))
      | exact ih0 _ _ _ _ _
      | exact ih1 _ _ _ _ _ _ _
      | exact ih2 _ _ _ _ _
      | exact ih3 _ _ _ _ _ _
      | exact ih4 _ _ _ _ _ _ _
      | exact partitalaw10_Turn_turn.mono _ _ _ _
      | exact LeO.none _
      | refine LeO.ite ?_ ?_
      | refine LeO.bind ?_ (fun _ => ?_)
    · intro y0 y1 y2 y3 y4 y5
      unfold partitalaw10_Made.j4
      repeat' first
      | (with_reducible exact ih0 _ _ _ _ _)
      | (with_reducible exact ih1 _ _ _ _ _ _ _)
      | (with_reducible exact ih2 _ _ _ _ _)
      | (with_reducible exact ih3 _ _ _ _ _ _)
      | (with_reducible exact ih4 _ _ _ _ _ _ _)
      | (with_reducible exact partitalaw10_Turn_turn.mono _ _ _ _)
      | (with_reducible exact LeO.refl _)
      | (with_reducible exact LeO.none _)
      | (with_reducible refine LeO.ite ?_ ?_)
      | (with_reducible refine LeO.bind ?_ (fun _ => ?_))
      | exact ih0 _ _ _ _ _
      | exact ih1 _ _ _ _ _ _ _
      | exact ih2 _ _ _ _ _
      | exact ih3 _ _ _ _ _ _
      | exact ih4 _ _ _ _ _ _ _
      | exact partitalaw10_Turn_turn.mono _ _ _ _
      | exact LeO.none _
      | refine LeO.ite ?_ ?_
      | refine LeO.bind ?_ (fun _ => ?_)
    · intro y0 y1 y2 y3 y4 y5 y6
      unfold partitalaw10_Made.l0
      repeat' first
      | (with_reducible exact ih0 _ _ _ _ _)
      | (with_reducible exact ih1 _ _ _ _ _ _ _)
      | (with_reducible exact ih2 _ _ _ _ _)
      | (with_reducible exact ih3 _ _ _ _ _ _)
      | (with_reducible exact ih4 _ _ _ _ _ _ _)
      | (with_reducible exact partitalaw10_Turn_turn.mono _ _ _ _)
      | (with_reducible exact LeO.refl _)
      | (with_reducible exact LeO.none _)
      | (with_reducible refine LeO.ite ?_ ?_)
      | (with_reducible refine LeO.bind ?_ (fun _ => ?_))
      | exact ih0 _ _ _ _ _
      | exact ih1 _ _ _ _ _ _ _
      | exact ih2 _ _ _ _ _
      | exact ih3 _ _ _ _ _ _
      | exact ih4 _ _ _ _ _ _ _
      | exact partitalaw10_Turn_turn.mono _ _ _ _
      | exact LeO.none _
      | refine LeO.ite ?_ ?_
      | refine LeO.bind ?_ (fun _ => ?_)
theorem partitalaw10_Made.mono : ∀ a0 a1 a2 a3 a4 k, LeO (partitalaw10_Made.f k a0 a1 a2 a3 a4) (partitalaw10_Made.f (k + 1) a0 a1 a2 a3 a4) := by
  intro a0 a1 a2 a3 a4 k
  obtain ⟨ih0, ih1, ih2, ih3, ih4⟩ := partitalaw10_Made.mono_l k
  unfold partitalaw10_Made.f
  repeat' first
      | (with_reducible exact ih0 _ _ _ _ _)
      | (with_reducible exact ih1 _ _ _ _ _ _ _)
      | (with_reducible exact ih2 _ _ _ _ _)
      | (with_reducible exact ih3 _ _ _ _ _ _)
      | (with_reducible exact ih4 _ _ _ _ _ _ _)
      | (with_reducible exact partitalaw10_Turn_turn.mono _ _ _ _)
      | (with_reducible exact LeO.refl _)
      | (with_reducible exact LeO.none _)
      | (with_reducible refine LeO.ite ?_ ?_)
      | (with_reducible refine LeO.bind ?_ (fun _ => ?_))
      | exact ih0 _ _ _ _ _
      | exact ih1 _ _ _ _ _ _ _
      | exact ih2 _ _ _ _ _
      | exact ih3 _ _ _ _ _ _
      | exact ih4 _ _ _ _ _ _ _
      | exact partitalaw10_Turn_turn.mono _ _ _ _
      | exact LeO.none _
      | refine LeO.ite ?_ ?_
      | refine LeO.bind ?_ (fun _ => ?_)
set_option maxHeartbeats 8000000 in
set_option maxRecDepth 100000 in
theorem partitalaw10_Made.calls (k : Nat) (A0 : Option Addr) (c0 : Nat) (l0 : List (S46)) (a1 : Int) (a2 : Int) (a3 : Int) (a4 : Int) (r : List (S38)) (w : World) (hr0 : Kd.C k46 w A0 l0.length l0) (hc0 : l0.length ≤ c0) (h : partitalaw10_Made.f k l0 a1 a2 a3 a4 = some r) :
    Calls Try.prog 12 #[.slice A0 l0.length c0, .int .u8 a1, .int .u8 a2, .int .u8 a3, .int .u8 a4] w fun e w' => ∃ v0_ : Value, e = .returned (v0_) ∧ Kd.S k38 38 w' w.heap.size (fun _ => True) v0_ r ∧ Below w.heap.size w w' := by
  have hu46 := Try.underlying46
  have HR0 := Aside0.mk hr0
  have HC0 := Aside0.mk hc0
  clear hr0 hc0
  have HB := Aside0.mk (Below.refl w.heap.size w)
  have H : (partitalaw10_Made.l0 k l0 a1 a2 a3 a4 ([] : List (S38)) 0) = some r := h
  clear h
  have HC6 := Aside0.mk H
  clear H
  go_enter Try.func12, Try.ntmps12
  go_upto_block 0 with (fail)
  go_cut [11] (fun v11 wc => ∃ (kq : Nat) (x11_5 : List (S38)), Aside0 (partitalaw10_Made.j1 kq a1 a2 a3 a4 x11_5 = some r) ∧ Aside0 (kq ≤ k) ∧ Aside0 (Kd.S k38 38 wc w.heap.size (fun _ => True) v11 x11_5) ∧ Aside0 (Below w.heap.size w wc))
  case first =>
    have H := HC6.out
    clear HC6
    have H' := Aside0.mk H
    clear H
    go_wp2
    go_loopg [11, 12] k (fun kq v11 v12 w' => ∃ (x11_1 : List (S38)) (x12_1 : Int), v12 = .int .i64 x12_1 ∧ Aside0 (partitalaw10_Made.l0 kq l0 a1 a2 a3 a4 x11_1 x12_1 = some r) ∧ Aside0 (kq ≤ k) ∧ Aside0 (Kd.S k38 38 w' w.heap.size (fun _ => True) v11 x11_1) ∧ Aside0 (Below w.heap.size w w'))
    case atStart => exact ⟨(([] : List (S38))), (0), (by first | rfl | (simp; done) | (simp [*]; done)), H', ⟨Nat.le_refl _⟩, ⟨by first | exact Kd.S_nil _ _ _ _ _ | exact Kd.N_nil _ _ _ _ _ | exact Kd.V_nil _ _ _ _ _ | exact Kd.Q_nil _ _ _ _ _ | exact Kd.R_nil _ _ _ _ _⟩, ⟨by repeat (first | (with_reducible first | exact HB.out | apply below_alloc | apply pw_below_drewN | apply below_drew1) | exact HB.out)⟩⟩
    case round =>
      clear H'
      try clear c1
      try clear p2
      obtain ⟨x11_1, x12_1, rfl, HA, HK1, HO_11, HB⟩ := hrel
      cases gk with
      | zero => exact absurd HA.out (by simp [partitalaw10_Made.l0])
      | succ k1 =>
        have H := HA.out
        clear HA
        simp only [partitalaw10_Made.l0] at H
        by_cases c7 : x12_1 < (l0.length : Int)
        · rw [if_pos c7] at H
          have c7b0 : decide (x12_1 < (l0.length : Int)) = true := decide_eq_true c7
          clear c7
          (first | rw [c7b0] | (simp only [i64_w, i32_w]; rw [c7b0]) | skip)
          by_cases c8 : x12_1 < 30
          · rw [if_pos c8] at H
            have c8b0 : decide (x12_1 < 30) = true := decide_eq_true c8
            clear c8
            by_cases c9 : 0 ≤ x12_1
            · rw [if_pos c9] at H
              have c9b0 : decide (0 ≤ x12_1) = true := decide_eq_true c9
              clear c9
              replace H := Option.bind_eq_some_iff.mp H
              obtain ⟨⟨t200, t201, t202, t205, t206, t207, t208, t209⟩, A100, H⟩ := H
              replace H : (if x11_1.length < 2513169434916 then (partitalaw10_Made.l0 k1 l0 a1 a2 a3 a4 (x11_1 ++ [(⟨t200, t201, t202, t205, t206, t207, t208, t209⟩ : S38)]) (wrap64 (x12_1 + 1))) else (none)) = some r := H
              have A10 := Aside0.mk A100
              clear A100
              by_cases c11 : x11_1.length < 2513169434916
              · rw [if_pos c11] at H
                have LMc11 := Aside0.mk c11
                clear c11
                obtain ⟨y210, hy210⟩ : ∃ y_ : List (S38), y_ = (x11_1 ++ [(⟨t200, t201, t202, t205, t206, t207, t208, t209⟩ : S38)]) := ⟨_, rfl⟩
                replace H : (partitalaw10_Made.l0 k1 l0 a1 a2 a3 a4 y210 (wrap64 (x12_1 + 1))) = some r := by first | (rw [hy210]; with_reducible exact H) | (have H2_ := (Option.bind_some _ _).symm.trans H; rw [hy210]; with_reducible exact H2_) | (have H2_ := (Option.bind_some _ _).symm.trans H; with_reducible exact H2_) | with_reducible exact H | (rw [hy210]; exact H) | exact H
                have Ny210 := Aside0.mk hy210
                clear hy210
                have H' := Aside0.mk H
                clear H
                have p199 : 0 ≤ (x12_1 : Int) := of_decide_eq_true (by first | (with_reducible assumption) | assumption)
                have q199 : x12_1 < (l0.length : Int) := of_decide_eq_true (by first | (with_reducible assumption) | assumption)
                obtain ⟨ad199, e199, hx199_0, hx199_1, hx199_2⟩ := at_T46 HR0.out x12_1 p199 q199
                cases e199
                replace hx199_0 := (HB.out.cell (World.block_lt_of_cell? w _ hx199_0)).trans hx199_0
                replace hx199_1 := (HB.out.cell (World.block_lt_of_cell? w _ hx199_1)).trans hx199_1
                replace hx199_2 := (HB.out.cell (World.block_lt_of_cell? w _ hx199_2)).trans hx199_2
                replace p199 := eq_true p199
                replace q199 := eq_true q199
                go_wp2_with (first | ((with_reducible refine gate_callee (f := 22) rfl ?_); refine goesL_ (some 30) rfl rfl Try.func22 (by kernel_rfl) rfl #[.agg #[.int .u8 ((rd_T46 l0 x12_1).f0), .int .u8 ((rd_T46 l0 x12_1).f1), .int .u8 ((rd_T46 l0 x12_1).f2)]] rfl (by (try simp only [List.map_toArray, List.map_cons, List.map_nil]); first | done | rfl | (simp only [List.length_drop, List.length_take]; rfl)) ?_; (with_reducible refine (partitalaw10_Turn_turn.calls k1 ((rd_T46 l0 x12_1).f0) ((rd_T46 l0 x12_1).f1) ((rd_T46 l0 x12_1).f2) t200 t201 t202 t205 t206 t207 t208 t209 _ A10.out).mono ?_); rintro e w12 ⟨v203, rfl, ho0, hb⟩; refine ⟨_, rfl, ?_⟩; have n0_ := Aside0.mk (Kd.S_elder' (by (with_reducible repeat (first | apply Kd.S_alloc | apply Kd.S_drewN | apply Kd.S_drew)); exact HO_11.out) (Kd.R_base ho0) hb); have n1_ := Aside0.mk (Kd.R_lower ho0 (below_size (by repeat (first | (with_reducible first | exact HB.out | apply below_alloc | apply pw_below_drewN | apply below_drew1) | exact HB.out)))); have n2_ := Aside0.mk (below_step (by repeat (first | (with_reducible first | exact HB.out | apply below_alloc | apply pw_below_drewN | apply below_drew1) | exact HB.out)) hb); clear HO_11; clear HB; have HO_11 := n0_; have HO204 := n1_; have HB := n2_; clear n0_ n1_ n2_; (try clear hb); (try clear hb2); (try clear hk); (try clear hi); (try clear ho0); obtain ⟨Ao14, co14, eo14⟩ := Kd.R_slice HO204.out; subst eo14) | ((with_reducible refine gate_builtin (b := .append) (xs := #[.tmp 25, .tmp 31]) rfl ?_); at_builtin; refine Kd.S_append k38 (w0 := w) w.heap.size rfl (.tmp 25) (.tmp 31) 22 38 (.agg #[(.bool false), (.int .i64 0), (.slice none 0 0), (.bool false), (.bool false), (.bool false), (.bool false), (.int .i64 0)]) 56 rfl Try.underlying22 info38 rfl (by decide) (by omega) u11 x11_1 (⟨t200, t201, t202, t205, t206, t207, t208, t209⟩ : S38) [.bool t200, .int .i64 t201, .slice Ao14 t202.length co14, .bool t205, .bool t206, .bool t207, .bool t208, .int .i64 t209] (fun _ => True) (fun k_ => some k_ = (.slice Ao14 t202.length co14 : Value).ownBlock) rfl rfl ?aP (fun k_ hk_ => ((Kd.R_mono (ok' := fun k_ => ((fun _ => True)) k_ ∧ some k_ ≠ (u11 : Value).ownBlock) (Kd.R_apart' (HO204.out) (Kd.S_typed HO_11.out) (by decide)) (fun k_ hk => ⟨trivial, hk.2⟩))).1 k_ hk_.symm) ?aF ?aO ?aB ?aS ?aL ?_; (case aP => exact k38_mkM _ _ _ (⟨t200, t201, t202, t205, t206, t207, t208, t209⟩ : S38) (Kd.R_mono (Kd.R_tight rfl (Kd.R_mono (ok' := fun k_ => ((fun _ => True)) k_ ∧ some k_ ≠ (u11 : Value).ownBlock) (Kd.R_apart' (HO204.out) (Kd.S_typed HO_11.out) (by decide)) (fun k_ hk => ⟨trivial, hk.2⟩))) (fun _ h_ => h_))); (case aB => exact (by repeat (first | (with_reducible first | exact HB.out | apply below_alloc | apply pw_below_drewN | apply below_drew1) | exact HB.out))); (case aF => exact (fun _ _ => trivial)); (case aO => exact (by (with_reducible repeat (first | apply Kd.S_alloc | apply Kd.S_drewN | apply Kd.S_drew)); exact Kd.S_mono HO_11.out (fun k_ hk => ⟨trivial, fun e_ => hk.2 e_⟩))); (case aS => exact (below_size (by repeat (first | (with_reducible first | exact HB.out | apply below_alloc | apply pw_below_drewN | apply below_drew1) | exact HB.out)))); (case aL => have := LMc11.out; omega); intro v211 w13 ho hb hg hat; rw [← Ny210.out] at ho; have n0_ := Aside0.mk (hb); have n1_ := Aside0.mk (ho); clear HB; clear HO_11; clear HO204; have HB := n0_; have HO212 := n1_; clear n0_ n1_; clear ho hb hg hat))
                go_roundg k1
                case measure => have := HK1.out; omega
                case rel => exact ⟨(y210), (wrap64 (x12_1 + 1)), (by first | rfl | (simp; done) | (simp [*]; done)), H', ⟨by have := HK1.out; omega⟩, ⟨by (with_reducible repeat (first | apply Kd.S_alloc | apply Kd.S_drewN | apply Kd.S_drew)); exact HO212.out⟩, ⟨by repeat (first | (with_reducible first | exact HB.out | apply below_alloc | apply pw_below_drewN | apply below_drew1) | exact HB.out)⟩⟩
              · rw [if_neg c11] at H
                exact absurd H (by simp)
            · rw [if_neg c9] at H
              exact absurd H (by simp)
          · rw [if_neg c8] at H
            have c8b0 : decide (x12_1 < 30) = false := decide_eq_false c8
            clear c8
            have H' := Aside0.mk H
            clear H
            go_wp2
            go_meet
            case rel => exact ⟨_, (x11_1), H', ⟨by have := HK1.out; first | omega | exact Nat.le_refl _⟩, ⟨by (with_reducible repeat (first | apply Kd.S_alloc | apply Kd.S_drewN | apply Kd.S_drew)); exact HO_11.out⟩, ⟨by repeat (first | (with_reducible first | exact HB.out | apply below_alloc | apply pw_below_drewN | apply below_drew1) | exact HB.out)⟩⟩
        · rw [if_neg c7] at H
          have c7b0 : decide (x12_1 < (l0.length : Int)) = false := decide_eq_false c7
          clear c7
          (first | rw [c7b0] | (simp only [i64_w, i32_w]; rw [c7b0]) | skip)
          have H' := Aside0.mk H
          clear H
          go_wp2
          go_meet
          case rel => exact ⟨_, (x11_1), H', ⟨by have := HK1.out; first | omega | exact Nat.le_refl _⟩, ⟨by (with_reducible repeat (first | apply Kd.S_alloc | apply Kd.S_drewN | apply Kd.S_drew)); exact HO_11.out⟩, ⟨by repeat (first | (with_reducible first | exact HB.out | apply below_alloc | apply pw_below_drewN | apply below_drew1) | exact HB.out)⟩⟩
  case rest =>
    clear HC6
    try clear c1
    try clear p1
    try clear q1
    try clear hx1
    try clear c2
    try clear p2
    try clear p6
    try clear c7
    try clear c7b0
    try clear c8
    try clear c8b0
    try clear c9
    try clear c9b0
    try clear c11
    try clear c12
    try clear hx199_0
    try clear hx199_1
    try clear hx199_2
    try clear p199
    try clear p2
    try clear q199
    obtain ⟨kq, x11_5, HA, HJ5, HO_11, HB⟩ := hcut
    cases kq with
    | zero => exact absurd HA.out (by simp [partitalaw10_Made.j1])
    | succ kj5 =>
      have H := HA.out
      clear HA
      simp only [partitalaw10_Made.j1] at H
      have HC15 := Aside0.mk H
      clear H
      obtain ⟨Ao16, co16, eo16⟩ := Kd.S_slice HO_11.out
      subst eo16
      go_upto_region 7 with (fail)
      go_cut [41] (fun v41 wc => ∃ (kq : Nat) (x41_14 : Bool), v41 = .bool x41_14 ∧ Aside0 (partitalaw10_Made.j2 kq a1 a2 a3 a4 x11_5 (x11_5.length : Int) x41_14 = some r) ∧ Aside0 (kq ≤ kj5) ∧ Aside0 (Kd.S k38 38 wc w.heap.size (fun _ => True) (.slice Ao16 x11_5.length co16) x11_5) ∧ Aside0 (Below w.heap.size w wc))
      case first =>
        have H := HC15.out
        clear HC15
        by_cases c17 : (x11_5.length : Int) = 0
        · rw [if_pos c17] at H
          have c17b0 : ((x11_5.length : Int) == 0) = true := beq_iff_eq.mpr c17
          have c17b1 : ((x11_5.length : Int) != 0) = false := bne_eq_false_iff_eq.mpr c17
          clear c17
          (first | rw [c17b0] | (simp only [i64_w, i32_w]; rw [c17b0]) | skip)
          have H' := Aside0.mk H
          clear H
          go_wp2
          go_meet
          case rel => exact ⟨_, (true), (by first | rfl | (simp; done) | (simp [*]; done)), H', ⟨by have := HJ5.out; first | omega | exact Nat.le_refl _⟩, ⟨by (with_reducible repeat (first | apply Kd.S_alloc | apply Kd.S_drewN | apply Kd.S_drew)); exact HO_11.out⟩, ⟨by repeat (first | (with_reducible first | exact HB.out | apply below_alloc | apply pw_below_drewN | apply below_drew1) | exact HB.out)⟩⟩
        · rw [if_neg c17] at H
          have c17b0 : ((x11_5.length : Int) == 0) = false := beq_eq_false_iff_ne.mpr c17
          have c17b1 : ((x11_5.length : Int) != 0) = true := bne_iff_ne.mpr c17
          have c17b2 : ¬ (x11_5 = []) := fun h_ => c17 (by rw [h_]; rfl)
          (first | rw [c17b0] | (simp only [i64_w, i32_w]; rw [c17b0]) | skip)
          have H' := Aside0.mk H
          clear H
          go_wp2
          go_meet
          case rel => exact ⟨_, (((Int.tmod a1 7) == 0)), (by first | rfl | (simp; done) | (simp [*]; done)), H', ⟨by have := HJ5.out; first | omega | exact Nat.le_refl _⟩, ⟨by (with_reducible repeat (first | apply Kd.S_alloc | apply Kd.S_drewN | apply Kd.S_drew)); exact HO_11.out⟩, ⟨by repeat (first | (with_reducible first | exact HB.out | apply below_alloc | apply pw_below_drewN | apply below_drew1) | exact HB.out)⟩⟩
      case rest =>
        clear HC15
        try clear c1
        try clear p1
        try clear q1
        try clear hx1
        try clear c2
        try clear p2
        try clear p6
        try clear c7
        try clear c7b0
        try clear c8
        try clear c8b0
        try clear c9
        try clear c9b0
        try clear c11
        try clear c12
        try clear c17
        try clear c17b0
        try clear c17b1
        try clear c17b2
        try clear hx199_0
        try clear hx199_1
        try clear hx199_2
        try clear p1
        try clear p199
        try clear p2
        try clear p6
        try clear q1
        try clear q199
        obtain ⟨kq, x41_14, rfl, HA, HJ14, HO_11, HB⟩ := hcut
        cases kq with
        | zero => exact absurd HA.out (by simp [partitalaw10_Made.j2])
        | succ kj14 =>
          have H := HA.out
          clear HA
          simp only [partitalaw10_Made.j2] at H
          by_cases c18 : x41_14 = true
          · subst c18
            have H1 : (some x11_5) = some r := by rw [if_pos rfl] at H; exact H
            clear H
            have H := H1
            clear H1
            obtain rfl := Option.some.inj H
            go_wp2
            go_ret
            exact ⟨_, by first | rfl | (simp [errW_none, errW_some] <;> rfl) | (simp [*, errW_none, errW_some] <;> rfl), by (with_reducible repeat (first | apply Kd.S_alloc | apply Kd.S_drewN | apply Kd.S_drew)); exact HO_11.out, by repeat (first | (with_reducible first | exact HB.out | apply below_alloc | apply pw_below_drewN | apply below_drew1) | exact HB.out)⟩
          · exact absurd H (by rw [if_neg c18]; simp)

end Go.Proofs.Ytendmmagjjhfnaa.M
