/- Printed by a program of this session (wip/tools), out of the translation: functions with the same answers as the Go code, and the contracts of the code. Lean checks it. -/
import Derived.Test.YtmeefdaanjaoaaaM0
import Derived.Test.YtmeefdaanjaoaaaM19
import Derived.Test.YtmeefdaanjaoaaaM23
import Derived.Test.YtmeefdaanjaoaaaM26
namespace Go.Proofs.Ytmeefdaanjaoaaa.M
open Go.RowKit Go.Proofs.YtmeefdaanjaoaaaW.PrintWords Go.Proofs.YtmeefdaanjaoaaaW.PrintLast Go.Proofs.YtmeefdaanjaoaaaW.PrintMore
attribute [local go_sem] max2_int min2_int max_two min_two max_three min_three max_four min_four   -- for this text's walks alone
set_option linter.unusedVariables false
set_option linter.unusedSimpArgs false

/-! ### partitaref15_Encode: function 23 -/
mutual
def partitaref15_Encode.l0 : Nat → List (S31) → ByteArray → Int → Option (ByteArray × Int)
  | 0, _, _, _ => none
  | k + 1, x0, x4, x5 => if x5 < (x0.length : Int) then (if 0 ≤ x5 then ((partitaref15_Right.f k ((rd_T31 x0 x5).f0) ((rd_T31 x0 x5).f1) ((rd_T31 x0 x5).f2) ((rd_T31 x0 x5).f3) ((rd_T31 x0 x5).f4) ((rd_T31 x0 x5).f5)).bind fun t302 => (if t302 = true then ((partitaref15_Vlq.f k ((rd_T31 x0 x5).f0)).bind fun bt303 => ((partitaref15_Vlq.f k (((rd_T31 x0 x5).f5).size : Int)).bind fun bt305 => (if x4.size + bt303.1.size ≤ 9223372036854775807 then (if ((rd_T31 x0 x5).f1) ≥ 15 then (partitaref15_Encode.j1 k x0 (x4 ++ bt303.1) x5 bt305.1 true ((rd_T31 x0 x5).f0) ((rd_T31 x0 x5).f1) ((rd_T31 x0 x5).f2) ((rd_T31 x0 x5).f3) ((rd_T31 x0 x5).f4) ((rd_T31 x0 x5).f5)) else (if x5 = 0 then (partitaref15_Encode.j1 k x0 (x4 ++ bt303.1) x5 bt305.1 true ((rd_T31 x0 x5).f0) ((rd_T31 x0 x5).f1) ((rd_T31 x0 x5).f2) ((rd_T31 x0 x5).f3) ((rd_T31 x0 x5).f4) ((rd_T31 x0 x5).f5)) else (if 0 ≤ (wrap64 (x5 - 1)) then (if (wrap64 (x5 - 1)) < (x0.length : Int) then (if ((rd_T31 x0 (wrap64 (x5 - 1))).f1) ≥ 15 then (partitaref15_Encode.j1 k x0 (x4 ++ bt303.1) x5 bt305.1 true ((rd_T31 x0 x5).f0) ((rd_T31 x0 x5).f1) ((rd_T31 x0 x5).f2) ((rd_T31 x0 x5).f3) ((rd_T31 x0 x5).f4) ((rd_T31 x0 x5).f5)) else ((partitaref15_status.f ((rd_T31 x0 (wrap64 (x5 - 1))).f0) ((rd_T31 x0 (wrap64 (x5 - 1))).f1) ((rd_T31 x0 (wrap64 (x5 - 1))).f2) ((rd_T31 x0 (wrap64 (x5 - 1))).f3) ((rd_T31 x0 (wrap64 (x5 - 1))).f4) ((rd_T31 x0 (wrap64 (x5 - 1))).f5)).bind fun t309 => ((partitaref15_status.f ((rd_T31 x0 x5).f0) ((rd_T31 x0 x5).f1) ((rd_T31 x0 x5).f2) ((rd_T31 x0 x5).f3) ((rd_T31 x0 x5).f4) ((rd_T31 x0 x5).f5)).bind fun t310 => (partitaref15_Encode.j1 k x0 (x4 ++ bt303.1) x5 bt305.1 (t309 != t310) ((rd_T31 x0 x5).f0) ((rd_T31 x0 x5).f1) ((rd_T31 x0 x5).f2) ((rd_T31 x0 x5).f3) ((rd_T31 x0 x5).f4) ((rd_T31 x0 x5).f5))))) else (none)) else (none)))) else (none)))) else (some ((⟨#[]⟩ : ByteArray), 151)))) else (none)) else (some (x4, 0))
def partitaref15_Encode.j1 : Nat → List (S31) → ByteArray → Int → ByteArray → Bool → Int → Int → Int → Int → Int → ByteArray → Option (ByteArray × Int)
  | 0, _, _, _, _, _, _, _, _, _, _, _ => none
  | k + 1, x0, x4, x5, x9, x66, x302000, x302001, x302002, x302003, x302004, x302005 => if x66 = true then ((partitaref15_status.f x302000 x302001 x302002 x302003 x302004 x302005).bind fun t311 => ((some (([(t311) % 256] : List Int) : List Int)).bind fun y312 => (if x4.size + (strOfNums y312).size ≤ 9223372036854775807 then (partitaref15_Encode.j2 k x0 (x4 ++ (strOfNums y312)) x5 x9 x302000 x302001 x302002 x302003 x302004 x302005) else (none)))) else (partitaref15_Encode.j2 k x0 x4 x5 x9 x302000 x302001 x302002 x302003 x302004 x302005)
def partitaref15_Encode.j2 : Nat → List (S31) → ByteArray → Int → ByteArray → Int → Int → Int → Int → Int → ByteArray → Option (ByteArray × Int)
  | 0, _, _, _, _, _, _, _, _, _, _ => none
  | k + 1, x0, x4, x5, x9, x302000, x302001, x302002, x302003, x302004, x302005 => if x302001 = 15 then (partitaref15_Encode.j3 k x0 x4 x5 x9 x302000 x302001 x302002 x302003 x302004 x302005) else ((some (([(x302003) % 256] : List Int) : List Int)).bind fun y315 => (if x4.size + (strOfNums y315).size ≤ 9223372036854775807 then (partitaref15_Encode.j3 k x0 (x4 ++ (strOfNums y315)) x5 x9 x302000 x302001 x302002 x302003 x302004 x302005) else (none)))
def partitaref15_Encode.j3 : Nat → List (S31) → ByteArray → Int → ByteArray → Int → Int → Int → Int → Int → ByteArray → Option (ByteArray × Int)
  | 0, _, _, _, _, _, _, _, _, _, _ => none
  | k + 1, x0, x4, x5, x9, x302000, x302001, x302002, x302003, x302004, x302005 => if x302001 ≥ 15 then (if x4.size + x9.size ≤ 9223372036854775807 then (if (x4 ++ x9).size + x302005.size ≤ 9223372036854775807 then (partitaref15_Encode.l0 k x0 ((x4 ++ x9) ++ x302005) (wrap64 (x5 + 1))) else (none)) else (none)) else (if x302001 = 12 then (partitaref15_Encode.l0 k x0 x4 (wrap64 (x5 + 1))) else (if x302001 = 13 then (partitaref15_Encode.l0 k x0 x4 (wrap64 (x5 + 1))) else ((some (([(x302004) % 256] : List Int) : List Int)).bind fun y318 => (if x4.size + (strOfNums y318).size ≤ 9223372036854775807 then (partitaref15_Encode.l0 k x0 (x4 ++ (strOfNums y318)) (wrap64 (x5 + 1))) else (none)))))
end
def partitaref15_Encode.f (k : Nat) (l0 : List (S31)) : Option (ByteArray × Int) := partitaref15_Encode.l0 k l0 (⟨#[]⟩ : ByteArray) 0
theorem partitaref15_Encode.mono_l : ∀ k, (∀ y0 y1 y2, LeO (partitaref15_Encode.l0 k y0 y1 y2) (partitaref15_Encode.l0 (k + 1) y0 y1 y2)) ∧ (∀ y0 y1 y2 y3 y4 y5 y6 y7 y8 y9 y10, LeO (partitaref15_Encode.j1 k y0 y1 y2 y3 y4 y5 y6 y7 y8 y9 y10) (partitaref15_Encode.j1 (k + 1) y0 y1 y2 y3 y4 y5 y6 y7 y8 y9 y10)) ∧ (∀ y0 y1 y2 y3 y4 y5 y6 y7 y8 y9, LeO (partitaref15_Encode.j2 k y0 y1 y2 y3 y4 y5 y6 y7 y8 y9) (partitaref15_Encode.j2 (k + 1) y0 y1 y2 y3 y4 y5 y6 y7 y8 y9)) ∧ (∀ y0 y1 y2 y3 y4 y5 y6 y7 y8 y9, LeO (partitaref15_Encode.j3 k y0 y1 y2 y3 y4 y5 y6 y7 y8 y9) (partitaref15_Encode.j3 (k + 1) y0 y1 y2 y3 y4 y5 y6 y7 y8 y9))
  | 0 => ⟨fun _ _ _ r h => by simp [partitaref15_Encode.l0] at h, fun _ _ _ _ _ _ _ _ _ _ _ r h => by simp [partitaref15_Encode.j1] at h, fun _ _ _ _ _ _ _ _ _ _ r h => by simp [partitaref15_Encode.j2] at h, fun _ _ _ _ _ _ _ _ _ _ r h => by simp [partitaref15_Encode.j3] at h⟩
  | k + 1 => by
    obtain ⟨ih0, ih1, ih2, ih3⟩ := partitaref15_Encode.mono_l k
    refine ⟨?_, ?_, ?_, ?_⟩
    · intro y0 y1 y2
      unfold partitaref15_Encode.l0
      repeat' first
      | (with_reducible exact ih0 _ _ _)
      | (with_reducible exact ih1 _ _ _ _ _ _ _ _ _ _ _)
      | (with_reducible exact ih2 _ _ _ _ _ _ _ _ _ _)
      | (with_reducible exact ih3 _ _ _ _ _ _ _ _ _ _)
      | (with_reducible exact partitaref15_Right.mono _ _ _ _ _ _ _)
      | (with_reducible exact partitaref15_Vlq.mono _ _)
      | (with_reducible exact LeO.refl _)
      | (with_reducible exact LeO.none _)
      | (with_reducible refine LeO.ite ?_ ?_)
      | (with_reducible refine LeO.bind ?_ (fun _ => ?_))
      | exact ih0 _ _ _
      | exact ih1 _ _ _ _ _ _ _ _ _ _ _
      | exact ih2 _ _ _ _ _ _ _ _ _ _
      | exact ih3 _ _ _ _ _ _ _ _ _ _
      | exact partitaref15_Right.mono _ _ _ _ _ _ _
      | exact partitaref15_Vlq.mono _ _
      | exact LeO.none _
      | refine LeO.ite ?_ ?_
      | refine LeO.bind ?_ (fun _ => ?_)
    · intro y0 y1 y2 y3 y4 y5 y6 y7 y8 y9 y10
      unfold partitaref15_Encode.j1
      repeat' first
      | (with_reducible exact ih0 _ _ _)
      | (with_reducible exact ih1 _ _ _ _ _ _ _ _ _ _ _)
      | (with_reducible exact ih2 _ _ _ _ _ _ _ _ _ _)
      | (with_reducible exact ih3 _ _ _ _ _ _ _ _ _ _)
      | (with_reducible exact partitaref15_Right.mono _ _ _ _ _ _ _)
      | (with_reducible exact partitaref15_Vlq.mono _ _)
      | (with_reducible exact LeO.refl _)
      | (with_reducible exact LeO.none _)
      | (with_reducible refine LeO.ite ?_ ?_)
      | (with_reducible refine LeO.bind ?_ (fun _ => ?_))
      | exact ih0 _ _ _
      | exact ih1 _ _ _ _ _ _ _ _ _ _ _
      | exact ih2 _ _ _ _ _ _ _ _ _ _
      | exact ih3 _ _ _ _ _ _ _ _ _ _
      | exact partitaref15_Right.mono _ _ _ _ _ _ _
      | exact partitaref15_Vlq.mono _ _
      | exact LeO.none _
      | refine LeO.ite ?_ ?_
      | refine LeO.bind ?_ (fun _ => ?_)
    · intro y0 y1 y2 y3 y4 y5 y6 y7 y8 y9
      unfold partitaref15_Encode.j2
      repeat' first
      | (with_reducible exact ih0 _ _ _)
      | (with_reducible exact ih1 _ _ _ _ _ _ _ _ _ _ _)
      | (with_reducible exact ih2 _ _ _ _ _ _ _ _ _ _)
      | (with_reducible exact ih3 _ _ _ _ _ _ _ _ _ _)
      | (with_reducible exact partitaref15_Right.mono _ _ _ _ _ _ _)
      | (with_reducible exact partitaref15_Vlq.mono _ _)
      | (with_reducible exact LeO.refl _)
      | (with_reducible exact LeO.none _)
      | (with_reducible refine LeO.ite ?_ ?_)
      | (with_reducible refine LeO.bind ?_ (fun _ => ?_))
      | exact ih0 _ _ _
      | exact ih1 _ _ _ _ _ _ _ _ _ _ _
      | exact ih2 _ _ _ _ _ _ _ _ _ _
      | exact ih3 _ _ _ _ _ _ _ _ _ _
      | exact partitaref15_Right.mono _ _ _ _ _ _ _
      | exact partitaref15_Vlq.mono _ _
      | exact LeO.none _
      | refine LeO.ite ?_ ?_
      | refine LeO.bind ?_ (fun _ => ?_)
    · intro y0 y1 y2 y3 y4 y5 y6 y7 y8 y9
      unfold partitaref15_Encode.j3
      repeat' first
      | (with_reducible exact ih0 _ _ _)
      | (with_reducible exact ih1 _ _ _ _ _ _ _ _ _ _ _)
      | (with_reducible exact ih2 _ _ _ _ _ _ _ _ _ _)
      | (with_reducible exact ih3 _ _ _ _ _ _ _ _ _ _)
      | (with_reducible exact partitaref15_Right.mono _ _ _ _ _ _ _)
      | (with_reducible exact partitaref15_Vlq.mono _ _)
      | (with_reducible exact LeO.refl _)
      | (with_reducible exact LeO.none _)
      | (with_reducible refine LeO.ite ?_ ?_)
      | (with_reducible refine LeO.bind ?_ (fun _ => ?_))
      | exact ih0 _ _ _
      | exact ih1 _ _ _ _ _ _ _ _ _ _ _
      | exact ih2 _ _ _ _ _ _ _ _ _ _
      | exact ih3 _ _ _ _ _ _ _ _ _ _
      | exact partitaref15_Right.mono _ _ _ _ _ _ _
      | exact partitaref15_Vlq.mono _ _
      | exact LeO.none _
      | refine LeO.ite ?_ ?_
      | refine LeO.bind ?_ (fun _ => ?_)
theorem partitaref15_Encode.mono : ∀ a0 k, LeO (partitaref15_Encode.f k a0) (partitaref15_Encode.f (k + 1) a0) := by
  intro a0 k
  obtain ⟨ih0, ih1, ih2, ih3⟩ := partitaref15_Encode.mono_l k
  unfold partitaref15_Encode.f
  repeat' first
      | (with_reducible exact ih0 _ _ _)
      | (with_reducible exact ih1 _ _ _ _ _ _ _ _ _ _ _)
      | (with_reducible exact ih2 _ _ _ _ _ _ _ _ _ _)
      | (with_reducible exact ih3 _ _ _ _ _ _ _ _ _ _)
      | (with_reducible exact partitaref15_Right.mono _ _ _ _ _ _ _)
      | (with_reducible exact partitaref15_Vlq.mono _ _)
      | (with_reducible exact LeO.refl _)
      | (with_reducible exact LeO.none _)
      | (with_reducible refine LeO.ite ?_ ?_)
      | (with_reducible refine LeO.bind ?_ (fun _ => ?_))
      | exact ih0 _ _ _
      | exact ih1 _ _ _ _ _ _ _ _ _ _ _
      | exact ih2 _ _ _ _ _ _ _ _ _ _
      | exact ih3 _ _ _ _ _ _ _ _ _ _
      | exact partitaref15_Right.mono _ _ _ _ _ _ _
      | exact partitaref15_Vlq.mono _ _
      | exact LeO.none _
      | refine LeO.ite ?_ ?_
      | refine LeO.bind ?_ (fun _ => ?_)
def partitaref15_Encode.T11 : Bool × List (List Nat × List Nat) := (true, [([], []), ([0], [0]), ([1], [1]), ([2], [2]), ([3], [3]), ([4, 3], [3, 4]), ([3, 5], [3, 5]), ([6, 3], [6]), ([7], [7]), ([7], [7]), ([9, 7], [7, 9]), ([8, 10, 7], [7, 8, 10]), ([11, 7], [7, 11]), ([12, 7], [7, 12]), ([13, 7], [7, 13]), ([7, 14], [7, 14]), ([15, 7], [15]), ([16], [16]), ([16], [16]), ([18, 16], [16, 18]), ([17, 19, 16], [16, 17, 19]), ([20, 16], [16, 20]), ([21, 16, 16], [16, 21]), ([16], [16]), ([23, 22, 16], [16, 23]), ([22, 24, 16], [16, 22, 24]), ([16, 25], [16, 25])])
def partitaref15_Encode.B11 : List Nat := [0, 1, 3, 7, 15, 31, 63, 127, 255, 255, 767, 2047, 4095, 8191, 16383, 32767, 65535, 131071, 131071, 393215, 1048575, 2097151, 4194303, 131071, 16777215, 33554431, 67108863]
theorem partitaref15_Encode.tab11 : rtab .any (opsOf Try.f23 11) = partitaref15_Encode.T11 := by kernel_rfl
theorem partitaref15_Encode.bits11 : waitsOk partitaref15_Encode.T11.2 partitaref15_Encode.B11 = true := by kernel_rfl
set_option maxHeartbeats 8000000 in
set_option maxRecDepth 100000 in
theorem partitaref15_Encode.calls (k : Nat) (A0 : Option Addr) (c0 : Nat) (l0 : List (S31)) (r1 : ByteArray) (r2 : Int) (w : World) (hr0 : Kd.C k31 w A0 l0.length l0) (hc0 : l0.length ≤ c0) (h : partitaref15_Encode.f k l0 = some (r1, r2)) :
    Calls Try.prog 23 #[.slice A0 l0.length c0] w fun e w' => e = .returned (.tuple #[.string r1, .int .i64 r2]) ∧ Below w.heap.size w w' := by
  have hu31 := Try.underlying31
  have HR0 := Aside0.mk hr0
  have HC0 := Aside0.mk hc0
  clear hr0 hc0
  have HB := Aside0.mk (Below.refl w.heap.size w)
  have H : (partitaref15_Encode.l0 k l0 (⟨#[]⟩ : ByteArray) 0) = some (r1, r2) := h
  clear h
  have H' := Aside0.mk H
  clear H
  go_enter Try.func23, Try.ntmps23
  go_wp2
  go_loopg [4, 5] k (fun kq v4 v5 w' => ∃ (x4_1 : ByteArray) (x5_1 : Int), v4 = .string x4_1 ∧ v5 = .int .i64 x5_1 ∧ Aside0 (partitaref15_Encode.l0 kq l0 x4_1 x5_1 = some (r1, r2)) ∧ Aside0 (kq ≤ k) ∧ Aside0 (Below w.heap.size w w'))
  case atStart => exact ⟨((⟨#[]⟩ : ByteArray)), (0), (by first | rfl | (simp; done) | (simp [*]; done)), (by first | rfl | (simp; done) | (simp [*]; done)), H', ⟨Nat.le_refl _⟩, ⟨by repeat (first | (with_reducible first | exact HB.out | apply below_alloc | apply pw_below_drewN | apply below_drew1) | exact HB.out)⟩⟩
  case round =>
    clear H'
    obtain ⟨x4_1, x5_1, rfl, rfl, HA, HK1, HB⟩ := hrel
    cases gk with
    | zero => exact absurd HA.out (by simp [partitaref15_Encode.l0])
    | succ k1 =>
      have H := HA.out
      clear HA
      simp only [partitaref15_Encode.l0] at H
      by_cases c2 : x5_1 < (l0.length : Int)
      · rw [if_pos c2] at H
        have c2b0 : decide (x5_1 < (l0.length : Int)) = true := decide_eq_true c2
        clear c2
        by_cases c3 : 0 ≤ x5_1
        · rw [if_pos c3] at H
          have c3b0 : decide (0 ≤ x5_1) = true := decide_eq_true c3
          clear c3
          replace H := Option.bind_eq_some_iff.mp H
          obtain ⟨t302, A40, H⟩ := H
          replace H : (if t302 = true then ((partitaref15_Vlq.f k1 ((rd_T31 l0 x5_1).f0)).bind fun bt303 => ((partitaref15_Vlq.f k1 (((rd_T31 l0 x5_1).f5).size : Int)).bind fun bt305 => (if x4_1.size + bt303.1.size ≤ 9223372036854775807 then (if ((rd_T31 l0 x5_1).f1) ≥ 15 then (partitaref15_Encode.j1 k1 l0 (x4_1 ++ bt303.1) x5_1 bt305.1 true ((rd_T31 l0 x5_1).f0) ((rd_T31 l0 x5_1).f1) ((rd_T31 l0 x5_1).f2) ((rd_T31 l0 x5_1).f3) ((rd_T31 l0 x5_1).f4) ((rd_T31 l0 x5_1).f5)) else (if x5_1 = 0 then (partitaref15_Encode.j1 k1 l0 (x4_1 ++ bt303.1) x5_1 bt305.1 true ((rd_T31 l0 x5_1).f0) ((rd_T31 l0 x5_1).f1) ((rd_T31 l0 x5_1).f2) ((rd_T31 l0 x5_1).f3) ((rd_T31 l0 x5_1).f4) ((rd_T31 l0 x5_1).f5)) else (if 0 ≤ (wrap64 (x5_1 - 1)) then (if (wrap64 (x5_1 - 1)) < (l0.length : Int) then (if ((rd_T31 l0 (wrap64 (x5_1 - 1))).f1) ≥ 15 then (partitaref15_Encode.j1 k1 l0 (x4_1 ++ bt303.1) x5_1 bt305.1 true ((rd_T31 l0 x5_1).f0) ((rd_T31 l0 x5_1).f1) ((rd_T31 l0 x5_1).f2) ((rd_T31 l0 x5_1).f3) ((rd_T31 l0 x5_1).f4) ((rd_T31 l0 x5_1).f5)) else ((partitaref15_status.f ((rd_T31 l0 (wrap64 (x5_1 - 1))).f0) ((rd_T31 l0 (wrap64 (x5_1 - 1))).f1) ((rd_T31 l0 (wrap64 (x5_1 - 1))).f2) ((rd_T31 l0 (wrap64 (x5_1 - 1))).f3) ((rd_T31 l0 (wrap64 (x5_1 - 1))).f4) ((rd_T31 l0 (wrap64 (x5_1 - 1))).f5)).bind fun t309 => ((partitaref15_status.f ((rd_T31 l0 x5_1).f0) ((rd_T31 l0 x5_1).f1) ((rd_T31 l0 x5_1).f2) ((rd_T31 l0 x5_1).f3) ((rd_T31 l0 x5_1).f4) ((rd_T31 l0 x5_1).f5)).bind fun t310 => (partitaref15_Encode.j1 k1 l0 (x4_1 ++ bt303.1) x5_1 bt305.1 (t309 != t310) ((rd_T31 l0 x5_1).f0) ((rd_T31 l0 x5_1).f1) ((rd_T31 l0 x5_1).f2) ((rd_T31 l0 x5_1).f3) ((rd_T31 l0 x5_1).f4) ((rd_T31 l0 x5_1).f5))))) else (none)) else (none)))) else (none)))) else (some ((⟨#[]⟩ : ByteArray), 151))) = some (r1, r2) := H
          have A4 := Aside0.mk A40
          clear A40
          by_cases c5 : t302 = true
          · subst c5
            have H1 : ((partitaref15_Vlq.f k1 ((rd_T31 l0 x5_1).f0)).bind fun bt303 => ((partitaref15_Vlq.f k1 (((rd_T31 l0 x5_1).f5).size : Int)).bind fun bt305 => (if x4_1.size + bt303.1.size ≤ 9223372036854775807 then (if ((rd_T31 l0 x5_1).f1) ≥ 15 then (partitaref15_Encode.j1 k1 l0 (x4_1 ++ bt303.1) x5_1 bt305.1 true ((rd_T31 l0 x5_1).f0) ((rd_T31 l0 x5_1).f1) ((rd_T31 l0 x5_1).f2) ((rd_T31 l0 x5_1).f3) ((rd_T31 l0 x5_1).f4) ((rd_T31 l0 x5_1).f5)) else (if x5_1 = 0 then (partitaref15_Encode.j1 k1 l0 (x4_1 ++ bt303.1) x5_1 bt305.1 true ((rd_T31 l0 x5_1).f0) ((rd_T31 l0 x5_1).f1) ((rd_T31 l0 x5_1).f2) ((rd_T31 l0 x5_1).f3) ((rd_T31 l0 x5_1).f4) ((rd_T31 l0 x5_1).f5)) else (if 0 ≤ (wrap64 (x5_1 - 1)) then (if (wrap64 (x5_1 - 1)) < (l0.length : Int) then (if ((rd_T31 l0 (wrap64 (x5_1 - 1))).f1) ≥ 15 then (partitaref15_Encode.j1 k1 l0 (x4_1 ++ bt303.1) x5_1 bt305.1 true ((rd_T31 l0 x5_1).f0) ((rd_T31 l0 x5_1).f1) ((rd_T31 l0 x5_1).f2) ((rd_T31 l0 x5_1).f3) ((rd_T31 l0 x5_1).f4) ((rd_T31 l0 x5_1).f5)) else ((partitaref15_status.f ((rd_T31 l0 (wrap64 (x5_1 - 1))).f0) ((rd_T31 l0 (wrap64 (x5_1 - 1))).f1) ((rd_T31 l0 (wrap64 (x5_1 - 1))).f2) ((rd_T31 l0 (wrap64 (x5_1 - 1))).f3) ((rd_T31 l0 (wrap64 (x5_1 - 1))).f4) ((rd_T31 l0 (wrap64 (x5_1 - 1))).f5)).bind fun t309 => ((partitaref15_status.f ((rd_T31 l0 x5_1).f0) ((rd_T31 l0 x5_1).f1) ((rd_T31 l0 x5_1).f2) ((rd_T31 l0 x5_1).f3) ((rd_T31 l0 x5_1).f4) ((rd_T31 l0 x5_1).f5)).bind fun t310 => (partitaref15_Encode.j1 k1 l0 (x4_1 ++ bt303.1) x5_1 bt305.1 (t309 != t310) ((rd_T31 l0 x5_1).f0) ((rd_T31 l0 x5_1).f1) ((rd_T31 l0 x5_1).f2) ((rd_T31 l0 x5_1).f3) ((rd_T31 l0 x5_1).f4) ((rd_T31 l0 x5_1).f5))))) else (none)) else (none)))) else (none)))) = some (r1, r2) := by rw [if_pos rfl] at H; exact H
            clear H
            have H := H1
            clear H1
            replace H := Option.bind_eq_some_iff.mp H
            obtain ⟨⟨t303, t304⟩, A60, H⟩ := H
            replace H : ((partitaref15_Vlq.f k1 (((rd_T31 l0 x5_1).f5).size : Int)).bind fun bt305 => (if x4_1.size + t303.size ≤ 9223372036854775807 then (if ((rd_T31 l0 x5_1).f1) ≥ 15 then (partitaref15_Encode.j1 k1 l0 (x4_1 ++ t303) x5_1 bt305.1 true ((rd_T31 l0 x5_1).f0) ((rd_T31 l0 x5_1).f1) ((rd_T31 l0 x5_1).f2) ((rd_T31 l0 x5_1).f3) ((rd_T31 l0 x5_1).f4) ((rd_T31 l0 x5_1).f5)) else (if x5_1 = 0 then (partitaref15_Encode.j1 k1 l0 (x4_1 ++ t303) x5_1 bt305.1 true ((rd_T31 l0 x5_1).f0) ((rd_T31 l0 x5_1).f1) ((rd_T31 l0 x5_1).f2) ((rd_T31 l0 x5_1).f3) ((rd_T31 l0 x5_1).f4) ((rd_T31 l0 x5_1).f5)) else (if 0 ≤ (wrap64 (x5_1 - 1)) then (if (wrap64 (x5_1 - 1)) < (l0.length : Int) then (if ((rd_T31 l0 (wrap64 (x5_1 - 1))).f1) ≥ 15 then (partitaref15_Encode.j1 k1 l0 (x4_1 ++ t303) x5_1 bt305.1 true ((rd_T31 l0 x5_1).f0) ((rd_T31 l0 x5_1).f1) ((rd_T31 l0 x5_1).f2) ((rd_T31 l0 x5_1).f3) ((rd_T31 l0 x5_1).f4) ((rd_T31 l0 x5_1).f5)) else ((partitaref15_status.f ((rd_T31 l0 (wrap64 (x5_1 - 1))).f0) ((rd_T31 l0 (wrap64 (x5_1 - 1))).f1) ((rd_T31 l0 (wrap64 (x5_1 - 1))).f2) ((rd_T31 l0 (wrap64 (x5_1 - 1))).f3) ((rd_T31 l0 (wrap64 (x5_1 - 1))).f4) ((rd_T31 l0 (wrap64 (x5_1 - 1))).f5)).bind fun t309 => ((partitaref15_status.f ((rd_T31 l0 x5_1).f0) ((rd_T31 l0 x5_1).f1) ((rd_T31 l0 x5_1).f2) ((rd_T31 l0 x5_1).f3) ((rd_T31 l0 x5_1).f4) ((rd_T31 l0 x5_1).f5)).bind fun t310 => (partitaref15_Encode.j1 k1 l0 (x4_1 ++ t303) x5_1 bt305.1 (t309 != t310) ((rd_T31 l0 x5_1).f0) ((rd_T31 l0 x5_1).f1) ((rd_T31 l0 x5_1).f2) ((rd_T31 l0 x5_1).f3) ((rd_T31 l0 x5_1).f4) ((rd_T31 l0 x5_1).f5))))) else (none)) else (none)))) else (none))) = some (r1, r2) := H
            have A6 := Aside0.mk A60
            clear A60
            replace H := Option.bind_eq_some_iff.mp H
            obtain ⟨⟨t305, t306⟩, A70, H⟩ := H
            replace H : (if x4_1.size + t303.size ≤ 9223372036854775807 then (if ((rd_T31 l0 x5_1).f1) ≥ 15 then (partitaref15_Encode.j1 k1 l0 (x4_1 ++ t303) x5_1 t305 true ((rd_T31 l0 x5_1).f0) ((rd_T31 l0 x5_1).f1) ((rd_T31 l0 x5_1).f2) ((rd_T31 l0 x5_1).f3) ((rd_T31 l0 x5_1).f4) ((rd_T31 l0 x5_1).f5)) else (if x5_1 = 0 then (partitaref15_Encode.j1 k1 l0 (x4_1 ++ t303) x5_1 t305 true ((rd_T31 l0 x5_1).f0) ((rd_T31 l0 x5_1).f1) ((rd_T31 l0 x5_1).f2) ((rd_T31 l0 x5_1).f3) ((rd_T31 l0 x5_1).f4) ((rd_T31 l0 x5_1).f5)) else (if 0 ≤ (wrap64 (x5_1 - 1)) then (if (wrap64 (x5_1 - 1)) < (l0.length : Int) then (if ((rd_T31 l0 (wrap64 (x5_1 - 1))).f1) ≥ 15 then (partitaref15_Encode.j1 k1 l0 (x4_1 ++ t303) x5_1 t305 true ((rd_T31 l0 x5_1).f0) ((rd_T31 l0 x5_1).f1) ((rd_T31 l0 x5_1).f2) ((rd_T31 l0 x5_1).f3) ((rd_T31 l0 x5_1).f4) ((rd_T31 l0 x5_1).f5)) else ((partitaref15_status.f ((rd_T31 l0 (wrap64 (x5_1 - 1))).f0) ((rd_T31 l0 (wrap64 (x5_1 - 1))).f1) ((rd_T31 l0 (wrap64 (x5_1 - 1))).f2) ((rd_T31 l0 (wrap64 (x5_1 - 1))).f3) ((rd_T31 l0 (wrap64 (x5_1 - 1))).f4) ((rd_T31 l0 (wrap64 (x5_1 - 1))).f5)).bind fun t309 => ((partitaref15_status.f ((rd_T31 l0 x5_1).f0) ((rd_T31 l0 x5_1).f1) ((rd_T31 l0 x5_1).f2) ((rd_T31 l0 x5_1).f3) ((rd_T31 l0 x5_1).f4) ((rd_T31 l0 x5_1).f5)).bind fun t310 => (partitaref15_Encode.j1 k1 l0 (x4_1 ++ t303) x5_1 t305 (t309 != t310) ((rd_T31 l0 x5_1).f0) ((rd_T31 l0 x5_1).f1) ((rd_T31 l0 x5_1).f2) ((rd_T31 l0 x5_1).f3) ((rd_T31 l0 x5_1).f4) ((rd_T31 l0 x5_1).f5))))) else (none)) else (none)))) else (none)) = some (r1, r2) := H
            have A7 := Aside0.mk A70
            clear A70
            by_cases c8 : x4_1.size + t303.size ≤ 9223372036854775807
            · rw [if_pos c8] at H
              have c8b0 := eq_true c8
              have c8b1 : decide (x4_1.size + t303.size ≤ 9223372036854775807) = true := decide_eq_true c8
              try have c8b2 : (9223372036854775807 < x4_1.size + t303.size) = False := eq_false (Nat.not_lt.2 c8)
              have HC9 := Aside0.mk H
              clear H
              have p300 : 0 ≤ (x5_1 : Int) := of_decide_eq_true (by first | (with_reducible assumption) | assumption)
              have q300 : x5_1 < (l0.length : Int) := of_decide_eq_true (by first | (with_reducible assumption) | assumption)
              obtain ⟨ad300, e300, hx300_0, hx300_1, hx300_2, hx300_3, hx300_4, hx300_5⟩ := at_T31 HR0.out x5_1 p300 q300
              cases e300
              replace hx300_0 := (HB.out.cell (World.block_lt_of_cell? w _ hx300_0)).trans hx300_0
              replace hx300_1 := (HB.out.cell (World.block_lt_of_cell? w _ hx300_1)).trans hx300_1
              replace hx300_2 := (HB.out.cell (World.block_lt_of_cell? w _ hx300_2)).trans hx300_2
              replace hx300_3 := (HB.out.cell (World.block_lt_of_cell? w _ hx300_3)).trans hx300_3
              replace hx300_4 := (HB.out.cell (World.block_lt_of_cell? w _ hx300_4)).trans hx300_4
              replace hx300_5 := (HB.out.cell (World.block_lt_of_cell? w _ hx300_5)).trans hx300_5
              replace p300 := eq_true p300
              replace q300 := eq_true q300
              go_upto_region 11 with (first | ((with_reducible refine gate_dst (N := 6) rfl ?_); refine box_event ?hg (N := 6) ?hd (cs := #[.int .i64 0, .int .i64 0, .int .i64 0, .int .i64 0, .int .i64 0, .string (⟨#[]⟩ : ByteArray)]) (t := 31) ?hr ?_; (case hd => rfl); (case hg => rfl); (case hr => first | (go_simp; done) | (go_simp; rfl)); intro gb301 hg w10 hbox hb; have n0_ := Aside0.mk (below_step (by repeat (first | (with_reducible first | exact HB.out | apply below_alloc | apply pw_below_drewN | apply below_drew1) | exact HB.out)) hb); have n1_ := Aside0.mk (hbox); have n2_ := Aside0.mk ((by rw [hg]; exact (below_size (by repeat (first | (with_reducible first | exact HB.out | apply below_alloc | apply pw_below_drewN | apply below_drew1) | exact HB.out))) : w.heap.size ≤ gb301)); have n3_ := Aside0.mk ((by rw [hg]; exact (below_size (by repeat (first | (with_reducible first | exact HB.out | apply below_alloc | apply pw_below_drewN | apply below_drew1) | exact HB.out))) : w.heap.size ≤ gb301)); clear HB; have HB := n0_; have BK301 := n1_; have GW301 := n2_; have GE301 := n3_; clear n0_ n1_ n2_ n3_; clear hb hbox hg; have hcz11_0 : w10.cell? ⟨gb301, 0, none⟩ = some (.int .i64 0) := (blk_cell BK301.out 0).trans rfl; have hcz11_1 : w10.cell? ⟨gb301, 1, none⟩ = some (.int .i64 0) := (blk_cell BK301.out 1).trans rfl; have hcz11_2 : w10.cell? ⟨gb301, 2, none⟩ = some (.int .i64 0) := (blk_cell BK301.out 2).trans rfl; have hcz11_3 : w10.cell? ⟨gb301, 3, none⟩ = some (.int .i64 0) := (blk_cell BK301.out 3).trans rfl; have hcz11_4 : w10.cell? ⟨gb301, 4, none⟩ = some (.int .i64 0) := (blk_cell BK301.out 4).trans rfl; have hcz11_5 : w10.cell? ⟨gb301, 5, none⟩ = some (.string (⟨#[]⟩ : ByteArray)) := (blk_cell BK301.out 5).trans rfl; have hfz11_0 := blk_frozen BK301.out 0; have hfz11_1 := blk_frozen BK301.out 1; have hfz11_2 := blk_frozen BK301.out 2; have hfz11_3 := blk_frozen BK301.out 3; have hfz11_4 := blk_frozen BK301.out 4; have hfz11_5 := blk_frozen BK301.out 5) | ((with_reducible refine gate_callee (f := 20) rfl ?_); refine goesL_ (some 22) rfl rfl Try.func20 (by kernel_rfl) rfl #[.agg #[.int .i64 ((rd_T31 l0 x5_1).f0), .int .i64 ((rd_T31 l0 x5_1).f1), .int .i64 ((rd_T31 l0 x5_1).f2), .int .i64 ((rd_T31 l0 x5_1).f3), .int .i64 ((rd_T31 l0 x5_1).f4), .string ((rd_T31 l0 x5_1).f5)]] rfl (by (try simp only [List.map_toArray, List.map_cons, List.map_nil]); first | done | rfl | (simp only [List.length_drop, List.length_take]; rfl)) ?_; (with_reducible refine (partitaref15_Right.calls k1 ((rd_T31 l0 x5_1).f0) ((rd_T31 l0 x5_1).f1) ((rd_T31 l0 x5_1).f2) ((rd_T31 l0 x5_1).f3) ((rd_T31 l0 x5_1).f4) ((rd_T31 l0 x5_1).f5) true _ A4.out).mono ?_); rintro e w12 ⟨rfl, hb⟩; refine ⟨_, rfl, ?_⟩; have n0_ := Aside0.mk (blk_below (g := gb301) (o := .cells #[.int .i64 ((rd_T31 l0 x5_1).f0), .int .i64 ((rd_T31 l0 x5_1).f1), .int .i64 ((rd_T31 l0 x5_1).f2), .int .i64 ((rd_T31 l0 x5_1).f3), .int .i64 ((rd_T31 l0 x5_1).f4), .string ((rd_T31 l0 x5_1).f5)] 31 (0, 0)) (by (with_reducible repeat (first | refine blk_drewN ?_ _ | refine blk_drew ?_ | refine blk_alloc ?_ _)); refine blk_put (cs := #[.int .i64 ((rd_T31 l0 x5_1).f0), .int .i64 ((rd_T31 l0 x5_1).f1), .int .i64 ((rd_T31 l0 x5_1).f2), .int .i64 ((rd_T31 l0 x5_1).f3), .int .i64 ((rd_T31 l0 x5_1).f4), .string (⟨#[]⟩ : ByteArray)]) ?_ 5 _ rfl; (with_reducible repeat (first | refine blk_drewN ?_ _ | refine blk_drew ?_ | refine blk_alloc ?_ _)); refine blk_put (cs := #[.int .i64 ((rd_T31 l0 x5_1).f0), .int .i64 ((rd_T31 l0 x5_1).f1), .int .i64 ((rd_T31 l0 x5_1).f2), .int .i64 ((rd_T31 l0 x5_1).f3), .int .i64 0, .string (⟨#[]⟩ : ByteArray)]) ?_ 4 _ rfl; (with_reducible repeat (first | refine blk_drewN ?_ _ | refine blk_drew ?_ | refine blk_alloc ?_ _)); refine blk_put (cs := #[.int .i64 ((rd_T31 l0 x5_1).f0), .int .i64 ((rd_T31 l0 x5_1).f1), .int .i64 ((rd_T31 l0 x5_1).f2), .int .i64 0, .int .i64 0, .string (⟨#[]⟩ : ByteArray)]) ?_ 3 _ rfl; (with_reducible repeat (first | refine blk_drewN ?_ _ | refine blk_drew ?_ | refine blk_alloc ?_ _)); refine blk_put (cs := #[.int .i64 ((rd_T31 l0 x5_1).f0), .int .i64 ((rd_T31 l0 x5_1).f1), .int .i64 0, .int .i64 0, .int .i64 0, .string (⟨#[]⟩ : ByteArray)]) ?_ 2 _ rfl; (with_reducible repeat (first | refine blk_drewN ?_ _ | refine blk_drew ?_ | refine blk_alloc ?_ _)); refine blk_put (cs := #[.int .i64 ((rd_T31 l0 x5_1).f0), .int .i64 0, .int .i64 0, .int .i64 0, .int .i64 0, .string (⟨#[]⟩ : ByteArray)]) ?_ 1 _ rfl; (with_reducible repeat (first | refine blk_drewN ?_ _ | refine blk_drew ?_ | refine blk_alloc ?_ _)); refine blk_put (cs := #[.int .i64 0, .int .i64 0, .int .i64 0, .int .i64 0, .int .i64 0, .string (⟨#[]⟩ : ByteArray)]) ?_ 0 _ rfl; (with_reducible repeat (first | refine blk_drewN ?_ _ | refine blk_drew ?_ | refine blk_alloc ?_ _)); exact BK301.out) hb); have n1_ := Aside0.mk (below_step (by repeat (first | (with_reducible first | exact HB.out | apply below_alloc | apply pw_below_drewN | apply below_drew1 | refine below_set ?_ GE301.out) | exact HB.out)) hb); clear BK301; clear HB; have BK301 := n0_; have HB := n1_; clear n0_ n1_; (try clear hb); (try clear hb2); (try clear hk); (try clear hi); have hcz13_0 : w12.cell? ⟨gb301, 0, none⟩ = some (.int .i64 ((rd_T31 l0 x5_1).f0)) := (blk_cell BK301.out 0).trans rfl; have hcz13_1 : w12.cell? ⟨gb301, 1, none⟩ = some (.int .i64 ((rd_T31 l0 x5_1).f1)) := (blk_cell BK301.out 1).trans rfl; have hcz13_2 : w12.cell? ⟨gb301, 2, none⟩ = some (.int .i64 ((rd_T31 l0 x5_1).f2)) := (blk_cell BK301.out 2).trans rfl; have hcz13_3 : w12.cell? ⟨gb301, 3, none⟩ = some (.int .i64 ((rd_T31 l0 x5_1).f3)) := (blk_cell BK301.out 3).trans rfl; have hcz13_4 : w12.cell? ⟨gb301, 4, none⟩ = some (.int .i64 ((rd_T31 l0 x5_1).f4)) := (blk_cell BK301.out 4).trans rfl; have hcz13_5 : w12.cell? ⟨gb301, 5, none⟩ = some (.string ((rd_T31 l0 x5_1).f5)) := (blk_cell BK301.out 5).trans rfl; have hfz13_0 := blk_frozen BK301.out 0; have hfz13_1 := blk_frozen BK301.out 1; have hfz13_2 := blk_frozen BK301.out 2; have hfz13_3 := blk_frozen BK301.out 3; have hfz13_4 := blk_frozen BK301.out 4; have hfz13_5 := blk_frozen BK301.out 5) | ((with_reducible refine gate_callee (f := 16) rfl ?_); refine goesL_ (some 27) rfl rfl Try.func16 (by kernel_rfl) rfl #[.int .i64 ((rd_T31 l0 x5_1).f0)] rfl (by (try simp only [List.map_toArray, List.map_cons, List.map_nil]); first | done | rfl | (simp only [List.length_drop, List.length_take]; rfl)) ?_; (with_reducible refine (partitaref15_Vlq.calls k1 ((rd_T31 l0 x5_1).f0) t303 t304 _ A6.out).mono ?_); rintro e w14 ⟨rfl, hb⟩; refine ⟨_, rfl, ?_⟩; have n0_ := Aside0.mk (blk_below (g := gb301) (o := .cells #[.int .i64 ((rd_T31 l0 x5_1).f0), .int .i64 ((rd_T31 l0 x5_1).f1), .int .i64 ((rd_T31 l0 x5_1).f2), .int .i64 ((rd_T31 l0 x5_1).f3), .int .i64 ((rd_T31 l0 x5_1).f4), .string ((rd_T31 l0 x5_1).f5)] 31 (0, 0)) (by (with_reducible repeat (first | refine blk_drewN ?_ _ | refine blk_drew ?_ | refine blk_alloc ?_ _)); exact BK301.out) hb); have n1_ := Aside0.mk (below_step (by repeat (first | (with_reducible first | exact HB.out | apply below_alloc | apply pw_below_drewN | apply below_drew1 | refine below_set ?_ GE301.out) | exact HB.out)) hb); clear BK301; clear HB; have BK301 := n0_; have HB := n1_; clear n0_ n1_; (try clear hb); (try clear hb2); (try clear hk); (try clear hi); have hcz15_0 : w14.cell? ⟨gb301, 0, none⟩ = some (.int .i64 ((rd_T31 l0 x5_1).f0)) := (blk_cell BK301.out 0).trans rfl; have hcz15_1 : w14.cell? ⟨gb301, 1, none⟩ = some (.int .i64 ((rd_T31 l0 x5_1).f1)) := (blk_cell BK301.out 1).trans rfl; have hcz15_2 : w14.cell? ⟨gb301, 2, none⟩ = some (.int .i64 ((rd_T31 l0 x5_1).f2)) := (blk_cell BK301.out 2).trans rfl; have hcz15_3 : w14.cell? ⟨gb301, 3, none⟩ = some (.int .i64 ((rd_T31 l0 x5_1).f3)) := (blk_cell BK301.out 3).trans rfl; have hcz15_4 : w14.cell? ⟨gb301, 4, none⟩ = some (.int .i64 ((rd_T31 l0 x5_1).f4)) := (blk_cell BK301.out 4).trans rfl; have hcz15_5 : w14.cell? ⟨gb301, 5, none⟩ = some (.string ((rd_T31 l0 x5_1).f5)) := (blk_cell BK301.out 5).trans rfl; have hfz15_0 := blk_frozen BK301.out 0; have hfz15_1 := blk_frozen BK301.out 1; have hfz15_2 := blk_frozen BK301.out 2; have hfz15_3 := blk_frozen BK301.out 3; have hfz15_4 := blk_frozen BK301.out 4; have hfz15_5 := blk_frozen BK301.out 5) | ((with_reducible refine gate_callee (f := 16) rfl ?_); refine goesL_ (some 34) rfl rfl Try.func16 (by kernel_rfl) rfl #[.int .i64 (((rd_T31 l0 x5_1).f5).size : Int)] rfl (by (try simp only [List.map_toArray, List.map_cons, List.map_nil]); first | done | rfl | (simp only [List.length_drop, List.length_take]; rfl)) ?_; (with_reducible refine (partitaref15_Vlq.calls k1 (((rd_T31 l0 x5_1).f5).size : Int) t305 t306 _ A7.out).mono ?_); rintro e w16 ⟨rfl, hb⟩; refine ⟨_, rfl, ?_⟩; have n0_ := Aside0.mk (blk_below (g := gb301) (o := .cells #[.int .i64 ((rd_T31 l0 x5_1).f0), .int .i64 ((rd_T31 l0 x5_1).f1), .int .i64 ((rd_T31 l0 x5_1).f2), .int .i64 ((rd_T31 l0 x5_1).f3), .int .i64 ((rd_T31 l0 x5_1).f4), .string ((rd_T31 l0 x5_1).f5)] 31 (0, 0)) (by (with_reducible repeat (first | refine blk_drewN ?_ _ | refine blk_drew ?_ | refine blk_alloc ?_ _)); exact BK301.out) hb); have n1_ := Aside0.mk (below_step (by repeat (first | (with_reducible first | exact HB.out | apply below_alloc | apply pw_below_drewN | apply below_drew1 | refine below_set ?_ GE301.out) | exact HB.out)) hb); clear BK301; clear HB; have BK301 := n0_; have HB := n1_; clear n0_ n1_; (try clear hb); (try clear hb2); (try clear hk); (try clear hi)))
              (try simp only [Act.put, List.setIfInBounds_toArray, List.set_cons_zero, List.set_cons_succ])
              go_cut [66] (fun v66 wc => ∃ (kq : Nat) (x66_8 : Bool), v66 = .bool x66_8 ∧ Aside0 (partitaref15_Encode.j1 kq l0 (x4_1 ++ t303) x5_1 t305 x66_8 ((rd_T31 l0 x5_1).f0) ((rd_T31 l0 x5_1).f1) ((rd_T31 l0 x5_1).f2) ((rd_T31 l0 x5_1).f3) ((rd_T31 l0 x5_1).f4) ((rd_T31 l0 x5_1).f5) = some (r1, r2)) ∧ Aside0 (kq ≤ k1) ∧ Aside0 (wc.heap[gb301]? = some (.cells #[.int .i64 ((rd_T31 l0 x5_1).f0), .int .i64 ((rd_T31 l0 x5_1).f1), .int .i64 ((rd_T31 l0 x5_1).f2), .int .i64 ((rd_T31 l0 x5_1).f3), .int .i64 ((rd_T31 l0 x5_1).f4), .string ((rd_T31 l0 x5_1).f5)] 31 (0, 0))) ∧ Aside0 (Below w.heap.size w wc))
              case first =>
                have H := HC9.out
                clear HC9
                by_cases c17 : ((rd_T31 l0 x5_1).f1) ≥ 15
                · rw [if_pos c17] at H
                  have c17b0 : decide (15 ≤ ((rd_T31 l0 x5_1).f1)) = true := decide_eq_true c17
                  clear c17
                  (first | rw [c17b0] | (simp only [i64_w, i32_w]; rw [c17b0]) | skip)
                  have H' := Aside0.mk H
                  clear H
                  try go_wp2
                  have n0_ := Aside0.mk (blk_drew BK301.out)
                  have n1_ := Aside0.mk (below_drew1 HB.out)
                  clear BK301
                  clear HB
                  have BK301 := n0_
                  have HB := n1_
                  clear n0_ n1_
                  refine start_ (n := 27) (S := fun w' => w'.cell? ⟨gb301, 0, none⟩ = some (.int .i64 ((rd_T31 l0 x5_1).f0)) ∧ w'.cell? ⟨gb301, 1, none⟩ = some (.int .i64 ((rd_T31 l0 x5_1).f1)) ∧ w'.cell? ⟨gb301, 2, none⟩ = some (.int .i64 ((rd_T31 l0 x5_1).f2)) ∧ w'.cell? ⟨gb301, 3, none⟩ = some (.int .i64 ((rd_T31 l0 x5_1).f3)) ∧ w'.cell? ⟨gb301, 4, none⟩ = some (.int .i64 ((rd_T31 l0 x5_1).f4)) ∧ w'.cell? ⟨gb301, 5, none⟩ = some (.string ((rd_T31 l0 x5_1).f5))) (ds := []) #[false, false, false, false, false, false, false, false, false, false, false, false, false, false, false, false, false, false, false, false, false, false, false, false, false, false, false] (by kernel_rfl) rfl rfl ⟨(blk_cell BK301.out 0).trans rfl, (blk_cell BK301.out 1).trans rfl, (blk_cell BK301.out 2).trans rfl, (blk_cell BK301.out 3).trans rfl, (blk_cell BK301.out 4).trans rfl, (blk_cell BK301.out 5).trans rfl⟩ (fun hHeld => ?_); refine with_tabW partitaref15_Encode.tab11 partitaref15_Encode.bits11 (fun HT_ HW_ => ?_)
                  generalize w16.drew = w18 at BK301 HB hHeld ⊢
                  refine pure_ (i := 0) (N := some 40) (v := ?_) (a' := ?_) #[true, false, false, false, false, false, false, false, false, false, false, false, false, false, false, false, false, false, false, false, false, false, false, false, false, false, false] rfl rfl (any_of HT_.out (by kernel_rfl)) (fun _ _ _ h => h) (Or.inl ⟨by rfl, ?_⟩) ?_ ?_
                  rotate_left
                  · intro w'
                    go_simp
                    with_reducible rfl
                  rotate_left
                  · simp only [Act.put, List.setIfInBounds_toArray, List.set_cons_zero, List.set_cons_succ, i64_w, i32_w]
                    rfl
                  refine take_ (i := 1) (N := some 41) (v := ?_) (a' := ?_) #[true, true, false, false, false, false, false, false, false, false, false, false, false, false, false, false, false, false, false, false, false, false, false, false, false, false, false] rfl rfl (take_ofW HT_.out HW_.out (by kernel_rfl)) (fun _ _ _ h => h) (Or.inl ⟨by rfl, ?_⟩) hHeld ?_ ?_
                  rotate_left
                  · rintro w' ⟨s0, s1, s2, s3, s4, s5⟩
                    go_simp
                    with_reducible rfl
                  rotate_left
                  · simp only [Act.put, List.setIfInBounds_toArray, List.set_cons_zero, List.set_cons_succ, i64_w, i32_w]
                    rfl
                  refine pure_ (i := 2) (N := some 42) (v := ?_) (a' := ?_) #[true, true, true, false, false, false, false, false, false, false, false, false, false, false, false, false, false, false, false, false, false, false, false, false, false, false, false] rfl rfl (any_of HT_.out (by kernel_rfl)) (fun _ _ _ h => h) (Or.inl ⟨by rfl, ?_⟩) ?_ ?_
                  rotate_left
                  · intro w'
                    go_simp
                    with_reducible rfl
                  rotate_left
                  · simp only [Act.put, List.setIfInBounds_toArray, List.set_cons_zero, List.set_cons_succ, i64_w, i32_w]
                    rfl
                  refine pure_ (i := 3) (N := some 43) (v := ?_) (a' := ?_) #[true, true, true, true, false, false, false, false, false, false, false, false, false, false, false, false, false, false, false, false, false, false, false, false, false, false, false] rfl rfl (any_of HT_.out (by kernel_rfl)) (fun _ _ _ h => h) (Or.inl ⟨by rfl, ?_⟩) ?_ ?_
                  rotate_left
                  · intro w'
                    go_simp
                    with_reducible rfl
                  rotate_left
                  · simp only [Act.put, List.setIfInBounds_toArray, List.set_cons_zero, List.set_cons_succ, i64_w, i32_w]
                    rfl
                  refine pure_ (i := 4) (N := some 44) (v := undef) (a' := ?_) #[true, true, true, true, true, false, false, false, false, false, false, false, false, false, false, false, false, false, false, false, false, false, false, false, false, false, false] rfl rfl (any_of HT_.out (by kernel_rfl)) (fun _ _ _ h => h) (Or.inr ⟨by rfl, rfl⟩) ?_ ?_
                  rotate_left
                  · simp only [Act.put, List.setIfInBounds_toArray, List.set_cons_zero, List.set_cons_succ, i64_w, i32_w]
                    rfl
                  refine pure_ (i := 5) (N := some 45) (v := undef) (a' := ?_) #[true, true, true, true, true, true, false, false, false, false, false, false, false, false, false, false, false, false, false, false, false, false, false, false, false, false, false] rfl rfl (any_of HT_.out (by kernel_rfl)) (fun _ _ _ h => h) (Or.inr ⟨by rfl, rfl⟩) ?_ ?_
                  rotate_left
                  · simp only [Act.put, List.setIfInBounds_toArray, List.set_cons_zero, List.set_cons_succ, i64_w, i32_w]
                    rfl
                  refine pure_ (i := 6) (N := some 46) (v := ?_) (a' := ?_) #[true, true, true, true, true, true, true, false, false, false, false, false, false, false, false, false, false, false, false, false, false, false, false, false, false, false, false] rfl rfl (any_of HT_.out (by kernel_rfl)) (fun _ _ _ h => h) (Or.inl ⟨by rfl, ?_⟩) ?_ ?_
                  rotate_left
                  · intro w'
                    go_simp
                    with_reducible rfl
                  rotate_left
                  · simp only [Act.put, List.setIfInBounds_toArray, List.set_cons_zero, List.set_cons_succ, i64_w, i32_w]
                    rfl
                  refine pure_ (i := 7) (N := some 47) (v := ?_) (a' := ?_) #[true, true, true, true, true, true, true, true, false, false, false, false, false, false, false, false, false, false, false, false, false, false, false, false, false, false, false] rfl rfl (any_of HT_.out (by kernel_rfl)) (fun _ _ _ h => h) (Or.inl ⟨by rfl, ?_⟩) ?_ ?_
                  rotate_left
                  · intro w'
                    go_simp
                    with_reducible rfl
                  rotate_left
                  · simp only [Act.put, List.setIfInBounds_toArray, List.set_cons_zero, List.set_cons_succ, i64_w, i32_w]
                    rfl
                  refine pure_ (i := 8) (N := some 48) (v := undef) (a' := ?_) #[true, true, true, true, true, true, true, true, true, false, false, false, false, false, false, false, false, false, false, false, false, false, false, false, false, false, false] rfl rfl (any_of HT_.out (by kernel_rfl)) (fun _ _ _ h => h) (Or.inr ⟨by rfl, rfl⟩) ?_ ?_
                  rotate_left
                  · simp only [Act.put, List.setIfInBounds_toArray, List.set_cons_zero, List.set_cons_succ, i64_w, i32_w]
                    rfl
                  refine pure_ (i := 9) (N := some 49) (v := undef) (a' := ?_) #[true, true, true, true, true, true, true, true, true, true, false, false, false, false, false, false, false, false, false, false, false, false, false, false, false, false, false] rfl rfl (any_of HT_.out (by kernel_rfl)) (fun _ _ _ h => h) (Or.inr ⟨by rfl, rfl⟩) ?_ ?_
                  rotate_left
                  · simp only [Act.put, List.setIfInBounds_toArray, List.set_cons_zero, List.set_cons_succ, i64_w, i32_w]
                    rfl
                  refine pure_ (i := 10) (N := some 50) (v := undef) (a' := ?_) #[true, true, true, true, true, true, true, true, true, true, true, false, false, false, false, false, false, false, false, false, false, false, false, false, false, false, false] rfl rfl (any_of HT_.out (by kernel_rfl)) (fun _ _ _ h => h) (Or.inr ⟨by rfl, rfl⟩) ?_ ?_
                  rotate_left
                  · simp only [Act.put, List.setIfInBounds_toArray, List.set_cons_zero, List.set_cons_succ, i64_w, i32_w]
                    rfl
                  refine pure_ (i := 11) (N := some 51) (v := undef) (a' := ?_) #[true, true, true, true, true, true, true, true, true, true, true, true, false, false, false, false, false, false, false, false, false, false, false, false, false, false, false] rfl rfl (any_of HT_.out (by kernel_rfl)) (fun _ _ _ h => h) (Or.inr ⟨by rfl, rfl⟩) ?_ ?_
                  rotate_left
                  · simp only [Act.put, List.setIfInBounds_toArray, List.set_cons_zero, List.set_cons_succ, i64_w, i32_w]
                    rfl
                  refine pure_ (i := 12) (N := some 52) (v := undef) (a' := ?_) #[true, true, true, true, true, true, true, true, true, true, true, true, true, false, false, false, false, false, false, false, false, false, false, false, false, false, false] rfl rfl (any_of HT_.out (by kernel_rfl)) (fun _ _ _ h => h) (Or.inr ⟨by rfl, rfl⟩) ?_ ?_
                  rotate_left
                  · simp only [Act.put, List.setIfInBounds_toArray, List.set_cons_zero, List.set_cons_succ, i64_w, i32_w]
                    rfl
                  refine pure_ (i := 13) (N := some 53) (v := undef) (a' := ?_) #[true, true, true, true, true, true, true, true, true, true, true, true, true, true, false, false, false, false, false, false, false, false, false, false, false, false, false] rfl rfl (any_of HT_.out (by kernel_rfl)) (fun _ _ _ h => h) (Or.inr ⟨by rfl, rfl⟩) ?_ ?_
                  rotate_left
                  · simp only [Act.put, List.setIfInBounds_toArray, List.set_cons_zero, List.set_cons_succ, i64_w, i32_w]
                    rfl
                  refine pure_ (i := 14) (N := some 54) (v := undef) (a' := ?_) #[true, true, true, true, true, true, true, true, true, true, true, true, true, true, true, false, false, false, false, false, false, false, false, false, false, false, false] rfl rfl (any_of HT_.out (by kernel_rfl)) (fun _ _ _ h => h) (Or.inr ⟨by rfl, rfl⟩) ?_ ?_
                  rotate_left
                  · simp only [Act.put, List.setIfInBounds_toArray, List.set_cons_zero, List.set_cons_succ, i64_w, i32_w]
                    rfl
                  refine pure_ (i := 15) (N := some 55) (v := ?_) (a' := ?_) #[true, true, true, true, true, true, true, true, true, true, true, true, true, true, true, true, false, false, false, false, false, false, false, false, false, false, false] rfl rfl (any_of HT_.out (by kernel_rfl)) (fun _ _ _ h => h) (Or.inl ⟨by rfl, ?_⟩) ?_ ?_
                  rotate_left
                  · intro w'
                    go_simp
                    with_reducible rfl
                  rotate_left
                  · simp only [Act.put, List.setIfInBounds_toArray, List.set_cons_zero, List.set_cons_succ, i64_w, i32_w]
                    rfl
                  refine pure_ (i := 16) (N := some 56) (v := ?_) (a' := ?_) #[true, true, true, true, true, true, true, true, true, true, true, true, true, true, true, true, true, false, false, false, false, false, false, false, false, false, false] rfl rfl (any_of HT_.out (by kernel_rfl)) (fun _ _ _ h => h) (Or.inl ⟨by rfl, ?_⟩) ?_ ?_
                  rotate_left
                  · intro w'
                    go_simp
                    with_reducible rfl
                  rotate_left
                  · simp only [Act.put, List.setIfInBounds_toArray, List.set_cons_zero, List.set_cons_succ, i64_w, i32_w]
                    rfl
                  refine pure_ (i := 17) (N := some 57) (v := undef) (a' := ?_) #[true, true, true, true, true, true, true, true, true, true, true, true, true, true, true, true, true, true, false, false, false, false, false, false, false, false, false] rfl rfl (any_of HT_.out (by kernel_rfl)) (fun _ _ _ h => h) (Or.inr ⟨by rfl, rfl⟩) ?_ ?_
                  rotate_left
                  · simp only [Act.put, List.setIfInBounds_toArray, List.set_cons_zero, List.set_cons_succ, i64_w, i32_w]
                    rfl
                  refine pure_ (i := 18) (N := some 58) (v := undef) (a' := ?_) #[true, true, true, true, true, true, true, true, true, true, true, true, true, true, true, true, true, true, true, false, false, false, false, false, false, false, false] rfl rfl (any_of HT_.out (by kernel_rfl)) (fun _ _ _ h => h) (Or.inr ⟨by rfl, rfl⟩) ?_ ?_
                  rotate_left
                  · simp only [Act.put, List.setIfInBounds_toArray, List.set_cons_zero, List.set_cons_succ, i64_w, i32_w]
                    rfl
                  refine pure_ (i := 19) (N := some 59) (v := undef) (a' := ?_) #[true, true, true, true, true, true, true, true, true, true, true, true, true, true, true, true, true, true, true, true, false, false, false, false, false, false, false] rfl rfl (any_of HT_.out (by kernel_rfl)) (fun _ _ _ h => h) (Or.inr ⟨by rfl, rfl⟩) ?_ ?_
                  rotate_left
                  · simp only [Act.put, List.setIfInBounds_toArray, List.set_cons_zero, List.set_cons_succ, i64_w, i32_w]
                    rfl
                  refine pure_ (i := 20) (N := some 60) (v := undef) (a' := ?_) #[true, true, true, true, true, true, true, true, true, true, true, true, true, true, true, true, true, true, true, true, true, false, false, false, false, false, false] rfl rfl (any_of HT_.out (by kernel_rfl)) (fun _ _ _ h => h) (Or.inr ⟨by rfl, rfl⟩) ?_ ?_
                  rotate_left
                  · simp only [Act.put, List.setIfInBounds_toArray, List.set_cons_zero, List.set_cons_succ, i64_w, i32_w]
                    rfl
                  refine pure_ (i := 21) (N := some 61) (v := undef) (a' := ?_) #[true, true, true, true, true, true, true, true, true, true, true, true, true, true, true, true, true, true, true, true, true, true, false, false, false, false, false] rfl rfl (any_of HT_.out (by kernel_rfl)) (fun _ _ _ h => h) (Or.inr ⟨by rfl, rfl⟩) ?_ ?_
                  rotate_left
                  · simp only [Act.put, List.setIfInBounds_toArray, List.set_cons_zero, List.set_cons_succ, i64_w, i32_w]
                    rfl
                  refine pure_ (i := 22) (N := some 62) (v := undef) (a' := ?_) #[true, true, true, true, true, true, true, true, true, true, true, true, true, true, true, true, true, true, true, true, true, true, true, false, false, false, false] rfl rfl (any_of HT_.out (by kernel_rfl)) (fun _ _ _ h => h) (Or.inr ⟨by rfl, rfl⟩) ?_ ?_
                  rotate_left
                  · simp only [Act.put, List.setIfInBounds_toArray, List.set_cons_zero, List.set_cons_succ, i64_w, i32_w]
                    rfl
                  refine pure_ (i := 23) (N := some 63) (v := undef) (a' := ?_) #[true, true, true, true, true, true, true, true, true, true, true, true, true, true, true, true, true, true, true, true, true, true, true, true, false, false, false] rfl rfl (any_of HT_.out (by kernel_rfl)) (fun _ _ _ h => h) (Or.inr ⟨by rfl, rfl⟩) ?_ ?_
                  rotate_left
                  · simp only [Act.put, List.setIfInBounds_toArray, List.set_cons_zero, List.set_cons_succ, i64_w, i32_w]
                    rfl
                  refine pure_ (i := 24) (N := some 64) (v := undef) (a' := ?_) #[true, true, true, true, true, true, true, true, true, true, true, true, true, true, true, true, true, true, true, true, true, true, true, true, true, false, false] rfl rfl (any_of HT_.out (by kernel_rfl)) (fun _ _ _ h => h) (Or.inr ⟨by rfl, rfl⟩) ?_ ?_
                  rotate_left
                  · simp only [Act.put, List.setIfInBounds_toArray, List.set_cons_zero, List.set_cons_succ, i64_w, i32_w]
                    rfl
                  refine pure_ (i := 25) (N := some 65) (v := undef) (a' := ?_) #[true, true, true, true, true, true, true, true, true, true, true, true, true, true, true, true, true, true, true, true, true, true, true, true, true, true, false] rfl rfl (any_of HT_.out (by kernel_rfl)) (fun _ _ _ h => h) (Or.inr ⟨by rfl, rfl⟩) ?_ ?_
                  rotate_left
                  · simp only [Act.put, List.setIfInBounds_toArray, List.set_cons_zero, List.set_cons_succ, i64_w, i32_w]
                    rfl
                  refine pure_ (i := 26) (N := some 66) (v := ?_) (a' := ?_) #[true, true, true, true, true, true, true, true, true, true, true, true, true, true, true, true, true, true, true, true, true, true, true, true, true, true, true] rfl rfl (any_of HT_.out (by kernel_rfl)) (fun _ _ _ h => h) (Or.inl ⟨by rfl, ?_⟩) ?_ ?_
                  rotate_left
                  · intro w'
                    go_simp
                    with_reducible rfl
                  rotate_left
                  · simp only [Act.put, List.setIfInBounds_toArray, List.set_cons_zero, List.set_cons_succ, i64_w, i32_w]
                    rfl
                  refine done_ (done_of HT_.out (by kernel_rfl)) ?_
                  try go_wp2
                  go_meet
                  case rel => exact ⟨_, (true), (by first | rfl | (simp; done) | (simp [*]; done)), H', ⟨by have := HK1.out; first | omega | exact Nat.le_refl _⟩, ⟨by (with_reducible repeat (first | refine blk_drewN ?_ _ | refine blk_drew ?_ | refine blk_alloc ?_ _)); exact BK301.out⟩, ⟨by repeat (first | (with_reducible first | exact HB.out | apply below_alloc | apply pw_below_drewN | apply below_drew1 | refine below_set ?_ GE301.out) | exact HB.out)⟩⟩
                · rw [if_neg c17] at H
                  have c17b0 : decide (15 ≤ ((rd_T31 l0 x5_1).f1)) = false := decide_eq_false c17
                  clear c17
                  (first | rw [c17b0] | (simp only [i64_w, i32_w]; rw [c17b0]) | skip)
                  by_cases c19 : x5_1 = 0
                  · rw [if_pos c19] at H
                    have c19b0 : (x5_1 == 0) = true := beq_iff_eq.mpr c19
                    have c19b1 : (x5_1 != 0) = false := bne_eq_false_iff_eq.mpr c19
                    clear c19
                    have H' := Aside0.mk H
                    clear H
                    try go_wp2
                    have n0_ := Aside0.mk (blk_drew BK301.out)
                    have n1_ := Aside0.mk (below_drew1 HB.out)
                    clear BK301
                    clear HB
                    have BK301 := n0_
                    have HB := n1_
                    clear n0_ n1_
                    refine start_ (n := 27) (S := fun w' => w'.cell? ⟨gb301, 0, none⟩ = some (.int .i64 ((rd_T31 l0 x5_1).f0)) ∧ w'.cell? ⟨gb301, 1, none⟩ = some (.int .i64 ((rd_T31 l0 x5_1).f1)) ∧ w'.cell? ⟨gb301, 2, none⟩ = some (.int .i64 ((rd_T31 l0 x5_1).f2)) ∧ w'.cell? ⟨gb301, 3, none⟩ = some (.int .i64 ((rd_T31 l0 x5_1).f3)) ∧ w'.cell? ⟨gb301, 4, none⟩ = some (.int .i64 ((rd_T31 l0 x5_1).f4)) ∧ w'.cell? ⟨gb301, 5, none⟩ = some (.string ((rd_T31 l0 x5_1).f5))) (ds := []) #[false, false, false, false, false, false, false, false, false, false, false, false, false, false, false, false, false, false, false, false, false, false, false, false, false, false, false] (by kernel_rfl) rfl rfl ⟨(blk_cell BK301.out 0).trans rfl, (blk_cell BK301.out 1).trans rfl, (blk_cell BK301.out 2).trans rfl, (blk_cell BK301.out 3).trans rfl, (blk_cell BK301.out 4).trans rfl, (blk_cell BK301.out 5).trans rfl⟩ (fun hHeld => ?_); refine with_tabW partitaref15_Encode.tab11 partitaref15_Encode.bits11 (fun HT_ HW_ => ?_)
                    generalize w16.drew = w20 at BK301 HB hHeld ⊢
                    refine pure_ (i := 0) (N := some 40) (v := ?_) (a' := ?_) #[true, false, false, false, false, false, false, false, false, false, false, false, false, false, false, false, false, false, false, false, false, false, false, false, false, false, false] rfl rfl (any_of HT_.out (by kernel_rfl)) (fun _ _ _ h => h) (Or.inl ⟨by rfl, ?_⟩) ?_ ?_
                    rotate_left
                    · intro w'
                      go_simp
                      with_reducible rfl
                    rotate_left
                    · simp only [Act.put, List.setIfInBounds_toArray, List.set_cons_zero, List.set_cons_succ, i64_w, i32_w]
                      rfl
                    refine take_ (i := 1) (N := some 41) (v := ?_) (a' := ?_) #[true, true, false, false, false, false, false, false, false, false, false, false, false, false, false, false, false, false, false, false, false, false, false, false, false, false, false] rfl rfl (take_ofW HT_.out HW_.out (by kernel_rfl)) (fun _ _ _ h => h) (Or.inl ⟨by rfl, ?_⟩) hHeld ?_ ?_
                    rotate_left
                    · rintro w' ⟨s0, s1, s2, s3, s4, s5⟩
                      go_simp
                      with_reducible rfl
                    rotate_left
                    · simp only [Act.put, List.setIfInBounds_toArray, List.set_cons_zero, List.set_cons_succ, i64_w, i32_w]
                      rfl
                    refine pure_ (i := 2) (N := some 42) (v := ?_) (a' := ?_) #[true, true, true, false, false, false, false, false, false, false, false, false, false, false, false, false, false, false, false, false, false, false, false, false, false, false, false] rfl rfl (any_of HT_.out (by kernel_rfl)) (fun _ _ _ h => h) (Or.inl ⟨by rfl, ?_⟩) ?_ ?_
                    rotate_left
                    · intro w'
                      go_simp
                      with_reducible rfl
                    rotate_left
                    · simp only [Act.put, List.setIfInBounds_toArray, List.set_cons_zero, List.set_cons_succ, i64_w, i32_w]
                      rfl
                    refine pure_ (i := 3) (N := some 43) (v := ?_) (a' := ?_) #[true, true, true, true, false, false, false, false, false, false, false, false, false, false, false, false, false, false, false, false, false, false, false, false, false, false, false] rfl rfl (any_of HT_.out (by kernel_rfl)) (fun _ _ _ h => h) (Or.inl ⟨by rfl, ?_⟩) ?_ ?_
                    rotate_left
                    · intro w'
                      go_simp
                      with_reducible rfl
                    rotate_left
                    · simp only [Act.put, List.setIfInBounds_toArray, List.set_cons_zero, List.set_cons_succ, i64_w, i32_w]
                      rfl
                    refine pure_ (i := 4) (N := some 44) (v := ?_) (a' := ?_) #[true, true, true, true, true, false, false, false, false, false, false, false, false, false, false, false, false, false, false, false, false, false, false, false, false, false, false] rfl rfl (any_of HT_.out (by kernel_rfl)) (fun _ _ _ h => h) (Or.inl ⟨by rfl, ?_⟩) ?_ ?_
                    rotate_left
                    · intro w'
                      go_simp
                      with_reducible rfl
                    rotate_left
                    · simp only [Act.put, List.setIfInBounds_toArray, List.set_cons_zero, List.set_cons_succ, i64_w, i32_w]
                      rfl
                    refine pure_ (i := 5) (N := some 45) (v := ?_) (a' := ?_) #[true, true, true, true, true, true, false, false, false, false, false, false, false, false, false, false, false, false, false, false, false, false, false, false, false, false, false] rfl rfl (any_of HT_.out (by kernel_rfl)) (fun _ _ _ h => h) (Or.inl ⟨by rfl, ?_⟩) ?_ ?_
                    rotate_left
                    · intro w'
                      go_simp
                      with_reducible rfl
                    rotate_left
                    · simp only [Act.put, List.setIfInBounds_toArray, List.set_cons_zero, List.set_cons_succ, i64_w, i32_w]
                      rfl
                    refine pure_ (i := 6) (N := some 46) (v := ?_) (a' := ?_) #[true, true, true, true, true, true, true, false, false, false, false, false, false, false, false, false, false, false, false, false, false, false, false, false, false, false, false] rfl rfl (any_of HT_.out (by kernel_rfl)) (fun _ _ _ h => h) (Or.inl ⟨by rfl, ?_⟩) ?_ ?_
                    rotate_left
                    · intro w'
                      go_simp
                      with_reducible rfl
                    rotate_left
                    · simp only [Act.put, List.setIfInBounds_toArray, List.set_cons_zero, List.set_cons_succ, i64_w, i32_w]
                      rfl
                    refine pure_ (i := 7) (N := some 47) (v := ?_) (a' := ?_) #[true, true, true, true, true, true, true, true, false, false, false, false, false, false, false, false, false, false, false, false, false, false, false, false, false, false, false] rfl rfl (any_of HT_.out (by kernel_rfl)) (fun _ _ _ h => h) (Or.inl ⟨by rfl, ?_⟩) ?_ ?_
                    rotate_left
                    · intro w'
                      go_simp
                      with_reducible rfl
                    rotate_left
                    · simp only [Act.put, List.setIfInBounds_toArray, List.set_cons_zero, List.set_cons_succ, i64_w, i32_w]
                      rfl
                    refine pure_ (i := 8) (N := some 48) (v := undef) (a' := ?_) #[true, true, true, true, true, true, true, true, true, false, false, false, false, false, false, false, false, false, false, false, false, false, false, false, false, false, false] rfl rfl (any_of HT_.out (by kernel_rfl)) (fun _ _ _ h => h) (Or.inr ⟨by rfl, rfl⟩) ?_ ?_
                    rotate_left
                    · simp only [Act.put, List.setIfInBounds_toArray, List.set_cons_zero, List.set_cons_succ, i64_w, i32_w]
                      rfl
                    refine pure_ (i := 9) (N := some 49) (v := undef) (a' := ?_) #[true, true, true, true, true, true, true, true, true, true, false, false, false, false, false, false, false, false, false, false, false, false, false, false, false, false, false] rfl rfl (any_of HT_.out (by kernel_rfl)) (fun _ _ _ h => h) (Or.inr ⟨by rfl, rfl⟩) ?_ ?_
                    rotate_left
                    · simp only [Act.put, List.setIfInBounds_toArray, List.set_cons_zero, List.set_cons_succ, i64_w, i32_w]
                      rfl
                    refine pure_ (i := 10) (N := some 50) (v := undef) (a' := ?_) #[true, true, true, true, true, true, true, true, true, true, true, false, false, false, false, false, false, false, false, false, false, false, false, false, false, false, false] rfl rfl (any_of HT_.out (by kernel_rfl)) (fun _ _ _ h => h) (Or.inr ⟨by rfl, rfl⟩) ?_ ?_
                    rotate_left
                    · simp only [Act.put, List.setIfInBounds_toArray, List.set_cons_zero, List.set_cons_succ, i64_w, i32_w]
                      rfl
                    refine pure_ (i := 11) (N := some 51) (v := undef) (a' := ?_) #[true, true, true, true, true, true, true, true, true, true, true, true, false, false, false, false, false, false, false, false, false, false, false, false, false, false, false] rfl rfl (any_of HT_.out (by kernel_rfl)) (fun _ _ _ h => h) (Or.inr ⟨by rfl, rfl⟩) ?_ ?_
                    rotate_left
                    · simp only [Act.put, List.setIfInBounds_toArray, List.set_cons_zero, List.set_cons_succ, i64_w, i32_w]
                      rfl
                    refine pure_ (i := 12) (N := some 52) (v := undef) (a' := ?_) #[true, true, true, true, true, true, true, true, true, true, true, true, true, false, false, false, false, false, false, false, false, false, false, false, false, false, false] rfl rfl (any_of HT_.out (by kernel_rfl)) (fun _ _ _ h => h) (Or.inr ⟨by rfl, rfl⟩) ?_ ?_
                    rotate_left
                    · simp only [Act.put, List.setIfInBounds_toArray, List.set_cons_zero, List.set_cons_succ, i64_w, i32_w]
                      rfl
                    refine pure_ (i := 13) (N := some 53) (v := undef) (a' := ?_) #[true, true, true, true, true, true, true, true, true, true, true, true, true, true, false, false, false, false, false, false, false, false, false, false, false, false, false] rfl rfl (any_of HT_.out (by kernel_rfl)) (fun _ _ _ h => h) (Or.inr ⟨by rfl, rfl⟩) ?_ ?_
                    rotate_left
                    · simp only [Act.put, List.setIfInBounds_toArray, List.set_cons_zero, List.set_cons_succ, i64_w, i32_w]
                      rfl
                    refine pure_ (i := 14) (N := some 54) (v := undef) (a' := ?_) #[true, true, true, true, true, true, true, true, true, true, true, true, true, true, true, false, false, false, false, false, false, false, false, false, false, false, false] rfl rfl (any_of HT_.out (by kernel_rfl)) (fun _ _ _ h => h) (Or.inr ⟨by rfl, rfl⟩) ?_ ?_
                    rotate_left
                    · simp only [Act.put, List.setIfInBounds_toArray, List.set_cons_zero, List.set_cons_succ, i64_w, i32_w]
                      rfl
                    refine pure_ (i := 15) (N := some 55) (v := ?_) (a' := ?_) #[true, true, true, true, true, true, true, true, true, true, true, true, true, true, true, true, false, false, false, false, false, false, false, false, false, false, false] rfl rfl (any_of HT_.out (by kernel_rfl)) (fun _ _ _ h => h) (Or.inl ⟨by rfl, ?_⟩) ?_ ?_
                    rotate_left
                    · intro w'
                      go_simp
                      with_reducible rfl
                    rotate_left
                    · simp only [Act.put, List.setIfInBounds_toArray, List.set_cons_zero, List.set_cons_succ, i64_w, i32_w]
                      rfl
                    refine pure_ (i := 16) (N := some 56) (v := ?_) (a' := ?_) #[true, true, true, true, true, true, true, true, true, true, true, true, true, true, true, true, true, false, false, false, false, false, false, false, false, false, false] rfl rfl (any_of HT_.out (by kernel_rfl)) (fun _ _ _ h => h) (Or.inl ⟨by rfl, ?_⟩) ?_ ?_
                    rotate_left
                    · intro w'
                      go_simp
                      with_reducible rfl
                    rotate_left
                    · simp only [Act.put, List.setIfInBounds_toArray, List.set_cons_zero, List.set_cons_succ, i64_w, i32_w]
                      rfl
                    refine pure_ (i := 17) (N := some 57) (v := undef) (a' := ?_) #[true, true, true, true, true, true, true, true, true, true, true, true, true, true, true, true, true, true, false, false, false, false, false, false, false, false, false] rfl rfl (any_of HT_.out (by kernel_rfl)) (fun _ _ _ h => h) (Or.inr ⟨by rfl, rfl⟩) ?_ ?_
                    rotate_left
                    · simp only [Act.put, List.setIfInBounds_toArray, List.set_cons_zero, List.set_cons_succ, i64_w, i32_w]
                      rfl
                    refine pure_ (i := 18) (N := some 58) (v := undef) (a' := ?_) #[true, true, true, true, true, true, true, true, true, true, true, true, true, true, true, true, true, true, true, false, false, false, false, false, false, false, false] rfl rfl (any_of HT_.out (by kernel_rfl)) (fun _ _ _ h => h) (Or.inr ⟨by rfl, rfl⟩) ?_ ?_
                    rotate_left
                    · simp only [Act.put, List.setIfInBounds_toArray, List.set_cons_zero, List.set_cons_succ, i64_w, i32_w]
                      rfl
                    refine pure_ (i := 19) (N := some 59) (v := undef) (a' := ?_) #[true, true, true, true, true, true, true, true, true, true, true, true, true, true, true, true, true, true, true, true, false, false, false, false, false, false, false] rfl rfl (any_of HT_.out (by kernel_rfl)) (fun _ _ _ h => h) (Or.inr ⟨by rfl, rfl⟩) ?_ ?_
                    rotate_left
                    · simp only [Act.put, List.setIfInBounds_toArray, List.set_cons_zero, List.set_cons_succ, i64_w, i32_w]
                      rfl
                    refine pure_ (i := 20) (N := some 60) (v := undef) (a' := ?_) #[true, true, true, true, true, true, true, true, true, true, true, true, true, true, true, true, true, true, true, true, true, false, false, false, false, false, false] rfl rfl (any_of HT_.out (by kernel_rfl)) (fun _ _ _ h => h) (Or.inr ⟨by rfl, rfl⟩) ?_ ?_
                    rotate_left
                    · simp only [Act.put, List.setIfInBounds_toArray, List.set_cons_zero, List.set_cons_succ, i64_w, i32_w]
                      rfl
                    refine pure_ (i := 21) (N := some 61) (v := undef) (a' := ?_) #[true, true, true, true, true, true, true, true, true, true, true, true, true, true, true, true, true, true, true, true, true, true, false, false, false, false, false] rfl rfl (any_of HT_.out (by kernel_rfl)) (fun _ _ _ h => h) (Or.inr ⟨by rfl, rfl⟩) ?_ ?_
                    rotate_left
                    · simp only [Act.put, List.setIfInBounds_toArray, List.set_cons_zero, List.set_cons_succ, i64_w, i32_w]
                      rfl
                    refine pure_ (i := 22) (N := some 62) (v := undef) (a' := ?_) #[true, true, true, true, true, true, true, true, true, true, true, true, true, true, true, true, true, true, true, true, true, true, true, false, false, false, false] rfl rfl (any_of HT_.out (by kernel_rfl)) (fun _ _ _ h => h) (Or.inr ⟨by rfl, rfl⟩) ?_ ?_
                    rotate_left
                    · simp only [Act.put, List.setIfInBounds_toArray, List.set_cons_zero, List.set_cons_succ, i64_w, i32_w]
                      rfl
                    refine pure_ (i := 23) (N := some 63) (v := undef) (a' := ?_) #[true, true, true, true, true, true, true, true, true, true, true, true, true, true, true, true, true, true, true, true, true, true, true, true, false, false, false] rfl rfl (any_of HT_.out (by kernel_rfl)) (fun _ _ _ h => h) (Or.inr ⟨by rfl, rfl⟩) ?_ ?_
                    rotate_left
                    · simp only [Act.put, List.setIfInBounds_toArray, List.set_cons_zero, List.set_cons_succ, i64_w, i32_w]
                      rfl
                    refine pure_ (i := 24) (N := some 64) (v := undef) (a' := ?_) #[true, true, true, true, true, true, true, true, true, true, true, true, true, true, true, true, true, true, true, true, true, true, true, true, true, false, false] rfl rfl (any_of HT_.out (by kernel_rfl)) (fun _ _ _ h => h) (Or.inr ⟨by rfl, rfl⟩) ?_ ?_
                    rotate_left
                    · simp only [Act.put, List.setIfInBounds_toArray, List.set_cons_zero, List.set_cons_succ, i64_w, i32_w]
                      rfl
                    refine pure_ (i := 25) (N := some 65) (v := undef) (a' := ?_) #[true, true, true, true, true, true, true, true, true, true, true, true, true, true, true, true, true, true, true, true, true, true, true, true, true, true, false] rfl rfl (any_of HT_.out (by kernel_rfl)) (fun _ _ _ h => h) (Or.inr ⟨by rfl, rfl⟩) ?_ ?_
                    rotate_left
                    · simp only [Act.put, List.setIfInBounds_toArray, List.set_cons_zero, List.set_cons_succ, i64_w, i32_w]
                      rfl
                    refine pure_ (i := 26) (N := some 66) (v := ?_) (a' := ?_) #[true, true, true, true, true, true, true, true, true, true, true, true, true, true, true, true, true, true, true, true, true, true, true, true, true, true, true] rfl rfl (any_of HT_.out (by kernel_rfl)) (fun _ _ _ h => h) (Or.inl ⟨by rfl, ?_⟩) ?_ ?_
                    rotate_left
                    · intro w'
                      go_simp
                      with_reducible rfl
                    rotate_left
                    · simp only [Act.put, List.setIfInBounds_toArray, List.set_cons_zero, List.set_cons_succ, i64_w, i32_w]
                      rfl
                    refine done_ (done_of HT_.out (by kernel_rfl)) ?_
                    try go_wp2
                    go_meet
                    case rel => exact ⟨_, (true), (by first | rfl | (simp; done) | (simp [*]; done)), H', ⟨by have := HK1.out; first | omega | exact Nat.le_refl _⟩, ⟨by (with_reducible repeat (first | refine blk_drewN ?_ _ | refine blk_drew ?_ | refine blk_alloc ?_ _)); exact BK301.out⟩, ⟨by repeat (first | (with_reducible first | exact HB.out | apply below_alloc | apply pw_below_drewN | apply below_drew1 | refine below_set ?_ GE301.out) | exact HB.out)⟩⟩
                  · rw [if_neg c19] at H
                    have c19b0 : (x5_1 == 0) = false := beq_eq_false_iff_ne.mpr c19
                    have c19b1 : (x5_1 != 0) = true := bne_iff_ne.mpr c19
                    obtain ⟨ji21, hji21⟩ : ∃ j_ : Int, (wrap64 (x5_1 - 1)) = j_ := ⟨_, rfl⟩
                    replace H : (if 0 ≤ (ji21) then (if (ji21) < (l0.length : Int) then (if ((rd_T31 l0 (ji21)).f1) ≥ 15 then (partitaref15_Encode.j1 k1 l0 (x4_1 ++ t303) x5_1 t305 true ((rd_T31 l0 x5_1).f0) ((rd_T31 l0 x5_1).f1) ((rd_T31 l0 x5_1).f2) ((rd_T31 l0 x5_1).f3) ((rd_T31 l0 x5_1).f4) ((rd_T31 l0 x5_1).f5)) else ((partitaref15_status.f ((rd_T31 l0 (ji21)).f0) ((rd_T31 l0 (ji21)).f1) ((rd_T31 l0 (ji21)).f2) ((rd_T31 l0 (ji21)).f3) ((rd_T31 l0 (ji21)).f4) ((rd_T31 l0 (ji21)).f5)).bind fun t309 => ((partitaref15_status.f ((rd_T31 l0 x5_1).f0) ((rd_T31 l0 x5_1).f1) ((rd_T31 l0 x5_1).f2) ((rd_T31 l0 x5_1).f3) ((rd_T31 l0 x5_1).f4) ((rd_T31 l0 x5_1).f5)).bind fun t310 => (partitaref15_Encode.j1 k1 l0 (x4_1 ++ t303) x5_1 t305 (t309 != t310) ((rd_T31 l0 x5_1).f0) ((rd_T31 l0 x5_1).f1) ((rd_T31 l0 x5_1).f2) ((rd_T31 l0 x5_1).f3) ((rd_T31 l0 x5_1).f4) ((rd_T31 l0 x5_1).f5))))) else (none)) else (none)) = some (r1, r2) := by first | (rw [hji21] at H; exact H) | (simp only [hji21] at H ⊢; exact H)
                    have hji21w : (IntKind.i64.wrap (x5_1 - 1)) = ji21 := (i64_w _).trans hji21
                    by_cases c22 : 0 ≤ (ji21)
                    · rw [if_pos c22] at H
                      have c22b0 : decide (0 ≤ (ji21)) = true := decide_eq_true c22
                      clear c22
                      by_cases c23 : (ji21) < (l0.length : Int)
                      · rw [if_pos c23] at H
                        have c23b0 : decide ((ji21) < (l0.length : Int)) = true := decide_eq_true c23
                        clear c23
                        by_cases c24 : ((rd_T31 l0 (ji21)).f1) ≥ 15
                        · rw [if_pos c24] at H
                          have c24b0 : decide (15 ≤ ((rd_T31 l0 (ji21)).f1)) = true := decide_eq_true c24
                          clear c24
                          have H' := Aside0.mk H
                          clear H
                          try go_wp2
                          have n0_ := Aside0.mk (blk_drew BK301.out)
                          have n1_ := Aside0.mk (below_drew1 HB.out)
                          clear BK301
                          clear HB
                          have BK301 := n0_
                          have HB := n1_
                          clear n0_ n1_
                          have p307 : 0 ≤ ((ji21) : Int) := of_decide_eq_true (by first | (with_reducible assumption) | assumption)
                          have q307 : (ji21) < (l0.length : Int) := of_decide_eq_true (by first | (with_reducible assumption) | assumption)
                          obtain ⟨ad307, e307, hx307_0, hx307_1, hx307_2, hx307_3, hx307_4, hx307_5⟩ := at_T31 HR0.out (ji21) p307 q307
                          have hw307_5 := hx307_5
                          have hw307_4 := hx307_4
                          have hw307_3 := hx307_3
                          have hw307_2 := hx307_2
                          have hw307_1 := hx307_1
                          have hw307_0 := hx307_0
                          obtain rfl : ad300 = ad307 := (by injection e307)
                          replace hx307_0 := (HB.out.cell (World.block_lt_of_cell? w _ hx307_0)).trans hx307_0
                          replace hx307_1 := (HB.out.cell (World.block_lt_of_cell? w _ hx307_1)).trans hx307_1
                          replace hx307_2 := (HB.out.cell (World.block_lt_of_cell? w _ hx307_2)).trans hx307_2
                          replace hx307_3 := (HB.out.cell (World.block_lt_of_cell? w _ hx307_3)).trans hx307_3
                          replace hx307_4 := (HB.out.cell (World.block_lt_of_cell? w _ hx307_4)).trans hx307_4
                          replace hx307_5 := (HB.out.cell (World.block_lt_of_cell? w _ hx307_5)).trans hx307_5
                          replace p307 := eq_true p307
                          replace q307 := eq_true q307
                          refine start_ (n := 27) (S := fun w' => w'.cell? ⟨gb301, 0, none⟩ = some (.int .i64 ((rd_T31 l0 x5_1).f0)) ∧ w'.cell? ⟨gb301, 1, none⟩ = some (.int .i64 ((rd_T31 l0 x5_1).f1)) ∧ w'.cell? ⟨gb301, 2, none⟩ = some (.int .i64 ((rd_T31 l0 x5_1).f2)) ∧ w'.cell? ⟨gb301, 3, none⟩ = some (.int .i64 ((rd_T31 l0 x5_1).f3)) ∧ w'.cell? ⟨gb301, 4, none⟩ = some (.int .i64 ((rd_T31 l0 x5_1).f4)) ∧ w'.cell? ⟨gb301, 5, none⟩ = some (.string ((rd_T31 l0 x5_1).f5)) ∧ w'.cell? (ad300.add (((ji21)).toNat * 6)) = some (.int .i64 ((rd_T31 l0 (ji21)).f0)) ∧ w'.cell? ⟨(ad300.add (((ji21)).toNat * 6)).block, (ad300.add (((ji21)).toNat * 6)).off + 1, none⟩ = some (.int .i64 ((rd_T31 l0 (ji21)).f1)) ∧ w'.cell? ⟨(ad300.add (((ji21)).toNat * 6)).block, (ad300.add (((ji21)).toNat * 6)).off + 2, none⟩ = some (.int .i64 ((rd_T31 l0 (ji21)).f2)) ∧ w'.cell? ⟨(ad300.add (((ji21)).toNat * 6)).block, (ad300.add (((ji21)).toNat * 6)).off + 3, none⟩ = some (.int .i64 ((rd_T31 l0 (ji21)).f3)) ∧ w'.cell? ⟨(ad300.add (((ji21)).toNat * 6)).block, (ad300.add (((ji21)).toNat * 6)).off + 4, none⟩ = some (.int .i64 ((rd_T31 l0 (ji21)).f4)) ∧ w'.cell? ⟨(ad300.add (((ji21)).toNat * 6)).block, (ad300.add (((ji21)).toNat * 6)).off + 5, none⟩ = some (.string ((rd_T31 l0 (ji21)).f5))) (ds := []) #[false, false, false, false, false, false, false, false, false, false, false, false, false, false, false, false, false, false, false, false, false, false, false, false, false, false, false] (by kernel_rfl) rfl rfl ⟨(blk_cell BK301.out 0).trans rfl, (blk_cell BK301.out 1).trans rfl, (blk_cell BK301.out 2).trans rfl, (blk_cell BK301.out 3).trans rfl, (blk_cell BK301.out 4).trans rfl, (blk_cell BK301.out 5).trans rfl, ((HB.out.cell (World.block_lt_of_cell? w _ hw307_0)).trans hw307_0), ((HB.out.cell (World.block_lt_of_cell? w _ hw307_1)).trans hw307_1), ((HB.out.cell (World.block_lt_of_cell? w _ hw307_2)).trans hw307_2), ((HB.out.cell (World.block_lt_of_cell? w _ hw307_3)).trans hw307_3), ((HB.out.cell (World.block_lt_of_cell? w _ hw307_4)).trans hw307_4), ((HB.out.cell (World.block_lt_of_cell? w _ hw307_5)).trans hw307_5)⟩ (fun hHeld => ?_); refine with_tabW partitaref15_Encode.tab11 partitaref15_Encode.bits11 (fun HT_ HW_ => ?_)
                          generalize w16.drew = w25 at BK301 HB hx307_0 hx307_1 hx307_2 hx307_3 hx307_4 hx307_5 hHeld ⊢
                          refine pure_ (i := 0) (N := some 40) (v := ?_) (a' := ?_) #[true, false, false, false, false, false, false, false, false, false, false, false, false, false, false, false, false, false, false, false, false, false, false, false, false, false, false] rfl rfl (any_of HT_.out (by kernel_rfl)) (fun _ _ _ h => h) (Or.inl ⟨by rfl, ?_⟩) ?_ ?_
                          rotate_left
                          · intro w'
                            go_simp
                            with_reducible rfl
                          rotate_left
                          · simp only [Act.put, List.setIfInBounds_toArray, List.set_cons_zero, List.set_cons_succ, i64_w, i32_w]
                            rfl
                          refine take_ (i := 1) (N := some 41) (v := ?_) (a' := ?_) #[true, true, false, false, false, false, false, false, false, false, false, false, false, false, false, false, false, false, false, false, false, false, false, false, false, false, false] rfl rfl (take_ofW HT_.out HW_.out (by kernel_rfl)) (fun _ _ _ h => h) (Or.inl ⟨by rfl, ?_⟩) hHeld ?_ ?_
                          rotate_left
                          · rintro w' ⟨s0, s1, s2, s3, s4, s5, s6, s7, s8, s9, s10, s11⟩
                            go_simp
                            with_reducible rfl
                          rotate_left
                          · simp only [Act.put, List.setIfInBounds_toArray, List.set_cons_zero, List.set_cons_succ, i64_w, i32_w]
                            rfl
                          refine pure_ (i := 2) (N := some 42) (v := ?_) (a' := ?_) #[true, true, true, false, false, false, false, false, false, false, false, false, false, false, false, false, false, false, false, false, false, false, false, false, false, false, false] rfl rfl (any_of HT_.out (by kernel_rfl)) (fun _ _ _ h => h) (Or.inl ⟨by rfl, ?_⟩) ?_ ?_
                          rotate_left
                          · intro w'
                            go_simp
                            with_reducible rfl
                          rotate_left
                          · simp only [Act.put, List.setIfInBounds_toArray, List.set_cons_zero, List.set_cons_succ, i64_w, i32_w]
                            rfl
                          refine pure_ (i := 3) (N := some 43) (v := ?_) (a' := ?_) #[true, true, true, true, false, false, false, false, false, false, false, false, false, false, false, false, false, false, false, false, false, false, false, false, false, false, false] rfl rfl (any_of HT_.out (by kernel_rfl)) (fun _ _ _ h => h) (Or.inl ⟨by rfl, ?_⟩) ?_ ?_
                          rotate_left
                          · intro w'
                            go_simp
                            with_reducible rfl
                          rotate_left
                          · simp only [Act.put, List.setIfInBounds_toArray, List.set_cons_zero, List.set_cons_succ, i64_w, i32_w]
                            rfl
                          refine pure_ (i := 4) (N := some 44) (v := ?_) (a' := ?_) #[true, true, true, true, true, false, false, false, false, false, false, false, false, false, false, false, false, false, false, false, false, false, false, false, false, false, false] rfl rfl (any_of HT_.out (by kernel_rfl)) (fun _ _ _ h => h) (Or.inl ⟨by rfl, ?_⟩) ?_ ?_
                          rotate_left
                          · intro w'
                            go_simp
                            with_reducible rfl
                          rotate_left
                          · simp only [Act.put, List.setIfInBounds_toArray, List.set_cons_zero, List.set_cons_succ, i64_w, i32_w]
                            rfl
                          refine pure_ (i := 5) (N := some 45) (v := ?_) (a' := ?_) #[true, true, true, true, true, true, false, false, false, false, false, false, false, false, false, false, false, false, false, false, false, false, false, false, false, false, false] rfl rfl (any_of HT_.out (by kernel_rfl)) (fun _ _ _ h => h) (Or.inl ⟨by rfl, ?_⟩) ?_ ?_
                          rotate_left
                          · intro w'
                            go_simp
                            with_reducible rfl
                          rotate_left
                          · simp only [Act.put, List.setIfInBounds_toArray, List.set_cons_zero, List.set_cons_succ, i64_w, i32_w]
                            rfl
                          refine pure_ (i := 6) (N := some 46) (v := ?_) (a' := ?_) #[true, true, true, true, true, true, true, false, false, false, false, false, false, false, false, false, false, false, false, false, false, false, false, false, false, false, false] rfl rfl (any_of HT_.out (by kernel_rfl)) (fun _ _ _ h => h) (Or.inl ⟨by rfl, ?_⟩) ?_ ?_
                          rotate_left
                          · intro w'
                            go_simp
                            with_reducible rfl
                          rotate_left
                          · simp only [Act.put, List.setIfInBounds_toArray, List.set_cons_zero, List.set_cons_succ, i64_w, i32_w]
                            rfl
                          refine pure_ (i := 7) (N := some 47) (v := ?_) (a' := ?_) #[true, true, true, true, true, true, true, true, false, false, false, false, false, false, false, false, false, false, false, false, false, false, false, false, false, false, false] rfl rfl (any_of HT_.out (by kernel_rfl)) (fun _ _ _ h => h) (Or.inl ⟨by rfl, ?_⟩) ?_ ?_
                          rotate_left
                          · intro w'
                            go_simp
                            with_reducible rfl
                          rotate_left
                          · simp only [Act.put, List.setIfInBounds_toArray, List.set_cons_zero, List.set_cons_succ, i64_w, i32_w]
                            rfl
                          refine pure_ (i := 8) (N := some 48) (v := ?_) (a' := ?_) #[true, true, true, true, true, true, true, true, true, false, false, false, false, false, false, false, false, false, false, false, false, false, false, false, false, false, false] rfl rfl (any_of HT_.out (by kernel_rfl)) (fun _ _ _ h => h) (Or.inl ⟨by rfl, ?_⟩) ?_ ?_
                          rotate_left
                          · intro w'
                            go_simp
                            with_reducible rfl
                          rotate_left
                          · simp only [Act.put, List.setIfInBounds_toArray, List.set_cons_zero, List.set_cons_succ, i64_w, i32_w]
                            rfl
                          refine pure_ (i := 9) (N := some 49) (v := ?_) (a' := ?_) #[true, true, true, true, true, true, true, true, true, true, false, false, false, false, false, false, false, false, false, false, false, false, false, false, false, false, false] rfl rfl (any_of HT_.out (by kernel_rfl)) (fun _ _ _ h => h) (Or.inl ⟨by rfl, ?_⟩) ?_ ?_
                          rotate_left
                          · intro w'
                            go_simp
                            with_reducible rfl
                          rotate_left
                          · simp only [Act.put, List.setIfInBounds_toArray, List.set_cons_zero, List.set_cons_succ, i64_w, i32_w]
                            rfl
                          refine pure_ (i := 10) (N := some 50) (v := ?_) (a' := ?_) #[true, true, true, true, true, true, true, true, true, true, true, false, false, false, false, false, false, false, false, false, false, false, false, false, false, false, false] rfl rfl (any_of HT_.out (by kernel_rfl)) (fun _ _ _ h => h) (Or.inl ⟨by rfl, ?_⟩) ?_ ?_
                          rotate_left
                          · intro w'
                            go_simp
                            with_reducible rfl
                          rotate_left
                          · simp only [Act.put, List.setIfInBounds_toArray, List.set_cons_zero, List.set_cons_succ, i64_w, i32_w]
                            rfl
                          refine pure_ (i := 11) (N := some 51) (v := ?_) (a' := ?_) #[true, true, true, true, true, true, true, true, true, true, true, true, false, false, false, false, false, false, false, false, false, false, false, false, false, false, false] rfl rfl (any_of HT_.out (by kernel_rfl)) (fun _ _ _ h => h) (Or.inl ⟨by rfl, ?_⟩) ?_ ?_
                          rotate_left
                          · intro w'
                            go_simp
                            with_reducible rfl
                          rotate_left
                          · simp only [Act.put, List.setIfInBounds_toArray, List.set_cons_zero, List.set_cons_succ, i64_w, i32_w]
                            rfl
                          refine pure_ (i := 12) (N := some 52) (v := ?_) (a' := ?_) #[true, true, true, true, true, true, true, true, true, true, true, true, true, false, false, false, false, false, false, false, false, false, false, false, false, false, false] rfl rfl (any_of HT_.out (by kernel_rfl)) (fun _ _ _ h => h) (Or.inl ⟨by rfl, ?_⟩) ?_ ?_
                          rotate_left
                          · intro w'
                            go_simp
                            with_reducible rfl
                          rotate_left
                          · simp only [Act.put, List.setIfInBounds_toArray, List.set_cons_zero, List.set_cons_succ, i64_w, i32_w]
                            rfl
                          refine take_ (i := 13) (N := some 53) (v := ?_) (a' := ?_) #[true, true, true, true, true, true, true, true, true, true, true, true, true, true, false, false, false, false, false, false, false, false, false, false, false, false, false] rfl rfl (take_ofW HT_.out HW_.out (by kernel_rfl)) (fun _ _ _ h => h) (Or.inl ⟨by rfl, ?_⟩) hHeld ?_ ?_
                          rotate_left
                          · rintro w' ⟨s0, s1, s2, s3, s4, s5, s6, s7, s8, s9, s10, s11⟩
                            go_simp
                            with_reducible rfl
                          rotate_left
                          · simp only [Act.put, List.setIfInBounds_toArray, List.set_cons_zero, List.set_cons_succ, i64_w, i32_w]
                            rfl
                          refine pure_ (i := 14) (N := some 54) (v := ?_) (a' := ?_) #[true, true, true, true, true, true, true, true, true, true, true, true, true, true, true, false, false, false, false, false, false, false, false, false, false, false, false] rfl rfl (any_of HT_.out (by kernel_rfl)) (fun _ _ _ h => h) (Or.inl ⟨by rfl, ?_⟩) ?_ ?_
                          rotate_left
                          · intro w'
                            go_simp
                            with_reducible rfl
                          rotate_left
                          · simp only [Act.put, List.setIfInBounds_toArray, List.set_cons_zero, List.set_cons_succ, i64_w, i32_w]
                            rfl
                          refine pure_ (i := 15) (N := some 55) (v := ?_) (a' := ?_) #[true, true, true, true, true, true, true, true, true, true, true, true, true, true, true, true, false, false, false, false, false, false, false, false, false, false, false] rfl rfl (any_of HT_.out (by kernel_rfl)) (fun _ _ _ h => h) (Or.inl ⟨by rfl, ?_⟩) ?_ ?_
                          rotate_left
                          · intro w'
                            go_simp
                            with_reducible rfl
                          rotate_left
                          · simp only [Act.put, List.setIfInBounds_toArray, List.set_cons_zero, List.set_cons_succ, i64_w, i32_w]
                            rfl
                          refine pure_ (i := 16) (N := some 56) (v := ?_) (a' := ?_) #[true, true, true, true, true, true, true, true, true, true, true, true, true, true, true, true, true, false, false, false, false, false, false, false, false, false, false] rfl rfl (any_of HT_.out (by kernel_rfl)) (fun _ _ _ h => h) (Or.inl ⟨by rfl, ?_⟩) ?_ ?_
                          rotate_left
                          · intro w'
                            go_simp
                            with_reducible rfl
                          rotate_left
                          · simp only [Act.put, List.setIfInBounds_toArray, List.set_cons_zero, List.set_cons_succ, i64_w, i32_w]
                            rfl
                          refine pure_ (i := 17) (N := some 57) (v := undef) (a' := ?_) #[true, true, true, true, true, true, true, true, true, true, true, true, true, true, true, true, true, true, false, false, false, false, false, false, false, false, false] rfl rfl (any_of HT_.out (by kernel_rfl)) (fun _ _ _ h => h) (Or.inr ⟨by rfl, rfl⟩) ?_ ?_
                          rotate_left
                          · simp only [Act.put, List.setIfInBounds_toArray, List.set_cons_zero, List.set_cons_succ, i64_w, i32_w]
                            rfl
                          refine pure_ (i := 18) (N := some 58) (v := undef) (a' := ?_) #[true, true, true, true, true, true, true, true, true, true, true, true, true, true, true, true, true, true, true, false, false, false, false, false, false, false, false] rfl rfl (any_of HT_.out (by kernel_rfl)) (fun _ _ _ h => h) (Or.inr ⟨by rfl, rfl⟩) ?_ ?_
                          rotate_left
                          · simp only [Act.put, List.setIfInBounds_toArray, List.set_cons_zero, List.set_cons_succ, i64_w, i32_w]
                            rfl
                          refine pure_ (i := 19) (N := some 59) (v := undef) (a' := ?_) #[true, true, true, true, true, true, true, true, true, true, true, true, true, true, true, true, true, true, true, true, false, false, false, false, false, false, false] rfl rfl (any_of HT_.out (by kernel_rfl)) (fun _ _ _ h => h) (Or.inr ⟨by rfl, rfl⟩) ?_ ?_
                          rotate_left
                          · simp only [Act.put, List.setIfInBounds_toArray, List.set_cons_zero, List.set_cons_succ, i64_w, i32_w]
                            rfl
                          refine pure_ (i := 20) (N := some 60) (v := undef) (a' := ?_) #[true, true, true, true, true, true, true, true, true, true, true, true, true, true, true, true, true, true, true, true, true, false, false, false, false, false, false] rfl rfl (any_of HT_.out (by kernel_rfl)) (fun _ _ _ h => h) (Or.inr ⟨by rfl, rfl⟩) ?_ ?_
                          rotate_left
                          · simp only [Act.put, List.setIfInBounds_toArray, List.set_cons_zero, List.set_cons_succ, i64_w, i32_w]
                            rfl
                          refine pure_ (i := 21) (N := some 61) (v := undef) (a' := ?_) #[true, true, true, true, true, true, true, true, true, true, true, true, true, true, true, true, true, true, true, true, true, true, false, false, false, false, false] rfl rfl (any_of HT_.out (by kernel_rfl)) (fun _ _ _ h => h) (Or.inr ⟨by rfl, rfl⟩) ?_ ?_
                          rotate_left
                          · simp only [Act.put, List.setIfInBounds_toArray, List.set_cons_zero, List.set_cons_succ, i64_w, i32_w]
                            rfl
                          refine pure_ (i := 22) (N := some 62) (v := undef) (a' := ?_) #[true, true, true, true, true, true, true, true, true, true, true, true, true, true, true, true, true, true, true, true, true, true, true, false, false, false, false] rfl rfl (any_of HT_.out (by kernel_rfl)) (fun _ _ _ h => h) (Or.inr ⟨by rfl, rfl⟩) ?_ ?_
                          rotate_left
                          · simp only [Act.put, List.setIfInBounds_toArray, List.set_cons_zero, List.set_cons_succ, i64_w, i32_w]
                            rfl
                          refine pure_ (i := 23) (N := some 63) (v := undef) (a' := ?_) #[true, true, true, true, true, true, true, true, true, true, true, true, true, true, true, true, true, true, true, true, true, true, true, true, false, false, false] rfl rfl (any_of HT_.out (by kernel_rfl)) (fun _ _ _ h => h) (Or.inr ⟨by rfl, rfl⟩) ?_ ?_
                          rotate_left
                          · simp only [Act.put, List.setIfInBounds_toArray, List.set_cons_zero, List.set_cons_succ, i64_w, i32_w]
                            rfl
                          refine pure_ (i := 24) (N := some 64) (v := undef) (a' := ?_) #[true, true, true, true, true, true, true, true, true, true, true, true, true, true, true, true, true, true, true, true, true, true, true, true, true, false, false] rfl rfl (any_of HT_.out (by kernel_rfl)) (fun _ _ _ h => h) (Or.inr ⟨by rfl, rfl⟩) ?_ ?_
                          rotate_left
                          · simp only [Act.put, List.setIfInBounds_toArray, List.set_cons_zero, List.set_cons_succ, i64_w, i32_w]
                            rfl
                          refine pure_ (i := 25) (N := some 65) (v := undef) (a' := ?_) #[true, true, true, true, true, true, true, true, true, true, true, true, true, true, true, true, true, true, true, true, true, true, true, true, true, true, false] rfl rfl (any_of HT_.out (by kernel_rfl)) (fun _ _ _ h => h) (Or.inr ⟨by rfl, rfl⟩) ?_ ?_
                          rotate_left
                          · simp only [Act.put, List.setIfInBounds_toArray, List.set_cons_zero, List.set_cons_succ, i64_w, i32_w]
                            rfl
                          refine pure_ (i := 26) (N := some 66) (v := ?_) (a' := ?_) #[true, true, true, true, true, true, true, true, true, true, true, true, true, true, true, true, true, true, true, true, true, true, true, true, true, true, true] rfl rfl (any_of HT_.out (by kernel_rfl)) (fun _ _ _ h => h) (Or.inl ⟨by rfl, ?_⟩) ?_ ?_
                          rotate_left
                          · intro w'
                            go_simp
                            with_reducible rfl
                          rotate_left
                          · simp only [Act.put, List.setIfInBounds_toArray, List.set_cons_zero, List.set_cons_succ, i64_w, i32_w]
                            rfl
                          refine done_ (done_of HT_.out (by kernel_rfl)) ?_
                          try go_wp2
                          go_meet
                          case rel => exact ⟨_, (true), (by first | rfl | (simp; done) | (simp [*]; done)), H', ⟨by have := HK1.out; first | omega | exact Nat.le_refl _⟩, ⟨by (with_reducible repeat (first | refine blk_drewN ?_ _ | refine blk_drew ?_ | refine blk_alloc ?_ _)); exact BK301.out⟩, ⟨by repeat (first | (with_reducible first | exact HB.out | apply below_alloc | apply pw_below_drewN | apply below_drew1 | refine below_set ?_ GE301.out) | exact HB.out)⟩⟩
                        · rw [if_neg c24] at H
                          have c24b0 : decide (15 ≤ ((rd_T31 l0 (ji21)).f1)) = false := decide_eq_false c24
                          clear c24
                          replace H := Option.bind_eq_some_iff.mp H
                          obtain ⟨t309, A260, H⟩ := H
                          replace H : ((partitaref15_status.f ((rd_T31 l0 x5_1).f0) ((rd_T31 l0 x5_1).f1) ((rd_T31 l0 x5_1).f2) ((rd_T31 l0 x5_1).f3) ((rd_T31 l0 x5_1).f4) ((rd_T31 l0 x5_1).f5)).bind fun t310 => (partitaref15_Encode.j1 k1 l0 (x4_1 ++ t303) x5_1 t305 (t309 != t310) ((rd_T31 l0 x5_1).f0) ((rd_T31 l0 x5_1).f1) ((rd_T31 l0 x5_1).f2) ((rd_T31 l0 x5_1).f3) ((rd_T31 l0 x5_1).f4) ((rd_T31 l0 x5_1).f5))) = some (r1, r2) := H
                          have A26 := Aside0.mk A260
                          clear A260
                          replace H := Option.bind_eq_some_iff.mp H
                          obtain ⟨t310, A270, H⟩ := H
                          replace H : (partitaref15_Encode.j1 k1 l0 (x4_1 ++ t303) x5_1 t305 (t309 != t310) ((rd_T31 l0 x5_1).f0) ((rd_T31 l0 x5_1).f1) ((rd_T31 l0 x5_1).f2) ((rd_T31 l0 x5_1).f3) ((rd_T31 l0 x5_1).f4) ((rd_T31 l0 x5_1).f5)) = some (r1, r2) := H
                          have A27 := Aside0.mk A270
                          clear A270
                          have H' := Aside0.mk H
                          clear H
                          try go_wp2
                          have n0_ := Aside0.mk (blk_drew BK301.out)
                          have n1_ := Aside0.mk (below_drew1 HB.out)
                          clear BK301
                          clear HB
                          have BK301 := n0_
                          have HB := n1_
                          clear n0_ n1_
                          have p307 : 0 ≤ ((ji21) : Int) := of_decide_eq_true (by first | (with_reducible assumption) | assumption)
                          have q307 : (ji21) < (l0.length : Int) := of_decide_eq_true (by first | (with_reducible assumption) | assumption)
                          obtain ⟨ad307, e307, hx307_0, hx307_1, hx307_2, hx307_3, hx307_4, hx307_5⟩ := at_T31 HR0.out (ji21) p307 q307
                          have hw307_5 := hx307_5
                          have hw307_4 := hx307_4
                          have hw307_3 := hx307_3
                          have hw307_2 := hx307_2
                          have hw307_1 := hx307_1
                          have hw307_0 := hx307_0
                          obtain rfl : ad300 = ad307 := (by injection e307)
                          replace hx307_0 := (HB.out.cell (World.block_lt_of_cell? w _ hx307_0)).trans hx307_0
                          replace hx307_1 := (HB.out.cell (World.block_lt_of_cell? w _ hx307_1)).trans hx307_1
                          replace hx307_2 := (HB.out.cell (World.block_lt_of_cell? w _ hx307_2)).trans hx307_2
                          replace hx307_3 := (HB.out.cell (World.block_lt_of_cell? w _ hx307_3)).trans hx307_3
                          replace hx307_4 := (HB.out.cell (World.block_lt_of_cell? w _ hx307_4)).trans hx307_4
                          replace hx307_5 := (HB.out.cell (World.block_lt_of_cell? w _ hx307_5)).trans hx307_5
                          replace p307 := eq_true p307
                          replace q307 := eq_true q307
                          have p308 : 0 ≤ ((ji21) : Int) := of_decide_eq_true (by first | (with_reducible assumption) | assumption)
                          have q308 : (ji21) < (l0.length : Int) := of_decide_eq_true (by first | (with_reducible assumption) | assumption)
                          obtain ⟨ad308, e308, hx308_0, hx308_1, hx308_2, hx308_3, hx308_4, hx308_5⟩ := at_T31 HR0.out (ji21) p308 q308
                          have hw308_5 := hx308_5
                          have hw308_4 := hx308_4
                          have hw308_3 := hx308_3
                          have hw308_2 := hx308_2
                          have hw308_1 := hx308_1
                          have hw308_0 := hx308_0
                          obtain rfl : ad300 = ad308 := (by injection e308)
                          replace hx308_0 := (HB.out.cell (World.block_lt_of_cell? w _ hx308_0)).trans hx308_0
                          replace hx308_1 := (HB.out.cell (World.block_lt_of_cell? w _ hx308_1)).trans hx308_1
                          replace hx308_2 := (HB.out.cell (World.block_lt_of_cell? w _ hx308_2)).trans hx308_2
                          replace hx308_3 := (HB.out.cell (World.block_lt_of_cell? w _ hx308_3)).trans hx308_3
                          replace hx308_4 := (HB.out.cell (World.block_lt_of_cell? w _ hx308_4)).trans hx308_4
                          replace hx308_5 := (HB.out.cell (World.block_lt_of_cell? w _ hx308_5)).trans hx308_5
                          replace p308 := eq_true p308
                          replace q308 := eq_true q308
                          refine start_ (n := 27) (S := fun w' => w'.cell? ⟨gb301, 0, none⟩ = some (.int .i64 ((rd_T31 l0 x5_1).f0)) ∧ w'.cell? ⟨gb301, 1, none⟩ = some (.int .i64 ((rd_T31 l0 x5_1).f1)) ∧ w'.cell? ⟨gb301, 2, none⟩ = some (.int .i64 ((rd_T31 l0 x5_1).f2)) ∧ w'.cell? ⟨gb301, 3, none⟩ = some (.int .i64 ((rd_T31 l0 x5_1).f3)) ∧ w'.cell? ⟨gb301, 4, none⟩ = some (.int .i64 ((rd_T31 l0 x5_1).f4)) ∧ w'.cell? ⟨gb301, 5, none⟩ = some (.string ((rd_T31 l0 x5_1).f5)) ∧ w'.cell? (ad300.add (((ji21)).toNat * 6)) = some (.int .i64 ((rd_T31 l0 (ji21)).f0)) ∧ w'.cell? ⟨(ad300.add (((ji21)).toNat * 6)).block, (ad300.add (((ji21)).toNat * 6)).off + 1, none⟩ = some (.int .i64 ((rd_T31 l0 (ji21)).f1)) ∧ w'.cell? ⟨(ad300.add (((ji21)).toNat * 6)).block, (ad300.add (((ji21)).toNat * 6)).off + 2, none⟩ = some (.int .i64 ((rd_T31 l0 (ji21)).f2)) ∧ w'.cell? ⟨(ad300.add (((ji21)).toNat * 6)).block, (ad300.add (((ji21)).toNat * 6)).off + 3, none⟩ = some (.int .i64 ((rd_T31 l0 (ji21)).f3)) ∧ w'.cell? ⟨(ad300.add (((ji21)).toNat * 6)).block, (ad300.add (((ji21)).toNat * 6)).off + 4, none⟩ = some (.int .i64 ((rd_T31 l0 (ji21)).f4)) ∧ w'.cell? ⟨(ad300.add (((ji21)).toNat * 6)).block, (ad300.add (((ji21)).toNat * 6)).off + 5, none⟩ = some (.string ((rd_T31 l0 (ji21)).f5)) ∧ w'.cell? (ad300.add (((ji21)).toNat * 6)) = some (.int .i64 ((rd_T31 l0 (ji21)).f0)) ∧ w'.cell? ⟨(ad300.add (((ji21)).toNat * 6)).block, (ad300.add (((ji21)).toNat * 6)).off + 1, none⟩ = some (.int .i64 ((rd_T31 l0 (ji21)).f1)) ∧ w'.cell? ⟨(ad300.add (((ji21)).toNat * 6)).block, (ad300.add (((ji21)).toNat * 6)).off + 2, none⟩ = some (.int .i64 ((rd_T31 l0 (ji21)).f2)) ∧ w'.cell? ⟨(ad300.add (((ji21)).toNat * 6)).block, (ad300.add (((ji21)).toNat * 6)).off + 3, none⟩ = some (.int .i64 ((rd_T31 l0 (ji21)).f3)) ∧ w'.cell? ⟨(ad300.add (((ji21)).toNat * 6)).block, (ad300.add (((ji21)).toNat * 6)).off + 4, none⟩ = some (.int .i64 ((rd_T31 l0 (ji21)).f4)) ∧ w'.cell? ⟨(ad300.add (((ji21)).toNat * 6)).block, (ad300.add (((ji21)).toNat * 6)).off + 5, none⟩ = some (.string ((rd_T31 l0 (ji21)).f5))) (ds := []) #[false, false, false, false, false, false, false, false, false, false, false, false, false, false, false, false, false, false, false, false, false, false, false, false, false, false, false] (by kernel_rfl) rfl rfl ⟨(blk_cell BK301.out 0).trans rfl, (blk_cell BK301.out 1).trans rfl, (blk_cell BK301.out 2).trans rfl, (blk_cell BK301.out 3).trans rfl, (blk_cell BK301.out 4).trans rfl, (blk_cell BK301.out 5).trans rfl, ((HB.out.cell (World.block_lt_of_cell? w _ hw307_0)).trans hw307_0), ((HB.out.cell (World.block_lt_of_cell? w _ hw307_1)).trans hw307_1), ((HB.out.cell (World.block_lt_of_cell? w _ hw307_2)).trans hw307_2), ((HB.out.cell (World.block_lt_of_cell? w _ hw307_3)).trans hw307_3), ((HB.out.cell (World.block_lt_of_cell? w _ hw307_4)).trans hw307_4), ((HB.out.cell (World.block_lt_of_cell? w _ hw307_5)).trans hw307_5), ((HB.out.cell (World.block_lt_of_cell? w _ hw308_0)).trans hw308_0), ((HB.out.cell (World.block_lt_of_cell? w _ hw308_1)).trans hw308_1), ((HB.out.cell (World.block_lt_of_cell? w _ hw308_2)).trans hw308_2), ((HB.out.cell (World.block_lt_of_cell? w _ hw308_3)).trans hw308_3), ((HB.out.cell (World.block_lt_of_cell? w _ hw308_4)).trans hw308_4), ((HB.out.cell (World.block_lt_of_cell? w _ hw308_5)).trans hw308_5)⟩ (fun hHeld => ?_); refine with_tabW partitaref15_Encode.tab11 partitaref15_Encode.bits11 (fun HT_ HW_ => ?_)
                          generalize w16.drew = w28 at BK301 HB hx307_0 hx307_1 hx307_2 hx307_3 hx307_4 hx307_5 hx308_0 hx308_1 hx308_2 hx308_3 hx308_4 hx308_5 hHeld ⊢
                          refine pure_ (i := 0) (N := some 40) (v := ?_) (a' := ?_) #[true, false, false, false, false, false, false, false, false, false, false, false, false, false, false, false, false, false, false, false, false, false, false, false, false, false, false] rfl rfl (any_of HT_.out (by kernel_rfl)) (fun _ _ _ h => h) (Or.inl ⟨by rfl, ?_⟩) ?_ ?_
                          rotate_left
                          · intro w'
                            go_simp
                            with_reducible rfl
                          rotate_left
                          · simp only [Act.put, List.setIfInBounds_toArray, List.set_cons_zero, List.set_cons_succ, i64_w, i32_w]
                            rfl
                          refine take_ (i := 1) (N := some 41) (v := ?_) (a' := ?_) #[true, true, false, false, false, false, false, false, false, false, false, false, false, false, false, false, false, false, false, false, false, false, false, false, false, false, false] rfl rfl (take_ofW HT_.out HW_.out (by kernel_rfl)) (fun _ _ _ h => h) (Or.inl ⟨by rfl, ?_⟩) hHeld ?_ ?_
                          rotate_left
                          · rintro w' ⟨s0, s1, s2, s3, s4, s5, s6, s7, s8, s9, s10, s11, s12, s13, s14, s15, s16, s17⟩
                            go_simp
                            with_reducible rfl
                          rotate_left
                          · simp only [Act.put, List.setIfInBounds_toArray, List.set_cons_zero, List.set_cons_succ, i64_w, i32_w]
                            rfl
                          refine pure_ (i := 2) (N := some 42) (v := ?_) (a' := ?_) #[true, true, true, false, false, false, false, false, false, false, false, false, false, false, false, false, false, false, false, false, false, false, false, false, false, false, false] rfl rfl (any_of HT_.out (by kernel_rfl)) (fun _ _ _ h => h) (Or.inl ⟨by rfl, ?_⟩) ?_ ?_
                          rotate_left
                          · intro w'
                            go_simp
                            with_reducible rfl
                          rotate_left
                          · simp only [Act.put, List.setIfInBounds_toArray, List.set_cons_zero, List.set_cons_succ, i64_w, i32_w]
                            rfl
                          refine pure_ (i := 3) (N := some 43) (v := ?_) (a' := ?_) #[true, true, true, true, false, false, false, false, false, false, false, false, false, false, false, false, false, false, false, false, false, false, false, false, false, false, false] rfl rfl (any_of HT_.out (by kernel_rfl)) (fun _ _ _ h => h) (Or.inl ⟨by rfl, ?_⟩) ?_ ?_
                          rotate_left
                          · intro w'
                            go_simp
                            with_reducible rfl
                          rotate_left
                          · simp only [Act.put, List.setIfInBounds_toArray, List.set_cons_zero, List.set_cons_succ, i64_w, i32_w]
                            rfl
                          refine pure_ (i := 4) (N := some 44) (v := ?_) (a' := ?_) #[true, true, true, true, true, false, false, false, false, false, false, false, false, false, false, false, false, false, false, false, false, false, false, false, false, false, false] rfl rfl (any_of HT_.out (by kernel_rfl)) (fun _ _ _ h => h) (Or.inl ⟨by rfl, ?_⟩) ?_ ?_
                          rotate_left
                          · intro w'
                            go_simp
                            with_reducible rfl
                          rotate_left
                          · simp only [Act.put, List.setIfInBounds_toArray, List.set_cons_zero, List.set_cons_succ, i64_w, i32_w]
                            rfl
                          refine pure_ (i := 5) (N := some 45) (v := ?_) (a' := ?_) #[true, true, true, true, true, true, false, false, false, false, false, false, false, false, false, false, false, false, false, false, false, false, false, false, false, false, false] rfl rfl (any_of HT_.out (by kernel_rfl)) (fun _ _ _ h => h) (Or.inl ⟨by rfl, ?_⟩) ?_ ?_
                          rotate_left
                          · intro w'
                            go_simp
                            with_reducible rfl
                          rotate_left
                          · simp only [Act.put, List.setIfInBounds_toArray, List.set_cons_zero, List.set_cons_succ, i64_w, i32_w]
                            rfl
                          refine pure_ (i := 6) (N := some 46) (v := ?_) (a' := ?_) #[true, true, true, true, true, true, true, false, false, false, false, false, false, false, false, false, false, false, false, false, false, false, false, false, false, false, false] rfl rfl (any_of HT_.out (by kernel_rfl)) (fun _ _ _ h => h) (Or.inl ⟨by rfl, ?_⟩) ?_ ?_
                          rotate_left
                          · intro w'
                            go_simp
                            with_reducible rfl
                          rotate_left
                          · simp only [Act.put, List.setIfInBounds_toArray, List.set_cons_zero, List.set_cons_succ, i64_w, i32_w]
                            rfl
                          refine pure_ (i := 7) (N := some 47) (v := ?_) (a' := ?_) #[true, true, true, true, true, true, true, true, false, false, false, false, false, false, false, false, false, false, false, false, false, false, false, false, false, false, false] rfl rfl (any_of HT_.out (by kernel_rfl)) (fun _ _ _ h => h) (Or.inl ⟨by rfl, ?_⟩) ?_ ?_
                          rotate_left
                          · intro w'
                            go_simp
                            with_reducible rfl
                          rotate_left
                          · simp only [Act.put, List.setIfInBounds_toArray, List.set_cons_zero, List.set_cons_succ, i64_w, i32_w]
                            rfl
                          refine pure_ (i := 8) (N := some 48) (v := ?_) (a' := ?_) #[true, true, true, true, true, true, true, true, true, false, false, false, false, false, false, false, false, false, false, false, false, false, false, false, false, false, false] rfl rfl (any_of HT_.out (by kernel_rfl)) (fun _ _ _ h => h) (Or.inl ⟨by rfl, ?_⟩) ?_ ?_
                          rotate_left
                          · intro w'
                            go_simp
                            with_reducible rfl
                          rotate_left
                          · simp only [Act.put, List.setIfInBounds_toArray, List.set_cons_zero, List.set_cons_succ, i64_w, i32_w]
                            rfl
                          refine pure_ (i := 9) (N := some 49) (v := ?_) (a' := ?_) #[true, true, true, true, true, true, true, true, true, true, false, false, false, false, false, false, false, false, false, false, false, false, false, false, false, false, false] rfl rfl (any_of HT_.out (by kernel_rfl)) (fun _ _ _ h => h) (Or.inl ⟨by rfl, ?_⟩) ?_ ?_
                          rotate_left
                          · intro w'
                            go_simp
                            with_reducible rfl
                          rotate_left
                          · simp only [Act.put, List.setIfInBounds_toArray, List.set_cons_zero, List.set_cons_succ, i64_w, i32_w]
                            rfl
                          refine pure_ (i := 10) (N := some 50) (v := ?_) (a' := ?_) #[true, true, true, true, true, true, true, true, true, true, true, false, false, false, false, false, false, false, false, false, false, false, false, false, false, false, false] rfl rfl (any_of HT_.out (by kernel_rfl)) (fun _ _ _ h => h) (Or.inl ⟨by rfl, ?_⟩) ?_ ?_
                          rotate_left
                          · intro w'
                            go_simp
                            with_reducible rfl
                          rotate_left
                          · simp only [Act.put, List.setIfInBounds_toArray, List.set_cons_zero, List.set_cons_succ, i64_w, i32_w]
                            rfl
                          refine pure_ (i := 11) (N := some 51) (v := ?_) (a' := ?_) #[true, true, true, true, true, true, true, true, true, true, true, true, false, false, false, false, false, false, false, false, false, false, false, false, false, false, false] rfl rfl (any_of HT_.out (by kernel_rfl)) (fun _ _ _ h => h) (Or.inl ⟨by rfl, ?_⟩) ?_ ?_
                          rotate_left
                          · intro w'
                            go_simp
                            with_reducible rfl
                          rotate_left
                          · simp only [Act.put, List.setIfInBounds_toArray, List.set_cons_zero, List.set_cons_succ, i64_w, i32_w]
                            rfl
                          refine pure_ (i := 12) (N := some 52) (v := ?_) (a' := ?_) #[true, true, true, true, true, true, true, true, true, true, true, true, true, false, false, false, false, false, false, false, false, false, false, false, false, false, false] rfl rfl (any_of HT_.out (by kernel_rfl)) (fun _ _ _ h => h) (Or.inl ⟨by rfl, ?_⟩) ?_ ?_
                          rotate_left
                          · intro w'
                            go_simp
                            with_reducible rfl
                          rotate_left
                          · simp only [Act.put, List.setIfInBounds_toArray, List.set_cons_zero, List.set_cons_succ, i64_w, i32_w]
                            rfl
                          refine take_ (i := 13) (N := some 53) (v := ?_) (a' := ?_) #[true, true, true, true, true, true, true, true, true, true, true, true, true, true, false, false, false, false, false, false, false, false, false, false, false, false, false] rfl rfl (take_ofW HT_.out HW_.out (by kernel_rfl)) (fun _ _ _ h => h) (Or.inl ⟨by rfl, ?_⟩) hHeld ?_ ?_
                          rotate_left
                          · rintro w' ⟨s0, s1, s2, s3, s4, s5, s6, s7, s8, s9, s10, s11, s12, s13, s14, s15, s16, s17⟩
                            go_simp
                            with_reducible rfl
                          rotate_left
                          · simp only [Act.put, List.setIfInBounds_toArray, List.set_cons_zero, List.set_cons_succ, i64_w, i32_w]
                            rfl
                          refine pure_ (i := 14) (N := some 54) (v := ?_) (a' := ?_) #[true, true, true, true, true, true, true, true, true, true, true, true, true, true, true, false, false, false, false, false, false, false, false, false, false, false, false] rfl rfl (any_of HT_.out (by kernel_rfl)) (fun _ _ _ h => h) (Or.inl ⟨by rfl, ?_⟩) ?_ ?_
                          rotate_left
                          · intro w'
                            go_simp
                            with_reducible rfl
                          rotate_left
                          · simp only [Act.put, List.setIfInBounds_toArray, List.set_cons_zero, List.set_cons_succ, i64_w, i32_w]
                            rfl
                          refine pure_ (i := 15) (N := some 55) (v := ?_) (a' := ?_) #[true, true, true, true, true, true, true, true, true, true, true, true, true, true, true, true, false, false, false, false, false, false, false, false, false, false, false] rfl rfl (any_of HT_.out (by kernel_rfl)) (fun _ _ _ h => h) (Or.inl ⟨by rfl, ?_⟩) ?_ ?_
                          rotate_left
                          · intro w'
                            go_simp
                            with_reducible rfl
                          rotate_left
                          · simp only [Act.put, List.setIfInBounds_toArray, List.set_cons_zero, List.set_cons_succ, i64_w, i32_w]
                            rfl
                          refine pure_ (i := 16) (N := some 56) (v := ?_) (a' := ?_) #[true, true, true, true, true, true, true, true, true, true, true, true, true, true, true, true, true, false, false, false, false, false, false, false, false, false, false] rfl rfl (any_of HT_.out (by kernel_rfl)) (fun _ _ _ h => h) (Or.inl ⟨by rfl, ?_⟩) ?_ ?_
                          rotate_left
                          · intro w'
                            go_simp
                            with_reducible rfl
                          rotate_left
                          · simp only [Act.put, List.setIfInBounds_toArray, List.set_cons_zero, List.set_cons_succ, i64_w, i32_w]
                            rfl
                          refine pure_ (i := 17) (N := some 57) (v := ?_) (a' := ?_) #[true, true, true, true, true, true, true, true, true, true, true, true, true, true, true, true, true, true, false, false, false, false, false, false, false, false, false] rfl rfl (any_of HT_.out (by kernel_rfl)) (fun _ _ _ h => h) (Or.inl ⟨by rfl, ?_⟩) ?_ ?_
                          rotate_left
                          · intro w'
                            go_simp
                            with_reducible rfl
                          rotate_left
                          · simp only [Act.put, List.setIfInBounds_toArray, List.set_cons_zero, List.set_cons_succ, i64_w, i32_w]
                            rfl
                          refine pure_ (i := 18) (N := some 58) (v := ?_) (a' := ?_) #[true, true, true, true, true, true, true, true, true, true, true, true, true, true, true, true, true, true, true, false, false, false, false, false, false, false, false] rfl rfl (any_of HT_.out (by kernel_rfl)) (fun _ _ _ h => h) (Or.inl ⟨by rfl, ?_⟩) ?_ ?_
                          rotate_left
                          · intro w'
                            go_simp
                            with_reducible rfl
                          rotate_left
                          · simp only [Act.put, List.setIfInBounds_toArray, List.set_cons_zero, List.set_cons_succ, i64_w, i32_w]
                            rfl
                          refine pure_ (i := 19) (N := some 59) (v := ?_) (a' := ?_) #[true, true, true, true, true, true, true, true, true, true, true, true, true, true, true, true, true, true, true, true, false, false, false, false, false, false, false] rfl rfl (any_of HT_.out (by kernel_rfl)) (fun _ _ _ h => h) (Or.inl ⟨by rfl, ?_⟩) ?_ ?_
                          rotate_left
                          · intro w'
                            go_simp
                            with_reducible rfl
                          rotate_left
                          · simp only [Act.put, List.setIfInBounds_toArray, List.set_cons_zero, List.set_cons_succ, i64_w, i32_w]
                            rfl
                          refine pure_ (i := 20) (N := some 60) (v := ?_) (a' := ?_) #[true, true, true, true, true, true, true, true, true, true, true, true, true, true, true, true, true, true, true, true, true, false, false, false, false, false, false] rfl rfl (any_of HT_.out (by kernel_rfl)) (fun _ _ _ h => h) (Or.inl ⟨by rfl, ?_⟩) ?_ ?_
                          rotate_left
                          · intro w'
                            go_simp
                            with_reducible rfl
                          rotate_left
                          · simp only [Act.put, List.setIfInBounds_toArray, List.set_cons_zero, List.set_cons_succ, i64_w, i32_w]
                            rfl
                          refine take_ (i := 21) (N := some 61) (v := ?_) (a' := ?_) #[true, true, true, true, true, true, true, true, true, true, true, true, true, true, true, true, true, true, true, true, true, true, false, false, false, false, false] rfl rfl (take_ofW HT_.out HW_.out (by kernel_rfl)) (fun _ _ _ h => h) (Or.inl ⟨by rfl, ?_⟩) hHeld ?_ ?_
                          rotate_left
                          · rintro w' ⟨s0, s1, s2, s3, s4, s5, s6, s7, s8, s9, s10, s11, s12, s13, s14, s15, s16, s17⟩
                            go_simp
                            with_reducible rfl
                          rotate_left
                          · simp only [Act.put, List.setIfInBounds_toArray, List.set_cons_zero, List.set_cons_succ, i64_w, i32_w]
                            rfl
                          refine take_ (i := 23) (N := some 63) (v := ?_) (a' := ?_) #[true, true, true, true, true, true, true, true, true, true, true, true, true, true, true, true, true, true, true, true, true, true, false, true, false, false, false] rfl rfl (take_ofW HT_.out HW_.out (by kernel_rfl)) (fun _ _ _ h => h) (Or.inl ⟨by rfl, ?_⟩) hHeld ?_ ?_
                          rotate_left
                          · rintro w' ⟨s0, s1, s2, s3, s4, s5, s6, s7, s8, s9, s10, s11, s12, s13, s14, s15, s16, s17⟩
                            go_simp
                            with_reducible rfl
                          rotate_left
                          · simp only [Act.put, List.setIfInBounds_toArray, List.set_cons_zero, List.set_cons_succ, i64_w, i32_w]
                            rfl
                          refine one_ (i := 22) (N := some 62) #[true, true, true, true, true, true, true, true, true, true, true, true, true, true, true, true, true, true, true, true, true, true, true, true, false, false, false] rfl rfl (one_of HT_.out (by kernel_rfl)) (by decide) (fun K hK => ?_)
                          refine goes_ Try.func31 (by kernel_rfl) rfl #[.agg #[.int .i64 ((rd_T31 l0 (ji21)).f0), .int .i64 ((rd_T31 l0 (ji21)).f1), .int .i64 ((rd_T31 l0 (ji21)).f2), .int .i64 ((rd_T31 l0 (ji21)).f3), .int .i64 ((rd_T31 l0 (ji21)).f4), .string ((rd_T31 l0 (ji21)).f5)]] (by rfl) rfl rfl (by (try simp only [List.map_toArray, List.map_cons, List.map_nil]); first | done | (simp only [hji21]; rfl) | rfl | (simp only [List.length_drop, List.length_take]; rfl)) ?_
                          with_reducible refine (partitaref15_status.calls ((rd_T31 l0 (ji21)).f0) ((rd_T31 l0 (ji21)).f1) ((rd_T31 l0 (ji21)).f2) ((rd_T31 l0 (ji21)).f3) ((rd_T31 l0 (ji21)).f4) ((rd_T31 l0 (ji21)).f5) t309 _ A26.out).mono ?_
                          rintro e w29 ⟨rfl, hb⟩
                          refine ⟨_, rfl, ?_⟩
                          have n0_ := Aside0.mk (blk_below (g := gb301) (o := .cells #[.int .i64 ((rd_T31 l0 x5_1).f0), .int .i64 ((rd_T31 l0 x5_1).f1), .int .i64 ((rd_T31 l0 x5_1).f2), .int .i64 ((rd_T31 l0 x5_1).f3), .int .i64 ((rd_T31 l0 x5_1).f4), .string ((rd_T31 l0 x5_1).f5)] 31 (0, 0)) (by (with_reducible repeat (first | refine blk_drewN ?_ _ | refine blk_drew ?_ | refine blk_alloc ?_ _)); exact BK301.out) hb)
                          have n1_ := Aside0.mk (below_step (by repeat (first | (with_reducible first | exact HB.out | apply below_alloc | apply pw_below_drewN | apply below_drew1 | refine below_set ?_ GE301.out) | exact HB.out)) hb)
                          clear BK301
                          clear HB
                          have BK301 := n0_
                          have HB := n1_
                          clear n0_ n1_
                          (try clear hb)
                          (try clear hb2)
                          (try clear hk)
                          (try clear hi)
                          refine hK.out _ _ ⟨(blk_cell BK301.out 0).trans rfl, (blk_cell BK301.out 1).trans rfl, (blk_cell BK301.out 2).trans rfl, (blk_cell BK301.out 3).trans rfl, (blk_cell BK301.out 4).trans rfl, (blk_cell BK301.out 5).trans rfl, ((HB.out.cell (World.block_lt_of_cell? w _ hw307_0)).trans hw307_0), ((HB.out.cell (World.block_lt_of_cell? w _ hw307_1)).trans hw307_1), ((HB.out.cell (World.block_lt_of_cell? w _ hw307_2)).trans hw307_2), ((HB.out.cell (World.block_lt_of_cell? w _ hw307_3)).trans hw307_3), ((HB.out.cell (World.block_lt_of_cell? w _ hw307_4)).trans hw307_4), ((HB.out.cell (World.block_lt_of_cell? w _ hw307_5)).trans hw307_5), ((HB.out.cell (World.block_lt_of_cell? w _ hw308_0)).trans hw308_0), ((HB.out.cell (World.block_lt_of_cell? w _ hw308_1)).trans hw308_1), ((HB.out.cell (World.block_lt_of_cell? w _ hw308_2)).trans hw308_2), ((HB.out.cell (World.block_lt_of_cell? w _ hw308_3)).trans hw308_3), ((HB.out.cell (World.block_lt_of_cell? w _ hw308_4)).trans hw308_4), ((HB.out.cell (World.block_lt_of_cell? w _ hw308_5)).trans hw308_5)⟩ (fun hHeld => ?_)
                          clear hK K
                          refine norm_ (a' := ?_) ?_ ?_
                          rotate_left
                          · show Act.put _ (some 62) _ = _
                            simp only [Act.put, List.setIfInBounds_toArray, List.set_cons_zero, List.set_cons_succ, i64_w, i32_w]
                            rfl
                          refine one_ (i := 24) (N := some 64) #[true, true, true, true, true, true, true, true, true, true, true, true, true, true, true, true, true, true, true, true, true, true, true, true, true, false, false] rfl rfl (one_of HT_.out (by kernel_rfl)) (by decide) (fun K hK => ?_)
                          refine goes_ Try.func31 (by kernel_rfl) rfl #[.agg #[.int .i64 ((rd_T31 l0 x5_1).f0), .int .i64 ((rd_T31 l0 x5_1).f1), .int .i64 ((rd_T31 l0 x5_1).f2), .int .i64 ((rd_T31 l0 x5_1).f3), .int .i64 ((rd_T31 l0 x5_1).f4), .string ((rd_T31 l0 x5_1).f5)]] (by rfl) rfl rfl (by (try simp only [List.map_toArray, List.map_cons, List.map_nil]); first | done | rfl | (simp only [List.length_drop, List.length_take]; rfl)) ?_
                          with_reducible refine (partitaref15_status.calls ((rd_T31 l0 x5_1).f0) ((rd_T31 l0 x5_1).f1) ((rd_T31 l0 x5_1).f2) ((rd_T31 l0 x5_1).f3) ((rd_T31 l0 x5_1).f4) ((rd_T31 l0 x5_1).f5) t310 _ A27.out).mono ?_
                          rintro e w30 ⟨rfl, hb⟩
                          refine ⟨_, rfl, ?_⟩
                          have n0_ := Aside0.mk (blk_below (g := gb301) (o := .cells #[.int .i64 ((rd_T31 l0 x5_1).f0), .int .i64 ((rd_T31 l0 x5_1).f1), .int .i64 ((rd_T31 l0 x5_1).f2), .int .i64 ((rd_T31 l0 x5_1).f3), .int .i64 ((rd_T31 l0 x5_1).f4), .string ((rd_T31 l0 x5_1).f5)] 31 (0, 0)) (by (with_reducible repeat (first | refine blk_drewN ?_ _ | refine blk_drew ?_ | refine blk_alloc ?_ _)); exact BK301.out) hb)
                          have n1_ := Aside0.mk (below_step (by repeat (first | (with_reducible first | exact HB.out | apply below_alloc | apply pw_below_drewN | apply below_drew1 | refine below_set ?_ GE301.out) | exact HB.out)) hb)
                          clear BK301
                          clear HB
                          have BK301 := n0_
                          have HB := n1_
                          clear n0_ n1_
                          (try clear hb)
                          (try clear hb2)
                          (try clear hk)
                          (try clear hi)
                          refine hK.out _ _ ⟨(blk_cell BK301.out 0).trans rfl, (blk_cell BK301.out 1).trans rfl, (blk_cell BK301.out 2).trans rfl, (blk_cell BK301.out 3).trans rfl, (blk_cell BK301.out 4).trans rfl, (blk_cell BK301.out 5).trans rfl, ((HB.out.cell (World.block_lt_of_cell? w _ hw307_0)).trans hw307_0), ((HB.out.cell (World.block_lt_of_cell? w _ hw307_1)).trans hw307_1), ((HB.out.cell (World.block_lt_of_cell? w _ hw307_2)).trans hw307_2), ((HB.out.cell (World.block_lt_of_cell? w _ hw307_3)).trans hw307_3), ((HB.out.cell (World.block_lt_of_cell? w _ hw307_4)).trans hw307_4), ((HB.out.cell (World.block_lt_of_cell? w _ hw307_5)).trans hw307_5), ((HB.out.cell (World.block_lt_of_cell? w _ hw308_0)).trans hw308_0), ((HB.out.cell (World.block_lt_of_cell? w _ hw308_1)).trans hw308_1), ((HB.out.cell (World.block_lt_of_cell? w _ hw308_2)).trans hw308_2), ((HB.out.cell (World.block_lt_of_cell? w _ hw308_3)).trans hw308_3), ((HB.out.cell (World.block_lt_of_cell? w _ hw308_4)).trans hw308_4), ((HB.out.cell (World.block_lt_of_cell? w _ hw308_5)).trans hw308_5)⟩ (fun hHeld => ?_)
                          clear hK K
                          refine norm_ (a' := ?_) ?_ ?_
                          rotate_left
                          · show Act.put _ (some 64) _ = _
                            simp only [Act.put, List.setIfInBounds_toArray, List.set_cons_zero, List.set_cons_succ, i64_w, i32_w]
                            rfl
                          refine pure_ (i := 25) (N := some 65) (v := ?_) (a' := ?_) #[true, true, true, true, true, true, true, true, true, true, true, true, true, true, true, true, true, true, true, true, true, true, true, true, true, true, false] rfl rfl (any_of HT_.out (by kernel_rfl)) (fun _ _ _ h => h) (Or.inl ⟨by rfl, ?_⟩) ?_ ?_
                          rotate_left
                          · intro w'
                            go_simp
                            with_reducible rfl
                          rotate_left
                          · simp only [Act.put, List.setIfInBounds_toArray, List.set_cons_zero, List.set_cons_succ, i64_w, i32_w]
                            rfl
                          refine pure_ (i := 26) (N := some 66) (v := ?_) (a' := ?_) #[true, true, true, true, true, true, true, true, true, true, true, true, true, true, true, true, true, true, true, true, true, true, true, true, true, true, true] rfl rfl (any_of HT_.out (by kernel_rfl)) (fun _ _ _ h => h) (Or.inl ⟨by rfl, ?_⟩) ?_ ?_
                          rotate_left
                          · intro w'
                            go_simp
                            with_reducible rfl
                          rotate_left
                          · simp only [Act.put, List.setIfInBounds_toArray, List.set_cons_zero, List.set_cons_succ, i64_w, i32_w]
                            rfl
                          refine done_ (done_of HT_.out (by kernel_rfl)) ?_
                          try go_wp2
                          go_meet
                          case rel => exact ⟨_, ((t309 != t310)), (by first | rfl | (simp; done) | (simp [*]; done)), H', ⟨by have := HK1.out; first | omega | exact Nat.le_refl _⟩, ⟨by (with_reducible repeat (first | refine blk_drewN ?_ _ | refine blk_drew ?_ | refine blk_alloc ?_ _)); exact BK301.out⟩, ⟨by repeat (first | (with_reducible first | exact HB.out | apply below_alloc | apply pw_below_drewN | apply below_drew1 | refine below_set ?_ GE301.out) | exact HB.out)⟩⟩
                      · rw [if_neg c23] at H
                        exact absurd H (by simp)
                    · rw [if_neg c22] at H
                      exact absurd H (by simp)
              case rest =>
                clear HC9
                try clear c1
                try clear c2
                try clear p2
                try clear c3
                try clear p3
                try clear q3
                try clear hx3
                try clear p6
                try clear c19
                try clear c19b0
                try clear c19b1
                try clear c22
                try clear c22b0
                try clear c23
                try clear c23b0
                try clear c24
                try clear c24b0
                try clear p30
                try clear q30
                try clear hx30
                try clear hx307_0
                try clear hx307_1
                try clear hx307_2
                try clear hx307_3
                try clear hx307_4
                try clear hx307_5
                try clear hx308_0
                try clear hx308_1
                try clear hx308_2
                try clear hx308_3
                try clear hx308_4
                try clear hx308_5
                try clear p307
                try clear p308
                try clear q307
                try clear q308
                obtain ⟨kq, x66_8, rfl, HA, HJ8, BK301, HB⟩ := hcut
                cases kq with
                | zero => exact absurd HA.out (by simp [partitaref15_Encode.j1])
                | succ kj8 =>
                  have H := HA.out
                  clear HA
                  simp only [partitaref15_Encode.j1] at H
                  have HC31 := Aside0.mk H
                  clear H
                  go_upto_if 66 with (fail)
                  go_cut [4] (fun v4 wc => ∃ (kq : Nat) (x4_30 : ByteArray), v4 = .string x4_30 ∧ Aside0 (partitaref15_Encode.j2 kq l0 x4_30 x5_1 t305 ((rd_T31 l0 x5_1).f0) ((rd_T31 l0 x5_1).f1) ((rd_T31 l0 x5_1).f2) ((rd_T31 l0 x5_1).f3) ((rd_T31 l0 x5_1).f4) ((rd_T31 l0 x5_1).f5) = some (r1, r2)) ∧ Aside0 (kq ≤ kj8) ∧ Aside0 (wc.heap[gb301]? = some (.cells #[.int .i64 ((rd_T31 l0 x5_1).f0), .int .i64 ((rd_T31 l0 x5_1).f1), .int .i64 ((rd_T31 l0 x5_1).f2), .int .i64 ((rd_T31 l0 x5_1).f3), .int .i64 ((rd_T31 l0 x5_1).f4), .string ((rd_T31 l0 x5_1).f5)] 31 (0, 0))) ∧ Aside0 (Below w.heap.size w wc))
                  case first =>
                    have H := HC31.out
                    clear HC31
                    by_cases c32 : x66_8 = true
                    · subst c32
                      have H1 : ((partitaref15_status.f ((rd_T31 l0 x5_1).f0) ((rd_T31 l0 x5_1).f1) ((rd_T31 l0 x5_1).f2) ((rd_T31 l0 x5_1).f3) ((rd_T31 l0 x5_1).f4) ((rd_T31 l0 x5_1).f5)).bind fun t311 => ((some (([(t311) % 256] : List Int) : List Int)).bind fun y312 => (if (x4_1 ++ t303).size + (strOfNums y312).size ≤ 9223372036854775807 then (partitaref15_Encode.j2 kj8 l0 ((x4_1 ++ t303) ++ (strOfNums y312)) x5_1 t305 ((rd_T31 l0 x5_1).f0) ((rd_T31 l0 x5_1).f1) ((rd_T31 l0 x5_1).f2) ((rd_T31 l0 x5_1).f3) ((rd_T31 l0 x5_1).f4) ((rd_T31 l0 x5_1).f5)) else (none)))) = some (r1, r2) := by rw [if_pos rfl] at H; exact H
                      clear H
                      have H := H1
                      clear H1
                      replace H := Option.bind_eq_some_iff.mp H
                      obtain ⟨t311, A330, H⟩ := H
                      replace H : ((some (([(t311) % 256] : List Int) : List Int)).bind fun y312 => (if (x4_1 ++ t303).size + (strOfNums y312).size ≤ 9223372036854775807 then (partitaref15_Encode.j2 kj8 l0 ((x4_1 ++ t303) ++ (strOfNums y312)) x5_1 t305 ((rd_T31 l0 x5_1).f0) ((rd_T31 l0 x5_1).f1) ((rd_T31 l0 x5_1).f2) ((rd_T31 l0 x5_1).f3) ((rd_T31 l0 x5_1).f4) ((rd_T31 l0 x5_1).f5)) else (none))) = some (r1, r2) := H
                      have A33 := Aside0.mk A330
                      clear A330
                      obtain ⟨y312, hy312⟩ : ∃ y_ : List Int, y_ = (([(t311) % 256] : List Int)) := ⟨_, rfl⟩
                      replace H : (if (x4_1 ++ t303).size + (strOfNums y312).size ≤ 9223372036854775807 then (partitaref15_Encode.j2 kj8 l0 ((x4_1 ++ t303) ++ (strOfNums y312)) x5_1 t305 ((rd_T31 l0 x5_1).f0) ((rd_T31 l0 x5_1).f1) ((rd_T31 l0 x5_1).f2) ((rd_T31 l0 x5_1).f3) ((rd_T31 l0 x5_1).f4) ((rd_T31 l0 x5_1).f5)) else (none)) = some (r1, r2) := by first | (rw [hy312]; with_reducible exact H) | (have H2_ := (Option.bind_some _ _).symm.trans H; rw [hy312]; with_reducible exact H2_) | (have H2_ := (Option.bind_some _ _).symm.trans H; with_reducible exact H2_) | with_reducible exact H | (rw [hy312]; exact H) | exact H
                      have Ny312 := Aside0.mk hy312
                      clear hy312
                      by_cases c34 : (x4_1 ++ t303).size + (strOfNums y312).size ≤ 9223372036854775807
                      · rw [if_pos c34] at H
                        have c34b0 := eq_true c34
                        have c34b1 : decide ((x4_1 ++ t303).size + (strOfNums y312).size ≤ 9223372036854775807) = true := decide_eq_true c34
                        try have c34b2 : (9223372036854775807 < (x4_1 ++ t303).size + (strOfNums y312).size) = False := eq_false (Nat.not_lt.2 c34)
                        have H' := Aside0.mk H
                        clear H
                        have hcz35_0 : wc.cell? ⟨gb301, 0, none⟩ = some (.int .i64 ((rd_T31 l0 x5_1).f0)) := (blk_cell BK301.out 0).trans rfl
                        have hcz35_1 : wc.cell? ⟨gb301, 1, none⟩ = some (.int .i64 ((rd_T31 l0 x5_1).f1)) := (blk_cell BK301.out 1).trans rfl
                        have hcz35_2 : wc.cell? ⟨gb301, 2, none⟩ = some (.int .i64 ((rd_T31 l0 x5_1).f2)) := (blk_cell BK301.out 2).trans rfl
                        have hcz35_3 : wc.cell? ⟨gb301, 3, none⟩ = some (.int .i64 ((rd_T31 l0 x5_1).f3)) := (blk_cell BK301.out 3).trans rfl
                        have hcz35_4 : wc.cell? ⟨gb301, 4, none⟩ = some (.int .i64 ((rd_T31 l0 x5_1).f4)) := (blk_cell BK301.out 4).trans rfl
                        have hcz35_5 : wc.cell? ⟨gb301, 5, none⟩ = some (.string ((rd_T31 l0 x5_1).f5)) := (blk_cell BK301.out 5).trans rfl
                        have hfz35_0 := blk_frozen BK301.out 0
                        have hfz35_1 := blk_frozen BK301.out 1
                        have hfz35_2 := blk_frozen BK301.out 2
                        have hfz35_3 := blk_frozen BK301.out 3
                        have hfz35_4 := blk_frozen BK301.out 4
                        have hfz35_5 := blk_frozen BK301.out 5
                        go_wp2_with (first | ((with_reducible refine gate_callee (f := 31) rfl ?_); refine goesL_ (some 69) rfl rfl Try.func31 (by kernel_rfl) rfl #[.agg #[.int .i64 ((rd_T31 l0 x5_1).f0), .int .i64 ((rd_T31 l0 x5_1).f1), .int .i64 ((rd_T31 l0 x5_1).f2), .int .i64 ((rd_T31 l0 x5_1).f3), .int .i64 ((rd_T31 l0 x5_1).f4), .string ((rd_T31 l0 x5_1).f5)]] rfl (by (try simp only [List.map_toArray, List.map_cons, List.map_nil]); first | done | rfl | (simp only [List.length_drop, List.length_take]; rfl)) ?_; (with_reducible refine (partitaref15_status.calls ((rd_T31 l0 x5_1).f0) ((rd_T31 l0 x5_1).f1) ((rd_T31 l0 x5_1).f2) ((rd_T31 l0 x5_1).f3) ((rd_T31 l0 x5_1).f4) ((rd_T31 l0 x5_1).f5) t311 _ A33.out).mono ?_); rintro e w36 ⟨rfl, hb⟩; refine ⟨_, rfl, ?_⟩; have n0_ := Aside0.mk (blk_below (g := gb301) (o := .cells #[.int .i64 ((rd_T31 l0 x5_1).f0), .int .i64 ((rd_T31 l0 x5_1).f1), .int .i64 ((rd_T31 l0 x5_1).f2), .int .i64 ((rd_T31 l0 x5_1).f3), .int .i64 ((rd_T31 l0 x5_1).f4), .string ((rd_T31 l0 x5_1).f5)] 31 (0, 0)) (by (with_reducible repeat (first | refine blk_drewN ?_ _ | refine blk_drew ?_ | refine blk_alloc ?_ _)); exact BK301.out) hb); have n1_ := Aside0.mk (below_step (by repeat (first | (with_reducible first | exact HB.out | apply below_alloc | apply pw_below_drewN | apply below_drew1 | refine below_set ?_ GE301.out) | exact HB.out)) hb); clear BK301; clear HB; have BK301 := n0_; have HB := n1_; clear n0_ n1_; (try clear hb); (try clear hb2); (try clear hk); (try clear hi)) | ((with_reducible refine gate_dst (N := 71) rfl ?_); refine Kd.R_lit (Kd.int .u8) _ 5 ?hg (N := 71) ?hd (xs := ([(t311) % 256] : List Int)) (inner := [.int .u8 ((t311) % 256)]) (ok := fun _ => True) (okp := fun _ => True) ?hr ?hp (fun _ hk => hk) trivial (Below.refl _ _) (Nat.le_refl _) (by simp) ?_; (case hd => rfl); (case hg => rfl); (case hr => first | (go_simp; done) | (go_simp; rfl)); (case hp => exact (Reps.one (show Kd.M (Kd.int .u8) _ _ _ ((t311) % 256) [.int .u8 ((t311) % 256)] from rfl) (Reps.none _ _))); intro v313 w37 ho38 hb hg_ hnew_; clear hg_ hnew_; (first | rw [← Ny312.out] at ho38 | (simp only [Int.reduceToNat] at ho38; rw [← Ny312.out] at ho38)); have n0_ := Aside0.mk (Kd.R_lower ho38 (below_size (by repeat (first | (with_reducible first | exact HB.out | apply below_alloc | apply pw_below_drewN | apply below_drew1 | refine below_set ?_ GE301.out) | exact HB.out)))); have n1_ := Aside0.mk (blk_below (g := gb301) (o := .cells #[.int .i64 ((rd_T31 l0 x5_1).f0), .int .i64 ((rd_T31 l0 x5_1).f1), .int .i64 ((rd_T31 l0 x5_1).f2), .int .i64 ((rd_T31 l0 x5_1).f3), .int .i64 ((rd_T31 l0 x5_1).f4), .string ((rd_T31 l0 x5_1).f5)] 31 (0, 0)) (by (with_reducible repeat (first | refine blk_drewN ?_ _ | refine blk_drew ?_ | refine blk_alloc ?_ _)); exact BK301.out) hb); have n2_ := Aside0.mk (below_step (by repeat (first | (with_reducible first | exact HB.out | apply below_alloc | apply pw_below_drewN | apply below_drew1 | refine below_set ?_ GE301.out) | exact HB.out)) hb); clear BK301; clear HB; have HO314 := n0_; have BK301 := n1_; have HB := n2_; clear n0_ n1_ n2_; clear hb ho38; have hcv39 := own_string (P := Try.prog) Try.underlying44 Try.underlying5 Try.underlying9 (Kd.own_of_R HO314.out)))
                        go_meet
                        case rel => exact ⟨_, ((x4_1 ++ t303) ++ (strOfNums y312)), (by first | rfl | (simp; done) | (simp [*]; done)), H', ⟨by have := HK1.out; have := HJ8.out; first | omega | exact Nat.le_refl _⟩, ⟨by (with_reducible repeat (first | refine blk_drewN ?_ _ | refine blk_drew ?_ | refine blk_alloc ?_ _)); exact BK301.out⟩, ⟨by repeat (first | (with_reducible first | exact HB.out | apply below_alloc | apply pw_below_drewN | apply below_drew1 | refine below_set ?_ GE301.out) | exact HB.out)⟩⟩
                      · rw [if_neg c34] at H
                        exact absurd H (by simp)
                    · replace c32 := Bool.eq_false_iff.mpr c32
                      subst c32
                      have H1 : (partitaref15_Encode.j2 kj8 l0 (x4_1 ++ t303) x5_1 t305 ((rd_T31 l0 x5_1).f0) ((rd_T31 l0 x5_1).f1) ((rd_T31 l0 x5_1).f2) ((rd_T31 l0 x5_1).f3) ((rd_T31 l0 x5_1).f4) ((rd_T31 l0 x5_1).f5)) = some (r1, r2) := by rw [if_neg (show ¬ (false = true) by decide)] at H; exact H
                      clear H
                      have H := H1
                      clear H1
                      have H' := Aside0.mk H
                      clear H
                      go_wp2
                      go_meet
                      case rel => exact ⟨_, ((x4_1 ++ t303)), (by first | rfl | (simp; done) | (simp [*]; done)), H', ⟨by have := HK1.out; have := HJ8.out; first | omega | exact Nat.le_refl _⟩, ⟨by (with_reducible repeat (first | refine blk_drewN ?_ _ | refine blk_drew ?_ | refine blk_alloc ?_ _)); exact BK301.out⟩, ⟨by repeat (first | (with_reducible first | exact HB.out | apply below_alloc | apply pw_below_drewN | apply below_drew1 | refine below_set ?_ GE301.out) | exact HB.out)⟩⟩
                  case rest =>
                    clear HC31
                    try clear c1
                    try clear c2
                    try clear p2
                    try clear c3
                    try clear p3
                    try clear q3
                    try clear hx3
                    try clear hcv3
                    try clear p6
                    try clear c19
                    try clear c19b0
                    try clear c19b1
                    try clear c22
                    try clear c22b0
                    try clear c23
                    try clear c23b0
                    try clear c24
                    try clear c24b0
                    try clear p30
                    try clear q30
                    try clear hx30
                    try clear c31
                    try clear c32
                    try clear c34
                    try clear c34b0
                    try clear c34b1
                    try clear c34b2
                    try clear hcv39
                    try clear hcz35_0
                    try clear hcz35_1
                    try clear hcz35_2
                    try clear hcz35_3
                    try clear hcz35_4
                    try clear hcz35_5
                    try clear hfz35_0
                    try clear hfz35_1
                    try clear hfz35_2
                    try clear hfz35_3
                    try clear hfz35_4
                    try clear hfz35_5
                    try clear hx307_0
                    try clear hx307_1
                    try clear hx307_2
                    try clear hx307_3
                    try clear hx307_4
                    try clear hx307_5
                    try clear hx308_0
                    try clear hx308_1
                    try clear hx308_2
                    try clear hx308_3
                    try clear hx308_4
                    try clear hx308_5
                    try clear p2
                    try clear p3
                    try clear p30
                    try clear p307
                    try clear p308
                    try clear p6
                    try clear q3
                    try clear q30
                    try clear q307
                    try clear q308
                    obtain ⟨kq, x4_30, rfl, HA, HJ30, BK301, HB⟩ := hcut
                    cases kq with
                    | zero => exact absurd HA.out (by simp [partitaref15_Encode.j2])
                    | succ kj30 =>
                      have H := HA.out
                      clear HA
                      simp only [partitaref15_Encode.j2] at H
                      have HC40 := Aside0.mk H
                      clear H
                      have hcz41_0 : wc.cell? ⟨gb301, 0, none⟩ = some (.int .i64 ((rd_T31 l0 x5_1).f0)) := (blk_cell BK301.out 0).trans rfl
                      have hcz41_1 : wc.cell? ⟨gb301, 1, none⟩ = some (.int .i64 ((rd_T31 l0 x5_1).f1)) := (blk_cell BK301.out 1).trans rfl
                      have hcz41_2 : wc.cell? ⟨gb301, 2, none⟩ = some (.int .i64 ((rd_T31 l0 x5_1).f2)) := (blk_cell BK301.out 2).trans rfl
                      have hcz41_3 : wc.cell? ⟨gb301, 3, none⟩ = some (.int .i64 ((rd_T31 l0 x5_1).f3)) := (blk_cell BK301.out 3).trans rfl
                      have hcz41_4 : wc.cell? ⟨gb301, 4, none⟩ = some (.int .i64 ((rd_T31 l0 x5_1).f4)) := (blk_cell BK301.out 4).trans rfl
                      have hcz41_5 : wc.cell? ⟨gb301, 5, none⟩ = some (.string ((rd_T31 l0 x5_1).f5)) := (blk_cell BK301.out 5).trans rfl
                      have hfz41_0 := blk_frozen BK301.out 0
                      have hfz41_1 := blk_frozen BK301.out 1
                      have hfz41_2 := blk_frozen BK301.out 2
                      have hfz41_3 := blk_frozen BK301.out 3
                      have hfz41_4 := blk_frozen BK301.out 4
                      have hfz41_5 := blk_frozen BK301.out 5
                      go_upto_if 76 with (fail)
                      go_cut [4] (fun v4 wc => ∃ (kq : Nat) (x4_39 : ByteArray), v4 = .string x4_39 ∧ Aside0 (partitaref15_Encode.j3 kq l0 x4_39 x5_1 t305 ((rd_T31 l0 x5_1).f0) ((rd_T31 l0 x5_1).f1) ((rd_T31 l0 x5_1).f2) ((rd_T31 l0 x5_1).f3) ((rd_T31 l0 x5_1).f4) ((rd_T31 l0 x5_1).f5) = some (r1, r2)) ∧ Aside0 (kq ≤ kj30) ∧ Aside0 (wc.heap[gb301]? = some (.cells #[.int .i64 ((rd_T31 l0 x5_1).f0), .int .i64 ((rd_T31 l0 x5_1).f1), .int .i64 ((rd_T31 l0 x5_1).f2), .int .i64 ((rd_T31 l0 x5_1).f3), .int .i64 ((rd_T31 l0 x5_1).f4), .string ((rd_T31 l0 x5_1).f5)] 31 (0, 0))) ∧ Aside0 (Below w.heap.size w wc))
                      case first =>
                        have H := HC40.out
                        clear HC40
                        by_cases c42 : ((rd_T31 l0 x5_1).f1) = 15
                        · rw [if_pos c42] at H
                          have c42b0 : (((rd_T31 l0 x5_1).f1) == 15) = true := beq_iff_eq.mpr c42
                          have c42b1 : (((rd_T31 l0 x5_1).f1) != 15) = false := bne_eq_false_iff_eq.mpr c42
                          clear c42
                          (first | rw [c42b0] | (simp only [i64_w, i32_w]; rw [c42b0]) | skip)
                          have H' := Aside0.mk H
                          clear H
                          go_wp2
                          go_meet
                          case rel => exact ⟨_, (x4_30), (by first | rfl | (simp; done) | (simp [*]; done)), H', ⟨by have := HK1.out; have := HJ8.out; have := HJ30.out; first | omega | exact Nat.le_refl _⟩, ⟨by (with_reducible repeat (first | refine blk_drewN ?_ _ | refine blk_drew ?_ | refine blk_alloc ?_ _)); exact BK301.out⟩, ⟨by repeat (first | (with_reducible first | exact HB.out | apply below_alloc | apply pw_below_drewN | apply below_drew1 | refine below_set ?_ GE301.out) | exact HB.out)⟩⟩
                        · rw [if_neg c42] at H
                          have c42b0 : (((rd_T31 l0 x5_1).f1) == 15) = false := beq_eq_false_iff_ne.mpr c42
                          have c42b1 : (((rd_T31 l0 x5_1).f1) != 15) = true := bne_iff_ne.mpr c42
                          (first | rw [c42b0] | (simp only [i64_w, i32_w]; rw [c42b0]) | skip)
                          obtain ⟨y315, hy315⟩ : ∃ y_ : List Int, y_ = (([(((rd_T31 l0 x5_1).f3)) % 256] : List Int)) := ⟨_, rfl⟩
                          replace H : (if x4_30.size + (strOfNums y315).size ≤ 9223372036854775807 then (partitaref15_Encode.j3 kj30 l0 (x4_30 ++ (strOfNums y315)) x5_1 t305 ((rd_T31 l0 x5_1).f0) ((rd_T31 l0 x5_1).f1) ((rd_T31 l0 x5_1).f2) ((rd_T31 l0 x5_1).f3) ((rd_T31 l0 x5_1).f4) ((rd_T31 l0 x5_1).f5)) else (none)) = some (r1, r2) := by first | (rw [hy315]; with_reducible exact H) | (have H2_ := (Option.bind_some _ _).symm.trans H; rw [hy315]; with_reducible exact H2_) | (have H2_ := (Option.bind_some _ _).symm.trans H; with_reducible exact H2_) | with_reducible exact H | (rw [hy315]; exact H) | exact H
                          have Ny315 := Aside0.mk hy315
                          clear hy315
                          by_cases c43 : x4_30.size + (strOfNums y315).size ≤ 9223372036854775807
                          · rw [if_pos c43] at H
                            have c43b0 := eq_true c43
                            have c43b1 : decide (x4_30.size + (strOfNums y315).size ≤ 9223372036854775807) = true := decide_eq_true c43
                            try have c43b2 : (9223372036854775807 < x4_30.size + (strOfNums y315).size) = False := eq_false (Nat.not_lt.2 c43)
                            have H' := Aside0.mk H
                            clear H
                            have hcz44_0 : wc.cell? ⟨gb301, 0, none⟩ = some (.int .i64 ((rd_T31 l0 x5_1).f0)) := (blk_cell BK301.out 0).trans rfl
                            have hcz44_1 : wc.cell? ⟨gb301, 1, none⟩ = some (.int .i64 ((rd_T31 l0 x5_1).f1)) := (blk_cell BK301.out 1).trans rfl
                            have hcz44_2 : wc.cell? ⟨gb301, 2, none⟩ = some (.int .i64 ((rd_T31 l0 x5_1).f2)) := (blk_cell BK301.out 2).trans rfl
                            have hcz44_3 : wc.cell? ⟨gb301, 3, none⟩ = some (.int .i64 ((rd_T31 l0 x5_1).f3)) := (blk_cell BK301.out 3).trans rfl
                            have hcz44_4 : wc.cell? ⟨gb301, 4, none⟩ = some (.int .i64 ((rd_T31 l0 x5_1).f4)) := (blk_cell BK301.out 4).trans rfl
                            have hcz44_5 : wc.cell? ⟨gb301, 5, none⟩ = some (.string ((rd_T31 l0 x5_1).f5)) := (blk_cell BK301.out 5).trans rfl
                            have hfz44_0 := blk_frozen BK301.out 0
                            have hfz44_1 := blk_frozen BK301.out 1
                            have hfz44_2 := blk_frozen BK301.out 2
                            have hfz44_3 := blk_frozen BK301.out 3
                            have hfz44_4 := blk_frozen BK301.out 4
                            have hfz44_5 := blk_frozen BK301.out 5
                            go_wp2_with (first | ((with_reducible refine gate_dst (N := 81) rfl ?_); refine Kd.R_lit (Kd.int .u8) _ 5 ?hg (N := 81) ?hd (xs := ([(((rd_T31 l0 x5_1).f3)) % 256] : List Int)) (inner := [.int .u8 ((((rd_T31 l0 x5_1).f3)) % 256)]) (ok := fun _ => True) (okp := fun _ => True) ?hr ?hp (fun _ hk => hk) trivial (Below.refl _ _) (Nat.le_refl _) (by simp) ?_; (case hd => rfl); (case hg => rfl); (case hr => first | (go_simp; done) | (go_simp; rfl)); (case hp => exact (Reps.one (show Kd.M (Kd.int .u8) _ _ _ ((((rd_T31 l0 x5_1).f3)) % 256) [.int .u8 ((((rd_T31 l0 x5_1).f3)) % 256)] from rfl) (Reps.none _ _))); intro v316 w45 ho46 hb hg_ hnew_; clear hg_ hnew_; (first | rw [← Ny315.out] at ho46 | (simp only [Int.reduceToNat] at ho46; rw [← Ny315.out] at ho46)); have n0_ := Aside0.mk (Kd.R_lower ho46 (below_size (by repeat (first | (with_reducible first | exact HB.out | apply below_alloc | apply pw_below_drewN | apply below_drew1 | refine below_set ?_ GE301.out) | exact HB.out)))); have n1_ := Aside0.mk (blk_below (g := gb301) (o := .cells #[.int .i64 ((rd_T31 l0 x5_1).f0), .int .i64 ((rd_T31 l0 x5_1).f1), .int .i64 ((rd_T31 l0 x5_1).f2), .int .i64 ((rd_T31 l0 x5_1).f3), .int .i64 ((rd_T31 l0 x5_1).f4), .string ((rd_T31 l0 x5_1).f5)] 31 (0, 0)) (by (with_reducible repeat (first | refine blk_drewN ?_ _ | refine blk_drew ?_ | refine blk_alloc ?_ _)); exact BK301.out) hb); have n2_ := Aside0.mk (below_step (by repeat (first | (with_reducible first | exact HB.out | apply below_alloc | apply pw_below_drewN | apply below_drew1 | refine below_set ?_ GE301.out) | exact HB.out)) hb); clear BK301; clear HB; have HO317 := n0_; have BK301 := n1_; have HB := n2_; clear n0_ n1_ n2_; clear hb ho46; have hcv47 := own_string (P := Try.prog) Try.underlying44 Try.underlying5 Try.underlying9 (Kd.own_of_R HO317.out)))
                            go_meet
                            case rel => exact ⟨_, (x4_30 ++ (strOfNums y315)), (by first | rfl | (simp; done) | (simp [*]; done)), H', ⟨by have := HK1.out; have := HJ8.out; have := HJ30.out; first | omega | exact Nat.le_refl _⟩, ⟨by (with_reducible repeat (first | refine blk_drewN ?_ _ | refine blk_drew ?_ | refine blk_alloc ?_ _)); exact BK301.out⟩, ⟨by repeat (first | (with_reducible first | exact HB.out | apply below_alloc | apply pw_below_drewN | apply below_drew1 | refine below_set ?_ GE301.out) | exact HB.out)⟩⟩
                          · rw [if_neg c43] at H
                            exact absurd H (by simp)
                      case rest =>
                        clear HC40
                        try clear c1
                        try clear c2
                        try clear p2
                        try clear c3
                        try clear p3
                        try clear q3
                        try clear hx3
                        try clear hcv3
                        try clear c4
                        try clear hcv4
                        try clear p6
                        try clear c19
                        try clear c19b0
                        try clear c19b1
                        try clear c22
                        try clear c22b0
                        try clear c23
                        try clear c23b0
                        try clear c24
                        try clear c24b0
                        try clear p30
                        try clear q30
                        try clear hx30
                        try clear c31
                        try clear c32
                        try clear c34
                        try clear c34b0
                        try clear c34b1
                        try clear c34b2
                        try clear hcv39
                        try clear c42
                        try clear c42b0
                        try clear c42b1
                        try clear c43
                        try clear c43b0
                        try clear c43b1
                        try clear c43b2
                        try clear hcv47
                        try clear hcz35_0
                        try clear hcz35_1
                        try clear hcz35_2
                        try clear hcz35_3
                        try clear hcz35_4
                        try clear hcz35_5
                        try clear hcz41_0
                        try clear hcz41_1
                        try clear hcz41_2
                        try clear hcz41_3
                        try clear hcz41_4
                        try clear hcz41_5
                        try clear hcz44_0
                        try clear hcz44_1
                        try clear hcz44_2
                        try clear hcz44_3
                        try clear hcz44_4
                        try clear hcz44_5
                        try clear hfz35_0
                        try clear hfz35_1
                        try clear hfz35_2
                        try clear hfz35_3
                        try clear hfz35_4
                        try clear hfz35_5
                        try clear hfz41_0
                        try clear hfz41_1
                        try clear hfz41_2
                        try clear hfz41_3
                        try clear hfz41_4
                        try clear hfz41_5
                        try clear hfz44_0
                        try clear hfz44_1
                        try clear hfz44_2
                        try clear hfz44_3
                        try clear hfz44_4
                        try clear hfz44_5
                        try clear hx307_0
                        try clear hx307_1
                        try clear hx307_2
                        try clear hx307_3
                        try clear hx307_4
                        try clear hx307_5
                        try clear hx308_0
                        try clear hx308_1
                        try clear hx308_2
                        try clear hx308_3
                        try clear hx308_4
                        try clear hx308_5
                        try clear p2
                        try clear p3
                        try clear p30
                        try clear p307
                        try clear p308
                        try clear p6
                        try clear q3
                        try clear q30
                        try clear q307
                        try clear q308
                        obtain ⟨kq, x4_39, rfl, HA, HJ39, BK301, HB⟩ := hcut
                        cases kq with
                        | zero => exact absurd HA.out (by simp [partitaref15_Encode.j3])
                        | succ kj39 =>
                          have H := HA.out
                          clear HA
                          simp only [partitaref15_Encode.j3] at H
                          by_cases c48 : ((rd_T31 l0 x5_1).f1) ≥ 15
                          · rw [if_pos c48] at H
                            have c48b0 : decide (15 ≤ ((rd_T31 l0 x5_1).f1)) = true := decide_eq_true c48
                            clear c48
                            by_cases c49 : x4_39.size + t305.size ≤ 9223372036854775807
                            · rw [if_pos c49] at H
                              have c49b0 := eq_true c49
                              have c49b1 : decide (x4_39.size + t305.size ≤ 9223372036854775807) = true := decide_eq_true c49
                              try have c49b2 : (9223372036854775807 < x4_39.size + t305.size) = False := eq_false (Nat.not_lt.2 c49)
                              by_cases c50 : (x4_39 ++ t305).size + ((rd_T31 l0 x5_1).f5).size ≤ 9223372036854775807
                              · rw [if_pos c50] at H
                                have c50b0 := eq_true c50
                                have c50b1 : decide ((x4_39 ++ t305).size + ((rd_T31 l0 x5_1).f5).size ≤ 9223372036854775807) = true := decide_eq_true c50
                                try have c50b2 : (9223372036854775807 < (x4_39 ++ t305).size + ((rd_T31 l0 x5_1).f5).size) = False := eq_false (Nat.not_lt.2 c50)
                                have H' := Aside0.mk H
                                clear H
                                have hcz51_0 : wc.cell? ⟨gb301, 0, none⟩ = some (.int .i64 ((rd_T31 l0 x5_1).f0)) := (blk_cell BK301.out 0).trans rfl
                                have hcz51_1 : wc.cell? ⟨gb301, 1, none⟩ = some (.int .i64 ((rd_T31 l0 x5_1).f1)) := (blk_cell BK301.out 1).trans rfl
                                have hcz51_2 : wc.cell? ⟨gb301, 2, none⟩ = some (.int .i64 ((rd_T31 l0 x5_1).f2)) := (blk_cell BK301.out 2).trans rfl
                                have hcz51_3 : wc.cell? ⟨gb301, 3, none⟩ = some (.int .i64 ((rd_T31 l0 x5_1).f3)) := (blk_cell BK301.out 3).trans rfl
                                have hcz51_4 : wc.cell? ⟨gb301, 4, none⟩ = some (.int .i64 ((rd_T31 l0 x5_1).f4)) := (blk_cell BK301.out 4).trans rfl
                                have hcz51_5 : wc.cell? ⟨gb301, 5, none⟩ = some (.string ((rd_T31 l0 x5_1).f5)) := (blk_cell BK301.out 5).trans rfl
                                have hfz51_0 := blk_frozen BK301.out 0
                                have hfz51_1 := blk_frozen BK301.out 1
                                have hfz51_2 := blk_frozen BK301.out 2
                                have hfz51_3 := blk_frozen BK301.out 3
                                have hfz51_4 := blk_frozen BK301.out 4
                                have hfz51_5 := blk_frozen BK301.out 5
                                go_wp2
                                go_roundg kj39
                                case measure => have := HK1.out; have := HJ8.out; have := HJ30.out; have := HJ39.out; omega
                                case rel => exact ⟨((x4_39 ++ t305) ++ ((rd_T31 l0 x5_1).f5)), (wrap64 (x5_1 + 1)), (by first | rfl | (simp; done) | (simp [*]; done)), (by first | rfl | (simp; done) | (simp [*]; done)), H', ⟨by have := HK1.out; have := HJ8.out; have := HJ30.out; have := HJ39.out; omega⟩, ⟨by repeat (first | (with_reducible first | exact HB.out | apply below_alloc | apply pw_below_drewN | apply below_drew1 | refine below_set ?_ GE301.out) | exact HB.out)⟩⟩
                              · rw [if_neg c50] at H
                                exact absurd H (by simp)
                            · rw [if_neg c49] at H
                              exact absurd H (by simp)
                          · rw [if_neg c48] at H
                            have c48b0 : decide (15 ≤ ((rd_T31 l0 x5_1).f1)) = false := decide_eq_false c48
                            clear c48
                            by_cases c52 : ((rd_T31 l0 x5_1).f1) = 12
                            · rw [if_pos c52] at H
                              have c52b0 : (((rd_T31 l0 x5_1).f1) == 12) = true := beq_iff_eq.mpr c52
                              have c52b1 : (((rd_T31 l0 x5_1).f1) != 12) = false := bne_eq_false_iff_eq.mpr c52
                              clear c52
                              have H' := Aside0.mk H
                              clear H
                              have hcz53_0 : wc.cell? ⟨gb301, 0, none⟩ = some (.int .i64 ((rd_T31 l0 x5_1).f0)) := (blk_cell BK301.out 0).trans rfl
                              have hcz53_1 : wc.cell? ⟨gb301, 1, none⟩ = some (.int .i64 ((rd_T31 l0 x5_1).f1)) := (blk_cell BK301.out 1).trans rfl
                              have hcz53_2 : wc.cell? ⟨gb301, 2, none⟩ = some (.int .i64 ((rd_T31 l0 x5_1).f2)) := (blk_cell BK301.out 2).trans rfl
                              have hcz53_3 : wc.cell? ⟨gb301, 3, none⟩ = some (.int .i64 ((rd_T31 l0 x5_1).f3)) := (blk_cell BK301.out 3).trans rfl
                              have hcz53_4 : wc.cell? ⟨gb301, 4, none⟩ = some (.int .i64 ((rd_T31 l0 x5_1).f4)) := (blk_cell BK301.out 4).trans rfl
                              have hcz53_5 : wc.cell? ⟨gb301, 5, none⟩ = some (.string ((rd_T31 l0 x5_1).f5)) := (blk_cell BK301.out 5).trans rfl
                              have hfz53_0 := blk_frozen BK301.out 0
                              have hfz53_1 := blk_frozen BK301.out 1
                              have hfz53_2 := blk_frozen BK301.out 2
                              have hfz53_3 := blk_frozen BK301.out 3
                              have hfz53_4 := blk_frozen BK301.out 4
                              have hfz53_5 := blk_frozen BK301.out 5
                              go_wp2
                              go_roundg kj39
                              case measure => have := HK1.out; have := HJ8.out; have := HJ30.out; have := HJ39.out; omega
                              case rel => exact ⟨(x4_39), (wrap64 (x5_1 + 1)), (by first | rfl | (simp; done) | (simp [*]; done)), (by first | rfl | (simp; done) | (simp [*]; done)), H', ⟨by have := HK1.out; have := HJ8.out; have := HJ30.out; have := HJ39.out; omega⟩, ⟨by repeat (first | (with_reducible first | exact HB.out | apply below_alloc | apply pw_below_drewN | apply below_drew1 | refine below_set ?_ GE301.out) | exact HB.out)⟩⟩
                            · rw [if_neg c52] at H
                              have c52b0 : (((rd_T31 l0 x5_1).f1) == 12) = false := beq_eq_false_iff_ne.mpr c52
                              have c52b1 : (((rd_T31 l0 x5_1).f1) != 12) = true := bne_iff_ne.mpr c52
                              by_cases c54 : ((rd_T31 l0 x5_1).f1) = 13
                              · rw [if_pos c54] at H
                                have c54b0 : (((rd_T31 l0 x5_1).f1) == 13) = true := beq_iff_eq.mpr c54
                                have c54b1 : (((rd_T31 l0 x5_1).f1) != 13) = false := bne_eq_false_iff_eq.mpr c54
                                clear c54
                                have H' := Aside0.mk H
                                clear H
                                have hcz55_0 : wc.cell? ⟨gb301, 0, none⟩ = some (.int .i64 ((rd_T31 l0 x5_1).f0)) := (blk_cell BK301.out 0).trans rfl
                                have hcz55_1 : wc.cell? ⟨gb301, 1, none⟩ = some (.int .i64 ((rd_T31 l0 x5_1).f1)) := (blk_cell BK301.out 1).trans rfl
                                have hcz55_2 : wc.cell? ⟨gb301, 2, none⟩ = some (.int .i64 ((rd_T31 l0 x5_1).f2)) := (blk_cell BK301.out 2).trans rfl
                                have hcz55_3 : wc.cell? ⟨gb301, 3, none⟩ = some (.int .i64 ((rd_T31 l0 x5_1).f3)) := (blk_cell BK301.out 3).trans rfl
                                have hcz55_4 : wc.cell? ⟨gb301, 4, none⟩ = some (.int .i64 ((rd_T31 l0 x5_1).f4)) := (blk_cell BK301.out 4).trans rfl
                                have hcz55_5 : wc.cell? ⟨gb301, 5, none⟩ = some (.string ((rd_T31 l0 x5_1).f5)) := (blk_cell BK301.out 5).trans rfl
                                have hfz55_0 := blk_frozen BK301.out 0
                                have hfz55_1 := blk_frozen BK301.out 1
                                have hfz55_2 := blk_frozen BK301.out 2
                                have hfz55_3 := blk_frozen BK301.out 3
                                have hfz55_4 := blk_frozen BK301.out 4
                                have hfz55_5 := blk_frozen BK301.out 5
                                go_wp2
                                go_roundg kj39
                                case measure => have := HK1.out; have := HJ8.out; have := HJ30.out; have := HJ39.out; omega
                                case rel => exact ⟨(x4_39), (wrap64 (x5_1 + 1)), (by first | rfl | (simp; done) | (simp [*]; done)), (by first | rfl | (simp; done) | (simp [*]; done)), H', ⟨by have := HK1.out; have := HJ8.out; have := HJ30.out; have := HJ39.out; omega⟩, ⟨by repeat (first | (with_reducible first | exact HB.out | apply below_alloc | apply pw_below_drewN | apply below_drew1 | refine below_set ?_ GE301.out) | exact HB.out)⟩⟩
                              · rw [if_neg c54] at H
                                have c54b0 : (((rd_T31 l0 x5_1).f1) == 13) = false := beq_eq_false_iff_ne.mpr c54
                                have c54b1 : (((rd_T31 l0 x5_1).f1) != 13) = true := bne_iff_ne.mpr c54
                                obtain ⟨y318, hy318⟩ : ∃ y_ : List Int, y_ = (([(((rd_T31 l0 x5_1).f4)) % 256] : List Int)) := ⟨_, rfl⟩
                                replace H : (if x4_39.size + (strOfNums y318).size ≤ 9223372036854775807 then (partitaref15_Encode.l0 kj39 l0 (x4_39 ++ (strOfNums y318)) (wrap64 (x5_1 + 1))) else (none)) = some (r1, r2) := by first | (rw [hy318]; with_reducible exact H) | (have H2_ := (Option.bind_some _ _).symm.trans H; rw [hy318]; with_reducible exact H2_) | (have H2_ := (Option.bind_some _ _).symm.trans H; with_reducible exact H2_) | with_reducible exact H | (rw [hy318]; exact H) | exact H
                                have Ny318 := Aside0.mk hy318
                                clear hy318
                                by_cases c56 : x4_39.size + (strOfNums y318).size ≤ 9223372036854775807
                                · rw [if_pos c56] at H
                                  have c56b0 := eq_true c56
                                  have c56b1 : decide (x4_39.size + (strOfNums y318).size ≤ 9223372036854775807) = true := decide_eq_true c56
                                  try have c56b2 : (9223372036854775807 < x4_39.size + (strOfNums y318).size) = False := eq_false (Nat.not_lt.2 c56)
                                  have H' := Aside0.mk H
                                  clear H
                                  have hcz57_0 : wc.cell? ⟨gb301, 0, none⟩ = some (.int .i64 ((rd_T31 l0 x5_1).f0)) := (blk_cell BK301.out 0).trans rfl
                                  have hcz57_1 : wc.cell? ⟨gb301, 1, none⟩ = some (.int .i64 ((rd_T31 l0 x5_1).f1)) := (blk_cell BK301.out 1).trans rfl
                                  have hcz57_2 : wc.cell? ⟨gb301, 2, none⟩ = some (.int .i64 ((rd_T31 l0 x5_1).f2)) := (blk_cell BK301.out 2).trans rfl
                                  have hcz57_3 : wc.cell? ⟨gb301, 3, none⟩ = some (.int .i64 ((rd_T31 l0 x5_1).f3)) := (blk_cell BK301.out 3).trans rfl
                                  have hcz57_4 : wc.cell? ⟨gb301, 4, none⟩ = some (.int .i64 ((rd_T31 l0 x5_1).f4)) := (blk_cell BK301.out 4).trans rfl
                                  have hcz57_5 : wc.cell? ⟨gb301, 5, none⟩ = some (.string ((rd_T31 l0 x5_1).f5)) := (blk_cell BK301.out 5).trans rfl
                                  have hfz57_0 := blk_frozen BK301.out 0
                                  have hfz57_1 := blk_frozen BK301.out 1
                                  have hfz57_2 := blk_frozen BK301.out 2
                                  have hfz57_3 := blk_frozen BK301.out 3
                                  have hfz57_4 := blk_frozen BK301.out 4
                                  have hfz57_5 := blk_frozen BK301.out 5
                                  go_wp2_with (first | ((with_reducible refine gate_dst (N := 105) rfl ?_); refine Kd.R_lit (Kd.int .u8) _ 5 ?hg (N := 105) ?hd (xs := ([(((rd_T31 l0 x5_1).f4)) % 256] : List Int)) (inner := [.int .u8 ((((rd_T31 l0 x5_1).f4)) % 256)]) (ok := fun _ => True) (okp := fun _ => True) ?hr ?hp (fun _ hk => hk) trivial (Below.refl _ _) (Nat.le_refl _) (by simp) ?_; (case hd => rfl); (case hg => rfl); (case hr => first | (go_simp; done) | (go_simp; rfl)); (case hp => exact (Reps.one (show Kd.M (Kd.int .u8) _ _ _ ((((rd_T31 l0 x5_1).f4)) % 256) [.int .u8 ((((rd_T31 l0 x5_1).f4)) % 256)] from rfl) (Reps.none _ _))); intro v319 w58 ho59 hb hg_ hnew_; clear hg_ hnew_; (first | rw [← Ny318.out] at ho59 | (simp only [Int.reduceToNat] at ho59; rw [← Ny318.out] at ho59)); have n0_ := Aside0.mk (Kd.R_lower ho59 (below_size (by repeat (first | (with_reducible first | exact HB.out | apply below_alloc | apply pw_below_drewN | apply below_drew1 | refine below_set ?_ GE301.out) | exact HB.out)))); have n1_ := Aside0.mk (blk_below (g := gb301) (o := .cells #[.int .i64 ((rd_T31 l0 x5_1).f0), .int .i64 ((rd_T31 l0 x5_1).f1), .int .i64 ((rd_T31 l0 x5_1).f2), .int .i64 ((rd_T31 l0 x5_1).f3), .int .i64 ((rd_T31 l0 x5_1).f4), .string ((rd_T31 l0 x5_1).f5)] 31 (0, 0)) (by (with_reducible repeat (first | refine blk_drewN ?_ _ | refine blk_drew ?_ | refine blk_alloc ?_ _)); exact BK301.out) hb); have n2_ := Aside0.mk (below_step (by repeat (first | (with_reducible first | exact HB.out | apply below_alloc | apply pw_below_drewN | apply below_drew1 | refine below_set ?_ GE301.out) | exact HB.out)) hb); clear BK301; clear HB; have HO320 := n0_; have BK301 := n1_; have HB := n2_; clear n0_ n1_ n2_; clear hb ho59; have hcv60 := own_string (P := Try.prog) Try.underlying44 Try.underlying5 Try.underlying9 (Kd.own_of_R HO320.out)))
                                  go_roundg kj39
                                  case measure => have := HK1.out; have := HJ8.out; have := HJ30.out; have := HJ39.out; omega
                                  case rel => exact ⟨(x4_39 ++ (strOfNums y318)), (wrap64 (x5_1 + 1)), (by first | rfl | (simp; done) | (simp [*]; done)), (by first | rfl | (simp; done) | (simp [*]; done)), H', ⟨by have := HK1.out; have := HJ8.out; have := HJ30.out; have := HJ39.out; omega⟩, ⟨by repeat (first | (with_reducible first | exact HB.out | apply below_alloc | apply pw_below_drewN | apply below_drew1 | refine below_set ?_ GE301.out) | exact HB.out)⟩⟩
                                · rw [if_neg c56] at H
                                  exact absurd H (by simp)
            · rw [if_neg c8] at H
              exact absurd H (by simp)
          · replace c5 := Bool.eq_false_iff.mpr c5
            subst c5
            have H1 : (some ((⟨#[]⟩ : ByteArray), 151)) = some (r1, r2) := by rw [if_neg (show ¬ (false = true) by decide)] at H; exact H
            clear H
            have H := H1
            clear H1
            simp only [Option.some.injEq, Prod.mk.injEq] at H
            obtain ⟨rfl, rfl⟩ := H
            have p300 : 0 ≤ (x5_1 : Int) := of_decide_eq_true (by first | (with_reducible assumption) | assumption)
            have q300 : x5_1 < (l0.length : Int) := of_decide_eq_true (by first | (with_reducible assumption) | assumption)
            obtain ⟨ad300, e300, hx300_0, hx300_1, hx300_2, hx300_3, hx300_4, hx300_5⟩ := at_T31 HR0.out x5_1 p300 q300
            cases e300
            replace hx300_0 := (HB.out.cell (World.block_lt_of_cell? w _ hx300_0)).trans hx300_0
            replace hx300_1 := (HB.out.cell (World.block_lt_of_cell? w _ hx300_1)).trans hx300_1
            replace hx300_2 := (HB.out.cell (World.block_lt_of_cell? w _ hx300_2)).trans hx300_2
            replace hx300_3 := (HB.out.cell (World.block_lt_of_cell? w _ hx300_3)).trans hx300_3
            replace hx300_4 := (HB.out.cell (World.block_lt_of_cell? w _ hx300_4)).trans hx300_4
            replace hx300_5 := (HB.out.cell (World.block_lt_of_cell? w _ hx300_5)).trans hx300_5
            replace p300 := eq_true p300
            replace q300 := eq_true q300
            go_wp2_with (first | ((with_reducible refine gate_dst (N := 6) rfl ?_); refine box_event ?hg (N := 6) ?hd (cs := #[.int .i64 0, .int .i64 0, .int .i64 0, .int .i64 0, .int .i64 0, .string (⟨#[]⟩ : ByteArray)]) (t := 31) ?hr ?_; (case hd => rfl); (case hg => rfl); (case hr => first | (go_simp; done) | (go_simp; rfl)); intro gb301 hg w61 hbox hb; have n0_ := Aside0.mk (below_step (by repeat (first | (with_reducible first | exact HB.out | apply below_alloc | apply pw_below_drewN | apply below_drew1) | exact HB.out)) hb); have n1_ := Aside0.mk (hbox); have n2_ := Aside0.mk ((by rw [hg]; exact (below_size (by repeat (first | (with_reducible first | exact HB.out | apply below_alloc | apply pw_below_drewN | apply below_drew1) | exact HB.out))) : w.heap.size ≤ gb301)); have n3_ := Aside0.mk ((by rw [hg]; exact (below_size (by repeat (first | (with_reducible first | exact HB.out | apply below_alloc | apply pw_below_drewN | apply below_drew1) | exact HB.out))) : w.heap.size ≤ gb301)); clear HB; have HB := n0_; have BK301 := n1_; have GW301 := n2_; have GE301 := n3_; clear n0_ n1_ n2_ n3_; clear hb hbox hg; have hcz62_0 : w61.cell? ⟨gb301, 0, none⟩ = some (.int .i64 0) := (blk_cell BK301.out 0).trans rfl; have hcz62_1 : w61.cell? ⟨gb301, 1, none⟩ = some (.int .i64 0) := (blk_cell BK301.out 1).trans rfl; have hcz62_2 : w61.cell? ⟨gb301, 2, none⟩ = some (.int .i64 0) := (blk_cell BK301.out 2).trans rfl; have hcz62_3 : w61.cell? ⟨gb301, 3, none⟩ = some (.int .i64 0) := (blk_cell BK301.out 3).trans rfl; have hcz62_4 : w61.cell? ⟨gb301, 4, none⟩ = some (.int .i64 0) := (blk_cell BK301.out 4).trans rfl; have hcz62_5 : w61.cell? ⟨gb301, 5, none⟩ = some (.string (⟨#[]⟩ : ByteArray)) := (blk_cell BK301.out 5).trans rfl; have hfz62_0 := blk_frozen BK301.out 0; have hfz62_1 := blk_frozen BK301.out 1; have hfz62_2 := blk_frozen BK301.out 2; have hfz62_3 := blk_frozen BK301.out 3; have hfz62_4 := blk_frozen BK301.out 4; have hfz62_5 := blk_frozen BK301.out 5) | ((with_reducible refine gate_callee (f := 20) rfl ?_); refine goesL_ (some 22) rfl rfl Try.func20 (by kernel_rfl) rfl #[.agg #[.int .i64 ((rd_T31 l0 x5_1).f0), .int .i64 ((rd_T31 l0 x5_1).f1), .int .i64 ((rd_T31 l0 x5_1).f2), .int .i64 ((rd_T31 l0 x5_1).f3), .int .i64 ((rd_T31 l0 x5_1).f4), .string ((rd_T31 l0 x5_1).f5)]] rfl (by (try simp only [List.map_toArray, List.map_cons, List.map_nil]); first | done | rfl | (simp only [List.length_drop, List.length_take]; rfl)) ?_; (with_reducible refine (partitaref15_Right.calls k1 ((rd_T31 l0 x5_1).f0) ((rd_T31 l0 x5_1).f1) ((rd_T31 l0 x5_1).f2) ((rd_T31 l0 x5_1).f3) ((rd_T31 l0 x5_1).f4) ((rd_T31 l0 x5_1).f5) false _ A4.out).mono ?_); rintro e w63 ⟨rfl, hb⟩; refine ⟨_, rfl, ?_⟩; have n0_ := Aside0.mk (blk_below (g := gb301) (o := .cells #[.int .i64 ((rd_T31 l0 x5_1).f0), .int .i64 ((rd_T31 l0 x5_1).f1), .int .i64 ((rd_T31 l0 x5_1).f2), .int .i64 ((rd_T31 l0 x5_1).f3), .int .i64 ((rd_T31 l0 x5_1).f4), .string ((rd_T31 l0 x5_1).f5)] 31 (0, 0)) (by (with_reducible repeat (first | refine blk_drewN ?_ _ | refine blk_drew ?_ | refine blk_alloc ?_ _)); refine blk_put (cs := #[.int .i64 ((rd_T31 l0 x5_1).f0), .int .i64 ((rd_T31 l0 x5_1).f1), .int .i64 ((rd_T31 l0 x5_1).f2), .int .i64 ((rd_T31 l0 x5_1).f3), .int .i64 ((rd_T31 l0 x5_1).f4), .string (⟨#[]⟩ : ByteArray)]) ?_ 5 _ rfl; (with_reducible repeat (first | refine blk_drewN ?_ _ | refine blk_drew ?_ | refine blk_alloc ?_ _)); refine blk_put (cs := #[.int .i64 ((rd_T31 l0 x5_1).f0), .int .i64 ((rd_T31 l0 x5_1).f1), .int .i64 ((rd_T31 l0 x5_1).f2), .int .i64 ((rd_T31 l0 x5_1).f3), .int .i64 0, .string (⟨#[]⟩ : ByteArray)]) ?_ 4 _ rfl; (with_reducible repeat (first | refine blk_drewN ?_ _ | refine blk_drew ?_ | refine blk_alloc ?_ _)); refine blk_put (cs := #[.int .i64 ((rd_T31 l0 x5_1).f0), .int .i64 ((rd_T31 l0 x5_1).f1), .int .i64 ((rd_T31 l0 x5_1).f2), .int .i64 0, .int .i64 0, .string (⟨#[]⟩ : ByteArray)]) ?_ 3 _ rfl; (with_reducible repeat (first | refine blk_drewN ?_ _ | refine blk_drew ?_ | refine blk_alloc ?_ _)); refine blk_put (cs := #[.int .i64 ((rd_T31 l0 x5_1).f0), .int .i64 ((rd_T31 l0 x5_1).f1), .int .i64 0, .int .i64 0, .int .i64 0, .string (⟨#[]⟩ : ByteArray)]) ?_ 2 _ rfl; (with_reducible repeat (first | refine blk_drewN ?_ _ | refine blk_drew ?_ | refine blk_alloc ?_ _)); refine blk_put (cs := #[.int .i64 ((rd_T31 l0 x5_1).f0), .int .i64 0, .int .i64 0, .int .i64 0, .int .i64 0, .string (⟨#[]⟩ : ByteArray)]) ?_ 1 _ rfl; (with_reducible repeat (first | refine blk_drewN ?_ _ | refine blk_drew ?_ | refine blk_alloc ?_ _)); refine blk_put (cs := #[.int .i64 0, .int .i64 0, .int .i64 0, .int .i64 0, .int .i64 0, .string (⟨#[]⟩ : ByteArray)]) ?_ 0 _ rfl; (with_reducible repeat (first | refine blk_drewN ?_ _ | refine blk_drew ?_ | refine blk_alloc ?_ _)); exact BK301.out) hb); have n1_ := Aside0.mk (below_step (by repeat (first | (with_reducible first | exact HB.out | apply below_alloc | apply pw_below_drewN | apply below_drew1 | refine below_set ?_ GE301.out) | exact HB.out)) hb); clear BK301; clear HB; have BK301 := n0_; have HB := n1_; clear n0_ n1_; (try clear hb); (try clear hb2); (try clear hk); (try clear hi)))
            go_ret2
            exact ⟨by first | rfl | (simp [errW_none, errW_some] <;> rfl) | (simp [*, errW_none, errW_some] <;> rfl), by repeat (first | (with_reducible first | exact HB.out | apply below_alloc | apply pw_below_drewN | apply below_drew1 | refine below_set ?_ GE301.out) | exact HB.out)⟩
        · rw [if_neg c3] at H
          exact absurd H (by simp)
      · rw [if_neg c2] at H
        have c2b0 : decide (x5_1 < (l0.length : Int)) = false := decide_eq_false c2
        clear c2
        simp only [Option.some.injEq, Prod.mk.injEq] at H
        obtain ⟨rfl, rfl⟩ := H
        go_wp2
        go_ret2
        exact ⟨by first | rfl | (simp [errW_none, errW_some] <;> rfl) | (simp [*, errW_none, errW_some] <;> rfl), by repeat (first | (with_reducible first | exact HB.out | apply below_alloc | apply pw_below_drewN | apply below_drew1) | exact HB.out)⟩

end Go.Proofs.Ytmeefdaanjaoaaa.M
