/- Functions and contracts printed by a program of this session (wip/tools), and texts by hand: Print, Parse, and the plain answers (part 1). -/
import Derived.Test.YtendmmagjjhfnaaProg
import Derived.Below
import Derived.Deep.Draws
import Derived.Deep.AppendLies
import Derived.Maps.AppendAt
import Derived.OwnWalk
import Derived.Laws.BytesArg
import Derived.Laws.MakeOwn
import Derived.Laws.OwnMore
import Derived.Deep.OwnRows
import Derived.Tactics
import Derived.Lib.ConvBytes
import Derived.Laws.Slices
import Derived.WalkKit
import Derived.KernelRfl
import Derived.RowKit3
import Derived.Deep.LoopGhost
import Derived.Deep.QuietTactic
import Derived.BigQuiet
import Derived.WideLaws
import Derived.Deep.DeepCutAuto
import Derived.Deep.CutBlock
import Derived.Deep.RegionHeld3
import Derived.Laws.Rows
import Derived.Lib.AppendStr
import Derived.ArgAppend
import Derived.Laws.IdiomCopy
import Derived.OrdersHeld
import Derived.Laws.BitsLemmas
import Derived.RowKit
import Derived.Tactics2
import Derived.WalkSpells
import Derived.StillTactics
import Derived.OneCell
import Derived.Outline
import Derived.Deep.RegionLaw
import Derived.IntWalk
import Derived.Lib.Hide
import Derived.RangeFuncNested
import Derived.RangeFuncBound
import Derived.RangeFuncCalls
import Derived.RangeFuncLeaves
import Derived.RangeFuncBox
import Derived.Shelf.RegionOpen
import Derived.OwnWalkIn
import Derived.TacticsInMore
import Derived.LoopNIn
import Derived.LoopIn
import Derived.StillTailTactics
import Derived.Test.YtendmmagjjhfnaaCW
import Derived.Test.YtendmmagjjhfnaaC0
namespace Go.Proofs.Ytendmmagjjhfnaa.M
open Go.RowKit Go.Proofs.YtendmmagjjhfnaaW.PrintWords Go.Proofs.YtendmmagjjhfnaaW.PrintLast Go.Proofs.YtendmmagjjhfnaaW.PrintMore
attribute [local go_sem] max2_int min2_int max_two min_two max_three min_three max_four min_four
set_option linter.unusedVariables false
set_option linter.unusedSimpArgs false
def errW : Option Int → Value
  | none => .nilIface
  | some c => .iface 0 (.int .i64 c)
theorem errW_none : errW none = .nilIface := rfl
theorem errW_some (c : Int) : errW (some c) = .iface 0 (.int .i64 c) := rfl
theorem info3 : (Try.prog.info? 3).map (fun i => (i.zero, i.size, i.bytes)) = some (some (.int .i64 0), 1, 8) := by kernel_rfl
theorem info38 : (Try.prog.info? 38).map (fun i => (i.zero, i.size, i.bytes)) = some (some (.agg #[(.bool false), (.int .i64 0), (.slice none 0 0), (.bool false), (.bool false), (.bool false), (.bool false), (.int .i64 0)]), 8, 56) := by kernel_rfl
structure S38 where
  f0 : Bool
  f1 : Int
  f2 : (List Int)
  f3 : Bool
  f4 : Bool
  f5 : Bool
  f6 : Bool
  f7 : Int
def z38 : S38 := ⟨false, (0 : Int), ([] : List Int), false, false, false, false, (0 : Int)⟩
def k38 : Kd S38 := Kd.iso (Kd.pair Kd.bool (Kd.pair (Kd.int .i64) (Kd.pair (Kd.slice 3 (Kd.int .i64)) (Kd.pair Kd.bool (Kd.pair Kd.bool (Kd.pair Kd.bool (Kd.pair Kd.bool (Kd.int .i64)))))))) (fun x : S38 => (x.f0, x.f1, x.f2, x.f3, x.f4, x.f5, x.f6, x.f7))
theorem k38_open {w : World} {x : S38} {cs : List Value} (h : k38.K w x cs) : ∃ A2 c2, cs = [.bool x.f0, .int .i64 x.f1, .slice A2 x.f2.length c2, .bool x.f3, .bool x.f4, .bool x.f5, .bool x.f6, .int .i64 x.f7] ∧ x.f2.length ≤ c2 ∧ (Kd.int .i64).C w A2 x.f2.length x.f2 := by
  obtain ⟨_, _, rfl, rfl, ⟨_, _, rfl, rfl, ⟨_, _, rfl, ⟨A2, c2, rfl, l2, g2⟩, ⟨_, _, rfl, rfl, ⟨_, _, rfl, rfl, ⟨_, _, rfl, rfl, ⟨_, _, rfl, rfl, rfl⟩⟩⟩⟩⟩⟩⟩ := h
  exact ⟨A2, c2, rfl, l2, g2⟩
theorem k38_openM {w : World} {base : Nat} {ok : Nat → Prop} {x : S38} {cs : List Value} (h : k38.M w base ok x cs) : ∃ v2, cs = [.bool x.f0, .int .i64 x.f1, v2, .bool x.f3, .bool x.f4, .bool x.f5, .bool x.f6, .int .i64 x.f7] ∧ (Kd.int .i64).R 3 w base ok v2 x.f2 := by
  obtain ⟨_, _, rfl, rfl, ⟨_, _, rfl, rfl, ⟨_, _, rfl, ⟨v2, rfl, g2⟩, ⟨_, _, rfl, rfl, ⟨_, _, rfl, rfl, ⟨_, _, rfl, rfl, ⟨_, _, rfl, rfl, rfl⟩⟩⟩⟩⟩⟩⟩ := h
  exact ⟨v2, rfl, g2⟩
theorem k38_mk (w : World) (x : S38) {A2 : Option Addr} {c2 : Nat} (l2 : x.f2.length ≤ c2) (g2 : (Kd.int .i64).C w A2 x.f2.length x.f2) : k38.K w x [.bool x.f0, .int .i64 x.f1, .slice A2 x.f2.length c2, .bool x.f3, .bool x.f4, .bool x.f5, .bool x.f6, .int .i64 x.f7] := ⟨[.bool x.f0], [.int .i64 x.f1, .slice A2 x.f2.length c2, .bool x.f3, .bool x.f4, .bool x.f5, .bool x.f6, .int .i64 x.f7], rfl, rfl, ⟨[.int .i64 x.f1], [.slice A2 x.f2.length c2, .bool x.f3, .bool x.f4, .bool x.f5, .bool x.f6, .int .i64 x.f7], rfl, rfl, ⟨[.slice A2 x.f2.length c2], [.bool x.f3, .bool x.f4, .bool x.f5, .bool x.f6, .int .i64 x.f7], rfl, ⟨A2, c2, rfl, l2, g2⟩, ⟨[.bool x.f3], [.bool x.f4, .bool x.f5, .bool x.f6, .int .i64 x.f7], rfl, rfl, ⟨[.bool x.f4], [.bool x.f5, .bool x.f6, .int .i64 x.f7], rfl, rfl, ⟨[.bool x.f5], [.bool x.f6, .int .i64 x.f7], rfl, rfl, ⟨[.bool x.f6], [.int .i64 x.f7], rfl, rfl, rfl⟩⟩⟩⟩⟩⟩⟩
theorem k38_mkM (w : World) (base : Nat) (ok : Nat → Prop) (x : S38) {v2 : Value} (g2 : (Kd.int .i64).R 3 w base ok v2 x.f2) : k38.M w base ok x [.bool x.f0, .int .i64 x.f1, v2, .bool x.f3, .bool x.f4, .bool x.f5, .bool x.f6, .int .i64 x.f7] := ⟨[.bool x.f0], [.int .i64 x.f1, v2, .bool x.f3, .bool x.f4, .bool x.f5, .bool x.f6, .int .i64 x.f7], rfl, rfl, ⟨[.int .i64 x.f1], [v2, .bool x.f3, .bool x.f4, .bool x.f5, .bool x.f6, .int .i64 x.f7], rfl, rfl, ⟨[v2], [.bool x.f3, .bool x.f4, .bool x.f5, .bool x.f6, .int .i64 x.f7], rfl, ⟨v2, rfl, g2⟩, ⟨[.bool x.f3], [.bool x.f4, .bool x.f5, .bool x.f6, .int .i64 x.f7], rfl, rfl, ⟨[.bool x.f4], [.bool x.f5, .bool x.f6, .int .i64 x.f7], rfl, rfl, ⟨[.bool x.f5], [.bool x.f6, .int .i64 x.f7], rfl, rfl, ⟨[.bool x.f6], [.int .i64 x.f7], rfl, rfl, rfl⟩⟩⟩⟩⟩⟩⟩
theorem k38_mkF (W : World) (ok : Nat → Prop) (x : S38) {A2 : Option Addr} {c2 : Nat} (l2 : x.f2.length ≤ c2) (g2 : Kd.F (Kd.int .i64) W ok A2 x.f2.length x.f2) : Kd.FK k38 W ok x [.bool x.f0, .int .i64 x.f1, .slice A2 x.f2.length c2, .bool x.f3, .bool x.f4, .bool x.f5, .bool x.f6, .int .i64 x.f7] := fun W2 hW => k38_mk W2 x l2 (g2 W2 hW)
def rd_T38 (xs : List S38) (i : Int) : S38 := xs.getD i.toNat z38
theorem at_T38 {w : World} {A : Option Addr} {n : Nat} {xs : List S38} (h : Kd.C k38 w A n xs) (i : Int) (h0 : 0 ≤ i) (h1 : i < n) : ∃ ad A2 c2, A = some ad ∧ w.cell? (ad.add (i.toNat * 8)) = some (.bool (rd_T38 xs i).f0) ∧ w.cell? ⟨(ad.add (i.toNat * 8)).block, (ad.add (i.toNat * 8)).off + 1, none⟩ = some (.int .i64 (rd_T38 xs i).f1) ∧ w.cell? ⟨(ad.add (i.toNat * 8)).block, (ad.add (i.toNat * 8)).off + 2, none⟩ = some (.slice A2 (rd_T38 xs i).f2.length c2) ∧ w.cell? ⟨(ad.add (i.toNat * 8)).block, (ad.add (i.toNat * 8)).off + 3, none⟩ = some (.bool (rd_T38 xs i).f3) ∧ w.cell? ⟨(ad.add (i.toNat * 8)).block, (ad.add (i.toNat * 8)).off + 4, none⟩ = some (.bool (rd_T38 xs i).f4) ∧ w.cell? ⟨(ad.add (i.toNat * 8)).block, (ad.add (i.toNat * 8)).off + 5, none⟩ = some (.bool (rd_T38 xs i).f5) ∧ w.cell? ⟨(ad.add (i.toNat * 8)).block, (ad.add (i.toNat * 8)).off + 6, none⟩ = some (.bool (rd_T38 xs i).f6) ∧ w.cell? ⟨(ad.add (i.toNat * 8)).block, (ad.add (i.toNat * 8)).off + 7, none⟩ = some (.int .i64 (rd_T38 xs i).f7) ∧ (rd_T38 xs i).f2.length ≤ c2 ∧ (Kd.int .i64).C w A2 (rd_T38 xs i).f2.length (rd_T38 xs i).f2 := by
  obtain ⟨ad, c, e, _, hK, hc0⟩ := Kd.C_get h z38 i h0 h1
  have hc : ∀ j u, c[j]? = some u → w.cell? (ad.add (i.toNat * 8 + j)) = some u := hc0
  obtain ⟨A2, c2, rfl, l2, g2⟩ := k38_open hK
  exact ⟨ad, A2, c2, e, hc 0 _ rfl, by rw [← add_field _ _ 1 (by omega)]; exact hc 1 _ rfl, by rw [← add_field _ _ 2 (by omega)]; exact hc 2 _ rfl, by rw [← add_field _ _ 3 (by omega)]; exact hc 3 _ rfl, by rw [← add_field _ _ 4 (by omega)]; exact hc 4 _ rfl, by rw [← add_field _ _ 5 (by omega)]; exact hc 5 _ rfl, by rw [← add_field _ _ 6 (by omega)]; exact hc 6 _ rfl, by rw [← add_field _ _ 7 (by omega)]; exact hc 7 _ rfl, l2, g2⟩
structure S46 where
  f0 : Int
  f1 : Int
  f2 : Int
def z46 : S46 := ⟨(0 : Int), (0 : Int), (0 : Int)⟩
def k46 : Kd S46 := Kd.iso (Kd.pair (Kd.int .u8) (Kd.pair (Kd.int .u8) (Kd.int .u8))) (fun x : S46 => (x.f0, x.f1, x.f2))
theorem k46_open {w : World} {x : S46} {cs : List Value} (h : k46.K w x cs) : cs = [.int .u8 x.f0, .int .u8 x.f1, .int .u8 x.f2] := by
  obtain ⟨_, _, rfl, rfl, ⟨_, _, rfl, rfl, rfl⟩⟩ := h
  exact rfl
theorem k46_mk (w : World) (x : S46)  : k46.K w x [.int .u8 x.f0, .int .u8 x.f1, .int .u8 x.f2] := ⟨[.int .u8 x.f0], [.int .u8 x.f1, .int .u8 x.f2], rfl, rfl, ⟨[.int .u8 x.f1], [.int .u8 x.f2], rfl, rfl, rfl⟩⟩
def rd_T46 (xs : List S46) (i : Int) : S46 := xs.getD i.toNat z46
theorem at_T46 {w : World} {A : Option Addr} {n : Nat} {xs : List S46} (h : Kd.C k46 w A n xs) (i : Int) (h0 : 0 ≤ i) (h1 : i < n) : ∃ ad , A = some ad ∧ w.cell? (ad.add (i.toNat * 3)) = some (.int .u8 (rd_T46 xs i).f0) ∧ w.cell? ⟨(ad.add (i.toNat * 3)).block, (ad.add (i.toNat * 3)).off + 1, none⟩ = some (.int .u8 (rd_T46 xs i).f1) ∧ w.cell? ⟨(ad.add (i.toNat * 3)).block, (ad.add (i.toNat * 3)).off + 2, none⟩ = some (.int .u8 (rd_T46 xs i).f2) := by
  obtain ⟨ad, c, e, _, hK, hc0⟩ := Kd.C_get h z46 i h0 h1
  have hc : ∀ j u, c[j]? = some u → w.cell? (ad.add (i.toNat * 3 + j)) = some u := hc0
  obtain rfl := k46_open hK
  exact ⟨ad, e, hc 0 _ rfl, by rw [← add_field _ _ 1 (by omega)]; exact hc 1 _ rfl, by rw [← add_field _ _ 2 (by omega)]; exact hc 2 _ rfl⟩
end Go.Proofs.Ytendmmagjjhfnaa.M
namespace Go.Proofs.Ytendmmagjjhfnaa.M
open Go.RowKit Go.Proofs.YtendmmagjjhfnaaW.PrintWords Go.Proofs.YtendmmagjjhfnaaW.PrintLast Go.Proofs.YtendmmagjjhfnaaW.PrintMore
attribute [local go_sem] max2_int min2_int max_two min_two max_three min_three max_four min_four
set_option linter.unusedVariables false
set_option linter.unusedSimpArgs false
def fi (p : S38 → Bool) : Int → List S38 → Int
  | _, [] => -1
  | i, x :: xs => if p x then i else fi p (i + 1) xs
def isJump (x : S38) : Bool := decide (x.f7 ≠ 0)
theorem fi_none (p : S38 → Bool) (l : List S38) (k : Nat) (i : Int) (h : l.length ≤ k) : fi p i (l.drop k) = -1 := by
  rw [List.drop_of_length_le h]; rfl
theorem rd_T38_nat (l : List S38) (k : Nat) (h : k < l.length) : rd_T38 l (k : Int) = l[k] := by
  unfold rd_T38
  rw [Int.toNat_natCast, List.getD_eq_getElem?_getD, List.getElem?_eq_getElem h]; rfl
theorem fi_yes (p : S38 → Bool) (l : List S38) (k : Nat) (h : k < l.length) (hp : p (rd_T38 l (k : Int)) = true) : fi p k (l.drop k) = k := by
  rw [List.drop_eq_getElem_cons h, fi, ← rd_T38_nat l k h, if_pos hp]
theorem fi_no (p : S38 → Bool) (l : List S38) (k : Nat) (h : k < l.length) (hp : p (rd_T38 l (k : Int)) = false) : fi p k (l.drop k) = fi p ((k + 1 : Nat) : Int) (l.drop (k + 1)) := by
  rw [List.drop_eq_getElem_cons h, fi, ← rd_T38_nat l k h, if_neg (by simp [hp])]; rfl
theorem ret_int_ {a b : Int} (h : a = b) : Ending.returned (.int .i64 a) = .returned (.int .i64 b) := by rw [h]
set_option maxHeartbeats 1600000 in
set_option maxRecDepth 100000 in
theorem idx_38 (A0 : Option Addr) (c0 : Nat) (l0 : List S38) (w : World) (hr0 : Kd.C k38 w A0 l0.length l0) (hm : l0.length ≤ 140737488351232) :
    Calls Try.prog 41 #[.slice A0 l0.length c0, .func (.func 38) #[] #[]] w fun e w' => e = .returned (.int .i64 (fi (fun x => x.f3) 0 l0)) ∧ Below w.heap.size w w' := by
  have hu38 := Try.underlying38
  have HB := Aside0.mk (Below.refl w.heap.size w)
  have HR0 := Aside0.mk hr0
  clear hr0
  go_enter Try.func41, Try.ntmps41
  go_wp2
  go_loopw [8] (fun i wr => ∃ k : Nat, k ≤ l0.length ∧ i = .int .i64 (k : Int) ∧ Aside0 (fi (fun x => x.f3) k (l0.drop k) = fi (fun x => x.f3) 0 l0) ∧ Aside0 (Below w.heap.size w wr)) (fun i _ => l0.length - (intOf i).toNat)
  case atStart => exact ⟨0, Nat.zero_le _, rfl, ⟨qqX⟩, HB⟩
  case round =>
    clear HB
    obtain ⟨k, hk, rfl, HF, HB⟩ := hrel
    by_cases hlt : k < l0.length
    rotate_left
    · have hn : l0.length ≤ k := by omega
      obtain rfl : k = l0.length := by omega
      go_wp2
      go_ret
      exact ⟨ret_int_ qqF, HB.out⟩
    obtain ⟨ad, A2, c2, rfl, h0, h1, h2, h3, h4, h5, h6, h7, _, _⟩ := at_T38 HR0.out (k : Int) (by omega) (by omega)
    rw [Int.toNat_natCast] at h0 h1 h2 h3 h4 h5 h6 h7
    replace h0 := (HB.out.cell (World.block_lt_of_cell? w _ h0)).trans h0
    replace h1 := (HB.out.cell (World.block_lt_of_cell? w _ h1)).trans h1
    replace h2 := (HB.out.cell (World.block_lt_of_cell? w _ h2)).trans h2
    replace h3 := (HB.out.cell (World.block_lt_of_cell? w _ h3)).trans h3
    replace h4 := (HB.out.cell (World.block_lt_of_cell? w _ h4)).trans h4
    replace h5 := (HB.out.cell (World.block_lt_of_cell? w _ h5)).trans h5
    replace h6 := (HB.out.cell (World.block_lt_of_cell? w _ h6)).trans h6
    replace h7 := (HB.out.cell (World.block_lt_of_cell? w _ h7)).trans h7
    cases hp : (rd_T38 l0 (k : Int)).f3 with
    | true =>
      have HP := Aside0.mk hp
      rw [hp] at h3
      clear hp
      go_wp2
      go_ret
      exact ⟨ret_int_ qqH, below_alloc HB.out _⟩
    | false =>
      have HP := Aside0.mk hp
      rw [hp] at h3
      clear hp
      go_wp2
      go_roundw
      case rel => exact ⟨k + 1, by omega, by go_num, ⟨(fi_no _ _ _ hlt HP.out).symm.trans HF.out⟩, ⟨below_alloc HB.out _⟩⟩
      case measure => simp [intOf]; omega
set_option maxHeartbeats 1600000 in
set_option maxRecDepth 100000 in
theorem idx_39 (A0 : Option Addr) (c0 : Nat) (l0 : List S38) (w : World) (hr0 : Kd.C k38 w A0 l0.length l0) (hm : l0.length ≤ 140737488351232) :
    Calls Try.prog 41 #[.slice A0 l0.length c0, .func (.func 39) #[] #[]] w fun e w' => e = .returned (.int .i64 (fi (fun x => x.f4) 0 l0)) ∧ Below w.heap.size w w' := by
  have hu38 := Try.underlying38
  have HB := Aside0.mk (Below.refl w.heap.size w)
  have HR0 := Aside0.mk hr0
  clear hr0
  go_enter Try.func41, Try.ntmps41
  go_wp2
  go_loopw [8] (fun i wr => ∃ k : Nat, k ≤ l0.length ∧ i = .int .i64 (k : Int) ∧ Aside0 (fi (fun x => x.f4) k (l0.drop k) = fi (fun x => x.f4) 0 l0) ∧ Aside0 (Below w.heap.size w wr)) (fun i _ => l0.length - (intOf i).toNat)
  case atStart => exact ⟨0, Nat.zero_le _, rfl, ⟨qqX⟩, HB⟩
  case round =>
    clear HB
    obtain ⟨k, hk, rfl, HF, HB⟩ := hrel
    by_cases hlt : k < l0.length
    rotate_left
    · have hn : l0.length ≤ k := by omega
      obtain rfl : k = l0.length := by omega
      go_wp2
      go_ret
      exact ⟨ret_int_ qqF, HB.out⟩
    obtain ⟨ad, A2, c2, rfl, h0, h1, h2, h3, h4, h5, h6, h7, _, _⟩ := at_T38 HR0.out (k : Int) (by omega) (by omega)
    rw [Int.toNat_natCast] at h0 h1 h2 h3 h4 h5 h6 h7
    replace h0 := (HB.out.cell (World.block_lt_of_cell? w _ h0)).trans h0
    replace h1 := (HB.out.cell (World.block_lt_of_cell? w _ h1)).trans h1
    replace h2 := (HB.out.cell (World.block_lt_of_cell? w _ h2)).trans h2
    replace h3 := (HB.out.cell (World.block_lt_of_cell? w _ h3)).trans h3
    replace h4 := (HB.out.cell (World.block_lt_of_cell? w _ h4)).trans h4
    replace h5 := (HB.out.cell (World.block_lt_of_cell? w _ h5)).trans h5
    replace h6 := (HB.out.cell (World.block_lt_of_cell? w _ h6)).trans h6
    replace h7 := (HB.out.cell (World.block_lt_of_cell? w _ h7)).trans h7
    cases hp : (rd_T38 l0 (k : Int)).f4 with
    | true =>
      have HP := Aside0.mk hp
      rw [hp] at h4
      clear hp
      go_wp2
      go_ret
      exact ⟨ret_int_ qqH, below_alloc HB.out _⟩
    | false =>
      have HP := Aside0.mk hp
      rw [hp] at h4
      clear hp
      go_wp2
      go_roundw
      case rel => exact ⟨k + 1, by omega, by go_num, ⟨(fi_no _ _ _ hlt HP.out).symm.trans HF.out⟩, ⟨below_alloc HB.out _⟩⟩
      case measure => simp [intOf]; omega
set_option maxHeartbeats 1600000 in
set_option maxRecDepth 100000 in
theorem idx_28 (A0 : Option Addr) (c0 : Nat) (l0 : List S38) (w : World) (hr0 : Kd.C k38 w A0 l0.length l0) (hm : l0.length ≤ 140737488351232) :
    Calls Try.prog 41 #[.slice A0 l0.length c0, .func (.func 28) #[] #[]] w fun e w' => e = .returned (.int .i64 (fi (fun x => x.f6) 0 l0)) ∧ Below w.heap.size w w' := by
  have hu38 := Try.underlying38
  have HB := Aside0.mk (Below.refl w.heap.size w)
  have HR0 := Aside0.mk hr0
  clear hr0
  go_enter Try.func41, Try.ntmps41
  go_wp2
  go_loopw [8] (fun i wr => ∃ k : Nat, k ≤ l0.length ∧ i = .int .i64 (k : Int) ∧ Aside0 (fi (fun x => x.f6) k (l0.drop k) = fi (fun x => x.f6) 0 l0) ∧ Aside0 (Below w.heap.size w wr)) (fun i _ => l0.length - (intOf i).toNat)
  case atStart => exact ⟨0, Nat.zero_le _, rfl, ⟨qqX⟩, HB⟩
  case round =>
    clear HB
    obtain ⟨k, hk, rfl, HF, HB⟩ := hrel
    by_cases hlt : k < l0.length
    rotate_left
    · have hn : l0.length ≤ k := by omega
      obtain rfl : k = l0.length := by omega
      go_wp2
      go_ret
      exact ⟨ret_int_ qqF, HB.out⟩
    obtain ⟨ad, A2, c2, rfl, h0, h1, h2, h3, h4, h5, h6, h7, _, _⟩ := at_T38 HR0.out (k : Int) (by omega) (by omega)
    rw [Int.toNat_natCast] at h0 h1 h2 h3 h4 h5 h6 h7
    replace h0 := (HB.out.cell (World.block_lt_of_cell? w _ h0)).trans h0
    replace h1 := (HB.out.cell (World.block_lt_of_cell? w _ h1)).trans h1
    replace h2 := (HB.out.cell (World.block_lt_of_cell? w _ h2)).trans h2
    replace h3 := (HB.out.cell (World.block_lt_of_cell? w _ h3)).trans h3
    replace h4 := (HB.out.cell (World.block_lt_of_cell? w _ h4)).trans h4
    replace h5 := (HB.out.cell (World.block_lt_of_cell? w _ h5)).trans h5
    replace h6 := (HB.out.cell (World.block_lt_of_cell? w _ h6)).trans h6
    replace h7 := (HB.out.cell (World.block_lt_of_cell? w _ h7)).trans h7
    cases hp : (rd_T38 l0 (k : Int)).f6 with
    | true =>
      have HP := Aside0.mk hp
      rw [hp] at h6
      clear hp
      go_wp2
      go_ret
      exact ⟨ret_int_ qqH, below_alloc HB.out _⟩
    | false =>
      have HP := Aside0.mk hp
      rw [hp] at h6
      clear hp
      go_wp2
      go_roundw
      case rel => exact ⟨k + 1, by omega, by go_num, ⟨(fi_no _ _ _ hlt HP.out).symm.trans HF.out⟩, ⟨below_alloc HB.out _⟩⟩
      case measure => simp [intOf]; omega
set_option maxHeartbeats 1600000 in
set_option maxRecDepth 100000 in
theorem idx_30 (A0 : Option Addr) (c0 : Nat) (l0 : List S38) (w : World) (hr0 : Kd.C k38 w A0 l0.length l0) (hm : l0.length ≤ 140737488351232) :
    Calls Try.prog 41 #[.slice A0 l0.length c0, .func (.func 30) #[] #[]] w fun e w' => e = .returned (.int .i64 (fi (fun x => x.f5) 0 l0)) ∧ Below w.heap.size w w' := by
  have hu38 := Try.underlying38
  have HB := Aside0.mk (Below.refl w.heap.size w)
  have HR0 := Aside0.mk hr0
  clear hr0
  go_enter Try.func41, Try.ntmps41
  go_wp2
  go_loopw [8] (fun i wr => ∃ k : Nat, k ≤ l0.length ∧ i = .int .i64 (k : Int) ∧ Aside0 (fi (fun x => x.f5) k (l0.drop k) = fi (fun x => x.f5) 0 l0) ∧ Aside0 (Below w.heap.size w wr)) (fun i _ => l0.length - (intOf i).toNat)
  case atStart => exact ⟨0, Nat.zero_le _, rfl, ⟨qqX⟩, HB⟩
  case round =>
    clear HB
    obtain ⟨k, hk, rfl, HF, HB⟩ := hrel
    by_cases hlt : k < l0.length
    rotate_left
    · have hn : l0.length ≤ k := by omega
      obtain rfl : k = l0.length := by omega
      go_wp2
      go_ret
      exact ⟨ret_int_ qqF, HB.out⟩
    obtain ⟨ad, A2, c2, rfl, h0, h1, h2, h3, h4, h5, h6, h7, _, _⟩ := at_T38 HR0.out (k : Int) (by omega) (by omega)
    rw [Int.toNat_natCast] at h0 h1 h2 h3 h4 h5 h6 h7
    replace h0 := (HB.out.cell (World.block_lt_of_cell? w _ h0)).trans h0
    replace h1 := (HB.out.cell (World.block_lt_of_cell? w _ h1)).trans h1
    replace h2 := (HB.out.cell (World.block_lt_of_cell? w _ h2)).trans h2
    replace h3 := (HB.out.cell (World.block_lt_of_cell? w _ h3)).trans h3
    replace h4 := (HB.out.cell (World.block_lt_of_cell? w _ h4)).trans h4
    replace h5 := (HB.out.cell (World.block_lt_of_cell? w _ h5)).trans h5
    replace h6 := (HB.out.cell (World.block_lt_of_cell? w _ h6)).trans h6
    replace h7 := (HB.out.cell (World.block_lt_of_cell? w _ h7)).trans h7
    cases hp : (rd_T38 l0 (k : Int)).f5 with
    | true =>
      have HP := Aside0.mk hp
      rw [hp] at h5
      clear hp
      go_wp2
      go_ret
      exact ⟨ret_int_ qqH, below_alloc HB.out _⟩
    | false =>
      have HP := Aside0.mk hp
      rw [hp] at h5
      clear hp
      go_wp2
      go_roundw
      case rel => exact ⟨k + 1, by omega, by go_num, ⟨(fi_no _ _ _ hlt HP.out).symm.trans HF.out⟩, ⟨below_alloc HB.out _⟩⟩
      case measure => simp [intOf]; omega
set_option maxHeartbeats 1600000 in
set_option maxRecDepth 100000 in
theorem idx_40 (A0 : Option Addr) (c0 : Nat) (l0 : List S38) (w : World) (hr0 : Kd.C k38 w A0 l0.length l0) (hm : l0.length ≤ 140737488351232) :
    Calls Try.prog 41 #[.slice A0 l0.length c0, .func (.func 40) #[] #[]] w fun e w' => e = .returned (.int .i64 (fi isJump 0 l0)) ∧ Below w.heap.size w w' := by
  have hu38 := Try.underlying38
  have HB := Aside0.mk (Below.refl w.heap.size w)
  have HR0 := Aside0.mk hr0
  clear hr0
  go_enter Try.func41, Try.ntmps41
  go_wp2
  go_loopw [8] (fun i wr => ∃ k : Nat, k ≤ l0.length ∧ i = .int .i64 (k : Int) ∧ Aside0 (fi isJump k (l0.drop k) = fi isJump 0 l0) ∧ Aside0 (Below w.heap.size w wr)) (fun i _ => l0.length - (intOf i).toNat)
  case atStart => exact ⟨0, Nat.zero_le _, rfl, ⟨qqX⟩, HB⟩
  case round =>
    clear HB
    obtain ⟨k, hk, rfl, HF, HB⟩ := hrel
    by_cases hlt : k < l0.length
    rotate_left
    · have hn : l0.length ≤ k := by omega
      obtain rfl : k = l0.length := by omega
      go_wp2
      go_ret
      exact ⟨ret_int_ qqF, HB.out⟩
    obtain ⟨ad, A2, c2, rfl, h0, h1, h2, h3, h4, h5, h6, h7, _, _⟩ := at_T38 HR0.out (k : Int) (by omega) (by omega)
    rw [Int.toNat_natCast] at h0 h1 h2 h3 h4 h5 h6 h7
    replace h0 := (HB.out.cell (World.block_lt_of_cell? w _ h0)).trans h0
    replace h1 := (HB.out.cell (World.block_lt_of_cell? w _ h1)).trans h1
    replace h2 := (HB.out.cell (World.block_lt_of_cell? w _ h2)).trans h2
    replace h3 := (HB.out.cell (World.block_lt_of_cell? w _ h3)).trans h3
    replace h4 := (HB.out.cell (World.block_lt_of_cell? w _ h4)).trans h4
    replace h5 := (HB.out.cell (World.block_lt_of_cell? w _ h5)).trans h5
    replace h6 := (HB.out.cell (World.block_lt_of_cell? w _ h6)).trans h6
    replace h7 := (HB.out.cell (World.block_lt_of_cell? w _ h7)).trans h7
    by_cases hp : (rd_T38 l0 (k : Int)).f7 = 0
    rotate_left
    · have HP : Aside0 (decide ((rd_T38 l0 (k : Int)).f7 ≠ 0) = true) := ⟨by simp [hp]⟩
      have hpb : ((rd_T38 l0 (k : Int)).f7 != 0) = true := bne_iff_ne.mpr hp
      clear hp
      go_wp2
      go_ret
      exact ⟨ret_int_ qqH, below_alloc HB.out _⟩
    have HP : Aside0 (decide ((rd_T38 l0 (k : Int)).f7 ≠ 0) = false) := ⟨by simp [hp]⟩
    rw [hp] at h7
    clear hp
    go_wp2
    go_roundw
    case rel => exact ⟨k + 1, by omega, by go_num, ⟨(fi_no _ _ _ hlt HP.out).symm.trans HF.out⟩, ⟨below_alloc HB.out _⟩⟩
    case measure => simp [intOf]; omega
def turns_found_1.f (l0 : List (S38)) : Option Int := if l0.length ≤ 140737488351232 then some (fi (fun x => x.f3) 0 l0) else none
set_option maxHeartbeats 1600000 in
set_option maxRecDepth 100000 in
theorem turns_found_1.calls (A0 : Option Addr) (c0 : Nat) (l0 : List (S38)) (r : Int) (w : World) (hr0 : Kd.C k38 w A0 l0.length l0) (hc0 : l0.length ≤ c0) (h : turns_found_1.f l0 = some r) :
    Calls Try.prog 27 #[.slice A0 l0.length c0, .func (.func 38) #[] #[]] w fun e w' => e = .returned (.int .i64 r) ∧ Below w.heap.size w w' := by
  unfold turns_found_1.f at h
  by_cases hm : l0.length ≤ 140737488351232
  · rw [if_pos hm] at h
    obtain rfl := Option.some.inj h
    have HR0 := Aside0.mk hr0
    have HM := Aside0.mk hm
    clear hr0 hm h
    go_enter Try.func27, Try.ntmps27
    go_wp2_with ((with_reducible refine (idx_38 A0 c0 l0 _ HR0.out HM.out).mono ?_); rintro e w' ⟨rfl, hb⟩)
    go_ret
    exact ⟨rfl, hb⟩
  · rw [if_neg hm] at h
    cases h
def turns_found_2.f (l0 : List (S38)) : Option Int := if l0.length ≤ 140737488351232 then some (fi (fun x => x.f4) 0 l0) else none
set_option maxHeartbeats 1600000 in
set_option maxRecDepth 100000 in
theorem turns_found_2.calls (A0 : Option Addr) (c0 : Nat) (l0 : List (S38)) (r : Int) (w : World) (hr0 : Kd.C k38 w A0 l0.length l0) (hc0 : l0.length ≤ c0) (h : turns_found_2.f l0 = some r) :
    Calls Try.prog 27 #[.slice A0 l0.length c0, .func (.func 39) #[] #[]] w fun e w' => e = .returned (.int .i64 r) ∧ Below w.heap.size w w' := by
  unfold turns_found_2.f at h
  by_cases hm : l0.length ≤ 140737488351232
  · rw [if_pos hm] at h
    obtain rfl := Option.some.inj h
    have HR0 := Aside0.mk hr0
    have HM := Aside0.mk hm
    clear hr0 hm h
    go_enter Try.func27, Try.ntmps27
    go_wp2_with ((with_reducible refine (idx_39 A0 c0 l0 _ HR0.out HM.out).mono ?_); rintro e w' ⟨rfl, hb⟩)
    go_ret
    exact ⟨rfl, hb⟩
  · rw [if_neg hm] at h
    cases h
def turns_found_3.f (l0 : List (S38)) : Option Int := if l0.length ≤ 140737488351232 then some (fi isJump 0 l0) else none
set_option maxHeartbeats 1600000 in
set_option maxRecDepth 100000 in
theorem turns_found_3.calls (A0 : Option Addr) (c0 : Nat) (l0 : List (S38)) (r : Int) (w : World) (hr0 : Kd.C k38 w A0 l0.length l0) (hc0 : l0.length ≤ c0) (h : turns_found_3.f l0 = some r) :
    Calls Try.prog 27 #[.slice A0 l0.length c0, .func (.func 40) #[] #[]] w fun e w' => e = .returned (.int .i64 r) ∧ Below w.heap.size w w' := by
  unfold turns_found_3.f at h
  by_cases hm : l0.length ≤ 140737488351232
  · rw [if_pos hm] at h
    obtain rfl := Option.some.inj h
    have HR0 := Aside0.mk hr0
    have HM := Aside0.mk hm
    clear hr0 hm h
    go_enter Try.func27, Try.ntmps27
    go_wp2_with ((with_reducible refine (idx_40 A0 c0 l0 _ HR0.out HM.out).mono ?_); rintro e w' ⟨rfl, hb⟩)
    go_ret
    exact ⟨rfl, hb⟩
  · rw [if_neg hm] at h
    cases h
end Go.Proofs.Ytendmmagjjhfnaa.M
namespace Go.Proofs.Ytendmmagjjhfnaa.M
open Go.RowKit Go.Proofs.YtendmmagjjhfnaaW.PrintWords Go.Proofs.YtendmmagjjhfnaaW.PrintLast Go.Proofs.YtendmmagjjhfnaaW.PrintMore
class StH (w : outParam World) (w' : World) : Prop where
  keep : ∀ (k : Nat), k < w.heap.size → w'.heap[k]? = w.heap[k]?
  below : ∀ (w0 : World), Below w0.heap.size w0 w → Below w0.heap.size w0 w'
instance (priority := low) StH.refl (w : World) : StH w w := ⟨fun _ _ => rfl, fun _ h => h⟩
theorem StH.size {w w' : World} (h : StH w w') : w.heap.size ≤ w'.heap.size := by
  have h1 := h.below w (Below.refl _ _)
  exact h1.size
instance StH.alloc (w w' : World) (o : Obj) [h : StH w w'] : StH w (w'.alloc o) := ⟨fun k hk => by
  have h1 := h.keep k hk
  have h2 := h.size
  rw [← h1]
  exact Below.heap_alloc _ _ _ (by omega), fun w0 hb => below_alloc (h.below w0 hb) _⟩
instance StH.drew (w w' : World) [h : StH w w'] : StH w w'.drew := ⟨fun k hk => h.keep k hk, fun w0 hb => below_drew1 (h.below w0 hb)⟩
instance StH.drewN (w w' : World) (n : Nat) [h : StH w w'] : StH w (w'.drewN n) := ⟨fun k hk => by
  have hlt : k < w.heap.size := hk
  have h1 := h.keep k hk
  have h2 : w.heap[k]? = some w.heap[k] := Array.getElem?_eq_getElem hlt
  rw [h2] at h1 ⊢
  exact blk_drewN h1 n, fun w0 hb => by apply pw_below_drewN; exact h.below w0 hb⟩
theorem bq {w w' : World} {g : Nat} {o : Obj} (h : w.heap[g]? = some o) [st : StH w w'] : w'.heap[g]? = some o := (st.keep g (Array.getElem?_eq_some_iff.1 h).1).trans h
theorem qB {w w0 w' : World} (h : Below w0.heap.size w0 w) [st : StH w w'] : Below w0.heap.size w0 w' := st.below w0 h
section
variable {α : Type} {d : Kd α} {e : Nat} {w w' : World} {base : Nat} {ok : Nat → Prop} {v : Value} {xs : List α}
theorem qR (h : d.R e w base ok v xs) [st : StH w w'] : d.R e w' base ok v xs := Kd.R_step h (fun k _ hk => st.keep k hk)
theorem qS (h : d.S e w base ok v xs) [st : StH w w'] : d.S e w' base ok v xs := Kd.S_step h (fun k _ hk => st.keep k hk)
theorem qN (h : d.N e w base ok v xs) [st : StH w w'] : d.N e w' base ok v xs := Kd.N_step h (fun k _ hk => st.keep k hk)
end
class InL (b : Nat) (L : List Nat) : Prop where
  mem : b ∈ L
instance InL.head (b : Nat) (L : List Nat) : InL b (b :: L) := ⟨List.mem_cons_self⟩
instance (priority := low) InL.tail (a b : Nat) (L : List Nat) [h : InL b L] : InL b (a :: L) := ⟨List.mem_cons_of_mem _ h.mem⟩
class StS (L : List Nat) (w : outParam World) (w' : World) : Prop where
  below : ∀ (w0 : World), (∀ b, b ∈ L → w0.heap.size ≤ b) → Below w0.heap.size w0 w → Below w0.heap.size w0 w'
instance (priority := low) StS.refl (L : List Nat) (w : World) : StS L w w := ⟨fun _ _ h => h⟩
instance StS.alloc (L : List Nat) (w w' : World) (o : Obj) [h : StS L w w'] : StS L w (w'.alloc o) := ⟨fun w0 hl hb => below_alloc (h.below w0 hl hb) _⟩
instance StS.drew (L : List Nat) (w w' : World) [h : StS L w w'] : StS L w w'.drew := ⟨fun w0 hl hb => below_drew1 (h.below w0 hl hb)⟩
instance StS.drewN (L : List Nat) (w w' : World) (n : Nat) [h : StS L w w'] : StS L w (w'.drewN n) := ⟨fun w0 hl hb => by apply pw_below_drewN; exact h.below w0 hl hb⟩
instance StS.set (L : List Nat) (w w' : World) (b j : Nat) (v : Value) [h : StS L w w'] [hi : InL b L] : StS L w (w'.setCell ⟨b, j, none⟩ v) := ⟨fun w0 hl hb => below_set (h.below w0 hl hb) (hl b hi.mem)⟩
section
variable {w w0 w' : World} {a b c d e f i j k : Nat}
theorem qS1 (ga : Aside0 (w0.heap.size ≤ a)) (h : Below w0.heap.size w0 w) [st : StS [a] w w'] : Below w0.heap.size w0 w' := st.below w0 (by intro x hx; simp only [List.mem_cons, List.not_mem_nil, or_false] at hx; subst hx; exact ga.out) h
theorem qS2 (ga : Aside0 (w0.heap.size ≤ a)) (gb : Aside0 (w0.heap.size ≤ b)) (h : Below w0.heap.size w0 w) [st : StS [a, b] w w'] : Below w0.heap.size w0 w' := st.below w0 (by intro x hx; simp only [List.mem_cons, List.not_mem_nil, or_false] at hx; rcases hx with rfl | rfl; all_goals first | exact ga.out | exact gb.out) h
theorem qS3 (ga : Aside0 (w0.heap.size ≤ a)) (gb : Aside0 (w0.heap.size ≤ b)) (gc : Aside0 (w0.heap.size ≤ c)) (h : Below w0.heap.size w0 w) [st : StS [a, b, c] w w'] : Below w0.heap.size w0 w' := st.below w0 (by intro x hx; simp only [List.mem_cons, List.not_mem_nil, or_false] at hx; rcases hx with rfl | rfl | rfl; all_goals first | exact ga.out | exact gb.out | exact gc.out) h
end
section
variable {w : World} {g : Nat} {t : TypeId} {a b c d e f : Value}
theorem blk3 (h : w.heap[g]? = some (.cells #[a, b, c] t (0, 0))) : w.cell? ⟨g, 0, none⟩ = some a ∧ w.cell? ⟨g, 1, none⟩ = some b ∧ w.cell? ⟨g, 2, none⟩ = some c ∧ w.frozen? ⟨g, 0, none⟩ = false ∧ w.frozen? ⟨g, 1, none⟩ = false ∧ w.frozen? ⟨g, 2, none⟩ = false :=
  ⟨(blk_cell h 0).trans rfl, (blk_cell h 1).trans rfl, (blk_cell h 2).trans rfl, blk_frozen h 0, blk_frozen h 1, blk_frozen h 2⟩
end
def bs (k n : Nat) : Array Bool := ((List.range n).map fun i => Nat.testBit k i).toArray
section
variable {P : Program} {ops : Array Oper} {Q : Exit → Act → World → Prop} {md : Region.Mode} {S : World → Prop} {ds : List Nat}
theorem pureS (i : Nat) (N : Option Tmp) (l' : Array Bool) {oi : Oper} {v : Value} {fuel : Nat} {l : Array Bool} {a a' : Act} {w : World}
    (h : wpAnyLast P md ops Q S ds fuel l' a' w) (hi : ops[i]? = some oi := by exact rfl) (hN : oi.dst = N := by exact rfl) (hc : anyB md ops l l' i = true := by exact any_of HT_.out (by kernel_rfl))
    (hQ : ∀ c a w, Q (.panic c) (a.put oi.dst v) w → Q (.panic c) a w := by exact fun _ _ _ h => h)
    (hy : Yields P ops oi v a := by refine Or.inl ⟨by rfl, ?_⟩; intro w'; go_simp; with_reducible rfl)
    (ha : a.put N v = a' := by simp only [Act.put, List.setIfInBounds_toArray, List.set_cons_zero, List.set_cons_succ, i64_w, i32_w]; rfl) : wpAnyLast P md ops Q S ds (fuel + 1) l a w :=
  pure_ l' hi hN hc hQ hy ha h
theorem normS (N : Option Tmp) {fuel : Nat} {l : Array Bool} {a a' : Act} {v : Value} {w : World} (h : wpAnyLast P md ops Q S ds fuel l a' w)
    (ha : a.put N v = a' := by simp only [Act.put, List.setIfInBounds_toArray, List.set_cons_zero, List.set_cons_succ, i64_w, i32_w]; rfl) : wpAnyLast P md ops Q S ds fuel l (a.put N v) w := norm_ ha h
end
end Go.Proofs.Ytendmmagjjhfnaa.M
namespace Go.Proofs.Ytendmmagjjhfnaa.M
open Go.RowKit Go.Proofs.YtendmmagjjhfnaaW.PrintWords Go.Proofs.YtendmmagjjhfnaaW.PrintLast Go.Proofs.YtendmmagjjhfnaaW.PrintMore
attribute [local go_sem] max2_int min2_int max_two min_two max_three min_three max_four min_four
set_option linter.unusedVariables false
set_option linter.unusedSimpArgs false
def turns_found.f (l0 : List (S38)) : Option (Int × Int × Int) := (turns_found_1.f l0).bind fun t102 => ((turns_found_2.f l0).bind fun t103 => ((turns_found_3.f l0).bind fun t104 => (some (t102, t103, t104))))
set_option maxHeartbeats 8000000 in
set_option maxRecDepth 100000 in
theorem turns_found.calls (A0 : Option Addr) (c0 : Nat) (l0 : List (S38)) (r1 : Int) (r2 : Int) (r3 : Int) (w : World) (hr0 : Kd.C k38 w A0 l0.length l0) (hc0 : l0.length ≤ c0) (h : turns_found.f l0 = some (r1, r2, r3)) :
    Calls Try.prog 23 #[.slice A0 l0.length c0] w fun e w' => e = .returned (.agg #[.int .i64 r1, .int .i64 r2, .int .i64 r3]) ∧ Below w.heap.size w w' := by
  have hu49 := Try.underlying49
  have HR0 := Aside0.mk hr0
  have HC0 := Aside0.mk hc0
  clear hr0 hc0
  have HB := Aside0.mk (Below.refl w.heap.size w)
  have H := h
  unfold turns_found.f at H
  clear h
  replace H := Option.bind_eq_some_iff.mp H
  obtain ⟨t102, A20, H⟩ := H
  try dsimp -simprocs only at H
  have A2 := Aside0.mk A20
  clear A20
  replace H := Option.bind_eq_some_iff.mp H
  obtain ⟨t103, A30, H⟩ := H
  try dsimp -simprocs only at H
  have A3 := Aside0.mk A30
  clear A30
  replace H := Option.bind_eq_some_iff.mp H
  obtain ⟨t104, A40, H⟩ := H
  try dsimp -simprocs only at H
  have A4 := Aside0.mk A40
  clear A40
  simp only [Option.some.injEq, Prod.mk.injEq] at H
  obtain ⟨rfl, rfl, rfl⟩ := H
  go_enter Try.func23, Try.ntmps23
  go_wp2_with (first | ((with_reducible refine gate_dst (N := 2) rfl ?_); refine box_event ?hg (N := 2) ?hd (cs := #[.int .i64 0, .int .i64 0, .int .i64 0]) (t := 49) ?hr ?_; (case hd => rfl); (case hg => rfl); (case hr => exact qqj); intro gb101 hg w5 hbox hb; have BK101 := Aside0.mk (hbox); have GW101 := Aside0.mk ((qqg : w.heap.size ≤ gb101)); have GE101 := Aside0.mk ((qqg : w.heap.size ≤ gb101)); replace HB := Aside0.mk (below_step (qB HB.out) hb); clear hb hbox hg) | ((with_reducible refine gate_callee (f := 27) rfl ?_); refine goesL_ (some 4) rfl rfl Try.func27 (by kernel_rfl) rfl #[.slice A0 l0.length c0, .func (.func 38) #[] #[]] rfl qq1 ?_; (with_reducible refine (turns_found_1.calls _ _ l0 t102 _ ?side1 ?side2 A2.out).mono ?_); (case side1 => repeat (first | exact (Kd.C_below HR0.out HB.out) | (with_reducible refine Kd.C_alloc ?_ _) | (with_reducible refine Kd.C_drewN ?_ _) | (with_reducible refine Kd.C_drew ?_))); (case side2 => exact HC0.out); rintro e w6 ⟨rfl, hb⟩; refine ⟨_, rfl, ?_⟩; replace BK101 := Aside0.mk (blk_below (bq BK101.out) hb); replace HB := Aside0.mk (below_step (qS1 GE101 HB.out) hb); (try clear hb); (try clear hb2); (try clear hk); (try clear hi)) | ((with_reducible refine gate_callee (f := 27) rfl ?_); refine goesL_ (some 6) rfl rfl Try.func27 (by kernel_rfl) rfl #[.slice A0 l0.length c0, .func (.func 39) #[] #[]] rfl qq1 ?_; (with_reducible refine (turns_found_2.calls _ _ l0 t103 _ ?side1 ?side2 A3.out).mono ?_); (case side1 => repeat (first | exact (Kd.C_below HR0.out HB.out) | (with_reducible refine Kd.C_alloc ?_ _) | (with_reducible refine Kd.C_drewN ?_ _) | (with_reducible refine Kd.C_drew ?_))); (case side2 => exact HC0.out); rintro e w7 ⟨rfl, hb⟩; refine ⟨_, rfl, ?_⟩; replace BK101 := Aside0.mk (blk_below (bq BK101.out) hb); replace HB := Aside0.mk (below_step (qS1 GE101 HB.out) hb); (try clear hb); (try clear hb2); (try clear hk); (try clear hi)) | ((with_reducible refine gate_callee (f := 27) rfl ?_); refine goesL_ (some 8) rfl rfl Try.func27 (by kernel_rfl) rfl #[.slice A0 l0.length c0, .func (.func 40) #[] #[]] rfl qq1 ?_; (with_reducible refine (turns_found_3.calls _ _ l0 t104 _ ?side1 ?side2 A4.out).mono ?_); (case side1 => repeat (first | exact (Kd.C_below HR0.out HB.out) | (with_reducible refine Kd.C_alloc ?_ _) | (with_reducible refine Kd.C_drewN ?_ _) | (with_reducible refine Kd.C_drew ?_))); (case side2 => exact HC0.out); rintro e w8 ⟨rfl, hb⟩; refine ⟨_, rfl, ?_⟩; replace BK101 := Aside0.mk (blk_below (bq BK101.out) hb); replace HB := Aside0.mk (below_step (qS1 GE101 HB.out) hb); (try clear hb); (try clear hb2); (try clear hk); (try clear hi); obtain ⟨hcz9_0, hcz9_1, hcz9_2, hfz9_0, hfz9_1, hfz9_2⟩ := blk3 BK101.out))
  refine bodyPost_ret (results_cell_row rfl _ _ gb101 49 #[.int .i64 t102, .int .i64 t103, .int .i64 t104] (0, 0) _ rfl (by refine bq ?_; refine blk_put (cs := #[.int .i64 t102, .int .i64 t103, .int .i64 0]) ?_ 2 _ rfl; refine bq ?_; refine blk_put (cs := #[.int .i64 t102, .int .i64 0, .int .i64 0]) ?_ 1 _ rfl; refine bq ?_; refine blk_put (cs := #[.int .i64 0, .int .i64 0, .int .i64 0]) ?_ 0 _ rfl; exact bq BK101.out) Try.underlying49 rfl (by kernel_rfl)) rfl ?_
  exact ⟨qq2, qS1 GE101 HB.out⟩
end Go.Proofs.Ytendmmagjjhfnaa.M
namespace Go.Proofs.Ytendmmagjjhfnaa.M
open Go.RowKit Go.Proofs.YtendmmagjjhfnaaW.PrintWords
variable {w : World} {g : Nat} {t : TypeId}
theorem cells3 {a b c : Value} (h : w.heap[g]? = some (.cells #[a, b, c] t (0, 0))) : (w.cell? ⟨g, 0, none⟩ = some a ∧ w.cell? ⟨g, 1, none⟩ = some b ∧ w.cell? ⟨g, 2, none⟩ = some c) ∧ ∀ i : Nat, w.frozen? ⟨g, i, none⟩ = false :=
  ⟨⟨(blk_cell h 0).trans rfl, (blk_cell h 1).trans rfl, (blk_cell h 2).trans rfl⟩, blk_frozen h⟩
theorem cells5 {a b c d e : Value} (h : w.heap[g]? = some (.cells #[a, b, c, d, e] t (0, 0))) : (w.cell? ⟨g, 0, none⟩ = some a ∧ w.cell? ⟨g, 1, none⟩ = some b ∧ w.cell? ⟨g, 2, none⟩ = some c ∧ w.cell? ⟨g, 3, none⟩ = some d ∧ w.cell? ⟨g, 4, none⟩ = some e) ∧ ∀ i : Nat, w.frozen? ⟨g, i, none⟩ = false :=
  ⟨⟨(blk_cell h 0).trans rfl, (blk_cell h 1).trans rfl, (blk_cell h 2).trans rfl, (blk_cell h 3).trans rfl, (blk_cell h 4).trans rfl⟩, blk_frozen h⟩
theorem cells8 {a b c d e f i j : Value} (h : w.heap[g]? = some (.cells #[a, b, c, d, e, f, i, j] t (0, 0))) : (w.cell? ⟨g, 0, none⟩ = some a ∧ w.cell? ⟨g, 1, none⟩ = some b ∧ w.cell? ⟨g, 2, none⟩ = some c ∧ w.cell? ⟨g, 3, none⟩ = some d ∧ w.cell? ⟨g, 4, none⟩ = some e ∧ w.cell? ⟨g, 5, none⟩ = some f ∧ w.cell? ⟨g, 6, none⟩ = some i ∧ w.cell? ⟨g, 7, none⟩ = some j) ∧ ∀ i : Nat, w.frozen? ⟨g, i, none⟩ = false :=
  ⟨⟨(blk_cell h 0).trans rfl, (blk_cell h 1).trans rfl, (blk_cell h 2).trans rfl, (blk_cell h 3).trans rfl, (blk_cell h 4).trans rfl, (blk_cell h 5).trans rfl, (blk_cell h 6).trans rfl, (blk_cell h 7).trans rfl⟩, blk_frozen h⟩
end Go.Proofs.Ytendmmagjjhfnaa.M
namespace Go.Proofs.Ytendmmagjjhfnaa.M
open Go.RowKit Go.Proofs.YtendmmagjjhfnaaW.PrintWords Go.Proofs.YtendmmagjjhfnaaW.PrintLast Go.Proofs.YtendmmagjjhfnaaW.PrintMore
attribute [local go_sem] max2_int min2_int max_two min_two max_three min_three max_four min_four
set_option linter.unusedVariables false
set_option linter.unusedSimpArgs false
mutual
def turns_lone.j0 : Nat → Bool → Bool → Int → List Int → Bool → Bool → Bool → Bool → Int → Option (Bool)
  | 0, _, _, _, _, _, _, _, _, _ => none
  | k + 1, x3, x102000, x102001, x102002, x102003, x102004, x102005, x102006, x102007 => if x102007 ≥ 0 then (turns_lone.j1 k x3 (decide (x102007 ≤ 6)) x102000 x102001 x102002 x102003 x102004 x102005 x102006 x102007) else (turns_lone.j1 k x3 false x102000 x102001 x102002 x102003 x102004 x102005 x102006 x102007)
def turns_lone.j1 : Nat → Bool → Bool → Bool → Int → List Int → Bool → Bool → Bool → Bool → Int → Option (Bool)
  | 0, _, _, _, _, _, _, _, _, _, _ => none
  | k + 1, x3, x4, x102000, x102001, x102002, x102003, x102004, x102005, x102006, x102007 => turns_lone.l0 k x3 x4 0 x102002 (x102002.length : Int) 0
def turns_lone.l0 : Nat → Bool → Bool → Int → List Int → Int → Int → Option (Bool)
  | 0, _, _, _, _, _, _ => none
  | k + 1, x3, x4, x5, x30, x31, x32 => if x32 < x31 then (if 0 ≤ x32 then (if x32 < (x30.length : Int) then (if (rd x30 x32) ≤ x5 then (some false) else (if (rd x30 x32) > 9 then (some false) else (turns_lone.l0 k x3 x4 (rd x30 x32) x30 x31 (wrap64 (x32 + 1))))) else (none)) else (none)) else (if x3 = true then (some x4) else (some false))
end
def turns_lone.f (k : Nat) (a0_0 : Bool) (a0_1 : Int) (l0_2 : List Int) (a0_3 : Bool) (a0_4 : Bool) (a0_5 : Bool) (a0_6 : Bool) (a0_7 : Int) : Option (Bool) := if a0_1 = 0 then (turns_lone.j0 k true a0_0 a0_1 l0_2 a0_3 a0_4 a0_5 a0_6 a0_7) else (if a0_1 ≥ 2 then (turns_lone.j0 k (decide (a0_1 ≤ 9)) a0_0 a0_1 l0_2 a0_3 a0_4 a0_5 a0_6 a0_7) else (turns_lone.j0 k false a0_0 a0_1 l0_2 a0_3 a0_4 a0_5 a0_6 a0_7))
theorem turns_lone.mono_l : ∀ k, (∀ y0 y1 y2 y3 y4 y5 y6 y7 y8, LeO (turns_lone.j0 k y0 y1 y2 y3 y4 y5 y6 y7 y8) (turns_lone.j0 (k + 1) y0 y1 y2 y3 y4 y5 y6 y7 y8)) ∧ (∀ y0 y1 y2 y3 y4 y5 y6 y7 y8 y9, LeO (turns_lone.j1 k y0 y1 y2 y3 y4 y5 y6 y7 y8 y9) (turns_lone.j1 (k + 1) y0 y1 y2 y3 y4 y5 y6 y7 y8 y9)) ∧ (∀ y0 y1 y2 y3 y4 y5, LeO (turns_lone.l0 k y0 y1 y2 y3 y4 y5) (turns_lone.l0 (k + 1) y0 y1 y2 y3 y4 y5))
  | 0 => ⟨fun _ _ _ _ _ _ _ _ _ r h => by simp [turns_lone.j0] at h, fun _ _ _ _ _ _ _ _ _ _ r h => by simp [turns_lone.j1] at h, fun _ _ _ _ _ _ r h => by simp [turns_lone.l0] at h⟩
  | k + 1 => by
    obtain ⟨ih0, ih1, ih2⟩ := turns_lone.mono_l k
    refine ⟨?_, ?_, ?_⟩
    · intro y0 y1 y2 y3 y4 y5 y6 y7 y8
      unfold turns_lone.j0
      repeat' first
      | (with_reducible exact ih0 _ _ _ _ _ _ _ _ _)
      | (with_reducible exact ih1 _ _ _ _ _ _ _ _ _ _)
      | (with_reducible exact ih2 _ _ _ _ _ _)
      | (with_reducible exact LeO.refl _)
      | (with_reducible exact LeO.none _)
      | (with_reducible refine LeO.ite ?_ ?_)
      | (with_reducible refine LeO.bind ?_ (fun _ => ?_))
      | exact ih0 _ _ _ _ _ _ _ _ _
      | exact ih1 _ _ _ _ _ _ _ _ _ _
      | exact ih2 _ _ _ _ _ _
      | exact LeO.none _
      | refine LeO.ite ?_ ?_
      | refine LeO.bind ?_ (fun _ => ?_)
    · intro y0 y1 y2 y3 y4 y5 y6 y7 y8 y9
      unfold turns_lone.j1
      repeat' first
      | (with_reducible exact ih0 _ _ _ _ _ _ _ _ _)
      | (with_reducible exact ih1 _ _ _ _ _ _ _ _ _ _)
      | (with_reducible exact ih2 _ _ _ _ _ _)
      | (with_reducible exact LeO.refl _)
      | (with_reducible exact LeO.none _)
      | (with_reducible refine LeO.ite ?_ ?_)
      | (with_reducible refine LeO.bind ?_ (fun _ => ?_))
      | exact ih0 _ _ _ _ _ _ _ _ _
      | exact ih1 _ _ _ _ _ _ _ _ _ _
      | exact ih2 _ _ _ _ _ _
      | exact LeO.none _
      | refine LeO.ite ?_ ?_
      | refine LeO.bind ?_ (fun _ => ?_)
    · intro y0 y1 y2 y3 y4 y5
      unfold turns_lone.l0
      repeat' first
      | (with_reducible exact ih0 _ _ _ _ _ _ _ _ _)
      | (with_reducible exact ih1 _ _ _ _ _ _ _ _ _ _)
      | (with_reducible exact ih2 _ _ _ _ _ _)
      | (with_reducible exact LeO.refl _)
      | (with_reducible exact LeO.none _)
      | (with_reducible refine LeO.ite ?_ ?_)
      | (with_reducible refine LeO.bind ?_ (fun _ => ?_))
      | exact ih0 _ _ _ _ _ _ _ _ _
      | exact ih1 _ _ _ _ _ _ _ _ _ _
      | exact ih2 _ _ _ _ _ _
      | exact LeO.none _
      | refine LeO.ite ?_ ?_
      | refine LeO.bind ?_ (fun _ => ?_)
theorem turns_lone.mono : ∀ a0 a1 a2 a3 a4 a5 a6 a7 k, LeO (turns_lone.f k a0 a1 a2 a3 a4 a5 a6 a7) (turns_lone.f (k + 1) a0 a1 a2 a3 a4 a5 a6 a7) := by
  intro a0 a1 a2 a3 a4 a5 a6 a7 k
  obtain ⟨ih0, ih1, ih2⟩ := turns_lone.mono_l k
  unfold turns_lone.f
  repeat' first
      | (with_reducible exact ih0 _ _ _ _ _ _ _ _ _)
      | (with_reducible exact ih1 _ _ _ _ _ _ _ _ _ _)
      | (with_reducible exact ih2 _ _ _ _ _ _)
      | (with_reducible exact LeO.refl _)
      | (with_reducible exact LeO.none _)
      | (with_reducible refine LeO.ite ?_ ?_)
      | (with_reducible refine LeO.bind ?_ (fun _ => ?_))
      | exact ih0 _ _ _ _ _ _ _ _ _
      | exact ih1 _ _ _ _ _ _ _ _ _ _
      | exact ih2 _ _ _ _ _ _
      | exact LeO.none _
      | refine LeO.ite ?_ ?_
      | refine LeO.bind ?_ (fun _ => ?_)
set_option maxHeartbeats 8000000 in
set_option maxRecDepth 100000 in
theorem turns_lone.calls (k : Nat) (a0_0 : Bool) (a0_1 : Int) (A0_2 : Option Addr) (c0_2 : Nat) (l0_2 : List Int) (a0_3 : Bool) (a0_4 : Bool) (a0_5 : Bool) (a0_6 : Bool) (a0_7 : Int) (r : Bool) (w : World) (hr0_2 : Kd.C (Kd.int .i64) w A0_2 l0_2.length l0_2) (hc0_2 : l0_2.length ≤ c0_2) (h : turns_lone.f k a0_0 a0_1 l0_2 a0_3 a0_4 a0_5 a0_6 a0_7 = some r) :
    Calls Try.prog 24 #[.agg #[.bool a0_0, .int .i64 a0_1, .slice A0_2 l0_2.length c0_2, .bool a0_3, .bool a0_4, .bool a0_5, .bool a0_6, .int .i64 a0_7]] w fun e w' => e = .returned (.bool r) ∧ Below w.heap.size w w' := by
  have hu38 := Try.underlying38
  have HR0_2 := Aside0.mk hr0_2
  have HC0_2 := Aside0.mk hc0_2
  clear hr0_2 hc0_2
  have HB := Aside0.mk (Below.refl w.heap.size w)
  have H := h
  unfold turns_lone.f at H
  clear h
  have HC2 := Aside0.mk H
  clear H
  go_enter Try.func24, Try.ntmps24
  go_upto_region 1 with (first | ((with_reducible refine gate_dst (N := 1) rfl ?_); refine box_event ?hg (N := 1) ?hd (cs := #[.bool a0_0, .int .i64 a0_1, .slice A0_2 l0_2.length c0_2, .bool a0_3, .bool a0_4, .bool a0_5, .bool a0_6, .int .i64 a0_7]) (t := 38) ?hr ?_; (case hd => rfl); (case hg => rfl); (case hr => exact qqj); intro gb101 hg w3 hbox hb; have BK101 := Aside0.mk (hbox); have GW101 := Aside0.mk ((qqg : w.heap.size ≤ gb101)); have GE101 := Aside0.mk ((qqg : w.heap.size ≤ gb101)); replace HB := Aside0.mk (below_step (qB HB.out) hb); clear hb hbox hg))
  (try simp only [Act.put, List.setIfInBounds_toArray, List.set_cons_zero, List.set_cons_succ])
  go_cut [3] (fun v3 wc => ∃ (kq : Nat) (x3_1 : Bool), v3 = .bool x3_1 ∧ Aside0 (turns_lone.j0 kq x3_1 a0_0 a0_1 l0_2 a0_3 a0_4 a0_5 a0_6 a0_7 = some r) ∧ Aside0 (kq ≤ k) ∧ Aside0 (wc.heap[gb101]? = some (.cells #[.bool a0_0, .int .i64 a0_1, (.slice A0_2 l0_2.length c0_2), .bool a0_3, .bool a0_4, .bool a0_5, .bool a0_6, .int .i64 a0_7] 38 (0, 0))) ∧ Aside0 (Below w.heap.size w wc))
  case first =>
    have H := HC2.out
    clear HC2
    by_cases c4 : a0_1 = 0
    · rw [if_pos c4] at H
      have c4b0 : (a0_1 == 0) = true := beq_iff_eq.mpr c4
      have c4b1 : (a0_1 != 0) = false := bne_eq_false_iff_eq.mpr c4
      clear c4
      (first | rw [c4b0] | (simp only [i64_w, i32_w]; rw [c4b0]) | skip)
      have H' := Aside0.mk H
      clear H
      have hz5 := cells8 BK101.out
      go_wp2
      go_meet
      case rel => exact ⟨_, (true), qq3, H', ⟨qqn⟩, ⟨bq BK101.out⟩, ⟨qS1 GE101 HB.out⟩⟩
    rw [if_neg c4] at H
    have c4b0 : (a0_1 == 0) = false := beq_eq_false_iff_ne.mpr c4
    have c4b1 : (a0_1 != 0) = true := bne_iff_ne.mpr c4
    (first | rw [c4b0] | (simp only [i64_w, i32_w]; rw [c4b0]) | skip)
    by_cases c6 : a0_1 ≥ 2
    · rw [if_pos c6] at H
      have c6b0 : decide (2 ≤ a0_1) = true := decide_eq_true c6
      clear c6
      have H' := Aside0.mk H
      clear H
      have hz7 := cells8 BK101.out
      go_wp2
      go_meet
      case rel => exact ⟨_, (decide (a0_1 ≤ 9)), qq3, H', ⟨qqn⟩, ⟨bq BK101.out⟩, ⟨qS1 GE101 HB.out⟩⟩
    rw [if_neg c6] at H
    have c6b0 : decide (2 ≤ a0_1) = false := decide_eq_false c6
    clear c6
    have H' := Aside0.mk H
    clear H
    have hz8 := cells8 BK101.out
    go_wp2
    go_meet
    case rel => exact ⟨_, (false), qq3, H', ⟨qqn⟩, ⟨bq BK101.out⟩, ⟨qS1 GE101 HB.out⟩⟩
  case rest =>
    clear HC2
    try clear c2
    try clear p2
    try clear c4
    try clear c4b0
    try clear c4b1
    try clear c6
    try clear c6b0
    obtain ⟨kq, x3_1, rfl, HA, HJ1, BK101, HB⟩ := hcut
    cases kq with
    | zero => exact absurd HA.out (by simp [turns_lone.j0])
    | succ kj1 =>
      have H := HA.out
      clear HA
      simp only [turns_lone.j0] at H
      have HC9 := Aside0.mk H
      clear H
      go_upto_region 2 with (fail)
      go_cut [4] (fun v4 wc => ∃ (kq : Nat) (x4_8 : Bool), v4 = .bool x4_8 ∧ Aside0 (turns_lone.j1 kq x3_1 x4_8 a0_0 a0_1 l0_2 a0_3 a0_4 a0_5 a0_6 a0_7 = some r) ∧ Aside0 (kq ≤ kj1) ∧ Aside0 (wc.heap[gb101]? = some (.cells #[.bool a0_0, .int .i64 a0_1, (.slice A0_2 l0_2.length c0_2), .bool a0_3, .bool a0_4, .bool a0_5, .bool a0_6, .int .i64 a0_7] 38 (0, 0))) ∧ Aside0 (Below w.heap.size w wc))
      case first =>
        have H := HC9.out
        clear HC9
        by_cases c10 : a0_7 ≥ 0
        · rw [if_pos c10] at H
          have c10b0 : decide (0 ≤ a0_7) = true := decide_eq_true c10
          clear c10
          (first | rw [c10b0] | (simp only [i64_w, i32_w]; rw [c10b0]) | skip)
          have H' := Aside0.mk H
          clear H
          have hz11 := cells8 BK101.out
          go_wp2
          go_meet
          case rel => exact ⟨_, (decide (a0_7 ≤ 6)), qq3, H', ⟨qqM⟩, ⟨bq BK101.out⟩, ⟨qS1 GE101 HB.out⟩⟩
        rw [if_neg c10] at H
        have c10b0 : decide (0 ≤ a0_7) = false := decide_eq_false c10
        clear c10
        (first | rw [c10b0] | (simp only [i64_w, i32_w]; rw [c10b0]) | skip)
        have H' := Aside0.mk H
        clear H
        have hz12 := cells8 BK101.out
        go_wp2
        go_meet
        case rel => exact ⟨_, (false), qq3, H', ⟨qqM⟩, ⟨bq BK101.out⟩, ⟨qS1 GE101 HB.out⟩⟩
      case rest =>
        clear HC9
        try clear c1
        try clear c2
        try clear p2
        try clear c4
        try clear c4b0
        try clear c4b1
        try clear c6
        try clear c6b0
        try clear c10
        try clear c10b0
        try clear p2
        obtain ⟨kq, x4_8, rfl, HA, HJ8, BK101, HB⟩ := hcut
        cases kq with
        | zero => exact absurd HA.out (by simp [turns_lone.j1])
        | succ kj8 =>
          have H := HA.out
          clear HA
          simp only [turns_lone.j1] at H
          have H' := Aside0.mk H
          clear H
          have hz13 := cells8 BK101.out
          go_wp2
          go_loopg [5, 32] kj8 (fun kq v5 v32 w' => ∃ (x5_3 : Int) (x32_3 : Int), v5 = .int .i64 x5_3 ∧ v32 = .int .i64 x32_3 ∧ Aside0 (turns_lone.l0 kq x3_1 x4_8 x5_3 l0_2 (l0_2.length : Int) x32_3 = some r) ∧ Aside0 (kq ≤ kj8) ∧ Aside0 (w'.heap[gb101]? = some (.cells #[.bool a0_0, .int .i64 a0_1, (.slice A0_2 l0_2.length c0_2), .bool a0_3, .bool a0_4, .bool a0_5, .bool a0_6, .int .i64 a0_7] 38 (0, 0))) ∧ Aside0 (Below w.heap.size w w'))
          case atStart => exact ⟨(0), (0), qq3, qq3, H', ⟨Nat.le_refl _⟩, ⟨bq BK101.out⟩, ⟨qS1 GE101 HB.out⟩⟩
          case round =>
            clear H'
            try clear c1
            try clear c2
            try clear p2
            try clear c4
            try clear c4b0
            try clear c4b1
            try clear c6
            try clear c6b0
            try clear c10
            try clear c10b0
            try clear p2
            obtain ⟨x5_3, x32_3, rfl, rfl, HA, HK3, BK101, HB⟩ := hrel
            cases gk with
            | zero => exact absurd HA.out (by simp [turns_lone.l0])
            | succ k3 =>
              have H := HA.out
              clear HA
              simp only [turns_lone.l0] at H
              by_cases c14 : x32_3 < (l0_2.length : Int)
              rotate_left
              · rw [if_neg c14] at H
                have c14b0 : decide (x32_3 < (l0_2.length : Int)) = false := decide_eq_false c14
                clear c14
                by_cases c19 : x3_1 = true
                · subst c19
                  have H1 : (some x4_8) = some r := by rw [if_pos rfl] at H; exact H
                  clear H
                  have H := H1
                  clear H1
                  obtain rfl := Option.some.inj H
                  go_wp2
                  go_ret
                  exact ⟨qq2, qS1 GE101 HB.out⟩
                replace c19 := Bool.eq_false_iff.mpr c19
                subst c19
                have H1 : (some false) = some r := by rw [if_neg (show ¬ (false = true) by decide)] at H; exact H
                clear H
                have H := H1
                clear H1
                obtain rfl := Option.some.inj H
                go_wp2
                go_ret
                exact ⟨qq2, qS1 GE101 HB.out⟩
              rw [if_pos c14] at H
              have c14b0 : decide (x32_3 < (l0_2.length : Int)) = true := decide_eq_true c14
              clear c14
              by_cases c15 : 0 ≤ x32_3
              rotate_left
              · rw [if_neg c15] at H
                exact absurd H (by simp)
              rw [if_pos c15] at H
              have c15b0 : decide (0 ≤ x32_3) = true := decide_eq_true c15
              clear c15
              by_cases c16 : x32_3 < (l0_2.length : Int)
              rotate_left
              · rw [if_neg c16] at H
                exact absurd H (by simp)
              rw [if_pos c16] at H
              have c16b0 : decide (x32_3 < (l0_2.length : Int)) = true := decide_eq_true c16
              clear c16
              by_cases c17 : (rd l0_2 x32_3) ≤ x5_3
              · rw [if_pos c17] at H
                have c17b0 : decide ((rd l0_2 x32_3) ≤ x5_3) = true := decide_eq_true c17
                clear c17
                obtain rfl := Option.some.inj H
                have p102 : 0 ≤ (x32_3 : Int) := of_decide_eq_true qq0
                have q102 : x32_3 < (l0_2.length : Int) := of_decide_eq_true qq0
                obtain ⟨ad102, e102, hx102_0⟩ := Kd.at_int HR0_2.out x32_3 p102 q102
                cases e102
                replace hx102_0 := (HB.out.cell (World.block_lt_of_cell? w _ hx102_0)).trans hx102_0
                replace p102 := eq_true p102
                replace q102 := eq_true q102
                go_wp2
                go_ret
                exact ⟨qq2, qS1 GE101 HB.out⟩
              rw [if_neg c17] at H
              have c17b0 : decide ((rd l0_2 x32_3) ≤ x5_3) = false := decide_eq_false c17
              clear c17
              by_cases c18 : (rd l0_2 x32_3) > 9
              · rw [if_pos c18] at H
                have c18b0 : decide (9 < (rd l0_2 x32_3)) = true := decide_eq_true c18
                clear c18
                obtain rfl := Option.some.inj H
                have p102 : 0 ≤ (x32_3 : Int) := of_decide_eq_true qq0
                have q102 : x32_3 < (l0_2.length : Int) := of_decide_eq_true qq0
                obtain ⟨ad102, e102, hx102_0⟩ := Kd.at_int HR0_2.out x32_3 p102 q102
                cases e102
                replace hx102_0 := (HB.out.cell (World.block_lt_of_cell? w _ hx102_0)).trans hx102_0
                replace p102 := eq_true p102
                replace q102 := eq_true q102
                go_wp2
                go_ret
                exact ⟨qq2, qS1 GE101 HB.out⟩
              rw [if_neg c18] at H
              have c18b0 : decide (9 < (rd l0_2 x32_3)) = false := decide_eq_false c18
              clear c18
              have H' := Aside0.mk H
              clear H
              have p102 : 0 ≤ (x32_3 : Int) := of_decide_eq_true qq0
              have q102 : x32_3 < (l0_2.length : Int) := of_decide_eq_true qq0
              obtain ⟨ad102, e102, hx102_0⟩ := Kd.at_int HR0_2.out x32_3 p102 q102
              cases e102
              replace hx102_0 := (HB.out.cell (World.block_lt_of_cell? w _ hx102_0)).trans hx102_0
              replace p102 := eq_true p102
              replace q102 := eq_true q102
              go_wp2
              go_roundg k3
              case measure => have := HJ1.out; have := HJ8.out; have := HK3.out; omega
              case rel => exact ⟨(rd l0_2 x32_3), (wrap64 (x32_3 + 1)), qq3, qq3, H', ⟨by have := HJ1.out; have := HJ8.out; have := HK3.out; omega⟩, ⟨bq BK101.out⟩, ⟨qS1 GE101 HB.out⟩⟩
def turns_segno.f (a0 : Int) : Option (Bool) := some (decide (a0 ≥ 4))
set_option maxHeartbeats 8000000 in
set_option maxRecDepth 100000 in
theorem turns_segno.calls (a0 : Int) (r : Bool) (w : World) (h : turns_segno.f a0 = some r) :
    Calls Try.prog 25 #[.int .i64 a0] w fun e w' => e = .returned (.bool r) ∧ Drawn0 w w' := by
  have H := h
  unfold turns_segno.f at H
  clear h
  obtain rfl := Option.some.inj H
  go_enter Try.func25, Try.ntmps25
  go_wp2
  go_ret
  exact ⟨qq3, qq6⟩
def turns_fine.f (a0 : Int) : Option (Bool) := if a0 = 2 then (some true) else (some (a0 == 5))
set_option maxHeartbeats 8000000 in
set_option maxRecDepth 100000 in
theorem turns_fine.calls (a0 : Int) (r : Bool) (w : World) (h : turns_fine.f a0 = some r) :
    Calls Try.prog 26 #[.int .i64 a0] w fun e w' => e = .returned (.bool r) ∧ Drawn0 w w' := by
  have H := h
  unfold turns_fine.f at H
  clear h
  by_cases c2 : a0 = 2
  · rw [if_pos c2] at H
    have c2b0 : (a0 == 2) = true := beq_iff_eq.mpr c2
    have c2b1 : (a0 != 2) = false := bne_eq_false_iff_eq.mpr c2
    clear c2
    obtain rfl := Option.some.inj H
    go_enter Try.func26, Try.ntmps26
    go_wp2
    go_ret
    exact ⟨qq3, qq6⟩
  · rw [if_neg c2] at H
    have c2b0 : (a0 == 2) = false := beq_eq_false_iff_ne.mpr c2
    have c2b1 : (a0 != 2) = true := bne_iff_ne.mpr c2
    obtain rfl := Option.some.inj H
    go_enter Try.func26, Try.ntmps26
    go_wp2
    go_ret
    exact ⟨qq3, qq6⟩
def turns_Check_1.f (l0 : List (S38)) : Option Int := if l0.length ≤ 140737488351232 then some (fi (fun x => x.f6) 0 l0) else none
set_option maxHeartbeats 1600000 in
set_option maxRecDepth 100000 in
theorem turns_Check_1.calls (A0 : Option Addr) (c0 : Nat) (l0 : List (S38)) (r : Int) (w : World) (hr0 : Kd.C k38 w A0 l0.length l0) (hc0 : l0.length ≤ c0) (h : turns_Check_1.f l0 = some r) :
    Calls Try.prog 27 #[.slice A0 l0.length c0, .func (.func 28) #[] #[]] w fun e w' => e = .returned (.int .i64 r) ∧ Below w.heap.size w w' := by
  unfold turns_Check_1.f at h
  by_cases hm : l0.length ≤ 140737488351232
  · rw [if_pos hm] at h
    obtain rfl := Option.some.inj h
    have HR0 := Aside0.mk hr0
    have HM := Aside0.mk hm
    clear hr0 hm h
    go_enter Try.func27, Try.ntmps27
    go_wp2_with ((with_reducible refine (idx_28 A0 c0 l0 _ HR0.out HM.out).mono ?_); rintro e w' ⟨rfl, hb⟩)
    go_ret
    exact ⟨rfl, hb⟩
  · rw [if_neg hm] at h
    cases h
def turns_coda.f (a0 : Int) : Option (Bool) := if a0 = 3 then (some true) else (some (a0 == 6))
set_option maxHeartbeats 8000000 in
set_option maxRecDepth 100000 in
theorem turns_coda.calls (a0 : Int) (r : Bool) (w : World) (h : turns_coda.f a0 = some r) :
    Calls Try.prog 29 #[.int .i64 a0] w fun e w' => e = .returned (.bool r) ∧ Drawn0 w w' := by
  have H := h
  unfold turns_coda.f at H
  clear h
  by_cases c2 : a0 = 3
  · rw [if_pos c2] at H
    have c2b0 : (a0 == 3) = true := beq_iff_eq.mpr c2
    have c2b1 : (a0 != 3) = false := bne_eq_false_iff_eq.mpr c2
    clear c2
    obtain rfl := Option.some.inj H
    go_enter Try.func29, Try.ntmps29
    go_wp2
    go_ret
    exact ⟨qq3, qq6⟩
  · rw [if_neg c2] at H
    have c2b0 : (a0 == 3) = false := beq_eq_false_iff_ne.mpr c2
    have c2b1 : (a0 != 3) = true := bne_iff_ne.mpr c2
    obtain rfl := Option.some.inj H
    go_enter Try.func29, Try.ntmps29
    go_wp2
    go_ret
    exact ⟨qq3, qq6⟩
def turns_Check_2.f (l0 : List (S38)) : Option Int := if l0.length ≤ 140737488351232 then some (fi (fun x => x.f5) 0 l0) else none
set_option maxHeartbeats 1600000 in
set_option maxRecDepth 100000 in
theorem turns_Check_2.calls (A0 : Option Addr) (c0 : Nat) (l0 : List (S38)) (r : Int) (w : World) (hr0 : Kd.C k38 w A0 l0.length l0) (hc0 : l0.length ≤ c0) (h : turns_Check_2.f l0 = some r) :
    Calls Try.prog 27 #[.slice A0 l0.length c0, .func (.func 30) #[] #[]] w fun e w' => e = .returned (.int .i64 r) ∧ Below w.heap.size w w' := by
  unfold turns_Check_2.f at h
  by_cases hm : l0.length ≤ 140737488351232
  · rw [if_pos hm] at h
    obtain rfl := Option.some.inj h
    have HR0 := Aside0.mk hr0
    have HM := Aside0.mk hm
    clear hr0 hm h
    go_enter Try.func27, Try.ntmps27
    go_wp2_with ((with_reducible refine (idx_30 A0 c0 l0 _ HR0.out HM.out).mono ?_); rintro e w' ⟨rfl, hb⟩)
    go_ret
    exact ⟨rfl, hb⟩
  · rw [if_neg hm] at h
    cases h
def againB (s c j : Int) (i : Int) (x : S38) : Bool := (x.f3 && decide (i > s)) || (x.f4 && decide (i > c)) || (decide (x.f7 ≠ 0) && decide (i > j))
def loneO (k : Nat) (x : S38) : Option Bool := turns_lone.f k x.f0 x.f1 x.f2 x.f3 x.f4 x.f5 x.f6 x.f7
def chkGo (k : Nat) (s c j : Int) : Int → List S38 → Option (Option Int)
  | _, [] => some none
  | i, x :: xs => (loneO k x).bind fun b => if b = true then (if againB s c j i x = true then some (some i) else chkGo k s c j (i + 1) xs) else some (some i)
def lacksB (l : List S38) (s c : Int) (g : Int) : Bool :=
  (decide (g ≥ 4) && decide (s < 0)) || ((decide (g = 2) || decide (g = 5)) && decide (fi (fun x => x.f6) 0 l < 0)) || ((decide (g = 3) || decide (g = 6)) && (decide (c < 0) || decide (fi (fun x => x.f5) 0 l < 0)))
theorem found_f {l : List S38} (h : l.length ≤ 140737488351232) : turns_found.f l = some (fi (fun x => x.f3) 0 l, fi (fun x => x.f4) 0 l, fi isJump 0 l) := by
  unfold turns_found.f turns_found_1.f turns_found_2.f turns_found_3.f
  rw [if_pos h, if_pos h, if_pos h]
  rfl
theorem below_drawn0 {w w' : World} (h : Drawn0 w w') : Below w.heap.size w w' := by
  obtain ⟨n, rfl⟩ := h
  exact pw_below_drewN (Below.refl _ _) n
theorem segno_any (g : Int) (b : Bool) (w : World) (h : decide (g ≥ 4) = b) : Calls Try.prog 25 #[.int .i64 g] w fun e w' => e = .returned (.bool b) ∧ Below w.heap.size w w' :=
  (turns_segno.calls g b w (by unfold turns_segno.f; rw [h])).mono fun e w' ⟨h1, h2⟩ => ⟨h1, below_drawn0 h2⟩
theorem fine_any (g : Int) (b : Bool) (w : World) (h : (decide (g = 2) || decide (g = 5)) = b) : Calls Try.prog 26 #[.int .i64 g] w fun e w' => e = .returned (.bool b) ∧ Below w.heap.size w w' :=
  (turns_fine.calls g b w (by
    unfold turns_fine.f
    rw [← h]
    by_cases h2 : g = 2
    · simp [h2]
    · simp [h2]; rfl)).mono fun e w' ⟨h1, h2⟩ => ⟨h1, below_drawn0 h2⟩
theorem coda_any (g : Int) (b : Bool) (w : World) (h : (decide (g = 3) || decide (g = 6)) = b) : Calls Try.prog 29 #[.int .i64 g] w fun e w' => e = .returned (.bool b) ∧ Below w.heap.size w w' :=
  (turns_coda.calls g b w (by
    unfold turns_coda.f
    rw [← h]
    by_cases h2 : g = 3
    · simp [h2]
    · simp [h2]; rfl)).mono fun e w' ⟨h1, h2⟩ => ⟨h1, below_drawn0 h2⟩
theorem first28_any (A0 : Option Addr) (c0 : Nat) (l0 : List (S38)) (r : Int) (w : World) (hr0 : Kd.C k38 w A0 l0.length l0) (hc0 : l0.length ≤ c0) (hm : l0.length ≤ 140737488351232) (h : fi (fun x => x.f6) 0 l0 = r) :
    Calls Try.prog 27 #[.slice A0 l0.length c0, .func (.func 28) #[] #[]] w fun e w' => e = .returned (.int .i64 r) ∧ Below w.heap.size w w' :=
  turns_Check_1.calls A0 c0 l0 r w hr0 hc0 (by unfold turns_Check_1.f; rw [if_pos hm, h])
theorem first30_any (A0 : Option Addr) (c0 : Nat) (l0 : List (S38)) (r : Int) (w : World) (hr0 : Kd.C k38 w A0 l0.length l0) (hc0 : l0.length ≤ c0) (hm : l0.length ≤ 140737488351232) (h : fi (fun x => x.f5) 0 l0 = r) :
    Calls Try.prog 27 #[.slice A0 l0.length c0, .func (.func 30) #[] #[]] w fun e w' => e = .returned (.int .i64 r) ∧ Below w.heap.size w w' :=
  turns_Check_2.calls A0 c0 l0 r w hr0 hc0 (by unfold turns_Check_2.f; rw [if_pos hm, h])
def chkEnd (l : List S38) : Option Int → Option (Int × Int)
  | some i => some (i, 100)
  | none => if fi isJump 0 l < 0 then some (0, 0) else if lacksB l (fi (fun x => x.f3) 0 l) (fi (fun x => x.f4) 0 l) (rd_T38 l (fi isJump 0 l)).f7 = true then some (fi isJump 0 l, 100) else some (0, 0)
def turns_Check.f (k : Nat) (l0 : List (S38)) : Option (Int × Int) :=
  if l0.length ≤ 140737488351232 then (chkGo k (fi (fun x => x.f3) 0 l0) (fi (fun x => x.f4) 0 l0) (fi isJump 0 l0) 0 l0).bind (chkEnd l0) else none
theorem fi_range (p : S38 → Bool) : ∀ (l : List S38) (i : Int), 0 ≤ i → fi p i l = -1 ∨ (i ≤ fi p i l ∧ fi p i l < i + l.length)
  | [], i, _ => .inl rfl
  | x :: xs, i, h => by
    rw [fi]
    by_cases hp : p x = true
    · rw [if_pos hp]; right; simp; omega
    · rw [if_neg hp]
      rcases fi_range p xs (i + 1) (by omega) with h | h
      · exact .inl h
      · right; simp; omega
set_option maxHeartbeats 8000000 in
set_option maxRecDepth 100000 in
theorem turns_Check.calls (k : Nat) (A0 : Option Addr) (c0 : Nat) (l0 : List (S38)) (r1 : Int) (r2 : Int) (w : World) (hr0 : Kd.C k38 w A0 l0.length l0) (hc0 : l0.length ≤ c0) (h : turns_Check.f k l0 = some (r1, r2)) :
    Calls Try.prog 13 #[.slice A0 l0.length c0] w fun e w' => e = .returned (.tuple #[.int .i64 r1, .int .i64 r2]) ∧ Below w.heap.size w w' := by
  unfold turns_Check.f at h
  by_cases hm : l0.length ≤ 140737488351232
  case neg => rw [if_neg hm] at h; cases h
  rw [if_pos hm] at h
  obtain ⟨o, ho, h⟩ := Option.bind_eq_some_iff.mp h
  have HO0 := Aside0.mk ho
  have HEND := Aside0.mk h
  clear ho h
  have hu38 := Try.underlying38
  have hu49 := Try.underlying49
  have HR0 := Aside0.mk hr0
  have HC0 := Aside0.mk hc0
  clear hr0 hc0
  obtain ⟨s, hs⟩ : ∃ s, s = fi (fun x => x.f3) 0 l0 := ⟨_, rfl⟩
  obtain ⟨c, hc⟩ : ∃ s, s = fi (fun x => x.f4) 0 l0 := ⟨_, rfl⟩
  obtain ⟨j, hj⟩ : ∃ s, s = fi isJump 0 l0 := ⟨_, rfl⟩
  have HF : Aside0 (turns_found.f l0 = some (s, c, j)) := ⟨by rw [found_f hm, hs, hc, hj]⟩
  have HS := Aside0.mk hs
  have HCo := Aside0.mk hc
  have HJ := Aside0.mk hj
  have HO : Aside0 (chkGo k s c j 0 l0 = some o) := ⟨by rw [hs, hc, hj]; exact HO0.out⟩
  clear hs hc hj HO0
  go_enter Try.func13, Try.ntmps13
  go_wp2_with ((with_reducible refine (turns_found.calls A0 c0 l0 s c j _ HR0.out HC0.out HF.out).mono ?_); rintro e w1 ⟨rfl, hb1⟩; have HB1 := Aside0.mk hb1; clear hb1)
  have HBB : Aside0 ((w1.alloc (.cells #[.int .i64 s, .int .i64 c, .int .i64 j] 49)).heap[w1.heap.size]? = some (.cells #[.int .i64 s, .int .i64 c, .int .i64 j] 49 (0, 0))) := ⟨heap_alloc_new w1 _⟩
  have HB2 : Aside0 (Below w.heap.size w (w1.alloc (.cells #[.int .i64 s, .int .i64 c, .int .i64 j] 49))) := ⟨below_alloc HB1.out _⟩
  obtain ⟨w2, hw2⟩ : ∃ w2, w1.alloc (.cells #[.int .i64 s, .int .i64 c, .int .i64 j] 49) = w2 := ⟨_, rfl⟩
  rw [hw2] at HBB HB2 ⊢
  clear hw2
  obtain ⟨B, hB⟩ : ∃ B, w1.heap.size = B := ⟨_, rfl⟩
  rw [hB] at HBB ⊢
  clear hB
  go_loopw [14] (fun i wr => ∃ q : Nat, q ≤ l0.length ∧ i = .int .i64 (q : Int) ∧ Aside0 (chkGo k s c j (q : Int) (l0.drop q) = some o) ∧ Aside0 (Below w2.heap.size w2 wr)) (fun i _ => l0.length - (intOf i).toNat)
  case atStart => exact ⟨0, Nat.zero_le _, rfl, ⟨by rw [List.drop_zero]; exact HO.out⟩, ⟨Below.refl _ _⟩⟩
  case round =>
    clear HO
    obtain ⟨q, hq, rfl, HO, HB⟩ := hrel
    have cB := blk_cell ((HB.out.block _ (lt_of_block HBB.out)).trans HBB.out)
    by_cases hlt : q < l0.length
    · obtain ⟨ad, A2, c2, rfl, h0, h1, h2, h3, h4, h5, h6, h7, _, _⟩ := at_T38 HR0.out (q : Int) (by omega) (by omega)
      replace h0 := (HB.out.cell (Nat.lt_of_lt_of_le (World.block_lt_of_cell? w _ h0) HB2.out.size)).trans ((HB2.out.cell (World.block_lt_of_cell? w _ h0)).trans h0)
      replace h1 := (HB.out.cell (Nat.lt_of_lt_of_le (World.block_lt_of_cell? w _ h1) HB2.out.size)).trans ((HB2.out.cell (World.block_lt_of_cell? w _ h1)).trans h1)
      replace h2 := (HB.out.cell (Nat.lt_of_lt_of_le (World.block_lt_of_cell? w _ h2) HB2.out.size)).trans ((HB2.out.cell (World.block_lt_of_cell? w _ h2)).trans h2)
      replace h3 := (HB.out.cell (Nat.lt_of_lt_of_le (World.block_lt_of_cell? w _ h3) HB2.out.size)).trans ((HB2.out.cell (World.block_lt_of_cell? w _ h3)).trans h3)
      replace h4 := (HB.out.cell (Nat.lt_of_lt_of_le (World.block_lt_of_cell? w _ h4) HB2.out.size)).trans ((HB2.out.cell (World.block_lt_of_cell? w _ h4)).trans h4)
      replace h5 := (HB.out.cell (Nat.lt_of_lt_of_le (World.block_lt_of_cell? w _ h5) HB2.out.size)).trans ((HB2.out.cell (World.block_lt_of_cell? w _ h5)).trans h5)
      replace h6 := (HB.out.cell (Nat.lt_of_lt_of_le (World.block_lt_of_cell? w _ h6) HB2.out.size)).trans ((HB2.out.cell (World.block_lt_of_cell? w _ h6)).trans h6)
      replace h7 := (HB.out.cell (Nat.lt_of_lt_of_le (World.block_lt_of_cell? w _ h7) HB2.out.size)).trans ((HB2.out.cell (World.block_lt_of_cell? w _ h7)).trans h7)
      rw [Int.toNat_natCast] at h0 h1 h2 h3 h4 h5 h6 h7
      clear cB
      rename_i ge2 gc2
      have HE : Aside0 ((rd_T38 l0 (q : Int)).f2.length ≤ c2 ∧ (Kd.int .i64).C w A2 (rd_T38 l0 (q : Int)).f2.length (rd_T38 l0 (q : Int)).f2) := ⟨ge2, gc2⟩
      clear ge2 gc2
      obtain ⟨x, hx⟩ : ∃ x, rd_T38 l0 (q : Int) = x := ⟨_, rfl⟩
      rw [hx] at h0 h1 h2 h3 h4 h5 h6 h7 HE
      have HO2 : Aside0 ((loneO k x).bind (fun b => if b = true then (if againB s c j (q : Int) x = true then some (some (q : Int)) else chkGo k s c j ((q + 1 : Nat) : Int) (l0.drop (q + 1))) else some (some (q : Int))) = some o) := ⟨by
        have h := HO.out
        rw [List.drop_eq_getElem_cons hlt, chkGo, ← rd_T38_nat l0 q hlt, hx] at h
        exact h⟩
      clear HO hx
      go_upto_region 5 with (fail)
      clear h0 h1 h2 h3 h4 h5 h6 h7
      have HT : Aside0 ((wr.alloc (.cells #[.bool x.f0, .int .i64 x.f1, .slice A2 x.f2.length c2, .bool x.f3, .bool x.f4, .bool x.f5, .bool x.f6, .int .i64 x.f7] 38)).heap[wr.heap.size]? = some (.cells #[.bool x.f0, .int .i64 x.f1, .slice A2 x.f2.length c2, .bool x.f3, .bool x.f4, .bool x.f5, .bool x.f6, .int .i64 x.f7] 38 (0, 0))) := ⟨heap_alloc_new wr _⟩
      have HB3 : Aside0 (Below w2.heap.size w2 (wr.alloc (.cells #[.bool x.f0, .int .i64 x.f1, .slice A2 x.f2.length c2, .bool x.f3, .bool x.f4, .bool x.f5, .bool x.f6, .int .i64 x.f7] 38))) := ⟨below_alloc HB.out _⟩
      obtain ⟨w3, hw3⟩ : ∃ w3, wr.alloc (.cells #[.bool x.f0, .int .i64 x.f1, .slice A2 x.f2.length c2, .bool x.f3, .bool x.f4, .bool x.f5, .bool x.f6, .int .i64 x.f7] 38) = w3 := ⟨_, rfl⟩
      rw [hw3] at HT HB3 ⊢
      clear hw3
      obtain ⟨G, hG⟩ : ∃ G, wr.heap.size = G := ⟨_, rfl⟩
      rw [hG] at HT ⊢
      clear hG HB
      have cB := blk_cell ((HB3.out.block _ (lt_of_block HBB.out)).trans HBB.out)
      have cT := blk_cell HT.out
      have cs : w3.cell? ⟨B, 0, none⟩ = some (.int .i64 s) := (cB 0).trans rfl
      have cc : w3.cell? ⟨B, 1, none⟩ = some (.int .i64 c) := (cB 1).trans rfl
      have cj : w3.cell? ⟨B, 2, none⟩ = some (.int .i64 j) := (cB 2).trans rfl
      have t0 : w3.cell? ⟨G, 0, none⟩ = some (.bool x.f0) := (cT 0).trans rfl
      have t1 : w3.cell? ⟨G, 1, none⟩ = some (.int .i64 x.f1) := (cT 1).trans rfl
      have t2 : w3.cell? ⟨G, 2, none⟩ = some (.slice A2 x.f2.length c2) := (cT 2).trans rfl
      have t3 : w3.cell? ⟨G, 3, none⟩ = some (.bool x.f3) := (cT 3).trans rfl
      have t4 : w3.cell? ⟨G, 4, none⟩ = some (.bool x.f4) := (cT 4).trans rfl
      have t5 : w3.cell? ⟨G, 5, none⟩ = some (.bool x.f5) := (cT 5).trans rfl
      have t6 : w3.cell? ⟨G, 6, none⟩ = some (.bool x.f6) := (cT 6).trans rfl
      have t7 : w3.cell? ⟨G, 7, none⟩ = some (.int .i64 x.f7) := (cT 7).trans rfl
      clear cB cT
      obtain ⟨ag, hag⟩ : ∃ ag, againB s c j (q : Int) x = ag := ⟨_, rfl⟩
      have HAG := Aside0.mk hag
      clear hag
      go_cut [7] (fun v7 wc => v7 = .bool ag ∧ wc = w3)
      case first =>
        cases b3 : x.f3 <;> cases b4 : x.f4 <;> by_cases b7 : x.f7 = 0 <;> by_cases ds : s < (q : Int) <;> by_cases dc : c < (q : Int) <;> by_cases dj : j < (q : Int)
        all_goals
          have hag := HAG.out
          unfold againB at hag
          simp only [b3, b4, b7, gt_iff_lt, ds, dc, dj, ne_eq, not_true_eq_false, not_false_eq_true, decide_true, decide_false, Bool.and_true, Bool.and_false, Bool.true_and, Bool.false_and, Bool.or_true, Bool.or_false, Bool.true_or, Bool.false_or] at hag
          subst hag
          clear HAG
          rw [b3] at t3
          rw [b4] at t4
          clear b3 b4
          first | rw [b7] at t7 | skip
          first | have hb7 : (x.f7 != 0) = true := bne_iff_ne.mpr b7 | skip
          first | have eds : decide (s < (q : Int)) = true := decide_eq_true ds | have eds : decide (s < (q : Int)) = false := decide_eq_false ds
          first | have edc : decide (c < (q : Int)) = true := decide_eq_true dc | have edc : decide (c < (q : Int)) = false := decide_eq_false dc
          first | have edj : decide (j < (q : Int)) = true := decide_eq_true dj | have edj : decide (j < (q : Int)) = false := decide_eq_false dj
          clear ds dc dj b7
          go_wp2
          go_meet
          case rel => exact ⟨rfl, rfl⟩
      case rest =>
        obtain ⟨rfl, rfl⟩ := hcut
        have ho2 := HO2.out
        clear HO2
        rw [HAG.out] at ho2
        clear HAG
        obtain ⟨b, hb, ho2⟩ := Option.bind_eq_some_iff.mp ho2
        have HLO : Aside0 (turns_lone.f k x.f0 x.f1 x.f2 x.f3 x.f4 x.f5 x.f6 x.f7 = some b) := ⟨hb⟩
        have HO2 := Aside0.mk ho2
        clear hb ho2
        have HEC : Aside0 ((Kd.int .i64).C wc A2 x.f2.length x.f2) := ⟨Kd.C_below (Kd.C_below HE.out.2 HB2.out) HB3.out⟩
        cases b with
        | false =>
          obtain rfl := Option.some.inj ((if_neg (by decide)).symm.trans HO2.out)
          clear HO2
          go_wp2_with ((with_reducible refine (turns_lone.calls k x.f0 x.f1 A2 c2 x.f2 x.f3 x.f4 x.f5 x.f6 x.f7 false _ HEC.out HE.out.1 HLO.out).mono ?_); rintro e w4 ⟨rfl, hb4⟩; have HB4 := Aside0.mk hb4; clear hb4)
          have hend := HEND.out
          simp only [chkEnd, Option.some.injEq, Prod.mk.injEq] at hend
          obtain ⟨rfl, rfl⟩ := hend
          go_ret2
          exact ⟨rfl, below_step (below_step HB2.out HB3.out) HB4.out⟩
        | true =>
          cases ag with
          | true =>
            obtain rfl := Option.some.inj (((if_pos rfl).trans (if_pos rfl)).symm.trans HO2.out)
            clear HO2
            go_wp2_with ((with_reducible refine (turns_lone.calls k x.f0 x.f1 A2 c2 x.f2 x.f3 x.f4 x.f5 x.f6 x.f7 true _ HEC.out HE.out.1 HLO.out).mono ?_); rintro e w4 ⟨rfl, hb4⟩; have HB4 := Aside0.mk hb4; clear hb4)
            have hend := HEND.out
            simp only [chkEnd, Option.some.injEq, Prod.mk.injEq] at hend
            obtain ⟨rfl, rfl⟩ := hend
            go_ret2
            exact ⟨rfl, below_step (below_step HB2.out HB3.out) HB4.out⟩
          | false =>
            have ho3 := ((if_pos rfl).trans (if_neg (by decide))).symm.trans HO2.out
            have HO3 := Aside0.mk ho3
            clear ho3 HO2
            go_wp2_with ((with_reducible refine (turns_lone.calls k x.f0 x.f1 A2 c2 x.f2 x.f3 x.f4 x.f5 x.f6 x.f7 true _ HEC.out HE.out.1 HLO.out).mono ?_); rintro e w4 ⟨rfl, hb4⟩; have HB4 := Aside0.mk hb4; clear hb4)
            go_roundw
            case rel => exact ⟨q + 1, by omega, by go_num, HO3, ⟨below_step HB3.out HB4.out⟩⟩
            case measure => simp [intOf]; omega
    have hn : q = l0.length := by omega
    subst hn
    have hO := HO.out
    rw [List.drop_length, chkGo] at hO
    obtain rfl := Option.some.inj hO
    clear hO HO
    have cs : wr.cell? ⟨B, 0, none⟩ = some (.int .i64 s) := (cB 0).trans rfl
    have cc : wr.cell? ⟨B, 1, none⟩ = some (.int .i64 c) := (cB 1).trans rfl
    have cj : wr.cell? ⟨B, 2, none⟩ = some (.int .i64 j) := (cB 2).trans rfl
    clear cB
    have hend := HEND.out
    clear HEND
    unfold chkEnd at hend
    simp only [← HS.out, ← HCo.out, ← HJ.out] at hend
    by_cases hj0 : j < 0
    · rw [if_pos hj0] at hend
      have hjb : decide (j < 0) = true := decide_eq_true hj0
      clear hj0
      simp only [Option.some.injEq, Prod.mk.injEq] at hend
      obtain ⟨rfl, rfl⟩ := hend
      go_wp2
      go_ret2
      exact ⟨rfl, below_step HB2.out HB.out⟩
    rw [if_neg hj0] at hend
    have hjb : decide (j < 0) = false := decide_eq_false hj0
    have hj1 : 0 ≤ j := by omega
    have hj2 : j < (l0.length : Int) := by
      have := fi_range isJump l0 0 (by omega)
      rw [← HJ.out] at this
      omega
    clear hj0
    obtain ⟨ad, A2, c2, rfl, h0, h1, h2, h3, h4, h5, h6, h7, _, _⟩ := at_T38 HR0.out j hj1 hj2
    replace h7 := (HB.out.cell (Nat.lt_of_lt_of_le (World.block_lt_of_cell? w _ h7) HB2.out.size)).trans ((HB2.out.cell (World.block_lt_of_cell? w _ h7)).trans h7)
    clear h0 h1 h2 h3 h4 h5 h6
    obtain ⟨g, hg⟩ : ∃ g, (rd_T38 l0 j).f7 = g := ⟨_, rfl⟩
    rw [hg] at h7 hend
    clear hg
    have HEND := Aside0.mk hend
    clear hend
    go_upto_region 12 with (fail)
    obtain ⟨ff, hff⟩ : ∃ ff, fi (fun x => x.f6) 0 l0 = ff := ⟨_, rfl⟩
    obtain ⟨ft, hft⟩ : ∃ ft, fi (fun x => x.f5) 0 l0 = ft := ⟨_, rfl⟩
    have HFF := Aside0.mk hff
    have HFT := Aside0.mk hft
    have HM := Aside0.mk hm
    clear hff hft hm hj1 hj2 hjb
    obtain ⟨sg, hsg⟩ : ∃ sg, decide (g ≥ 4) = sg := ⟨_, rfl⟩
    have HSG := Aside0.mk hsg
    obtain ⟨fn, hfn⟩ : ∃ fn, (decide (g = 2) || decide (g = 5)) = fn := ⟨_, rfl⟩
    have HFN := Aside0.mk hfn
    obtain ⟨cd, hcd⟩ : ∃ cd, (decide (g = 3) || decide (g = 6)) = cd := ⟨_, rfl⟩
    have HCD := Aside0.mk hcd
    obtain ⟨ds, hds⟩ : ∃ ds, decide (s < 0) = ds := ⟨_, rfl⟩
    have HDS := Aside0.mk hds
    obtain ⟨dc, hdc⟩ : ∃ dc, decide (c < 0) = dc := ⟨_, rfl⟩
    have HDC := Aside0.mk hdc
    obtain ⟨df, hdf⟩ : ∃ df, decide (ff < 0) = df := ⟨_, rfl⟩
    have HDF := Aside0.mk hdf
    obtain ⟨dt, hdt⟩ : ∃ dt, decide (ft < 0) = dt := ⟨_, rfl⟩
    have HDT := Aside0.mk hdt
    have HEND2 : Aside0 ((if ((sg && ds) || (fn && df) || (cd && (dc || dt))) = true then some (j, 100) else some (0, 0)) = some (r1, r2)) := ⟨by
      have h := HEND.out
      unfold lacksB at h
      rw [hsg, hfn, hcd, hds, hdc, HFF.out, HFT.out, hdf, hdt] at h
      exact h⟩
    clear HEND hsg hfn hcd hds hdc hdf hdt h7
    go_cut [9] (fun v9 wc => v9 = .bool (sg && ds) ∧ Aside0 (Below w2.heap.size w2 wc))
    case first =>
      clear HEND2 HFN HCD HDC HDF HDT
      have hds := HDS.out
      cases sg <;> cases ds
      all_goals
        go_wp2_with ((with_reducible refine (segno_any g _ _ HSG.out).mono ?_); rintro e w4 ⟨rfl, hb4⟩; have HB4 := Aside0.mk (below_step HB.out hb4); have cs4 : w4.cell? ⟨B, 0, none⟩ = some (.int .i64 s) := (hb4.cell (World.block_lt_of_cell? _ _ cs)).trans cs; clear hb4)
        go_meet
        case rel => exact ⟨rfl, HB4⟩
    case rest =>
      clear HB cs cc cj
      obtain ⟨rfl, HB⟩ := hcut
      obtain ⟨b1, hb1⟩ : ∃ b1, (sg && ds) = b1 := ⟨_, rfl⟩
      rw [hb1] at HEND2 ⊢
      clear hb1 HSG HDS
      go_upto_region 13 with (fail)
      go_cut [9] (fun v9 wd => v9 = .bool (b1 || (fn && df)) ∧ Aside0 (Below w2.heap.size w2 wd))
      case first =>
        clear HEND2 HCD HDC HDT
        have hdf := HDF.out
        have HRC : Aside0 (Kd.C k38 wc (some ad) l0.length l0) := ⟨Kd.C_below (Kd.C_below HR0.out HB2.out) HB.out⟩
        cases b1 <;> cases fn <;> cases df
        all_goals
          go_wp2_with (first | ((with_reducible refine (fine_any g _ _ HFN.out).mono ?_); rintro e w4 ⟨rfl, hb4⟩; have HB4 := Aside0.mk (below_step HB.out hb4); have HRC4 := Aside0.mk (Kd.C_below HRC.out hb4); clear hb4 HB HRC; have HB := HB4; have HRC := HRC4; clear HB4 HRC4) | ((with_reducible refine (first28_any (some ad) c0 l0 ff _ HRC.out HC0.out HM.out HFF.out).mono ?_); rintro e w4 ⟨rfl, hb4⟩; have HB4 := Aside0.mk (below_step HB.out hb4); clear hb4 HB; have HB := HB4; clear HB4))
          go_meet
          case rel => exact ⟨rfl, HB⟩
      case rest =>
        clear HB
        obtain ⟨rfl, HB⟩ := hcut
        obtain ⟨b2, hb2⟩ : ∃ b2, (b1 || (fn && df)) = b2 := ⟨_, rfl⟩
        rw [hb2] at HEND2 ⊢
        clear hb2 HFN HDF HFF
        have cB := blk_cell ((HB.out.block _ (lt_of_block HBB.out)).trans HBB.out)
        have cc : World.cell? _ ⟨B, 1, none⟩ = some (.int .i64 c) := (cB 1).trans rfl
        clear cB
        go_upto_region 14 with (fail)
        go_cut [9] (fun v9 we => v9 = .bool (b2 || (cd && (dc || dt))) ∧ Aside0 (Below w2.heap.size w2 we))
        case first =>
          clear HEND2
          have hdc := HDC.out
          have hdt := HDT.out
          have HRC : Aside0 (Kd.C k38 _ (some ad) l0.length l0) := ⟨Kd.C_below (Kd.C_below HR0.out HB2.out) HB.out⟩
          cases b2 <;> cases cd <;> cases dc <;> cases dt
          all_goals
            go_wp2_with (first | ((with_reducible refine (coda_any g _ _ HCD.out).mono ?_); rintro e w4 ⟨rfl, hb4⟩; have HB4 := Aside0.mk (below_step HB.out hb4); have HRC4 := Aside0.mk (Kd.C_below HRC.out hb4); have cc4 : w4.cell? ⟨B, 1, none⟩ = some (.int .i64 c) := (hb4.cell (World.block_lt_of_cell? _ _ cc)).trans cc; clear hb4 HB HRC cc; have HB := HB4; have HRC := HRC4; clear HB4 HRC4) | ((with_reducible refine (first30_any (some ad) c0 l0 ft _ HRC.out HC0.out HM.out HFT.out).mono ?_); rintro e w4 ⟨rfl, hb4⟩; have HB4 := Aside0.mk (below_step HB.out hb4); clear hb4 HB; have HB := HB4; clear HB4))
            go_meet
            case rel => exact ⟨rfl, HB⟩
        case rest =>
          clear HB cc
          obtain ⟨rfl, HB⟩ := hcut
          obtain ⟨b3, hb3⟩ : ∃ b3, (b2 || (cd && (dc || dt))) = b3 := ⟨_, rfl⟩
          rw [hb3] at HEND2 ⊢
          clear hb3 HCD HDC HDT HFT
          have cB := blk_cell ((HB.out.block _ (lt_of_block HBB.out)).trans HBB.out)
          have cj : World.cell? _ ⟨B, 2, none⟩ = some (.int .i64 j) := (cB 2).trans rfl
          clear cB
          cases b3 with
          | true =>
            have hend := (if_pos rfl).symm.trans HEND2.out
            simp only [Option.some.injEq, Prod.mk.injEq] at hend
            obtain ⟨rfl, rfl⟩ := hend
            clear HEND2
            go_wp2
            go_ret2
            exact ⟨rfl, below_step HB2.out HB.out⟩
          | false =>
            have hend := (if_neg (by decide)).symm.trans HEND2.out
            simp only [Option.some.injEq, Prod.mk.injEq] at hend
            obtain ⟨rfl, rfl⟩ := hend
            clear HEND2
            go_wp2
            go_ret2
            exact ⟨rfl, below_step HB2.out HB.out⟩
theorem chkGo_mono (k : Nat) (s c j : Int) : ∀ (i : Int) (l : List S38), LeO (chkGo k s c j i l) (chkGo (k + 1) s c j i l)
  | _, [] => LeO.refl _
  | i, x :: xs => by
    rw [chkGo, chkGo]
    exact LeO.bind (turns_lone.mono _ _ _ _ _ _ _ _ _) fun b => LeO.ite (LeO.ite (LeO.refl _) (chkGo_mono k s c j _ _)) (LeO.refl _)
theorem turns_Check.mono : ∀ a0 k, LeO (turns_Check.f k a0) (turns_Check.f (k + 1) a0) := by
  intro a0 k
  unfold turns_Check.f
  exact LeO.ite (LeO.bind (chkGo_mono _ _ _ _ _ _) fun _ => LeO.refl _) (LeO.refl _)
def slices_Equal_int_int.l0 : Nat → List Int → List Int → Int → Int → Option (Bool)
  | 0, _, _, _, _ => none
  | k + 1, x0, x1, x12, x13 => if x13 < x12 then (if 0 ≤ x13 then (if x13 < (x0.length : Int) then (if x13 < (x1.length : Int) then (if (rd x0 x13) = (rd x1 x13) then (slices_Equal_int_int.l0 k x0 x1 x12 (wrap64 (x13 + 1))) else (some false)) else (none)) else (none)) else (none)) else (some true)
def slices_Equal_int_int.f (k : Nat) (l0 : List Int) (l1 : List Int) : Option (Bool) := if (l0.length : Int) = (l1.length : Int) then (slices_Equal_int_int.l0 k l0 l1 (l0.length : Int) 0) else (some false)
theorem slices_Equal_int_int.mono_l : ∀ k, (∀ y0 y1 y2 y3, LeO (slices_Equal_int_int.l0 k y0 y1 y2 y3) (slices_Equal_int_int.l0 (k + 1) y0 y1 y2 y3))
  | 0 => fun _ _ _ _ r h => by simp [slices_Equal_int_int.l0] at h
  | k + 1 => by
    have ih0 := slices_Equal_int_int.mono_l k
    · intro y0 y1 y2 y3
      unfold slices_Equal_int_int.l0
      repeat' first
      | (with_reducible exact ih0 _ _ _ _)
      | (with_reducible exact LeO.refl _)
      | (with_reducible exact LeO.none _)
      | (with_reducible refine LeO.ite ?_ ?_)
      | (with_reducible refine LeO.bind ?_ (fun _ => ?_))
      | exact ih0 _ _ _ _
      | exact LeO.none _
      | refine LeO.ite ?_ ?_
      | refine LeO.bind ?_ (fun _ => ?_)
theorem slices_Equal_int_int.mono : ∀ a0 a1 k, LeO (slices_Equal_int_int.f k a0 a1) (slices_Equal_int_int.f (k + 1) a0 a1) := by
  intro a0 a1 k
  have ih0 := slices_Equal_int_int.mono_l k
  unfold slices_Equal_int_int.f
  repeat' first
      | (with_reducible exact ih0 _ _ _ _)
      | (with_reducible exact LeO.refl _)
      | (with_reducible exact LeO.none _)
      | (with_reducible refine LeO.ite ?_ ?_)
      | (with_reducible refine LeO.bind ?_ (fun _ => ?_))
      | exact ih0 _ _ _ _
      | exact LeO.none _
      | refine LeO.ite ?_ ?_
      | refine LeO.bind ?_ (fun _ => ?_)
set_option maxHeartbeats 8000000 in
set_option maxRecDepth 100000 in
theorem slices_Equal_int_int.calls (k : Nat) (A0 : Option Addr) (c0 : Nat) (l0 : List Int) (A1 : Option Addr) (c1 : Nat) (l1 : List Int) (r : Bool) (w : World) (hr0 : Kd.C (Kd.int .i64) w A0 l0.length l0) (hc0 : l0.length ≤ c0) (hr1 : Kd.C (Kd.int .i64) w A1 l1.length l1) (hc1 : l1.length ≤ c1) (h : slices_Equal_int_int.f k l0 l1 = some r) :
    Calls Try.prog 52 #[.slice A0 l0.length c0, .slice A1 l1.length c1] w fun e w' => e = .returned (.bool r) ∧ Drawn0 w w' := by
  have HR0 := Aside0.mk hr0
  have HC0 := Aside0.mk hc0
  clear hr0 hc0
  have HR1 := Aside0.mk hr1
  have HC1 := Aside0.mk hc1
  clear hr1 hc1
  have H := h
  unfold slices_Equal_int_int.f at H
  clear h
  by_cases c3 : (l0.length : Int) = (l1.length : Int)
  rotate_left
  · rw [if_neg c3] at H
    have c3b0 : ((l0.length : Int) == (l1.length : Int)) = false := beq_eq_false_iff_ne.mpr c3
    have c3b1 : ((l0.length : Int) != (l1.length : Int)) = true := bne_iff_ne.mpr c3
    have c3b2 : (l0.length == l1.length) = false := by first | simpa using c3 | (simp at c3 ⊢; omega)
    obtain rfl := Option.some.inj H
    go_enter Try.func52, Try.ntmps52
    go_wp2
    repeat (go_quiet (fail); try go_wp2)
    go_ret
    exact ⟨qq3, qq6⟩
  rw [if_pos c3] at H
  have c3b0 : ((l0.length : Int) == (l1.length : Int)) = true := beq_iff_eq.mpr c3
  have c3b1 : ((l0.length : Int) != (l1.length : Int)) = false := bne_eq_false_iff_eq.mpr c3
  have c3b2 : (l0.length == l1.length) = true := by first | simpa using c3 | (simp at c3 ⊢; omega)
  clear c3
  have H' := Aside0.mk H
  clear H
  go_enter Try.func52, Try.ntmps52
  go_wp2
  repeat (go_quiet (fail); try go_wp2)
  go_loopg [13] k (fun kq v13 w' => ∃ (x13_1 : Int), v13 = .int .i64 x13_1 ∧ Aside0 (slices_Equal_int_int.l0 kq l0 l1 (l0.length : Int) x13_1 = some r) ∧ Aside0 (kq ≤ k) ∧ Drawn0 w w')
  case atStart => exact ⟨(0), qq3, H', ⟨Nat.le_refl _⟩, qq6⟩
  case round =>
    clear H'
    try clear c1
    try clear p2
    try clear c3
    try clear c3b0
    try clear c3b1
    try clear c3b2
    obtain ⟨x13_1, rfl, HA, HK1, ⟨m1, rfl⟩⟩ := hrel
    cases gk with
    | zero => exact absurd HA.out (by simp [slices_Equal_int_int.l0])
    | succ k1 =>
      have H := HA.out
      clear HA
      simp only [slices_Equal_int_int.l0] at H
      by_cases c4 : x13_1 < (l0.length : Int)
      rotate_left
      · rw [if_neg c4] at H
        have c4b0 : decide (x13_1 < (l0.length : Int)) = false := decide_eq_false c4
        clear c4
        obtain rfl := Option.some.inj H
        go_wp2
        repeat (go_quiet (fail); try go_wp2)
        go_ret
        exact ⟨qq3, qq6⟩
      rw [if_pos c4] at H
      have c4b0 : decide (x13_1 < (l0.length : Int)) = true := decide_eq_true c4
      clear c4
      by_cases c5 : 0 ≤ x13_1
      rotate_left
      · rw [if_neg c5] at H
        exact absurd H (by simp)
      rw [if_pos c5] at H
      have c5b0 : decide (0 ≤ x13_1) = true := decide_eq_true c5
      clear c5
      by_cases c6 : x13_1 < (l0.length : Int)
      rotate_left
      · rw [if_neg c6] at H
        exact absurd H (by simp)
      rw [if_pos c6] at H
      have c6b0 : decide (x13_1 < (l0.length : Int)) = true := decide_eq_true c6
      clear c6
      by_cases c7 : x13_1 < (l1.length : Int)
      rotate_left
      · rw [if_neg c7] at H
        exact absurd H (by simp)
      rw [if_pos c7] at H
      have c7b0 : decide (x13_1 < (l1.length : Int)) = true := decide_eq_true c7
      clear c7
      by_cases c8 : (rd l0 x13_1) = (rd l1 x13_1)
      rotate_left
      · rw [if_neg c8] at H
        have c8b0 : ((rd l0 x13_1) == (rd l1 x13_1)) = false := beq_eq_false_iff_ne.mpr c8
        have c8b1 : ((rd l0 x13_1) != (rd l1 x13_1)) = true := bne_iff_ne.mpr c8
        obtain rfl := Option.some.inj H
        have p101 : 0 ≤ (x13_1 : Int) := of_decide_eq_true qq0
        have q101 : x13_1 < (l0.length : Int) := of_decide_eq_true qq0
        obtain ⟨ad101, e101, hx101_0⟩ := Kd.at_int HR0.out x13_1 p101 q101
        cases e101
        replace p101 := eq_true p101
        replace q101 := eq_true q101
        have p102 : 0 ≤ (x13_1 : Int) := of_decide_eq_true qq0
        have q102 : x13_1 < (l1.length : Int) := of_decide_eq_true qq0
        obtain ⟨ad102, e102, hx102_0⟩ := Kd.at_int HR1.out x13_1 p102 q102
        cases e102
        replace p102 := eq_true p102
        replace q102 := eq_true q102
        go_wp2
        repeat (go_quiet (fail); try go_wp2)
        go_ret
        exact ⟨qq3, qq6⟩
      rw [if_pos c8] at H
      have c8b0 : ((rd l0 x13_1) == (rd l1 x13_1)) = true := beq_iff_eq.mpr c8
      have c8b1 : ((rd l0 x13_1) != (rd l1 x13_1)) = false := bne_eq_false_iff_eq.mpr c8
      clear c8
      have H' := Aside0.mk H
      clear H
      have p101 : 0 ≤ (x13_1 : Int) := of_decide_eq_true qq0
      have q101 : x13_1 < (l0.length : Int) := of_decide_eq_true qq0
      obtain ⟨ad101, e101, hx101_0⟩ := Kd.at_int HR0.out x13_1 p101 q101
      cases e101
      replace p101 := eq_true p101
      replace q101 := eq_true q101
      have p102 : 0 ≤ (x13_1 : Int) := of_decide_eq_true qq0
      have q102 : x13_1 < (l1.length : Int) := of_decide_eq_true qq0
      obtain ⟨ad102, e102, hx102_0⟩ := Kd.at_int HR1.out x13_1 p102 q102
      cases e102
      replace p102 := eq_true p102
      replace q102 := eq_true q102
      go_wp2
      repeat (go_quiet (fail); try go_wp2)
      go_roundg k1
      case measure => have := HK1.out; omega
      case rel => exact ⟨(wrap64 (x13_1 + 1)), qq3, H', ⟨qqP⟩, qq6⟩
def slices_Index_int_int.l0 : Nat → List Int → Int → Int → Int → Option (Int)
  | 0, _, _, _, _ => none
  | k + 1, x0, x1, x7, x8 => if x8 < x7 then (if 0 ≤ x8 then (if x8 < (x0.length : Int) then (if x1 = (rd x0 x8) then (some x8) else (slices_Index_int_int.l0 k x0 x1 x7 (wrap64 (x8 + 1)))) else (none)) else (none)) else (some (-1))
def slices_Index_int_int.f (k : Nat) (l0 : List Int) (a1 : Int) : Option (Int) := slices_Index_int_int.l0 k l0 a1 (l0.length : Int) 0
theorem slices_Index_int_int.mono_l : ∀ k, (∀ y0 y1 y2 y3, LeO (slices_Index_int_int.l0 k y0 y1 y2 y3) (slices_Index_int_int.l0 (k + 1) y0 y1 y2 y3))
  | 0 => fun _ _ _ _ r h => by simp [slices_Index_int_int.l0] at h
  | k + 1 => by
    have ih0 := slices_Index_int_int.mono_l k
    · intro y0 y1 y2 y3
      unfold slices_Index_int_int.l0
      repeat' first
      | (with_reducible exact ih0 _ _ _ _)
      | (with_reducible exact LeO.refl _)
      | (with_reducible exact LeO.none _)
      | (with_reducible refine LeO.ite ?_ ?_)
      | (with_reducible refine LeO.bind ?_ (fun _ => ?_))
      | exact ih0 _ _ _ _
      | exact LeO.none _
      | refine LeO.ite ?_ ?_
      | refine LeO.bind ?_ (fun _ => ?_)
theorem slices_Index_int_int.mono : ∀ a0 a1 k, LeO (slices_Index_int_int.f k a0 a1) (slices_Index_int_int.f (k + 1) a0 a1) := by
  intro a0 a1 k
  have ih0 := slices_Index_int_int.mono_l k
  unfold slices_Index_int_int.f
  repeat' first
      | (with_reducible exact ih0 _ _ _ _)
      | (with_reducible exact LeO.refl _)
      | (with_reducible exact LeO.none _)
      | (with_reducible refine LeO.ite ?_ ?_)
      | (with_reducible refine LeO.bind ?_ (fun _ => ?_))
      | exact ih0 _ _ _ _
      | exact LeO.none _
      | refine LeO.ite ?_ ?_
      | refine LeO.bind ?_ (fun _ => ?_)
set_option maxHeartbeats 8000000 in
set_option maxRecDepth 100000 in
theorem slices_Index_int_int.calls (k : Nat) (A0 : Option Addr) (c0 : Nat) (l0 : List Int) (a1 : Int) (r : Int) (w : World) (hr0 : Kd.C (Kd.int .i64) w A0 l0.length l0) (hc0 : l0.length ≤ c0) (h : slices_Index_int_int.f k l0 a1 = some r) :
    Calls Try.prog 55 #[.slice A0 l0.length c0, .int .i64 a1] w fun e w' => e = .returned (.int .i64 r) ∧ Drawn0 w w' := by
  have HR0 := Aside0.mk hr0
  have HC0 := Aside0.mk hc0
  clear hr0 hc0
  have H := h
  unfold slices_Index_int_int.f at H
  clear h
  have H' := Aside0.mk H
  clear H
  go_enter Try.func55, Try.ntmps55
  go_wp2
  go_loopg [8] k (fun kq v8 w' => ∃ (x8_1 : Int), v8 = .int .i64 x8_1 ∧ Aside0 (slices_Index_int_int.l0 kq l0 a1 (l0.length : Int) x8_1 = some r) ∧ Aside0 (kq ≤ k) ∧ Drawn0 w w')
  case atStart => exact ⟨(0), qq3, H', ⟨Nat.le_refl _⟩, qq6⟩
  case round =>
    clear H'
    try clear p2
    obtain ⟨x8_1, rfl, HA, HK1, ⟨m1, rfl⟩⟩ := hrel
    cases gk with
    | zero => exact absurd HA.out (by simp [slices_Index_int_int.l0])
    | succ k1 =>
      have H := HA.out
      clear HA
      simp only [slices_Index_int_int.l0] at H
      by_cases c3 : x8_1 < (l0.length : Int)
      rotate_left
      · rw [if_neg c3] at H
        have c3b0 : decide (x8_1 < (l0.length : Int)) = false := decide_eq_false c3
        clear c3
        obtain rfl := Option.some.inj H
        go_wp2
        go_ret
        exact ⟨qq3, qq6⟩
      rw [if_pos c3] at H
      have c3b0 : decide (x8_1 < (l0.length : Int)) = true := decide_eq_true c3
      clear c3
      by_cases c4 : 0 ≤ x8_1
      rotate_left
      · rw [if_neg c4] at H
        exact absurd H (by simp)
      rw [if_pos c4] at H
      have c4b0 : decide (0 ≤ x8_1) = true := decide_eq_true c4
      clear c4
      by_cases c5 : x8_1 < (l0.length : Int)
      rotate_left
      · rw [if_neg c5] at H
        exact absurd H (by simp)
      rw [if_pos c5] at H
      have c5b0 : decide (x8_1 < (l0.length : Int)) = true := decide_eq_true c5
      clear c5
      by_cases c6 : a1 = (rd l0 x8_1)
      · rw [if_pos c6] at H
        have c6b0 : (a1 == (rd l0 x8_1)) = true := beq_iff_eq.mpr c6
        have c6b1 : (a1 != (rd l0 x8_1)) = false := bne_eq_false_iff_eq.mpr c6
        clear c6
        obtain rfl := Option.some.inj H
        have p101 : 0 ≤ (x8_1 : Int) := of_decide_eq_true qq0
        have q101 : x8_1 < (l0.length : Int) := of_decide_eq_true qq0
        obtain ⟨ad101, e101, hx101_0⟩ := Kd.at_int HR0.out x8_1 p101 q101
        cases e101
        replace p101 := eq_true p101
        replace q101 := eq_true q101
        go_wp2
        go_ret
        exact ⟨qq3, qq6⟩
      rw [if_neg c6] at H
      have c6b0 : (a1 == (rd l0 x8_1)) = false := beq_eq_false_iff_ne.mpr c6
      have c6b1 : (a1 != (rd l0 x8_1)) = true := bne_iff_ne.mpr c6
      have H' := Aside0.mk H
      clear H
      have p101 : 0 ≤ (x8_1 : Int) := of_decide_eq_true qq0
      have q101 : x8_1 < (l0.length : Int) := of_decide_eq_true qq0
      obtain ⟨ad101, e101, hx101_0⟩ := Kd.at_int HR0.out x8_1 p101 q101
      cases e101
      replace p101 := eq_true p101
      replace q101 := eq_true q101
      go_wp2
      go_roundg k1
      case measure => have := HK1.out; omega
      case rel => exact ⟨(wrap64 (x8_1 + 1)), qq3, H', ⟨qqP⟩, qq6⟩
def slices_Contains_int_int.f (k : Nat) (l0 : List Int) (a1 : Int) : Option (Bool) := (slices_Index_int_int.f k l0 a1).bind fun t101 => (some (decide (t101 ≥ 0)))
theorem slices_Contains_int_int.mono : ∀ a0 a1 k, LeO (slices_Contains_int_int.f k a0 a1) (slices_Contains_int_int.f (k + 1) a0 a1) := by
  intro a0 a1 k
  unfold slices_Contains_int_int.f
  repeat' first
      | (with_reducible exact slices_Index_int_int.mono _ _ _)
      | (with_reducible exact LeO.refl _)
      | (with_reducible exact LeO.none _)
      | (with_reducible refine LeO.ite ?_ ?_)
      | (with_reducible refine LeO.bind ?_ (fun _ => ?_))
      | exact slices_Index_int_int.mono _ _ _
      | exact LeO.none _
      | refine LeO.ite ?_ ?_
      | refine LeO.bind ?_ (fun _ => ?_)
set_option maxHeartbeats 8000000 in
set_option maxRecDepth 100000 in
theorem slices_Contains_int_int.calls (k : Nat) (A0 : Option Addr) (c0 : Nat) (l0 : List Int) (a1 : Int) (r : Bool) (w : World) (hr0 : Kd.C (Kd.int .i64) w A0 l0.length l0) (hc0 : l0.length ≤ c0) (h : slices_Contains_int_int.f k l0 a1 = some r) :
    Calls Try.prog 54 #[.slice A0 l0.length c0, .int .i64 a1] w fun e w' => e = .returned (.bool r) ∧ Drawn0 w w' := by
  have HR0 := Aside0.mk hr0
  have HC0 := Aside0.mk hc0
  clear hr0 hc0
  have H := h
  unfold slices_Contains_int_int.f at H
  clear h
  replace H := Option.bind_eq_some_iff.mp H
  obtain ⟨t101, A30, H⟩ := H
  try dsimp -simprocs only at H
  have A3 := Aside0.mk A30
  clear A30
  obtain rfl := Option.some.inj H
  go_enter Try.func54, Try.ntmps54
  go_wp2_with (first | ((with_reducible refine gate_callee (f := 55) rfl ?_); refine goesL_ (some 7) rfl rfl Try.func55 (by kernel_rfl) rfl #[.slice A0 l0.length c0, .int .i64 a1] rfl qq1 ?_; (with_reducible refine (slices_Index_int_int.calls k _ _ l0 a1 t101 _ ?side1 ?side2 A3.out).mono ?_); (case side1 => repeat (first | exact HR0.out | (with_reducible refine Kd.C_alloc ?_ _) | (with_reducible refine Kd.C_drewN ?_ _) | (with_reducible refine Kd.C_drew ?_))); (case side2 => exact HC0.out); rintro e w' ⟨rfl, ⟨nd, rfl⟩⟩; refine ⟨_, rfl, ?_⟩))
  go_ret
  exact ⟨qq3, qq6⟩
def IsS71 (w0 W : World) (g : Nat) (f0 : List (S38)) (f1 : Int) (f2 : Int) (f3 : Int) (f4 : Int) (f5 : Int) (f6 : Int) (f7 : Bool) (f8 : Int) (f9 : Bool) (f10 : Bool) : Prop := ∃ A0 c0, W.heap[g]? = some (.cells #[.slice A0 f0.length c0, .int .i64 f1, .int .i64 f2, .int .i64 f3, .int .i64 f4, .int .i64 f5, .int .i64 f6, .bool f7, .int .i64 f8, .bool f9, .bool f10] 71 (0, 0)) ∧ w0.heap.size ≤ g ∧ Kd.C k38 w0 A0 f0.length f0
theorem IsS71.grown {w0 W : World} {g : Nat} {f0 : List (S38)} {f1 : Int} {f2 : Int} {f3 : Int} {f4 : Int} {f5 : Int} {f6 : Int} {f7 : Bool} {f8 : Int} {f9 : Bool} {f10 : Bool} {W1 : World} {row : Option Nat} (h : IsS71 w0 W g f0 f1 f2 f3 f4 f5 f6 f7 f8 f9 f10) (hw : W.grownBy W1 row) (hne : some g ≠ row) : IsS71 w0 W1 g f0 f1 f2 f3 f4 f5 f6 f7 f8 f9 f10 := by
  obtain ⟨A0, c0, hb, hg, hr0⟩ := h
  exact ⟨A0, c0, blk_grown hb hw hne, hg, hr0⟩
theorem IsS71.kept {w0 W : World} {g : Nat} {f0 : List (S38)} {f1 : Int} {f2 : Int} {f3 : Int} {f4 : Int} {f5 : Int} {f6 : Int} {f7 : Bool} {f8 : Int} {f9 : Bool} {f10 : Bool} {W1 : World} {S : Nat → Prop} (h : IsS71 w0 W g f0 f1 f2 f3 f4 f5 f6 f7 f8 f9 f10) (hk : Kept W W1 S) (hne : ¬ S g) : IsS71 w0 W1 g f0 f1 f2 f3 f4 f5 f6 f7 f8 f9 f10 := by
  obtain ⟨A0, c0, hb, hg, hr0⟩ := h
  exact ⟨A0, c0, blk_kept hb hk hne, hg, hr0⟩
theorem IsS71.below {w0 W : World} {g : Nat} {f0 : List (S38)} {f1 : Int} {f2 : Int} {f3 : Int} {f4 : Int} {f5 : Int} {f6 : Int} {f7 : Bool} {f8 : Int} {f9 : Bool} {f10 : Bool} {W1 : World} (h : IsS71 w0 W g f0 f1 f2 f3 f4 f5 f6 f7 f8 f9 f10) (hw : Below W.heap.size W W1) : IsS71 w0 W1 g f0 f1 f2 f3 f4 f5 f6 f7 f8 f9 f10 := h.grown (grown_of_below hw none) (by simp)
theorem IsS71.alloc {w0 W : World} {g : Nat} {f0 : List (S38)} {f1 : Int} {f2 : Int} {f3 : Int} {f4 : Int} {f5 : Int} {f6 : Int} {f7 : Bool} {f8 : Int} {f9 : Bool} {f10 : Bool} (h : IsS71 w0 W g f0 f1 f2 f3 f4 f5 f6 f7 f8 f9 f10) (o : Obj) : IsS71 w0 (W.alloc o) g f0 f1 f2 f3 f4 f5 f6 f7 f8 f9 f10 := h.below (below_alloc (Below.refl _ _) o)
theorem IsS71.drewN {w0 W : World} {g : Nat} {f0 : List (S38)} {f1 : Int} {f2 : Int} {f3 : Int} {f4 : Int} {f5 : Int} {f6 : Int} {f7 : Bool} {f8 : Int} {f9 : Bool} {f10 : Bool} (h : IsS71 w0 W g f0 f1 f2 f3 f4 f5 f6 f7 f8 f9 f10) (m : Nat) : IsS71 w0 (W.drewN m) g f0 f1 f2 f3 f4 f5 f6 f7 f8 f9 f10 := h
theorem IsS71.drew {w0 W : World} {g : Nat} {f0 : List (S38)} {f1 : Int} {f2 : Int} {f3 : Int} {f4 : Int} {f5 : Int} {f6 : Int} {f7 : Bool} {f8 : Int} {f9 : Bool} {f10 : Bool} (h : IsS71 w0 W g f0 f1 f2 f3 f4 f5 f6 f7 f8 f9 f10) : IsS71 w0 W.drew g f0 f1 f2 f3 f4 f5 f6 f7 f8 f9 f10 := h
theorem IsS71.at_ {w0 W : World} {g : Nat} {f0 : List (S38)} {f1 : Int} {f2 : Int} {f3 : Int} {f4 : Int} {f5 : Int} {f6 : Int} {f7 : Bool} {f8 : Int} {f9 : Bool} {f10 : Bool} {w' : World} {m : Nat} (hq : W.drewN m = w') (h : IsS71 w0 W g f0 f1 f2 f3 f4 f5 f6 f7 f8 f9 f10) : IsS71 w0 w' g f0 f1 f2 f3 f4 f5 f6 f7 f8 f9 f10 := by subst hq; exact IsS71.drewN h m
theorem IsS71.apart {w0 W : World} {g : Nat} {f0 : List (S38)} {f1 : Int} {f2 : Int} {f3 : Int} {f4 : Int} {f5 : Int} {f6 : Int} {f7 : Bool} {f8 : Int} {f9 : Bool} {f10 : Bool} {α : Type} {d : Kd α} {e : Nat} {base : Nat} {ok : Nat → Prop} {v : Value} {xs : List α} (h : IsS71 w0 W g f0 f1 f2 f3 f4 f5 f6 f7 f8 f9 f10) (ho : d.R e W base ok v xs) (ht : ∀ q, q ∈ e :: d.E → q ≠ 71) : d.R e W base (fun k => ok k ∧ k ≠ g) v xs := by
  obtain ⟨A0, c0, hb, hg, hr0⟩ := h
  exact Kd.R_types ho hb ht
theorem IsS71.own_ne {w0 W : World} {g : Nat} {f0 : List (S38)} {f1 : Int} {f2 : Int} {f3 : Int} {f4 : Int} {f5 : Int} {f6 : Int} {f7 : Bool} {f8 : Int} {f9 : Bool} {f10 : Bool} {α : Type} {d : Kd α} {e : Nat} {base : Nat} {ok : Nat → Prop} {v : Value} {xs : List α} (h : IsS71 w0 W g f0 f1 f2 f3 f4 f5 f6 f7 f8 f9 f10) (ho : d.R e W base ok v xs) (ht : e ≠ 71) : some g ≠ v.ownBlock := by
  obtain ⟨A0, c0, hb, hg, hr0⟩ := h
  exact Kd.R_ne ho hb ht
theorem IsS71.lt {w0 W : World} {g : Nat} {f0 : List (S38)} {f1 : Int} {f2 : Int} {f3 : Int} {f4 : Int} {f5 : Int} {f6 : Int} {f7 : Bool} {f8 : Int} {f9 : Bool} {f10 : Bool} (h : IsS71 w0 W g f0 f1 f2 f3 f4 f5 f6 f7 f8 f9 f10) : g < W.heap.size := by
  obtain ⟨A0, c0, hb, hg, hr0⟩ := h
  exact blk_lt hb
theorem IsS71.ge {w0 W : World} {g : Nat} {f0 : List (S38)} {f1 : Int} {f2 : Int} {f3 : Int} {f4 : Int} {f5 : Int} {f6 : Int} {f7 : Bool} {f8 : Int} {f9 : Bool} {f10 : Bool} (h : IsS71 w0 W g f0 f1 f2 f3 f4 f5 f6 f7 f8 f9 f10) : w0.heap.size ≤ g := by
  obtain ⟨A0, c0, hb, hg, hr0⟩ := h
  exact hg
theorem IsS71.ne_blk {w0 W : World} {g : Nat} {f0 : List (S38)} {f1 : Int} {f2 : Int} {f3 : Int} {f4 : Int} {f5 : Int} {f6 : Int} {f7 : Bool} {f8 : Int} {f9 : Bool} {f10 : Bool} {a : Nat} {cs : Array Value} {t : TypeId} {fr : Nat × Nat} (h : IsS71 w0 W g f0 f1 f2 f3 f4 f5 f6 f7 f8 f9 f10) (hb2 : W.heap[a]? = some (.cells cs t fr)) (ht : t ≠ 71) : g ≠ a := by
  obtain ⟨A0, c0, hb, hg, hr0⟩ := h
  rintro rfl
  rw [hb] at hb2
  injection hb2 with hb2
  injection hb2 with _ ht2
  exact ht ht2.symm
theorem IsS71.far {w0 W : World} {g : Nat} {f0 : List (S38)} {f1 : Int} {f2 : Int} {f3 : Int} {f4 : Int} {f5 : Int} {f6 : Int} {f7 : Bool} {f8 : Int} {f9 : Bool} {f10 : Bool} {p : Addr} (h : IsS71 w0 W g f0 f1 f2 f3 f4 f5 f6 f7 f8 f9 f10) (hne : g ≠ p.block) (u : Value) : IsS71 w0 (W.setCell p u) g f0 f1 f2 f3 f4 f5 f6 f7 f8 f9 f10 := by
  obtain ⟨A0, c0, hb, hg, hr0⟩ := h
  exact ⟨A0, c0, blk_far hb hne u, hg, hr0⟩
theorem cellS71_0 {W : World} {g : Nat} {A0 : Option Addr} {c0 : Nat} {f0 : List (S38)} {f1 : Int} {f2 : Int} {f3 : Int} {f4 : Int} {f5 : Int} {f6 : Int} {f7 : Bool} {f8 : Int} {f9 : Bool} {f10 : Bool} (h : W.heap[g]? = some (.cells #[.slice A0 f0.length c0, .int .i64 f1, .int .i64 f2, .int .i64 f3, .int .i64 f4, .int .i64 f5, .int .i64 f6, .bool f7, .int .i64 f8, .bool f9, .bool f10] 71 (0, 0))) : W.cell? ⟨g, 0, none⟩ = some (.slice A0 f0.length c0) := (blk_cell h 0).trans rfl
theorem cellS71_1 {W : World} {g : Nat} {A0 : Option Addr} {c0 : Nat} {f0 : List (S38)} {f1 : Int} {f2 : Int} {f3 : Int} {f4 : Int} {f5 : Int} {f6 : Int} {f7 : Bool} {f8 : Int} {f9 : Bool} {f10 : Bool} (h : W.heap[g]? = some (.cells #[.slice A0 f0.length c0, .int .i64 f1, .int .i64 f2, .int .i64 f3, .int .i64 f4, .int .i64 f5, .int .i64 f6, .bool f7, .int .i64 f8, .bool f9, .bool f10] 71 (0, 0))) : W.cell? ⟨g, 1, none⟩ = some (.int .i64 f1) := (blk_cell h 1).trans rfl
theorem IsS71.set_1 {w0 W : World} {g : Nat} {f0 : List (S38)} {f1 : Int} {f2 : Int} {f3 : Int} {f4 : Int} {f5 : Int} {f6 : Int} {f7 : Bool} {f8 : Int} {f9 : Bool} {f10 : Bool} (h : IsS71 w0 W g f0 f1 f2 f3 f4 f5 f6 f7 f8 f9 f10) (x : Int) : IsS71 w0 (W.setCell ⟨g, 1, none⟩ (.int .i64 x)) g f0 x f2 f3 f4 f5 f6 f7 f8 f9 f10 := by
  obtain ⟨A0, c0, hb, hg, hr0⟩ := h
  exact ⟨A0, c0, by simpa using blk_set hb 1 (.int .i64 x), hg, hr0⟩
theorem cellS71_2 {W : World} {g : Nat} {A0 : Option Addr} {c0 : Nat} {f0 : List (S38)} {f1 : Int} {f2 : Int} {f3 : Int} {f4 : Int} {f5 : Int} {f6 : Int} {f7 : Bool} {f8 : Int} {f9 : Bool} {f10 : Bool} (h : W.heap[g]? = some (.cells #[.slice A0 f0.length c0, .int .i64 f1, .int .i64 f2, .int .i64 f3, .int .i64 f4, .int .i64 f5, .int .i64 f6, .bool f7, .int .i64 f8, .bool f9, .bool f10] 71 (0, 0))) : W.cell? ⟨g, 2, none⟩ = some (.int .i64 f2) := (blk_cell h 2).trans rfl
theorem IsS71.set_2 {w0 W : World} {g : Nat} {f0 : List (S38)} {f1 : Int} {f2 : Int} {f3 : Int} {f4 : Int} {f5 : Int} {f6 : Int} {f7 : Bool} {f8 : Int} {f9 : Bool} {f10 : Bool} (h : IsS71 w0 W g f0 f1 f2 f3 f4 f5 f6 f7 f8 f9 f10) (x : Int) : IsS71 w0 (W.setCell ⟨g, 2, none⟩ (.int .i64 x)) g f0 f1 x f3 f4 f5 f6 f7 f8 f9 f10 := by
  obtain ⟨A0, c0, hb, hg, hr0⟩ := h
  exact ⟨A0, c0, by simpa using blk_set hb 2 (.int .i64 x), hg, hr0⟩
theorem cellS71_3 {W : World} {g : Nat} {A0 : Option Addr} {c0 : Nat} {f0 : List (S38)} {f1 : Int} {f2 : Int} {f3 : Int} {f4 : Int} {f5 : Int} {f6 : Int} {f7 : Bool} {f8 : Int} {f9 : Bool} {f10 : Bool} (h : W.heap[g]? = some (.cells #[.slice A0 f0.length c0, .int .i64 f1, .int .i64 f2, .int .i64 f3, .int .i64 f4, .int .i64 f5, .int .i64 f6, .bool f7, .int .i64 f8, .bool f9, .bool f10] 71 (0, 0))) : W.cell? ⟨g, 3, none⟩ = some (.int .i64 f3) := (blk_cell h 3).trans rfl
theorem IsS71.set_3 {w0 W : World} {g : Nat} {f0 : List (S38)} {f1 : Int} {f2 : Int} {f3 : Int} {f4 : Int} {f5 : Int} {f6 : Int} {f7 : Bool} {f8 : Int} {f9 : Bool} {f10 : Bool} (h : IsS71 w0 W g f0 f1 f2 f3 f4 f5 f6 f7 f8 f9 f10) (x : Int) : IsS71 w0 (W.setCell ⟨g, 3, none⟩ (.int .i64 x)) g f0 f1 f2 x f4 f5 f6 f7 f8 f9 f10 := by
  obtain ⟨A0, c0, hb, hg, hr0⟩ := h
  exact ⟨A0, c0, by simpa using blk_set hb 3 (.int .i64 x), hg, hr0⟩
theorem cellS71_4 {W : World} {g : Nat} {A0 : Option Addr} {c0 : Nat} {f0 : List (S38)} {f1 : Int} {f2 : Int} {f3 : Int} {f4 : Int} {f5 : Int} {f6 : Int} {f7 : Bool} {f8 : Int} {f9 : Bool} {f10 : Bool} (h : W.heap[g]? = some (.cells #[.slice A0 f0.length c0, .int .i64 f1, .int .i64 f2, .int .i64 f3, .int .i64 f4, .int .i64 f5, .int .i64 f6, .bool f7, .int .i64 f8, .bool f9, .bool f10] 71 (0, 0))) : W.cell? ⟨g, 4, none⟩ = some (.int .i64 f4) := (blk_cell h 4).trans rfl
theorem IsS71.set_4 {w0 W : World} {g : Nat} {f0 : List (S38)} {f1 : Int} {f2 : Int} {f3 : Int} {f4 : Int} {f5 : Int} {f6 : Int} {f7 : Bool} {f8 : Int} {f9 : Bool} {f10 : Bool} (h : IsS71 w0 W g f0 f1 f2 f3 f4 f5 f6 f7 f8 f9 f10) (x : Int) : IsS71 w0 (W.setCell ⟨g, 4, none⟩ (.int .i64 x)) g f0 f1 f2 f3 x f5 f6 f7 f8 f9 f10 := by
  obtain ⟨A0, c0, hb, hg, hr0⟩ := h
  exact ⟨A0, c0, by simpa using blk_set hb 4 (.int .i64 x), hg, hr0⟩
theorem cellS71_5 {W : World} {g : Nat} {A0 : Option Addr} {c0 : Nat} {f0 : List (S38)} {f1 : Int} {f2 : Int} {f3 : Int} {f4 : Int} {f5 : Int} {f6 : Int} {f7 : Bool} {f8 : Int} {f9 : Bool} {f10 : Bool} (h : W.heap[g]? = some (.cells #[.slice A0 f0.length c0, .int .i64 f1, .int .i64 f2, .int .i64 f3, .int .i64 f4, .int .i64 f5, .int .i64 f6, .bool f7, .int .i64 f8, .bool f9, .bool f10] 71 (0, 0))) : W.cell? ⟨g, 5, none⟩ = some (.int .i64 f5) := (blk_cell h 5).trans rfl
theorem IsS71.set_5 {w0 W : World} {g : Nat} {f0 : List (S38)} {f1 : Int} {f2 : Int} {f3 : Int} {f4 : Int} {f5 : Int} {f6 : Int} {f7 : Bool} {f8 : Int} {f9 : Bool} {f10 : Bool} (h : IsS71 w0 W g f0 f1 f2 f3 f4 f5 f6 f7 f8 f9 f10) (x : Int) : IsS71 w0 (W.setCell ⟨g, 5, none⟩ (.int .i64 x)) g f0 f1 f2 f3 f4 x f6 f7 f8 f9 f10 := by
  obtain ⟨A0, c0, hb, hg, hr0⟩ := h
  exact ⟨A0, c0, by simpa using blk_set hb 5 (.int .i64 x), hg, hr0⟩
theorem cellS71_6 {W : World} {g : Nat} {A0 : Option Addr} {c0 : Nat} {f0 : List (S38)} {f1 : Int} {f2 : Int} {f3 : Int} {f4 : Int} {f5 : Int} {f6 : Int} {f7 : Bool} {f8 : Int} {f9 : Bool} {f10 : Bool} (h : W.heap[g]? = some (.cells #[.slice A0 f0.length c0, .int .i64 f1, .int .i64 f2, .int .i64 f3, .int .i64 f4, .int .i64 f5, .int .i64 f6, .bool f7, .int .i64 f8, .bool f9, .bool f10] 71 (0, 0))) : W.cell? ⟨g, 6, none⟩ = some (.int .i64 f6) := (blk_cell h 6).trans rfl
theorem IsS71.set_6 {w0 W : World} {g : Nat} {f0 : List (S38)} {f1 : Int} {f2 : Int} {f3 : Int} {f4 : Int} {f5 : Int} {f6 : Int} {f7 : Bool} {f8 : Int} {f9 : Bool} {f10 : Bool} (h : IsS71 w0 W g f0 f1 f2 f3 f4 f5 f6 f7 f8 f9 f10) (x : Int) : IsS71 w0 (W.setCell ⟨g, 6, none⟩ (.int .i64 x)) g f0 f1 f2 f3 f4 f5 x f7 f8 f9 f10 := by
  obtain ⟨A0, c0, hb, hg, hr0⟩ := h
  exact ⟨A0, c0, by simpa using blk_set hb 6 (.int .i64 x), hg, hr0⟩
theorem cellS71_7 {W : World} {g : Nat} {A0 : Option Addr} {c0 : Nat} {f0 : List (S38)} {f1 : Int} {f2 : Int} {f3 : Int} {f4 : Int} {f5 : Int} {f6 : Int} {f7 : Bool} {f8 : Int} {f9 : Bool} {f10 : Bool} (h : W.heap[g]? = some (.cells #[.slice A0 f0.length c0, .int .i64 f1, .int .i64 f2, .int .i64 f3, .int .i64 f4, .int .i64 f5, .int .i64 f6, .bool f7, .int .i64 f8, .bool f9, .bool f10] 71 (0, 0))) : W.cell? ⟨g, 7, none⟩ = some (.bool f7) := (blk_cell h 7).trans rfl
theorem IsS71.set_7 {w0 W : World} {g : Nat} {f0 : List (S38)} {f1 : Int} {f2 : Int} {f3 : Int} {f4 : Int} {f5 : Int} {f6 : Int} {f7 : Bool} {f8 : Int} {f9 : Bool} {f10 : Bool} (h : IsS71 w0 W g f0 f1 f2 f3 f4 f5 f6 f7 f8 f9 f10) (x : Bool) : IsS71 w0 (W.setCell ⟨g, 7, none⟩ (.bool x)) g f0 f1 f2 f3 f4 f5 f6 x f8 f9 f10 := by
  obtain ⟨A0, c0, hb, hg, hr0⟩ := h
  exact ⟨A0, c0, by simpa using blk_set hb 7 (.bool x), hg, hr0⟩
theorem cellS71_8 {W : World} {g : Nat} {A0 : Option Addr} {c0 : Nat} {f0 : List (S38)} {f1 : Int} {f2 : Int} {f3 : Int} {f4 : Int} {f5 : Int} {f6 : Int} {f7 : Bool} {f8 : Int} {f9 : Bool} {f10 : Bool} (h : W.heap[g]? = some (.cells #[.slice A0 f0.length c0, .int .i64 f1, .int .i64 f2, .int .i64 f3, .int .i64 f4, .int .i64 f5, .int .i64 f6, .bool f7, .int .i64 f8, .bool f9, .bool f10] 71 (0, 0))) : W.cell? ⟨g, 8, none⟩ = some (.int .i64 f8) := (blk_cell h 8).trans rfl
theorem IsS71.set_8 {w0 W : World} {g : Nat} {f0 : List (S38)} {f1 : Int} {f2 : Int} {f3 : Int} {f4 : Int} {f5 : Int} {f6 : Int} {f7 : Bool} {f8 : Int} {f9 : Bool} {f10 : Bool} (h : IsS71 w0 W g f0 f1 f2 f3 f4 f5 f6 f7 f8 f9 f10) (x : Int) : IsS71 w0 (W.setCell ⟨g, 8, none⟩ (.int .i64 x)) g f0 f1 f2 f3 f4 f5 f6 f7 x f9 f10 := by
  obtain ⟨A0, c0, hb, hg, hr0⟩ := h
  exact ⟨A0, c0, by simpa using blk_set hb 8 (.int .i64 x), hg, hr0⟩
theorem cellS71_9 {W : World} {g : Nat} {A0 : Option Addr} {c0 : Nat} {f0 : List (S38)} {f1 : Int} {f2 : Int} {f3 : Int} {f4 : Int} {f5 : Int} {f6 : Int} {f7 : Bool} {f8 : Int} {f9 : Bool} {f10 : Bool} (h : W.heap[g]? = some (.cells #[.slice A0 f0.length c0, .int .i64 f1, .int .i64 f2, .int .i64 f3, .int .i64 f4, .int .i64 f5, .int .i64 f6, .bool f7, .int .i64 f8, .bool f9, .bool f10] 71 (0, 0))) : W.cell? ⟨g, 9, none⟩ = some (.bool f9) := (blk_cell h 9).trans rfl
theorem IsS71.set_9 {w0 W : World} {g : Nat} {f0 : List (S38)} {f1 : Int} {f2 : Int} {f3 : Int} {f4 : Int} {f5 : Int} {f6 : Int} {f7 : Bool} {f8 : Int} {f9 : Bool} {f10 : Bool} (h : IsS71 w0 W g f0 f1 f2 f3 f4 f5 f6 f7 f8 f9 f10) (x : Bool) : IsS71 w0 (W.setCell ⟨g, 9, none⟩ (.bool x)) g f0 f1 f2 f3 f4 f5 f6 f7 f8 x f10 := by
  obtain ⟨A0, c0, hb, hg, hr0⟩ := h
  exact ⟨A0, c0, by simpa using blk_set hb 9 (.bool x), hg, hr0⟩
theorem cellS71_10 {W : World} {g : Nat} {A0 : Option Addr} {c0 : Nat} {f0 : List (S38)} {f1 : Int} {f2 : Int} {f3 : Int} {f4 : Int} {f5 : Int} {f6 : Int} {f7 : Bool} {f8 : Int} {f9 : Bool} {f10 : Bool} (h : W.heap[g]? = some (.cells #[.slice A0 f0.length c0, .int .i64 f1, .int .i64 f2, .int .i64 f3, .int .i64 f4, .int .i64 f5, .int .i64 f6, .bool f7, .int .i64 f8, .bool f9, .bool f10] 71 (0, 0))) : W.cell? ⟨g, 10, none⟩ = some (.bool f10) := (blk_cell h 10).trans rfl
theorem IsS71.set_10 {w0 W : World} {g : Nat} {f0 : List (S38)} {f1 : Int} {f2 : Int} {f3 : Int} {f4 : Int} {f5 : Int} {f6 : Int} {f7 : Bool} {f8 : Int} {f9 : Bool} {f10 : Bool} (h : IsS71 w0 W g f0 f1 f2 f3 f4 f5 f6 f7 f8 f9 f10) (x : Bool) : IsS71 w0 (W.setCell ⟨g, 10, none⟩ (.bool x)) g f0 f1 f2 f3 f4 f5 f6 f7 f8 f9 x := by
  obtain ⟨A0, c0, hb, hg, hr0⟩ := h
  exact ⟨A0, c0, by simpa using blk_set hb 10 (.bool x), hg, hr0⟩
theorem IsS71.new (w0 W : World) (A0 : Option Addr) (c0 : Nat) (f0 : List (S38)) (f1 : Int) (f2 : Int) (f3 : Int) (f4 : Int) (f5 : Int) (f6 : Int) (f7 : Bool) (f8 : Int) (f9 : Bool) (f10 : Bool) (hB : Below w0.heap.size w0 W) (hr0 : Kd.C k38 w0 A0 f0.length f0) : IsS71 w0 (W.alloc (.cells #[.slice A0 f0.length c0, .int .i64 f1, .int .i64 f2, .int .i64 f3, .int .i64 f4, .int .i64 f5, .int .i64 f6, .bool f7, .int .i64 f8, .bool f9, .bool f10] 71)) W.heap.size f0 f1 f2 f3 f4 f5 f6 f7 f8 f9 f10 := ⟨A0, c0, by simpa using heap_alloc_new W _, hB.size, hr0⟩
def turns_walker_to.f (s0_0 : List (S38)) (s0_1 : Int) (s0_2 : Int) (s0_3 : Int) (s0_4 : Int) (s0_5 : Int) (s0_6 : Int) (s0_7 : Bool) (s0_8 : Int) (s0_9 : Bool) (s0_10 : Bool) (a1 : Int) : Option (Int × Int × Int × Int × Int × Int × Bool × Int × Bool × Bool) := some (s0_1, s0_2, s0_3, a1, 1, a1, false, s0_8, s0_9, s0_10)
set_option maxHeartbeats 8000000 in
set_option maxRecDepth 100000 in
theorem turns_walker_to.calls (g : Nat) (s0_0 : List (S38)) (s0_1 : Int) (s0_2 : Int) (s0_3 : Int) (s0_4 : Int) (s0_5 : Int) (s0_6 : Int) (s0_7 : Bool) (s0_8 : Int) (s0_9 : Bool) (s0_10 : Bool) (a1 : Int) (r1 : Int) (r2 : Int) (r3 : Int) (r4 : Int) (r5 : Int) (r6 : Int) (r7 : Bool) (r8 : Int) (r9 : Bool) (r10 : Bool) (w0 w : World) (hI : IsS71 w0 w g s0_0 s0_1 s0_2 s0_3 s0_4 s0_5 s0_6 s0_7 s0_8 s0_9 s0_10) (hB : Below w0.heap.size w0 w) (h : turns_walker_to.f s0_0 s0_1 s0_2 s0_3 s0_4 s0_5 s0_6 s0_7 s0_8 s0_9 s0_10 a1 = some (r1, r2, r3, r4, r5, r6, r7, r8, r9, r10)) :
    Calls Try.prog 47 #[.pointer (some ⟨g, 0, none⟩), .int .i64 a1] w fun e w' => e = .returned (.tuple #[]) ∧ IsS71 w0 w' g s0_0 r1 r2 r3 r4 r5 r6 r7 r8 r9 r10 ∧ Below w0.heap.size w0 w' ∧ KeepBut w w' g none := by
  have HI0 := Aside0.mk hI
  have HK := Aside0.mk (KeepBut.refl w g none)
  have HL := Aside0.mk hB.size
  clear hI
  have HW0 := Aside0.mk hB.size
  have HB := Aside0.mk hB
  clear hB
  have H := h
  unfold turns_walker_to.f at H
  clear h
  simp only [Option.some.injEq, Prod.mk.injEq] at H
  obtain ⟨rfl, rfl, rfl, rfl, rfl, rfl, rfl, rfl, rfl, rfl⟩ := H
  obtain ⟨ASz3_0, cSz3_0, HGz3, hgz3, HSz3_0⟩ := HI0.out
  have hcz3_0 := cellS71_0 HGz3
  have hcz3_1 := cellS71_1 HGz3
  have hcz3_2 := cellS71_2 HGz3
  have hcz3_3 := cellS71_3 HGz3
  have hcz3_4 := cellS71_4 HGz3
  have hcz3_5 := cellS71_5 HGz3
  have hcz3_6 := cellS71_6 HGz3
  have hcz3_7 := cellS71_7 HGz3
  have hcz3_8 := cellS71_8 HGz3
  have hcz3_9 := cellS71_9 HGz3
  have hcz3_10 := cellS71_10 HGz3
  have hfz3_1 := blk_frozen HGz3 1
  have hfz3_2 := blk_frozen HGz3 2
  have hfz3_3 := blk_frozen HGz3 3
  have hfz3_4 := blk_frozen HGz3 4
  have hfz3_5 := blk_frozen HGz3 5
  have hfz3_6 := blk_frozen HGz3 6
  have hfz3_7 := blk_frozen HGz3 7
  have hfz3_8 := blk_frozen HGz3 8
  have hfz3_9 := blk_frozen HGz3 9
  have hfz3_10 := blk_frozen HGz3 10
  clear HGz3 hgz3
  go_enter Try.func47, Try.ntmps47
  go_wp2
  first | go_end0 | ((try simp only [Exit.inBlock, Exit.then]); refine bodyPost_ret (results_none rfl _ _ _) rfl ?_)
  exact ⟨qq2, by repeat (first | (with_reducible first | exact HI0.out | apply IsS71.alloc | apply IsS71.drewN | apply IsS71.drew | apply IsS71.set_1 | apply IsS71.set_2 | apply IsS71.set_3 | apply IsS71.set_4 | apply IsS71.set_5 | apply IsS71.set_6 | apply IsS71.set_7 | apply IsS71.set_8 | apply IsS71.set_9 | apply IsS71.set_10) | exact HI0.out), by repeat (first | (with_reducible first | exact HB.out | apply below_alloc | apply pw_below_drewN | apply below_drew1 | refine below_set ?_ (IsS71.ge HI0.out)) | exact HB.out), qq8⟩
end Go.Proofs.Ytendmmagjjhfnaa.M
namespace Go.Proofs.Ytendmmagjjhfnaa.M
open Go.RowKit Go.Proofs.YtendmmagjjhfnaaW.PrintWords Go.Proofs.YtendmmagjjhfnaaW.PrintLast Go.Proofs.YtendmmagjjhfnaaW.PrintMore
set_option linter.unusedVariables false
set_option linter.unusedSimpArgs false
def lastIx (l : List S38) : Nat → Nat → Nat
  | 0, k => k
  | n + 1, k => if k + 1 < l.length ∧ 0 < (rd_T38 l ((k + 1 : Nat) : Int)).f2.length then lastIx l n (k + 1) else k
theorem lastIx_lt (l : List S38) : ∀ (n k : Nat), k < l.length → lastIx l n k < l.length
  | 0, k, h => h
  | n + 1, k, h => by
    rw [lastIx]
    split
    · next hc => exact lastIx_lt l n (k + 1) hc.1
    · exact h
def lastOf (l : List S38) (k : Nat) : Nat := lastIx l (l.length - k) k
theorem lastOf_step {l : List S38} {k : Nat} (h : k + 1 < l.length) (he : 0 < (rd_T38 l ((k + 1 : Nat) : Int)).f2.length) : lastOf l k = lastOf l (k + 1) := by
  unfold lastOf
  rw [show l.length - k = (l.length - (k + 1)) + 1 by omega, lastIx, if_pos ⟨h, he⟩]
theorem lastOf_stop {l : List S38} {k : Nat} (hk : k < l.length) (h : ¬ (k + 1 < l.length ∧ 0 < (rd_T38 l ((k + 1 : Nat) : Int)).f2.length)) : lastOf l k = k := by
  unfold lastOf
  rw [show l.length - k = (l.length - (k + 1)) + 1 by omega, lastIx, if_neg h]
set_option maxHeartbeats 8000000 in
set_option maxRecDepth 100000 in
theorem last_any (g : Nat) (l : List (S38)) (s c j : Int) (bar : Nat) (pass mark : Int) (closed : Bool) (jump : Int) (fn cd : Bool) (w0 w : World) (hI : IsS71 w0 w g l s c j (bar : Int) pass mark closed jump fn cd)
    (hB : Below w0.heap.size w0 w) (hb : bar < l.length) (hm : l.length ≤ 140737488351232) :
    ∃ A2 c2, (rd_T38 l (lastOf l bar : Int)).f2.length ≤ c2 ∧ Kd.C (Kd.int .i64) w0 A2 (rd_T38 l (lastOf l bar : Int)).f2.length (rd_T38 l (lastOf l bar : Int)).f2 ∧
    ∀ n, Calls Try.prog 53 #[.pointer (some ⟨g, 0, none⟩)] (w.drewN n) fun e w' => e = .returned (.slice A2 (rd_T38 l (lastOf l bar : Int)).f2.length c2) ∧ w' = w.drewN n := by
  obtain ⟨A0, c0, HG, hg, HC⟩ := hI
  have hr := lastIx_lt l (l.length - bar) bar hb
  obtain ⟨ad, A2, c2, rfl, h0, h1, h2, h3, h4, h5, h6, h7, hl, hC⟩ := at_T38 HC ((lastOf l bar : Nat) : Int) (by omega) (by unfold lastOf; omega)
  refine ⟨A2, c2, hl, hC, fun n => ?_⟩
  replace hB := pw_below_drewN hB n
  replace HG : (w.drewN n).heap[g]? = _ := HG
  obtain ⟨W, hW⟩ : ∃ W, w.drewN n = W := ⟨_, rfl⟩
  rw [hW] at hB HG ⊢
  clear hW
  clear h0 h1 h3 h4 h5 h6 h7
  rw [Int.toNat_natCast] at h2
  replace h2 := (hB.cell (World.block_lt_of_cell? w0 _ h2)).trans h2
  obtain ⟨r, hr'⟩ : ∃ r, lastOf l bar = r := ⟨_, rfl⟩
  have HR := Aside0.mk hr'
  rw [hr'] at h2 hl hC ⊢
  clear hr' hr
  obtain ⟨es, hes⟩ : ∃ es, (rd_T38 l (r : Int)).f2 = es := ⟨_, rfl⟩
  rw [hes] at h2 ⊢
  clear hes hl hC
  have H2 := Aside0.mk h2
  have HC0 := Aside0.mk HC
  have HBB := Aside0.mk hB
  clear h2 HC hB
  have e0 : W.cell? ⟨g, 0, none⟩ = some (.slice (some ad) l.length c0) := (blk_cell HG 0).trans rfl
  have e4 : W.cell? ⟨g, 4, none⟩ = some (.int .i64 (bar : Int)) := (blk_cell HG 4).trans rfl
  clear HG hg
  go_enter Try.func53, Try.ntmps53
  go_wp2
  go_loop [3] (fun i => ∃ q : Nat, q < l.length ∧ i = .int .i64 (q : Int) ∧ Aside0 (lastOf l q = r)) (fun i => l.length - (intOf i).toNat)
  case atStart => exact ⟨bar, hb, rfl, HR⟩
  case round =>
    clear HR
    obtain ⟨q, hq, rfl, HR⟩ := hrel
    by_cases hlt : q + 1 < l.length
    · obtain ⟨ad', A3, c3, hea, k0, k1, k2, k3, k4, k5, k6, k7, _, _⟩ := at_T38 HC0.out ((q : Int) + 1) (by omega) (by omega)
      cases hea
      replace k2 := (HBB.out.cell (World.block_lt_of_cell? w0 _ k2)).trans k2
      clear k0 k1 k3 k4 k5 k6 k7
      have ht : ((q : Int) + 1).toNat = q + 1 := by omega
      rw [ht] at k2
      clear ht
      obtain ⟨gs, hgs⟩ : ∃ gs, (rd_T38 l ((q : Int) + 1)).f2 = gs := ⟨_, rfl⟩
      rw [hgs] at k2
      have hgs' : (rd_T38 l ((q + 1 : Nat) : Int)).f2 = gs := hgs
      have hlb : decide ((q : Int) + 1 < (l.length : Int)) = true := decide_eq_true (by omega)
      by_cases hn : 0 < gs.length
      · have HS := Aside0.mk (lastOf_step hlt (by rw [hgs']; exact hn))
        have hn1 : decide (0 < gs.length) = true := decide_eq_true hn
        clear hn hgs hgs'
        go_wp2
        go_round
        case rel => exact ⟨q + 1, hlt, by go_num, ⟨HS.out.symm.trans HR.out⟩⟩
        case measure => simp [intOf]; omega
      · have HS := Aside0.mk (lastOf_stop (l := l) hq (fun h => by rw [hgs'] at h; exact hn h.2))
        have hn1 : decide (0 < gs.length) = false := decide_eq_false hn
        clear hn hgs hgs'
        obtain rfl : q = r := HS.out.symm.trans HR.out
        have h2 := H2.out
        clear HS HR
        go_wp2
        go_ret
        exact ⟨rfl, rfl⟩
    · have HS := Aside0.mk (lastOf_stop (l := l) hq (fun h => hlt h.1))
      have hlb : decide ((q : Int) + 1 < (l.length : Int)) = false := decide_eq_false (by omega)
      obtain rfl : q = r := HS.out.symm.trans HR.out
      have h2 := H2.out
      clear HS HR
      go_wp2
      go_ret
      exact ⟨rfl, rfl⟩
theorem quiet_d {P : Program} {f : FuncId} {args : Array Value} {w : World} {n : Nat} {v : Value}
    (h : Calls P f args (w.drewN n) fun e w' => e = .returned v ∧ Drawn0 (w.drewN n) w') : Calls P f args (w.drewN n) fun e w'' => e = .returned v ∧ ∃ m, w'' = w.drewN m :=
  Calls.quiet_of (h.mono fun _ _ ⟨a, b⟩ => ⟨a, b.out⟩)
def stO (k : Nat) (l : List S38) (bar : Nat) (pass jump : Int) (x : S38) : Option Bool :=
  if x.f2.length = 0 then some true else if jump = 0 then slices_Contains_int_int.f k x.f2 pass else slices_Equal_int_int.f k x.f2 (rd_T38 l (lastOf l bar : Int)).f2
set_option maxHeartbeats 8000000 in
set_option maxRecDepth 100000 in
theorem stands_any (k : Nat) (g : Nat) (l : List (S38)) (s c j : Int) (bar : Nat) (pass mark : Int) (closed : Bool) (jump : Int) (fn cd : Bool) (x : S38) (A1 : Option Addr) (c1 : Nat) (b : Bool) (w0 w : World) (hI : IsS71 w0 w g l s c j (bar : Int) pass mark closed jump fn cd)
    (hB : Below w0.heap.size w0 w) (hb : bar < l.length) (hm : l.length ≤ 140737488351232) (hx : x.f2.length ≤ c1) (hX : Kd.C (Kd.int .i64) w0 A1 x.f2.length x.f2) (h : stO k l bar pass jump x = some b) :
    Calls Try.prog 48 #[.pointer (some ⟨g, 0, none⟩), .agg #[.bool x.f0, .int .i64 x.f1, .slice A1 x.f2.length c1, .bool x.f3, .bool x.f4, .bool x.f5, .bool x.f6, .int .i64 x.f7]] w fun e w' => e = .returned (.bool b) ∧ Below w.heap.size w w' := by
  have hu38 := Try.underlying38
  obtain ⟨o, ho⟩ : ∃ o : Obj, o = .cells #[.bool x.f0, .int .i64 x.f1, .slice A1 x.f2.length c1, .bool x.f3, .bool x.f4, .bool x.f5, .bool x.f6, .int .i64 x.f7] 38 := ⟨_, rfl⟩
  obtain ⟨A2, c2, hl2, hC2, hcall⟩ := last_any g l s c j bar pass mark closed jump fn cd w0 (w.alloc o) (hI.alloc o) (below_alloc hB o) hb hm
  have HL := Aside0.mk hcall
  have HX1 : ∀ n, Kd.C (Kd.int .i64) ((w.alloc o).drewN n) A1 x.f2.length x.f2 := fun n => Kd.C_below hX (pw_below_drewN (below_alloc hB o) n)
  have HX2 : ∀ n, Kd.C (Kd.int .i64) ((w.alloc o).drewN n) A2 (rd_T38 l (lastOf l bar : Int)).f2.length (rd_T38 l (lastOf l bar : Int)).f2 := fun n => Kd.C_below hC2 (pw_below_drewN (below_alloc hB o) n)
  have H1 := Aside0.mk HX1
  have H2 := Aside0.mk HX2
  have HN1 := Aside0.mk hx
  have HN2 := Aside0.mk hl2
  clear hcall HX1 HX2 hX hC2 hx hl2
  subst ho
  have HBB := Aside0.mk hB
  obtain ⟨A0, c0, HG, hg, HC⟩ := hI
  have e5 : w.cell? ⟨g, 5, none⟩ = some (.int .i64 pass) := (blk_cell HG 5).trans rfl
  have e8 : w.cell? ⟨g, 8, none⟩ = some (.int .i64 jump) := (blk_cell HG 8).trans rfl
  have hlt := lt_of_block HG
  clear HG hg HC hB
  unfold stO at h
  by_cases hn : x.f2.length = 0
  · rw [if_pos hn] at h
    obtain rfl := Option.some.inj h
    have hn1 : ((x.f2.length : Int) == 0) = true := beq_iff_eq.mpr (by omega)
    have hn2 : (x.f2.length == 0) = true := beq_iff_eq.mpr hn
    clear hn h HL H1 H2
    go_enter Try.func48, Try.ntmps48
    go_wp2
    go_ret
    exact ⟨rfl, below_alloc (Below.refl _ _) _⟩
  · rw [if_neg hn] at h
    have hn1 : ((x.f2.length : Int) == 0) = false := beq_eq_false_iff_ne.mpr (by omega)
    have hn2 : (x.f2.length == 0) = false := beq_eq_false_iff_ne.mpr hn
    clear hn
    by_cases hj : jump = 0
    · rw [if_pos hj] at h
      have HH := Aside0.mk h
      rw [hj] at e8
      clear h hj HL H2
      go_enter Try.func48, Try.ntmps48
      go_wp2
      go_quiet ((first | (go_at_call 54; exact quiet_d (slices_Contains_int_int.calls k A1 c1 x.f2 pass b _ (H1.out _) HN1.out HH.out))))
      go_wp2
      go_ret
      exact ⟨rfl, pw_below_drewN (below_alloc (Below.refl _ _) _) _⟩
    · rw [if_neg hj] at h
      have HH := Aside0.mk h
      have hj1 : (jump != 0) = true := bne_iff_ne.mpr hj
      clear h hj
      go_enter Try.func48, Try.ntmps48
      go_wp2
      go_quiet ((first | (go_at_call 53; exact Calls.quiet_of_same (HL.out _)) | (go_at_call 52; exact quiet_d (slices_Equal_int_int.calls k A1 c1 x.f2 A2 c2 _ b _ (H1.out _) HN1.out (H2.out _) HN2.out HH.out))))
      go_wp2
      go_ret
      exact ⟨rfl, pw_below_drewN (below_alloc (Below.refl _ _) _) _⟩
end Go.Proofs.Ytendmmagjjhfnaa.M
namespace Go.Proofs.Ytendmmagjjhfnaa.M
open Go.RowKit Go.Proofs.YtendmmagjjhfnaaW.PrintWords Go.Proofs.YtendmmagjjhfnaaW.PrintLast Go.Proofs.YtendmmagjjhfnaaW.PrintMore
set_option linter.unusedVariables false
set_option linter.unusedSimpArgs false
structure Wk where
  bar : Int
  pass : Int
  mark : Int
  closed : Bool
  jump : Int
  fn : Bool
  cd : Bool
def Wk.to (k : Wk) (b : Int) : Wk := { k with bar := b, mark := b, pass := 1, closed := false }
def isFine (g : Int) : Bool := decide (g = 2) || decide (g = 5)
def isCoda (g : Int) : Bool := decide (g = 3) || decide (g = 6)
def onW (s c : Int) (k : Wk) (x : S38) : Option Wk :=
  if (k.fn && x.f6) = true then none
  else if (k.cd && x.f5) = true then some ({ k with cd := false }.to c)
  else if k.jump = 0 ∧ k.pass < x.f1 then some { k with bar := k.mark, pass := k.pass + 1, closed := false }
  else if k.jump ≠ 0 ∨ x.f7 = 0 then some { k with closed := k.closed || decide (x.f1 > 0), bar := k.bar + 1 }
  else some ({ k with jump := x.f7, fn := isFine x.f7, cd := isCoda x.f7 }.to (if x.f7 ≥ 4 then s else 0))
abbrev IsWk (w0 W : World) (g : Nat) (l : List S38) (s c j : Int) (k : Wk) : Prop := IsS71 w0 W g l s c j k.bar k.pass k.mark k.closed k.jump k.fn k.cd
theorem fine_d (g : Int) (b : Bool) (w : World) (h : isFine g = b) : Calls Try.prog 26 #[.int .i64 g] w fun e w' => e = .returned (.bool b) ∧ Drawn0 w w' :=
  turns_fine.calls g b w (by
    unfold turns_fine.f
    rw [← h]
    unfold isFine
    by_cases h2 : g = 2
    · simp [h2]
    · simp [h2]; rfl)
theorem coda_d (g : Int) (b : Bool) (w : World) (h : isCoda g = b) : Calls Try.prog 29 #[.int .i64 g] w fun e w' => e = .returned (.bool b) ∧ Drawn0 w w' :=
  turns_coda.calls g b w (by
    unfold turns_coda.f
    rw [← h]
    unfold isCoda
    by_cases h2 : g = 3
    · simp [h2]
    · simp [h2]; rfl)
theorem to_any (g : Nat) (l : List (S38)) (s c j : Int) (k : Wk) (b : Int) (w0 w : World) (hI : IsWk w0 w g l s c j k) (hB : Below w0.heap.size w0 w) :
    Calls Try.prog 47 #[.pointer (some ⟨g, 0, none⟩), .int .i64 b] w fun e w' => e = .returned (.tuple #[]) ∧ IsWk w0 w' g l s c j (k.to b) ∧ Below w0.heap.size w0 w' ∧ KeepBut w w' g none :=
  turns_walker_to.calls g l s c j k.bar k.pass k.mark k.closed k.jump k.fn k.cd b s c j b 1 b false k.jump k.fn k.cd w0 w hI hB rfl
theorem seg_any (g : Int) (b : Bool) (w : World) (h : decide (g ≥ 4) = b) : Calls Try.prog 25 #[.int .i64 g] w fun e w' => e = .returned (.bool b) ∧ ∃ n, w' = w.drewN n :=
  (turns_segno.calls g b w (by unfold turns_segno.f; rw [h])).mono fun e w' ⟨h1, h2⟩ => ⟨h1, h2.out⟩
theorem keep_alloc (w : World) (o : Obj) (g : Nat) : KeepBut w (w.alloc o) g none := KeepBut.of_below (below_alloc (Below.refl _ _) o) g none
theorem keep_alloc' {w W : World} {g : Nat} {o : Obj} (h : KeepBut w W g none) : KeepBut w (W.alloc o) g none := h.trans (keep_alloc W o g) (.inl rfl)
theorem keep_drewN' {w W : World} {g n : Nat} (h : KeepBut w W g none) : KeepBut w (W.drewN n) g none := h
theorem keep_drew' {w W : World} {g : Nat} (h : KeepBut w W g none) : KeepBut w W.drew g none := h
theorem keep_set' {w W : World} {g i : Nat} {v : Value} (h : KeepBut w W g none) : KeepBut w (W.setCell ⟨g, i, none⟩ v) g none := h.set_ i v
theorem below_setg {w0 W : World} {g i : Nat} {v : Value} (h : Below w0.heap.size w0 W) (hg : w0.heap.size ≤ g) : Below w0.heap.size w0 (W.setCell ⟨g, i, none⟩ v) := h.setCell (p := ⟨g, i, none⟩) hg v
set_option maxHeartbeats 16000000 in
set_option maxRecDepth 100000 in
theorem on_any (g : Nat) (l : List (S38)) (s c j : Int) (k : Wk) (x : S38) (A1 : Option Addr) (c1 : Nat) (r : Option Wk) (w0 w : World) (hI : IsWk w0 w g l s c j k)
    (hB : Below w0.heap.size w0 w) (hb0 : 0 ≤ k.bar) (hb1 : k.bar ≤ 140737488351232) (hp0 : 0 ≤ k.pass) (hp1 : k.pass ≤ 140737488351232) (h : onW s c k x = r) :
    Calls Try.prog 49 #[.pointer (some ⟨g, 0, none⟩), .agg #[.bool x.f0, .int .i64 x.f1, .slice A1 x.f2.length c1, .bool x.f3, .bool x.f4, .bool x.f5, .bool x.f6, .int .i64 x.f7]] w fun e w' =>
      e = .returned (.bool r.isSome) ∧ IsWk w0 w' g l s c j (r.getD k) ∧ Below w0.heap.size w0 w' ∧ KeepBut w w' g none := by
  have hu38 := Try.underlying38
  have HI := Aside0.mk hI
  have HB := Aside0.mk hB
  have hg : w0.heap.size ≤ g := IsS71.ge hI
  have hlt : g < w.heap.size := IsS71.lt hI
  have hne : ¬ g = w.heap.size := by omega
  obtain ⟨A0, c0, HG, _, _⟩ := hI
  have e2 : w.cell? ⟨g, 2, none⟩ = some (.int .i64 c) := (blk_cell HG 2).trans rfl
  have e1 : w.cell? ⟨g, 1, none⟩ = some (.int .i64 s) := (blk_cell HG 1).trans rfl
  have e4 : w.cell? ⟨g, 4, none⟩ = some (.int .i64 k.bar) := (blk_cell HG 4).trans rfl
  have e5 : w.cell? ⟨g, 5, none⟩ = some (.int .i64 k.pass) := (blk_cell HG 5).trans rfl
  have e6 : w.cell? ⟨g, 6, none⟩ = some (.int .i64 k.mark) := (blk_cell HG 6).trans rfl
  have e7 : w.cell? ⟨g, 7, none⟩ = some (.bool k.closed) := (blk_cell HG 7).trans rfl
  have e8 : w.cell? ⟨g, 8, none⟩ = some (.int .i64 k.jump) := (blk_cell HG 8).trans rfl
  have e9 : w.cell? ⟨g, 9, none⟩ = some (.bool k.fn) := (blk_cell HG 9).trans rfl
  have e10 : w.cell? ⟨g, 10, none⟩ = some (.bool k.cd) := (blk_cell HG 10).trans rfl
  have f4 := blk_frozen HG 4
  have f5 := blk_frozen HG 5
  have f6 := blk_frozen HG 6
  have f7 := blk_frozen HG 7
  have f8 := blk_frozen HG 8
  have f9 := blk_frozen HG 9
  have f10 := blk_frozen HG 10
  clear HG hB
  obtain ⟨bar, pass, mark, closed, jump, fn, cd⟩ := k
  obtain ⟨x0, x1, x2, x3, x4, x5, x6, x7⟩ := x
  unfold onW at h
  dsimp only at *
  have HA : Aside0 (∀ o, IsWk w0 (w.alloc o) g l s c j ⟨bar, pass, mark, closed, jump, fn, cd⟩) := ⟨fun o => IsS71.alloc HI.out o⟩
  have HBA : Aside0 (∀ o, Below w0.heap.size w0 (w.alloc o)) := ⟨fun o => below_alloc HB.out o⟩
  have HKA : Aside0 (∀ o, KeepBut w (w.alloc o) g none) := ⟨fun o => KeepBut.of_below (below_alloc (Below.refl _ _) o) g none⟩
  have HLT := Aside0.mk hlt
  have HP : Aside0 (0 ≤ bar ∧ bar ≤ 140737488351232 ∧ 0 ≤ pass ∧ pass ≤ 140737488351232) := ⟨hb0, hb1, hp0, hp1⟩
  by_cases h1 : (fn && x6) = true
  · rw [if_pos h1] at h
    subst h
    obtain ⟨hfn, h6⟩ := Bool.and_eq_true_iff.mp h1
    clear h1
    subst hfn
    subst h6
    go_enter Try.func49, Try.ntmps49
    go_wp2
    go_ret
    exact ⟨rfl, HA.out _, HBA.out _, HKA.out _⟩
  rw [if_neg h1] at h
  have H1 : Aside0 ((fn && x6) = false) := ⟨by simpa using h1⟩
  clear h1
  by_cases h2 : (cd && x5) = true
  · rw [if_pos h2] at h
    subst h
    obtain ⟨hcd, h5⟩ := Bool.and_eq_true_iff.mp h2
    clear h2
    subst hcd
    subst h5
    have h1 := H1.out
    cases fn <;> cases x6
    case true.true => cases h1
    all_goals
      clear h1 H1
      go_enter Try.func49, Try.ntmps49
      go_wp2_with ((with_reducible refine (to_any g l s c j ⟨bar, pass, mark, closed, jump, _, false⟩ c w0 _ (IsS71.alloc (IsS71.set_10 HI.out false) _) (below_alloc (below_setg HB.out hg) _)).mono ?_); rintro e w2 ⟨rfl, hw, hb, hk⟩; have HW := Aside0.mk hw; have HB2 := Aside0.mk hb; have HK2 := Aside0.mk hk; clear hw hb hk)
      go_ret
      exact ⟨rfl, HW.out, HB2.out, (((KeepBut.refl w g none).set_ _ _).trans (keep_alloc _ _ g) (.inl rfl)).trans HK2.out (.inl rfl)⟩
  rw [if_neg h2] at h
  have H2 : Aside0 ((cd && x5) = false) := ⟨by simpa using h2⟩
  clear h2
  have hfx : (fn = false) ∨ (fn = true ∧ x6 = false) := by have := H1.out; cases fn <;> simp_all
  have hcx : (cd = false) ∨ (cd = true ∧ x5 = false) := by have := H2.out; cases cd <;> simp_all
  have HFX := Aside0.mk hfx
  have HCX := Aside0.mk hcx
  have hbw : bar + 1 ≤ 140737488351233 := by omega
  have hpw : pass + 1 ≤ 140737488351233 := by omega
  clear H1 H2 hfx hcx
  go_enter Try.func49, Try.ntmps49
  go_upto_region 2 with (fail)
  obtain ⟨W1, hW1⟩ : ∃ W1, w.alloc (.cells #[.bool x0, .int .i64 x1, .slice A1 x2.length c1, .bool x3, .bool x4, .bool x5, .bool x6, .int .i64 x7] 38) = W1 := ⟨_, rfl⟩
  rw [hW1]
  have HI1 : Aside0 (IsS71 w0 W1 g l s c j bar pass mark closed jump fn cd) := ⟨by rw [← hW1]; exact IsS71.alloc HI.out _⟩
  have HB1 : Aside0 (Below w0.heap.size w0 W1) := ⟨by rw [← hW1]; exact below_alloc HB.out _⟩
  have HK1 : Aside0 (KeepBut w W1 g none) := ⟨by rw [← hW1]; exact keep_alloc' (KeepBut.refl _ _ _)⟩
  have HT : Aside0 (W1.heap[w.heap.size]? = some (.cells #[.bool x0, .int .i64 x1, .slice A1 x2.length c1, .bool x3, .bool x4, .bool x5, .bool x6, .int .i64 x7] 38 (0, 0))) := ⟨by rw [← hW1]; exact heap_alloc_new w _⟩
  obtain ⟨B, hBw⟩ : ∃ B, w.heap.size = B := ⟨_, rfl⟩
  rw [hBw] at HT ⊢ hne
  clear hW1 e1 e2 e4 e5 e6 e7 e8 e9 e10 f4 f5 f6 f7 f8 f9 f10 hBw hlt
  obtain ⟨A0', c0', HG1, _, _⟩ := HI1.out
  have e1 : W1.cell? ⟨g, 1, none⟩ = some (.int .i64 s) := (blk_cell HG1 1).trans rfl
  have e2 : W1.cell? ⟨g, 2, none⟩ = some (.int .i64 c) := (blk_cell HG1 2).trans rfl
  have e4 : W1.cell? ⟨g, 4, none⟩ = some (.int .i64 bar) := (blk_cell HG1 4).trans rfl
  have e5 : W1.cell? ⟨g, 5, none⟩ = some (.int .i64 pass) := (blk_cell HG1 5).trans rfl
  have e6 : W1.cell? ⟨g, 6, none⟩ = some (.int .i64 mark) := (blk_cell HG1 6).trans rfl
  have e7 : W1.cell? ⟨g, 7, none⟩ = some (.bool closed) := (blk_cell HG1 7).trans rfl
  have e8 : W1.cell? ⟨g, 8, none⟩ = some (.int .i64 jump) := (blk_cell HG1 8).trans rfl
  have e9 : W1.cell? ⟨g, 9, none⟩ = some (.bool fn) := (blk_cell HG1 9).trans rfl
  have e10 : W1.cell? ⟨g, 10, none⟩ = some (.bool cd) := (blk_cell HG1 10).trans rfl
  have f4 := blk_frozen HG1 4
  have f5 := blk_frozen HG1 5
  have f6 := blk_frozen HG1 6
  have f7 := blk_frozen HG1 7
  have f8 := blk_frozen HG1 8
  have f9 := blk_frozen HG1 9
  have f10 := blk_frozen HG1 10
  clear HG1
  have t1 : W1.cell? ⟨B, 1, none⟩ = some (.int .i64 x1) := (blk_cell HT.out 1).trans rfl
  have t5 : W1.cell? ⟨B, 5, none⟩ = some (.bool x5) := (blk_cell HT.out 5).trans rfl
  have t6 : W1.cell? ⟨B, 6, none⟩ = some (.bool x6) := (blk_cell HT.out 6).trans rfl
  have t7 : W1.cell? ⟨B, 7, none⟩ = some (.int .i64 x7) := (blk_cell HT.out 7).trans rfl
  go_cut [11] (fun v11 wc => v11 = .bool false ∧ W1 = wc)
  case first =>
    rcases HFX.out with rfl | ⟨rfl, rfl⟩
    all_goals
      go_wp2
      go_meet
      case rel => exact ⟨rfl, rfl⟩
  case rest =>
  clear HFX
  obtain ⟨rfl, rfl⟩ := hcut
  go_upto_region 4 with (fail)
  go_cut [20] (fun v20 wc => v20 = .bool false ∧ W1 = wc)
  case first =>
    rcases HCX.out with rfl | ⟨rfl, rfl⟩
    all_goals
      go_wp2
      go_meet
      case rel => exact ⟨rfl, rfl⟩
  case rest =>
  clear HCX
  obtain ⟨rfl, rfl⟩ := hcut
  by_cases h3 : jump = 0 ∧ pass < x1
  · rw [if_pos h3] at h
    subst h
    obtain ⟨hj, hp⟩ := h3
    subst hj
    have hpb : decide (pass < x1) = true := decide_eq_true hp
    clear hp
    go_wp2
    go_quiet (fail)
    go_wp2
    go_region
    go_wp2
    go_ret
    refine ⟨rfl, ?_, ?_, ?_⟩
    · show IsS71 _ _ _ _ _ _ _ _ _ _ _ _ _ _
      simp only [Option.getD_some, Bool.false_or, Bool.true_or, gt_iff_lt]
      repeat (with_reducible first | exact HI1.out | apply IsS71.alloc | apply IsS71.drewN | apply IsS71.drew | apply IsS71.set_4 | apply IsS71.set_5 | apply IsS71.set_6 | apply IsS71.set_7 | apply IsS71.set_8 | apply IsS71.set_9 | apply IsS71.set_10)
    · repeat (with_reducible first | exact HB1.out | apply below_alloc | apply pw_below_drewN | apply below_drew1 | (refine below_setg ?_ hg))
    · repeat (with_reducible first | exact HK1.out | apply keep_alloc' | apply keep_drewN' | apply keep_drew' | apply keep_set')
  rw [if_neg h3] at h
  by_cases hj : jump = 0
  · have hpb : decide (pass < x1) = false := decide_eq_false (fun hp => h3 ⟨hj, hp⟩)
    subst hj
    clear h3
    by_cases h7 : x7 = 0
    · rw [if_pos (.inr h7)] at h
      subst h
      subst h7
      cases closed
      all_goals
        go_wp2
        go_quiet (fail)
        go_wp2
        go_ret
        refine ⟨rfl, ?_, ?_, ?_⟩
        · show IsS71 _ _ _ _ _ _ _ _ _ _ _ _ _ _
          simp only [Option.getD_some, Bool.false_or, Bool.true_or, gt_iff_lt]
          repeat (with_reducible first | exact HI1.out | apply IsS71.alloc | apply IsS71.drewN | apply IsS71.drew | apply IsS71.set_4 | apply IsS71.set_5 | apply IsS71.set_6 | apply IsS71.set_7 | apply IsS71.set_8 | apply IsS71.set_9 | apply IsS71.set_10)
        · repeat (with_reducible first | exact HB1.out | apply below_alloc | apply pw_below_drewN | apply below_drew1 | (refine below_setg ?_ hg))
        · repeat (with_reducible first | exact HK1.out | apply keep_alloc' | apply keep_drewN' | apply keep_drew' | apply keep_set')
    · rw [if_neg (by intro h; rcases h with h | h; exact h rfl; exact h7 h)] at h
      have h7b : (x7 == 0) = false := beq_eq_false_iff_ne.mpr h7
      obtain ⟨fb, hfb⟩ : ∃ fb, isFine x7 = fb := ⟨_, rfl⟩
      obtain ⟨cb, hcb⟩ : ∃ cb, isCoda x7 = cb := ⟨_, rfl⟩
      rw [hfb, hcb] at h
      subst h
      have HFB := Aside0.mk hfb
      have HCB := Aside0.mk hcb
      clear h7 hfb hcb
      cases closed
      case false =>
        go_wp2
        go_quiet (fail)
        go_wp2
        obtain ⟨W2, hW2⟩ : ∃ W2, (W1.drewN nq).setCell ⟨g, 7, none⟩ (.bool (decide (0 < x1))) = W2 := ⟨_, rfl⟩
        rw [hW2]
        have HI2 : Aside0 (IsS71 w0 W2 g l s c j bar pass mark (decide (0 < x1)) 0 fn cd) := ⟨by rw [← hW2]; exact IsS71.set_7 (IsS71.drewN HI1.out _) _⟩
        have HB2 : Aside0 (Below w0.heap.size w0 W2) := ⟨by rw [← hW2]; exact below_setg (pw_below_drewN HB1.out _) hg⟩
        have HK2 : Aside0 (KeepBut w W2 g none) := ⟨by rw [← hW2]; exact keep_set' (keep_drewN' HK1.out)⟩
        have HT2 : Aside0 (W2.heap[B]? = some (.cells #[.bool x0, .int .i64 x1, .slice A1 x2.length c1, .bool x3, .bool x4, .bool x5, .bool x6, .int .i64 x7] 38 (0, 0))) := ⟨by rw [← hW2]; exact (Below.heap_setCell _ _ _ _ (Ne.symm hne)).trans HT.out⟩
        clear hW2 e1 e2 e4 e5 e6 e7 e8 e9 e10 f4 f5 f6 f7 f8 f9 f10 t1 t5 t6 t7
        obtain ⟨A0', c0', HG2, _, _⟩ := HI2.out
        have e1 : W2.cell? ⟨g, 1, none⟩ = some (.int .i64 s) := (blk_cell HG2 1).trans rfl
        have e8 : W2.cell? ⟨g, 8, none⟩ = some (.int .i64 0) := (blk_cell HG2 8).trans rfl
        have e9 : W2.cell? ⟨g, 9, none⟩ = some (.bool fn) := (blk_cell HG2 9).trans rfl
        have e10 : W2.cell? ⟨g, 10, none⟩ = some (.bool cd) := (blk_cell HG2 10).trans rfl
        have f8 := blk_frozen HG2 8
        have f9 := blk_frozen HG2 9
        have f10 := blk_frozen HG2 10
        clear HG2
        have H7 : Aside0 (W2.cell? ⟨B, 7, none⟩ = some (.int .i64 x7)) := ⟨(blk_cell HT2.out 7).trans rfl⟩
        refine start_ (n := 20) (S := fun w' => w'.cell? ⟨B, 7, none⟩ = some (.int .i64 x7) ∧ (∃ n, w' = W2.drewN n)) (ds := [13, 16, 19]) #[false, false, false, false, false, false, false, false, false, false, false, false, false, false, false, false, false, false, false, false] (by kernel_rfl) rfl rfl ⟨H7.out, ⟨1, rfl⟩⟩ (fun hHeld => ?_)
        refine pure_ (i := 0) (N := some 94) (v := ?_) (a' := ?_) #[true, false, false, false, false, false, false, false, false, false, false, false, false, false, false, false, false, false, false, false] rfl rfl (by kernel_rfl) (fun _ _ _ h => h) (Or.inl ⟨by rfl, ?_⟩) ?_ ?_
        rotate_left
        · intro w'
          go_simp
          with_reducible rfl
        rotate_left
        · simp only [Act.put, List.setIfInBounds_toArray, List.set_cons_zero, List.set_cons_succ, i64_w, i32_w]
          rfl
        refine pure_ (i := 1) (N := some 95) (v := ?_) (a' := ?_) #[true, true, false, false, false, false, false, false, false, false, false, false, false, false, false, false, false, false, false, false] rfl rfl (by kernel_rfl) (fun _ _ _ h => h) (Or.inl ⟨by rfl, ?_⟩) ?_ ?_
        rotate_left
        · intro w'
          go_simp
          with_reducible rfl
        rotate_left
        · simp only [Act.put, List.setIfInBounds_toArray, List.set_cons_zero, List.set_cons_succ, i64_w, i32_w]
          rfl
        refine pure_ (i := 2) (N := some 96) (v := ?_) (a' := ?_) #[true, true, true, false, false, false, false, false, false, false, false, false, false, false, false, false, false, false, false, false] rfl rfl (by kernel_rfl) (fun _ _ _ h => h) (Or.inl ⟨by rfl, ?_⟩) ?_ ?_
        rotate_left
        · intro w'
          go_simp
          with_reducible rfl
        rotate_left
        · simp only [Act.put, List.setIfInBounds_toArray, List.set_cons_zero, List.set_cons_succ, i64_w, i32_w]
          rfl
        refine pure_ (i := 3) (N := some 97) (v := ?_) (a' := ?_) #[true, true, true, true, false, false, false, false, false, false, false, false, false, false, false, false, false, false, false, false] rfl rfl (by kernel_rfl) (fun _ _ _ h => h) (Or.inl ⟨by rfl, ?_⟩) ?_ ?_
        rotate_left
        · intro w'
          go_simp
          with_reducible rfl
        rotate_left
        · simp only [Act.put, List.setIfInBounds_toArray, List.set_cons_zero, List.set_cons_succ, i64_w, i32_w]
          rfl
        refine pure_ (i := 5) (N := some 99) (v := ?_) (a' := ?_) #[true, true, true, true, false, true, false, false, false, false, false, false, false, false, false, false, false, false, false, false] rfl rfl (by kernel_rfl) (fun _ _ _ h => h) (Or.inl ⟨by rfl, ?_⟩) ?_ ?_
        rotate_left
        · intro w'
          go_simp
          with_reducible rfl
        rotate_left
        · simp only [Act.put, List.setIfInBounds_toArray, List.set_cons_zero, List.set_cons_succ, i64_w, i32_w]
          rfl
        refine pure_ (i := 8) (N := some 102) (v := ?_) (a' := ?_) #[true, true, true, true, false, true, false, false, true, false, false, false, false, false, false, false, false, false, false, false] rfl rfl (by kernel_rfl) (fun _ _ _ h => h) (Or.inl ⟨by rfl, ?_⟩) ?_ ?_
        rotate_left
        · intro w'
          go_simp
          with_reducible rfl
        rotate_left
        · simp only [Act.put, List.setIfInBounds_toArray, List.set_cons_zero, List.set_cons_succ, i64_w, i32_w]
          rfl
        refine take_ (i := 4) (N := some 98) (v := ?_) (a' := ?_) #[true, true, true, true, true, true, false, false, true, false, false, false, false, false, false, false, false, false, false, false] rfl rfl (by kernel_rfl) (fun _ _ _ h => h) (Or.inl ⟨by rfl, ?_⟩) hHeld ?_ ?_
        rotate_left
        · rintro w' ⟨s0, s1⟩
          go_simp
          with_reducible rfl
        rotate_left
        · simp only [Act.put, List.setIfInBounds_toArray, List.set_cons_zero, List.set_cons_succ, i64_w, i32_w]
          rfl
        refine take_ (i := 6) (N := some 100) (v := ?_) (a' := ?_) #[true, true, true, true, true, true, true, false, true, false, false, false, false, false, false, false, false, false, false, false] rfl rfl (by kernel_rfl) (fun _ _ _ h => h) (Or.inl ⟨by rfl, ?_⟩) hHeld ?_ ?_
        rotate_left
        · rintro w' ⟨s0, s1⟩
          go_simp
          with_reducible rfl
        rotate_left
        · simp only [Act.put, List.setIfInBounds_toArray, List.set_cons_zero, List.set_cons_succ, i64_w, i32_w]
          rfl
        refine take_ (i := 9) (N := some 103) (v := ?_) (a' := ?_) #[true, true, true, true, true, true, true, false, true, true, false, false, false, false, false, false, false, false, false, false] rfl rfl (by kernel_rfl) (fun _ _ _ h => h) (Or.inl ⟨by rfl, ?_⟩) hHeld ?_ ?_
        rotate_left
        · rintro w' ⟨s0, s1⟩
          go_simp
          with_reducible rfl
        rotate_left
        · simp only [Act.put, List.setIfInBounds_toArray, List.set_cons_zero, List.set_cons_succ, i64_w, i32_w]
          rfl
        refine one_ (i := 7) (N := some 101) #[true, true, true, true, true, true, true, true, true, true, false, false, false, false, false, false, false, false, false, false] rfl rfl (by kernel_rfl) (by decide) (fun K hK => ?_)
        obtain ⟨nq, hq⟩ := hHeld.2
        refine goes_ Try.func26 (by kernel_rfl) rfl #[.int .i64 x7] (by rfl) rfl rfl qqI ?_
        with_reducible refine (fine_d x7 fb _ HFB.out).mono ?_
        rintro e w3 ⟨rfl, ⟨⟨nd, rfl⟩⟩⟩
        refine ⟨_, rfl, ?_⟩
        refine hK.out _ _ ⟨hHeld.1, ⟨nq + nd, by rw [hq, World.drewN_drewN]⟩⟩ (fun hHeld => ?_)
        clear hK K
        refine norm_ (a' := ?_) ?_ ?_
        rotate_left
        · show Act.put _ (some 101) _ = _
          simp only [Act.put, List.setIfInBounds_toArray, List.set_cons_zero, List.set_cons_succ, i64_w, i32_w]
          rfl
        refine one_ (i := 10) (N := some 104) #[true, true, true, true, true, true, true, true, true, true, true, false, false, false, false, false, false, false, false, false] rfl rfl (by kernel_rfl) (by decide) (fun K hK => ?_)
        obtain ⟨nq, hq⟩ := hHeld.2
        refine goes_ Try.func29 (by kernel_rfl) rfl #[.int .i64 x7] (by rfl) rfl rfl qqI ?_
        with_reducible refine (coda_d x7 cb _ HCB.out).mono ?_
        rintro e w3 ⟨rfl, ⟨⟨nd, rfl⟩⟩⟩
        refine ⟨_, rfl, ?_⟩
        refine hK.out _ _ ⟨hHeld.1, ⟨nq + nd, by rw [hq, World.drewN_drewN]⟩⟩ (fun hHeld => ?_)
        clear hK K
        refine norm_ (a' := ?_) ?_ ?_
        rotate_left
        · show Act.put _ (some 104) _ = _
          simp only [Act.put, List.setIfInBounds_toArray, List.set_cons_zero, List.set_cons_succ, i64_w, i32_w]
          rfl
        refine pure_ (i := 11) (N := some 105) (v := ?_) (a' := ?_) #[true, true, true, true, true, true, true, true, true, true, true, true, false, false, false, false, false, false, false, false] rfl rfl (by kernel_rfl) (fun _ _ _ h => h) (Or.inl ⟨by rfl, ?_⟩) ?_ ?_
        rotate_left
        · intro w'
          go_simp
          with_reducible rfl
        rotate_left
        · simp only [Act.put, List.setIfInBounds_toArray, List.set_cons_zero, List.set_cons_succ, i64_w, i32_w]
          rfl
        refine pure_ (i := 12) (N := some 106) (v := ?_) (a' := ?_) #[true, true, true, true, true, true, true, true, true, true, true, true, true, false, false, false, false, false, false, false] rfl rfl (by kernel_rfl) (fun _ _ _ h => h) (Or.inl ⟨by rfl, ?_⟩) ?_ ?_
        rotate_left
        · intro w'
          go_simp
          with_reducible rfl
        rotate_left
        · simp only [Act.put, List.setIfInBounds_toArray, List.set_cons_zero, List.set_cons_succ, i64_w, i32_w]
          rfl
        refine last_ (i := 13) (N := none) #[true, true, true, true, true, true, true, true, true, true, true, true, true, true, false, false, false, false, false, false] rfl rfl (by kernel_rfl) (by decide) (fun K hK => ?_)
        refine skip_ (w1 := ?_) (by rfl) rfl ?_ ?_
        rotate_left
        · go_simp
          rfl
        refine hK.out _ _ ?_
        clear hK K
        refine pure_ (i := 14) (N := some 107) (v := ?_) (a' := ?_) #[true, true, true, true, true, true, true, true, true, true, true, true, true, true, true, false, false, false, false, false] rfl rfl (by kernel_rfl) (fun _ _ _ h => h) (Or.inl ⟨by rfl, ?_⟩) ?_ ?_
        rotate_left
        · intro w'
          go_simp
          with_reducible rfl
        rotate_left
        · simp only [Act.put, List.setIfInBounds_toArray, List.set_cons_zero, List.set_cons_succ, i64_w, i32_w]
          rfl
        refine pure_ (i := 15) (N := some 108) (v := ?_) (a' := ?_) #[true, true, true, true, true, true, true, true, true, true, true, true, true, true, true, true, false, false, false, false] rfl rfl (by kernel_rfl) (fun _ _ _ h => h) (Or.inl ⟨by rfl, ?_⟩) ?_ ?_
        rotate_left
        · intro w'
          go_simp
          with_reducible rfl
        rotate_left
        · simp only [Act.put, List.setIfInBounds_toArray, List.set_cons_zero, List.set_cons_succ, i64_w, i32_w]
          rfl
        refine last_ (i := 16) (N := none) #[true, true, true, true, true, true, true, true, true, true, true, true, true, true, true, true, true, false, false, false] rfl rfl (by kernel_rfl) (by decide) (fun K hK => ?_)
        refine skip_ (w1 := ?_) (by rfl) rfl ?_ ?_
        rotate_left
        · go_simp
          rfl
        refine hK.out _ _ ?_
        clear hK K
        refine pure_ (i := 17) (N := some 109) (v := ?_) (a' := ?_) #[true, true, true, true, true, true, true, true, true, true, true, true, true, true, true, true, true, true, false, false] rfl rfl (by kernel_rfl) (fun _ _ _ h => h) (Or.inl ⟨by rfl, ?_⟩) ?_ ?_
        rotate_left
        · intro w'
          go_simp
          with_reducible rfl
        rotate_left
        · simp only [Act.put, List.setIfInBounds_toArray, List.set_cons_zero, List.set_cons_succ, i64_w, i32_w]
          rfl
        refine pure_ (i := 18) (N := some 110) (v := ?_) (a' := ?_) #[true, true, true, true, true, true, true, true, true, true, true, true, true, true, true, true, true, true, true, false] rfl rfl (by kernel_rfl) (fun _ _ _ h => h) (Or.inl ⟨by rfl, ?_⟩) ?_ ?_
        rotate_left
        · intro w'
          go_simp
          with_reducible rfl
        rotate_left
        · simp only [Act.put, List.setIfInBounds_toArray, List.set_cons_zero, List.set_cons_succ, i64_w, i32_w]
          rfl
        refine last_ (i := 19) (N := none) #[true, true, true, true, true, true, true, true, true, true, true, true, true, true, true, true, true, true, true, true] rfl rfl (by kernel_rfl) (by decide) (fun K hK => ?_)
        refine skip_ (w1 := ?_) (by rfl) rfl ?_ ?_
        rotate_left
        · go_simp
          rfl
        refine hK.out _ _ ?_
        clear hK K
        refine done_ (by kernel_rfl) ?_
        have HI3 : Aside0 (∀ n, IsS71 w0 ((((W2.drewN n).setCell ⟨g, 8, none⟩ (.int .i64 x7)).setCell ⟨g, 9, none⟩ (.bool fb)).setCell ⟨g, 10, none⟩ (.bool cb)) g l s c j bar pass mark (decide (0 < x1)) x7 fb cb) := ⟨fun n => IsS71.set_10 (IsS71.set_9 (IsS71.set_8 (IsS71.drewN HI2.out n) _) _) _⟩
        have HB3 : Aside0 (∀ n, Below w0.heap.size w0 ((((W2.drewN n).setCell ⟨g, 8, none⟩ (.int .i64 x7)).setCell ⟨g, 9, none⟩ (.bool fb)).setCell ⟨g, 10, none⟩ (.bool cb))) := ⟨fun n => below_setg (below_setg (below_setg (pw_below_drewN HB2.out n) hg) hg) hg⟩
        have HT3 : Aside0 (∀ n, ((((W2.drewN n).setCell ⟨g, 8, none⟩ (.int .i64 x7)).setCell ⟨g, 9, none⟩ (.bool fb)).setCell ⟨g, 10, none⟩ (.bool cb)).heap[B]? = some (.cells #[.bool x0, .int .i64 x1, .slice A1 x2.length c1, .bool x3, .bool x4, .bool x5, .bool x6, .int .i64 x7] 38 (0, 0))) := ⟨fun n => (Below.heap_setCell _ _ _ _ (Ne.symm hne)).trans ((Below.heap_setCell _ _ _ _ (Ne.symm hne)).trans ((Below.heap_setCell _ _ _ _ (Ne.symm hne)).trans HT2.out))⟩
        clear e1 e8 e9 e10 f8 f9 f10 H7
        obtain ⟨sgb, hsgb⟩ : ∃ sgb, decide (x7 ≥ 4) = sgb := ⟨_, rfl⟩
        have HSG := Aside0.mk hsgb
        clear hsgb
        go_wp2_with ((with_reducible refine (to_any g l s c j ⟨bar, pass, mark, (decide (0 < x1)), x7, fb, cb⟩ 0 w0 _ (HI3.out _) (HB3.out _)).mono ?_); rintro e w4 ⟨rfl, hw, hb, hk⟩; have HW4 := Aside0.mk hw; have HB4 := Aside0.mk hb; have HK4 := Aside0.mk hk; clear hw hb hk; have t7 : w4.cell? ⟨B, 7, none⟩ = some (.int .i64 x7) := (blk_cell ((HK4.out.2 _ (lt_of_block (HT3.out _)) (Ne.symm hne) (by simp)).trans (HT3.out _)) 7).trans rfl)
        cases sgb with
        | true =>
          have hs4 : x7 ≥ 4 := of_decide_eq_true HSG.out
          obtain ⟨A0', c0', HG4, _, _⟩ := HW4.out
          have e1 : w4.cell? ⟨g, 1, none⟩ = some (.int .i64 s) := (blk_cell HG4 1).trans rfl
          clear HG4
          go_wp2_with ((with_reducible refine (seg_any x7 true _ HSG.out).mono ?_); rintro e w5 ⟨rfl, n5, rfl⟩)
          go_wp2_with ((with_reducible refine (to_any g l s c j (Wk.to ⟨bar, pass, mark, (decide (0 < x1)), x7, fb, cb⟩ 0) s w0 _ (IsS71.drewN HW4.out _) (pw_below_drewN HB4.out _)).mono ?_); rintro e w6 ⟨rfl, hw, hb, hk⟩; have HW6 := Aside0.mk hw; have HB6 := Aside0.mk hb; have HK6 := Aside0.mk hk; clear hw hb hk)
          go_ret
          refine ⟨rfl, ?_, HB6.out, ?_⟩
          · exact HW6.out
          · exact (((keep_set' (keep_set' (keep_set' (keep_drewN' HK2.out)))).trans HK4.out (.inl rfl))).trans (show KeepBut w4 w6 g none from HK6.out) (.inl rfl)
        | false =>
          have hs4 : ¬ x7 ≥ 4 := of_decide_eq_false HSG.out
          go_wp2_with ((with_reducible refine (seg_any x7 false _ HSG.out).mono ?_); rintro e w5 ⟨rfl, n5, rfl⟩)
          go_ret
          refine ⟨rfl, ?_, pw_below_drewN HB4.out _, ?_⟩
          · exact IsS71.drewN HW4.out _
          · exact keep_drewN' ((keep_set' (keep_set' (keep_set' (keep_drewN' HK2.out)))).trans HK4.out (.inl rfl))
      case true =>
        go_wp2
        go_quiet (fail)
        go_wp2
        obtain ⟨W2, hW2⟩ : ∃ W2, (W1.drewN nq).setCell ⟨g, 7, none⟩ (.bool true) = W2 := ⟨_, rfl⟩
        rw [hW2]
        have HI2 : Aside0 (IsS71 w0 W2 g l s c j bar pass mark true 0 fn cd) := ⟨by rw [← hW2]; exact IsS71.set_7 (IsS71.drewN HI1.out _) _⟩
        have HB2 : Aside0 (Below w0.heap.size w0 W2) := ⟨by rw [← hW2]; exact below_setg (pw_below_drewN HB1.out _) hg⟩
        have HK2 : Aside0 (KeepBut w W2 g none) := ⟨by rw [← hW2]; exact keep_set' (keep_drewN' HK1.out)⟩
        have HT2 : Aside0 (W2.heap[B]? = some (.cells #[.bool x0, .int .i64 x1, .slice A1 x2.length c1, .bool x3, .bool x4, .bool x5, .bool x6, .int .i64 x7] 38 (0, 0))) := ⟨by rw [← hW2]; exact (Below.heap_setCell _ _ _ _ (Ne.symm hne)).trans HT.out⟩
        clear hW2 e1 e2 e4 e5 e6 e7 e8 e9 e10 f4 f5 f6 f7 f8 f9 f10 t1 t5 t6 t7
        obtain ⟨A0', c0', HG2, _, _⟩ := HI2.out
        have e1 : W2.cell? ⟨g, 1, none⟩ = some (.int .i64 s) := (blk_cell HG2 1).trans rfl
        have e8 : W2.cell? ⟨g, 8, none⟩ = some (.int .i64 0) := (blk_cell HG2 8).trans rfl
        have e9 : W2.cell? ⟨g, 9, none⟩ = some (.bool fn) := (blk_cell HG2 9).trans rfl
        have e10 : W2.cell? ⟨g, 10, none⟩ = some (.bool cd) := (blk_cell HG2 10).trans rfl
        have f8 := blk_frozen HG2 8
        have f9 := blk_frozen HG2 9
        have f10 := blk_frozen HG2 10
        clear HG2
        have H7 : Aside0 (W2.cell? ⟨B, 7, none⟩ = some (.int .i64 x7)) := ⟨(blk_cell HT2.out 7).trans rfl⟩
        refine start_ (n := 20) (S := fun w' => w'.cell? ⟨B, 7, none⟩ = some (.int .i64 x7) ∧ (∃ n, w' = W2.drewN n)) (ds := [13, 16, 19]) #[false, false, false, false, false, false, false, false, false, false, false, false, false, false, false, false, false, false, false, false] (by kernel_rfl) rfl rfl ⟨H7.out, ⟨1, rfl⟩⟩ (fun hHeld => ?_)
        refine pure_ (i := 0) (N := some 94) (v := ?_) (a' := ?_) #[true, false, false, false, false, false, false, false, false, false, false, false, false, false, false, false, false, false, false, false] rfl rfl (by kernel_rfl) (fun _ _ _ h => h) (Or.inl ⟨by rfl, ?_⟩) ?_ ?_
        rotate_left
        · intro w'
          go_simp
          with_reducible rfl
        rotate_left
        · simp only [Act.put, List.setIfInBounds_toArray, List.set_cons_zero, List.set_cons_succ, i64_w, i32_w]
          rfl
        refine pure_ (i := 1) (N := some 95) (v := ?_) (a' := ?_) #[true, true, false, false, false, false, false, false, false, false, false, false, false, false, false, false, false, false, false, false] rfl rfl (by kernel_rfl) (fun _ _ _ h => h) (Or.inl ⟨by rfl, ?_⟩) ?_ ?_
        rotate_left
        · intro w'
          go_simp
          with_reducible rfl
        rotate_left
        · simp only [Act.put, List.setIfInBounds_toArray, List.set_cons_zero, List.set_cons_succ, i64_w, i32_w]
          rfl
        refine pure_ (i := 2) (N := some 96) (v := ?_) (a' := ?_) #[true, true, true, false, false, false, false, false, false, false, false, false, false, false, false, false, false, false, false, false] rfl rfl (by kernel_rfl) (fun _ _ _ h => h) (Or.inl ⟨by rfl, ?_⟩) ?_ ?_
        rotate_left
        · intro w'
          go_simp
          with_reducible rfl
        rotate_left
        · simp only [Act.put, List.setIfInBounds_toArray, List.set_cons_zero, List.set_cons_succ, i64_w, i32_w]
          rfl
        refine pure_ (i := 3) (N := some 97) (v := ?_) (a' := ?_) #[true, true, true, true, false, false, false, false, false, false, false, false, false, false, false, false, false, false, false, false] rfl rfl (by kernel_rfl) (fun _ _ _ h => h) (Or.inl ⟨by rfl, ?_⟩) ?_ ?_
        rotate_left
        · intro w'
          go_simp
          with_reducible rfl
        rotate_left
        · simp only [Act.put, List.setIfInBounds_toArray, List.set_cons_zero, List.set_cons_succ, i64_w, i32_w]
          rfl
        refine pure_ (i := 5) (N := some 99) (v := ?_) (a' := ?_) #[true, true, true, true, false, true, false, false, false, false, false, false, false, false, false, false, false, false, false, false] rfl rfl (by kernel_rfl) (fun _ _ _ h => h) (Or.inl ⟨by rfl, ?_⟩) ?_ ?_
        rotate_left
        · intro w'
          go_simp
          with_reducible rfl
        rotate_left
        · simp only [Act.put, List.setIfInBounds_toArray, List.set_cons_zero, List.set_cons_succ, i64_w, i32_w]
          rfl
        refine pure_ (i := 8) (N := some 102) (v := ?_) (a' := ?_) #[true, true, true, true, false, true, false, false, true, false, false, false, false, false, false, false, false, false, false, false] rfl rfl (by kernel_rfl) (fun _ _ _ h => h) (Or.inl ⟨by rfl, ?_⟩) ?_ ?_
        rotate_left
        · intro w'
          go_simp
          with_reducible rfl
        rotate_left
        · simp only [Act.put, List.setIfInBounds_toArray, List.set_cons_zero, List.set_cons_succ, i64_w, i32_w]
          rfl
        refine take_ (i := 4) (N := some 98) (v := ?_) (a' := ?_) #[true, true, true, true, true, true, false, false, true, false, false, false, false, false, false, false, false, false, false, false] rfl rfl (by kernel_rfl) (fun _ _ _ h => h) (Or.inl ⟨by rfl, ?_⟩) hHeld ?_ ?_
        rotate_left
        · rintro w' ⟨s0, s1⟩
          go_simp
          with_reducible rfl
        rotate_left
        · simp only [Act.put, List.setIfInBounds_toArray, List.set_cons_zero, List.set_cons_succ, i64_w, i32_w]
          rfl
        refine take_ (i := 6) (N := some 100) (v := ?_) (a' := ?_) #[true, true, true, true, true, true, true, false, true, false, false, false, false, false, false, false, false, false, false, false] rfl rfl (by kernel_rfl) (fun _ _ _ h => h) (Or.inl ⟨by rfl, ?_⟩) hHeld ?_ ?_
        rotate_left
        · rintro w' ⟨s0, s1⟩
          go_simp
          with_reducible rfl
        rotate_left
        · simp only [Act.put, List.setIfInBounds_toArray, List.set_cons_zero, List.set_cons_succ, i64_w, i32_w]
          rfl
        refine take_ (i := 9) (N := some 103) (v := ?_) (a' := ?_) #[true, true, true, true, true, true, true, false, true, true, false, false, false, false, false, false, false, false, false, false] rfl rfl (by kernel_rfl) (fun _ _ _ h => h) (Or.inl ⟨by rfl, ?_⟩) hHeld ?_ ?_
        rotate_left
        · rintro w' ⟨s0, s1⟩
          go_simp
          with_reducible rfl
        rotate_left
        · simp only [Act.put, List.setIfInBounds_toArray, List.set_cons_zero, List.set_cons_succ, i64_w, i32_w]
          rfl
        refine one_ (i := 7) (N := some 101) #[true, true, true, true, true, true, true, true, true, true, false, false, false, false, false, false, false, false, false, false] rfl rfl (by kernel_rfl) (by decide) (fun K hK => ?_)
        obtain ⟨nq, hq⟩ := hHeld.2
        refine goes_ Try.func26 (by kernel_rfl) rfl #[.int .i64 x7] (by rfl) rfl rfl qqI ?_
        with_reducible refine (fine_d x7 fb _ HFB.out).mono ?_
        rintro e w3 ⟨rfl, ⟨⟨nd, rfl⟩⟩⟩
        refine ⟨_, rfl, ?_⟩
        refine hK.out _ _ ⟨hHeld.1, ⟨nq + nd, by rw [hq, World.drewN_drewN]⟩⟩ (fun hHeld => ?_)
        clear hK K
        refine norm_ (a' := ?_) ?_ ?_
        rotate_left
        · show Act.put _ (some 101) _ = _
          simp only [Act.put, List.setIfInBounds_toArray, List.set_cons_zero, List.set_cons_succ, i64_w, i32_w]
          rfl
        refine one_ (i := 10) (N := some 104) #[true, true, true, true, true, true, true, true, true, true, true, false, false, false, false, false, false, false, false, false] rfl rfl (by kernel_rfl) (by decide) (fun K hK => ?_)
        obtain ⟨nq, hq⟩ := hHeld.2
        refine goes_ Try.func29 (by kernel_rfl) rfl #[.int .i64 x7] (by rfl) rfl rfl qqI ?_
        with_reducible refine (coda_d x7 cb _ HCB.out).mono ?_
        rintro e w3 ⟨rfl, ⟨⟨nd, rfl⟩⟩⟩
        refine ⟨_, rfl, ?_⟩
        refine hK.out _ _ ⟨hHeld.1, ⟨nq + nd, by rw [hq, World.drewN_drewN]⟩⟩ (fun hHeld => ?_)
        clear hK K
        refine norm_ (a' := ?_) ?_ ?_
        rotate_left
        · show Act.put _ (some 104) _ = _
          simp only [Act.put, List.setIfInBounds_toArray, List.set_cons_zero, List.set_cons_succ, i64_w, i32_w]
          rfl
        refine pure_ (i := 11) (N := some 105) (v := ?_) (a' := ?_) #[true, true, true, true, true, true, true, true, true, true, true, true, false, false, false, false, false, false, false, false] rfl rfl (by kernel_rfl) (fun _ _ _ h => h) (Or.inl ⟨by rfl, ?_⟩) ?_ ?_
        rotate_left
        · intro w'
          go_simp
          with_reducible rfl
        rotate_left
        · simp only [Act.put, List.setIfInBounds_toArray, List.set_cons_zero, List.set_cons_succ, i64_w, i32_w]
          rfl
        refine pure_ (i := 12) (N := some 106) (v := ?_) (a' := ?_) #[true, true, true, true, true, true, true, true, true, true, true, true, true, false, false, false, false, false, false, false] rfl rfl (by kernel_rfl) (fun _ _ _ h => h) (Or.inl ⟨by rfl, ?_⟩) ?_ ?_
        rotate_left
        · intro w'
          go_simp
          with_reducible rfl
        rotate_left
        · simp only [Act.put, List.setIfInBounds_toArray, List.set_cons_zero, List.set_cons_succ, i64_w, i32_w]
          rfl
        refine last_ (i := 13) (N := none) #[true, true, true, true, true, true, true, true, true, true, true, true, true, true, false, false, false, false, false, false] rfl rfl (by kernel_rfl) (by decide) (fun K hK => ?_)
        refine skip_ (w1 := ?_) (by rfl) rfl ?_ ?_
        rotate_left
        · go_simp
          rfl
        refine hK.out _ _ ?_
        clear hK K
        refine pure_ (i := 14) (N := some 107) (v := ?_) (a' := ?_) #[true, true, true, true, true, true, true, true, true, true, true, true, true, true, true, false, false, false, false, false] rfl rfl (by kernel_rfl) (fun _ _ _ h => h) (Or.inl ⟨by rfl, ?_⟩) ?_ ?_
        rotate_left
        · intro w'
          go_simp
          with_reducible rfl
        rotate_left
        · simp only [Act.put, List.setIfInBounds_toArray, List.set_cons_zero, List.set_cons_succ, i64_w, i32_w]
          rfl
        refine pure_ (i := 15) (N := some 108) (v := ?_) (a' := ?_) #[true, true, true, true, true, true, true, true, true, true, true, true, true, true, true, true, false, false, false, false] rfl rfl (by kernel_rfl) (fun _ _ _ h => h) (Or.inl ⟨by rfl, ?_⟩) ?_ ?_
        rotate_left
        · intro w'
          go_simp
          with_reducible rfl
        rotate_left
        · simp only [Act.put, List.setIfInBounds_toArray, List.set_cons_zero, List.set_cons_succ, i64_w, i32_w]
          rfl
        refine last_ (i := 16) (N := none) #[true, true, true, true, true, true, true, true, true, true, true, true, true, true, true, true, true, false, false, false] rfl rfl (by kernel_rfl) (by decide) (fun K hK => ?_)
        refine skip_ (w1 := ?_) (by rfl) rfl ?_ ?_
        rotate_left
        · go_simp
          rfl
        refine hK.out _ _ ?_
        clear hK K
        refine pure_ (i := 17) (N := some 109) (v := ?_) (a' := ?_) #[true, true, true, true, true, true, true, true, true, true, true, true, true, true, true, true, true, true, false, false] rfl rfl (by kernel_rfl) (fun _ _ _ h => h) (Or.inl ⟨by rfl, ?_⟩) ?_ ?_
        rotate_left
        · intro w'
          go_simp
          with_reducible rfl
        rotate_left
        · simp only [Act.put, List.setIfInBounds_toArray, List.set_cons_zero, List.set_cons_succ, i64_w, i32_w]
          rfl
        refine pure_ (i := 18) (N := some 110) (v := ?_) (a' := ?_) #[true, true, true, true, true, true, true, true, true, true, true, true, true, true, true, true, true, true, true, false] rfl rfl (by kernel_rfl) (fun _ _ _ h => h) (Or.inl ⟨by rfl, ?_⟩) ?_ ?_
        rotate_left
        · intro w'
          go_simp
          with_reducible rfl
        rotate_left
        · simp only [Act.put, List.setIfInBounds_toArray, List.set_cons_zero, List.set_cons_succ, i64_w, i32_w]
          rfl
        refine last_ (i := 19) (N := none) #[true, true, true, true, true, true, true, true, true, true, true, true, true, true, true, true, true, true, true, true] rfl rfl (by kernel_rfl) (by decide) (fun K hK => ?_)
        refine skip_ (w1 := ?_) (by rfl) rfl ?_ ?_
        rotate_left
        · go_simp
          rfl
        refine hK.out _ _ ?_
        clear hK K
        refine done_ (by kernel_rfl) ?_
        have HI3 : Aside0 (∀ n, IsS71 w0 ((((W2.drewN n).setCell ⟨g, 8, none⟩ (.int .i64 x7)).setCell ⟨g, 9, none⟩ (.bool fb)).setCell ⟨g, 10, none⟩ (.bool cb)) g l s c j bar pass mark true x7 fb cb) := ⟨fun n => IsS71.set_10 (IsS71.set_9 (IsS71.set_8 (IsS71.drewN HI2.out n) _) _) _⟩
        have HB3 : Aside0 (∀ n, Below w0.heap.size w0 ((((W2.drewN n).setCell ⟨g, 8, none⟩ (.int .i64 x7)).setCell ⟨g, 9, none⟩ (.bool fb)).setCell ⟨g, 10, none⟩ (.bool cb))) := ⟨fun n => below_setg (below_setg (below_setg (pw_below_drewN HB2.out n) hg) hg) hg⟩
        have HT3 : Aside0 (∀ n, ((((W2.drewN n).setCell ⟨g, 8, none⟩ (.int .i64 x7)).setCell ⟨g, 9, none⟩ (.bool fb)).setCell ⟨g, 10, none⟩ (.bool cb)).heap[B]? = some (.cells #[.bool x0, .int .i64 x1, .slice A1 x2.length c1, .bool x3, .bool x4, .bool x5, .bool x6, .int .i64 x7] 38 (0, 0))) := ⟨fun n => (Below.heap_setCell _ _ _ _ (Ne.symm hne)).trans ((Below.heap_setCell _ _ _ _ (Ne.symm hne)).trans ((Below.heap_setCell _ _ _ _ (Ne.symm hne)).trans HT2.out))⟩
        clear e1 e8 e9 e10 f8 f9 f10 H7
        obtain ⟨sgb, hsgb⟩ : ∃ sgb, decide (x7 ≥ 4) = sgb := ⟨_, rfl⟩
        have HSG := Aside0.mk hsgb
        clear hsgb
        go_wp2_with ((with_reducible refine (to_any g l s c j ⟨bar, pass, mark, true, x7, fb, cb⟩ 0 w0 _ (HI3.out _) (HB3.out _)).mono ?_); rintro e w4 ⟨rfl, hw, hb, hk⟩; have HW4 := Aside0.mk hw; have HB4 := Aside0.mk hb; have HK4 := Aside0.mk hk; clear hw hb hk; have t7 : w4.cell? ⟨B, 7, none⟩ = some (.int .i64 x7) := (blk_cell ((HK4.out.2 _ (lt_of_block (HT3.out _)) (Ne.symm hne) (by simp)).trans (HT3.out _)) 7).trans rfl)
        cases sgb with
        | true =>
          have hs4 : x7 ≥ 4 := of_decide_eq_true HSG.out
          obtain ⟨A0', c0', HG4, _, _⟩ := HW4.out
          have e1 : w4.cell? ⟨g, 1, none⟩ = some (.int .i64 s) := (blk_cell HG4 1).trans rfl
          clear HG4
          go_wp2_with ((with_reducible refine (seg_any x7 true _ HSG.out).mono ?_); rintro e w5 ⟨rfl, n5, rfl⟩)
          go_wp2_with ((with_reducible refine (to_any g l s c j (Wk.to ⟨bar, pass, mark, true, x7, fb, cb⟩ 0) s w0 _ (IsS71.drewN HW4.out _) (pw_below_drewN HB4.out _)).mono ?_); rintro e w6 ⟨rfl, hw, hb, hk⟩; have HW6 := Aside0.mk hw; have HB6 := Aside0.mk hb; have HK6 := Aside0.mk hk; clear hw hb hk)
          go_ret
          refine ⟨rfl, ?_, HB6.out, ?_⟩
          · exact HW6.out
          · exact (((keep_set' (keep_set' (keep_set' (keep_drewN' HK2.out)))).trans HK4.out (.inl rfl))).trans (show KeepBut w4 w6 g none from HK6.out) (.inl rfl)
        | false =>
          have hs4 : ¬ x7 ≥ 4 := of_decide_eq_false HSG.out
          go_wp2_with ((with_reducible refine (seg_any x7 false _ HSG.out).mono ?_); rintro e w5 ⟨rfl, n5, rfl⟩)
          go_ret
          refine ⟨rfl, ?_, pw_below_drewN HB4.out _, ?_⟩
          · exact IsS71.drewN HW4.out _
          · exact keep_drewN' ((keep_set' (keep_set' (keep_set' (keep_drewN' HK2.out)))).trans HK4.out (.inl rfl))
  · rw [if_pos (.inl hj)] at h
    subst h
    have hjb : (jump == 0) = false := beq_eq_false_iff_ne.mpr hj
    clear hj h3
    cases closed
    all_goals
        go_wp2
        go_quiet (fail)
        go_wp2
        go_ret
        refine ⟨rfl, ?_, ?_, ?_⟩
        · show IsS71 _ _ _ _ _ _ _ _ _ _ _ _ _ _
          simp only [Option.getD_some, Bool.false_or, Bool.true_or, gt_iff_lt]
          repeat (with_reducible first | exact HI1.out | apply IsS71.alloc | apply IsS71.drewN | apply IsS71.drew | apply IsS71.set_4 | apply IsS71.set_5 | apply IsS71.set_6 | apply IsS71.set_7 | apply IsS71.set_8 | apply IsS71.set_9 | apply IsS71.set_10)
        · repeat (with_reducible first | exact HB1.out | apply below_alloc | apply pw_below_drewN | apply below_drew1 | (refine below_setg ?_ hg))
        · repeat (with_reducible first | exact HK1.out | apply keep_alloc' | apply keep_drewN' | apply keep_drew' | apply keep_set')
end Go.Proofs.Ytendmmagjjhfnaa.M
namespace Go.Proofs.Ytendmmagjjhfnaa.M
open Go.RowKit Go.Proofs.YtendmmagjjhfnaaW.PrintWords Go.Proofs.YtendmmagjjhfnaaW.PrintLast Go.Proofs.YtendmmagjjhfnaaW.PrintMore
set_option linter.unusedVariables false
set_option linter.unusedSimpArgs false
def entersB (q : Wk) (x : S38) : Bool := (x.f0 && decide (q.bar ≠ q.mark)) || (q.closed && decide (x.f2.length = 0))
def enterW (q : Wk) (x : S38) : Wk := if entersB q x = true then q.to q.bar else q
def skipW (q : Wk) (x : S38) : Wk := { q with closed := (q.closed || decide (q.jump ≠ 0)) || (decide (x.f1 > 0) && decide (q.pass ≥ x.f1)), bar := q.bar + 1 }
theorem enterW_bar (q : Wk) (x : S38) : (enterW q x).bar = q.bar := by unfold enterW; split <;> rfl
def wkL (k : Nat) (l : List S38) (s c : Int) : Nat → Wk → List (Int × Int) → Option (List (Int × Int) × Bool)
  | 0, _, _ => none
  | n + 1, q, acc =>
    if q.bar < (l.length : Int) then
      if 0 ≤ q.bar ∧ 0 ≤ q.pass ∧ q.pass ≤ 140737488351232 then
        (stO k l q.bar.toNat (enterW q (rd_T38 l q.bar)).pass (enterW q (rd_T38 l q.bar)).jump (rd_T38 l q.bar)).bind fun b =>
          if b = true then
            if acc.length = 2000 then some (acc, true)
            else match onW s c (enterW q (rd_T38 l q.bar)) (rd_T38 l q.bar) with
              | none => some (acc ++ [(q.bar, (enterW q (rd_T38 l q.bar)).pass)], false)
              | some q2 => wkL k l s c n q2 (acc ++ [(q.bar, (enterW q (rd_T38 l q.bar)).pass)])
          else wkL k l s c n (skipW (enterW q (rd_T38 l q.bar)) (rd_T38 l q.bar)) acc
      else none
    else some (acc, false)
def KpW (n0 : Nat) (W W' : World) : Prop := W.heap.size ≤ W'.heap.size ∧ (∀ (i : Nat) (cs : Array Value) (t : TypeId) (fr : Nat × Nat), W.heap[i]? = some (.cells cs t fr) → t ≠ 3 → t ≠ 31 → W'.heap[i]? = W.heap[i]?) ∧ Below n0 W W'
def AbW (n0 : Nat) (J : List (Int × Int) → World → Prop) : Prop :=
  (∀ pre A B, J pre A → Below A.heap.size A B → J pre B) ∧ (∀ pre A B (g : Nat) (cs : Array Value) (fr : Nat × Nat), J pre A → A.heap[g]? = some (.cells cs 71 fr) → n0 ≤ g → KeepBut A B g none → Below n0 A B → J pre B)
attribute [local go_sem] Oper.semAt_some
theorem below_two {n : Nat} {V A B : World} (h1 : Below n V A) (h2 : Below n V B) (hs : A.heap.size ≤ B.heap.size) : Below n A B :=
  ⟨h2.os.trans h1.os.symm, h2.tape.trans h1.tape.symm, h2.output.trans h1.output.symm, hs, fun k hk => (h2.block k hk).trans (h1.block k hk).symm⟩
theorem keep_blk {A B : World} {g i : Nat} {cs : Array Value} {t : TypeId} {fr : Nat × Nat} (hk : KeepBut A B g none) (h : A.heap[i]? = some (.cells cs t fr)) (hne : i ≠ g) : B.heap[i]? = some (.cells cs t fr) :=
  (hk.2 i (lt_of_block h) hne (by simp)).trans h
theorem J_step {n0 : Nat} {J : List (Int × Int) → World → Prop} (hJ : AbW n0 J) {pre : List (Int × Int)} {V A B : World} (hn : n0 = V.heap.size) {g : Nat} {l : List S38} {s c j : Int} {q : Wk} (h : J pre A) (hI : IsWk V A g l s c j q) (hk : KeepBut A B g none) (h1 : Below V.heap.size V A) (h2 : Below V.heap.size V B) : J pre B := by
  obtain ⟨A0, c0, HG, hg, _⟩ := hI
  subst hn
  exact hJ.2 pre A B g _ _ h HG hg hk (below_two h1 h2 hk.1)
set_option maxHeartbeats 16000000 in
set_option maxRecDepth 100000 in
theorem played_any (n k fuel : Nat) (L Bl : Nat) (A0 : Option Addr) (c0 : Nat) (l : List S38) (s c j : Int) (res : List (Int × Int) × Bool) (J : List (Int × Int) → World → Prop) (Jx : World → Prop) (V w : World)
    (hV : Below V.heap.size V w) (hC : Kd.C k38 V A0 l.length l) (hc0 : l.length ≤ c0) (hm : l.length ≤ 140737488351232) (hBl : w.heap[Bl]? = some (.cells #[.slice A0 l.length c0] 22 (0, 0)))
    (hf : turns_found.f l = some (s, c, j)) (hJ : AbW V.heap.size J)
    (hY : ∀ pre (b p : Int) W, J pre W → YieldAt Fence.wide n Try.prog L #[.int .i64 b, .int .i64 p] W fun e W' =>
      (pre.length ≠ 2000 ∧ e = .returned (.bool true) ∧ J (pre ++ [(b, p)]) W' ∧ KpW V.heap.size W W') ∨ (pre.length = 2000 ∧ e = .returned (.bool false) ∧ Jx W'))
    (h0 : J [] w) (h : wkL k l s c fuel ⟨0, 1, 0, false, 0, false, false⟩ [] = some res) :
    Calls Try.prog 46 #[.func (.yield L) #[] #[], .pointer (some ⟨Bl, 0, none⟩)] w fun e W' => e = .returned (.tuple #[]) ∧ ((res.2 = false ∧ J res.1 W') ∨ (res.2 = true ∧ Jx W')) := by
  have hu38 := Try.underlying38
  have hu71 := Try.underlying71
  have hu49 := Try.underlying49
  have HC := Aside0.mk hC
  have HV := Aside0.mk hV
  have HC0 := Aside0.mk hc0
  have HF := Aside0.mk hf
  have HJ := Aside0.mk hJ
  have HY := Aside0.mk hY
  have H0 := Aside0.mk h0
  have HW := Aside0.mk h
  have HBL := Aside0.mk hBl
  have HM := Aside0.mk hm
  clear hC hV hc0 hf hJ hY h0 h
  have b0 : w.cell? ⟨Bl, 0, none⟩ = some (.slice A0 l.length c0) := (blk_cell hBl 0).trans rfl
  have hBlt : Bl < w.heap.size := lt_of_block hBl
  clear hBl
  go_enter Try.func46, Try.ntmps46
  go_wp2
  go_step3
  go_wp2
  go_cut [3] (fun v3 wc => ∃ g : Nat, v3 = .pointer (some ⟨g, 0, none⟩) ∧ Aside0 (IsWk V wc g l s c j ⟨0, 1, 0, false, 0, false, false⟩) ∧ Aside0 (wc.heap[Bl]? = some (.cells #[.slice A0 l.length c0] 22 (0, 0))) ∧ Aside0 (Below V.heap.size V wc) ∧ Aside0 (J [] wc))
  case first =>
    clear HW HY
    have HBt := Aside0.mk hBlt
    go_region_with ((first | ((with_reducible refine (turns_found.calls A0 c0 l s c j _ (Kd.C_below HC.out (by first | exact HV.out.drew | exact HV.out)) HC0.out HF.out).mono ?_); rintro e w1 ⟨rfl, hb1⟩; have HB1 := Aside0.mk hb1; have b1 : w1.cell? ⟨Bl, 0, none⟩ = some (.slice A0 l.length c0) := (hb1.cell HBt.out).trans b0; clear hb1)))
    all_goals
      have hb1 : Below w.heap.size w w1 := ((Below.refl _ w).drew).trans (show Below w.heap.size w.drew w1 from HB1.out)
      have hv1 : Below V.heap.size V w1 := below_step HV.out hb1
      go_wp2
      go_meet
      case rel => exact ⟨_, rfl, ⟨IsS71.new V w1 A0 c0 l s c j 0 1 0 false 0 false false hv1 HC.out⟩, ⟨((below_alloc hb1 _).block _ hBlt).trans HBL.out⟩, ⟨below_alloc hv1 _⟩, ⟨HJ.out.1 _ _ _ H0.out (below_alloc hb1 _)⟩⟩
  case rest =>
  clear b0 hBlt HBL H0 HV HF
  obtain ⟨g, rfl, HS, HBL, HV, HJ0⟩ := hcut
  go_wp2
  go_step3
  go_wp2
  go_loopg [] fuel (fun fq wr => ∃ (q : Wk) (acc : List (Int × Int)), Aside0 (wkL k l s c fq q acc = some res) ∧ Aside0 (IsWk V wr g l s c j q) ∧ Aside0 (wr.heap[Bl]? = some (.cells #[.slice A0 l.length c0] 22 (0, 0))) ∧ Aside0 (Below V.heap.size V wr) ∧ Aside0 (J acc wr))
  case atStart => exact ⟨_, _, HW, HS, HBL, HV, HJ0⟩
  case round =>
    clear HW HS HBL HV HJ0
    obtain ⟨q, acc, HW, HS, HBL, HV, HJA⟩ := hrel
    cases gk with
    | zero => exact absurd HW.out (by simp [wkL])
    | succ k1 =>
      have hW := HW.out
      clear HW
      obtain ⟨A0', c0', HG, hg, HC'⟩ := HS.out
      have e4 : wr.cell? ⟨g, 4, none⟩ = some (.int .i64 q.bar) := (blk_cell HG 4).trans rfl
      have b0 : wr.cell? ⟨Bl, 0, none⟩ = some (.slice A0 l.length c0) := (blk_cell HBL.out 0).trans rfl
      rw [wkL] at hW
      by_cases hlt : q.bar < (l.length : Int)
      case neg =>
        rw [if_neg hlt] at hW
        obtain rfl := Option.some.inj hW
        have hd : decide (q.bar < (l.length : Int)) = false := decide_eq_false hlt
        clear hW hlt HG HC' hg
        go_wp2
        go_quiet (fail)
        go_wp2
        simp only [Exit.noGoto]
        go_end0
        exact ⟨rfl, .inl ⟨rfl, HJ.out.1 _ _ _ HJA.out (pw_below_drewN (Below.refl _ _) _)⟩⟩
      rw [if_pos hlt] at hW
      by_cases hgd : 0 ≤ q.bar ∧ 0 ≤ q.pass ∧ q.pass ≤ 140737488351232
      case neg => rw [if_neg hgd] at hW; cases hW
      rw [if_pos hgd] at hW
      have HGD := Aside0.mk hgd
      have HLT := Aside0.mk hlt
      obtain ⟨ad, A2, c2, hea, h0, h1, h2, h3, h4, h5, h6, h7, hl2, hC2⟩ := at_T38 HC.out q.bar hgd.1 hlt
      subst hea
      have HL2 := Aside0.mk hl2
      have HC2 := Aside0.mk hC2
      clear hl2 hC2
      obtain ⟨x, hx⟩ : ∃ x, rd_T38 l q.bar = x := ⟨_, rfl⟩
      rw [hx] at h0 h1 h2 h3 h4 h5 h6 h7 HL2 HC2 hW
      have HX := Aside0.mk hx
      have HW := Aside0.mk hW
      clear hx hW HC' hg HG
      replace h0 := (HV.out.cell (World.block_lt_of_cell? _ _ h0)).trans h0
      replace h1 := (HV.out.cell (World.block_lt_of_cell? _ _ h1)).trans h1
      replace h2 := (HV.out.cell (World.block_lt_of_cell? _ _ h2)).trans h2
      replace h3 := (HV.out.cell (World.block_lt_of_cell? _ _ h3)).trans h3
      replace h4 := (HV.out.cell (World.block_lt_of_cell? _ _ h4)).trans h4
      replace h5 := (HV.out.cell (World.block_lt_of_cell? _ _ h5)).trans h5
      replace h6 := (HV.out.cell (World.block_lt_of_cell? _ _ h6)).trans h6
      replace h7 := (HV.out.cell (World.block_lt_of_cell? _ _ h7)).trans h7
      have hd : decide (q.bar < (l.length : Int)) = true := decide_eq_true hlt
      have hq0 : 0 ≤ q.bar := hgd.1
      have hq1 : q.bar < (l.length : Int) := hlt
      have hq2 : q.bar ≤ 140737488351232 := by omega
      clear hgd hlt
      go_wp2
      go_quiet (fail)
      go_wp2
      obtain ⟨W1, hW1⟩ : ∃ W1, wr.drewN nq = W1 := ⟨_, rfl⟩
      have b1 : W1.cell? ⟨Bl, 0, none⟩ = some (.slice (some ad) l.length c0) := by rw [← hW1]; exact b0
      have g4 : W1.cell? ⟨g, 4, none⟩ = some (.int .i64 q.bar) := by rw [← hW1]; exact e4
      have tr : ∀ a v, wr.cell? a = v → W1.cell? a = v := by intro a v h; rw [← hW1]; exact h
      replace h0 := tr _ _ h0
      replace h1 := tr _ _ h1
      replace h2 := tr _ _ h2
      replace h3 := tr _ _ h3
      replace h4 := tr _ _ h4
      replace h5 := tr _ _ h5
      replace h6 := tr _ _ h6
      replace h7 := tr _ _ h7
      clear tr b0 e4
      have lg : g < W1.heap.size := World.block_lt_of_cell? _ _ g4
      have lb : Bl < W1.heap.size := World.block_lt_of_cell? _ _ b1
      have la : (ad.add (q.bar.toNat * 8)).block < W1.heap.size := World.block_lt_of_cell? _ _ h0
      have HS1 : Aside0 (IsWk V W1 g l s c j q) := ⟨by rw [← hW1]; exact IsS71.drewN HS.out _⟩
      have HBL1 : Aside0 (W1.heap[Bl]? = some (.cells #[.slice (some ad) l.length c0] 22 (0, 0))) := ⟨by rw [← hW1]; exact HBL.out⟩
      have HV1 : Aside0 (Below V.heap.size V W1) := ⟨by rw [← hW1]; exact pw_below_drewN HV.out _⟩
      have HJ1 : Aside0 (J acc W1) := ⟨by rw [← hW1]; exact HJ.out.1 _ _ _ HJA.out (pw_below_drewN (Below.refl _ _) _)⟩
      rw [hW1]
      clear hW1 HS HBL HV HJA
      go_cut [4] (fun v4 wc => ∃ B : Nat, v4 = .pointer (some ⟨B, 0, none⟩) ∧ Aside0 (wc.heap[B]? = some (.cells #[.bool x.f0, .int .i64 x.f1, .slice A2 x.f2.length c2, .bool x.f3, .bool x.f4, .bool x.f5, .bool x.f6, .int .i64 x.f7] 38 (0, 0))) ∧ Aside0 (IsWk V wc g l s c j q) ∧ Aside0 (wc.heap[Bl]? = some (.cells #[.slice (some ad) l.length c0] 22 (0, 0))) ∧ Aside0 (Below V.heap.size V wc) ∧ Aside0 (J acc wc))
      case first =>
        clear HW
        go_region
        all_goals
          go_wp2
          go_meet
          case rel => exact ⟨_, rfl, ⟨heap_alloc_new W1 _⟩, ⟨IsS71.drew (IsS71.alloc HS1.out _)⟩, ⟨((below_alloc (Below.refl _ _) _).block _ lb).trans HBL1.out⟩, ⟨below_drew1 (below_alloc HV1.out _)⟩, ⟨HJ.out.1 _ _ _ HJ1.out (below_drew1 (below_alloc (Below.refl _ _) _))⟩⟩
      case rest =>
      clear b1 g4 h0 h1 h2 h3 h4 h5 h6 h7 lg lb la HS1 HBL1 HV1 HJ1
      obtain ⟨B, rfl, HT, HS, HBL, HV, HJA⟩ := hcut
      obtain ⟨A0', c0', HG, hg, _⟩ := HS.out
      have e4 := (blk_cell HG 4).trans (show _ = some (Value.int .i64 q.bar) from rfl)
      have e6 := (blk_cell HG 6).trans (show _ = some (Value.int .i64 q.mark) from rfl)
      have e7 := (blk_cell HG 7).trans (show _ = some (Value.bool q.closed) from rfl)
      have t0 := (blk_cell HT.out 0).trans (show _ = some (Value.bool x.f0) from rfl)
      have t2 := (blk_cell HT.out 2).trans (show _ = some (Value.slice A2 x.f2.length c2) from rfl)
      clear HG hg
      obtain ⟨eb, heb⟩ : ∃ eb, entersB q x = eb := ⟨_, rfl⟩
      have HEB := Aside0.mk heb
      clear heb
      go_upto_region 3 with (fail)
      go_cut [48] (fun v48 wc => v48 = .bool eb ∧ Aside0 (IsWk V wc g l s c j q) ∧ Aside0 (wc.heap[B]? = some (.cells #[.bool x.f0, .int .i64 x.f1, .slice A2 x.f2.length c2, .bool x.f3, .bool x.f4, .bool x.f5, .bool x.f6, .int .i64 x.f7] 38 (0, 0))) ∧ Aside0 (wc.heap[Bl]? = some (.cells #[.slice (some ad) l.length c0] 22 (0, 0))) ∧ Aside0 (Below V.heap.size V wc) ∧ Aside0 (J acc wc))
      case first =>
        clear HW
        cases hf0 : x.f0 <;> cases hcl : q.closed <;> by_cases hbm : q.bar = q.mark <;> by_cases hlen : x.f2.length = 0
        all_goals
          have heb := HEB.out
          unfold entersB at heb
          simp only [hf0, hcl, hbm, hlen, ne_eq, not_true_eq_false, not_false_eq_true, decide_true, decide_false, Bool.and_true, Bool.and_false, Bool.true_and, Bool.false_and, Bool.or_true, Bool.or_false, Bool.true_or, Bool.false_or] at heb
          subst heb
          rw [hf0] at t0
          rw [hcl] at e7
          clear hf0 hcl
          first | have hb1 : (q.bar != q.mark) = true := bne_iff_ne.mpr hbm | have hb1 : (q.bar != q.mark) = false := bne_eq_false_iff_eq.mpr hbm
          first | have hn1 : ((x.f2.length : Int) == 0) = true := beq_iff_eq.mpr (by omega) | have hn1 : ((x.f2.length : Int) == 0) = false := beq_eq_false_iff_ne.mpr (by omega)
          first | have hn2 : (x.f2.length == 0) = true := beq_iff_eq.mpr hlen | have hn2 : (x.f2.length == 0) = false := beq_eq_false_iff_ne.mpr hlen
          clear hbm hlen
          go_quiet (fail)
          go_wp2
          go_meet
          case rel => exact ⟨rfl, ⟨IsS71.drewN HS.out _⟩, HT, HBL, ⟨pw_below_drewN HV.out _⟩, ⟨HJ.out.1 _ _ _ HJA.out (pw_below_drewN (Below.refl _ _) _)⟩⟩
      case rest =>
      clear e4 e6 e7 t0 t2 HS HT HBL HV HJA
      obtain ⟨rfl, HS, HT, HBL, HV, HJA⟩ := hcut
      have nB : B ≠ g := Ne.symm (IsS71.ne_blk HS.out HT.out (by decide))
      have nBl : Bl ≠ g := Ne.symm (IsS71.ne_blk HS.out HBL.out (by decide))
      obtain ⟨q1, hq1⟩ : ∃ q1, enterW q x = q1 := ⟨_, rfl⟩
      have hbar : q1.bar = q.bar := by rw [← hq1]; exact enterW_bar q x
      have hWW := HW.out
      rw [hq1] at hWW
      have HW2 := Aside0.mk hWW
      have HQ1 := Aside0.mk hq1
      have HPP : Aside0 (0 ≤ q1.pass ∧ q1.pass ≤ 140737488351232) := ⟨by
        rw [← hq1]
        unfold enterW
        split
        · exact ⟨(by decide : (0 : Int) ≤ 1), (by decide : (1 : Int) ≤ 140737488351232)⟩
        · exact HGD.out.2⟩
      have HBAR := Aside0.mk hbar
      clear HW hWW hq1 hbar
      go_upto_if 48 with (fail)
      go_cut [] (fun wc => Aside0 (IsWk V wc g l s c j q1) ∧ Aside0 (wc.heap[B]? = some (.cells #[.bool x.f0, .int .i64 x.f1, .slice A2 x.f2.length c2, .bool x.f3, .bool x.f4, .bool x.f5, .bool x.f6, .int .i64 x.f7] 38 (0, 0))) ∧ Aside0 (wc.heap[Bl]? = some (.cells #[.slice (some ad) l.length c0] 22 (0, 0))) ∧ Aside0 (Below V.heap.size V wc) ∧ Aside0 (J acc wc))
      case first =>
        clear HW2
        cases eb with
        | true =>
          obtain ⟨A0', c0', HG, hg, _⟩ := HS.out
          have e4 := (blk_cell HG 4).trans (show _ = some (Value.int .i64 q.bar) from rfl)
          clear HG hg
          have hq1 : q.to q.bar = q1 := by rw [← HQ1.out]; unfold enterW; rw [if_pos HEB.out]
          subst hq1
          go_wp2_with ((with_reducible refine (to_any g l s c j q q.bar V _ HS.out HV.out).mono ?_); rintro e w2 ⟨rfl, hw, hb, hk⟩; have HW2 := Aside0.mk hw; have HB2 := Aside0.mk hb; have HK2 := Aside0.mk hk; clear hw hb hk)
          go_meet
          case rel => exact ⟨HW2, ⟨keep_blk HK2.out HT.out nB⟩, ⟨keep_blk HK2.out HBL.out nBl⟩, HB2, ⟨J_step HJ.out rfl HJA.out HS.out HK2.out HV.out HB2.out⟩⟩
        | false =>
          have hq1 : q = q1 := by rw [← HQ1.out]; unfold enterW; rw [if_neg (by rw [HEB.out]; decide)]
          subst hq1
          go_wp2
          go_meet
          case rel => exact ⟨HS, HT, HBL, HV, HJA⟩
      case rest =>
      clear HS HT HBL HV HJA HEB HQ1
      obtain ⟨HS, HT, HBL, HV, HJA⟩ := hcut
      obtain ⟨bar, pass, mark, closed, jump, fn, cd⟩ := q1
      obtain rfl : bar = q.bar := HBAR.out
      obtain ⟨b, hst, hWb⟩ := Option.bind_eq_some_iff.mp HW2.out
      have HST := Aside0.mk hst
      have HWB := Aside0.mk hWb
      clear HW2 HBAR hst hWb
      have HS' : Aside0 (IsS71 V _ g l s c j ((q.bar.toNat : Nat) : Int) pass mark closed jump fn cd) := ⟨by rw [Int.toNat_of_nonneg hq0]; exact HS.out⟩
      have HXC : Aside0 (Kd.C (Kd.int .i64) V A2 x.f2.length x.f2) := HC2
      have HBT : Aside0 (q.bar.toNat < l.length) := ⟨by omega⟩
      have t0 := (blk_cell HT.out 0).trans (show _ = some (Value.bool x.f0) from rfl)
      have t1 := (blk_cell HT.out 1).trans (show _ = some (Value.int .i64 x.f1) from rfl)
      have t2 := (blk_cell HT.out 2).trans (show _ = some (Value.slice A2 x.f2.length c2) from rfl)
      have t3 := (blk_cell HT.out 3).trans (show _ = some (Value.bool x.f3) from rfl)
      have t4 := (blk_cell HT.out 4).trans (show _ = some (Value.bool x.f4) from rfl)
      have t5 := (blk_cell HT.out 5).trans (show _ = some (Value.bool x.f5) from rfl)
      have t6 := (blk_cell HT.out 6).trans (show _ = some (Value.bool x.f6) from rfl)
      have t7 := (blk_cell HT.out 7).trans (show _ = some (Value.int .i64 x.f7) from rfl)
      cases b with
      | false =>
        go_wp2_with ((with_reducible refine (stands_any k g l s c j q.bar.toNat pass mark closed jump fn cd x A2 c2 false V _ HS'.out HV.out HBT.out HM.out HL2.out HXC.out HST.out).mono ?_); rintro e w5 ⟨rfl, hb5⟩; have HB5 := Aside0.mk hb5; clear hb5)
        have hWn := (if_neg (show ¬ (false = true) by decide)).symm.trans HWB.out
        have HWN := Aside0.mk hWn
        clear HWB hWn t0 t1 t2 t3 t4 t5 t6 t7 HST HS'
        have HS5 : Aside0 (IsWk V w5 g l s c j ⟨q.bar, pass, mark, closed, jump, fn, cd⟩) := ⟨IsS71.below HS.out HB5.out⟩
        have HT5 := Aside0.mk ((HB5.out.block _ (lt_of_block HT.out)).trans HT.out)
        have HBL5 := Aside0.mk ((HB5.out.block _ (lt_of_block HBL.out)).trans HBL.out)
        have HV5 := Aside0.mk (below_step HV.out HB5.out)
        have HJ5 := Aside0.mk (HJ.out.1 _ _ _ HJA.out HB5.out)
        clear HS HT HBL HV HJA HB5
        obtain ⟨cl, hcl⟩ : ∃ cl, ((closed || decide (jump ≠ 0)) || (decide (x.f1 > 0) && decide (pass ≥ x.f1))) = cl := ⟨_, rfl⟩
        have HWN2 : Aside0 (wkL k l s c k1 ⟨q.bar + 1, pass, mark, cl, jump, fn, cd⟩ acc = some res) := ⟨by have h := HWN.out; unfold skipW at h; dsimp only at h; rw [hcl] at h; exact h⟩
        have HCL := Aside0.mk hcl
        clear HWN hcl
        obtain ⟨A0', c0', HG, hg, _⟩ := HS5.out
        have e5 : w5.cell? ⟨g, 5, none⟩ = some (.int .i64 pass) := (blk_cell HG 5).trans rfl
        have e7 : w5.cell? ⟨g, 7, none⟩ = some (.bool closed) := (blk_cell HG 7).trans rfl
        have e8 : w5.cell? ⟨g, 8, none⟩ = some (.int .i64 jump) := (blk_cell HG 8).trans rfl
        have f7 := blk_frozen HG 7
        have t1 : w5.cell? ⟨B, 1, none⟩ = some (.int .i64 x.f1) := (blk_cell HT5.out 1).trans rfl
        clear HG
        have hgV : V.heap.size ≤ g := hg
        clear hg
        go_cut [] (fun wc => Aside0 (IsWk V wc g l s c j ⟨q.bar, pass, mark, cl, jump, fn, cd⟩) ∧ Aside0 (wc.heap[Bl]? = some (.cells #[.slice (some ad) l.length c0] 22 (0, 0))) ∧ Aside0 (Below V.heap.size V wc) ∧ Aside0 (J acc wc))
        case first =>
          clear HWN2
          have hcc : (closed = true) ∨ (closed = false ∧ jump ≠ 0) ∨ (closed = false ∧ jump = 0 ∧ 0 < x.f1) ∨ (closed = false ∧ jump = 0 ∧ ¬ 0 < x.f1) := by
            cases closed
            · by_cases h1 : jump = 0 <;> by_cases h2 : 0 < x.f1 <;> simp [h1, h2]
            · exact .inl rfl
          rcases hcc with hcc | ⟨hcc, hj⟩ | ⟨hcc, hj, hf⟩ | ⟨hcc, hj, hf⟩
          · subst hcc
            obtain rfl : true = cl := by rw [← HCL.out]; simp
            go_region
            all_goals
              go_wp2
              go_meet
              case rel => exact ⟨⟨IsS71.set_7 (IsS71.drew HS5.out) true⟩, ⟨(Below.heap_setCell _ _ _ _ nBl).trans HBL5.out⟩, ⟨below_setg (below_drew1 HV5.out) hgV⟩, ⟨J_step HJ.out rfl HJ5.out HS5.out (keep_set' (keep_drew' (KeepBut.refl _ _ _))) HV5.out (below_setg (below_drew1 HV5.out) hgV)⟩⟩
          · subst hcc
            obtain rfl : true = cl := by rw [← HCL.out]; simp [hj]
            have hjb : (jump != 0) = true := bne_iff_ne.mpr hj
            clear hj
            go_region
            all_goals
              go_wp2
              go_meet
              case rel => exact ⟨⟨IsS71.set_7 (IsS71.drew HS5.out) true⟩, ⟨(Below.heap_setCell _ _ _ _ nBl).trans HBL5.out⟩, ⟨below_setg (below_drew1 HV5.out) hgV⟩, ⟨J_step HJ.out rfl HJ5.out HS5.out (keep_set' (keep_drew' (KeepBut.refl _ _ _))) HV5.out (below_setg (below_drew1 HV5.out) hgV)⟩⟩
          · subst hcc
            subst hj
            obtain rfl : decide (x.f1 ≤ pass) = cl := by rw [← HCL.out]; simp [hf]
            have hfb : decide (0 < x.f1) = true := decide_eq_true hf
            clear hf
            go_region
            all_goals
              go_wp2
              go_meet
              case rel => exact ⟨⟨IsS71.set_7 (IsS71.drew HS5.out) _⟩, ⟨(Below.heap_setCell _ _ _ _ nBl).trans HBL5.out⟩, ⟨below_setg (below_drew1 HV5.out) hgV⟩, ⟨J_step HJ.out rfl HJ5.out HS5.out (keep_set' (keep_drew' (KeepBut.refl _ _ _))) HV5.out (below_setg (below_drew1 HV5.out) hgV)⟩⟩
          · subst hcc
            subst hj
            obtain rfl : false = cl := by rw [← HCL.out]; simp [hf]
            have hfb : decide (0 < x.f1) = false := decide_eq_false hf
            clear hf
            go_region
            all_goals
              go_wp2
              go_meet
              case rel => exact ⟨⟨IsS71.set_7 (IsS71.drew HS5.out) false⟩, ⟨(Below.heap_setCell _ _ _ _ nBl).trans HBL5.out⟩, ⟨below_setg (below_drew1 HV5.out) hgV⟩, ⟨J_step HJ.out rfl HJ5.out HS5.out (keep_set' (keep_drew' (KeepBut.refl _ _ _))) HV5.out (below_setg (below_drew1 HV5.out) hgV)⟩⟩
        case rest =>
        clear e5 e7 e8 f7 t1 HS5 HT5 HBL5 HV5 HJ5
        obtain ⟨HS, HBL, HV, HJA⟩ := hcut
        obtain ⟨A0'', c0'', HG, _, _⟩ := HS.out
        have e4 := (blk_cell HG 4).trans (show _ = some (Value.int .i64 q.bar) from rfl)
        have f4 := blk_frozen HG 4
        clear HG
        have hbw : q.bar + 1 ≤ 140737488351233 := by omega
        go_wp2
        go_roundg k1
        case measure => omega
        case rel => exact ⟨_, _, HWN2, ⟨IsS71.set_4 HS.out _⟩, ⟨(Below.heap_setCell _ _ _ _ nBl).trans HBL.out⟩, ⟨below_setg HV.out hgV⟩, ⟨J_step HJ.out rfl HJA.out HS.out (keep_set' (KeepBut.refl _ _ _)) HV.out (below_setg HV.out hgV)⟩⟩
      | true =>
        have hWt := (if_pos rfl).symm.trans HWB.out
        have HWT := Aside0.mk hWt
        clear HWB hWt
        go_wp2_with ((with_reducible refine (stands_any k g l s c j q.bar.toNat pass mark closed jump fn cd x A2 c2 true V _ HS'.out HV.out HBT.out HM.out HL2.out HXC.out HST.out).mono ?_); rintro e w5 ⟨rfl, hb5⟩; have HB5 := Aside0.mk hb5; clear hb5)
        clear t0 t1 t2 t3 t4 t5 t6 t7 HST HS'
        have HS5 : Aside0 (IsWk V w5 g l s c j ⟨q.bar, pass, mark, closed, jump, fn, cd⟩) := ⟨IsS71.below HS.out HB5.out⟩
        have HT5 := Aside0.mk ((HB5.out.block _ (lt_of_block HT.out)).trans HT.out)
        have HBL5 := Aside0.mk ((HB5.out.block _ (lt_of_block HBL.out)).trans HBL.out)
        have HV5 := Aside0.mk (below_step HV.out HB5.out)
        have HJ5 := Aside0.mk (HJ.out.1 _ _ _ HJA.out HB5.out)
        clear HS HT HBL HV HJA HB5
        obtain ⟨A0', c0', HG, hg, _⟩ := HS5.out
        have e4 : w5.cell? ⟨g, 4, none⟩ = some (.int .i64 q.bar) := (blk_cell HG 4).trans rfl
        have e5 : w5.cell? ⟨g, 5, none⟩ = some (.int .i64 pass) := (blk_cell HG 5).trans rfl
        clear HG hg
        obtain ⟨fnr, tmps, assign, body, hy, hR⟩ := HY.out acc q.bar pass w5.drew (HJ.out.1 _ _ _ HJ5.out (below_drew1 (Below.refl _ _)))
        by_cases hlen : acc.length = 2000
        · have hw := (if_pos hlen).symm.trans HWT.out
          obtain rfl := Option.some.inj hw
          have HR : Aside0 (RoundIn Fence.wide n Try.prog L fnr tmps assign body w5.drew fun e W' => e = .returned (.bool false) ∧ Jx W') := ⟨hR.mono (by rintro e W' (⟨h, _⟩ | ⟨_, h2, h3⟩); exact absurd hlen h; exact ⟨h2, h3⟩)⟩
          clear hR hw hlen HWT HY
          refine (wpIn_wide (n := n + 1)).1 ?_
          refine wpIn_region_any (by kernel_rfl) ?_
          change wpAnyIn _ _ _ _ _ _ _ _ _ (World.drew _)
          refine wpAnyIn_take (i := 0) (v := ?_) rfl rfl (by kernel_rfl) (by kernel_rfl) (by kernel_rfl) (fun _ _ _ h => h) ⟨Or.inl ⟨by rfl, ?_⟩, fun _ => rfl⟩ ?_
          rotate_left
          · intro w
            go_simp
            first | done | with_reducible rfl
          refine wpAnyIn_take (i := 1) (v := ?_) rfl rfl (by kernel_rfl) (by kernel_rfl) (by kernel_rfl) (fun _ _ _ h => h) ⟨Or.inl ⟨by rfl, ?_⟩, fun _ => rfl⟩ ?_
          rotate_left
          · intro w
            go_simp
            first | done | with_reducible rfl
          refine wpAnyIn_take (i := 2) (v := ?_) rfl rfl (by kernel_rfl) (by kernel_rfl) (by kernel_rfl) (fun _ _ _ h => h) ⟨Or.inl ⟨by rfl, ?_⟩, fun _ => rfl⟩ ?_
          rotate_left
          · intro w
            go_simp
            first | done | with_reducible rfl
          refine wpAnyIn_take (i := 3) (v := ?_) rfl rfl (by kernel_rfl) (by kernel_rfl) (by kernel_rfl) (fun _ _ _ h => h) ⟨Or.inl ⟨by rfl, ?_⟩, fun _ => rfl⟩ ?_
          rotate_left
          · intro w
            go_simp
            first | done | with_reducible rfl
          refine wpAnyIn_take (i := 5) (v := ?_) rfl rfl (by kernel_rfl) (by kernel_rfl) (by kernel_rfl) (fun _ _ _ h => h) ⟨Or.inl ⟨by rfl, ?_⟩, fun _ => rfl⟩ ?_
          rotate_left
          · intro w
            go_simp
            first | done | with_reducible rfl
          refine wpAnyIn_take (i := 6) (v := ?_) rfl rfl (by kernel_rfl) (by kernel_rfl) (by kernel_rfl) (fun _ _ _ h => h) ⟨Or.inl ⟨by rfl, ?_⟩, fun _ => rfl⟩ ?_
          rotate_left
          · intro w
            go_simp
            first | done | with_reducible rfl
          refine wpAnyIn_take (i := 7) (v := ?_) rfl rfl (by kernel_rfl) (by kernel_rfl) (by kernel_rfl) (fun _ _ _ h => h) ⟨Or.inl ⟨by rfl, ?_⟩, fun _ => rfl⟩ ?_
          rotate_left
          · intro w
            go_simp
            first | done | with_reducible rfl
          refine wpAnyIn_ready (rs := [4, 8]) (by kernel_rfl) (by simp) ?_
          refine AllReadyIn.cons rfl (fun K hK => ?_) ?_
          · go_simp
            refine hK _ _ ?_
            clear hK K
            refine wpAnyIn_ready (rs := [8]) (by kernel_rfl) (by simp) ?_
            refine AllReadyIn.cons rfl (fun K hK => ?_) ?_
            · go_simp
              refine hK _ _ ?_
              clear hK K
              refine wpAnyIn_ready (rs := [9]) (by kernel_rfl) (by simp) ?_
              refine AllReadyIn.cons rfl (fun K hK => ?_) ?_
              · go_simp
                refine HR.out.mono ?_
                rintro e W' ⟨rfl, hjx⟩
                have HJX := Aside0.mk hjx
                clear hjx
                refine hK _ _ ?_
                clear hK K
                refine wpAnyIn_take (i := 10) (v := ?_) rfl rfl (by kernel_rfl) (by kernel_rfl) (by kernel_rfl) (fun _ _ _ h => h) ⟨Or.inl ⟨by rfl, ?_⟩, fun _ => rfl⟩ ?_
                rotate_left
                · intro w
                  go_simp
                  first | done | with_reducible rfl
                refine wpAnyIn_take (i := 11) (v := ?_) rfl rfl (by kernel_rfl) (by kernel_rfl) (by kernel_rfl) (fun _ _ _ h => h) ⟨Or.inl ⟨by rfl, ?_⟩, fun _ => rfl⟩ ?_
                rotate_left
                · intro w
                  go_simp
                  first | done | with_reducible rfl
                refine wpAnyIn_take (i := 12) (v := undef) rfl rfl (by kernel_rfl) (by kernel_rfl) (by kernel_rfl) (fun _ _ _ h => h) ⟨Or.inr ⟨by rfl, rfl⟩, fun _ => rfl⟩ ?_
                refine wpAnyIn_ready (rs := [13]) (by kernel_rfl) (by simp) ?_
                refine AllReadyIn.cons rfl (fun K hK => ?_) ?_
                · go_simp
                  refine hK _ _ ?_
                  clear hK K
                  refine wpAnyIn_ready (rs := [14]) (by kernel_rfl) (by simp) ?_
                  refine AllReadyIn.cons rfl (fun K hK => ?_) ?_
                  · go_simp
                    refine ⟨trivial, ?_⟩
                    refine hK _ _ ?_
                    clear hK K
                    refine wpAnyIn_take (i := 15) (v := undef) rfl rfl (by kernel_rfl) (by kernel_rfl) (by kernel_rfl) (fun _ _ _ h => h) ⟨Or.inr ⟨by rfl, rfl⟩, fun _ => rfl⟩ ?_
                    refine wpAnyIn_take (i := 16) (v := ?_) rfl rfl (by kernel_rfl) (by kernel_rfl) (by kernel_rfl) (fun _ _ _ h => h) ⟨Or.inl ⟨by rfl, ?_⟩, fun _ => rfl⟩ ?_
                    rotate_left
                    · intro w
                      go_simp
                      first | done | with_reducible rfl
                    refine wpAnyIn_done (by kernel_rfl) ?_ _
                    simp only [Act.put, List.setIfInBounds_toArray, List.set_cons_zero, List.set_cons_succ]
                    go_wp2
                    all_goals
                      refine bodyPost_ret (results_none rfl _ _ _) rfl ?_
                      first | exact ⟨rfl, HJX.out⟩ | exact ⟨rfl, .inr ⟨rfl, HJX.out⟩⟩
                  exact AllReadyIn.nil
                exact AllReadyIn.nil
              exact AllReadyIn.nil
            exact AllReadyIn.nil
          refine AllReadyIn.cons rfl (fun K hK => ?_) ?_
          · go_simp
            refine hK _ _ ?_
            clear hK K
            refine wpAnyIn_ready (rs := [4]) (by kernel_rfl) (by simp) ?_
            refine AllReadyIn.cons rfl (fun K hK => ?_) ?_
            · go_simp
              refine hK _ _ ?_
              clear hK K
              refine wpAnyIn_ready (rs := [9]) (by kernel_rfl) (by simp) ?_
              refine AllReadyIn.cons rfl (fun K hK => ?_) ?_
              · go_simp
                refine HR.out.mono ?_
                rintro e W' ⟨rfl, hjx⟩
                have HJX := Aside0.mk hjx
                clear hjx
                refine hK _ _ ?_
                clear hK K
                refine wpAnyIn_take (i := 10) (v := ?_) rfl rfl (by kernel_rfl) (by kernel_rfl) (by kernel_rfl) (fun _ _ _ h => h) ⟨Or.inl ⟨by rfl, ?_⟩, fun _ => rfl⟩ ?_
                rotate_left
                · intro w
                  go_simp
                  first | done | with_reducible rfl
                refine wpAnyIn_take (i := 11) (v := ?_) rfl rfl (by kernel_rfl) (by kernel_rfl) (by kernel_rfl) (fun _ _ _ h => h) ⟨Or.inl ⟨by rfl, ?_⟩, fun _ => rfl⟩ ?_
                rotate_left
                · intro w
                  go_simp
                  first | done | with_reducible rfl
                refine wpAnyIn_take (i := 12) (v := undef) rfl rfl (by kernel_rfl) (by kernel_rfl) (by kernel_rfl) (fun _ _ _ h => h) ⟨Or.inr ⟨by rfl, rfl⟩, fun _ => rfl⟩ ?_
                refine wpAnyIn_ready (rs := [13]) (by kernel_rfl) (by simp) ?_
                refine AllReadyIn.cons rfl (fun K hK => ?_) ?_
                · go_simp
                  refine hK _ _ ?_
                  clear hK K
                  refine wpAnyIn_ready (rs := [14]) (by kernel_rfl) (by simp) ?_
                  refine AllReadyIn.cons rfl (fun K hK => ?_) ?_
                  · go_simp
                    refine ⟨trivial, ?_⟩
                    refine hK _ _ ?_
                    clear hK K
                    refine wpAnyIn_take (i := 15) (v := undef) rfl rfl (by kernel_rfl) (by kernel_rfl) (by kernel_rfl) (fun _ _ _ h => h) ⟨Or.inr ⟨by rfl, rfl⟩, fun _ => rfl⟩ ?_
                    refine wpAnyIn_take (i := 16) (v := ?_) rfl rfl (by kernel_rfl) (by kernel_rfl) (by kernel_rfl) (fun _ _ _ h => h) ⟨Or.inl ⟨by rfl, ?_⟩, fun _ => rfl⟩ ?_
                    rotate_left
                    · intro w
                      go_simp
                      first | done | with_reducible rfl
                    refine wpAnyIn_done (by kernel_rfl) ?_ _
                    simp only [Act.put, List.setIfInBounds_toArray, List.set_cons_zero, List.set_cons_succ]
                    go_wp2
                    all_goals
                      refine bodyPost_ret (results_none rfl _ _ _) rfl ?_
                      first | exact ⟨rfl, HJX.out⟩ | exact ⟨rfl, .inr ⟨rfl, HJX.out⟩⟩
                  exact AllReadyIn.nil
                exact AllReadyIn.nil
              exact AllReadyIn.nil
            exact AllReadyIn.nil
          exact AllReadyIn.nil
        · have hw := (if_neg hlen).symm.trans HWT.out
          have HR : Aside0 (RoundIn Fence.wide n Try.prog L fnr tmps assign body w5.drew fun e W' => e = .returned (.bool true) ∧ J (acc ++ [(q.bar, pass)]) W' ∧ KpW V.heap.size w5.drew W') := ⟨hR.mono (by rintro e W' (⟨_, h2, h3, h4⟩ | ⟨h, _⟩); exact ⟨h2, h3, h4⟩; exact absurd h hlen)⟩
          clear hR hlen HWT HY
          have hgV : V.heap.size ≤ g := IsS71.ge HS5.out
          obtain ⟨rr, hon⟩ : ∃ rr, onW s c ⟨q.bar, pass, mark, closed, jump, fn, cd⟩ x = rr := ⟨_, rfl⟩
          rw [hon] at hw
          have HON := Aside0.mk hon
          clear hon
          cases rr with
          | none =>
            obtain rfl := Option.some.inj hw
            clear hw
            refine (wpIn_wide (n := n + 1)).1 ?_
            refine wpIn_region_any (by kernel_rfl) ?_
            change wpAnyIn _ _ _ _ _ _ _ _ _ (World.drew _)
            refine wpAnyIn_take (i := 0) (v := ?_) rfl rfl (by kernel_rfl) (by kernel_rfl) (by kernel_rfl) (fun _ _ _ h => h) ⟨Or.inl ⟨by rfl, ?_⟩, fun _ => rfl⟩ ?_
            rotate_left
            · intro w
              go_simp
              first | done | with_reducible rfl
            refine wpAnyIn_take (i := 1) (v := ?_) rfl rfl (by kernel_rfl) (by kernel_rfl) (by kernel_rfl) (fun _ _ _ h => h) ⟨Or.inl ⟨by rfl, ?_⟩, fun _ => rfl⟩ ?_
            rotate_left
            · intro w
              go_simp
              first | done | with_reducible rfl
            refine wpAnyIn_take (i := 2) (v := ?_) rfl rfl (by kernel_rfl) (by kernel_rfl) (by kernel_rfl) (fun _ _ _ h => h) ⟨Or.inl ⟨by rfl, ?_⟩, fun _ => rfl⟩ ?_
            rotate_left
            · intro w
              go_simp
              first | done | with_reducible rfl
            refine wpAnyIn_take (i := 3) (v := ?_) rfl rfl (by kernel_rfl) (by kernel_rfl) (by kernel_rfl) (fun _ _ _ h => h) ⟨Or.inl ⟨by rfl, ?_⟩, fun _ => rfl⟩ ?_
            rotate_left
            · intro w
              go_simp
              first | done | with_reducible rfl
            refine wpAnyIn_take (i := 5) (v := ?_) rfl rfl (by kernel_rfl) (by kernel_rfl) (by kernel_rfl) (fun _ _ _ h => h) ⟨Or.inl ⟨by rfl, ?_⟩, fun _ => rfl⟩ ?_
            rotate_left
            · intro w
              go_simp
              first | done | with_reducible rfl
            refine wpAnyIn_take (i := 6) (v := ?_) rfl rfl (by kernel_rfl) (by kernel_rfl) (by kernel_rfl) (fun _ _ _ h => h) ⟨Or.inl ⟨by rfl, ?_⟩, fun _ => rfl⟩ ?_
            rotate_left
            · intro w
              go_simp
              first | done | with_reducible rfl
            refine wpAnyIn_take (i := 7) (v := ?_) rfl rfl (by kernel_rfl) (by kernel_rfl) (by kernel_rfl) (fun _ _ _ h => h) ⟨Or.inl ⟨by rfl, ?_⟩, fun _ => rfl⟩ ?_
            rotate_left
            · intro w
              go_simp
              first | done | with_reducible rfl
            refine wpAnyIn_ready (rs := [4, 8]) (by kernel_rfl) (by simp) ?_
            refine AllReadyIn.cons rfl (fun K hK => ?_) ?_
            · go_simp
              refine hK _ _ ?_
              clear hK K
              refine wpAnyIn_ready (rs := [8]) (by kernel_rfl) (by simp) ?_
              refine AllReadyIn.cons rfl (fun K hK => ?_) ?_
              · go_simp
                refine hK _ _ ?_
                clear hK K
                refine wpAnyIn_ready (rs := [9]) (by kernel_rfl) (by simp) ?_
                refine AllReadyIn.cons rfl (fun K hK => ?_) ?_
                · go_simp
                  refine HR.out.mono ?_
                  rintro e W' ⟨rfl, hj', hk'⟩
                  obtain ⟨A0x, c0x, HGx, hgx, hCx⟩ := HS5.out
                  have HS7 : Aside0 (IsWk V W' g l s c j ⟨q.bar, pass, mark, closed, jump, fn, cd⟩) := ⟨⟨A0x, c0x, (hk'.2.1 g _ 71 _ HGx (by decide) (by decide)).trans HGx, hgx, hCx⟩⟩
                  have HT7 := Aside0.mk ((hk'.2.1 B _ 38 _ HT5.out (by decide) (by decide)).trans HT5.out)
                  have HBL7 := Aside0.mk ((hk'.2.1 Bl _ 22 _ HBL5.out (by decide) (by decide)).trans HBL5.out)
                  have HV7 : Aside0 (Below V.heap.size V W') := ⟨(below_drew1 HV5.out).trans hk'.2.2⟩
                  have HJ7 := Aside0.mk hj'
                  clear hj' hk' HGx hgx hCx
                  have t0 : W'.cell? ⟨B, 0, none⟩ = some (.bool x.f0) := (blk_cell HT7.out 0).trans rfl
                  have t1 : W'.cell? ⟨B, 1, none⟩ = some (.int .i64 x.f1) := (blk_cell HT7.out 1).trans rfl
                  have t2 : W'.cell? ⟨B, 2, none⟩ = some (.slice A2 x.f2.length c2) := (blk_cell HT7.out 2).trans rfl
                  have t3 : W'.cell? ⟨B, 3, none⟩ = some (.bool x.f3) := (blk_cell HT7.out 3).trans rfl
                  have t4 : W'.cell? ⟨B, 4, none⟩ = some (.bool x.f4) := (blk_cell HT7.out 4).trans rfl
                  have t5 : W'.cell? ⟨B, 5, none⟩ = some (.bool x.f5) := (blk_cell HT7.out 5).trans rfl
                  have t6 : W'.cell? ⟨B, 6, none⟩ = some (.bool x.f6) := (blk_cell HT7.out 6).trans rfl
                  have t7 : W'.cell? ⟨B, 7, none⟩ = some (.int .i64 x.f7) := (blk_cell HT7.out 7).trans rfl
                  refine hK _ _ ?_
                  clear hK K
                  refine wpAnyIn_take (i := 10) (v := ?_) rfl rfl (by kernel_rfl) (by kernel_rfl) (by kernel_rfl) (fun _ _ _ h => h) ⟨Or.inl ⟨by rfl, ?_⟩, fun _ => rfl⟩ ?_
                  rotate_left
                  · intro w
                    go_simp
                    first | done | with_reducible rfl
                  refine wpAnyIn_take (i := 11) (v := ?_) rfl rfl (by kernel_rfl) (by kernel_rfl) (by kernel_rfl) (fun _ _ _ h => h) ⟨Or.inl ⟨by rfl, ?_⟩, fun _ => rfl⟩ ?_
                  rotate_left
                  · intro w
                    go_simp
                    first | done | with_reducible rfl
                  refine wpAnyIn_take (i := 12) (v := ?_) rfl rfl (by kernel_rfl) (by kernel_rfl) (by kernel_rfl) (fun _ _ _ h => h) ⟨Or.inl ⟨by rfl, ?_⟩, fun _ => rfl⟩ ?_
                  rotate_left
                  · intro w
                    go_simp
                    first | done | with_reducible rfl
                  refine wpAnyIn_ready (rs := [13]) (by kernel_rfl) (by simp) ?_
                  refine AllReadyIn.cons rfl (fun K hK => ?_) ?_
                  · go_simp
                    refine hK _ _ ?_
                    clear hK K
                    refine wpAnyIn_ready (rs := [14]) (by kernel_rfl) (by simp) ?_
                    refine AllReadyIn.cons rfl (fun K hK => ?_) ?_
                    · go_simp
                      refine ⟨trivial, ?_⟩
                      refine (callsIn_wide.2 (on_any g l s c j ⟨q.bar, pass, mark, closed, jump, fn, cd⟩ x A2 c2 none V W' HS7.out HV7.out hq0 hq2 HPP.out.1 HPP.out.2 HON.out)).mono ?_
                      rintro e w7 ⟨rfl, hw7, hb7, hk7⟩
                      have HS8 := Aside0.mk hw7
                      have HV8 := Aside0.mk hb7
                      have HK8 := Aside0.mk hk7
                      clear hw7 hb7 hk7 t0 t1 t2 t3 t4 t5 t6 t7
                      refine hK _ _ ?_
                      clear hK K
                      refine wpAnyIn_take (i := 15) (v := ?_) rfl rfl (by kernel_rfl) (by kernel_rfl) (by kernel_rfl) (fun _ _ _ h => h) ⟨Or.inl ⟨by rfl, ?_⟩, fun _ => rfl⟩ ?_
                      rotate_left
                      · intro w
                        go_simp
                        first | done | with_reducible rfl
                      refine wpAnyIn_take (i := 16) (v := ?_) rfl rfl (by kernel_rfl) (by kernel_rfl) (by kernel_rfl) (fun _ _ _ h => h) ⟨Or.inl ⟨by rfl, ?_⟩, fun _ => rfl⟩ ?_
                      rotate_left
                      · intro w
                        go_simp
                        first | done | with_reducible rfl
                      refine wpAnyIn_done (by kernel_rfl) ?_ _
                      simp only [Act.put, List.setIfInBounds_toArray, List.set_cons_zero, List.set_cons_succ]
                      go_wp2
                      all_goals
                        refine bodyPost_ret (results_none rfl _ _ _) rfl ?_
                        have hj8 := J_step HJ.out rfl HJ7.out HS7.out HK8.out HV7.out HV8.out
                        first | exact ⟨rfl, hj8⟩ | exact ⟨rfl, .inl ⟨rfl, hj8⟩⟩
                    exact AllReadyIn.nil
                  exact AllReadyIn.nil
                exact AllReadyIn.nil
              exact AllReadyIn.nil
            refine AllReadyIn.cons rfl (fun K hK => ?_) ?_
            · go_simp
              refine hK _ _ ?_
              clear hK K
              refine wpAnyIn_ready (rs := [4]) (by kernel_rfl) (by simp) ?_
              refine AllReadyIn.cons rfl (fun K hK => ?_) ?_
              · go_simp
                refine hK _ _ ?_
                clear hK K
                refine wpAnyIn_ready (rs := [9]) (by kernel_rfl) (by simp) ?_
                refine AllReadyIn.cons rfl (fun K hK => ?_) ?_
                · go_simp
                  refine HR.out.mono ?_
                  rintro e W' ⟨rfl, hj', hk'⟩
                  obtain ⟨A0x, c0x, HGx, hgx, hCx⟩ := HS5.out
                  have HS7 : Aside0 (IsWk V W' g l s c j ⟨q.bar, pass, mark, closed, jump, fn, cd⟩) := ⟨⟨A0x, c0x, (hk'.2.1 g _ 71 _ HGx (by decide) (by decide)).trans HGx, hgx, hCx⟩⟩
                  have HT7 := Aside0.mk ((hk'.2.1 B _ 38 _ HT5.out (by decide) (by decide)).trans HT5.out)
                  have HBL7 := Aside0.mk ((hk'.2.1 Bl _ 22 _ HBL5.out (by decide) (by decide)).trans HBL5.out)
                  have HV7 : Aside0 (Below V.heap.size V W') := ⟨(below_drew1 HV5.out).trans hk'.2.2⟩
                  have HJ7 := Aside0.mk hj'
                  clear hj' hk' HGx hgx hCx
                  have t0 : W'.cell? ⟨B, 0, none⟩ = some (.bool x.f0) := (blk_cell HT7.out 0).trans rfl
                  have t1 : W'.cell? ⟨B, 1, none⟩ = some (.int .i64 x.f1) := (blk_cell HT7.out 1).trans rfl
                  have t2 : W'.cell? ⟨B, 2, none⟩ = some (.slice A2 x.f2.length c2) := (blk_cell HT7.out 2).trans rfl
                  have t3 : W'.cell? ⟨B, 3, none⟩ = some (.bool x.f3) := (blk_cell HT7.out 3).trans rfl
                  have t4 : W'.cell? ⟨B, 4, none⟩ = some (.bool x.f4) := (blk_cell HT7.out 4).trans rfl
                  have t5 : W'.cell? ⟨B, 5, none⟩ = some (.bool x.f5) := (blk_cell HT7.out 5).trans rfl
                  have t6 : W'.cell? ⟨B, 6, none⟩ = some (.bool x.f6) := (blk_cell HT7.out 6).trans rfl
                  have t7 : W'.cell? ⟨B, 7, none⟩ = some (.int .i64 x.f7) := (blk_cell HT7.out 7).trans rfl
                  refine hK _ _ ?_
                  clear hK K
                  refine wpAnyIn_take (i := 10) (v := ?_) rfl rfl (by kernel_rfl) (by kernel_rfl) (by kernel_rfl) (fun _ _ _ h => h) ⟨Or.inl ⟨by rfl, ?_⟩, fun _ => rfl⟩ ?_
                  rotate_left
                  · intro w
                    go_simp
                    first | done | with_reducible rfl
                  refine wpAnyIn_take (i := 11) (v := ?_) rfl rfl (by kernel_rfl) (by kernel_rfl) (by kernel_rfl) (fun _ _ _ h => h) ⟨Or.inl ⟨by rfl, ?_⟩, fun _ => rfl⟩ ?_
                  rotate_left
                  · intro w
                    go_simp
                    first | done | with_reducible rfl
                  refine wpAnyIn_take (i := 12) (v := ?_) rfl rfl (by kernel_rfl) (by kernel_rfl) (by kernel_rfl) (fun _ _ _ h => h) ⟨Or.inl ⟨by rfl, ?_⟩, fun _ => rfl⟩ ?_
                  rotate_left
                  · intro w
                    go_simp
                    first | done | with_reducible rfl
                  refine wpAnyIn_ready (rs := [13]) (by kernel_rfl) (by simp) ?_
                  refine AllReadyIn.cons rfl (fun K hK => ?_) ?_
                  · go_simp
                    refine hK _ _ ?_
                    clear hK K
                    refine wpAnyIn_ready (rs := [14]) (by kernel_rfl) (by simp) ?_
                    refine AllReadyIn.cons rfl (fun K hK => ?_) ?_
                    · go_simp
                      refine ⟨trivial, ?_⟩
                      refine (callsIn_wide.2 (on_any g l s c j ⟨q.bar, pass, mark, closed, jump, fn, cd⟩ x A2 c2 none V W' HS7.out HV7.out hq0 hq2 HPP.out.1 HPP.out.2 HON.out)).mono ?_
                      rintro e w7 ⟨rfl, hw7, hb7, hk7⟩
                      have HS8 := Aside0.mk hw7
                      have HV8 := Aside0.mk hb7
                      have HK8 := Aside0.mk hk7
                      clear hw7 hb7 hk7 t0 t1 t2 t3 t4 t5 t6 t7
                      refine hK _ _ ?_
                      clear hK K
                      refine wpAnyIn_take (i := 15) (v := ?_) rfl rfl (by kernel_rfl) (by kernel_rfl) (by kernel_rfl) (fun _ _ _ h => h) ⟨Or.inl ⟨by rfl, ?_⟩, fun _ => rfl⟩ ?_
                      rotate_left
                      · intro w
                        go_simp
                        first | done | with_reducible rfl
                      refine wpAnyIn_take (i := 16) (v := ?_) rfl rfl (by kernel_rfl) (by kernel_rfl) (by kernel_rfl) (fun _ _ _ h => h) ⟨Or.inl ⟨by rfl, ?_⟩, fun _ => rfl⟩ ?_
                      rotate_left
                      · intro w
                        go_simp
                        first | done | with_reducible rfl
                      refine wpAnyIn_done (by kernel_rfl) ?_ _
                      simp only [Act.put, List.setIfInBounds_toArray, List.set_cons_zero, List.set_cons_succ]
                      go_wp2
                      all_goals
                        refine bodyPost_ret (results_none rfl _ _ _) rfl ?_
                        have hj8 := J_step HJ.out rfl HJ7.out HS7.out HK8.out HV7.out HV8.out
                        first | exact ⟨rfl, hj8⟩ | exact ⟨rfl, .inl ⟨rfl, hj8⟩⟩
                    exact AllReadyIn.nil
                  exact AllReadyIn.nil
                exact AllReadyIn.nil
              exact AllReadyIn.nil
            exact AllReadyIn.nil
          | some q2 =>
            have HWS := Aside0.mk hw
            clear hw
            refine (wpIn_wide (n := n + 1)).1 ?_
            refine wpIn_region_any (by kernel_rfl) ?_
            change wpAnyIn _ _ _ _ _ _ _ _ _ (World.drew _)
            refine wpAnyIn_take (i := 0) (v := ?_) rfl rfl (by kernel_rfl) (by kernel_rfl) (by kernel_rfl) (fun _ _ _ h => h) ⟨Or.inl ⟨by rfl, ?_⟩, fun _ => rfl⟩ ?_
            rotate_left
            · intro w
              go_simp
              first | done | with_reducible rfl
            refine wpAnyIn_take (i := 1) (v := ?_) rfl rfl (by kernel_rfl) (by kernel_rfl) (by kernel_rfl) (fun _ _ _ h => h) ⟨Or.inl ⟨by rfl, ?_⟩, fun _ => rfl⟩ ?_
            rotate_left
            · intro w
              go_simp
              first | done | with_reducible rfl
            refine wpAnyIn_take (i := 2) (v := ?_) rfl rfl (by kernel_rfl) (by kernel_rfl) (by kernel_rfl) (fun _ _ _ h => h) ⟨Or.inl ⟨by rfl, ?_⟩, fun _ => rfl⟩ ?_
            rotate_left
            · intro w
              go_simp
              first | done | with_reducible rfl
            refine wpAnyIn_take (i := 3) (v := ?_) rfl rfl (by kernel_rfl) (by kernel_rfl) (by kernel_rfl) (fun _ _ _ h => h) ⟨Or.inl ⟨by rfl, ?_⟩, fun _ => rfl⟩ ?_
            rotate_left
            · intro w
              go_simp
              first | done | with_reducible rfl
            refine wpAnyIn_take (i := 5) (v := ?_) rfl rfl (by kernel_rfl) (by kernel_rfl) (by kernel_rfl) (fun _ _ _ h => h) ⟨Or.inl ⟨by rfl, ?_⟩, fun _ => rfl⟩ ?_
            rotate_left
            · intro w
              go_simp
              first | done | with_reducible rfl
            refine wpAnyIn_take (i := 6) (v := ?_) rfl rfl (by kernel_rfl) (by kernel_rfl) (by kernel_rfl) (fun _ _ _ h => h) ⟨Or.inl ⟨by rfl, ?_⟩, fun _ => rfl⟩ ?_
            rotate_left
            · intro w
              go_simp
              first | done | with_reducible rfl
            refine wpAnyIn_take (i := 7) (v := ?_) rfl rfl (by kernel_rfl) (by kernel_rfl) (by kernel_rfl) (fun _ _ _ h => h) ⟨Or.inl ⟨by rfl, ?_⟩, fun _ => rfl⟩ ?_
            rotate_left
            · intro w
              go_simp
              first | done | with_reducible rfl
            refine wpAnyIn_ready (rs := [4, 8]) (by kernel_rfl) (by simp) ?_
            refine AllReadyIn.cons rfl (fun K hK => ?_) ?_
            · go_simp
              refine hK _ _ ?_
              clear hK K
              refine wpAnyIn_ready (rs := [8]) (by kernel_rfl) (by simp) ?_
              refine AllReadyIn.cons rfl (fun K hK => ?_) ?_
              · go_simp
                refine hK _ _ ?_
                clear hK K
                refine wpAnyIn_ready (rs := [9]) (by kernel_rfl) (by simp) ?_
                refine AllReadyIn.cons rfl (fun K hK => ?_) ?_
                · go_simp
                  refine HR.out.mono ?_
                  rintro e W' ⟨rfl, hj', hk'⟩
                  obtain ⟨A0x, c0x, HGx, hgx, hCx⟩ := HS5.out
                  have HS7 : Aside0 (IsWk V W' g l s c j ⟨q.bar, pass, mark, closed, jump, fn, cd⟩) := ⟨⟨A0x, c0x, (hk'.2.1 g _ 71 _ HGx (by decide) (by decide)).trans HGx, hgx, hCx⟩⟩
                  have HT7 := Aside0.mk ((hk'.2.1 B _ 38 _ HT5.out (by decide) (by decide)).trans HT5.out)
                  have HBL7 := Aside0.mk ((hk'.2.1 Bl _ 22 _ HBL5.out (by decide) (by decide)).trans HBL5.out)
                  have HV7 : Aside0 (Below V.heap.size V W') := ⟨(below_drew1 HV5.out).trans hk'.2.2⟩
                  have HJ7 := Aside0.mk hj'
                  clear hj' hk' HGx hgx hCx
                  have t0 : W'.cell? ⟨B, 0, none⟩ = some (.bool x.f0) := (blk_cell HT7.out 0).trans rfl
                  have t1 : W'.cell? ⟨B, 1, none⟩ = some (.int .i64 x.f1) := (blk_cell HT7.out 1).trans rfl
                  have t2 : W'.cell? ⟨B, 2, none⟩ = some (.slice A2 x.f2.length c2) := (blk_cell HT7.out 2).trans rfl
                  have t3 : W'.cell? ⟨B, 3, none⟩ = some (.bool x.f3) := (blk_cell HT7.out 3).trans rfl
                  have t4 : W'.cell? ⟨B, 4, none⟩ = some (.bool x.f4) := (blk_cell HT7.out 4).trans rfl
                  have t5 : W'.cell? ⟨B, 5, none⟩ = some (.bool x.f5) := (blk_cell HT7.out 5).trans rfl
                  have t6 : W'.cell? ⟨B, 6, none⟩ = some (.bool x.f6) := (blk_cell HT7.out 6).trans rfl
                  have t7 : W'.cell? ⟨B, 7, none⟩ = some (.int .i64 x.f7) := (blk_cell HT7.out 7).trans rfl
                  refine hK _ _ ?_
                  clear hK K
                  refine wpAnyIn_take (i := 10) (v := ?_) rfl rfl (by kernel_rfl) (by kernel_rfl) (by kernel_rfl) (fun _ _ _ h => h) ⟨Or.inl ⟨by rfl, ?_⟩, fun _ => rfl⟩ ?_
                  rotate_left
                  · intro w
                    go_simp
                    first | done | with_reducible rfl
                  refine wpAnyIn_take (i := 11) (v := ?_) rfl rfl (by kernel_rfl) (by kernel_rfl) (by kernel_rfl) (fun _ _ _ h => h) ⟨Or.inl ⟨by rfl, ?_⟩, fun _ => rfl⟩ ?_
                  rotate_left
                  · intro w
                    go_simp
                    first | done | with_reducible rfl
                  refine wpAnyIn_take (i := 12) (v := ?_) rfl rfl (by kernel_rfl) (by kernel_rfl) (by kernel_rfl) (fun _ _ _ h => h) ⟨Or.inl ⟨by rfl, ?_⟩, fun _ => rfl⟩ ?_
                  rotate_left
                  · intro w
                    go_simp
                    first | done | with_reducible rfl
                  refine wpAnyIn_ready (rs := [13]) (by kernel_rfl) (by simp) ?_
                  refine AllReadyIn.cons rfl (fun K hK => ?_) ?_
                  · go_simp
                    refine hK _ _ ?_
                    clear hK K
                    refine wpAnyIn_ready (rs := [14]) (by kernel_rfl) (by simp) ?_
                    refine AllReadyIn.cons rfl (fun K hK => ?_) ?_
                    · go_simp
                      refine ⟨trivial, ?_⟩
                      refine (callsIn_wide.2 (on_any g l s c j ⟨q.bar, pass, mark, closed, jump, fn, cd⟩ x A2 c2 (some q2) V W' HS7.out HV7.out hq0 hq2 HPP.out.1 HPP.out.2 HON.out)).mono ?_
                      rintro e w7 ⟨rfl, hw7, hb7, hk7⟩
                      have HS8 := Aside0.mk hw7
                      have HV8 := Aside0.mk hb7
                      have HK8 := Aside0.mk hk7
                      clear hw7 hb7 hk7 t0 t1 t2 t3 t4 t5 t6 t7
                      refine hK _ _ ?_
                      clear hK K
                      refine wpAnyIn_take (i := 15) (v := ?_) rfl rfl (by kernel_rfl) (by kernel_rfl) (by kernel_rfl) (fun _ _ _ h => h) ⟨Or.inl ⟨by rfl, ?_⟩, fun _ => rfl⟩ ?_
                      rotate_left
                      · intro w
                        go_simp
                        first | done | with_reducible rfl
                      refine wpAnyIn_take (i := 16) (v := ?_) rfl rfl (by kernel_rfl) (by kernel_rfl) (by kernel_rfl) (fun _ _ _ h => h) ⟨Or.inl ⟨by rfl, ?_⟩, fun _ => rfl⟩ ?_
                      rotate_left
                      · intro w
                        go_simp
                        first | done | with_reducible rfl
                      refine wpAnyIn_done (by kernel_rfl) ?_ _
                      simp only [Act.put, List.setIfInBounds_toArray, List.set_cons_zero, List.set_cons_succ]
                      go_wp2
                      go_roundg k1
                      case measure => omega
                      case rel => exact ⟨q2, acc ++ [(q.bar, pass)], HWS, HS8, ⟨keep_blk HK8.out HBL7.out nBl⟩, HV8, ⟨J_step HJ.out rfl HJ7.out HS7.out HK8.out HV7.out HV8.out⟩⟩
                    exact AllReadyIn.nil
                  exact AllReadyIn.nil
                exact AllReadyIn.nil
              exact AllReadyIn.nil
            refine AllReadyIn.cons rfl (fun K hK => ?_) ?_
            · go_simp
              refine hK _ _ ?_
              clear hK K
              refine wpAnyIn_ready (rs := [4]) (by kernel_rfl) (by simp) ?_
              refine AllReadyIn.cons rfl (fun K hK => ?_) ?_
              · go_simp
                refine hK _ _ ?_
                clear hK K
                refine wpAnyIn_ready (rs := [9]) (by kernel_rfl) (by simp) ?_
                refine AllReadyIn.cons rfl (fun K hK => ?_) ?_
                · go_simp
                  refine HR.out.mono ?_
                  rintro e W' ⟨rfl, hj', hk'⟩
                  obtain ⟨A0x, c0x, HGx, hgx, hCx⟩ := HS5.out
                  have HS7 : Aside0 (IsWk V W' g l s c j ⟨q.bar, pass, mark, closed, jump, fn, cd⟩) := ⟨⟨A0x, c0x, (hk'.2.1 g _ 71 _ HGx (by decide) (by decide)).trans HGx, hgx, hCx⟩⟩
                  have HT7 := Aside0.mk ((hk'.2.1 B _ 38 _ HT5.out (by decide) (by decide)).trans HT5.out)
                  have HBL7 := Aside0.mk ((hk'.2.1 Bl _ 22 _ HBL5.out (by decide) (by decide)).trans HBL5.out)
                  have HV7 : Aside0 (Below V.heap.size V W') := ⟨(below_drew1 HV5.out).trans hk'.2.2⟩
                  have HJ7 := Aside0.mk hj'
                  clear hj' hk' HGx hgx hCx
                  have t0 : W'.cell? ⟨B, 0, none⟩ = some (.bool x.f0) := (blk_cell HT7.out 0).trans rfl
                  have t1 : W'.cell? ⟨B, 1, none⟩ = some (.int .i64 x.f1) := (blk_cell HT7.out 1).trans rfl
                  have t2 : W'.cell? ⟨B, 2, none⟩ = some (.slice A2 x.f2.length c2) := (blk_cell HT7.out 2).trans rfl
                  have t3 : W'.cell? ⟨B, 3, none⟩ = some (.bool x.f3) := (blk_cell HT7.out 3).trans rfl
                  have t4 : W'.cell? ⟨B, 4, none⟩ = some (.bool x.f4) := (blk_cell HT7.out 4).trans rfl
                  have t5 : W'.cell? ⟨B, 5, none⟩ = some (.bool x.f5) := (blk_cell HT7.out 5).trans rfl
                  have t6 : W'.cell? ⟨B, 6, none⟩ = some (.bool x.f6) := (blk_cell HT7.out 6).trans rfl
                  have t7 : W'.cell? ⟨B, 7, none⟩ = some (.int .i64 x.f7) := (blk_cell HT7.out 7).trans rfl
                  refine hK _ _ ?_
                  clear hK K
                  refine wpAnyIn_take (i := 10) (v := ?_) rfl rfl (by kernel_rfl) (by kernel_rfl) (by kernel_rfl) (fun _ _ _ h => h) ⟨Or.inl ⟨by rfl, ?_⟩, fun _ => rfl⟩ ?_
                  rotate_left
                  · intro w
                    go_simp
                    first | done | with_reducible rfl
                  refine wpAnyIn_take (i := 11) (v := ?_) rfl rfl (by kernel_rfl) (by kernel_rfl) (by kernel_rfl) (fun _ _ _ h => h) ⟨Or.inl ⟨by rfl, ?_⟩, fun _ => rfl⟩ ?_
                  rotate_left
                  · intro w
                    go_simp
                    first | done | with_reducible rfl
                  refine wpAnyIn_take (i := 12) (v := ?_) rfl rfl (by kernel_rfl) (by kernel_rfl) (by kernel_rfl) (fun _ _ _ h => h) ⟨Or.inl ⟨by rfl, ?_⟩, fun _ => rfl⟩ ?_
                  rotate_left
                  · intro w
                    go_simp
                    first | done | with_reducible rfl
                  refine wpAnyIn_ready (rs := [13]) (by kernel_rfl) (by simp) ?_
                  refine AllReadyIn.cons rfl (fun K hK => ?_) ?_
                  · go_simp
                    refine hK _ _ ?_
                    clear hK K
                    refine wpAnyIn_ready (rs := [14]) (by kernel_rfl) (by simp) ?_
                    refine AllReadyIn.cons rfl (fun K hK => ?_) ?_
                    · go_simp
                      refine ⟨trivial, ?_⟩
                      refine (callsIn_wide.2 (on_any g l s c j ⟨q.bar, pass, mark, closed, jump, fn, cd⟩ x A2 c2 (some q2) V W' HS7.out HV7.out hq0 hq2 HPP.out.1 HPP.out.2 HON.out)).mono ?_
                      rintro e w7 ⟨rfl, hw7, hb7, hk7⟩
                      have HS8 := Aside0.mk hw7
                      have HV8 := Aside0.mk hb7
                      have HK8 := Aside0.mk hk7
                      clear hw7 hb7 hk7 t0 t1 t2 t3 t4 t5 t6 t7
                      refine hK _ _ ?_
                      clear hK K
                      refine wpAnyIn_take (i := 15) (v := ?_) rfl rfl (by kernel_rfl) (by kernel_rfl) (by kernel_rfl) (fun _ _ _ h => h) ⟨Or.inl ⟨by rfl, ?_⟩, fun _ => rfl⟩ ?_
                      rotate_left
                      · intro w
                        go_simp
                        first | done | with_reducible rfl
                      refine wpAnyIn_take (i := 16) (v := ?_) rfl rfl (by kernel_rfl) (by kernel_rfl) (by kernel_rfl) (fun _ _ _ h => h) ⟨Or.inl ⟨by rfl, ?_⟩, fun _ => rfl⟩ ?_
                      rotate_left
                      · intro w
                        go_simp
                        first | done | with_reducible rfl
                      refine wpAnyIn_done (by kernel_rfl) ?_ _
                      simp only [Act.put, List.setIfInBounds_toArray, List.set_cons_zero, List.set_cons_succ]
                      go_wp2
                      go_roundg k1
                      case measure => omega
                      case rel => exact ⟨q2, acc ++ [(q.bar, pass)], HWS, HS8, ⟨keep_blk HK8.out HBL7.out nBl⟩, HV8, ⟨J_step HJ.out rfl HJ7.out HS7.out HK8.out HV7.out HV8.out⟩⟩
                    exact AllReadyIn.nil
                  exact AllReadyIn.nil
                exact AllReadyIn.nil
              exact AllReadyIn.nil
            exact AllReadyIn.nil
end Go.Proofs.Ytendmmagjjhfnaa.M
namespace Go.Proofs.Ytendmmagjjhfnaa.M
open Go.RowKit Go.Proofs.YtendmmagjjhfnaaW.PrintWords Go.Proofs.YtendmmagjjhfnaaW.PrintLast Go.Proofs.YtendmmagjjhfnaaW.PrintMore
set_option linter.unusedVariables false
set_option linter.unusedSimpArgs false
theorem putObj_below {n l : Nat} {A : World} {o' : Obj} (h : n ≤ l) : Below n A (A.putObj l o') :=
  ⟨rfl, rfl, rfl, by simp [World.putObj], fun k hk => World.putObj_heap_other (by omega)⟩
theorem KpW.refl (n0 : Nat) (W : World) : KpW n0 W W := ⟨Nat.le_refl _, fun _ _ _ _ _ _ _ => rfl, Below.refl _ _⟩
theorem KpW.trans {n0 : Nat} {A B C : World} (h : KpW n0 A B) (k : KpW n0 B C) : KpW n0 A C :=
  ⟨Nat.le_trans h.1 k.1, fun i cs t fr hi h3 h31 => by
    have e := h.2.1 i cs t fr hi h3 h31
    exact (k.2.1 i cs t fr (e.trans hi) h3 h31).trans e, h.2.2.trans k.2.2⟩
theorem KpW.putObj {n0 l : Nat} {W : World} {o : Obj} (o' : Obj) (h : W.heap[l]? = some o) (ho : o.isCells = false) (hl : n0 ≤ l) : KpW n0 W (W.putObj l o') :=
  ⟨by simp [World.putObj], fun i cs t fr hi _ _ => World.putObj_heap_other (fun e => by subst e; rw [h] at hi; cases hi; cases ho), putObj_below hl⟩
def roundWk (n0 : Nat) (I : List (Int × Int) → World → Prop) (Ix : World → Prop) (pre : List (Int × Int)) (b p : Int) (W : World) : Exit → Act → World → Prop
  | .normal, _, W' => KeepsOthers W W' ∧ KpW n0 W W' ∧ pre.length ≠ 2000 ∧ I (pre ++ [(b, p)]) W'
  | .ret, _, W' => KeepsOthers W W' ∧ pre.length = 2000 ∧ Ix W'
  | _, _, _ => False
set_option maxHeartbeats 4000000 in
theorem wpIn_range_wk {g : Operand} {ps : Array Tmp} {assign body : Code} {Q : Exit → Act → World → Prop} {a : Act} {w : World} (n k fuel Bl : Nat) (A0 : Option Addr) (c0 : Nat) (l : List S38) (s c j : Int) (res : List (Int × Int) × Bool) (V : World)
    (hg : a.eval g = .func (.func 46) #[] #[.pointer (some ⟨Bl, 0, none⟩)]) (hps : ps.size = 2)
    (hV : Below V.heap.size V w) (hC : Kd.C k38 V A0 l.length l) (hc0 : l.length ≤ c0) (hm : l.length ≤ 140737488351232) (hBl : w.heap[Bl]? = some (.cells #[.slice A0 l.length c0] 22 (0, 0)))
    (hf : turns_found.f l = some (s, c, j)) (hwk : wkL k l s c fuel ⟨0, 1, 0, false, 0, false, false⟩ [] = some res)
    (I : List (Int × Int) → World → Prop) (Ix : World → Prop)
    (hIa : ∀ pre A B, I pre A → Below A.heap.size A B → I pre B)
    (hIg : ∀ pre A B (g : Nat) (cs : Array Value) (fr : Nat × Nat), I pre A → A.heap[g]? = some (.cells cs 71 fr) → V.heap.size ≤ g → KeepBut A B g none → Below V.heap.size A B → I pre B)
    (hIp : ∀ pre A (L : Nat) (o o' : Obj), I pre A → A.heap[L]? = some o → o.isCells = false → V.heap.size ≤ L → I pre (A.putObj L o'))
    (hXp : ∀ A (L : Nat) (o o' : Obj), Ix A → A.heap[L]? = some o → o.isCells = false → V.heap.size ≤ L → Ix (A.putObj L o'))
    (h0 : I [] w) (a₁ : Int → Int → Act)
    (hassign : ∀ (L : Nat) (b p : Int) (W : World) (K : Act → World → Prop), K (a₁ b p) W →
      assign.wpIn (Fence.wide.inRound L) n Try.prog (Exit.then K (fun _ _ _ => False)) { tmps := (ps.zip #[.int .i64 b, .int .i64 p]).foldl (fun t (q, v) => t.setIfInBounds q v) a.tmps, defers := [] } W)
    (hbody : ∀ (L : Nat) (pre : List (Int × Int)) (b p : Int) (W : World), I pre W → body.wpIn (Fence.wide.inRound L) n Try.prog (roundWk V.heap.size I Ix pre b p W) (a₁ b p) W)
    (hdone : ∀ (D : Nat) (W : World), V.heap.size ≤ D → res.2 = false → I res.1 W → W.heap[D]? = some (.deferred (some [])) → Q .normal { a with defers := { target := .collected D, args := #[] } :: a.defers } W)
    (hstop : ∀ (D : Nat) (W : World), V.heap.size ≤ D → res.2 = true → Ix W → W.heap[D]? = some (.deferred (some [])) → Code.ret.wpIn Fence.wide n Try.prog Q { a with defers := { target := .collected D, args := #[] } :: a.defers } W) :
    (Code.rangeFunc g ps assign body).wpIn Fence.wide n Try.prog Q a w := by
  refine wpIn_rangeFunc ?_
  intro fn hfn
  rw [Fence.wide_round]
  have hVw : V.heap.size ≤ w.heap.size := hV.size
  obtain ⟨rec, hrec⟩ : ∃ rec : LoopState → Option Code → Loop, rec = fun st pe => { state := st, pending := pe, fn, tmps := a.tmps, params := ps, assign, body, defers := w.heap.size } := ⟨_, rfl⟩
  obtain ⟨W1, hW1⟩ : ∃ W1, (w.alloc (.deferred (some []))).alloc (.loop (rec .ready none)) = W1 := ⟨_, rfl⟩
  have hL1 : W1.heap[w.heap.size + 1]? = some (.loop (rec .ready none)) := by
    rw [← hW1]; have := World.alloc_heap_new (w.alloc (.deferred (some []))) (.loop (rec .ready none)); rwa [World.size_alloc] at this
  have hK1 : W1.heap[w.heap.size]? = some (.deferred (some [])) := by
    rw [← hW1]; exact (Below.heap_alloc _ _ _ (by simp)).trans (World.alloc_heap_new w _)
  have hb01 : Below w.heap.size w W1 := by
    rw [← hW1]; exact ((Below.refl _ w).alloc (Nat.le_refl _) _).alloc (by simp) _
  have hI1 : I [] W1 := hIa _ _ _ h0 hb01
  have hV1 : Below V.heap.size V W1 := hV.trans (hb01.mono hVw)
  have hBl1 : W1.heap[Bl]? = some (.cells #[.slice A0 l.length c0] 22 (0, 0)) := (hb01.block _ (lt_of_block hBl)).trans hBl
  refine ⟨w.heap.size + 1, [{ target := .collected w.heap.size, args := #[] }], W1, { target := .fn (.func 46) #[.pointer (some ⟨Bl, 0, none⟩)], args := #[.func (.yield (w.heap.size + 1)) #[] #[]] }, W1, 46,
    #[.func (.yield (w.heap.size + 1)) #[] #[], .pointer (some ⟨Bl, 0, none⟩)], W1, ?_, ?_, ?_, ?_, ?_, ?_⟩
  · rw [← hW1, hrec]; exact run_enterLoop_outer _ _ _ _ _
  · simp only [resolve, hg]
    simp [go_sem]
  · intro f' hf'; trivial
  · have eg := enters_of (P := Try.prog) Try.func46 (by kernel_rfl) rfl
    simp [invoke, go_sem, eg]
  · intro h; cases h
  · refine (callsIn_wide.2 (played_any n k fuel (w.heap.size + 1) Bl A0 c0 l s c j res
      (fun pre W => I pre W ∧ W.heap[w.heap.size + 1]? = some (.loop (rec .ready none)) ∧ W.heap[w.heap.size]? = some (.deferred (some [])))
      (fun W => Ix W ∧ W.heap[w.heap.size + 1]? = some (.loop (rec .done (some .ret))) ∧ W.heap[w.heap.size]? = some (.deferred (some [])))
      V W1 hV1 hC hc0 hm hBl1 hf ⟨?_, ?_⟩ ?_ ⟨hI1, hL1, hK1⟩ hwk)).mono ?_
    · rintro pre A B ⟨hi, hl, hk⟩ hb
      exact ⟨hIa _ _ _ hi hb, (hb.block _ (lt_of_block hl)).trans hl, (hb.block _ (lt_of_block hk)).trans hk⟩
    · rintro pre A B g' cs fr ⟨hi, hl, hk⟩ hcs hg' hkb hbl
      refine ⟨hIg _ _ _ _ _ _ hi hcs hg' hkb hbl, ?_, ?_⟩
      · exact (hkb.2 _ (lt_of_block hl) (fun e => by rw [e, hcs] at hl; cases hl) (by simp)).trans hl
      · exact (hkb.2 _ (lt_of_block hk) (fun e => by rw [e, hcs] at hk; cases hk) (by simp)).trans hk
    ·
      rintro pre b p W ⟨hi, hl, hk⟩
      have hlt : w.heap.size + 1 < W.heap.size := (Array.getElem?_eq_some_iff.1 hl).1
      have hy := run_yield (P := Try.prog) (args := #[.int .i64 b, .int .i64 p]) hl (by rw [hrec]; exact hps.symm)
      rw [hrec] at hy
      refine ⟨fn, _, assign, body, hy, roundIn_of_wpIn hfn (hassign _ b p W _ ⟨_, run_beginRound hl (by rw [hrec]), ?_⟩)⟩
      have hl2 : (W.putObj (w.heap.size + 1) (.loop { rec .ready none with state := .busy })).heap[w.heap.size + 1]? = some (.loop { rec .ready none with state := .busy }) := World.putObj_heap_same hlt
      have hk2 : (W.putObj (w.heap.size + 1) (.loop { rec .ready none with state := .busy })).heap[w.heap.size]? = some (.deferred (some [])) := (World.putObj_heap_other (by omega)).trans hk
      have hw2 : KpW V.heap.size W (W.putObj (w.heap.size + 1) (.loop { rec .ready none with state := .busy })) := KpW.putObj _ hl rfl (by omega)
      refine wpIn_mono (hbody _ pre b p _ (hIp _ _ _ _ _ hi hl rfl (by omega))) ?_
      have fin : ∀ (jump : Option Code) (W3 : World), KeepsOthers (W.putObj (w.heap.size + 1) (.loop { rec .ready none with state := .busy })) W3 →
          (Instr.endRound (w.heap.size + 1) jump).run Try.prog W3 = .ok (.bool jump.isNone) (W3.putObj (w.heap.size + 1) (.loop (rec (if jump.isNone then .ready else .done) jump))) ∧
          W3.heap[w.heap.size + 1]? = some (.loop { rec .ready none with state := .busy }) ∧
          (W3.putObj (w.heap.size + 1) (.loop (rec (if jump.isNone then .ready else .done) jump))).heap[w.heap.size + 1]? = some (.loop (rec (if jump.isNone then .ready else .done) jump)) ∧
          (W3.putObj (w.heap.size + 1) (.loop (rec (if jump.isNone then .ready else .done) jump))).heap[w.heap.size]? = some (.deferred (some [])) := fun jump W3 hk3 => by
        have hl3 := hk3.same _ _ hl2 rfl
        have := run_endRound (P := Try.prog) jump hl3
        rw [hrec] at this ⊢
        exact ⟨this, by rw [hrec] at hl3; exact hl3, World.putObj_heap_same (Array.getElem?_eq_some_iff.1 hl3).1, (World.putObj_heap_other (by omega)).trans (hk3.same _ _ hk2 rfl)⟩
      rintro e a3 W3 hp
      cases e with
      | normal =>
        obtain ⟨hk3, hkp3, hn3, hi3⟩ := hp
        obtain ⟨hr, hl3, hl4, hk4⟩ := fin none W3 hk3
        exact ⟨_, _, hr, .inl ⟨hn3, rfl, ⟨hIp _ _ _ _ _ hi3 hl3 rfl (by omega), hl4, hk4⟩, (hw2.trans hkp3).trans (KpW.putObj _ hl3 rfl (by omega))⟩⟩
      | ret =>
        obtain ⟨hk3, hn3, hi3⟩ := hp
        obtain ⟨hr, hl3, hl4, hk4⟩ := fin (some .ret) W3 hk3
        exact ⟨_, _, hr, .inr ⟨hn3, rfl, hXp _ _ _ _ hi3 hl3 rfl (by omega), hl4, hk4⟩⟩
      | exit id => exact hp.elim
      | goto t => exact hp.elim
      | panic ch => exact hp.elim
      | outgrown => exact hp.elim
    · rintro e W2 ⟨rfl, (⟨hr, hi, hl, hk⟩ | ⟨hr, hi, hl, hk⟩)⟩
      · exact ⟨none, _, by have := run_endLoop (P := Try.prog) hl (by rw [hrec]; simp); rw [hrec] at this; exact this, hdone _ _ hVw hr (hIp _ _ _ _ _ hi hl rfl (by omega)) ((World.putObj_heap_other (by omega)).trans hk)⟩
      · exact ⟨some .ret, _, by have := run_endLoop (P := Try.prog) hl (by rw [hrec]; simp); rw [hrec] at this; exact this, hstop _ _ hVw hr (hXp _ _ _ _ hi hl rfl (by omega)) ((World.putObj_heap_other (by omega)).trans hk)⟩
end Go.Proofs.Ytendmmagjjhfnaa.M
namespace Go.Proofs.Ytendmmagjjhfnaa.M
open Go.RowKit Go.Proofs.YtendmmagjjhfnaaW.PrintWords Go.Proofs.YtendmmagjjhfnaaW.PrintLast Go.Proofs.YtendmmagjjhfnaaW.PrintMore
set_option linter.unusedVariables false
set_option linter.unusedSimpArgs false
def RowsOf (n0 : Nat) (W : World) (v1 v2 : Value) (xs1 xs2 : List Value) : Prop :=
  W.ownsRow n0 3 1 v1 xs1.length xs1 ∧ W.ownsRow n0 3 1 v2 xs2.length xs2 ∧ (∀ k, v1.ownBlock = some k → v2.ownBlock ≠ some k)
def BoxesOf (n0 : Nat) (W : World) (v1 v2 : Value) (r : Int) : Prop := Boxed W n0 31 v1 ∧ Boxed W (n0 + 1) 31 v2 ∧ Boxed W (n0 + 1 + 1) 28 (.int .i64 r)
def IW (n0 : Nat) (V : World) (pre : List (Int × Int)) (W : World) : Prop :=
  ∃ v1 v2, BoxesOf n0 W v1 v2 0 ∧ RowsOf n0 W v1 v2 (nums .i64 (pre.map Prod.fst)) (nums .i64 (pre.map Prod.snd)) ∧ pre.length ≤ 2000 ∧ Below n0 V W
def IxW (n0 : Nat) (V : World) (W : World) : Prop := BoxesOf n0 W (.slice none 0 0) (.slice none 0 0) 101 ∧ Below n0 V W
def Rl (n0 : Nat) (W X : World) : Prop := KeepsOthers W X ∧ KpW n0 W X
theorem own_ge {w : World} {base : Nat} {e : TypeId} {size n : Nat} {v : Value} {xs : List Value} (h : w.ownsRow base e size v n xs) (k : Nat) (hk : v.ownBlock = some k) : base ≤ k ∧ ∃ cells, w.heap[k]? = some (.cells cells e (0, 0)) := by
  rcases h.2 with ⟨rfl, _⟩ | ⟨g, cap, cur, rfl, hg, hh, r⟩
  · simp [Value.ownBlock] at hk
  · have : g = k := by simpa [Value.ownBlock] using hk
    subst this
    exact ⟨hg, cur, hh⟩
theorem own_form {w : World} {base : Nat} {e : TypeId} {size n : Nat} {v : Value} {xs : List Value} (h : w.ownsRow base e size v n xs) : ∃ A cap, v = .slice A n cap := by
  rcases h.2 with ⟨rfl, rfl⟩ | ⟨g, cap, cur, rfl, _⟩
  · exact ⟨none, 0, rfl⟩
  · exact ⟨_, cap, rfl⟩
theorem boxes_keep {n0 : Nat} {W X : World} {v1 v2 : Value} {r : Int} (h : BoxesOf n0 W v1 v2 r) (hk : ∀ (i : Nat) (cs : Array Value) (t : TypeId) (fr : Nat × Nat), W.heap[i]? = some (.cells cs t fr) → t = 31 ∨ t = 28 → X.heap[i]? = W.heap[i]?) : BoxesOf n0 X v1 v2 r :=
  ⟨(hk _ _ _ _ h.1 (.inl rfl)).trans h.1, (hk _ _ _ _ h.2.1 (.inl rfl)).trans h.2.1, (hk _ _ _ _ h.2.2 (.inr rfl)).trans h.2.2⟩
theorem rows_keep {n0 : Nat} {W X : World} {v1 v2 : Value} {xs1 xs2 : List Value} (h : RowsOf n0 W v1 v2 xs1 xs2) (hk : ∀ (i : Nat) (cs : Array Value) (t : TypeId) (fr : Nat × Nat), W.heap[i]? = some (.cells cs t fr) → t = 3 → X.heap[i]? = W.heap[i]?) : RowsOf n0 X v1 v2 xs1 xs2 :=
  ⟨own_move h.1 fun k hk1 => by obtain ⟨_, c, hc⟩ := own_ge h.1 k hk1; exact hk _ _ _ _ hc rfl,
   own_move h.2.1 fun k hk1 => by obtain ⟨_, c, hc⟩ := own_ge h.2.1 k hk1; exact hk _ _ _ _ hc rfl, h.2.2⟩
theorem iw_keep {n0 : Nat} {V : World} {pre : List (Int × Int)} {A B : World} (h : IW n0 V pre A) (hb : Below n0 A B) (hk : ∀ (i : Nat) (cs : Array Value) (t : TypeId) (fr : Nat × Nat), A.heap[i]? = some (.cells cs t fr) → t = 31 ∨ t = 28 ∨ t = 3 → B.heap[i]? = A.heap[i]?) : IW n0 V pre B := by
  obtain ⟨v1, v2, h1, h2, h3, h4⟩ := h
  exact ⟨v1, v2, boxes_keep h1 (fun i cs t fr hi ht => hk i cs t fr hi (by rcases ht with h | h; exact .inl h; exact .inr (.inl h))), rows_keep h2 (fun i cs t fr hi ht => hk i cs t fr hi (.inr (.inr ht))), h3, h4.trans hb⟩
theorem iw_a {n0 : Nat} {V : World} (hn : n0 ≤ V.heap.size) (pre : List (Int × Int)) (A B : World) (h : IW n0 V pre A) (hb : Below A.heap.size A B) : IW n0 V pre B :=
  iw_keep h (hb.mono (by obtain ⟨_, _, _, _, _, h4⟩ := h; exact Nat.le_trans hn h4.size)) fun i cs t fr hi _ => hb.block i (lt_of_block hi)
theorem iw_g {n0 : Nat} {V : World} (pre : List (Int × Int)) (A B : World) (g : Nat) (cs : Array Value) (fr : Nat × Nat) (h : IW n0 V pre A) (hg : A.heap[g]? = some (.cells cs 71 fr)) (hk : KeepBut A B g none) (hb : Below n0 A B) : IW n0 V pre B :=
  iw_keep h hb fun i cs' t fr' hi ht => hk.2 i (lt_of_block hi) (fun e => by subst e; rw [hg] at hi; cases hi; rcases ht with h | h | h <;> cases h) (by simp)
theorem iw_p {n0 : Nat} {V : World} (pre : List (Int × Int)) (A : World) (L : Nat) (o o' : Obj) (h : IW n0 V pre A) (hL : A.heap[L]? = some o) (ho : o.isCells = false) (hn : n0 ≤ L) : IW n0 V pre (A.putObj L o') :=
  iw_keep h (putObj_below hn) fun i cs t fr hi _ => World.putObj_heap_other (fun e => by subst e; rw [hL] at hi; cases hi; cases ho)
theorem ixw_p {n0 : Nat} {V : World} (A : World) (L : Nat) (o o' : Obj) (h : IxW n0 V A) (hL : A.heap[L]? = some o) (ho : o.isCells = false) (hn : n0 ≤ L) : IxW n0 V (A.putObj L o') :=
  ⟨boxes_keep h.1 (fun i cs t fr hi _ => World.putObj_heap_other (fun e => by subst e; rw [hL] at hi; cases hi; cases ho)), h.2.trans (putObj_below hn)⟩
theorem Rl.refl (n0 : Nat) (W : World) : Rl n0 W W := ⟨KeepsOthers.refl W, KpW.refl n0 W⟩
theorem Rl.trans {n0 : Nat} {A B C : World} (h : Rl n0 A B) (k : Rl n0 B C) : Rl n0 A C := ⟨h.1.trans k.1, h.2.trans k.2⟩
theorem rl_alloc {n0 : Nat} (W : World) (o : Obj) (hn : n0 ≤ W.heap.size) : Rl n0 W (W.alloc o) :=
  ⟨KeepsOthers.alloc W o, by simp, fun i cs t fr hi _ _ => Below.heap_alloc _ _ _ (lt_of_block hi), ((Below.refl n0 W).alloc hn o)⟩
theorem rl_drew {n0 : Nat} (W : World) : Rl n0 W W.drew := ⟨KeepsOthers.drew W, Nat.le_refl _, fun _ _ _ _ _ _ _ => rfl, (Below.refl n0 W).drew⟩
theorem rl_set {n0 B : Nat} {W : World} {u : Value} (v : Value) (hB : Boxed W B 31 u) (hn : n0 ≤ B) : Rl n0 W (W.setCell ⟨B, 0, none⟩ v) :=
  ⟨KeepsOthers.setCell _ _ _, by simp [World.setCell], fun i cs t fr hi _ h31 => Below.heap_setCell _ _ _ _ (fun e => by subst e; rw [show W.heap[i]? = _ from hB] at hi; cases hi; exact h31 rfl), (Below.refl n0 W).setCell (p := ⟨B, 0, none⟩) hn v⟩
theorem rl_grown {n0 n : Nat} {W X : World} {v : Value} {xs : List Value} (ho : W.ownsRow n0 3 1 v n xs) (hg : W.grownBy X v.ownBlock) (hn : n0 ≤ W.heap.size) : Rl n0 W X := by
  refine ⟨KeepsOthers.of_grownBy hg fun j o ej hj => ?_, hg.size, fun i cs t fr hi h3 _ => hg.block i (lt_of_block hi) (fun e => ?_), hg.os, hg.tape, hg.output, hg.size, fun k hk => hg.block k (by omega) (fun e => ?_)⟩
  · obtain ⟨_, c, hc⟩ := own_ge ho j ej
    rw [hc] at hj; cases hj; rfl
  · obtain ⟨_, c, hc⟩ := own_ge ho i e.symm
    rw [hc] at hi; cases hi; exact h3 rfl
  · obtain ⟨hb, _⟩ := own_ge ho k e.symm
    omega
theorem grown_blk {W X : World} {v : Value} (hg : W.grownBy X v.ownBlock) {i : Nat} {o : Obj} (h : W.heap[i]? = some o) (hne : v.ownBlock ≠ some i) : X.heap[i]? = some o :=
  (hg.block i (lt_of_block h) (fun e => hne e.symm)).trans h
theorem boxes_grown {n0 n : Nat} {W X : World} {v v1 v2 : Value} {xs : List Value} {r : Int} (h : BoxesOf n0 W v1 v2 r) (ho : W.ownsRow n0 3 1 v n xs) (hg : W.grownBy X v.ownBlock) : BoxesOf n0 X v1 v2 r :=
  boxes_keep h fun i cs t fr hi ht => hg.block i (lt_of_block hi) (fun e => by obtain ⟨_, c, hc⟩ := own_ge ho i e.symm; rw [hc] at hi; cases hi; rcases ht with h | h <;> cases h)
theorem own_grown {n0 m : Nat} {W X : World} {v v' : Value} {ys : List Value} (h : W.ownsRow n0 3 1 v' m ys) (hg : W.grownBy X v.ownBlock) (hne : ∀ k, v.ownBlock = some k → v'.ownBlock ≠ some k) : X.ownsRow n0 3 1 v' m ys :=
  own_move h fun k hk => by obtain ⟨_, c, hc⟩ := own_ge h k hk; exact hg.block k (lt_of_block hc) (fun e => hne k e.symm hk)
theorem nums_len (xs : List Int) : (nums .i64 xs).length = xs.length := by simp [nums]
theorem boxes_alloc {n0 : Nat} {W : World} {v1 v2 : Value} {r : Int} (h : BoxesOf n0 W v1 v2 r) (o : Obj) : BoxesOf n0 (W.alloc o) v1 v2 r := ⟨h.1.alloc o, h.2.1.alloc o, h.2.2.alloc o⟩
theorem own_alloc {n0 n : Nat} {W : World} {v : Value} {xs : List Value} (h : W.ownsRow n0 3 1 v n xs) (o : Obj) : (W.alloc o).ownsRow n0 3 1 v n xs :=
  own_move h fun k hk => by obtain ⟨_, c, hc⟩ := own_ge h k hk; exact Below.heap_alloc _ _ _ (lt_of_block hc)
theorem size_alloc1 {n0 : Nat} {W : World} {o : Obj} (h : n0 ≤ W.heap.size) : n0 ≤ (W.drew.alloc o).heap.size := by simp; omega
theorem size_alloc2 {n0 : Nat} {W : World} {o o' : Obj} (h : n0 ≤ W.heap.size) : n0 ≤ ((W.drew.alloc o).alloc o').heap.size := by simp; omega
theorem blk_new2 (W : World) (o o' : Obj) : ((W.alloc o).alloc o').heap[W.heap.size + 1]? = some o' := by
  have := heap_alloc_new (W.alloc o) o'
  rwa [World.size_alloc] at this
def Aft (n0 : Nat) (W : World) (v1 v2 : Value) (xs1 xs2 : List Value) (m1 m2 : Nat) (p : Int) (s : Nat × Value × Nat) (X : World) : Prop :=
  BoxesOf n0 X v1 v2 0 ∧ X.ownsRow n0 3 1 s.2.1 m1 xs1 ∧ X.ownsRow n0 3 1 v2 m2 xs2 ∧ (∀ k, s.2.1.ownBlock = some k → v2.ownBlock ≠ some k) ∧
    X.heap[s.2.2]? = some (.cells #[.int .i64 p] 3 (0, 0)) ∧ s.2.1.ownBlock ≠ some s.2.2 ∧ v2.ownBlock ≠ some s.2.2 ∧ n0 ≤ s.2.2 ∧ Rl n0 W X ∧ W.heap.size ≤ X.heap.size ∧ (∃ gg cap, s.2.1 = .slice (some ⟨gg, 0, none⟩) m1 cap)
theorem app1 {n0 n m gg : Nat} {X0 X1 : World} {v1 v2 : Value} {xs1 xs2 : List Value} (hB : BoxesOf n0 X0 v1 v2 0) (h1 : X0.ownsRow n0 3 1 v1 n xs1) (h2 : X0.ownsRow n0 3 1 v2 m xs2) (hd : ∀ k, v1.ownBlock = some k → v2.ownBlock ≠ some k) (hn : n0 ≤ X0.heap.size)
    (hg : X0.grownBy X1 v1.ownBlock) (hat : v1.ownBlock = some gg ∨ gg = X0.heap.size) :
    BoxesOf n0 X1 v1 v2 0 ∧ X1.ownsRow n0 3 1 v2 m xs2 ∧ v2.ownBlock ≠ some gg ∧ Rl n0 X0 X1 ∧ (∀ (i : Nat) (o : Obj), X0.heap[i]? = some o → v1.ownBlock ≠ some i → X1.heap[i]? = some o ∧ gg ≠ i) := by
  refine ⟨boxes_grown hB h1 hg, own_grown h2 hg hd, ?_, rl_grown h1 hg hn, fun i o hi hne => ⟨grown_blk hg hi hne, ?_⟩⟩
  · rcases hat with h | h
    · exact hd gg h
    · intro e
      obtain ⟨_, c, hc⟩ := own_ge h2 gg e
      have := lt_of_block hc
      omega
  · rintro rfl
    rcases hat with h | h
    · exact hne h
    · have := lt_of_block hi
      omega
theorem own_lt {n0 n : Nat} {W : World} {v : Value} {xs : List Value} (h : W.ownsRow n0 3 1 v n xs) {k : Nat} (hk : W.heap.size ≤ k) : v.ownBlock ≠ some k := by
  intro e
  obtain ⟨_, c, hc⟩ := own_ge h k e
  have := lt_of_block hc
  omega
section
variable {n0 n1 n2 gg cap A : Nat} {W X1 : World} {v1 v2 : Value} {xs1 xs2 : List Value} {b p : Int}
theorem aft1 (hB : BoxesOf n0 W v1 v2 0) (h1 : W.ownsRow n0 3 1 v1 n1 xs1) (h2 : W.ownsRow n0 3 1 v2 n2 xs2) (hd : ∀ k, v1.ownBlock = some k → v2.ownBlock ≠ some k) (hn : n0 ≤ W.heap.size)
    (ho : X1.ownsRow n0 3 1 (.slice (some ⟨gg, 0, none⟩) (n1 + 1) cap) (n1 + 1) (xs1 ++ [.int .i64 b])) (hg : (W.drew.alloc (.cells #[.int .i64 b] 3)).grownBy X1 v1.ownBlock) (hat : v1.ownBlock = some gg ∨ gg = (W.drew.alloc (.cells #[.int .i64 b] 3)).heap.size) :
    Aft n0 W v1 v2 (xs1 ++ [.int .i64 b]) xs2 (n1 + 1) n2 p (A, .slice (some ⟨gg, 0, none⟩) (n1 + 1) cap, X1.heap.size) (X1.alloc (.cells #[.int .i64 p] 3)) := by
  obtain ⟨a1, a2, a3, a4, a5⟩ := app1 (boxes_alloc (W := W.drew) hB _) (own_alloc (W := W.drew) h1 _) (own_alloc (W := W.drew) h2 _) hd (size_alloc1 hn) hg hat
  have hs := hg.size
  rw [World.size_alloc] at hs
  have hs' : W.heap.size + 1 ≤ X1.heap.size := hs
  refine ⟨boxes_alloc a1 _, own_alloc ho _, own_alloc a2 _, ?_, heap_alloc_new _ _, own_lt ho (Nat.le_refl _), own_lt a2 (Nat.le_refl _), (show n0 ≤ X1.heap.size by omega), ?_, by simp; omega, _, _, rfl⟩
  · intro k hk e
    simp [Value.ownBlock] at hk
    subst hk
    exact a3 e
  · exact (((rl_drew W).trans (rl_alloc W.drew _ hn)).trans a4).trans (rl_alloc _ _ (by omega))
theorem aft2 (hB : BoxesOf n0 W v1 v2 0) (h1 : W.ownsRow n0 3 1 v1 n1 xs1) (h2 : W.ownsRow n0 3 1 v2 n2 xs2) (hd : ∀ k, v1.ownBlock = some k → v2.ownBlock ≠ some k) (hn : n0 ≤ W.heap.size)
    (ho : X1.ownsRow n0 3 1 (.slice (some ⟨gg, 0, none⟩) (n1 + 1) cap) (n1 + 1) (xs1 ++ [.int .i64 b])) (hg : ((W.drew.alloc (.cells #[.int .i64 b] 3)).alloc (.cells #[.int .i64 p] 3)).grownBy X1 v1.ownBlock) (hat : v1.ownBlock = some gg ∨ gg = ((W.drew.alloc (.cells #[.int .i64 b] 3)).alloc (.cells #[.int .i64 p] 3)).heap.size) :
    Aft n0 W v1 v2 (xs1 ++ [.int .i64 b]) xs2 (n1 + 1) n2 p (A, .slice (some ⟨gg, 0, none⟩) (n1 + 1) cap, W.heap.size + 1) X1 := by
  obtain ⟨a1, a2, a3, a4, a5⟩ := app1 (boxes_alloc (boxes_alloc (W := W.drew) hB _) _) (own_alloc (own_alloc (W := W.drew) h1 _) _) (own_alloc (own_alloc (W := W.drew) h2 _) _) hd (size_alloc2 hn) hg hat
  have hs := hg.size
  rw [World.size_alloc, World.size_alloc] at hs
  have hs' : W.heap.size + 1 + 1 ≤ X1.heap.size := hs
  have hq : v1.ownBlock ≠ some (W.heap.size + 1) := own_lt h1 (by omega)
  obtain ⟨b1, b2⟩ := a5 (W.heap.size + 1) _ (blk_new2 W.drew _ _) hq
  refine ⟨a1, ho, a2, ?_, b1, ?_, own_lt h2 (show W.heap.size ≤ W.heap.size + 1 by omega), (show n0 ≤ W.heap.size + 1 by omega), ?_, by omega, _, _, rfl⟩
  · intro k hk e
    simp [Value.ownBlock] at hk
    subst hk
    exact a3 e
  · simpa [Value.ownBlock] using b2
  · exact ((((rl_drew W).trans (rl_alloc W.drew _ hn)).trans (rl_alloc _ _ (size_alloc1 hn))).trans a4)
theorem aft3 (hB : BoxesOf n0 W v1 v2 0) (h1 : W.ownsRow n0 3 1 v1 n1 xs1) (h2 : W.ownsRow n0 3 1 v2 n2 xs2) (hd : ∀ k, v1.ownBlock = some k → v2.ownBlock ≠ some k) (hn : n0 ≤ W.heap.size)
    (ho : X1.ownsRow n0 3 1 (.slice (some ⟨gg, 0, none⟩) (n1 + 1) cap) (n1 + 1) (xs1 ++ [.int .i64 b])) (hg : ((W.drew.alloc (.cells #[.int .i64 p] 3)).alloc (.cells #[.int .i64 b] 3)).grownBy X1 v1.ownBlock) (hat : v1.ownBlock = some gg ∨ gg = ((W.drew.alloc (.cells #[.int .i64 p] 3)).alloc (.cells #[.int .i64 b] 3)).heap.size) :
    Aft n0 W v1 v2 (xs1 ++ [.int .i64 b]) xs2 (n1 + 1) n2 p (A, .slice (some ⟨gg, 0, none⟩) (n1 + 1) cap, W.heap.size) X1 := by
  obtain ⟨a1, a2, a3, a4, a5⟩ := app1 (boxes_alloc (boxes_alloc (W := W.drew) hB _) _) (own_alloc (own_alloc (W := W.drew) h1 _) _) (own_alloc (own_alloc (W := W.drew) h2 _) _) hd (size_alloc2 hn) hg hat
  have hs := hg.size
  rw [World.size_alloc, World.size_alloc] at hs
  have hs' : W.heap.size + 1 + 1 ≤ X1.heap.size := hs
  have hq : v1.ownBlock ≠ some W.heap.size := own_lt h1 (Nat.le_refl _)
  obtain ⟨b1, b2⟩ := a5 W.heap.size _ ((Below.heap_alloc _ _ _ (by simp)).trans (heap_alloc_new W.drew _)) hq
  refine ⟨a1, ho, a2, ?_, b1, ?_, own_lt h2 (Nat.le_refl _), hn, ?_, by omega, _, _, rfl⟩
  · intro k hk e
    simp [Value.ownBlock] at hk
    subst hk
    exact a3 e
  · simpa [Value.ownBlock] using b2
  · exact ((((rl_drew W).trans (rl_alloc W.drew _ hn)).trans (rl_alloc _ _ (size_alloc1 hn))).trans a4)
theorem fin9 {m1 gg2 cap2 : Nat} {X X2 : World} {s : Nat × Value × Nat} {zs1 : List Value} (h : Aft n0 W v1 v2 zs1 xs2 m1 n2 p s X) (ho : X2.ownsRow n0 3 1 (.slice (some ⟨gg2, 0, none⟩) (n2 + 1) cap2) (n2 + 1) (xs2 ++ [.int .i64 p])) (hg : X.grownBy X2 v2.ownBlock) (hat : v2.ownBlock = some gg2 ∨ gg2 = X.heap.size) :
    BoxesOf n0 X2 v1 v2 0 ∧ X2.ownsRow n0 3 1 s.2.1 m1 zs1 ∧ X2.ownsRow n0 3 1 (.slice (some ⟨gg2, 0, none⟩) (n2 + 1) cap2) (n2 + 1) (xs2 ++ [.int .i64 p]) ∧ s.2.1.ownBlock ≠ some gg2 ∧ Rl n0 W X2 := by
  obtain ⟨c1, c2, c3, c4, c5, c6, c7, c8, c9, c10, _⟩ := h
  refine ⟨boxes_grown c1 c3 hg, own_grown c2 hg (fun k hk e => c4 k e hk), ho, ?_, c9.trans (rl_grown c3 hg (Nat.le_trans c8 (Nat.le_of_lt (lt_of_block c5))))⟩
  rcases hat with h | h
  · intro e
    exact c4 gg2 e h
  · exact own_lt c2 (by omega)
end
theorem fin10 {n0 gg2 cap2 : Nat} {V W X2 : World} {v1 v2 u1 : Value} {pre : List (Int × Int)} {b p : Int} (hn : n0 ≤ X2.heap.size)
    (h : BoxesOf n0 X2 v1 v2 0 ∧ X2.ownsRow n0 3 1 u1 (pre.length + 1) (nums .i64 (pre.map Prod.fst) ++ [.int .i64 b]) ∧ X2.ownsRow n0 3 1 (.slice (some ⟨gg2, 0, none⟩) (pre.length + 1) cap2) (pre.length + 1) (nums .i64 (pre.map Prod.snd) ++ [.int .i64 p]) ∧ u1.ownBlock ≠ some gg2 ∧ Rl n0 W X2)
    (hV : Below n0 V W) (hl : pre.length < 2000) :
    Rl n0 W ((X2.setCell ⟨n0, 0, none⟩ u1).setCell ⟨n0 + 1, 0, none⟩ (.slice (some ⟨gg2, 0, none⟩) (pre.length + 1) cap2)) ∧
      IW n0 V (pre ++ [(b, p)]) ((X2.setCell ⟨n0, 0, none⟩ u1).setCell ⟨n0 + 1, 0, none⟩ (.slice (some ⟨gg2, 0, none⟩) (pre.length + 1) cap2)) := by
  obtain ⟨h1, h2, h3, h4, h5⟩ := h
  have r1 : Rl n0 X2 (X2.setCell ⟨n0, 0, none⟩ u1) := rl_set u1 h1.1 (Nat.le_refl _)
  have b1 : Boxed (X2.setCell ⟨n0, 0, none⟩ u1) (n0 + 1) 31 v2 := h1.2.1.other (by omega) _
  have r2 := r1.trans (rl_set (.slice (some ⟨gg2, 0, none⟩) (pre.length + 1) cap2) b1 (by omega))
  refine ⟨h5.trans r2, u1, .slice (some ⟨gg2, 0, none⟩) (pre.length + 1) cap2, ⟨(h1.1.set u1).other (by omega) _, b1.set _, (h1.2.2.other (by omega) _).other (by omega) _⟩, ?_, by simp; omega, (hV.trans h5.2.2.2).trans r2.2.2.2⟩
  have mv : ∀ i : Nat, (∃ cells : Array Value, X2.heap[i]? = some (Obj.cells cells 3 (0, 0))) → ((X2.setCell ⟨n0, 0, none⟩ u1).setCell ⟨n0 + 1, 0, none⟩ (.slice (some ⟨gg2, 0, none⟩) (pre.length + 1) cap2)).heap[i]? = X2.heap[i]? := by
    rintro i ⟨cells, hc⟩
    refine (Below.heap_setCell _ _ _ _ (fun e => ?_)).trans (Below.heap_setCell _ _ _ _ (fun e => ?_))
    · rw [show i = n0 + 1 from e, show X2.heap[n0 + 1]? = _ from h1.2.1] at hc; cases hc
    · rw [show i = n0 from e, show X2.heap[n0]? = _ from h1.1] at hc; cases hc
  refine ⟨?_, ?_, fun k hk e => ?_⟩
  · have := own_move h2 (fun k hk => mv k (own_ge h2 k hk).2)
    simpa [nums] using this
  · have := own_move h3 (fun k hk => mv k (own_ge h3 k hk).2)
    simpa [nums] using this
  · simp [Value.ownBlock] at e
    subst e
    exact h4 hk
theorem done10 {n0 : Nat} {V W : World} {v1 v2 : Value} {xs1 xs2 : List Value} {r : Int} (hB : BoxesOf n0 W v1 v2 r) (hR : RowsOf n0 W v1 v2 xs1 xs2) (hV : Below n0 V W) :
    BoxesOf n0 ((((W.setCell ⟨n0, 0, none⟩ v1).setCell ⟨n0 + 1, 0, none⟩ v2).setCell ⟨n0 + 1 + 1, 0, none⟩ (.int .i64 0)).drew) v1 v2 0 ∧
      RowsOf n0 ((((W.setCell ⟨n0, 0, none⟩ v1).setCell ⟨n0 + 1, 0, none⟩ v2).setCell ⟨n0 + 1 + 1, 0, none⟩ (.int .i64 0)).drew) v1 v2 xs1 xs2 ∧
      KeepsOthers W ((((W.setCell ⟨n0, 0, none⟩ v1).setCell ⟨n0 + 1, 0, none⟩ v2).setCell ⟨n0 + 1 + 1, 0, none⟩ (.int .i64 0)).drew) ∧
      Below n0 V ((((W.setCell ⟨n0, 0, none⟩ v1).setCell ⟨n0 + 1, 0, none⟩ v2).setCell ⟨n0 + 1 + 1, 0, none⟩ (.int .i64 0)).drew) := by
  refine ⟨⟨((hB.1.set v1).other (by omega) v2).other (by omega) _, ((hB.2.1.other (by omega) v1).set v2).other (by omega) _, ((hB.2.2.other (by omega) v1).other (by omega) v2).set _⟩, ?_, ?_, ?_⟩
  · refine rows_keep hR fun i cs t fr hi ht => ?_
    subst ht
    refine (Below.heap_setCell _ _ _ _ (fun e => ?_)).trans ((Below.heap_setCell _ _ _ _ (fun e => ?_)).trans (Below.heap_setCell _ _ _ _ (fun e => ?_)))
    · rw [show i = n0 + 1 + 1 from e, show W.heap[n0 + 1 + 1]? = _ from hB.2.2] at hi; cases hi
    · rw [show i = n0 + 1 from e, show W.heap[n0 + 1]? = _ from hB.2.1] at hi; cases hi
    · rw [show i = n0 from e, show W.heap[n0]? = _ from hB.1] at hi; cases hi
  · exact (((KeepsOthers.setCell _ _ _).trans (KeepsOthers.setCell _ _ _)).trans (KeepsOthers.setCell _ _ _)).trans (KeepsOthers.drew _)
  · exact (((hV.setCell (p := ⟨n0, 0, none⟩) (Nat.le_refl _) v1).setCell (p := ⟨n0 + 1, 0, none⟩) (by simp) v2).setCell (p := ⟨n0 + 1 + 1, 0, none⟩) (by simp; omega) _).drew
theorem boxes_putObj {n0 D : Nat} {W : World} {v1 v2 : Value} {r : Int} {o : Obj} (o' : Obj) (h : BoxesOf n0 W v1 v2 r) (hD : W.heap[D]? = some o) (ho : o.isCells = false) : BoxesOf n0 (W.putObj D o') v1 v2 r :=
  boxes_keep h fun i cs t fr hi _ => World.putObj_heap_other (fun e => by subst e; rw [hD] at hi; cases hi; cases ho)
theorem rows_putObj {n0 D : Nat} {W : World} {v1 v2 : Value} {xs1 xs2 : List Value} {o : Obj} (o' : Obj) (h : RowsOf n0 W v1 v2 xs1 xs2) (hD : W.heap[D]? = some o) (ho : o.isCells = false) : RowsOf n0 (W.putObj D o') v1 v2 xs1 xs2 :=
  rows_keep h fun i cs t fr hi _ => World.putObj_heap_other (fun e => by subst e; rw [hD] at hi; cases hi; cases ho)
theorem rows_R {n0 : Nat} {W : World} {v1 v2 : Value} {ys zs : List Int} (h : RowsOf n0 W v1 v2 (nums .i64 ys) (nums .i64 zs)) :
    Kd.R (Kd.int .i64) 3 W n0 (fun k_ => some k_ ≠ v2.ownBlock) v1 ys ∧ Kd.R (Kd.int .i64) 3 W n0 (fun k_ => some k_ ≠ v1.ownBlock) v2 zs := by
  obtain ⟨h1, h2, h3⟩ := h
  rw [nums_len] at h1 h2
  exact ⟨Kd.R_of_own (enc := Value.int .i64) (h1 := fun _ => rfl) h1 (fun k hk e => h3 k hk e.symm), Kd.R_of_own (enc := Value.int .i64) (h1 := fun _ => rfl) h2 (fun k hk e => h3 k e.symm hk)⟩
end Go.Proofs.Ytendmmagjjhfnaa.M
