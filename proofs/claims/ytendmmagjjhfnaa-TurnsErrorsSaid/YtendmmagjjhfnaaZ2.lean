/- The chapter's examples; bars that say nothing. -/
import Derived.Test.YtendmmagjjhfnaaZ1
import Derived.Test.YtendmmagjjhfnaaM22
namespace Go.Proofs.Ytendmmagjjhfnaa.Z
open Go.RowKit Go.Proofs.YtendmmagjjhfnaaW.PrintWords Go.Proofs.YtendmmagjjhfnaaW.PrintLast Go.Proofs.Ytendmmagjjhfnaa.M
set_option linter.unusedVariables false
set_option linter.unusedSimpArgs false

set_option maxRecDepth 100000 in
theorem examples_f : partitalaw10_examples.f 12 = some true := by kernel_rfl
theorem examples_ev : Ev (fun k => partitalaw10_examples.f k) true := Ev.of (fun k => partitalaw10_examples.mono k) examples_f
theorem many_f {n : Int} (h0 : 0 ≤ n) (h1 : n ≤ 1000) : partitalaw10_many.f n = some (List.replicate n.toNat z38) := by
  unfold partitalaw10_many.f
  rw [if_pos h0, if_pos (by omega)]
theorem rd_set (l : List S38) (i : Nat) (v : S38) (j : Nat) (hi : i < l.length) : rd_T38 (l.set i v) (j : Int) = if i = j then v else rd_T38 l (j : Int) := by
  unfold rd_T38
  rw [Int.toNat_natCast, List.getD_eq_getElem?_getD, List.getD_eq_getElem?_getD, List.getElem?_set]
  split
  · next h => subst h; simp [hi]
  · rfl
theorem rd_replicate (n j : Nat) : rd_T38 (List.replicate n z38) (j : Int) = z38 := by
  unfold rd_T38
  rw [List.getD_eq_getElem?_getD, List.getElem?_replicate]
  split <;> rfl
theorem rd_app_left (a b : List S38) (j : Nat) (h : j < a.length) : rd_T38 (a ++ b) (j : Int) = rd_T38 a (j : Int) := by
  unfold rd_T38
  simp [List.getD_eq_getElem?_getD, List.getElem?_append_left h]
theorem rd_app_right (a b : List S38) (j : Nat) : rd_T38 (a ++ b) ((a.length + j : Nat) : Int) = rd_T38 b (j : Int) := by
  unfold rd_T38
  rw [Int.toNat_natCast, Int.toNat_natCast, List.getD_eq_getElem?_getD, List.getD_eq_getElem?_getD, List.getElem?_append_right (by omega), show a.length + j - a.length = j by omega]

/-- A bar that says nothing that leads anywhere. -/
def PlainB (x : S38) : Prop := x.f0 = false ∧ x.f1 = 0 ∧ x.f2 = [] ∧ x.f7 = 0
def AllOf (Q : S38 → Prop) (l : List S38) : Prop := ∀ i : Nat, i < l.length → Q (rd_T38 l (i : Int))
/-- Something is so at one bar alone. -/
def At (p : S38 → Bool) (A : Nat) (l : List S38) : Prop := ∀ i : Nat, i < l.length → p (rd_T38 l (i : Int)) = true → i = A
theorem allOf_set {Q : S38 → Prop} {l : List S38} {i : Nat} {v : S38} (h : AllOf Q l) (hi : i < l.length) (hv : Q v) : AllOf Q (l.set i v) := by
  intro j hj
  rw [rd_set l i v j hi]
  split
  · exact hv
  · exact h j (by simpa using hj)
theorem at_set {p : S38 → Bool} {A : Nat} {l : List S38} {i : Nat} {v : S38} (h : At p A l) (hi : i < l.length) (hv : p v = true → i = A ∨ p (rd_T38 l (i : Int)) = true) : At p A (l.set i v) := by
  intro j hj
  rw [rd_set l i v j hi]
  split
  · next e =>
    subst e
    intro hp
    rcases hv hp with h1 | h1
    · exact h1
    · exact h i hi h1
  · exact h j (by simpa using hj)
theorem At.once {p : S38 → Bool} {A : Nat} {l : List S38} (h : At p A l) : Once p l := fun i i' hi hi' hp hp' => (h i hi hp).trans (h i' hi' hp').symm
theorem at_replicate {p : S38 → Bool} (hp : p z38 = false) (n A : Nat) : At p A (List.replicate n z38) := by
  intro i hi h
  rw [rd_replicate, hp] at h
  cases h
theorem plain_lone {x : S38} (h : PlainB x) : loneB x = true := by
  unfold loneB
  rw [h.2.1, h.2.2.1, h.2.2.2]
  rfl
theorem plain_jump {x : S38} (h : PlainB x) : isJump x = false := by
  unfold isJump
  rw [h.2.2.2]; rfl
theorem short_of {l : List S38} (h : ∀ i : Nat, i < l.length → (rd_T38 l (i : Int)).f2.length ≤ 140737488351232) : Short l := by
  intro x hx
  obtain ⟨i, hi, rfl⟩ := List.getElem_of_mem hx
  rw [← rd_T38_nat l i hi]
  exact h i hi
theorem plain_short {l : List S38} (h : AllOf PlainB l) : Short l := short_of fun i hi => by rw [(h i hi).2.2.1]; simp
theorem plain_okay {l : List S38} (h : AllOf PlainB l) {A C : Nat} (h3 : At (fun x => x.f3) A l) (h4 : At (fun x => x.f4) C l) : Okay l :=
  ⟨fun i hi => plain_lone (h i hi), h3.once, h4.once, fun i i' hi hi' hp _ => by rw [plain_jump (h i hi)] at hp; cases hp⟩
theorem plain_chk {l : List S38} (h : AllOf PlainB l) {A C : Nat} (h3 : At (fun x => x.f3) A l) (h4 : At (fun x => x.f4) C l) : chkR l = (0, 0) :=
  okay_chk (plain_okay h h3 h4) fun i hi hp => by rw [plain_jump (h i hi)] at hp; cases hp

/-- One bar that says nothing, ahead of all jumps, behind none that closes. -/
theorem run_plain1 {l : List S38} {s c : Int} {b : Nat} {p m : Int} (hb : b < l.length) (hx : PlainB (rd_T38 l (b : Int))) (hp : 0 ≤ p ∧ p ≤ 140737488351232) {o : List (Int × Int)}
    (h : Run l s c ⟨((b + 1 : Nat) : Int), p, m, false, 0, false, false⟩ o) : Run l s c ⟨(b : Int), p, m, false, 0, false, false⟩ (((b : Int), p) :: o) := by
  have he : enterW ⟨(b : Int), p, m, false, 0, false, false⟩ (rd_T38 l (b : Int)) = ⟨(b : Int), p, m, false, 0, false, false⟩ := by
    unfold enterW entersB
    rw [hx.1]; rfl
  have := @Run.play l s c ⟨(b : Int), p, m, false, 0, false, false⟩ ⟨((b + 1 : Nat) : Int), p, m, false, 0, false, false⟩ o (by show (b : Int) < _; omega) (by show (0 : Int) ≤ b; omega) hp (by
    show stB l _ _ _ (rd_T38 l (b : Int)) = true
    unfold stB; rw [hx.2.2.1]; rfl) (by
    show onW s c (enterW _ (rd_T38 l (b : Int))) (rd_T38 l (b : Int)) = _
    rw [he]
    unfold onW
    rw [hx.2.1, hx.2.2.2]
    simp only [Bool.false_and, Bool.false_eq_true, if_false]
    rw [if_neg (by omega), if_pos (by simp)]
    simp) h
  rwa [show (enterW (⟨(b : Int), p, m, false, 0, false, false⟩ : Wk) (rd_T38 l (b : Int))).pass = p by rw [he]] at this
/-- A stretch of bars that say nothing. -/
theorem run_plain {l : List S38} {s c p m : Int} (hp : 0 ≤ p ∧ p ≤ 140737488351232) : ∀ (n b : Nat) {o : List (Int × Int)}, b + n ≤ l.length → (∀ i, b ≤ i → i < b + n → PlainB (rd_T38 l (i : Int))) →
    Run l s c ⟨((b + n : Nat) : Int), p, m, false, 0, false, false⟩ o → Run l s c ⟨(b : Int), p, m, false, 0, false, false⟩ ((upTo b n).map (fun i => (i, p)) ++ o)
  | 0, b, o, h1, h2, h3 => h3
  | n + 1, b, o, h1, h2, h3 => by
    rw [upTo_succ, List.map_cons, List.cons_append]
    exact run_plain1 (by omega) (h2 b (by omega) (by omega)) hp (run_plain hp n (b + 1) (by omega) (fun i hi hi2 => h2 i (by omega) (by omega)) (by rwa [show b + 1 + n = b + (n + 1) by omega]))
theorem run_all_plain {l : List S38} {s c : Int} (h : AllOf PlainB l) : Run l s c q0 ((upTo 0 l.length).map (fun i => (i, 1))) := by
  have := run_plain (l := l) (s := s) (c := c) (p := 1) (m := 0) ⟨by decide, by decide⟩ l.length 0 (o := []) (by omega) (fun i _ hi => h i (by omega)) (.fin (by simp))
  rw [List.append_nil] at this
  exact this
theorem map_fst_pair (l : List Int) (p : Int) : (l.map (fun i => (i, p))).map Prod.fst = l := by simp [Function.comp_def]
theorem map_snd_pair (l : List Int) (p : Int) : (l.map (fun i => (i, p))).map Prod.snd = List.replicate l.length p := by
  rw [List.map_map]
  induction l with
  | nil => rfl
  | cons a l ih => rw [List.map_cons, List.length_cons, List.replicate_succ, ih]; rfl
theorem rd_repl (n i : Nat) (p : Int) (h : i < n) : rd (List.replicate n p) (i : Int) = p := by
  rw [rd_nat _ i (by simpa using h)]
  simp
end Go.Proofs.Ytendmmagjjhfnaa.Z
