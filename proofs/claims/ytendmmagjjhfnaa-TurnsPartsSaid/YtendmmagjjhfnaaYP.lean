/- The chapter's examples; bars that say nothing. Runs: how a walker goes from bar to bar, ahead of all jumps. The turns that bytes make without a jump: they may be, and a walker comes to an end with them. The pure part of the statement TurnsParts: what begins a repeat parts a piece. -/
import Derived.Test.YtendmmagjjhfnaaZA
import Derived.Test.YtendmmagjjhfnaaM22
import Derived.Test.YtendmmagjjhfnaaM24
import Derived.Test.YtendmmagjjhfnaaM36
namespace Go.Proofs.Ytendmmagjjhfnaa.Z
open Go.RowKit Go.Proofs.YtendmmagjjhfnaaW.PrintWords Go.Proofs.YtendmmagjjhfnaaW.PrintLast Go.Proofs.Ytendmmagjjhfnaa.M
set_option linter.unusedVariables false
set_option linter.unusedSimpArgs false

set_option maxRecDepth 100000 in
theorem examples_f : partitalaw10_examples.f 12 = some true := by kernel_rfl
theorem examples_ev : Ev (fun k => partitalaw10_examples.f k) true := Ev.of (fun k => partitalaw10_examples.mono k) examples_f
theorem many_f {n : Int} (h0 : 0 ≤ n) (h1 : n ≤ 1000) : partitalaw10_many.f n = some (List.replicate n.toNat z38) := by
  unfold partitalaw10_many.f
  rw [if_pos h0, if_pos (by omega)]
theorem rd_set (l : List S38) (i : Nat) (v : S38) (j : Nat) (hi : i < l.length) : rd_T38 (l.set i v) (j : Int) = if i = j then v else rd_T38 l (j : Int) := by
  unfold rd_T38
  rw [Int.toNat_natCast, List.getD_eq_getElem?_getD, List.getD_eq_getElem?_getD, List.getElem?_set]
  split
  · next h => subst h; simp [hi]
  · rfl
theorem rd_replicate (n j : Nat) : rd_T38 (List.replicate n z38) (j : Int) = z38 := by
  unfold rd_T38
  rw [List.getD_eq_getElem?_getD, List.getElem?_replicate]
  split <;> rfl
theorem rd_app_left (a b : List S38) (j : Nat) (h : j < a.length) : rd_T38 (a ++ b) (j : Int) = rd_T38 a (j : Int) := by
  unfold rd_T38
  simp [List.getD_eq_getElem?_getD, List.getElem?_append_left h]
theorem rd_app_right (a b : List S38) (j : Nat) : rd_T38 (a ++ b) ((a.length + j : Nat) : Int) = rd_T38 b (j : Int) := by
  unfold rd_T38
  rw [Int.toNat_natCast, Int.toNat_natCast, List.getD_eq_getElem?_getD, List.getD_eq_getElem?_getD, List.getElem?_append_right (by omega), show a.length + j - a.length = j by omega]

/-- A bar that says nothing that leads anywhere. -/
def PlainB (x : S38) : Prop := x.f0 = false ∧ x.f1 = 0 ∧ x.f2 = [] ∧ x.f7 = 0
def AllOf (Q : S38 → Prop) (l : List S38) : Prop := ∀ i : Nat, i < l.length → Q (rd_T38 l (i : Int))
/-- Something is so at one bar alone. -/
def At (p : S38 → Bool) (A : Nat) (l : List S38) : Prop := ∀ i : Nat, i < l.length → p (rd_T38 l (i : Int)) = true → i = A
theorem allOf_set {Q : S38 → Prop} {l : List S38} {i : Nat} {v : S38} (h : AllOf Q l) (hi : i < l.length) (hv : Q v) : AllOf Q (l.set i v) := by
  intro j hj
  rw [rd_set l i v j hi]
  split
  · exact hv
  · exact h j (by simpa using hj)
theorem at_set {p : S38 → Bool} {A : Nat} {l : List S38} {i : Nat} {v : S38} (h : At p A l) (hi : i < l.length) (hv : p v = true → i = A ∨ p (rd_T38 l (i : Int)) = true) : At p A (l.set i v) := by
  intro j hj
  rw [rd_set l i v j hi]
  split
  · next e =>
    subst e
    intro hp
    rcases hv hp with h1 | h1
    · exact h1
    · exact h i hi h1
  · exact h j (by simpa using hj)
theorem At.once {p : S38 → Bool} {A : Nat} {l : List S38} (h : At p A l) : Once p l := fun i i' hi hi' hp hp' => (h i hi hp).trans (h i' hi' hp').symm
theorem at_replicate {p : S38 → Bool} (hp : p z38 = false) (n A : Nat) : At p A (List.replicate n z38) := by
  intro i hi h
  rw [rd_replicate, hp] at h
  cases h
theorem plain_lone {x : S38} (h : PlainB x) : loneB x = true := by
  unfold loneB
  rw [h.2.1, h.2.2.1, h.2.2.2]
  rfl
theorem plain_jump {x : S38} (h : PlainB x) : isJump x = false := by
  unfold isJump
  rw [h.2.2.2]; rfl
theorem short_of {l : List S38} (h : ∀ i : Nat, i < l.length → (rd_T38 l (i : Int)).f2.length ≤ 140737488351232) : Short l := by
  intro x hx
  obtain ⟨i, hi, rfl⟩ := List.getElem_of_mem hx
  rw [← rd_T38_nat l i hi]
  exact h i hi
theorem plain_short {l : List S38} (h : AllOf PlainB l) : Short l := short_of fun i hi => by rw [(h i hi).2.2.1]; simp
theorem plain_okay {l : List S38} (h : AllOf PlainB l) {A C : Nat} (h3 : At (fun x => x.f3) A l) (h4 : At (fun x => x.f4) C l) : Okay l :=
  ⟨fun i hi => plain_lone (h i hi), h3.once, h4.once, fun i i' hi hi' hp _ => by rw [plain_jump (h i hi)] at hp; cases hp⟩
theorem plain_chk {l : List S38} (h : AllOf PlainB l) {A C : Nat} (h3 : At (fun x => x.f3) A l) (h4 : At (fun x => x.f4) C l) : chkR l = (0, 0) :=
  okay_chk (plain_okay h h3 h4) fun i hi hp => by rw [plain_jump (h i hi)] at hp; cases hp

/-- One bar that says nothing, ahead of all jumps, behind none that closes. -/
theorem run_plain1 {l : List S38} {s c : Int} {b : Nat} {p m : Int} (hb : b < l.length) (hx : PlainB (rd_T38 l (b : Int))) (hp : 0 ≤ p ∧ p ≤ 140737488351232) {o : List (Int × Int)}
    (h : Run l s c ⟨((b + 1 : Nat) : Int), p, m, false, 0, false, false⟩ o) : Run l s c ⟨(b : Int), p, m, false, 0, false, false⟩ (((b : Int), p) :: o) := by
  have he : enterW ⟨(b : Int), p, m, false, 0, false, false⟩ (rd_T38 l (b : Int)) = ⟨(b : Int), p, m, false, 0, false, false⟩ := by
    unfold enterW entersB
    rw [hx.1]; rfl
  have := @Run.play l s c ⟨(b : Int), p, m, false, 0, false, false⟩ ⟨((b + 1 : Nat) : Int), p, m, false, 0, false, false⟩ o (by show (b : Int) < _; omega) (by show (0 : Int) ≤ b; omega) hp (by
    show stB l _ _ _ (rd_T38 l (b : Int)) = true
    unfold stB; rw [hx.2.2.1]; rfl) (by
    show onW s c (enterW _ (rd_T38 l (b : Int))) (rd_T38 l (b : Int)) = _
    rw [he]
    unfold onW
    rw [hx.2.1, hx.2.2.2]
    simp only [Bool.false_and, Bool.false_eq_true, if_false]
    rw [if_neg (by omega), if_pos (by simp)]
    simp) h
  rwa [show (enterW (⟨(b : Int), p, m, false, 0, false, false⟩ : Wk) (rd_T38 l (b : Int))).pass = p by rw [he]] at this
/-- A stretch of bars that say nothing. -/
theorem run_plain {l : List S38} {s c p m : Int} (hp : 0 ≤ p ∧ p ≤ 140737488351232) : ∀ (n b : Nat) {o : List (Int × Int)}, b + n ≤ l.length → (∀ i, b ≤ i → i < b + n → PlainB (rd_T38 l (i : Int))) →
    Run l s c ⟨((b + n : Nat) : Int), p, m, false, 0, false, false⟩ o → Run l s c ⟨(b : Int), p, m, false, 0, false, false⟩ ((upTo b n).map (fun i => (i, p)) ++ o)
  | 0, b, o, h1, h2, h3 => h3
  | n + 1, b, o, h1, h2, h3 => by
    rw [upTo_succ, List.map_cons, List.cons_append]
    exact run_plain1 (by omega) (h2 b (by omega) (by omega)) hp (run_plain hp n (b + 1) (by omega) (fun i hi hi2 => h2 i (by omega) (by omega)) (by rwa [show b + 1 + n = b + (n + 1) by omega]))
theorem run_all_plain {l : List S38} {s c : Int} (h : AllOf PlainB l) : Run l s c q0 ((upTo 0 l.length).map (fun i => (i, 1))) := by
  have := run_plain (l := l) (s := s) (c := c) (p := 1) (m := 0) ⟨by decide, by decide⟩ l.length 0 (o := []) (by omega) (fun i _ hi => h i (by omega)) (.fin (by simp))
  rw [List.append_nil] at this
  exact this
theorem map_fst_pair (l : List Int) (p : Int) : (l.map (fun i => (i, p))).map Prod.fst = l := by simp [Function.comp_def]
theorem map_snd_pair (l : List Int) (p : Int) : (l.map (fun i => (i, p))).map Prod.snd = List.replicate l.length p := by
  rw [List.map_map]
  induction l with
  | nil => rfl
  | cons a l ih => rw [List.map_cons, List.length_cons, List.replicate_succ, ih]; rfl
theorem rd_repl (n i : Nat) (p : Int) (h : i < n) : rd (List.replicate n p) (i : Int) = p := by
  rw [rd_nat _ i (by simpa using h)]
  simp
end Go.Proofs.Ytendmmagjjhfnaa.Z
namespace Go.Proofs.Ytendmmagjjhfnaa.Z
open Go.RowKit Go.Proofs.YtendmmagjjhfnaaW.PrintWords Go.Proofs.YtendmmagjjhfnaaW.PrintLast Go.Proofs.Ytendmmagjjhfnaa.M
set_option linter.unusedVariables false
set_option linter.unusedSimpArgs false

/-- A bar that is played always, and leads nowhere but back. -/
def Still (x : S38) : Prop := x.f2 = [] ∧ x.f7 = 0
theorem still_st {l : List S38} {b : Nat} {p : Int} {x : S38} (h : Still x) (j : Int) : stB l b p j x = true := by
  unfold stB
  rw [h.1]; rfl
/-- Where two walkers enter a bar alike, they run alike. -/
theorem run_of_enter {l : List S38} {s c : Int} {q q' : Wk} (hb : q.bar = q'.bar) (hp : 0 ≤ q.pass ∧ q.pass ≤ 140737488351232) (he : enterW q (rd_T38 l q.bar) = enterW q' (rd_T38 l q'.bar)) {o : List (Int × Int)} (h : Run l s c q' o) : Run l s c q o := by
  cases h with
  | fin h1 => exact .fin (by rwa [hb])
  | skip h1 h2 h3 h4 h5 =>
    rw [← he, ← hb] at h4 h5
    rw [← hb] at h1 h2
    exact .skip h1 h2 hp h4 h5
  | stop h1 h2 h3 h4 h5 =>
    rw [← he, ← hb] at h4 h5
    rw [← hb] at h1 h2
    have := Run.stop h1 h2 hp h4 h5
    rwa [he, hb] at this
  | play h1 h2 h3 h4 h5 h6 =>
    rw [← he, ← hb] at h4 h5
    rw [← hb] at h1 h2
    have := Run.play h1 h2 hp h4 h5 h6
    rw [he, hb] at this
    exact this
/-- A bar that is no begin, entered by a walker behind none that closes, ahead of all jumps: it goes on. -/
theorem run_on {l : List S38} {s c : Int} {b : Nat} {p m : Int} (hb : b < l.length) (hx : Still (rd_T38 l (b : Int))) (h0 : (rd_T38 l (b : Int)).f0 = false ∨ (b : Int) = m) (h1 : (rd_T38 l (b : Int)).f1 ≤ p) (hp : 0 ≤ p ∧ p ≤ 140737488351232) {o : List (Int × Int)}
    (h : Run l s c ⟨((b + 1 : Nat) : Int), p, m, decide ((rd_T38 l (b : Int)).f1 > 0), 0, false, false⟩ o) : Run l s c ⟨(b : Int), p, m, false, 0, false, false⟩ (((b : Int), p) :: o) := by
  have he : enterW ⟨(b : Int), p, m, false, 0, false, false⟩ (rd_T38 l (b : Int)) = ⟨(b : Int), p, m, false, 0, false, false⟩ := by
    unfold enterW entersB
    rcases h0 with h0 | h0
    · rw [h0]; rfl
    · rw [if_neg]; simp [h0]
  have := @Run.play l s c ⟨(b : Int), p, m, false, 0, false, false⟩ ⟨((b + 1 : Nat) : Int), p, m, decide ((rd_T38 l (b : Int)).f1 > 0), 0, false, false⟩ o (by show (b : Int) < _; omega) (by show (0 : Int) ≤ b; omega) hp (by
    exact still_st hx _) (by
    show onW s c (enterW _ (rd_T38 l (b : Int))) (rd_T38 l (b : Int)) = _
    rw [he]
    unfold onW
    rw [hx.2]
    simp only [Bool.false_and, Bool.false_eq_true, if_false]
    rw [if_neg (by omega), if_pos (by simp)]
    simp) h
  rwa [show (enterW (⟨(b : Int), p, m, false, 0, false, false⟩ : Wk) (rd_T38 l (b : Int))).pass = p by rw [he]] at this
/-- A bar that ends a repeat: back. -/
theorem run_back {l : List S38} {s c : Int} {b : Nat} {p m : Int} (hb : b < l.length) (hx : Still (rd_T38 l (b : Int))) (h0 : (rd_T38 l (b : Int)).f0 = false ∨ (b : Int) = m) (h1 : p < (rd_T38 l (b : Int)).f1) (hp : 0 ≤ p ∧ p ≤ 140737488351232) {o : List (Int × Int)}
    (h : Run l s c ⟨m, p + 1, m, false, 0, false, false⟩ o) : Run l s c ⟨(b : Int), p, m, false, 0, false, false⟩ (((b : Int), p) :: o) := by
  have he : enterW ⟨(b : Int), p, m, false, 0, false, false⟩ (rd_T38 l (b : Int)) = ⟨(b : Int), p, m, false, 0, false, false⟩ := by
    unfold enterW entersB
    rcases h0 with h0 | h0
    · rw [h0]; rfl
    · rw [if_neg]; simp [h0]
  have := @Run.play l s c ⟨(b : Int), p, m, false, 0, false, false⟩ ⟨m, p + 1, m, false, 0, false, false⟩ o (by show (b : Int) < _; omega) (by show (0 : Int) ≤ b; omega) hp (by
    exact still_st hx _) (by
    show onW s c (enterW _ (rd_T38 l (b : Int))) (rd_T38 l (b : Int)) = _
    rw [he]
    unfold onW
    simp only [Bool.false_and, Bool.false_eq_true, if_false]
    rw [if_pos (by simpa using h1)]) h
  rwa [show (enterW (⟨(b : Int), p, m, false, 0, false, false⟩ : Wk) (rd_T38 l (b : Int))).pass = p by rw [he]] at this
/-- A section begins. -/
theorem run_enter {l : List S38} {s c : Int} {b : Nat} {p m : Int} {cl : Bool} (hx : (rd_T38 l (b : Int)).f2 = []) (h0 : cl = true ∨ ((rd_T38 l (b : Int)).f0 = true ∧ (b : Int) ≠ m)) (hp : 0 ≤ p ∧ p ≤ 140737488351232) {o : List (Int × Int)}
    (h : Run l s c ⟨(b : Int), 1, b, false, 0, false, false⟩ o) : Run l s c ⟨(b : Int), p, m, cl, 0, false, false⟩ o := by
  have e1 : enterW (⟨(b : Int), 1, b, false, 0, false, false⟩ : Wk) (rd_T38 l (b : Int)) = ⟨(b : Int), 1, b, false, 0, false, false⟩ := by
    unfold enterW
    rw [if_neg (by unfold entersB; simp)]
  have e2 : enterW (⟨(b : Int), p, m, cl, 0, false, false⟩ : Wk) (rd_T38 l (b : Int)) = ⟨(b : Int), 1, b, false, 0, false, false⟩ := by
    unfold enterW
    rw [if_pos (by
      unfold entersB
      rcases h0 with h0 | ⟨h0, h1⟩
      · rw [h0, hx]; simp
      · rw [h0]; simp [h1])]
    rfl
  exact @run_of_enter l s c ⟨(b : Int), p, m, cl, 0, false, false⟩ ⟨(b : Int), 1, b, false, 0, false, false⟩ rfl hp (e2.trans e1.symm) o h
/-- A stretch of bars that go on. -/
theorem run_stretch {l : List S38} {s c p m : Int} (hp : 0 ≤ p ∧ p ≤ 140737488351232) : ∀ (n b : Nat) {o : List (Int × Int)}, b + n ≤ l.length →
    (∀ i, b ≤ i → i < b + n → Still (rd_T38 l (i : Int)) ∧ ((rd_T38 l (i : Int)).f0 = false ∨ (i : Int) = m) ∧ (rd_T38 l (i : Int)).f1 = 0) →
    Run l s c ⟨((b + n : Nat) : Int), p, m, false, 0, false, false⟩ o → Run l s c ⟨(b : Int), p, m, false, 0, false, false⟩ ((upTo b n).map (fun i => (i, p)) ++ o)
  | 0, b, o, h1, h2, h3 => h3
  | n + 1, b, o, h1, h2, h3 => by
    rw [upTo_succ, List.map_cons, List.cons_append]
    obtain ⟨a1, a2, a3⟩ := h2 b (by omega) (by omega)
    refine run_on (by omega) a1 a2 (by omega) hp ?_
    rw [a3]
    exact run_stretch hp n (b + 1) (by omega) (fun i hi hi2 => h2 i (by omega) (by omega)) (by rwa [show b + 1 + n = b + (n + 1) by omega])

theorem tm {a : Int} (h : 0 ≤ a) (h2 : a < 256) (n : Nat) (hn : 0 < n) : ∃ m : Nat, wrap64 (Int.tmod a n) = (m : Int) ∧ m < n := by
  refine ⟨(a % (n : Int)).toNat, ?_⟩
  have h3 := Int.emod_nonneg a (b := (n : Int)) (by omega)
  have h4 := Int.emod_lt_of_pos a (b := (n : Int)) (by omega)
  have h5 : a % (n : Int) ≤ a := by
    have := Int.emod_add_mul_ediv a (n : Int)
    have := Int.mul_nonneg (by omega : 0 ≤ (n : Int)) (Int.ediv_nonneg h (by omega : 0 ≤ (n : Int)))
    omega
  rw [Int.tmod_eq_emod_of_nonneg h, w64 (by omega) (by omega)]
  omega
theorem u8_wf {a : Int} (h : (Lit.int .u8 a).wf = true) : 0 ≤ a ∧ a < 256 := by
  have e : IntKind.u8.min = 0 := rfl
  have e2 : IntKind.u8.max = 255 := rfl
  simp [Lit.wf] at h
  omega
end Go.Proofs.Ytendmmagjjhfnaa.Z
namespace Go.Proofs.Ytendmmagjjhfnaa.Z
open Go.RowKit Go.Proofs.YtendmmagjjhfnaaW.PrintWords Go.Proofs.YtendmmagjjhfnaaW.PrintLast Go.Proofs.Ytendmmagjjhfnaa.M
set_option linter.unusedVariables false
set_option linter.unusedSimpArgs false

/-- A turn that a byte makes: no jump, no sign, no coda. -/
structure MadeB (x : S38) : Prop where
  jump : x.f7 = 0
  sign : x.f3 = false
  coda : x.f4 = false
  times : x.f1 = 0 ∨ (2 ≤ x.f1 ∧ x.f1 ≤ 9)
  few : x.f2.length ≤ 2
  ends : endsB 0 x.f2 = true
def Byte (n : Int) : Prop := 0 ≤ n ∧ n ≤ 255
theorem byte_wf {n : Int} (h : (Lit.int .u8 n).wf = true) : Byte n := by have := u8_wf h; exact ⟨by omega, by omega⟩
def mk38 (t : Bool × Int × List Int × Bool × Bool × Bool × Bool × Int) : S38 := ⟨t.1, t.2.1, t.2.2.1, t.2.2.2.1, t.2.2.2.2.1, t.2.2.2.2.2.1, t.2.2.2.2.2.2.1, t.2.2.2.2.2.2.2⟩
theorem tmw {b : Int} (hb : Byte b) (m : Int) (h0 : 0 < m) (h1 : m ≤ 16) : ∃ r : Int, wrap64 (Int.tmod b m) = r ∧ 0 ≤ r ∧ r < m := by
  refine ⟨b % m, ?_, Int.emod_nonneg b (by omega), Int.emod_lt_of_pos b h0⟩
  have h3 := Int.emod_nonneg b (b := m) (by omega)
  have h4 := Int.emod_lt_of_pos b h0
  rw [Int.tmod_eq_emod_of_nonneg hb.1, w64 (by omega) (by omega)]
theorem ends_one {n : Int} (h0 : 1 ≤ n) (h1 : n ≤ 9) : endsB 0 [n] = true := by
  rw [endsB, if_neg (by omega), if_neg (by omega)]; rfl
theorem ends_two {n : Int} (h0 : 2 ≤ n) (h1 : n ≤ 9) : endsB 0 [1, n] = true := by
  rw [endsB, if_neg (by omega), if_neg (by omega), endsB, if_neg (by omega), if_neg (by omega)]; rfl
theorem turn_j1 (x7 : Int) (x12 : Bool) (a b c : Int) (hb : Byte b) (hc : Byte c) : ∃ t, Ev (fun k => partitalaw10_Turn_turn.j1 k x7 x12 a b c false 0 false false false false 0) t ∧ MadeB (mk38 t) := by
  obtain ⟨r3, e3, g3, g3'⟩ := tmw hb 3 (by omega) (by omega)
  obtain ⟨r2, e2, g2, g2'⟩ := tmw hb 2 (by omega) (by omega)
  obtain ⟨s2, f2, k2, k2'⟩ := tmw hc 2 (by omega) (by omega)
  obtain ⟨r8, e8, g8, g8'⟩ := tmw hb 8 (by omega) (by omega)
  have t3 : wrap64 (2 + wrap64 (Int.tmod b 3)) = 2 + r3 := by rw [e3, w64 (by omega) (by omega)]
  have o3 : wrap64 (1 + wrap64 (Int.tmod b 3)) = 1 + r3 := by rw [e3, w64 (by omega) (by omega)]
  have t2 : wrap64 (2 + wrap64 (Int.tmod b 2)) = 2 + r2 := by rw [e2, w64 (by omega) (by omega)]
  have u2 : wrap64 (2 + wrap64 (Int.tmod c 2)) = 2 + s2 := by rw [f2, w64 (by omega) (by omega)]
  have t8 : wrap64 (2 + wrap64 (Int.tmod b 8)) = 2 + r8 := by rw [e8, w64 (by omega) (by omega)]
  clear e3 e2 f2 e8
  by_cases h12 : x12 = true
  · refine ⟨_, Ev.step (fun k => rfl) (Ev.yes h12 (Ev.now _)), rfl, rfl, rfl, ?_, by simp [mk38], rfl⟩
    right; simp only [mk38]; rw [t3]; omega
  by_cases h4 : x7 = 4
  · refine ⟨_, Ev.step (fun k => rfl) (Ev.no h12 (Ev.yes h4 (Ev.now _))), rfl, rfl, rfl, ?_, by simp [mk38], ?_⟩
    · right; simp only [mk38]; rw [u2]; omega
    · simp only [mk38]; rw [o3]; exact ends_one (by omega) (by omega)
  by_cases h5 : x7 = 5
  · refine ⟨_, Ev.step (fun k => rfl) (Ev.no h12 (Ev.no h4 (Ev.yes h5 (Ev.now _)))), rfl, rfl, rfl, .inl rfl, by simp [mk38], ?_⟩
    simp only [mk38]; rw [o3]; exact ends_one (by omega) (by omega)
  by_cases h6 : x7 = 6
  · refine ⟨_, Ev.step (fun k => rfl) (Ev.no h12 (Ev.no h4 (Ev.no h5 (Ev.yes h6 (Ev.now _))))), rfl, rfl, rfl, .inr (by simp only [mk38]; omega), by simp [mk38], ?_⟩
    simp only [mk38]; rw [t2]; exact ends_two (by omega) (by omega)
  by_cases h7 : x7 = 7
  · exact ⟨_, Ev.step (fun k => rfl) (Ev.no h12 (Ev.no h4 (Ev.no h5 (Ev.no h6 (Ev.yes h7 (Ev.now _)))))), rfl, rfl, rfl, .inl rfl, by simp [mk38], rfl⟩
  by_cases h8 : x7 = 8
  · exact ⟨_, Ev.step (fun k => rfl) (Ev.no h12 (Ev.no h4 (Ev.no h5 (Ev.no h6 (Ev.no h7 (Ev.yes h8 (Ev.now _))))))), rfl, rfl, rfl, .inl rfl, by simp [mk38], rfl⟩
  by_cases h9 : x7 = 9
  · refine ⟨_, Ev.step (fun k => rfl) (Ev.no h12 (Ev.no h4 (Ev.no h5 (Ev.no h6 (Ev.no h7 (Ev.no h8 (Ev.yes h9 (Ev.now _)))))))), rfl, rfl, rfl, ?_, by simp [mk38], rfl⟩
    right; simp only [mk38]; rw [t8]; omega
  · exact ⟨_, Ev.step (fun k => rfl) (Ev.no h12 (Ev.no h4 (Ev.no h5 (Ev.no h6 (Ev.no h7 (Ev.no h8 (Ev.no h9 (Ev.now _)))))))), rfl, rfl, rfl, .inl rfl, by simp [mk38], rfl⟩
theorem turn_j0 (x7 : Int) (x8 : Bool) (a b c : Int) (hb : Byte b) (hc : Byte c) : ∃ t, Ev (fun k => partitalaw10_Turn_turn.j0 k x7 x8 a b c false 0 false false false false 0) t ∧ MadeB (mk38 t) := by
  by_cases h8 : x8 = true
  · exact ⟨_, Ev.step (fun k => rfl) (Ev.yes h8 (Ev.now _)), rfl, rfl, rfl, .inl rfl, by simp [mk38], rfl⟩
  by_cases h2 : x7 = 2
  · obtain ⟨t, h, m⟩ := turn_j1 x7 (x7 == 2) a b c hb hc
    exact ⟨t, Ev.step (fun k => rfl) (Ev.no h8 (Ev.yes h2 h)), m⟩
  · obtain ⟨t, h, m⟩ := turn_j1 x7 (x7 == 3) a b c hb hc
    exact ⟨t, Ev.step (fun k => rfl) (Ev.no h8 (Ev.no h2 h)), m⟩
theorem turn_ev (a b c : Int) (hb : Byte b) (hc : Byte c) : ∃ t, Ev (fun k => partitalaw10_Turn_turn.f k a b c) t ∧ MadeB (mk38 t) := by
  unfold partitalaw10_Turn_turn.f
  by_cases h : Int.tmod a 16 = 0
  · obtain ⟨t, h1, m⟩ := turn_j0 (Int.tmod a 16) (Int.tmod a 16 == 0) a b c hb hc
    exact ⟨t, Ev.yes h h1, m⟩
  · obtain ⟨t, h1, m⟩ := turn_j0 (Int.tmod a 16) (Int.tmod a 16 == 1) a b c hb hc
    exact ⟨t, Ev.no h h1, m⟩

def Bytes (l : List S46) : Prop := ∀ x ∈ l, Byte x.f0 ∧ Byte x.f1 ∧ Byte x.f2
theorem rd46_byte {l : List S46} (h : Bytes l) (i : Int) : Byte (rd_T46 l i).f0 ∧ Byte (rd_T46 l i).f1 ∧ Byte (rd_T46 l i).f2 := by
  unfold rd_T46
  rw [List.getD_eq_getElem?_getD]
  cases hi : l[i.toNat]? with
  | none => simp [z46, Byte]
  | some x => exact h x (List.mem_of_getElem? hi)
theorem made_end (acc : List S38) : Ev (fun k => partitalaw10_Made.j1 k 0 0 0 0 acc) acc := by
  have j2 : Ev (fun k => partitalaw10_Made.j2 k 0 0 0 0 acc (acc.length : Int) true) acc := by
    refine Ev.step (fun k => rfl) ?_
    simp only [partitalaw10_Made.j2]
    exact Ev.yes trivial (Ev.now _)
  refine Ev.step (fun k => rfl) ?_
  simp only [partitalaw10_Made.j1]
  by_cases h : (acc.length : Int) = 0
  · exact Ev.yes h j2
  · exact Ev.no h j2
theorem made_l0 (l : List S46) (hl : Bytes l) : ∀ (d i : Nat) (acc : List S38), d + i = 30 → acc.length = i → (∀ x ∈ acc, MadeB x) → ∃ r, Ev (fun k => partitalaw10_Made.l0 k l 0 0 0 0 acc (i : Int)) r ∧ (∀ x ∈ r, MadeB x) ∧ r.length ≤ 30
  | 0, i, acc, h, ha, hm => by
    refine ⟨acc, Ev.step (fun k => rfl) ?_, hm, by omega⟩
    by_cases h1 : (i : Int) < (l.length : Int)
    · exact Ev.yes h1 (Ev.no (by omega) (made_end acc))
    · exact Ev.no h1 (made_end acc)
  | d + 1, i, acc, h, ha, hm => by
    by_cases h1 : (i : Int) < (l.length : Int)
    · obtain ⟨b0, b1, b2⟩ := rd46_byte hl (i : Int)
      obtain ⟨t, ht, mt⟩ := turn_ev (rd_T46 l (i : Int)).f0 (rd_T46 l (i : Int)).f1 (rd_T46 l (i : Int)).f2 b1 b2
      obtain ⟨r, hr, m, n⟩ := made_l0 l hl d (i + 1) (acc ++ [mk38 t]) (by omega) (by simp; omega) (by
        intro x hx
        rcases List.mem_append.mp hx with hx | hx
        · exact hm x hx
        · rw [List.mem_singleton.mp hx]; exact mt)
      refine ⟨r, Ev.step (fun k => rfl) (Ev.yes h1 (Ev.yes (by omega) (Ev.yes (by omega) (Ev.bind ht (Ev.yes (by omega) ?_))))), m, n⟩
      have e : wrap64 ((i : Int) + 1) = ((i + 1 : Nat) : Int) := by rw [w64 (by omega) (by omega)]; omega
      rw [e]
      exact hr
    · exact ⟨acc, Ev.step (fun k => rfl) (Ev.no h1 (made_end acc)), hm, by omega⟩
theorem made_ev (l : List S46) (hl : Bytes l) : ∃ r, Ev (fun k => partitalaw10_Made.f k l 0 0 0 0) r ∧ AllOf MadeB r ∧ r.length ≤ 30 := by
  obtain ⟨r, h, m, n⟩ := made_l0 l hl 30 0 [] (by omega) rfl (by simp)
  refine ⟨r, h, fun i hi => ?_, n⟩
  rw [rd_T38_nat r i hi]
  exact m _ (List.getElem_mem hi)

theorem made_lone {x : S38} (h : MadeB x) : loneB x = true := by
  unfold loneB
  rw [h.jump, h.ends, decide_eq_true h.times]; rfl
theorem made_jump {x : S38} (h : MadeB x) : isJump x = false := by
  unfold isJump
  rw [h.jump]; rfl
theorem made_short {l : List S38} (h : AllOf MadeB l) : Short l := short_of fun i hi => by have := (h i hi).few; omega
theorem made_chk {l : List S38} (h : AllOf MadeB l) : chkR l = (0, 0) :=
  okay_chk ⟨fun i hi => made_lone (h i hi), fun i i' hi hi' hp _ => (by have e := (h i hi).sign; exact absurd (e.symm.trans hp) (by decide)), fun i i' hi hi' hp _ => (by have e := (h i hi).coda; exact absurd (e.symm.trans hp) (by decide)), fun i i' hi hi' hp _ => by rw [made_jump (h i hi)] at hp; cases hp⟩
    fun i hi hp => by rw [made_jump (h i hi)] at hp; cases hp

/-- A walker ahead of all jumps. -/
structure Free (l : List S38) (q : Wk) : Prop where
  bar : q.mark ≤ q.bar
  mark : 0 ≤ q.mark
  top : q.bar ≤ l.length
  pass : 1 ≤ q.pass ∧ q.pass ≤ 9
  jump : q.jump = 0
  fn : q.fn = false
  cd : q.cd = false
  closed : q.closed = true → q.mark < q.bar
theorem free_q0 (l : List S38) : Free l q0 := ⟨by decide, by decide, by simp [q0], by decide, rfl, rfl, rfl, by simp [q0]⟩
theorem free_enter {l : List S38} {q : Wk} (h : Free l q) (x : S38) : Free l (enterW q x) ∧ (enterW q x = q ∨ q.mark < q.bar ∧ enterW q x = ⟨q.bar, 1, q.bar, false, 0, false, false⟩) := by
  have h1 := h.bar
  have h2 := h.mark
  have h3 := h.top
  unfold enterW
  by_cases he : entersB q x = true
  · rw [if_pos he]
    have hlt : q.mark < q.bar := by
      unfold entersB at he
      simp only [Bool.or_eq_true, Bool.and_eq_true, decide_eq_true_eq] at he
      rcases he with ⟨_, he⟩ | ⟨he, _⟩
      · omega
      · exact h.closed he
    have e : q.to q.bar = ⟨q.bar, 1, q.bar, false, 0, false, false⟩ := by
      have hj := h.jump; have hf := h.fn; have hc := h.cd
      obtain ⟨b, p, m, c, j, f, d⟩ := q
      simp only at hj hf hc
      subst hj hf hc
      rfl
    rw [e]
    exact ⟨⟨by simp, by simp; omega, by simpa using h3, by simp, rfl, rfl, rfl, by simp⟩, .inr ⟨hlt, rfl⟩⟩
  · rw [if_neg he]
    exact ⟨h, .inl rfl⟩
/-- Each bar that is played, and its pass, behind one. -/
inductive Steps (l : List S38) : Int → List (Int × Int) → Prop
  | nil {at_ : Int} : Steps l at_ []
  | cons {at_ b p : Int} {o : List (Int × Int)} : 0 ≤ b → b < l.length → 1 ≤ p → p ≤ 9 → at_ < l.length → -1 ≤ at_ → (b ≤ at_ → 2 ≤ (rd_T38 l at_).f1) → (∀ k : Int, at_ < k → k < b → (rd_T38 l k).f2 ≠ []) →
      ((rd_T38 l b).f2 = [] ∨ p ∈ (rd_T38 l b).f2) → Steps l b o → Steps l at_ ((b, p) :: o)
theorem run_ex {l : List S38} (s c : Int) (h100 : l.length ≤ 100) (hm : AllOf MadeB l) : ∀ (n : Nat) (q : Wk) (at_ : Int), Free l q → ((l.length : Int) - q.mark) * 100000 + (10 - q.pass) * 1000 + ((l.length : Int) - q.bar) ≤ n →
    at_ < l.length → -1 ≤ at_ → (q.bar ≤ at_ → 2 ≤ (rd_T38 l at_).f1) → (∀ k : Int, at_ < k → k < q.bar → (rd_T38 l k).f2 ≠ []) → ∃ o, Run l s c q o ∧ Steps l at_ o
  | 0, q, at_, hf, hn, _, _, _, _ => by
    have h1 := hf.bar; have h2 := hf.mark; have h3 := hf.top; have h4 := hf.pass
    omega
  | n + 1, q, at_, hf, hn, ha, ha0, hb, hk => by
    have h1 := hf.bar; have h2 := hf.mark; have h3 := hf.top; have h4 := hf.pass
    by_cases hlt : q.bar < (l.length : Int)
    · have hx : MadeB (rd_T38 l q.bar) := by
        have := hm q.bar.toNat (by omega)
        rwa [show ((q.bar.toNat : Nat) : Int) = q.bar by omega] at this
      obtain ⟨hf1, hq1⟩ := free_enter hf (rd_T38 l q.bar)
      have eb : (enterW q (rd_T38 l q.bar)).bar = q.bar := enterW_bar _ _
      have hn1 : ((l.length : Int) - (enterW q (rd_T38 l q.bar)).mark) * 100000 + (10 - (enterW q (rd_T38 l q.bar)).pass) * 1000 + ((l.length : Int) - (enterW q (rd_T38 l q.bar)).bar) ≤ ((n + 1 : Nat) : Int) := by
        rcases hq1 with e | ⟨hlt1, e⟩
        · rw [e]; exact hn
        · rw [e]; simp only; omega
      generalize hq : enterW q (rd_T38 l q.bar) = q1 at hf1 eb hn1
      clear hq1
      have g1 := hf1.bar; have g2 := hf1.mark; have g3 := hf1.top; have g4 := hf1.pass
      have gj := hf1.jump
      by_cases hst : stB l q.bar.toNat q1.pass q1.jump (rd_T38 l q.bar) = true
      · have hin : (rd_T38 l q.bar).f2 = [] ∨ q1.pass ∈ (rd_T38 l q.bar).f2 := by
          unfold stB at hst
          by_cases h0 : (rd_T38 l q.bar).f2.length = 0
          · exact .inl (List.eq_nil_of_length_eq_zero h0)
          · rw [if_neg h0, if_pos gj] at hst
            exact .inr (of_decide_eq_true hst)
        have hon : ∃ q2, onW s c q1 (rd_T38 l q.bar) = some q2 ∧ Free l q2 ∧ ((l.length : Int) - q2.mark) * 100000 + (10 - q2.pass) * 1000 + ((l.length : Int) - q2.bar) ≤ (n : Int) ∧ (q2.bar ≤ q.bar → 2 ≤ (rd_T38 l q.bar).f1) ∧ q2.bar ≤ q.bar + 1 := by
          have ht := hx.times
          unfold onW
          rw [hf1.fn, hf1.cd, hx.jump]
          simp only [Bool.false_and, Bool.false_eq_true, if_false]
          by_cases h5 : q1.jump = 0 ∧ q1.pass < (rd_T38 l q.bar).f1
          · rw [if_pos h5]
            refine ⟨_, rfl, ⟨by simp, by simpa using g2, by simp only; omega, by simp only; omega, gj, rfl, rfl, by simp⟩, by simp only; omega, fun _ => by omega, by simp only; omega⟩
          · rw [if_neg h5, if_pos (by simp)]
            refine ⟨_, rfl, ⟨by simp only; omega, by simpa using g2, by simp only; omega, by simpa using g4, gj, rfl, rfl, fun _ => by simp only; omega⟩, by simp only; omega, fun h => by simp only at h; omega, by simp only; omega⟩
        obtain ⟨q2, e2, f2, n2, b2, t2⟩ := hon
        obtain ⟨o, r1, r2⟩ := run_ex s c h100 hm n q2 q.bar f2 n2 (by omega) (by omega) b2 (fun k hk1 hk2 => by omega)
        refine ⟨(q.bar, q1.pass) :: o, ?_, .cons (by omega) hlt g4.1 g4.2 ha ha0 hb hk hin r2⟩
        have := @Run.play l s c q q2 o hlt (by omega) ⟨by omega, by omega⟩ (by rw [hq]; exact hst) (by rw [hq]; exact e2) r1
        rwa [hq] at this
      · have hst' : stB l q.bar.toNat q1.pass q1.jump (rd_T38 l q.bar) = false := by simpa using hst
        have hne : (rd_T38 l q.bar).f2 ≠ [] := by
          intro h0
          unfold stB at hst'
          rw [h0] at hst'
          simp at hst'
        have f2 : Free l (skipW q1 (rd_T38 l q.bar)) := ⟨by simp only [skipW]; omega, by simpa [skipW] using g2, by simp only [skipW]; omega, by simpa [skipW] using g4, gj, hf1.fn, hf1.cd, fun _ => by simp only [skipW]; omega⟩
        obtain ⟨o, r1, r2⟩ := run_ex s c h100 hm n (skipW q1 (rd_T38 l q.bar)) at_ f2 (by simp only [skipW]; omega) ha ha0 (fun h => hb (by simp only [skipW] at h; omega)) (fun k hk1 hk2 => by
          simp only [skipW] at hk2
          by_cases he : k = q.bar
          · rw [he]; exact hne
          · exact hk k hk1 (by omega))
        exact ⟨o, .skip hlt (by omega) ⟨by omega, by omega⟩ (by rw [hq]; exact hst') (by rw [hq]; exact r1), r2⟩
    · exact ⟨[], .fin hlt, .nil⟩
theorem run_made {l : List S38} (s c : Int) (h100 : l.length ≤ 100) (hm : AllOf MadeB l) : ∃ o, Run l s c q0 o ∧ Steps l (-1) o :=
  run_ex s c h100 hm 10100000 q0 (-1) (free_q0 l) (by simp only [q0]; omega) (by omega) (by omega) (fun h => by simp [q0] at h) (fun k h1 h2 => by simp only [q0] at h2; omega)
end Go.Proofs.Ytendmmagjjhfnaa.Z
namespace Go.Proofs.Ytendmmagjjhfnaa.Z
open Go.RowKit Go.Proofs.YtendmmagjjhfnaaW.PrintWords Go.Proofs.YtendmmagjjhfnaaW.PrintLast Go.Proofs.Ytendmmagjjhfnaa.M
set_option linter.unusedVariables false
set_option linter.unusedSimpArgs false

/-- How a walker goes on ahead of all jumps. -/
def onM (q : Wk) (x : S38) : Wk := if q.pass < x.f1 then { q with bar := q.mark, pass := q.pass + 1, closed := false } else { q with closed := q.closed || decide (x.f1 > 0), bar := q.bar + 1 }
theorem on_made {l : List S38} {q : Wk} (h : Free l q) {x : S38} (hx : MadeB x) (s c : Int) : onW s c q x = some (onM q x) := by
  unfold onW onM
  rw [h.fn, h.cd, hx.jump, h.jump]
  simp only [Bool.false_and, Bool.false_eq_true, if_false]
  by_cases h5 : q.pass < x.f1
  · rw [if_pos ⟨trivial, h5⟩, if_pos h5]
  · rw [if_neg (fun hh => h5 hh.2), if_pos (by simp), if_neg h5]
theorem free_on {l : List S38} {q : Wk} (h : Free l q) (hb : q.bar < l.length) {x : S38} (hx : MadeB x) : Free l (onM q x) ∧ (onM q x).mark = q.mark := by
  have g1 := h.bar; have g2 := h.mark; have g4 := h.pass; have ht := hx.times
  unfold onM
  by_cases h5 : q.pass < x.f1
  · rw [if_pos h5]
    exact ⟨⟨by simp, by simpa using g2, by simp only; omega, by simp only; omega, h.jump, h.fn, h.cd, by simp⟩, rfl⟩
  · rw [if_neg h5]
    exact ⟨⟨by simp only; omega, by simpa using g2, by simp only; omega, by simpa using g4, h.jump, h.fn, h.cd, fun _ => by simp only; omega⟩, rfl⟩
theorem free_skip {l : List S38} {q : Wk} (h : Free l q) (hb : q.bar < l.length) (x : S38) : Free l (skipW q x) ∧ (skipW q x).mark = q.mark := by
  have g1 := h.bar; have g2 := h.mark; have g4 := h.pass
  exact ⟨⟨by simp only [skipW]; omega, by simpa [skipW] using g2, by simp only [skipW]; omega, by simpa [skipW] using g4, h.jump, h.fn, h.cd, fun _ => by simp only [skipW]; omega⟩, rfl⟩
theorem enter_mark {l : List S38} {q : Wk} (h : Free l q) (x : S38) {n : Int} (hb : q.bar < n) (hm : q.mark < n) : (enterW q x).mark < n := by
  rcases (free_enter h x).2 with e | ⟨_, e⟩
  · rw [e]; exact hm
  · rw [e]; exact hb
theorem st_free (l l' : List S38) (b b' : Nat) (p : Int) {j : Int} (hj : j = 0) (x : S38) : stB l b p j x = stB l' b' p j x := by
  unfold stB
  rw [if_pos hj, if_pos hj]
theorem rd_left (x y : List S38) {i : Int} (h0 : 0 ≤ i) (h1 : i < x.length) : rd_T38 (x ++ y) i = rd_T38 x i := by
  have := rd_app_left x y i.toNat (by omega)
  rwa [show ((i.toNat : Nat) : Int) = i by omega] at this
theorem rd_right (x y : List S38) {i : Int} (h0 : 0 ≤ i) : rd_T38 (x ++ y) (i + x.length) = rd_T38 y i := by
  have := rd_app_right x y i.toNat
  rwa [show ((x.length + i.toNat : Nat) : Int) = i + x.length by omega, show ((i.toNat : Nat) : Int) = i by omega] at this
theorem made_at {l : List S38} (hm : AllOf MadeB l) {i : Int} (h0 : 0 ≤ i) (h1 : i < l.length) : MadeB (rd_T38 l i) := by
  have := hm i.toNat (by omega)
  rwa [show ((i.toNat : Nat) : Int) = i by omega] at this
/-- What is ahead is played as it would be alone. -/
theorem run_cat {x y : List S38} {s c s' c' : Int} (hm : AllOf MadeB x) {r : List (Int × Int)} (hr : ∀ q', Free x q' → q'.bar = x.length → q'.mark < x.length → Run (x ++ y) s' c' q' r) {q : Wk} {o : List (Int × Int)} (h : Run x s c q o) :
    Free x q → q.mark < x.length → Run (x ++ y) s' c' q (o ++ r) := by
  induction h with
  | fin h1 =>
    intro hf hk
    exact hr _ hf (by have := hf.top; omega) hk
  | @skip q o h1 h2 h3 h4 _ ih =>
    intro hf hk
    obtain ⟨f1, _⟩ := free_enter hf (rd_T38 x q.bar)
    have k1 := enter_mark hf (rd_T38 x q.bar) h1 hk
    have e1 : (enterW q (rd_T38 x q.bar)).bar = q.bar := enterW_bar _ _
    obtain ⟨f2, m2⟩ := free_skip f1 (by omega) (rd_T38 x q.bar)
    have hrun := ih f2 (by rw [m2]; exact k1)
    have er := rd_left x y h2 h1
    refine .skip (by simp; omega) h2 h3 ?_ ?_
    · rw [er, st_free (x ++ y) x _ q.bar.toNat _ f1.jump]; exact h4
    · rw [er]; exact hrun
  | @stop q h1 h2 h3 h4 h5 =>
    intro hf hk
    obtain ⟨f1, _⟩ := free_enter hf (rd_T38 x q.bar)
    rw [on_made f1 (made_at hm h2 h1)] at h5
    cases h5
  | @play q q2 o h1 h2 h3 h4 h5 _ ih =>
    intro hf hk
    obtain ⟨f1, _⟩ := free_enter hf (rd_T38 x q.bar)
    have k1 := enter_mark hf (rd_T38 x q.bar) h1 hk
    have e1 : (enterW q (rd_T38 x q.bar)).bar = q.bar := enterW_bar _ _
    have hx := made_at hm h2 h1
    obtain ⟨f2, m2⟩ := free_on f1 (by omega) hx
    rw [on_made f1 hx] at h5
    obtain rfl := Option.some.inj h5
    have hrun := ih f2 (by rw [m2]; exact k1)
    have er := rd_left x y h2 h1
    have := @Run.play (x ++ y) s' c' q (onM (enterW q (rd_T38 x q.bar)) (rd_T38 x q.bar)) (o ++ r) (by simp; omega) h2 h3 (by rw [er, st_free (x ++ y) x _ q.bar.toNat _ f1.jump]; exact h4) (by rw [er]; exact on_made f1 hx s' c') hrun
    rw [er] at this
    exact this

/-- A walker as many bars on. -/
def shW (n : Int) (q : Wk) : Wk := { q with bar := q.bar + n, mark := q.mark + n }
def sh (n : Int) (o : List (Int × Int)) : List (Int × Int) := o.map fun a => (a.1 + n, a.2)
theorem sh_enter (n : Int) (q : Wk) (x : S38) : enterW (shW n q) x = shW n (enterW q x) := by
  have e : entersB (shW n q) x = entersB q x := by
    unfold entersB shW
    have : decide (q.bar + n ≠ q.mark + n) = decide (q.bar ≠ q.mark) := by rw [decide_eq_decide]; omega
    simp only [this]
  unfold enterW
  rw [e]
  split
  · rfl
  · rfl
theorem sh_skip (n : Int) (q : Wk) (x : S38) : skipW (shW n q) x = shW n (skipW q x) := by
  unfold skipW shW
  simp only [Wk.mk.injEq, true_and, and_true]
  omega
theorem sh_on (n : Int) (q : Wk) (x : S38) : onM (shW n q) x = shW n (onM q x) := by
  unfold onM
  by_cases h : q.pass < x.f1
  · rw [if_pos (show (shW n q).pass < x.f1 from h), if_pos h]; rfl
  · rw [if_neg (show ¬ (shW n q).pass < x.f1 from h), if_neg h]
    unfold shW
    simp only [Wk.mk.injEq, true_and, and_true]
    omega
theorem free_sh {l l' : List S38} {n : Int} {q : Wk} (h : Free l q) (h0 : 0 ≤ n) (hl : (l'.length : Int) = l.length + n) : Free l' (shW n q) := by
  have g1 := h.bar; have g2 := h.mark; have g3 := h.top
  exact ⟨by simp only [shW]; omega, by simp only [shW]; omega, by simp only [shW]; omega, h.pass, h.jump, h.fn, h.cd, fun hc => by have := h.closed hc; simp only [shW]; omega⟩
/-- What is behind is played as it would be alone. -/
theorem run_sh {x y : List S38} {s c s' c' : Int} (hm : AllOf MadeB y) {q : Wk} {o : List (Int × Int)} (h : Run y s c q o) : Free y q → Run (x ++ y) s' c' (shW x.length q) (sh x.length o) := by
  have hl : ((x ++ y).length : Int) = y.length + x.length := by simp; omega
  induction h with
  | fin h1 =>
    intro hf
    exact .fin (by simp only [shW]; omega)
  | @skip q o h1 h2 h3 h4 _ ih =>
    intro hf
    obtain ⟨f1, _⟩ := free_enter hf (rd_T38 y q.bar)
    have e1 : (enterW q (rd_T38 y q.bar)).bar = q.bar := enterW_bar _ _
    have hrun := ih (free_skip f1 (by omega) _).1
    have er : rd_T38 (x ++ y) (shW x.length q).bar = rd_T38 y q.bar := rd_right x y h2
    refine .skip (by simp only [shW]; omega) (by simp only [shW]; omega) h3 ?_ ?_
    · rw [er, sh_enter]; exact (st_free _ _ _ _ _ f1.jump _).trans h4
    · rw [er, sh_enter, sh_skip]; exact hrun
  | @stop q h1 h2 h3 h4 h5 =>
    intro hf
    obtain ⟨f1, _⟩ := free_enter hf (rd_T38 y q.bar)
    rw [on_made f1 (made_at hm h2 h1)] at h5
    cases h5
  | @play q q2 o h1 h2 h3 h4 h5 _ ih =>
    intro hf
    obtain ⟨f1, _⟩ := free_enter hf (rd_T38 y q.bar)
    have e1 : (enterW q (rd_T38 y q.bar)).bar = q.bar := enterW_bar _ _
    have hx := made_at hm h2 h1
    rw [on_made f1 hx] at h5
    obtain rfl := Option.some.inj h5
    have hrun := ih (free_on f1 (by omega) hx).1
    have er : rd_T38 (x ++ y) (shW x.length q).bar = rd_T38 y q.bar := rd_right x y h2
    have := @Run.play (x ++ y) s' c' (shW x.length q) (shW x.length (onM (enterW q (rd_T38 y q.bar)) (rd_T38 y q.bar))) (sh x.length o) (by simp only [shW]; omega) (by simp only [shW]; omega) h3
      (by rw [er, sh_enter]; exact (st_free _ _ _ _ _ f1.jump _).trans h4) (by rw [er, sh_enter, on_made (free_sh f1 (by omega) hl) hx, sh_on]) hrun
    rw [er, sh_enter] at this
    exact this
theorem run_parts {x y : List S38} {s c s1 c1 s2 c2 : Int} (hx : AllOf MadeB x) (hy : AllOf MadeB y) (h0 : (rd_T38 y 0).f0 = true) {o1 o2 : List (Int × Int)} (h1 : Run x s1 c1 q0 o1) (h2 : Run y s2 c2 q0 o2) : Run (x ++ y) s c q0 (o1 ++ sh x.length o2) := by
  have hs := run_sh (x := x) (s' := s) (c' := c) hy h2 (free_q0 y)
  by_cases hn : x.length = 0
  · have e : x = [] := List.eq_nil_of_length_eq_zero hn
    subst e
    have e1 : o1 = [] := by
      cases h1 with
      | fin _ => rfl
      | skip h _ _ _ _ => simp [q0] at h
      | stop h _ _ _ _ => simp [q0] at h
      | play h _ _ _ _ _ => simp [q0] at h
    subst e1
    exact hs
  · refine run_cat hx (fun q' hf hb hk => ?_) h1 (free_q0 x) (by simp only [q0]; omega)
    have er : rd_T38 (x ++ y) (x.length : Int) = rd_T38 y 0 := by
      have := rd_right x y (Int.le_refl 0)
      rwa [Int.zero_add] at this
    refine run_of_enter (q' := shW x.length q0) (by rw [hb]; simp [shW, q0]) ⟨by have := hf.pass; omega, by have := hf.pass; omega⟩ ?_ hs
    have e2 : (shW x.length q0).bar = (x.length : Int) := by simp [shW, q0]
    rw [e2, hb, er]
    have hq : entersB q' (rd_T38 y 0) = true := by
      unfold entersB
      rw [h0, decide_eq_true (by omega)]; rfl
    rcases free_enter hf (rd_T38 y 0) with ⟨_, e | ⟨_, e⟩⟩
    · unfold enterW at e
      rw [if_pos hq] at e
      have := congrArg Wk.mark e
      simp only [Wk.to] at this
      omega
    · rw [e, sh_enter, hb]
      have : enterW q0 (rd_T38 y 0) = q0 := by
        unfold enterW entersB q0
        simp
      rw [this]
      simp [shW, q0]
theorem sh_fst (n : Int) (o : List (Int × Int)) : (sh n o).map Prod.fst = (o.map Prod.fst).map (n + ·) := by
  unfold sh
  rw [List.map_map, List.map_map]
  congr 1
  funext a
  show a.1 + n = n + a.1
  omega
theorem parts_l0 (x : List S38) (hx : x.length ≤ 30) (q b : List Int) (g : Int) (hq : q.length ≤ 2000) (hq2 : ∀ v ∈ q, 0 ≤ v ∧ v ≤ 1000) {r : Bool} :
    ∀ (d i : Nat) (acc : List Int), d + i = q.length → acc.length ≤ 2000 + i → Ev (fun k => partitalaw10_TurnsParts.l0 k true x q b g (acc ++ (q.drop i).map ((x.length : Int) + ·)) (q.length : Int)) r → Ev (fun k => partitalaw10_TurnsParts.l0 k true x q b g acc (i : Int)) r
  | 0, i, acc, hd, ha, h => by
    rw [List.drop_of_length_le (by omega), List.map_nil, List.append_nil] at h
    rwa [show (i : Int) = (q.length : Int) by omega]
  | d + 1, i, acc, hd, ha, h => by
    have hi : i < q.length := by omega
    have e : wrap64 ((i : Int) + 1) = ((i + 1 : Nat) : Int) := by rw [w64 (by omega) (by omega)]; omega
    have hv := hq2 q[i] (List.getElem_mem hi)
    refine Ev.step (fun k => rfl) (Ev.yes (by omega) (Ev.yes (by omega) (Ev.yes (by omega) ?_)))
    rw [rd_nat q i hi, e, w64 (by omega) (by omega)]
    refine parts_l0 x hx q b g hq hq2 d (i + 1) _ (by omega) (by simp; omega) ?_
    rw [List.drop_eq_getElem_cons hi, List.map_cons] at h
    simpa using h
theorem steps_range {l : List S38} : ∀ {at_ : Int} {o : List (Int × Int)}, Steps l at_ o → ∀ v ∈ o.map Prod.fst, 0 ≤ v ∧ v < l.length := by
  intro at_ o h
  induction h with
  | nil => simp
  | cons h1 h2 _ _ _ _ _ _ _ _ ih =>
    intro v hv
    rw [List.map_cons, List.mem_cons] at hv
    rcases hv with rfl | hv
    · exact ⟨h1, h2⟩
    · exact ih v hv
theorem turnsParts (a b : List S46) (ha : Bytes a) (hb : Bytes b) : Ev (fun k => partitalaw10_TurnsParts.f k a b) true := by
  unfold partitalaw10_TurnsParts.f
  refine Ev.bind examples_ev (Ev.yes rfl ?_)
  obtain ⟨x, hx1, hx, hx30⟩ := made_ev a ha
  obtain ⟨y0, hy1, hy0, hy30⟩ := made_ev b hb
  refine Ev.bind hx1 (Ev.bind hy1 ?_)
  by_cases hy : (y0.length : Int) = 0
  · exact Ev.yes hy (Ev.now _)
  refine Ev.no hy (Ev.yes (by omega) (Ev.bind (Ev.now _) ?_))
  generalize hye : (y0.set (0 : Int).toNat (⟨true, (rd_T38 y0 0).f1, (rd_T38 y0 0).f2, (rd_T38 y0 0).f3, (rd_T38 y0 0).f4, (rd_T38 y0 0).f5, (rd_T38 y0 0).f6, (rd_T38 y0 0).f7⟩ : S38)) = y
  have hm0 : MadeB (rd_T38 y0 0) := made_at hy0 (by omega) (by omega)
  have hyl : y.length = y0.length := by rw [← hye]; simp
  have hym : AllOf MadeB y := by
    rw [← hye]
    exact allOf_set hy0 (show 0 < y0.length by omega) ⟨hm0.jump, hm0.sign, hm0.coda, hm0.times, hm0.few, hm0.ends⟩
  have hyb : (rd_T38 y 0).f0 = true := by
    have := rd_set y0 0 (⟨true, (rd_T38 y0 0).f1, (rd_T38 y0 0).f2, (rd_T38 y0 0).f3, (rd_T38 y0 0).f4, (rd_T38 y0 0).f5, (rd_T38 y0 0).f6, (rd_T38 y0 0).f7⟩ : S38) 0 (by omega)
    rw [if_pos rfl] at this
    rw [← hye]
    exact congrArg S38.f0 this
  obtain ⟨o1, r1, _⟩ := run_made (fi (fun x => x.f3) 0 x) (fi (fun x => x.f4) 0 x) (by omega) hx
  obtain ⟨o2, r2, t2⟩ := run_made (fi (fun x => x.f3) 0 y) (fi (fun x => x.f4) 0 y) (by omega) hym
  have hxy : AllOf MadeB (x ++ y) := by
    intro i hi
    by_cases h : i < x.length
    · rw [rd_app_left x y i h]; exact hx i h
    · obtain ⟨j, rfl⟩ : ∃ j, i = x.length + j := ⟨i - x.length, by omega⟩
      rw [rd_app_right]; exact hym j (by simp at hi; omega)
  have r3 := run_parts (s := fi (fun x => x.f3) 0 (x ++ y)) (c := fi (fun x => x.f4) 0 (x ++ y)) hx hym hyb r1 r2
  have w1 := walk_ev (by omega) (made_short hx) (made_chk hx) r1
  have w2 := walk_ev (by omega) (made_short hym) (made_chk hym) r2
  have w3 := walk_ev (by simp; omega) (made_short hxy) (made_chk hxy) r3
  refine Ev.bind (unfold_ev w1) (Ev.bind (unfold_ev w2) (Ev.yes (by simp; omega) (Ev.bind (Ev.now _) (Ev.yes (by simp; omega) ?_))))
  rw [List.nil_append]
  refine Ev.bind (unfold_ev w3) ?_
  have hl3 : (o1 ++ sh x.length o2).length = o1.length + o2.length := by simp [sh]
  have far : ∀ (p q : List Int) (e f : Int) (z : Bool), 2000 < o1.length + o2.length → (e = 0 ∨ e = 101) → (f = 0 ∨ f = 101) → z = true → Ev (fun k => partitalaw10_TurnsParts.j0 k true x p e q f (told (o1 ++ sh x.length o2)).1 (told (o1 ++ sh x.length o2)).2.2 z) true := by
    intro p q e f z h he hf hz
    have et : told (o1 ++ sh x.length o2) = ([], [], 101) := if_neg (by omega)
    rw [et]
    subst hz
    refine Ev.step (fun k => rfl) ?_
    simp only [partitalaw10_TurnsParts.j0]
    refine Ev.yes trivial (Ev.yes trivial (Ev.yes trivial ?_))
    rcases he with rfl | rfl
    · refine Ev.yes rfl ?_
      rcases hf with rfl | rfl
      · exact Ev.yes rfl (Ev.now _)
      · exact Ev.no (by decide) (Ev.now _)
    · refine Ev.no (by decide) (Ev.yes rfl ?_)
      rcases hf with rfl | rfl
      · exact Ev.yes rfl (Ev.now _)
      · exact Ev.no (by decide) (Ev.now _)
  by_cases h1 : o1.length ≤ 2000
  · have e1 : told o1 = (o1.map Prod.fst, o1.map Prod.snd, 0) := if_pos h1
    by_cases h2 : o2.length ≤ 2000
    · have e2 : told o2 = (o2.map Prod.fst, o2.map Prod.snd, 0) := if_pos h2
      rw [e1, e2]
      dsimp only
      refine Ev.yes rfl ?_
      refine Ev.step (fun k => rfl) ?_
      rw [show ((0 : Int) != 0) = false by decide]
      simp only [partitalaw10_TurnsParts.j0]
      refine Ev.no (by decide) (Ev.yes (by simp; omega) ?_)
      rw [List.nil_append]
      have st := steps_range t2
      refine parts_l0 x hx30 (o2.map Prod.fst) _ _ (by simpa using h2) (fun v hv => by have := st v hv; omega) (o2.map Prod.fst).length 0 (o1.map Prod.fst) (by omega) (by simpa using h1) ?_
      rw [List.drop_zero]
      have el : (o1.map Prod.fst ++ (o2.map Prod.fst).map ((x.length : Int) + ·)).length = o1.length + o2.length := by simp
      by_cases h3 : o1.length + o2.length ≤ 2000
      · have e3 : told (o1 ++ sh x.length o2) = ((o1 ++ sh x.length o2).map Prod.fst, (o1 ++ sh x.length o2).map Prod.snd, 0) := if_pos (by omega)
        rw [e3]
        dsimp only
        refine Ev.step (fun k => rfl) ?_
        simp only [partitalaw10_TurnsParts.l0]
        refine Ev.no (by omega) (Ev.no (by omega) (Ev.yes trivial (Ev.yes trivial (Ev.bind (ints_same ?_ ?_) (Ev.now _)))))
        · rw [List.map_append, sh_fst]
        · simp [sh]; omega
      · have e3 : told (o1 ++ sh x.length o2) = ([], [], 101) := if_neg (by omega)
        rw [e3]
        dsimp only
        refine Ev.step (fun k => rfl) ?_
        simp only [partitalaw10_TurnsParts.l0]
        exact Ev.no (by omega) (Ev.yes (by omega) (Ev.yes trivial (Ev.now _)))
    · have e2 : told o2 = ([], [], 101) := if_neg h2
      rw [e1, e2]
      dsimp only
      exact Ev.yes rfl (far _ _ _ _ _ (by omega) (.inl rfl) (.inr rfl) (by decide))
  · have e1 : told o1 = ([], [], 101) := if_neg h1
    rw [e1]
    dsimp only
    refine Ev.no (by decide) (far _ _ _ _ _ (by omega) (.inr rfl) ?_ rfl)
    by_cases h2 : o2.length ≤ 2000
    · left; rw [show told o2 = (o2.map Prod.fst, o2.map Prod.snd, 0) from if_pos h2]
    · right; rw [show told o2 = ([], [], 101) from if_neg h2]
end Go.Proofs.Ytendmmagjjhfnaa.Z
