/- Runs: how a walker goes from bar to bar, ahead of all jumps. -/
import Derived.Test.YtendmmagjjhfnaaZ2
namespace Go.Proofs.Ytendmmagjjhfnaa.Z
open Go.RowKit Go.Proofs.YtendmmagjjhfnaaW.PrintWords Go.Proofs.YtendmmagjjhfnaaW.PrintLast Go.Proofs.Ytendmmagjjhfnaa.M
set_option linter.unusedVariables false
set_option linter.unusedSimpArgs false

/-- A bar that is played always, and leads nowhere but back. -/
def Still (x : S38) : Prop := x.f2 = [] ∧ x.f7 = 0
theorem still_st {l : List S38} {b : Nat} {p : Int} {x : S38} (h : Still x) (j : Int) : stB l b p j x = true := by
  unfold stB
  rw [h.1]; rfl
/-- Where two walkers enter a bar alike, they run alike. -/
theorem run_of_enter {l : List S38} {s c : Int} {q q' : Wk} (hb : q.bar = q'.bar) (hp : 0 ≤ q.pass ∧ q.pass ≤ 140737488351232) (he : enterW q (rd_T38 l q.bar) = enterW q' (rd_T38 l q'.bar)) {o : List (Int × Int)} (h : Run l s c q' o) : Run l s c q o := by
  cases h with
  | fin h1 => exact .fin (by rwa [hb])
  | skip h1 h2 h3 h4 h5 =>
    rw [← he, ← hb] at h4 h5
    rw [← hb] at h1 h2
    exact .skip h1 h2 hp h4 h5
  | stop h1 h2 h3 h4 h5 =>
    rw [← he, ← hb] at h4 h5
    rw [← hb] at h1 h2
    have := Run.stop h1 h2 hp h4 h5
    rwa [he, hb] at this
  | play h1 h2 h3 h4 h5 h6 =>
    rw [← he, ← hb] at h4 h5
    rw [← hb] at h1 h2
    have := Run.play h1 h2 hp h4 h5 h6
    rw [he, hb] at this
    exact this
/-- A bar that is no begin, entered by a walker behind none that closes, ahead of all jumps: it goes on. -/
theorem run_on {l : List S38} {s c : Int} {b : Nat} {p m : Int} (hb : b < l.length) (hx : Still (rd_T38 l (b : Int))) (h0 : (rd_T38 l (b : Int)).f0 = false ∨ (b : Int) = m) (h1 : (rd_T38 l (b : Int)).f1 ≤ p) (hp : 0 ≤ p ∧ p ≤ 140737488351232) {o : List (Int × Int)}
    (h : Run l s c ⟨((b + 1 : Nat) : Int), p, m, decide ((rd_T38 l (b : Int)).f1 > 0), 0, false, false⟩ o) : Run l s c ⟨(b : Int), p, m, false, 0, false, false⟩ (((b : Int), p) :: o) := by
  have he : enterW ⟨(b : Int), p, m, false, 0, false, false⟩ (rd_T38 l (b : Int)) = ⟨(b : Int), p, m, false, 0, false, false⟩ := by
    unfold enterW entersB
    rcases h0 with h0 | h0
    · rw [h0]; rfl
    · rw [if_neg]; simp [h0]
  have := @Run.play l s c ⟨(b : Int), p, m, false, 0, false, false⟩ ⟨((b + 1 : Nat) : Int), p, m, decide ((rd_T38 l (b : Int)).f1 > 0), 0, false, false⟩ o (by show (b : Int) < _; omega) (by show (0 : Int) ≤ b; omega) hp (by
    exact still_st hx _) (by
    show onW s c (enterW _ (rd_T38 l (b : Int))) (rd_T38 l (b : Int)) = _
    rw [he]
    unfold onW
    rw [hx.2]
    simp only [Bool.false_and, Bool.false_eq_true, if_false]
    rw [if_neg (by omega), if_pos (by simp)]
    simp) h
  rwa [show (enterW (⟨(b : Int), p, m, false, 0, false, false⟩ : Wk) (rd_T38 l (b : Int))).pass = p by rw [he]] at this
/-- A bar that ends a repeat: back. -/
theorem run_back {l : List S38} {s c : Int} {b : Nat} {p m : Int} (hb : b < l.length) (hx : Still (rd_T38 l (b : Int))) (h0 : (rd_T38 l (b : Int)).f0 = false ∨ (b : Int) = m) (h1 : p < (rd_T38 l (b : Int)).f1) (hp : 0 ≤ p ∧ p ≤ 140737488351232) {o : List (Int × Int)}
    (h : Run l s c ⟨m, p + 1, m, false, 0, false, false⟩ o) : Run l s c ⟨(b : Int), p, m, false, 0, false, false⟩ (((b : Int), p) :: o) := by
  have he : enterW ⟨(b : Int), p, m, false, 0, false, false⟩ (rd_T38 l (b : Int)) = ⟨(b : Int), p, m, false, 0, false, false⟩ := by
    unfold enterW entersB
    rcases h0 with h0 | h0
    · rw [h0]; rfl
    · rw [if_neg]; simp [h0]
  have := @Run.play l s c ⟨(b : Int), p, m, false, 0, false, false⟩ ⟨m, p + 1, m, false, 0, false, false⟩ o (by show (b : Int) < _; omega) (by show (0 : Int) ≤ b; omega) hp (by
    exact still_st hx _) (by
    show onW s c (enterW _ (rd_T38 l (b : Int))) (rd_T38 l (b : Int)) = _
    rw [he]
    unfold onW
    simp only [Bool.false_and, Bool.false_eq_true, if_false]
    rw [if_pos (by simpa using h1)]) h
  rwa [show (enterW (⟨(b : Int), p, m, false, 0, false, false⟩ : Wk) (rd_T38 l (b : Int))).pass = p by rw [he]] at this
/-- A section begins. -/
theorem run_enter {l : List S38} {s c : Int} {b : Nat} {p m : Int} {cl : Bool} (hx : (rd_T38 l (b : Int)).f2 = []) (h0 : cl = true ∨ ((rd_T38 l (b : Int)).f0 = true ∧ (b : Int) ≠ m)) (hp : 0 ≤ p ∧ p ≤ 140737488351232) {o : List (Int × Int)}
    (h : Run l s c ⟨(b : Int), 1, b, false, 0, false, false⟩ o) : Run l s c ⟨(b : Int), p, m, cl, 0, false, false⟩ o := by
  have e1 : enterW (⟨(b : Int), 1, b, false, 0, false, false⟩ : Wk) (rd_T38 l (b : Int)) = ⟨(b : Int), 1, b, false, 0, false, false⟩ := by
    unfold enterW
    rw [if_neg (by unfold entersB; simp)]
  have e2 : enterW (⟨(b : Int), p, m, cl, 0, false, false⟩ : Wk) (rd_T38 l (b : Int)) = ⟨(b : Int), 1, b, false, 0, false, false⟩ := by
    unfold enterW
    rw [if_pos (by
      unfold entersB
      rcases h0 with h0 | ⟨h0, h1⟩
      · rw [h0, hx]; simp
      · rw [h0]; simp [h1])]
    rfl
  exact @run_of_enter l s c ⟨(b : Int), p, m, cl, 0, false, false⟩ ⟨(b : Int), 1, b, false, 0, false, false⟩ rfl hp (e2.trans e1.symm) o h
/-- A stretch of bars that go on. -/
theorem run_stretch {l : List S38} {s c p m : Int} (hp : 0 ≤ p ∧ p ≤ 140737488351232) : ∀ (n b : Nat) {o : List (Int × Int)}, b + n ≤ l.length →
    (∀ i, b ≤ i → i < b + n → Still (rd_T38 l (i : Int)) ∧ ((rd_T38 l (i : Int)).f0 = false ∨ (i : Int) = m) ∧ (rd_T38 l (i : Int)).f1 = 0) →
    Run l s c ⟨((b + n : Nat) : Int), p, m, false, 0, false, false⟩ o → Run l s c ⟨(b : Int), p, m, false, 0, false, false⟩ ((upTo b n).map (fun i => (i, p)) ++ o)
  | 0, b, o, h1, h2, h3 => h3
  | n + 1, b, o, h1, h2, h3 => by
    rw [upTo_succ, List.map_cons, List.cons_append]
    obtain ⟨a1, a2, a3⟩ := h2 b (by omega) (by omega)
    refine run_on (by omega) a1 a2 (by omega) hp ?_
    rw [a3]
    exact run_stretch hp n (b + 1) (by omega) (fun i hi hi2 => h2 i (by omega) (by omega)) (by rwa [show b + 1 + n = b + (n + 1) by omega])

theorem tm {a : Int} (h : 0 ≤ a) (h2 : a < 256) (n : Nat) (hn : 0 < n) : ∃ m : Nat, wrap64 (Int.tmod a n) = (m : Int) ∧ m < n := by
  refine ⟨(a % (n : Int)).toNat, ?_⟩
  have h3 := Int.emod_nonneg a (b := (n : Int)) (by omega)
  have h4 := Int.emod_lt_of_pos a (b := (n : Int)) (by omega)
  have h5 : a % (n : Int) ≤ a := by
    have := Int.emod_add_mul_ediv a (n : Int)
    have := Int.mul_nonneg (by omega : 0 ≤ (n : Int)) (Int.ediv_nonneg h (by omega : 0 ≤ (n : Int)))
    omega
  rw [Int.tmod_eq_emod_of_nonneg h, w64 (by omega) (by omega)]
  omega
theorem u8_wf {a : Int} (h : (Lit.int .u8 a).wf = true) : 0 ≤ a ∧ a < 256 := by
  have e : IntKind.u8.min = 0 := rfl
  have e2 : IntKind.u8.max = 255 := rfl
  simp [Lit.wf] at h
  omega
end Go.Proofs.Ytendmmagjjhfnaa.Z
