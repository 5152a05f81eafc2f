/- The pure part of the statement TurnsEndings: bars with endings are played pass for pass, each with its own ending, and go on behind the last one. -/
import Derived.Test.YtendmmagjjhfnaaZ3
import Derived.Test.YtendmmagjjhfnaaM34
namespace Go.Proofs.Ytendmmagjjhfnaa.Z
open Go.RowKit Go.Proofs.YtendmmagjjhfnaaW.PrintWords Go.Proofs.YtendmmagjjhfnaaW.PrintLast Go.Proofs.Ytendmmagjjhfnaa.M
set_option linter.unusedVariables false
set_option linter.unusedSimpArgs false

/-- A bar that's not entered anew: it has endings, and is no begin. -/
theorem enter_end {q : Wk} {x : S38} (h0 : x.f0 = false) (h2 : x.f2.length ≠ 0) : enterW q x = q := by
  unfold enterW entersB
  rw [h0]
  rw [if_neg]
  simp
  intro _ h
  exact h2 (by rw [h]; rfl)
/-- An ending's bar that is not played. -/
theorem run_skip {l : List S38} {s c : Int} {b : Nat} {p m e : Int} {cl : Bool} (hb : b < l.length) (h2 : (rd_T38 l (b : Int)).f2 = [e]) (he : e ≠ p) (h0 : (rd_T38 l (b : Int)).f0 = false) (hp : 0 ≤ p ∧ p ≤ 140737488351232) {o : List (Int × Int)}
    (h : Run l s c ⟨((b + 1 : Nat) : Int), p, m, cl || (decide ((rd_T38 l (b : Int)).f1 > 0) && decide (p ≥ (rd_T38 l (b : Int)).f1)), 0, false, false⟩ o) : Run l s c ⟨(b : Int), p, m, cl, 0, false, false⟩ o := by
  have hen : enterW (⟨(b : Int), p, m, cl, 0, false, false⟩ : Wk) (rd_T38 l (b : Int)) = ⟨(b : Int), p, m, cl, 0, false, false⟩ := enter_end h0 (by rw [h2]; simp)
  refine @Run.skip l s c ⟨(b : Int), p, m, cl, 0, false, false⟩ o (by show (b : Int) < _; omega) (by show (0 : Int) ≤ b; omega) hp ?_ ?_
  · show stB l _ (enterW _ (rd_T38 l (b : Int))).pass (enterW _ (rd_T38 l (b : Int))).jump (rd_T38 l (b : Int)) = false
    rw [hen]
    unfold stB
    rw [h2]
    simp
    exact fun h => he h.symm
  · show Run l s c (skipW (enterW _ (rd_T38 l (b : Int))) (rd_T38 l (b : Int))) o
    rw [hen]
    unfold skipW
    simpa using h
theorem run_skips {l : List S38} {s c p m e : Int} {cl : Bool} (hp : 0 ≤ p ∧ p ≤ 140737488351232) : ∀ (n b : Nat) {o : List (Int × Int)}, b + n ≤ l.length →
    (∀ i, b ≤ i → i < b + n → (rd_T38 l (i : Int)).f2 = [e] ∧ (rd_T38 l (i : Int)).f0 = false ∧ (cl = true ∨ (rd_T38 l (i : Int)).f1 = 0 ∨ p < (rd_T38 l (i : Int)).f1)) → e ≠ p →
    Run l s c ⟨((b + n : Nat) : Int), p, m, cl, 0, false, false⟩ o → Run l s c ⟨(b : Int), p, m, cl, 0, false, false⟩ o
  | 0, b, o, h1, h2, he, h3 => h3
  | n + 1, b, o, h1, h2, he, h3 => by
    obtain ⟨a1, a2, a3⟩ := h2 b (by omega) (by omega)
    refine run_skip (by omega) a1 he a2 hp ?_
    have e1 : (cl || (decide ((rd_T38 l (b : Int)).f1 > 0) && decide (p ≥ (rd_T38 l (b : Int)).f1))) = cl := by
      rcases a3 with a3 | a3 | a3
      · rw [a3]; rfl
      · rw [a3]; simp
      · rw [decide_eq_false (show ¬ p ≥ (rd_T38 l (b : Int)).f1 by omega)]; simp
    rw [e1]
    exact run_skips hp n (b + 1) (by omega) (fun i hi hi2 => h2 i (by omega) (by omega)) he (by rwa [show b + 1 + n = b + (n + 1) by omega])
/-- An ending's bar that is played. -/
theorem run_end {l : List S38} {s c : Int} {b : Nat} {p m : Int} {cl : Bool} (hb : b < l.length) (h2 : (rd_T38 l (b : Int)).f2 = [p]) (h0 : (rd_T38 l (b : Int)).f0 = false) (h7 : (rd_T38 l (b : Int)).f7 = 0) (hp : 0 ≤ p ∧ p ≤ 140737488351232) {o : List (Int × Int)}
    (h : Run l s c (if p < (rd_T38 l (b : Int)).f1 then ⟨m, p + 1, m, false, 0, false, false⟩ else ⟨((b + 1 : Nat) : Int), p, m, cl || decide ((rd_T38 l (b : Int)).f1 > 0), 0, false, false⟩) o) : Run l s c ⟨(b : Int), p, m, cl, 0, false, false⟩ (((b : Int), p) :: o) := by
  have hen : enterW (⟨(b : Int), p, m, cl, 0, false, false⟩ : Wk) (rd_T38 l (b : Int)) = ⟨(b : Int), p, m, cl, 0, false, false⟩ := enter_end h0 (by rw [h2]; simp)
  have := @Run.play l s c ⟨(b : Int), p, m, cl, 0, false, false⟩ (if p < (rd_T38 l (b : Int)).f1 then ⟨m, p + 1, m, false, 0, false, false⟩ else ⟨((b + 1 : Nat) : Int), p, m, cl || decide ((rd_T38 l (b : Int)).f1 > 0), 0, false, false⟩) o (by show (b : Int) < _; omega) (by show (0 : Int) ≤ b; omega) hp (by
    show stB l _ (enterW _ (rd_T38 l (b : Int))).pass (enterW _ (rd_T38 l (b : Int))).jump (rd_T38 l (b : Int)) = true
    rw [hen]
    unfold stB
    rw [h2]
    simp) (by
    show onW s c (enterW _ (rd_T38 l (b : Int))) (rd_T38 l (b : Int)) = _
    rw [hen]
    unfold onW
    rw [h7]
    simp only [Bool.false_and, Bool.false_eq_true, if_false, true_and]
    by_cases hc : p < (rd_T38 l (b : Int)).f1
    · rw [if_pos hc, if_pos hc]
    · rw [if_neg hc, if_neg hc, if_pos (by simp)]
      simp) h
  rwa [show (enterW (⟨(b : Int), p, m, cl, 0, false, false⟩ : Wk) (rd_T38 l (b : Int))).pass = p by rw [hen]] at this
theorem run_ends {l : List S38} {s c p m : Int} {cl : Bool} (hp : 0 ≤ p ∧ p ≤ 140737488351232) : ∀ (n b : Nat) {o : List (Int × Int)}, b + n ≤ l.length →
    (∀ i, b ≤ i → i < b + n → (rd_T38 l (i : Int)).f2 = [p] ∧ (rd_T38 l (i : Int)).f0 = false ∧ (rd_T38 l (i : Int)).f7 = 0 ∧ (rd_T38 l (i : Int)).f1 = 0) →
    Run l s c ⟨((b + n : Nat) : Int), p, m, cl, 0, false, false⟩ o → Run l s c ⟨(b : Int), p, m, cl, 0, false, false⟩ ((upTo b n).map (fun i => (i, p)) ++ o)
  | 0, b, o, h1, h2, h3 => h3
  | n + 1, b, o, h1, h2, h3 => by
    rw [upTo_succ, List.map_cons, List.cons_append]
    obtain ⟨a1, a2, a3, a4⟩ := h2 b (by omega) (by omega)
    refine run_end (by omega) a1 a2 a3 hp ?_
    rw [a4, if_neg (by omega)]
    rw [show (cl || decide ((0 : Int) > 0)) = cl by simp]
    exact run_ends hp n (b + 1) (by omega) (fun i hi hi2 => h2 i (by omega) (by omega)) (by rwa [show b + 1 + n = b + (n + 1) by omega])

/-- Bars, the endings of the first passes (t of them), of as many bars each, and bars behind them. -/
structure Ends (a c w t N : Nat) (l : List S38) : Prop where
  len : l.length = N
  all : ∀ i : Nat, i < N → (rd_T38 l (i : Int)).f0 = false ∧ (rd_T38 l (i : Int)).f3 = false ∧ (rd_T38 l (i : Int)).f4 = false ∧ (rd_T38 l (i : Int)).f7 = 0
  plain : ∀ i : Nat, i < N → i < a ∨ a + t * w ≤ i → (rd_T38 l (i : Int)).f2 = [] ∧ (rd_T38 l (i : Int)).f1 = 0
  ends : ∀ e j : Nat, e < t → j < w → (rd_T38 l ((a + e * w + j : Nat) : Int)).f2 = [((e + 1 : Nat) : Int)] ∧ (rd_T38 l ((a + e * w + j : Nat) : Int)).f1 = if j + 1 = w ∧ e + 1 < c then (c : Int) else 0
/-- What is played, from one pass on. -/
def endsP (a w : Nat) : Nat → Nat → List (Int × Int)
  | 0, _ => []
  | d + 1, e => (upTo 0 a ++ upTo (a + e * w) w).map (fun i => (i, ((e + 1 : Nat) : Int))) ++ endsP a w d (e + 1)
theorem mul_room {e c w : Nat} (h : e < c) : e * w + w ≤ c * w := by
  have := Nat.mul_le_mul_right w (show e + 1 ≤ c by omega)
  rwa [Nat.succ_mul] at this
/-- Endings of other passes, ahead of the pass's own. -/
theorem Ends.skips {a c w N : Nat} {l : List S38} {s c' : Int} (h : Ends a c w c N l) (hN : a + c * w ≤ N) (hc : c ≤ 1000) {p : Nat} (hp : p ≤ c) {cl : Bool} {m : Int} : ∀ (d e : Nat) {o : List (Int × Int)}, d + e < p → (cl = true ∨ p < c) →
    Run l s c' ⟨((a + (e + d) * w : Nat) : Int), (p : Int), m, cl, 0, false, false⟩ o → Run l s c' ⟨((a + e * w : Nat) : Int), (p : Int), m, cl, 0, false, false⟩ o
  | 0, e, o, h1, h2, h3 => h3
  | d + 1, e, o, h1, h2, h3 => by
    have hr := mul_room (e := e) (c := c) (w := w) (by omega)
    refine run_skips (e := ((e + 1 : Nat) : Int)) (by omega) w (a + e * w) (by rw [h.len]; omega) (fun i hi hi2 => ?_) (by omega) ?_
    · obtain ⟨j, rfl⟩ : ∃ j, i = a + e * w + j := ⟨i - (a + e * w), by omega⟩
      obtain ⟨b1, b2⟩ := h.ends e j (by omega) (by omega)
      refine ⟨b1, (h.all _ (by omega)).1, ?_⟩
      rcases h2 with h2 | h2
      · exact .inl h2
      · rw [b2]
        by_cases hj : j + 1 = w ∧ e + 1 < c
        · rw [if_pos hj]; exact .inr (.inr (by omega))
        · rw [if_neg hj]; exact .inr (.inl rfl)
    · rw [show a + e * w + w = a + (e + 1) * w by rw [Nat.succ_mul]; omega]
      refine Ends.skips h hN hc hp d (e + 1) (by omega) h2 ?_
      rwa [show e + 1 + d = e + (d + 1) by omega]
theorem Ends.passes {a c w N : Nat} {l : List S38} {s c' : Int} (h : Ends a c w c N l) (hN : a + c * w ≤ N) (hc : c ≤ 1000) (hc2 : 2 ≤ c) (hw : 1 ≤ w) {o : List (Int × Int)}
    (ho : Run l s c' ⟨((a + c * w : Nat) : Int), (c : Int), 0, true, 0, false, false⟩ o) :
    ∀ (d e : Nat), d + 1 + e = c → Run l s c' ⟨0, ((e + 1 : Nat) : Int), 0, false, 0, false, false⟩ (endsP a w (d + 1) e ++ o)
  | d, e, hd => by
    have hr := mul_room (e := e) (c := c) (w := w) (by omega)
    have hp : 0 ≤ ((e + 1 : Nat) : Int) ∧ ((e + 1 : Nat) : Int) ≤ 140737488351232 := by omega
    rw [endsP, List.map_append, List.append_assoc, List.append_assoc]
    refine run_stretch hp a 0 (by rw [h.len]; omega) (fun i _ hi => ⟨⟨(h.plain i (by omega) (.inl (by omega))).1, (h.all i (by omega)).2.2.2⟩, .inl (h.all i (by omega)).1, (h.plain i (by omega) (.inl (by omega))).2⟩) ?_
    rw [Nat.zero_add]
    have hown : ∀ j, j < w → (rd_T38 l ((a + e * w + j : Nat) : Int)).f2 = [((e + 1 : Nat) : Int)] ∧ (rd_T38 l ((a + e * w + j : Nat) : Int)).f0 = false ∧ (rd_T38 l ((a + e * w + j : Nat) : Int)).f7 = 0 ∧ (rd_T38 l ((a + e * w + j : Nat) : Int)).f1 = if j + 1 = w ∧ e + 1 < c then (c : Int) else 0 := fun j hj =>
      ⟨(h.ends e j (by omega) hj).1, (h.all _ (by omega)).1, (h.all _ (by omega)).2.2.2, (h.ends e j (by omega) hj).2⟩
    -- the pass's own ending
    have hmine : ∀ {cl : Bool}, (d = 0 → cl = true) → Run l s c' ⟨((a + e * w : Nat) : Int), ((e + 1 : Nat) : Int), 0, cl, 0, false, false⟩ ((upTo (a + e * w) w).map (fun i => (i, ((e + 1 : Nat) : Int))) ++ (endsP a w d (e + 1) ++ o)) := by
      intro cl hcl
      cases d with
      | zero =>
        rw [hcl rfl]
        refine run_ends hp w (a + e * w) (by rw [h.len]; omega) (fun i hi hi2 => ?_) ?_
        · obtain ⟨j, rfl⟩ : ∃ j, i = a + e * w + j := ⟨i - (a + e * w), by omega⟩
          obtain ⟨b1, b2, b3, b4⟩ := hown j (by omega)
          exact ⟨b1, b2, b3, by rw [b4, if_neg (by omega)]⟩
        · rw [show a + e * w + w = a + c * w by rw [← hd, show 0 + 1 + e = e + 1 by omega, Nat.succ_mul]; omega, show e + 1 = c by omega]
          exact ho
      | succ d =>
        rw [show w = (w - 1) + 1 by omega, upTo_add, List.map_append, List.append_assoc, show w - 1 + 1 = w by omega]
        refine run_ends hp (w - 1) (a + e * w) (by rw [h.len]; omega) (fun i hi hi2 => ?_) ?_
        · obtain ⟨j, rfl⟩ : ∃ j, i = a + e * w + j := ⟨i - (a + e * w), by omega⟩
          obtain ⟨b1, b2, b3, b4⟩ := hown j (by omega)
          exact ⟨b1, b2, b3, by rw [b4, if_neg (by omega)]⟩
        · obtain ⟨b1, b2, b3, b4⟩ := hown (w - 1) (by omega)
          rw [upTo_succ, upTo_zero, List.map_cons, List.map_nil, List.singleton_append]
          refine run_end (by rw [h.len]; omega) b1 b2 b3 hp ?_
          have b5 : (rd_T38 l ((a + e * w + (w - 1) : Nat) : Int)).f1 = (c : Int) := by rw [b4, if_pos ⟨by omega, by omega⟩]
          rw [b5, if_pos (by omega)]
          have := Ends.passes h hN hc hc2 hw ho d (e + 1) (by omega)
          rwa [show (((e + 1 + 1 : Nat) : Int)) = ((e + 1 : Nat) : Int) + 1 by omega] at this
    by_cases hd0 : d = 0
    · -- the last pass: the first ending closes
      have he : 1 ≤ e := by omega
      have hr0 := mul_room (e := 0) (c := c) (w := w) (by omega)
      have h0 : ∀ j, j < w → (rd_T38 l ((a + j : Nat) : Int)).f2 = [1] ∧ (rd_T38 l ((a + j : Nat) : Int)).f0 = false ∧ (rd_T38 l ((a + j : Nat) : Int)).f1 = if j + 1 = w then (c : Int) else 0 := fun j hj => by
        have b := h.ends 0 j (by omega) hj
        rw [Nat.zero_mul, Nat.add_zero] at b
        refine ⟨by simpa using b.1, (h.all _ (by omega)).1, ?_⟩
        rw [b.2]
        by_cases hj1 : j + 1 = w
        · rw [if_pos hj1, if_pos ⟨hj1, by omega⟩]
        · rw [if_neg hj1, if_neg (fun h => hj1 h.1)]
      refine run_skips (e := 1) hp (w - 1) a (by rw [h.len]; omega) (fun i hi hi2 => ?_) (by omega) ?_
      · obtain ⟨j, rfl⟩ : ∃ j, i = a + j := ⟨i - a, by omega⟩
        obtain ⟨b1, b2, b3⟩ := h0 j (by omega)
        exact ⟨b1, b2, .inr (.inl (by rw [b3, if_neg (by omega)]))⟩
      · obtain ⟨b1, b2, b3⟩ := h0 (w - 1) (by omega)
        refine run_skip (by rw [h.len]; omega) b1 (by omega) b2 hp ?_
        rw [b3, if_pos (by omega)]
        rw [show (false || (decide ((c : Int) > 0) && decide (((e + 1 : Nat) : Int) ≥ (c : Int)))) = true by simp; omega]
        rw [show a + (w - 1) + 1 = a + 1 * w by omega]
        refine Ends.skips h hN hc (p := e + 1) (by omega) (e - 1) 1 (by omega) (.inl rfl) ?_
        rw [show 1 + (e - 1) = e by omega]
        exact hmine fun _ => rfl
    · have := Ends.skips (s := s) (c' := c') h hN hc (p := e + 1) (by omega) (cl := false) (m := 0) e 0 (by omega) (.inr (by omega)) (by
        rw [Nat.zero_add]
        exact hmine fun h => absurd h hd0)
      rwa [Nat.zero_mul, Nat.add_zero] at this
theorem Ends.run {a c w n N : Nat} {l : List S38} {s c' : Int} (h : Ends a c w c N l) (hN : N = a + c * w + n) (hc : c ≤ 1000) (hc2 : 2 ≤ c) (hw : 1 ≤ w) :
    Run l s c' q0 (endsP a w c 0 ++ (upTo (a + c * w) n).map (fun i => (i, 1))) := by
  have h1 : 0 ≤ (1 : Int) ∧ (1 : Int) ≤ 140737488351232 := by omega
  have hend : Run l s c' ⟨((a + c * w : Nat) : Int), (c : Int), 0, true, 0, false, false⟩ ((upTo (a + c * w) n).map (fun i => (i, 1))) := by
    cases n with
    | zero => exact .fin (by show ¬ ((a + c * w : Nat) : Int) < _; rw [h.len]; omega)
    | succ n =>
      refine run_enter (h.plain _ (by omega) (.inr (by omega))).1 (.inl rfl) (by omega) ?_
      have := run_stretch (l := l) (s := s) (c := c') (p := 1) (m := ((a + c * w : Nat) : Int)) h1 (n + 1) (a + c * w) (o := []) (by rw [h.len]; omega) (fun i hi1 hi2 => ⟨⟨(h.plain i (by omega) (.inr (by omega))).1, (h.all i (by omega)).2.2.2⟩, .inl (h.all i (by omega)).1, (h.plain i (by omega) (.inr (by omega))).2⟩) (.fin (by show ¬ ((a + c * w + (n + 1) : Nat) : Int) < _; rw [h.len]; omega))
      rwa [List.append_nil] at this
  have := h.passes (by omega) hc hc2 hw hend (c - 1) 0 (by omega)
  rwa [show c - 1 + 1 = c by omega] at this
theorem endsP_length (a w : Nat) : ∀ d e, (endsP a w d e).length = d * (a + w)
  | 0, e => by simp [endsP]
  | d + 1, e => by rw [endsP, List.length_append, endsP_length a w d, List.length_map, List.length_append, upTo_length, upTo_length, Nat.succ_mul, Nat.add_comm]
theorem Ends.bar {a c w N : Nat} {l : List S38} (h : Ends a c w c N l) (hw : 1 ≤ w) {i : Nat} (hi : i < N) : ((rd_T38 l (i : Int)).f2 = [] ∧ (rd_T38 l (i : Int)).f1 = 0) ∨ ∃ e : Nat, e < c ∧ (rd_T38 l (i : Int)).f2 = [((e + 1 : Nat) : Int)] ∧ ((rd_T38 l (i : Int)).f1 = 0 ∨ (rd_T38 l (i : Int)).f1 = c) := by
  by_cases hp : i < a ∨ a + c * w ≤ i
  · exact .inl (h.plain i hi hp)
  · refine .inr ⟨(i - a) / w, ?_, ?_⟩
    · exact Nat.div_lt_of_lt_mul (by rw [Nat.mul_comm]; omega)
    · have e1 : a + (i - a) / w * w + (i - a) % w = i := by
        have := Nat.div_add_mod (i - a) w
        rw [Nat.mul_comm] at this
        omega
      have b := h.ends ((i - a) / w) ((i - a) % w) (Nat.div_lt_of_lt_mul (by rw [Nat.mul_comm]; omega)) (Nat.mod_lt _ (by omega))
      rw [e1] at b
      refine ⟨b.1, ?_⟩
      rw [b.2]
      split
      · exact .inr rfl
      · exact .inl rfl
theorem Ends.short {a c w N : Nat} {l : List S38} (h : Ends a c w c N l) (hw : 1 ≤ w) : Short l := short_of fun i hi => by
  rcases h.bar hw (i := i) (by rw [← h.len]; exact hi) with ⟨b, _⟩ | ⟨e, _, b, _⟩ <;> rw [b] <;> simp
theorem Ends.chk {a c w N : Nat} {l : List S38} (h : Ends a c w c N l) (hw : 1 ≤ w) (hc : 2 ≤ c) (hc9 : c ≤ 9) : chkR l = (0, 0) := by
  have hj : ∀ i : Nat, i < l.length → isJump (rd_T38 l (i : Int)) = false := fun i hi => by
    unfold isJump; rw [(h.all i (by rw [← h.len]; exact hi)).2.2.2]; rfl
  refine okay_chk ⟨fun i hi => ?_, fun i i' hi hi' hp _ => ?_, fun i i' hi hi' hp _ => ?_, fun i i' hi hi' hp _ => ?_⟩ fun i hi hp => ?_
  · rw [h.len] at hi
    unfold loneB
    rw [(h.all i hi).2.2.2]
    rcases h.bar hw hi with ⟨b, b1⟩ | ⟨e, he, b, b1⟩
    · rw [b, b1]; rfl
    · rw [b]
      rcases b1 with b1 | b1 <;> rw [b1] <;> simp [endsB] <;> omega
  · have hp : (rd_T38 l (i : Int)).f3 = true := hp
    rw [(h.all i (by rw [← h.len]; exact hi)).2.1] at hp; cases hp
  · have hp : (rd_T38 l (i : Int)).f4 = true := hp
    rw [(h.all i (by rw [← h.len]; exact hi)).2.2.1] at hp; cases hp
  · rw [hj i hi] at hp; cases hp
  · rw [hj i hi] at hp; cases hp
theorem Ends.told {a c w n N : Nat} {l : List S38} (h : Ends a c w c N l) (hN : N = a + c * w + n) (hc : 2 ≤ c) (hc9 : c ≤ 9) (hw : 1 ≤ w) (hw4 : w ≤ 4) (ha : a ≤ 10) (hn : n ≤ 10) :
    Ev (fun k => turns_Unfold.f k l) ((endsP a w c 0).map Prod.fst ++ upTo (a + c * w) n, 0) := by
  have hm : c * (a + w) ≤ 9 * 14 := Nat.mul_le_mul hc9 (by omega)
  have hm2 : c * w ≤ 9 * 4 := Nat.mul_le_mul hc9 hw4
  have hw' := walk_ev (by rw [h.len]; omega) (h.short hw) (h.chk hw hc hc9) (h.run hN (by omega) hc hw)
  refine Ev.ok (unfold_ev hw') ?_
  unfold Z.told
  rw [if_pos (by simp only [List.length_append, List.length_map, upTo_length, endsP_length]; omega)]
  simp only [List.map_append, map_fst_pair]

/-! ### the statement's own loops -/
theorem ends_start (a c w : Nat) : Ends a c w 0 a (List.replicate a z38) :=
  ⟨by simp, fun i _ => by rw [rd_replicate]; exact ⟨rfl, rfl, rfl, rfl⟩, fun i _ _ => by rw [rd_replicate]; exact ⟨rfl, rfl⟩, fun e j h => absurd h (by omega)⟩
theorem Ends.last {a c w n N : Nat} {l : List S38} (h : Ends a c w c N l) (hN : N = a + c * w) : Ends a c w c (a + c * w + n) (l ++ List.replicate n z38) := by
  have r1 : ∀ i : Nat, i < a + c * w → rd_T38 (l ++ List.replicate n z38) (i : Int) = rd_T38 l (i : Int) := fun i hi => rd_app_left _ _ _ (by rw [h.len]; omega)
  have r2 : ∀ i : Nat, ¬ i < a + c * w → rd_T38 (l ++ List.replicate n z38) (i : Int) = z38 := fun i hi => by
    have := rd_app_right l (List.replicate n z38) (i - l.length)
    rw [show l.length + (i - l.length) = i by rw [h.len]; omega, rd_replicate] at this
    exact this
  refine ⟨by simp [h.len]; omega, fun i hi => ?_, fun i hi hp => ?_, fun e j he hj => ?_⟩
  · by_cases hc : i < a + c * w
    · rw [r1 i hc]; exact h.all i (by omega)
    · rw [r2 i hc]; exact ⟨rfl, rfl, rfl, rfl⟩
  · by_cases hc : i < a + c * w
    · rw [r1 i hc]; exact h.plain i (by omega) hp
    · rw [r2 i hc]; exact ⟨rfl, rfl⟩
  · have hr := mul_room (w := w) he
    rw [r1 _ (by omega)]
    exact h.ends e j he hj
/-- An ending's bar. -/
def endBar (f1 e : Int) : S38 := ⟨false, f1, [e], false, false, false, false, 0⟩
theorem Ends.more {a c w t N : Nat} {l l' : List S38} (h : Ends a c w t N l) (hN : N = a + t * w) (hl : l'.length = a + (t + 1) * w) (h1 : ∀ i : Nat, i < N → rd_T38 l' (i : Int) = rd_T38 l (i : Int))
    (h2 : ∀ j : Nat, j < w → rd_T38 l' ((a + t * w + j : Nat) : Int) = endBar (if j + 1 = w ∧ t + 1 < c then (c : Int) else 0) ((t + 1 : Nat) : Int)) : Ends a c w (t + 1) (a + (t + 1) * w) l' := by
  have hs : (t + 1) * w = t * w + w := Nat.succ_mul t w
  refine ⟨hl, fun i hi => ?_, fun i hi hp => ?_, fun e j he hj => ?_⟩
  · by_cases hc : i < N
    · rw [h1 i hc]; exact h.all i hc
    · obtain ⟨j, rfl⟩ : ∃ j, i = a + t * w + j := ⟨i - (a + t * w), by omega⟩
      rw [h2 j (by omega)]; exact ⟨rfl, rfl, rfl, rfl⟩
  · have hc : i < N := by omega
    rw [h1 i hc]; exact h.plain i hc (by omega)
  · by_cases hc : e < t
    · have hr := mul_room (w := w) hc
      rw [h1 _ (by omega)]; exact h.ends e j hc hj
    · obtain rfl : e = t := by omega
      rw [h2 j hj]; exact ⟨rfl, rfl⟩
theorem endings_l1 {a3 : Int} {a c w : Nat} {A : List Int} {e : Nat} (hw : w ≤ 1000) : ∀ (d i : Nat) (l : List S38), d + i = w → l.length + d ≤ 100000 →
    Ev (fun k => partitalaw10_TurnsEndings.l1 k a3 true (a : Int) (c : Int) (w : Int) (l ++ List.replicate d (endBar 0 (e : Int))) A (e : Int) (w : Int)) true →
    Ev (fun k => partitalaw10_TurnsEndings.l1 k a3 true (a : Int) (c : Int) (w : Int) l A (e : Int) (i : Int)) true
  | 0, i, l, h, hl, hh => by
    rw [List.replicate_zero, List.append_nil] at hh
    rw [show i = w by omega]
    exact hh
  | d + 1, i, l, h, hl, hh => by
    have e1 : wrap64 ((i : Int) + 1) = ((i + 1 : Nat) : Int) := by rw [w64 (by omega) (by omega)]; omega
    refine Ev.step (fun k => rfl) (Ev.yes (by omega) (Ev.yes (by omega) ?_))
    rw [e1]
    refine endings_l1 hw d (i + 1) _ (by omega) (by simp; omega) ?_
    rw [List.append_assoc, List.singleton_append]
    rw [List.replicate_succ] at hh
    exact hh
theorem endings_fin {a3 : Int} {a c w n : Nat} {X A : List Int} {l : List S38} (ha : a ≤ 10) (hc : 2 ≤ c) (hc9 : c ≤ 9) (hw : 1 ≤ w) (hw4 : w ≤ 4) (hn : n ≤ 10) (ha3 : wrap64 (Int.tmod a3 10) = (n : Int)) (hX : X.length ≤ 100000)
    (hX2 : X = (endsP a w c 0).map Prod.fst ++ upTo (a + c * w) n) (hE : Ends a c w c (a + c * w) l) (hA : A ++ upTo (a + c * w) n = X) :
      Ev (fun k => partitalaw10_TurnsEndings.l0 k a3 true (a : Int) (c : Int) (w : Int) l A ((c + 1 : Nat) : Int)) true := by
  have hm2 : c * w ≤ 9 * 4 := Nat.mul_le_mul hc9 hw4
  have hl := hE.len
  have hl2 : A.length + (upTo (a + c * w) n).length = X.length := by rw [← hA, List.length_append]
  have ht := (hE.last (n := n) rfl).told rfl hc hc9 hw hw4 ha hn
  rw [← hX2] at ht
  have hr := rising_ev (a := (l.length : Int)) (b := ((a + c * w + n : Nat) : Int)) (a + c * w) n (by rw [hl]) rfl (by omega)
  generalize hT : upTo (a + c * w) n = T at *
  refine Ev.step (fun k => rfl) (Ev.no (by omega) ?_)
  rw [ha3, show wrap64 ((l.length : Int) + (n : Int)) = ((a + c * w + n : Nat) : Int) by rw [hl, w64 (by omega) (by omega)]; omega]
  refine Ev.bind hr (Ev.yes (by omega) (Ev.bind (Ev.eq (many_f (by omega) (by omega))) ?_))
  rw [Int.toNat_natCast, hA]
  refine Ev.yes (by rw [hl, List.length_replicate]; omega) (Ev.bind ht (Ev.yes rfl (Ev.yes rfl (Ev.bind (ints_same rfl (by show List.length X ≤ _; omega)) (Ev.now _)))))
theorem endings_step {a3 : Int} {a c w e : Nat} {A : List Int} {l : List S38} (ha : a ≤ 10) (hc : 2 ≤ c) (hc9 : c ≤ 9) (hw : 1 ≤ w) (hw4 : w ≤ 4) (he : e < c) (hE : Ends a c w e (a + e * w) l) (hA : A.length + a + w ≤ 100000)
    (h : ∀ l', Ends a c w (e + 1) (a + (e + 1) * w) l' → Ev (fun k => partitalaw10_TurnsEndings.l0 k a3 true (a : Int) (c : Int) (w : Int) l' ((A ++ upTo 0 a) ++ upTo (a + e * w) w) ((e + 1 + 1 : Nat) : Int)) true) :
      Ev (fun k => partitalaw10_TurnsEndings.l0 k a3 true (a : Int) (c : Int) (w : Int) l A ((e + 1 : Nat) : Int)) true := by
  have hm2 : c * w ≤ 9 * 4 := Nat.mul_le_mul hc9 hw4
  have hr := mul_room (e := e) (c := c) (w := w) he
  have hl := hE.len
  have hs : (e + 1) * w = e * w + w := Nat.succ_mul e w
  have hr1 := rising_ev (a := 0) (b := (a : Int)) 0 a rfl (by omega) (by omega)
  have hr2 := rising_ev (a := (l.length : Int)) (b := ((a + e * w + w : Nat) : Int)) (a + e * w) w (by rw [hl]) rfl (by omega)
  have t1 := upTo_length 0 a
  have t2 := upTo_length (a + e * w) w
  obtain ⟨y, hy⟩ : ∃ y, y = l ++ List.replicate w (endBar 0 ((e + 1 : Nat) : Int)) := ⟨_, rfl⟩
  have ly : y.length = a + e * w + w := by rw [hy, List.length_append, List.length_replicate, hl]
  have r1 : ∀ i : Nat, i < a + e * w → rd_T38 y (i : Int) = rd_T38 l (i : Int) := fun i hi => by rw [hy]; exact rd_app_left _ _ _ (by omega)
  have r2 : ∀ j : Nat, j < w → rd_T38 y ((a + e * w + j : Nat) : Int) = endBar 0 ((e + 1 : Nat) : Int) := fun j hj => by
    have := rd_app_right l (List.replicate w (endBar 0 ((e + 1 : Nat) : Int))) j
    rw [hl, ← hy] at this
    rw [this]
    unfold rd_T38
    rw [Int.toNat_natCast, List.getD_eq_getElem?_getD, List.getElem?_replicate, if_pos hj]; rfl
  have hy1 : ∀ l' : List S38, l'.length = a + (e + 1) * w → (∀ i : Nat, i < a + e * w → rd_T38 l' (i : Int) = rd_T38 y (i : Int)) → (∀ j : Nat, j < w → rd_T38 l' ((a + e * w + j : Nat) : Int) = endBar (if j + 1 = w ∧ e + 1 < c then (c : Int) else 0) ((e + 1 : Nat) : Int)) → Ends a c w (e + 1) (a + (e + 1) * w) l' :=
    fun l' q1 q2 q3 => hE.more rfl q1 (fun i hi => (q2 i hi).trans (r1 i hi)) q3
  generalize upTo 0 a = T1 at *
  generalize upTo (a + e * w) w = T2 at *
  refine Ev.step (fun k => rfl) (Ev.yes (by omega) (Ev.bind hr1 (Ev.yes (by omega) (Ev.bind (Ev.now _) ?_))))
  rw [show wrap64 ((l.length : Int) + (w : Int)) = ((a + e * w + w : Nat) : Int) by rw [hl, w64 (by omega) (by omega)]; omega]
  refine Ev.bind hr2 (Ev.yes (by rw [List.length_append]; omega) ?_)
  refine endings_l1 (by omega) w 0 l (by omega) (by omega) ?_
  rw [← hy]
  refine Ev.step (fun k => rfl) (Ev.no (by omega) ?_)
  by_cases hlast : e + 1 < c
  · have e3 : wrap64 ((y.length : Int) - 1) = ((a + e * w + (w - 1) : Nat) : Int) := by rw [ly, w64 (by omega) (by omega)]; omega
    rw [show wrap64 (((e + 1 : Nat) : Int) + 1) = ((e + 1 + 1 : Nat) : Int) by rw [w64 (by omega) (by omega)]; omega, e3]
    refine Ev.yes (by omega) (Ev.yes (by omega) (Ev.yes (by omega) ?_))
    rw [r2 (w - 1) (by omega), Int.toNat_natCast]
    refine h _ (hy1 _ (by rw [List.length_set, ly]; omega) (fun i hi => ?_) (fun j hj => ?_))
    · rw [rd_set _ _ _ _ (by omega), if_neg (by omega)]
    · rw [rd_set _ _ _ _ (by omega)]
      by_cases hj1 : j + 1 = w
      · rw [if_pos (by omega), if_pos ⟨hj1, hlast⟩]; rfl
      · rw [if_neg (by omega), if_neg (fun h => hj1 h.1), r2 j hj]
  · rw [show wrap64 (((e + 1 : Nat) : Int) + 1) = ((e + 1 + 1 : Nat) : Int) by rw [w64 (by omega) (by omega)]; omega]
    refine Ev.no (by omega) ?_
    refine h _ (hy1 _ (by rw [ly]; omega) (fun _ _ => rfl) (fun j hj => ?_))
    rw [if_neg (fun h => hlast h.2), r2 j hj]
theorem endings_l0 {a3 : Int} {a c w n : Nat} {X : List Int} (ha : a ≤ 10) (hc : 2 ≤ c) (hc9 : c ≤ 9) (hw : 1 ≤ w) (hw4 : w ≤ 4) (hn : n ≤ 10) (ha3 : wrap64 (Int.tmod a3 10) = (n : Int)) (hX : X.length ≤ 1000)
    (hX2 : X = (endsP a w c 0).map Prod.fst ++ upTo (a + c * w) n) (d : Nat) :
    ∀ (e : Nat) (l : List S38) (A : List Int), d + e = c → Ends a c w e (a + e * w) l → A ++ ((endsP a w d e).map Prod.fst ++ upTo (a + c * w) n) = X →
      Ev (fun k => partitalaw10_TurnsEndings.l0 k a3 true (a : Int) (c : Int) (w : Int) l A ((e + 1 : Nat) : Int)) true := by
  induction d with
  | zero =>
    intro e l A h hE hA
    have he : e = c := by omega
    rw [he] at hE ⊢
    exact endings_fin ha hc hc9 hw hw4 hn ha3 (by omega) hX2 hE (by rw [← hA]; rfl)
  | succ d ih =>
    intro e l A h hE hA
    refine endings_step ha hc hc9 hw hw4 (by omega) hE ?_ fun l' hl' => ih (e + 1) l' _ (by omega) hl' ?_
    · have : A.length ≤ X.length := by rw [← hA, List.length_append]; omega
      omega
    · rw [← hA, endsP, List.map_append, map_fst_pair]; simp only [List.append_assoc]
theorem turnsEndings (a0 a1 a2 a3 : Int) (h0 : 0 ≤ a0 ∧ a0 < 256) (h1 : 0 ≤ a1 ∧ a1 < 256) (h2 : 0 ≤ a2 ∧ a2 < 256) (h3 : 0 ≤ a3 ∧ a3 < 256) : Ev (fun k => partitalaw10_TurnsEndings.f k a0 a1 a2 a3) true := by
  obtain ⟨A, hA, hA2⟩ := tm h0.1 h0.2 10 (by decide)
  obtain ⟨B, hB, hB2⟩ := tm h1.1 h1.2 8 (by decide)
  obtain ⟨C, hC, hC2⟩ := tm h2.1 h2.2 4 (by decide)
  obtain ⟨n, hn, hn2⟩ := tm h3.1 h3.2 10 (by decide)
  simp only [Int.cast_ofNat_Int] at hA hB hC hn
  unfold partitalaw10_TurnsEndings.f
  refine Ev.bind examples_ev (Ev.yes rfl ?_)
  rw [hA, hB, hC]
  obtain ⟨a, ha⟩ : ∃ a, a = 1 + A := ⟨_, rfl⟩
  obtain ⟨c, hc⟩ : ∃ c, c = 2 + B := ⟨_, rfl⟩
  obtain ⟨w, hw⟩ : ∃ w, w = 1 + C := ⟨_, rfl⟩
  rw [show wrap64 (1 + (A : Int)) = (a : Int) by rw [w64 (by omega) (by omega)]; omega]
  rw [show wrap64 (2 + (B : Int)) = (c : Int) by rw [w64 (by omega) (by omega)]; omega]
  rw [show wrap64 (1 + (C : Int)) = (w : Int) by rw [w64 (by omega) (by omega)]; omega]
  refine Ev.bind (Ev.eq (many_f (by omega) (by omega))) ?_
  rw [Int.toNat_natCast]
  have hm : c * (a + w) ≤ 9 * 14 := Nat.mul_le_mul (by omega) (by omega)
  have hE := ends_start a c w
  refine endings_l0 (n := n) (X := (endsP a w c 0).map Prod.fst ++ upTo (a + c * w) n) (by omega) (by omega) (by omega) (by omega) (by omega) (by omega) hn (by simp only [List.length_append, List.length_map, upTo_length, endsP_length]; omega) rfl c 0 _ _ (by omega) (by rw [Nat.zero_mul, Nat.add_zero]; exact hE) (by rw [List.nil_append])
end Go.Proofs.Ytendmmagjjhfnaa.Z
namespace Go.Proofs.Ytendmmagjjhfnaa.Pure
open Go.RowKit Go.Proofs.Ytendmmagjjhfnaa.M Go.Proofs.YtendmmagjjhfnaaW.PrintWords Go.Proofs.YtendmmagjjhfnaaW.PrintLast
theorem TurnsEndings : partitalaw10_TurnsEndings.Pure := by
  intro a0 a1 a2 a3 h0 h1 h2 h3
  exact Ev.rounds (Z.turnsEndings a0 a1 a2 a3 (Z.u8_wf h0) (Z.u8_wf h1) (Z.u8_wf h2) (Z.u8_wf h3))
end Go.Proofs.Ytendmmagjjhfnaa.Pure
