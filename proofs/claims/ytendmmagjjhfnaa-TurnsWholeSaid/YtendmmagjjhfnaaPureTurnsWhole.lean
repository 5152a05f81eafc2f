/- The pure part of the statement TurnsWhole: bars with a repeat over some of them are played so often as it says, and go on behind it. -/
import Derived.Test.YtendmmagjjhfnaaZ2
import Derived.Test.YtendmmagjjhfnaaM33
namespace Go.Proofs.Ytendmmagjjhfnaa.Z
open Go.RowKit Go.Proofs.YtendmmagjjhfnaaW.PrintWords Go.Proofs.YtendmmagjjhfnaaW.PrintLast Go.Proofs.Ytendmmagjjhfnaa.M
set_option linter.unusedVariables false
set_option linter.unusedSimpArgs false

/-- A bar that is played always, and leads nowhere but back. -/
def Still (x : S38) : Prop := x.f2 = [] ∧ x.f7 = 0
theorem still_st {l : List S38} {b : Nat} {p : Int} {x : S38} (h : Still x) (j : Int) : stB l b p j x = true := by
  unfold stB
  rw [h.1]; rfl
/-- Where two walkers enter a bar alike, they run alike. -/
theorem run_of_enter {l : List S38} {s c : Int} {q q' : Wk} (hb : q.bar = q'.bar) (hp : 0 ≤ q.pass ∧ q.pass ≤ 140737488351232) (he : enterW q (rd_T38 l q.bar) = enterW q' (rd_T38 l q'.bar)) {o : List (Int × Int)} (h : Run l s c q' o) : Run l s c q o := by
  cases h with
  | fin h1 => exact .fin (by rwa [hb])
  | skip h1 h2 h3 h4 h5 =>
    rw [← he, ← hb] at h4 h5
    rw [← hb] at h1 h2
    exact .skip h1 h2 hp h4 h5
  | stop h1 h2 h3 h4 h5 =>
    rw [← he, ← hb] at h4 h5
    rw [← hb] at h1 h2
    have := Run.stop h1 h2 hp h4 h5
    rwa [he, hb] at this
  | play h1 h2 h3 h4 h5 h6 =>
    rw [← he, ← hb] at h4 h5
    rw [← hb] at h1 h2
    have := Run.play h1 h2 hp h4 h5 h6
    rw [he, hb] at this
    exact this
/-- A bar that is no begin, entered by a walker behind none that closes, ahead of all jumps: it goes on. -/
theorem run_on {l : List S38} {s c : Int} {b : Nat} {p m : Int} (hb : b < l.length) (hx : Still (rd_T38 l (b : Int))) (h0 : (rd_T38 l (b : Int)).f0 = false ∨ (b : Int) = m) (h1 : (rd_T38 l (b : Int)).f1 ≤ p) (hp : 0 ≤ p ∧ p ≤ 140737488351232) {o : List (Int × Int)}
    (h : Run l s c ⟨((b + 1 : Nat) : Int), p, m, decide ((rd_T38 l (b : Int)).f1 > 0), 0, false, false⟩ o) : Run l s c ⟨(b : Int), p, m, false, 0, false, false⟩ (((b : Int), p) :: o) := by
  have he : enterW ⟨(b : Int), p, m, false, 0, false, false⟩ (rd_T38 l (b : Int)) = ⟨(b : Int), p, m, false, 0, false, false⟩ := by
    unfold enterW entersB
    rcases h0 with h0 | h0
    · rw [h0]; rfl
    · rw [if_neg]; simp [h0]
  have := @Run.play l s c ⟨(b : Int), p, m, false, 0, false, false⟩ ⟨((b + 1 : Nat) : Int), p, m, decide ((rd_T38 l (b : Int)).f1 > 0), 0, false, false⟩ o (by show (b : Int) < _; omega) (by show (0 : Int) ≤ b; omega) hp (by
    exact still_st hx _) (by
    show onW s c (enterW _ (rd_T38 l (b : Int))) (rd_T38 l (b : Int)) = _
    rw [he]
    unfold onW
    rw [hx.2]
    simp only [Bool.false_and, Bool.false_eq_true, if_false]
    rw [if_neg (by omega), if_pos (by simp)]
    simp) h
  rwa [show (enterW (⟨(b : Int), p, m, false, 0, false, false⟩ : Wk) (rd_T38 l (b : Int))).pass = p by rw [he]] at this
/-- A bar that ends a repeat: back. -/
theorem run_back {l : List S38} {s c : Int} {b : Nat} {p m : Int} (hb : b < l.length) (hx : Still (rd_T38 l (b : Int))) (h0 : (rd_T38 l (b : Int)).f0 = false ∨ (b : Int) = m) (h1 : p < (rd_T38 l (b : Int)).f1) (hp : 0 ≤ p ∧ p ≤ 140737488351232) {o : List (Int × Int)}
    (h : Run l s c ⟨m, p + 1, m, false, 0, false, false⟩ o) : Run l s c ⟨(b : Int), p, m, false, 0, false, false⟩ (((b : Int), p) :: o) := by
  have he : enterW ⟨(b : Int), p, m, false, 0, false, false⟩ (rd_T38 l (b : Int)) = ⟨(b : Int), p, m, false, 0, false, false⟩ := by
    unfold enterW entersB
    rcases h0 with h0 | h0
    · rw [h0]; rfl
    · rw [if_neg]; simp [h0]
  have := @Run.play l s c ⟨(b : Int), p, m, false, 0, false, false⟩ ⟨m, p + 1, m, false, 0, false, false⟩ o (by show (b : Int) < _; omega) (by show (0 : Int) ≤ b; omega) hp (by
    exact still_st hx _) (by
    show onW s c (enterW _ (rd_T38 l (b : Int))) (rd_T38 l (b : Int)) = _
    rw [he]
    unfold onW
    simp only [Bool.false_and, Bool.false_eq_true, if_false]
    rw [if_pos (by simpa using h1)]) h
  rwa [show (enterW (⟨(b : Int), p, m, false, 0, false, false⟩ : Wk) (rd_T38 l (b : Int))).pass = p by rw [he]] at this
/-- A section begins. -/
theorem run_enter {l : List S38} {s c : Int} {b : Nat} {p m : Int} {cl : Bool} (hx : (rd_T38 l (b : Int)).f2 = []) (h0 : cl = true ∨ ((rd_T38 l (b : Int)).f0 = true ∧ (b : Int) ≠ m)) (hp : 0 ≤ p ∧ p ≤ 140737488351232) {o : List (Int × Int)}
    (h : Run l s c ⟨(b : Int), 1, b, false, 0, false, false⟩ o) : Run l s c ⟨(b : Int), p, m, cl, 0, false, false⟩ o := by
  have e1 : enterW (⟨(b : Int), 1, b, false, 0, false, false⟩ : Wk) (rd_T38 l (b : Int)) = ⟨(b : Int), 1, b, false, 0, false, false⟩ := by
    unfold enterW
    rw [if_neg (by unfold entersB; simp)]
  have e2 : enterW (⟨(b : Int), p, m, cl, 0, false, false⟩ : Wk) (rd_T38 l (b : Int)) = ⟨(b : Int), 1, b, false, 0, false, false⟩ := by
    unfold enterW
    rw [if_pos (by
      unfold entersB
      rcases h0 with h0 | ⟨h0, h1⟩
      · rw [h0, hx]; simp
      · rw [h0]; simp [h1])]
    rfl
  exact @run_of_enter l s c ⟨(b : Int), p, m, cl, 0, false, false⟩ ⟨(b : Int), 1, b, false, 0, false, false⟩ rfl hp (e2.trans e1.symm) o h
/-- A stretch of bars that go on. -/
theorem run_stretch {l : List S38} {s c p m : Int} (hp : 0 ≤ p ∧ p ≤ 140737488351232) : ∀ (n b : Nat) {o : List (Int × Int)}, b + n ≤ l.length →
    (∀ i, b ≤ i → i < b + n → Still (rd_T38 l (i : Int)) ∧ ((rd_T38 l (i : Int)).f0 = false ∨ (i : Int) = m) ∧ (rd_T38 l (i : Int)).f1 = 0) →
    Run l s c ⟨((b + n : Nat) : Int), p, m, false, 0, false, false⟩ o → Run l s c ⟨(b : Int), p, m, false, 0, false, false⟩ ((upTo b n).map (fun i => (i, p)) ++ o)
  | 0, b, o, h1, h2, h3 => h3
  | n + 1, b, o, h1, h2, h3 => by
    rw [upTo_succ, List.map_cons, List.cons_append]
    obtain ⟨a1, a2, a3⟩ := h2 b (by omega) (by omega)
    refine run_on (by omega) a1 a2 (by omega) hp ?_
    rw [a3]
    exact run_stretch hp n (b + 1) (by omega) (fun i hi hi2 => h2 i (by omega) (by omega)) (by rwa [show b + 1 + n = b + (n + 1) by omega])

/-- Bars with one repeat: from F, up to T, K times; nothing else. -/
structure Rep (F T N K : Nat) (l : List S38) : Prop where
  len : l.length = N
  all : ∀ i : Nat, i < N → Still (rd_T38 l (i : Int)) ∧ (rd_T38 l (i : Int)).f3 = false ∧ (rd_T38 l (i : Int)).f4 = false
  ends : ∀ i : Nat, i < N → (rd_T38 l (i : Int)).f1 = if i + 1 = T then (K : Int) else 0
  begins : ∀ i : Nat, i < N → (rd_T38 l (i : Int)).f0 = true → i = F
  first : 0 < F → (rd_T38 l (F : Int)).f0 = true
/-- The bars of the passes from one on. -/
def reps (F n : Nat) : Nat → Nat → List (Int × Int)
  | 0, _ => []
  | d + 1, p => (upTo F n).map (fun i => (i, (p : Int))) ++ reps F n d (p + 1)
theorem Rep.f0 {F T N K : Nat} {l : List S38} (h : Rep F T N K l) {i : Nat} (hi : i < N) (hf : i ≠ F) : (rd_T38 l (i : Int)).f0 = false := by
  cases e : (rd_T38 l (i : Int)).f0 with
  | false => rfl
  | true => exact absurd (h.begins i hi e) hf
theorem Rep.passes {F T N K : Nat} {l : List S38} {s c : Int} (h : Rep F T N K l) (hF : F < T) (hT : T ≤ N) (hK : K ≤ 1000) {o : List (Int × Int)} (ho : Run l s c ⟨(T : Int), (K : Int), (F : Int), true, 0, false, false⟩ o) :
    ∀ (d p : Nat), d + p = K → 1 ≤ p → Run l s c ⟨(F : Int), (p : Int), (F : Int), false, 0, false, false⟩ (reps F (T - F) (d + 1) p ++ o)
  | d, p, hd, hp => by
    have hpp : 0 ≤ (p : Int) ∧ (p : Int) ≤ 140737488351232 := by omega
    have hsp : (upTo F (T - F)).map (fun i => (i, (p : Int))) = (upTo F (T - 1 - F)).map (fun i => (i, (p : Int))) ++ [(((T - 1 : Nat) : Int), (p : Int))] := by
      rw [show T - F = (T - 1 - F) + 1 by omega, upTo_add, List.map_append, show F + (T - 1 - F) = T - 1 by omega]; rfl
    have hst : ∀ {o' : List (Int × Int)}, Run l s c ⟨((T - 1 : Nat) : Int), (p : Int), (F : Int), false, 0, false, false⟩ o' → Run l s c ⟨(F : Int), (p : Int), (F : Int), false, 0, false, false⟩ ((upTo F (T - 1 - F)).map (fun i => (i, (p : Int))) ++ o') := fun {o'} ho' => by
      refine run_stretch hpp (T - 1 - F) F (by rw [h.len]; omega) (fun i h1 h2 => ⟨(h.all i (by omega)).1, ?_, by rw [h.ends i (by omega), if_neg (by omega)]⟩) (by rwa [show F + (T - 1 - F) = T - 1 by omega])
      by_cases e : i = F
      · exact .inr (by rw [e])
      · exact .inl (h.f0 (by omega) e)
    have hf : (rd_T38 l ((T - 1 : Nat) : Int)).f0 = false ∨ ((T - 1 : Nat) : Int) = (F : Int) := by
      by_cases e : T - 1 = F
      · exact .inr (by rw [e])
      · exact .inl (h.f0 (by omega) e)
    have hf1 : (rd_T38 l ((T - 1 : Nat) : Int)).f1 = (K : Int) := by rw [h.ends _ (by omega), if_pos (by omega)]
    rw [reps, hsp, List.append_assoc, List.append_assoc, List.singleton_append]
    refine hst ?_
    cases d with
    | zero =>
      rw [reps, List.nil_append]
      refine run_on (by rw [h.len]; omega) (h.all _ (by omega)).1 hf (by rw [hf1]; omega) hpp ?_
      rw [hf1, show decide ((K : Int) > 0) = true by simp; omega, show T - 1 + 1 = T by omega, show (p : Int) = (K : Int) by omega]
      exact ho
    | succ d =>
      refine run_back (by rw [h.len]; omega) (h.all _ (by omega)).1 hf (by rw [hf1]; omega) hpp ?_
      exact Rep.passes h hF hT hK ho d (p + 1) (by omega) (by omega)
theorem Rep.run {F T N K : Nat} {l : List S38} {s c : Int} (h : Rep F T N K l) (hF : F < T) (hT : T ≤ N) (hK : K ≤ 1000) (hK1 : 1 ≤ K) :
    Run l s c q0 ((upTo 0 F).map (fun i => (i, 1)) ++ (reps F (T - F) K 1 ++ (upTo T (N - T)).map (fun i => (i, 1)))) := by
  have h1 : 0 ≤ (1 : Int) ∧ (1 : Int) ≤ 140737488351232 := by omega
  have hend : Run l s c ⟨(T : Int), (K : Int), (F : Int), true, 0, false, false⟩ ((upTo T (N - T)).map (fun i => (i, 1))) := by
    by_cases e : T = N
    · rw [show N - T = 0 by omega]
      exact .fin (by show ¬ (T : Int) < _; rw [h.len]; omega)
    · refine run_enter (h.all T (by omega)).1.1 (.inl rfl) (by omega) ?_
      have := run_stretch (l := l) (s := s) (c := c) (p := 1) (m := (T : Int)) h1 (N - T) T (o := []) (by rw [h.len]; omega) (fun i h1 h2 => ⟨(h.all i (by omega)).1, ?_, by rw [h.ends i (by omega), if_neg (by omega)]⟩) (.fin (by show ¬ ((T + (N - T) : Nat) : Int) < _; rw [h.len]; omega))
      · rwa [List.append_nil] at this
      · exact .inl (h.f0 (by omega) (by omega))
  have hmid := h.passes hF hT hK hend (K - 1) 1 (by omega) (by omega)
  rw [show K - 1 + 1 = K by omega] at hmid
  refine run_stretch h1 F 0 (by rw [h.len]; omega) (fun i _ h2 => ⟨(h.all i (by omega)).1, .inl (h.f0 (by omega) (by omega)), by rw [h.ends i (by omega), if_neg (by omega)]⟩) ?_
  rw [Nat.zero_add]
  by_cases e : F = 0
  · subst e; exact hmid
  · exact run_enter (h.all F (by omega)).1.1 (.inr ⟨h.first (by omega), by omega⟩) h1 hmid
theorem Rep.short {F T N K : Nat} {l : List S38} (h : Rep F T N K l) : Short l := short_of fun i hi => by rw [(h.all i (by rw [← h.len]; exact hi)).1.1]; simp
theorem Rep.chk {F T N K : Nat} {l : List S38} (h : Rep F T N K l) (hK : 2 ≤ K) (hK9 : K ≤ 9) : chkR l = (0, 0) := by
  have hj : ∀ i : Nat, i < l.length → isJump (rd_T38 l (i : Int)) = false := fun i hi => by
    unfold isJump; rw [(h.all i (by rw [← h.len]; exact hi)).1.2]; rfl
  refine okay_chk ⟨fun i hi => ?_, fun i i' hi hi' hp _ => ?_, fun i i' hi hi' hp _ => ?_, fun i i' hi hi' hp _ => ?_⟩ fun i hi hp => ?_
  · rw [h.len] at hi
    unfold loneB
    rw [(h.all i hi).1.1, (h.all i hi).1.2, h.ends i hi]
    by_cases e : i + 1 = T
    · rw [if_pos e]
      simp [endsB]
      omega
    · rw [if_neg e]; rfl
  · have hp : (rd_T38 l (i : Int)).f3 = true := hp
    rw [(h.all i (by rw [← h.len]; exact hi)).2.1] at hp; cases hp
  · have hp : (rd_T38 l (i : Int)).f4 = true := hp
    rw [(h.all i (by rw [← h.len]; exact hi)).2.2] at hp; cases hp
  · rw [hj i hi] at hp; cases hp
  · rw [hj i hi] at hp; cases hp
theorem reps_length (F n : Nat) : ∀ d p, (reps F n d p).length = d * n
  | 0, p => by simp [reps]
  | d + 1, p => by rw [reps, List.length_append, reps_length F n d, List.length_map, upTo_length, Nat.succ_mul, Nat.add_comm]
theorem Rep.told {F T N K : Nat} {l : List S38} (h : Rep F T N K l) (hF : F < T) (hT : T ≤ N) (hN : N ≤ 100) (hK : 2 ≤ K) (hK9 : K ≤ 9) :
    Ev (fun k => turns_walk.f k l) (upTo 0 F ++ ((reps F (T - F) K 1).map Prod.fst ++ upTo T (N - T)), List.replicate F 1 ++ ((reps F (T - F) K 1).map Prod.snd ++ List.replicate (N - T) 1), 0) := by
  have hw := walk_ev (by rw [h.len]; omega) h.short (h.chk hK hK9) (h.run hF hT (by omega) (by omega))
  refine Ev.ok hw ?_
  unfold Z.told
  have hm : K * (T - F) ≤ 9 * 100 := Nat.mul_le_mul hK9 (by omega)
  rw [if_pos (by simp only [List.length_append, List.length_map, upTo_length, reps_length]; omega)]
  simp only [List.map_append, map_fst_pair, map_snd_pair, upTo_length]

/-! ### the statement's own loops -/
theorem whole_l3 {F N K : Nat} {l : List S38} {X Y : List Int} (hF : F < l.length) (hX : X.length ≤ 100000) (hY : Y.length ≤ 100000) (hw : Ev (fun k => turns_walk.f k l) (X, Y, 0))
    (hw2 : Ev (fun k => turns_walk.f k (l.set F ⟨decide ((F : Int) > 0), (rd_T38 l (F : Int)).f1, (rd_T38 l (F : Int)).f2, (rd_T38 l (F : Int)).f3, (rd_T38 l (F : Int)).f4, (rd_T38 l (F : Int)).f5, (rd_T38 l (F : Int)).f6, (rd_T38 l (F : Int)).f7⟩)) (X, Y, 0)) :
    ∀ (d i : Nat) (B : List Int), d + i = N → N ≤ 1000 → B ++ List.replicate d 1 = Y → Ev (fun k => partitalaw10_TurnsWhole.l3 k true (F : Int) (N : Int) l X B (i : Int)) true
  | 0, i, B, h, hN, hB => by
    rw [List.replicate_zero, List.append_nil] at hB
    subst hB
    refine Ev.step (fun k => rfl) (Ev.no (by omega) (Ev.bind (unfold_ev hw) (Ev.bind (passes_ev hw) (Ev.yes (by omega) (Ev.yes (by omega) (Ev.bind (unfold_ev (by rw [Int.toNat_natCast]; exact hw2)) ?_))))))
    exact Ev.yes rfl (Ev.yes rfl (Ev.bind (ints_same rfl (by show List.length _ ≤ _; dsimp only; omega)) (Ev.yes rfl (Ev.yes rfl (Ev.bind (ints_same rfl (by show List.length _ ≤ _; dsimp only; omega)) (Ev.yes rfl (Ev.yes rfl (Ev.bind (ints_same rfl (by show List.length _ ≤ _; dsimp only; omega)) (Ev.now _)))))))))
  | d + 1, i, B, h, hN, hB => by
    have hl : B.length + (d + 1) = Y.length := by rw [← hB]; simp
    refine Ev.step (fun k => rfl) (Ev.yes (by omega) (Ev.yes (by omega) ?_))
    have e : wrap64 ((i : Int) + 1) = ((i + 1 : Nat) : Int) := by rw [w64 (by omega) (by omega)]; omega
    rw [e]
    exact whole_l3 (K := K) hF hX hY hw hw2 d (i + 1) (B ++ [1]) (by omega) hN (by rw [List.append_assoc, List.singleton_append, ← List.replicate_succ]; exact hB)
theorem whole_l2 {F T N K : Nat} {l : List S38} {A : List Int} {r : Nat} (hr : r ≤ 1000) : ∀ (d i : Nat) (B : List Int), d + i = T → T ≤ 1000 → B.length + d ≤ 100000 →
    Ev (fun k => partitalaw10_TurnsWhole.l1 k true (F : Int) (T : Int) (N : Int) (K : Int) l A (B ++ List.replicate d ((r + 1 : Nat) : Int)) ((r + 1 : Nat) : Int)) true →
    Ev (fun k => partitalaw10_TurnsWhole.l2 k true (F : Int) (T : Int) (N : Int) (K : Int) l A B (r : Int) (i : Int)) true
  | 0, i, B, h, hT, hB, hh => by
    rw [List.replicate_zero, List.append_nil] at hh
    have e : wrap64 ((r : Int) + 1) = ((r + 1 : Nat) : Int) := by rw [w64 (by omega) (by omega)]; omega
    refine Ev.step (fun k => rfl) (Ev.no (by omega) ?_)
    rw [e]; exact hh
  | d + 1, i, B, h, hT, hB, hh => by
    have e : wrap64 ((i : Int) + 1) = ((i + 1 : Nat) : Int) := by rw [w64 (by omega) (by omega)]; omega
    have e2 : wrap64 ((r : Int) + 1) = ((r + 1 : Nat) : Int) := by rw [w64 (by omega) (by omega)]; omega
    refine Ev.step (fun k => rfl) (Ev.yes (by omega) (Ev.yes (by omega) ?_))
    rw [e, e2]
    refine whole_l2 hr d (i + 1) _ (by omega) hT (by simp; omega) ?_
    rw [List.append_assoc, List.singleton_append, ← List.replicate_succ]; exact hh
theorem whole_l1 {F T N K : Nat} {l : List S38} {X Y : List Int} (hFT : F < T) (hT : T ≤ N) (hN : N ≤ 100) (hK : K ≤ 9) (hX : X.length ≤ 100000) (hY : Y.length ≤ 100000)
    (h3 : ∀ B : List Int, B ++ List.replicate (N - T) 1 = Y → Ev (fun k => partitalaw10_TurnsWhole.l3 k true (F : Int) (N : Int) l X B (T : Int)) true) :
    ∀ (d r : Nat) (A B : List Int), d + r = K → A ++ ((reps F (T - F) d (r + 1)).map Prod.fst ++ upTo T (N - T)) = X → B ++ ((reps F (T - F) d (r + 1)).map Prod.snd ++ List.replicate (N - T) 1) = Y →
      Ev (fun k => partitalaw10_TurnsWhole.l1 k true (F : Int) (T : Int) (N : Int) (K : Int) l A B (r : Int)) true
  | 0, r, A, B, h, hA, hB => by
    have hl : A.length + (upTo T (N - T)).length = X.length := by rw [← hA]; simp [reps]
    refine Ev.step (fun k => rfl) (Ev.no (by omega) (Ev.bind (rising_ev T (N - T) rfl (by omega) (by omega)) (Ev.yes (by omega) ?_)))
    rw [show A ++ upTo T (N - T) = X by simpa [reps] using hA]
    exact h3 B (by simpa [reps] using hB)
  | d + 1, r, A, B, h, hA, hB => by
    have hl : A.length + (upTo F (T - F)).length ≤ X.length := by rw [← hA, reps]; simp
    have hl2 : B.length + (T - F) ≤ Y.length := by rw [← hB, reps]; simp [upTo_length]
    refine Ev.step (fun k => rfl) (Ev.yes (by omega) (Ev.bind (rising_ev F (T - F) rfl (by omega) (by omega)) (Ev.yes (by omega) ?_)))
    refine whole_l2 (by omega) (T - F) F B (by omega) (by omega) (by omega) ?_
    refine whole_l1 hFT hT hN hK hX hY h3 d (r + 1) _ _ (by omega) ?_ ?_
    · rw [← hA, reps, List.map_append, map_fst_pair]; simp
    · rw [← hB, reps, List.map_append, map_snd_pair, upTo_length]; simp
theorem whole_l0 {F T N K : Nat} {l : List S38} {A : List Int} (hF : F ≤ 1000) : ∀ (d i : Nat) (B : List Int), d + i = F → B.length + d ≤ 100000 →
    Ev (fun k => partitalaw10_TurnsWhole.l1 k true (F : Int) (T : Int) (N : Int) (K : Int) l A (B ++ List.replicate d 1) 0) true →
    Ev (fun k => partitalaw10_TurnsWhole.l0 k true (F : Int) (T : Int) (N : Int) (K : Int) l A B (i : Int)) true
  | 0, i, B, h, hB, hh => by
    rw [List.replicate_zero, List.append_nil] at hh
    exact Ev.step (fun k => rfl) (Ev.no (by omega) hh)
  | d + 1, i, B, h, hB, hh => by
    have e : wrap64 ((i : Int) + 1) = ((i + 1 : Nat) : Int) := by rw [w64 (by omega) (by omega)]; omega
    refine Ev.step (fun k => rfl) (Ev.yes (by omega) (Ev.yes (by omega) ?_))
    rw [e]
    refine whole_l0 hF d (i + 1) _ (by omega) (by simp; omega) ?_
    rw [List.append_assoc, List.singleton_append, ← List.replicate_succ]; exact hh
theorem tm {a : Int} (h : 0 ≤ a) (h2 : a < 256) (n : Nat) (hn : 0 < n) : ∃ m : Nat, wrap64 (Int.tmod a n) = (m : Int) ∧ m < n := by
  refine ⟨(a % (n : Int)).toNat, ?_⟩
  have h3 := Int.emod_nonneg a (b := (n : Int)) (by omega)
  have h4 := Int.emod_lt_of_pos a (b := (n : Int)) (by omega)
  have h5 : a % (n : Int) ≤ a := by
    have := Int.emod_add_mul_ediv a (n : Int)
    have := Int.mul_nonneg (by omega : 0 ≤ (n : Int)) (Int.ediv_nonneg h (by omega : 0 ≤ (n : Int)))
    omega
  rw [Int.tmod_eq_emod_of_nonneg h, w64 (by omega) (by omega)]
  omega
theorem turnsWhole (a0 a1 a2 a3 : Int) (h0 : 0 ≤ a0 ∧ a0 < 256) (h1 : 0 ≤ a1 ∧ a1 < 256) (h2 : 0 ≤ a2 ∧ a2 < 256) (h3 : 0 ≤ a3 ∧ a3 < 256) : Ev (fun k => partitalaw10_TurnsWhole.f k a0 a1 a2 a3) true := by
  obtain ⟨F, hF, hF2⟩ := tm h0.1 h0.2 20 (by decide)
  obtain ⟨A, hA, hA2⟩ := tm h1.1 h1.2 20 (by decide)
  obtain ⟨B, hB, hB2⟩ := tm h2.1 h2.2 20 (by decide)
  obtain ⟨C, hC, hC2⟩ := tm h3.1 h3.2 8 (by decide)
  simp only [Int.cast_ofNat_Int] at hF hA hB hC
  unfold partitalaw10_TurnsWhole.f
  refine Ev.bind examples_ev (Ev.yes rfl ?_)
  rw [hF, hA, hB, hC]
  obtain ⟨T, hT⟩ : ∃ T, T = F + 1 + A := ⟨_, rfl⟩
  obtain ⟨N, hN⟩ : ∃ N, N = T + B := ⟨_, rfl⟩
  obtain ⟨K, hK⟩ : ∃ K, K = 2 + C := ⟨_, rfl⟩
  rw [show wrap64 ((F : Int) + 1) = ((F + 1 : Nat) : Int) by rw [w64 (by omega) (by omega)]; omega]
  rw [show wrap64 (((F + 1 : Nat) : Int) + (A : Int)) = (T : Int) by rw [w64 (by omega) (by omega)]; omega]
  rw [show wrap64 ((T : Int) + (B : Int)) = (N : Int) by rw [w64 (by omega) (by omega)]; omega]
  rw [show wrap64 (2 + (C : Int)) = (K : Int) by rw [w64 (by omega) (by omega)]; omega]
  rw [show wrap64 ((T : Int) - 1) = ((T - 1 : Nat) : Int) by rw [w64 (by omega) (by omega)]; omega]
  refine Ev.bind (Ev.eq (many_f (by omega) (by omega))) ?_
  rw [Int.toNat_natCast]
  have hlen : ((List.replicate N z38).length : Int) = (N : Int) := by simp
  simp only [hlen, Int.toNat_natCast]
  refine Ev.yes (by omega) (Ev.yes (by omega) (Ev.bind (Ev.now _) (Ev.yes (by omega) (Ev.yes (by omega) (Ev.bind (rising_ev 0 F rfl (by omega) (by omega)) ?_)))))
  obtain ⟨v, hv⟩ : ∃ v : S38, v = ⟨true, (rd_T38 (List.replicate N z38) (F : Int)).f1, (rd_T38 (List.replicate N z38) (F : Int)).f2, (rd_T38 (List.replicate N z38) (F : Int)).f3, (rd_T38 (List.replicate N z38) (F : Int)).f4, (rd_T38 (List.replicate N z38) (F : Int)).f5, (rd_T38 (List.replicate N z38) (F : Int)).f6, (rd_T38 (List.replicate N z38) (F : Int)).f7⟩ := ⟨_, rfl⟩
  rw [← hv]
  rw [rd_replicate] at hv
  obtain ⟨y, hy⟩ : ∃ y, y = (List.replicate N z38).set F v := ⟨_, rfl⟩
  rw [← hy]
  have ly : y.length = N := by rw [hy]; simp
  have ry : ∀ j : Nat, rd_T38 y (j : Int) = if F = j then v else z38 := fun j => by rw [hy, rd_set _ _ _ _ (by simp; omega), rd_replicate]
  obtain ⟨u, hu⟩ : ∃ u : S38, u = ⟨(rd_T38 y ((T - 1 : Nat) : Int)).f0, (K : Int), (rd_T38 y ((T - 1 : Nat) : Int)).f2, (rd_T38 y ((T - 1 : Nat) : Int)).f3, (rd_T38 y ((T - 1 : Nat) : Int)).f4, (rd_T38 y ((T - 1 : Nat) : Int)).f5, (rd_T38 y ((T - 1 : Nat) : Int)).f6, (rd_T38 y ((T - 1 : Nat) : Int)).f7⟩ := ⟨_, rfl⟩
  rw [← hu]
  rw [ry] at hu
  obtain ⟨l, hl⟩ : ∃ l, l = y.set (T - 1) u := ⟨_, rfl⟩
  rw [← hl]
  have ll : l.length = N := by rw [hl]; simpa using ly
  have rl : ∀ j : Nat, rd_T38 l (j : Int) = if T - 1 = j then u else if F = j then v else z38 := fun j => by rw [hl, rd_set _ _ _ _ (by rw [ly]; omega), ry]
  have hR : Rep F T N K l := by
    refine ⟨ll, fun i hi => ?_, fun i hi => ?_, fun i hi => ?_, fun _ => ?_⟩
    · rw [rl]; unfold Still; split
      · rw [hu]; split <;> (first | rw [hv]; exact ⟨⟨rfl, rfl⟩, rfl, rfl⟩ | exact ⟨⟨rfl, rfl⟩, rfl, rfl⟩)
      · split <;> (first | rw [hv]; exact ⟨⟨rfl, rfl⟩, rfl, rfl⟩ | exact ⟨⟨rfl, rfl⟩, rfl, rfl⟩)
    · rw [rl]; split
      · rw [if_pos (by omega : i + 1 = T), hu]
      · rw [if_neg (by omega : ¬ i + 1 = T)]; split <;> (first | rw [hv]; rfl | rfl)
    · rw [rl]; split
      · rw [hu]; split
        · intro _; omega
        · intro h; cases h
      · split
        · intro _; omega
        · intro h; cases h
    · rw [rl]; split
      · next e => rw [hu, if_pos (by omega), hv]
      · rw [if_pos rfl, hv]
  have hR2 : Rep F T N K (l.set F ⟨decide ((F : Int) > 0), (rd_T38 l (F : Int)).f1, (rd_T38 l (F : Int)).f2, (rd_T38 l (F : Int)).f3, (rd_T38 l (F : Int)).f4, (rd_T38 l (F : Int)).f5, (rd_T38 l (F : Int)).f6, (rd_T38 l (F : Int)).f7⟩) := by
    have hFl : F < l.length := by omega
    refine ⟨by rw [List.length_set]; exact ll, fun i hi => ?_, fun i hi => ?_, fun i hi => ?_, fun hF0 => ?_⟩
    · rw [rd_set _ _ _ _ hFl]; split
      · exact hR.all F (by omega)
      · exact hR.all i hi
    · rw [rd_set _ _ _ _ hFl]; split
      · next e => subst e; exact hR.ends F (by omega)
      · exact hR.ends i hi
    · rw [rd_set _ _ _ _ hFl]; split
      · next e => exact fun _ => e.symm
      · exact hR.begins i hi
    · rw [rd_set _ _ _ _ hFl, if_pos rfl]
      simp; omega
  have hw := hR.told (by omega) (by omega) (by omega) (by omega) (by omega)
  have hw2 := hR2.told (by omega) (by omega) (by omega) (by omega) (by omega)
  have hm : K * (T - F) ≤ 9 * 100 := Nat.mul_le_mul (by omega) (by omega)
  have hX : (upTo 0 F ++ ((reps F (T - F) K 1).map Prod.fst ++ upTo T (N - T))).length ≤ 100000 := by simp only [List.length_append, List.length_map, upTo_length, reps_length]; omega
  have hY : (List.replicate F (1 : Int) ++ ((reps F (T - F) K 1).map Prod.snd ++ List.replicate (N - T) 1)).length ≤ 100000 := by simp only [List.length_append, List.length_map, List.length_replicate, reps_length]; omega
  refine whole_l0 (by omega) F 0 [] (by omega) (by simp; omega) ?_
  refine whole_l1 (by omega) (by omega) (by omega) (by omega) hX hY (fun B hB => ?_) K 0 _ _ (by omega) rfl rfl
  exact whole_l3 (K := 0) (by omega) hX hY hw hw2 (N - T) T B (by omega) (by omega) hB
theorem u8_wf {a : Int} (h : (Lit.int .u8 a).wf = true) : 0 ≤ a ∧ a < 256 := by
  have e : IntKind.u8.min = 0 := rfl
  have e2 : IntKind.u8.max = 255 := rfl
  simp [Lit.wf] at h
  omega
end Go.Proofs.Ytendmmagjjhfnaa.Z
namespace Go.Proofs.Ytendmmagjjhfnaa.Pure
open Go.RowKit Go.Proofs.Ytendmmagjjhfnaa.M Go.Proofs.YtendmmagjjhfnaaW.PrintWords Go.Proofs.YtendmmagjjhfnaaW.PrintLast
theorem TurnsWhole : partitalaw10_TurnsWhole.Pure := by
  intro a0 a1 a2 a3 h0 h1 h2 h3
  exact Ev.rounds (Z.turnsWhole a0 a1 a2 a3 (Z.u8_wf h0) (Z.u8_wf h1) (Z.u8_wf h2) (Z.u8_wf h3))
end Go.Proofs.Ytendmmagjjhfnaa.Pure
