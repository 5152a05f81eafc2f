/- The pure part of the statement TurnsJumps: a jump at the end of a bar leads to the beginning or to the Sign, once; from there on to the end, or to the Fine, or to the Coda's sign and on from the Coda. -/
import Derived.Test.YtendmmagjjhfnaaZ3
import Derived.Test.YtendmmagjjhfnaaM35
namespace Go.Proofs.Ytendmmagjjhfnaa.Z
open Go.RowKit Go.Proofs.YtendmmagjjhfnaaW.PrintWords Go.Proofs.YtendmmagjjhfnaaW.PrintLast Go.Proofs.Ytendmmagjjhfnaa.M
set_option linter.unusedVariables false
set_option linter.unusedSimpArgs false

/-- A bar without sections, repeats and endings. -/
def Flat (x : S38) : Prop := x.f0 = false ∧ x.f1 = 0 ∧ x.f2 = []
theorem flat_enter {q : Wk} {x : S38} (hx : Flat x) (hq : q.closed = false) : enterW q x = q := by
  unfold enterW entersB
  rw [hx.1, hq]; rfl
theorem flat_st {l : List S38} {b : Nat} {p j : Int} {x : S38} (h : Flat x) : stB l b p j x = true := by
  unfold stB
  rw [h.2.2]; rfl
theorem run_go {l : List S38} {s c : Int} {b : Nat} {m j : Int} {fn cd : Bool} (hb : b < l.length) (hx : Flat (rd_T38 l (b : Int))) (h1 : (fn && (rd_T38 l (b : Int)).f6) = false) (h2 : (cd && (rd_T38 l (b : Int)).f5) = false) (h3 : j ≠ 0 ∨ (rd_T38 l (b : Int)).f7 = 0)
    {o : List (Int × Int)} (h : Run l s c ⟨((b + 1 : Nat) : Int), 1, m, false, j, fn, cd⟩ o) : Run l s c ⟨(b : Int), 1, m, false, j, fn, cd⟩ (((b : Int), 1) :: o) := by
  have he : enterW (⟨(b : Int), 1, m, false, j, fn, cd⟩ : Wk) (rd_T38 l (b : Int)) = ⟨(b : Int), 1, m, false, j, fn, cd⟩ := flat_enter hx rfl
  have := @Run.play l s c ⟨(b : Int), 1, m, false, j, fn, cd⟩ ⟨((b + 1 : Nat) : Int), 1, m, false, j, fn, cd⟩ o (by show (b : Int) < _; omega) (by show (0 : Int) ≤ b; omega) (by show 0 ≤ (1 : Int) ∧ (1 : Int) ≤ _; omega) (flat_st hx) (by
    show onW s c (enterW _ (rd_T38 l (b : Int))) (rd_T38 l (b : Int)) = _
    rw [he]
    unfold onW
    simp only [h1, h2, Bool.false_eq_true, if_false]
    rw [if_neg (by rw [hx.2.1]; omega), if_pos h3, hx.2.1]
    simp) h
  rwa [show (enterW (⟨(b : Int), 1, m, false, j, fn, cd⟩ : Wk) (rd_T38 l (b : Int))).pass = 1 by rw [he]] at this
theorem run_gos {l : List S38} {s c m j : Int} {fn cd : Bool} : ∀ (n b : Nat) {o : List (Int × Int)}, b + n ≤ l.length →
    (∀ i, b ≤ i → i < b + n → Flat (rd_T38 l (i : Int)) ∧ (fn && (rd_T38 l (i : Int)).f6) = false ∧ (cd && (rd_T38 l (i : Int)).f5) = false ∧ (j ≠ 0 ∨ (rd_T38 l (i : Int)).f7 = 0)) →
    Run l s c ⟨((b + n : Nat) : Int), 1, m, false, j, fn, cd⟩ o → Run l s c ⟨(b : Int), 1, m, false, j, fn, cd⟩ ((upTo b n).map (fun i => (i, 1)) ++ o)
  | 0, b, o, h1, h2, h3 => h3
  | n + 1, b, o, h1, h2, h3 => by
    rw [upTo_succ, List.map_cons, List.cons_append]
    obtain ⟨a1, a2, a3, a4⟩ := h2 b (by omega) (by omega)
    refine run_go (by omega) a1 a2 a3 a4 ?_
    exact run_gos n (b + 1) (by omega) (fun i hi hi2 => h2 i (by omega) (by omega)) (by rwa [show b + 1 + n = b + (n + 1) by omega])
/-- The end of the piece. -/
theorem run_halt {l : List S38} {s c : Int} {b : Nat} {m j : Int} {cd : Bool} (hb : b < l.length) (hx : Flat (rd_T38 l (b : Int))) (h1 : (rd_T38 l (b : Int)).f6 = true) : Run l s c ⟨(b : Int), 1, m, false, j, true, cd⟩ [((b : Int), 1)] := by
  have he : enterW (⟨(b : Int), 1, m, false, j, true, cd⟩ : Wk) (rd_T38 l (b : Int)) = ⟨(b : Int), 1, m, false, j, true, cd⟩ := flat_enter hx rfl
  have := @Run.stop l s c ⟨(b : Int), 1, m, false, j, true, cd⟩ (by show (b : Int) < _; omega) (by show (0 : Int) ≤ b; omega) (by show 0 ≤ (1 : Int) ∧ (1 : Int) ≤ _; omega) (flat_st hx) (by
    show onW s c (enterW _ (rd_T38 l (b : Int))) (rd_T38 l (b : Int)) = _
    rw [he]
    unfold onW
    rw [h1]; rfl)
  rwa [show (enterW (⟨(b : Int), 1, m, false, j, true, cd⟩ : Wk) (rd_T38 l (b : Int))).pass = 1 by rw [he]] at this
/-- To the Coda. -/
theorem run_coda {l : List S38} {s c : Int} {b : Nat} {m j : Int} (hb : b < l.length) (hx : Flat (rd_T38 l (b : Int))) (h1 : (rd_T38 l (b : Int)).f5 = true) {o : List (Int × Int)}
    (h : Run l s c ⟨c, 1, c, false, j, false, false⟩ o) : Run l s c ⟨(b : Int), 1, m, false, j, false, true⟩ (((b : Int), 1) :: o) := by
  have he : enterW (⟨(b : Int), 1, m, false, j, false, true⟩ : Wk) (rd_T38 l (b : Int)) = ⟨(b : Int), 1, m, false, j, false, true⟩ := flat_enter hx rfl
  have := @Run.play l s c ⟨(b : Int), 1, m, false, j, false, true⟩ ⟨c, 1, c, false, j, false, false⟩ o (by show (b : Int) < _; omega) (by show (0 : Int) ≤ b; omega) (by show 0 ≤ (1 : Int) ∧ (1 : Int) ≤ _; omega) (flat_st hx) (by
    show onW s c (enterW _ (rd_T38 l (b : Int))) (rd_T38 l (b : Int)) = _
    rw [he]
    unfold onW
    rw [h1]; rfl) h
  rwa [show (enterW (⟨(b : Int), 1, m, false, j, false, true⟩ : Wk) (rd_T38 l (b : Int))).pass = 1 by rw [he]] at this
/-- The jump. -/
theorem run_jump {l : List S38} {s c : Int} {b : Nat} {m g : Int} (hb : b < l.length) (hx : Flat (rd_T38 l (b : Int))) (h1 : (rd_T38 l (b : Int)).f7 = g) (hg : g ≠ 0) {o : List (Int × Int)}
    (h : Run l s c ⟨if g ≥ 4 then s else 0, 1, if g ≥ 4 then s else 0, false, g, isFine g, isCoda g⟩ o) : Run l s c ⟨(b : Int), 1, m, false, 0, false, false⟩ (((b : Int), 1) :: o) := by
  have he : enterW (⟨(b : Int), 1, m, false, 0, false, false⟩ : Wk) (rd_T38 l (b : Int)) = ⟨(b : Int), 1, m, false, 0, false, false⟩ := flat_enter hx rfl
  have := @Run.play l s c ⟨(b : Int), 1, m, false, 0, false, false⟩ ⟨if g ≥ 4 then s else 0, 1, if g ≥ 4 then s else 0, false, g, isFine g, isCoda g⟩ o (by show (b : Int) < _; omega) (by show (0 : Int) ≤ b; omega) (by show 0 ≤ (1 : Int) ∧ (1 : Int) ≤ _; omega) (flat_st hx) (by
    show onW s c (enterW _ (rd_T38 l (b : Int))) (rd_T38 l (b : Int)) = _
    rw [he]
    unfold onW
    simp only [Bool.false_and, Bool.false_eq_true, if_false]
    rw [if_neg (by rw [hx.2.1]; omega), if_neg (by rw [h1]; simpa using hg), h1]
    rfl) h
  rwa [show (enterW (⟨(b : Int), 1, m, false, 0, false, false⟩ : Wk) (rd_T38 l (b : Int))).pass = 1 by rw [he]] at this

/-- Bars with a jump, and the signs that it may lead to. -/
structure Jumps (K J S F C : Nat) (g : Int) (l : List S38) : Prop where
  len : l.length = K
  bar : ∀ i : Nat, i < K → rd_T38 l (i : Int) = ⟨false, 0, [], decide (i = S), decide (i = C), decide (i = F), decide (i = F), if i = J then g else 0⟩
theorem Jumps.flat {K J S F C : Nat} {g : Int} {l : List S38} (h : Jumps K J S F C g l) {i : Nat} (hi : i < K) : Flat (rd_T38 l (i : Int)) := by rw [h.bar i hi]; exact ⟨rfl, rfl, rfl⟩
theorem fi_at {p : S38 → Bool} {l : List S38} {A : Nat} (hA : A < l.length) (h : ∀ i : Nat, i < l.length → p (rd_T38 l (i : Int)) = decide (i = A)) : fi p 0 l = (A : Int) := by
  rcases fi_spec p l with ⟨_, h2⟩ | ⟨i, h1, h2, h3, h4⟩
  · have := h2 A hA
    rw [h A hA] at this
    simp at this
  · rw [h i h1] at h3
    rw [h2, of_decide_eq_true h3]
theorem Jumps.sign {K J S F C : Nat} {g : Int} {l : List S38} (h : Jumps K J S F C g l) (hS : S < K) : fi (fun x => x.f3) 0 l = (S : Int) := fi_at (by rw [h.len]; exact hS) fun i hi => by rw [h.bar i (by rw [← h.len]; exact hi)]
theorem Jumps.coda {K J S F C : Nat} {g : Int} {l : List S38} (h : Jumps K J S F C g l) (hS : C < K) : fi (fun x => x.f4) 0 l = (C : Int) := fi_at (by rw [h.len]; exact hS) fun i hi => by rw [h.bar i (by rw [← h.len]; exact hi)]
theorem Jumps.fine {K J S F C : Nat} {g : Int} {l : List S38} (h : Jumps K J S F C g l) (hS : F < K) : fi (fun x => x.f6) 0 l = (F : Int) := fi_at (by rw [h.len]; exact hS) fun i hi => by rw [h.bar i (by rw [← h.len]; exact hi)]
theorem Jumps.stop {K J S F C : Nat} {g : Int} {l : List S38} (h : Jumps K J S F C g l) (hS : F < K) : fi (fun x => x.f5) 0 l = (F : Int) := fi_at (by rw [h.len]; exact hS) fun i hi => by rw [h.bar i (by rw [← h.len]; exact hi)]
theorem Jumps.short {K J S F C : Nat} {g : Int} {l : List S38} (h : Jumps K J S F C g l) : Short l := short_of fun i hi => by rw [h.bar i (by rw [← h.len]; exact hi)]; simp
theorem Jumps.chk {K J S F C : Nat} {g : Int} {l : List S38} (h : Jumps K J S F C g l) (hS : S < K) (hF : F < K) (hC : C < K) (hg : 1 ≤ g ∧ g ≤ 6) : chkR l = (0, 0) := by
  have hj : ∀ i : Nat, i < l.length → isJump (rd_T38 l (i : Int)) = true → i = J := fun i hi hp => by
    rw [h.bar i (by rw [← h.len]; exact hi)] at hp
    unfold isJump at hp
    by_cases e : i = J
    · exact e
    · rw [if_neg e] at hp; simp at hp
  refine okay_chk ⟨fun i hi => ?_, fun i i' hi hi' hp hp' => ?_, fun i i' hi hi' hp hp' => ?_, fun i i' hi hi' hp hp' => ?_⟩ fun i hi hp => ?_
  · rw [h.bar i (by rw [← h.len]; exact hi)]
    unfold loneB
    by_cases e : i = J
    · rw [if_pos e]; simp [endsB]; omega
    · rw [if_neg e]; rfl
  · have hp : (rd_T38 l (i : Int)).f3 = true := hp
    have hp' : (rd_T38 l (i' : Int)).f3 = true := hp'
    rw [h.bar i (by rw [← h.len]; exact hi)] at hp
    rw [h.bar i' (by rw [← h.len]; exact hi')] at hp'
    exact (of_decide_eq_true hp).trans (of_decide_eq_true hp').symm
  · have hp : (rd_T38 l (i : Int)).f4 = true := hp
    have hp' : (rd_T38 l (i' : Int)).f4 = true := hp'
    rw [h.bar i (by rw [← h.len]; exact hi)] at hp
    rw [h.bar i' (by rw [← h.len]; exact hi')] at hp'
    exact (of_decide_eq_true hp).trans (of_decide_eq_true hp').symm
  · exact (hj i hi hp).trans (hj i' hi' hp').symm
  · unfold lacksB
    rw [h.sign hS, h.coda hC, h.fine hF, h.stop hF]
    rw [decide_eq_false (show ¬ (S : Int) < 0 by omega), decide_eq_false (show ¬ (F : Int) < 0 by omega), decide_eq_false (show ¬ (C : Int) < 0 by omega)]
    simp
/-- Where a jump leads to. -/
def fromOf (g : Int) (S : Nat) : Nat := if g ≥ 4 then S else 0
/-- What is played behind a jump. -/
def afterJ (K S F C : Nat) (g : Int) : List Int :=
  if isFine g = true then upTo (fromOf g S) (F + 1 - fromOf g S) else if isCoda g = true then upTo (fromOf g S) (F + 1 - fromOf g S) ++ upTo C (K - C) else upTo (fromOf g S) (K - fromOf g S)
theorem Jumps.run {K J S F C : Nat} {g : Int} {l : List S38} (h : Jumps K J S F C g l) (hJ : J < K) (hSF : S ≤ F) (hF : F < K) (hC : C < K) (hg : 1 ≤ g ∧ g ≤ 6) :
    Run l (S : Int) (C : Int) q0 ((upTo 0 (J + 1) ++ afterJ K S F C g).map (fun i => (i, 1))) := by
  have hT : fromOf g S ≤ F := by unfold fromOf; split <;> omega
  have hg0 : g ≠ 0 := by omega
  have hto : ((if g ≥ 4 then (S : Int) else 0) : Int) = ((fromOf g S : Nat) : Int) := by unfold fromOf; split <;> rfl
  have hfin : ∀ {m : Int} {n : Nat} {fn cd : Bool} {o : List (Int × Int)}, Run l (S : Int) (C : Int) ⟨((K : Nat) : Int), 1, m, false, g, fn, cd⟩ [] := .fin (by show ¬ (K : Int) < _; rw [h.len]; omega)
  -- a stretch behind the jump, up to a bar
  have hst : ∀ (b n : Nat) {m : Int} {fn cd : Bool} {o : List (Int × Int)}, b + n ≤ K → ((fn = false ∧ cd = false) ∨ b + n ≤ F) → Run l (S : Int) (C : Int) ⟨((b + n : Nat) : Int), 1, m, false, g, fn, cd⟩ o → Run l (S : Int) (C : Int) ⟨(b : Int), 1, m, false, g, fn, cd⟩ ((upTo b n).map (fun i => (i, 1)) ++ o) := by
    intro b n m fn cd o hb hq ho
    refine run_gos n b (by rw [h.len]; exact hb) (fun i hi hi2 => ⟨h.flat (by omega), ?_, ?_, .inl hg0⟩) ho
    · rcases hq with ⟨q1, _⟩ | q
      · rw [q1]; rfl
      · rw [h.bar i (by omega), decide_eq_false (by omega : ¬ i = F)]; simp
    · rcases hq with ⟨_, q1⟩ | q
      · rw [q1]; rfl
      · rw [h.bar i (by omega), decide_eq_false (by omega : ¬ i = F)]; simp
  have hsp : (upTo (fromOf g S) (F + 1 - fromOf g S)).map (fun i => (i, (1 : Int))) = (upTo (fromOf g S) (F - fromOf g S)).map (fun i => (i, 1)) ++ [((F : Int), 1)] := by
    rw [show F + 1 - fromOf g S = (F - fromOf g S) + 1 by omega, upTo_add, List.map_append, show fromOf g S + (F - fromOf g S) = F by omega]; rfl
  have hafter : Run l (S : Int) (C : Int) ⟨if g ≥ 4 then (S : Int) else 0, 1, if g ≥ 4 then (S : Int) else 0, false, g, isFine g, isCoda g⟩ ((afterJ K S F C g).map (fun i => (i, 1))) := by
    rw [hto]
    unfold afterJ
    by_cases h1 : isFine g = true
    · rw [if_pos h1, hsp, h1]
      refine hst _ _ (by omega) (.inr (by omega)) ?_
      rw [show fromOf g S + (F - fromOf g S) = F by omega]
      exact run_halt (by rw [h.len]; omega) (h.flat (by omega)) (by rw [h.bar F (by omega)]; simp)
    · rw [if_neg h1, Bool.eq_false_iff.mpr h1]
      by_cases h2 : isCoda g = true
      · rw [if_pos h2, List.map_append, hsp, h2, List.append_assoc]
        refine hst _ _ (by omega) (.inr (by omega)) ?_
        rw [show fromOf g S + (F - fromOf g S) = F by omega, List.singleton_append]
        refine run_coda (by rw [h.len]; omega) (h.flat (by omega)) (by rw [h.bar F (by omega)]; simp) ?_
        have := hst C (K - C) (m := (C : Int)) (fn := false) (cd := false) (o := []) (by omega) (.inl ⟨rfl, rfl⟩) (by rw [show C + (K - C) = K by omega]; exact hfin (n := 0) (o := []))
        rwa [List.append_nil] at this
      · rw [if_neg h2, Bool.eq_false_iff.mpr h2]
        have := hst (fromOf g S) (K - fromOf g S) (m := ((fromOf g S : Nat) : Int)) (fn := false) (cd := false) (o := []) (by omega) (.inl ⟨rfl, rfl⟩) (by rw [show fromOf g S + (K - fromOf g S) = K by omega]; exact hfin (n := 0) (o := []))
        rwa [List.append_nil] at this
  rw [List.map_append, upTo_add 0 J 1, List.map_append, List.append_assoc]
  refine run_gos J 0 (by rw [h.len]; omega) (fun i _ hi => ⟨h.flat (by omega), rfl, rfl, .inr (by rw [h.bar i (by omega), if_neg (by omega)])⟩) ?_
  rw [Nat.zero_add]
  exact run_jump (by rw [h.len]; omega) (h.flat (by omega)) (by rw [h.bar J (by omega), if_pos rfl]) hg0 hafter
theorem afterJ_len {K S F C : Nat} {g : Int} (hSF : S ≤ F) (hF : F < K) (hC : C < K) (hK : K ≤ 60) : (afterJ K S F C g).length ≤ 200 := by
  unfold afterJ
  split
  · rw [upTo_length]; omega
  · split
    · rw [List.length_append, upTo_length, upTo_length]; omega
    · rw [upTo_length]; omega
theorem Jumps.told {K J S F C : Nat} {g : Int} {l : List S38} (h : Jumps K J S F C g l) (hJ : J < K) (hSF : S ≤ F) (hF : F < K) (hC : C < K) (hg : 1 ≤ g ∧ g ≤ 6) (hK : K ≤ 60) :
    Ev (fun k => turns_Unfold.f k l) (upTo 0 (J + 1) ++ afterJ K S F C g, 0) := by
  have hr := h.run hJ hSF hF hC hg
  have hw := walk_ev (l := l) (by rw [h.len]; omega) h.short (h.chk (by omega) hF hC hg) (by rw [h.sign (by omega), h.coda hC]; exact hr)
  refine Ev.ok (unfold_ev hw) ?_
  unfold Z.told
  rw [if_pos (by
    have : (afterJ K S F C g).length ≤ 200 := afterJ_len hSF hF hC hK
    simp only [List.length_append, List.length_map, upTo_length]; omega)]
  simp only [map_fst_pair]

/-! ### the statement's own loops -/
theorem jumps_j5 {K J S F C : Nat} {g : Nat} {l : List S38} {X : List Int} (hg : g ≤ 6) (hX : X.length ≤ 1000) (hu : Ev (fun k => turns_Unfold.f k l) (X, 0))
    (hn : Ev (fun k => partitalaw10_TurnsJumps.l0 k true (K : Int) (J : Int) (S : Int) (F : Int) (C : Int) ((g + 1 : Nat) : Int)) true) :
    Ev (fun k => partitalaw10_TurnsJumps.j5 k true (K : Int) (J : Int) (S : Int) (F : Int) (C : Int) (g : Int) l X) true := by
  refine Ev.step (fun k => rfl) (Ev.bind hu (Ev.yes rfl (Ev.bind (ints_same rfl (by show List.length X ≤ _; omega)) (Ev.yes rfl ?_))))
  rw [show wrap64 ((g : Int) + 1) = ((g + 1 : Nat) : Int) by rw [w64 (by omega) (by omega)]; omega]
  exact hn
theorem jumps_j4 {K J S F C : Nat} {g : Nat} {l : List S38} {X : List Int} {T : Nat} {b : Bool} (hJ : J < K) (hF : F < K) (hC : C < K) (hT : T ≤ F) (hK : K ≤ 60)
    (hn : Ev (fun k => partitalaw10_TurnsJumps.j5 k true (K : Int) (J : Int) (S : Int) (F : Int) (C : Int) (g : Int) l (if b = true then upTo 0 (J + 1) ++ upTo T (F + 1 - T) ++ upTo C (K - C) else X)) true) :
    Ev (fun k => partitalaw10_TurnsJumps.j4 k true (K : Int) (J : Int) (S : Int) (F : Int) (C : Int) (g : Int) l (T : Int) X b) true := by
  cases b with
  | false =>
    simp only [Bool.false_eq_true, if_false] at hn
    refine Ev.step (fun k => rfl) ?_
    simp only [partitalaw10_TurnsJumps.j4, Bool.false_eq_true, if_false]
    exact hn
  | true =>
    rw [if_pos rfl] at hn
    refine Ev.step (fun k => rfl) ?_
    simp only [partitalaw10_TurnsJumps.j4, if_true]
    rw [show wrap64 ((J : Int) + 1) = ((J + 1 : Nat) : Int) by rw [w64 (by omega) (by omega)]; omega, show wrap64 ((F : Int) + 1) = ((F + 1 : Nat) : Int) by rw [w64 (by omega) (by omega)]; omega]
    refine Ev.bind (rising_ev 0 (J + 1) rfl (by omega) (by omega)) (Ev.bind (rising_ev T (F + 1 - T) rfl (by omega) (by omega)) (Ev.yes (by rw [upTo_length, upTo_length]; omega) (Ev.bind (Ev.now _) (Ev.bind (rising_ev C (K - C) rfl (by omega) (by omega)) (Ev.yes (by rw [List.length_append, upTo_length, upTo_length, upTo_length]; omega) hn)))))
theorem jumps_j2 {K J S F C : Nat} {g : Nat} {l : List S38} {X : List Int} {T : Nat} {b : Bool} (hJ : J < K) (hF : F < K) (hC : C < K) (hT : T ≤ F) (hK : K ≤ 60)
    (hn : Ev (fun k => partitalaw10_TurnsJumps.j3 k true (K : Int) (J : Int) (S : Int) (F : Int) (C : Int) (g : Int) l (T : Int) (if b = true then upTo 0 (J + 1) ++ upTo T (F + 1 - T) else X)) true) :
    Ev (fun k => partitalaw10_TurnsJumps.j2 k true (K : Int) (J : Int) (S : Int) (F : Int) (C : Int) (g : Int) l (T : Int) X b) true := by
  cases b with
  | false =>
    simp only [Bool.false_eq_true, if_false] at hn
    refine Ev.step (fun k => rfl) ?_
    simp only [partitalaw10_TurnsJumps.j2, Bool.false_eq_true, if_false]
    exact hn
  | true =>
    rw [if_pos rfl] at hn
    refine Ev.step (fun k => rfl) ?_
    simp only [partitalaw10_TurnsJumps.j2, if_true]
    rw [show wrap64 ((J : Int) + 1) = ((J + 1 : Nat) : Int) by rw [w64 (by omega) (by omega)]; omega, show wrap64 ((F : Int) + 1) = ((F + 1 : Nat) : Int) by rw [w64 (by omega) (by omega)]; omega]
    exact Ev.bind (rising_ev 0 (J + 1) rfl (by omega) (by omega)) (Ev.bind (rising_ev T (F + 1 - T) rfl (by omega) (by omega)) (Ev.yes (by rw [upTo_length, upTo_length]; omega) hn))
theorem jumps_j1 {K J S F C : Nat} {g : Nat} {l : List S38} (h : Jumps K J S F C g l) (hJ : J < K) (hSF : S ≤ F) (hF : F < K) (hC : C < K) (hK : K ≤ 60) (hg : 1 ≤ g ∧ g ≤ 6)
    (hn : Ev (fun k => partitalaw10_TurnsJumps.l0 k true (K : Int) (J : Int) (S : Int) (F : Int) (C : Int) ((g + 1 : Nat) : Int)) true) :
    Ev (fun k => partitalaw10_TurnsJumps.j1 k true (K : Int) (J : Int) (S : Int) (F : Int) (C : Int) (g : Int) l ((fromOf g S : Nat) : Int)) true := by
  have hT : fromOf g S ≤ F := by unfold fromOf; split <;> omega
  have ht := h.told hJ hSF hF hC (by omega) hK
  have hl := afterJ_len (g := (g : Int)) hSF hF hC hK
  have h5 := jumps_j5 (K := K) (J := J) (S := S) (F := F) (C := C) (g := g) hg.2 (by rw [List.length_append, upTo_length]; omega) ht hn
  refine Ev.step (fun k => rfl) ?_
  simp only [partitalaw10_TurnsJumps.j1]
  rw [show wrap64 ((J : Int) + 1) = ((J + 1 : Nat) : Int) by rw [w64 (by omega) (by omega)]; omega]
  refine Ev.bind (rising_ev 0 (J + 1) rfl (by omega) (by omega)) (Ev.bind (rising_ev (fromOf g S) (K - fromOf g S) rfl (by omega) (by omega)) (Ev.yes (by rw [upTo_length, upTo_length]; omega) (Ev.bind (Ev.now _) ?_)))
  have key : ∀ b2 b4 : Bool, isFine (g : Int) = b2 → isCoda (g : Int) = b4 → Ev (fun k => partitalaw10_TurnsJumps.j4 k true (K : Int) (J : Int) (S : Int) (F : Int) (C : Int) (g : Int) l ((fromOf g S : Nat) : Int) (if b2 = true then upTo 0 (J + 1) ++ upTo (fromOf g S) (F + 1 - fromOf g S) else upTo 0 (J + 1) ++ upTo (fromOf g S) (K - fromOf g S)) b4) true := by
    intro b2 b4 q2 q4
    refine jumps_j4 hJ hF hC hT hK ?_
    unfold afterJ at h5
    rw [q2, q4] at h5
    cases b2 with
    | false => cases b4 with
      | false => simpa using h5
      | true => simpa using h5
    | true => cases b4 with
      | false => simpa using h5
      | true =>
        exfalso
        unfold isFine at q2; unfold isCoda at q4
        simp at q2 q4
        omega
  have h3 : Ev (fun k => partitalaw10_TurnsJumps.j3 k true (K : Int) (J : Int) (S : Int) (F : Int) (C : Int) (g : Int) l ((fromOf g S : Nat) : Int) (if isFine (g : Int) = true then upTo 0 (J + 1) ++ upTo (fromOf g S) (F + 1 - fromOf g S) else upTo 0 (J + 1) ++ upTo (fromOf g S) (K - fromOf g S))) true := by
    refine Ev.step (fun k => rfl) ?_
    simp only [partitalaw10_TurnsJumps.j3]
    by_cases h3 : (g : Int) = 3
    · exact Ev.yes h3 (key _ true rfl (by unfold isCoda; rw [h3]; rfl))
    · exact Ev.no h3 (key _ _ rfl (by unfold isCoda; rw [decide_eq_false h3]; rw [Bool.false_or]; rfl))
  by_cases h2 : (g : Int) = 2
  · exact Ev.yes h2 (jumps_j2 (b := true) hJ hF hC hT hK (by rw [show isFine (g : Int) = true by unfold isFine; rw [h2]; rfl] at h3; exact h3))
  · exact Ev.no h2 (jumps_j2 hJ hF hC hT hK (by rw [show isFine (g : Int) = ((g : Int) == 5) by unfold isFine; rw [decide_eq_false h2]; rw [Bool.false_or]; rfl] at h3; exact h3))
structure Bars (K : Nat) (p3 p4 p5 p6 : Nat → Bool) (p7 : Nat → Int) (l : List S38) : Prop where
  len : l.length = K
  bar : ∀ i : Nat, i < K → rd_T38 l (i : Int) = ⟨false, 0, [], p3 i, p4 i, p5 i, p6 i, p7 i⟩
theorem bars_many (K : Nat) : Bars K (fun _ => false) (fun _ => false) (fun _ => false) (fun _ => false) (fun _ => 0) (List.replicate K z38) := ⟨by simp, fun i _ => by rw [rd_replicate]; rfl⟩
section
variable {K : Nat} {p3 p4 p5 p6 : Nat → Bool} {p7 : Nat → Int} {l : List S38} {A : Nat}
theorem Bars.set7 (h : Bars K p3 p4 p5 p6 p7 l) (hA : A < K) (g : Int) : Bars K p3 p4 p5 p6 (fun i => if i = A then g else p7 i) (l.set A ⟨(rd_T38 l (A : Int)).f0, (rd_T38 l (A : Int)).f1, (rd_T38 l (A : Int)).f2, (rd_T38 l (A : Int)).f3, (rd_T38 l (A : Int)).f4, (rd_T38 l (A : Int)).f5, (rd_T38 l (A : Int)).f6, g⟩) := by
  refine ⟨by rw [List.length_set]; exact h.len, fun i hi => ?_⟩
  rw [rd_set _ _ _ _ (by rw [h.len]; exact hA)]
  by_cases e : A = i
  · subst e; rw [if_pos rfl, h.bar A hA]; simp
  · rw [if_neg e, h.bar i hi]; simp [Ne.symm e]
theorem Bars.set3 (h : Bars K p3 p4 p5 p6 p7 l) (hA : A < K) : Bars K (fun i => decide (i = A) || p3 i) p4 p5 p6 p7 (l.set A ⟨(rd_T38 l (A : Int)).f0, (rd_T38 l (A : Int)).f1, (rd_T38 l (A : Int)).f2, true, (rd_T38 l (A : Int)).f4, (rd_T38 l (A : Int)).f5, (rd_T38 l (A : Int)).f6, (rd_T38 l (A : Int)).f7⟩) := by
  refine ⟨by rw [List.length_set]; exact h.len, fun i hi => ?_⟩
  rw [rd_set _ _ _ _ (by rw [h.len]; exact hA)]
  by_cases e : A = i
  · subst e; rw [if_pos rfl, h.bar A hA]; simp
  · rw [if_neg e, h.bar i hi]; simp [Ne.symm e]
theorem Bars.set4 (h : Bars K p3 p4 p5 p6 p7 l) (hA : A < K) : Bars K p3 (fun i => decide (i = A) || p4 i) p5 p6 p7 (l.set A ⟨(rd_T38 l (A : Int)).f0, (rd_T38 l (A : Int)).f1, (rd_T38 l (A : Int)).f2, (rd_T38 l (A : Int)).f3, true, (rd_T38 l (A : Int)).f5, (rd_T38 l (A : Int)).f6, (rd_T38 l (A : Int)).f7⟩) := by
  refine ⟨by rw [List.length_set]; exact h.len, fun i hi => ?_⟩
  rw [rd_set _ _ _ _ (by rw [h.len]; exact hA)]
  by_cases e : A = i
  · subst e; rw [if_pos rfl, h.bar A hA]; simp
  · rw [if_neg e, h.bar i hi]; simp [Ne.symm e]
theorem Bars.set5 (h : Bars K p3 p4 p5 p6 p7 l) (hA : A < K) : Bars K p3 p4 (fun i => decide (i = A) || p5 i) p6 p7 (l.set A ⟨(rd_T38 l (A : Int)).f0, (rd_T38 l (A : Int)).f1, (rd_T38 l (A : Int)).f2, (rd_T38 l (A : Int)).f3, (rd_T38 l (A : Int)).f4, true, (rd_T38 l (A : Int)).f6, (rd_T38 l (A : Int)).f7⟩) := by
  refine ⟨by rw [List.length_set]; exact h.len, fun i hi => ?_⟩
  rw [rd_set _ _ _ _ (by rw [h.len]; exact hA)]
  by_cases e : A = i
  · subst e; rw [if_pos rfl, h.bar A hA]; simp
  · rw [if_neg e, h.bar i hi]; simp [Ne.symm e]
theorem Bars.set6 (h : Bars K p3 p4 p5 p6 p7 l) (hA : A < K) : Bars K p3 p4 p5 (fun i => decide (i = A) || p6 i) p7 (l.set A ⟨(rd_T38 l (A : Int)).f0, (rd_T38 l (A : Int)).f1, (rd_T38 l (A : Int)).f2, (rd_T38 l (A : Int)).f3, (rd_T38 l (A : Int)).f4, (rd_T38 l (A : Int)).f5, true, (rd_T38 l (A : Int)).f7⟩) := by
  refine ⟨by rw [List.length_set]; exact h.len, fun i hi => ?_⟩
  rw [rd_set _ _ _ _ (by rw [h.len]; exact hA)]
  by_cases e : A = i
  · subst e; rw [if_pos rfl, h.bar A hA]; simp
  · rw [if_neg e, h.bar i hi]; simp [Ne.symm e]
end
theorem jumps_l0 {K J S F C : Nat} {g : Nat} (hJ : J < K) (hSF : S ≤ F) (hF : F < K) (hC : C < K) (hK : K ≤ 60) (hg : 1 ≤ g ∧ g ≤ 6)
    (hn : Ev (fun k => partitalaw10_TurnsJumps.l0 k true (K : Int) (J : Int) (S : Int) (F : Int) (C : Int) ((g + 1 : Nat) : Int)) true) :
    Ev (fun k => partitalaw10_TurnsJumps.l0 k true (K : Int) (J : Int) (S : Int) (F : Int) (C : Int) (g : Int)) true := by
  have hlen : ((List.replicate K z38).length : Int) = (K : Int) := by simp
  refine Ev.step (fun k => rfl) (Ev.yes (by omega) (Ev.bind (Ev.eq (many_f (by omega) (by omega))) ?_))
  simp only [Int.toNat_natCast, hlen]
  refine Ev.yes (by omega) (Ev.yes (by omega) (Ev.bind (Ev.now _) ?_))
  have b1 := (bars_many K).set7 hJ (g : Int)
  revert b1; generalize List.set _ J _ = y1; intro b1
  refine Ev.yes (by omega) (Ev.yes (by omega) (Ev.bind (Ev.now _) ?_))
  have b2 := b1.set3 (A := S) (by omega)
  revert b2; generalize List.set _ S _ = y2; intro b2
  refine Ev.yes (by omega) (Ev.yes (by omega) (Ev.bind (Ev.now _) ?_))
  have b3 := b2.set6 hF
  revert b3; generalize List.set _ F _ = y3; intro b3
  refine Ev.bind (Ev.now _) ?_
  have b4 := b3.set5 hF
  revert b4; generalize List.set _ F _ = y4; intro b4
  refine Ev.yes (by omega) (Ev.yes (by omega) (Ev.bind (Ev.now _) ?_))
  have b5 := b4.set4 hC
  revert b5; generalize List.set _ C _ = l; intro b5
  have hB : Jumps K J S F C g l := ⟨b5.len, fun i hi => by rw [b5.bar i hi]; simp⟩
  have hj := jumps_j1 hB hJ hSF hF hC hK hg hn
  by_cases h4 : (g : Int) ≥ 4
  · refine Ev.yes h4 ?_
    rw [show fromOf (g : Int) S = S by unfold fromOf; rw [if_pos h4]] at hj
    exact hj
  · refine Ev.no h4 ?_
    rw [show fromOf (g : Int) S = 0 by unfold fromOf; rw [if_neg h4]] at hj
    exact hj
theorem jumps_all {K J S F C : Nat} (hJ : J < K) (hSF : S ≤ F) (hF : F < K) (hC : C < K) (hK : K ≤ 60) : ∀ (d g : Nat), d + g = 7 → 1 ≤ g →
    Ev (fun k => partitalaw10_TurnsJumps.l0 k true (K : Int) (J : Int) (S : Int) (F : Int) (C : Int) (g : Int)) true
  | 0, g, h, hg => Ev.step (fun k => rfl) (Ev.no (by omega) (Ev.now _))
  | d + 1, g, h, hg => jumps_l0 hJ hSF hF hC hK ⟨hg, by omega⟩ (jumps_all hJ hSF hF hC hK d (g + 1) (by omega) (by omega))
theorem tm2 {a : Int} (h : 0 ≤ a) (h2 : a < 256) {n : Nat} (hn : 0 < n) : ∃ m : Nat, Int.tmod (wrap64 a) (n : Int) = (m : Int) ∧ m < n := by
  refine ⟨(a % (n : Int)).toNat, ?_⟩
  have h3 := Int.emod_nonneg a (b := (n : Int)) (by omega)
  have h4 := Int.emod_lt_of_pos a (b := (n : Int)) (by omega)
  rw [w64 (by omega) (by omega), Int.tmod_eq_emod_of_nonneg h]
  omega
theorem turnsJumps (a0 a1 a2 a3 a4 : Int) (h0 : 0 ≤ a0 ∧ a0 < 256) (h1 : 0 ≤ a1 ∧ a1 < 256) (h2 : 0 ≤ a2 ∧ a2 < 256) (h3 : 0 ≤ a3 ∧ a3 < 256) (h4 : 0 ≤ a4 ∧ a4 < 256) : Ev (fun k => partitalaw10_TurnsJumps.f k a0 a1 a2 a3 a4) true := by
  obtain ⟨A, hA, hA2⟩ := tm h0.1 h0.2 60 (by decide)
  simp only [Int.cast_ofNat_Int] at hA
  obtain ⟨K, hK⟩ : ∃ K, K = 1 + A := ⟨_, rfl⟩
  unfold partitalaw10_TurnsJumps.f
  refine Ev.bind examples_ev (Ev.yes rfl ?_)
  rw [hA, show wrap64 (1 + (A : Int)) = (K : Int) by rw [w64 (by omega) (by omega)]; omega]
  obtain ⟨J, hJ, hJ2⟩ := tm2 h1.1 h1.2 (n := K) (by omega)
  rw [hJ, show wrap64 ((J : Int) + 1) = ((J + 1 : Nat) : Int) by rw [w64 (by omega) (by omega)]; omega]
  obtain ⟨S, hS, hS2⟩ := tm2 h2.1 h2.2 (n := J + 1) (by omega)
  rw [hS, show wrap64 ((K : Int) - (S : Int)) = ((K - S : Nat) : Int) by rw [w64 (by omega) (by omega)]; omega]
  obtain ⟨D, hD, hD2⟩ := tm2 h3.1 h3.2 (n := K - S) (by omega)
  rw [hD, show wrap64 ((S : Int) + (D : Int)) = ((S + D : Nat) : Int) by rw [w64 (by omega) (by omega)]; omega]
  obtain ⟨C, hC, hC2⟩ := tm2 h4.1 h4.2 (n := K) (by omega)
  rw [hC]
  exact Ev.no (by omega) (Ev.no (by omega) (Ev.no (by omega) (jumps_all hJ2 (by omega) (by omega) hC2 (by omega) 6 1 rfl (by omega))))
end Go.Proofs.Ytendmmagjjhfnaa.Z
namespace Go.Proofs.Ytendmmagjjhfnaa.Pure
open Go.RowKit Go.Proofs.Ytendmmagjjhfnaa.M Go.Proofs.YtendmmagjjhfnaaW.PrintWords Go.Proofs.YtendmmagjjhfnaaW.PrintLast
theorem TurnsJumps : partitalaw10_TurnsJumps.Pure := by
  intro a0 a1 a2 a3 a4 h0 h1 h2 h3 h4
  exact Ev.rounds (Z.turnsJumps a0 a1 a2 a3 a4 (Z.u8_wf h0) (Z.u8_wf h1) (Z.u8_wf h2) (Z.u8_wf h3) (Z.u8_wf h4))
end Go.Proofs.Ytendmmagjjhfnaa.Pure
