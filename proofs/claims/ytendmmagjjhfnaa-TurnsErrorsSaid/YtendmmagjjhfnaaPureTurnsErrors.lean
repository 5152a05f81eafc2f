/- The pure part of the statement TurnsErrors: a turn that may not be is told, at the first one; so is a second Sign, Coda, or jump; and a jump without what it asks for. -/
import Derived.Test.YtendmmagjjhfnaaZ2
import Derived.Test.YtendmmagjjhfnaaM38
namespace Go.Proofs.Ytendmmagjjhfnaa.Z
open Go.RowKit Go.Proofs.YtendmmagjjhfnaaW.PrintWords Go.Proofs.YtendmmagjjhfnaaW.PrintLast Go.Proofs.Ytendmmagjjhfnaa.M
set_option linter.unusedVariables false
set_option linter.unusedSimpArgs false

theorem err_byte {a : Int} (h : (Lit.int .u8 a).wf = true) : 0 ≤ a ∧ a < 256 := by
  have e : IntKind.u8.min = 0 := rfl
  have e2 : IntKind.u8.max = 255 := rfl
  simp [Lit.wf] at h
  omega
theorem err_mod {a : Int} (h : 0 ≤ a ∧ a < 256) (n : Nat) (hn : 0 < n) : ∃ m : Nat, Int.tmod a n = (m : Int) ∧ m < n ∧ m < 256 := by
  refine ⟨(a % (n : Int)).toNat, ?_⟩
  have h3 := Int.emod_nonneg a (b := (n : Int)) (by omega)
  have h4 := Int.emod_lt_of_pos a (b := (n : Int)) (by omega)
  have h5 : a % (n : Int) ≤ a := by
    have := Int.emod_add_mul_ediv a (n : Int)
    have := Int.mul_nonneg (by omega : 0 ≤ (n : Int)) (Int.ediv_nonneg h.1 (by omega : 0 ≤ (n : Int)))
    omega
  rw [Int.tmod_eq_emod_of_nonneg h.1]
  omega
/-- Two bars say something, at most: the first one, and one behind it. -/
structure Two (l : List S38) (n b : Nat) (X Y : S38) : Prop where
  len : l.length = n
  pos : 1 ≤ b
  top : b < n
  at0 : rd_T38 l 0 = X
  atb : rd_T38 l (b : Int) = Y
  rest : ∀ i : Nat, i ≠ 0 → i ≠ b → rd_T38 l (i : Int) = z38
theorem two_rep {n b : Nat} (h1 : 1 ≤ b) (h2 : b < n) : Two (List.replicate n z38) n b z38 z38 := ⟨by simp, h1, h2, rd_replicate n 0, rd_replicate n b, fun i _ _ => rd_replicate n i⟩
theorem two_set0 {l : List S38} {n b : Nat} {X Y : S38} (h : Two l n b X Y) (v : S38) : Two (l.set (0 : Int).toNat v) n b v Y := by
  have hl := h.len; have hp := h.pos; have ht := h.top
  have key : ∀ j : Nat, rd_T38 (l.set (0 : Int).toNat v) (j : Int) = if 0 = j then v else rd_T38 l (j : Int) := fun j => rd_set l 0 v j (by omega)
  refine ⟨by simpa using hl, hp, ht, ?_, ?_, fun i h1 h2 => ?_⟩
  · exact key 0
  · rw [key b, if_neg (by omega)]; exact h.atb
  · rw [key i, if_neg (by omega)]; exact h.rest i h1 h2
theorem two_setb {l : List S38} {n b : Nat} {X Y : S38} (h : Two l n b X Y) (v : S38) : Two (l.set ((b : Nat) : Int).toNat v) n b X v := by
  have hl := h.len; have hp := h.pos; have ht := h.top
  have key : ∀ j : Nat, rd_T38 (l.set ((b : Nat) : Int).toNat v) (j : Int) = if b = j then v else rd_T38 l (j : Int) := fun j => by
    rw [Int.toNat_natCast]; exact rd_set l b v j (by omega)
  refine ⟨by simpa using hl, hp, ht, ?_, ?_, fun i h1 h2 => ?_⟩
  · have := key 0
    rw [if_neg (by omega)] at this
    exact this.trans h.at0
  · rw [key b, if_pos rfl]
  · rw [key i, if_neg (by omega)]; exact h.rest i h1 h2
theorem fi_two {l : List S38} {n b : Nat} {X Y : S38} (h : Two l n b X Y) (p : S38 → Bool) (hz : p z38 = false) : fi p 0 l = if p X = true then 0 else if p Y = true then (b : Int) else -1 := by
  have hl := h.len; have hp := h.pos; have ht := h.top
  have e0 : rd_T38 l ((0 : Nat) : Int) = X := h.at0
  rcases fi_spec p l with ⟨h1, h2⟩ | ⟨i, h1, h2, h3, h4⟩
  · have a0 := h2 0 (by omega)
    have ab := h2 b (by omega)
    rw [e0] at a0
    rw [h.atb] at ab
    rw [h1, a0, ab]; rfl
  · by_cases hi : i = 0
    · subst hi
      rw [e0] at h3
      rw [h2, if_pos h3]; rfl
    · have a0 := h4 0 (by omega)
      rw [e0] at a0
      by_cases hb : i = b
      · subst hb
        rw [h.atb] at h3
        rw [h2, a0, if_neg (by decide), if_pos h3]
      · rw [h.rest i hi hb, hz] at h3
        cases h3
theorem chkB_at {s c j : Int} (l : List S38) {b : Nat} (hb : b < l.length) (h : ∀ i : Nat, i < b → loneB (rd_T38 l (i : Int)) = true ∧ againB s c j i (rd_T38 l (i : Int)) = false)
    (bad : loneB (rd_T38 l (b : Int)) = false ∨ againB s c j b (rd_T38 l (b : Int)) = true) : ∀ (d k : Nat), d + k = b → chkB s c j k (l.drop k) = some (b : Int)
  | 0, k, hd => by
    have hk : k < l.length := by omega
    obtain rfl : k = b := by omega
    rw [List.drop_eq_getElem_cons hk, chkB, ← rd_T38_nat l k hk]
    by_cases h1 : loneB (rd_T38 l (k : Int)) = true
    · rw [if_pos h1]
      rcases bad with h2 | h2
      · rw [h1] at h2; cases h2
      · rw [if_pos h2]
    · rw [if_neg h1]
  | d + 1, k, hd => by
    have hk : k < l.length := by omega
    rw [List.drop_eq_getElem_cons hk, chkB, ← rd_T38_nat l k hk, if_pos (h k (by omega)).1, if_neg (by rw [(h k (by omega)).2]; decide)]
    exact chkB_at l hb h bad d (k + 1) (by omega)
theorem again_z (s c j i : Int) : againB s c j i z38 = false := rfl
section
variable {l : List S38} {n b : Nat} {X Y : S38}
theorem again_0 (h : Two l n b X Y) : againB (fi (fun x => x.f3) 0 l) (fi (fun x => x.f4) 0 l) (fi isJump 0 l) 0 X = false := by
  rw [fi_two h _ rfl, fi_two h _ rfl, fi_two h isJump rfl]
  unfold againB
  have e : decide (X.f7 ≠ 0) = isJump X := rfl
  rw [e]
  cases X.f3 <;> cases X.f4 <;> cases isJump X <;> simp
theorem two_ahead (h : Two l n b X Y) (hX : loneB X = true) : ∀ i : Nat, i < b → loneB (rd_T38 l (i : Int)) = true ∧ againB (fi (fun x => x.f3) 0 l) (fi (fun x => x.f4) 0 l) (fi isJump 0 l) i (rd_T38 l (i : Int)) = false := by
  intro i hi
  by_cases h0 : i = 0
  · subst h0
    have e0 : rd_T38 l ((0 : Nat) : Int) = X := h.at0
    rw [e0]
    exact ⟨hX, again_0 h⟩
  · rw [h.rest i h0 (by omega)]
    exact ⟨rfl, again_z _ _ _ _⟩
/-- What may not be is told, at the second bar. -/
theorem err_at (h : Two l n b X Y) (hX : loneB X = true) (bad : loneB Y = false ∨ (X.f3 && Y.f3) = true ∨ (X.f4 && Y.f4) = true ∨ (isJump X && isJump Y) = true) : chkR l = ((b : Int), 100) := by
  have hl := h.len; have hp := h.pos; have ht := h.top
  have key := chkB_at (s := fi (fun x => x.f3) 0 l) (c := fi (fun x => x.f4) 0 l) (j := fi isJump 0 l) l (b := b) (by omega) (two_ahead h hX) (by
    rw [h.atb]
    rcases bad with h1 | h1
    · exact .inl h1
    · right
      rw [fi_two h _ rfl, fi_two h _ rfl, fi_two h isJump rfl]
      unfold againB
      have e : decide (Y.f7 ≠ 0) = isJump Y := rfl
      rw [e]
      have hb : decide ((b : Int) > 0) = true := decide_eq_true (by omega)
      simp only [Bool.and_eq_true] at h1
      rcases h1 with ⟨x1, x2⟩ | ⟨x1, x2⟩ | ⟨x1, x2⟩
      · rw [if_pos x1, hb, x2]; rfl
      · rw [if_pos x1, x2, hb]; simp
      · rw [if_pos x1, x2, hb]; simp) b 0 (by omega)
  unfold chkR
  rw [List.drop_zero] at key
  rw [show ((0 : Nat) : Int) = 0 from rfl] at key
  rw [key]
/-- A jump without what it asks for is told. -/
theorem err_jump (h : Two l n b X Y) (hX : loneB X = true) (hY : loneB Y = true) (h3 : (X.f3 && Y.f3) = false) (h4 : (X.f4 && Y.f4) = false) (hj : isJump X = false) (hj2 : isJump Y = true)
    (lacks : lacksB l (fi (fun x => x.f3) 0 l) (fi (fun x => x.f4) 0 l) Y.f7 = true) : chkR l = ((b : Int), 100) := by
  have hl := h.len; have hp := h.pos; have ht := h.top
  have key := chkB_none (s := fi (fun x => x.f3) 0 l) (c := fi (fun x => x.f4) 0 l) (j := fi isJump 0 l) l (fun i hi => by
    by_cases hib : i < b
    · exact two_ahead h hX i hib
    · by_cases hb : i = b
      · subst hb
        rw [h.atb]
        refine ⟨hY, ?_⟩
        rw [fi_two h _ rfl, fi_two h _ rfl, fi_two h isJump rfl]
        unfold againB
        have e : decide (Y.f7 ≠ 0) = isJump Y := rfl
        rw [e, hj, hj2]
        have hb : decide ((i : Int) > i) = false := decide_eq_false (by omega)
        simp only [Bool.false_eq_true, if_false, if_true, hb, Bool.and_false, Bool.or_false]
        cases hy3 : Y.f3 with
        | false =>
          cases hy4 : Y.f4 with
          | false => rfl
          | true =>
            rw [hy4, Bool.and_true] at h4
            simp [h4]
        | true =>
          rw [hy3, Bool.and_true] at h3
          cases hy4 : Y.f4 with
          | false => simp [h3]
          | true =>
            rw [hy4, Bool.and_true] at h4
            simp [h3, h4]
      · rw [h.rest i (by omega) hb]
        exact ⟨rfl, again_z _ _ _ _⟩) l.length 0 (by omega)
  rw [List.drop_zero, show ((0 : Nat) : Int) = 0 from rfl] at key
  unfold chkR
  rw [key]
  dsimp only
  have ej : fi isJump 0 l = (b : Int) := by rw [fi_two h isJump rfl, hj, hj2]; rfl
  rw [ej, if_neg (by omega), h.atb, if_pos lacks]
theorem two_short (h : Two l n b X Y) (hX : X.f2.length ≤ 2) (hY : Y.f2.length ≤ 2) : Short l := short_of fun i hi => by
  by_cases h0 : i = 0
  · subst h0
    have e0 : rd_T38 l ((0 : Nat) : Int) = X := h.at0
    rw [e0]; omega
  · by_cases hb : i = b
    · subst hb; rw [h.atb]; omega
    · rw [h.rest i h0 hb]; simp [z38]
theorem err_told (h : Two l n b X Y) (hn : n ≤ 100) (hX : X.f2.length ≤ 2) (hY : Y.f2.length ≤ 2) (hc : chkR l = ((b : Int), 100)) : Ev (fun k => partitalaw10_TurnsErrors.j0 k true l (b : Int)) true := by
  have hl := h.len
  have hs := two_short h hX hY
  refine Ev.step (fun k => rfl) ?_
  simp only [partitalaw10_TurnsErrors.j0]
  refine Ev.bind (Ev.ok (check_ev l (by omega) hs) hc) ?_
  have hw := walk_err (by omega) hs hc (by decide)
  refine Ev.bind (unfold_ev hw) (Ev.bind (passes_ev hw) ?_)
  exact Ev.yes trivial (Ev.yes rfl (Ev.yes rfl (Ev.yes rfl (Ev.yes rfl (Ev.eq (by dsimp only [List.length_nil]; rw [w64 (by decide) (by decide)]; rfl))))))
end
theorem turnsErrors (a0 a1 a2 : Int) (h0 : 0 ≤ a0 ∧ a0 < 256) (h1 : 0 ≤ a1 ∧ a1 < 256) (h2 : 0 ≤ a2 ∧ a2 < 256) : Ev (fun k => partitalaw10_TurnsErrors.f k a0 a1 a2) true := by
  obtain ⟨A, hA, hA2, _⟩ := err_mod h0 40 (by decide)
  obtain ⟨J, hJ, hJ2, hJ3⟩ := err_mod h1 (1 + A) (by omega)
  obtain ⟨H, hH, hH2, _⟩ := err_mod h2 14 (by decide)
  obtain ⟨R, hR, hR2, _⟩ := err_mod h1 3 (by decide)
  obtain ⟨T, hT, hT2, _⟩ := err_mod h1 2 (by decide)
  simp only [Int.cast_ofNat_Int] at hA hH hR hT
  obtain ⟨b, hb⟩ : ∃ b : Nat, b = 1 + J := ⟨_, rfl⟩
  obtain ⟨n, hn⟩ : ∃ n : Nat, n = 2 + A := ⟨_, rfl⟩
  have en : wrap64 (2 + wrap64 (Int.tmod a0 40)) = (n : Int) := by
    rw [hA, show wrap64 (A : Int) = (A : Int) from w64 (by omega) (by omega), w64 (by omega) (by omega)]; omega
  have en1 : wrap64 ((n : Int) - 1) = ((1 + A : Nat) : Int) := by rw [w64 (by omega) (by omega)]; omega
  have eb : wrap64 (1 + Int.tmod (wrap64 a1) ((1 + A : Nat) : Int)) = (b : Int) := by
    rw [show wrap64 a1 = a1 from w64 (by omega) (by omega), hJ, w64 (by omega) (by omega)]; omega
  unfold partitalaw10_TurnsErrors.f
  refine Ev.bind examples_ev (Ev.yes rfl ?_)
  rw [en]
  refine Ev.bind (Ev.eq (many_f (by omega) (by omega))) ?_
  rw [en1, eb, Int.toNat_natCast]
  refine Ev.no (by omega) ?_
  have hb1 : 1 ≤ b := by omega
  have hbn : b < n := by omega
  have hn100 : n ≤ 100 := by omega
  clear hA hJ en en1 eb hb hn hA2 hJ2 hJ3
  have W := two_rep hb1 hbn
  have hlen : ((List.replicate n z38).length : Int) = (n : Int) := by simp
  have eb0 : rd_T38 (List.replicate n z38) (b : Int) = z38 := W.atb
  have e00 : rd_T38 (List.replicate n z38) 0 = z38 := W.at0
  generalize hL : List.replicate n z38 = L at W hlen eb0 e00
  unfold partitalaw10_TurnsErrors.g
  rw [hH, hlen, eb0, e00]
  have g0 : (0 : Int) ≤ (b : Int) := by omega
  have g1 : (b : Int) < (n : Int) := by omega
  have g2 : (0 : Int) < (n : Int) := by omega
  by_cases c0 : (H : Int) = 0
  · exact Ev.yes c0 (Ev.yes g0 (Ev.yes g1 (err_told (two_setb W _) hn100 (by decide) (by decide) (err_at (two_setb W _) rfl (.inl (by decide))))))
  refine Ev.no c0 ?_
  by_cases c1 : (H : Int) = 1
  · exact Ev.yes c1 (Ev.yes g0 (Ev.yes g1 (err_told (two_setb W _) hn100 (by decide) (by decide) (err_at (two_setb W _) rfl (.inl (by decide))))))
  refine Ev.no c1 ?_
  by_cases c2 : (H : Int) = 2
  · exact Ev.yes c2 (Ev.yes g0 (Ev.yes g1 (err_told (two_setb W _) hn100 (by decide) (by decide) (err_at (two_setb W _) rfl (.inl (by decide))))))
  refine Ev.no c2 ?_
  by_cases c3 : (H : Int) = 3
  · exact Ev.yes c3 (Ev.yes g0 (Ev.yes g1 (err_told (two_setb W _) hn100 (by decide) (by decide) (err_at (two_setb W _) rfl (.inl (by decide))))))
  refine Ev.no c3 ?_
  by_cases c4 : (H : Int) = 4
  · exact Ev.yes c4 (Ev.yes g0 (Ev.yes g1 (err_told (two_setb W _) hn100 (by decide) (by decide) (err_at (two_setb W _) rfl (.inl (by decide))))))
  refine Ev.no c4 ?_
  by_cases c5 : (H : Int) = 5
  · exact Ev.yes c5 (Ev.yes g0 (Ev.yes g1 (err_told (two_setb W _) hn100 (by decide) (by decide) (err_at (two_setb W _) rfl (.inl (by decide))))))
  refine Ev.no c5 ?_
  by_cases c6 : (H : Int) = 6
  · exact Ev.yes c6 (Ev.yes g0 (Ev.yes g1 (err_told (two_setb W _) hn100 (by decide) (by decide) (err_at (two_setb W _) rfl (.inl (by decide))))))
  refine Ev.no c6 ?_
  by_cases c7 : (H : Int) = 7
  · exact Ev.yes c7 (Ev.yes g0 (Ev.yes g1 (err_told (two_setb W _) hn100 (by decide) (by decide) (err_at (two_setb W _) rfl (.inl (by decide))))))
  refine Ev.no c7 ?_
  by_cases c8 : (H : Int) = 8
  · refine Ev.yes c8 (Ev.yes g2 (Ev.bind (Ev.now _) (Ev.yes g0 (Ev.yes g1 ?_))))
    have W1 := two_set0 W (⟨z38.f0, z38.f1, z38.f2, true, z38.f4, z38.f5, z38.f6, z38.f7⟩ : S38)
    rw [W1.atb]
    exact err_told (two_setb W1 _) hn100 (by decide) (by decide) (err_at (two_setb W1 _) rfl (.inr (.inl rfl)))
  refine Ev.no c8 ?_
  by_cases c9 : (H : Int) = 9
  · refine Ev.yes c9 (Ev.yes g2 (Ev.bind (Ev.now _) (Ev.yes g0 (Ev.yes g1 ?_))))
    have W1 := two_set0 W (⟨z38.f0, z38.f1, z38.f2, z38.f3, true, z38.f5, z38.f6, z38.f7⟩ : S38)
    rw [W1.atb]
    exact err_told (two_setb W1 _) hn100 (by decide) (by decide) (err_at (two_setb W1 _) rfl (.inr (.inr (.inl rfl))))
  refine Ev.no c9 ?_
  by_cases c10 : (H : Int) = 10
  · refine Ev.yes c10 (Ev.yes g2 (Ev.bind (Ev.now _) (Ev.yes g0 (Ev.yes g1 ?_))))
    have W1 := two_set0 W (⟨z38.f0, z38.f1, z38.f2, z38.f3, z38.f4, z38.f5, z38.f6, 1⟩ : S38)
    rw [W1.atb]
    exact err_told (two_setb W1 _) hn100 (by decide) (by decide) (err_at (two_setb W1 _) (by decide) (.inr (.inr (.inr (by decide)))))
  refine Ev.no c10 ?_
  by_cases c11 : (H : Int) = 11
  · refine Ev.yes c11 (Ev.yes g0 (Ev.yes g1 (Ev.bind (Ev.now _) (Ev.yes g2 (Ev.bind (Ev.now _) (Ev.bind (Ev.now _) ?_))))))
    rw [hR, show wrap64 (R : Int) = (R : Int) from w64 (by omega) (by omega), show wrap64 (4 + (R : Int)) = 4 + (R : Int) from w64 (by omega) (by omega)]
    have W1 := two_setb W (⟨z38.f0, z38.f1, z38.f2, z38.f3, z38.f4, z38.f5, z38.f6, 4 + (R : Int)⟩ : S38)
    rw [W1.at0]
    have W2 := two_set0 W1 (⟨z38.f0, z38.f1, z38.f2, z38.f3, z38.f4, z38.f5, true, z38.f7⟩ : S38)
    rw [W2.at0]
    have W3 := two_set0 W2 (⟨z38.f0, z38.f1, z38.f2, z38.f3, z38.f4, true, true, z38.f7⟩ : S38)
    rw [W3.at0]
    have W4 := two_set0 W3 (⟨z38.f0, z38.f1, z38.f2, z38.f3, true, true, true, z38.f7⟩ : S38)
    have hj2 : isJump (⟨z38.f0, z38.f1, z38.f2, z38.f3, z38.f4, z38.f5, z38.f6, 4 + (R : Int)⟩ : S38) = true := decide_eq_true (by simp only; omega)
    have hY : loneB (⟨z38.f0, z38.f1, z38.f2, z38.f3, z38.f4, z38.f5, z38.f6, 4 + (R : Int)⟩ : S38) = true := by
      unfold loneB
      simp only
      rw [decide_eq_true (show (0 : Int) ≤ 4 + R ∧ 4 + (R : Int) ≤ 6 by omega)]; rfl
    refine err_told W4 hn100 (Nat.zero_le 2) (Nat.zero_le 2) (err_jump W4 rfl hY rfl rfl rfl hj2 ?_)
    unfold lacksB
    rw [fi_two W4 _ rfl, decide_eq_true (show 4 + (R : Int) ≥ 4 by omega)]
    rfl
  refine Ev.no c11 ?_
  by_cases c12 : (H : Int) = 12
  · refine Ev.yes c12 (Ev.yes g0 (Ev.yes g1 (Ev.bind (Ev.now _) (Ev.yes g2 ?_))))
    have W1 := two_setb W (⟨z38.f0, z38.f1, z38.f2, z38.f3, z38.f4, z38.f5, z38.f6, 2⟩ : S38)
    rw [W1.at0]
    have W2 := two_set0 W1 (⟨z38.f0, z38.f1, z38.f2, true, z38.f4, z38.f5, z38.f6, z38.f7⟩ : S38)
    refine err_told W2 hn100 (by decide) (by decide) (err_jump W2 rfl (by decide) rfl rfl rfl (by decide) ?_)
    unfold lacksB
    rw [fi_two W2 (fun x => x.f6) rfl]
    simp [z38]
  refine Ev.no c12 ?_
  have c13 : (H : Int) = 13 := by omega
  refine Ev.yes c13 (Ev.yes g0 (Ev.yes g1 (Ev.bind (Ev.now _) (Ev.yes g2 (Ev.bind (Ev.now _) ?_)))))
  rw [hT]
  have W1 := two_setb W (⟨z38.f0, z38.f1, z38.f2, z38.f3, z38.f4, z38.f5, z38.f6, 3⟩ : S38)
  rw [W1.at0]
  have W2 := two_set0 W1 (⟨z38.f0, z38.f1, z38.f2, z38.f3, ((T : Int) == 0), z38.f5, z38.f6, z38.f7⟩ : S38)
  rw [W2.at0]
  have W3 := two_set0 W2 (⟨z38.f0, z38.f1, z38.f2, z38.f3, ((T : Int) == 0), ((T : Int) == 1), z38.f6, z38.f7⟩ : S38)
  refine err_told W3 hn100 (Nat.zero_le 2) (Nat.zero_le 2) (err_jump W3 rfl (by decide) rfl (by simp [z38]) rfl (by decide) ?_)
  unfold lacksB
  rw [fi_two W3 (fun x => x.f5) rfl, fi_two W3 (fun x => x.f4) rfl]
  rcases (show T = 0 ∨ T = 1 by omega) with rfl | rfl
  · simp [z38]
  · simp [z38]
end Go.Proofs.Ytendmmagjjhfnaa.Z
namespace Go.Proofs.Ytendmmagjjhfnaa.Pure
open Go.RowKit Go.Proofs.Ytendmmagjjhfnaa.M Go.Proofs.YtendmmagjjhfnaaW.PrintWords Go.Proofs.YtendmmagjjhfnaaW.PrintLast
theorem TurnsErrors : partitalaw10_TurnsErrors.Pure := by
  intro a0 a1 a2 h0 h1 h2
  exact Ev.rounds (Z.turnsErrors a0 a1 a2 (Z.err_byte h0) (Z.err_byte h1) (Z.err_byte h2))
end Go.Proofs.Ytendmmagjjhfnaa.Pure
