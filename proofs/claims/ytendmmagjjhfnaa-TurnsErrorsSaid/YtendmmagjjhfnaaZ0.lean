/- The plain model of the bars as they are played, and that the program's functions answer as it does. -/
import Derived.Test.YtendmmagjjhfnaaM18
import Derived.Test.YtendmmagjjhfnaaM19
import Derived.Test.YtendmmagjjhfnaaM20
import Derived.Test.YtendmmagjjhfnaaM21
import Derived.Test.YtendmmagjjhfnaaM30
import Derived.Test.YtendmmagjjhfnaaM31
import Derived.KernelRfl
namespace Go.Proofs.Ytendmmagjjhfnaa.Z
open Go.RowKit Go.Proofs.YtendmmagjjhfnaaW.PrintWords Go.Proofs.YtendmmagjjhfnaaW.PrintLast Go.Proofs.Ytendmmagjjhfnaa.M
set_option linter.unusedVariables false
set_option linter.unusedSimpArgs false

theorem Ev.yes {α : Type} {c : Prop} [Decidable c] {a b : Nat → Option α} {r : α} (h : c) (k : Ev a r) : Ev (fun n => if c then a n else b n) r := by
  refine k.congr fun n => ?_
  rw [if_pos h]
theorem Ev.no {α : Type} {c : Prop} [Decidable c] {a b : Nat → Option α} {r : α} (h : ¬ c) (k : Ev b r) : Ev (fun n => if c then a n else b n) r := by
  refine k.congr fun n => ?_
  rw [if_neg h]
theorem Ev.eq {α : Type} {x : Option α} {r : α} (h : x = some r) : Ev (fun _ => x) r := ⟨0, fun _ _ => h⟩
theorem Ev.ok {α : Type} {g : Nat → Option α} {r r' : α} (h : Ev g r) (e : r = r') : Ev g r' := e ▸ h
theorem w64 {x : Int} (h0 : -9223372036854775808 ≤ x) (h1 : x ≤ 9223372036854775807) : wrap64 x = x := by unfold wrap64; omega
theorem rd_nat (l : List Int) (i : Nat) (h : i < l.length) : rd l (i : Int) = l[i] := by
  unfold rd
  simp [h]

/-! ### a turn alone -/
def endsB (last : Int) : List Int → Bool
  | [] => true
  | n :: r => if n ≤ last then false else if n > 9 then false else endsB n r
def loneB (x : S38) : Bool := decide (x.f1 = 0 ∨ 2 ≤ x.f1 ∧ x.f1 ≤ 9) && decide (0 ≤ x.f7 ∧ x.f7 ≤ 6) && endsB 0 x.f2
theorem lone_l0 (l : List Int) (hl : l.length ≤ 140737488351232) (b c : Bool) : ∀ (d i : Nat) (last : Int), d + i = l.length → Ev (fun k => turns_lone.l0 k b c last l (l.length : Int) (i : Int)) (b && c && endsB last (l.drop i))
  | 0, i, last, h => by
    rw [List.drop_of_length_le (by omega)]
    refine Ev.step (fun k => rfl) (Ev.no (by omega) ?_)
    cases b <;> cases c <;> exact Ev.now _
  | d + 1, i, last, h => by
    have hi : i < l.length := by omega
    rw [List.drop_eq_getElem_cons hi, endsB]
    refine Ev.step (fun k => rfl) (Ev.yes (by omega) (Ev.yes (by omega) (Ev.yes (by omega) ?_)))
    rw [rd_nat l i hi]
    by_cases h1 : l[i] ≤ last
    · rw [if_pos h1, Bool.and_false]
      exact Ev.yes h1 (Ev.now _)
    · rw [if_neg h1]
      refine Ev.no h1 ?_
      by_cases h2 : l[i] > 9
      · rw [if_pos h2, Bool.and_false]
        exact Ev.yes h2 (Ev.now _)
      · rw [if_neg h2]
        refine Ev.no h2 ?_
        have e : wrap64 ((i : Int) + 1) = ((i + 1 : Nat) : Int) := by rw [w64 (by omega) (by omega)]; omega
        rw [e]
        exact lone_l0 l hl b c d (i + 1) l[i] (by omega)
theorem lone_ev (x : S38) (h : x.f2.length ≤ 140737488351232) : Ev (fun k => loneO k x) (loneB x) := by
  have key : ∀ (b : Bool), Ev (fun k => turns_lone.j0 k b x.f0 x.f1 x.f2 x.f3 x.f4 x.f5 x.f6 x.f7) (b && decide (0 ≤ x.f7 ∧ x.f7 ≤ 6) && endsB 0 x.f2) := by
    intro b
    refine Ev.step (fun k => rfl) ?_
    by_cases h0 : x.f7 ≥ 0
    · refine Ev.yes h0 (Ev.step (fun k => rfl) ?_)
      refine Ev.ok (lone_l0 x.f2 h b (decide (x.f7 ≤ 6)) x.f2.length 0 0 (by omega)) ?_
      have : decide (x.f7 ≤ 6) = decide (0 ≤ x.f7 ∧ x.f7 ≤ 6) := by
        rw [Bool.eq_iff_iff, decide_eq_true_eq, decide_eq_true_eq]; omega
      rw [this]; rfl
    · refine Ev.no h0 (Ev.step (fun k => rfl) ?_)
      refine Ev.ok (lone_l0 x.f2 h b false x.f2.length 0 0 (by omega)) ?_
      have : decide (0 ≤ x.f7 ∧ x.f7 ≤ 6) = false := decide_eq_false (by omega)
      rw [this]; simp
  unfold loneO turns_lone.f loneB
  by_cases h1 : x.f1 = 0
  · refine Ev.yes h1 (Ev.ok (key true) ?_)
    rw [decide_eq_true (show x.f1 = 0 ∨ 2 ≤ x.f1 ∧ x.f1 ≤ 9 from .inl h1)]
  · refine Ev.no h1 ?_
    by_cases h2 : x.f1 ≥ 2
    · refine Ev.yes h2 (Ev.ok (key _) ?_)
      have : decide (x.f1 ≤ 9) = decide (x.f1 = 0 ∨ 2 ≤ x.f1 ∧ x.f1 ≤ 9) := by
        rw [Bool.eq_iff_iff, decide_eq_true_eq, decide_eq_true_eq]; omega
      rw [this]
    · refine Ev.no h2 (Ev.ok (key false) ?_)
      rw [decide_eq_false (show ¬ (x.f1 = 0 ∨ 2 ≤ x.f1 ∧ x.f1 ≤ 9) by omega)]

/-! ### Check -/
def chkB (s c j : Int) : Int → List S38 → Option Int
  | _, [] => none
  | i, x :: xs => if loneB x = true then (if againB s c j i x = true then some i else chkB s c j (i + 1) xs) else some i
/-- No list of endings is longer than what memory holds. -/
def Short (l : List S38) : Prop := ∀ x ∈ l, x.f2.length ≤ 140737488351232
theorem chkGo_ev (s c j : Int) : ∀ (l : List S38) (i : Int), Short l → Ev (fun k => chkGo k s c j i l) (chkB s c j i l)
  | [], i, _ => Ev.now _
  | x :: xs, i, h => by
    show Ev (fun k => (loneO k x).bind fun b => if b = true then (if againB s c j i x = true then some (some i) else chkGo k s c j (i + 1) xs) else some (some i)) _
    refine Ev.bind (lone_ev x (h x (by simp))) ?_
    rw [chkB]
    by_cases h1 : loneB x = true
    · rw [if_pos h1]
      refine Ev.yes h1 ?_
      by_cases h2 : againB s c j i x = true
      · rw [if_pos h2]
        exact Ev.yes h2 (Ev.now _)
      · rw [if_neg h2]
        exact Ev.no h2 (chkGo_ev s c j xs (i + 1) (fun y hy => h y (by simp [hy])))
    · rw [if_neg h1]
      exact Ev.no h1 (Ev.now _)
def chkR (l : List S38) : Int × Int := match chkB (fi (fun x => x.f3) 0 l) (fi (fun x => x.f4) 0 l) (fi isJump 0 l) 0 l with
  | some i => (i, 100)
  | none => if fi isJump 0 l < 0 then (0, 0) else if lacksB l (fi (fun x => x.f3) 0 l) (fi (fun x => x.f4) 0 l) (rd_T38 l (fi isJump 0 l)).f7 = true then (fi isJump 0 l, 100) else (0, 0)
theorem check_ev (l : List S38) (hl : l.length ≤ 140737488351232) (h : Short l) : Ev (fun k => turns_Check.f k l) (chkR l) := by
  unfold turns_Check.f
  refine Ev.yes hl ?_
  refine Ev.bind (chkGo_ev _ _ _ l 0 h) ?_
  refine Ev.eq ?_
  unfold chkEnd chkR
  cases chkB (fi (fun x => x.f3) 0 l) (fi (fun x => x.f4) 0 l) (fi isJump 0 l) 0 l with
  | some i => rfl
  | none =>
    dsimp only
    split
    · rfl
    · split <;> rfl

/-! ### the first bar of which something is so -/
theorem fi_drop (p : S38 → Bool) (l : List S38) : ∀ (d k : Nat), d + k = l.length → (fi p k (l.drop k) = -1 ∧ (∀ i, k ≤ i → i < l.length → p (rd_T38 l (i : Int)) = false)) ∨
    (∃ i, k ≤ i ∧ i < l.length ∧ fi p k (l.drop k) = i ∧ p (rd_T38 l (i : Int)) = true ∧ ∀ i', k ≤ i' → i' < i → p (rd_T38 l (i' : Int)) = false)
  | 0, k, h => .inl ⟨by rw [List.drop_of_length_le (by omega)]; rfl, fun i h1 h2 => by omega⟩
  | d + 1, k, h => by
    have hk : k < l.length := by omega
    cases hp : p (rd_T38 l (k : Int)) with
    | true => exact .inr ⟨k, Nat.le_refl _, hk, fi_yes p l k hk hp, hp, fun i' h1 h2 => by omega⟩
    | false =>
      rw [fi_no p l k hk hp]
      rcases fi_drop p l d (k + 1) (by omega) with ⟨h1, h2⟩ | ⟨i, h1, h2, h3, h4, h5⟩
      · refine .inl ⟨h1, fun i hi hi2 => ?_⟩
        rcases Nat.eq_or_lt_of_le hi with rfl | hlt
        · exact hp
        · exact h2 i hlt hi2
      · refine .inr ⟨i, by omega, h2, h3, h4, fun i' hi hi2 => ?_⟩
        rcases Nat.eq_or_lt_of_le hi with rfl | hlt
        · exact hp
        · exact h5 i' hlt hi2
theorem fi_spec (p : S38 → Bool) (l : List S38) : (fi p 0 l = -1 ∧ (∀ i, i < l.length → p (rd_T38 l (i : Int)) = false)) ∨
    (∃ i, i < l.length ∧ fi p 0 l = (i : Nat) ∧ p (rd_T38 l (i : Int)) = true ∧ ∀ i', i' < i → p (rd_T38 l (i' : Int)) = false) := by
  rcases fi_drop p l l.length 0 (by omega) with ⟨h1, h2⟩ | ⟨i, h1, h2, h3, h4, h5⟩
  · exact .inl ⟨h1, fun i hi => h2 i (by omega) hi⟩
  · exact .inr ⟨i, h2, h3, h4, fun i' hi => h5 i' (by omega) hi⟩
/-- What may be but once is but once. -/
def Once (p : S38 → Bool) (l : List S38) : Prop := ∀ i i' : Nat, i < l.length → i' < l.length → p (rd_T38 l (i : Int)) = true → p (rd_T38 l (i' : Int)) = true → i = i'
theorem once_fi {p : S38 → Bool} {l : List S38} (h : Once p l) {i : Nat} (hi : i < l.length) (hp : p (rd_T38 l (i : Int)) = true) : fi p 0 l = i := by
  rcases fi_spec p l with ⟨_, h2⟩ | ⟨i', h1, h2, h3, _⟩
  · rw [h2 i hi] at hp; cases hp
  · rw [h2, h i i' hi h1 hp h3]
theorem chkB_none {s c j : Int} (l : List S38) (h : ∀ i : Nat, i < l.length → loneB (rd_T38 l (i : Int)) = true ∧ againB s c j i (rd_T38 l (i : Int)) = false) : ∀ (d k : Nat), d + k = l.length → chkB s c j k (l.drop k) = none
  | 0, k, hd => by rw [List.drop_of_length_le (by omega)]; rfl
  | d + 1, k, hd => by
    have hk : k < l.length := by omega
    rw [List.drop_eq_getElem_cons hk, chkB, ← rd_T38_nat l k hk, if_pos (h k hk).1, if_neg (by rw [(h k hk).2]; decide)]
    exact chkB_none l h d (k + 1) (by omega)
/-- Turns that may be. -/
structure Okay (l : List S38) : Prop where
  lone : ∀ i : Nat, i < l.length → loneB (rd_T38 l (i : Int)) = true
  sign : Once (fun x => x.f3) l
  coda : Once (fun x => x.f4) l
  jump : Once isJump l
theorem okay_none {l : List S38} (h : Okay l) : chkB (fi (fun x => x.f3) 0 l) (fi (fun x => x.f4) 0 l) (fi isJump 0 l) 0 l = none := by
  refine chkB_none l (fun i hi => ⟨h.lone i hi, ?_⟩) l.length 0 (by omega)
  unfold againB
  have a1 : ((rd_T38 l (i : Int)).f3 && decide ((i : Int) > fi (fun x => x.f3) 0 l)) = false := by
    cases hx : (rd_T38 l (i : Int)).f3 with
    | false => rfl
    | true => rw [once_fi h.sign hi hx, decide_eq_false (by omega)]; rfl
  have a2 : ((rd_T38 l (i : Int)).f4 && decide ((i : Int) > fi (fun x => x.f4) 0 l)) = false := by
    cases hx : (rd_T38 l (i : Int)).f4 with
    | false => rfl
    | true => rw [once_fi h.coda hi hx, decide_eq_false (by omega)]; rfl
  have a3 : (decide ((rd_T38 l (i : Int)).f7 ≠ 0) && decide ((i : Int) > fi isJump 0 l)) = false := by
    cases hx : decide ((rd_T38 l (i : Int)).f7 ≠ 0) with
    | false => rfl
    | true => rw [once_fi h.jump hi hx, decide_eq_false (by omega)]; rfl
  rw [a1, a2, a3]; rfl
theorem okay_chk {l : List S38} (h : Okay l) (hj : ∀ i : Nat, i < l.length → isJump (rd_T38 l (i : Int)) = true → lacksB l (fi (fun x => x.f3) 0 l) (fi (fun x => x.f4) 0 l) (rd_T38 l (i : Int)).f7 = false) : chkR l = (0, 0) := by
  unfold chkR
  rw [okay_none h]
  dsimp only
  rcases fi_spec isJump l with ⟨h1, _⟩ | ⟨i, h1, h2, h3, _⟩
  · rw [h1, if_pos (by decide)]
  · rw [h2, if_neg (by omega), if_neg (by rw [hj i h1 h3]; decide)]
end Go.Proofs.Ytendmmagjjhfnaa.Z
