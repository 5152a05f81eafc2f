/- The bars as they are played, as a run from bar to bar; the program's walk tells a run. -/
import Derived.Test.YtendmmagjjhfnaaZ0
namespace Go.Proofs.Ytendmmagjjhfnaa.Z
open Go.RowKit Go.Proofs.YtendmmagjjhfnaaW.PrintWords Go.Proofs.YtendmmagjjhfnaaW.PrintLast Go.Proofs.Ytendmmagjjhfnaa.M
set_option linter.unusedVariables false
set_option linter.unusedSimpArgs false

theorem index_l0 (l : List Int) (hl : l.length ≤ 140737488351232) (a : Int) : ∀ (d i : Nat), d + i = l.length → ∃ r : Int, Ev (fun k => slices_Index_int_int.l0 k l a (l.length : Int) (i : Int)) r ∧ (0 ≤ r ↔ a ∈ l.drop i)
  | 0, i, h => ⟨-1, Ev.step (fun k => rfl) (Ev.no (by omega) (Ev.now _)), by rw [List.drop_of_length_le (by omega)]; simp⟩
  | d + 1, i, h => by
    have hi : i < l.length := by omega
    by_cases ha : a = l[i]
    · refine ⟨(i : Int), Ev.step (fun k => rfl) (Ev.yes (by omega) (Ev.yes (by omega) (Ev.yes (by omega) (Ev.yes (by rw [rd_nat l i hi]; exact ha) (Ev.now _))))), ?_⟩
      rw [List.drop_eq_getElem_cons hi, ha]
      exact ⟨fun _ => List.mem_cons_self, fun _ => by omega⟩
    · obtain ⟨r, h1, h2⟩ := index_l0 l hl a d (i + 1) (by omega)
      refine ⟨r, Ev.step (fun k => rfl) (Ev.yes (by omega) (Ev.yes (by omega) (Ev.yes (by omega) (Ev.no (by rw [rd_nat l i hi]; exact ha) ?_)))), ?_⟩
      · have e : wrap64 ((i : Int) + 1) = ((i + 1 : Nat) : Int) := by rw [w64 (by omega) (by omega)]; omega
        rw [e]; exact h1
      · rw [h2, List.drop_eq_getElem_cons hi, List.mem_cons]
        exact ⟨fun h => .inr h, fun h => h.resolve_left ha⟩
theorem contains_ev (l : List Int) (hl : l.length ≤ 140737488351232) (a : Int) : Ev (fun k => slices_Contains_int_int.f k l a) (decide (a ∈ l)) := by
  obtain ⟨r, h1, h2⟩ := index_l0 l hl a l.length 0 (by omega)
  unfold slices_Contains_int_int.f slices_Index_int_int.f
  refine Ev.bind h1 (Ev.eq ?_)
  rw [List.drop_zero] at h2
  have : decide (r ≥ 0) = decide (a ∈ l) := by rw [Bool.eq_iff_iff, decide_eq_true_eq, decide_eq_true_eq]; exact h2
  rw [this]
theorem equal_l0 (a b : List Int) (hab : a.length = b.length) (hl : a.length ≤ 140737488351232) : ∀ (d i : Nat), d + i = a.length → Ev (fun k => slices_Equal_int_int.l0 k a b (a.length : Int) (i : Int)) (decide (a.drop i = b.drop i))
  | 0, i, h => Ev.ok (Ev.step (fun k => rfl) (Ev.no (by omega) (Ev.now _))) (by rw [List.drop_of_length_le (by omega), List.drop_of_length_le (by omega)]; simp)
  | d + 1, i, h => by
    have hi : i < a.length := by omega
    have hi2 : i < b.length := by omega
    rw [List.drop_eq_getElem_cons hi, List.drop_eq_getElem_cons hi2]
    refine Ev.step (fun k => rfl) (Ev.yes (by omega) (Ev.yes (by omega) (Ev.yes (by omega) (Ev.yes (by omega) ?_))))
    rw [rd_nat a i hi, rd_nat b i hi2]
    by_cases he : a[i] = b[i]
    · have e : wrap64 ((i : Int) + 1) = ((i + 1 : Nat) : Int) := by rw [w64 (by omega) (by omega)]; omega
      refine Ev.yes he ?_
      rw [e]
      exact Ev.ok (equal_l0 a b hab hl d (i + 1) (by omega)) (by rw [Bool.eq_iff_iff, decide_eq_true_eq, decide_eq_true_eq, List.cons.injEq]; exact ⟨fun h => ⟨he, h⟩, fun h => h.2⟩)
    · exact Ev.no he (Ev.ok (Ev.now _) (decide_eq_false (fun h => he (List.cons.inj h).1)).symm)
theorem equal_ev (a b : List Int) (hl : a.length ≤ 140737488351232) : Ev (fun k => slices_Equal_int_int.f k a b) (decide (a = b)) := by
  unfold slices_Equal_int_int.f
  by_cases h : (a.length : Int) = (b.length : Int)
  · exact Ev.yes h (Ev.ok (equal_l0 a b (by omega) hl a.length 0 (by omega)) (by simp))
  · exact Ev.no h (Ev.ok (Ev.now _) (by rw [decide_eq_false]; intro e; rw [e] at h; exact h rfl))

/-- Is the bar played? -/
def stB (l : List S38) (bar : Nat) (pass jump : Int) (x : S38) : Bool :=
  if x.f2.length = 0 then true else if jump = 0 then decide (pass ∈ x.f2) else decide (x.f2 = (rd_T38 l (lastOf l bar : Int)).f2)
theorem stO_ev (l : List S38) (bar : Nat) (pass jump : Int) (x : S38) (h : x.f2.length ≤ 140737488351232) : Ev (fun k => stO k l bar pass jump x) (stB l bar pass jump x) := by
  unfold stO stB
  by_cases h1 : x.f2.length = 0
  · rw [if_pos h1]; exact Ev.yes h1 (Ev.now _)
  · rw [if_neg h1]
    refine Ev.no h1 ?_
    by_cases h2 : jump = 0
    · rw [if_pos h2]; exact Ev.yes h2 (contains_ev _ h _)
    · rw [if_neg h2]; exact Ev.no h2 (equal_ev _ _ h)

/-- A run from where a walker is: the bars that are played, and their passes. -/
inductive Run (l : List S38) (s c : Int) : Wk → List (Int × Int) → Prop
  | fin {q : Wk} : ¬ q.bar < (l.length : Int) → Run l s c q []
  | skip {q : Wk} {o : List (Int × Int)} : q.bar < (l.length : Int) → 0 ≤ q.bar → 0 ≤ q.pass ∧ q.pass ≤ 140737488351232 →
      stB l q.bar.toNat (enterW q (rd_T38 l q.bar)).pass (enterW q (rd_T38 l q.bar)).jump (rd_T38 l q.bar) = false → Run l s c (skipW (enterW q (rd_T38 l q.bar)) (rd_T38 l q.bar)) o → Run l s c q o
  | stop {q : Wk} : q.bar < (l.length : Int) → 0 ≤ q.bar → 0 ≤ q.pass ∧ q.pass ≤ 140737488351232 →
      stB l q.bar.toNat (enterW q (rd_T38 l q.bar)).pass (enterW q (rd_T38 l q.bar)).jump (rd_T38 l q.bar) = true → onW s c (enterW q (rd_T38 l q.bar)) (rd_T38 l q.bar) = none →
      Run l s c q [(q.bar, (enterW q (rd_T38 l q.bar)).pass)]
  | play {q q2 : Wk} {o : List (Int × Int)} : q.bar < (l.length : Int) → 0 ≤ q.bar → 0 ≤ q.pass ∧ q.pass ≤ 140737488351232 →
      stB l q.bar.toNat (enterW q (rd_T38 l q.bar)).pass (enterW q (rd_T38 l q.bar)).jump (rd_T38 l q.bar) = true → onW s c (enterW q (rd_T38 l q.bar)) (rd_T38 l q.bar) = some q2 → Run l s c q2 o →
      Run l s c q ((q.bar, (enterW q (rd_T38 l q.bar)).pass) :: o)

theorem rd_short {l : List S38} (h : Short l) (i : Int) : (rd_T38 l i).f2.length ≤ 140737488351232 := by
  unfold rd_T38
  rw [List.getD_eq_getElem?_getD]
  cases hi : l[i.toNat]? with
  | none => simp [z38]
  | some x => exact h x (List.mem_of_getElem? hi)
/-- Two rounds bounds at once. -/
theorem run_wkL {l : List S38} {s c : Int} (hs : Short l) {q : Wk} {o : List (Int × Int)} (h : Run l s c q o) : ∀ acc : List (Int × Int), acc.length ≤ 2000 →
    ∃ r : List (Int × Int) × Bool, (acc.length + o.length ≤ 2000 → r = (acc ++ o, false)) ∧ (2000 < acc.length + o.length → r.2 = true) ∧ ∃ K, ∀ k n, K ≤ k → K ≤ n → wkL k l s c n q acc = some r := by
  induction h with
  | fin h1 =>
    intro acc ha
    refine ⟨(acc, false), by simp, fun h => by simp at h; omega, 1, fun k n hk hn => ?_⟩
    obtain ⟨n, rfl⟩ : ∃ m, n = m + 1 := ⟨n - 1, by omega⟩
    rw [wkL, if_neg h1]
  | skip h1 h2 h3 h4 _ ih =>
    intro acc ha
    obtain ⟨r, r1, r2, K, hK⟩ := ih acc ha
    obtain ⟨K2, hK2⟩ := Ev.ok (stO_ev l _ _ _ _ (rd_short hs _)) h4
    refine ⟨r, r1, r2, K + K2 + 1, fun k n hk hn => ?_⟩
    obtain ⟨n, rfl⟩ : ∃ m, n = m + 1 := ⟨n - 1, by omega⟩
    rw [wkL, if_pos h1, if_pos ⟨h2, h3⟩, (show stO k l _ _ _ _ = some _ from hK2 k (by omega)), Option.bind_some, if_neg (by decide)]
    exact hK k n (by omega) (by omega)
  | stop h1 h2 h3 h4 h5 =>
    intro acc ha
    obtain ⟨K2, hK2⟩ := Ev.ok (stO_ev l _ _ _ _ (rd_short hs _)) h4
    by_cases h2k : acc.length = 2000
    · refine ⟨(acc, true), fun h => by simp at h; omega, fun _ => rfl, K2 + 1, fun k n hk hn => ?_⟩
      obtain ⟨n, rfl⟩ : ∃ m, n = m + 1 := ⟨n - 1, by omega⟩
      rw [wkL, if_pos h1, if_pos ⟨h2, h3⟩, (show stO k l _ _ _ _ = some _ from hK2 k (by omega)), Option.bind_some, if_pos rfl, if_pos h2k]
    · refine ⟨_, fun _ => rfl, fun h => by simp at h; omega, K2 + 1, fun k n hk hn => ?_⟩
      obtain ⟨n, rfl⟩ : ∃ m, n = m + 1 := ⟨n - 1, by omega⟩
      rw [wkL, if_pos h1, if_pos ⟨h2, h3⟩, (show stO k l _ _ _ _ = some _ from hK2 k (by omega)), Option.bind_some, if_pos rfl, if_neg h2k, h5]
  | @play qq qn oo h1 h2 h3 h4 h5 _ ih =>
    intro acc ha
    obtain ⟨K2, hK2⟩ := Ev.ok (stO_ev l _ _ _ _ (rd_short hs _)) h4
    by_cases h2k : acc.length = 2000
    · refine ⟨(acc, true), fun h => by simp at h; omega, fun _ => rfl, K2 + 1, fun k n hk hn => ?_⟩
      obtain ⟨n, rfl⟩ : ∃ m, n = m + 1 := ⟨n - 1, by omega⟩
      rw [wkL, if_pos h1, if_pos ⟨h2, h3⟩, (show stO k l _ _ _ _ = some _ from hK2 k (by omega)), Option.bind_some, if_pos rfl, if_pos h2k]
    · obtain ⟨r, r1, r2, K, hK⟩ := ih (acc ++ [(qq.bar, (enterW qq (rd_T38 l qq.bar)).pass)]) (by simp; omega)
      refine ⟨r, fun h => ?_, fun h => r2 (by simp at h ⊢; omega), K + K2 + 1, fun k n hk hn => ?_⟩
      · rw [r1 (by simp at h ⊢; omega)]; simp
      · obtain ⟨n, rfl⟩ : ∃ m, n = m + 1 := ⟨n - 1, by omega⟩
        rw [wkL, if_pos h1, if_pos ⟨h2, h3⟩, (show stO k l _ _ _ _ = some _ from hK2 k (by omega)), Option.bind_some, if_pos rfl, if_neg h2k, h5]
        exact hK k n (by omega) (by omega)

/-- Where a walker begins. -/
def q0 : Wk := ⟨0, 1, 0, false, 0, false, false⟩
/-- What is told of a run. -/
def told (o : List (Int × Int)) : List Int × List Int × Int := if o.length ≤ 2000 then (o.map Prod.fst, o.map Prod.snd, 0) else ([], [], 101)
theorem walk_ev {l : List S38} {o : List (Int × Int)} (hl : l.length ≤ 140737488351232) (hs : Short l) (hc : chkR l = (0, 0)) (h : Run l (fi (fun x => x.f3) 0 l) (fi (fun x => x.f4) 0 l) q0 o) : Ev (fun k => turns_walk.f k l) (told o) := by
  unfold turns_walk.f
  refine Ev.bind (Ev.ok (check_ev l hl hs) hc) (Ev.yes rfl ?_)
  obtain ⟨r, r1, r2, K, hK⟩ := run_wkL hs h [] (by simp)
  refine Ev.bind ⟨K, fun k hk => hK k k hk hk⟩ (Ev.eq ?_)
  unfold walkEnd told
  by_cases ho : o.length ≤ 2000
  · rw [r1 (by simpa using ho), if_neg (by simp), if_pos ho]; simp
  · rw [if_pos (r2 (by simp; omega)), if_neg ho]
theorem walk_err {l : List S38} {i e : Int} (hl : l.length ≤ 140737488351232) (hs : Short l) (hc : chkR l = (i, e)) (he : e ≠ 0) : Ev (fun k => turns_walk.f k l) ([], [], e) := by
  unfold turns_walk.f
  exact Ev.bind (Ev.ok (check_ev l hl hs) hc) (Ev.no he (Ev.now _))
theorem unfold_ev {l : List S38} {r : List Int × List Int × Int} (h : Ev (fun k => turns_walk.f k l) r) : Ev (fun k => turns_Unfold.f k l) (r.1, r.2.2) := by
  unfold turns_Unfold.f
  exact Ev.bind h (Ev.now _)
theorem passes_ev {l : List S38} {r : List Int × List Int × Int} (h : Ev (fun k => turns_walk.f k l) r) : Ev (fun k => turns_Passes.f k l) (r.2.1, r.2.2) := by
  unfold turns_Passes.f
  exact Ev.bind h (Ev.now _)

/-! ### lists -/
theorem ints_l0 (a b : List Int) (hab : a.length = b.length) (hl : a.length ≤ 140737488351232) : ∀ (d i : Nat), d + i = a.length → Ev (fun k => partitalaw10_ints.l0 k a b (i : Int)) (decide (a.drop i = b.drop i))
  | 0, i, h => Ev.ok (Ev.step (fun k => rfl) (Ev.no (by omega) (Ev.now _))) (by rw [List.drop_of_length_le (by omega), List.drop_of_length_le (by omega)]; simp)
  | d + 1, i, h => by
    have hi : i < a.length := by omega
    have hi2 : i < b.length := by omega
    rw [List.drop_eq_getElem_cons hi, List.drop_eq_getElem_cons hi2]
    refine Ev.step (fun k => rfl) (Ev.yes (by omega) (Ev.yes (by omega) (Ev.yes (by omega) ?_)))
    rw [rd_nat a i hi, rd_nat b i hi2]
    by_cases he : a[i] = b[i]
    · have e : wrap64 ((i : Int) + 1) = ((i + 1 : Nat) : Int) := by rw [w64 (by omega) (by omega)]; omega
      refine Ev.yes he ?_
      rw [e]
      exact Ev.ok (ints_l0 a b hab hl d (i + 1) (by omega)) (by rw [Bool.eq_iff_iff, decide_eq_true_eq, decide_eq_true_eq, List.cons.injEq]; exact ⟨fun h => ⟨he, h⟩, fun h => h.2⟩)
    · exact Ev.no he (Ev.ok (Ev.now _) (decide_eq_false (fun h => he (List.cons.inj h).1)).symm)
theorem ints_ev (a b : List Int) (hl : a.length ≤ 140737488351232) : Ev (fun k => partitalaw10_ints.f k a b) (decide (a = b)) := by
  unfold partitalaw10_ints.f
  by_cases h : (a.length : Int) = (b.length : Int)
  · exact Ev.yes h (Ev.ok (ints_l0 a b (by omega) hl a.length 0 (by omega)) (by simp))
  · exact Ev.no h (Ev.ok (Ev.now _) (by rw [decide_eq_false]; intro e; rw [e] at h; exact h rfl))
theorem ints_same {a b : List Int} (h : a = b) (hl : a.length ≤ 140737488351232) : Ev (fun k => partitalaw10_ints.f k a b) true := Ev.ok (ints_ev a b hl) (decide_eq_true h)
/-- The numbers from one up to another one. -/
def upTo (i : Nat) (n : Nat) : List Int := (List.range n).map fun j => ((i + j : Nat) : Int)
theorem upTo_zero (i : Nat) : upTo i 0 = [] := rfl
theorem upTo_succ (i n : Nat) : upTo i (n + 1) = (i : Int) :: upTo (i + 1) n := by
  unfold upTo
  rw [List.range_succ_eq_map]
  simp [Function.comp_def, Nat.add_assoc, Nat.add_comm 1]
theorem upTo_length (i n : Nat) : (upTo i n).length = n := by simp [upTo]
theorem upTo_add (i n m : Nat) : upTo i (n + m) = upTo i n ++ upTo (i + n) m := by
  induction n generalizing i with
  | zero => simp [upTo_zero]
  | succ n ih => rw [show n + 1 + m = (n + m) + 1 by omega, upTo_succ, upTo_succ, ih, List.cons_append, show i + 1 + n = i + (n + 1) by omega]
theorem rising_l0 (b : Int) (hb : b ≤ 1000000000) : ∀ (n i : Nat) (acc : List Int), (i : Int) + n = b → acc.length + n ≤ 1000000000 → Ev (fun k => partitalaw10_rising.l0 k b acc (i : Int)) (acc ++ upTo i n)
  | 0, i, acc, h, ha => Ev.ok (Ev.step (fun k => rfl) (Ev.no (by omega) (Ev.now _))) (by simp [upTo_zero])
  | n + 1, i, acc, h, ha => by
    refine Ev.step (fun k => rfl) (Ev.yes (by omega) (Ev.yes (by omega) ?_))
    have e : wrap64 ((i : Int) + 1) = ((i + 1 : Nat) : Int) := by rw [w64 (by omega) (by omega)]; omega
    rw [e]
    exact Ev.ok (rising_l0 b hb n (i + 1) (acc ++ [(i : Int)]) (by omega) (by simp; omega)) (by rw [upTo_succ]; simp)
theorem rising_ev {a b : Int} (i n : Nat) (ha : a = i) (h : b = (i + n : Nat)) (hb : b ≤ 1000000000) : Ev (fun k => partitalaw10_rising.f k a b) (upTo i n) := by
  subst ha
  unfold partitalaw10_rising.f
  exact Ev.ok (rising_l0 b hb n i [] (by omega) (by simp; omega)) (by simp)
end Go.Proofs.Ytendmmagjjhfnaa.Z
