/- The chapter's example, and the small functions that the statements of chapter 15 use: Same, Few. -/
import Derived.Test.YtmeefdaanjaoaaaZ6
import Derived.Test.YtmeefdaanjaoaaaM18
import Derived.Test.YtmeefdaanjaoaaaM25
import Derived.Test.YtmeefdaanjaoaaaM17
import Derived.KernelRfl
namespace Go.Proofs.Ytmeefdaanjaoaaa.Z
open Go.RowKit Go.Proofs.YtmeefdaanjaoaaaW.PrintWords Go.Proofs.YtmeefdaanjaoaaaW.PrintLast Go.Proofs.Ytmeefdaanjaoaaa.M
set_option linter.unusedVariables false

theorem Ev.yes {α : Type} {c : Prop} [Decidable c] {a b : Nat → Option α} {r : α} (h : c) (k : Ev a r) : Ev (fun n => if c then a n else b n) r := by
  obtain ⟨K, hK⟩ := k
  exact ⟨K, fun n hn => by show (if c then a n else b n) = some r; rw [if_pos h]; exact hK n hn⟩
theorem Ev.no {α : Type} {c : Prop} [Decidable c] {a b : Nat → Option α} {r : α} (h : ¬ c) (k : Ev b r) : Ev (fun n => if c then a n else b n) r := by
  obtain ⟨K, hK⟩ := k
  exact ⟨K, fun n hn => by show (if c then a n else b n) = some r; rw [if_neg h]; exact hK n hn⟩
theorem Ev.eq {α : Type} {x : Option α} {r : α} (h : x = some r) : Ev (fun _ => x) r := ⟨0, fun _ _ => h⟩

theorem awake_f : partitalaw15_awake.f 30 = some true := by
  have h1 : wire_Encode.f 30 (([(⟨0, 9, 0, 60, 64, (⟨#[]⟩ : ByteArray)⟩ : Msg), (⟨128, 9, 0, 60, 64, (⟨#[]⟩ : ByteArray)⟩ : Msg)] : List (Msg))) = some ((⟨#[0, 144, 60, 64, 129, 0, 60, 64]⟩ : ByteArray), 0) := by kernel_rfl
  have h2 : wire_Decode.f 30 (⟨#[0, 144, 60, 64, 129, 0, 60, 64]⟩ : ByteArray) = some (([(⟨0, 9, 0, 60, 64, (⟨#[]⟩ : ByteArray)⟩ : Msg), (⟨128, 9, 0, 60, 64, (⟨#[]⟩ : ByteArray)⟩ : Msg)] : List (Msg)), 0, 0) := by kernel_rfl
  have h3 : wire_Vlq.f 128 = some ((⟨#[129, 0]⟩ : ByteArray), 0) := by kernel_rfl
  have h4 : wire_ReadVlq.f 30 (⟨#[129, 0]⟩ : ByteArray) 0 = some (128, 2, 0) := by kernel_rfl
  have h5 : wire_Decode.f 30 (⟨#[0, 144, 60]⟩ : ByteArray) = some ([], 0, 152) := by kernel_rfl
  have h7 : partitaref15_Same.f 30 (([(⟨0, 9, 0, 60, 64, (⟨#[]⟩ : ByteArray)⟩ : Msg), (⟨128, 9, 0, 60, 64, (⟨#[]⟩ : ByteArray)⟩ : Msg)] : List (Msg))) (([(⟨0, 9, 0, 60, 64, (⟨#[]⟩ : ByteArray)⟩ : Msg), (⟨128, 9, 0, 60, 64, (⟨#[]⟩ : ByteArray)⟩ : Msg)] : List (Msg))) = some true := by
    have e : ∀ s : ByteArray, (s.toList == s.toList) = true := fun s => by simp
    simp [partitaref15_Same.f, partitaref15_Same.l0, rd_T31, wrap64]
  have h8 : wire_Right.f 30 0 9 0 60 64 (⟨#[]⟩ : ByteArray) = some true := by rw [right_f ⟨0, 9, 0, 60, 64, ⟨#[]⟩⟩ 30 (by decide)]; rfl
  have h9 : wire_Right.f 30 0 0 0 0 0 (⟨#[]⟩ : ByteArray) = some false := by rw [right_f ⟨0, 0, 0, 0, 0, ⟨#[]⟩⟩ 30 (by decide)]; rfl
  unfold partitalaw15_awake.f
  rw [h1, Option.bind_some, h2, Option.bind_some, h3, Option.bind_some, h4, Option.bind_some, h5, Option.bind_some]
  rw [if_pos (by rw [Lib.toList_data]), if_pos rfl, h7, Option.bind_some, if_pos rfl, if_pos rfl, if_pos rfl, if_pos (by rw [Lib.toList_data]), if_pos rfl, if_pos rfl, if_pos rfl, if_pos rfl, if_pos rfl, if_pos rfl, h8, Option.bind_some, if_pos rfl, h9, Option.bind_some]
  rfl
theorem awake_ev : Ev (fun k => partitalaw15_awake.f k) true := Ev.of (fun k => partitalaw15_awake.mono k) awake_f

/-! ### Same -/
theorem same_l0 (l : List Msg) (hl : l.length ≤ 1000000000) : ∀ (j i k : Nat), i + j = l.length → j < k → partitaref15_Same.l0 k l l (i : Int) = some true
  | 0, i, k, hj, hk => by
    obtain ⟨k, rfl⟩ : ∃ m, k = m + 1 := ⟨k - 1, by omega⟩
    simp only [partitaref15_Same.l0]
    rw [if_neg (by omega)]
  | j + 1, i, k, hj, hk => by
    obtain ⟨k, rfl⟩ : ∃ m, k = m + 1 := ⟨k - 1, by omega⟩
    simp only [partitaref15_Same.l0]
    rw [if_pos (by omega), if_pos (by omega), if_pos (by omega)]
    have e1 : wrap64 ((i : Int) + 1) = ((i + 1 : Nat) : Int) := by rw [w64 (by omega) (by omega)]; omega
    rw [e1, if_neg (by simp)]
    exact same_l0 l hl j (i + 1) k (by omega) (by omega)
theorem same_self (l : List Msg) (hl : l.length ≤ 1000000000) : Ev (fun k => partitaref15_Same.f k l l) true :=
  ⟨l.length + 1, fun k hk => by
    show (if (l.length : Int) = (l.length : Int) then partitaref15_Same.l0 k l l 0 else some false) = some true
    rw [if_pos rfl]
    exact same_l0 l hl l.length 0 k (by omega) (by omega)⟩

/-! ### Few -/
def FewP (l : List Msg) : Prop := l.length ≤ 20 ∧ ∀ m ∈ l, m.f5.size ≤ 300
theorem few_l0 (l : List Msg) : ∀ (j i k : Nat), i + j = 21 → 2 * j + 2 ≤ k → (∀ m ∈ l.take i, m.f5.size ≤ 300) → ∃ b, partitaref15_Few.l0 k l (i : Int) = some b ∧ (b = true → FewP l)
  | 0, i, k, hj, hk, hm => by
    obtain ⟨k, rfl⟩ : ∃ m, k = m + 2 := ⟨k - 2, by omega⟩
    simp only [partitaref15_Few.l0, partitaref15_Few.j1]
    have hd : ¬ decide ((i : Int) < 21) = true := by rw [decide_eq_true_eq]; omega
    have he : (if (i : Int) < (l.length : Int) then (if decide ((i : Int) < 21) = true then (if 0 ≤ (i : Int) then (if (i : Int) < (l.length : Int) then (if ((rd_T31 l (i : Int)).f5.size : Int) > 300 then (some false) else (partitaref15_Few.l0 k l (wrap64 ((i : Int) + 1)))) else (none)) else (none)) else (some (decide ((l.length : Int) ≤ 20)))) else (if false = true then (if 0 ≤ (i : Int) then (if (i : Int) < (l.length : Int) then (if ((rd_T31 l (i : Int)).f5.size : Int) > 300 then (some false) else (partitaref15_Few.l0 k l (wrap64 ((i : Int) + 1)))) else (none)) else (none)) else (some (decide ((l.length : Int) ≤ 20))))) = some (decide ((l.length : Int) ≤ 20)) := by
      by_cases c1 : (i : Int) < (l.length : Int)
      · rw [if_pos c1, if_neg hd]
      · rw [if_neg c1]; rfl
    refine ⟨decide ((l.length : Int) ≤ 20), he, fun h => ?_⟩
    rw [decide_eq_true_eq] at h
    refine ⟨by omega, ?_⟩
    rwa [List.take_of_length_le (by omega)] at hm
  | j + 1, i, k, hj, hk, hm => by
    obtain ⟨k, rfl⟩ : ∃ m, k = m + 2 := ⟨k - 2, by omega⟩
    simp only [partitaref15_Few.l0, partitaref15_Few.j1]
    by_cases c1 : (i : Int) < (l.length : Int)
    · have hd : decide ((i : Int) < 21) = true := by rw [decide_eq_true_eq]; omega
      rw [if_pos c1, if_pos hd, if_pos (by omega), if_pos c1]
      by_cases c2 : ((rd_T31 l (i : Int)).f5.size : Int) > 300
      · rw [if_pos c2]; exact ⟨false, rfl, fun h => by cases h⟩
      · rw [if_neg c2]
        have e1 : wrap64 ((i : Int) + 1) = ((i + 1 : Nat) : Int) := by rw [w64 (by omega) (by omega)]; omega
        rw [e1]
        refine few_l0 l j (i + 1) k (by omega) (by omega) ?_
        intro m hm2
        rw [List.take_succ_eq_append_getElem (by omega)] at hm2
        rcases List.mem_append.1 hm2 with hm2 | hm2
        · exact hm m hm2
        · rw [List.mem_singleton] at hm2
          subst hm2
          unfold rd_T31 at c2
          rw [Int.toNat_natCast, List.getD_eq_getElem?_getD, List.getElem?_eq_getElem (by omega)] at c2
          simp only [Option.getD_some] at c2
          omega
    · rw [if_neg c1, if_neg (by decide)]
      refine ⟨decide ((l.length : Int) ≤ 20), rfl, fun h => ?_⟩
      rw [decide_eq_true_eq] at h
      refine ⟨by omega, ?_⟩
      rwa [List.take_of_length_le (by omega)] at hm
theorem few_ev (l : List Msg) : ∃ b, Ev (fun k => partitaref15_Few.f k l) b ∧ (b = true → FewP l) := by
  obtain ⟨b, hb, h⟩ := few_l0 l 21 0 44 (by omega) (by omega) (by intro m hm; simp at hm)
  exact ⟨b, Ev.of (fun k => partitaref15_Few.mono l k) hb, h⟩
theorem tot_few : ∀ {l : List Msg}, (∀ m ∈ l, m.f5.size ≤ 300) → tot l ≤ 310 * l.length
  | [], _ => Nat.le_refl _
  | m :: l, h => by
    have h1 := h m (by simp)
    have h2 := tot_few (l := l) (fun x hx => h x (by simp [hx]))
    simp only [tot, List.length_cons]
    omega
theorem FewP.tot {l : List Msg} (h : FewP l) : tot l ≤ 6200 := by
  have := tot_few h.2
  have := h.1
  omega
theorem tot_append : ∀ (a b : List Msg), tot (a ++ b) = tot a + tot b
  | [], b => by simp [Z.tot]
  | m :: a, b => by
    have := tot_append a b
    rw [List.cons_append]
    simp only [Z.tot]
    omega
end Go.Proofs.Ytmeefdaanjaoaaa.Z
