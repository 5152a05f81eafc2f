/- What the statements of chapter 15 use besides. -/
import Derived.Test.YtmeefdaanjaoaaaZ7
namespace Go.Proofs.Ytmeefdaanjaoaaa.Z
open Go.RowKit Go.Proofs.YtmeefdaanjaoaaaW.PrintWords Go.Proofs.YtmeefdaanjaoaaaW.PrintLast Go.Proofs.Ytmeefdaanjaoaaa.M
set_option linter.unusedVariables false
set_option linter.unusedSimpArgs false

theorem vlq_f {n : Int} (h0 : 0 ≤ n) (h1 : n ≤ 268435455) : wire_Vlq.f n = some (strOfNums (num n), 0) := by
  unfold wire_Vlq.f
  rw [counts_f, Option.bind_some, if_pos (decide_eq_true ⟨h0, h1⟩), number_f h0 h1, Option.bind_some]
theorem vlq_out {n : Int} (h : n < 0 ∨ 268435455 < n) : wire_Vlq.f n = some (⟨#[]⟩, 150) := by
  unfold wire_Vlq.f
  rw [counts_f, Option.bind_some, if_neg (by rw [decide_eq_true_eq]; omega)]
theorem Ev.at {α : Type} {g : Nat → Option α} {r : α} (K : Nat) (h : ∀ k, K ≤ k → g k = some r) : Ev g r := ⟨K, h⟩

theorem Ev.ok {α : Type} {g : Nat → Option α} {r r' : α} (h : Ev g r) (e : r = r') : Ev g r' := e ▸ h
theorem nil_toList : (⟨#[]⟩ : ByteArray).toList = ([] : List UInt8) := by rw [Lib.toList_data]

theorem enc_str_size {l : List Msg} (hr : Rights l) : (strOfNums (enc 0 l)).size = (enc 0 l).length := str_size _
theorem enc_str_bytes {l : List Msg} (hr : Rights l) : bytesOf (strOfNums (enc 0 l)) = enc 0 l := bytesOf_str (enc_bytes hr)
theorem decode_enc {l : List Msg} (hr : Rights l) (ht : tot l ≤ 1000000000) : Ev (fun k => wire_Decode.f k (strOfNums (enc 0 l))) (l, 0, 0) := by
  have h := enc_tot l 0
  have hs := str_size (enc 0 l)
  refine decode_ok (by omega) ?_
  rw [enc_str_bytes hr]
  exact dec_enc0 hr (.inl rfl)

theorem body_e {d c e : Int} {r : List Int} (h : body d c r = .error e) : e ≠ 0 := by
  by_cases c1 : c = 255
  · subst c1
    rw [body_255] at h
    cases hl : low r with
    | error e' => rw [hl] at h; injection h with h; subst h; rcases low_e hl with rfl | rfl <;> decide
    | ok x =>
      obtain ⟨a, r1⟩ := x
      rw [hl] at h
      dsimp only at h
      cases hd : dat r1 with
      | error e' => rw [hd] at h; injection h with h; subst h; rcases dat_e hd with rfl | rfl | rfl <;> decide
      | ok y => obtain ⟨bs, r2⟩ := y; rw [hd] at h; cases h
  · by_cases c2 : c ≥ 240
    · rw [body_sys c1 c2] at h
      cases hd : dat r with
      | error e' => rw [hd] at h; injection h with h; subst h; rcases dat_e hd with rfl | rfl | rfl <;> decide
      | ok y => obtain ⟨bs, r2⟩ := y; rw [hd] at h; cases h
    · rw [body_key (by omega)] at h
      cases hl : low r with
      | error e' => rw [hl] at h; injection h with h; subst h; rcases low_e hl with rfl | rfl <;> decide
      | ok x =>
        obtain ⟨a, r1⟩ := x
        rw [hl] at h
        dsimp only at h
        by_cases c3 : c / 16 = 12 ∨ c / 16 = 13
        · rw [if_pos c3] at h; cases h
        · rw [if_neg c3] at h
          cases hl2 : low r1 with
          | error e' => rw [hl2] at h; injection h with h; subst h; rcases low_e hl2 with rfl | rfl <;> decide
          | ok y => obtain ⟨b, r2⟩ := y; rw [hl2] at h; cases h
theorem msg_e {l e : Int} {r : List Int} (h : msg l r = .error e) : e ≠ 0 := by
  cases hv : vlq 4 0 r with
  | error e' => unfold msg at h; rw [hv] at h; injection h with h; subst h; rcases vlq_e hv with rfl | rfl <;> decide
  | ok x =>
    obtain ⟨d, r1⟩ := x
    cases r1 with
    | nil => unfold msg at h; rw [hv] at h; injection h with h; subst h; decide
    | cons c r1 =>
      rw [msg_at hv] at h
      by_cases c1 : c < 128
      · rw [if_pos c1] at h
        by_cases c2 : l = 0
        · rw [if_pos c2] at h; injection h with h; subst h; decide
        · rw [if_neg c2] at h; exact body_e h
      · rw [if_neg c1] at h
        by_cases c2 : c > 240 ∧ c ≠ 247 ∧ c ≠ 255
        · rw [if_pos c2] at h; injection h with h; subst h; decide
        · rw [if_neg c2] at h; exact body_e h
theorem bad_e {l e : Int} {r : List Int} {n : Nat} (h : Bad l r e n) : e ≠ 0 := by
  induction h with
  | here _ hm => exact msg_e hm
  | later _ _ ih => exact ih

instance (l : List Msg) : Decidable (Rights l) := by unfold Rights; infer_instance
theorem rights_append {a b : List Msg} : Rights (a ++ b) ↔ Rights a ∧ Rights b := by
  constructor
  · intro h
    exact ⟨fun m hm => h m (List.mem_append.2 (.inl hm)), fun m hm => h m (List.mem_append.2 (.inr hm))⟩
  · rintro ⟨h1, h2⟩ m hm
    rcases List.mem_append.1 hm with hm | hm
    · exact h1 m hm
    · exact h2 m hm
end Go.Proofs.Ytmeefdaanjaoaaa.Z
