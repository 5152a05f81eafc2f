/- Printed by a program of this session (wip/tools), out of the translation: functions with the same answers as the Go code, and the contracts of the code. Lean checks it. -/
import Derived.Test.YtmeefdaanjaoaaaM0
import Derived.Test.YtmeefdaanjaoaaaM21
namespace Go.Proofs.Ytmeefdaanjaoaaa.M
open Go.RowKit Go.Proofs.YtmeefdaanjaoaaaW.PrintWords Go.Proofs.YtmeefdaanjaoaaaW.PrintLast Go.Proofs.YtmeefdaanjaoaaaW.PrintMore
attribute [local go_sem] max2_int min2_int max_two min_two max_three min_three max_four min_four   -- for this text's walks alone
set_option linter.unusedVariables false
set_option linter.unusedSimpArgs false

/-! ### partitaref15_data: function 43 -/
def partitaref15_data.f (k : Nat) (a0 : ByteArray) (a1 : Int) : Option (ByteArray × Int × Int) := (partitaref15_ReadVlq.f k a0 a1).bind fun bt333 => (if bt333.2.2 = 0 then (if bt333.1 > 100000 then (some ((⟨#[]⟩ : ByteArray), 0, 151)) else (if (wrap64 (bt333.2.1 + bt333.1)) > (a0.size : Int) then (some ((⟨#[]⟩ : ByteArray), 0, 152)) else (if 0 ≤ bt333.2.1 then (if bt333.2.1 ≤ (wrap64 (bt333.2.1 + bt333.1)) then (if (wrap64 (bt333.2.1 + bt333.1)) ≤ (a0.size : Int) then (some (a0.extract (bt333.2.1 : Int).toNat ((wrap64 (bt333.2.1 + bt333.1)) : Int).toNat, wrap64 (bt333.2.1 + bt333.1), 0)) else (none)) else (none)) else (none)))) else (some ((⟨#[]⟩ : ByteArray), 0, bt333.2.2)))
theorem partitaref15_data.mono : ∀ a0 a1 k, LeO (partitaref15_data.f k a0 a1) (partitaref15_data.f (k + 1) a0 a1) := by
  intro a0 a1 k
  unfold partitaref15_data.f
  repeat' first
      | (with_reducible exact partitaref15_ReadVlq.mono _ _ _)
      | (with_reducible exact LeO.refl _)
      | (with_reducible exact LeO.none _)
      | (with_reducible refine LeO.ite ?_ ?_)
      | (with_reducible refine LeO.bind ?_ (fun _ => ?_))
      | exact partitaref15_ReadVlq.mono _ _ _
      | exact LeO.none _
      | refine LeO.ite ?_ ?_
      | refine LeO.bind ?_ (fun _ => ?_)
set_option maxHeartbeats 8000000 in
set_option maxRecDepth 100000 in
theorem partitaref15_data.calls (k : Nat) (a0 : ByteArray) (a1 : Int) (r1 : ByteArray) (r2 : Int) (r3 : Int) (w : World) (h : partitaref15_data.f k a0 a1 = some (r1, r2, r3)) :
    Calls Try.prog 43 #[.string a0, .int .i64 a1] w fun e w' => e = .returned (.tuple #[.string r1, .int .i64 r2, .int .i64 r3]) ∧ Drawn0 w w' := by
  have H : ((partitaref15_ReadVlq.f k a0 a1).bind fun bt333 => (if bt333.2.2 = 0 then (if bt333.1 > 100000 then (some ((⟨#[]⟩ : ByteArray), 0, 151)) else (if (wrap64 (bt333.2.1 + bt333.1)) > (a0.size : Int) then (some ((⟨#[]⟩ : ByteArray), 0, 152)) else (if 0 ≤ bt333.2.1 then (if bt333.2.1 ≤ (wrap64 (bt333.2.1 + bt333.1)) then (if (wrap64 (bt333.2.1 + bt333.1)) ≤ (a0.size : Int) then (some (a0.extract (bt333.2.1 : Int).toNat ((wrap64 (bt333.2.1 + bt333.1)) : Int).toNat, wrap64 (bt333.2.1 + bt333.1), 0)) else (none)) else (none)) else (none)))) else (some ((⟨#[]⟩ : ByteArray), 0, bt333.2.2)))) = some (r1, r2, r3) := h
  clear h
  replace H := Option.bind_eq_some_iff.mp H
  obtain ⟨⟨t333, t334, t335⟩, A30, H⟩ := H
  replace H : (if t335 = 0 then (if t333 > 100000 then (some ((⟨#[]⟩ : ByteArray), 0, 151)) else (if (wrap64 (t334 + t333)) > (a0.size : Int) then (some ((⟨#[]⟩ : ByteArray), 0, 152)) else (if 0 ≤ t334 then (if t334 ≤ (wrap64 (t334 + t333)) then (if (wrap64 (t334 + t333)) ≤ (a0.size : Int) then (some (a0.extract (t334 : Int).toNat ((wrap64 (t334 + t333)) : Int).toNat, wrap64 (t334 + t333), 0)) else (none)) else (none)) else (none)))) else (some ((⟨#[]⟩ : ByteArray), 0, t335))) = some (r1, r2, r3) := H
  have A3 := Aside0.mk A30
  clear A30
  by_cases c4 : t335 = 0
  · rw [if_pos c4] at H
    have c4b0 : (t335 == 0) = true := beq_iff_eq.mpr c4
    have c4b1 : (t335 != 0) = false := bne_eq_false_iff_eq.mpr c4
    clear c4
    by_cases c5 : t333 > 100000
    · rw [if_pos c5] at H
      have c5b0 : decide (100000 < t333) = true := decide_eq_true c5
      clear c5
      simp only [Option.some.injEq, Prod.mk.injEq] at H
      obtain ⟨rfl, rfl, rfl⟩ := H
      go_enter Try.func43, Try.ntmps43
      go_wp2_with (first | ((with_reducible refine gate_callee (f := 18) rfl ?_); refine goesL_ (some 13) rfl rfl Try.func18 (by kernel_rfl) rfl #[.string a0, .int .i64 a1] rfl (by (try simp only [List.map_toArray, List.map_cons, List.map_nil]); first | done | rfl | (simp only [List.length_drop, List.length_take]; rfl)) ?_; (with_reducible refine (partitaref15_ReadVlq.calls k a0 a1 t333 t334 t335 _ A3.out).mono ?_); rintro e w' ⟨rfl, ⟨nd, rfl⟩⟩; refine ⟨_, rfl, ?_⟩))
      go_ret3
      exact ⟨by first | rfl | (simp; done) | (simp [*]; done), by repeat (first | exact Drawn0.refl _ | apply Drawn0.step)⟩
    · rw [if_neg c5] at H
      have c5b0 : decide (100000 < t333) = false := decide_eq_false c5
      clear c5
      by_cases c6 : (wrap64 (t334 + t333)) > (a0.size : Int)
      · rw [if_pos c6] at H
        have c6b0 : decide ((a0.size : Int) < (wrap64 (t334 + t333))) = true := decide_eq_true c6
        clear c6
        simp only [Option.some.injEq, Prod.mk.injEq] at H
        obtain ⟨rfl, rfl, rfl⟩ := H
        go_enter Try.func43, Try.ntmps43
        go_wp2_with (first | ((with_reducible refine gate_callee (f := 18) rfl ?_); refine goesL_ (some 13) rfl rfl Try.func18 (by kernel_rfl) rfl #[.string a0, .int .i64 a1] rfl (by (try simp only [List.map_toArray, List.map_cons, List.map_nil]); first | done | rfl | (simp only [List.length_drop, List.length_take]; rfl)) ?_; (with_reducible refine (partitaref15_ReadVlq.calls k a0 a1 t333 t334 t335 _ A3.out).mono ?_); rintro e w' ⟨rfl, ⟨nd, rfl⟩⟩; refine ⟨_, rfl, ?_⟩))
        go_ret3
        exact ⟨by first | rfl | (simp; done) | (simp [*]; done), by repeat (first | exact Drawn0.refl _ | apply Drawn0.step)⟩
      · rw [if_neg c6] at H
        have c6b0 : decide ((a0.size : Int) < (wrap64 (t334 + t333))) = false := decide_eq_false c6
        clear c6
        by_cases c7 : 0 ≤ t334
        · rw [if_pos c7] at H
          have c7b0 := eq_true c7
          have c7b1 : decide (0 ≤ t334) = true := decide_eq_true c7
          clear c7
          by_cases c8 : t334 ≤ (wrap64 (t334 + t333))
          · rw [if_pos c8] at H
            have c8b0 := eq_true c8
            have c8b1 : decide (t334 ≤ (wrap64 (t334 + t333))) = true := decide_eq_true c8
            by_cases c9 : (wrap64 (t334 + t333)) ≤ (a0.size : Int)
            · rw [if_pos c9] at H
              have c9b0 := eq_true c9
              have c9b1 : decide ((wrap64 (t334 + t333)) ≤ (a0.size : Int)) = true := decide_eq_true c9
              simp only [Option.some.injEq, Prod.mk.injEq] at H
              obtain ⟨rfl, rfl, rfl⟩ := H
              go_enter Try.func43, Try.ntmps43
              go_wp2_with (first | ((with_reducible refine gate_callee (f := 18) rfl ?_); refine goesL_ (some 13) rfl rfl Try.func18 (by kernel_rfl) rfl #[.string a0, .int .i64 a1] rfl (by (try simp only [List.map_toArray, List.map_cons, List.map_nil]); first | done | rfl | (simp only [List.length_drop, List.length_take]; rfl)) ?_; (with_reducible refine (partitaref15_ReadVlq.calls k a0 a1 t333 t334 t335 _ A3.out).mono ?_); rintro e w' ⟨rfl, ⟨nd, rfl⟩⟩; refine ⟨_, rfl, ?_⟩))
              go_ret3
              exact ⟨by first | rfl | (simp; done) | (simp [*]; done), by repeat (first | exact Drawn0.refl _ | apply Drawn0.step)⟩
            · rw [if_neg c9] at H
              exact absurd H (by simp)
          · rw [if_neg c8] at H
            exact absurd H (by simp)
        · rw [if_neg c7] at H
          exact absurd H (by simp)
  · rw [if_neg c4] at H
    have c4b0 : (t335 == 0) = false := beq_eq_false_iff_ne.mpr c4
    have c4b1 : (t335 != 0) = true := bne_iff_ne.mpr c4
    simp only [Option.some.injEq, Prod.mk.injEq] at H
    obtain ⟨rfl, rfl, rfl⟩ := H
    go_enter Try.func43, Try.ntmps43
    go_wp2_with (first | ((with_reducible refine gate_callee (f := 18) rfl ?_); refine goesL_ (some 13) rfl rfl Try.func18 (by kernel_rfl) rfl #[.string a0, .int .i64 a1] rfl (by (try simp only [List.map_toArray, List.map_cons, List.map_nil]); first | done | rfl | (simp only [List.length_drop, List.length_take]; rfl)) ?_; (with_reducible refine (partitaref15_ReadVlq.calls k a0 a1 t333 t334 t335 _ A3.out).mono ?_); rintro e w' ⟨rfl, ⟨nd, rfl⟩⟩; refine ⟨_, rfl, ?_⟩))
    go_ret3
    exact ⟨by first | rfl | (simp; done) | (simp [*]; done), by repeat (first | exact Drawn0.refl _ | apply Drawn0.step)⟩

end Go.Proofs.Ytmeefdaanjaoaaa.M
