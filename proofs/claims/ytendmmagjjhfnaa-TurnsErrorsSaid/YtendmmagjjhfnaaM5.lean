/- Printed by a program of this session (wip/tools), out of the translation: functions with the same answers as the Go code, and the contracts of the code. Lean checks it. -/
import Derived.Test.YtendmmagjjhfnaaM0
import Derived.Test.YtendmmagjjhfnaaM3
namespace Go.Proofs.Ytendmmagjjhfnaa.M
open Go.RowKit Go.Proofs.YtendmmagjjhfnaaW.PrintWords Go.Proofs.YtendmmagjjhfnaaW.PrintLast Go.Proofs.YtendmmagjjhfnaaW.PrintMore
attribute [local go_sem] max2_int min2_int max_two min_two max_three min_three max_four min_four   -- for this text's walks alone
set_option linter.unusedVariables false
set_option linter.unusedSimpArgs false

/-! ### turns_found_3: function 27 at the function value 40 -/
def turns_found_3.f (l0 : List (S38)) : Option Int := if l0.length ≤ 140737488351232 then some (fi isJump 0 l0) else none
set_option maxHeartbeats 1600000 in
set_option maxRecDepth 100000 in
theorem turns_found_3.calls (A0 : Option Addr) (c0 : Nat) (l0 : List (S38)) (r : Int) (w : World) (hr0 : Kd.C k38 w A0 l0.length l0) (hc0 : l0.length ≤ c0) (h : turns_found_3.f l0 = some r) :
    Calls Try.prog 27 #[.slice A0 l0.length c0, .func (.func 40) #[] #[]] w fun e w' => e = .returned (.int .i64 r) ∧ Below w.heap.size w w' := by
  unfold turns_found_3.f at h
  by_cases hm : l0.length ≤ 140737488351232
  · rw [if_pos hm] at h
    obtain rfl := Option.some.inj h
    have HR0 := Aside0.mk hr0
    have HM := Aside0.mk hm
    clear hr0 hm h
    go_enter Try.func27, Try.ntmps27
    go_wp2_with ((with_reducible refine (idx_40 A0 c0 l0 _ HR0.out HM.out).mono ?_); rintro e w' ⟨rfl, hb⟩)
    go_ret
    exact ⟨rfl, hb⟩
  · rw [if_neg hm] at h
    cases h

end Go.Proofs.Ytendmmagjjhfnaa.M
