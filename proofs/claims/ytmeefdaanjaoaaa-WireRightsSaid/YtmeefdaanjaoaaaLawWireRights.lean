/- The statement WireRights: whether any message of at most 300 bytes of Data is right: the program answers as the document does. For every input. -/
import Derived.Test.YtmeefdaanjaoaaaRows
import Derived.Test.YtmeefdaanjaoaaaYWireRights
import Derived.Test.YtmeefdaanjaoaaaR1
import Derived.Test.YtmeefdaanjaoaaaM24
import Derived.WalkKit
import Derived.ProofKit
import Derived.OpenShut
import Derived.ShutString
import Derived.ChangeOld
import Derived.Below
import Derived.SizedLaws
namespace Go.Proofs.Ytmeefdaanjaoaaa.wireRights
open Go.ChangeShapes Go.WideShapes Go.ChangeAt Go.RowKit Go.Proofs.YtmeefdaanjaoaaaW.PrintWords Go.Proofs.Ytmeefdaanjaoaaa.M Go.Proofs.Ytmeefdaanjaoaaa.R
open Go.ChangeMaps (open_string shut_string)
set_option linter.unusedVariables false
theorem own : ownKnob Try.prog.godebug = none := by kernel_rfl
theorem laidOut : laidOutB Try.prog = true := by kernel_rfl
set_option maxRecDepth 100000 in
theorem lifted (os : Os) (started : os.Started) (H : Type) (enc : TypeId × Value → H) :
    ReturnsInHanded {} Try.checked os 5 .any (Rows.wireRightsSpec.pre6 enc Try.prog Try.f5 Rows.wireRightsRow.domain false) (Rows.wireRightsSpec.post enc Try.prog Try.f5 false true false false) := by
  refine returnsInHanded_of_change_sized (C := Try.checked) own started (by kernel_rfl) Try.func5
    (ChangeSpec.witness6 (enc := enc) (C := Try.checked) false ⟨#[], #[.agg #[.int .i64 0, .int .i64 0, .int .i64 0, .int .i64 0, .int .i64 0, .string ByteArray.empty]], []⟩ 8 (by kernel_rfl) (by kernel_rfl) (by kernel_rfl) (by kernel_rfl)) ?_
  intro W base args ds gs before hval0 hW hcnd hsz0 _
  have hsz : (DataW.weightsEach Try.prog (Try.f5.params.toList ++ Rows.wireRightsSpec.plain.varTypes Try.prog) (ds ++ gs)).all (· ≤ reachBytes) = true := hsz0
  have hval : ∀ (j : Nat) t v, Try.f5.params[j]? = some t → args[j]? = some v → Value.okWide Try.prog W .any base t v := hval0
  have hW' := hW
  obtain ⟨p, q, hA0, hV, rfl, hfz, hnd⟩ := hW
  have hA : DataW.TrodAll enc Try.prog W 0 (fun _ => true) true Try.f5.params.toList args.toList ds p := hA0
  rw [Try.params5] at hA hval hsz
  obtain ⟨v0, vs0, d0, ds0, p0, q0, hargs, rfl, rfl, h0, r0⟩ := trodAll_cons hA
  obtain ⟨rfl, rfl, rfl⟩ := trodAll_nil r0
  obtain rfl : args = #[v0] := by cases args; simp_all
  obtain ⟨rfl, rfl⟩ := trodVars_none hV
  obtain ⟨cs0, rfl, hcl0⟩ := okWide_struct Try.underlying31 (hval 0 31 v0 rfl rfl)
  have k0 := h0
  have lt0 : ∀ x ∈ p0, x.block < W.heap.size := by obtain ⟨m, hm⟩ := k0; exact DataW.trod_lt m _ _ _ hm
  obtain ⟨x0, hx0, hq0⟩ : ∃ x : S31, (k31).K W x cs0.toList ∧ (fun _ => True) x := by
    obtain ⟨fuel, hf⟩ := h0
    exact rds_31 fuel _ _ hf
  have hx := k31_open hx0
  obtain ⟨cl0⟩ := cs0
  obtain rfl : cl0 = _ := hx
  clear hA0 hval0 hsz0 hsz
  obtain ⟨k, hk⟩ := Ev.rounds (Z.wireRights x0)
  refine (partitalaw15_WireRights.calls k x0.f0 x0.f1 x0.f2 x0.f3 x0.f4 x0.f5 true W hk).mono ?_
  rintro e W' ⟨he, bel0⟩
  have bel : Below W.heap.size W W' := bel0
  subst he
  exact ⟨_, rfl, _, _, _, [], _, [], hW', trodAll_mk1 (shut_bool Try.underlying4 _), (trodAll_cons_mk (Below.trod laidOut (by kernel_rfl) (of_decide_eq_true (by kernel_rfl)) k0 bel lt0) trodAll_mk0), rfl, bel.frame _, fun h => by cases h⟩
theorem over : Rows.wireRightsRow.holds Try.pinned (OpenSpec.ofChange Rows.wireRightsSpec) :=
  OpenClaim.holds_of_wide 5 Try.f5 rfl rfl rfl rfl rfl rfl rfl ⟨rfl, rfl, rfl, rfl, rfl⟩ rfl rfl rfl rfl rfl (by kernel_rfl) Try.func5 (by kernel_rfl)
    (of_decide_eq_true (by kernel_rfl)) (by unfold Func.isWrapper; first | (rw [if_pos (by decide +kernel)]; kernel_rfl) | (rw [if_neg (by decide +kernel)]; exact ⟨rfl, rfl⟩))
    (fun os started H enc _ => lifted os started H enc)
theorem proved : Rows.WireRightsSaid := over
#print axioms proved
end Go.Proofs.Ytmeefdaanjaoaaa.wireRights
namespace Go.Proofs.Ytmeefdaanjaoaaa
/-- The row, under a short name, for the claim. -/
theorem wireRights_holds : Rows.WireRightsSaid := wireRights.proved
end Go.Proofs.Ytmeefdaanjaoaaa
