/- The statement SmfSame: to be the same is one: of itself, either way; with another Division, a track more, or a message turned, it is not. For every input. -/
import Derived.Test.YtdmnknhlibaaoaaRows
import Derived.WalkKit
import Derived.ProofKit
import Derived.OpenShut
import Derived.ShutString
import Derived.ChangeOld
import Derived.Below
import Derived.SizedLaws
import Derived.Test.YtdmnknhlibaaoaaCW
import Derived.Test.YtdmnknhlibaaoaaKSmfSame
import Derived.Test.YtdmnknhlibaaoaaC4
namespace Go.Proofs.Ytdmnknhlibaaoaa.smfSame
open Go.ChangeShapes Go.WideShapes Go.ChangeAt Go.RowKit Go.Proofs.YtdmnknhlibaaoaaW.PrintWords Go.Proofs.Ytdmnknhlibaaoaa.M Go.Proofs.Ytdmnknhlibaaoaa.R
open Go.ChangeMaps (open_string shut_string)
set_option linter.unusedVariables false
theorem own : ownKnob Try.prog.godebug = none := by kernel_rfl
theorem laidOut : laidOutB Try.prog = true := by kernel_rfl
set_option maxRecDepth 100000 in
theorem lifted (os : Os) (started : os.Started) (H : Type) (enc : TypeId × Value → H) :
    ReturnsInHanded {} Try.checked os 3 .any (Rows.smfSameSpec.pre6 enc Try.prog Try.f3 Rows.smfSameRow.domain false) (Rows.smfSameSpec.post enc Try.prog Try.f3 false true false false) := by
  refine returnsInHanded_of_change_sized (C := Try.checked) own started (by kernel_rfl) Try.func3
    (ChangeSpec.witness6 (enc := enc) (C := Try.checked) false ⟨#[], #[.agg #[.int .i64 0, .int .i64 0, .slice none 0 0], .agg #[.int .i64 0, .int .i64 0, .slice none 0 0], .int .u8 0], []⟩ 8 (by kernel_rfl) (by kernel_rfl) (by kernel_rfl) (by kernel_rfl)) ?_
  intro W base args ds gs before hval0 hW hcnd hsz0 _
  have hsz : (DataW.weightsEach Try.prog (Try.f3.params.toList ++ Rows.smfSameSpec.plain.varTypes Try.prog) (ds ++ gs)).all (· ≤ reachBytes) = true := hsz0
  have hval : ∀ (j : Nat) t v, Try.f3.params[j]? = some t → args[j]? = some v → Value.okWide Try.prog W .any base t v := hval0
  have hW' := hW
  obtain ⟨p, q, hA0, hV, rfl, hfz, hnd⟩ := hW
  have hA : DataW.TrodAll enc Try.prog W 0 (fun _ => true) true Try.f3.params.toList args.toList ds p := hA0
  rw [Try.params3] at hA hval hsz
  obtain ⟨v0, vs0, d0, ds0, p0, q0, hargs, rfl, rfl, h0, r0⟩ := trodAll_cons hA
  obtain ⟨v1, vs1, d1, ds1, p1, q1, rfl, rfl, rfl, h1, r1⟩ := trodAll_cons r0
  obtain ⟨v2, vs2, d2, ds2, p2, q2, rfl, rfl, rfl, h2, r2⟩ := trodAll_cons r1
  obtain ⟨rfl, rfl, rfl⟩ := trodAll_nil r2
  obtain rfl : args = #[v0, v1, v2] := by cases args; simp_all
  obtain ⟨rfl, rfl⟩ := trodVars_none hV
  obtain ⟨cs0, rfl, hcl0⟩ := okWide_struct Try.underlying24 (hval 0 24 v0 rfl rfl)
  have k0 := h0
  have lt0 : ∀ x ∈ p0, x.block < W.heap.size := by obtain ⟨m, hm⟩ := k0; exact DataW.trod_lt m _ _ _ hm
  obtain ⟨x0, hx0, hq0⟩ : ∃ x : F24, (k24).K W x cs0.toList ∧ In24 x := by
    obtain ⟨fuel, hf⟩ := h0
    exact rds_24 fuel _ _ hf
  obtain ⟨A0_, c0_, hx0e, hle0, hc0⟩ := k24_open hx0
  obtain ⟨cl0⟩ := cs0
  obtain rfl : cl0 = _ := hx0e
  obtain ⟨cs1, rfl, hcl1⟩ := okWide_struct Try.underlying24 (hval 1 24 v1 rfl rfl)
  have k1 := h1
  have lt1 : ∀ x ∈ p1, x.block < W.heap.size := by obtain ⟨m, hm⟩ := k1; exact DataW.trod_lt m _ _ _ hm
  obtain ⟨x1, hx1, hq1⟩ : ∃ x : F24, (k24).K W x cs1.toList ∧ In24 x := by
    obtain ⟨fuel, hf⟩ := h1
    exact rds_24 fuel _ _ hf
  obtain ⟨A1_, c1_, hx1e, hle1, hc1⟩ := k24_open hx1
  obtain ⟨cl1⟩ := cs1
  obtain rfl : cl1 = _ := hx1e
  obtain ⟨a2, rfl, rfl, rfl, w2⟩ := open_int Try.underlying5 (hval 2 5 v2 rfl rfl) h2
  clear hA0 hval0 hsz0 hsz
  have hw2 : 0 ≤ a2 ∧ a2 ≤ 255 := by simpa [Lit.wf, IntKind.min, IntKind.max, IntKind.signed, IntKind.bits] using w2
  obtain ⟨k, hk⟩ := Ev.rounds (Z.smfSame hq0.1 hq0.2.1 hq0.2.2 hq1.1 hq1.2.1 hq1.2.2 hw2.1 hw2.2)
  refine (partitalaw16_SmfSame.calls k x0.f0 x0.f1 A0_ c0_ x0.f2 x1.f0 x1.f1 A1_ c1_ x1.f2 a2 true W hc0 hle0 hc1 hle1 hk).mono ?_
  rintro e W' ⟨he, bel0⟩
  have bel : Below W.heap.size W W' := bel0
  subst he
  exact ⟨_, rfl, _, _, _, [], _, [], hW', trodAll_mk1 (shut_bool Try.underlying4 _), (trodAll_cons_mk (Below.trod laidOut (by kernel_rfl) (of_decide_eq_true (by kernel_rfl)) k0 bel lt0) (trodAll_cons_mk (Below.trod laidOut (by kernel_rfl) (of_decide_eq_true (by kernel_rfl)) k1 bel lt1) (trodAll_cons_mk (shut_int Try.underlying5 w2) trodAll_mk0))), rfl, bel.frame _, fun h => by cases h⟩
theorem over : Rows.smfSameRow.holds Try.pinned (OpenSpec.ofChange Rows.smfSameSpec) :=
  OpenClaim.holds_of_wide 3 Try.f3 rfl rfl rfl rfl rfl rfl rfl ⟨rfl, rfl, rfl, rfl, rfl⟩ rfl rfl rfl rfl rfl (by kernel_rfl) Try.func3 (by kernel_rfl)
    (of_decide_eq_true (by kernel_rfl)) qq11
    (fun os started H enc _ => lifted os started H enc)
theorem proved : Rows.SmfSameSaid := over
#print axioms proved
end Go.Proofs.Ytdmnknhlibaaoaa.smfSame
namespace Go.Proofs.Ytdmnknhlibaaoaa
theorem smfSame_holds : Rows.SmfSameSaid := smfSame.proved
end Go.Proofs.Ytdmnknhlibaaoaa
