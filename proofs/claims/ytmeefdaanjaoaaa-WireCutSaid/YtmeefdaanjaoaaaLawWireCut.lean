/- The statement WireCut: of bytes that are cut off all messages that are whole are right, and the place that is told is where the first one begins that isn't. For every input. -/
import Derived.Test.YtmeefdaanjaoaaaRows
import Derived.Test.YtmeefdaanjaoaaaYWireCut
import Derived.Test.YtmeefdaanjaoaaaR1
import Derived.Test.YtmeefdaanjaoaaaM40
import Derived.WalkKit
import Derived.ProofKit
import Derived.OpenShut
import Derived.ShutString
import Derived.ChangeOld
import Derived.Below
import Derived.SizedLaws
namespace Go.Proofs.Ytmeefdaanjaoaaa.wireCut
open Go.ChangeShapes Go.WideShapes Go.ChangeAt Go.RowKit Go.Proofs.YtmeefdaanjaoaaaW.PrintWords Go.Proofs.Ytmeefdaanjaoaaa.M Go.Proofs.Ytmeefdaanjaoaaa.R
open Go.ChangeMaps (open_string shut_string)
set_option linter.unusedVariables false
theorem own : ownKnob Try.prog.godebug = none := by kernel_rfl
theorem laidOut : laidOutB Try.prog = true := by kernel_rfl
set_option maxRecDepth 100000 in
theorem lifted (os : Os) (started : os.Started) (H : Type) (enc : TypeId × Value → H) :
    ReturnsInHanded {} Try.checked os 12 .any (Rows.wireCutSpec.pre6 enc Try.prog Try.f12 Rows.wireCutRow.domain false) (Rows.wireCutSpec.post enc Try.prog Try.f12 false true false false) := by
  refine returnsInHanded_of_change_sized (C := Try.checked) own started (by kernel_rfl) Try.func12
    (ChangeSpec.witness6 (enc := enc) (C := Try.checked) false ⟨#[], #[.slice none 0 0, .int .u16 0], []⟩ 8 (by kernel_rfl) (by kernel_rfl) (by kernel_rfl) (by kernel_rfl)) ?_
  intro W base args ds gs before hval0 hW hcnd hsz0 _
  have hsz : (DataW.weightsEach Try.prog (Try.f12.params.toList ++ Rows.wireCutSpec.plain.varTypes Try.prog) (ds ++ gs)).all (· ≤ reachBytes) = true := hsz0
  have hval : ∀ (j : Nat) t v, Try.f12.params[j]? = some t → args[j]? = some v → Value.okWide Try.prog W .any base t v := hval0
  have hW' := hW
  obtain ⟨p, q, hA0, hV, rfl, hfz, hnd⟩ := hW
  have hA : DataW.TrodAll enc Try.prog W 0 (fun _ => true) true Try.f12.params.toList args.toList ds p := hA0
  rw [Try.params12] at hA hval hsz
  obtain ⟨v0, vs0, d0, ds0, p0, q0, hargs, rfl, rfl, h0, r0⟩ := trodAll_cons hA
  obtain ⟨v1, vs1, d1, ds1, p1, q1, rfl, rfl, rfl, h1, r1⟩ := trodAll_cons r0
  obtain ⟨rfl, rfl, rfl⟩ := trodAll_nil r1
  obtain rfl : args = #[v0, v1] := by cases args; simp_all
  obtain ⟨rfl, rfl⟩ := trodVars_none hV
  obtain ⟨a0, len0, cap0, rfl⟩ := okWide_slice Try.underlying33 (hval 0 33 v0 rfl rfl)
  have k0 := h0
  have lt0 : ∀ x ∈ p0, x.block < W.heap.size := by obtain ⟨m, hm⟩ := k0; exact DataW.trod_lt m _ _ _ hm
  obtain ⟨l0, hq0, he0, hle0, hc0⟩ : ∃ l : List S31, (∀ x ∈ l, (fun _ => True) x) ∧ len0 = l.length ∧ l.length ≤ cap0 ∧ Kd.C k31 W a0 l.length l := by
    obtain ⟨fuel, hf⟩ := h0
    obtain ⟨l, ⟨A', c', hcs, hle, hC⟩, hQ⟩ := rds_slice (d := k31) Try.underlying33 (by kernel_rfl) rds_31 fuel _ _ hf
    simp [Value.cells] at hcs
    obtain ⟨rfl, rfl, rfl⟩ := hcs
    exact ⟨l, hQ, rfl, hle, hC⟩
  subst he0
  obtain ⟨a1, rfl, rfl, rfl, w1⟩ := open_int Try.underlying41 (hval 1 41 v1 rfl rfl) h1
  clear hA0 hval0 hsz0 hsz
  have hw1 : 0 ≤ a1 ∧ a1 ≤ 65535 := by simpa [Lit.wf, IntKind.min, IntKind.max, IntKind.signed, IntKind.bits] using w1
  obtain ⟨k, hk⟩ := Ev.rounds (Z.wireCut l0 a1 hw1.1 hw1.2)
  refine (partitalaw15_WireCut.calls k a0 cap0 l0 a1 true W hc0 hle0 hk).mono ?_
  rintro e W' ⟨he, bel0⟩
  have bel : Below W.heap.size W W' := bel0
  subst he
  exact ⟨_, rfl, _, _, _, [], _, [], hW', trodAll_mk1 (shut_bool Try.underlying4 _), (trodAll_cons_mk (Below.trod laidOut (by kernel_rfl) (of_decide_eq_true (by kernel_rfl)) k0 bel lt0) (trodAll_cons_mk (shut_int Try.underlying41 w1) trodAll_mk0)), rfl, bel.frame _, fun h => by cases h⟩
theorem over : Rows.wireCutRow.holds Try.pinned (OpenSpec.ofChange Rows.wireCutSpec) :=
  OpenClaim.holds_of_wide 12 Try.f12 rfl rfl rfl rfl rfl rfl rfl ⟨rfl, rfl, rfl, rfl, rfl⟩ rfl rfl rfl rfl rfl (by kernel_rfl) Try.func12 (by kernel_rfl)
    (of_decide_eq_true (by kernel_rfl)) (by unfold Func.isWrapper; first | (rw [if_pos (by decide +kernel)]; kernel_rfl) | (rw [if_neg (by decide +kernel)]; exact ⟨rfl, rfl⟩))
    (fun os started H enc _ => lifted os started H enc)
theorem proved : Rows.WireCutSaid := over
#print axioms proved
end Go.Proofs.Ytmeefdaanjaoaaa.wireCut
namespace Go.Proofs.Ytmeefdaanjaoaaa
/-- The row, under a short name, for the claim. -/
theorem wireCut_holds : Rows.WireCutSaid := wireCut.proved
end Go.Proofs.Ytmeefdaanjaoaaa
