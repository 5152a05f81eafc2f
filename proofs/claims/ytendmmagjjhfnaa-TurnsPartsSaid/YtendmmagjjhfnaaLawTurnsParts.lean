/- The statement TurnsParts: without jumps what begins a repeat parts a piece: what is ahead is played, and then what is behind, as each would be alone. For every input. -/
import Derived.Test.YtendmmagjjhfnaaRows
import Derived.Test.YtendmmagjjhfnaaYP
import Derived.Test.YtendmmagjjhfnaaRA
import Derived.Test.YtendmmagjjhfnaaM36
import Derived.WalkKit
import Derived.ProofKit
import Derived.OpenShut
import Derived.ShutString
import Derived.ChangeOld
import Derived.Below
import Derived.SizedLaws
namespace Go.Proofs.Ytendmmagjjhfnaa.turnsParts
open Go.ChangeShapes Go.WideShapes Go.ChangeAt Go.RowKit Go.Proofs.YtendmmagjjhfnaaW.PrintWords Go.Proofs.Ytendmmagjjhfnaa.M Go.Proofs.Ytendmmagjjhfnaa.R
open Go.ChangeMaps (open_string shut_string)
set_option linter.unusedVariables false
theorem own : ownKnob Try.prog.godebug = none := by kernel_rfl
theorem laidOut : laidOutB Try.prog = true := by kernel_rfl
set_option maxRecDepth 100000 in
theorem lifted (os : Os) (started : os.Started) (H : Type) (enc : TypeId × Value → H) :
    ReturnsInHanded {} Try.checked os 8 .any (Rows.turnsPartsSpec.pre6 enc Try.prog Try.f8 Rows.turnsPartsRow.domain false) (Rows.turnsPartsSpec.post enc Try.prog Try.f8 false true false false) := by
  refine returnsInHanded_of_change_sized (C := Try.checked) own started (by kernel_rfl) Try.func8
    (ChangeSpec.witness6 (enc := enc) (C := Try.checked) false ⟨#[], #[.slice none 0 0, .slice none 0 0], []⟩ 8 (by kernel_rfl) (by kernel_rfl) (by kernel_rfl) (by kernel_rfl)) ?_
  intro W base args ds gs before hval0 hW hcnd hsz0 _
  have hsz : (DataW.weightsEach Try.prog (Try.f8.params.toList ++ Rows.turnsPartsSpec.plain.varTypes Try.prog) (ds ++ gs)).all (· ≤ reachBytes) = true := hsz0
  have hval : ∀ (j : Nat) t v, Try.f8.params[j]? = some t → args[j]? = some v → Value.okWide Try.prog W .any base t v := hval0
  have hW' := hW
  obtain ⟨p, q, hA0, hV, rfl, hfz, hnd⟩ := hW
  have hA : DataW.TrodAll enc Try.prog W 0 (fun _ => true) true Try.f8.params.toList args.toList ds p := hA0
  rw [Try.params8] at hA hval hsz
  obtain ⟨v0, vs0, d0, ds0, p0, q0, hargs, rfl, rfl, h0, r0⟩ := trodAll_cons hA
  obtain ⟨v1, vs1, d1, ds1, p1, q1, rfl, rfl, rfl, h1, r1⟩ := trodAll_cons r0
  obtain ⟨rfl, rfl, rfl⟩ := trodAll_nil r1
  obtain rfl : args = #[v0, v1] := by cases args; simp_all
  obtain ⟨rfl, rfl⟩ := trodVars_none hV
  obtain ⟨a0, len0, cap0, rfl⟩ := okWide_slice Try.underlying23 (hval 0 23 v0 rfl rfl)
  have k0 := h0
  have lt0 : ∀ x ∈ p0, x.block < W.heap.size := by obtain ⟨m, hm⟩ := k0; exact DataW.trod_lt m _ _ _ hm
  obtain ⟨l0, hq0, he0, hle0, hc0⟩ : ∃ l : List S46, (∀ x ∈ l, Byte3 x) ∧ len0 = l.length ∧ l.length ≤ cap0 ∧ Kd.C k46 W a0 l.length l := by
    obtain ⟨fuel, hf⟩ := h0
    obtain ⟨l, ⟨A', c', hcs, hle, hC⟩, hQ⟩ := rds_slice (d := k46) Try.underlying23 (by kernel_rfl) rds_46 fuel _ _ hf
    simp [Value.cells] at hcs
    obtain ⟨rfl, rfl, rfl⟩ := hcs
    exact ⟨l, hQ, rfl, hle, hC⟩
  subst he0
  obtain ⟨a1, len1, cap1, rfl⟩ := okWide_slice Try.underlying23 (hval 1 23 v1 rfl rfl)
  have k1 := h1
  have lt1 : ∀ x ∈ p1, x.block < W.heap.size := by obtain ⟨m, hm⟩ := k1; exact DataW.trod_lt m _ _ _ hm
  obtain ⟨l1, hq1, he1, hle1, hc1⟩ : ∃ l : List S46, (∀ x ∈ l, Byte3 x) ∧ len1 = l.length ∧ l.length ≤ cap1 ∧ Kd.C k46 W a1 l.length l := by
    obtain ⟨fuel, hf⟩ := h1
    obtain ⟨l, ⟨A', c', hcs, hle, hC⟩, hQ⟩ := rds_slice (d := k46) Try.underlying23 (by kernel_rfl) rds_46 fuel _ _ hf
    simp [Value.cells] at hcs
    obtain ⟨rfl, rfl, rfl⟩ := hcs
    exact ⟨l, hQ, rfl, hle, hC⟩
  subst he1
  clear hA0 hval0 hsz0 hsz
  have hby0 : Z.Bytes l0 := fun x hx => ⟨Z.byte_wf (hq0 x hx).1, Z.byte_wf (hq0 x hx).2.1, Z.byte_wf (hq0 x hx).2.2⟩
  have hby1 : Z.Bytes l1 := fun x hx => ⟨Z.byte_wf (hq1 x hx).1, Z.byte_wf (hq1 x hx).2.1, Z.byte_wf (hq1 x hx).2.2⟩
  obtain ⟨k, hk⟩ := Ev.rounds (Z.turnsParts l0 l1 hby0 hby1)
  refine (partitalaw10_TurnsParts.calls k a0 cap0 l0 a1 cap1 l1 true W hc0 hle0 hc1 hle1 hk).mono ?_
  rintro e W' ⟨he, bel0⟩
  have bel : Below W.heap.size W W' := bel0
  subst he
  exact ⟨_, rfl, _, _, _, [], _, [], hW', trodAll_mk1 (shut_bool Try.underlying4 _), (trodAll_cons_mk (Below.trod laidOut (by kernel_rfl) (of_decide_eq_true (by kernel_rfl)) k0 bel lt0) (trodAll_cons_mk (Below.trod laidOut (by kernel_rfl) (of_decide_eq_true (by kernel_rfl)) k1 bel lt1) trodAll_mk0)), rfl, bel.frame _, fun h => by cases h⟩
theorem over : Rows.turnsPartsRow.holds Try.pinned (OpenSpec.ofChange Rows.turnsPartsSpec) :=
  OpenClaim.holds_of_wide 8 Try.f8 rfl rfl rfl rfl rfl rfl rfl ⟨rfl, rfl, rfl, rfl, rfl⟩ rfl rfl rfl rfl rfl (by kernel_rfl) Try.func8 (by kernel_rfl)
    (of_decide_eq_true (by kernel_rfl)) (by unfold Func.isWrapper; first | (rw [if_pos (by decide +kernel)]; kernel_rfl) | (rw [if_neg (by decide +kernel)]; exact ⟨rfl, rfl⟩))
    (fun os started H enc _ => lifted os started H enc)
theorem proved : Rows.TurnsPartsSaid := over
#print axioms proved
end Go.Proofs.Ytendmmagjjhfnaa.turnsParts
namespace Go.Proofs.Ytendmmagjjhfnaa
/-- The row, under a short name, for the claim. -/
theorem turnsParts_holds : Rows.TurnsPartsSaid := turnsParts.proved
end Go.Proofs.Ytendmmagjjhfnaa
