/- The statement TurnsTells: which turns may be, the bars as they are played, and their passes, are as the document says. For every input. -/
import Derived.Test.YtendmmagjjhfnaaRows
import Derived.WalkKit
import Derived.ProofKit
import Derived.OpenShut
import Derived.ShutString
import Derived.ChangeOld
import Derived.Below
import Derived.SizedLaws
import Derived.Test.YtendmmagjjhfnaaCW
import Derived.Test.YtendmmagjjhfnaaC6
namespace Go.Proofs.Ytendmmagjjhfnaa.turnsTells
open Go.ChangeShapes Go.WideShapes Go.ChangeAt Go.RowKit Go.Proofs.YtendmmagjjhfnaaW.PrintWords Go.Proofs.Ytendmmagjjhfnaa.M Go.Proofs.Ytendmmagjjhfnaa.R
open Go.ChangeMaps (open_string shut_string)
set_option linter.unusedVariables false
theorem own : ownKnob Try.prog.godebug = none := by kernel_rfl
theorem laidOut : laidOutB Try.prog = true := by kernel_rfl
set_option maxRecDepth 100000 in
theorem lifted (os : Os) (started : os.Started) (H : Type) (enc : TypeId × Value → H) :
    ReturnsInHanded {} Try.checked os 3 .any (Rows.turnsTellsSpec.pre6 enc Try.prog Try.f3 Rows.turnsTellsRow.domain false) (Rows.turnsTellsSpec.post enc Try.prog Try.f3 false true false false) := by
  refine returnsInHanded_of_change_sized (C := Try.checked) own started (by kernel_rfl) Try.func3
    (ChangeSpec.witness6 (enc := enc) (C := Try.checked) false ⟨#[], #[.slice none 0 0, .slice none 0 0, .agg #[.int .u8 0, .int .u8 0, .int .u8 0, .int .u8 0]], []⟩ 8 (by kernel_rfl) (by kernel_rfl) (by kernel_rfl) (by kernel_rfl)) ?_
  intro W base args ds gs before hval0 hW hcnd hsz0 _
  have hsz : (DataW.weightsEach Try.prog (Try.f3.params.toList ++ Rows.turnsTellsSpec.plain.varTypes Try.prog) (ds ++ gs)).all (· ≤ reachBytes) = true := hsz0
  have hval : ∀ (j : Nat) t v, Try.f3.params[j]? = some t → args[j]? = some v → Value.okWide Try.prog W .any base t v := hval0
  have hW' := hW
  obtain ⟨p, q, hA0, hV, rfl, hfz, hnd⟩ := hW
  have hA : DataW.TrodAll enc Try.prog W 0 (fun _ => true) true Try.f3.params.toList args.toList ds p := hA0
  rw [Try.params3] at hA hval hsz
  obtain ⟨v0, vs0, d0, ds0, p0, q0, hargs, rfl, rfl, h0, r0⟩ := trodAll_cons hA
  obtain ⟨v1, vs1, d1, ds1, p1, q1, rfl, rfl, rfl, h1, r1⟩ := trodAll_cons r0
  obtain ⟨v2, vs2, d2, ds2, p2, q2, rfl, rfl, rfl, h2, r2⟩ := trodAll_cons r1
  obtain ⟨rfl, rfl, rfl⟩ := trodAll_nil r2
  obtain rfl : args = #[v0, v1, v2] := by cases args; simp_all
  obtain ⟨rfl, rfl⟩ := trodVars_none hV
  obtain ⟨a0, len0, cap0, rfl⟩ := okWide_slice Try.underlying22 (hval 0 22 v0 rfl rfl)
  have k0 := h0
  have lt0 : ∀ x ∈ p0, x.block < W.heap.size := by obtain ⟨m, hm⟩ := k0; exact DataW.trod_lt m _ _ _ hm
  obtain ⟨l0, hq0, he0, hle0, hc0⟩ : ∃ l : List S38, (∀ x ∈ l, Few38 x) ∧ len0 = l.length ∧ l.length ≤ cap0 ∧ Kd.C k38 W a0 l.length l := by
    obtain ⟨fuel, hf⟩ := h0
    obtain ⟨l, ⟨A', c', hcs, hle, hC⟩, hQ⟩ := rds_slice (d := k38) Try.underlying22 (by kernel_rfl) rds_38 fuel _ _ hf
    simp [Value.cells] at hcs
    obtain ⟨rfl, rfl, rfl⟩ := hcs
    exact ⟨l, hQ, rfl, hle, hC⟩
  subst he0
  obtain ⟨a1, len1, cap1, rfl⟩ := okWide_slice Try.underlying23 (hval 1 23 v1 rfl rfl)
  have k1 := h1
  have lt1 : ∀ x ∈ p1, x.block < W.heap.size := by obtain ⟨m, hm⟩ := k1; exact DataW.trod_lt m _ _ _ hm
  obtain ⟨l1, hq1, he1, hle1, hc1⟩ : ∃ l : List S46, (∀ x ∈ l, Byte3 x) ∧ len1 = l.length ∧ l.length ≤ cap1 ∧ Kd.C k46 W a1 l.length l := by
    obtain ⟨fuel, hf⟩ := h1
    obtain ⟨l, ⟨A', c', hcs, hle, hC⟩, hQ⟩ := rds_slice (d := k46) Try.underlying23 (by kernel_rfl) rds_46 fuel _ _ hf
    simp [Value.cells] at hcs
    obtain ⟨rfl, rfl, rfl⟩ := hcs
    exact ⟨l, hQ, rfl, hle, hC⟩
  subst he1
  obtain ⟨z2_0, z2_1, z2_2, z2_3, rfl⟩ := okWide_24 (hval 2 24 v2 rfl rfl)
  have k2 := h2
  have lt2 : ∀ x ∈ p2, x.block < W.heap.size := by obtain ⟨m, hm⟩ := k2; exact DataW.trod_lt m _ _ _ hm
  obtain ⟨fuel2, hf2⟩ := h2
  obtain ⟨a2_0, a2_1, a2_2, a2_3, rfl, rfl, rfl, rfl, hw2_0, hw2_1, hw2_2, hw2_3⟩ := rds_24 hf2
  clear hA0 hval0 hsz0 hsz
  have hby1 : Z.Bytes l1 := fun x hx => ⟨Z.byte_wf (hq1 x hx).1, Z.byte_wf (hq1 x hx).2.1, Z.byte_wf (hq1 x hx).2.2⟩
  obtain ⟨k, hk⟩ := Ev.rounds (Z.turnsTells (l0 := l0) hq0 hby1 hw2_0 hw2_1 hw2_2 hw2_3)
  refine (partitalaw10_TurnsTells.calls k a0 cap0 l0 a1 cap1 l1 a2_0 a2_1 a2_2 a2_3 true W hc0 hle0 hc1 hle1 hk).mono ?_
  rintro e W' ⟨he, bel0⟩
  have bel : Below W.heap.size W W' := bel0
  subst he
  exact ⟨_, rfl, _, _, _, [], _, [], hW', trodAll_mk1 (shut_bool Try.underlying4 _), (trodAll_cons_mk (Below.trod laidOut (by kernel_rfl) (of_decide_eq_true (by kernel_rfl)) k0 bel lt0) (trodAll_cons_mk (Below.trod laidOut (by kernel_rfl) (of_decide_eq_true (by kernel_rfl)) k1 bel lt1) (trodAll_cons_mk (Below.trod laidOut (by kernel_rfl) (of_decide_eq_true (by kernel_rfl)) k2 bel lt2) trodAll_mk0))), rfl, bel.frame _, fun h => by cases h⟩
theorem over : Rows.turnsTellsRow.holds Try.pinned (OpenSpec.ofChange Rows.turnsTellsSpec) :=
  OpenClaim.holds_of_wide 3 Try.f3 rfl rfl rfl rfl rfl rfl rfl ⟨rfl, rfl, rfl, rfl, rfl⟩ rfl rfl rfl rfl rfl (by kernel_rfl) Try.func3 (by kernel_rfl)
    (of_decide_eq_true (by kernel_rfl)) (by unfold Func.isWrapper; first | (rw [if_pos (by decide +kernel)]; kernel_rfl) | (rw [if_neg (by decide +kernel)]; exact ⟨rfl, rfl⟩))
    (fun os started H enc _ => lifted os started H enc)
theorem proved : Rows.TurnsTellsSaid := over
#print axioms proved
end Go.Proofs.Ytendmmagjjhfnaa.turnsTells
namespace Go.Proofs.Ytendmmagjjhfnaa
theorem turnsTells_holds : Rows.TurnsTellsSaid := turnsTells.proved
end Go.Proofs.Ytendmmagjjhfnaa
