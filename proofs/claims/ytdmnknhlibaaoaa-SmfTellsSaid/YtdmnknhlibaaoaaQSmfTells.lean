/- The statement SmfTells: which files may be, their bytes, what is read of bytes, and which are the same, are as the document says. For every input. -/
import Derived.Test.YtdmnknhlibaaoaaRows
import Derived.WalkKit
import Derived.ProofKit
import Derived.OpenShut
import Derived.ShutString
import Derived.ChangeOld
import Derived.Below
import Derived.SizedLaws
import Derived.Test.YtdmnknhlibaaoaaCW
import Derived.Test.YtdmnknhlibaaoaaC6
import Derived.Test.YtdmnknhlibaaoaaC5
namespace Go.Proofs.Ytdmnknhlibaaoaa.smfTells
open Go.ChangeShapes Go.WideShapes Go.ChangeAt Go.RowKit Go.Proofs.YtdmnknhlibaaoaaW.PrintWords Go.Proofs.Ytdmnknhlibaaoaa.M Go.Proofs.Ytdmnknhlibaaoaa.R
open Go.ChangeMaps (open_string shut_string)
set_option linter.unusedVariables false
theorem own : ownKnob Try.prog.godebug = none := by kernel_rfl
theorem laidOut : laidOutB Try.prog = true := by kernel_rfl
set_option maxRecDepth 100000 in
theorem lifted (os : Os) (started : os.Started) (H : Type) (enc : TypeId × Value → H) :
 ReturnsInHanded {} Try.checked os 4 .any (Rows.smfTellsSpec.pre6 enc Try.prog Try.f4 Rows.smfTellsRow.domain false) (Rows.smfTellsSpec.post enc Try.prog Try.f4 false true false false) := by
 refine returnsInHanded_of_change_sized (C := Try.checked) own started (by kernel_rfl) Try.func4
  (ChangeSpec.witness6 (enc := enc) (C := Try.checked) false ⟨#[], #[.agg #[.int .i64 0, .int .i64 0, .slice none 0 0], .agg #[.int .i64 0, .int .i64 0, .slice none 0 0], .string ByteArray.empty, .int .i64 0, .int .u8 0], []⟩ 8 (by kernel_rfl) (by kernel_rfl) (by kernel_rfl) (by kernel_rfl)) ?_
 intro W base args ds gs before Lx hW hcnd Yu _
 have YF : (DataW.weightsEach Try.prog (Try.f4.params.toList ++ Rows.smfTellsSpec.plain.varTypes Try.prog) (ds ++ gs)).all (· ≤ reachBytes) = true := Yu
 have TQ : ∀ (j : Nat) t v, Try.f4.params[j]? = some t → args[j]? = some v → Value.okWide Try.prog W .any base t v := Lx
 have hW' := hW
 obtain ⟨p, q, hA0, hV, rfl, hfz, hnd⟩ := hW
 have hA : DataW.TrodAll enc Try.prog W 0 (fun _ => true) true Try.f4.params.toList args.toList ds p := hA0
 rw [Try.params4] at hA TQ YF
 obtain ⟨v0, vs0, d0, ds0, p0, q0, TP, rfl, rfl, h0, r0⟩ := trodAll_cons hA
 obtain ⟨v1, vs1, d1, ds1, p1, q1, rfl, rfl, rfl, h1, r1⟩ := trodAll_cons r0
 obtain ⟨v2, vs2, d2, ds2, p2, q2, rfl, rfl, rfl, h2, r2⟩ := trodAll_cons r1
 obtain ⟨v3, vs3, d3, ds3, p3, q3, rfl, rfl, rfl, h3, r3⟩ := trodAll_cons r2
 obtain ⟨v4, vs4, d4, ds4, p4, q4, rfl, rfl, rfl, h4, r4⟩ := trodAll_cons r3
 obtain ⟨rfl, rfl, rfl⟩ := trodAll_nil r4
 obtain rfl : args = #[v0, v1, v2, v3, v4] := by cases args; simp_all
 obtain ⟨rfl, rfl⟩ := trodVars_none hV
 obtain ⟨Vw, rfl, di1⟩ := okWide_struct Try.underlying24 (TQ 0 24 v0 rfl rfl)
 have k0 := h0
 have lt0 : ∀ x ∈ p0, x.block < W.heap.size := by obtain ⟨m, hm⟩ := k0; exact DataW.trod_lt m _ _ _ hm
 obtain ⟨x0, hx0, FT⟩ : ∃ x : fR, (GZ).K W x Vw.toList ∧ Vl x := by
  obtain ⟨fuel, hf⟩ := h0
  exact ak0 fuel _ _ hf
 obtain ⟨A0_, c0_, bn4, ci3, i_⟩ := am7 hx0
 obtain ⟨cl0⟩ := Vw
 obtain rfl : cl0 = _ := bn4
 obtain ⟨Qr, rfl, fd1⟩ := okWide_struct Try.underlying24 (TQ 1 24 v1 rfl rfl)
 have k1 := h1
 have lt1 : ∀ x ∈ p1, x.block < W.heap.size := by obtain ⟨m, hm⟩ := k1; exact DataW.trod_lt m _ _ _ hm
 obtain ⟨x1, vJ, Vj⟩ : ∃ x : fR, (GZ).K W x Qr.toList ∧ Vl x := by
  obtain ⟨fuel, hf⟩ := h1
  exact ak0 fuel _ _ hf
 obtain ⟨A1_, c1_, ax3, ba5, uI⟩ := am7 vJ
 obtain ⟨cl1⟩ := Qr
 obtain rfl : cl1 = _ := ax3
 obtain ⟨a2, rfl, rfl, rfl, y2⟩ := open_string Try.underlying9 (TQ 2 9 v2 rfl rfl) h2
 have w2 : a2.size ≤ 140737488351232 := by
  have z := sized_string YF (j := 2) (t := 9) rfl rfl
  rw [Array.length_toList] at z
  exact z
 obtain ⟨a3, rfl, rfl, rfl, w3⟩ := open_int Try.underlying3 (TQ 3 3 v3 rfl rfl) h3
 obtain ⟨a4, rfl, rfl, rfl, w4⟩ := open_int Try.underlying5 (TQ 4 5 v4 rfl rfl) h4
 clear hA0 Lx Yu YF
 have Bv : In64 a3 := ZM w3
 have Zz : 0 ≤ a4 ∧ a4 ≤ 255 := by simpa [Lit.wf, IntKind.min, IntKind.max, IntKind.signed, IntKind.bits] using w4
 obtain ⟨k, X⟩ := Ev.rounds (Z.smfTells FT.1 FT.2.1 FT.2.2 Vj.1 Vj.2.1 Vj.2.2 w2 Bv Zz.1 Zz.2)
 refine (yD.calls k x0.f0 x0.f1 A0_ c0_ x0.f2 x1.f0 x1.f1 A1_ c1_ x1.f2 a2 a3 a4 true W i_ ci3 uI ba5 X).mono ?_
 rintro e W' ⟨he, au7⟩
 have Za : Below W.heap.size W W' := au7
 subst he
 exact ⟨_, rfl, _, _, _, [], _, [], hW', trodAll_mk1 (shut_bool Try.underlying4 _), (trodAll_cons_mk (Below.trod laidOut (by kernel_rfl) (of_decide_eq_true (by kernel_rfl)) k0 Za lt0) (trodAll_cons_mk (Below.trod laidOut (by kernel_rfl) (of_decide_eq_true (by kernel_rfl)) k1 Za lt1) (trodAll_cons_mk (shut_string Try.underlying9 y2) (trodAll_cons_mk (shut_int Try.underlying3 w3) (trodAll_cons_mk (shut_int Try.underlying5 w4) trodAll_mk0))))), rfl, Za.frame _, fun h => by cases h⟩
theorem co4 : Rows.smfTellsRow.holds Try.pinned (OpenSpec.ofChange Rows.smfTellsSpec) :=
 OpenClaim.holds_of_wide 4 Try.f4 rfl rfl rfl rfl rfl rfl rfl ⟨rfl, rfl, rfl, rfl, rfl⟩ rfl rfl rfl rfl rfl (by kernel_rfl) Try.func4 (by kernel_rfl)
  (of_decide_eq_true (by kernel_rfl)) (by unfold Func.isWrapper; first | (rw [if_pos (by decide +kernel)]; kernel_rfl) | (rw [if_neg (by decide +kernel)]; exact ⟨rfl, rfl⟩))
  (fun os started H enc _ => lifted os started H enc)
theorem proved : Rows.SmfTellsSaid := co4
#print axioms proved
end Go.Proofs.Ytdmnknhlibaaoaa.smfTells
namespace Go.Proofs.Ytdmnknhlibaaoaa
theorem smfTells_holds : Rows.SmfTellsSaid := smfTells.proved
end Go.Proofs.Ytdmnknhlibaaoaa
