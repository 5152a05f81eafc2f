/- The statement SmfScale: a key's scale, each note a key down and up again, through messages, their bytes and a file, and read back from it, is that scale. For every input; the package's table of half tones is tied to the program's text (the given tie). -/
import Derived.Test.YtdmnknhlibaaoaaDoorRows
import Derived.Test.YtdmnknhlibaaoaaDoorCards
import Derived.Test.YtdmnknhlibaaoaaDoorTie
import Derived.SevenTiedAt
import Derived.WalkKit
import Derived.ProofKit
import Derived.OpenShut
import Derived.ShutString
import Derived.ChangeOld
import Derived.Below
import Derived.SizedLaws
import Derived.Lib.LaidTab
import Derived.LaidLaws
import Derived.Handed
import Derived.Test.YtdmnknhlibaaoaaDoorCW
import Derived.Test.YtdmnknhlibaaoaaDoorC6
import Derived.Test.YtdmnknhlibaaoaaDoorC5
namespace Go.Proofs.YtdmnknhlibaaoaaDoor.smfScale
open Go.ChangeShapes Go.WideShapes Go.ChangeAt Go.RowKit Go.Proofs.YtdmnknhlibaaoaaDoorW.PrintWords Go.Proofs.YtdmnknhlibaaoaaDoor.M Go.Proofs.YtdmnknhlibaaoaaDoor.R
open Go.ChangeMaps (open_string shut_string)
set_option linter.unusedVariables false
theorem own : ownKnob Tryd.prog.godebug = none := by kernel_rfl
theorem laidOut : laidOutB Tryd.prog = true := by kernel_rfl
theorem halfN : Tryd.prog.globalNamed "partita/pitch.halfTones" = some 0 := by kernel_rfl
theorem glob_of {W : World} (h : laidMet Tryd.prog Rows.smfScaleRow.laid W) : Glob W := fun i hi => by
  have ht : Lib.TabIs Tryd.prog W "partita/pitch.halfTones" .i64 halfTab := Lib.tabIs_of_head (g := 0) (t := 79) (e := 3) (n := 7) halfN (by kernel_rfl) Tryd.underlying79 Tryd.underlying3 (by kernel_rfl) (by kernel_rfl) h
  exact ht.cell halfN i hi
noncomputable def tabWorld (os : Os) : World :=
  let w0 := World.holding Tryd.prog os ⟨#[], #[], []⟩
  { w0 with heap := w0.heap.modify 0 fun
      | .cells _ t frozen => .cells #[.int .i64 0, .int .i64 2, .int .i64 4, .int .i64 5, .int .i64 7, .int .i64 9, .int .i64 11] t frozen
      | o => o }
theorem laid_met (os : Os) (args : Array Value) : laidMet Tryd.prog Rows.smfScaleRow.laid ((tabWorld os).forCall (fun _ _ => 0) ⟨#[], args, []⟩).memory :=
  laidMet_of_run (ps := [.cell 0 0, .cell 0 1, .cell 0 2, .cell 0 3, .cell 0 4, .cell 0 5, .cell 0 6]) 8 (by kernel_rfl) (by kernel_rfl) (by kernel_rfl)
set_option maxRecDepth 100000 in
theorem lifted (os : Os) (started : os.Started) (H : Type) (enc : TypeId × Value → H) :
    ReturnsInHanded {} Tryd.checked os 3 .any (fun w args => (Rows.smfScaleSpec.pre enc Tryd.prog Tryd.f3 Rows.smfScaleRow.domain false w args ∧ laidMet Tryd.prog Rows.smfScaleRow.laid w) ∧ sizedMet enc Tryd.prog Tryd.f3 (OpenSpec.ofChange Rows.smfScaleSpec) false w args) (Rows.smfScaleSpec.post enc Tryd.prog Tryd.f3 false true false false) := by
  refine returnsInHanded_of_change_and (C := Tryd.checked) (X := fun w _ => laidMet Tryd.prog Rows.smfScaleRow.laid w) (fun _ _ _ hh h => h.of_heap hh) own started (by kernel_rfl) Tryd.func3
    (ChangeSpec.witness_at (enc := enc) (C := Tryd.checked) (os := os) (X := fun w _ => laidMet Tryd.prog Rows.smfScaleRow.laid w) false (tabWorld os) #[.agg #[.int .i64 0, .bool false], .int .i64 0, .int .u8 0] 8 rfl (by kernel_rfl) (by kernel_rfl) (by kernel_rfl) (by kernel_rfl) (by kernel_rfl) (laid_met os _)) ?_
  intro W base args ds gs before hval0 hW hcnd hsz0 hL _
  have hsz : (DataW.weightsEach Tryd.prog (Tryd.f3.params.toList ++ Rows.smfScaleSpec.plain.varTypes Tryd.prog) (ds ++ gs)).all (· ≤ reachBytes) = true := hsz0
  have hval : ∀ (j : Nat) t v, Tryd.f3.params[j]? = some t → args[j]? = some v → Value.okWide Tryd.prog W .any base t v := hval0
  have hW' := hW
  obtain ⟨p, q, hA0, hV, rfl, hfz, hnd⟩ := hW
  have hA : DataW.TrodAll enc Tryd.prog W 0 (fun _ => true) true Tryd.f3.params.toList args.toList ds p := hA0
  rw [Tryd.params3] at hA hval hsz
  obtain ⟨v0, vs0, d0, ds0, p0, q0, hargs, rfl, rfl, h0, r0⟩ := trodAll_cons hA
  obtain ⟨v1, vs1, d1, ds1, p1, q1, rfl, rfl, rfl, h1, r1⟩ := trodAll_cons r0
  obtain ⟨v2, vs2, d2, ds2, p2, q2, rfl, rfl, rfl, h2, r2⟩ := trodAll_cons r1
  obtain ⟨rfl, rfl, rfl⟩ := trodAll_nil r2
  obtain rfl : args = #[v0, v1, v2] := by cases args; simp_all
  obtain ⟨rfl, rfl⟩ := trodVars_none hV
  obtain ⟨cs0, rfl, hcl0⟩ := okWide_struct Tryd.underlying23 (hval 0 23 v0 rfl rfl)
  have k0 := h0
  have lt0 : ∀ x ∈ p0, x.block < W.heap.size := by obtain ⟨m, hm⟩ := k0; exact DataW.trod_lt m _ _ _ hm
  obtain ⟨x0, hx0, hq0⟩ : ∃ x : F23, (k23).K W x cs0.toList ∧ (fun x => In64 x.f0) x := by
    obtain ⟨fuel, hf⟩ := h0
    exact rds_23 fuel _ _ hf
  have hx0e := k23_open hx0
  obtain ⟨cl0⟩ := cs0
  obtain rfl : cl0 = _ := hx0e
  obtain ⟨a1, rfl, rfl, rfl, w1⟩ := open_int Tryd.underlying3 (hval 1 3 v1 rfl rfl) h1
  obtain ⟨a2, rfl, rfl, rfl, w2⟩ := open_int Tryd.underlying5 (hval 2 5 v2 rfl rfl) h2
  clear hA0 hval0 hsz0 hsz
  have hw1 : In64 a1 := in64_wf w1
  have hw2 : 0 ≤ a2 ∧ a2 ≤ 255 := by simpa [Lit.wf, IntKind.min, IntKind.max, IntKind.signed, IntKind.bits] using w2
  obtain ⟨k, hk⟩ := Ev.rounds (Z.smfScale (m := x0.f1) hq0 hw1 hw2)
  refine (partitalaw16_SmfScale.calls k x0.f0 x0.f1 a1 a2 true W hk (glob_of hL)).mono ?_
  rintro e W' ⟨he, bel0⟩
  have bel : Below W.heap.size W W' := bel0
  subst he
  exact ⟨_, rfl, _, _, _, [], _, [], hW', trodAll_mk1 (shut_bool Tryd.underlying4 _), (trodAll_cons_mk (Below.trod laidOut (by kernel_rfl) (of_decide_eq_true (by kernel_rfl)) k0 bel lt0) (trodAll_cons_mk (shut_int Tryd.underlying3 w1) (trodAll_cons_mk (shut_int Tryd.underlying5 w2) trodAll_mk0))), rfl, bel.frame _, fun h => by cases h⟩
theorem over : Rows.smfScaleRow.holds Tryd.pinned (OpenSpec.ofChange Rows.smfScaleSpec) :=
  OpenClaim.holds_of_wide 3 Tryd.f3 rfl rfl rfl rfl rfl rfl rfl ⟨rfl, rfl, rfl, rfl, rfl⟩ rfl rfl rfl rfl rfl (by kernel_rfl) Tryd.func3 (by kernel_rfl)
    (of_decide_eq_true (by kernel_rfl)) (by unfold Func.isWrapper; first | (rw [if_pos (by decide +kernel)]; kernel_rfl) | (rw [if_neg (by decide +kernel)]; exact ⟨rfl, rfl⟩))
    (fun os started H enc _ => lifted os started H enc)
theorem proved : Rows.SmfScaleSaid := over
#print axioms proved
end Go.Proofs.YtdmnknhlibaaoaaDoor.smfScale
namespace Go.Proofs.YtdmnknhlibaaoaaDoor
theorem smfScale_holds : Rows.SmfScaleSaid := smfScale.proved
theorem smfScale_card_holds : Rows.SmfScaleCardSaid :=
  Claim7.holds_tied_plain_at .later [] [.data] true (true, "a57ce1ece8c54cb28b8831fe2987079174d33432fea87ba335f8a3dbea81498e") true
    smfScale_holds (fun _ h => by cases h) (by kernel_rfl) (fun _ h => by cases h) smfScale_row_tie rfl ⟨rfl, rfl⟩ (by kernel_rfl) rfl
    (fun f fn hf hfn => by
      obtain rfl : f = 3 := Option.some.inj ((show Tryd.prog.funcNamed "partita/partitalaw16.SmfScale" = some 3 by kernel_rfl).symm.trans hf) |>.symm
      obtain rfl : fn = Tryd.f3 := (Option.some.inj (Tryd.func3.symm.trans hfn)).symm
      exact ⟨by kernel_rfl, fun j t ht => by
        rw [Tryd.params3] at ht
        have hm : t ∈ [23, 3, 5] := by simpa using Array.mem_of_getElem? ht
        have hall : ([23, 3, 5].all fun u => !Tryd.prog.wantsStandIn u) = true := by kernel_rfl
        exact (show Tryd.prog.wantsStandIn t = false by simpa using List.all_eq_true.1 hall t hm)⟩)
    (by kernel_rfl)
#print axioms smfScale_card_holds
end Go.Proofs.YtdmnknhlibaaoaaDoor
