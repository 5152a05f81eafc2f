/-
  No cell of these rows narrows 'for every input' (looked for: loops, veiled, ifaces, maps, wideKeys, modest, calm, conditions, laid).
  DERIVED. THE GIVEN ROWS OF THIS SEAT. 11 by the template 'for every input the law returns true; each argument reads behind the call as it read before'; 0 by the template 'total and deterministic' (their statements: YtmeefdaanjaoaaaTotals.lean).
  GIVEN WITH THE SEED: the statements are not yours to turn. If you find one false, say at which input.
  Laid BY PROGRAM, IN A SANDBOX (cutbox-rows.mjs): the forced cells as the released guide's own fill.sh prints them over the translation c6b9d46896e670b3… (all of the seat's roots in one cut). By AI agents, Wed Nov 11 2026. No macro, syntax, notation, axiom, sorry.
-/
import Derived.Test.YtmeefdaanjaoaaaChecked
import GoSem.Claim
import GoSem.ClaimJoined
import GoSem.ClaimMapViews
import Derived.JoinedTies
import Derived.KernelRfl
namespace Go.Proofs.Ytmeefdaanjaoaaa
/- THE CELL 'sum', in the pinned program and in every row, IS THE sha256 OF THE DUMP (.gsa) THAT YtmeefdaanjaoaaaProg.lean LOADS. Nothing in Lean hashes anything: it is a label: what it is worth is what the hold of that sum in a sandbox is worth. -/
noncomputable def Try.pinned : Pinned := { name := "ytmeefdaanjaoaaa", sum := "c6b9d46896e670b30ff1046928c6f17e8b60dc6c71f2432569f73e82bf44828c", checked := Try.checked }
namespace Rows
def none {H : Type} : Left H := { results := [], args := [] }

/-- 'partitalaw15.WireNumbers': WHATEVER THE INPUT: true; the input reads as it did. -/
def wireNumbersSpec : ChangeSpec := { name := "wireNumbers", fn := fun _ => fun
  | [d] => { results := [.lit (.bool true)], args := [d] }
  | _ => none }
def wireNumbersRow : OpenClaim := { program := "ytmeefdaanjaoaaa", sum := "c6b9d46896e670b30ff1046928c6f17e8b60dc6c71f2432569f73e82bf44828c", func := "partita/partitalaw15.WireNumbers", spec := "wireNumbers", unfollowed := true, recurses := true, apart := false }
def WireNumbersSaid : Prop := wireNumbersRow.holds Try.pinned (OpenSpec.ofChange wireNumbersSpec)

/-- ITS FALSE NEIGHBOUR: 'it returns false'. Refute it at one input. -/
def wireNumbersWrong : ChangeSpec := { name := "wireNumbers", fn := fun _ => fun
  | [d] => { results := [.lit (.bool false)], args := [d] }
  | _ => none }
def WireNumbersWrongFalsely : Prop := wireNumbersRow.holds Try.pinned (OpenSpec.ofChange wireNumbersWrong)

/-- 'partitalaw15.WireReads': WHATEVER THE INPUT: true; the input reads as it did. -/
def wireReadsSpec : ChangeSpec := { name := "wireReads", fn := fun _ => fun
  | [d1, d2] => { results := [.lit (.bool true)], args := [d1, d2] }
  | _ => none }
def wireReadsRow : OpenClaim := { program := "ytmeefdaanjaoaaa", sum := "c6b9d46896e670b30ff1046928c6f17e8b60dc6c71f2432569f73e82bf44828c", func := "partita/partitalaw15.WireReads", spec := "wireReads", unfollowed := true, recurses := true, apart := false }
def WireReadsSaid : Prop := wireReadsRow.holds Try.pinned (OpenSpec.ofChange wireReadsSpec)

/-- ITS FALSE NEIGHBOUR: 'it returns false'. Refute it at one input. -/
def wireReadsWrong : ChangeSpec := { name := "wireReads", fn := fun _ => fun
  | [d1, d2] => { results := [.lit (.bool false)], args := [d1, d2] }
  | _ => none }
def WireReadsWrongFalsely : Prop := wireReadsRow.holds Try.pinned (OpenSpec.ofChange wireReadsWrong)

/-- 'partitalaw15.WireRights': WHATEVER THE INPUT: true; the input reads as it did. -/
def wireRightsSpec : ChangeSpec := { name := "wireRights", fn := fun _ => fun
  | [d] => { results := [.lit (.bool true)], args := [d] }
  | _ => none }
def wireRightsRow : OpenClaim := { program := "ytmeefdaanjaoaaa", sum := "c6b9d46896e670b30ff1046928c6f17e8b60dc6c71f2432569f73e82bf44828c", func := "partita/partitalaw15.WireRights", spec := "wireRights", unfollowed := true, recurses := true, apart := false }
def WireRightsSaid : Prop := wireRightsRow.holds Try.pinned (OpenSpec.ofChange wireRightsSpec)

/-- ITS FALSE NEIGHBOUR: 'it returns false'. Refute it at one input. -/
def wireRightsWrong : ChangeSpec := { name := "wireRights", fn := fun _ => fun
  | [d] => { results := [.lit (.bool false)], args := [d] }
  | _ => none }
def WireRightsWrongFalsely : Prop := wireRightsRow.holds Try.pinned (OpenSpec.ofChange wireRightsWrong)

/-- 'partitalaw15.WireEncodes': WHATEVER THE INPUT: true; the input reads as it did. -/
def wireEncodesSpec : ChangeSpec := { name := "wireEncodes", fn := fun _ => fun
  | [d] => { results := [.lit (.bool true)], args := [d] }
  | _ => none }
def wireEncodesRow : OpenClaim := { program := "ytmeefdaanjaoaaa", sum := "c6b9d46896e670b30ff1046928c6f17e8b60dc6c71f2432569f73e82bf44828c", func := "partita/partitalaw15.WireEncodes", spec := "wireEncodes", unfollowed := true, recurses := true, apart := false }
def WireEncodesSaid : Prop := wireEncodesRow.holds Try.pinned (OpenSpec.ofChange wireEncodesSpec)

/-- ITS FALSE NEIGHBOUR: 'it returns false'. Refute it at one input. -/
def wireEncodesWrong : ChangeSpec := { name := "wireEncodes", fn := fun _ => fun
  | [d] => { results := [.lit (.bool false)], args := [d] }
  | _ => none }
def WireEncodesWrongFalsely : Prop := wireEncodesRow.holds Try.pinned (OpenSpec.ofChange wireEncodesWrong)

/-- 'partitalaw15.WireDecodes': WHATEVER THE INPUT: true; the input reads as it did. -/
def wireDecodesSpec : ChangeSpec := { name := "wireDecodes", fn := fun _ => fun
  | [d] => { results := [.lit (.bool true)], args := [d] }
  | _ => none }
def wireDecodesRow : OpenClaim := { program := "ytmeefdaanjaoaaa", sum := "c6b9d46896e670b30ff1046928c6f17e8b60dc6c71f2432569f73e82bf44828c", func := "partita/partitalaw15.WireDecodes", spec := "wireDecodes", unfollowed := true, recurses := true, apart := false }
def WireDecodesSaid : Prop := wireDecodesRow.holds Try.pinned (OpenSpec.ofChange wireDecodesSpec)

/-- ITS FALSE NEIGHBOUR: 'it returns false'. Refute it at one input. -/
def wireDecodesWrong : ChangeSpec := { name := "wireDecodes", fn := fun _ => fun
  | [d] => { results := [.lit (.bool false)], args := [d] }
  | _ => none }
def WireDecodesWrongFalsely : Prop := wireDecodesRow.holds Try.pinned (OpenSpec.ofChange wireDecodesWrong)

/-- 'partitalaw15.WireNumberBack': WHATEVER THE INPUT: true; the input reads as it did. -/
def wireNumberBackSpec : ChangeSpec := { name := "wireNumberBack", fn := fun _ => fun
  | [d1, d2, d3] => { results := [.lit (.bool true)], args := [d1, d2, d3] }
  | _ => none }
def wireNumberBackRow : OpenClaim := { program := "ytmeefdaanjaoaaa", sum := "c6b9d46896e670b30ff1046928c6f17e8b60dc6c71f2432569f73e82bf44828c", func := "partita/partitalaw15.WireNumberBack", spec := "wireNumberBack", unfollowed := true, recurses := true, apart := false }
def WireNumberBackSaid : Prop := wireNumberBackRow.holds Try.pinned (OpenSpec.ofChange wireNumberBackSpec)

/-- ITS FALSE NEIGHBOUR: 'it returns false'. Refute it at one input. -/
def wireNumberBackWrong : ChangeSpec := { name := "wireNumberBack", fn := fun _ => fun
  | [d1, d2, d3] => { results := [.lit (.bool false)], args := [d1, d2, d3] }
  | _ => none }
def WireNumberBackWrongFalsely : Prop := wireNumberBackRow.holds Try.pinned (OpenSpec.ofChange wireNumberBackWrong)

/-- 'partitalaw15.WireBack': WHATEVER THE INPUT: true; the input reads as it did. -/
def wireBackSpec : ChangeSpec := { name := "wireBack", fn := fun _ => fun
  | [d] => { results := [.lit (.bool true)], args := [d] }
  | _ => none }
def wireBackRow : OpenClaim := { program := "ytmeefdaanjaoaaa", sum := "c6b9d46896e670b30ff1046928c6f17e8b60dc6c71f2432569f73e82bf44828c", func := "partita/partitalaw15.WireBack", spec := "wireBack", unfollowed := true, recurses := true, apart := false }
def WireBackSaid : Prop := wireBackRow.holds Try.pinned (OpenSpec.ofChange wireBackSpec)

/-- ITS FALSE NEIGHBOUR: 'it returns false'. Refute it at one input. -/
def wireBackWrong : ChangeSpec := { name := "wireBack", fn := fun _ => fun
  | [d] => { results := [.lit (.bool false)], args := [d] }
  | _ => none }
def WireBackWrongFalsely : Prop := wireBackRow.holds Try.pinned (OpenSpec.ofChange wireBackWrong)

/-- 'partitalaw15.WireShorter': WHATEVER THE INPUT: true; the input reads as it did. -/
def wireShorterSpec : ChangeSpec := { name := "wireShorter", fn := fun _ => fun
  | [d] => { results := [.lit (.bool true)], args := [d] }
  | _ => none }
def wireShorterRow : OpenClaim := { program := "ytmeefdaanjaoaaa", sum := "c6b9d46896e670b30ff1046928c6f17e8b60dc6c71f2432569f73e82bf44828c", func := "partita/partitalaw15.WireShorter", spec := "wireShorter", unfollowed := true, recurses := true, apart := false }
def WireShorterSaid : Prop := wireShorterRow.holds Try.pinned (OpenSpec.ofChange wireShorterSpec)

/-- ITS FALSE NEIGHBOUR: 'it returns false'. Refute it at one input. -/
def wireShorterWrong : ChangeSpec := { name := "wireShorter", fn := fun _ => fun
  | [d] => { results := [.lit (.bool false)], args := [d] }
  | _ => none }
def WireShorterWrongFalsely : Prop := wireShorterRow.holds Try.pinned (OpenSpec.ofChange wireShorterWrong)

/-- 'partitalaw15.WireJoins': WHATEVER THE INPUT: true; the input reads as it did. -/
def wireJoinsSpec : ChangeSpec := { name := "wireJoins", fn := fun _ => fun
  | [d1, d2] => { results := [.lit (.bool true)], args := [d1, d2] }
  | _ => none }
def wireJoinsRow : OpenClaim := { program := "ytmeefdaanjaoaaa", sum := "c6b9d46896e670b30ff1046928c6f17e8b60dc6c71f2432569f73e82bf44828c", func := "partita/partitalaw15.WireJoins", spec := "wireJoins", unfollowed := true, recurses := true, apart := false }
def WireJoinsSaid : Prop := wireJoinsRow.holds Try.pinned (OpenSpec.ofChange wireJoinsSpec)

/-- ITS FALSE NEIGHBOUR: 'it returns false'. Refute it at one input. -/
def wireJoinsWrong : ChangeSpec := { name := "wireJoins", fn := fun _ => fun
  | [d1, d2] => { results := [.lit (.bool false)], args := [d1, d2] }
  | _ => none }
def WireJoinsWrongFalsely : Prop := wireJoinsRow.holds Try.pinned (OpenSpec.ofChange wireJoinsWrong)

/-- 'partitalaw15.WireCut': WHATEVER THE INPUT: true; the input reads as it did. -/
def wireCutSpec : ChangeSpec := { name := "wireCut", fn := fun _ => fun
  | [d1, d2] => { results := [.lit (.bool true)], args := [d1, d2] }
  | _ => none }
def wireCutRow : OpenClaim := { program := "ytmeefdaanjaoaaa", sum := "c6b9d46896e670b30ff1046928c6f17e8b60dc6c71f2432569f73e82bf44828c", func := "partita/partitalaw15.WireCut", spec := "wireCut", unfollowed := true, recurses := true, apart := false }
def WireCutSaid : Prop := wireCutRow.holds Try.pinned (OpenSpec.ofChange wireCutSpec)

/-- ITS FALSE NEIGHBOUR: 'it returns false'. Refute it at one input. -/
def wireCutWrong : ChangeSpec := { name := "wireCut", fn := fun _ => fun
  | [d1, d2] => { results := [.lit (.bool false)], args := [d1, d2] }
  | _ => none }
def WireCutWrongFalsely : Prop := wireCutRow.holds Try.pinned (OpenSpec.ofChange wireCutWrong)

/-- 'partitalaw15.WireRunning': WHATEVER THE INPUT: true; the input reads as it did. -/
def wireRunningSpec : ChangeSpec := { name := "wireRunning", fn := fun _ => fun
  | [d1, d2, d3] => { results := [.lit (.bool true)], args := [d1, d2, d3] }
  | _ => none }
def wireRunningRow : OpenClaim := { program := "ytmeefdaanjaoaaa", sum := "c6b9d46896e670b30ff1046928c6f17e8b60dc6c71f2432569f73e82bf44828c", func := "partita/partitalaw15.WireRunning", spec := "wireRunning", unfollowed := true, recurses := true, apart := false }
def WireRunningSaid : Prop := wireRunningRow.holds Try.pinned (OpenSpec.ofChange wireRunningSpec)

/-- ITS FALSE NEIGHBOUR: 'it returns false'. Refute it at one input. -/
def wireRunningWrong : ChangeSpec := { name := "wireRunning", fn := fun _ => fun
  | [d1, d2, d3] => { results := [.lit (.bool false)], args := [d1, d2, d3] }
  | _ => none }
def WireRunningWrongFalsely : Prop := wireRunningRow.holds Try.pinned (OpenSpec.ofChange wireRunningWrong)

/- THE SECOND FORM. 'bulk': how many values and letters a reading holds, each counted each time it is reached (what is shared counts as often as it is met; a slice's spare places count too). A statement '..UptoSaid' is the law's where the arguments, and the package variables that the reading takes, are together of bulk at most 1048576: NARROWER than '..Said'. Prove '..Said' where nothing that the law and all that it calls make is longer than what came in: it says more and counts as full. Else prove '..UptoSaid'. A law counts once. -/
mutual
def uptoBulk {H : Type} : DataW H → Nat
  | .lit (.string bytes) => bytes.length + 1
  | .lit _ => 1
  | .nil => 1
  | .ptr d => uptoBulk d + 1
  | .slice elems spare => uptoBulkAll elems + uptoBulkAll spare + 1
  | .agg parts => uptoBulkAll parts + 1
  | .iface _ d => uptoBulk d + 1
  | .map entries => uptoBulkEntries entries + 1
  | .held _ => 1
def uptoBulkAll {H : Type} : List (DataW H) → Nat
  | [] => 0
  | d :: r => uptoBulk d + uptoBulkAll r
def uptoBulkEntries {H : Type} : List (Lit × DataW H) → Nat
  | [] => 0
  | x :: r => uptoBulkEntry x + uptoBulkEntries r
def uptoBulkEntry {H : Type} : Lit × DataW H → Nat
  | (.string bytes, d) => bytes.length + uptoBulk d + 1
  | (_, d) => uptoBulk d + 1
 end
def uptoSmall : (H : Type) → List (DataW H) → Bool := fun _ ds => decide (uptoBulkAll ds ≤ 1048576)
def OpenSpec.upto (s : _root_.Go.ChangeSpec) : _root_.Go.OpenSpec := { _root_.Go.OpenSpec.ofChange s with cond := some uptoSmall }

/-- 'partitalaw15.WireNumbers', WHERE WHAT IT READS IS OF BULK AT MOST 1048576: true; the input reads as it did. -/
def wireNumbersUptoRow : OpenClaim := { program := "ytmeefdaanjaoaaa", sum := "c6b9d46896e670b30ff1046928c6f17e8b60dc6c71f2432569f73e82bf44828c", func := "partita/partitalaw15.WireNumbers", spec := "wireNumbers", unfollowed := true, recurses := true, apart := false, narrowed := true }
def WireNumbersUptoSaid : Prop := wireNumbersUptoRow.holds Try.pinned (OpenSpec.upto wireNumbersSpec)

/-- 'partitalaw15.WireReads', WHERE WHAT IT READS IS OF BULK AT MOST 1048576: true; the input reads as it did. -/
def wireReadsUptoRow : OpenClaim := { program := "ytmeefdaanjaoaaa", sum := "c6b9d46896e670b30ff1046928c6f17e8b60dc6c71f2432569f73e82bf44828c", func := "partita/partitalaw15.WireReads", spec := "wireReads", unfollowed := true, recurses := true, apart := false, narrowed := true }
def WireReadsUptoSaid : Prop := wireReadsUptoRow.holds Try.pinned (OpenSpec.upto wireReadsSpec)

/-- 'partitalaw15.WireRights', WHERE WHAT IT READS IS OF BULK AT MOST 1048576: true; the input reads as it did. -/
def wireRightsUptoRow : OpenClaim := { program := "ytmeefdaanjaoaaa", sum := "c6b9d46896e670b30ff1046928c6f17e8b60dc6c71f2432569f73e82bf44828c", func := "partita/partitalaw15.WireRights", spec := "wireRights", unfollowed := true, recurses := true, apart := false, narrowed := true }
def WireRightsUptoSaid : Prop := wireRightsUptoRow.holds Try.pinned (OpenSpec.upto wireRightsSpec)

/-- 'partitalaw15.WireEncodes', WHERE WHAT IT READS IS OF BULK AT MOST 1048576: true; the input reads as it did. -/
def wireEncodesUptoRow : OpenClaim := { program := "ytmeefdaanjaoaaa", sum := "c6b9d46896e670b30ff1046928c6f17e8b60dc6c71f2432569f73e82bf44828c", func := "partita/partitalaw15.WireEncodes", spec := "wireEncodes", unfollowed := true, recurses := true, apart := false, narrowed := true }
def WireEncodesUptoSaid : Prop := wireEncodesUptoRow.holds Try.pinned (OpenSpec.upto wireEncodesSpec)

/-- 'partitalaw15.WireDecodes', WHERE WHAT IT READS IS OF BULK AT MOST 1048576: true; the input reads as it did. -/
def wireDecodesUptoRow : OpenClaim := { program := "ytmeefdaanjaoaaa", sum := "c6b9d46896e670b30ff1046928c6f17e8b60dc6c71f2432569f73e82bf44828c", func := "partita/partitalaw15.WireDecodes", spec := "wireDecodes", unfollowed := true, recurses := true, apart := false, narrowed := true }
def WireDecodesUptoSaid : Prop := wireDecodesUptoRow.holds Try.pinned (OpenSpec.upto wireDecodesSpec)

/-- 'partitalaw15.WireNumberBack', WHERE WHAT IT READS IS OF BULK AT MOST 1048576: true; the input reads as it did. -/
def wireNumberBackUptoRow : OpenClaim := { program := "ytmeefdaanjaoaaa", sum := "c6b9d46896e670b30ff1046928c6f17e8b60dc6c71f2432569f73e82bf44828c", func := "partita/partitalaw15.WireNumberBack", spec := "wireNumberBack", unfollowed := true, recurses := true, apart := false, narrowed := true }
def WireNumberBackUptoSaid : Prop := wireNumberBackUptoRow.holds Try.pinned (OpenSpec.upto wireNumberBackSpec)

/-- 'partitalaw15.WireBack', WHERE WHAT IT READS IS OF BULK AT MOST 1048576: true; the input reads as it did. -/
def wireBackUptoRow : OpenClaim := { program := "ytmeefdaanjaoaaa", sum := "c6b9d46896e670b30ff1046928c6f17e8b60dc6c71f2432569f73e82bf44828c", func := "partita/partitalaw15.WireBack", spec := "wireBack", unfollowed := true, recurses := true, apart := false, narrowed := true }
def WireBackUptoSaid : Prop := wireBackUptoRow.holds Try.pinned (OpenSpec.upto wireBackSpec)

/-- 'partitalaw15.WireShorter', WHERE WHAT IT READS IS OF BULK AT MOST 1048576: true; the input reads as it did. -/
def wireShorterUptoRow : OpenClaim := { program := "ytmeefdaanjaoaaa", sum := "c6b9d46896e670b30ff1046928c6f17e8b60dc6c71f2432569f73e82bf44828c", func := "partita/partitalaw15.WireShorter", spec := "wireShorter", unfollowed := true, recurses := true, apart := false, narrowed := true }
def WireShorterUptoSaid : Prop := wireShorterUptoRow.holds Try.pinned (OpenSpec.upto wireShorterSpec)

/-- 'partitalaw15.WireJoins', WHERE WHAT IT READS IS OF BULK AT MOST 1048576: true; the input reads as it did. -/
def wireJoinsUptoRow : OpenClaim := { program := "ytmeefdaanjaoaaa", sum := "c6b9d46896e670b30ff1046928c6f17e8b60dc6c71f2432569f73e82bf44828c", func := "partita/partitalaw15.WireJoins", spec := "wireJoins", unfollowed := true, recurses := true, apart := false, narrowed := true }
def WireJoinsUptoSaid : Prop := wireJoinsUptoRow.holds Try.pinned (OpenSpec.upto wireJoinsSpec)

/-- 'partitalaw15.WireCut', WHERE WHAT IT READS IS OF BULK AT MOST 1048576: true; the input reads as it did. -/
def wireCutUptoRow : OpenClaim := { program := "ytmeefdaanjaoaaa", sum := "c6b9d46896e670b30ff1046928c6f17e8b60dc6c71f2432569f73e82bf44828c", func := "partita/partitalaw15.WireCut", spec := "wireCut", unfollowed := true, recurses := true, apart := false, narrowed := true }
def WireCutUptoSaid : Prop := wireCutUptoRow.holds Try.pinned (OpenSpec.upto wireCutSpec)

/-- 'partitalaw15.WireRunning', WHERE WHAT IT READS IS OF BULK AT MOST 1048576: true; the input reads as it did. -/
def wireRunningUptoRow : OpenClaim := { program := "ytmeefdaanjaoaaa", sum := "c6b9d46896e670b30ff1046928c6f17e8b60dc6c71f2432569f73e82bf44828c", func := "partita/partitalaw15.WireRunning", spec := "wireRunning", unfollowed := true, recurses := true, apart := false, narrowed := true }
def WireRunningUptoSaid : Prop := wireRunningUptoRow.holds Try.pinned (OpenSpec.upto wireRunningSpec)

end Rows
end Go.Proofs.Ytmeefdaanjaoaaa
