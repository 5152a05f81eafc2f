/-
  No cell of these rows narrows 'for every input' (looked for: loops, veiled, ifaces, maps, wideKeys, modest, calm, conditions, laid).
  DERIVED. THE GIVEN ROWS OF THIS SEAT. 8 by the template 'for every input the law returns true; each argument reads behind the call as it read before'; 0 by the template 'total and deterministic' (their statements: YtendmmagjjhfnaaTotals.lean).
  GIVEN WITH THE SEED: the statements are not yours to turn. If you find one false, say at which input.
  Laid BY PROGRAM, IN A SANDBOX (cutbox-rows.mjs): the forced cells as the released guide's own fill.sh prints them over the translation ec3524e2be306a63… (all of the seat's roots in one cut). By AI agents, Wed Nov 11 2026. No macro, syntax, notation, axiom, sorry.
-/
import Derived.Test.YtendmmagjjhfnaaChecked
import GoSem.Claim
import GoSem.ClaimJoined
import GoSem.ClaimMapViews
import Derived.JoinedTies
import Derived.KernelRfl
namespace Go.Proofs.Ytendmmagjjhfnaa
/- THE CELL 'sum', in the pinned program and in every row, IS THE sha256 OF THE DUMP (.gsa) THAT YtendmmagjjhfnaaProg.lean LOADS. Nothing in Lean hashes anything: it is a label: what it is worth is what the hold of that sum in a sandbox is worth. -/
noncomputable def Try.pinned : Pinned := { name := "ytendmmagjjhfnaa", sum := "ec3524e2be306a6351247d0c189503b75538514111c0a789b84b7136662c24de", checked := Try.checked }
namespace Rows
def none {H : Type} : Left H := { results := [], args := [] }

/-- 'partitalaw10.TurnsTells': WHATEVER THE INPUT: true; the input reads as it did. -/
def turnsTellsSpec : ChangeSpec := { name := "turnsTells", fn := fun _ => fun
  | [d1, d2, d3] => { results := [.lit (.bool true)], args := [d1, d2, d3] }
  | _ => none }
def turnsTellsRow : OpenClaim := { program := "ytendmmagjjhfnaa", sum := "ec3524e2be306a6351247d0c189503b75538514111c0a789b84b7136662c24de", func := "partita/partitalaw10.TurnsTells", spec := "turnsTells", unfollowed := true, recurses := true, apart := false }
def TurnsTellsSaid : Prop := turnsTellsRow.holds Try.pinned (OpenSpec.ofChange turnsTellsSpec)

/-- ITS FALSE NEIGHBOUR: 'it returns false'. Refute it at one input. -/
def turnsTellsWrong : ChangeSpec := { name := "turnsTells", fn := fun _ => fun
  | [d1, d2, d3] => { results := [.lit (.bool false)], args := [d1, d2, d3] }
  | _ => none }
def TurnsTellsWrongFalsely : Prop := turnsTellsRow.holds Try.pinned (OpenSpec.ofChange turnsTellsWrong)

/-- 'partitalaw10.TurnsPlain': WHATEVER THE INPUT: true; the input reads as it did. -/
def turnsPlainSpec : ChangeSpec := { name := "turnsPlain", fn := fun _ => fun
  | [d1, d2, d3] => { results := [.lit (.bool true)], args := [d1, d2, d3] }
  | _ => none }
def turnsPlainRow : OpenClaim := { program := "ytendmmagjjhfnaa", sum := "ec3524e2be306a6351247d0c189503b75538514111c0a789b84b7136662c24de", func := "partita/partitalaw10.TurnsPlain", spec := "turnsPlain", unfollowed := true, recurses := true, apart := false }
def TurnsPlainSaid : Prop := turnsPlainRow.holds Try.pinned (OpenSpec.ofChange turnsPlainSpec)

/-- ITS FALSE NEIGHBOUR: 'it returns false'. Refute it at one input. -/
def turnsPlainWrong : ChangeSpec := { name := "turnsPlain", fn := fun _ => fun
  | [d1, d2, d3] => { results := [.lit (.bool false)], args := [d1, d2, d3] }
  | _ => none }
def TurnsPlainWrongFalsely : Prop := turnsPlainRow.holds Try.pinned (OpenSpec.ofChange turnsPlainWrong)

/-- 'partitalaw10.TurnsWhole': WHATEVER THE INPUT: true; the input reads as it did. -/
def turnsWholeSpec : ChangeSpec := { name := "turnsWhole", fn := fun _ => fun
  | [d1, d2, d3, d4] => { results := [.lit (.bool true)], args := [d1, d2, d3, d4] }
  | _ => none }
def turnsWholeRow : OpenClaim := { program := "ytendmmagjjhfnaa", sum := "ec3524e2be306a6351247d0c189503b75538514111c0a789b84b7136662c24de", func := "partita/partitalaw10.TurnsWhole", spec := "turnsWhole", unfollowed := true, recurses := true, apart := false }
def TurnsWholeSaid : Prop := turnsWholeRow.holds Try.pinned (OpenSpec.ofChange turnsWholeSpec)

/-- ITS FALSE NEIGHBOUR: 'it returns false'. Refute it at one input. -/
def turnsWholeWrong : ChangeSpec := { name := "turnsWhole", fn := fun _ => fun
  | [d1, d2, d3, d4] => { results := [.lit (.bool false)], args := [d1, d2, d3, d4] }
  | _ => none }
def TurnsWholeWrongFalsely : Prop := turnsWholeRow.holds Try.pinned (OpenSpec.ofChange turnsWholeWrong)

/-- 'partitalaw10.TurnsEndings': WHATEVER THE INPUT: true; the input reads as it did. -/
def turnsEndingsSpec : ChangeSpec := { name := "turnsEndings", fn := fun _ => fun
  | [d1, d2, d3, d4] => { results := [.lit (.bool true)], args := [d1, d2, d3, d4] }
  | _ => none }
def turnsEndingsRow : OpenClaim := { program := "ytendmmagjjhfnaa", sum := "ec3524e2be306a6351247d0c189503b75538514111c0a789b84b7136662c24de", func := "partita/partitalaw10.TurnsEndings", spec := "turnsEndings", unfollowed := true, recurses := true, apart := false }
def TurnsEndingsSaid : Prop := turnsEndingsRow.holds Try.pinned (OpenSpec.ofChange turnsEndingsSpec)

/-- ITS FALSE NEIGHBOUR: 'it returns false'. Refute it at one input. -/
def turnsEndingsWrong : ChangeSpec := { name := "turnsEndings", fn := fun _ => fun
  | [d1, d2, d3, d4] => { results := [.lit (.bool false)], args := [d1, d2, d3, d4] }
  | _ => none }
def TurnsEndingsWrongFalsely : Prop := turnsEndingsRow.holds Try.pinned (OpenSpec.ofChange turnsEndingsWrong)

/-- 'partitalaw10.TurnsJumps': WHATEVER THE INPUT: true; the input reads as it did. -/
def turnsJumpsSpec : ChangeSpec := { name := "turnsJumps", fn := fun _ => fun
  | [d1, d2, d3, d4, d5] => { results := [.lit (.bool true)], args := [d1, d2, d3, d4, d5] }
  | _ => none }
def turnsJumpsRow : OpenClaim := { program := "ytendmmagjjhfnaa", sum := "ec3524e2be306a6351247d0c189503b75538514111c0a789b84b7136662c24de", func := "partita/partitalaw10.TurnsJumps", spec := "turnsJumps", unfollowed := true, recurses := true, apart := false }
def TurnsJumpsSaid : Prop := turnsJumpsRow.holds Try.pinned (OpenSpec.ofChange turnsJumpsSpec)

/-- ITS FALSE NEIGHBOUR: 'it returns false'. Refute it at one input. -/
def turnsJumpsWrong : ChangeSpec := { name := "turnsJumps", fn := fun _ => fun
  | [d1, d2, d3, d4, d5] => { results := [.lit (.bool false)], args := [d1, d2, d3, d4, d5] }
  | _ => none }
def TurnsJumpsWrongFalsely : Prop := turnsJumpsRow.holds Try.pinned (OpenSpec.ofChange turnsJumpsWrong)

/-- 'partitalaw10.TurnsParts': WHATEVER THE INPUT: true; the input reads as it did. -/
def turnsPartsSpec : ChangeSpec := { name := "turnsParts", fn := fun _ => fun
  | [d1, d2] => { results := [.lit (.bool true)], args := [d1, d2] }
  | _ => none }
def turnsPartsRow : OpenClaim := { program := "ytendmmagjjhfnaa", sum := "ec3524e2be306a6351247d0c189503b75538514111c0a789b84b7136662c24de", func := "partita/partitalaw10.TurnsParts", spec := "turnsParts", unfollowed := true, recurses := true, apart := false }
def TurnsPartsSaid : Prop := turnsPartsRow.holds Try.pinned (OpenSpec.ofChange turnsPartsSpec)

/-- ITS FALSE NEIGHBOUR: 'it returns false'. Refute it at one input. -/
def turnsPartsWrong : ChangeSpec := { name := "turnsParts", fn := fun _ => fun
  | [d1, d2] => { results := [.lit (.bool false)], args := [d1, d2] }
  | _ => none }
def TurnsPartsWrongFalsely : Prop := turnsPartsRow.holds Try.pinned (OpenSpec.ofChange turnsPartsWrong)

/-- 'partitalaw10.TurnsSteps': WHATEVER THE INPUT: true; the input reads as it did. -/
def turnsStepsSpec : ChangeSpec := { name := "turnsSteps", fn := fun _ => fun
  | [d] => { results := [.lit (.bool true)], args := [d] }
  | _ => none }
def turnsStepsRow : OpenClaim := { program := "ytendmmagjjhfnaa", sum := "ec3524e2be306a6351247d0c189503b75538514111c0a789b84b7136662c24de", func := "partita/partitalaw10.TurnsSteps", spec := "turnsSteps", unfollowed := true, recurses := true, apart := false }
def TurnsStepsSaid : Prop := turnsStepsRow.holds Try.pinned (OpenSpec.ofChange turnsStepsSpec)

/-- ITS FALSE NEIGHBOUR: 'it returns false'. Refute it at one input. -/
def turnsStepsWrong : ChangeSpec := { name := "turnsSteps", fn := fun _ => fun
  | [d] => { results := [.lit (.bool false)], args := [d] }
  | _ => none }
def TurnsStepsWrongFalsely : Prop := turnsStepsRow.holds Try.pinned (OpenSpec.ofChange turnsStepsWrong)

/-- 'partitalaw10.TurnsErrors': WHATEVER THE INPUT: true; the input reads as it did. -/
def turnsErrorsSpec : ChangeSpec := { name := "turnsErrors", fn := fun _ => fun
  | [d1, d2, d3] => { results := [.lit (.bool true)], args := [d1, d2, d3] }
  | _ => none }
def turnsErrorsRow : OpenClaim := { program := "ytendmmagjjhfnaa", sum := "ec3524e2be306a6351247d0c189503b75538514111c0a789b84b7136662c24de", func := "partita/partitalaw10.TurnsErrors", spec := "turnsErrors", unfollowed := true, recurses := true, apart := false }
def TurnsErrorsSaid : Prop := turnsErrorsRow.holds Try.pinned (OpenSpec.ofChange turnsErrorsSpec)

/-- ITS FALSE NEIGHBOUR: 'it returns false'. Refute it at one input. -/
def turnsErrorsWrong : ChangeSpec := { name := "turnsErrors", fn := fun _ => fun
  | [d1, d2, d3] => { results := [.lit (.bool false)], args := [d1, d2, d3] }
  | _ => none }
def TurnsErrorsWrongFalsely : Prop := turnsErrorsRow.holds Try.pinned (OpenSpec.ofChange turnsErrorsWrong)

/- THE SECOND FORM. 'bulk': how many values and letters a reading holds, each counted each time it is reached (what is shared counts as often as it is met; a slice's spare places count too). A statement '..UptoSaid' is the law's where the arguments, and the package variables that the reading takes, are together of bulk at most 1048576: NARROWER than '..Said'. Prove '..Said' where nothing that the law and all that it calls make is longer than what came in: it says more and counts as full. Else prove '..UptoSaid'. A law counts once. -/
mutual
def uptoBulk {H : Type} : DataW H → Nat
  | .lit (.string bytes) => bytes.length + 1
  | .lit _ => 1
  | .nil => 1
  | .ptr d => uptoBulk d + 1
  | .slice elems spare => uptoBulkAll elems + uptoBulkAll spare + 1
  | .agg parts => uptoBulkAll parts + 1
  | .iface _ d => uptoBulk d + 1
  | .map entries => uptoBulkEntries entries + 1
  | .held _ => 1
def uptoBulkAll {H : Type} : List (DataW H) → Nat
  | [] => 0
  | d :: r => uptoBulk d + uptoBulkAll r
def uptoBulkEntries {H : Type} : List (Lit × DataW H) → Nat
  | [] => 0
  | x :: r => uptoBulkEntry x + uptoBulkEntries r
def uptoBulkEntry {H : Type} : Lit × DataW H → Nat
  | (.string bytes, d) => bytes.length + uptoBulk d + 1
  | (_, d) => uptoBulk d + 1
 end
def uptoSmall : (H : Type) → List (DataW H) → Bool := fun _ ds => decide (uptoBulkAll ds ≤ 1048576)
def OpenSpec.upto (s : _root_.Go.ChangeSpec) : _root_.Go.OpenSpec := { _root_.Go.OpenSpec.ofChange s with cond := some uptoSmall }

/-- 'partitalaw10.TurnsTells', WHERE WHAT IT READS IS OF BULK AT MOST 1048576: true; the input reads as it did. -/
def turnsTellsUptoRow : OpenClaim := { program := "ytendmmagjjhfnaa", sum := "ec3524e2be306a6351247d0c189503b75538514111c0a789b84b7136662c24de", func := "partita/partitalaw10.TurnsTells", spec := "turnsTells", unfollowed := true, recurses := true, apart := false, narrowed := true }
def TurnsTellsUptoSaid : Prop := turnsTellsUptoRow.holds Try.pinned (OpenSpec.upto turnsTellsSpec)

/-- 'partitalaw10.TurnsPlain', WHERE WHAT IT READS IS OF BULK AT MOST 1048576: true; the input reads as it did. -/
def turnsPlainUptoRow : OpenClaim := { program := "ytendmmagjjhfnaa", sum := "ec3524e2be306a6351247d0c189503b75538514111c0a789b84b7136662c24de", func := "partita/partitalaw10.TurnsPlain", spec := "turnsPlain", unfollowed := true, recurses := true, apart := false, narrowed := true }
def TurnsPlainUptoSaid : Prop := turnsPlainUptoRow.holds Try.pinned (OpenSpec.upto turnsPlainSpec)

/-- 'partitalaw10.TurnsWhole', WHERE WHAT IT READS IS OF BULK AT MOST 1048576: true; the input reads as it did. -/
def turnsWholeUptoRow : OpenClaim := { program := "ytendmmagjjhfnaa", sum := "ec3524e2be306a6351247d0c189503b75538514111c0a789b84b7136662c24de", func := "partita/partitalaw10.TurnsWhole", spec := "turnsWhole", unfollowed := true, recurses := true, apart := false, narrowed := true }
def TurnsWholeUptoSaid : Prop := turnsWholeUptoRow.holds Try.pinned (OpenSpec.upto turnsWholeSpec)

/-- 'partitalaw10.TurnsEndings', WHERE WHAT IT READS IS OF BULK AT MOST 1048576: true; the input reads as it did. -/
def turnsEndingsUptoRow : OpenClaim := { program := "ytendmmagjjhfnaa", sum := "ec3524e2be306a6351247d0c189503b75538514111c0a789b84b7136662c24de", func := "partita/partitalaw10.TurnsEndings", spec := "turnsEndings", unfollowed := true, recurses := true, apart := false, narrowed := true }
def TurnsEndingsUptoSaid : Prop := turnsEndingsUptoRow.holds Try.pinned (OpenSpec.upto turnsEndingsSpec)

/-- 'partitalaw10.TurnsJumps', WHERE WHAT IT READS IS OF BULK AT MOST 1048576: true; the input reads as it did. -/
def turnsJumpsUptoRow : OpenClaim := { program := "ytendmmagjjhfnaa", sum := "ec3524e2be306a6351247d0c189503b75538514111c0a789b84b7136662c24de", func := "partita/partitalaw10.TurnsJumps", spec := "turnsJumps", unfollowed := true, recurses := true, apart := false, narrowed := true }
def TurnsJumpsUptoSaid : Prop := turnsJumpsUptoRow.holds Try.pinned (OpenSpec.upto turnsJumpsSpec)

/-- 'partitalaw10.TurnsParts', WHERE WHAT IT READS IS OF BULK AT MOST 1048576: true; the input reads as it did. -/
def turnsPartsUptoRow : OpenClaim := { program := "ytendmmagjjhfnaa", sum := "ec3524e2be306a6351247d0c189503b75538514111c0a789b84b7136662c24de", func := "partita/partitalaw10.TurnsParts", spec := "turnsParts", unfollowed := true, recurses := true, apart := false, narrowed := true }
def TurnsPartsUptoSaid : Prop := turnsPartsUptoRow.holds Try.pinned (OpenSpec.upto turnsPartsSpec)

/-- 'partitalaw10.TurnsSteps', WHERE WHAT IT READS IS OF BULK AT MOST 1048576: true; the input reads as it did. -/
def turnsStepsUptoRow : OpenClaim := { program := "ytendmmagjjhfnaa", sum := "ec3524e2be306a6351247d0c189503b75538514111c0a789b84b7136662c24de", func := "partita/partitalaw10.TurnsSteps", spec := "turnsSteps", unfollowed := true, recurses := true, apart := false, narrowed := true }
def TurnsStepsUptoSaid : Prop := turnsStepsUptoRow.holds Try.pinned (OpenSpec.upto turnsStepsSpec)

/-- 'partitalaw10.TurnsErrors', WHERE WHAT IT READS IS OF BULK AT MOST 1048576: true; the input reads as it did. -/
def turnsErrorsUptoRow : OpenClaim := { program := "ytendmmagjjhfnaa", sum := "ec3524e2be306a6351247d0c189503b75538514111c0a789b84b7136662c24de", func := "partita/partitalaw10.TurnsErrors", spec := "turnsErrors", unfollowed := true, recurses := true, apart := false, narrowed := true }
def TurnsErrorsUptoSaid : Prop := turnsErrorsUptoRow.holds Try.pinned (OpenSpec.upto turnsErrorsSpec)

end Rows
end Go.Proofs.Ytendmmagjjhfnaa
