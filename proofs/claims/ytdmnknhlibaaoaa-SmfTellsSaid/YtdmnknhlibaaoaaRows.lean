/-
  No cell of these rows narrows 'for every input' (looked for: loops, veiled, ifaces, maps, wideKeys, modest, calm, conditions, laid).
  DERIVED. THE GIVEN ROWS OF THIS SEAT. 8 by the template 'for every input the law returns true; each argument reads behind the call as it read before'; 0 by the template 'total and deterministic' (their statements: YtdmnknhlibaaoaaTotals.lean).
  GIVEN WITH THE SEED: the statements are not yours to turn. If you find one false, say at which input.
  Laid BY PROGRAM, IN A SANDBOX (cutbox-rows.mjs): the forced cells as the released guide's own fill.sh prints them over the translation 5b1850822f387208… (all of the seat's roots in one cut). By AI agents, Wed Nov 11 2026. No macro, syntax, notation, axiom, sorry.
-/
import Derived.Test.YtdmnknhlibaaoaaChecked
import GoSem.Claim
import GoSem.ClaimJoined
import GoSem.ClaimMapViews
import Derived.JoinedTies
import Derived.KernelRfl
namespace Go.Proofs.Ytdmnknhlibaaoaa
/- THE CELL 'sum', in the pinned program and in every row, IS THE sha256 OF THE DUMP (.gsa) THAT YtdmnknhlibaaoaaProg.lean LOADS. Nothing in Lean hashes anything: it is a label: what it is worth is what the hold of that sum in a sandbox is worth. -/
noncomputable def Try.pinned : Pinned := { name := "ytdmnknhlibaaoaa", sum := "5b1850822f387208ab7885d80b1742140437353e723e2643058fd802105d50b0", checked := Try.checked }
namespace Rows
def none {H : Type} : Left H := { results := [], args := [] }

/-- 'partitalaw16.SmfSame': WHATEVER THE INPUT: true; the input reads as it did. -/
def smfSameSpec : ChangeSpec := { name := "smfSame", fn := fun _ => fun
  | [d1, d2, d3] => { results := [.lit (.bool true)], args := [d1, d2, d3] }
  | _ => none }
def smfSameRow : OpenClaim := { program := "ytdmnknhlibaaoaa", sum := "5b1850822f387208ab7885d80b1742140437353e723e2643058fd802105d50b0", func := "partita/partitalaw16.SmfSame", spec := "smfSame", unfollowed := true, recurses := true, apart := false }
def SmfSameSaid : Prop := smfSameRow.holds Try.pinned (OpenSpec.ofChange smfSameSpec)

/-- ITS FALSE NEIGHBOUR: 'it returns false'. Refute it at one input. -/
def smfSameWrong : ChangeSpec := { name := "smfSame", fn := fun _ => fun
  | [d1, d2, d3] => { results := [.lit (.bool false)], args := [d1, d2, d3] }
  | _ => none }
def SmfSameWrongFalsely : Prop := smfSameRow.holds Try.pinned (OpenSpec.ofChange smfSameWrong)

/-- 'partitalaw16.SmfTells': WHATEVER THE INPUT: true; the input reads as it did. -/
def smfTellsSpec : ChangeSpec := { name := "smfTells", fn := fun _ => fun
  | [d1, d2, d3, d4, d5] => { results := [.lit (.bool true)], args := [d1, d2, d3, d4, d5] }
  | _ => none }
def smfTellsRow : OpenClaim := { program := "ytdmnknhlibaaoaa", sum := "5b1850822f387208ab7885d80b1742140437353e723e2643058fd802105d50b0", func := "partita/partitalaw16.SmfTells", spec := "smfTells", unfollowed := true, recurses := true, apart := false }
def SmfTellsSaid : Prop := smfTellsRow.holds Try.pinned (OpenSpec.ofChange smfTellsSpec)

/-- ITS FALSE NEIGHBOUR: 'it returns false'. Refute it at one input. -/
def smfTellsWrong : ChangeSpec := { name := "smfTells", fn := fun _ => fun
  | [d1, d2, d3, d4, d5] => { results := [.lit (.bool false)], args := [d1, d2, d3, d4, d5] }
  | _ => none }
def SmfTellsWrongFalsely : Prop := smfTellsRow.holds Try.pinned (OpenSpec.ofChange smfTellsWrong)

/-- 'partitalaw16.SmfBack': WHATEVER THE INPUT: true; the input reads as it did. -/
def smfBackSpec : ChangeSpec := { name := "smfBack", fn := fun _ => fun
  | [d1, d2] => { results := [.lit (.bool true)], args := [d1, d2] }
  | _ => none }
def smfBackRow : OpenClaim := { program := "ytdmnknhlibaaoaa", sum := "5b1850822f387208ab7885d80b1742140437353e723e2643058fd802105d50b0", func := "partita/partitalaw16.SmfBack", spec := "smfBack", unfollowed := true, recurses := true, apart := false }
def SmfBackSaid : Prop := smfBackRow.holds Try.pinned (OpenSpec.ofChange smfBackSpec)

/-- ITS FALSE NEIGHBOUR: 'it returns false'. Refute it at one input. -/
def smfBackWrong : ChangeSpec := { name := "smfBack", fn := fun _ => fun
  | [d1, d2] => { results := [.lit (.bool false)], args := [d1, d2] }
  | _ => none }
def SmfBackWrongFalsely : Prop := smfBackRow.holds Try.pinned (OpenSpec.ofChange smfBackWrong)

/-- 'partitalaw16.SmfChunks': WHATEVER THE INPUT: true; the input reads as it did. -/
def smfChunksSpec : ChangeSpec := { name := "smfChunks", fn := fun _ => fun
  | [d1, d2, d3, d4] => { results := [.lit (.bool true)], args := [d1, d2, d3, d4] }
  | _ => none }
def smfChunksRow : OpenClaim := { program := "ytdmnknhlibaaoaa", sum := "5b1850822f387208ab7885d80b1742140437353e723e2643058fd802105d50b0", func := "partita/partitalaw16.SmfChunks", spec := "smfChunks", unfollowed := true, recurses := true, apart := false }
def SmfChunksSaid : Prop := smfChunksRow.holds Try.pinned (OpenSpec.ofChange smfChunksSpec)

/-- ITS FALSE NEIGHBOUR: 'it returns false'. Refute it at one input. -/
def smfChunksWrong : ChangeSpec := { name := "smfChunks", fn := fun _ => fun
  | [d1, d2, d3, d4] => { results := [.lit (.bool false)], args := [d1, d2, d3, d4] }
  | _ => none }
def SmfChunksWrongFalsely : Prop := smfChunksRow.holds Try.pinned (OpenSpec.ofChange smfChunksWrong)

/-- 'partitalaw16.SmfShort': WHATEVER THE INPUT: true; the input reads as it did. -/
def smfShortSpec : ChangeSpec := { name := "smfShort", fn := fun _ => fun
  | [d1, d2] => { results := [.lit (.bool true)], args := [d1, d2] }
  | _ => none }
def smfShortRow : OpenClaim := { program := "ytdmnknhlibaaoaa", sum := "5b1850822f387208ab7885d80b1742140437353e723e2643058fd802105d50b0", func := "partita/partitalaw16.SmfShort", spec := "smfShort", unfollowed := true, recurses := true, apart := false }
def SmfShortSaid : Prop := smfShortRow.holds Try.pinned (OpenSpec.ofChange smfShortSpec)

/-- ITS FALSE NEIGHBOUR: 'it returns false'. Refute it at one input. -/
def smfShortWrong : ChangeSpec := { name := "smfShort", fn := fun _ => fun
  | [d1, d2] => { results := [.lit (.bool false)], args := [d1, d2] }
  | _ => none }
def SmfShortWrongFalsely : Prop := smfShortRow.holds Try.pinned (OpenSpec.ofChange smfShortWrong)

/-- 'partitalaw16.SmfHead': WHATEVER THE INPUT: true; the input reads as it did. -/
def smfHeadSpec : ChangeSpec := { name := "smfHead", fn := fun _ => fun
  | [d1, d2, d3] => { results := [.lit (.bool true)], args := [d1, d2, d3] }
  | _ => none }
def smfHeadRow : OpenClaim := { program := "ytdmnknhlibaaoaa", sum := "5b1850822f387208ab7885d80b1742140437353e723e2643058fd802105d50b0", func := "partita/partitalaw16.SmfHead", spec := "smfHead", unfollowed := true, recurses := true, apart := false }
def SmfHeadSaid : Prop := smfHeadRow.holds Try.pinned (OpenSpec.ofChange smfHeadSpec)

/-- ITS FALSE NEIGHBOUR: 'it returns false'. Refute it at one input. -/
def smfHeadWrong : ChangeSpec := { name := "smfHead", fn := fun _ => fun
  | [d1, d2, d3] => { results := [.lit (.bool false)], args := [d1, d2, d3] }
  | _ => none }
def SmfHeadWrongFalsely : Prop := smfHeadRow.holds Try.pinned (OpenSpec.ofChange smfHeadWrong)

/-- 'partitalaw16.SmfEnds': WHATEVER THE INPUT: true; the input reads as it did. -/
def smfEndsSpec : ChangeSpec := { name := "smfEnds", fn := fun _ => fun
  | [d1, d2, d3] => { results := [.lit (.bool true)], args := [d1, d2, d3] }
  | _ => none }
def smfEndsRow : OpenClaim := { program := "ytdmnknhlibaaoaa", sum := "5b1850822f387208ab7885d80b1742140437353e723e2643058fd802105d50b0", func := "partita/partitalaw16.SmfEnds", spec := "smfEnds", unfollowed := true, recurses := true, apart := false }
def SmfEndsSaid : Prop := smfEndsRow.holds Try.pinned (OpenSpec.ofChange smfEndsSpec)

/-- ITS FALSE NEIGHBOUR: 'it returns false'. Refute it at one input. -/
def smfEndsWrong : ChangeSpec := { name := "smfEnds", fn := fun _ => fun
  | [d1, d2, d3] => { results := [.lit (.bool false)], args := [d1, d2, d3] }
  | _ => none }
def SmfEndsWrongFalsely : Prop := smfEndsRow.holds Try.pinned (OpenSpec.ofChange smfEndsWrong)

/-- 'partitalaw16.SmfJoins': WHATEVER THE INPUT: true; the input reads as it did. -/
def smfJoinsSpec : ChangeSpec := { name := "smfJoins", fn := fun _ => fun
  | [d] => { results := [.lit (.bool true)], args := [d] }
  | _ => none }
def smfJoinsRow : OpenClaim := { program := "ytdmnknhlibaaoaa", sum := "5b1850822f387208ab7885d80b1742140437353e723e2643058fd802105d50b0", func := "partita/partitalaw16.SmfJoins", spec := "smfJoins", unfollowed := true, recurses := true, apart := false }
def SmfJoinsSaid : Prop := smfJoinsRow.holds Try.pinned (OpenSpec.ofChange smfJoinsSpec)

/-- ITS FALSE NEIGHBOUR: 'it returns false'. Refute it at one input. -/
def smfJoinsWrong : ChangeSpec := { name := "smfJoins", fn := fun _ => fun
  | [d] => { results := [.lit (.bool false)], args := [d] }
  | _ => none }
def SmfJoinsWrongFalsely : Prop := smfJoinsRow.holds Try.pinned (OpenSpec.ofChange smfJoinsWrong)

/- THE SECOND FORM. 'bulk': how many values and letters a reading holds, each counted each time it is reached (what is shared counts as often as it is met; a slice's spare places count too). A statement '..UptoSaid' is the law's where the arguments, and the package variables that the reading takes, are together of bulk at most 1048576: NARROWER than '..Said'. Prove '..Said' where nothing that the law and all that it calls make is longer than what came in: it says more and counts as full. Else prove '..UptoSaid'. A law counts once. -/
mutual
def uptoBulk {H : Type} : DataW H → Nat
  | .lit (.string bytes) => bytes.length + 1
  | .lit _ => 1
  | .nil => 1
  | .ptr d => uptoBulk d + 1
  | .slice elems spare => uptoBulkAll elems + uptoBulkAll spare + 1
  | .agg parts => uptoBulkAll parts + 1
  | .iface _ d => uptoBulk d + 1
  | .map entries => uptoBulkEntries entries + 1
  | .held _ => 1
def uptoBulkAll {H : Type} : List (DataW H) → Nat
  | [] => 0
  | d :: r => uptoBulk d + uptoBulkAll r
def uptoBulkEntries {H : Type} : List (Lit × DataW H) → Nat
  | [] => 0
  | x :: r => uptoBulkEntry x + uptoBulkEntries r
def uptoBulkEntry {H : Type} : Lit × DataW H → Nat
  | (.string bytes, d) => bytes.length + uptoBulk d + 1
  | (_, d) => uptoBulk d + 1
 end
def uptoSmall : (H : Type) → List (DataW H) → Bool := fun _ ds => decide (uptoBulkAll ds ≤ 1048576)
def OpenSpec.upto (s : _root_.Go.ChangeSpec) : _root_.Go.OpenSpec := { _root_.Go.OpenSpec.ofChange s with cond := some uptoSmall }

/-- 'partitalaw16.SmfSame', WHERE WHAT IT READS IS OF BULK AT MOST 1048576: true; the input reads as it did. -/
def smfSameUptoRow : OpenClaim := { program := "ytdmnknhlibaaoaa", sum := "5b1850822f387208ab7885d80b1742140437353e723e2643058fd802105d50b0", func := "partita/partitalaw16.SmfSame", spec := "smfSame", unfollowed := true, recurses := true, apart := false, narrowed := true }
def SmfSameUptoSaid : Prop := smfSameUptoRow.holds Try.pinned (OpenSpec.upto smfSameSpec)

/-- 'partitalaw16.SmfTells', WHERE WHAT IT READS IS OF BULK AT MOST 1048576: true; the input reads as it did. -/
def smfTellsUptoRow : OpenClaim := { program := "ytdmnknhlibaaoaa", sum := "5b1850822f387208ab7885d80b1742140437353e723e2643058fd802105d50b0", func := "partita/partitalaw16.SmfTells", spec := "smfTells", unfollowed := true, recurses := true, apart := false, narrowed := true }
def SmfTellsUptoSaid : Prop := smfTellsUptoRow.holds Try.pinned (OpenSpec.upto smfTellsSpec)

/-- 'partitalaw16.SmfBack', WHERE WHAT IT READS IS OF BULK AT MOST 1048576: true; the input reads as it did. -/
def smfBackUptoRow : OpenClaim := { program := "ytdmnknhlibaaoaa", sum := "5b1850822f387208ab7885d80b1742140437353e723e2643058fd802105d50b0", func := "partita/partitalaw16.SmfBack", spec := "smfBack", unfollowed := true, recurses := true, apart := false, narrowed := true }
def SmfBackUptoSaid : Prop := smfBackUptoRow.holds Try.pinned (OpenSpec.upto smfBackSpec)

/-- 'partitalaw16.SmfChunks', WHERE WHAT IT READS IS OF BULK AT MOST 1048576: true; the input reads as it did. -/
def smfChunksUptoRow : OpenClaim := { program := "ytdmnknhlibaaoaa", sum := "5b1850822f387208ab7885d80b1742140437353e723e2643058fd802105d50b0", func := "partita/partitalaw16.SmfChunks", spec := "smfChunks", unfollowed := true, recurses := true, apart := false, narrowed := true }
def SmfChunksUptoSaid : Prop := smfChunksUptoRow.holds Try.pinned (OpenSpec.upto smfChunksSpec)

/-- 'partitalaw16.SmfShort', WHERE WHAT IT READS IS OF BULK AT MOST 1048576: true; the input reads as it did. -/
def smfShortUptoRow : OpenClaim := { program := "ytdmnknhlibaaoaa", sum := "5b1850822f387208ab7885d80b1742140437353e723e2643058fd802105d50b0", func := "partita/partitalaw16.SmfShort", spec := "smfShort", unfollowed := true, recurses := true, apart := false, narrowed := true }
def SmfShortUptoSaid : Prop := smfShortUptoRow.holds Try.pinned (OpenSpec.upto smfShortSpec)

/-- 'partitalaw16.SmfHead', WHERE WHAT IT READS IS OF BULK AT MOST 1048576: true; the input reads as it did. -/
def smfHeadUptoRow : OpenClaim := { program := "ytdmnknhlibaaoaa", sum := "5b1850822f387208ab7885d80b1742140437353e723e2643058fd802105d50b0", func := "partita/partitalaw16.SmfHead", spec := "smfHead", unfollowed := true, recurses := true, apart := false, narrowed := true }
def SmfHeadUptoSaid : Prop := smfHeadUptoRow.holds Try.pinned (OpenSpec.upto smfHeadSpec)

/-- 'partitalaw16.SmfEnds', WHERE WHAT IT READS IS OF BULK AT MOST 1048576: true; the input reads as it did. -/
def smfEndsUptoRow : OpenClaim := { program := "ytdmnknhlibaaoaa", sum := "5b1850822f387208ab7885d80b1742140437353e723e2643058fd802105d50b0", func := "partita/partitalaw16.SmfEnds", spec := "smfEnds", unfollowed := true, recurses := true, apart := false, narrowed := true }
def SmfEndsUptoSaid : Prop := smfEndsUptoRow.holds Try.pinned (OpenSpec.upto smfEndsSpec)

/-- 'partitalaw16.SmfJoins', WHERE WHAT IT READS IS OF BULK AT MOST 1048576: true; the input reads as it did. -/
def smfJoinsUptoRow : OpenClaim := { program := "ytdmnknhlibaaoaa", sum := "5b1850822f387208ab7885d80b1742140437353e723e2643058fd802105d50b0", func := "partita/partitalaw16.SmfJoins", spec := "smfJoins", unfollowed := true, recurses := true, apart := false, narrowed := true }
def SmfJoinsUptoSaid : Prop := smfJoinsUptoRow.holds Try.pinned (OpenSpec.upto smfJoinsSpec)

end Rows
end Go.Proofs.Ytdmnknhlibaaoaa
