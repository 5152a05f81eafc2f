/-
  DERIVED. GIVEN WITH THE SEED: THE CARDS: each row of YtdmnknhlibaaoaaDoorRows.lean that lists a variable, with what it lists TIED to the program's text (the seventh form; the later family's looks); each row that meets fmt, with fmt's text TOLD by the authors' own Lean function (tested against real Go, not proved from fmt's source: count such statements apart). THE CARD IS WHAT COUNTS. Prove the row's statement (the work); the ties are given (YtdmnknhlibaaoaaDoorTie.lean); close each card by the builder's one call (the guide's Derived/Test/ToyasCard.lean, 'card_holds'). Laid BY PROGRAM, IN A SANDBOX (cutbox-door.mjs). By AI agents, Wed Nov 11 2026. No macro, syntax, notation, axiom, sorry.
-/
import Derived.Test.YtdmnknhlibaaoaaDoorRows
import GoSem.ClaimSeven
namespace Go.Proofs.YtdmnknhlibaaoaaDoor
namespace Rows

/-- THE TIED CARD OF 'partitalaw16.SmfScale'. -/
def smfScaleCard : Claim7 := { stood := { row := smfScaleRow, standIns := [], harness := (true, "a57ce1ece8c54cb28b8831fe2987079174d33432fea87ba335f8a3dbea81498e"), looks := true }, kinds := [], alts := [], laidByText := true, laidKinds := [.data], laidTests := true, laidLooks := .later }
def SmfScaleCardSaid : Prop := Claim7.holds Tryd.pinned (.plain (OpenSpec.ofChange smfScaleSpec)) smfScaleCard

/-- THE SECOND FORM's CARD OF 'partitalaw16.SmfScale'. -/
def smfScaleUptoCard : Claim7 := { stood := { row := smfScaleUptoRow, standIns := [], harness := (true, "a57ce1ece8c54cb28b8831fe2987079174d33432fea87ba335f8a3dbea81498e"), looks := true }, kinds := [], alts := [], laidByText := true, laidKinds := [.data], laidTests := true, laidLooks := .later }
def SmfScaleUptoCardSaid : Prop := Claim7.holds Tryd.pinned (.plain (OpenSpec.upto smfScaleSpec)) smfScaleUptoCard
end Rows
end Go.Proofs.YtdmnknhlibaaoaaDoor
