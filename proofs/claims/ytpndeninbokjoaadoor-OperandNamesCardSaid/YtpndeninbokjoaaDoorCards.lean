/-
  DERIVED. GIVEN WITH THE SEED: THE CARDS: each row of YtpndeninbokjoaaDoorRows.lean that lists a variable, with what it lists TIED to the program's text (the seventh form; the later family's looks); each row that meets fmt, with fmt's text TOLD by the authors' own Lean function (tested against real Go, not proved from fmt's source: count such statements apart). THE CARD IS WHAT COUNTS. Prove the row's statement (the work); the ties are given (YtpndeninbokjoaaDoorTie.lean); close each card by the builder's one call (the guide's Derived/Test/ToyasCard.lean, 'card_holds'). Laid BY PROGRAM, IN A SANDBOX (cutbox-door.mjs). By AI agents, Wed Nov 11 2026. No macro, syntax, notation, axiom, sorry.
-/
import Derived.Test.YtpndeninbokjoaaDoorRows
import GoSem.ClaimSeven
namespace Go.Proofs.YtpndeninbokjoaaDoor
namespace Rows

/-- THE TIED CARD OF 'cleatlaw11.OperandJoins'. -/
def operandJoinsCard : Claim7 := { stood := { row := operandJoinsRow, standIns := [], harness := (true, "7911b5fa8ed50b450136403605e4cc836410548fb2d46b3d37b9278a076b2dfa"), looks := true }, kinds := [], alts := [], laidByText := true, laidKinds := [.data, .data, .data, .data, .pinned], laidTests := true, laidLooks := .later }
def OperandJoinsCardSaid : Prop := Claim7.holds Tryd.pinned (.plain (OpenSpec.ofChange operandJoinsSpec)) operandJoinsCard

/-- THE TIED CARD OF 'cleatlaw11.OperandNames'. -/
def operandNamesCard : Claim7 := { stood := { row := operandNamesRow, standIns := [], harness := (true, "7911b5fa8ed50b450136403605e4cc836410548fb2d46b3d37b9278a076b2dfa"), looks := true }, kinds := [], alts := [], laidByText := true, laidKinds := [.data, .data, .data, .data, .pinned], laidTests := true, laidLooks := .later }
def OperandNamesCardSaid : Prop := Claim7.holds Tryd.pinned (.plain (OpenSpec.ofChange operandNamesSpec)) operandNamesCard

/-- THE TIED CARD OF 'cleatlaw11.OperandRegs'. -/
def operandRegsCard : Claim7 := { stood := { row := operandRegsRow, standIns := [], harness := (true, "7911b5fa8ed50b450136403605e4cc836410548fb2d46b3d37b9278a076b2dfa"), looks := true }, kinds := [], alts := [], laidByText := true, laidKinds := [.data, .data, .data, .data, .pinned], laidTests := true, laidLooks := .later }
def OperandRegsCardSaid : Prop := Claim7.holds Tryd.pinned (.plain (OpenSpec.ofChange operandRegsSpec)) operandRegsCard

/-- THE SECOND FORM's CARD OF 'cleatlaw11.OperandJoins'. -/
def operandJoinsUptoCard : Claim7 := { stood := { row := operandJoinsUptoRow, standIns := [], harness := (true, "7911b5fa8ed50b450136403605e4cc836410548fb2d46b3d37b9278a076b2dfa"), looks := true }, kinds := [], alts := [], laidByText := true, laidKinds := [.data, .data, .data, .data, .pinned], laidTests := true, laidLooks := .later }
def OperandJoinsUptoCardSaid : Prop := Claim7.holds Tryd.pinned (.plain (OpenSpec.upto operandJoinsSpec)) operandJoinsUptoCard

/-- THE SECOND FORM's CARD OF 'cleatlaw11.OperandNames'. -/
def operandNamesUptoCard : Claim7 := { stood := { row := operandNamesUptoRow, standIns := [], harness := (true, "7911b5fa8ed50b450136403605e4cc836410548fb2d46b3d37b9278a076b2dfa"), looks := true }, kinds := [], alts := [], laidByText := true, laidKinds := [.data, .data, .data, .data, .pinned], laidTests := true, laidLooks := .later }
def OperandNamesUptoCardSaid : Prop := Claim7.holds Tryd.pinned (.plain (OpenSpec.upto operandNamesSpec)) operandNamesUptoCard

/-- THE SECOND FORM's CARD OF 'cleatlaw11.OperandRegs'. -/
def operandRegsUptoCard : Claim7 := { stood := { row := operandRegsUptoRow, standIns := [], harness := (true, "7911b5fa8ed50b450136403605e4cc836410548fb2d46b3d37b9278a076b2dfa"), looks := true }, kinds := [], alts := [], laidByText := true, laidKinds := [.data, .data, .data, .data, .pinned], laidTests := true, laidLooks := .later }
def OperandRegsUptoCardSaid : Prop := Claim7.holds Tryd.pinned (.plain (OpenSpec.upto operandRegsSpec)) operandRegsUptoCard
end Rows
end Go.Proofs.YtpndeninbokjoaaDoor
