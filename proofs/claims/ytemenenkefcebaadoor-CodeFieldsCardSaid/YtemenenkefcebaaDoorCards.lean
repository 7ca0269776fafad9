/-
  DERIVED. GIVEN WITH THE SEED: THE CARDS: each row of YtemenenkefcebaaDoorRows.lean that lists a variable, with what it lists TIED to the program's text (the seventh form; the later family's looks); each row that meets fmt, with fmt's text TOLD by the authors' own Lean function (tested against real Go, not proved from fmt's source: count such statements apart). THE CARD IS WHAT COUNTS. Prove the row's statement (the work); the ties are given (YtemenenkefcebaaDoorTie.lean); close each card by the builder's one call (the guide's Derived/Test/ToyasCard.lean, 'card_holds'). Laid BY PROGRAM, IN A SANDBOX (cutbox-door.mjs). By AI agents, Wed Nov 11 2026. No macro, syntax, notation, axiom, sorry.
-/
import Derived.Test.YtemenenkefcebaaDoorRows
import GoSem.ClaimSeven
namespace Go.Proofs.YtemenenkefcebaaDoor
namespace Rows

/-- THE TIED CARD OF 'cleatlaw05.CodeBack'. -/
def codeBackCard : Claim7 := { stood := { row := codeBackRow, standIns := [], harness := (true, "19d8196a5d4606d1720b83fa0c0ef4fe0a40db343b54c34aacb258aad4583c1b"), looks := false }, kinds := [], alts := [], laidByText := true, laidKinds := [.data, .data, .data], laidTests := true, laidLooks := .later }
def CodeBackCardSaid : Prop := Claim7.holds Tryd.pinned (.plain (OpenSpec.ofChange codeBackSpec)) codeBackCard

/-- THE TIED CARD OF 'cleatlaw05.CodeWord'. -/
def codeWordCard : Claim7 := { stood := { row := codeWordRow, standIns := [], harness := (true, "19d8196a5d4606d1720b83fa0c0ef4fe0a40db343b54c34aacb258aad4583c1b"), looks := false }, kinds := [], alts := [], laidByText := true, laidKinds := [.data, .data, .data], laidTests := true, laidLooks := .later }
def CodeWordCardSaid : Prop := Claim7.holds Tryd.pinned (.plain (OpenSpec.ofChange codeWordSpec)) codeWordCard

/-- THE TIED CARD OF 'cleatlaw05.CodeBit'. -/
def codeBitCard : Claim7 := { stood := { row := codeBitRow, standIns := [], harness := (true, "19d8196a5d4606d1720b83fa0c0ef4fe0a40db343b54c34aacb258aad4583c1b"), looks := false }, kinds := [], alts := [], laidByText := true, laidKinds := [.data, .data, .data], laidTests := true, laidLooks := .later }
def CodeBitCardSaid : Prop := Claim7.holds Tryd.pinned (.plain (OpenSpec.ofChange codeBitSpec)) codeBitCard

/-- THE TIED CARD OF 'cleatlaw05.CodeFields'. -/
def codeFieldsCard : Claim7 := { stood := { row := codeFieldsRow, standIns := [], harness := (true, "19d8196a5d4606d1720b83fa0c0ef4fe0a40db343b54c34aacb258aad4583c1b"), looks := false }, kinds := [], alts := [], laidByText := true, laidKinds := [.data, .data, .data], laidTests := true, laidLooks := .later }
def CodeFieldsCardSaid : Prop := Claim7.holds Tryd.pinned (.plain (OpenSpec.ofChange codeFieldsSpec)) codeFieldsCard

/-- THE TIED CARD OF 'cleatlaw05.CodeDoes'. -/
def codeDoesCard : Claim7 := { stood := { row := codeDoesRow, standIns := [], harness := (true, "19d8196a5d4606d1720b83fa0c0ef4fe0a40db343b54c34aacb258aad4583c1b"), looks := false }, kinds := [], alts := [], laidByText := true, laidKinds := [.data, .data, .data], laidTests := true, laidLooks := .later }
def CodeDoesCardSaid : Prop := Claim7.holds Tryd.pinned (.plain (OpenSpec.ofChange codeDoesSpec)) codeDoesCard

/-- THE SECOND FORM's CARD OF 'cleatlaw05.CodeBack'. -/
def codeBackUptoCard : Claim7 := { stood := { row := codeBackUptoRow, standIns := [], harness := (true, "19d8196a5d4606d1720b83fa0c0ef4fe0a40db343b54c34aacb258aad4583c1b"), looks := false }, kinds := [], alts := [], laidByText := true, laidKinds := [.data, .data, .data], laidTests := true, laidLooks := .later }
def CodeBackUptoCardSaid : Prop := Claim7.holds Tryd.pinned (.plain (OpenSpec.upto codeBackSpec)) codeBackUptoCard

/-- THE SECOND FORM's CARD OF 'cleatlaw05.CodeWord'. -/
def codeWordUptoCard : Claim7 := { stood := { row := codeWordUptoRow, standIns := [], harness := (true, "19d8196a5d4606d1720b83fa0c0ef4fe0a40db343b54c34aacb258aad4583c1b"), looks := false }, kinds := [], alts := [], laidByText := true, laidKinds := [.data, .data, .data], laidTests := true, laidLooks := .later }
def CodeWordUptoCardSaid : Prop := Claim7.holds Tryd.pinned (.plain (OpenSpec.upto codeWordSpec)) codeWordUptoCard

/-- THE SECOND FORM's CARD OF 'cleatlaw05.CodeBit'. -/
def codeBitUptoCard : Claim7 := { stood := { row := codeBitUptoRow, standIns := [], harness := (true, "19d8196a5d4606d1720b83fa0c0ef4fe0a40db343b54c34aacb258aad4583c1b"), looks := false }, kinds := [], alts := [], laidByText := true, laidKinds := [.data, .data, .data], laidTests := true, laidLooks := .later }
def CodeBitUptoCardSaid : Prop := Claim7.holds Tryd.pinned (.plain (OpenSpec.upto codeBitSpec)) codeBitUptoCard

/-- THE SECOND FORM's CARD OF 'cleatlaw05.CodeFields'. -/
def codeFieldsUptoCard : Claim7 := { stood := { row := codeFieldsUptoRow, standIns := [], harness := (true, "19d8196a5d4606d1720b83fa0c0ef4fe0a40db343b54c34aacb258aad4583c1b"), looks := false }, kinds := [], alts := [], laidByText := true, laidKinds := [.data, .data, .data], laidTests := true, laidLooks := .later }
def CodeFieldsUptoCardSaid : Prop := Claim7.holds Tryd.pinned (.plain (OpenSpec.upto codeFieldsSpec)) codeFieldsUptoCard

/-- THE SECOND FORM's CARD OF 'cleatlaw05.CodeDoes'. -/
def codeDoesUptoCard : Claim7 := { stood := { row := codeDoesUptoRow, standIns := [], harness := (true, "19d8196a5d4606d1720b83fa0c0ef4fe0a40db343b54c34aacb258aad4583c1b"), looks := false }, kinds := [], alts := [], laidByText := true, laidKinds := [.data, .data, .data], laidTests := true, laidLooks := .later }
def CodeDoesUptoCardSaid : Prop := Claim7.holds Tryd.pinned (.plain (OpenSpec.upto codeDoesSpec)) codeDoesUptoCard
end Rows
end Go.Proofs.YtemenenkefcebaaDoor
