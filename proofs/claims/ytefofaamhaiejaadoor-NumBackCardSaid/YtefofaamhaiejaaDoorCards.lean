/-
  DERIVED. GIVEN WITH THE SEED: THE CARDS: each row of YtefofaamhaiejaaDoorRows.lean that lists a variable, with what it lists TIED to the program's text (the seventh form; the later family's looks); each row that meets fmt, with fmt's text TOLD by the authors' own Lean function (tested against real Go, not proved from fmt's source: count such statements apart). THE CARD IS WHAT COUNTS. Prove the row's statement (the work); the ties are given (YtefofaamhaiejaaDoorTie.lean); close each card by the builder's one call (the guide's Derived/Test/ToyasCard.lean, 'card_holds'). Laid BY PROGRAM, IN A SANDBOX (cutbox-door.mjs). By AI agents, Wed Nov 11 2026. No macro, syntax, notation, axiom, sorry.
-/
import Derived.Test.YtefofaamhaiejaaDoorRows
import GoSem.ClaimSeven
namespace Go.Proofs.YtefofaamhaiejaaDoor
namespace Rows

/-- THE TIED CARD OF 'cleatlaw10.NumDoes'. -/
def numDoesCard : Claim7 := { stood := { row := numDoesRow, standIns := [], harness := (true, "aea111301f015081a34293e3a99fdd4047ab10e2339fa3d9319af32fe2276298"), looks := false }, kinds := [], alts := [], laidByText := true, laidKinds := [.data, .data, .data], laidTests := true, laidLooks := .later }
def NumDoesCardSaid : Prop := Claim7.holds Tryd.pinned (.plain (OpenSpec.ofChange numDoesSpec)) numDoesCard

/-- THE TIED CARD OF 'cleatlaw10.NumBack'. -/
def numBackCard : Claim7 := { stood := { row := numBackRow, standIns := [], harness := (true, "aea111301f015081a34293e3a99fdd4047ab10e2339fa3d9319af32fe2276298"), looks := false }, kinds := [], alts := [], laidByText := true, laidKinds := [.data, .data, .data], laidTests := true, laidLooks := .later }
def NumBackCardSaid : Prop := Claim7.holds Tryd.pinned (.plain (OpenSpec.ofChange numBackSpec)) numBackCard

/-- THE TIED CARD OF 'cleatlaw10.NumNoughts'. -/
def numNoughtsCard : Claim7 := { stood := { row := numNoughtsRow, standIns := [], harness := (true, "aea111301f015081a34293e3a99fdd4047ab10e2339fa3d9319af32fe2276298"), looks := false }, kinds := [], alts := [], laidByText := true, laidKinds := [.data, .data, .data], laidTests := true, laidLooks := .later }
def NumNoughtsCardSaid : Prop := Claim7.holds Tryd.pinned (.plain (OpenSpec.ofChange numNoughtsSpec)) numNoughtsCard

/-- THE TIED CARD OF 'cleatlaw10.NumSign'. -/
def numSignCard : Claim7 := { stood := { row := numSignRow, standIns := [], harness := (true, "aea111301f015081a34293e3a99fdd4047ab10e2339fa3d9319af32fe2276298"), looks := false }, kinds := [], alts := [], laidByText := true, laidKinds := [.data, .data, .data], laidTests := true, laidLooks := .later }
def NumSignCardSaid : Prop := Claim7.holds Tryd.pinned (.plain (OpenSpec.ofChange numSignSpec)) numSignCard

/-- THE TIED CARD OF 'cleatlaw10.NumSums'. -/
def numSumsCard : Claim7 := { stood := { row := numSumsRow, standIns := [], harness := (true, "aea111301f015081a34293e3a99fdd4047ab10e2339fa3d9319af32fe2276298"), looks := false }, kinds := [], alts := [], laidByText := true, laidKinds := [.data, .data, .data], laidTests := true, laidLooks := .later }
def NumSumsCardSaid : Prop := Claim7.holds Tryd.pinned (.plain (OpenSpec.ofChange numSumsSpec)) numSumsCard

/-- THE SECOND FORM's CARD OF 'cleatlaw10.NumDoes'. -/
def numDoesUptoCard : Claim7 := { stood := { row := numDoesUptoRow, standIns := [], harness := (true, "aea111301f015081a34293e3a99fdd4047ab10e2339fa3d9319af32fe2276298"), looks := false }, kinds := [], alts := [], laidByText := true, laidKinds := [.data, .data, .data], laidTests := true, laidLooks := .later }
def NumDoesUptoCardSaid : Prop := Claim7.holds Tryd.pinned (.plain (OpenSpec.upto numDoesSpec)) numDoesUptoCard

/-- THE SECOND FORM's CARD OF 'cleatlaw10.NumBack'. -/
def numBackUptoCard : Claim7 := { stood := { row := numBackUptoRow, standIns := [], harness := (true, "aea111301f015081a34293e3a99fdd4047ab10e2339fa3d9319af32fe2276298"), looks := false }, kinds := [], alts := [], laidByText := true, laidKinds := [.data, .data, .data], laidTests := true, laidLooks := .later }
def NumBackUptoCardSaid : Prop := Claim7.holds Tryd.pinned (.plain (OpenSpec.upto numBackSpec)) numBackUptoCard

/-- THE SECOND FORM's CARD OF 'cleatlaw10.NumNoughts'. -/
def numNoughtsUptoCard : Claim7 := { stood := { row := numNoughtsUptoRow, standIns := [], harness := (true, "aea111301f015081a34293e3a99fdd4047ab10e2339fa3d9319af32fe2276298"), looks := false }, kinds := [], alts := [], laidByText := true, laidKinds := [.data, .data, .data], laidTests := true, laidLooks := .later }
def NumNoughtsUptoCardSaid : Prop := Claim7.holds Tryd.pinned (.plain (OpenSpec.upto numNoughtsSpec)) numNoughtsUptoCard

/-- THE SECOND FORM's CARD OF 'cleatlaw10.NumSign'. -/
def numSignUptoCard : Claim7 := { stood := { row := numSignUptoRow, standIns := [], harness := (true, "aea111301f015081a34293e3a99fdd4047ab10e2339fa3d9319af32fe2276298"), looks := false }, kinds := [], alts := [], laidByText := true, laidKinds := [.data, .data, .data], laidTests := true, laidLooks := .later }
def NumSignUptoCardSaid : Prop := Claim7.holds Tryd.pinned (.plain (OpenSpec.upto numSignSpec)) numSignUptoCard

/-- THE SECOND FORM's CARD OF 'cleatlaw10.NumSums'. -/
def numSumsUptoCard : Claim7 := { stood := { row := numSumsUptoRow, standIns := [], harness := (true, "aea111301f015081a34293e3a99fdd4047ab10e2339fa3d9319af32fe2276298"), looks := false }, kinds := [], alts := [], laidByText := true, laidKinds := [.data, .data, .data], laidTests := true, laidLooks := .later }
def NumSumsUptoCardSaid : Prop := Claim7.holds Tryd.pinned (.plain (OpenSpec.upto numSumsSpec)) numSumsUptoCard
end Rows
end Go.Proofs.YtefofaamhaiejaaDoor
