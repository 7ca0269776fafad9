/-
  DERIVED. GIVEN WITH THE SEED: THE CARDS: each row of YtghpbbdmljobjaaDoorRows.lean that lists a variable, with what it lists TIED to the program's text (the seventh form; the later family's looks); each row that meets fmt, with fmt's text TOLD by the authors' own Lean function (tested against real Go, not proved from fmt's source: count such statements apart). THE CARD IS WHAT COUNTS. Prove the row's statement (the work); the ties are given (YtghpbbdmljobjaaDoorTie.lean); close each card by the builder's one call (the guide's Derived/Test/ToyasCard.lean, 'card_holds'). Laid BY PROGRAM, IN A SANDBOX (cutbox-door.mjs). By AI agents, Wed Nov 11 2026. No macro, syntax, notation, axiom, sorry.
-/
import Derived.Test.YtghpbbdmljobjaaDoorRows
import GoSem.ClaimSeven
namespace Go.Proofs.YtghpbbdmljobjaaDoor
namespace Rows

/-- THE TIED CARD OF 'cleatlaw09.LexBack'. -/
def lexBackCard : Claim7 := { stood := { row := lexBackRow, standIns := [], harness := (true, "5ce72e2ed9c68283109609251b78bc342f1c41140c4348a970612720134b3da8"), looks := false }, kinds := [], alts := [], laidByText := true, laidKinds := [.data, .pinned], laidTests := true, laidLooks := .later }
def LexBackCardSaid : Prop := Claim7.holds Tryd.pinned (.plain (OpenSpec.ofChange lexBackSpec)) lexBackCard

/-- THE TIED CARD OF 'cleatlaw09.LexJoins'. -/
def lexJoinsCard : Claim7 := { stood := { row := lexJoinsRow, standIns := [], harness := (true, "5ce72e2ed9c68283109609251b78bc342f1c41140c4348a970612720134b3da8"), looks := false }, kinds := [], alts := [], laidByText := true, laidKinds := [.data, .pinned], laidTests := true, laidLooks := .later }
def LexJoinsCardSaid : Prop := Claim7.holds Tryd.pinned (.plain (OpenSpec.ofChange lexJoinsSpec)) lexJoinsCard

/-- THE TIED CARD OF 'cleatlaw09.LexComment'. -/
def lexCommentCard : Claim7 := { stood := { row := lexCommentRow, standIns := [], harness := (true, "5ce72e2ed9c68283109609251b78bc342f1c41140c4348a970612720134b3da8"), looks := false }, kinds := [], alts := [], laidByText := true, laidKinds := [.data, .pinned], laidTests := true, laidLooks := .later }
def LexCommentCardSaid : Prop := Claim7.holds Tryd.pinned (.plain (OpenSpec.ofChange lexCommentSpec)) lexCommentCard

/-- THE TIED CARD OF 'cleatlaw09.LexWord'. -/
def lexWordCard : Claim7 := { stood := { row := lexWordRow, standIns := [], harness := (true, "5ce72e2ed9c68283109609251b78bc342f1c41140c4348a970612720134b3da8"), looks := false }, kinds := [], alts := [], laidByText := true, laidKinds := [.data, .pinned], laidTests := true, laidLooks := .later }
def LexWordCardSaid : Prop := Claim7.holds Tryd.pinned (.plain (OpenSpec.ofChange lexWordSpec)) lexWordCard

/-- THE SECOND FORM's CARD OF 'cleatlaw09.LexBack'. -/
def lexBackUptoCard : Claim7 := { stood := { row := lexBackUptoRow, standIns := [], harness := (true, "5ce72e2ed9c68283109609251b78bc342f1c41140c4348a970612720134b3da8"), looks := false }, kinds := [], alts := [], laidByText := true, laidKinds := [.data, .pinned], laidTests := true, laidLooks := .later }
def LexBackUptoCardSaid : Prop := Claim7.holds Tryd.pinned (.plain (OpenSpec.upto lexBackSpec)) lexBackUptoCard

/-- THE SECOND FORM's CARD OF 'cleatlaw09.LexJoins'. -/
def lexJoinsUptoCard : Claim7 := { stood := { row := lexJoinsUptoRow, standIns := [], harness := (true, "5ce72e2ed9c68283109609251b78bc342f1c41140c4348a970612720134b3da8"), looks := false }, kinds := [], alts := [], laidByText := true, laidKinds := [.data, .pinned], laidTests := true, laidLooks := .later }
def LexJoinsUptoCardSaid : Prop := Claim7.holds Tryd.pinned (.plain (OpenSpec.upto lexJoinsSpec)) lexJoinsUptoCard

/-- THE SECOND FORM's CARD OF 'cleatlaw09.LexComment'. -/
def lexCommentUptoCard : Claim7 := { stood := { row := lexCommentUptoRow, standIns := [], harness := (true, "5ce72e2ed9c68283109609251b78bc342f1c41140c4348a970612720134b3da8"), looks := false }, kinds := [], alts := [], laidByText := true, laidKinds := [.data, .pinned], laidTests := true, laidLooks := .later }
def LexCommentUptoCardSaid : Prop := Claim7.holds Tryd.pinned (.plain (OpenSpec.upto lexCommentSpec)) lexCommentUptoCard

/-- THE SECOND FORM's CARD OF 'cleatlaw09.LexWord'. -/
def lexWordUptoCard : Claim7 := { stood := { row := lexWordUptoRow, standIns := [], harness := (true, "5ce72e2ed9c68283109609251b78bc342f1c41140c4348a970612720134b3da8"), looks := false }, kinds := [], alts := [], laidByText := true, laidKinds := [.data, .pinned], laidTests := true, laidLooks := .later }
def LexWordUptoCardSaid : Prop := Claim7.holds Tryd.pinned (.plain (OpenSpec.upto lexWordSpec)) lexWordUptoCard
end Rows
end Go.Proofs.YtghpbbdmljobjaaDoor
