/-
  DERIVED. GIVEN WITH THE SEED: THE CARDS: each row of YtmolcgkahhdkgaaDoorRows.lean that lists a variable, with what it lists TIED to the program's text (the seventh form; the later family's looks); each row that meets fmt, with fmt's text TOLD by the authors' own Lean function (tested against real Go, not proved from fmt's source: count such statements apart). THE CARD IS WHAT COUNTS. Prove the row's statement (the work); the ties are given (YtmolcgkahhdkgaaDoorTie.lean); close each card by the builder's one call (the guide's Derived/Test/ToyasCard.lean, 'card_holds'). Laid BY PROGRAM, IN A SANDBOX (cutbox-door.mjs). By AI agents, Wed Nov 11 2026. No macro, syntax, notation, axiom, sorry.
-/
import Derived.Test.YtmolcgkahhdkgaaDoorRows
import GoSem.ClaimSeven
namespace Go.Proofs.YtmolcgkahhdkgaaDoor
namespace Rows

/-- THE TIED CARD OF 'cleatlaw14.LocalSplits'. -/
def localSplitsCard : Claim7 := { stood := { row := localSplitsRow, standIns := [], harness := (true, "3a21d601cb9a340e0420c6fe5e6c8aad09e0253a81da1e0ee6187996eea68cbe"), looks := false }, kinds := [], alts := [], laidByText := true, laidKinds := [.data, .data, .data, .data, .pinned], laidTests := true, laidLooks := .later }
def LocalSplitsCardSaid : Prop := Claim7.holds Tryd.pinned (.plain (OpenSpec.ofChange localSplitsSpec)) localSplitsCard

/-- THE TIED CARD OF 'cleatlaw14.LocalNear'. -/
def localNearCard : Claim7 := { stood := { row := localNearRow, standIns := [], harness := (true, "3a21d601cb9a340e0420c6fe5e6c8aad09e0253a81da1e0ee6187996eea68cbe"), looks := false }, kinds := [], alts := [], laidByText := true, laidKinds := [.data, .data, .data, .data, .pinned], laidTests := true, laidLooks := .later }
def LocalNearCardSaid : Prop := Claim7.holds Tryd.pinned (.plain (OpenSpec.ofChange localNearSpec)) localNearCard

/-- THE TIED CARD OF 'cleatlaw14.LocalOwn'. -/
def localOwnCard : Claim7 := { stood := { row := localOwnRow, standIns := [], harness := (true, "3a21d601cb9a340e0420c6fe5e6c8aad09e0253a81da1e0ee6187996eea68cbe"), looks := false }, kinds := [], alts := [], laidByText := true, laidKinds := [.data, .data, .data, .data, .pinned], laidTests := true, laidLooks := .later }
def LocalOwnCardSaid : Prop := Claim7.holds Tryd.pinned (.plain (OpenSpec.ofChange localOwnSpec)) localOwnCard

/-- THE TIED CARD OF 'cleatlaw14.LocalText'. -/
def localTextCard : Claim7 := { stood := { row := localTextRow, standIns := [], harness := (true, "3a21d601cb9a340e0420c6fe5e6c8aad09e0253a81da1e0ee6187996eea68cbe"), looks := false }, kinds := [], alts := [], laidByText := true, laidKinds := [.data, .data, .data, .data, .pinned], laidTests := true, laidLooks := .later }
def LocalTextCardSaid : Prop := Claim7.holds Tryd.pinned (.plain (OpenSpec.ofChange localTextSpec)) localTextCard

/-- THE SECOND FORM's CARD OF 'cleatlaw14.LocalSplits'. -/
def localSplitsUptoCard : Claim7 := { stood := { row := localSplitsUptoRow, standIns := [], harness := (true, "3a21d601cb9a340e0420c6fe5e6c8aad09e0253a81da1e0ee6187996eea68cbe"), looks := false }, kinds := [], alts := [], laidByText := true, laidKinds := [.data, .data, .data, .data, .pinned], laidTests := true, laidLooks := .later }
def LocalSplitsUptoCardSaid : Prop := Claim7.holds Tryd.pinned (.plain (OpenSpec.upto localSplitsSpec)) localSplitsUptoCard

/-- THE SECOND FORM's CARD OF 'cleatlaw14.LocalNear'. -/
def localNearUptoCard : Claim7 := { stood := { row := localNearUptoRow, standIns := [], harness := (true, "3a21d601cb9a340e0420c6fe5e6c8aad09e0253a81da1e0ee6187996eea68cbe"), looks := false }, kinds := [], alts := [], laidByText := true, laidKinds := [.data, .data, .data, .data, .pinned], laidTests := true, laidLooks := .later }
def LocalNearUptoCardSaid : Prop := Claim7.holds Tryd.pinned (.plain (OpenSpec.upto localNearSpec)) localNearUptoCard

/-- THE SECOND FORM's CARD OF 'cleatlaw14.LocalOwn'. -/
def localOwnUptoCard : Claim7 := { stood := { row := localOwnUptoRow, standIns := [], harness := (true, "3a21d601cb9a340e0420c6fe5e6c8aad09e0253a81da1e0ee6187996eea68cbe"), looks := false }, kinds := [], alts := [], laidByText := true, laidKinds := [.data, .data, .data, .data, .pinned], laidTests := true, laidLooks := .later }
def LocalOwnUptoCardSaid : Prop := Claim7.holds Tryd.pinned (.plain (OpenSpec.upto localOwnSpec)) localOwnUptoCard

/-- THE SECOND FORM's CARD OF 'cleatlaw14.LocalText'. -/
def localTextUptoCard : Claim7 := { stood := { row := localTextUptoRow, standIns := [], harness := (true, "3a21d601cb9a340e0420c6fe5e6c8aad09e0253a81da1e0ee6187996eea68cbe"), looks := false }, kinds := [], alts := [], laidByText := true, laidKinds := [.data, .data, .data, .data, .pinned], laidTests := true, laidLooks := .later }
def LocalTextUptoCardSaid : Prop := Claim7.holds Tryd.pinned (.plain (OpenSpec.upto localTextSpec)) localTextUptoCard
end Rows
end Go.Proofs.YtmolcgkahhdkgaaDoor
