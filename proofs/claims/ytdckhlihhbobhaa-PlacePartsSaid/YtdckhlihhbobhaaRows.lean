/-
  No cell of these rows narrows 'for every input' (looked for: loops, veiled, ifaces, maps, wideKeys, modest, calm, conditions, laid).
  DERIVED. THE GIVEN ROWS OF THIS SEAT. 6 by the template 'for every input the law returns true; each argument reads behind the call as it read before'; 0 by the template 'total and deterministic' (their statements: YtdckhlihhbobhaaTotals.lean).
  GIVEN WITH THE SEED: the statements are not yours to turn. If you find one false, say at which input.
  Laid BY PROGRAM, IN A SANDBOX (cutbox-rows.mjs): the forced cells as the released guide's own fill.sh prints them over the translation 70f0382432b77131… (all of the seat's roots in one cut). By AI agents, Wed Nov 11 2026. No macro, syntax, notation, axiom, sorry.
-/
import Derived.Test.YtdckhlihhbobhaaChecked
import GoSem.Claim
import GoSem.ClaimJoined
import GoSem.ClaimMapViews
import Derived.JoinedTies
import Derived.KernelRfl
namespace Go.Proofs.Ytdckhlihhbobhaa
/- THE CELL 'sum', in the pinned program and in every row, IS THE sha256 OF THE DUMP (.gsa) THAT YtdckhlihhbobhaaProg.lean LOADS. Nothing in Lean hashes anything: it is a label: what it is worth is what the hold of that sum in a sandbox is worth. -/
noncomputable def Try.pinned : Pinned := { name := "ytdckhlihhbobhaa", sum := "70f0382432b771318182e51c2b2883ee19ca49df04adb5385fbf99c6df8444ab", checked := Try.checked }
namespace Rows
def none {H : Type} : Left H := { results := [], args := [] }

/-- 'cleatlaw24.PlaceDoes': WHATEVER THE INPUT: true; the input reads as it did. -/
def placeDoesSpec : ChangeSpec := { name := "placeDoes", fn := fun _ => fun
  | [d1, d2, d3, d4, d5] => { results := [.lit (.bool true)], args := [d1, d2, d3, d4, d5] }
  | _ => none }
def placeDoesRow : OpenClaim := { program := "ytdckhlihhbobhaa", sum := "70f0382432b771318182e51c2b2883ee19ca49df04adb5385fbf99c6df8444ab", func := "cleat/cleatlaw24.PlaceDoes", spec := "placeDoes", unfollowed := true, recurses := true, apart := false }
def PlaceDoesSaid : Prop := placeDoesRow.holds Try.pinned (OpenSpec.ofChange placeDoesSpec)

/-- ITS FALSE NEIGHBOUR: 'it returns false'. Refute it at one input. -/
def placeDoesWrong : ChangeSpec := { name := "placeDoes", fn := fun _ => fun
  | [d1, d2, d3, d4, d5] => { results := [.lit (.bool false)], args := [d1, d2, d3, d4, d5] }
  | _ => none }
def PlaceDoesWrongFalsely : Prop := placeDoesRow.holds Try.pinned (OpenSpec.ofChange placeDoesWrong)

/-- 'cleatlaw24.PlaceFar': WHATEVER THE INPUT: true; the input reads as it did. -/
def placeFarSpec : ChangeSpec := { name := "placeFar", fn := fun _ => fun
  | [d1, d2, d3] => { results := [.lit (.bool true)], args := [d1, d2, d3] }
  | _ => none }
def placeFarRow : OpenClaim := { program := "ytdckhlihhbobhaa", sum := "70f0382432b771318182e51c2b2883ee19ca49df04adb5385fbf99c6df8444ab", func := "cleat/cleatlaw24.PlaceFar", spec := "placeFar", unfollowed := true, recurses := true, apart := false }
def PlaceFarSaid : Prop := placeFarRow.holds Try.pinned (OpenSpec.ofChange placeFarSpec)

/-- ITS FALSE NEIGHBOUR: 'it returns false'. Refute it at one input. -/
def placeFarWrong : ChangeSpec := { name := "placeFar", fn := fun _ => fun
  | [d1, d2, d3] => { results := [.lit (.bool false)], args := [d1, d2, d3] }
  | _ => none }
def PlaceFarWrongFalsely : Prop := placeFarRow.holds Try.pinned (OpenSpec.ofChange placeFarWrong)

/-- 'cleatlaw24.PlaceApart': WHATEVER THE INPUT: true; the input reads as it did. -/
def placeApartSpec : ChangeSpec := { name := "placeApart", fn := fun _ => fun
  | [d1, d2] => { results := [.lit (.bool true)], args := [d1, d2] }
  | _ => none }
def placeApartRow : OpenClaim := { program := "ytdckhlihhbobhaa", sum := "70f0382432b771318182e51c2b2883ee19ca49df04adb5385fbf99c6df8444ab", func := "cleat/cleatlaw24.PlaceApart", spec := "placeApart", unfollowed := true, recurses := true, apart := false }
def PlaceApartSaid : Prop := placeApartRow.holds Try.pinned (OpenSpec.ofChange placeApartSpec)

/-- ITS FALSE NEIGHBOUR: 'it returns false'. Refute it at one input. -/
def placeApartWrong : ChangeSpec := { name := "placeApart", fn := fun _ => fun
  | [d1, d2] => { results := [.lit (.bool false)], args := [d1, d2] }
  | _ => none }
def PlaceApartWrongFalsely : Prop := placeApartRow.holds Try.pinned (OpenSpec.ofChange placeApartWrong)

/-- 'cleatlaw24.PlaceParts': WHATEVER THE INPUT: true; the input reads as it did. -/
def placePartsSpec : ChangeSpec := { name := "placeParts", fn := fun _ => fun
  | [d1, d2, d3] => { results := [.lit (.bool true)], args := [d1, d2, d3] }
  | _ => none }
def placePartsRow : OpenClaim := { program := "ytdckhlihhbobhaa", sum := "70f0382432b771318182e51c2b2883ee19ca49df04adb5385fbf99c6df8444ab", func := "cleat/cleatlaw24.PlaceParts", spec := "placeParts", unfollowed := true, recurses := true, apart := false }
def PlacePartsSaid : Prop := placePartsRow.holds Try.pinned (OpenSpec.ofChange placePartsSpec)

/-- ITS FALSE NEIGHBOUR: 'it returns false'. Refute it at one input. -/
def placePartsWrong : ChangeSpec := { name := "placeParts", fn := fun _ => fun
  | [d1, d2, d3] => { results := [.lit (.bool false)], args := [d1, d2, d3] }
  | _ => none }
def PlacePartsWrongFalsely : Prop := placePartsRow.holds Try.pinned (OpenSpec.ofChange placePartsWrong)

/-- 'cleatlaw24.PlaceUp': WHATEVER THE INPUT: true; the input reads as it did. -/
def placeUpSpec : ChangeSpec := { name := "placeUp", fn := fun _ => fun
  | [d1, d2, d3] => { results := [.lit (.bool true)], args := [d1, d2, d3] }
  | _ => none }
def placeUpRow : OpenClaim := { program := "ytdckhlihhbobhaa", sum := "70f0382432b771318182e51c2b2883ee19ca49df04adb5385fbf99c6df8444ab", func := "cleat/cleatlaw24.PlaceUp", spec := "placeUp", unfollowed := true, recurses := true, apart := false }
def PlaceUpSaid : Prop := placeUpRow.holds Try.pinned (OpenSpec.ofChange placeUpSpec)

/-- ITS FALSE NEIGHBOUR: 'it returns false'. Refute it at one input. -/
def placeUpWrong : ChangeSpec := { name := "placeUp", fn := fun _ => fun
  | [d1, d2, d3] => { results := [.lit (.bool false)], args := [d1, d2, d3] }
  | _ => none }
def PlaceUpWrongFalsely : Prop := placeUpRow.holds Try.pinned (OpenSpec.ofChange placeUpWrong)

/-- 'cleatlaw24.PlaceBack': WHATEVER THE INPUT: true; the input reads as it did. -/
def placeBackSpec : ChangeSpec := { name := "placeBack", fn := fun _ => fun
  | [d1, d2, d3] => { results := [.lit (.bool true)], args := [d1, d2, d3] }
  | _ => none }
def placeBackRow : OpenClaim := { program := "ytdckhlihhbobhaa", sum := "70f0382432b771318182e51c2b2883ee19ca49df04adb5385fbf99c6df8444ab", func := "cleat/cleatlaw24.PlaceBack", spec := "placeBack", unfollowed := true, recurses := true, apart := false }
def PlaceBackSaid : Prop := placeBackRow.holds Try.pinned (OpenSpec.ofChange placeBackSpec)

/-- ITS FALSE NEIGHBOUR: 'it returns false'. Refute it at one input. -/
def placeBackWrong : ChangeSpec := { name := "placeBack", fn := fun _ => fun
  | [d1, d2, d3] => { results := [.lit (.bool false)], args := [d1, d2, d3] }
  | _ => none }
def PlaceBackWrongFalsely : Prop := placeBackRow.holds Try.pinned (OpenSpec.ofChange placeBackWrong)

/- THE SECOND FORM. 'bulk': how many values and letters a reading holds, each counted each time it is reached (what is shared counts as often as it is met; a slice's spare places count too). A statement '..UptoSaid' is the law's where the arguments, and the package variables that the reading takes, are together of bulk at most 1048576: NARROWER than '..Said'. Prove '..Said' where nothing that the law and all that it calls make is longer than what came in: it says more and counts as full. Else prove '..UptoSaid'. A law counts once. -/
mutual
def uptoBulk {H : Type} : DataW H → Nat
  | .lit (.string bytes) => bytes.length + 1
  | .lit _ => 1
  | .nil => 1
  | .ptr d => uptoBulk d + 1
  | .slice elems spare => uptoBulkAll elems + uptoBulkAll spare + 1
  | .agg parts => uptoBulkAll parts + 1
  | .iface _ d => uptoBulk d + 1
  | .map entries => uptoBulkEntries entries + 1
  | .held _ => 1
def uptoBulkAll {H : Type} : List (DataW H) → Nat
  | [] => 0
  | d :: r => uptoBulk d + uptoBulkAll r
def uptoBulkEntries {H : Type} : List (Lit × DataW H) → Nat
  | [] => 0
  | x :: r => uptoBulkEntry x + uptoBulkEntries r
def uptoBulkEntry {H : Type} : Lit × DataW H → Nat
  | (.string bytes, d) => bytes.length + uptoBulk d + 1
  | (_, d) => uptoBulk d + 1
 end
def uptoSmall : (H : Type) → List (DataW H) → Bool := fun _ ds => decide (uptoBulkAll ds ≤ 1048576)
def OpenSpec.upto (s : _root_.Go.ChangeSpec) : _root_.Go.OpenSpec := { _root_.Go.OpenSpec.ofChange s with cond := some uptoSmall }

/-- 'cleatlaw24.PlaceDoes', WHERE WHAT IT READS IS OF BULK AT MOST 1048576: true; the input reads as it did. -/
def placeDoesUptoRow : OpenClaim := { program := "ytdckhlihhbobhaa", sum := "70f0382432b771318182e51c2b2883ee19ca49df04adb5385fbf99c6df8444ab", func := "cleat/cleatlaw24.PlaceDoes", spec := "placeDoes", unfollowed := true, recurses := true, apart := false, narrowed := true }
def PlaceDoesUptoSaid : Prop := placeDoesUptoRow.holds Try.pinned (OpenSpec.upto placeDoesSpec)

/-- 'cleatlaw24.PlaceFar', WHERE WHAT IT READS IS OF BULK AT MOST 1048576: true; the input reads as it did. -/
def placeFarUptoRow : OpenClaim := { program := "ytdckhlihhbobhaa", sum := "70f0382432b771318182e51c2b2883ee19ca49df04adb5385fbf99c6df8444ab", func := "cleat/cleatlaw24.PlaceFar", spec := "placeFar", unfollowed := true, recurses := true, apart := false, narrowed := true }
def PlaceFarUptoSaid : Prop := placeFarUptoRow.holds Try.pinned (OpenSpec.upto placeFarSpec)

/-- 'cleatlaw24.PlaceApart', WHERE WHAT IT READS IS OF BULK AT MOST 1048576: true; the input reads as it did. -/
def placeApartUptoRow : OpenClaim := { program := "ytdckhlihhbobhaa", sum := "70f0382432b771318182e51c2b2883ee19ca49df04adb5385fbf99c6df8444ab", func := "cleat/cleatlaw24.PlaceApart", spec := "placeApart", unfollowed := true, recurses := true, apart := false, narrowed := true }
def PlaceApartUptoSaid : Prop := placeApartUptoRow.holds Try.pinned (OpenSpec.upto placeApartSpec)

/-- 'cleatlaw24.PlaceParts', WHERE WHAT IT READS IS OF BULK AT MOST 1048576: true; the input reads as it did. -/
def placePartsUptoRow : OpenClaim := { program := "ytdckhlihhbobhaa", sum := "70f0382432b771318182e51c2b2883ee19ca49df04adb5385fbf99c6df8444ab", func := "cleat/cleatlaw24.PlaceParts", spec := "placeParts", unfollowed := true, recurses := true, apart := false, narrowed := true }
def PlacePartsUptoSaid : Prop := placePartsUptoRow.holds Try.pinned (OpenSpec.upto placePartsSpec)

/-- 'cleatlaw24.PlaceUp', WHERE WHAT IT READS IS OF BULK AT MOST 1048576: true; the input reads as it did. -/
def placeUpUptoRow : OpenClaim := { program := "ytdckhlihhbobhaa", sum := "70f0382432b771318182e51c2b2883ee19ca49df04adb5385fbf99c6df8444ab", func := "cleat/cleatlaw24.PlaceUp", spec := "placeUp", unfollowed := true, recurses := true, apart := false, narrowed := true }
def PlaceUpUptoSaid : Prop := placeUpUptoRow.holds Try.pinned (OpenSpec.upto placeUpSpec)

/-- 'cleatlaw24.PlaceBack', WHERE WHAT IT READS IS OF BULK AT MOST 1048576: true; the input reads as it did. -/
def placeBackUptoRow : OpenClaim := { program := "ytdckhlihhbobhaa", sum := "70f0382432b771318182e51c2b2883ee19ca49df04adb5385fbf99c6df8444ab", func := "cleat/cleatlaw24.PlaceBack", spec := "placeBack", unfollowed := true, recurses := true, apart := false, narrowed := true }
def PlaceBackUptoSaid : Prop := placeBackUptoRow.holds Try.pinned (OpenSpec.upto placeBackSpec)

end Rows
end Go.Proofs.Ytdckhlihhbobhaa
