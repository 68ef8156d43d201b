/-
  DERIVED. GIVEN WITH THE SEED: THE CARDS: each row of YthfkegkjnhebcaaDoorRows.lean that lists a variable, with what it lists TIED to the program's text (the seventh form; the later family's looks); each row that meets fmt, with fmt's text TOLD by the authors' own Lean function (tested against real Go, not proved from fmt's source: count such statements apart). THE CARD IS WHAT COUNTS. Prove the row's statement (the work); the ties are given (YthfkegkjnhebcaaDoorTie.lean); close each card by the builder's one call (the guide's Derived/Test/ToyasCard.lean, 'card_holds'). Laid BY PROGRAM, IN A SANDBOX (cutbox-door.mjs). By AI agents, Wed Nov 11 2026. No macro, syntax, notation, axiom, sorry.
-/
import Derived.Test.YthfkegkjnhebcaaDoorRows
import GoSem.ClaimSeven
namespace Go.Proofs.YthfkegkjnhebcaaDoor
namespace Rows

/-- THE TIED CARD OF 'thresherlaw18.SnapNames'. -/
def snapNamesCard : Claim7 := { stood := { row := snapNamesRow, standIns := [], harness := (true, "502714aa6ac82cae91fb725d97b9b4387f728359178569093e37418943104029"), looks := true }, kinds := [], alts := [], laidByText := true, laidKinds := [.data, .data, .data, .sentinel, .sentinel], laidTests := true, laidLooks := .later }
def SnapNamesCardSaid : Prop := Claim7.holds Tryd.pinned (.plain (OpenSpec.ofChange snapNamesSpec)) snapNamesCard

/-- THE SECOND FORM's CARD OF 'thresherlaw18.SnapNames'. -/
def snapNamesUptoCard : Claim7 := { stood := { row := snapNamesUptoRow, standIns := [], harness := (true, "502714aa6ac82cae91fb725d97b9b4387f728359178569093e37418943104029"), looks := true }, kinds := [], alts := [], laidByText := true, laidKinds := [.data, .data, .data, .sentinel, .sentinel], laidTests := true, laidLooks := .later }
def SnapNamesUptoCardSaid : Prop := Claim7.holds Tryd.pinned (.plain (OpenSpec.upto snapNamesSpec)) snapNamesUptoCard
end Rows
end Go.Proofs.YthfkegkjnhebcaaDoor
