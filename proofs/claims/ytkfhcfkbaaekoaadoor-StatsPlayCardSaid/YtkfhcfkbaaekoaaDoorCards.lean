/-
  DERIVED. GIVEN WITH THE SEED: THE CARDS: each row of YtkfhcfkbaaekoaaDoorRows.lean that lists a variable, with what it lists TIED to the program's text (the seventh form; the later family's looks); each row that meets fmt, with fmt's text TOLD by the authors' own Lean function (tested against real Go, not proved from fmt's source: count such statements apart). THE CARD IS WHAT COUNTS. Prove the row's statement (the work); the ties are given (YtkfhcfkbaaekoaaDoorTie.lean); close each card by the builder's one call (the guide's Derived/Test/ToyasCard.lean, 'card_holds'). Laid BY PROGRAM, IN A SANDBOX (cutbox-door.mjs). By AI agents, Wed Nov 11 2026. No macro, syntax, notation, axiom, sorry.
-/
import Derived.Test.YtkfhcfkbaaekoaaDoorRows
import GoSem.ClaimSeven
namespace Go.Proofs.YtkfhcfkbaaekoaaDoor
namespace Rows

/-- THE TIED CARD OF 'linkboylaw40.StatsSum'. -/
def statsSumCard : Claim7 := { stood := { row := statsSumRow, standIns := [], harness := (true, "62e8064f204e38012b2f33c93c6cd8290f6b9f864feaf2177e483e790e644932"), looks := true }, kinds := [], alts := [], laidByText := true, laidKinds := [.sentinel, .sentinel, .sentinel], laidTests := true, laidLooks := .later }
def StatsSumCardSaid : Prop := Claim7.holds Tryd.pinned (.plain (OpenSpec.ofChange statsSumSpec)) statsSumCard

/-- THE TIED CARD OF 'linkboylaw40.StatsPlay'. -/
def statsPlayCard : Claim7 := { stood := { row := statsPlayRow, standIns := [], harness := (true, "62e8064f204e38012b2f33c93c6cd8290f6b9f864feaf2177e483e790e644932"), looks := true }, kinds := [], alts := [], laidByText := true, laidKinds := [.sentinel, .sentinel, .sentinel, .sentinel, .sentinel, .sentinel, .sentinel, .sentinel, .sentinel, .sentinel, .sentinel, .sentinel, .sentinel, .sentinel, .sentinel, .sentinel, .sentinel, .sentinel], laidTests := true, laidLooks := .later }
def StatsPlayCardSaid : Prop := Claim7.holds Tryd.pinned (.plain (OpenSpec.ofChange statsPlaySpec)) statsPlayCard

/-- THE SECOND FORM's CARD OF 'linkboylaw40.StatsSum'. -/
def statsSumUptoCard : Claim7 := { stood := { row := statsSumUptoRow, standIns := [], harness := (true, "62e8064f204e38012b2f33c93c6cd8290f6b9f864feaf2177e483e790e644932"), looks := true }, kinds := [], alts := [], laidByText := true, laidKinds := [.sentinel, .sentinel, .sentinel], laidTests := true, laidLooks := .later }
def StatsSumUptoCardSaid : Prop := Claim7.holds Tryd.pinned (.plain (OpenSpec.upto statsSumSpec)) statsSumUptoCard

/-- THE SECOND FORM's CARD OF 'linkboylaw40.StatsPlay'. -/
def statsPlayUptoCard : Claim7 := { stood := { row := statsPlayUptoRow, standIns := [], harness := (true, "62e8064f204e38012b2f33c93c6cd8290f6b9f864feaf2177e483e790e644932"), looks := true }, kinds := [], alts := [], laidByText := true, laidKinds := [.sentinel, .sentinel, .sentinel, .sentinel, .sentinel, .sentinel, .sentinel, .sentinel, .sentinel, .sentinel, .sentinel, .sentinel, .sentinel, .sentinel, .sentinel, .sentinel, .sentinel, .sentinel], laidTests := true, laidLooks := .later }
def StatsPlayUptoCardSaid : Prop := Claim7.holds Tryd.pinned (.plain (OpenSpec.upto statsPlaySpec)) statsPlayUptoCard
end Rows
end Go.Proofs.YtkfhcfkbaaekoaaDoor
