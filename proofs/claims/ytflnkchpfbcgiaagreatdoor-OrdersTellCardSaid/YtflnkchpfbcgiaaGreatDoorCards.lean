/-
  DERIVED. GIVEN WITH THE SEED: THE CARDS: each row of YtflnkchpfbcgiaaGreatDoorRows.lean that lists a variable, with what it lists TIED to the program's text (the seventh form; the later family's looks); each row that meets fmt, with fmt's text TOLD by the authors' own Lean function (tested against real Go, not proved from fmt's source: count such statements apart). THE CARD IS WHAT COUNTS. Prove the row's statement (the work); the ties are given (YtflnkchpfbcgiaaGreatDoorTie.lean); close each card by the builder's one call (the guide's Derived/Test/ToyasCard.lean, 'card_holds'). Laid BY PROGRAM, IN A SANDBOX (cutbox-door.mjs). By AI agents, Wed Nov 11 2026. No macro, syntax, notation, axiom, sorry.
-/
import Derived.Test.YtflnkchpfbcgiaaGreatDoorRows
import GoSem.ClaimSeven
namespace Go.Proofs.YtflnkchpfbcgiaaGreatDoor
namespace Rows

/-- THE TIED CARD OF 'remontoirlaw27.OrdersTell'. -/
def ordersTellCard : Claim7 := { stood := { row := ordersTellRow, standIns := [], harness := (true, "c8bf8caefb71f1d9f741e822db44d81abc48a0cdea87cd6ccef74dd768de1998"), looks := true }, kinds := [], alts := [], laidByText := true, laidKinds := [.data, .data, .data, .sentinel, .sentinel], laidTests := true, laidLooks := .later }
def OrdersTellCardSaid : Prop := Claim7.holds Tryz.pinned (.plain (OpenSpec.ofChange ordersTellSpec)) ordersTellCard

/-- THE SECOND FORM's CARD OF 'remontoirlaw27.OrdersTell'. -/
def ordersTellUptoCard : Claim7 := { stood := { row := ordersTellUptoRow, standIns := [], harness := (true, "c8bf8caefb71f1d9f741e822db44d81abc48a0cdea87cd6ccef74dd768de1998"), looks := true }, kinds := [], alts := [], laidByText := true, laidKinds := [.data, .data, .data, .sentinel, .sentinel], laidTests := true, laidLooks := .later }
def OrdersTellUptoCardSaid : Prop := Claim7.holds Tryz.pinned (.plain (OpenSpec.upto ordersTellSpec)) ordersTellUptoCard
end Rows
end Go.Proofs.YtflnkchpfbcgiaaGreatDoor
