/-
  DERIVED. GIVEN WITH THE SEED: THE CARDS: each row of YtflnkchpfbcgiaaDoorRows.lean that lists a variable, with what it lists TIED to the program's text (the seventh form; the later family's looks); each row that meets fmt, with fmt's text TOLD by the authors' own Lean function (tested against real Go, not proved from fmt's source: count such statements apart). THE CARD IS WHAT COUNTS. Prove the row's statement (the work); the ties are given (YtflnkchpfbcgiaaDoorTie.lean); close each card by the builder's one call (the guide's Derived/Test/ToyasCard.lean, 'card_holds'). Laid BY PROGRAM, IN A SANDBOX (cutbox-door.mjs). By AI agents, Wed Nov 11 2026. No macro, syntax, notation, axiom, sorry.
-/
import Derived.Test.YtflnkchpfbcgiaaDoorRows
import GoSem.ClaimSeven
namespace Go.Proofs.YtflnkchpfbcgiaaDoor
namespace Rows

/-- THE TIED CARD OF 'remontoirlaw27.OrdersOne'. -/
def ordersOneCard : Claim7 := { stood := { row := ordersOneRow, standIns := [], harness := (true, "71aba3f0330ab016df1adcd2f59e5ebb0a3edc55acc9e935f1ddfdcfa1eb851b"), looks := true }, kinds := [], alts := [], laidByText := true, laidKinds := [.data, .data, .data, .sentinel, .sentinel], laidTests := true, laidLooks := .later }
def OrdersOneCardSaid : Prop := Claim7.holds Tryd.pinned (.plain (OpenSpec.ofChange ordersOneSpec)) ordersOneCard

/-- THE TIED CARD OF 'remontoirlaw27.OrdersLeft'. -/
def ordersLeftCard : Claim7 := { stood := { row := ordersLeftRow, standIns := [], harness := (true, "71aba3f0330ab016df1adcd2f59e5ebb0a3edc55acc9e935f1ddfdcfa1eb851b"), looks := true }, kinds := [], alts := [], laidByText := true, laidKinds := [.data, .data, .data, .sentinel, .sentinel], laidTests := true, laidLooks := .later }
def OrdersLeftCardSaid : Prop := Claim7.holds Tryd.pinned (.plain (OpenSpec.ofChange ordersLeftSpec)) ordersLeftCard

/-- THE TIED CARD OF 'remontoirlaw27.OrdersNone'. -/
def ordersNoneCard : Claim7 := { stood := { row := ordersNoneRow, standIns := [], harness := (true, "71aba3f0330ab016df1adcd2f59e5ebb0a3edc55acc9e935f1ddfdcfa1eb851b"), looks := true }, kinds := [], alts := [], laidByText := true, laidKinds := [.data, .data, .data, .sentinel, .sentinel], laidTests := true, laidLooks := .later }
def OrdersNoneCardSaid : Prop := Claim7.holds Tryd.pinned (.plain (OpenSpec.ofChange ordersNoneSpec)) ordersNoneCard

/-- THE SECOND FORM's CARD OF 'remontoirlaw27.OrdersOne'. -/
def ordersOneUptoCard : Claim7 := { stood := { row := ordersOneUptoRow, standIns := [], harness := (true, "71aba3f0330ab016df1adcd2f59e5ebb0a3edc55acc9e935f1ddfdcfa1eb851b"), looks := true }, kinds := [], alts := [], laidByText := true, laidKinds := [.data, .data, .data, .sentinel, .sentinel], laidTests := true, laidLooks := .later }
def OrdersOneUptoCardSaid : Prop := Claim7.holds Tryd.pinned (.plain (OpenSpec.upto ordersOneSpec)) ordersOneUptoCard

/-- THE SECOND FORM's CARD OF 'remontoirlaw27.OrdersLeft'. -/
def ordersLeftUptoCard : Claim7 := { stood := { row := ordersLeftUptoRow, standIns := [], harness := (true, "71aba3f0330ab016df1adcd2f59e5ebb0a3edc55acc9e935f1ddfdcfa1eb851b"), looks := true }, kinds := [], alts := [], laidByText := true, laidKinds := [.data, .data, .data, .sentinel, .sentinel], laidTests := true, laidLooks := .later }
def OrdersLeftUptoCardSaid : Prop := Claim7.holds Tryd.pinned (.plain (OpenSpec.upto ordersLeftSpec)) ordersLeftUptoCard

/-- THE SECOND FORM's CARD OF 'remontoirlaw27.OrdersNone'. -/
def ordersNoneUptoCard : Claim7 := { stood := { row := ordersNoneUptoRow, standIns := [], harness := (true, "71aba3f0330ab016df1adcd2f59e5ebb0a3edc55acc9e935f1ddfdcfa1eb851b"), looks := true }, kinds := [], alts := [], laidByText := true, laidKinds := [.data, .data, .data, .sentinel, .sentinel], laidTests := true, laidLooks := .later }
def OrdersNoneUptoCardSaid : Prop := Claim7.holds Tryd.pinned (.plain (OpenSpec.upto ordersNoneSpec)) ordersNoneUptoCard
end Rows
end Go.Proofs.YtflnkchpfbcgiaaDoor
