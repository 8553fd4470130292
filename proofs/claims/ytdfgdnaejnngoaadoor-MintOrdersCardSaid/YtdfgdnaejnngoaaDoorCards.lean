/-
  DERIVED. GIVEN WITH THE SEED: THE CARDS: each row of YtdfgdnaejnngoaaDoorRows.lean that lists a variable, with what it lists TIED to the program's text (the seventh form; the later family's looks); each row that meets fmt, with fmt's text TOLD by the authors' own Lean function (tested against real Go, not proved from fmt's source: count such statements apart). THE CARD IS WHAT COUNTS. Prove the row's statement (the work); the ties are given (YtdfgdnaejnngoaaDoorTie.lean); close each card by the builder's one call (the guide's Derived/Test/ToyasCard.lean, 'card_holds'). Laid BY PROGRAM, IN A SANDBOX (cutbox-door.mjs). By AI agents, Wed Nov 11 2026. No macro, syntax, notation, axiom, sorry.
-/
import Derived.Test.YtdfgdnaejnngoaaDoorRows
import GoSem.ClaimSeven
namespace Go.Proofs.YtdfgdnaejnngoaaDoor
namespace Rows

/-- THE TIED CARD OF 'grangerlaw30.MintExact'. -/
def mintExactCard : Claim7 := { stood := { row := mintExactRow, standIns := [], harness := (true, "56221ddb5a31efa0556ce9256d15841702f66edb34d71233350561896a4333b0"), looks := false }, kinds := [], alts := [], laidByText := true, laidKinds := [.data, .data, .data], laidTests := true, laidLooks := .later }
def MintExactCardSaid : Prop := Claim7.holds Tryd.pinned (.plain (OpenSpec.ofChange mintExactSpec)) mintExactCard

/-- THE TIED CARD OF 'grangerlaw30.MintOrders'. -/
def mintOrdersCard : Claim7 := { stood := { row := mintOrdersRow, standIns := [], harness := (true, "56221ddb5a31efa0556ce9256d15841702f66edb34d71233350561896a4333b0"), looks := false }, kinds := [], alts := [], laidByText := true, laidKinds := [.data, .data, .data], laidTests := true, laidLooks := .later }
def MintOrdersCardSaid : Prop := Claim7.holds Tryd.pinned (.plain (OpenSpec.ofChange mintOrdersSpec)) mintOrdersCard

/-- THE SECOND FORM's CARD OF 'grangerlaw30.MintExact'. -/
def mintExactUptoCard : Claim7 := { stood := { row := mintExactUptoRow, standIns := [], harness := (true, "56221ddb5a31efa0556ce9256d15841702f66edb34d71233350561896a4333b0"), looks := false }, kinds := [], alts := [], laidByText := true, laidKinds := [.data, .data, .data], laidTests := true, laidLooks := .later }
def MintExactUptoCardSaid : Prop := Claim7.holds Tryd.pinned (.plain (OpenSpec.upto mintExactSpec)) mintExactUptoCard

/-- THE SECOND FORM's CARD OF 'grangerlaw30.MintOrders'. -/
def mintOrdersUptoCard : Claim7 := { stood := { row := mintOrdersUptoRow, standIns := [], harness := (true, "56221ddb5a31efa0556ce9256d15841702f66edb34d71233350561896a4333b0"), looks := false }, kinds := [], alts := [], laidByText := true, laidKinds := [.data, .data, .data], laidTests := true, laidLooks := .later }
def MintOrdersUptoCardSaid : Prop := Claim7.holds Tryd.pinned (.plain (OpenSpec.upto mintOrdersSpec)) mintOrdersUptoCard
end Rows
end Go.Proofs.YtdfgdnaejnngoaaDoor
