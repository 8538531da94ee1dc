/-
  DERIVED. GIVEN WITH THE SEED: THE CARDS: each row of YtlcngapphloafaaGreatDoorRows.lean that lists a variable, with what it lists TIED to the program's text (the seventh form; the later family's looks); each row that meets fmt, with fmt's text TOLD by the authors' own Lean function (tested against real Go, not proved from fmt's source: count such statements apart). THE CARD IS WHAT COUNTS. Prove the row's statement (the work); the ties are given (YtlcngapphloafaaGreatDoorTie.lean); close each card by the builder's one call (the guide's Derived/Test/ToyasCard.lean, 'card_holds'). Laid BY PROGRAM, IN A SANDBOX (cutbox-door.mjs). By AI agents, Wed Nov 11 2026. No macro, syntax, notation, axiom, sorry.
-/
import Derived.Test.YtlcngapphloafaaGreatDoorRows
import GoSem.ClaimSeven
namespace Go.Proofs.YtlcngapphloafaaGreatDoor
namespace Rows

/-- THE TIED CARD OF 'sparsetreetop.TopTotal'. -/
def topTotalCard : Claim7 := { stood := { row := topTotalRow, standIns := [], harness := (true, "7ee309f1b40ae00a3c814396555ba771f405780e294d6b68782ae9eed798d888"), looks := true }, kinds := [], alts := [], laidByText := true, laidKinds := [.handle, .data], laidTests := true, laidLooks := .later }
def TopTotalCardSaid : Prop := Claim7.holds Tryz.pinned (.plain (OpenSpec.ofChange topTotalSpec)) topTotalCard

/-- THE TIED CARD OF 'sparsetreetop.TopKinds'. -/
def topKindsCard : Claim7 := { stood := { row := topKindsRow, standIns := [], harness := (true, "7ee309f1b40ae00a3c814396555ba771f405780e294d6b68782ae9eed798d888"), looks := true }, kinds := [], alts := [], laidByText := true, laidKinds := [.handle, .data], laidTests := true, laidLooks := .later }
def TopKindsCardSaid : Prop := Claim7.holds Tryz.pinned (.plain (OpenSpec.ofChange topKindsSpec)) topKindsCard

/-- THE TIED CARD OF 'sparsetreetop.TopUpdates'. -/
def topUpdatesCard : Claim7 := { stood := { row := topUpdatesRow, standIns := [], harness := (true, "7ee309f1b40ae00a3c814396555ba771f405780e294d6b68782ae9eed798d888"), looks := true }, kinds := [], alts := [], laidByText := true, laidKinds := [.handle, .data], laidTests := true, laidLooks := .later }
def TopUpdatesCardSaid : Prop := Claim7.holds Tryz.pinned (.plain (OpenSpec.ofChange topUpdatesSpec)) topUpdatesCard

/-- THE SECOND FORM's CARD OF 'sparsetreetop.TopTotal'. -/
def topTotalUptoCard : Claim7 := { stood := { row := topTotalUptoRow, standIns := [], harness := (true, "7ee309f1b40ae00a3c814396555ba771f405780e294d6b68782ae9eed798d888"), looks := true }, kinds := [], alts := [], laidByText := true, laidKinds := [.handle, .data], laidTests := true, laidLooks := .later }
def TopTotalUptoCardSaid : Prop := Claim7.holds Tryz.pinned (.plain (OpenSpec.upto topTotalSpec)) topTotalUptoCard

/-- THE SECOND FORM's CARD OF 'sparsetreetop.TopKinds'. -/
def topKindsUptoCard : Claim7 := { stood := { row := topKindsUptoRow, standIns := [], harness := (true, "7ee309f1b40ae00a3c814396555ba771f405780e294d6b68782ae9eed798d888"), looks := true }, kinds := [], alts := [], laidByText := true, laidKinds := [.handle, .data], laidTests := true, laidLooks := .later }
def TopKindsUptoCardSaid : Prop := Claim7.holds Tryz.pinned (.plain (OpenSpec.upto topKindsSpec)) topKindsUptoCard

/-- THE SECOND FORM's CARD OF 'sparsetreetop.TopUpdates'. -/
def topUpdatesUptoCard : Claim7 := { stood := { row := topUpdatesUptoRow, standIns := [], harness := (true, "7ee309f1b40ae00a3c814396555ba771f405780e294d6b68782ae9eed798d888"), looks := true }, kinds := [], alts := [], laidByText := true, laidKinds := [.handle, .data], laidTests := true, laidLooks := .later }
def TopUpdatesUptoCardSaid : Prop := Claim7.holds Tryz.pinned (.plain (OpenSpec.upto topUpdatesSpec)) topUpdatesUptoCard
end Rows
end Go.Proofs.YtlcngapphloafaaGreatDoor
