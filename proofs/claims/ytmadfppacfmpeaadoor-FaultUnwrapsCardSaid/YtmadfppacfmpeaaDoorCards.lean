/-
  DERIVED. GIVEN WITH THE SEED: THE CARDS: each row of YtmadfppacfmpeaaDoorRows.lean that lists a variable, with what it lists TIED to the program's text (the seventh form; the later family's looks); each row that meets fmt, with fmt's text TOLD by the authors' own Lean function (tested against real Go, not proved from fmt's source: count such statements apart). THE CARD IS WHAT COUNTS. Prove the row's statement (the work); the ties are given (YtmadfppacfmpeaaDoorTie.lean); close each card by the builder's one call (the guide's Derived/Test/ToyasCard.lean, 'card_holds'). Laid BY PROGRAM, IN A SANDBOX (cutbox-door.mjs). By AI agents, Wed Nov 11 2026. No macro, syntax, notation, axiom, sorry.
-/
import Derived.Test.YtmadfppacfmpeaaDoorRows
import GoSem.ClaimSeven
namespace Go.Proofs.YtmadfppacfmpeaaDoor
namespace Rows

/-- THE TIED CARD OF 'sparsetreelaw03.FaultTexts'. -/
def faultTextsCard : Claim7 := { stood := { row := faultTextsRow, standIns := [], harness := (true, "5940e3e1c0974a76d5e1393abd215094bddc08d6a049cb9e384dc2c6d149a2b9"), looks := true }, kinds := [], alts := [], laidByText := true, laidKinds := [.handle], laidTests := true, laidLooks := .later }
def FaultTextsCardSaid : Prop := Claim7.holds Tryd.pinned (.plain (OpenSpec.ofChange faultTextsSpec)) faultTextsCard

/-- THE TIED CARD OF 'sparsetreelaw03.FaultCodes'. -/
def faultCodesCard : Claim7 := { stood := { row := faultCodesRow, standIns := [], harness := (true, "5940e3e1c0974a76d5e1393abd215094bddc08d6a049cb9e384dc2c6d149a2b9"), looks := true }, kinds := [], alts := [], laidByText := true, laidKinds := [.handle], laidTests := true, laidLooks := .later }
def FaultCodesCardSaid : Prop := Claim7.holds Tryd.pinned (.plain (OpenSpec.ofChange faultCodesSpec)) faultCodesCard

/-- THE TIED CARD OF 'sparsetreelaw03.FaultIs'. -/
def faultIsCard : Claim7 := { stood := { row := faultIsRow, standIns := [], harness := (true, "5940e3e1c0974a76d5e1393abd215094bddc08d6a049cb9e384dc2c6d149a2b9"), looks := true }, kinds := [], alts := [], laidByText := true, laidKinds := [.handle], laidTests := true, laidLooks := .later }
def FaultIsCardSaid : Prop := Claim7.holds Tryd.pinned (.plain (OpenSpec.ofChange faultIsSpec)) faultIsCard

/-- THE TIED CARD OF 'sparsetreelaw03.FaultOps'. -/
def faultOpsCard : Claim7 := { stood := { row := faultOpsRow, standIns := [], harness := (true, "5940e3e1c0974a76d5e1393abd215094bddc08d6a049cb9e384dc2c6d149a2b9"), looks := true }, kinds := [], alts := [], laidByText := true, laidKinds := [.handle], laidTests := true, laidLooks := .later }
def FaultOpsCardSaid : Prop := Claim7.holds Tryd.pinned (.plain (OpenSpec.ofChange faultOpsSpec)) faultOpsCard

/-- THE TIED CARD OF 'sparsetreelaw03.FaultUnwraps'. -/
def faultUnwrapsCard : Claim7 := { stood := { row := faultUnwrapsRow, standIns := [], harness := (true, "5940e3e1c0974a76d5e1393abd215094bddc08d6a049cb9e384dc2c6d149a2b9"), looks := true }, kinds := [], alts := [], laidByText := true, laidKinds := [.data, .data, .data, .handle], laidTests := true, laidLooks := .later }
def FaultUnwrapsCardSaid : Prop := Claim7.holds Tryd.pinned (.plain (OpenSpec.ofChange faultUnwrapsSpec)) faultUnwrapsCard

/-- THE TIED CARD OF 'sparsetreelaw03.FaultOther'. -/
def faultOtherCard : Claim7 := { stood := { row := faultOtherRow, standIns := [], harness := (true, "5940e3e1c0974a76d5e1393abd215094bddc08d6a049cb9e384dc2c6d149a2b9"), looks := true }, kinds := [], alts := [], laidByText := true, laidKinds := [.handle], laidTests := true, laidLooks := .later }
def FaultOtherCardSaid : Prop := Claim7.holds Tryd.pinned (.plain (OpenSpec.ofChange faultOtherSpec)) faultOtherCard

/-- THE SECOND FORM's CARD OF 'sparsetreelaw03.FaultTexts'. -/
def faultTextsUptoCard : Claim7 := { stood := { row := faultTextsUptoRow, standIns := [], harness := (true, "5940e3e1c0974a76d5e1393abd215094bddc08d6a049cb9e384dc2c6d149a2b9"), looks := true }, kinds := [], alts := [], laidByText := true, laidKinds := [.handle], laidTests := true, laidLooks := .later }
def FaultTextsUptoCardSaid : Prop := Claim7.holds Tryd.pinned (.plain (OpenSpec.upto faultTextsSpec)) faultTextsUptoCard

/-- THE SECOND FORM's CARD OF 'sparsetreelaw03.FaultCodes'. -/
def faultCodesUptoCard : Claim7 := { stood := { row := faultCodesUptoRow, standIns := [], harness := (true, "5940e3e1c0974a76d5e1393abd215094bddc08d6a049cb9e384dc2c6d149a2b9"), looks := true }, kinds := [], alts := [], laidByText := true, laidKinds := [.handle], laidTests := true, laidLooks := .later }
def FaultCodesUptoCardSaid : Prop := Claim7.holds Tryd.pinned (.plain (OpenSpec.upto faultCodesSpec)) faultCodesUptoCard

/-- THE SECOND FORM's CARD OF 'sparsetreelaw03.FaultIs'. -/
def faultIsUptoCard : Claim7 := { stood := { row := faultIsUptoRow, standIns := [], harness := (true, "5940e3e1c0974a76d5e1393abd215094bddc08d6a049cb9e384dc2c6d149a2b9"), looks := true }, kinds := [], alts := [], laidByText := true, laidKinds := [.handle], laidTests := true, laidLooks := .later }
def FaultIsUptoCardSaid : Prop := Claim7.holds Tryd.pinned (.plain (OpenSpec.upto faultIsSpec)) faultIsUptoCard

/-- THE SECOND FORM's CARD OF 'sparsetreelaw03.FaultOps'. -/
def faultOpsUptoCard : Claim7 := { stood := { row := faultOpsUptoRow, standIns := [], harness := (true, "5940e3e1c0974a76d5e1393abd215094bddc08d6a049cb9e384dc2c6d149a2b9"), looks := true }, kinds := [], alts := [], laidByText := true, laidKinds := [.handle], laidTests := true, laidLooks := .later }
def FaultOpsUptoCardSaid : Prop := Claim7.holds Tryd.pinned (.plain (OpenSpec.upto faultOpsSpec)) faultOpsUptoCard

/-- THE SECOND FORM's CARD OF 'sparsetreelaw03.FaultUnwraps'. -/
def faultUnwrapsUptoCard : Claim7 := { stood := { row := faultUnwrapsUptoRow, standIns := [], harness := (true, "5940e3e1c0974a76d5e1393abd215094bddc08d6a049cb9e384dc2c6d149a2b9"), looks := true }, kinds := [], alts := [], laidByText := true, laidKinds := [.data, .data, .data, .handle], laidTests := true, laidLooks := .later }
def FaultUnwrapsUptoCardSaid : Prop := Claim7.holds Tryd.pinned (.plain (OpenSpec.upto faultUnwrapsSpec)) faultUnwrapsUptoCard

/-- THE SECOND FORM's CARD OF 'sparsetreelaw03.FaultOther'. -/
def faultOtherUptoCard : Claim7 := { stood := { row := faultOtherUptoRow, standIns := [], harness := (true, "5940e3e1c0974a76d5e1393abd215094bddc08d6a049cb9e384dc2c6d149a2b9"), looks := true }, kinds := [], alts := [], laidByText := true, laidKinds := [.handle], laidTests := true, laidLooks := .later }
def FaultOtherUptoCardSaid : Prop := Claim7.holds Tryd.pinned (.plain (OpenSpec.upto faultOtherSpec)) faultOtherUptoCard
end Rows
end Go.Proofs.YtmadfppacfmpeaaDoor
