/-
  DERIVED. GIVEN WITH THE SEED: THE CARDS: each row of YtelofaceadlfmaaDoorRows.lean that lists a variable, with what it lists TIED to the program's text (the seventh form; the later family's looks); each row that meets fmt, with fmt's text TOLD by the authors' own Lean function (tested against real Go, not proved from fmt's source: count such statements apart). THE CARD IS WHAT COUNTS. Prove the row's statement (the work); the ties are given (YtelofaceadlfmaaDoorTie.lean); close each card by the builder's one call (the guide's Derived/Test/ToyasCard.lean, 'card_holds'). Laid BY PROGRAM, IN A SANDBOX (cutbox-door.mjs). By AI agents, Wed Nov 11 2026. No macro, syntax, notation, axiom, sorry.
-/
import Derived.Test.YtelofaceadlfmaaDoorRows
import GoSem.ClaimSeven
namespace Go.Proofs.YtelofaceadlfmaaDoor
namespace Rows

/-- THE TIED CARD OF 'repriselaw04.AggOf'. -/
def aggOfCard : Claim7 := { stood := { row := aggOfRow, standIns := [], harness := (true, "b18db5900d1102cbecf47bf1bc4be348ac6be47051422e65358e74dd50e168e4"), looks := false }, kinds := [], alts := [], laidByText := true, laidKinds := [.data, .data, .data], laidTests := true, laidLooks := .later }
def AggOfCardSaid : Prop := Claim7.holds Tryd.pinned (.plain (OpenSpec.ofChange aggOfSpec)) aggOfCard

/-- THE TIED CARD OF 'repriselaw04.AggMerge'. -/
def aggMergeCard : Claim7 := { stood := { row := aggMergeRow, standIns := [], harness := (true, "b18db5900d1102cbecf47bf1bc4be348ac6be47051422e65358e74dd50e168e4"), looks := false }, kinds := [], alts := [], laidByText := true, laidKinds := [.data, .data, .data], laidTests := true, laidLooks := .later }
def AggMergeCardSaid : Prop := Claim7.holds Tryd.pinned (.plain (OpenSpec.ofChange aggMergeSpec)) aggMergeCard

/-- THE TIED CARD OF 'repriselaw04.AggTexts'. -/
def aggTextsCard : Claim7 := { stood := { row := aggTextsRow, standIns := [], harness := (true, "b18db5900d1102cbecf47bf1bc4be348ac6be47051422e65358e74dd50e168e4"), looks := false }, kinds := [], alts := [], laidByText := true, laidKinds := [.data, .data, .data], laidTests := true, laidLooks := .later }
def AggTextsCardSaid : Prop := Claim7.holds Tryd.pinned (.plain (OpenSpec.ofChange aggTextsSpec)) aggTextsCard

/-- THE TIED CARD OF 'repriselaw04.AggLaws'. -/
def aggLawsCard : Claim7 := { stood := { row := aggLawsRow, standIns := [], harness := (true, "b18db5900d1102cbecf47bf1bc4be348ac6be47051422e65358e74dd50e168e4"), looks := false }, kinds := [], alts := [], laidByText := true, laidKinds := [.data, .data, .data], laidTests := true, laidLooks := .later }
def AggLawsCardSaid : Prop := Claim7.holds Tryd.pinned (.plain (OpenSpec.ofChange aggLawsSpec)) aggLawsCard

/-- THE TIED CARD OF 'repriselaw04.AggOrder'. -/
def aggOrderCard : Claim7 := { stood := { row := aggOrderRow, standIns := [], harness := (true, "b18db5900d1102cbecf47bf1bc4be348ac6be47051422e65358e74dd50e168e4"), looks := false }, kinds := [], alts := [], laidByText := true, laidKinds := [.data, .data, .data], laidTests := true, laidLooks := .later }
def AggOrderCardSaid : Prop := Claim7.holds Tryd.pinned (.plain (OpenSpec.ofChange aggOrderSpec)) aggOrderCard

/-- THE TIED CARD OF 'repriselaw04.AggWraps'. -/
def aggWrapsCard : Claim7 := { stood := { row := aggWrapsRow, standIns := [], harness := (true, "b18db5900d1102cbecf47bf1bc4be348ac6be47051422e65358e74dd50e168e4"), looks := false }, kinds := [], alts := [], laidByText := true, laidKinds := [.data, .data, .data], laidTests := true, laidLooks := .later }
def AggWrapsCardSaid : Prop := Claim7.holds Tryd.pinned (.plain (OpenSpec.ofChange aggWrapsSpec)) aggWrapsCard

/-- THE SECOND FORM's CARD OF 'repriselaw04.AggOf'. -/
def aggOfUptoCard : Claim7 := { stood := { row := aggOfUptoRow, standIns := [], harness := (true, "b18db5900d1102cbecf47bf1bc4be348ac6be47051422e65358e74dd50e168e4"), looks := false }, kinds := [], alts := [], laidByText := true, laidKinds := [.data, .data, .data], laidTests := true, laidLooks := .later }
def AggOfUptoCardSaid : Prop := Claim7.holds Tryd.pinned (.plain (OpenSpec.upto aggOfSpec)) aggOfUptoCard

/-- THE SECOND FORM's CARD OF 'repriselaw04.AggMerge'. -/
def aggMergeUptoCard : Claim7 := { stood := { row := aggMergeUptoRow, standIns := [], harness := (true, "b18db5900d1102cbecf47bf1bc4be348ac6be47051422e65358e74dd50e168e4"), looks := false }, kinds := [], alts := [], laidByText := true, laidKinds := [.data, .data, .data], laidTests := true, laidLooks := .later }
def AggMergeUptoCardSaid : Prop := Claim7.holds Tryd.pinned (.plain (OpenSpec.upto aggMergeSpec)) aggMergeUptoCard

/-- THE SECOND FORM's CARD OF 'repriselaw04.AggTexts'. -/
def aggTextsUptoCard : Claim7 := { stood := { row := aggTextsUptoRow, standIns := [], harness := (true, "b18db5900d1102cbecf47bf1bc4be348ac6be47051422e65358e74dd50e168e4"), looks := false }, kinds := [], alts := [], laidByText := true, laidKinds := [.data, .data, .data], laidTests := true, laidLooks := .later }
def AggTextsUptoCardSaid : Prop := Claim7.holds Tryd.pinned (.plain (OpenSpec.upto aggTextsSpec)) aggTextsUptoCard

/-- THE SECOND FORM's CARD OF 'repriselaw04.AggLaws'. -/
def aggLawsUptoCard : Claim7 := { stood := { row := aggLawsUptoRow, standIns := [], harness := (true, "b18db5900d1102cbecf47bf1bc4be348ac6be47051422e65358e74dd50e168e4"), looks := false }, kinds := [], alts := [], laidByText := true, laidKinds := [.data, .data, .data], laidTests := true, laidLooks := .later }
def AggLawsUptoCardSaid : Prop := Claim7.holds Tryd.pinned (.plain (OpenSpec.upto aggLawsSpec)) aggLawsUptoCard

/-- THE SECOND FORM's CARD OF 'repriselaw04.AggOrder'. -/
def aggOrderUptoCard : Claim7 := { stood := { row := aggOrderUptoRow, standIns := [], harness := (true, "b18db5900d1102cbecf47bf1bc4be348ac6be47051422e65358e74dd50e168e4"), looks := false }, kinds := [], alts := [], laidByText := true, laidKinds := [.data, .data, .data], laidTests := true, laidLooks := .later }
def AggOrderUptoCardSaid : Prop := Claim7.holds Tryd.pinned (.plain (OpenSpec.upto aggOrderSpec)) aggOrderUptoCard

/-- THE SECOND FORM's CARD OF 'repriselaw04.AggWraps'. -/
def aggWrapsUptoCard : Claim7 := { stood := { row := aggWrapsUptoRow, standIns := [], harness := (true, "b18db5900d1102cbecf47bf1bc4be348ac6be47051422e65358e74dd50e168e4"), looks := false }, kinds := [], alts := [], laidByText := true, laidKinds := [.data, .data, .data], laidTests := true, laidLooks := .later }
def AggWrapsUptoCardSaid : Prop := Claim7.holds Tryd.pinned (.plain (OpenSpec.upto aggWrapsSpec)) aggWrapsUptoCard
end Rows
end Go.Proofs.YtelofaceadlfmaaDoor
