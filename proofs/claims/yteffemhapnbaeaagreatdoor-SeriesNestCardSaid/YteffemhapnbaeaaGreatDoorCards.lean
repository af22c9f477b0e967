/-
  DERIVED. GIVEN WITH THE SEED: THE CARDS: each row of YteffemhapnbaeaaGreatDoorRows.lean that lists a variable, with what it lists TIED to the program's text (the seventh form; the later family's looks); each row that meets fmt, with fmt's text TOLD by the authors' own Lean function (tested against real Go, not proved from fmt's source: count such statements apart). THE CARD IS WHAT COUNTS. Prove the row's statement (the work); the ties are given (YteffemhapnbaeaaGreatDoorTie.lean); close each card by the builder's one call (the guide's Derived/Test/ToyasCard.lean, 'card_holds'). Laid BY PROGRAM, IN A SANDBOX (cutbox-door.mjs). By AI agents, Wed Nov 11 2026. No macro, syntax, notation, axiom, sorry.
-/
import Derived.Test.YteffemhapnbaeaaGreatDoorRows
import GoSem.ClaimSeven
namespace Go.Proofs.YteffemhapnbaeaaGreatDoor
namespace Rows

/-- THE TIED CARD OF 'volvellelaw03.SpanSums'. -/
def spanSumsCard : Claim7 := { stood := { row := spanSumsRow, standIns := [], harness := (true, "ee6e429e1833c6a28001ee1df4dd75cfef752aae9770badcf7099978c7c62e7b"), looks := false }, kinds := [], alts := [], laidByText := true, laidKinds := [.data], laidTests := true, laidLooks := .later }
def SpanSumsCardSaid : Prop := Claim7.holds Tryz.pinned (.plain (OpenSpec.ofChange spanSumsSpec)) spanSumsCard

/-- THE TIED CARD OF 'volvellelaw04.SeriesPi'. -/
def seriesPiCard : Claim7 := { stood := { row := seriesPiRow, standIns := [], harness := (true, "ee6e429e1833c6a28001ee1df4dd75cfef752aae9770badcf7099978c7c62e7b"), looks := false }, kinds := [], alts := [], laidByText := true, laidKinds := [.data], laidTests := true, laidLooks := .later }
def SeriesPiCardSaid : Prop := Claim7.holds Tryz.pinned (.plain (OpenSpec.ofChange seriesPiSpec)) seriesPiCard

/-- THE TIED CARD OF 'volvellelaw04.SeriesLn2'. -/
def seriesLn2Card : Claim7 := { stood := { row := seriesLn2Row, standIns := [], harness := (true, "ee6e429e1833c6a28001ee1df4dd75cfef752aae9770badcf7099978c7c62e7b"), looks := false }, kinds := [], alts := [], laidByText := true, laidKinds := [.data], laidTests := true, laidLooks := .later }
def SeriesLn2CardSaid : Prop := Claim7.holds Tryz.pinned (.plain (OpenSpec.ofChange seriesLn2Spec)) seriesLn2Card

/-- THE TIED CARD OF 'volvellelaw04.SeriesNest'. -/
def seriesNestCard : Claim7 := { stood := { row := seriesNestRow, standIns := [], harness := (true, "ee6e429e1833c6a28001ee1df4dd75cfef752aae9770badcf7099978c7c62e7b"), looks := false }, kinds := [], alts := [], laidByText := true, laidKinds := [.data], laidTests := true, laidLooks := .later }
def SeriesNestCardSaid : Prop := Claim7.holds Tryz.pinned (.plain (OpenSpec.ofChange seriesNestSpec)) seriesNestCard

/-- THE SECOND FORM's CARD OF 'volvellelaw03.SpanSums'. -/
def spanSumsUptoCard : Claim7 := { stood := { row := spanSumsUptoRow, standIns := [], harness := (true, "ee6e429e1833c6a28001ee1df4dd75cfef752aae9770badcf7099978c7c62e7b"), looks := false }, kinds := [], alts := [], laidByText := true, laidKinds := [.data], laidTests := true, laidLooks := .later }
def SpanSumsUptoCardSaid : Prop := Claim7.holds Tryz.pinned (.plain (OpenSpec.upto spanSumsSpec)) spanSumsUptoCard

/-- THE SECOND FORM's CARD OF 'volvellelaw04.SeriesPi'. -/
def seriesPiUptoCard : Claim7 := { stood := { row := seriesPiUptoRow, standIns := [], harness := (true, "ee6e429e1833c6a28001ee1df4dd75cfef752aae9770badcf7099978c7c62e7b"), looks := false }, kinds := [], alts := [], laidByText := true, laidKinds := [.data], laidTests := true, laidLooks := .later }
def SeriesPiUptoCardSaid : Prop := Claim7.holds Tryz.pinned (.plain (OpenSpec.upto seriesPiSpec)) seriesPiUptoCard

/-- THE SECOND FORM's CARD OF 'volvellelaw04.SeriesLn2'. -/
def seriesLn2UptoCard : Claim7 := { stood := { row := seriesLn2UptoRow, standIns := [], harness := (true, "ee6e429e1833c6a28001ee1df4dd75cfef752aae9770badcf7099978c7c62e7b"), looks := false }, kinds := [], alts := [], laidByText := true, laidKinds := [.data], laidTests := true, laidLooks := .later }
def SeriesLn2UptoCardSaid : Prop := Claim7.holds Tryz.pinned (.plain (OpenSpec.upto seriesLn2Spec)) seriesLn2UptoCard

/-- THE SECOND FORM's CARD OF 'volvellelaw04.SeriesNest'. -/
def seriesNestUptoCard : Claim7 := { stood := { row := seriesNestUptoRow, standIns := [], harness := (true, "ee6e429e1833c6a28001ee1df4dd75cfef752aae9770badcf7099978c7c62e7b"), looks := false }, kinds := [], alts := [], laidByText := true, laidKinds := [.data], laidTests := true, laidLooks := .later }
def SeriesNestUptoCardSaid : Prop := Claim7.holds Tryz.pinned (.plain (OpenSpec.upto seriesNestSpec)) seriesNestUptoCard
end Rows
end Go.Proofs.YteffemhapnbaeaaGreatDoor
