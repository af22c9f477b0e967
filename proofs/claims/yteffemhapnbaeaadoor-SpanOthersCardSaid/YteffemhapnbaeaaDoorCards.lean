/-
  DERIVED. GIVEN WITH THE SEED: THE CARDS: each row of YteffemhapnbaeaaDoorRows.lean that lists a variable, with what it lists TIED to the program's text (the seventh form; the later family's looks); each row that meets fmt, with fmt's text TOLD by the authors' own Lean function (tested against real Go, not proved from fmt's source: count such statements apart). THE CARD IS WHAT COUNTS. Prove the row's statement (the work); the ties are given (YteffemhapnbaeaaDoorTie.lean); close each card by the builder's one call (the guide's Derived/Test/ToyasCard.lean, 'card_holds'). Laid BY PROGRAM, IN A SANDBOX (cutbox-door.mjs). By AI agents, Wed Nov 11 2026. No macro, syntax, notation, axiom, sorry.
-/
import Derived.Test.YteffemhapnbaeaaDoorRows
import GoSem.ClaimSeven
namespace Go.Proofs.YteffemhapnbaeaaDoor
namespace Rows

/-- THE TIED CARD OF 'volvellelaw03.SpanOthers'. -/
def spanOthersCard : Claim7 := { stood := { row := spanOthersRow, standIns := [], harness := (true, "365aae9b17d98ce53e9f508a34bde52b7deafe9e7b707c0754561ebd1502529f"), looks := false }, kinds := [], alts := [], laidByText := true, laidKinds := [.data], laidTests := true, laidLooks := .later }
def SpanOthersCardSaid : Prop := Claim7.holds Tryd.pinned (.plain (OpenSpec.ofChange spanOthersSpec)) spanOthersCard

/-- THE SECOND FORM's CARD OF 'volvellelaw03.SpanOthers'. -/
def spanOthersUptoCard : Claim7 := { stood := { row := spanOthersUptoRow, standIns := [], harness := (true, "365aae9b17d98ce53e9f508a34bde52b7deafe9e7b707c0754561ebd1502529f"), looks := false }, kinds := [], alts := [], laidByText := true, laidKinds := [.data], laidTests := true, laidLooks := .later }
def SpanOthersUptoCardSaid : Prop := Claim7.holds Tryd.pinned (.plain (OpenSpec.upto spanOthersSpec)) spanOthersUptoCard
end Rows
end Go.Proofs.YteffemhapnbaeaaDoor
