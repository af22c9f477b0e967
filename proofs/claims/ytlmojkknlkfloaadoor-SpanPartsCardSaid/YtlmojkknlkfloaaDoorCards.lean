/-
  DERIVED. GIVEN WITH THE SEED: THE CARDS: each row of YtlmojkknlkfloaaDoorRows.lean that lists a variable, with what it lists TIED to the program's text (the seventh form; the later family's looks); each row that meets fmt, with fmt's text TOLD by the authors' own Lean function (tested against real Go, not proved from fmt's source: count such statements apart). THE CARD IS WHAT COUNTS. Prove the row's statement (the work); the ties are given (YtlmojkknlkfloaaDoorTie.lean); close each card by the builder's one call (the guide's Derived/Test/ToyasCard.lean, 'card_holds'). Laid BY PROGRAM, IN A SANDBOX (cutbox-door.mjs). By AI agents, Wed Nov 11 2026. No macro, syntax, notation, axiom, sorry.
-/
import Derived.Test.YtlmojkknlkfloaaDoorRows
import GoSem.ClaimSeven
namespace Go.Proofs.YtlmojkknlkfloaaDoor
namespace Rows

/-- THE TIED CARD OF 'volvellelaw10.RoundExact'. -/
def roundExactCard : Claim7 := { stood := { row := roundExactRow, standIns := [], harness := (true, "e82c96050b2d1c96bf547f7fbb613b4eb6e1f54c12662207108db2a3d348d64b"), looks := false }, kinds := [], alts := [], laidByText := true, laidKinds := [.data], laidTests := true, laidLooks := .later }
def RoundExactCardSaid : Prop := Claim7.holds Tryd.pinned (.plain (OpenSpec.ofChange roundExactSpec)) roundExactCard

/-- THE TIED CARD OF 'volvellelaw10.RoundStays'. -/
def roundStaysCard : Claim7 := { stood := { row := roundStaysRow, standIns := [], harness := (true, "e82c96050b2d1c96bf547f7fbb613b4eb6e1f54c12662207108db2a3d348d64b"), looks := false }, kinds := [], alts := [], laidByText := true, laidKinds := [.data], laidTests := true, laidLooks := .later }
def RoundStaysCardSaid : Prop := Claim7.holds Tryd.pinned (.plain (OpenSpec.ofChange roundStaysSpec)) roundStaysCard

/-- THE TIED CARD OF 'volvellelaw10.RoundOrder'. -/
def roundOrderCard : Claim7 := { stood := { row := roundOrderRow, standIns := [], harness := (true, "e82c96050b2d1c96bf547f7fbb613b4eb6e1f54c12662207108db2a3d348d64b"), looks := false }, kinds := [], alts := [], laidByText := true, laidKinds := [.data], laidTests := true, laidLooks := .later }
def RoundOrderCardSaid : Prop := Claim7.holds Tryd.pinned (.plain (OpenSpec.ofChange roundOrderSpec)) roundOrderCard

/-- THE TIED CARD OF 'volvellelaw10.RoundAmong'. -/
def roundAmongCard : Claim7 := { stood := { row := roundAmongRow, standIns := [], harness := (true, "e82c96050b2d1c96bf547f7fbb613b4eb6e1f54c12662207108db2a3d348d64b"), looks := false }, kinds := [], alts := [], laidByText := true, laidKinds := [.data], laidTests := true, laidLooks := .later }
def RoundAmongCardSaid : Prop := Claim7.holds Tryd.pinned (.plain (OpenSpec.ofChange roundAmongSpec)) roundAmongCard

/-- THE TIED CARD OF 'volvellelaw02.DyadEnclose'. -/
def dyadEncloseCard : Claim7 := { stood := { row := dyadEncloseRow, standIns := [], harness := (true, "e82c96050b2d1c96bf547f7fbb613b4eb6e1f54c12662207108db2a3d348d64b"), looks := false }, kinds := [], alts := [], laidByText := true, laidKinds := [.data], laidTests := true, laidLooks := .later }
def DyadEncloseCardSaid : Prop := Claim7.holds Tryd.pinned (.plain (OpenSpec.ofChange dyadEncloseSpec)) dyadEncloseCard

/-- THE TIED CARD OF 'volvellelaw03.SpanOthers'. -/
def spanOthersCard : Claim7 := { stood := { row := spanOthersRow, standIns := [], harness := (true, "e82c96050b2d1c96bf547f7fbb613b4eb6e1f54c12662207108db2a3d348d64b"), looks := false }, kinds := [], alts := [], laidByText := true, laidKinds := [.data], laidTests := true, laidLooks := .later }
def SpanOthersCardSaid : Prop := Claim7.holds Tryd.pinned (.plain (OpenSpec.ofChange spanOthersSpec)) spanOthersCard

/-- THE TIED CARD OF 'volvellelaw03.SpanParts'. -/
def spanPartsCard : Claim7 := { stood := { row := spanPartsRow, standIns := [], harness := (true, "e82c96050b2d1c96bf547f7fbb613b4eb6e1f54c12662207108db2a3d348d64b"), looks := false }, kinds := [], alts := [], laidByText := true, laidKinds := [.data], laidTests := true, laidLooks := .later }
def SpanPartsCardSaid : Prop := Claim7.holds Tryd.pinned (.plain (OpenSpec.ofChange spanPartsSpec)) spanPartsCard

/-- THE SECOND FORM's CARD OF 'volvellelaw10.RoundExact'. -/
def roundExactUptoCard : Claim7 := { stood := { row := roundExactUptoRow, standIns := [], harness := (true, "e82c96050b2d1c96bf547f7fbb613b4eb6e1f54c12662207108db2a3d348d64b"), looks := false }, kinds := [], alts := [], laidByText := true, laidKinds := [.data], laidTests := true, laidLooks := .later }
def RoundExactUptoCardSaid : Prop := Claim7.holds Tryd.pinned (.plain (OpenSpec.upto roundExactSpec)) roundExactUptoCard

/-- THE SECOND FORM's CARD OF 'volvellelaw10.RoundStays'. -/
def roundStaysUptoCard : Claim7 := { stood := { row := roundStaysUptoRow, standIns := [], harness := (true, "e82c96050b2d1c96bf547f7fbb613b4eb6e1f54c12662207108db2a3d348d64b"), looks := false }, kinds := [], alts := [], laidByText := true, laidKinds := [.data], laidTests := true, laidLooks := .later }
def RoundStaysUptoCardSaid : Prop := Claim7.holds Tryd.pinned (.plain (OpenSpec.upto roundStaysSpec)) roundStaysUptoCard

/-- THE SECOND FORM's CARD OF 'volvellelaw10.RoundOrder'. -/
def roundOrderUptoCard : Claim7 := { stood := { row := roundOrderUptoRow, standIns := [], harness := (true, "e82c96050b2d1c96bf547f7fbb613b4eb6e1f54c12662207108db2a3d348d64b"), looks := false }, kinds := [], alts := [], laidByText := true, laidKinds := [.data], laidTests := true, laidLooks := .later }
def RoundOrderUptoCardSaid : Prop := Claim7.holds Tryd.pinned (.plain (OpenSpec.upto roundOrderSpec)) roundOrderUptoCard

/-- THE SECOND FORM's CARD OF 'volvellelaw10.RoundAmong'. -/
def roundAmongUptoCard : Claim7 := { stood := { row := roundAmongUptoRow, standIns := [], harness := (true, "e82c96050b2d1c96bf547f7fbb613b4eb6e1f54c12662207108db2a3d348d64b"), looks := false }, kinds := [], alts := [], laidByText := true, laidKinds := [.data], laidTests := true, laidLooks := .later }
def RoundAmongUptoCardSaid : Prop := Claim7.holds Tryd.pinned (.plain (OpenSpec.upto roundAmongSpec)) roundAmongUptoCard

/-- THE SECOND FORM's CARD OF 'volvellelaw02.DyadEnclose'. -/
def dyadEncloseUptoCard : Claim7 := { stood := { row := dyadEncloseUptoRow, standIns := [], harness := (true, "e82c96050b2d1c96bf547f7fbb613b4eb6e1f54c12662207108db2a3d348d64b"), looks := false }, kinds := [], alts := [], laidByText := true, laidKinds := [.data], laidTests := true, laidLooks := .later }
def DyadEncloseUptoCardSaid : Prop := Claim7.holds Tryd.pinned (.plain (OpenSpec.upto dyadEncloseSpec)) dyadEncloseUptoCard

/-- THE SECOND FORM's CARD OF 'volvellelaw03.SpanOthers'. -/
def spanOthersUptoCard : Claim7 := { stood := { row := spanOthersUptoRow, standIns := [], harness := (true, "e82c96050b2d1c96bf547f7fbb613b4eb6e1f54c12662207108db2a3d348d64b"), looks := false }, kinds := [], alts := [], laidByText := true, laidKinds := [.data], laidTests := true, laidLooks := .later }
def SpanOthersUptoCardSaid : Prop := Claim7.holds Tryd.pinned (.plain (OpenSpec.upto spanOthersSpec)) spanOthersUptoCard

/-- THE SECOND FORM's CARD OF 'volvellelaw03.SpanParts'. -/
def spanPartsUptoCard : Claim7 := { stood := { row := spanPartsUptoRow, standIns := [], harness := (true, "e82c96050b2d1c96bf547f7fbb613b4eb6e1f54c12662207108db2a3d348d64b"), looks := false }, kinds := [], alts := [], laidByText := true, laidKinds := [.data], laidTests := true, laidLooks := .later }
def SpanPartsUptoCardSaid : Prop := Claim7.holds Tryd.pinned (.plain (OpenSpec.upto spanPartsSpec)) spanPartsUptoCard
end Rows
end Go.Proofs.YtlmojkknlkfloaaDoor
