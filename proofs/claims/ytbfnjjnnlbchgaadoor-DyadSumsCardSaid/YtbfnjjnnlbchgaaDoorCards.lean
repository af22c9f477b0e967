/-
  DERIVED. GIVEN WITH THE SEED: THE CARDS: each row of YtbfnjjnnlbchgaaDoorRows.lean that lists a variable, with what it lists TIED to the program's text (the seventh form; the later family's looks); each row that meets fmt, with fmt's text TOLD by the authors' own Lean function (tested against real Go, not proved from fmt's source: count such statements apart). THE CARD IS WHAT COUNTS. Prove the row's statement (the work); the ties are given (YtbfnjjnnlbchgaaDoorTie.lean); close each card by the builder's one call (the guide's Derived/Test/ToyasCard.lean, 'card_holds'). Laid BY PROGRAM, IN A SANDBOX (cutbox-door.mjs). By AI agents, Wed Nov 11 2026. No macro, syntax, notation, axiom, sorry.
-/
import Derived.Test.YtbfnjjnnlbchgaaDoorRows
import GoSem.ClaimSeven
namespace Go.Proofs.YtbfnjjnnlbchgaaDoor
namespace Rows

/-- THE TIED CARD OF 'volvellelaw10.RoundExact'. -/
def roundExactCard : Claim7 := { stood := { row := roundExactRow, standIns := [], harness := (true, "7dbf0aea4193fcabb43575ba0f1ce61f65972e8acf3262a149af79214c186a89"), looks := false }, kinds := [], alts := [], laidByText := true, laidKinds := [.data], laidTests := true, laidLooks := .later }
def RoundExactCardSaid : Prop := Claim7.holds Tryd.pinned (.plain (OpenSpec.ofChange roundExactSpec)) roundExactCard

/-- THE TIED CARD OF 'volvellelaw10.RoundStays'. -/
def roundStaysCard : Claim7 := { stood := { row := roundStaysRow, standIns := [], harness := (true, "7dbf0aea4193fcabb43575ba0f1ce61f65972e8acf3262a149af79214c186a89"), looks := false }, kinds := [], alts := [], laidByText := true, laidKinds := [.data], laidTests := true, laidLooks := .later }
def RoundStaysCardSaid : Prop := Claim7.holds Tryd.pinned (.plain (OpenSpec.ofChange roundStaysSpec)) roundStaysCard

/-- THE TIED CARD OF 'volvellelaw10.RoundOrder'. -/
def roundOrderCard : Claim7 := { stood := { row := roundOrderRow, standIns := [], harness := (true, "7dbf0aea4193fcabb43575ba0f1ce61f65972e8acf3262a149af79214c186a89"), looks := false }, kinds := [], alts := [], laidByText := true, laidKinds := [.data], laidTests := true, laidLooks := .later }
def RoundOrderCardSaid : Prop := Claim7.holds Tryd.pinned (.plain (OpenSpec.ofChange roundOrderSpec)) roundOrderCard

/-- THE TIED CARD OF 'volvellelaw10.RoundAmong'. -/
def roundAmongCard : Claim7 := { stood := { row := roundAmongRow, standIns := [], harness := (true, "7dbf0aea4193fcabb43575ba0f1ce61f65972e8acf3262a149af79214c186a89"), looks := false }, kinds := [], alts := [], laidByText := true, laidKinds := [.data], laidTests := true, laidLooks := .later }
def RoundAmongCardSaid : Prop := Claim7.holds Tryd.pinned (.plain (OpenSpec.ofChange roundAmongSpec)) roundAmongCard

/-- THE TIED CARD OF 'volvellelaw02.DyadMakes'. -/
def dyadMakesCard : Claim7 := { stood := { row := dyadMakesRow, standIns := [], harness := (true, "7dbf0aea4193fcabb43575ba0f1ce61f65972e8acf3262a149af79214c186a89"), looks := false }, kinds := [], alts := [], laidByText := true, laidKinds := [.data], laidTests := true, laidLooks := .later }
def DyadMakesCardSaid : Prop := Claim7.holds Tryd.pinned (.plain (OpenSpec.ofChange dyadMakesSpec)) dyadMakesCard

/-- THE TIED CARD OF 'volvellelaw02.DyadCuts'. -/
def dyadCutsCard : Claim7 := { stood := { row := dyadCutsRow, standIns := [], harness := (true, "7dbf0aea4193fcabb43575ba0f1ce61f65972e8acf3262a149af79214c186a89"), looks := false }, kinds := [], alts := [], laidByText := true, laidKinds := [.data], laidTests := true, laidLooks := .later }
def DyadCutsCardSaid : Prop := Claim7.holds Tryd.pinned (.plain (OpenSpec.ofChange dyadCutsSpec)) dyadCutsCard

/-- THE TIED CARD OF 'volvellelaw02.DyadOrders'. -/
def dyadOrdersCard : Claim7 := { stood := { row := dyadOrdersRow, standIns := [], harness := (true, "7dbf0aea4193fcabb43575ba0f1ce61f65972e8acf3262a149af79214c186a89"), looks := false }, kinds := [], alts := [], laidByText := true, laidKinds := [.data], laidTests := true, laidLooks := .later }
def DyadOrdersCardSaid : Prop := Claim7.holds Tryd.pinned (.plain (OpenSpec.ofChange dyadOrdersSpec)) dyadOrdersCard

/-- THE TIED CARD OF 'volvellelaw02.DyadSums'. -/
def dyadSumsCard : Claim7 := { stood := { row := dyadSumsRow, standIns := [], harness := (true, "7dbf0aea4193fcabb43575ba0f1ce61f65972e8acf3262a149af79214c186a89"), looks := false }, kinds := [], alts := [], laidByText := true, laidKinds := [.data], laidTests := true, laidLooks := .later }
def DyadSumsCardSaid : Prop := Claim7.holds Tryd.pinned (.plain (OpenSpec.ofChange dyadSumsSpec)) dyadSumsCard

/-- THE TIED CARD OF 'volvellelaw02.DyadRoots'. -/
def dyadRootsCard : Claim7 := { stood := { row := dyadRootsRow, standIns := [], harness := (true, "7dbf0aea4193fcabb43575ba0f1ce61f65972e8acf3262a149af79214c186a89"), looks := false }, kinds := [], alts := [], laidByText := true, laidKinds := [.data], laidTests := true, laidLooks := .later }
def DyadRootsCardSaid : Prop := Claim7.holds Tryd.pinned (.plain (OpenSpec.ofChange dyadRootsSpec)) dyadRootsCard

/-- THE TIED CARD OF 'volvellelaw02.DyadEnclose'. -/
def dyadEncloseCard : Claim7 := { stood := { row := dyadEncloseRow, standIns := [], harness := (true, "7dbf0aea4193fcabb43575ba0f1ce61f65972e8acf3262a149af79214c186a89"), looks := false }, kinds := [], alts := [], laidByText := true, laidKinds := [.data], laidTests := true, laidLooks := .later }
def DyadEncloseCardSaid : Prop := Claim7.holds Tryd.pinned (.plain (OpenSpec.ofChange dyadEncloseSpec)) dyadEncloseCard

/-- THE TIED CARD OF 'volvellelaw03.SpanOthers'. -/
def spanOthersCard : Claim7 := { stood := { row := spanOthersRow, standIns := [], harness := (true, "7dbf0aea4193fcabb43575ba0f1ce61f65972e8acf3262a149af79214c186a89"), looks := false }, kinds := [], alts := [], laidByText := true, laidKinds := [.data], laidTests := true, laidLooks := .later }
def SpanOthersCardSaid : Prop := Claim7.holds Tryd.pinned (.plain (OpenSpec.ofChange spanOthersSpec)) spanOthersCard

/-- THE TIED CARD OF 'volvellelaw03.SpanParts'. -/
def spanPartsCard : Claim7 := { stood := { row := spanPartsRow, standIns := [], harness := (true, "7dbf0aea4193fcabb43575ba0f1ce61f65972e8acf3262a149af79214c186a89"), looks := false }, kinds := [], alts := [], laidByText := true, laidKinds := [.data], laidTests := true, laidLooks := .later }
def SpanPartsCardSaid : Prop := Claim7.holds Tryd.pinned (.plain (OpenSpec.ofChange spanPartsSpec)) spanPartsCard

/-- THE SECOND FORM's CARD OF 'volvellelaw10.RoundExact'. -/
def roundExactUptoCard : Claim7 := { stood := { row := roundExactUptoRow, standIns := [], harness := (true, "7dbf0aea4193fcabb43575ba0f1ce61f65972e8acf3262a149af79214c186a89"), looks := false }, kinds := [], alts := [], laidByText := true, laidKinds := [.data], laidTests := true, laidLooks := .later }
def RoundExactUptoCardSaid : Prop := Claim7.holds Tryd.pinned (.plain (OpenSpec.upto roundExactSpec)) roundExactUptoCard

/-- THE SECOND FORM's CARD OF 'volvellelaw10.RoundStays'. -/
def roundStaysUptoCard : Claim7 := { stood := { row := roundStaysUptoRow, standIns := [], harness := (true, "7dbf0aea4193fcabb43575ba0f1ce61f65972e8acf3262a149af79214c186a89"), looks := false }, kinds := [], alts := [], laidByText := true, laidKinds := [.data], laidTests := true, laidLooks := .later }
def RoundStaysUptoCardSaid : Prop := Claim7.holds Tryd.pinned (.plain (OpenSpec.upto roundStaysSpec)) roundStaysUptoCard

/-- THE SECOND FORM's CARD OF 'volvellelaw10.RoundOrder'. -/
def roundOrderUptoCard : Claim7 := { stood := { row := roundOrderUptoRow, standIns := [], harness := (true, "7dbf0aea4193fcabb43575ba0f1ce61f65972e8acf3262a149af79214c186a89"), looks := false }, kinds := [], alts := [], laidByText := true, laidKinds := [.data], laidTests := true, laidLooks := .later }
def RoundOrderUptoCardSaid : Prop := Claim7.holds Tryd.pinned (.plain (OpenSpec.upto roundOrderSpec)) roundOrderUptoCard

/-- THE SECOND FORM's CARD OF 'volvellelaw10.RoundAmong'. -/
def roundAmongUptoCard : Claim7 := { stood := { row := roundAmongUptoRow, standIns := [], harness := (true, "7dbf0aea4193fcabb43575ba0f1ce61f65972e8acf3262a149af79214c186a89"), looks := false }, kinds := [], alts := [], laidByText := true, laidKinds := [.data], laidTests := true, laidLooks := .later }
def RoundAmongUptoCardSaid : Prop := Claim7.holds Tryd.pinned (.plain (OpenSpec.upto roundAmongSpec)) roundAmongUptoCard

/-- THE SECOND FORM's CARD OF 'volvellelaw02.DyadMakes'. -/
def dyadMakesUptoCard : Claim7 := { stood := { row := dyadMakesUptoRow, standIns := [], harness := (true, "7dbf0aea4193fcabb43575ba0f1ce61f65972e8acf3262a149af79214c186a89"), looks := false }, kinds := [], alts := [], laidByText := true, laidKinds := [.data], laidTests := true, laidLooks := .later }
def DyadMakesUptoCardSaid : Prop := Claim7.holds Tryd.pinned (.plain (OpenSpec.upto dyadMakesSpec)) dyadMakesUptoCard

/-- THE SECOND FORM's CARD OF 'volvellelaw02.DyadCuts'. -/
def dyadCutsUptoCard : Claim7 := { stood := { row := dyadCutsUptoRow, standIns := [], harness := (true, "7dbf0aea4193fcabb43575ba0f1ce61f65972e8acf3262a149af79214c186a89"), looks := false }, kinds := [], alts := [], laidByText := true, laidKinds := [.data], laidTests := true, laidLooks := .later }
def DyadCutsUptoCardSaid : Prop := Claim7.holds Tryd.pinned (.plain (OpenSpec.upto dyadCutsSpec)) dyadCutsUptoCard

/-- THE SECOND FORM's CARD OF 'volvellelaw02.DyadOrders'. -/
def dyadOrdersUptoCard : Claim7 := { stood := { row := dyadOrdersUptoRow, standIns := [], harness := (true, "7dbf0aea4193fcabb43575ba0f1ce61f65972e8acf3262a149af79214c186a89"), looks := false }, kinds := [], alts := [], laidByText := true, laidKinds := [.data], laidTests := true, laidLooks := .later }
def DyadOrdersUptoCardSaid : Prop := Claim7.holds Tryd.pinned (.plain (OpenSpec.upto dyadOrdersSpec)) dyadOrdersUptoCard

/-- THE SECOND FORM's CARD OF 'volvellelaw02.DyadSums'. -/
def dyadSumsUptoCard : Claim7 := { stood := { row := dyadSumsUptoRow, standIns := [], harness := (true, "7dbf0aea4193fcabb43575ba0f1ce61f65972e8acf3262a149af79214c186a89"), looks := false }, kinds := [], alts := [], laidByText := true, laidKinds := [.data], laidTests := true, laidLooks := .later }
def DyadSumsUptoCardSaid : Prop := Claim7.holds Tryd.pinned (.plain (OpenSpec.upto dyadSumsSpec)) dyadSumsUptoCard

/-- THE SECOND FORM's CARD OF 'volvellelaw02.DyadRoots'. -/
def dyadRootsUptoCard : Claim7 := { stood := { row := dyadRootsUptoRow, standIns := [], harness := (true, "7dbf0aea4193fcabb43575ba0f1ce61f65972e8acf3262a149af79214c186a89"), looks := false }, kinds := [], alts := [], laidByText := true, laidKinds := [.data], laidTests := true, laidLooks := .later }
def DyadRootsUptoCardSaid : Prop := Claim7.holds Tryd.pinned (.plain (OpenSpec.upto dyadRootsSpec)) dyadRootsUptoCard

/-- THE SECOND FORM's CARD OF 'volvellelaw02.DyadEnclose'. -/
def dyadEncloseUptoCard : Claim7 := { stood := { row := dyadEncloseUptoRow, standIns := [], harness := (true, "7dbf0aea4193fcabb43575ba0f1ce61f65972e8acf3262a149af79214c186a89"), looks := false }, kinds := [], alts := [], laidByText := true, laidKinds := [.data], laidTests := true, laidLooks := .later }
def DyadEncloseUptoCardSaid : Prop := Claim7.holds Tryd.pinned (.plain (OpenSpec.upto dyadEncloseSpec)) dyadEncloseUptoCard

/-- THE SECOND FORM's CARD OF 'volvellelaw03.SpanOthers'. -/
def spanOthersUptoCard : Claim7 := { stood := { row := spanOthersUptoRow, standIns := [], harness := (true, "7dbf0aea4193fcabb43575ba0f1ce61f65972e8acf3262a149af79214c186a89"), looks := false }, kinds := [], alts := [], laidByText := true, laidKinds := [.data], laidTests := true, laidLooks := .later }
def SpanOthersUptoCardSaid : Prop := Claim7.holds Tryd.pinned (.plain (OpenSpec.upto spanOthersSpec)) spanOthersUptoCard

/-- THE SECOND FORM's CARD OF 'volvellelaw03.SpanParts'. -/
def spanPartsUptoCard : Claim7 := { stood := { row := spanPartsUptoRow, standIns := [], harness := (true, "7dbf0aea4193fcabb43575ba0f1ce61f65972e8acf3262a149af79214c186a89"), looks := false }, kinds := [], alts := [], laidByText := true, laidKinds := [.data], laidTests := true, laidLooks := .later }
def SpanPartsUptoCardSaid : Prop := Claim7.holds Tryd.pinned (.plain (OpenSpec.upto spanPartsSpec)) spanPartsUptoCard
end Rows
end Go.Proofs.YtbfnjjnnlbchgaaDoor
