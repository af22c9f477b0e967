/-
  NARROWER THAN 'FOR EVERY INPUT', by the rows' own cells (each row's printed sentence says how): SpanSums: laid · SeriesPi: laid · SeriesLn2: laid · SeriesNest: laid.
  DERIVED. THE GIVEN ROWS OF THIS SEAT. 4 by the template 'for every input the law returns true; each argument reads behind the call as it read before'; 0 by the template 'total and deterministic' (their statements: YteffemhapnbaeaaGreatDoorTotals.lean).
  GIVEN WITH THE SEED: the statements are not yours to turn. If you find one false, say at which input.
  Laid BY PROGRAM, IN A SANDBOX (cutbox-rows.mjs): the forced cells as the released guide's own fill.sh prints them over the translation 7aea89b73c4ba9e2… (all of the seat's roots in one cut). By AI agents, Wed Nov 11 2026. No macro, syntax, notation, axiom, sorry.
-/
import Derived.Test.YteffemhapnbaeaaGreatDoorChecked
import GoSem.Claim
import GoSem.ClaimJoined
import GoSem.ClaimMapViews
import Derived.JoinedTies
import Derived.KernelRfl
namespace Go.Proofs.YteffemhapnbaeaaGreatDoor
/- THE CELL 'sum', in the pinned program and in every row, IS THE sha256 OF THE DUMP (.gsa) THAT YteffemhapnbaeaaGreatDoorProg.lean LOADS. Nothing in Lean hashes anything: it is a label: what it is worth is what the hold of that sum in a sandbox is worth. -/
noncomputable def Tryz.pinned : Pinned := { name := "yteffemhapnbaeaagreatdoor", sum := "7aea89b73c4ba9e24f7e66f32da39286b902a31c61f67cbc7bc515fce5dc29e7", checked := Tryz.checked }
namespace Rows
def none {H : Type} : Left H := { results := [], args := [] }

/- WHAT THE LISTED PACKAGE-LEVEL VARIABLES READ AS WHEN THE CALL BEGINS. Each datum BY PROGRAM (the guide's laid-datum.mjs) off the statement by which the dump's own 'gosem.cut.vars' lays the variable. In a bare row this is a premise. The card (YteffemhapnbaeaaGreatDoorCards.lean) ties it to the program's text. -/
def laid_math_bits_deBruijn64tab {H : Type} : DataW H := .agg [.lit (.int .u8 0), .lit (.int .u8 1), .lit (.int .u8 56), .lit (.int .u8 2), .lit (.int .u8 57), .lit (.int .u8 49), .lit (.int .u8 28), .lit (.int .u8 3), .lit (.int .u8 61), .lit (.int .u8 58), .lit (.int .u8 42), .lit (.int .u8 50), .lit (.int .u8 38), .lit (.int .u8 29), .lit (.int .u8 17), .lit (.int .u8 4), .lit (.int .u8 62), .lit (.int .u8 47), .lit (.int .u8 59), .lit (.int .u8 36), .lit (.int .u8 45), .lit (.int .u8 43), .lit (.int .u8 51), .lit (.int .u8 22), .lit (.int .u8 53), .lit (.int .u8 39), .lit (.int .u8 33), .lit (.int .u8 30), .lit (.int .u8 24), .lit (.int .u8 18), .lit (.int .u8 12), .lit (.int .u8 5), .lit (.int .u8 63), .lit (.int .u8 55), .lit (.int .u8 48), .lit (.int .u8 27), .lit (.int .u8 60), .lit (.int .u8 41), .lit (.int .u8 37), .lit (.int .u8 16), .lit (.int .u8 46), .lit (.int .u8 35), .lit (.int .u8 44), .lit (.int .u8 21), .lit (.int .u8 52), .lit (.int .u8 32), .lit (.int .u8 23), .lit (.int .u8 11), .lit (.int .u8 54), .lit (.int .u8 26), .lit (.int .u8 40), .lit (.int .u8 15), .lit (.int .u8 34), .lit (.int .u8 20), .lit (.int .u8 31), .lit (.int .u8 10), .lit (.int .u8 25), .lit (.int .u8 14), .lit (.int .u8 19), .lit (.int .u8 9), .lit (.int .u8 13), .lit (.int .u8 8), .lit (.int .u8 7), .lit (.int .u8 6)]

/-- 'volvellelaw03.SpanSums': WHATEVER THE INPUT: true; the input reads as it did. -/
def spanSumsSpec : ChangeSpec := { name := "spanSums", fn := fun _ => fun
  | [d1, d2, d3] => { results := [.lit (.bool true)], args := [d1, d2, d3] }
  | _ => none }
def spanSumsRow : OpenClaim := { program := "yteffemhapnbaeaagreatdoor", sum := "7aea89b73c4ba9e24f7e66f32da39286b902a31c61f67cbc7bc515fce5dc29e7", func := "volvelle/volvellelaw03.SpanSums", spec := "spanSums", inPlace := ["math/bits.Add64", "math/bits.Sub64"], unfollowed := true, recurses := true, named := ["math/bits.deBruijn64tab", "math/bits.divideError", "math/bits.overflowError"], apart := false, laid := [("math/bits.deBruijn64tab", laid_math_bits_deBruijn64tab)] }
def SpanSumsSaid : Prop := spanSumsRow.holds Tryz.pinned (OpenSpec.ofChange spanSumsSpec)

/-- ITS FALSE NEIGHBOUR: 'it returns false'. Refute it at one input. -/
def spanSumsWrong : ChangeSpec := { name := "spanSums", fn := fun _ => fun
  | [d1, d2, d3] => { results := [.lit (.bool false)], args := [d1, d2, d3] }
  | _ => none }
def SpanSumsWrongFalsely : Prop := spanSumsRow.holds Tryz.pinned (OpenSpec.ofChange spanSumsWrong)

/-- 'volvellelaw04.SeriesPi': WHATEVER THE INPUT: true; the input reads as it did. -/
def seriesPiSpec : ChangeSpec := { name := "seriesPi", fn := fun _ => fun
  | [d1, d2] => { results := [.lit (.bool true)], args := [d1, d2] }
  | _ => none }
def seriesPiRow : OpenClaim := { program := "yteffemhapnbaeaagreatdoor", sum := "7aea89b73c4ba9e24f7e66f32da39286b902a31c61f67cbc7bc515fce5dc29e7", func := "volvelle/volvellelaw04.SeriesPi", spec := "seriesPi", inPlace := ["math/bits.Add64", "math/bits.Sub64"], unfollowed := true, recurses := true, named := ["math/bits.deBruijn64tab", "math/bits.divideError", "math/bits.overflowError"], apart := false, laid := [("math/bits.deBruijn64tab", laid_math_bits_deBruijn64tab)] }
def SeriesPiSaid : Prop := seriesPiRow.holds Tryz.pinned (OpenSpec.ofChange seriesPiSpec)

/-- ITS FALSE NEIGHBOUR: 'it returns false'. Refute it at one input. -/
def seriesPiWrong : ChangeSpec := { name := "seriesPi", fn := fun _ => fun
  | [d1, d2] => { results := [.lit (.bool false)], args := [d1, d2] }
  | _ => none }
def SeriesPiWrongFalsely : Prop := seriesPiRow.holds Tryz.pinned (OpenSpec.ofChange seriesPiWrong)

/-- 'volvellelaw04.SeriesLn2': WHATEVER THE INPUT: true; the input reads as it did. -/
def seriesLn2Spec : ChangeSpec := { name := "seriesLn2", fn := fun _ => fun
  | [d1, d2] => { results := [.lit (.bool true)], args := [d1, d2] }
  | _ => none }
def seriesLn2Row : OpenClaim := { program := "yteffemhapnbaeaagreatdoor", sum := "7aea89b73c4ba9e24f7e66f32da39286b902a31c61f67cbc7bc515fce5dc29e7", func := "volvelle/volvellelaw04.SeriesLn2", spec := "seriesLn2", inPlace := ["math/bits.Add64", "math/bits.Sub64"], unfollowed := true, recurses := true, named := ["math/bits.deBruijn64tab", "math/bits.divideError", "math/bits.overflowError"], apart := false, laid := [("math/bits.deBruijn64tab", laid_math_bits_deBruijn64tab)] }
def SeriesLn2Said : Prop := seriesLn2Row.holds Tryz.pinned (OpenSpec.ofChange seriesLn2Spec)

/-- ITS FALSE NEIGHBOUR: 'it returns false'. Refute it at one input. -/
def seriesLn2Wrong : ChangeSpec := { name := "seriesLn2", fn := fun _ => fun
  | [d1, d2] => { results := [.lit (.bool false)], args := [d1, d2] }
  | _ => none }
def SeriesLn2WrongFalsely : Prop := seriesLn2Row.holds Tryz.pinned (OpenSpec.ofChange seriesLn2Wrong)

/-- 'volvellelaw04.SeriesNest': WHATEVER THE INPUT: true; the input reads as it did. -/
def seriesNestSpec : ChangeSpec := { name := "seriesNest", fn := fun _ => fun
  | [d1, d2, d3] => { results := [.lit (.bool true)], args := [d1, d2, d3] }
  | _ => none }
def seriesNestRow : OpenClaim := { program := "yteffemhapnbaeaagreatdoor", sum := "7aea89b73c4ba9e24f7e66f32da39286b902a31c61f67cbc7bc515fce5dc29e7", func := "volvelle/volvellelaw04.SeriesNest", spec := "seriesNest", inPlace := ["math/bits.Add64", "math/bits.Sub64"], unfollowed := true, recurses := true, named := ["math/bits.deBruijn64tab", "math/bits.divideError", "math/bits.overflowError"], apart := false, laid := [("math/bits.deBruijn64tab", laid_math_bits_deBruijn64tab)] }
def SeriesNestSaid : Prop := seriesNestRow.holds Tryz.pinned (OpenSpec.ofChange seriesNestSpec)

/-- ITS FALSE NEIGHBOUR: 'it returns false'. Refute it at one input. -/
def seriesNestWrong : ChangeSpec := { name := "seriesNest", fn := fun _ => fun
  | [d1, d2, d3] => { results := [.lit (.bool false)], args := [d1, d2, d3] }
  | _ => none }
def SeriesNestWrongFalsely : Prop := seriesNestRow.holds Tryz.pinned (OpenSpec.ofChange seriesNestWrong)

/- THE SECOND FORM. 'bulk': how many values and letters a reading holds, each counted each time it is reached (what is shared counts as often as it is met; a slice's spare places count too). A statement '..UptoSaid' is the law's where the arguments, and the package variables that the reading takes, are together of bulk at most 1048576: NARROWER than '..Said'. Prove '..Said' where nothing that the law and all that it calls make is longer than what came in: it says more and counts as full. Else prove '..UptoSaid'. A law counts once. -/
mutual
def uptoBulk {H : Type} : DataW H → Nat
  | .lit (.string bytes) => bytes.length + 1
  | .lit _ => 1
  | .nil => 1
  | .ptr d => uptoBulk d + 1
  | .slice elems spare => uptoBulkAll elems + uptoBulkAll spare + 1
  | .agg parts => uptoBulkAll parts + 1
  | .iface _ d => uptoBulk d + 1
  | .map entries => uptoBulkEntries entries + 1
  | .held _ => 1
def uptoBulkAll {H : Type} : List (DataW H) → Nat
  | [] => 0
  | d :: r => uptoBulk d + uptoBulkAll r
def uptoBulkEntries {H : Type} : List (Lit × DataW H) → Nat
  | [] => 0
  | x :: r => uptoBulkEntry x + uptoBulkEntries r
def uptoBulkEntry {H : Type} : Lit × DataW H → Nat
  | (.string bytes, d) => bytes.length + uptoBulk d + 1
  | (_, d) => uptoBulk d + 1
 end
def uptoSmall : (H : Type) → List (DataW H) → Bool := fun _ ds => decide (uptoBulkAll ds ≤ 1048576)
def OpenSpec.upto (s : _root_.Go.ChangeSpec) : _root_.Go.OpenSpec := { _root_.Go.OpenSpec.ofChange s with cond := some uptoSmall }

/-- 'volvellelaw03.SpanSums', WHERE WHAT IT READS IS OF BULK AT MOST 1048576: true; the input reads as it did. -/
def spanSumsUptoRow : OpenClaim := { program := "yteffemhapnbaeaagreatdoor", sum := "7aea89b73c4ba9e24f7e66f32da39286b902a31c61f67cbc7bc515fce5dc29e7", func := "volvelle/volvellelaw03.SpanSums", spec := "spanSums", inPlace := ["math/bits.Add64", "math/bits.Sub64"], unfollowed := true, recurses := true, named := ["math/bits.deBruijn64tab", "math/bits.divideError", "math/bits.overflowError"], apart := false, laid := [("math/bits.deBruijn64tab", laid_math_bits_deBruijn64tab)], narrowed := true }
def SpanSumsUptoSaid : Prop := spanSumsUptoRow.holds Tryz.pinned (OpenSpec.upto spanSumsSpec)

/-- 'volvellelaw04.SeriesPi', WHERE WHAT IT READS IS OF BULK AT MOST 1048576: true; the input reads as it did. -/
def seriesPiUptoRow : OpenClaim := { program := "yteffemhapnbaeaagreatdoor", sum := "7aea89b73c4ba9e24f7e66f32da39286b902a31c61f67cbc7bc515fce5dc29e7", func := "volvelle/volvellelaw04.SeriesPi", spec := "seriesPi", inPlace := ["math/bits.Add64", "math/bits.Sub64"], unfollowed := true, recurses := true, named := ["math/bits.deBruijn64tab", "math/bits.divideError", "math/bits.overflowError"], apart := false, laid := [("math/bits.deBruijn64tab", laid_math_bits_deBruijn64tab)], narrowed := true }
def SeriesPiUptoSaid : Prop := seriesPiUptoRow.holds Tryz.pinned (OpenSpec.upto seriesPiSpec)

/-- 'volvellelaw04.SeriesLn2', WHERE WHAT IT READS IS OF BULK AT MOST 1048576: true; the input reads as it did. -/
def seriesLn2UptoRow : OpenClaim := { program := "yteffemhapnbaeaagreatdoor", sum := "7aea89b73c4ba9e24f7e66f32da39286b902a31c61f67cbc7bc515fce5dc29e7", func := "volvelle/volvellelaw04.SeriesLn2", spec := "seriesLn2", inPlace := ["math/bits.Add64", "math/bits.Sub64"], unfollowed := true, recurses := true, named := ["math/bits.deBruijn64tab", "math/bits.divideError", "math/bits.overflowError"], apart := false, laid := [("math/bits.deBruijn64tab", laid_math_bits_deBruijn64tab)], narrowed := true }
def SeriesLn2UptoSaid : Prop := seriesLn2UptoRow.holds Tryz.pinned (OpenSpec.upto seriesLn2Spec)

/-- 'volvellelaw04.SeriesNest', WHERE WHAT IT READS IS OF BULK AT MOST 1048576: true; the input reads as it did. -/
def seriesNestUptoRow : OpenClaim := { program := "yteffemhapnbaeaagreatdoor", sum := "7aea89b73c4ba9e24f7e66f32da39286b902a31c61f67cbc7bc515fce5dc29e7", func := "volvelle/volvellelaw04.SeriesNest", spec := "seriesNest", inPlace := ["math/bits.Add64", "math/bits.Sub64"], unfollowed := true, recurses := true, named := ["math/bits.deBruijn64tab", "math/bits.divideError", "math/bits.overflowError"], apart := false, laid := [("math/bits.deBruijn64tab", laid_math_bits_deBruijn64tab)], narrowed := true }
def SeriesNestUptoSaid : Prop := seriesNestUptoRow.holds Tryz.pinned (OpenSpec.upto seriesNestSpec)

end Rows
end Go.Proofs.YteffemhapnbaeaaGreatDoor
