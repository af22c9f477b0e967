/-
  No cell of these rows narrows 'for every input' (looked for: loops, veiled, ifaces, maps, wideKeys, modest, calm, conditions, laid).
  DERIVED. THE GIVEN ROWS OF THIS SEAT. 7 by the template 'for every input the law returns true; each argument reads behind the call as it read before'; 0 by the template 'total and deterministic' (their statements: YtbonbcmdafpceaaTotals.lean).
  GIVEN WITH THE SEED: the statements are not yours to turn. If you find one false, say at which input.
  Laid BY PROGRAM, IN A SANDBOX (cutbox-rows.mjs): the forced cells as the released guide's own fill.sh prints them over the translation 708c4abf0b005c21… (all of the seat's roots in one cut). By AI agents, Wed Nov 11 2026. No macro, syntax, notation, axiom, sorry.
-/
import Derived.Test.YtbonbcmdafpceaaChecked
import GoSem.Claim
import GoSem.ClaimJoined
import GoSem.ClaimMapViews
import Derived.JoinedTies
import Derived.KernelRfl
namespace Go.Proofs.Ytbonbcmdafpceaa
/- THE CELL 'sum', in the pinned program and in every row, IS THE sha256 OF THE DUMP (.gsa) THAT YtbonbcmdafpceaaProg.lean LOADS. Nothing in Lean hashes anything: it is a label: what it is worth is what the hold of that sum in a sandbox is worth. -/
noncomputable def Try.pinned : Pinned := { name := "ytbonbcmdafpceaa", sum := "708c4abf0b005c217209013d180e0119076e93fbfa7e2aa1a8aa794320a2e1f2", checked := Try.checked }
namespace Rows
def none {H : Type} : Left H := { results := [], args := [] }

/-- 'volvellelaw13.SpecialTold': WHATEVER THE INPUT: true; the input reads as it did. -/
def specialToldSpec : ChangeSpec := { name := "specialTold", fn := fun _ => fun
  | [d1, d2] => { results := [.lit (.bool true)], args := [d1, d2] }
  | _ => none }
def specialToldRow : OpenClaim := { program := "ytbonbcmdafpceaa", sum := "708c4abf0b005c217209013d180e0119076e93fbfa7e2aa1a8aa794320a2e1f2", func := "volvelle/volvellelaw13.SpecialTold", spec := "specialTold", apart := false }
def SpecialToldSaid : Prop := specialToldRow.holds Try.pinned (OpenSpec.ofChange specialToldSpec)

/-- ITS FALSE NEIGHBOUR: 'it returns false'. Refute it at one input. -/
def specialToldWrong : ChangeSpec := { name := "specialTold", fn := fun _ => fun
  | [d1, d2] => { results := [.lit (.bool false)], args := [d1, d2] }
  | _ => none }
def SpecialToldWrongFalsely : Prop := specialToldRow.holds Try.pinned (OpenSpec.ofChange specialToldWrong)

/-- 'volvellelaw13.SpecialOne': WHATEVER THE INPUT: true; the input reads as it did. -/
def specialOneSpec : ChangeSpec := { name := "specialOne", fn := fun _ => fun
  | [d1, d2] => { results := [.lit (.bool true)], args := [d1, d2] }
  | _ => none }
def specialOneRow : OpenClaim := { program := "ytbonbcmdafpceaa", sum := "708c4abf0b005c217209013d180e0119076e93fbfa7e2aa1a8aa794320a2e1f2", func := "volvelle/volvellelaw13.SpecialOne", spec := "specialOne", apart := false }
def SpecialOneSaid : Prop := specialOneRow.holds Try.pinned (OpenSpec.ofChange specialOneSpec)

/-- ITS FALSE NEIGHBOUR: 'it returns false'. Refute it at one input. -/
def specialOneWrong : ChangeSpec := { name := "specialOne", fn := fun _ => fun
  | [d1, d2] => { results := [.lit (.bool false)], args := [d1, d2] }
  | _ => none }
def SpecialOneWrongFalsely : Prop := specialOneRow.holds Try.pinned (OpenSpec.ofChange specialOneWrong)

/-- 'volvellelaw13.SpecialPairs': WHATEVER THE INPUT: true; the input reads as it did. -/
def specialPairsSpec : ChangeSpec := { name := "specialPairs", fn := fun _ => fun
  | [d1, d2] => { results := [.lit (.bool true)], args := [d1, d2] }
  | _ => none }
def specialPairsRow : OpenClaim := { program := "ytbonbcmdafpceaa", sum := "708c4abf0b005c217209013d180e0119076e93fbfa7e2aa1a8aa794320a2e1f2", func := "volvelle/volvellelaw13.SpecialPairs", spec := "specialPairs", apart := false }
def SpecialPairsSaid : Prop := specialPairsRow.holds Try.pinned (OpenSpec.ofChange specialPairsSpec)

/-- ITS FALSE NEIGHBOUR: 'it returns false'. Refute it at one input. -/
def specialPairsWrong : ChangeSpec := { name := "specialPairs", fn := fun _ => fun
  | [d1, d2] => { results := [.lit (.bool false)], args := [d1, d2] }
  | _ => none }
def SpecialPairsWrongFalsely : Prop := specialPairsRow.holds Try.pinned (OpenSpec.ofChange specialPairsWrong)

/-- 'volvellelaw01.NatQuotients': WHATEVER THE INPUT: true; the input reads as it did. -/
def natQuotientsSpec : ChangeSpec := { name := "natQuotients", fn := fun _ => fun
  | [d1, d2] => { results := [.lit (.bool true)], args := [d1, d2] }
  | _ => none }
def natQuotientsRow : OpenClaim := { program := "ytbonbcmdafpceaa", sum := "708c4abf0b005c217209013d180e0119076e93fbfa7e2aa1a8aa794320a2e1f2", func := "volvelle/volvellelaw01.NatQuotients", spec := "natQuotients", inPlace := ["math/bits.Add64", "math/bits.Sub64"], unfollowed := true, recurses := true, named := ["math/bits.divideError", "math/bits.overflowError"], apart := false }
def NatQuotientsSaid : Prop := natQuotientsRow.holds Try.pinned (OpenSpec.ofChange natQuotientsSpec)

/-- ITS FALSE NEIGHBOUR: 'it returns false'. Refute it at one input. -/
def natQuotientsWrong : ChangeSpec := { name := "natQuotients", fn := fun _ => fun
  | [d1, d2] => { results := [.lit (.bool false)], args := [d1, d2] }
  | _ => none }
def NatQuotientsWrongFalsely : Prop := natQuotientsRow.holds Try.pinned (OpenSpec.ofChange natQuotientsWrong)

/-- 'volvellelaw01.NatRules': WHATEVER THE INPUT: true; the input reads as it did. -/
def natRulesSpec : ChangeSpec := { name := "natRules", fn := fun _ => fun
  | [d1, d2, d3] => { results := [.lit (.bool true)], args := [d1, d2, d3] }
  | _ => none }
def natRulesRow : OpenClaim := { program := "ytbonbcmdafpceaa", sum := "708c4abf0b005c217209013d180e0119076e93fbfa7e2aa1a8aa794320a2e1f2", func := "volvelle/volvellelaw01.NatRules", spec := "natRules", inPlace := ["math/bits.Add64", "math/bits.Sub64"], unfollowed := true, recurses := true, named := ["math/bits.divideError", "math/bits.overflowError"], apart := false }
def NatRulesSaid : Prop := natRulesRow.holds Try.pinned (OpenSpec.ofChange natRulesSpec)

/-- ITS FALSE NEIGHBOUR: 'it returns false'. Refute it at one input. -/
def natRulesWrong : ChangeSpec := { name := "natRules", fn := fun _ => fun
  | [d1, d2, d3] => { results := [.lit (.bool false)], args := [d1, d2, d3] }
  | _ => none }
def NatRulesWrongFalsely : Prop := natRulesRow.holds Try.pinned (OpenSpec.ofChange natRulesWrong)

/-- 'volvellelaw01.NatRoots': WHATEVER THE INPUT: true; the input reads as it did. -/
def natRootsSpec : ChangeSpec := { name := "natRoots", fn := fun _ => fun
  | [d] => { results := [.lit (.bool true)], args := [d] }
  | _ => none }
def natRootsRow : OpenClaim := { program := "ytbonbcmdafpceaa", sum := "708c4abf0b005c217209013d180e0119076e93fbfa7e2aa1a8aa794320a2e1f2", func := "volvelle/volvellelaw01.NatRoots", spec := "natRoots", inPlace := ["math/bits.Add64", "math/bits.Sub64"], unfollowed := true, recurses := true, named := ["math/bits.divideError", "math/bits.overflowError"], apart := false }
def NatRootsSaid : Prop := natRootsRow.holds Try.pinned (OpenSpec.ofChange natRootsSpec)

/-- ITS FALSE NEIGHBOUR: 'it returns false'. Refute it at one input. -/
def natRootsWrong : ChangeSpec := { name := "natRoots", fn := fun _ => fun
  | [d] => { results := [.lit (.bool false)], args := [d] }
  | _ => none }
def NatRootsWrongFalsely : Prop := natRootsRow.holds Try.pinned (OpenSpec.ofChange natRootsWrong)

/-- 'volvellelaw01.NatSquares': WHATEVER THE INPUT: true; the input reads as it did. -/
def natSquaresSpec : ChangeSpec := { name := "natSquares", fn := fun _ => fun
  | [d] => { results := [.lit (.bool true)], args := [d] }
  | _ => none }
def natSquaresRow : OpenClaim := { program := "ytbonbcmdafpceaa", sum := "708c4abf0b005c217209013d180e0119076e93fbfa7e2aa1a8aa794320a2e1f2", func := "volvelle/volvellelaw01.NatSquares", spec := "natSquares", inPlace := ["math/bits.Add64", "math/bits.Sub64"], unfollowed := true, recurses := true, named := ["math/bits.divideError", "math/bits.overflowError"], apart := false }
def NatSquaresSaid : Prop := natSquaresRow.holds Try.pinned (OpenSpec.ofChange natSquaresSpec)

/-- ITS FALSE NEIGHBOUR: 'it returns false'. Refute it at one input. -/
def natSquaresWrong : ChangeSpec := { name := "natSquares", fn := fun _ => fun
  | [d] => { results := [.lit (.bool false)], args := [d] }
  | _ => none }
def NatSquaresWrongFalsely : Prop := natSquaresRow.holds Try.pinned (OpenSpec.ofChange natSquaresWrong)

/- THE SECOND FORM. 'bulk': how many values and letters a reading holds, each counted each time it is reached (what is shared counts as often as it is met; a slice's spare places count too). A statement '..UptoSaid' is the law's where the arguments, and the package variables that the reading takes, are together of bulk at most 1048576: NARROWER than '..Said'. Prove '..Said' where nothing that the law and all that it calls make is longer than what came in: it says more and counts as full. Else prove '..UptoSaid'. A law counts once. -/
mutual
def uptoBulk {H : Type} : DataW H → Nat
  | .lit (.string bytes) => bytes.length + 1
  | .lit _ => 1
  | .nil => 1
  | .ptr d => uptoBulk d + 1
  | .slice elems spare => uptoBulkAll elems + uptoBulkAll spare + 1
  | .agg parts => uptoBulkAll parts + 1
  | .iface _ d => uptoBulk d + 1
  | .map entries => uptoBulkEntries entries + 1
  | .held _ => 1
def uptoBulkAll {H : Type} : List (DataW H) → Nat
  | [] => 0
  | d :: r => uptoBulk d + uptoBulkAll r
def uptoBulkEntries {H : Type} : List (Lit × DataW H) → Nat
  | [] => 0
  | x :: r => uptoBulkEntry x + uptoBulkEntries r
def uptoBulkEntry {H : Type} : Lit × DataW H → Nat
  | (.string bytes, d) => bytes.length + uptoBulk d + 1
  | (_, d) => uptoBulk d + 1
 end
def uptoSmall : (H : Type) → List (DataW H) → Bool := fun _ ds => decide (uptoBulkAll ds ≤ 1048576)
def OpenSpec.upto (s : _root_.Go.ChangeSpec) : _root_.Go.OpenSpec := { _root_.Go.OpenSpec.ofChange s with cond := some uptoSmall }

/-- 'volvellelaw13.SpecialTold', WHERE WHAT IT READS IS OF BULK AT MOST 1048576: true; the input reads as it did. -/
def specialToldUptoRow : OpenClaim := { program := "ytbonbcmdafpceaa", sum := "708c4abf0b005c217209013d180e0119076e93fbfa7e2aa1a8aa794320a2e1f2", func := "volvelle/volvellelaw13.SpecialTold", spec := "specialTold", apart := false, narrowed := true }
def SpecialToldUptoSaid : Prop := specialToldUptoRow.holds Try.pinned (OpenSpec.upto specialToldSpec)

/-- 'volvellelaw13.SpecialOne', WHERE WHAT IT READS IS OF BULK AT MOST 1048576: true; the input reads as it did. -/
def specialOneUptoRow : OpenClaim := { program := "ytbonbcmdafpceaa", sum := "708c4abf0b005c217209013d180e0119076e93fbfa7e2aa1a8aa794320a2e1f2", func := "volvelle/volvellelaw13.SpecialOne", spec := "specialOne", apart := false, narrowed := true }
def SpecialOneUptoSaid : Prop := specialOneUptoRow.holds Try.pinned (OpenSpec.upto specialOneSpec)

/-- 'volvellelaw13.SpecialPairs', WHERE WHAT IT READS IS OF BULK AT MOST 1048576: true; the input reads as it did. -/
def specialPairsUptoRow : OpenClaim := { program := "ytbonbcmdafpceaa", sum := "708c4abf0b005c217209013d180e0119076e93fbfa7e2aa1a8aa794320a2e1f2", func := "volvelle/volvellelaw13.SpecialPairs", spec := "specialPairs", apart := false, narrowed := true }
def SpecialPairsUptoSaid : Prop := specialPairsUptoRow.holds Try.pinned (OpenSpec.upto specialPairsSpec)

/-- 'volvellelaw01.NatQuotients', WHERE WHAT IT READS IS OF BULK AT MOST 1048576: true; the input reads as it did. -/
def natQuotientsUptoRow : OpenClaim := { program := "ytbonbcmdafpceaa", sum := "708c4abf0b005c217209013d180e0119076e93fbfa7e2aa1a8aa794320a2e1f2", func := "volvelle/volvellelaw01.NatQuotients", spec := "natQuotients", inPlace := ["math/bits.Add64", "math/bits.Sub64"], unfollowed := true, recurses := true, named := ["math/bits.divideError", "math/bits.overflowError"], apart := false, narrowed := true }
def NatQuotientsUptoSaid : Prop := natQuotientsUptoRow.holds Try.pinned (OpenSpec.upto natQuotientsSpec)

/-- 'volvellelaw01.NatRules', WHERE WHAT IT READS IS OF BULK AT MOST 1048576: true; the input reads as it did. -/
def natRulesUptoRow : OpenClaim := { program := "ytbonbcmdafpceaa", sum := "708c4abf0b005c217209013d180e0119076e93fbfa7e2aa1a8aa794320a2e1f2", func := "volvelle/volvellelaw01.NatRules", spec := "natRules", inPlace := ["math/bits.Add64", "math/bits.Sub64"], unfollowed := true, recurses := true, named := ["math/bits.divideError", "math/bits.overflowError"], apart := false, narrowed := true }
def NatRulesUptoSaid : Prop := natRulesUptoRow.holds Try.pinned (OpenSpec.upto natRulesSpec)

/-- 'volvellelaw01.NatRoots', WHERE WHAT IT READS IS OF BULK AT MOST 1048576: true; the input reads as it did. -/
def natRootsUptoRow : OpenClaim := { program := "ytbonbcmdafpceaa", sum := "708c4abf0b005c217209013d180e0119076e93fbfa7e2aa1a8aa794320a2e1f2", func := "volvelle/volvellelaw01.NatRoots", spec := "natRoots", inPlace := ["math/bits.Add64", "math/bits.Sub64"], unfollowed := true, recurses := true, named := ["math/bits.divideError", "math/bits.overflowError"], apart := false, narrowed := true }
def NatRootsUptoSaid : Prop := natRootsUptoRow.holds Try.pinned (OpenSpec.upto natRootsSpec)

/-- 'volvellelaw01.NatSquares', WHERE WHAT IT READS IS OF BULK AT MOST 1048576: true; the input reads as it did. -/
def natSquaresUptoRow : OpenClaim := { program := "ytbonbcmdafpceaa", sum := "708c4abf0b005c217209013d180e0119076e93fbfa7e2aa1a8aa794320a2e1f2", func := "volvelle/volvellelaw01.NatSquares", spec := "natSquares", inPlace := ["math/bits.Add64", "math/bits.Sub64"], unfollowed := true, recurses := true, named := ["math/bits.divideError", "math/bits.overflowError"], apart := false, narrowed := true }
def NatSquaresUptoSaid : Prop := natSquaresUptoRow.holds Try.pinned (OpenSpec.upto natSquaresSpec)

end Rows
end Go.Proofs.Ytbonbcmdafpceaa
