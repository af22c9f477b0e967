/-
  No cell of these rows narrows 'for every input' (looked for: loops, veiled, ifaces, maps, wideKeys, modest, calm, conditions, laid).
  DERIVED. THE GIVEN ROWS OF THIS SEAT. 3 by the template 'for every input the law returns true; each argument reads behind the call as it read before'; 0 by the template 'total and deterministic' (their statements: YtbfnjjnnlbchgaaTotals.lean).
  GIVEN WITH THE SEED: the statements are not yours to turn. If you find one false, say at which input.
  Laid BY PROGRAM, IN A SANDBOX (cutbox-rows.mjs): the forced cells as the released guide's own fill.sh prints them over the translation 94d02088fee3ae18… (all of the seat's roots in one cut). By AI agents, Wed Nov 11 2026. No macro, syntax, notation, axiom, sorry.
-/
import Derived.Test.YtbfnjjnnlbchgaaChecked
import GoSem.Claim
import GoSem.ClaimJoined
import GoSem.ClaimMapViews
import Derived.JoinedTies
import Derived.KernelRfl
namespace Go.Proofs.Ytbfnjjnnlbchgaa
/- THE CELL 'sum', in the pinned program and in every row, IS THE sha256 OF THE DUMP (.gsa) THAT YtbfnjjnnlbchgaaProg.lean LOADS. Nothing in Lean hashes anything: it is a label: what it is worth is what the hold of that sum in a sandbox is worth. -/
noncomputable def Try.pinned : Pinned := { name := "ytbfnjjnnlbchgaa", sum := "94d02088fee3ae18264c2dbba6207afae29d0f12ab1883cba7fc261a2e865130", checked := Try.checked }
namespace Rows
def none {H : Type} : Left H := { results := [], args := [] }

/-- 'volvellelaw13.SpecialTold': WHATEVER THE INPUT: true; the input reads as it did. -/
def specialToldSpec : ChangeSpec := { name := "specialTold", fn := fun _ => fun
  | [d1, d2] => { results := [.lit (.bool true)], args := [d1, d2] }
  | _ => none }
def specialToldRow : OpenClaim := { program := "ytbfnjjnnlbchgaa", sum := "94d02088fee3ae18264c2dbba6207afae29d0f12ab1883cba7fc261a2e865130", func := "volvelle/volvellelaw13.SpecialTold", spec := "specialTold", apart := false }
def SpecialToldSaid : Prop := specialToldRow.holds Try.pinned (OpenSpec.ofChange specialToldSpec)

/-- ITS FALSE NEIGHBOUR: 'it returns false'. Refute it at one input. -/
def specialToldWrong : ChangeSpec := { name := "specialTold", fn := fun _ => fun
  | [d1, d2] => { results := [.lit (.bool false)], args := [d1, d2] }
  | _ => none }
def SpecialToldWrongFalsely : Prop := specialToldRow.holds Try.pinned (OpenSpec.ofChange specialToldWrong)

/-- 'volvellelaw13.SpecialOne': WHATEVER THE INPUT: true; the input reads as it did. -/
def specialOneSpec : ChangeSpec := { name := "specialOne", fn := fun _ => fun
  | [d1, d2] => { results := [.lit (.bool true)], args := [d1, d2] }
  | _ => none }
def specialOneRow : OpenClaim := { program := "ytbfnjjnnlbchgaa", sum := "94d02088fee3ae18264c2dbba6207afae29d0f12ab1883cba7fc261a2e865130", func := "volvelle/volvellelaw13.SpecialOne", spec := "specialOne", apart := false }
def SpecialOneSaid : Prop := specialOneRow.holds Try.pinned (OpenSpec.ofChange specialOneSpec)

/-- ITS FALSE NEIGHBOUR: 'it returns false'. Refute it at one input. -/
def specialOneWrong : ChangeSpec := { name := "specialOne", fn := fun _ => fun
  | [d1, d2] => { results := [.lit (.bool false)], args := [d1, d2] }
  | _ => none }
def SpecialOneWrongFalsely : Prop := specialOneRow.holds Try.pinned (OpenSpec.ofChange specialOneWrong)

/-- 'volvellelaw13.SpecialPairs': WHATEVER THE INPUT: true; the input reads as it did. -/
def specialPairsSpec : ChangeSpec := { name := "specialPairs", fn := fun _ => fun
  | [d1, d2] => { results := [.lit (.bool true)], args := [d1, d2] }
  | _ => none }
def specialPairsRow : OpenClaim := { program := "ytbfnjjnnlbchgaa", sum := "94d02088fee3ae18264c2dbba6207afae29d0f12ab1883cba7fc261a2e865130", func := "volvelle/volvellelaw13.SpecialPairs", spec := "specialPairs", apart := false }
def SpecialPairsSaid : Prop := specialPairsRow.holds Try.pinned (OpenSpec.ofChange specialPairsSpec)

/-- ITS FALSE NEIGHBOUR: 'it returns false'. Refute it at one input. -/
def specialPairsWrong : ChangeSpec := { name := "specialPairs", fn := fun _ => fun
  | [d1, d2] => { results := [.lit (.bool false)], args := [d1, d2] }
  | _ => none }
def SpecialPairsWrongFalsely : Prop := specialPairsRow.holds Try.pinned (OpenSpec.ofChange specialPairsWrong)

/- THE SECOND FORM. 'bulk': how many values and letters a reading holds, each counted each time it is reached (what is shared counts as often as it is met; a slice's spare places count too). A statement '..UptoSaid' is the law's where the arguments, and the package variables that the reading takes, are together of bulk at most 1048576: NARROWER than '..Said'. Prove '..Said' where nothing that the law and all that it calls make is longer than what came in: it says more and counts as full. Else prove '..UptoSaid'. A law counts once. -/
mutual
def uptoBulk {H : Type} : DataW H → Nat
  | .lit (.string bytes) => bytes.length + 1
  | .lit _ => 1
  | .nil => 1
  | .ptr d => uptoBulk d + 1
  | .slice elems spare => uptoBulkAll elems + uptoBulkAll spare + 1
  | .agg parts => uptoBulkAll parts + 1
  | .iface _ d => uptoBulk d + 1
  | .map entries => uptoBulkEntries entries + 1
  | .held _ => 1
def uptoBulkAll {H : Type} : List (DataW H) → Nat
  | [] => 0
  | d :: r => uptoBulk d + uptoBulkAll r
def uptoBulkEntries {H : Type} : List (Lit × DataW H) → Nat
  | [] => 0
  | x :: r => uptoBulkEntry x + uptoBulkEntries r
def uptoBulkEntry {H : Type} : Lit × DataW H → Nat
  | (.string bytes, d) => bytes.length + uptoBulk d + 1
  | (_, d) => uptoBulk d + 1
 end
def uptoSmall : (H : Type) → List (DataW H) → Bool := fun _ ds => decide (uptoBulkAll ds ≤ 1048576)
def OpenSpec.upto (s : _root_.Go.ChangeSpec) : _root_.Go.OpenSpec := { _root_.Go.OpenSpec.ofChange s with cond := some uptoSmall }

/-- 'volvellelaw13.SpecialTold', WHERE WHAT IT READS IS OF BULK AT MOST 1048576: true; the input reads as it did. -/
def specialToldUptoRow : OpenClaim := { program := "ytbfnjjnnlbchgaa", sum := "94d02088fee3ae18264c2dbba6207afae29d0f12ab1883cba7fc261a2e865130", func := "volvelle/volvellelaw13.SpecialTold", spec := "specialTold", apart := false, narrowed := true }
def SpecialToldUptoSaid : Prop := specialToldUptoRow.holds Try.pinned (OpenSpec.upto specialToldSpec)

/-- 'volvellelaw13.SpecialOne', WHERE WHAT IT READS IS OF BULK AT MOST 1048576: true; the input reads as it did. -/
def specialOneUptoRow : OpenClaim := { program := "ytbfnjjnnlbchgaa", sum := "94d02088fee3ae18264c2dbba6207afae29d0f12ab1883cba7fc261a2e865130", func := "volvelle/volvellelaw13.SpecialOne", spec := "specialOne", apart := false, narrowed := true }
def SpecialOneUptoSaid : Prop := specialOneUptoRow.holds Try.pinned (OpenSpec.upto specialOneSpec)

/-- 'volvellelaw13.SpecialPairs', WHERE WHAT IT READS IS OF BULK AT MOST 1048576: true; the input reads as it did. -/
def specialPairsUptoRow : OpenClaim := { program := "ytbfnjjnnlbchgaa", sum := "94d02088fee3ae18264c2dbba6207afae29d0f12ab1883cba7fc261a2e865130", func := "volvelle/volvellelaw13.SpecialPairs", spec := "specialPairs", apart := false, narrowed := true }
def SpecialPairsUptoSaid : Prop := specialPairsUptoRow.holds Try.pinned (OpenSpec.upto specialPairsSpec)

end Rows
end Go.Proofs.Ytbfnjjnnlbchgaa
