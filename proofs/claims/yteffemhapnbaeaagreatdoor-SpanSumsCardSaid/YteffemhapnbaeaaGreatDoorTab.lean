/- A text of ours, with only what the claim's row needs (wip/tools/shake.py). -/
import Derived.Test.YteffemhapnbaeaaGreatDoorCards
import Derived.Test.YteffemhapnbaeaaGreatDoorTie
import Derived.WalkKit
import Derived.ProofKit
import Derived.OpenShut
import Derived.Deep.DeepHandedRow
import Derived.Lib.LaidTab
import Derived.Test.YteffemhapnbaeaaGreatDoorMA
namespace Go.Proofs.YteffemhapnbaeaaGreatDoor
open Go.ChangeShapes Go.WideShapes Go.ChangeAt Go.RowKit

theorem own : ownKnob Tryz.prog.godebug = none := by kernel_rfl
theorem gTab : Tryz.prog.globalNamed "math/bits.deBruijn64tab" = some 2 := by kernel_rfl
theorem gTabType : (Tryz.prog.globals[2]?).map (·.type) = some 128 := by kernel_rfl
theorem cellsTab : Tryz.prog.cellsOf 128 = 64 := by kernel_rfl
theorem cells8 : Tryz.prog.cellsOf 5 = 1 := by kernel_rfl
def laidTab : List (String × DataW Unit) := [("math/bits.deBruijn64tab", Rows.laid_math_bits_deBruijn64tab)]
theorem tabIs {W : World} (h : laidMetH Tryz.prog laidTab W) : Lib.TabIs Tryz.prog W "math/bits.deBruijn64tab" .u8 (Lib.deBruijn64tab.map fun (x : Nat) => (x : Int)) :=
  Lib.tabIs_of_head (rest := []) gTab gTabType Tryz.underlying128 Tryz.underlying5 cells8 cellsTab h
theorem table {W : World} (h : laidMetH Tryz.prog laidTab W) : Tz W :=
  ⟨fun j hj => by
    have := (tabIs h).cell gTab j (by simpa using hj)
    rw [this]
    simp only [List.getD_eq_getElem?_getD, List.getElem?_map]
    rw [List.getElem?_eq_getElem hj]; rfl⟩
/-- A world for the witness: the settled one, the table holding what its initialiser lays. -/
noncomputable def laidWorld (os : Os) : World :=
  { World.holding Tryz.prog os ⟨#[], #[], []⟩ with heap := (World.holding Tryz.prog os ⟨#[], #[], []⟩).heap.modify 2 fun
      | .cells _ t frozen => .cells (Lib.deBruijn64tab.map fun (x : Nat) => Value.int .u8 x).toArray t frozen
      | o => o }
end Go.Proofs.YteffemhapnbaeaaGreatDoor
