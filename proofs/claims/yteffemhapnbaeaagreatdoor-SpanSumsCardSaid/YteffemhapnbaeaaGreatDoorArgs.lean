/- A text of ours, with only what the claim's row needs (wip/tools/shake.py). -/
import Derived.Test.YteffemhapnbaeaaGreatDoorMA
import Derived.ProofKit
import Derived.OpenShut
import Derived.Lib.SmallJoins
namespace Go.Proofs.YteffemhapnbaeaaGreatDoor
open Go.ChangeShapes Go.WideShapes Go.ChangeAt Go.RowKit Num Go.Joins
set_option maxRecDepth 100000

theorem laidOut' : laidOutB Tryz.prog = true := by kernel_rfl
theorem cellsU : Tryz.prog.cellsOf 51 = 1 := by kernel_rfl
theorem words_wf {zs : List Int} (h : ∀ n ∈ zs, (Lit.int .u64 n).wf = true) : Wf zs := fun x hx => by
  have := h x hx
  simp [Lit.wf, IntKind.min, IntKind.max, IntKind.bits, IntKind.signed] at this; omega
theorem open_words {H : Type} {enc : TypeId × Value → H} {W : World} {fuel : Nat} {cs : List Value} {x : DataW H × List MemPlace} (h : DataW.trod enc Tryz.prog W 0 (fun _ => true) true fuel 24 cs = some x) :
    ∃ A n c xs, cs = [.slice A n c] ∧ Arr W A n c xs := by
  rcases open_ints Tryz.underlying24 Tryz.underlying51 cellsU h with ⟨hcs, _⟩ | ⟨a, len, cap, zs, hcs, _, hlc, hmx, hlen, _, hc, hw⟩
  · exact ⟨_, _, _, [], hcs, Arr.nothing W⟩
  · rw [if_pos rfl] at hlen
    have hbig : cap ≤ 9223372036854775807 := Nat.le_trans hmx (by decide)
    refine ⟨_, _, _, zs.take len, hcs, by rw [List.length_take]; omega, (words_wf hw).take len, hlc, hbig, fun hn => ?_⟩
    obtain ⟨b, off, rfl, hc'⟩ := ints_at hc (by omega)
    refine ⟨b, off, rfl, World.block_lt_of_cell? _ _ (hc' 0 (by omega)), fun j hj => ?_⟩
    rw [hc' j (by omega)]
    simp only [List.getD_eq_getElem?_getD, List.getElem?_take, if_pos hj]
theorem cellsDyad : Tryz.prog.cellsOf 26 = 3 := by kernel_rfl
end Go.Proofs.YteffemhapnbaeaaGreatDoor
