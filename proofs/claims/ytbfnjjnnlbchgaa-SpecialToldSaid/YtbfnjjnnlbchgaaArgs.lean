/- What a law's arguments read as: slices of words, numbers that end (by value). -/
import Derived.Test.YtbfnjjnnlbchgaaMem
import Derived.ProofKit
import Derived.OpenShut
import Derived.Lib.SmallJoins
namespace Go.Proofs.Ytbfnjjnnlbchgaa
open Go.ChangeShapes Go.WideShapes Go.ChangeAt Go.RowKit Num Go.Joins
set_option maxRecDepth 100000

theorem laidOut' : laidOutB Try.prog = true := by kernel_rfl
theorem cellsU : Try.prog.cellsOf 22 = 1 := by kernel_rfl
theorem rowsSlice : Try.prog.readableRec 31 = true ∧ 31 < Try.prog.types.size := ⟨by kernel_rfl, of_decide_eq_true (by kernel_rfl)⟩
theorem words_wf {zs : List Int} (h : ∀ n ∈ zs, (Lit.int .u64 n).wf = true) : Wf zs := fun x hx => by
  have := h x hx
  simp [Lit.wf, IntKind.min, IntKind.max, IntKind.bits, IntKind.signed] at this; omega
theorem open_words {H : Type} {enc : TypeId × Value → H} {W : World} {fuel : Nat} {cs : List Value} {x : DataW H × List MemPlace} (h : DataW.trod enc Try.prog W 0 (fun _ => true) true fuel 31 cs = some x) :
    ∃ A n c xs, cs = [.slice A n c] ∧ Arr W A n c xs := by
  rcases open_ints Try.underlying31 Try.underlying22 cellsU h with ⟨hcs, _⟩ | ⟨a, len, cap, zs, hcs, _, hlc, hmx, hlen, _, hc, hw⟩
  · exact ⟨_, _, _, [], hcs, Arr.nothing W⟩
  · rw [if_pos rfl] at hlen
    have hbig : cap ≤ 9223372036854775807 := Nat.le_trans hmx (by decide)
    refine ⟨_, _, _, zs.take len, hcs, by rw [List.length_take]; omega, (words_wf hw).take len, hlc, hbig, fun hn => ?_⟩
    obtain ⟨b, off, rfl, hc'⟩ := ints_at hc (by omega)
    refine ⟨b, off, rfl, World.block_lt_of_cell? _ _ (hc' 0 (by omega)), fun j hj => ?_⟩
    rw [hc' j (by omega)]
    simp only [List.getD_eq_getElem?_getD, List.getElem?_take, if_pos hj]
theorem open_slice64 {H : Type} {enc : TypeId × Value → H} {W : World} {v : Value} {d : DataW H} {p : List MemPlace} {r : Reach} {b0 : Nat} (hv : Value.okWide Try.prog W r b0 31 v) (h : DataW.Trod enc Try.prog W 0 (fun _ => true) true 31 v d p) :
    ∃ A n c xs, v = .slice A n c ∧ Arr W A n c xs := by
  obtain ⟨a0, len, cap, rfl⟩ := okWide_slice Try.underlying31 hv
  obtain ⟨fuel, hf⟩ := h
  obtain ⟨A, n, c, xs, e, ha⟩ := open_words hf
  have e' : [Value.slice a0 len cap] = [.slice A n c] := by simpa [Value.cells] using e
  obtain ⟨rfl, rfl, rfl⟩ : a0 = A ∧ len = n ∧ cap = c := by simpa using e'
  exact ⟨_, _, _, xs, rfl, ha⟩
end Go.Proofs.Ytbfnjjnnlbchgaa
