/- What a law's arguments read as: slices of words, numbers that end (by value). -/
import Derived.Test.YteffemhapnbaeaaDoorMA
import Derived.ProofKit
import Derived.OpenShut
import Derived.Lib.SmallJoins
namespace Go.Proofs.YteffemhapnbaeaaDoor
open Go.ChangeShapes Go.WideShapes Go.ChangeAt Go.RowKit Num Go.Joins
set_option maxRecDepth 100000

theorem laidOut' : laidOutB Tryd.prog = true := by kernel_rfl
theorem cellsU : Tryd.prog.cellsOf 45 = 1 := by kernel_rfl
theorem rowsSlice : Tryd.prog.readableRec 24 = true ∧ 24 < Tryd.prog.types.size := ⟨by kernel_rfl, of_decide_eq_true (by kernel_rfl)⟩
theorem words_wf {zs : List Int} (h : ∀ n ∈ zs, (Lit.int .u64 n).wf = true) : Wf zs := fun x hx => by
  have := h x hx
  simp [Lit.wf, IntKind.min, IntKind.max, IntKind.bits, IntKind.signed] at this; omega
theorem open_words {H : Type} {enc : TypeId × Value → H} {W : World} {fuel : Nat} {cs : List Value} {x : DataW H × List MemPlace} (h : DataW.trod enc Tryd.prog W 0 (fun _ => true) true fuel 24 cs = some x) :
    ∃ A n c xs, cs = [.slice A n c] ∧ Arr W A n c xs := by
  rcases open_ints Tryd.underlying24 Tryd.underlying45 cellsU h with ⟨hcs, _⟩ | ⟨a, len, cap, zs, hcs, _, hlc, hmx, hlen, _, hc, hw⟩
  · exact ⟨_, _, _, [], hcs, Arr.nothing W⟩
  · rw [if_pos rfl] at hlen
    have hbig : cap ≤ 9223372036854775807 := Nat.le_trans hmx (by decide)
    refine ⟨_, _, _, zs.take len, hcs, by rw [List.length_take]; omega, (words_wf hw).take len, hlc, hbig, fun hn => ?_⟩
    obtain ⟨b, off, rfl, hc'⟩ := ints_at hc (by omega)
    refine ⟨b, off, rfl, World.block_lt_of_cell? _ _ (hc' 0 (by omega)), fun j hj => ?_⟩
    rw [hc' j (by omega)]
    simp only [List.getD_eq_getElem?_getD, List.getElem?_take, if_pos hj]
theorem open_slice64 {H : Type} {enc : TypeId × Value → H} {W : World} {v : Value} {d : DataW H} {p : List MemPlace} {r : Reach} {b0 : Nat} (hv : Value.okWide Tryd.prog W r b0 24 v) (h : DataW.Trod enc Tryd.prog W 0 (fun _ => true) true 24 v d p) :
    ∃ A n c xs, v = .slice A n c ∧ Arr W A n c xs := by
  obtain ⟨a0, len, cap, rfl⟩ := okWide_slice Tryd.underlying24 hv
  obtain ⟨fuel, hf⟩ := h
  obtain ⟨A, n, c, xs, e, ha⟩ := open_words hf
  have e' : [Value.slice a0 len cap] = [.slice A n c] := by simpa [Value.cells] using e
  obtain ⟨rfl, rfl, rfl⟩ : a0 = A ∧ len = n ∧ cap = c := by simpa using e'
  exact ⟨_, _, _, xs, rfl, ha⟩
theorem cellsDyad : Tryd.prog.cellsOf 26 = 3 := by kernel_rfl
theorem rowsDyad : Tryd.prog.readableRec 26 = true ∧ 26 < Tryd.prog.types.size := ⟨by kernel_rfl, of_decide_eq_true (by kernel_rfl)⟩
theorem open_dyad {H : Type} {enc : TypeId × Value → H} {W : World} {v : Value} {d : DataW H} {p : List MemPlace} {r : Reach} {b0 : Nat} (hv : Value.okWide Tryd.prog W r b0 26 v) (h : DataW.Trod enc Tryd.prog W 0 (fun _ => true) true 26 v d p) :
    ∃ (neg : Bool) (A : Option Addr) (n c : Nat) (xs : List Int) (e : Int), v = .agg #[.bool neg, .slice A n c, .int .i64 e] ∧ Arr W A n c xs ∧ -9223372036854775808 ≤ e ∧ e ≤ 9223372036854775807 := by
  obtain ⟨v0, v1, v2, y0, y1, y2, m, rfl, _, _, h0, h1, h2⟩ := open_agg3 Tryd.underlying26 (by kernel_rfl) cellsDyad hv h
  obtain ⟨A, n, c, xs, e1, ha⟩ := open_words h1
  obtain rfl : v1 = .slice A n c := by simpa using e1
  obtain ⟨b, e0, _⟩ := DataW.trod_bool Tryd.underlying4 h0
  obtain ⟨k, e2, _, hw⟩ := DataW.trod_int Tryd.underlying3 h2
  obtain rfl : v0 = .bool b := by simpa using e0
  obtain rfl : v2 = .int .i64 k := by simpa using e2
  simp [Lit.wf, IntKind.min, IntKind.max, IntKind.bits, IntKind.signed] at hw
  exact ⟨b, A, n, c, xs, k, rfl, ha, by omega, by omega⟩
end Go.Proofs.YteffemhapnbaeaaDoor
