/- What an argument of four words reads as. -/
import Derived.Test.YtbfnjjnnlbchgaaArgs
import Derived.Laws.IdiomArrays
namespace Go.Proofs.Ytbfnjjnnlbchgaa
open Go.ChangeShapes Go.WideShapes Go.ChangeAt Go.RowKit Num Go.Joins
set_option maxRecDepth 100000

theorem cellsFour : Try.prog.cellsOf 24 = 4 := by kernel_rfl
theorem rowsFour : Try.prog.readableRec 24 = true ∧ 24 < Try.prog.types.size := ⟨by kernel_rfl, of_decide_eq_true (by kernel_rfl)⟩
theorem read_word {H : Type} {enc : TypeId × Value → H} {W : World} {n : Nat} {v : Value} {y : DataW H × List MemPlace} (h : DataW.trod enc Try.prog W 0 (fun _ => true) true n 22 [v] = some y) :
    ∃ k : Int, v = .int .u64 k ∧ 0 ≤ k ∧ k < 18446744073709551616 := by
  obtain ⟨k, e2, _, hw⟩ := DataW.trod_int Try.underlying22 h
  obtain rfl : v = .int .u64 k := by simpa using e2
  simp [Lit.wf, IntKind.min, IntKind.max, IntKind.bits, IntKind.signed] at hw
  exact ⟨k, rfl, by omega, by omega⟩
theorem open_four {H : Type} {enc : TypeId × Value → H} {W : World} {v : Value} {d : DataW H} {p : List MemPlace} {r : Reach} {b0 : Nat} (hv : Value.okWide Try.prog W r b0 24 v) (h : DataW.Trod enc Try.prog W 0 (fun _ => true) true 24 v d p) :
    ∃ (x y u v' : Int), v = .agg #[.int .u64 x, .int .u64 y, .int .u64 u, .int .u64 v'] ∧ (0 ≤ x ∧ x < 18446744073709551616) ∧ (0 ≤ y ∧ y < 18446744073709551616) ∧ (0 ≤ u ∧ u < 18446744073709551616) ∧ (0 ≤ v' ∧ v' < 18446744073709551616) := by
  have hv' := hv
  simp only [Value.okWide, Try.underlying24] at hv'
  obtain ⟨cs, rfl, hsz, _⟩ := hv'
  obtain ⟨c0, c1, c2, c3, rfl⟩ := array4 (hsz.trans cellsFour)
  obtain ⟨fuel, hf⟩ := h
  obtain ⟨y0, y1, y2, y3, n, hx, h0, h1, h2, h3⟩ := trod_array4 Try.underlying24 cellsU hf
  obtain ⟨x, rfl, hx⟩ := read_word h0
  obtain ⟨y, rfl, hy⟩ := read_word h1
  obtain ⟨u, rfl, hu⟩ := read_word h2
  obtain ⟨v, rfl, hq⟩ := read_word h3
  exact ⟨x, y, u, v, rfl, hx, hy, hu, hq⟩
end Go.Proofs.Ytbfnjjnnlbchgaa
