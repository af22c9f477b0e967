/- A text of ours, with only what the claim's row needs (wip/tools/shake.py). -/
import Derived.Test.YteffemhapnbaeaaGreatDoorArgs
import Derived.Deep.Strs
namespace Go.Proofs.YteffemhapnbaeaaGreatDoor
open Go.ChangeShapes Go.WideShapes Go.ChangeAt Go.RowKit Num Go.Joins
set_option maxRecDepth 100000

theorem cellsSpan : Tryz.prog.cellsOf 28 = 6 := by kernel_rfl
theorem cellsBool : Tryz.prog.cellsOf 4 = 1 := by kernel_rfl
theorem cellsInt : Tryz.prog.cellsOf 3 = 1 := by kernel_rfl
theorem cellsWords : Tryz.prog.cellsOf 24 = 1 := by kernel_rfl
theorem rowsSpan : Tryz.prog.readableRec 28 = true ∧ 28 < Tryz.prog.types.size := ⟨by kernel_rfl, of_decide_eq_true (by kernel_rfl)⟩
theorem array6 {cs : Array Value} (h : cs.size = 6) : ∃ a b c d e f, cs = #[a, b, c, d, e, f] := by
  obtain ⟨l⟩ := cs
  simp only [List.size_toArray] at h
  match l, h with
  | [a, b, c, d, e, f], _ => exact ⟨a, b, c, d, e, f, rfl⟩
theorem read_dyad {H : Type} {enc : TypeId × Value → H} {W : World} {m : Nat} {v0 v1 v2 : Value} {y : DataW H × List MemPlace} (h : DataW.trod enc Tryz.prog W 0 (fun _ => true) true m 26 [v0, v1, v2] = some y) :
    ∃ (neg : Bool) (A : Option Addr) (n c : Nat) (xs : List Int) (e : Int), v0 = .bool neg ∧ v1 = .slice A n c ∧ v2 = .int .i64 e ∧ Arr W A n c xs ∧ -9223372036854775808 ≤ e ∧ e ≤ 9223372036854775807 := by
  obtain ⟨y0, y1, y2, m', hx, _, h0, h1, h2⟩ := Go.Deep.trod_struct3 Tryz.underlying26 h
  simp only [cellsBool, cellsInt, cellsWords, List.drop_zero, List.drop_succ_cons, List.take_succ_cons, List.take_zero] at h0 h1 h2
  obtain ⟨A, n, c, xs, e1, ha⟩ := open_words h1
  obtain rfl : v1 = .slice A n c := by simpa using e1
  obtain ⟨b, e0, _⟩ := DataW.trod_bool Tryz.underlying4 h0
  obtain ⟨k, e2, _, hw⟩ := DataW.trod_int Tryz.underlying3 h2
  obtain rfl : v0 = .bool b := by simpa using e0
  obtain rfl : v2 = .int .i64 k := by simpa using e2
  simp [Lit.wf, IntKind.min, IntKind.max, IntKind.bits, IntKind.signed] at hw
  exact ⟨b, A, n, c, xs, k, rfl, rfl, rfl, ha, by omega, by omega⟩
theorem open_span {H : Type} {enc : TypeId × Value → H} {W : World} {v : Value} {d : DataW H} {p : List MemPlace} {r : Reach} {b0 : Nat} (hv : Value.okWide Tryz.prog W r b0 28 v) (h : DataW.Trod enc Tryz.prog W 0 (fun _ => true) true 28 v d p) :
    ∃ (s t : Bool) (A A' : Option Addr) (n c n' c' : Nat) (xs ys : List Int) (e f : Int), v = .agg #[.bool s, .slice A n c, .int .i64 e, .bool t, .slice A' n' c', .int .i64 f] ∧ Arr W A n c xs ∧ Arr W A' n' c' ys := by
  obtain ⟨cs, rfl, hsz⟩ := okWide_struct Tryz.underlying28 hv
  obtain ⟨a0, a1, a2, a3, a4, a5, rfl⟩ := array6 (hsz.trans cellsSpan)
  obtain ⟨fuel, hf⟩ := h
  obtain ⟨y0, y1, m, hx, _, h0, h1⟩ := trod_struct2 Tryz.underlying28 hf
  simp only [cellsDyad, Value.cells, List.drop_zero, List.drop_succ_cons, List.take_succ_cons, List.take_zero] at h0 h1
  obtain ⟨s, A, n, c, xs, e, rfl, rfl, rfl, hA, -, -⟩ := read_dyad h0
  obtain ⟨t, A', n', c', ys, f, rfl, rfl, rfl, hA', -, -⟩ := read_dyad h1
  exact ⟨s, t, A, A', n, c, n', c', xs, ys, e, f, rfl, hA, hA'⟩
end Go.Proofs.YteffemhapnbaeaaGreatDoor
