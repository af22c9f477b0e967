/- A text of ours, with only what the claim's row needs (wip/tools/shake.py). -/
import Derived.Test.YteffemhapnbaeaaGreatDoorArgs
namespace Go.Proofs.YteffemhapnbaeaaGreatDoor
open Go.ChangeShapes Go.WideShapes Go.ChangeAt Go.RowKit Num Go.Joins
set_option maxRecDepth 100000

theorem cellsKit : Tryz.prog.cellsOf 23 = 2 := by kernel_rfl
theorem rowsKit : Tryz.prog.readableRec 23 = true ∧ 23 < Tryz.prog.types.size := ⟨by kernel_rfl, of_decide_eq_true (by kernel_rfl)⟩
theorem open_kit {H : Type} {enc : TypeId × Value → H} {W : World} {v : Value} {d : DataW H} {p : List MemPlace} {r : Reach} {b0 : Nat} (hv : Value.okWide Tryz.prog W r b0 23 v) (h : DataW.Trod enc Tryz.prog W 0 (fun _ => true) true 23 v d p) :
    ∃ (k : Int) (b : Bool), v = .agg #[.int .i64 k, .bool b] ∧ -9223372036854775808 ≤ k ∧ k ≤ 9223372036854775807 := by
  obtain ⟨v0, v1, y0, y1, m, rfl, _, _, h0, h1⟩ := open_agg2 Tryz.underlying23 (by kernel_rfl) cellsKit hv h
  obtain ⟨b, e1, _⟩ := DataW.trod_bool Tryz.underlying4 h1
  obtain ⟨k, e0, _, hw⟩ := DataW.trod_int Tryz.underlying3 h0
  obtain rfl : v1 = .bool b := by simpa using e1
  obtain rfl : v0 = .int .i64 k := by simpa using e0
  simp [Lit.wf, IntKind.min, IntKind.max, IntKind.bits, IntKind.signed] at hw
  exact ⟨k, b, rfl, by omega, by omega⟩
end Go.Proofs.YteffemhapnbaeaaGreatDoor
