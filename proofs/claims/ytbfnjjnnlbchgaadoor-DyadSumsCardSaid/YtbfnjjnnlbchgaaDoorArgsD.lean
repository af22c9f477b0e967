/- A slice of numbers reads as a list of numbers (each by value). -/
import Derived.Deep.Slices
import Derived.Deep.Strs
import Derived.Test.YtbfnjjnnlbchgaaDoorArgs
import Derived.Test.YtbfnjjnnlbchgaaDoorMK
namespace Go.Proofs.YtbfnjjnnlbchgaaDoor
open Go.ChangeShapes Go.WideShapes Go.ChangeAt Go.RowKit Num Go.Joins
set_option linter.unusedSimpArgs false
set_option linter.unusedVariables false
set_option maxRecDepth 100000

theorem rowsDyads : Tryd.prog.readableRec 56 = true ∧ 56 < Tryd.prog.types.size := ⟨by kernel_rfl, of_decide_eq_true (by kernel_rfl)⟩
theorem cellsB : Tryd.prog.cellsOf 4 = 1 := by kernel_rfl
theorem cellsI : Tryd.prog.cellsOf 3 = 1 := by kernel_rfl
theorem cellsSl : Tryd.prog.cellsOf 22 = 1 := by kernel_rfl
instance : Inhabited DV := ⟨⟨false, none, 0, 0, [], 0⟩⟩
/-- A number's three cells. -/
def DVat (w : World) (a : Addr) (d : DV) : Prop :=
  d.ok w ∧ w.cell? (a.add 0) = some (.bool d.neg) ∧ w.cell? (a.add 1) = some (.slice d.A d.n d.c) ∧ w.cell? (a.add 2) = some (.int .i64 d.e)
theorem open_dyad_cells {H : Type} {enc : TypeId × Value → H} {W : World} {fuel : Nat} {a : Addr} {cs : List Value} {x : DataW H × List MemPlace} (hc : W.cells? 0 a 3 = some cs) (h : DataW.trod enc Tryd.prog W 0 (fun _ => true) true fuel 24 cs = some x) : ∃ d, DVat W a d := by
  obtain ⟨_, hl, hg⟩ := World.cells?_some hc
  obtain ⟨c0, c1, c2, rfl⟩ : ∃ c0 c1 c2, cs = [c0, c1, c2] := by
    match cs, hl with
    | [c0, c1, c2], _ => exact ⟨c0, c1, c2, rfl⟩
  have g0 := hg 0 (by decide)
  have g1 := hg 1 (by decide)
  have g2 := hg 2 (by decide)
  obtain ⟨y0, y1, y2, n, _, _, h0, h1, h2⟩ := Deep.trod_struct3 Tryd.underlying24 h
  simp only [cellsB, cellsI, cellsSl, List.drop_zero, List.drop_succ_cons, List.take_succ_cons, List.take_zero] at h0 h1 h2
  obtain ⟨A, m, c, xs, e1, ha⟩ := open_words h1
  obtain rfl : c1 = .slice A m c := by simpa using e1
  obtain ⟨b, e0, _⟩ := DataW.trod_bool Tryd.underlying4 h0
  obtain ⟨k, e2, _, hw⟩ := DataW.trod_int Tryd.underlying3 h2
  obtain rfl : c0 = .bool b := by simpa using e0
  obtain rfl : c2 = .int .i64 k := by simpa using e2
  exact ⟨⟨b, A, m, c, xs, k⟩, ha, g0, g1, g2⟩
theorem open_dyads {H : Type} {enc : TypeId × Value → H} {W : World} {v : Value} {d : DataW H} {p : List MemPlace} {r : Reach} {b0 : Nat} (hv : Value.okWide Tryd.prog W r b0 56 v) (h : DataW.Trod enc Tryd.prog W 0 (fun _ => true) true 56 v d p) :
    ∃ SA m cap l, v = .slice SA m cap ∧ l.length = m ∧ DVA W SA l := by
  obtain ⟨a0, len, cap, rfl⟩ := okWide_slice Tryd.underlying56 hv
  obtain ⟨fuel, hf⟩ := h
  have hf' : DataW.trod enc Tryd.prog W 0 (fun _ => true) true fuel 56 [.slice a0 len cap] = some (d, p) := hf
  rcases Deep.open_slice Tryd.underlying56 hf' with ⟨hcs, _⟩ | ⟨a, len', cap', m, n, D, Pl, hcs, _, hl, _, hm, _, hx⟩
  · obtain ⟨rfl, rfl, rfl⟩ : a0 = none ∧ len = 0 ∧ cap = 0 := by simpa using hcs
    exact ⟨none, 0, 0, [], rfl, rfl, ⟨fun j hj => absurd hj (by simp), fun h0 => absurd h0 (by simp)⟩⟩
  · obtain ⟨rfl, rfl, rfl⟩ : a0 = some a ∧ len = len' ∧ cap = cap' := by simpa using hcs
    rw [if_pos rfl] at hm
    subst hm
    have hall : ∀ i, i < len → ∃ dd, DVat W (a.add (i * 3)) dd := fun i hi => by
      obtain ⟨cs', hc, ht⟩ := hx i (by omega)
      rw [cellsDyad] at hc
      exact open_dyad_cells hc ht
    obtain ⟨f, hf2⟩ := Deep.choose_lt hall
    refine ⟨some a, len, _, (List.range len).map f, rfl, by simp, ⟨fun j hj => ?_, fun h0 => ?_⟩⟩
    · have hj' : j < len := by simpa using hj
      have := (hf2 j hj').1
      simpa using this
    · have h0' : 0 < len := by simpa using h0
      obtain ⟨b, off, spot⟩ := a
      have hsp : spot = none := by
        have := (hf2 0 h0').2.1
        simpa [Addr.add] using World.cell?_spot this
      subst hsp
      have hblk : b < W.heap.size := by
        have := (hf2 0 h0').2.1
        rw [add_plain, add_plain] at this
        exact World.block_lt_of_cell? _ _ this
      refine ⟨b, off, rfl, hblk, fun j hj => ?_, fun j hj => ?_, fun j hj => ?_⟩
      all_goals
        have hj' : j < len := by simpa using hj
        obtain ⟨_, q0, q1, q2⟩ := hf2 j hj'
        rw [add_plain, add_plain] at q0 q1 q2
        simp only [List.getElem_map, List.getElem_range]
        first | exact q0 | exact q1 | exact q2
end Go.Proofs.YtbfnjjnnlbchgaaDoor
