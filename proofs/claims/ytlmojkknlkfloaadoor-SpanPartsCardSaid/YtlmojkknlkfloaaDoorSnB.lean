/- A work: must, give, Fail, take. -/
import Derived.Test.YtlmojkknlkfloaaDoorDyAI
import Derived.Test.YtlmojkknlkfloaaDoorSnA
namespace Go.Proofs.YtlmojkknlkfloaaDoor
open Go.RowKit Num
set_option linter.unusedSimpArgs false
set_option linter.unusedVariables false
set_option maxRecDepth 100000

theorem grown_of {w w' : World} (h : Below w.heap.size w w') (r : Option Nat) : w.grownBy w' r := ⟨h.os, h.tape, h.output, h.size, fun i hi _ => h.block i hi⟩
theorem grown_on {a b c : World} {r : Option Nat} (h : a.grownBy b r) (k : Below b.heap.size b c) : a.grownBy c r := grown_trans h (grown_of k r)
/-- A work lies in block g. -/
def Wk (w : World) (g : Nat) (P : Int) (bad : Bool) (t : TypeId) : Prop := Box w g #[.int .i64 P, .bool bad] t
theorem Wk.lt {w : World} {g : Nat} {P : Int} {bad : Bool} {t : TypeId} (h : Wk w g P bad t) : g < w.heap.size := Box.lt h
theorem Wk.cells {w : World} {g : Nat} {P : Int} {bad : Bool} {t : TypeId} (h : Wk w g P bad t) : w.cell? ⟨g, 0, none⟩ = some (.int .i64 P) ∧ w.cell? ⟨g, 1, none⟩ = some (.bool bad) ∧ w.frozen? ⟨g, 0, none⟩ = false ∧ w.frozen? ⟨g, 1, none⟩ = false :=
  ⟨Box.cell h 0, Box.cell h 1, Box.free h 0, Box.free h 1⟩
theorem Wk.later {w w' : World} {g : Nat} {P : Int} {bad : Bool} {t : TypeId} (h : Wk w g P bad t) (hb : Below w.heap.size w w') : Wk w' g P bad t := Box.later h hb
theorem Wk.set {w : World} {g : Nat} {P : Int} {bad : Bool} {t : TypeId} (h : Wk w g P bad t) (b : Bool) : Wk (w.setCell ⟨g, 1, none⟩ (.bool b)) g P b t := Box.set h 1 (.bool b)
theorem Wk.other {w w' : World} {g g' : Nat} {P : Int} {bad : Bool} {t : TypeId} (h : Wk w g P bad t) (hg : w.grownBy w' (some g')) (hne : g ≠ g') : Wk w' g P bad t := Box.grown h hg hne
theorem no_wk (P : Int) (bad : Bool) : ∀ (i : Nat) (x : Int), (#[Value.int .i64 P, .bool bad] : Array Value)[i]? ≠ some (Value.int .u64 x)
  | 0, x => by simp
  | 1, x => by simp
  | i + 2, x => by simp
theorem Wk.arr {w w' : World} {g : Nat} {P : Int} {bad : Bool} {t : TypeId} (h : Wk w g P bad t) {A : Option Addr} {n c : Nat} {xs : List Int} (ha : Arr w A n c xs) (hg : w.grownBy w' (some g)) : Arr w' A n c xs := ha.grown h (no_wk P bad) hg
theorem Wk.tz {w w' : World} {g : Nat} {P : Int} {bad : Bool} {t : TypeId} (h : Wk w g P bad t) (hT : Tz w) (hg : w.grownBy w' (some g)) : Tz w' := by
  have hne : 2 ≠ g := by
    intro hh
    have h0 := hT.tab 0 (by decide)
    rw [hh, h.cells.1] at h0
    simp at h0
  refine ⟨fun j hj => ?_⟩
  have h1 := hT.tab j hj
  have hlt := World.block_lt_of_cell? (w := w) (a := ⟨2, j, none⟩) h1
  rw [World.cell?_of_block (w := w) (w' := w') (hg.block _ hlt (by simpa using hne))]
  exact h1
theorem must_ok (g : Nat) (s : Bool) (A : Option Addr) (n c : Nat) (e : Int) (w : World) :
    Calls Tryd.prog 89 #[.pointer (some ⟨g, 0, none⟩), .agg #[.bool s, .slice A n c, .int .i64 e], .bool true] w fun r w' => r = .returned (.agg #[.bool s, .slice A n c, .int .i64 e]) ∧ Below w.heap.size w w' := by
  have bx := (box_new w #[.bool s, .slice A n c, .int .i64 e] 24).later (below_alloc (below_self _) (.cells #[.bool false, .slice none 0 0, .int .i64 0] 24))
  have br := box_new (w.alloc (.cells #[.bool s, .slice A n c, .int .i64 e] 24)) #[.bool false, .slice none 0 0, .int .i64 0] 24
  rw [show (w.alloc (.cells #[.bool s, .slice A n c, .int .i64 e] 24)).heap.size = w.heap.size + 1 by simp] at br
  have b0 : Below w.heap.size w ((w.alloc (.cells #[.bool s, .slice A n c, .int .i64 e] 24)).alloc (.cells #[.bool false, .slice none 0 0, .int .i64 0] 24)) := below_alloc (below_alloc (below_self w) _) _
  obtain ⟨k0, k1, k2, f0, f1, f2⟩ := bx.cell3
  obtain ⟨j0, j1, j2, g0, g1, g2⟩ := br.cell3
  go_enter Tryd.func89, Tryd.ntmps89
  go_wp2_with (refine wp_put3 rfl _ _ rfl rfl (w.heap.size + 1) s A n c e br rfl rfl (fun W1 y1 gW1 => ?_); have b0 := below_grownBy b0 gW1 (show w.heap.size ≤ w.heap.size + 1 by omega); obtain ⟨z0, z1, z2, y0, y1', y2⟩ := y1.cell3)
  refine bodyPost_ret (v := .agg #[.bool s, .slice A n c, .int .i64 e]) ?_ rfl ⟨rfl, b0⟩
  simp [results, Tryd.results89, go_sem, z0, z1, z2]
theorem must_no (g : Nat) (P : Int) (bad : Bool) (t : TypeId) (s : Bool) (A : Option Addr) (n c : Nat) (e : Int) (w : World) (hk : Wk w g P bad t) :
    Calls Tryd.prog 89 #[.pointer (some ⟨g, 0, none⟩), .agg #[.bool s, .slice A n c, .int .i64 e], .bool false] w fun r w' => r = .returned (.agg #[.bool false, .slice none 0 0, .int .i64 0]) ∧ Wk w' g P true t ∧ w.grownBy w' (some g) := by
  have b0 : Below w.heap.size w ((w.alloc (.cells #[.bool s, .slice A n c, .int .i64 e] 24)).alloc (.cells #[.bool false, .slice none 0 0, .int .i64 0] 24)) := below_alloc (below_alloc (below_self w) _) _
  have hk2 := hk.later b0
  have hg := hk.lt
  obtain ⟨k0, k1, f0, f1⟩ := hk2.cells
  have br2 := box_new ((w.setCell ⟨g, 1, none⟩ (.bool true)).alloc (.cells #[.bool s, .slice A n c, .int .i64 e] 24)) #[.bool false, .slice none 0 0, .int .i64 0] 24
  rw [show ((w.setCell ⟨g, 1, none⟩ (.bool true)).alloc (.cells #[.bool s, .slice A n c, .int .i64 e] 24)).heap.size = w.heap.size + 1 by simp] at br2
  have b1 := below_alloc (below_alloc (below_self (w.setCell ⟨g, 1, none⟩ (.bool true))) (.cells #[.bool s, .slice A n c, .int .i64 e] 24)) (.cells #[.bool false, .slice none 0 0, .int .i64 0] 24)
  have hk3 := (hk.set true).later b1
  have g3 := grown_on (grown_set w g 1 (.bool true)) b1
  go_enter Tryd.func89, Tryd.ntmps89
  go_wp2_with (refine wp_put3 rfl _ _ rfl rfl (w.heap.size + 1) false none 0 0 0 br2 rfl rfl (fun W1 y1 gW1 => ?_); have hk4 := hk3.other gW1 (by omega); obtain ⟨z0, z1, z2, y0, y1', y2⟩ := y1.cell3)
  refine bodyPost_ret (v := .agg #[.bool false, .slice none 0 0, .int .i64 0]) ?_ rfl ⟨rfl, hk4, ?_⟩
  · simp [results, Tryd.results89, go_sem, z0, z1, z2]
  · exact ⟨gW1.os.trans g3.os, gW1.tape.trans g3.tape, gW1.output.trans g3.output, Nat.le_trans g3.size gW1.size, fun k hk hne => (gW1.block k (Nat.lt_of_lt_of_le hk g3.size) (by simp; omega)).trans (g3.block k hk hne)⟩
end Go.Proofs.YtlmojkknlkfloaaDoor
