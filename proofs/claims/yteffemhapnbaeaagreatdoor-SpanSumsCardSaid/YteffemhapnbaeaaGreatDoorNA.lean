/- A text of ours, with only what the claim's row needs (wip/tools/shake.py). -/
import Derived.Test.YteffemhapnbaeaaGreatDoorNB
import Derived.Test.YteffemhapnbaeaaGreatDoorMS
import Derived.Laws.Tables
import Derived.Great.BuildSlice
namespace Go.Proofs.YteffemhapnbaeaaGreatDoor
open Go.RowKit Num
set_option linter.unusedSimpArgs false
set_option linter.unusedVariables false
set_option maxRecDepth 100000

theorem Box.apart {w : World} {g g' : Nat} {cs : Array Value} {t : TypeId} (h : Box w g cs t) (hne : g ≠ g') (i : Nat) (v : Value) : Box (w.setCell ⟨g', i, none⟩ v) g cs t := ⟨by rw [heap_setCell_other w _ g v hne]; exact h.heap⟩
end Go.Proofs.YteffemhapnbaeaaGreatDoor
namespace Go.Proofs.YteffemhapnbaeaaGreatDoor
open Go.RowKit Num
set_option linter.unusedSimpArgs false
set_option linter.unusedVariables false
set_option maxRecDepth 100000

theorem Box.grown {w w' : World} {g g' : Nat} {cs : Array Value} {t : TypeId} (h : Box w g cs t) (hg : w.grownBy w' (some g')) (hne : g ≠ g') : Box w' g cs t :=
  ⟨(hg.block g h.lt (by simpa using hne)).trans h.heap⟩
theorem Arr.grown {w w' : World} {A : Option Addr} {n c : Nat} {xs : List Int} (h : Arr w A n c xs) {g : Nat} {cs : Array Value} {t : TypeId} (hb : Box w g cs t) (hno : ∀ (i : Nat) (x : Int), cs[i]? ≠ some (Value.int .u64 x)) (hg : w.grownBy w' (some g)) : Arr w' A n c xs := by
  refine h.other hg ?_
  by_cases h0 : n = 0
  · left; unfold blk; rw [if_pos h0]
  · right
    obtain ⟨b, o, rfl, hlt, hc⟩ := h.mem (by omega)
    unfold blk
    rw [if_neg h0]
    intro hh
    obtain rfl : b = g := by simpa using hh
    have := hc 0 (by omega)
    rw [hb.cell] at this
    exact hno _ _ this
theorem below_grownBy {w W W' : World} (h : Below w.heap.size w W) {g : Nat} (hg : W.grownBy W' (some g)) (hne : w.heap.size ≤ g) : Below w.heap.size w W' :=
  ⟨hg.os.trans h.os, hg.tape.trans h.tape, hg.output.trans h.output, Nat.le_trans h.size hg.size, fun i hi => (hg.block i (Nat.lt_of_lt_of_le hi h.size) (by simp; omega)).trans (h.block i hi)⟩
theorem wp_put {ops : Array Oper} {rest : List Oper} {o : Oper} {a : Act} {w : World} {Q : Exit → Act → World → Prop} (hgd : o.guard = none) (ty : TypeId) (x y : Operand) (ho : o.op = .store ty x y)
    (hd : o.dst = none) (g : Nat) (cells : Array Value) {old : Array Value} {t : TypeId} (hb : Box w g old t) (hx : a.eval x = .pointer (some ⟨g, 0, none⟩)) (hy : a.eval y = .agg cells)
    (hi : (Tryz.prog.info? ty).map (·.size) = some cells.size) (hold : old.size = cells.size) (h1 : cells.all (·.oneCell') = true)
    (h : ∀ W', Box W' g cells t → w.grownBy W' (some g) → wpList Tryz.prog ops Q rest a W') : wpList Tryz.prog ops Q (o :: rest) a w := by
  refine wpList_store_rowTo hgd ty x y ho hd g cells hx hy t old hb.heap hi hold h1 (h _ ⟨setRow_heap w g old cells t (0, 0) hb.heap⟩ ?_)
  exact ⟨rfl, rfl, rfl, by simp [World.setRow], fun i hi hne => setRow_other w g i cells (fun hh => hne (by rw [hh]))⟩
theorem wp_put3 {ops : Array Oper} {rest : List Oper} {o : Oper} {a : Act} {w : World} {Q : Exit → Act → World → Prop} (hgd : o.guard = none) (x y : Operand) (ho : o.op = .store 26 x y)
    (hd : o.dst = none) (g : Nat) (s : Bool) (B : Option Addr) (m c : Nat) (e : Int) {u v z : Value} {t : TypeId} (hb : Box w g #[u, v, z] t) (hx : a.eval x = .pointer (some ⟨g, 0, none⟩)) (hy : a.eval y = .agg #[.bool s, .slice B m c, .int .i64 e])
    (h : ∀ W', Box W' g #[.bool s, .slice B m c, .int .i64 e] t → w.grownBy W' (some g) → wpList Tryz.prog ops Q rest a W') : wpList Tryz.prog ops Q (o :: rest) a w :=
  wp_put hgd _ x y ho hd g _ hb hx hy (by kernel_rfl) rfl (by simp [Value.oneCell']) h
end Go.Proofs.YteffemhapnbaeaaGreatDoor
