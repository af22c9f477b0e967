/- A text of ours, with only what the claim's row needs (wip/tools/shake.py). -/
import Derived.Test.YteffemhapnbaeaaGreatDoorNI
import Derived.Laws.AppendOwn
namespace Go.Proofs.YteffemhapnbaeaaGreatDoor
open Go.RowKit Num
set_option linter.unusedSimpArgs false
set_option linter.unusedVariables false
set_option maxRecDepth 100000

def dvCells (l : List DV) : List Value := l.flatMap fun d => d.cells.toList
theorem dvCells_len (l : List DV) : (dvCells l).length = l.length * 3 := by
  induction l with
  | nil => rfl
  | cons d r ih => simp only [dvCells, List.flatMap_cons, List.length_append, List.length_cons] at ih ⊢; rw [ih]; simp [DV.cells]; omega
theorem dvCells_add (l : List DV) (d : DV) : dvCells (l ++ [d]) = dvCells l ++ d.cells.toList := by simp [dvCells]
theorem dvCells_get (l : List DV) (j i : Nat) (hj : j < l.length) (hi : i < 3) : (dvCells l)[j * 3 + i]? = (l[j]).cells.toList[i]? := by
  induction l generalizing j with
  | nil => simp at hj
  | cons d r ih =>
    have hd : d.cells.toList.length = 3 := rfl
    rw [show dvCells (d :: r) = d.cells.toList ++ dvCells r from rfl]
    cases j with
    | zero => rw [List.getElem?_append_left (by omega)]; simp
    | succ j =>
      rw [List.getElem?_append_right (by omega), hd, show (j + 1) * 3 + i - 3 = j * 3 + i by omega, ih j (by simpa using hj)]
      rfl
/-- A slice of numbers, in a block of one's own (at base or behind it), or nil. -/
def OwnD (w : World) (base : Nat) (v : Value) (l : List DV) : Prop :=
  (v = .slice none 0 0 ∧ l = []) ∨ ∃ g cap cur, v = .slice (some ⟨g, 0, none⟩) l.length cap ∧ base ≤ g ∧ Box w g cur 26 ∧ (∀ (i : Nat) (x : Int), cur[i]? ≠ some (Value.int .u64 x)) ∧ l.length ≤ cap ∧ cap ≤ maxLen ∧ cur.size = cap * 3 ∧ cur.toList.take (l.length * 3) = dvCells l
theorem infoDyad : (Tryz.prog.info? 26).map (fun i => (i.zero, i.size, i.bytes)) = some (some (.agg #[.bool false, .slice none 0 0, .int .i64 0]), 3, 40) := by kernel_rfl
theorem OwnD.lt {w : World} {base : Nat} {v : Value} {l : List DV} (h : OwnD w base v l) : ∀ k, v.ownBlock = some k → base ≤ k ∧ k < w.heap.size := by
  intro k hk
  rcases h with ⟨rfl, _⟩ | ⟨g, cap, cur, rfl, hb, hg, _⟩
  · simp [Value.ownBlock] at hk
  · simp only [Value.ownBlock, Option.some.injEq] at hk
    subst hk
    exact ⟨hb, hg.lt⟩
theorem OwnD.later {w w' : World} {base : Nat} {v : Value} {l : List DV} (h : OwnD w base v l) (hb : Below w.heap.size w w') : OwnD w' base v l := by
  rcases h with h | ⟨g, cap, cur, h1, h2, h3, h4⟩
  · exact .inl h
  · exact .inr ⟨g, cap, cur, h1, h2, h3.later hb, h4⟩
theorem OwnD.arr {w w' : World} {base : Nat} {v : Value} {l : List DV} (h : OwnD w base v l) {A : Option Addr} {n c : Nat} {xs : List Int} (ha : Arr w A n c xs) (hg : w.grownBy w' v.ownBlock) : Arr w' A n c xs := by
  rcases h with ⟨rfl, _⟩ | ⟨g, cap, cur, rfl, h2, h3, h4, _⟩
  · exact ha.below (grown_below hg (Nat.le_refl _) (fun k hk => by simp [Value.ownBlock] at hk))
  · exact ha.grown h3 h4 hg
theorem OwnD.below {w w' : World} {base : Nat} {v : Value} {l : List DV} (h : OwnD w base v l) (hg : w.grownBy w' v.ownBlock) (hb : base ≤ w.heap.size) : Below base w w' := grown_below hg hb (fun k hk => (h.lt k hk).1)
theorem noU_append {a b : Array Value} (ha : ∀ (i : Nat) (x : Int), a[i]? ≠ some (Value.int .u64 x)) (hb : ∀ (i : Nat) (x : Int), b[i]? ≠ some (Value.int .u64 x)) : ∀ (i : Nat) (x : Int), (a ++ b)[i]? ≠ some (Value.int .u64 x) := by
  intro i x
  rw [Array.getElem?_append]
  split
  · exact ha i x
  · exact hb _ x
theorem noU_zero (n : Nat) : ∀ (i : Nat) (x : Int), (Builtin.zeroCells #[.bool false, .slice none 0 0, .int .i64 0] n)[i]? ≠ some (Value.int .u64 x) := by
  intro i x hx
  simp only [Builtin.zeroCells, Array.getElem?_map] at hx
  obtain ⟨k, -, hk⟩ := Option.map_eq_some_iff.1 hx
  have h3 : k % 3 = 0 ∨ k % 3 = 1 ∨ k % 3 = 2 := by omega
  have hs : (#[Value.bool false, Value.slice none 0 0, Value.int IntKind.i64 0] : Array Value).size = 3 := rfl
  rw [hs] at hk
  rcases h3 with h | h | h <;> rw [h] at hk <;> simp at hk
theorem noU_cells (d : DV) : ∀ (i : Nat) (x : Int), d.cells[i]? ≠ some (Value.int .u64 x) := no3 (by simp) (by simp) (by simp)
theorem noU_list {l : List Value} {cur : Array Value} (h : ∀ (i : Nat) (x : Int), cur[i]? ≠ some (Value.int .u64 x)) (hm : ∀ v ∈ l, v ∈ cur.toList) : ∀ (i : Nat) (x : Int), l.toArray[i]? ≠ some (Value.int .u64 x) := by
  intro i x hx
  rw [List.getElem?_toArray] at hx
  obtain ⟨j, hj, e⟩ := List.mem_iff_getElem.1 (hm _ (List.mem_of_getElem? hx))
  apply h j x
  rw [← Array.getElem?_toList, List.getElem?_eq_getElem hj, e]
theorem noU_dv (l : List DV) : ∀ (i : Nat) (x : Int), (dvCells l).toArray[i]? ≠ some (Value.int .u64 x) := by
  intro i x hx
  rw [List.getElem?_toArray] at hx
  obtain ⟨d, -, hd⟩ := List.mem_flatMap.1 (List.mem_of_getElem? hx)
  obtain ⟨j, hj, e⟩ := List.mem_iff_getElem.1 hd
  apply noU_cells d j x
  rw [← Array.getElem?_toList, List.getElem?_eq_getElem hj, e]
theorem run_appD (w : World) (base : Nat) (v : Value) (l : List DV) (d : DV) (k c : Nat) (t ty : TypeId) (h : OwnD w base v l) (hb : Box w k d.cells t) (hl : l.length ≤ 1000) (hbase : base ≤ w.heap.size) :
    ∃ v' w', (Builtin.append_ #[62, 62] ty #[v, .slice (some ⟨k, 0, none⟩) 1 c]).run Tryz.prog w = .ok v' w' ∧ OwnD w' base v' (l ++ [d]) ∧ w.grownBy w' v.ownBlock ∧
      (v'.ownBlock = v.ownBlock ∨ v'.ownBlock = some w.heap.size) := by
  obtain ⟨i0, hi, hz0, hz1, hz2⟩ := info_parts infoDyad
  have hnews : ∀ (j : Nat) u, d.cells.toList[j]? = some u → w.cell? ((⟨k, 0, none⟩ : Addr).add j) = some u := by
    intro j u hu
    have hadd : (⟨k, 0, none⟩ : Addr).add j = ⟨k, j, none⟩ := by unfold Addr.add; split <;> simp_all
    rw [hadd, hb.cell j, ← hu, Array.getElem?_toList]
  have h3 : d.cells.toList.length = 3 := rfl
  have h1 : ∀ u ∈ d.cells.toList, u.oneCell' = true := by
    intro u hu
    simp [DV.cells] at hu
    rcases hu with rfl | rfl | rfl <;> rfl
  have hnl : d.cells.toList.length = 1 * i0.size := by rw [hz1]; exact h3
  have hlast : (l ++ [d]).length = l.length + 1 := by simp
  have hdv := dvCells_len l
  have grown : ∀ (cap : Nat), l.length + 1 ≤ cap → cap ≤ maxLen → ∀ (row : Option Nat) (cur : Array Value), cur = (dvCells l).toArray ++ d.cells.toList.toArray ++ Builtin.zeroCells (Value.cells (.agg #[.bool false, .slice none 0 0, .int .i64 0])) (cap - (l.length + 1)) →
      OwnD (w.drew.alloc (.cells cur 26)) base (.slice (some ⟨w.heap.size, 0, none⟩) (l.length + 1) cap) (l ++ [d]) ∧ w.grownBy (w.drew.alloc (.cells cur 26)) row := by
    intro cap h1 h2 row cur hc
    refine ⟨.inr ⟨w.heap.size, cap, cur, by rw [hlast], hbase, ⟨heap_alloc_new w.drew _⟩, ?_, by rw [hlast]; exact h1, h2, ?_, ?_⟩, ⟨rfl, rfl, rfl, by simp, fun k hk _ => heap_alloc_old w.drew _ hk⟩⟩
    · rw [hc]
      exact noU_append (noU_append (noU_dv l) (by simpa using noU_cells d)) (noU_zero _)
    · rw [hc]
      simp only [Array.size_append, List.size_toArray, size_zeroCells, hdv, h3, Value.cells]
      show l.length * 3 + 3 + (cap - (l.length + 1)) * 3 = cap * 3
      omega
    · rw [hc, dvCells_add]
      simp only [Array.toList_append, List.append_assoc]
      rw [← List.append_assoc]
      have hlen : (dvCells l ++ d.cells.toList).length = (l ++ [d]).length * 3 := by rw [List.length_append, hdv, h3, hlast]; omega
      rw [← hlen]
      exact List.take_left
  rcases h with ⟨rfl, rfl⟩ | ⟨g, cap, cur, rfl, hbg, hg, hnu, hnc, hcm, hcs, htake⟩
  · have hr := run_append_nil (P := Tryz.prog) w 62 ty 26 i0 _ Tryz.underlying62 hi hz0 ⟨k, 0, none⟩ 1 c d.cells.toList hnl hnews (by omega) (by omega) (by rw [hz2]; omega)
    have hgr := grown _ (by simpa using grownCap_ge w 1 0 26) (grownCap_le_maxLen w 1 0 26 (by unfold maxLen; omega)) (Value.ownBlock (.slice none 0 0)) _ rfl
    simp only [List.length_nil, Nat.zero_add, dvCells, List.flatMap_nil, Array.empty_append] at hgr
    exact ⟨_, _, hr, hgr.1, hgr.2, .inr rfl⟩
  · by_cases hroom : l.length + 1 ≤ cap
    · have hfit : l.length * i0.size + d.cells.toList.length ≤ cur.size := by rw [hz1, h3, hcs]; omega
      have hr := run_append_room (P := Tryz.prog) w 62 ty 26 i0 Tryz.underlying62 hi g l.length cap cur hg.heap ⟨k, 0, none⟩ 1 c d.cells.toList hnl hnews h1 hroom hfit
      rw [hz1, h3] at hr
      refine ⟨_, _, hr, .inr ⟨g, cap, _, by rw [hlast], hbg, ⟨setRow_heap w g cur _ 26 _ hg.heap⟩, ?_, by rw [hlast]; exact hroom, hcm, ?_, ?_⟩, ⟨rfl, rfl, rfl, by simp, fun k _ hk => setRow_other w g k _ (fun e => hk (by simp [Value.ownBlock, e]))⟩, .inl rfl⟩
      · rw [← List.append_toArray, ← List.append_toArray]
        exact noU_append (noU_append (noU_list hnu fun v hv => List.mem_of_mem_take hv) (by simpa using noU_cells d)) (noU_list hnu fun v hv => List.mem_of_mem_drop hv)
      · simp only [List.size_toArray, List.length_append, List.length_take, List.length_drop, Array.length_toList, h3]
        omega
      · rw [htake, dvCells_add]
        have hlen : (dvCells l ++ d.cells.toList).length = (l ++ [d]).length * 3 := by rw [List.length_append, hdv, h3, hlast]; omega
        rw [← hlen]
        exact List.take_left
    · have holds : ∀ (j : Nat) u, (dvCells l)[j]? = some u → w.cell? ((⟨g, 0, none⟩ : Addr).add j) = some u := by
        intro j u hu
        have hadd : (⟨g, 0, none⟩ : Addr).add j = ⟨g, j, none⟩ := by unfold Addr.add; split <;> simp_all
        rw [hadd, hg.cell j]
        rw [← htake, List.getElem?_take] at hu
        split at hu
        · simpa using hu
        · cases hu
      have hr := run_append_grow (P := Tryz.prog) w 62 ty 26 i0 _ Tryz.underlying62 hi hz0 ⟨g, 0, none⟩ l.length cap (dvCells l) (by rw [hdv, hz1]) holds ⟨k, 0, none⟩ 1 c d.cells.toList hnl hnews (by omega) (by omega) (growslice_fits (by omega) (by rw [hz2]; omega))
      have hgr := grown _ (grownCap_ge w (l.length + 1) cap 26) (grownCap_le_maxLen w (l.length + 1) cap 26 (by unfold maxLen; omega)) (Value.ownBlock (.slice (some ⟨g, 0, none⟩) l.length cap)) _ rfl
      exact ⟨_, _, hr, hgr.1, hgr.2, .inr rfl⟩
theorem wp_appD {w : World} {ops : Array Oper} {rest : List Oper} {o : Oper} {a : Act} {Q : Exit → Act → World → Prop} (hgd : o.guard = none) (s x : Operand)
    (ho : o.op = .call { callee := .builtin .append, args := #[s, x], argTypes := #[62, 62] }) (base : Nat) (v : Value) (l : List DV) (hs : a.eval s = v) (h : OwnD w base v l)
    (d : DV) (k c : Nat) (t : TypeId) (hx : a.eval x = .slice (some ⟨k, 0, none⟩) 1 c) (hb : Box w k d.cells t) (hl : l.length ≤ 1000) (hbase : base ≤ w.heap.size)
    (hK : ∀ v' w', OwnD w' base v' (l ++ [d]) → w.grownBy w' v.ownBlock → (v'.ownBlock = v.ownBlock ∨ v'.ownBlock = some w.heap.size) → wpList Tryz.prog ops Q rest (a.put o.dst v') w') : wpList Tryz.prog ops Q (o :: rest) a w := by
  obtain ⟨v', w', hr, h2, h3, h4⟩ := run_appD w base v l d k c t o.type h hb hl hbase
  refine wpList_plain hgd fun K hk => ?_
  unfold Oper.wp execOp
  simp only [ho, resolve, invoke, builtin, Sem.run_bind, Sem.run_pure, Result.andThen_ok, List.map_toArray, List.map_cons, List.map_nil, hs, hx, hr]
  exact hk _ _ (hK v' w' h2 h3 h4)
theorem OwnD.dvs {w : World} {base : Nat} {v : Value} {l : List DV} (h : OwnD w base v l) (hl : 0 < l.length) (hok : ∀ j (hj : j < l.length), (l[j]).ok w) : ∃ g cap, v = .slice (some ⟨g, 0, none⟩) l.length cap ∧ DVs w g l := by
  rcases h with ⟨_, rfl⟩ | ⟨g, cap, cur, rfl, _, hg, _, _, _, _, htake⟩
  · simp at hl
  · have hc : ∀ j (hj : j < l.length) i, i < 3 → w.cell? ⟨g, j * 3 + i, none⟩ = (l[j]).cells.toList[i]? := fun j hj i hi => by
      rw [hg.cell, ← dvCells_get l j i hj hi, ← htake, List.getElem?_take, if_pos (by omega), Array.getElem?_toList]
    exact ⟨g, cap, rfl, hg.lt, hok, fun j hj => hc j hj 0 (by omega), fun j hj => hc j hj 1 (by omega), fun j hj => hc j hj 2 (by omega)⟩
end Go.Proofs.YteffemhapnbaeaaGreatDoor
