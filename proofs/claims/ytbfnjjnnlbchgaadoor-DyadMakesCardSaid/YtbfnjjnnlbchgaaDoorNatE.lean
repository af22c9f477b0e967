/- What is appended: copies; Trim on both sides. -/
import Derived.Test.YtbfnjjnnlbchgaaDoorNatD
namespace Go.Proofs.YtbfnjjnnlbchgaaDoor
open Go.RowKit Num
set_option maxRecDepth 100000

theorem append_none {w : World} {base : Nat} {v : Value} {n : Nat} {xs : List Value} (hown : w.ownsRow base 27 1 v n xs) (c : Nat) (ty : TypeId) :
    (Builtin.append_ #[22, 22] ty #[v, .slice none 0 c]).run Tryd.prog w = .ok v w := by
  obtain ⟨i0, hi, hz0, hz1, hz2⟩ := info_parts info64
  rcases hown.2 with ⟨rfl, rfl⟩ | ⟨g, cap, cur, rfl, _, _, hnc, _⟩
  · simp [Builtin.append_, run_underlying Tryd.underlying22, sizeOf, typeInfo, hi, Builtin.lenOf, Builtin.firstCells]
  · simp [Builtin.append_, run_underlying Tryd.underlying22, sizeOf, typeInfo, hi, Builtin.lenOf, Builtin.firstCells, hnc, storeCells]
theorem cellsOf_append (xs ys : List Int) : cellsOf (xs ++ ys) = cellsOf xs ++ cellsOf ys := by simp [cellsOf]
/-- 'append' of words that are read to a row that is one's own. -/
theorem wp_append {w : World} {ops : Array Oper} {rest : List Oper} {o : Oper} {a : Act} {Q : Exit → Act → World → Prop} (hgd : o.guard = none) (s x : Operand)
    (ho : o.op = .call { callee := .builtin .append, args := #[s, x], argTypes := #[22, 22] }) (base : Nat) (v : Value) (n : Nat) (ys : List Int) (hs : a.eval s = v) (hown : w.ownsRow base 27 1 v n (cellsOf ys))
    (A : Option Addr) (m c : Nat) (xs : List Int) (hx : a.eval x = .slice A m c) (hA : Arr w A m c xs) (l : Nat) (hlm : n + m = l) (hb : l ≤ 17592186044416) (hbase : base ≤ w.heap.size)
    (h : ∀ v' w', w'.ownsRow base 27 1 v' l (cellsOf (ys ++ xs)) → w.grownBy w' v.ownBlock → wpList Tryd.prog ops Q rest (a.put o.dst v') w') : wpList Tryd.prog ops Q (o :: rest) a w := by
  subst hlm
  obtain ⟨i0, hi, hz0, hz1, hz2⟩ := info_parts info64
  have hl := hA.len
  cases A with
  | none =>
    have hm : m = 0 := by
      by_cases h0 : 0 < m
      · obtain ⟨b, o, e, _⟩ := hA.mem h0; cases e
      · omega
    subst hm
    obtain rfl : xs = [] := List.eq_nil_of_length_eq_zero hl
    refine wpList_plain hgd fun K hK => ?_
    unfold Oper.wp
    simp [execOp, ho, resolve, invoke, builtin, hs, hx, append_none hown c o.type, Result.andThen]
    exact hK _ _ (h v w (by simpa using hown) (grown_self w _))
  | some ad =>
    refine wpList_append_own w hgd s x 22 ho base 27 i0 (.int .u64 0) 1 8 Tryd.underlying22 hi hz0 hz1 hz2 rfl (by decide) v n (cellsOf ys) hs hown ad m c (cellsOf xs) hx (by simp [cellsOf, hl]) ?_ ?_ (by unfold maxLen; omega) (by omega) hbase ?_
    · intro j u hu
      have hj : j < m := by
        have := (List.getElem?_eq_some_iff.1 hu).1
        rw [cellsOf, List.length_map, hl] at this; exact this
      obtain ⟨b, o, e, _, hc⟩ := hA.mem (by omega)
      cases e
      have e2 : (⟨b, o, none⟩ : Addr).add j = ⟨b, o + j, none⟩ := by unfold Addr.add; split <;> simp_all
      have := cellsOf_get xs j (by omega) []
      rw [List.append_nil] at this
      rw [e2, hc j hj, ← this, hu]
    · intro u hu
      obtain ⟨x, _, rfl⟩ := List.mem_map.1 hu
      rfl
    · intro v' w' h1 h2 _
      rw [← cellsOf_append] at h1
      exact h v' w' h1 h2
theorem own_of_owns {w : World} {base : Nat} {v : Value} {n : Nat} {xs : List Int} (h : w.ownsRow base 27 1 v n (cellsOf xs)) (hw : Wf xs) : ∃ A c, v = .slice A n c ∧ Own w base A n c xs := by
  have hl : xs.length = n := by have := h.1; simpa [cellsOf] using this
  rcases h.2 with ⟨rfl, rfl⟩ | ⟨g, cap, cur, rfl, hB, hh, h1, h2, hs, ht⟩
  · obtain rfl : xs = [] := List.eq_nil_of_length_eq_zero hl
    exact ⟨none, 0, rfl, Own.nil w _ _ _ (by omega)⟩
  · refine ⟨_, cap, rfl, hl, hw, h1, by unfold maxLen at h2; omega, fun hn => ⟨g, xs, rfl, hB, ⟨hw, cur.toList.drop (n * 1), ?_⟩, by omega, by rw [← hl, List.take_length]⟩⟩
    rw [hh, ← ht, List.take_append_drop]
theorem owns_nil (w : World) (base : Nat) : w.ownsRow base 27 1 (.slice none 0 0) 0 (cellsOf []) := World.ownsRow_nil w base _ _
theorem owns_empty {w : World} {base g : Nat} (hg : g = w.heap.size) (hb : base ≤ w.heap.size) : (w.alloc (.cells #[] 27)).ownsRow base 27 1 (.slice (some ⟨g, 0, none⟩) 0 0) 0 (cellsOf []) := by
  subst hg; exact World.ownsRow_lit w #[] 0 hb (by omega) (by simp)
theorem grown_below {w w' : World} {r : Option Nat} {B : Nat} (h : w.grownBy w' r) (hB : B ≤ w.heap.size) (hr : ∀ k, r = some k → B ≤ k) : Below B w w' := (Below.refl _ _).grown h hB hr
theorem ntrim (A : Option Addr) (n c : Nat) (xs : List Int) (w : World) (h : Arr w A n c xs) (hn : n ≤ 17592186044416) :
    Calls Tryd.prog 96 #[.slice A n c] w fun e w' => ∃ A' n' c', e = .returned (.slice A' n' c') ∧ Own w' w.heap.size A' n' c' (wd (val xs)) ∧ Below w.heap.size w w' := by
  have hlen := wd_len h.wf
  rw [h.len] at hlen
  have hx := h.trim
  have T := Lib.hid (trim A n c xs w h)
  go_enter Tryd.func96, Tryd.ntmps96
  go_wp2_with fail
  refine T.out.mono ?_; rintro e w' ⟨rfl, rfl⟩
  go_wp2_with (at_builtin; refine wp_append rfl _ _ rfl w.heap.size _ 0 [] rfl (owns_nil w _) A _ c _ rfl hx _ (Nat.zero_add _) (by omega) (Nat.le_refl _) ?_)
  intro v' w' h1 h2
  obtain ⟨A2, c2, rfl, hO⟩ := own_of_owns h1 hx.wf
  have hb := grown_below h2 (Nat.le_refl _) (by intro k hk; cases hk)
  go_wp2
  go_ret
  exact ⟨A2, _, c2, rfl, hO, hb⟩
theorem rtrim (A : Option Addr) (n c : Nat) (xs : List Int) (w : World) (h : Arr w A n c xs) (hn : n ≤ 17592186044416) :
    Calls Tryd.prog 94 #[.slice A n c] w fun e w' => ∃ A' n' c', e = .returned (.slice A' n' c') ∧ Own w' w.heap.size A' n' c' (wd (val xs)) ∧ Below w.heap.size w w' := by
  have hl := h.len
  have hcap := h.cap
  have hbig := h.big
  have HL := Lib.hid hl
  clear hl
  have fin : ∀ k, k ≤ n → wd (val xs) = xs.take k → Arr w A k c (xs.take k) := fun k hk _ => h.take k hk
  go_enter Tryd.func94, Tryd.ntmps94
  go_wp2
  go_loop [3] (fun v => ∃ k : Nat, k ≤ n ∧ v = .int .i64 k ∧ Hid (val (xs.take k) = val xs)) (fun v => (intOf v).toNat)
  case atStart => exact ⟨n, Nat.le_refl _, rfl, by show _ = _; rw [← HL.out, List.take_length]⟩
  case round =>
    obtain ⟨k, hk, rfl, hv⟩ := hrel
    by_cases h0 : 0 < k
    · obtain ⟨b, o, rfl, hlt, hc⟩ := h.mem (by omega)
      have hcell := hc (k - 1) (by omega)
      clear hc
      go_wp2_with (at_builtin; refine wp_append rfl _ _ rfl w.heap.size _ 0 [] rfl (owns_empty rfl (Nat.le_refl _)) _ k c (xs.take k) rfl ((h.take k hk).below (below_alloc (below_self w) _)) _ (Nat.zero_add _) (by omega) (by simp) ?_)
      · have hz : (xs[k - 1]?.getD 0 == 0) = true := by assumption
        have hz' : xs[k - 1]?.getD 0 = 0 := by simpa using hz
        exact ⟨⟨k - 1, by omega, by go_num, trim_go h0 (by rw [HL.out]; exact hk) hz' hv.out⟩, by simp only [intOf]; omega⟩
      · have hz : (xs[k - 1]?.getD 0 == 0) = false := by assumption
        have hz' : xs[k - 1]?.getD 0 ≠ 0 := by simpa using hz
        have e := trim_end h.wf h0 (by rw [HL.out]; exact hk) hz' hv.out
        intro v' w' h1 h2
        obtain ⟨A2, c2, rfl, hO⟩ := own_of_owns h1 (h.wf.take k)
        have hb := (below_alloc (below_self w) (.cells #[] 27)).trans (grown_below (B := w.heap.size) h2 (by simp) (by intro j hj; cases hj; exact Nat.le_refl _))
        have E := Lib.hid e
        clear e hz hz'
        go_wp2
        go_ret
        exact ⟨A2, _, c2, rfl, by rw [E.out]; exact hO, hb⟩
    · obtain rfl : k = 0 := by omega
      have e : wd (val xs) = [] := by rw [← hv.out]; exact wd_zero (Int.le_refl _)
      have E := Lib.hid e
      clear e
      go_wp2_with (at_builtin; refine wp_append rfl _ _ rfl w.heap.size _ 0 [] rfl (owns_empty rfl (Nat.le_refl _)) _ 0 c (xs.take 0) rfl ((h.take 0 hk).below (below_alloc (below_self w) _)) _ (Nat.zero_add _) (by omega) (by simp) ?_)
      intro v' w' h1 h2
      obtain ⟨A2, c2, rfl, hO⟩ := own_of_owns h1 (h.wf.take 0)
      have hb := (below_alloc (below_self w) (.cells #[] 27)).trans (grown_below (B := w.heap.size) h2 (by simp) (by intro j hj; cases hj; exact Nat.le_refl _))
      go_wp2
      go_ret
      exact ⟨A2, _, c2, rfl, by rw [E.out]; exact hO, hb⟩
end Go.Proofs.YtbfnjjnnlbchgaaDoor
