/- A work: Num. -/
import Derived.Test.YtlmojkknlkfloaaDoorSnD
namespace Go.Proofs.YtlmojkknlkfloaaDoor
open Go.RowKit Num
set_option linter.unusedSimpArgs false
set_option linter.unusedVariables false
set_option maxRecDepth 100000

theorem retD_some2 {s : Bool} {m e : Int} {w w' : World} {r : Ending} (h : RetD (some ⟨s, m, e⟩) w r w') : ∃ A n c, r = .returned (.tuple #[.agg #[.bool s, .slice A n c, .int .i64 e], .bool true]) ∧ Arr w' A n c (wd m) ∧ Below w.heap.size w w' := h
/-- What was stored in a block of one's own doesn't count. -/
theorem grown_own {w W W' : World} {g k : Nat} (h : w.grownBy W (some g)) (hg : W.grownBy W' (some k)) (hk : w.heap.size ≤ k) : w.grownBy W' (some g) :=
  ⟨hg.os.trans h.os, hg.tape.trans h.tape, hg.output.trans h.output, Nat.le_trans h.size hg.size, fun i hi hne => (hg.block i (Nat.lt_of_lt_of_le hi h.size) (by simp; omega)).trans (h.block i hi hne)⟩
def workB (bad : Bool) (P : Int) : Bool := bad || decide (P < 1) || decide (8192 < P)
def numO (bad : Bool) (P n : Int) : Option (Dy × Dy) := if workB bad P then none else some (canD n 0, canD n 0)
theorem int_made {n : Int} (h0 : -9223372036854775808 ≤ n) (h1 : n ≤ 9223372036854775807) : mkD (decide (n < 0)) (if n < 0 then -n else n) 0 = some (canD n 0) := by
  have e : sgn (decide (n < 0)) (if n < 0 then -n else n) = n := by
    by_cases h : n < 0
    · rw [decide_eq_true h, if_pos h]; simp [sgn]
    · rw [decide_eq_false h, if_neg h]; simp [sgn]
  have := mkD_some (decide (n < 0)) (v := if n < 0 then -n else n) (e := 0) (by split <;> omega) (by
    have : (wd (if n < 0 then -n else n)).length ≤ 1 := wd_length_le (by split <;> omega) (by rw [Int.pow_succ, Int.pow_zero, Int.one_mul, B_eq]; split <;> omega)
    omega) (by decide) (by decide)
  rw [e] at this
  exact this
set_option maxHeartbeats 2000000 in
theorem spnum (g : Nat) (P : Int) (bad : Bool) (n : Int) (w : World) (hk : Wk w g P bad 64) (hT : Tz w) (h0 : -9223372036854775808 ≤ n) (h1 : n ≤ 9223372036854775807) :
    Calls Tryd.prog 38 #[.pointer (some ⟨g, 0, none⟩), .int .i64 n] w (RetSp (numO bad P n) g P 64 w) := by
  have hm := int_made h0 h1
  have hpl := mk_plain (by split <;> omega) hm
  have hD : canD n 0 = ⟨(canD n 0).neg, (canD n 0).m, (canD n 0).e⟩ := rfl
  have ho : pointO bad P (canD n 0).neg (wd (canD n 0).m) (canD n 0).e = numO bad P n := by
    unfold pointO numO workB
    rw [hpl.1, val_wd _ hpl.2]
    simp
  have hg := hk.lt
  obtain ⟨m0, hm0⟩ : ∃ m0, m0 = if n < 0 then -n else n := ⟨_, rfl⟩
  rw [← hm0] at hm
  have b1 : Below w.heap.size w (w.alloc (.cells #[.bool false, .slice none 0 0, .int .i64 0, .bool false, .slice none 0 0, .int .i64 0] 41)) := below_alloc (below_self w) _
  have b2 : Below w.heap.size w ((w.alloc (.cells #[.bool false, .slice none 0 0, .int .i64 0, .bool false, .slice none 0 0, .int .i64 0] 41)).alloc (.cells #[.int .u64 m0] 27)) := below_alloc b1 _
  have xr := (box_new w #[.bool false, .slice none 0 0, .int .i64 0, .bool false, .slice none 0 0, .int .i64 0] 41).later (below_alloc (below_self _) (.cells #[.int .u64 m0] 27))
  have hu := arr_one (w := w.alloc (.cells #[.bool false, .slice none 0 0, .int .i64 0, .bool false, .slice none 0 0, .int .i64 0] 41)) (g := w.heap.size + 1) (by simp) m0 (by rw [hm0]; split <;> omega) (by rw [hm0]; split <;> omega)
  have MK := make (decide (n < 0)) _ 1 1 [m0] 0 _ hu (by decide) (by decide) (by decide) (hT.below b2)
  rw [val_one, hm] at MK
  generalize numO bad P n = o at *
  generalize canD n 0 = d at *
  obtain ⟨s, m, f⟩ := d
  simp only at ho
  have HO := Lib.hid ho
  clear hD hpl hm ho
  by_cases hn : n < 0
  · have d0 : decide (n < 0) = true := decide_eq_true hn
    rw [d0] at MK
    have MK := Lib.hid MK
    rw [if_pos hn] at hm0
    have e1 : -n = m0 := hm0.symm
    have c1 : IntKind.u64.wrap n = n + 18446744073709551616 := by rw [IntKind.wrap_u64]; omega
    have c2 : IntKind.u64.wrap (-(n + 18446744073709551616)) = m0 := by rw [IntKind.wrap_u64]; omega
    have c3 : IntKind.u64.wrap (-n) = m0 := by rw [IntKind.wrap_u64]; omega
    clear hm0 e1
    (go_enter Tryd.func38, Tryd.ntmps38; go_wp2_with fail; refine MK.out.mono ?_; rintro r w4 hr; obtain ⟨A4, n4, c4, rfl, h4, hb4⟩ := retD_some2 hr; clear hr; have b5 := below_alloc hb4 (.cells #[.bool s, .slice A4 n4 c4, .int .i64 f] 24); have h5 := h4.below (below_alloc (below_self w4) (.cells #[.bool s, .slice A4 n4 c4, .int .i64 f] 24)); have x5 := box_new w4 #[.bool s, .slice A4 n4 c4, .int .i64 f] 24; have bb5 := below_on b2 b5; have hk5 := hk.later bb5; have xr5 := xr.later b5; obtain ⟨k0, k1, k2, f0, f1, f2⟩ := x5.cell3; have PT := sppoint g P bad s A4 n4 c4 (wd m) f _ hk5 h5; rw [HO.out] at PT; have PT := Lib.hid PT; go_wp2_with fail; refine PT.out.mono ?_; rintro r w6 ⟨A6, n6, c6, A7, n7, c7, rfl, h6, h7, hk6, g6⟩; have xr6 := xr5.grown g6 (show w.heap.size ≠ g by omega); have gw := grown_trans (grown_of bb5 (some g)) g6; clear PT k0 k1 k2 f0 f1 f2; go_wp2_with (refine wp_put6 rfl _ _ rfl rfl w.heap.size _ A6 n6 c6 _ _ A7 n7 c7 _ xr6 rfl rfl (fun W1 y1 gW1 => ?_); have hk7 := hk6.other gW1 (show g ≠ w.heap.size by omega); have h8 := h6.grown xr6 (no6 (by simp) (by simp) (by simp) (by simp) (by simp) (by simp)) gW1; have h9 := h7.grown xr6 (no6 (by simp) (by simp) (by simp) (by simp) (by simp) (by simp)) gW1; obtain ⟨u0, u1, u2, u3, u4, u5, -⟩ := y1.cell6); refine bodyPost_ret (v := _) ?_ rfl ⟨A6, n6, c6, A7, n7, c7, rfl, h8, h9, hk7, ?_⟩; (simp [results, Tryd.results38, go_sem, u0, u1, u2, u3, u4, u5]); (exact grown_own gw gW1 (Nat.le_refl _)))
  · have d0 : decide (n < 0) = false := decide_eq_false hn
    rw [d0] at MK
    rw [if_neg hn] at hm0
    subst hm0
    have MK := Lib.hid MK
    have c1 : IntKind.u64.wrap m0 = m0 := by rw [IntKind.wrap_u64]; omega
    (go_enter Tryd.func38, Tryd.ntmps38; go_wp2_with fail; refine MK.out.mono ?_; rintro r w4 hr; obtain ⟨A4, n4, c4, rfl, h4, hb4⟩ := retD_some2 hr; clear hr; have b5 := below_alloc hb4 (.cells #[.bool s, .slice A4 n4 c4, .int .i64 f] 24); have h5 := h4.below (below_alloc (below_self w4) (.cells #[.bool s, .slice A4 n4 c4, .int .i64 f] 24)); have x5 := box_new w4 #[.bool s, .slice A4 n4 c4, .int .i64 f] 24; have bb5 := below_on b2 b5; have hk5 := hk.later bb5; have xr5 := xr.later b5; obtain ⟨k0, k1, k2, f0, f1, f2⟩ := x5.cell3; have PT := sppoint g P bad s A4 n4 c4 (wd m) f _ hk5 h5; rw [HO.out] at PT; have PT := Lib.hid PT; go_wp2_with fail; refine PT.out.mono ?_; rintro r w6 ⟨A6, n6, c6, A7, n7, c7, rfl, h6, h7, hk6, g6⟩; have xr6 := xr5.grown g6 (show w.heap.size ≠ g by omega); have gw := grown_trans (grown_of bb5 (some g)) g6; clear PT k0 k1 k2 f0 f1 f2; go_wp2_with (refine wp_put6 rfl _ _ rfl rfl w.heap.size _ A6 n6 c6 _ _ A7 n7 c7 _ xr6 rfl rfl (fun W1 y1 gW1 => ?_); have hk7 := hk6.other gW1 (show g ≠ w.heap.size by omega); have h8 := h6.grown xr6 (no6 (by simp) (by simp) (by simp) (by simp) (by simp) (by simp)) gW1; have h9 := h7.grown xr6 (no6 (by simp) (by simp) (by simp) (by simp) (by simp) (by simp)) gW1; obtain ⟨u0, u1, u2, u3, u4, u5, -⟩ := y1.cell6); refine bodyPost_ret (v := _) ?_ rfl ⟨A6, n6, c6, A7, n7, c7, rfl, h8, h9, hk7, ?_⟩; (simp [results, Tryd.results38, go_sem, u0, u1, u2, u3, u4, u5]); (exact grown_own gw gW1 (Nat.le_refl _)))
end Go.Proofs.YtlmojkknlkfloaaDoor
