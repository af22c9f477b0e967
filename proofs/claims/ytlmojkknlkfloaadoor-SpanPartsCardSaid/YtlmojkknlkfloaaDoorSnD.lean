/- A work: Point, Num. -/
import Derived.Test.YtlmojkknlkfloaaDoorSnC
import Derived.Test.YtlmojkknlkfloaaDoorMS
namespace Go.Proofs.YtlmojkknlkfloaaDoor
open Go.RowKit Num
set_option linter.unusedSimpArgs false
set_option linter.unusedVariables false
set_option maxRecDepth 100000

/-- What a work returns: a span, or it is bad now and returns none. -/
def RetSp (o : Option (Dy × Dy)) (g : Nat) (P : Int) (t : TypeId) (w : World) (r : Ending) (w' : World) : Prop :=
  ∃ A n c A' n' c', r = .returned (.agg #[.bool (o.getD (Dy.zero, Dy.zero)).1.neg, .slice A n c, .int .i64 (o.getD (Dy.zero, Dy.zero)).1.e, .bool (o.getD (Dy.zero, Dy.zero)).2.neg, .slice A' n' c', .int .i64 (o.getD (Dy.zero, Dy.zero)).2.e]) ∧
    Arr w' A n c (wd (o.getD (Dy.zero, Dy.zero)).1.m) ∧ Arr w' A' n' c' (wd (o.getD (Dy.zero, Dy.zero)).2.m) ∧ Wk w' g P o.isNone t ∧ w.grownBy w' (some g)
theorem wd_zero_m : wd Dy.zero.m = [] := wd_zero (Int.le_refl _)
theorem retSp_none {g : Nat} {P : Int} {t : TypeId} {w w' : World} (hk : Wk w' g P true t) (hg : w.grownBy w' (some g)) :
    RetSp none g P t w (.returned (.agg #[.bool false, .slice none 0 0, .int .i64 0, .bool false, .slice none 0 0, .int .i64 0])) w' :=
  ⟨none, 0, 0, none, 0, 0, rfl, by show Arr w' none 0 0 (wd Dy.zero.m); rw [wd_zero_m]; exact Arr.nothing _, by show Arr w' none 0 0 (wd Dy.zero.m); rw [wd_zero_m]; exact Arr.nothing _, hk, hg⟩
def SVal.lo (s : SVal) : Dy := ⟨s.p, val s.xs, s.e⟩
def SVal.hi (s : SVal) : Dy := ⟨s.q, val s.ys, s.f⟩
theorem svs_one {w : World} {h : Nat} {p q : Bool} {A A' : Option Addr} {n c n' c' : Nat} {e f : Int} {xs ys : List Int} {t : TypeId} (hb : Box w h #[.bool p, .slice A n c, .int .i64 e, .bool q, .slice A' n' c', .int .i64 f] t) (ha : Arr w A n c xs) (ha' : Arr w A' n' c' ys) :
    SVs w h [⟨p, A, n, c, xs, e, q, A', n', c', ys, f⟩] := by
  have one : ∀ j, j < [(⟨p, A, n, c, xs, e, q, A', n', c', ys, f⟩ : SVal)].length → j = 0 := fun j hj => by simpa using hj
  refine ⟨hb.lt, fun j hj => ?_, fun j hj => ?_, fun j hj => ?_, fun j hj => ?_, fun j hj => ?_, fun j hj => ?_, fun j hj => ?_⟩ <;> obtain rfl := one j hj
  · exact ⟨ha, ha'⟩
  · exact hb.cell 0
  · exact hb.cell 1
  · exact hb.cell 2
  · exact hb.cell 3
  · exact hb.cell 4
  · exact hb.cell 5
theorem ends_self (p : Bool) (xs : List Int) (e : Int) : rightS p p xs xs e e = plainB p xs e := by
  unfold rightS bothB endsI
  cases plainB p xs e
  · rfl
  · have : cmpD ⟨p, val xs, e⟩ ⟨p, val xs, e⟩ = 0 := by unfold cmpD; exact cmpI_eq rfl
    simp [this]
def pointO (bad : Bool) (P : Int) (p : Bool) (xs : List Int) (e : Int) : Option (Dy × Dy) := if bad || decide (P < 1) || decide (8192 < P) || !plainB p xs e then none else some (⟨p, val xs, e⟩, ⟨p, val xs, e⟩)
set_option maxHeartbeats 2000000 in
theorem sppoint (g : Nat) (P : Int) (bad : Bool) (p : Bool) (A : Option Addr) (n c : Nat) (xs : List Int) (e : Int) (w : World) (hk : Wk w g P bad 64) (h : Arr w A n c xs) :
    Calls Tryd.prog 42 #[.pointer (some ⟨g, 0, none⟩), .agg #[.bool p, .slice A n c, .int .i64 e]] w (RetSp (pointO bad P p xs e) g P 64 w) := by
  have b1 := below_alloc (below_self w) (.cells #[.bool p, .slice A n c, .int .i64 e] 24)
  have b2 : Below w.heap.size w ((w.alloc (.cells #[.bool p, .slice A n c, .int .i64 e] 24)).alloc (.cells #[.bool false, .slice none 0 0, .int .i64 0, .bool false, .slice none 0 0, .int .i64 0] 41)) := below_alloc b1 _
  have b3 : Below w.heap.size w (((w.alloc (.cells #[.bool p, .slice A n c, .int .i64 e] 24)).alloc (.cells #[.bool false, .slice none 0 0, .int .i64 0, .bool false, .slice none 0 0, .int .i64 0] 41)).alloc (.cells #[.bool p, .slice A n c, .int .i64 e, .bool p, .slice A n c, .int .i64 e] 41)) := below_alloc b2 _
  have xa := (box_new w #[.bool p, .slice A n c, .int .i64 e] 24).later (below_alloc (below_alloc (below_self _) (.cells #[.bool false, .slice none 0 0, .int .i64 0, .bool false, .slice none 0 0, .int .i64 0] 41)) (.cells #[.bool p, .slice A n c, .int .i64 e, .bool p, .slice A n c, .int .i64 e] 41))
  have xr := (box_new (w.alloc (.cells #[.bool p, .slice A n c, .int .i64 e] 24)) #[.bool false, .slice none 0 0, .int .i64 0, .bool false, .slice none 0 0, .int .i64 0] 41).later (below_alloc (below_self _) (.cells #[.bool p, .slice A n c, .int .i64 e, .bool p, .slice A n c, .int .i64 e] 41))
  rw [show (w.alloc (.cells #[.bool p, .slice A n c, .int .i64 e] 24)).heap.size = w.heap.size + 1 by simp] at xr
  have xs1 := box_new ((w.alloc (.cells #[.bool p, .slice A n c, .int .i64 e] 24)).alloc (.cells #[.bool false, .slice none 0 0, .int .i64 0, .bool false, .slice none 0 0, .int .i64 0] 41)) #[.bool p, .slice A n c, .int .i64 e, .bool p, .slice A n c, .int .i64 e] 41
  rw [show ((w.alloc (.cells #[.bool p, .slice A n c, .int .i64 e] 24)).alloc (.cells #[.bool false, .slice none 0 0, .int .i64 0, .bool false, .slice none 0 0, .int .i64 0] 41)).heap.size = w.heap.size + 1 + 1 by simp] at xs1
  have hk3 := hk.later b3
  have hg := hk.lt
  have h3 := h.below b3
  have TK := sptake g (w.heap.size + 1 + 1) 1 P bad [⟨p, A, n, c, xs, e, p, A, n, c, xs, e⟩] rfl _ hk3 (svs_one xs1 h3 h3) (by omega) (by decide)
  have hl : takeB bad P [⟨p, A, n, c, xs, e, p, A, n, c, xs, e⟩] = (bad || decide (P < 1) || decide (8192 < P) || !plainB p xs e) := by
    unfold takeB SVal.right
    simp [ends_self]
  rw [hl] at TK
  have ho : pointO bad P p xs e = if bad || decide (P < 1) || decide (8192 < P) || !plainB p xs e then none else some (⟨p, val xs, e⟩, ⟨p, val xs, e⟩) := rfl
  rw [ho]
  have hw : (bad || decide (P < 1) || decide (8192 < P) || !plainB p xs e) = false → wd (val xs) = xs := fun hh => by
    simp only [Bool.or_eq_false_iff, Bool.not_eq_false'] at hh
    exact (plainB_parts h.wf hh.2).2.2.1
  obtain ⟨k0, k1, k2, f0, f1, f2⟩ := (box_new w #[.bool p, .slice A n c, .int .i64 e] 24).later (below_alloc (below_self _) (.cells #[.bool false, .slice none 0 0, .int .i64 0, .bool false, .slice none 0 0, .int .i64 0] 41)) |>.cell3
  have TK := Lib.hid TK
  clear hl ho
  generalize (bad || decide (P < 1) || decide (8192 < P) || !plainB p xs e) = bb at *
  have HW := Lib.hid hw
  clear hw
  cases bb
  · go_enter Tryd.func42, Tryd.ntmps42
    go_wp2_with fail
    refine TK.out.mono ?_
    rintro r w5 ⟨rfl, hk5, g5⟩
    have xa5 := xa.grown g5 (show w.heap.size ≠ g by omega)
    have xr5 := xr.grown g5 (show w.heap.size + 1 ≠ g by omega)
    have h5 := hk3.arr h3 g5
    have gw := grown_trans (grown_of b3 (some g)) g5
    clear k0 k1 k2 f0 f1 f2
    obtain ⟨k0, k1, k2, f0, f1, f2⟩ := xa5.cell3
    go_wp2_with (refine wp_put6 rfl _ _ rfl rfl (w.heap.size + 1) p A n c e p A n c e xr5 rfl rfl (fun W1 y1 gW1 => ?_); have hk6 := hk5.other gW1 (show g ≠ w.heap.size + 1 by omega); have h6 := h5.grown xr5 (no6 (by simp) (by simp) (by simp) (by simp) (by simp) (by simp)) gW1; obtain ⟨u0, u1, u2, u3, u4, u5, -⟩ := y1.cell6)
    refine bodyPost_ret (v := .agg #[.bool p, .slice A n c, .int .i64 e, .bool p, .slice A n c, .int .i64 e]) ?_ rfl ⟨A, n, c, A, n, c, rfl, ?_, ?_, hk6, ?_⟩
    · simp [results, Tryd.results42, go_sem, u0, u1, u2, u3, u4, u5]
    · show Arr W1 A n c (wd (val xs)); rw [HW.out trivial]; exact h6
    · show Arr W1 A n c (wd (val xs)); rw [HW.out trivial]; exact h6
    · exact ⟨gW1.os.trans gw.os, gW1.tape.trans gw.tape, gW1.output.trans gw.output, Nat.le_trans gw.size gW1.size, fun k hk' hne => (gW1.block k (Nat.lt_of_lt_of_le hk' gw.size) (by simp; omega)).trans (gw.block k hk' hne)⟩
  · go_enter Tryd.func42, Tryd.ntmps42
    go_wp2_with fail
    refine TK.out.mono ?_
    rintro r w5 ⟨rfl, hk5, g5⟩
    have xr5 := xr.grown g5 (show w.heap.size + 1 ≠ g by omega)
    have gw := grown_trans (grown_of b3 (some g)) g5
    go_wp2_with (refine wp_put6 rfl _ _ rfl rfl (w.heap.size + 1) false none 0 0 0 false none 0 0 0 xr5 rfl rfl (fun W1 y1 gW1 => ?_); have hk6 := hk5.other gW1 (show g ≠ w.heap.size + 1 by omega); obtain ⟨u0, u1, u2, u3, u4, u5, -⟩ := y1.cell6)
    refine bodyPost_ret (v := .agg #[.bool false, .slice none 0 0, .int .i64 0, .bool false, .slice none 0 0, .int .i64 0]) ?_ rfl (retSp_none hk6 ?_)
    · simp [results, Tryd.results42, go_sem, u0, u1, u2, u3, u4, u5]
    · exact ⟨gW1.os.trans gw.os, gW1.tape.trans gw.tape, gW1.output.trans gw.output, Nat.le_trans gw.size gW1.size, fun k hk' hne => (gW1.block k (Nat.lt_of_lt_of_le hk' gw.size) (by simp; omega)).trans (gw.block k hk' hne)⟩
end Go.Proofs.YtlmojkknlkfloaaDoor
