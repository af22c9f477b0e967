/- Plain numbers on one exponent; the hull of two spans either way. -/
import Derived.Test.YteffemhapnbaeaaDoorMV
import Derived.Test.YteffemhapnbaeaaDoorMS
import Derived.Test.YteffemhapnbaeaaDoorMY
import Derived.Test.YteffemhapnbaeaaDoorSoE
import Derived.Test.YteffemhapnbaeaaDoorMX
import Derived.Test.YteffemhapnbaeaaDoorSnX
import Derived.Test.YteffemhapnbaeaaDoorSnY
import Derived.Test.YteffemhapnbaeaaDoorMW
import Derived.Deep.RegionHeld3
namespace Go.Proofs.YteffemhapnbaeaaDoor
open Go.RowKit Num
set_option linter.unusedSimpArgs false
set_option linter.unusedVariables false
set_option maxRecDepth 100000

/-- A plain number. -/
def PlD (D : Dy) : Prop := plainB D.neg (wd D.m) D.e = true ∧ 0 ≤ D.m
theorem PlD.of {p : Bool} {xs : List Int} {e : Int} (hw : Wf xs) (h : plainB p xs e = true) : PlD ⟨p, val xs, e⟩ := by
  have := (plainB_parts hw h).2.2.1
  refine ⟨?_, val_nonneg hw⟩
  show plainB p (wd (val xs)) e = true
  rw [this]; exact h
theorem PlD.zero : PlD Dy.zero := by
  refine ⟨?_, Int.le_refl _⟩
  show plainB false (wd 0) 0 = true
  rw [wd_zero (Int.le_refl _)]; rfl
theorem PlD.can {D : Dy} (h : PlD D) {L : Int} (hL : L ≤ D.e) : D = canD (sval D L) L := by
  obtain ⟨p, m, e⟩ := D
  obtain ⟨h1, h2⟩ := h
  have h1 : plainB p (wd m) e = true := h1
  have h2 : 0 ≤ m := h2
  have hL : L ≤ e := hL
  have hc := plain_can (wf_wd m h2) h1
  rw [val_wd _ h2] at hc
  have hs : sval ⟨p, m, e⟩ L = sgn p m * pw (e - L).toNat := by
    show sgn p (m * pw (e - L).toNat) = _
    exact sgn_mul _ _ _
  rw [hs, canD_scale' _ hL, ← hc]
theorem cDy_is {a b : Dy} (ha : PlD a) (hb : PlD b) : cDy a b = cmpD a b := by
  obtain ⟨p, m, e⟩ := a
  obtain ⟨q, k, f⟩ := b
  obtain ⟨h1, h2⟩ := ha
  obtain ⟨h3, h4⟩ := hb
  unfold cDy endsI
  rw [h1, h3, val_wd _ h2, val_wd _ h4]
  rfl
theorem cDy_can {x y L : Int} (hx : PlD (canD x L)) (hy : PlD (canD y L)) : cDy (canD x L) (canD y L) = cmpI x y := by
  rw [cDy_is hx hy, cmp_can]
def bestI (most : Bool) (x y : Int) : Int := if most then max x y else min x y
theorem step_can {most : Bool} {x y L : Int} (hx : PlD (canD x L)) (hy : PlD (canD y L)) : stepY most (canD x L) (canD y L) = canD (bestI most x y) L := by
  unfold stepY bestI
  rw [cDy_can hy hx]
  cases most
  · simp only [Bool.false_eq_true, if_false, decide_eq_true_eq]
    unfold cmpI
    by_cases h : y < x
    · rw [if_pos (by rw [if_pos h]; decide)]; congr 1; omega
    · rw [if_neg (by split <;> (try split) <;> omega)]; congr 1; omega
  · simp only [if_true, decide_eq_true_eq]
    unfold cmpI
    by_cases h : x < y
    · rw [if_pos (by split <;> (try split) <;> omega)]; congr 1; omega
    · rw [if_neg (by split <;> (try split) <;> omega)]; congr 1; omega
theorem best_pl {most : Bool} {x y L : Int} (hx : PlD (canD x L)) (hy : PlD (canD y L)) : PlD (canD (bestI most x y) L) := by
  have : bestI most x y = x ∨ bestI most x y = y := by unfold bestI; cases most <;> simp <;> omega
  rcases this with h | h <;> rw [h] <;> assumption
theorem four_low (a b c d : Int) : ∃ L, L ≤ a ∧ L ≤ b ∧ L ≤ c ∧ L ≤ d := ⟨min (min a b) (min c d), by omega⟩
theorem best_can {most : Bool} {x y z u L : Int} (hx : PlD (canD x L)) (hy : PlD (canD y L)) (hz : PlD (canD z L)) (hu : PlD (canD u L)) : bestY most (canD x L) (canD y L) (canD z L) (canD u L) = canD (bestI most (bestI most (bestI most x y) z) u) L := by
  unfold bestY
  rw [step_can hx hy, step_can (best_pl hx hy) hz, step_can (best_pl (best_pl hx hy) hz) hu]
theorem cmpI_nonpos {x y : Int} (h : cmpI x y ≤ 0) : x ≤ y := by
  unfold cmpI at h
  by_cases h1 : x < y
  · omega
  · rw [if_neg h1] at h
    by_cases h2 : x = y
    · omega
    · have : ¬ (y = x) := fun h => h2 h.symm
      split at h <;> omega
/-- Of two spans the least and the greatest end: of all four, or of two and two. -/
theorem hull_two {a b c d : Dy} (ha : PlD a) (hb : PlD b) (hc : PlD c) (hd : PlD d) (h1 : cDy a b ≤ 0) (h2 : cDy c d ≤ 0) : bestY false a b c d = stepY false a c ∧ bestY true a b c d = stepY true b d := by
  obtain ⟨L, la, lb, lc, ld⟩ := four_low a.e b.e c.e d.e
  have ea := ha.can la
  have eb := hb.can lb
  have ec := hc.can lc
  have ed := hd.can ld
  generalize sval a L = x at *
  generalize sval b L = y at *
  generalize sval c L = z at *
  generalize sval d L = u at *
  subst ea eb ec ed
  rw [cDy_can ha hb] at h1
  rw [cDy_can hc hd] at h2
  have h1 := cmpI_nonpos h1
  have h2 := cmpI_nonpos h2
  rw [best_can ha hb hc hd, best_can ha hb hc hd, step_can ha hc, step_can hb hd]
  unfold bestI
  simp only [Bool.false_eq_true, if_false, if_true]
  constructor <;> congr 1 <;> omega
theorem right_cDy {p q : Bool} {xs ys : List Int} {e f : Int} (hw : Wf xs) (hw' : Wf ys) (h : rightS p q xs ys e f = true) : PlD ⟨p, val xs, e⟩ ∧ PlD ⟨q, val ys, f⟩ ∧ cDy ⟨p, val xs, e⟩ ⟨q, val ys, f⟩ ≤ 0 := by
  unfold rightS bothB at h
  simp only [Bool.and_eq_true, decide_eq_true_eq] at h
  obtain ⟨⟨h1, h2⟩, h3⟩ := h
  refine ⟨PlD.of hw h1, PlD.of hw' h2, ?_⟩
  have v1 := (plainB_parts hw h1).2.2.1
  have v2 := (plainB_parts hw' h2).2.2.1
  show endsI p q (wd (val xs)) (wd (val ys)) e f ≤ 0
  rw [v1, v2]; exact h3
end Go.Proofs.YteffemhapnbaeaaDoor
/- The law's state: a span, two works; the same answer on both sides. -/
namespace Go.Proofs.YteffemhapnbaeaaDoor
open Go.RowKit Num
set_option linter.unusedSimpArgs false
set_option linter.unusedVariables false
set_option maxRecDepth 100000

def SVal.six' (a : SVal) : Array Value := #[.bool a.p, .slice a.A a.n a.c, .int .i64 a.e, .bool a.q, .slice a.A' a.n' a.c', .int .i64 a.f]
structure Sq (w0 : World) (sa g h : Nat) (a : SVal) (P : Int) (b1 b2 : Bool) (w : World) : Prop where
  xa : Box w sa a.six' 28
  oa : a.ok w
  tz : Tz w
  v : Wk w g P b1 41
  r : Wk w h P b2 42
  nd : sa ≠ g ∧ sa ≠ h ∧ g ≠ h
  ge : w0.heap.size ≤ g ∧ w0.heap.size ≤ h
  below : Below w0.heap.size w0 w
section
variable {w0 : World} {sa g h : Nat} {a : SVal} {P : Int} {b1 b2 : Bool} {w w' : World}
theorem Sq.later (s : Sq w0 sa g h a P b1 b2 w) (hb : Below w.heap.size w w') : Sq w0 sa g h a P b1 b2 w' :=
  ⟨s.xa.later hb, ⟨s.oa.1.below hb, s.oa.2.below hb⟩, s.tz.below hb, s.v.later hb, s.r.later hb, s.nd, s.ge, below_on s.below hb⟩
theorem Sq.drew (s : Sq w0 sa g h a P b1 b2 w) : Sq w0 sa g h a P b1 b2 w.drew := s.later (Below.drew (below_self _))
theorem Sq.drewN {z : Nat} (s : Sq w0 sa g h a P b1 b2 w) : Sq w0 sa g h a P b1 b2 (w.drewN z) := s.later (below_drewN (below_self _) _)
theorem grown_belowQ {w0 w w' : World} {g : Nat} (h : Below w0.heap.size w0 w) (hg : w.grownBy w' (some g)) (hge : w0.heap.size ≤ g) : Below w0.heap.size w0 w' :=
  h.trans (grown_below hg h.size (fun k hk => by cases hk; exact hge))
theorem Sq.onV {b5 : Bool} (s : Sq w0 sa g h a P b1 b2 w) (hg : w.grownBy w' (some g)) (hk : Wk w' g P b5 41) : Sq w0 sa g h a P b5 b2 w' := by
  obtain ⟨n1, n2, n3⟩ := s.nd
  exact ⟨s.xa.grown hg n1, ⟨s.v.arr s.oa.1 hg, s.v.arr s.oa.2 hg⟩, s.v.tz s.tz hg, hk, s.r.other hg n3.symm, s.nd, s.ge, grown_belowQ s.below hg s.ge.1⟩
theorem Sq.onR {b5 : Bool} (s : Sq w0 sa g h a P b1 b2 w) (hg : w.grownBy w' (some h)) (hk : Wk w' h P b5 42) : Sq w0 sa g h a P b1 b5 w' := by
  obtain ⟨n1, n2, n3⟩ := s.nd
  exact ⟨s.xa.grown hg n2, ⟨s.r.arr s.oa.1 hg, s.r.arr s.oa.2 hg⟩, s.r.tz s.tz hg, s.v.other hg n3, hk, s.nd, s.ge, grown_belowQ s.below hg s.ge.2⟩
theorem no_zs : ∀ (i : Nat) (x : Int), (#[.bool false, .slice none 0 0, .int .i64 0, .bool false, .slice none 0 0, .int .i64 0] : Array Value)[i]? ≠ some (Value.int .u64 x) :=
  no6 (by simp) (by simp) (by simp) (by simp) (by simp) (by simp)
/-- Something is kept in a box of one's own. -/
theorem Sq.put {k : Nat} {t : TypeId} (s : Sq w0 sa g h a P b1 b2 w) (hb : Box w k #[.bool false, .slice none 0 0, .int .i64 0, .bool false, .slice none 0 0, .int .i64 0] t) (hg : w.grownBy w' (some k)) (hT : Tz w') (h0 : w0.heap.size ≤ k) (h1 : sa ≠ k) (h2 : g ≠ k) (h3 : h ≠ k) : Sq w0 sa g h a P b1 b2 w' :=
  ⟨s.xa.grown hg h1, ⟨s.oa.1.grown hb no_zs hg, s.oa.2.grown hb no_zs hg⟩, hT, s.v.other hg h2, s.r.other hg h3, s.nd, s.ge, grown_belowQ s.below hg h0⟩
end
theorem tz_put {w w' : World} {k : Nat} {t : TypeId} (hT : Tz w) (hb : Box w k #[.bool false, .slice none 0 0, .int .i64 0, .bool false, .slice none 0 0, .int .i64 0] t) (hg : w.grownBy w' (some k)) : Tz w' := by
  have hne : 0 ≠ k := by
    intro hh
    subst hh
    have h0 := hT.tab 0 (by decide)
    rw [hb.cell 0] at h0
    simp at h0
  refine ⟨fun j hj => ?_⟩
  have h1 := hT.tab j hj
  have hlt := World.block_lt_of_cell? (w := w) (a := ⟨0, j, none⟩) h1
  rw [World.cell?_of_block (w := w) (w' := w') (hg.block _ hlt (by simpa using hne))]
  exact h1
section
variable {w0 : World} {sa g h : Nat} {p q : Bool} {A A' : Option Addr} {n c n' c' : Nat} {xs ys : List Int} {e f P : Int} {b : Bool}
theorem pair_of {FV FR : FuncId} {AV AR : Array Value} {o : Option (Dy × Dy)} (hV : ∀ b2 w', (Sq w0 sa g h (⟨p, A, n, c, xs, e, q, A', n', c', ys, f⟩ : SVal) P b b2 w') → Calls Tryd.prog FV AV w' (RetSp o g P 41 w')) (hR : ∀ b1 w', (Sq w0 sa g h (⟨p, A, n, c, xs, e, q, A', n', c', ys, f⟩ : SVal) P b1 b w') → Calls Tryd.prog FR AR w' (RetSp o h P 42 w')) : (∃ (s t z : Bool) (m1 f1 m2 f2 : Int), (∀ b2 w', (Sq w0 sa g h (⟨p, A, n, c, xs, e, q, A', n', c', ys, f⟩ : SVal) P b b2 w') → Calls Tryd.prog FV AV w' fun r w'' => (∃ X5 n5 c5 Y5 n6 c6, r = .returned (.agg #[.bool (⟨s, m1, f1⟩ : Dy).neg, .slice X5 n5 c5, .int .i64 (⟨s, m1, f1⟩ : Dy).e, .bool (⟨t, m2, f2⟩ : Dy).neg, .slice Y5 n6 c6, .int .i64 (⟨t, m2, f2⟩ : Dy).e]) ∧ Arr w'' X5 n5 c5 (wd (⟨s, m1, f1⟩ : Dy).m) ∧ Arr w'' Y5 n6 c6 (wd (⟨t, m2, f2⟩ : Dy).m) ∧ (Sq w0 sa g h (⟨p, A, n, c, xs, e, q, A', n', c', ys, f⟩ : SVal) P z b2 w'') ∧ (∀ A n c xs, Arr w' A n c xs → Arr w'' A n c xs) ∧ ∀ k cs t, k ≠ g → k ≠ h → Box w' k cs t → Box w'' k cs t)) ∧ (∀ b1 w', (Sq w0 sa g h (⟨p, A, n, c, xs, e, q, A', n', c', ys, f⟩ : SVal) P b1 b w') → Calls Tryd.prog FR AR w' fun r w'' => (∃ X5 n5 c5 Y5 n6 c6, r = .returned (.agg #[.bool (⟨s, m1, f1⟩ : Dy).neg, .slice X5 n5 c5, .int .i64 (⟨s, m1, f1⟩ : Dy).e, .bool (⟨t, m2, f2⟩ : Dy).neg, .slice Y5 n6 c6, .int .i64 (⟨t, m2, f2⟩ : Dy).e]) ∧ Arr w'' X5 n5 c5 (wd (⟨s, m1, f1⟩ : Dy).m) ∧ Arr w'' Y5 n6 c6 (wd (⟨t, m2, f2⟩ : Dy).m) ∧ (Sq w0 sa g h (⟨p, A, n, c, xs, e, q, A', n', c', ys, f⟩ : SVal) P b1 z w'') ∧ (∀ A n c xs, Arr w' A n c xs → Arr w'' A n c xs) ∧ ∀ k cs t, k ≠ g → k ≠ h → Box w' k cs t → Box w'' k cs t))) := by
  refine ⟨(o.getD (Dy.zero, Dy.zero)).1.neg, (o.getD (Dy.zero, Dy.zero)).2.neg, o.isNone, (o.getD (Dy.zero, Dy.zero)).1.m, (o.getD (Dy.zero, Dy.zero)).1.e, (o.getD (Dy.zero, Dy.zero)).2.m, (o.getD (Dy.zero, Dy.zero)).2.e, ?_, ?_⟩
  · intro b2 w' s
    refine (hV b2 w' s).mono ?_
    rintro r w'' ⟨X1, n1, c1, Y1, m1, d1, rfl, x1, y1, hk, hg⟩
    exact ⟨X1, n1, c1, Y1, m1, d1, rfl, x1, y1, s.onV hg hk, fun A n c xs ha => s.v.arr ha hg, fun k cs t n1 n2 hb => hb.grown hg n1⟩
  · intro b1 w' s
    refine (hR b1 w' s).mono ?_
    rintro r w'' ⟨X1, n1, c1, Y1, m1, d1, rfl, x1, y1, hk, hg⟩
    exact ⟨X1, n1, c1, Y1, m1, d1, rfl, x1, y1, s.onR hg hk, fun A n c xs ha => s.r.arr ha hg, fun k cs t n1 n2 hb => hb.grown hg n2⟩
theorem case_neg (hn : n ≤ 100000) (hn' : n' ≤ 100000) : (∃ (s t z : Bool) (m1 f1 m2 f2 : Int), (∀ b2 w', (Sq w0 sa g h (⟨p, A, n, c, xs, e, q, A', n', c', ys, f⟩ : SVal) P b b2 w') → Calls Tryd.prog 8 #[.pointer (some ⟨g, 0, none⟩), (.agg #[.bool p, .slice A n c, .int .i64 e, .bool q, .slice A' n' c', .int .i64 f])] w' fun r w'' => (∃ X5 n5 c5 Y5 n6 c6, r = .returned (.agg #[.bool (⟨s, m1, f1⟩ : Dy).neg, .slice X5 n5 c5, .int .i64 (⟨s, m1, f1⟩ : Dy).e, .bool (⟨t, m2, f2⟩ : Dy).neg, .slice Y5 n6 c6, .int .i64 (⟨t, m2, f2⟩ : Dy).e]) ∧ Arr w'' X5 n5 c5 (wd (⟨s, m1, f1⟩ : Dy).m) ∧ Arr w'' Y5 n6 c6 (wd (⟨t, m2, f2⟩ : Dy).m) ∧ (Sq w0 sa g h (⟨p, A, n, c, xs, e, q, A', n', c', ys, f⟩ : SVal) P z b2 w'') ∧ (∀ A n c xs, Arr w' A n c xs → Arr w'' A n c xs) ∧ ∀ k cs t, k ≠ g → k ≠ h → Box w' k cs t → Box w'' k cs t)) ∧ (∀ b1 w', (Sq w0 sa g h (⟨p, A, n, c, xs, e, q, A', n', c', ys, f⟩ : SVal) P b1 b w') → Calls Tryd.prog 9 #[.pointer (some ⟨h, 0, none⟩), (.agg #[.bool p, .slice A n c, .int .i64 e, .bool q, .slice A' n' c', .int .i64 f])] w' fun r w'' => (∃ X5 n5 c5 Y5 n6 c6, r = .returned (.agg #[.bool (⟨s, m1, f1⟩ : Dy).neg, .slice X5 n5 c5, .int .i64 (⟨s, m1, f1⟩ : Dy).e, .bool (⟨t, m2, f2⟩ : Dy).neg, .slice Y5 n6 c6, .int .i64 (⟨t, m2, f2⟩ : Dy).e]) ∧ Arr w'' X5 n5 c5 (wd (⟨s, m1, f1⟩ : Dy).m) ∧ Arr w'' Y5 n6 c6 (wd (⟨t, m2, f2⟩ : Dy).m) ∧ (Sq w0 sa g h (⟨p, A, n, c, xs, e, q, A', n', c', ys, f⟩ : SVal) P b1 z w'') ∧ (∀ A n c xs, Arr w' A n c xs → Arr w'' A n c xs) ∧ ∀ k cs t, k ≠ g → k ≠ h → Box w' k cs t → Box w'' k cs t))) :=
  pair_of (o := twoO (takeB b P [(⟨p, A, n, c, xs, e, q, A', n', c', ys, f⟩ : SVal)]) (negD q ys f) (negD p xs e)) (fun b2 w' s => spneg p q A A' n c n' c' xs ys e f P g b w' s.oa.1 s.oa.2 s.tz s.v) (fun b1 w' s => rnegs03 p q A A' n c n' c' xs ys e f P h b w' s.oa.1 s.oa.2 s.r hn hn')
theorem case_out (hn : n ≤ 100000) (hn' : n' ≤ 100000) : (∃ (s t z : Bool) (m1 f1 m2 f2 : Int), (∀ b2 w', (Sq w0 sa g h (⟨p, A, n, c, xs, e, q, A', n', c', ys, f⟩ : SVal) P b b2 w') → Calls Tryd.prog 10 #[.pointer (some ⟨g, 0, none⟩), (.agg #[.bool p, .slice A n c, .int .i64 e, .bool q, .slice A' n' c', .int .i64 f])] w' fun r w'' => (∃ X5 n5 c5 Y5 n6 c6, r = .returned (.agg #[.bool (⟨s, m1, f1⟩ : Dy).neg, .slice X5 n5 c5, .int .i64 (⟨s, m1, f1⟩ : Dy).e, .bool (⟨t, m2, f2⟩ : Dy).neg, .slice Y5 n6 c6, .int .i64 (⟨t, m2, f2⟩ : Dy).e]) ∧ Arr w'' X5 n5 c5 (wd (⟨s, m1, f1⟩ : Dy).m) ∧ Arr w'' Y5 n6 c6 (wd (⟨t, m2, f2⟩ : Dy).m) ∧ (Sq w0 sa g h (⟨p, A, n, c, xs, e, q, A', n', c', ys, f⟩ : SVal) P z b2 w'') ∧ (∀ A n c xs, Arr w' A n c xs → Arr w'' A n c xs) ∧ ∀ k cs t, k ≠ g → k ≠ h → Box w' k cs t → Box w'' k cs t)) ∧ (∀ b1 w', (Sq w0 sa g h (⟨p, A, n, c, xs, e, q, A', n', c', ys, f⟩ : SVal) P b1 b w') → Calls Tryd.prog 11 #[.pointer (some ⟨h, 0, none⟩), (.agg #[.bool p, .slice A n c, .int .i64 e, .bool q, .slice A' n' c', .int .i64 f])] w' fun r w'' => (∃ X5 n5 c5 Y5 n6 c6, r = .returned (.agg #[.bool (⟨s, m1, f1⟩ : Dy).neg, .slice X5 n5 c5, .int .i64 (⟨s, m1, f1⟩ : Dy).e, .bool (⟨t, m2, f2⟩ : Dy).neg, .slice Y5 n6 c6, .int .i64 (⟨t, m2, f2⟩ : Dy).e]) ∧ Arr w'' X5 n5 c5 (wd (⟨s, m1, f1⟩ : Dy).m) ∧ Arr w'' Y5 n6 c6 (wd (⟨t, m2, f2⟩ : Dy).m) ∧ (Sq w0 sa g h (⟨p, A, n, c, xs, e, q, A', n', c', ys, f⟩ : SVal) P b1 z w'') ∧ (∀ A n c xs, Arr w' A n c xs → Arr w'' A n c xs) ∧ ∀ k cs t, k ≠ g → k ≠ h → Box w' k cs t → Box w'' k cs t))) :=
  pair_of (o := twoO (takeB b P [(⟨p, A, n, c, xs, e, q, A', n', c', ys, f⟩ : SVal)]) (cutO p xs e P false) (cutO q ys f P true)) (fun b2 w' s => spout p q A A' n c n' c' xs ys e f P g b w' s.oa.1 s.oa.2 s.tz s.v) (fun b1 w' s => rout03 p q A A' n c n' c' xs ys e f P h b w' s.oa.1 s.oa.2 s.r hn hn')
theorem case_num {k : Int} (h0 : -9223372036854775808 ≤ k) (h1 : k ≤ 9223372036854775807) : (∃ (s t z : Bool) (m1 f1 m2 f2 : Int), (∀ b2 w', (Sq w0 sa g h (⟨p, A, n, c, xs, e, q, A', n', c', ys, f⟩ : SVal) P b b2 w') → Calls Tryd.prog 12 #[.pointer (some ⟨g, 0, none⟩), .int .i64 k] w' fun r w'' => (∃ X5 n5 c5 Y5 n6 c6, r = .returned (.agg #[.bool (⟨s, m1, f1⟩ : Dy).neg, .slice X5 n5 c5, .int .i64 (⟨s, m1, f1⟩ : Dy).e, .bool (⟨t, m2, f2⟩ : Dy).neg, .slice Y5 n6 c6, .int .i64 (⟨t, m2, f2⟩ : Dy).e]) ∧ Arr w'' X5 n5 c5 (wd (⟨s, m1, f1⟩ : Dy).m) ∧ Arr w'' Y5 n6 c6 (wd (⟨t, m2, f2⟩ : Dy).m) ∧ (Sq w0 sa g h (⟨p, A, n, c, xs, e, q, A', n', c', ys, f⟩ : SVal) P z b2 w'') ∧ (∀ A n c xs, Arr w' A n c xs → Arr w'' A n c xs) ∧ ∀ k cs t, k ≠ g → k ≠ h → Box w' k cs t → Box w'' k cs t)) ∧ (∀ b1 w', (Sq w0 sa g h (⟨p, A, n, c, xs, e, q, A', n', c', ys, f⟩ : SVal) P b1 b w') → Calls Tryd.prog 13 #[.pointer (some ⟨h, 0, none⟩), .int .i64 k] w' fun r w'' => (∃ X5 n5 c5 Y5 n6 c6, r = .returned (.agg #[.bool (⟨s, m1, f1⟩ : Dy).neg, .slice X5 n5 c5, .int .i64 (⟨s, m1, f1⟩ : Dy).e, .bool (⟨t, m2, f2⟩ : Dy).neg, .slice Y5 n6 c6, .int .i64 (⟨t, m2, f2⟩ : Dy).e]) ∧ Arr w'' X5 n5 c5 (wd (⟨s, m1, f1⟩ : Dy).m) ∧ Arr w'' Y5 n6 c6 (wd (⟨t, m2, f2⟩ : Dy).m) ∧ (Sq w0 sa g h (⟨p, A, n, c, xs, e, q, A', n', c', ys, f⟩ : SVal) P b1 z w'') ∧ (∀ A n c xs, Arr w' A n c xs → Arr w'' A n c xs) ∧ ∀ k cs t, k ≠ g → k ≠ h → Box w' k cs t → Box w'' k cs t))) :=
  pair_of (o := numO b P k) (fun b2 w' s => spnum g P b k w' s.v s.tz h0 h1) (fun b1 w' s => rnum03 h P b k w' s.r h0 h1)
theorem case_point (hn' : n' ≤ 100000) : (∃ (s t z : Bool) (m1 f1 m2 f2 : Int), (∀ b2 w', (Sq w0 sa g h (⟨p, A, n, c, xs, e, q, A', n', c', ys, f⟩ : SVal) P b b2 w') → Calls Tryd.prog 16 #[.pointer (some ⟨g, 0, none⟩), .agg #[.bool q, .slice A' n' c', .int .i64 f]] w' fun r w'' => (∃ X5 n5 c5 Y5 n6 c6, r = .returned (.agg #[.bool (⟨s, m1, f1⟩ : Dy).neg, .slice X5 n5 c5, .int .i64 (⟨s, m1, f1⟩ : Dy).e, .bool (⟨t, m2, f2⟩ : Dy).neg, .slice Y5 n6 c6, .int .i64 (⟨t, m2, f2⟩ : Dy).e]) ∧ Arr w'' X5 n5 c5 (wd (⟨s, m1, f1⟩ : Dy).m) ∧ Arr w'' Y5 n6 c6 (wd (⟨t, m2, f2⟩ : Dy).m) ∧ (Sq w0 sa g h (⟨p, A, n, c, xs, e, q, A', n', c', ys, f⟩ : SVal) P z b2 w'') ∧ (∀ A n c xs, Arr w' A n c xs → Arr w'' A n c xs) ∧ ∀ k cs t, k ≠ g → k ≠ h → Box w' k cs t → Box w'' k cs t)) ∧ (∀ b1 w', (Sq w0 sa g h (⟨p, A, n, c, xs, e, q, A', n', c', ys, f⟩ : SVal) P b1 b w') → Calls Tryd.prog 17 #[.pointer (some ⟨h, 0, none⟩), .agg #[.bool q, .slice A' n' c', .int .i64 f]] w' fun r w'' => (∃ X5 n5 c5 Y5 n6 c6, r = .returned (.agg #[.bool (⟨s, m1, f1⟩ : Dy).neg, .slice X5 n5 c5, .int .i64 (⟨s, m1, f1⟩ : Dy).e, .bool (⟨t, m2, f2⟩ : Dy).neg, .slice Y5 n6 c6, .int .i64 (⟨t, m2, f2⟩ : Dy).e]) ∧ Arr w'' X5 n5 c5 (wd (⟨s, m1, f1⟩ : Dy).m) ∧ Arr w'' Y5 n6 c6 (wd (⟨t, m2, f2⟩ : Dy).m) ∧ (Sq w0 sa g h (⟨p, A, n, c, xs, e, q, A', n', c', ys, f⟩ : SVal) P b1 z w'') ∧ (∀ A n c xs, Arr w' A n c xs → Arr w'' A n c xs) ∧ ∀ k cs t, k ≠ g → k ≠ h → Box w' k cs t → Box w'' k cs t))) :=
  pair_of (o := pointO b P q ys f) (fun b2 w' s => sppoint g P b q A' n' c' ys f w' s.v s.oa.2) (fun b1 w' s => rpoint03 h P b q A' n' c' ys f w' s.r s.oa.2 (by omega))
theorem case_scale {k : Int} (hn : n ≤ 100000) (hn' : n' ≤ 100000) : (∃ (s t z : Bool) (m1 f1 m2 f2 : Int), (∀ b2 w', (Sq w0 sa g h (⟨p, A, n, c, xs, e, q, A', n', c', ys, f⟩ : SVal) P b b2 w') → Calls Tryd.prog 18 #[.pointer (some ⟨g, 0, none⟩), (.agg #[.bool p, .slice A n c, .int .i64 e, .bool q, .slice A' n' c', .int .i64 f]), .int .i64 k] w' fun r w'' => (∃ X5 n5 c5 Y5 n6 c6, r = .returned (.agg #[.bool (⟨s, m1, f1⟩ : Dy).neg, .slice X5 n5 c5, .int .i64 (⟨s, m1, f1⟩ : Dy).e, .bool (⟨t, m2, f2⟩ : Dy).neg, .slice Y5 n6 c6, .int .i64 (⟨t, m2, f2⟩ : Dy).e]) ∧ Arr w'' X5 n5 c5 (wd (⟨s, m1, f1⟩ : Dy).m) ∧ Arr w'' Y5 n6 c6 (wd (⟨t, m2, f2⟩ : Dy).m) ∧ (Sq w0 sa g h (⟨p, A, n, c, xs, e, q, A', n', c', ys, f⟩ : SVal) P z b2 w'') ∧ (∀ A n c xs, Arr w' A n c xs → Arr w'' A n c xs) ∧ ∀ k cs t, k ≠ g → k ≠ h → Box w' k cs t → Box w'' k cs t)) ∧ (∀ b1 w', (Sq w0 sa g h (⟨p, A, n, c, xs, e, q, A', n', c', ys, f⟩ : SVal) P b1 b w') → Calls Tryd.prog 19 #[.pointer (some ⟨h, 0, none⟩), (.agg #[.bool p, .slice A n c, .int .i64 e, .bool q, .slice A' n' c', .int .i64 f]), .int .i64 k] w' fun r w'' => (∃ X5 n5 c5 Y5 n6 c6, r = .returned (.agg #[.bool (⟨s, m1, f1⟩ : Dy).neg, .slice X5 n5 c5, .int .i64 (⟨s, m1, f1⟩ : Dy).e, .bool (⟨t, m2, f2⟩ : Dy).neg, .slice Y5 n6 c6, .int .i64 (⟨t, m2, f2⟩ : Dy).e]) ∧ Arr w'' X5 n5 c5 (wd (⟨s, m1, f1⟩ : Dy).m) ∧ Arr w'' Y5 n6 c6 (wd (⟨t, m2, f2⟩ : Dy).m) ∧ (Sq w0 sa g h (⟨p, A, n, c, xs, e, q, A', n', c', ys, f⟩ : SVal) P b1 z w'') ∧ (∀ A n c xs, Arr w' A n c xs → Arr w'' A n c xs) ∧ ∀ k cs t, k ≠ g → k ≠ h → Box w' k cs t → Box w'' k cs t))) :=
  pair_of (o := scaleO b P p q xs ys e f k) (fun b2 w' s => spscale p q A A' n c n' c' xs ys e f k P g b w' s.oa.1 s.oa.2 s.tz s.v) (fun b1 w' s => rscale03 p q A A' n c n' c' xs ys e f k P h b w' s.oa.1 s.oa.2 s.r hn hn')
end
theorem take_two (bad : Bool) (P : Int) (p q s t : Bool) (A A' B B' : Option Addr) (n c n' c' m k m' k' : Nat) (xs ys us vs : List Int) (e f i j : Int) : takeB bad P [(⟨p, A, n, c, xs, e, q, A', n', c', ys, f⟩ : SVal), (⟨s, B, m, k, us, i, t, B', m', k', vs, j⟩ : SVal)] = (bad || decide (P < 1) || decide (8192 < P) || !(rightS p q xs ys e f && rightS s t us vs i j)) := by
  unfold takeB SVal.right; simp
theorem wf_wd' (n : Int) : Wf (wd n) := by
  by_cases h : 0 ≤ n
  · exact wf_wd n h
  · rw [wd_zero (by omega)]; exact wf_nil
theorem num_len {b : Bool} {P k : Int} (h0 : -9223372036854775808 ≤ k) (h1 : k ≤ 9223372036854775807) : (wd ((numO b P k).getD (Dy.zero, Dy.zero)).1.m).length ≤ 256 ∧ (wd ((numO b P k).getD (Dy.zero, Dy.zero)).2.m).length ≤ 256 := by
  have hz : (wd Dy.zero.m).length ≤ 256 := by rw [wd_zero_m]; decide
  have hc : (wd (canD k 0).m).length ≤ 256 := plainB_len (mk_plain (by split <;> omega) (int_made h0 h1)).1
  unfold numO
  cases workB b P
  · exact ⟨hc, hc⟩
  · exact ⟨hz, hz⟩
theorem hull_same {bad : Bool} {P : Int} {p q s t : Bool} {xs ys us vs : List Int} {e f i j : Int} (hx : Wf xs) (hy : Wf ys) (hu : Wf us) (hv : Wf vs) {tt : Bool} (ht : tt = (bad || decide (P < 1) || decide (8192 < P) || !(rightS p q xs ys e f && rightS s t us vs i j))) :
    (if tt = false then some (bestY false ⟨p, val xs, e⟩ ⟨q, val ys, f⟩ ⟨s, val us, i⟩ ⟨t, val vs, j⟩, bestY true ⟨p, val xs, e⟩ ⟨q, val ys, f⟩ ⟨s, val us, i⟩ ⟨t, val vs, j⟩) else none) = (if tt = false then some (stepY false ⟨p, val xs, e⟩ ⟨s, val us, i⟩, stepY true ⟨q, val ys, f⟩ ⟨t, val vs, j⟩) else none) := by
  cases tt
  · have h2 := ht.symm
    simp only [Bool.or_eq_false_iff, Bool.not_eq_false', Bool.and_eq_true] at h2
    obtain ⟨a1, a2, a3⟩ := right_cDy hx hy h2.2.1
    obtain ⟨b1, b2, b3⟩ := right_cDy hu hv h2.2.2
    obtain ⟨r1, r2⟩ := hull_two a1 a2 b1 b2 a3 b3
    rw [if_pos rfl, if_pos rfl, r1, r2]
  · rfl
section
variable {w0 : World} {sa g h : Nat} {p q : Bool} {A A' : Option Addr} {n c n' c' : Nat} {xs ys : List Int} {e f P : Int} {b : Bool}
theorem case_hull {k : Int} (h0 : -9223372036854775808 ≤ k) (h1 : k ≤ 9223372036854775807) (hn : n ≤ 100000) (hn' : n' ≤ 100000) (hx : Wf xs) (hy : Wf ys) :
    ∃ (s1 t1 z1 : Bool) (m1 f1 m2 f2 : Int) (s t z : Bool) (m3 f3 m4 f4 : Int),
      (∀ b2 w', (Sq w0 sa g h (⟨p, A, n, c, xs, e, q, A', n', c', ys, f⟩ : SVal) P b b2 w') → Calls Tryd.prog 12 #[.pointer (some ⟨g, 0, none⟩), .int .i64 k] w' fun r w'' => (∃ X5 n5 c5 Y5 n6 c6, r = .returned (.agg #[.bool (⟨s1, m1, f1⟩ : Dy).neg, .slice X5 n5 c5, .int .i64 (⟨s1, m1, f1⟩ : Dy).e, .bool (⟨t1, m2, f2⟩ : Dy).neg, .slice Y5 n6 c6, .int .i64 (⟨t1, m2, f2⟩ : Dy).e]) ∧ Arr w'' X5 n5 c5 (wd (⟨s1, m1, f1⟩ : Dy).m) ∧ Arr w'' Y5 n6 c6 (wd (⟨t1, m2, f2⟩ : Dy).m) ∧ (Sq w0 sa g h (⟨p, A, n, c, xs, e, q, A', n', c', ys, f⟩ : SVal) P z1 b2 w'') ∧ (∀ A n c xs, Arr w' A n c xs → Arr w'' A n c xs) ∧ ∀ k cs t, k ≠ g → k ≠ h → Box w' k cs t → Box w'' k cs t)) ∧
      (∀ b1 w', (Sq w0 sa g h (⟨p, A, n, c, xs, e, q, A', n', c', ys, f⟩ : SVal) P b1 b w') → Calls Tryd.prog 13 #[.pointer (some ⟨h, 0, none⟩), .int .i64 k] w' fun r w'' => (∃ X5 n5 c5 Y5 n6 c6, r = .returned (.agg #[.bool (⟨s1, m1, f1⟩ : Dy).neg, .slice X5 n5 c5, .int .i64 (⟨s1, m1, f1⟩ : Dy).e, .bool (⟨t1, m2, f2⟩ : Dy).neg, .slice Y5 n6 c6, .int .i64 (⟨t1, m2, f2⟩ : Dy).e]) ∧ Arr w'' X5 n5 c5 (wd (⟨s1, m1, f1⟩ : Dy).m) ∧ Arr w'' Y5 n6 c6 (wd (⟨t1, m2, f2⟩ : Dy).m) ∧ (Sq w0 sa g h (⟨p, A, n, c, xs, e, q, A', n', c', ys, f⟩ : SVal) P b1 z1 w'') ∧ (∀ A n c xs, Arr w' A n c xs → Arr w'' A n c xs) ∧ ∀ k cs t, k ≠ g → k ≠ h → Box w' k cs t → Box w'' k cs t)) ∧
      (∀ b2 w' B m k B' m' k', (Sq w0 sa g h (⟨p, A, n, c, xs, e, q, A', n', c', ys, f⟩ : SVal) P z1 b2 w') → Arr w' B m k (wd m1) → Arr w' B' m' k' (wd m2) → Calls Tryd.prog 14 #[.pointer (some ⟨g, 0, none⟩), (.agg #[.bool p, .slice A n c, .int .i64 e, .bool q, .slice A' n' c', .int .i64 f]), .agg #[.bool s1, .slice B m k, .int .i64 f1, .bool t1, .slice B' m' k', .int .i64 f2]] w' fun r w'' => (∃ X5 n5 c5 Y5 n6 c6, r = .returned (.agg #[.bool (⟨s, m3, f3⟩ : Dy).neg, .slice X5 n5 c5, .int .i64 (⟨s, m3, f3⟩ : Dy).e, .bool (⟨t, m4, f4⟩ : Dy).neg, .slice Y5 n6 c6, .int .i64 (⟨t, m4, f4⟩ : Dy).e]) ∧ Arr w'' X5 n5 c5 (wd (⟨s, m3, f3⟩ : Dy).m) ∧ Arr w'' Y5 n6 c6 (wd (⟨t, m4, f4⟩ : Dy).m) ∧ (Sq w0 sa g h (⟨p, A, n, c, xs, e, q, A', n', c', ys, f⟩ : SVal) P z b2 w'') ∧ (∀ A n c xs, Arr w' A n c xs → Arr w'' A n c xs) ∧ ∀ k cs t, k ≠ g → k ≠ h → Box w' k cs t → Box w'' k cs t)) ∧
      (∀ b1 w' B m k B' m' k', (Sq w0 sa g h (⟨p, A, n, c, xs, e, q, A', n', c', ys, f⟩ : SVal) P b1 z1 w') → Arr w' B m k (wd m1) → Arr w' B' m' k' (wd m2) → Calls Tryd.prog 15 #[.pointer (some ⟨h, 0, none⟩), (.agg #[.bool p, .slice A n c, .int .i64 e, .bool q, .slice A' n' c', .int .i64 f]), .agg #[.bool s1, .slice B m k, .int .i64 f1, .bool t1, .slice B' m' k', .int .i64 f2]] w' fun r w'' => (∃ X5 n5 c5 Y5 n6 c6, r = .returned (.agg #[.bool (⟨s, m3, f3⟩ : Dy).neg, .slice X5 n5 c5, .int .i64 (⟨s, m3, f3⟩ : Dy).e, .bool (⟨t, m4, f4⟩ : Dy).neg, .slice Y5 n6 c6, .int .i64 (⟨t, m4, f4⟩ : Dy).e]) ∧ Arr w'' X5 n5 c5 (wd (⟨s, m3, f3⟩ : Dy).m) ∧ Arr w'' Y5 n6 c6 (wd (⟨t, m4, f4⟩ : Dy).m) ∧ (Sq w0 sa g h (⟨p, A, n, c, xs, e, q, A', n', c', ys, f⟩ : SVal) P b1 z w'') ∧ (∀ A n c xs, Arr w' A n c xs → Arr w'' A n c xs) ∧ ∀ k cs t, k ≠ g → k ≠ h → Box w' k cs t → Box w'' k cs t)) := by
  have hV := fun b2 w' (s : (Sq w0 sa g h (⟨p, A, n, c, xs, e, q, A', n', c', ys, f⟩ : SVal) P b b2 w')) => spnum g P b k w' s.v s.tz h0 h1
  have hR := fun b1 w' (s : (Sq w0 sa g h (⟨p, A, n, c, xs, e, q, A', n', c', ys, f⟩ : SVal) P b1 b w')) => rnum03 h P b k w' s.r h0 h1
  have hl := num_len (b := b) (P := P) h0 h1
  generalize numO b P k = o at hV hR hl
  obtain ⟨tt, ht⟩ : ∃ tt, tt = (o.isNone || decide (P < 1) || decide (8192 < P) || !(rightS p q xs ys e f && rightS (o.getD (Dy.zero, Dy.zero)).1.neg (o.getD (Dy.zero, Dy.zero)).2.neg (wd (o.getD (Dy.zero, Dy.zero)).1.m) (wd (o.getD (Dy.zero, Dy.zero)).2.m) (o.getD (Dy.zero, Dy.zero)).1.e (o.getD (Dy.zero, Dy.zero)).2.e)) := ⟨_, rfl⟩
  have HS := hull_same hx hy (wf_wd' _) (wf_wd' _) ht
  obtain ⟨o2, ho2⟩ : ∃ o2, o2 = (if tt = false then some (bestY false ⟨p, val xs, e⟩ ⟨q, val ys, f⟩ ⟨(o.getD (Dy.zero, Dy.zero)).1.neg, val (wd (o.getD (Dy.zero, Dy.zero)).1.m), (o.getD (Dy.zero, Dy.zero)).1.e⟩ ⟨(o.getD (Dy.zero, Dy.zero)).2.neg, val (wd (o.getD (Dy.zero, Dy.zero)).2.m), (o.getD (Dy.zero, Dy.zero)).2.e⟩, bestY true ⟨p, val xs, e⟩ ⟨q, val ys, f⟩ ⟨(o.getD (Dy.zero, Dy.zero)).1.neg, val (wd (o.getD (Dy.zero, Dy.zero)).1.m), (o.getD (Dy.zero, Dy.zero)).1.e⟩ ⟨(o.getD (Dy.zero, Dy.zero)).2.neg, val (wd (o.getD (Dy.zero, Dy.zero)).2.m), (o.getD (Dy.zero, Dy.zero)).2.e⟩) else none) := ⟨_, rfl⟩
  refine ⟨(o.getD (Dy.zero, Dy.zero)).1.neg, (o.getD (Dy.zero, Dy.zero)).2.neg, o.isNone, (o.getD (Dy.zero, Dy.zero)).1.m, (o.getD (Dy.zero, Dy.zero)).1.e, (o.getD (Dy.zero, Dy.zero)).2.m, (o.getD (Dy.zero, Dy.zero)).2.e, (o2.getD (Dy.zero, Dy.zero)).1.neg, (o2.getD (Dy.zero, Dy.zero)).2.neg, o2.isNone, (o2.getD (Dy.zero, Dy.zero)).1.m, (o2.getD (Dy.zero, Dy.zero)).1.e, (o2.getD (Dy.zero, Dy.zero)).2.m, (o2.getD (Dy.zero, Dy.zero)).2.e, ?_, ?_, ?_, ?_⟩
  · intro b2 w' s
    refine (hV b2 w' s).mono ?_
    rintro r w'' ⟨X1, n1, c1, Y1, m1, d1, rfl, x1, y1, hk, hg⟩
    exact ⟨X1, n1, c1, Y1, m1, d1, rfl, x1, y1, s.onV hg hk, fun A n c xs ha => s.v.arr ha hg, fun k cs t n1 n2 hb => hb.grown hg n1⟩
  · intro b1 w' s
    refine (hR b1 w' s).mono ?_
    rintro r w'' ⟨X1, n1, c1, Y1, m1, d1, rfl, x1, y1, hk, hg⟩
    exact ⟨X1, n1, c1, Y1, m1, d1, rfl, x1, y1, s.onR hg hk, fun A n c xs ha => s.r.arr ha hg, fun k cs t n1 n2 hb => hb.grown hg n2⟩
  · intro b2 w' B m k B' m' k' s hB hB'
    have H := sphull p q (o.getD (Dy.zero, Dy.zero)).1.neg (o.getD (Dy.zero, Dy.zero)).2.neg A A' B B' n c n' c' m k m' k' xs ys _ _ e f (o.getD (Dy.zero, Dy.zero)).1.e (o.getD (Dy.zero, Dy.zero)).2.e P g o.isNone w' s.oa.1 s.oa.2 hB hB' s.v
    rw [take_two, ← ht, ← ho2] at H
    refine H.mono ?_
    rintro r w'' ⟨X1, n1, c1, Y1, m1, d1, rfl, x1, y1, hk, hg⟩
    exact ⟨X1, n1, c1, Y1, m1, d1, rfl, x1, y1, s.onV hg hk, fun A n c xs ha => s.v.arr ha hg, fun k cs t n1 n2 hb => hb.grown hg n1⟩
  · intro b1 w' B m k B' m' k' s hB hB'
    have H := rhull03 p q (o.getD (Dy.zero, Dy.zero)).1.neg (o.getD (Dy.zero, Dy.zero)).2.neg A A' B B' n c n' c' m k m' k' xs ys _ _ e f (o.getD (Dy.zero, Dy.zero)).1.e (o.getD (Dy.zero, Dy.zero)).2.e P h o.isNone w' s.oa.1 s.oa.2 hB hB' s.r hn hn' (by have := hB.len; omega) (by have := hB'.len; omega)
    rw [take_two, ← ht, ← HS, ← ho2] at H
    refine H.mono ?_
    rintro r w'' ⟨X1, n1, c1, Y1, m1, d1, rfl, x1, y1, hk, hg⟩
    exact ⟨X1, n1, c1, Y1, m1, d1, rfl, x1, y1, s.onR hg hk, fun A n c xs ha => s.r.arr ha hg, fun k cs t n1 n2 hb => hb.grown hg n2⟩
end
end Go.Proofs.YteffemhapnbaeaaDoor
/- A work that isn't there: Point, Num. -/
namespace Go.Proofs.YteffemhapnbaeaaDoor
open Go.RowKit Num
set_option linter.unusedSimpArgs false
set_option linter.unusedVariables false
set_option maxRecDepth 100000

theorem sppoint_nil (p : Bool) (A : Option Addr) (n c : Nat) (e : Int) (w : World) :
    Calls Tryd.prog 16 #[.pointer none, .agg #[.bool p, .slice A n c, .int .i64 e]] w fun r w' => r = .returned (.agg #[.bool false, .slice none 0 0, .int .i64 0, .bool false, .slice none 0 0, .int .i64 0]) ∧ Below w.heap.size w w' := by
  have b1 := below_alloc (below_self w) (.cells #[.bool p, .slice A n c, .int .i64 e] 26)
  have b2 : Below w.heap.size w ((w.alloc (.cells #[.bool p, .slice A n c, .int .i64 e] 26)).alloc (.cells #[.bool false, .slice none 0 0, .int .i64 0, .bool false, .slice none 0 0, .int .i64 0] 28)) := below_alloc b1 _
  have b3 : Below w.heap.size w (((w.alloc (.cells #[.bool p, .slice A n c, .int .i64 e] 26)).alloc (.cells #[.bool false, .slice none 0 0, .int .i64 0, .bool false, .slice none 0 0, .int .i64 0] 28)).alloc (.cells #[.bool p, .slice A n c, .int .i64 e, .bool p, .slice A n c, .int .i64 e] 28)) := below_alloc b2 _
  have xr := (box_new (w.alloc (.cells #[.bool p, .slice A n c, .int .i64 e] 26)) #[.bool false, .slice none 0 0, .int .i64 0, .bool false, .slice none 0 0, .int .i64 0] 28).later (below_alloc (below_self _) (.cells #[.bool p, .slice A n c, .int .i64 e, .bool p, .slice A n c, .int .i64 e] 28))
  rw [show (w.alloc (.cells #[.bool p, .slice A n c, .int .i64 e] 26)).heap.size = w.heap.size + 1 by simp] at xr
  obtain ⟨k0, k1, k2, f0, f1, f2⟩ := (box_new w #[.bool p, .slice A n c, .int .i64 e] 26).later (below_alloc (below_self _) (.cells #[.bool false, .slice none 0 0, .int .i64 0, .bool false, .slice none 0 0, .int .i64 0] 28)) |>.cell3
  have TK := Lib.hid (fun S m cap w => sptake_nil S m cap w)
  go_enter Tryd.func16, Tryd.ntmps16
  go_wp2_with fail
  refine (TK.out _ _ _ _).mono ?_
  rintro r w5 ⟨rfl, rfl⟩
  go_wp2_with (refine wp_put6 rfl _ _ rfl rfl (w.heap.size + 1) false none 0 0 0 false none 0 0 0 xr rfl rfl (fun W1 y1 gW1 => ?_); have b6 := below_grownBy b3 gW1 (show w.heap.size ≤ w.heap.size + 1 by omega); obtain ⟨u0, u1, u2, u3, u4, u5, -⟩ := y1.cell6)
  refine bodyPost_ret (v := (.agg #[.bool false, .slice none 0 0, .int .i64 0, .bool false, .slice none 0 0, .int .i64 0])) ?_ rfl ⟨rfl, b6⟩
  simp [results, Tryd.results16, go_sem, u0, u1, u2, u3, u4, u5]
theorem spnum_nil (w : World) (hT : Tz w) : Calls Tryd.prog 12 #[.pointer none, .int .i64 1] w fun r w' => r = .returned (.agg #[.bool false, .slice none 0 0, .int .i64 0, .bool false, .slice none 0 0, .int .i64 0]) ∧ Below w.heap.size w w' := by
  have hm := int_made (n := 1) (by decide) (by decide)
  rw [canD_one] at hm
  have b1 : Below w.heap.size w (w.alloc (.cells #[.bool false, .slice none 0 0, .int .i64 0, .bool false, .slice none 0 0, .int .i64 0] 28)) := below_alloc (below_self w) _
  have b2 : Below w.heap.size w ((w.alloc (.cells #[.bool false, .slice none 0 0, .int .i64 0, .bool false, .slice none 0 0, .int .i64 0] 28)).alloc (.cells #[.int .u64 1] 45)) := below_alloc b1 _
  have xr := (box_new w #[.bool false, .slice none 0 0, .int .i64 0, .bool false, .slice none 0 0, .int .i64 0] 28).later (below_alloc (below_self _) (.cells #[.int .u64 1] 45))
  have hu := arr_one (w := w.alloc (.cells #[.bool false, .slice none 0 0, .int .i64 0, .bool false, .slice none 0 0, .int .i64 0] 28)) (g := w.heap.size + 1) (by simp) 1 (by decide) (by decide)
  have MK := make false _ 1 1 [1] 0 _ hu (by decide) (by decide) (by decide) (hT.below b2)
  have hm : mkD false 1 0 = some ⟨false, 1, 0⟩ := hm
  rw [val_one, hm] at MK
  have MK := Lib.hid MK
  have PT := Lib.hid (fun A n c w => sppoint_nil false A n c 0 w)
  clear hm hu b1
  go_enter Tryd.func12, Tryd.ntmps12
  go_wp2_with fail
  refine MK.out.mono ?_
  rintro r w4 hr
  obtain ⟨A4, n4, c4, rfl, h4, hb4⟩ := retD_some2 hr
  clear hr
  have b5 := below_alloc hb4 (.cells #[.bool false, .slice A4 n4 c4, .int .i64 0] 26)
  have x5 := box_new w4 #[.bool false, .slice A4 n4 c4, .int .i64 0] 26
  have bb5 := below_on b2 b5
  have xr5 := xr.later b5
  obtain ⟨k0, k1, k2, f0, f1, f2⟩ := x5.cell3
  go_wp2_with fail
  refine (PT.out _ _ _ _).mono ?_
  rintro r w6 ⟨rfl, hb6⟩
  have xr6 := xr5.later hb6
  have bb6 := below_on bb5 hb6
  clear k0 k1 k2 f0 f1 f2
  go_wp2_with (refine wp_put6 rfl _ _ rfl rfl w.heap.size false none 0 0 0 false none 0 0 0 xr6 rfl rfl (fun W1 y1 gW1 => ?_); have b7 := below_grownBy bb6 gW1 (Nat.le_refl _); obtain ⟨u0, u1, u2, u3, u4, u5, -⟩ := y1.cell6)
  refine bodyPost_ret (v := (.agg #[.bool false, .slice none 0 0, .int .i64 0, .bool false, .slice none 0 0, .int .i64 0])) ?_ rfl ⟨rfl, b7⟩
  simp [results, Tryd.results12, go_sem, u0, u1, u2, u3, u4, u5]
end Go.Proofs.YteffemhapnbaeaaDoor
/- SpanOthers: what the rounds want. -/
namespace Go.Proofs.YteffemhapnbaeaaDoor
open Go.RowKit Num
set_option linter.unusedSimpArgs false
set_option linter.unusedVariables false
set_option maxRecDepth 100000

/-- A struct stored whole, in a region that draws its order: the world behind it stays a letter. -/
theorem wp_put_op {o : Oper} {a : Act} {w : World} {K : Act → World → Prop} {Q : Exit → Act → World → Prop} {yy : Nat → Option Bool} (hgd : o.guard = none) (ty : TypeId) (x y : Operand) (ho : o.op = .store ty x y)
    (hd : o.dst = none) (g : Nat) (cells : Array Value) {old : Array Value} {t : TypeId} (hb : Box w g old t) (hx : a.eval x = .pointer (some ⟨g, 0, none⟩)) (hy : a.eval y = .agg cells)
    (hi : (Tryd.prog.info? ty).map (·.size) = some cells.size) (hold : old.size = cells.size) (h1 : cells.all (·.oneCell') = true)
    (h : ∀ W', Box W' g cells t → w.grownBy W' (some g) → K a W') : if Region.wanted o yy = true then Oper.wp Tryd.prog o a w K Q else K (a.put o.dst undef) w := by
  rw [if_pos (by simp only [Region.wanted, hgd])]
  refine wp_store_row ty x y ho g cells hx hy t old hb.heap hi hold h1 ?_
  rw [hd]
  refine h _ ⟨setRow_heap w g old cells t (0, 0) hb.heap⟩ ?_
  exact ⟨rfl, rfl, rfl, by simp [World.setRow], fun i hi hne => setRow_other w g i cells (fun hh => hne (by rw [hh]))⟩
theorem wp_put6_op {o : Oper} {a : Act} {w : World} {K : Act → World → Prop} {Q : Exit → Act → World → Prop} {yy : Nat → Option Bool} (hgd : o.guard = none) (x y : Operand) (ho : o.op = .store 28 x y)
    (hd : o.dst = none) (g : Nat) (p : Bool) (A : Option Addr) (n c : Nat) (e : Int) (q : Bool) (A' : Option Addr) (n' c' : Nat) (f : Int) {v0 v1 v2 v3 v4 v5 : Value} {t : TypeId} (hb : Box w g #[v0, v1, v2, v3, v4, v5] t) (hx : a.eval x = .pointer (some ⟨g, 0, none⟩)) (hy : a.eval y = (.agg #[.bool p, .slice A n c, .int .i64 e, .bool q, .slice A' n' c', .int .i64 f]))
    (h : ∀ W', Box W' g #[.bool p, .slice A n c, .int .i64 e, .bool q, .slice A' n' c', .int .i64 f] t → w.grownBy W' (some g) → K a W') : if Region.wanted o yy = true then Oper.wp Tryd.prog o a w K Q else K (a.put o.dst undef) w :=
  wp_put_op hgd _ x y ho hd g _ hb hx hy (by kernel_rfl) rfl (by simp [Value.oneCell']) h
theorem Box.drew' {w : World} {k : Nat} {cs : Array Value} {t : TypeId} (h : Box w k cs t) : Box w.drew k cs t := h.later (Below.drew (below_self _))
theorem Box.drewN' {w : World} {k z : Nat} {cs : Array Value} {t : TypeId} (h : Box w k cs t) : Box (w.drewN z) k cs t := h.later (below_drewN (below_self _) _)
theorem Arr.drewA {w : World} {A : Option Addr} {n c : Nat} {xs : List Int} (h : Arr w A n c xs) : Arr w.drew A n c xs := h.below (Below.drew (below_self _))
theorem Arr.drewB {w : World} {z : Nat} {A : Option Addr} {n c : Nat} {xs : List Int} (h : Arr w A n c xs) : Arr (w.drewN z) A n c xs := h.below (below_drewN (below_self _) _)
theorem Box.six_apart {w : World} {k k2 : Nat} {cs : Array Value} {t : TypeId} (h : Box w k2 cs t) (hne : k2 ≠ k) (a0 a1 a2 a3 a4 a5 : Value) :
    Box ((((((w.setCell ⟨k, 0, none⟩ a0).setCell ⟨k, 1, none⟩ a1).setCell ⟨k, 2, none⟩ a2).setCell ⟨k, 3, none⟩ a3).setCell ⟨k, 4, none⟩ a4).setCell ⟨k, 5, none⟩ a5) k2 cs t :=
  (((((h.apart hne 0 a0).apart hne 1 a1).apart hne 2 a2).apart hne 3 a3).apart hne 4 a4).apart hne 5 a5
theorem Box.six_set {w : World} {k : Nat} {v0 v1 v2 v3 v4 v5 : Value} {t : TypeId} (h : Box w k #[v0, v1, v2, v3, v4, v5] t) (a0 a1 a2 a3 a4 a5 : Value) :
    Box ((((((w.setCell ⟨k, 0, none⟩ a0).setCell ⟨k, 1, none⟩ a1).setCell ⟨k, 2, none⟩ a2).setCell ⟨k, 3, none⟩ a3).setCell ⟨k, 4, none⟩ a4).setCell ⟨k, 5, none⟩ a5) k #[a0, a1, a2, a3, a4, a5] t :=
  (((((h.set 0 a0).set 1 a1).set 2 a2).set 3 a3).set 4 a4).set 5 a5
theorem same_selfS (s t : Bool) (m1 f1 m2 f2 : Int) (A A' B B' : Option Addr) (n c n' c' m k m' k' : Nat) (w : World) (h : Arr w A n c (wd m1)) (h' : Arr w A' n' c' (wd m2)) (hB : Arr w B m k (wd m1)) (hB' : Arr w B' m' k' (wd m2)) :
    Calls Tryd.prog 20 #[.agg #[.bool s, .slice A n c, .int .i64 f1, .bool t, .slice A' n' c', .int .i64 f2], .agg #[.bool s, .slice B m k, .int .i64 f1, .bool t, .slice B' m' k', .int .i64 f2]] w fun r w' => r = .returned (.bool true) ∧ Below w.heap.size w w' := by
  have R := rsame03 s t s t A A' B B' n c n' c' m k m' k' (wd m1) (wd m2) (wd m1) (wd m2) f1 f2 f1 f2 w h h' hB hB'
  rw [sameS_self] at R
  exact R
/-- Both answers kept in boxes k and k + 1: what holds behind it. -/
structure Kept (w0 : World) (sa g h k : Nat) (a : SVal) (P : Int) (z s t : Bool) (m1 f1 m2 f2 : Int) (X1 Y1 X2 Y2 : Option Addr) (n1 c1 i1 d1 n2 c2 i2 d2 : Nat) (w : World) : Prop where
  sq : Sq w0 sa g h a P z z w
  bs : Box w k #[.bool s, .slice X1 n1 c1, .int .i64 f1, .bool t, .slice Y1 i1 d1, .int .i64 f2] 28
  bt : Box w (k + 1) #[.bool s, .slice X2 n2 c2, .int .i64 f1, .bool t, .slice Y2 i2 d2, .int .i64 f2] 28
  x1 : Arr w X1 n1 c1 (wd m1)
  y1 : Arr w Y1 i1 d1 (wd m2)
  x2 : Arr w X2 n2 c2 (wd m1)
  y2 : Arr w Y2 i2 d2 (wd m2)
theorem kept_put {w0 w w1 w2 : World} {sa g h k : Nat} {a : SVal} {P : Int} {z s t : Bool} {m1 f1 m2 f2 : Int} {X1 Y1 X2 Y2 : Option Addr} {n1 c1 i1 d1 n2 c2 i2 d2 : Nat} (hS : Sq w0 sa g h a P z z w) (hk : w0.heap.size ≤ k) (ha : sa < k) (hg : g < k) (hh : h < k) (bs : Box w k #[.bool false, .slice none 0 0, .int .i64 0, .bool false, .slice none 0 0, .int .i64 0] 28) (bt : Box w (k + 1) #[.bool false, .slice none 0 0, .int .i64 0, .bool false, .slice none 0 0, .int .i64 0] 28)
    (x1 : Arr w X1 n1 c1 (wd m1)) (y1 : Arr w Y1 i1 d1 (wd m2)) (x2 : Arr w X2 n2 c2 (wd m1)) (y2 : Arr w Y2 i2 d2 (wd m2))
    (bs1 : Box w1 k #[.bool s, .slice X1 n1 c1, .int .i64 f1, .bool t, .slice Y1 i1 d1, .int .i64 f2] 28) (g1 : w.grownBy w1 (some k)) (bt2 : Box w2 (k + 1) #[.bool s, .slice X2 n2 c2, .int .i64 f1, .bool t, .slice Y2 i2 d2, .int .i64 f2] 28) (g2 : w1.grownBy w2 (some (k + 1))) :
    Kept w0 sa g h k a P z s t m1 f1 m2 f2 X1 Y1 X2 Y2 n1 c1 i1 d1 n2 c2 i2 d2 w2 := by
  have bt1 := bt.grown g1 (show k + 1 ≠ k by omega)
  have h1 := hS.put bs g1 (tz_put hS.tz bs g1) hk (by omega) (by omega) (by omega)
  have h2 := h1.put bt1 g2 (tz_put h1.tz bt1 g2) (by omega) (by omega) (by omega) (by omega)
  exact ⟨h2, bs1.grown g2 (by omega), bt2, (x1.grown bs no_zs g1).grown bt1 no_zs g2, (y1.grown bs no_zs g1).grown bt1 no_zs g2, (x2.grown bs no_zs g1).grown bt1 no_zs g2, (y2.grown bs no_zs g1).grown bt1 no_zs g2⟩
theorem Sq.put1 {w0 w w1 : World} {sa g h k : Nat} {a : SVal} {P : Int} {b1 b2 : Bool} (hS : Sq w0 sa g h a P b1 b2 w) (hk : w0.heap.size ≤ k) (ha : sa < k) (hg : g < k) (hh : h < k) (bs : Box w k #[.bool false, .slice none 0 0, .int .i64 0, .bool false, .slice none 0 0, .int .i64 0] 28) (g1 : w.grownBy w1 (some k)) : Sq w0 sa g h a P b1 b2 w1 :=
  hS.put bs g1 (tz_put hS.tz bs g1) hk (by omega) (by omega) (by omega)
end Go.Proofs.YteffemhapnbaeaaDoor
