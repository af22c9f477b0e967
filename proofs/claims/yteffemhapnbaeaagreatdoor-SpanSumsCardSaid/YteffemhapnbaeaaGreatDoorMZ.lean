/- A text of ours, with only what the claim's row needs (wip/tools/shake.py). -/
import Derived.Test.YteffemhapnbaeaaGreatDoorMV
import Derived.Test.YteffemhapnbaeaaGreatDoorMS
import Derived.Test.YteffemhapnbaeaaGreatDoorMY
import Derived.Test.YteffemhapnbaeaaGreatDoorNJ
import Derived.Test.YteffemhapnbaeaaGreatDoorMX
import Derived.Test.YteffemhapnbaeaaGreatDoorSnX
import Derived.Test.YteffemhapnbaeaaGreatDoorSnY
import Derived.Test.YteffemhapnbaeaaGreatDoorMW
import Derived.Deep.RegionHeld3
namespace Go.Proofs.YteffemhapnbaeaaGreatDoor
open Go.RowKit Num
set_option linter.unusedSimpArgs false
set_option linter.unusedVariables false
set_option maxRecDepth 100000

/-- A plain number. -/
def PlD (D : Dy) : Prop := plainB D.neg (wd D.m) D.e = true ∧ 0 ≤ D.m
theorem PlD.of {p : Bool} {xs : List Int} {e : Int} (hw : Wf xs) (h : plainB p xs e = true) : PlD ⟨p, val xs, e⟩ := by
  have := (plainB_parts hw h).2.2.1
  refine ⟨?_, val_nonneg hw⟩
  show plainB p (wd (val xs)) e = true
  rw [this]; exact h
theorem PlD.zero : PlD Dy.zero := by
  refine ⟨?_, Int.le_refl _⟩
  show plainB false (wd 0) 0 = true
  rw [wd_zero (Int.le_refl _)]; rfl
theorem PlD.can {D : Dy} (h : PlD D) {L : Int} (hL : L ≤ D.e) : D = canD (sval D L) L := by
  obtain ⟨p, m, e⟩ := D
  obtain ⟨h1, h2⟩ := h
  have h1 : plainB p (wd m) e = true := h1
  have h2 : 0 ≤ m := h2
  have hL : L ≤ e := hL
  have hc := plain_can (wf_wd m h2) h1
  rw [val_wd _ h2] at hc
  have hs : sval ⟨p, m, e⟩ L = sgn p m * pw (e - L).toNat := by
    show sgn p (m * pw (e - L).toNat) = _
    exact sgn_mul _ _ _
  rw [hs, canD_scale' _ hL, ← hc]
theorem cDy_is {a b : Dy} (ha : PlD a) (hb : PlD b) : cDy a b = cmpD a b := by
  obtain ⟨p, m, e⟩ := a
  obtain ⟨q, k, f⟩ := b
  obtain ⟨h1, h2⟩ := ha
  obtain ⟨h3, h4⟩ := hb
  unfold cDy endsI
  rw [h1, h3, val_wd _ h2, val_wd _ h4]
  rfl
theorem cDy_can {x y L : Int} (hx : PlD (canD x L)) (hy : PlD (canD y L)) : cDy (canD x L) (canD y L) = cmpI x y := by
  rw [cDy_is hx hy, cmp_can]
def bestI (most : Bool) (x y : Int) : Int := if most then max x y else min x y
theorem step_can {most : Bool} {x y L : Int} (hx : PlD (canD x L)) (hy : PlD (canD y L)) : stepY most (canD x L) (canD y L) = canD (bestI most x y) L := by
  unfold stepY bestI
  rw [cDy_can hy hx]
  cases most
  · simp only [Bool.false_eq_true, if_false, decide_eq_true_eq]
    unfold cmpI
    by_cases h : y < x
    · rw [if_pos (by rw [if_pos h]; decide)]; congr 1; omega
    · rw [if_neg (by split <;> (try split) <;> omega)]; congr 1; omega
  · simp only [if_true, decide_eq_true_eq]
    unfold cmpI
    by_cases h : x < y
    · rw [if_pos (by split <;> (try split) <;> omega)]; congr 1; omega
    · rw [if_neg (by split <;> (try split) <;> omega)]; congr 1; omega
theorem best_pl {most : Bool} {x y L : Int} (hx : PlD (canD x L)) (hy : PlD (canD y L)) : PlD (canD (bestI most x y) L) := by
  have : bestI most x y = x ∨ bestI most x y = y := by unfold bestI; cases most <;> simp <;> omega
  rcases this with h | h <;> rw [h] <;> assumption
theorem four_low (a b c d : Int) : ∃ L, L ≤ a ∧ L ≤ b ∧ L ≤ c ∧ L ≤ d := ⟨min (min a b) (min c d), by omega⟩
theorem best_can {most : Bool} {x y z u L : Int} (hx : PlD (canD x L)) (hy : PlD (canD y L)) (hz : PlD (canD z L)) (hu : PlD (canD u L)) : bestY most (canD x L) (canD y L) (canD z L) (canD u L) = canD (bestI most (bestI most (bestI most x y) z) u) L := by
  unfold bestY
  rw [step_can hx hy, step_can (best_pl hx hy) hz, step_can (best_pl (best_pl hx hy) hz) hu]
theorem right_cDy {p q : Bool} {xs ys : List Int} {e f : Int} (hw : Wf xs) (hw' : Wf ys) (h : rightS p q xs ys e f = true) : PlD ⟨p, val xs, e⟩ ∧ PlD ⟨q, val ys, f⟩ ∧ cDy ⟨p, val xs, e⟩ ⟨q, val ys, f⟩ ≤ 0 := by
  unfold rightS bothB at h
  simp only [Bool.and_eq_true, decide_eq_true_eq] at h
  obtain ⟨⟨h1, h2⟩, h3⟩ := h
  refine ⟨PlD.of hw h1, PlD.of hw' h2, ?_⟩
  have v1 := (plainB_parts hw h1).2.2.1
  have v2 := (plainB_parts hw' h2).2.2.1
  show endsI p q (wd (val xs)) (wd (val ys)) e f ≤ 0
  rw [v1, v2]; exact h3
end Go.Proofs.YteffemhapnbaeaaGreatDoor
namespace Go.Proofs.YteffemhapnbaeaaGreatDoor
open Go.RowKit Num
set_option linter.unusedSimpArgs false
set_option linter.unusedVariables false
set_option maxRecDepth 100000

def SVal.six' (a : SVal) : Array Value := #[.bool a.p, .slice a.A a.n a.c, .int .i64 a.e, .bool a.q, .slice a.A' a.n' a.c', .int .i64 a.f]
structure Sq (w0 : World) (sa g h : Nat) (a : SVal) (P : Int) (b1 b2 : Bool) (w : World) : Prop where
  xa : Box w sa a.six' 28
  oa : a.ok w
  tz : Tz w
  v : Wk w g P b1 37
  r : Wk w h P b2 38
  nd : sa ≠ g ∧ sa ≠ h ∧ g ≠ h
  ge : w0.heap.size ≤ g ∧ w0.heap.size ≤ h
  below : Below w0.heap.size w0 w
section
variable {w0 : World} {sa g h : Nat} {a : SVal} {P : Int} {b1 b2 : Bool} {w w' : World}
theorem Sq.later (s : Sq w0 sa g h a P b1 b2 w) (hb : Below w.heap.size w w') : Sq w0 sa g h a P b1 b2 w' :=
  ⟨s.xa.later hb, ⟨s.oa.1.below hb, s.oa.2.below hb⟩, s.tz.below hb, s.v.later hb, s.r.later hb, s.nd, s.ge, below_on s.below hb⟩
theorem Sq.drew (s : Sq w0 sa g h a P b1 b2 w) : Sq w0 sa g h a P b1 b2 w.drew := s.later (Below.drew (below_self _))
theorem Sq.drewN {z : Nat} (s : Sq w0 sa g h a P b1 b2 w) : Sq w0 sa g h a P b1 b2 (w.drewN z) := s.later (below_drewN (below_self _) _)
theorem grown_belowQ {w0 w w' : World} {g : Nat} (h : Below w0.heap.size w0 w) (hg : w.grownBy w' (some g)) (hge : w0.heap.size ≤ g) : Below w0.heap.size w0 w' :=
  h.trans (grown_below hg h.size (fun k hk => by cases hk; exact hge))
theorem no_zs : ∀ (i : Nat) (x : Int), (#[.bool false, .slice none 0 0, .int .i64 0, .bool false, .slice none 0 0, .int .i64 0] : Array Value)[i]? ≠ some (Value.int .u64 x) :=
  no6 (by simp) (by simp) (by simp) (by simp) (by simp) (by simp)
/-- Something is kept in a box of one's own. -/
theorem Sq.put {k : Nat} {t : TypeId} (s : Sq w0 sa g h a P b1 b2 w) (hb : Box w k #[.bool false, .slice none 0 0, .int .i64 0, .bool false, .slice none 0 0, .int .i64 0] t) (hg : w.grownBy w' (some k)) (hT : Tz w') (h0 : w0.heap.size ≤ k) (h1 : sa ≠ k) (h2 : g ≠ k) (h3 : h ≠ k) : Sq w0 sa g h a P b1 b2 w' :=
  ⟨s.xa.grown hg h1, ⟨s.oa.1.grown hb no_zs hg, s.oa.2.grown hb no_zs hg⟩, hT, s.v.other hg h2, s.r.other hg h3, s.nd, s.ge, grown_belowQ s.below hg h0⟩
end
theorem take_two (bad : Bool) (P : Int) (p q s t : Bool) (A A' B B' : Option Addr) (n c n' c' m k m' k' : Nat) (xs ys us vs : List Int) (e f i j : Int) : takeB bad P [(⟨p, A, n, c, xs, e, q, A', n', c', ys, f⟩ : SVal), (⟨s, B, m, k, us, i, t, B', m', k', vs, j⟩ : SVal)] = (bad || decide (P < 1) || decide (8192 < P) || !(rightS p q xs ys e f && rightS s t us vs i j)) := by
  unfold takeB SVal.right; simp
end Go.Proofs.YteffemhapnbaeaaGreatDoor
namespace Go.Proofs.YteffemhapnbaeaaGreatDoor
open Go.RowKit Num
set_option linter.unusedSimpArgs false
set_option linter.unusedVariables false
set_option maxRecDepth 100000

end Go.Proofs.YteffemhapnbaeaaGreatDoor
namespace Go.Proofs.YteffemhapnbaeaaGreatDoor
open Go.RowKit Num
set_option linter.unusedSimpArgs false
set_option linter.unusedVariables false
set_option maxRecDepth 100000

end Go.Proofs.YteffemhapnbaeaaGreatDoor
