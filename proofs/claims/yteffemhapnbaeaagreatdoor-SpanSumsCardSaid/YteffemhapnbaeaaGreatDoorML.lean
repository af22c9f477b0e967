/- A text of ours, with only what the claim's row needs (wip/tools/shake.py). -/
import Derived.Test.YteffemhapnbaeaaGreatDoorMK
import Derived.Test.YteffemhapnbaeaaGreatDoorMD
namespace Go.Proofs.YteffemhapnbaeaaGreatDoor
open Go.RowKit Num
set_option maxRecDepth 100000

end Go.Proofs.YteffemhapnbaeaaGreatDoor
namespace Go.Proofs.YteffemhapnbaeaaGreatDoor
open Go.RowKit Num
set_option maxRecDepth 100000

def sameB (p q : Bool) (xs ys : List Int) (e f : Int) : Bool := p == q && (e == f && decide (xs = ys))
theorem same02 (p q : Bool) (A A' : Option Addr) (n c n' c' : Nat) (xs ys : List Int) (e f : Int) (w : World) (h : Arr w A n c xs) (h' : Arr w A' n' c' ys) :
    Calls Tryz.prog 32 #[.agg #[.bool p, .slice A n c, .int .i64 e], .agg #[.bool q, .slice A' n' c', .int .i64 f]] w fun r w' => r = .returned (.bool (sameB p q xs ys e f)) ∧ Below w.heap.size w w' := by
  have S : Hid (sameB p q xs ys e f = (p == q && (e == f && decide (xs = ys)))) := rfl
  generalize sameB p q xs ys e f = s at *
  generalize hx : decide (xs = ys) = d at *
  have HX := Lib.hid hx
  clear hx
  go_enter Tryz.func32, Tryz.ntmps32
  go_wp2_with fail
  · have hb : Below w.heap.size w ((w.alloc (.cells #[.bool q, .slice A n c, .int .i64 f] 26)).alloc (.cells #[.bool q, .slice A' n' c', .int .i64 f] 26)) := (by repeat (first | with_reducible assumption | exact below_self _ | refine below_set ?_ _ _ (by first | exact Nat.le_refl _ | omega | (simp; done) | (simp; omega)) _ | refine below_alloc ?_ _ | apply Below.drew | apply below_drewN))
    have z1 : p = q := by assumption
    have z2 : e = f := by assumption
    refine (same01 A A' n c n' c' xs ys _ (h.below hb) (h'.below hb)).mono ?_
    rintro r w' ⟨rfl, hs⟩
    have bw := hb.trans (hs.below _)
    have hs' : s = decide (xs = ys) := by rw [S.out, z1, z2, ← HX.out]; simp
    have HS := Lib.hid hs'
    clear hs'
    rw [HX.out]
    go_wp2_with fail
    go_ret
    exact ⟨by rw [HS.out, HX.out]; rfl, bw⟩
  · have z2 : ¬ e = f := by assumption
    have hs' : s = false := by rw [S.out]; simp [z2]
    go_ret
    exact ⟨by rw [hs']; first | rfl | simp [z2], (by repeat (first | with_reducible assumption | exact below_self _ | refine below_set ?_ _ _ (by first | exact Nat.le_refl _ | omega | (simp; done) | (simp; omega)) _ | refine below_alloc ?_ _ | apply Below.drew | apply below_drewN))⟩
  · have z2 : ¬ p = q := by assumption
    have hs' : s = false := by rw [S.out]; simp [z2]
    go_ret
    exact ⟨by rw [hs']; first | rfl | simp [z2], (by repeat (first | with_reducible assumption | exact below_self _ | refine below_set ?_ _ _ (by first | exact Nat.le_refl _ | omega | (simp; done) | (simp; omega)) _ | refine below_alloc ?_ _ | apply Below.drew | apply below_drewN))⟩
theorem retD_set {w w4 : World} {o : Option Dy} {A : Option Addr} {n c g : Nat} {t : TypeId} {p : Bool} {A' : Option Addr} {n' c' : Nat} {e : Int} (h : Arr w4 A n c (wd (optD o).m)) (hb : Box w4 g #[.bool p, .slice A' n' c', .int .i64 e] t) (hw : Below w.heap.size w w4) (hg : w.heap.size ≤ g) :
    RetD o w (.returned (.tuple #[.agg #[.bool (optD o).neg, .slice A n c, .int .i64 (optD o).e], .bool o.isSome])) (((w4.setCell ⟨g, 0, none⟩ (.bool (optD o).neg)).setCell ⟨g, 1, none⟩ (.slice A n c)).setCell ⟨g, 2, none⟩ (.int .i64 (optD o).e)) :=
  ⟨A, n, c, rfl, h.set3 hb _ _ _ (by simp) (by simp), below_set (below_set (below_set hw _ _ hg _) _ _ hg _) _ _ hg _⟩
end Go.Proofs.YteffemhapnbaeaaGreatDoor
