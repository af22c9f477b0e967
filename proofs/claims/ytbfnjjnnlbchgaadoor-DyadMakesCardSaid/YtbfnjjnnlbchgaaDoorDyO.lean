/- The document's Neg. -/
import Derived.Test.YtbfnjjnnlbchgaaDoorDyC
import Derived.Test.YtbfnjjnnlbchgaaDoorDyM
import Derived.Test.YtbfnjjnnlbchgaaDoorBtB
namespace Go.Proofs.YtbfnjjnnlbchgaaDoor
open Go.RowKit Num
set_option maxRecDepth 100000

theorem Box.otherR {w w' : World} {g : Nat} {cs : Array Value} {t : TypeId} {r : Option Nat} (h : Box w g cs t) (hg : w.grownBy w' r) (hne : some g ≠ r) : Box w' g cs t := ⟨(hg.block g h.lt hne).trans h.heap⟩
theorem no3d {p : Bool} {A0 : Option Addr} {n0 c0 : Nat} {e : Int} : ∀ (i : Nat) (x : Int), (#[Value.bool p, .slice A0 n0 c0, .int .i64 e] : Array Value)[i]? ≠ some (Value.int .u64 x)
  | 0, _ => by simp
  | 1, _ => by simp
  | 2, _ => by simp
  | i + 3, _ => by simp
/-- The other sign. (As dyad.Neg's negD.) -/
def negR (p : Bool) (xs : List Int) (e : Int) : Option Dy := if plainB p xs e then some ⟨!p && decide (0 < xs.length), val xs, e⟩ else none
set_option maxHeartbeats 2000000 in
theorem rneg02 (p : Bool) (A : Option Addr) (n c : Nat) (xs : List Int) (e : Int) (w : World) (h : Arr w A n c xs) (hn : n ≤ 100000000) :
    Calls Tryd.prog 31 #[.agg #[.bool p, .slice A n c, .int .i64 e]] w (RetD (negR p xs e) w) := by
  have b1 : Below w.heap.size w ((w.alloc (.cells #[.bool p, .slice A n c, .int .i64 e] 24)).alloc (.cells #[.bool false, .slice none 0 0, .int .i64 0] 24)) := below_alloc (below_alloc (below_self w) _) _
  have H := h.below b1
  have PL := Lib.hid (rplain p A n c xs e _ H hn)
  have bx := (box_new w #[.bool p, .slice A n c, .int .i64 e] 24).later (below_alloc (below_self _) (.cells #[.bool false, .slice none 0 0, .int .i64 0] 24))
  have br := box_new (w.alloc (.cells #[.bool p, .slice A n c, .int .i64 e] 24)) #[.bool false, .slice none 0 0, .int .i64 0] 24
  rw [show (w.alloc (.cells #[.bool p, .slice A n c, .int .i64 e] 24)).heap.size = w.heap.size + 1 by simp] at br
  obtain ⟨k0, k1, k2, f0, f1, f2⟩ := bx.cell3
  cases hpl : plainB p xs e
  · have er : negR p xs e = none := by unfold negR; rw [hpl]; rfl
    rw [er]
    rw [hpl] at PL
    go_enter Tryd.func31, Tryd.ntmps31
    go_wp2_with fail
    refine PL.out.mono ?_; rintro r w3 ⟨rfl, hb3⟩
    have hw3 := below_on b1 hb3
    have br3 := br.later hb3
    obtain ⟨z0, z1, z2, y0, y1, y2⟩ := br3.cell3
    go_wp2_with fail
    refine bodyPost_ret (v := .tuple #[.agg #[.bool false, .slice none 0 0, .int .i64 0], .bool false]) (by simp [results, Tryd.results31, go_sem, z0, z1, z2]) rfl ?_
    exact retD_set (o := none) (arr_no _) br3 hw3 (by omega)
  · obtain ⟨pd, l256, wx, vp⟩ := plainB_parts h.wf hpl
    have er : negR p xs e = some ⟨!p && decide (0 < n), val xs, e⟩ := by unfold negR; rw [hpl, h.len]; rfl
    rw [er]
    rw [hpl] at PL
    have TR := Lib.hid (fun w1 (hb : Below ((w.alloc (.cells #[.bool p, .slice A n c, .int .i64 e] 24)).alloc (.cells #[.bool false, .slice none 0 0, .int .i64 0] 24)).heap.size ((w.alloc (.cells #[.bool p, .slice A n c, .int .i64 e] 24)).alloc (.cells #[.bool false, .slice none 0 0, .int .i64 0] 24)) w1) => rtrim A n c xs w1 (H.below hb) (by omega))
    have H3 := Lib.hid (fun w3 (hb : Below ((w.alloc (.cells #[.bool p, .slice A n c, .int .i64 e] 24)).alloc (.cells #[.bool false, .slice none 0 0, .int .i64 0] 24)).heap.size ((w.alloc (.cells #[.bool p, .slice A n c, .int .i64 e] 24)).alloc (.cells #[.bool false, .slice none 0 0, .int .i64 0] 24)) w3) (v : Value) => rtrim A n c xs (w3.setCell ⟨w.heap.size, 0, none⟩ v) ((H.below hb).set_box (bx.later hb) no3d 0 v) (by omega))
    have hz : n = 0 → p = false := fun hh => (pd.z (by rw [List.length_eq_zero_iff.1 (h.len.trans hh)]; rfl)).2
    clear pd vp h H er hpl wx
    generalize val xs = m at *
    by_cases h0 : n = 0
    · obtain rfl := hz h0
      subst h0
      go_enter Tryd.func31, Tryd.ntmps31
      go_wp2_with fail
      refine PL.out.mono ?_; rintro r w3 ⟨rfl, hb3⟩
      have hw3 := below_on b1 hb3
      have bx3 := bx.later hb3
      obtain ⟨x0, x1, x2, t0, t1, t2⟩ := bx3.cell3
      clear k0 k1 k2 f0 f1 f2
      go_wp2_with fail
      refine (TR.out w3 hb3).mono ?_; rintro r w5 ⟨A5, n5, c5, rfl, h5, hb5⟩
      have hw5 := below_on hw3 hb5
      have bx5 := bx3.later hb5
      have br5 := (br.later hb3).later hb5
      obtain ⟨u0, u1, u2, v0, v1, v2⟩ := bx5.cell3
      obtain ⟨z0, z1, z2, y0, y1, y2⟩ := br5.cell3
      clear x0 x1 x2 t0 t1 t2 TR
      go_wp2_with fail
      refine bodyPost_ret (v := _) ?_ rfl (retD_set (o := some ⟨!false && decide (0 < 0), m, e⟩) (h5.arr.set_box bx5 no3d 1 _) (br5.otherR (grown_set _ _ _ _) (by simp)) (below_set hw5 _ _ (Nat.le_refl _) _) (by omega))
      simp [results, Tryd.results31, go_sem, z0, z1, z2]
      try exact ⟨rfl, rfl⟩
    · have hd : decide ((n : Int) > 0) = true := by simp; omega
      have hd2 : decide (0 < n) = true := by simp; omega
      rw [hd2, Bool.and_true]
      go_enter Tryd.func31, Tryd.ntmps31
      go_wp2_with fail
      refine PL.out.mono ?_; rintro r w3 ⟨rfl, hb3⟩
      have hw3 := below_on b1 hb3
      have bx3 := bx.later hb3
      obtain ⟨x0, x1, x2, t0, t1, t2⟩ := bx3.cell3
      clear k0 k1 k2 f0 f1 f2
      go_wp2_with fail
      refine (H3.out w3 hb3 _).mono ?_; rintro r w5 ⟨A5, n5, c5, rfl, h5, hb5⟩
      have hw4 := below_set hw3 w.heap.size 0 (Nat.le_refl _) (.bool !p)
      have hw5 := below_on hw4 hb5
      have bx4 := bx3.set 0 (.bool !p)
      have br4 := (br.later hb3).otherR (grown_set w3 w.heap.size 0 (.bool !p)) (by simp)
      have bx5 := bx4.later hb5
      have br5 := br4.later hb5
      have bx5 : Box w5 w.heap.size #[.bool !p, .slice A n c, .int .i64 e] 24 := bx5
      obtain ⟨u0, u1, u2, v0, v1, v2⟩ := bx5.cell3
      obtain ⟨z0, z1, z2, y0, y1, y2⟩ := br5.cell3
      clear x0 x1 x2 t0 t1 t2 TR H3
      go_wp2_with fail
      refine bodyPost_ret (v := _) ?_ rfl (retD_set (o := some ⟨!p, m, e⟩) (h5.arr.set_box bx5 no3d 1 _) (br5.otherR (grown_set _ _ _ _) (by simp)) (below_set hw5 _ _ (Nat.le_refl _) _) (by omega))
      simp [results, Tryd.results31, go_sem, z0, z1, z2]
      exact ⟨by cases p <;> rfl, rfl⟩
end Go.Proofs.YtbfnjjnnlbchgaaDoor
