/- The law DyadOrders. -/
import Derived.Test.YtbfnjjnnlbchgaaDoorDyU
import Derived.Test.YtbfnjjnnlbchgaaDoorDyN
namespace Go.Proofs.YtbfnjjnnlbchgaaDoor
open Go.RowKit Num
set_option maxRecDepth 100000

theorem few_two (p q : Bool) (A A' : Option Addr) (n c n' c' : Nat) (xs ys : List Int) (e f : Int) (w : World) (h : Arr w A n c xs) (h' : Arr w A' n' c' ys) :
    Calls Tryd.prog 35 #[.slice (some ⟨w.heap.size, 0, none⟩) 2 2] (w.alloc (.cells #[.bool p, .slice A n c, .int .i64 e, .bool q, .slice A' n' c', .int .i64 f] 24)) fun r w' => r = .returned (.bool (fewD ⟨p, A, n, c, xs, e⟩ && fewD ⟨q, A', n', c', ys, f⟩)) ∧ Below w.heap.size w w' := by
  have D := dvs_two p q A A' n c n' c' xs ys e f h h' 24
  refine (few02 _ 2 2 _ rfl _ D.any (by decide)).mono ?_
  rintro r w' ⟨rfl, hb⟩
  exact ⟨by simp, below_on (below_alloc (below_self w) _) hb⟩
theorem fewD_parts {d : DV} (h : fewD d = true) : d.n ≤ 40 ∧ d.e ≤ 20000 ∧ -20000 ≤ d.e := by
  unfold fewD at h
  simpa [and_assoc] using h
set_option maxHeartbeats 2000000 in
theorem dyadOrders (p q : Bool) (A A' : Option Addr) (n c n' c' : Nat) (xs ys : List Int) (e f : Int) (w : World) (h : Arr w A n c xs) (h' : Arr w A' n' c' ys) (hT : Tz w) :
    Calls Tryd.prog 9 #[.agg #[.bool p, .slice A n c, .int .i64 e], .agg #[.bool q, .slice A' n' c', .int .i64 f]] w fun r w' => r = .returned (.bool true) ∧ Below w.heap.size w w' := by
  have b1 : Below w.heap.size w ((w.alloc (.cells #[.bool p, .slice A n c, .int .i64 e] 24)).alloc (.cells #[.bool q, .slice A' n' c', .int .i64 f] 24)) := below_alloc (below_alloc (below_self w) _) _
  have bx := (box_new w #[.bool p, .slice A n c, .int .i64 e] 24).later (below_alloc (below_self _) (.cells #[.bool q, .slice A' n' c', .int .i64 f] 24))
  have bz := box_new (w.alloc (.cells #[.bool p, .slice A n c, .int .i64 e] 24)) #[.bool q, .slice A' n' c', .int .i64 f] 24
  rw [show (w.alloc (.cells #[.bool p, .slice A n c, .int .i64 e] 24)).heap.size = w.heap.size + 1 by simp] at bz
  obtain ⟨k0, k1, k2, f0, f1, f2⟩ := bx.cell3
  obtain ⟨j0, j1, j2, g0, g1, g2⟩ := bz.cell3
  have AW := Lib.hid (awake02 _ (hT.below b1))
  have FW := fun w3 (hb : Below ((w.alloc (.cells #[.bool p, .slice A n c, .int .i64 e] 24)).alloc (.cells #[.bool q, .slice A' n' c', .int .i64 f] 24)).heap.size ((w.alloc (.cells #[.bool p, .slice A n c, .int .i64 e] 24)).alloc (.cells #[.bool q, .slice A' n' c', .int .i64 f] 24)) w3) => few_two p q A A' n c n' c' xs ys e f w3 (h.below (below_on b1 hb)) (h'.below (below_on b1 hb))
  cases hf : fewD ⟨p, A, n, c, xs, e⟩ && fewD ⟨q, A', n', c', ys, f⟩
  · rw [hf] at FW
    have FW := Lib.hid FW
    go_enter Tryd.func9, Tryd.ntmps9
    go_wp2_with fail
    refine AW.out.mono ?_; rintro r w3 ⟨rfl, hb3⟩
    clear k0 k1 k2 f0 f1 f2 j0 j1 j2 g0 g1 g2
    obtain ⟨k0, k1, k2, f0, f1, f2⟩ := (bx.later hb3).cell3
    obtain ⟨j0, j1, j2, g0, g1, g2⟩ := (bz.later hb3).cell3
    go_wp2_with fail
    refine (FW.out w3 hb3).mono ?_; rintro r w4 ⟨rfl, hb4⟩
    go_wp2_with fail
    go_ret
    exact ⟨rfl, below_on b1 (below_on hb3 hb4)⟩
  · rw [hf] at FW
    have FW := Lib.hid FW
    rw [Bool.and_eq_true] at hf
    have hn := (fewD_parts hf.1).1
    have hn' := (fewD_parts hf.2).1
    simp only at hn hn'
    have DC := fun w3 (hb : Below ((w.alloc (.cells #[.bool p, .slice A n c, .int .i64 e] 24)).alloc (.cells #[.bool q, .slice A' n' c', .int .i64 f] 24)).heap.size ((w.alloc (.cells #[.bool p, .slice A n c, .int .i64 e] 24)).alloc (.cells #[.bool q, .slice A' n' c', .int .i64 f] 24)) w3) => dcmp p q A A' n c n' c' xs ys e f w3 (h.below (below_on b1 hb)) (h'.below (below_on b1 hb))
    have RC := fun w3 (hb : Below ((w.alloc (.cells #[.bool p, .slice A n c, .int .i64 e] 24)).alloc (.cells #[.bool q, .slice A' n' c', .int .i64 f] 24)).heap.size ((w.alloc (.cells #[.bool p, .slice A n c, .int .i64 e] 24)).alloc (.cells #[.bool q, .slice A' n' c', .int .i64 f] 24)) w3) => rdcmp p q A A' n c n' c' xs ys e f w3 (h.below (below_on b1 hb)) (h'.below (below_on b1 hb)) (by omega) (by omega)
    obtain ⟨cc, ok, hcr⟩ : ∃ cc ok, cmpR p q xs ys e f = .tuple #[.int .i64 cc, .bool ok] := ⟨_, _, rfl⟩
    rw [hcr] at DC RC
    have DC := Lib.hid DC
    have RC := Lib.hid RC
    clear hcr hf
    go_enter Tryd.func9, Tryd.ntmps9
    go_wp2_with fail
    refine AW.out.mono ?_; rintro r w3 ⟨rfl, hb3⟩
    clear k0 k1 k2 f0 f1 f2 j0 j1 j2 g0 g1 g2
    obtain ⟨k0, k1, k2, f0, f1, f2⟩ := (bx.later hb3).cell3
    obtain ⟨j0, j1, j2, g0, g1, g2⟩ := (bz.later hb3).cell3
    go_wp2_with fail
    refine (FW.out w3 hb3).mono ?_; rintro r w4 ⟨rfl, hb4⟩
    have hb4 := below_on hb3 hb4
    clear k0 k1 k2 f0 f1 f2 j0 j1 j2 g0 g1 g2
    obtain ⟨k0, k1, k2, f0, f1, f2⟩ := (bx.later hb4).cell3
    obtain ⟨j0, j1, j2, g0, g1, g2⟩ := (bz.later hb4).cell3
    go_wp2_with fail
    refine (DC.out w4 hb4).mono ?_; rintro r w5 ⟨rfl, hb5⟩
    have hb5 := below_on hb4 hb5
    clear k0 k1 k2 f0 f1 f2 j0 j1 j2 g0 g1 g2
    obtain ⟨k0, k1, k2, f0, f1, f2⟩ := (bx.later hb5).cell3
    obtain ⟨j0, j1, j2, g0, g1, g2⟩ := (bz.later hb5).cell3
    go_wp2_with fail
    refine (RC.out w5 hb5).mono ?_; rintro r w6 ⟨rfl, hb6⟩
    have hb6 := below_on hb5 hb6
    go_wp2_with fail
    go_ret
    exact ⟨by simp, below_on b1 hb6⟩
end Go.Proofs.YtbfnjjnnlbchgaaDoor
