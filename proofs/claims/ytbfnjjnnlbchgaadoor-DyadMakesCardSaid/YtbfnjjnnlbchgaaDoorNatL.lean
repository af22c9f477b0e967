/- math/bits.Div64 below one word; nat.DivMod of one word by one word: what the laws' awake wants. -/
import Derived.BigQuiet
import Derived.Deep.RegionWith
import Derived.Test.YtbfnjjnnlbchgaaDoorNatK
namespace Go.Proofs.YtbfnjjnnlbchgaaDoor
open Go.RowKit Num
set_option maxRecDepth 100000

theorem div64_low (x y : Int) (w : World) (hx0 : 0 ≤ x) (hx : x < 18446744073709551616) (hy0 : 0 < y) (hy : y < 18446744073709551616) :
    Calls Tryd.prog 141 #[.int .u64 0, .int .u64 x, .int .u64 y] w fun e w' => e = .returned (.tuple #[.int .u64 (x / y), .int .u64 (x % y)]) ∧ Still w w' := by
  have d1 : (y == 0) = false := beq_eq_false_iff_ne.2 (by omega)
  have d2 : decide (y ≤ 0) = false := by simp; omega
  have q1 : 0 ≤ x / y := Int.ediv_nonneg hx0 (by omega)
  have q2 : x / y ≤ x := Int.ediv_le_self _ hx0
  have q3 : 0 ≤ x % y := Int.emod_nonneg _ (by omega)
  have q4 : x % y < y := Int.emod_lt_of_pos _ hy0
  have t1 : x.tdiv y = x / y := Int.tdiv_eq_ediv_of_nonneg hx0
  have t2 : x.tmod y = x % y := Int.tmod_eq_emod_of_nonneg hx0
  go_enter Tryd.func141, Tryd.ntmps141
  go_wp2
  go_quiet (fail)
  go_wp2
  go_ret2
  exact ⟨by first | rfl | simp [t1, t2], ⟨_, rfl⟩⟩
theorem divmod_one (A A' : Option Addr) (c c' : Nat) (x y : Int) (w : World) (h : Arr w A 1 c [x]) (h' : Arr w A' 1 c' [y]) (hy : 0 < y) (hxy : y ≤ x) :
    Calls Tryd.prog 103 #[.slice A 1 c, .slice A' 1 c'] w fun e w' => ∃ A1 n1 c1 A2 n2 c2, e = .returned (.tuple #[.slice A1 n1 c1, .slice A2 n2 c2, .bool true]) ∧ Arr w' A1 n1 c1 (wd (x / y)) ∧ Arr w' A2 n2 c2 (wd (x % y)) ∧ Below w.heap.size w w' := by
  have hx1 := h.words 0
  have hy1 := h'.words 0
  simp only [List.getD_cons_zero] at hx1 hy1
  have T := Lib.hid (trim A 1 c [x] w h)
  have T' := Lib.hid (trim A' 1 c' [y] w h')
  have C := Lib.hid (ncmp A A' 1 c 1 c' [x] [y] w h h')
  have l1 : (wd (val [x])).length = 1 := by rw [val_one, wd_small (by omega) hx1.2]; rfl
  have l2 : (wd (val [y])).length = 1 := by rw [val_one, wd_small hy hy1.2]; rfl
  rw [l1] at T
  rw [l2] at T'
  rw [val_one, val_one] at C
  have hc : cmpI x y = 0 ∨ cmpI x y = 1 := by unfold cmpI; rw [if_neg (by omega)]; split <;> simp
  generalize cmpI x y = q at *
  have hq : decide (q < 0) = false := by simp; omega
  have q1 : 0 ≤ x / y := Int.ediv_nonneg hx1.1 (by omega)
  have q2 : x / y ≤ x := Int.ediv_le_self _ hx1.1
  have q3 : 0 ≤ x % y := Int.emod_nonneg _ (by omega)
  have q4 : x % y < y := Int.emod_lt_of_pos _ hy
  have D := Lib.hid (fun w => div64_low x y w hx1.1 hx1.2 hy hy1.2)
  generalize x / y = dq at *
  generalize x % y = dr at *
  go_enter Tryd.func103, Tryd.ntmps103
  go_wp2_with fail
  refine T.out.mono ?_; rintro r w' ⟨rfl, rfl⟩
  go_wp2_with fail
  refine T'.out.mono ?_; rintro r w' ⟨rfl, rfl⟩
  go_wp2_with fail
  refine C.out.mono ?_; rintro r w0 ⟨rfl, hst⟩
  have hb0 := hst.below w.heap.size
  clear hst
  go_wp2_with (at_make; refine wp_make rfl _ _ rfl _ _ 1 rfl rfl ?m1 ?m2 ?m3 ?_)
  case m1 => omega
  case m2 => omega
  case m3 => omega
  intro g w1 hg hrow hb
  have hb1 := below_on hb0 (hg ▸ hb)
  have hgw : w.heap.size ≤ g := by rw [hg]; exact hb0.size
  clear hg hb
  have hwd1 : wd (val [dq]) = wd dq := by rw [val_one]
  have hwd2 : wd (val [dr]) = wd dr := by rw [val_one]
  go_wp2_with fail
  go_loopw [8, 9] (fun vl vi wr => Below w.heap.size w wr ∧ ((vi = .int .i64 0 ∧ vl = .int .u64 0 ∧ Row wr g [0]) ∨ (vi = .int .i64 (-1) ∧ vl = .int .u64 dr ∧ Row wr g [dq]))) (fun _ vi _ => (intOf vi + 1).toNat)
  case atStart => exact ⟨hb1, .inl ⟨rfl, rfl, hrow⟩⟩
  case round =>
    obtain ⟨hW, ⟨rfl, rfl, hR⟩ | ⟨rfl, rfl, hR⟩⟩ := hrel
    · obtain ⟨b, o, rfl, hlt, hc⟩ := (h.below hW).mem (by omega)
      have k1 := hc 0 (by omega)
      obtain ⟨b', o', rfl, hlt', hc'⟩ := (h'.below hW).mem (by omega)
      have k2 := hc' 0 (by omega)
      simp only [List.getD_cons_zero, Nat.add_zero] at k1 k2
      have r1 := hR.cell 0 (by simp)
      have r2 := hR.free 0
      simp only [List.getD_cons_zero] at r1
      have hset := fun W (hr : Row W g [0]) => hr.set 0 (by simp) dq q1 (by omega)
      have HS := Lib.hid hset
      clear hset
      clear hc hc'
      go_wp2_with fail
      go_region_with (go_at_call 141; refine (D.out _).mono ?_; rintro r w' ⟨rfl, ⟨k, rfl⟩⟩)
      all_goals
        go_wp2_with fail
        exact ⟨⟨(by repeat (first | with_reducible assumption | exact below_self _ | refine below_set ?_ _ _ (by first | exact Nat.le_refl _ | omega | (simp; done) | (simp; omega)) _ | refine below_alloc ?_ _ | apply Below.drew | apply below_drewN)), .inr ⟨rfl, rfl, HS.out _ (by repeat (first | exact hR | apply Row.drewN | apply Row.drew))⟩⟩, by simp [intOf]⟩
    · have hA := hR.arr' (n := 1) (c := 1) rfl (by omega) (by omega)
      have TQ := Lib.hid (trim _ 1 1 [dq] wr hA)
      have TR := Lib.hid (trim _ 1 1 [dr] _ (arr_one (w := wr) rfl dr q3 (by omega)))
      rw [hwd1] at TQ
      rw [hwd2] at TR
      have hT1 := hA.trim
      have hT2 := (arr_one (w := wr) rfl dr q3 (by omega)).trim
      rw [hwd1] at hT1
      rw [hwd2] at hT2
      clear hwd1 hwd2
      go_wp2_with fail
      refine TQ.out.mono ?_; rintro r w' ⟨rfl, rfl⟩
      go_wp2_with fail
      refine TR.out.mono ?_; rintro r w' ⟨rfl, rfl⟩
      go_wp2_with fail
      refine bodyPost_ret (v := .tuple #[.slice (some ⟨g, 0, none⟩) (wd dq).length 1, .slice (some ⟨wr.heap.size, 0, none⟩) (wd dr).length 1, .bool true]) (by simp [results, Tryd.results103, go_sem]) rfl ?_
      exact ⟨_, _, _, _, _, _, rfl, hT1.below (below_alloc (below_self _) _), hT2, below_alloc hW _⟩
end Go.Proofs.YtbfnjjnnlbchgaaDoor
