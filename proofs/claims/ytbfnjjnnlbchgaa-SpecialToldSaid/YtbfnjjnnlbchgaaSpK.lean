/- The law SpecialTold. -/
import Derived.Test.YtbfnjjnnlbchgaaSpL
import Derived.Test.YtbfnjjnnlbchgaaSpJA
import Derived.Test.YtbfnjjnnlbchgaaSpJB
import Derived.Test.YtbfnjjnnlbchgaaSpJC
import Derived.Test.YtbfnjjnnlbchgaaSpJD
import Derived.Test.YtbfnjjnnlbchgaaSpJE
import Derived.Test.YtbfnjjnnlbchgaaSpJF
namespace Go.Proofs.Ytbfnjjnnlbchgaa
open Go.RowKit Num
set_option linter.unusedSimpArgs false
set_option linter.unusedVariables false
set_option maxRecDepth 100000

theorem tspecial_out (tag x y u v : Int) (w : World) (h : tag < 0 ∨ 20 < tag) :
    Calls Try.prog 8 #[.int .i64 tag, .agg #[.int .u64 x, .int .u64 y, .int .u64 u, .int .u64 v]] w (RetT (specI tag x y u v) w) := by
  have b1 : Below w.heap.size w ((w.alloc (.cells #[.int .u64 x, .int .u64 y, .int .u64 u, .int .u64 v] 24)).alloc (.cells #[.int .u64 0, .int .u64 0] 26)) := below_alloc (below_alloc (below_self w) _) _
  have br := box_new (w.alloc (.cells #[.int .u64 x, .int .u64 y, .int .u64 u, .int .u64 v] 24)) #[.int .u64 0, .int .u64 0] 26
  rw [show (w.alloc (.cells #[.int .u64 x, .int .u64 y, .int .u64 u, .int .u64 v] 24)).heap.size = w.heap.size + 1 by simp] at br
  have r0 := br.cell 0
  have r1 := br.cell 1
  have f0 := br.free 0
  have f1 := br.free 1
  unfold specI
  rw [if_pos h]
  have hd : decide (tag < 0) = true ∨ (decide (tag < 0) = false ∧ decide (tag > 20) = true) := by
    rcases h with h | h
    · exact .inl (decide_eq_true h)
    · by_cases h0 : tag < 0
      · exact .inl (decide_eq_true h0)
      · exact .inr ⟨decide_eq_false h0, decide_eq_true h⟩
  rcases hd with d0 | ⟨d0, d1⟩
  all_goals
    go_enter Try.func8, Try.ntmps8
    go_wp2_with fail
    refine bodyPost_ret (v := _) ?_ rfl ⟨rfl, ?_⟩
    · simp [results, Try.results8, go_sem, r0, r1]
    · exact (by repeat (first | with_reducible assumption | with_reducible exact below_self _ | with_reducible refine below_drewN ?_ _ | with_reducible apply Below.drew | with_reducible refine below_alloc ?_ _ | (with_reducible refine below_set ?_ _ _ ?_ _; rotate_left; (first | omega | (simp; done) | (simp; omega)))))
theorem tspecial (tag x y u v : Int) (w : World) (hx : Wd x) (hy : Wd y) (hu : Wd u) (hv : Wd v) :
    Calls Try.prog 8 #[.int .i64 tag, .agg #[.int .u64 x, .int .u64 y, .int .u64 u, .int .u64 v]] w (RetT (specI tag x y u v) w) := by
  by_cases h : tag < 0 ∨ 20 < tag
  · exact tspecial_out tag x y u v w h
  by_cases t2 : tag = 2
  · subst t2; exact tspecial2 x y u v w hx hy hu hv
  by_cases t3 : tag = 3
  · subst t3; exact tspecial3 x y u v w hx hy hu hv
  by_cases t0 : tag = 0
  · subst t0; exact tspecial0 x y u v w hx hy hu hv
  by_cases t1 : tag = 1
  · subst t1; exact tspecial1 x y u v w hx hy hu hv
  by_cases t6 : tag = 6
  · subst t6; exact tspecial6 x y u v w hx hy hu hv
  by_cases t7 : tag = 7
  · subst t7; exact tspecial7 x y u v w hx hy hu hv
  by_cases t8 : tag = 8
  · subst t8; exact tspecial8 x y u v w hx hy hu hv
  by_cases t17 : tag = 17
  · subst t17; exact tspecial17 x y u v w hx hy hu hv
  by_cases t20 : tag = 20
  · subst t20; exact tspecial20 x y u v w hx hy hu hv
  by_cases t4 : tag = 4
  · subst t4; exact tspecial4 x y u v w hx hy hu hv
  by_cases t5 : tag = 5
  · subst t5
    cases hsg : singZ 5 x y u v
    · exact tspecial5a x y u v w hx hy hu hv hsg
    · exact tspecial5b x y u v w hx hy hu hv hsg
  exact tspeciald tag x y u v w hx hy hu hv (by omega) (by omega) t2 t3 t0 t1 t6 t7 t8 t17 t20 t4 t5
set_option maxHeartbeats 1000000 in
theorem specialTold (tag x y u v : Int) (w : World) (hx : Wd x) (hy : Wd y) (hu : Wd u) (hv : Wd v) :
    Calls Try.prog 3 #[.int .i64 tag, .agg #[.int .u64 x, .int .u64 y, .int .u64 u, .int .u64 v]] w fun r w' => r = .returned (.bool true) ∧ Below w.heap.size w w' := by
  have b1 := below_alloc (below_self w) (.cells #[.int .u64 x, .int .u64 y, .int .u64 u, .int .u64 v] 24)
  have bz := box_new w #[.int .u64 x, .int .u64 y, .int .u64 u, .int .u64 v] 24
  have AW := Lib.hid (awake13 (w.alloc (.cells #[.int .u64 x, .int .u64 y, .int .u64 u, .int .u64 v] 24)))
  have S := fun w => spspecial tag x y u v w hx hy hu hv
  have T := fun w => tspecial tag x y u v w hx hy hu hv
  unfold RetT at S T
  generalize specI tag x y u v = t at *
  obtain ⟨t1, t2, t3, t4⟩ := t
  simp only at S T
  have S := Lib.hid S
  have T := Lib.hid T
  go_enter Try.func3, Try.ntmps3
  go_wp2_with fail
  refine AW.out.mono ?_; rintro r w1 ⟨rfl, hb1⟩
  obtain ⟨k0, k1, k2, k3⟩ := (bz.later hb1).cell4
  go_wp2_with fail
  refine (S.out w1).mono ?_; rintro r w2 ⟨rfl, hb2⟩
  have hb2' := below_alloc hb2 (.cells #[.int .u64 t1, .int .u64 t2] 26)
  have x2 := box_new w2 #[.int .u64 t1, .int .u64 t2] 26
  have bz2 := (bz.later hb1).later hb2'
  clear k0 k1 k2 k3
  obtain ⟨k0, k1, k2, k3⟩ := bz2.cell4
  go_wp2_with fail
  refine (T.out _).mono ?_; rintro r w3 ⟨rfl, hb3⟩
  have hb3' := below_alloc hb3 (.cells #[.int .u64 t1, .int .u64 t2] 26)
  have x3 := box_new w3 #[.int .u64 t1, .int .u64 t2] 26
  have x2 := x2.later hb3'
  clear k0 k1 k2 k3
  have k0 := x2.cell 0
  have k1 := x2.cell 1
  have j0 := x3.cell 0
  have j1 := x3.cell 1
  go_wp2_with fail
  rw [eq_duo]
  simp only [Result.andThen_ok, Oper.upon_value, BEq.rfl, Bool.and_self]
  go_wp2_with fail
  go_ret
  exact ⟨by simp, below_on b1 (below_on hb1 (below_on hb2' hb3'))⟩
end Go.Proofs.Ytbfnjjnnlbchgaa
