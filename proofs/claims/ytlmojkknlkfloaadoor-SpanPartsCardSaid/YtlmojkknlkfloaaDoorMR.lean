/- What awake02 reckons: 1 over 3, and 1 and 3. -/
import Derived.Test.YtlmojkknlkfloaaDoorMO
import Derived.Test.YtlmojkknlkfloaaDoorMQ
import Derived.Test.YtlmojkknlkfloaaDoorMP
namespace Go.Proofs.YtlmojkknlkfloaaDoor
open Go.RowKit Num
set_option linter.unusedSimpArgs false
set_option linter.unusedVariables false
set_option maxRecDepth 100000

theorem bl_one : bl 1 = 1 := bl_unique (v := 1) (a := 0) (by decide) (by decide)
theorem bl_three : bl 3 = 2 := bl_unique (v := 3) (a := 1) (by decide) (by decide)
theorem bl_21 : bl 21 = 5 := bl_unique (v := 21) (a := 4) (by decide) (by decide)
theorem over_one_three : overD false false [1] [3] 0 0 3 false = some ⟨false, 5, -4⟩ := by
  have p1 : plainB false [1] 0 = true := by decide
  have p2 : plainB false [3] 0 = true := by decide
  have p3 : rightB 3 = true := by decide
  have v1 : val [1] = 1 := val_one 1
  have v3 : val [3] = 3 := val_one 3
  have k : overK 1 3 3 = 6 := by unfold overK; rw [bl_one, bl_three]; decide
  unfold overD
  rw [p1, p2, p3, v1, v3, k]
  have e1 : (1 : Int) * 2 ^ 6 / 3 = 21 := by decide
  have e2 : decide ((1 : Int) * 2 ^ 6 % 3 ≠ 0) = true := by decide
  rw [e1, e2]
  simp only [Bool.and_self, Bool.true_and, List.length_singleton, ne_eq, Nat.succ_ne_self, not_false_eq_true, decide_true, if_true]
  unfold cutD cutQ cutR
  rw [bl_21]
  have e3 : (5 : Int) - 3 = 2 := by decide
  rw [e3]
  have e4 : (21 : Int) / 2 ^ (2 : Int).toNat = 5 := by decide
  rw [if_neg (by decide), if_pos (by decide), if_pos (by decide), e4]
  have := mkD_split false (v := 5) (e := -4) (u := 5) (a := 0) (by decide) (by decide) (by decide) (by decide) (by decide) (by decide) (by decide)
  simpa using this
theorem sum_one_three (A A' : Option Addr) (c c' : Nat) : sumD [⟨false, A, 1, c, [1], 0⟩, ⟨false, A', 1, c', [3], 0⟩] = some ⟨false, 1, 2⟩ := by
  have p1 : plainB false [1] 0 = true := by decide
  have p2 : plainB false [3] 0 = true := by decide
  have hl : lo [⟨false, A, 1, c, [1], 0⟩, ⟨false, A', 1, c', [3], 0⟩] = 0 := by simp [lo, loF]; decide
  have hh : hi [⟨false, A, 1, c, [1], 0⟩, ⟨false, A', 1, c', [3], 0⟩] = 0 := by simp [hi, hiF]; decide
  have s0 : sm false 0 [⟨false, A, 1, c, [1], 0⟩, ⟨false, A', 1, c', [3], 0⟩] = 4 := by simp [sm, smF, val]
  have s1 : sm true 0 [⟨false, A, 1, c, [1], 0⟩, ⟨false, A', 1, c', [3], 0⟩] = 0 := by simp [sm, smF]
  unfold sumD
  rw [hl, hh, s0, s1]
  have pl : ([⟨false, A, 1, c, [1], 0⟩, ⟨false, A', 1, c', [3], 0⟩] : List DV).all DV.plain = true := by simp [DV.plain, p1, p2]
  rw [pl, if_pos rfl, if_neg (by decide), if_pos (by decide)]
  have := mkD_split false (v := 4) (e := 0) (u := 1) (a := 2) (by decide) (by decide) (by decide) (by decide) (by decide) (by decide) (by decide)
  simpa using this
end Go.Proofs.YtlmojkknlkfloaaDoor
/- awake02. -/
namespace Go.Proofs.YtlmojkknlkfloaaDoor
open Go.RowKit Num
set_option maxRecDepth 100000

set_option maxHeartbeats 2000000 in
theorem awake02 (w : World) (hT : Tz w) : Calls Tryd.prog 22 #[] w fun r w' => r = .returned (.bool true) ∧ Below w.heap.size w w' := by
  have bW : Below w.heap.size w ((((w.alloc (.cells #[.int .u64 1] 27)).alloc (.cells #[.int .u64 3] 27)).alloc (.cells #[.bool false, .slice (some ⟨w.heap.size, 0, none⟩) 1 1, .int .i64 0] 24)).alloc (.cells #[.bool false, .slice (some ⟨w.heap.size + 1, 0, none⟩) 1 1, .int .i64 0] 24)) := below_alloc (below_alloc (below_alloc (below_alloc (below_self w) _) _) _) _
  have a1 : Arr ((((w.alloc (.cells #[.int .u64 1] 27)).alloc (.cells #[.int .u64 3] 27)).alloc (.cells #[.bool false, .slice (some ⟨w.heap.size, 0, none⟩) 1 1, .int .i64 0] 24)).alloc (.cells #[.bool false, .slice (some ⟨w.heap.size + 1, 0, none⟩) 1 1, .int .i64 0] 24)) (some ⟨w.heap.size, 0, none⟩) 1 1 [1] := (arr_one (w := w) rfl 1 (by decide) (by decide)).below (below_alloc (below_alloc (below_alloc (below_self _) _) _) _)
  have a3 : Arr ((((w.alloc (.cells #[.int .u64 1] 27)).alloc (.cells #[.int .u64 3] 27)).alloc (.cells #[.bool false, .slice (some ⟨w.heap.size, 0, none⟩) 1 1, .int .i64 0] 24)).alloc (.cells #[.bool false, .slice (some ⟨w.heap.size + 1, 0, none⟩) 1 1, .int .i64 0] 24)) (some ⟨w.heap.size + 1, 0, none⟩) 1 1 [3] := (arr_one (w := w.alloc (.cells #[.int .u64 1] 27)) (by simp) 3 (by decide) (by decide)).below (below_alloc (below_alloc (below_self _) _) _)
  have x1 := (box_new ((w.alloc (.cells #[.int .u64 1] 27)).alloc (.cells #[.int .u64 3] 27)) #[.bool false, .slice (some ⟨w.heap.size, 0, none⟩) 1 1, .int .i64 0] 24).later (below_alloc (below_self _) (.cells #[.bool false, .slice (some ⟨w.heap.size + 1, 0, none⟩) 1 1, .int .i64 0] 24))
  rw [show ((w.alloc (.cells #[.int .u64 1] 27)).alloc (.cells #[.int .u64 3] 27)).heap.size = w.heap.size + 1 + 1 by simp] at x1
  have x3 := box_new (((w.alloc (.cells #[.int .u64 1] 27)).alloc (.cells #[.int .u64 3] 27)).alloc (.cells #[.bool false, .slice (some ⟨w.heap.size, 0, none⟩) 1 1, .int .i64 0] 24)) #[.bool false, .slice (some ⟨w.heap.size + 1, 0, none⟩) 1 1, .int .i64 0] 24
  rw [show (((w.alloc (.cells #[.int .u64 1] 27)).alloc (.cells #[.int .u64 3] 27)).alloc (.cells #[.bool false, .slice (some ⟨w.heap.size, 0, none⟩) 1 1, .int .i64 0] 24)).heap.size = w.heap.size + 1 + 1 + 1 by simp] at x3
  have O := dover false false (some ⟨w.heap.size, 0, none⟩) (some ⟨w.heap.size + 1, 0, none⟩) 1 1 1 1 [1] [3] 0 0 3 false _ a1 a3 (hT.below bW)
  rw [over_one_three] at O
  have O := Lib.hid O
  go_enter Tryd.func22, Tryd.ntmps22
  go_wp2_with fail
  refine O.out.mono ?_
  rintro r w5 ⟨A5, n5, c5, rfl, h5, b5⟩
  have q1 : (optD (some ⟨false, 5, -4⟩)).neg = false := rfl
  have q2 : (optD (some ⟨false, 5, -4⟩)).e = -4 := rfl
  have q3 : wd (optD (some ⟨false, 5, -4⟩)).m = [5] := wd_small (by decide) (by decide)
  rw [q3] at h5
  rw [q1, q2]
  clear q1 q2 q3 O
  have bw5 := below_on bW b5
  have x1 := x1.later b5
  have x3 := x3.later b5
  have a1 := a1.below b5
  have a3 := a3.below b5
  have b6 := below_alloc (below_self w5) (.cells #[.bool false, .slice A5 n5 c5, .int .i64 (-4)] 24)
  have x5 := box_new w5 #[.bool false, .slice A5 n5 c5, .int .i64 (-4)] 24
  have x1 := x1.later b6
  have x3 := x3.later b6
  have a1 := a1.below b6
  have a3 := a3.below b6
  have h5 := h5.below b6
  have bw6 := below_on bw5 b6
  obtain ⟨k0, k1, k2, f0, f1, f2⟩ := x1.cell3
  obtain ⟨j0, j1, j2, g0, g1, g2⟩ := x3.cell3
  have DVV := dvs_two false false (some ⟨w.heap.size, 0, none⟩) (some ⟨w.heap.size + 1, 0, none⟩) 1 1 1 1 [1] [3] 0 0 a1 a3 24
  rw [show (w5.alloc (.cells #[.bool false, .slice A5 n5 c5, .int .i64 (-4)] 24)).heap.size = w5.heap.size + 1 by simp] at DVV
  have b7 := below_alloc (below_self (w5.alloc (.cells #[.bool false, .slice A5 n5 c5, .int .i64 (-4)] 24))) (.cells #[.bool false, .slice (some ⟨w.heap.size, 0, none⟩) 1 1, .int .i64 0, .bool false, .slice (some ⟨w.heap.size + 1, 0, none⟩) 1 1, .int .i64 0] 24)
  have bw7 := below_on bw6 b7
  have S := dsum _ 2 _ rfl _ DVV (by decide) (hT.below bw7)
  rw [sum_one_three] at S
  have S := Lib.hid S
  clear DVV
  go_wp2_with fail
  refine S.out.mono ?_
  rintro r w8 ⟨A8, n8, c8, rfl, h8, b8⟩
  have q1 : (optD (some ⟨false, 1, 2⟩)).neg = false := rfl
  have q2 : (optD (some ⟨false, 1, 2⟩)).e = 2 := rfl
  have q3 : wd (optD (some ⟨false, 1, 2⟩)).m = [1] := wd_small (by decide) (by decide)
  rw [q3] at h8
  rw [q1, q2]
  clear q1 q2 q3 S k0 k1 k2 f0 f1 f2 j0 j1 j2 g0 g1 g2
  have b78 := below_on b7 b8
  have bw8 := below_on bw6 b78
  have x1 := x1.later b78
  have x5 := x5.later b78
  have a1 := a1.below b78
  have h5 := h5.below b78
  have b9 := below_alloc (below_self w8) (.cells #[.bool false, .slice A8 n8 c8, .int .i64 2] 24)
  have x8 := box_new w8 #[.bool false, .slice A8 n8 c8, .int .i64 2] 24
  have x1 := x1.later b9
  have x5 := x5.later b9
  have a1 := a1.below b9
  have h5 := h5.below b9
  have h8 := h8.below b9
  have bw9 := below_on bw8 b9
  obtain ⟨k0, k1, k2, f0, f1, f2⟩ := x5.cell3
  go_wp2_with fail
  have b10 := below_alloc (below_self (w8.alloc (.cells #[.bool false, .slice A8 n8 c8, .int .i64 2] 24))) (.cells #[.int .u64 5] 27)
  refine (same02 false false A5 _ n5 c5 1 1 [5] [5] (-4) (-4) _ (h5.below b10) (arr_one (by simp) 5 (by decide) (by decide))).mono ?_
  rintro r w11 ⟨rfl, b11⟩
  rw [show sameB false false [5] [5] (-4) (-4) = true by decide]
  have b911 := below_on b10 b11
  have bw11 := below_on bw9 b911
  have x1 := x1.later b911
  have x8 := x8.later b911
  have a1 := a1.below b911
  have h8 := h8.below b911
  clear k0 k1 k2 f0 f1 f2 h5 x5
  obtain ⟨k0, k1, k2, f0, f1, f2⟩ := x8.cell3
  go_wp2_with fail
  have b12 := below_alloc (below_self w11) (.cells #[.int .u64 1] 27)
  refine (same02 false false A8 _ n8 c8 1 1 [1] [1] 2 2 _ (h8.below b12) (arr_one rfl 1 (by decide) (by decide))).mono ?_
  rintro r w13 ⟨rfl, b13⟩
  rw [show sameB false false [1] [1] 2 2 = true by decide]
  have b1113 := below_on b12 b13
  have bw13 := below_on bw11 b1113
  have x1 := x1.later b1113
  have a1 := a1.below b1113
  clear k0 k1 k2 f0 f1 f2 h8 x8
  obtain ⟨k0, k1, k2, f0, f1, f2⟩ := x1.cell3
  go_wp2_with fail
  refine (plain false _ 1 1 [1] 0 w13 a1).mono ?_
  rintro r w14 ⟨rfl, b14⟩
  rw [show plainB false [1] 0 = true by decide]
  have bw14 := below_on bw13 b14
  go_wp2_with fail
  go_ret
  exact ⟨rfl, bw14⟩
end Go.Proofs.YtlmojkknlkfloaaDoor
