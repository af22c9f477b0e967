/- The same span; what awake03 reckons. -/
import Derived.Test.YtlmojkknlkfloaaDoorSnJ
import Derived.Test.YtlmojkknlkfloaaDoorMR
import Derived.Test.YtlmojkknlkfloaaDoorML
namespace Go.Proofs.YtlmojkknlkfloaaDoor
open Go.RowKit Num
set_option linter.unusedSimpArgs false
set_option linter.unusedVariables false
set_option maxRecDepth 100000

def sameS (p q s t : Bool) (xs ys us vs : List Int) (e f i j : Int) : Bool := sameB p s xs us e i && sameB q t ys vs f j
theorem rsame03 (p q s t : Bool) (A A' B B' : Option Addr) (n c n' c' m k m' k' : Nat) (xs ys us vs : List Int) (e f i j : Int) (w : World)
    (h : Arr w A n c xs) (h' : Arr w A' n' c' ys) (hB : Arr w B m k us) (hB' : Arr w B' m' k' vs) :
    Calls Tryd.prog 46 #[.agg #[.bool p, .slice A n c, .int .i64 e, .bool q, .slice A' n' c', .int .i64 f], .agg #[.bool s, .slice B m k, .int .i64 i, .bool t, .slice B' m' k', .int .i64 j]] w fun r w' => r = .returned (.bool (sameS p q s t xs ys us vs e f i j)) ∧ Below w.heap.size w w' := by
  have b1 := below_alloc (below_self w) (.cells #[.bool p, .slice A n c, .int .i64 e, .bool q, .slice A' n' c', .int .i64 f] 41)
  have b0 : Below w.heap.size w ((w.alloc (.cells #[.bool p, .slice A n c, .int .i64 e, .bool q, .slice A' n' c', .int .i64 f] 41)).alloc (.cells #[.bool s, .slice B m k, .int .i64 i, .bool t, .slice B' m' k', .int .i64 j] 41)) := below_alloc b1 _
  have xa := (box_new w #[.bool p, .slice A n c, .int .i64 e, .bool q, .slice A' n' c', .int .i64 f] 41).later (below_alloc (below_self _) (.cells #[.bool s, .slice B m k, .int .i64 i, .bool t, .slice B' m' k', .int .i64 j] 41))
  have xb := box_new (w.alloc (.cells #[.bool p, .slice A n c, .int .i64 e, .bool q, .slice A' n' c', .int .i64 f] 41)) #[.bool s, .slice B m k, .int .i64 i, .bool t, .slice B' m' k', .int .i64 j] 41
  rw [show (w.alloc (.cells #[.bool p, .slice A n c, .int .i64 e, .bool q, .slice A' n' c', .int .i64 f] 41)).heap.size = w.heap.size + 1 by simp] at xb
  have S1 := same02 p s A B n c m k xs us e i _ (h.below b0) (hB.below b0)
  have S2 := fun w' (hb : Below w.heap.size w w') => same02 q t A' B' n' c' m' k' ys vs f j w' (h'.below hb) (hB'.below hb)
  have hs : sameS p q s t xs ys us vs e f i j = (sameB p s xs us e i && sameB q t ys vs f j) := rfl
  rw [hs]
  generalize sameB p s xs us e i = z1 at *
  generalize sameB q t ys vs f j = z2 at *
  have S1 := Lib.hid S1
  have S2 := Lib.hid S2
  obtain ⟨k0, k1, k2, k3, k4, k5, -⟩ := xa.cell6
  obtain ⟨j0, j1, j2, j3, j4, j5, -⟩ := xb.cell6
  cases z1
  · go_enter Tryd.func46, Tryd.ntmps46
    go_wp2_with fail
    refine S1.out.mono ?_
    rintro r w2 ⟨rfl, hb2⟩
    go_wp2_with fail
    go_ret
    exact ⟨rfl, below_on b0 hb2⟩
  · go_enter Tryd.func46, Tryd.ntmps46
    go_wp2_with fail
    refine S1.out.mono ?_
    rintro r w2 ⟨rfl, hb2⟩
    have b2 := below_on b0 hb2
    have xa := xa.later hb2
    have xb := xb.later hb2
    clear k0 k1 k2 k3 k4 k5 j0 j1 j2 j3 j4 j5
    obtain ⟨k0, k1, k2, k3, k4, k5, -⟩ := xa.cell6
    obtain ⟨j0, j1, j2, j3, j4, j5, -⟩ := xb.cell6
    go_wp2_with fail
    refine (S2.out _ b2).mono ?_
    rintro r w3 ⟨rfl, hb3⟩
    go_wp2_with fail
    go_ret
    exact ⟨rfl, below_on b2 hb3⟩
theorem sameS_self (p q : Bool) (xs ys : List Int) (e f : Int) : sameS p q p q xs ys xs ys e f e f = true := by unfold sameS sameB; simp
theorem over_one_three_up : overD false false [1] [3] 0 0 3 true = some ⟨false, 3, -3⟩ := by
  have p1 : plainB false [1] 0 = true := by decide
  have p2 : plainB false [3] 0 = true := by decide
  have p3 : rightB 3 = true := by decide
  have v1 : val [1] = 1 := val_one 1
  have v3 : val [3] = 3 := val_one 3
  have k : overK 1 3 3 = 6 := by unfold overK; rw [bl_one, bl_three]; decide
  unfold overD
  rw [p1, p2, p3, v1, v3, k]
  have e1 : (1 : Int) * 2 ^ 6 / 3 = 21 := by decide
  have e2 : decide ((1 : Int) * 2 ^ 6 % 3 ≠ 0) = true := by decide
  rw [e1, e2]
  simp only [Bool.and_self, Bool.true_and, List.length_singleton, ne_eq, Nat.succ_ne_self, not_false_eq_true, decide_true, if_true]
  unfold cutD cutQ cutR
  rw [bl_21]
  have e3 : (5 : Int) - 3 = 2 := by decide
  rw [e3]
  have e4 : (21 : Int) / 2 ^ (2 : Int).toNat = 5 := by decide
  rw [if_pos (by decide), if_pos (by decide), if_pos (by decide), e4]
  have := mkD_split false (v := 6) (e := -4) (u := 3) (a := 1) (by decide) (by decide) (by decide) (by decide) (by decide) (by decide) (by decide)
  simpa using this
theorem canD_one : canD 1 0 = ⟨false, 1, 0⟩ := by
  obtain ⟨t, u⟩ := odd_of_split (v := 1) (u := 1) (a := 0) (by decide) (by decide) (by decide)
  unfold canD
  rw [if_neg (by decide)]
  show (⟨decide ((1 : Int) < 0), oddI 1, 0 + tz 1⟩ : Dy) = _
  rw [t, u]; rfl
theorem canD_three : canD 3 0 = ⟨false, 3, 0⟩ := by
  obtain ⟨t, u⟩ := odd_of_split (v := 3) (u := 3) (a := 0) (by decide) (by decide) (by decide)
  unfold canD
  rw [if_neg (by decide)]
  show (⟨decide ((3 : Int) < 0), oddI 3, 0 + tz 3⟩ : Dy) = _
  rw [t, u]; rfl
theorem bestY_self (most : Bool) (D : Dy) : bestY most D D D D = D := by
  have h : stepY most D D = D := by unfold stepY; generalize (if most then decide (0 < cDy D D) else decide (cDy D D < 0) : Bool) = z; cases z <;> rfl
  unfold bestY
  rw [h, h, h]
set_option maxHeartbeats 4000000 in
theorem awake03 (w : World) (hT : Tz w) : Calls Tryd.prog 30 #[] w fun r w' => r = .returned (.bool true) ∧ Below w.heap.size w w' := by
  have b0 : Below w.heap.size w (w.alloc (.cells #[.int .i64 3, .bool false] 64)) := below_alloc (below_self w) _
  have hk : Wk (w.alloc (.cells #[.int .i64 3, .bool false] 64)) w.heap.size 3 false 64 := box_new w _ _
  have hT0 := hT.below b0
  have N1 := spnum w.heap.size 3 false 1 _ hk hT0 (by decide) (by decide)
  have n1 : numO false 3 1 = some (⟨false, 1, 0⟩, ⟨false, 1, 0⟩) := by unfold numO workB; rw [canD_one]; rfl
  have n3 : numO false 3 3 = some (⟨false, 3, 0⟩, ⟨false, 3, 0⟩) := by unfold numO workB; rw [canD_three]; rfl
  rw [n1] at N1
  have N1 := Lib.hid N1
  have w1 : wd 1 = [1] := wd_small (by decide) (by decide)
  have w3 : wd 3 = [3] := wd_small (by decide) (by decide)
  have w5 : wd 5 = [5] := wd_small (by decide) (by decide)
  have HW1 := Lib.hid w1
  have HW3 := Lib.hid w3
  have HW5 := Lib.hid w5
  have HN3 := Lib.hid n3
  clear w1 w3 w5 n1 n3
  go_enter Tryd.func30, Tryd.ntmps30
  go_wp2_with fail
  refine N1.out.mono ?_
  rintro r w2 ⟨A, n, c, A', n', c', rfl, hA, hA', hk2, g2⟩
  simp only [Option.getD_some, Option.isNone_some] at hA hA' hk2 ⊢
  rw [HW1.out] at hA hA'
  have hT2 := hk.tz hT0 g2
  have N3 := spnum w.heap.size 3 false 3 _ hk2 hT2 (by decide) (by decide)
  rw [HN3.out] at N3
  have N3 := Lib.hid N3
  go_wp2_with fail
  refine N3.out.mono ?_
  rintro r w4 ⟨B, m, k, B', m', k', rfl, hB, hB', hk4, g4⟩
  simp only [Option.getD_some, Option.isNone_some] at hB hB' hk4 ⊢
  rw [HW3.out] at hB hB'
  have hT4 := hk2.tz hT2 g4
  have hA4 := hk2.arr hA g4
  have hA4' := hk2.arr hA' g4
  have r1 : rightS false false [1] [1] 0 0 = true := by rw [ends_self]; decide
  have r3 : rightS false false [3] [3] 0 0 = true := by rw [ends_self]; decide
  have tk : takeB false 3 [⟨false, A, n, c, [1], 0, false, A', n', c', [1], 0⟩, ⟨false, B, m, k, [3], 0, false, B', m', k', [3], 0⟩] = false := by
    unfold takeB SVal.right
    simp [r1, r3]
  have sg : signS false false [3] [3] 0 0 = 1 := by unfold signS; rw [r3]; rfl
  have DV := spdiv false false false false A A' B B' n c n' c' m k m' k' [1] [1] [3] [3] 0 0 0 0 3 w.heap.size false ⟨false, 5, -4⟩ ⟨false, 5, -4⟩ ⟨false, 5, -4⟩ ⟨false, 5, -4⟩ ⟨false, 3, -3⟩ ⟨false, 3, -3⟩ ⟨false, 3, -3⟩ ⟨false, 3, -3⟩ w4 hA4 hA4' hB hB' hT4 hk4
    (fun _ _ => ⟨⟨over_one_three, over_one_three, over_one_three, over_one_three⟩, over_one_three_up, over_one_three_up, over_one_three_up, over_one_three_up⟩)
  rw [if_pos ⟨tk, by rw [sg]; decide⟩, bestY_self, bestY_self] at DV
  have DV := Lib.hid DV
  clear tk sg r1 r3
  go_wp2_with fail
  refine DV.out.mono ?_
  rintro r w6 ⟨C, n6, c6, C', n7, c7, rfl, hC, hC', hk6, g6⟩
  simp only [Option.getD_some, Option.isNone_some] at hC hC' hk6 ⊢
  rw [HW5.out] at hC
  rw [HW3.out] at hC'
  have b7 := below_alloc (below_self w6) (.cells #[.bool false, .slice C n6 c6, .int .i64 (-4), .bool false, .slice C' n7 c7, .int .i64 (-3)] 41)
  have xs7 := box_new w6 #[.bool false, .slice C n6 c6, .int .i64 (-4), .bool false, .slice C' n7 c7, .int .i64 (-3)] 41
  have hk7 := hk6.later b7
  obtain ⟨z0, z1, z2, z3⟩ := hk7.cells
  obtain ⟨k0, k1, k2, k3, k4, k5, -⟩ := xs7.cell6
  have b9 := below_alloc (below_alloc (below_self (w6.alloc (.cells #[.bool false, .slice C n6 c6, .int .i64 (-4), .bool false, .slice C' n7 c7, .int .i64 (-3)] 41))) (.cells #[.int .u64 5] 27)) (.cells #[.int .u64 3] 27)
  have h5 := (arr_one (w := w6.alloc (.cells #[.bool false, .slice C n6 c6, .int .i64 (-4), .bool false, .slice C' n7 c7, .int .i64 (-3)] 41)) (g := w6.heap.size + 1) (by simp) 5 (by decide) (by decide)).below (below_alloc (below_self _) (.cells #[.int .u64 3] 27))
  have h3 := arr_one (w := (w6.alloc (.cells #[.bool false, .slice C n6 c6, .int .i64 (-4), .bool false, .slice C' n7 c7, .int .i64 (-3)] 41)).alloc (.cells #[.int .u64 5] 27)) (g := w6.heap.size + 1 + 1) (by simp) 3 (by decide) (by decide)
  have SM := rsame03 false false false false C C' _ _ n6 c6 n7 c7 1 1 1 1 [5] [3] [5] [3] (-4) (-3) (-4) (-3) _ ((hC.below b7).below b9) ((hC'.below b7).below b9) h5 h3
  rw [sameS_self] at SM
  have SM := Lib.hid SM
  have gw := grown_on (grown_trans (grown_trans g2 g4) g6) (below_on b7 b9)
  clear DV N1 N3
  go_wp2_with fail
  refine SM.out.mono ?_
  rintro r w10 ⟨rfl, hb10⟩
  go_wp2_with fail
  go_ret
  exact ⟨rfl, below_grownBy b0 (grown_on gw hb10) (Nat.le_refl _)⟩
end Go.Proofs.YtlmojkknlkfloaaDoor
