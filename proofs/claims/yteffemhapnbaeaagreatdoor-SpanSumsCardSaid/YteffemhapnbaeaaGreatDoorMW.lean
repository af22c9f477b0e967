/- A text of ours, with only what the claim's row needs (wip/tools/shake.py). -/
import Derived.Test.YteffemhapnbaeaaGreatDoorSnJ
import Derived.Test.YteffemhapnbaeaaGreatDoorMR
import Derived.Test.YteffemhapnbaeaaGreatDoorML
import Derived.BigQuiet
import Derived.Test.YteffemhapnbaeaaGreatDoorMS
namespace Go.Proofs.YteffemhapnbaeaaGreatDoor
open Go.RowKit Num
set_option linter.unusedSimpArgs false
set_option linter.unusedVariables false
set_option maxRecDepth 100000

def sameS (p q s t : Bool) (xs ys us vs : List Int) (e f i j : Int) : Bool := sameB p s xs us e i && sameB q t ys vs f j
theorem rsame03 (p q s t : Bool) (A A' B B' : Option Addr) (n c n' c' m k m' k' : Nat) (xs ys us vs : List Int) (e f i j : Int) (w : World)
    (h : Arr w A n c xs) (h' : Arr w A' n' c' ys) (hB : Arr w B m k us) (hB' : Arr w B' m' k' vs) :
    Calls Tryz.prog 11 #[.agg #[.bool p, .slice A n c, .int .i64 e, .bool q, .slice A' n' c', .int .i64 f], .agg #[.bool s, .slice B m k, .int .i64 i, .bool t, .slice B' m' k', .int .i64 j]] w fun r w' => r = .returned (.bool (sameS p q s t xs ys us vs e f i j)) ∧ Below w.heap.size w w' := by
  have b1 := below_alloc (below_self w) (.cells #[.bool p, .slice A n c, .int .i64 e, .bool q, .slice A' n' c', .int .i64 f] 28)
  have b0 : Below w.heap.size w ((w.alloc (.cells #[.bool p, .slice A n c, .int .i64 e, .bool q, .slice A' n' c', .int .i64 f] 28)).alloc (.cells #[.bool s, .slice B m k, .int .i64 i, .bool t, .slice B' m' k', .int .i64 j] 28)) := below_alloc b1 _
  have xa := (box_new w #[.bool p, .slice A n c, .int .i64 e, .bool q, .slice A' n' c', .int .i64 f] 28).later (below_alloc (below_self _) (.cells #[.bool s, .slice B m k, .int .i64 i, .bool t, .slice B' m' k', .int .i64 j] 28))
  have xb := box_new (w.alloc (.cells #[.bool p, .slice A n c, .int .i64 e, .bool q, .slice A' n' c', .int .i64 f] 28)) #[.bool s, .slice B m k, .int .i64 i, .bool t, .slice B' m' k', .int .i64 j] 28
  rw [show (w.alloc (.cells #[.bool p, .slice A n c, .int .i64 e, .bool q, .slice A' n' c', .int .i64 f] 28)).heap.size = w.heap.size + 1 by simp] at xb
  have S1 := same02 p s A B n c m k xs us e i _ (h.below b0) (hB.below b0)
  have S2 := fun w' (hb : Below w.heap.size w w') => same02 q t A' B' n' c' m' k' ys vs f j w' (h'.below hb) (hB'.below hb)
  have hs : sameS p q s t xs ys us vs e f i j = (sameB p s xs us e i && sameB q t ys vs f j) := rfl
  rw [hs]
  generalize sameB p s xs us e i = z1 at *
  generalize sameB q t ys vs f j = z2 at *
  have S1 := Lib.hid S1
  have S2 := Lib.hid S2
  obtain ⟨k0, k1, k2, k3, k4, k5, -⟩ := xa.cell6
  obtain ⟨j0, j1, j2, j3, j4, j5, -⟩ := xb.cell6
  cases z1
  · go_enter Tryz.func11, Tryz.ntmps11
    go_wp2_with fail
    refine S1.out.mono ?_
    rintro r w2 ⟨rfl, hb2⟩
    go_wp2_with fail
    go_ret
    exact ⟨rfl, below_on b0 hb2⟩
  · go_enter Tryz.func11, Tryz.ntmps11
    go_wp2_with fail
    refine S1.out.mono ?_
    rintro r w2 ⟨rfl, hb2⟩
    have b2 := below_on b0 hb2
    have xa := xa.later hb2
    have xb := xb.later hb2
    clear k0 k1 k2 k3 k4 k5 j0 j1 j2 j3 j4 j5
    obtain ⟨k0, k1, k2, k3, k4, k5, -⟩ := xa.cell6
    obtain ⟨j0, j1, j2, j3, j4, j5, -⟩ := xb.cell6
    go_wp2_with fail
    refine (S2.out _ b2).mono ?_
    rintro r w3 ⟨rfl, hb3⟩
    go_wp2_with fail
    go_ret
    exact ⟨rfl, below_on b2 hb3⟩
theorem sameS_self (p q : Bool) (xs ys : List Int) (e f : Int) : sameS p q p q xs ys xs ys e f e f = true := by unfold sameS sameB; simp
theorem over_one_three_up : overD false false [1] [3] 0 0 3 true = some ⟨false, 3, -3⟩ := by
  have p1 : plainB false [1] 0 = true := by decide
  have p2 : plainB false [3] 0 = true := by decide
  have p3 : rightB 3 = true := by decide
  have v1 : val [1] = 1 := val_one 1
  have v3 : val [3] = 3 := val_one 3
  have k : overK 1 3 3 = 6 := by unfold overK; rw [bl_one, bl_three]; decide
  unfold overD
  rw [p1, p2, p3, v1, v3, k]
  have e1 : (1 : Int) * 2 ^ 6 / 3 = 21 := by decide
  have e2 : decide ((1 : Int) * 2 ^ 6 % 3 ≠ 0) = true := by decide
  rw [e1, e2]
  simp only [Bool.and_self, Bool.true_and, List.length_singleton, ne_eq, Nat.succ_ne_self, not_false_eq_true, decide_true, if_true]
  unfold cutD cutQ cutR
  rw [bl_21]
  have e3 : (5 : Int) - 3 = 2 := by decide
  rw [e3]
  have e4 : (21 : Int) / 2 ^ (2 : Int).toNat = 5 := by decide
  rw [if_pos (by decide), if_pos (by decide), if_pos (by decide), e4]
  have := mkD_split false (v := 6) (e := -4) (u := 3) (a := 1) (by decide) (by decide) (by decide) (by decide) (by decide) (by decide) (by decide)
  simpa using this
theorem canD_one : canD 1 0 = ⟨false, 1, 0⟩ := by
  obtain ⟨t, u⟩ := odd_of_split (v := 1) (u := 1) (a := 0) (by decide) (by decide) (by decide)
  unfold canD
  rw [if_neg (by decide)]
  show (⟨decide ((1 : Int) < 0), oddI 1, 0 + tz 1⟩ : Dy) = _
  rw [t, u]; rfl
theorem canD_three : canD 3 0 = ⟨false, 3, 0⟩ := by
  obtain ⟨t, u⟩ := odd_of_split (v := 3) (u := 3) (a := 0) (by decide) (by decide) (by decide)
  unfold canD
  rw [if_neg (by decide)]
  show (⟨decide ((3 : Int) < 0), oddI 3, 0 + tz 3⟩ : Dy) = _
  rw [t, u]; rfl
theorem bestY_self (most : Bool) (D : Dy) : bestY most D D D D = D := by
  have h : stepY most D D = D := by unfold stepY; generalize (if most then decide (0 < cDy D D) else decide (cDy D D < 0) : Bool) = z; cases z <;> rfl
  unfold bestY
  rw [h, h, h]
set_option maxHeartbeats 4000000 in
theorem awake03 (w : World) (hT : Tz w) : Calls Tryz.prog 7 #[] w fun r w' => r = .returned (.bool true) ∧ Below w.heap.size w w' := by
  have b0 : Below w.heap.size w (w.alloc (.cells #[.int .i64 3, .bool false] 37)) := below_alloc (below_self w) _
  have hk : Wk (w.alloc (.cells #[.int .i64 3, .bool false] 37)) w.heap.size 3 false 37 := box_new w _ _
  have hT0 := hT.below b0
  have N1 := spnum w.heap.size 3 false 1 _ hk hT0 (by decide) (by decide)
  have n1 : numO false 3 1 = some (⟨false, 1, 0⟩, ⟨false, 1, 0⟩) := by unfold numO workB; rw [canD_one]; rfl
  have n3 : numO false 3 3 = some (⟨false, 3, 0⟩, ⟨false, 3, 0⟩) := by unfold numO workB; rw [canD_three]; rfl
  rw [n1] at N1
  have N1 := Lib.hid N1
  have w1 : wd 1 = [1] := wd_small (by decide) (by decide)
  have w3 : wd 3 = [3] := wd_small (by decide) (by decide)
  have w5 : wd 5 = [5] := wd_small (by decide) (by decide)
  have HW1 := Lib.hid w1
  have HW3 := Lib.hid w3
  have HW5 := Lib.hid w5
  have HN3 := Lib.hid n3
  clear w1 w3 w5 n1 n3
  go_enter Tryz.func7, Tryz.ntmps7
  go_wp2_with fail
  refine N1.out.mono ?_
  rintro r w2 ⟨A, n, c, A', n', c', rfl, hA, hA', hk2, g2⟩
  simp only [Option.getD_some, Option.isNone_some] at hA hA' hk2 ⊢
  rw [HW1.out] at hA hA'
  have hT2 := hk.tz hT0 g2
  have N3 := spnum w.heap.size 3 false 3 _ hk2 hT2 (by decide) (by decide)
  rw [HN3.out] at N3
  have N3 := Lib.hid N3
  go_wp2_with fail
  refine N3.out.mono ?_
  rintro r w4 ⟨B, m, k, B', m', k', rfl, hB, hB', hk4, g4⟩
  simp only [Option.getD_some, Option.isNone_some] at hB hB' hk4 ⊢
  rw [HW3.out] at hB hB'
  have hT4 := hk2.tz hT2 g4
  have hA4 := hk2.arr hA g4
  have hA4' := hk2.arr hA' g4
  have r1 : rightS false false [1] [1] 0 0 = true := by rw [ends_self]; decide
  have r3 : rightS false false [3] [3] 0 0 = true := by rw [ends_self]; decide
  have tk : takeB false 3 [⟨false, A, n, c, [1], 0, false, A', n', c', [1], 0⟩, ⟨false, B, m, k, [3], 0, false, B', m', k', [3], 0⟩] = false := by
    unfold takeB SVal.right
    simp [r1, r3]
  have sg : signS false false [3] [3] 0 0 = 1 := by unfold signS; rw [r3]; rfl
  have DV := spdiv false false false false A A' B B' n c n' c' m k m' k' [1] [1] [3] [3] 0 0 0 0 3 w.heap.size false ⟨false, 5, -4⟩ ⟨false, 5, -4⟩ ⟨false, 5, -4⟩ ⟨false, 5, -4⟩ ⟨false, 3, -3⟩ ⟨false, 3, -3⟩ ⟨false, 3, -3⟩ ⟨false, 3, -3⟩ w4 hA4 hA4' hB hB' hT4 hk4
    (fun _ _ => ⟨⟨over_one_three, over_one_three, over_one_three, over_one_three⟩, over_one_three_up, over_one_three_up, over_one_three_up, over_one_three_up⟩)
  rw [if_pos ⟨tk, by rw [sg]; decide⟩, bestY_self, bestY_self] at DV
  have DV := Lib.hid DV
  clear tk sg r1 r3
  go_wp2_with fail
  refine DV.out.mono ?_
  rintro r w6 ⟨C, n6, c6, C', n7, c7, rfl, hC, hC', hk6, g6⟩
  simp only [Option.getD_some, Option.isNone_some] at hC hC' hk6 ⊢
  rw [HW5.out] at hC
  rw [HW3.out] at hC'
  have b7 := below_alloc (below_self w6) (.cells #[.bool false, .slice C n6 c6, .int .i64 (-4), .bool false, .slice C' n7 c7, .int .i64 (-3)] 28)
  have xs7 := box_new w6 #[.bool false, .slice C n6 c6, .int .i64 (-4), .bool false, .slice C' n7 c7, .int .i64 (-3)] 28
  have hk7 := hk6.later b7
  obtain ⟨z0, z1, z2, z3⟩ := hk7.cells
  obtain ⟨k0, k1, k2, k3, k4, k5, -⟩ := xs7.cell6
  have b9 := below_alloc (below_alloc (below_self (w6.alloc (.cells #[.bool false, .slice C n6 c6, .int .i64 (-4), .bool false, .slice C' n7 c7, .int .i64 (-3)] 28))) (.cells #[.int .u64 5] 51)) (.cells #[.int .u64 3] 51)
  have h5 := (arr_one (w := w6.alloc (.cells #[.bool false, .slice C n6 c6, .int .i64 (-4), .bool false, .slice C' n7 c7, .int .i64 (-3)] 28)) (g := w6.heap.size + 1) (by simp) 5 (by decide) (by decide)).below (below_alloc (below_self _) (.cells #[.int .u64 3] 51))
  have h3 := arr_one (w := (w6.alloc (.cells #[.bool false, .slice C n6 c6, .int .i64 (-4), .bool false, .slice C' n7 c7, .int .i64 (-3)] 28)).alloc (.cells #[.int .u64 5] 51)) (g := w6.heap.size + 1 + 1) (by simp) 3 (by decide) (by decide)
  have SM := rsame03 false false false false C C' _ _ n6 c6 n7 c7 1 1 1 1 [5] [3] [5] [3] (-4) (-3) (-4) (-3) _ ((hC.below b7).below b9) ((hC'.below b7).below b9) h5 h3
  rw [sameS_self] at SM
  have SM := Lib.hid SM
  have gw := grown_on (grown_trans (grown_trans g2 g4) g6) (below_on b7 b9)
  clear DV N1 N3
  go_wp2_with fail
  refine SM.out.mono ?_
  rintro r w10 ⟨rfl, hb10⟩
  go_wp2_with fail
  go_ret
  exact ⟨rfl, below_grownBy b0 (grown_on gw hb10) (Nat.le_refl _)⟩
end Go.Proofs.YteffemhapnbaeaaGreatDoor
namespace Go.Proofs.YteffemhapnbaeaaGreatDoor
open Go.RowKit Num
set_option linter.unusedSimpArgs false
set_option linter.unusedVariables false
set_option maxRecDepth 100000

theorem Wk.drew {w : World} {g : Nat} {P : Int} {bad : Bool} {t : TypeId} (h : Wk w g P bad t) : Wk w.drew g P bad t := ⟨h.heap⟩
theorem kitfit (P : Int) (bad : Bool) (w : World) : Calls Tryz.prog 9 #[.agg #[.int .i64 P, .bool bad]] w fun r w' => r = .returned (.bool (decide (P ≤ 500) || decide (8192 < P))) ∧ Below w.heap.size w w' := by
  have b0 : Below w.heap.size w (w.alloc (.cells #[.int .i64 P, .bool bad] 23)) := below_alloc (below_self w) _
  have k0 := (box_new w #[.int .i64 P, .bool bad] 23).cell 0
  generalize h1 : decide (P ≤ 500) = z1
  generalize h2 : decide (8192 < P) = z2
  have h3 : decide (P > 8192) = z2 := h2
  cases z1
  all_goals
    go_enter Tryz.func9, Tryz.ntmps9
    go_wp2_with fail
    go_ret
    exact ⟨rfl, b0⟩
theorem kitworks (P : Int) (bad : Bool) (w : World) : Calls Tryz.prog 10 #[.agg #[.int .i64 P, .bool bad]] w fun r w' => ∃ g k, r = .returned (.tuple #[.pointer (some ⟨g, 0, none⟩), .pointer (some ⟨k, 0, none⟩)]) ∧ Wk w' g P bad 37 ∧ Wk w' k P bad 38 ∧ g ≠ k ∧ w.heap.size ≤ g ∧ w.heap.size ≤ k ∧ Below w.heap.size w w' := by
  have b0 : Below w.heap.size w (w.alloc (.cells #[.int .i64 P, .bool bad] 23)) := below_alloc (below_self w) _
  have bx := box_new w #[.int .i64 P, .bool bad] 23
  have KX := fun o => (bx.later (below_alloc (below_self _) o)).cell 0
  have KY := fun o => (bx.later (below_alloc (below_self _) o)).cell 1
  have k0 := bx.cell 0
  have k1 := bx.cell 1
  have s1 : (w.alloc (.cells #[.int .i64 P, .bool bad] 23)).heap.size = w.heap.size + 1 := by simp
  have A1 : Wk (((w.alloc (.cells #[.int .i64 P, .bool bad] 23)).alloc (.cells #[.int .i64 P, .bool bad] 37)).alloc (.cells #[.int .i64 P, .bool bad] 38)) (w.heap.size + 1) P bad 37 := by
    have h := (box_new (w.alloc (.cells #[.int .i64 P, .bool bad] 23)) #[.int .i64 P, .bool bad] 37).later (below_alloc (below_self _) (.cells #[.int .i64 P, .bool bad] 38))
    rw [s1] at h; exact h
  have A2 : Wk (((w.alloc (.cells #[.int .i64 P, .bool bad] 23)).alloc (.cells #[.int .i64 P, .bool bad] 37)).alloc (.cells #[.int .i64 P, .bool bad] 38)) (w.heap.size + 1 + 1) P bad 38 := by
    have h := box_new ((w.alloc (.cells #[.int .i64 P, .bool bad] 23)).alloc (.cells #[.int .i64 P, .bool bad] 37)) #[.int .i64 P, .bool bad] 38
    rw [show ((w.alloc (.cells #[.int .i64 P, .bool bad] 23)).alloc (.cells #[.int .i64 P, .bool bad] 37)).heap.size = w.heap.size + 1 + 1 by simp] at h; exact h
  have B1 : Wk (((w.alloc (.cells #[.int .i64 P, .bool bad] 23)).alloc (.cells #[.int .i64 P, .bool bad] 38)).alloc (.cells #[.int .i64 P, .bool bad] 37)) (w.heap.size + 1) P bad 38 := by
    have h := (box_new (w.alloc (.cells #[.int .i64 P, .bool bad] 23)) #[.int .i64 P, .bool bad] 38).later (below_alloc (below_self _) (.cells #[.int .i64 P, .bool bad] 37))
    rw [s1] at h; exact h
  have B2 : Wk (((w.alloc (.cells #[.int .i64 P, .bool bad] 23)).alloc (.cells #[.int .i64 P, .bool bad] 38)).alloc (.cells #[.int .i64 P, .bool bad] 37)) (w.heap.size + 1 + 1) P bad 37 := by
    have h := box_new ((w.alloc (.cells #[.int .i64 P, .bool bad] 23)).alloc (.cells #[.int .i64 P, .bool bad] 38)) #[.int .i64 P, .bool bad] 37
    rw [show ((w.alloc (.cells #[.int .i64 P, .bool bad] 23)).alloc (.cells #[.int .i64 P, .bool bad] 38)).heap.size = w.heap.size + 1 + 1 by simp] at h; exact h
  clear s1
  go_enter Tryz.func10, Tryz.ntmps10
  go_wp2_with fail
  go_region
  all_goals
    go_wp2_with fail
    go_ret2
    refine ⟨_, _, rfl, ?_, ?_, by omega, by omega, by omega, ?_⟩
    all_goals first | exact A1.drew | exact A2.drew | exact B1.drew | exact B2.drew | exact (by repeat (first | with_reducible assumption | with_reducible exact below_self _ | with_reducible refine below_drewN ?_ _ | with_reducible apply Below.drew | with_reducible refine below_alloc ?_ _))
end Go.Proofs.YteffemhapnbaeaaGreatDoor
namespace Go.Proofs.YteffemhapnbaeaaGreatDoor
open Go.RowKit Num
set_option linter.unusedSimpArgs false
set_option linter.unusedVariables false
set_option maxRecDepth 100000

def SVal.loV (s : SVal) : DV := ⟨s.p, s.A, s.n, s.c, s.xs, s.e⟩
def SVal.hiV (s : SVal) : DV := ⟨s.q, s.A', s.n', s.c', s.ys, s.f⟩
def fewS (s : SVal) : Bool := (fewD s.loV && fewD s.hiV) && (decide (s.n ≤ 20) && decide (s.n' ≤ 20))
theorem SVs.later {w w' : World} {h : Nat} {l : List SVal} (s : SVs w h l) (hb : Below w.heap.size w w') : SVs w' h l := by
  have hc : ∀ i, w'.cell? ⟨h, i, none⟩ = w.cell? ⟨h, i, none⟩ := fun i => hb.cell (p := ⟨h, i, none⟩) s.lt
  exact ⟨Nat.lt_of_lt_of_le s.lt hb.size, fun j hj => ⟨(s.ok j hj).1.below hb, (s.ok j hj).2.below hb⟩, fun j hj => (hc _).trans (s.c0 j hj), fun j hj => (hc _).trans (s.c1 j hj), fun j hj => (hc _).trans (s.c2 j hj), fun j hj => (hc _).trans (s.c3 j hj), fun j hj => (hc _).trans (s.c4 j hj), fun j hj => (hc _).trans (s.c5 j hj)⟩
set_option maxHeartbeats 4000000 in
theorem few03 (h m : Nat) (l : List SVal) (hm : l.length = m) (w : World) (hs : SVs w h l) (hl : m ≤ 1000000) :
    Calls Tryz.prog 8 #[.slice (some ⟨h, 0, none⟩) m m] w fun r w' => r = .returned (.bool (l.all fewS)) ∧ Below w.heap.size w w' := by
  subst hm
  have HA : ∀ i (h : i < l.length), fewS (l[i]) = false → l.all fewS = false := fun i h hh => by
    rw [List.all_eq_false]
    exact ⟨l[i], List.getElem_mem h, by rw [hh]; simp⟩
  have HB : (∀ j (h : j < l.length), fewS (l[j]) = true) → l.all fewS = true := fun h => by
    rw [List.all_eq_true]
    intro t ht
    obtain ⟨j, hj, rfl⟩ := List.mem_iff_getElem.1 ht
    exact h j hj
  generalize l.all fewS = q0 at *
  have HA := Lib.hid HA
  have HB := Lib.hid HB
  go_enter Tryz.func8, Tryz.ntmps8
  go_wp2
  go_loopw [7] (fun v wr => ∃ i : Nat, i ≤ l.length ∧ v = .int .i64 i ∧ Hid (∀ j (h : j < l.length), j < i → fewS (l[j]) = true) ∧ Below w.heap.size w wr) (fun v _ => l.length - (intOf v).toNat)
  case atStart => exact ⟨0, Nat.zero_le _, rfl, fun j _ h => absurd h (by omega), below_self w⟩
  case round =>
    obtain ⟨i, hi, rfl, hI, hW⟩ := hrel
    by_cases h0 : i < l.length
    · have hsr := hs.later hW
      have q0' := hsr.c0 i h0
      have q1 := hsr.c1 i h0
      have q2 := hsr.c2 i h0
      have q3 := hsr.c3 i h0
      have q4 := hsr.c4 i h0
      have q5 := hsr.c5 i h0
      obtain ⟨hA, hA'⟩ := hsr.ok i h0
      have a1 := HA.out i h0
      have i1 := hI.out
      have HN : fewS (l[i]) = true → ∀ j (h : j < l.length), j < i + 1 → fewS (l[j]) = true := fun hp j h hj => by
        by_cases hji : j = i
        · subst hji; exact hp
        · exact i1 j h (by omega)
      generalize hx : l[i] = x at *
      obtain ⟨p, A, n, c, xs, e, q, A', n', c', ys, f⟩ := x
      simp only at q0' q1 q2 q3 q4 q5 hA hA'
      have b1 := below_alloc (below_self wr) (.cells #[.bool p, .slice A n c, .int .i64 e, .bool q, .slice A' n' c', .int .i64 f] 28)
      have bx := box_new wr #[.bool p, .slice A n c, .int .i64 e, .bool q, .slice A' n' c', .int .i64 f] 28
      have b2 := below_alloc b1 (.cells #[.bool p, .slice A n c, .int .i64 e, .bool q, .slice A' n' c', .int .i64 f] 26)
      have dv := dvs_two p q A A' n c n' c' xs ys e f (hA.below b1) (hA'.below b1) 26
      rw [show (wr.alloc (.cells #[.bool p, .slice A n c, .int .i64 e, .bool q, .slice A' n' c', .int .i64 f] 28)).heap.size = wr.heap.size + 1 by simp] at dv
      have FW := few02 _ 2 2 _ rfl _ dv.any (by decide)
      have hf : [(⟨p, A, n, c, xs, e⟩ : DV), ⟨q, A', n', c', ys, f⟩].all fewD = (fewD ⟨p, A, n, c, xs, e⟩ && fewD ⟨q, A', n', c', ys, f⟩) := by simp
      rw [hf] at FW
      have hfs : fewS ⟨p, A, n, c, xs, e, q, A', n', c', ys, f⟩ = ((fewD ⟨p, A, n, c, xs, e⟩ && fewD ⟨q, A', n', c', ys, f⟩) && (decide (n ≤ 20) && decide (n' ≤ 20))) := rfl
      rw [hfs] at HN a1
      have bx2 := bx.later (below_alloc (below_self _) (.cells #[.bool p, .slice A n c, .int .i64 e, .bool q, .slice A' n' c', .int .i64 f] 26))
      obtain ⟨k0, k1, k2, k3, k4, k5, -⟩ := bx.cell6
      generalize (fewD ⟨p, A, n, c, xs, e⟩ && fewD ⟨q, A', n', c', ys, f⟩) = fb at *
      have HN := Lib.hid HN
      have HF := Lib.hid a1
      have FW := Lib.hid FW
      have hw2 : Below w.heap.size w ((wr.alloc (.cells #[.bool p, .slice A n c, .int .i64 e, .bool q, .slice A' n' c', .int .i64 f] 28)).alloc (.cells #[.bool p, .slice A n c, .int .i64 e, .bool q, .slice A' n' c', .int .i64 f] 26)) := hW.trans (b2.mono hW.size)
      clear i1 a1 hx hI hf hfs hsr dv
      cases fb
      · have HQ := Lib.hid (HF.out (by simp))
        go_wp2_with fail
        refine FW.out.mono ?_; rintro r w4 ⟨rfl, hb4⟩
        go_wp2_with fail
        go_ret
        exact ⟨by rw [HQ.out]; rfl, below_on hw2 hb4⟩
      · by_cases hn : n ≤ 20
        · have d1 : decide ((n : Int) > 20) = false := by simp; omega
          have d2 : decide (20 < (n : Int)) = false := by simp; omega
          have d2' : decide (20 < n) = false := by simp; omega
          by_cases hn' : n' ≤ 20
          · have d3 : decide ((n' : Int) > 20) = false := by simp; omega
            have d4 : decide (20 < (n' : Int)) = false := by simp; omega
            have d4' : decide (20 < n') = false := by simp; omega
            have HN := Lib.hid (HN.out (by simp [hn, hn']))
            go_wp2_with fail
            refine FW.out.mono ?_; rintro r w4 ⟨rfl, hb4⟩
            clear k0 k1 k2 k3 k4 k5
            obtain ⟨k0, k1, k2, k3, k4, k5, -⟩ := (bx2.later hb4).cell6
            go_wp2_with fail
            exact ⟨⟨i + 1, by omega, by go_num, HN.out, below_on hw2 hb4⟩, by simp only [intOf]; omega⟩
          · have d3 : decide ((n' : Int) > 20) = true := by simp; omega
            have d4 : decide (20 < (n' : Int)) = true := by simp; omega
            have d4' : decide (20 < n') = true := by simp; omega
            have HQ := Lib.hid (HF.out (by simp [hn, hn']))
            go_wp2_with fail
            refine FW.out.mono ?_; rintro r w4 ⟨rfl, hb4⟩
            clear k0 k1 k2 k3 k4 k5
            obtain ⟨k0, k1, k2, k3, k4, k5, -⟩ := (bx2.later hb4).cell6
            go_wp2_with fail
            go_ret
            exact ⟨by rw [HQ.out]; rfl, below_on hw2 hb4⟩
        · have d1 : decide ((n : Int) > 20) = true := by simp; omega
          have d2 : decide (20 < (n : Int)) = true := by simp; omega
          have d2' : decide (20 < n) = true := by simp; omega
          have HQ := Lib.hid (HF.out (by simp [hn]))
          go_wp2_with fail
          refine FW.out.mono ?_; rintro r w4 ⟨rfl, hb4⟩
          clear k0 k1 k2 k3 k4 k5
          obtain ⟨k0, k1, k2, k3, k4, k5, -⟩ := (bx2.later hb4).cell6
          go_wp2_with fail
          go_ret
          exact ⟨by rw [HQ.out]; rfl, below_on hw2 hb4⟩
    · obtain rfl : i = l.length := by omega
      have HQ := Lib.hid (HB.out (fun j h => hI.out j h h))
      go_wp2
      go_ret
      exact ⟨by rw [HQ.out]; rfl, hW⟩
end Go.Proofs.YteffemhapnbaeaaGreatDoor
