/- The laws RoundExact and RoundStays. -/
import Derived.Test.YtlmojkknlkfloaaDoorRdF
namespace Go.Proofs.YtlmojkknlkfloaaDoor
open Go.RowKit Num
set_option linter.unusedSimpArgs false
set_option linter.unusedVariables false
set_option maxRecDepth 100000

theorem ex_awake {mode : Int} (hm : mode = 0 ∨ mode = 2) : exactD false [9007199254740993] 0 mode = some (4845873199050653696 + (if mode = 0 then 0 else 1), 1) := by
  have hb : bl 9007199254740993 = 54 := bl_unique (v := 9007199254740993) (a := 53) (by decide) (by decide)
  have ho : overB false 9007199254740993 0 mode = false := over_low (by rw [hb]; decide)
  have hg : gridE 9007199254740993 0 = 1 := by unfold gridE; rw [hb]; decide
  have hp : plainB false [9007199254740993] 0 = true := by decide
  have ht : tinyB 9007199254740993 0 = false := by unfold tinyB; rw [hb]; decide
  unfold exactD
  rw [hp, val_one, decide_eq_true (p := 0 ≤ mode) (by omega), decide_eq_true (p := mode ≤ 4) (by omega)]
  unfold exW exF
  rw [ho, hg, ht]
  rcases hm with rfl | rfl <;> decide
theorem awake10 (w : World) (hT : Tz w) : Calls Tryd.prog 10 #[] w fun r w' => r = .returned (.bool true) ∧ Below w.heap.size w w' := by
  have b1 : Below w.heap.size w ((w.alloc (.cells #[.int .u64 9007199254740993] 27)).alloc (.cells #[.bool false, .slice (some ⟨w.heap.size, 0, none⟩) 1 1, .int .i64 0] 24)) := below_alloc (below_alloc (below_self w) _) _
  have bx := box_new (w.alloc (.cells #[.int .u64 9007199254740993] 27)) #[.bool false, .slice (some ⟨w.heap.size, 0, none⟩) 1 1, .int .i64 0] 24
  have ha := (arr_one (w := w) rfl 9007199254740993 (by decide) (by decide)).below (below_alloc (below_self _) (.cells #[.bool false, .slice (some ⟨w.heap.size, 0, none⟩) 1 1, .int .i64 0] 24))
  rw [show (w.alloc (.cells #[.int .u64 9007199254740993] 27)).heap.size = w.heap.size + 1 by simp] at bx
  obtain ⟨k0, k1, k2, f0, f1, f2⟩ := bx.cell3
  have E0 := rdexact false _ 1 1 _ 0 0 _ ha (hT.below b1)
  rw [ex_awake (.inl rfl)] at E0
  have E0 := Lib.hid E0
  have E2 := Lib.hid (fun w1 (hb : Below w.heap.size w w1) h1 => rdexact false (some ⟨w.heap.size, 0, none⟩) 1 1 [9007199254740993] 0 2 w1 h1 (hT.below hb))
  rw [ex_awake (.inr rfl)] at E2
  go_enter Tryd.func10, Tryd.ntmps10
  go_wp2_with fail
  refine E0.out.mono ?_
  rintro r w2 ⟨rfl, hb2⟩
  have ha := ha.below hb2
  have b0 := below_on b1 hb2
  have bx := bx.later hb2
  (clear k0 k1 k2 f0 f1 f2; obtain ⟨k0, k1, k2, f0, f1, f2⟩ := bx.cell3)
  simp only [Option.getD_some, Option.isSome_some, if_true, Int.add_zero]
  go_wp2_with fail
  refine (E2.out _ b0 ha).mono ?_
  rintro r w3 ⟨rfl, hb3⟩
  have b0 := below_on b0 hb3
  simp only [Option.getD_some, Option.isSome_some]
  go_wp2_with fail
  go_ret
  exact ⟨by simp, b0⟩
theorem few10 (neg : Bool) (A : Option Addr) (n c : Nat) (e : Int) (w : World) (hn : n ≤ 9223372036854775807) :
    Calls Tryd.prog 11 #[.agg #[.bool neg, .slice A n c, .int .i64 e]] w fun r w' => r = .returned (.bool (decide (n ≤ 100))) ∧ Below w.heap.size w w' := by
  have b0 : Below w.heap.size w (w.alloc (.cells #[.bool neg, .slice A n c, .int .i64 e] 24)) := below_alloc (below_self w) _
  have bx := box_new w #[.bool neg, .slice A n c, .int .i64 e] 24
  obtain ⟨k0, k1, k2, f0, f1, f2⟩ := bx.cell3
  have hd : decide ((n : Int) ≤ 100) = decide (n ≤ 100) := by
    by_cases h : n ≤ 100
    · rw [decide_eq_true h, decide_eq_true (by omega)]
    · rw [decide_eq_false h, decide_eq_false (by omega)]
  generalize decide (n ≤ 100) = fb at *
  go_enter Tryd.func11, Tryd.ntmps11
  go_wp2_with fail
  go_ret
  exact ⟨by simp [hd], b0⟩
theorem roundExact (neg : Bool) (A : Option Addr) (n c : Nat) (xs : List Int) (e mode : Int) (w : World) (h : Arr w A n c xs) (hT : Tz w) :
    Calls Tryd.prog 3 #[.agg #[.bool neg, .slice A n c, .int .i64 e], .int .i64 mode] w fun r w' => r = .returned (.bool true) ∧ Below w.heap.size w w' := by
  have b0 : Below w.heap.size w (w.alloc (.cells #[.bool neg, .slice A n c, .int .i64 e] 24)) := below_alloc (below_self w) _
  have bx := box_new w #[.bool neg, .slice A n c, .int .i64 e] 24
  obtain ⟨k0, k1, k2, f0, f1, f2⟩ := bx.cell3
  have hn : n ≤ 9223372036854775807 := Nat.le_trans h.cap h.big
  have AW := Lib.hid (fun w' (hb : Below w.heap.size w w') => awake10 w' (hT.below hb))
  have FW := Lib.hid (fun w' => few10 neg A n c e w' hn)
  by_cases g : n ≤ 100
  · rw [decide_eq_true g] at FW
    have N := fun w' (hb : Below w.heap.size w w') => rdexact neg A n c xs e mode w' (h.below hb) (hT.below hb)
    have M := fun w' (hb : Below w.heap.size w w') => rexact10 neg A n c xs e mode w' (h.below hb) (by omega)
    unfold RetX at N M
    generalize ((exactD neg xs e mode).getD (0, 0)).1 = W at *
    generalize ((exactD neg xs e mode).getD (0, 0)).2 = F at *
    generalize (exactD neg xs e mode).isSome = s at *
    have N := Lib.hid N
    have M := Lib.hid M
    go_enter Tryd.func3, Tryd.ntmps3
    go_wp2_with fail
    refine (AW.out _ b0).mono ?_
    rintro r w2 ⟨rfl, hb2⟩
    (have b0 := below_on b0 hb2; have bx := bx.later hb2; (clear k0 k1 k2 f0 f1 f2; obtain ⟨k0, k1, k2, f0, f1, f2⟩ := bx.cell3); clear hb2)
    go_wp2_with fail
    refine (FW.out _).mono ?_
    rintro r w3 ⟨rfl, hb3⟩
    (have b0 := below_on b0 hb3; have bx := bx.later hb3; (clear k0 k1 k2 f0 f1 f2; obtain ⟨k0, k1, k2, f0, f1, f2⟩ := bx.cell3); clear hb3)
    go_wp2_with fail
    refine (N.out _ b0).mono ?_
    rintro r w4 ⟨rfl, hb4⟩
    (have b0 := below_on b0 hb4; have bx := bx.later hb4; (clear k0 k1 k2 f0 f1 f2; obtain ⟨k0, k1, k2, f0, f1, f2⟩ := bx.cell3); clear hb4)
    go_wp2_with fail
    refine (M.out _ b0).mono ?_
    rintro r w5 ⟨rfl, hb5⟩
    (have b0 := below_on b0 hb5; have bx := bx.later hb5; (clear k0 k1 k2 f0 f1 f2; obtain ⟨k0, k1, k2, f0, f1, f2⟩ := bx.cell3); clear hb5)
    go_wp2_with fail
    go_ret
    exact ⟨by simp, b0⟩
  · rw [decide_eq_false g] at FW
    go_enter Tryd.func3, Tryd.ntmps3
    go_wp2_with fail
    refine (AW.out _ b0).mono ?_
    rintro r w2 ⟨rfl, hb2⟩
    (have b0 := below_on b0 hb2; have bx := bx.later hb2; (clear k0 k1 k2 f0 f1 f2; obtain ⟨k0, k1, k2, f0, f1, f2⟩ := bx.cell3); clear hb2)
    go_wp2_with fail
    refine (FW.out _).mono ?_
    rintro r w3 ⟨rfl, hb3⟩
    (have b0 := below_on b0 hb3; have bx := bx.later hb3; (clear k0 k1 k2 f0 f1 f2; obtain ⟨k0, k1, k2, f0, f1, f2⟩ := bx.cell3); clear hb3)
    go_wp2_with fail
    go_ret
    exact ⟨by simp, b0⟩
theorem word_exact {neg : Bool} {xs : List Int} {e mode k : Int} (hw : Wf xs) (h0 : 0 ≤ mode) (h1 : mode ≤ 4) (h : wordD neg xs e = some k) : exactD neg xs e mode = some (k, 0) := by
  unfold wordD at h
  unfold exactD
  cases hp : plainB neg xs e
  · rw [hp] at h; cases h
  · rw [hp, if_pos rfl] at h
    rw [decide_eq_true h0, decide_eq_true h1]
    simp only [Bool.and_self, if_true]
    by_cases hl : xs.length = 0
    · rw [if_pos hl] at h ⊢
      rw [← Option.some.inj h]
    · rw [if_neg hl] at h ⊢
      obtain ⟨-, -, -, hv⟩ := plainB_parts hw hp
      obtain ⟨v0, -⟩ := hv (by omega)
      unfold wordI at h
      split at h
      · cases h
      · rename_i c1
        have hb := bl_pos v0
        generalize val xs = v at *
        have hg : gridE v e ≤ e := by unfold gridE; omega
        have ho : overB neg v e mode = false := by
          unfold overB unitsI
          rw [if_pos (by omega), show (e - (bl v + e - 53)).toNat = (53 - bl v).toNat by omega]
          have := bl_split (v := v * 2 ^ (53 - bl v).toNat) (u := v) (a := (53 - bl v).toNat) (Int.mul_comm _ _) v0
          rw [this, decide_eq_false (p := 1024 < _) (by omega), Bool.and_false]
        have eF : exF neg v e mode = 0 := by unfold exF; rw [ho, if_neg (by decide), if_pos hg]
        have eW : exW neg v e mode = sg neg + v * 2 ^ (e - gridE v e).toNat + (gridE v e + 1074) * 4503599627370496 := by
          unfold exW unitsI; rw [ho, if_neg (by decide), if_pos hg]
        rw [eF, eW]
        congr 2
        split at h
        · rename_i c2
          have e1 : gridE v e = -1074 := by unfold gridE; omega
          have h := Option.some.inj h
          rw [e1, ← h, show (e - -1074).toNat = (e + 1074).toNat by omega]
          omega
        · rename_i c2
          have e1 : gridE v e = bl v + e - 53 := by unfold gridE; omega
          have h := Option.some.inj h
          rw [e1, ← h, show (e - (bl v + e - 53)).toNat = (53 - bl v).toNat by omega]
          generalize v * 2 ^ (53 - bl v).toNat = z
          omega
theorem stays10 {b mode : Int} (h0 : 0 ≤ b) (h1 : b < 18446744073709551616) (m0 : 0 ≤ mode) (m1 : mode ≤ 4) {d : Dy} (h : numD b = some d) :
    ∃ k, exactD d.neg (wd d.m) d.e mode = some (k, 0) ∧ (k = b ∨ kindI b = 0 ∧ k = 0) := by
  obtain ⟨k, hk, hb⟩ := number_back h0 h1 h
  have hm : 0 ≤ d.m := by
    unfold numD at h
    split at h
    · cases h
    · split at h
      · exact (mk_plain (frac_range b).1 h).2
      · exact (mk_plain (by have := frac_range b; omega) h).2
  exact ⟨k, word_exact (wf_wd _ hm) m0 m1 hk, hb⟩
theorem roundStays (b mode : Int) (w : World) (h0 : 0 ≤ b) (h1 : b < 18446744073709551616) (hT : Tz w) :
    Calls Tryd.prog 4 #[.int .u64 b, .int .i64 mode] w fun r w' => r = .returned (.bool true) ∧ Below w.heap.size w w' := by
  have AW := Lib.hid (fun w' (hb : Below w.heap.size w w') => awake10 w' (hT.below hb))
  have NU := fun w' (hb : Below w.heap.size w w') => number b w' h0 h1 (hT.below hb)
  have KB := fun w => bkind b w h0 h1
  have L := fun d m0 m1 h => stays10 (mode := mode) (d := d) h0 h1 m0 m1 h
  generalize kindI b = kb at *
  cases hn : numD b with
  | none =>
    rw [hn] at NU
    have NU := Lib.hid NU
    clear L hn
    go_enter Tryd.func4, Tryd.ntmps4
    go_wp2_with fail
    refine (AW.out _ (below_self w)).mono ?_
    rintro r w2 ⟨rfl, hb2⟩
    go_wp2_with fail
    refine (NU.out _ hb2).mono ?_
    rintro r w3 ⟨A, n, c, rfl, hA, hb3⟩
    have b3 := below_on hb2 hb3
    have b4 := below_alloc b3 (.cells #[.bool (optD none).neg, .slice A n c, .int .i64 (optD none).e] 24)
    go_wp2_with fail
    go_ret
    exact ⟨rfl, b4⟩
  | some d =>
    obtain ⟨s, m, f⟩ := d
    rw [hn] at NU
    have NU := Lib.hid NU
    by_cases m0 : mode < 0
    · have d0 : decide (mode < 0) = true := decide_eq_true m0
      clear L hn
      go_enter Tryd.func4, Tryd.ntmps4
      go_wp2_with fail
      refine (AW.out _ (below_self w)).mono ?_
      rintro r w2 ⟨rfl, hb2⟩
      go_wp2_with fail
      refine (NU.out _ hb2).mono ?_
      rintro r w3 hr
      obtain ⟨A, n, c, rfl, hA, hb3⟩ := retD_some hr
      have b3 := below_on hb2 hb3
      have b4 := below_alloc b3 (.cells #[.bool s, .slice A n c, .int .i64 f] 24)
      clear hr
      go_wp2_with fail
      go_ret
      exact ⟨rfl, b4⟩
    · have d0 : decide (mode < 0) = false := decide_eq_false m0
      by_cases m1 : 4 < mode
      · have d1 : decide (mode > 4) = true := decide_eq_true m1
        have d2 : decide (4 < mode) = true := decide_eq_true m1
        clear L hn
        go_enter Tryd.func4, Tryd.ntmps4
        go_wp2_with fail
        refine (AW.out _ (below_self w)).mono ?_
        rintro r w2 ⟨rfl, hb2⟩
        go_wp2_with fail
        refine (NU.out _ hb2).mono ?_
        rintro r w3 hr
        obtain ⟨A, n, c, rfl, hA, hb3⟩ := retD_some hr
        have b3 := below_on hb2 hb3
        have b4 := below_alloc b3 (.cells #[.bool s, .slice A n c, .int .i64 f] 24)
        clear hr
        go_wp2_with fail
        go_ret
        exact ⟨rfl, b4⟩
      · have d1 : decide (mode > 4) = false := decide_eq_false m1
        have d2 : decide (4 < mode) = false := decide_eq_false m1
        obtain ⟨k, hk, hkb⟩ := L _ (by omega) (by omega) hn
        simp only at hk
        have EX := fun w' A n c (hA : Arr w' A n c (wd m)) (hb : Below w.heap.size w w') => rdexact s A n c (wd m) f mode w' hA (hT.below hb)
        rw [hk] at EX
        have EX := Lib.hid EX
        have KB := Lib.hid KB
        have HKB := Lib.hid hkb
        clear hk hkb L hn
        go_enter Tryd.func4, Tryd.ntmps4
        go_wp2_with fail
        refine (AW.out _ (below_self w)).mono ?_
        rintro r w2 ⟨rfl, hb2⟩
        go_wp2_with fail
        refine (NU.out _ hb2).mono ?_
        rintro r w3 hr
        obtain ⟨A, n, c, rfl, hA, hb3⟩ := retD_some hr
        have b3 := below_on hb2 hb3
        have b4 := below_alloc b3 (.cells #[.bool s, .slice A n c, .int .i64 f] 24)
        have bx := box_new w3 #[.bool s, .slice A n c, .int .i64 f] 24
        have hA := hA.below (below_alloc (below_self w3) (.cells #[.bool s, .slice A n c, .int .i64 f] 24))
        obtain ⟨k0, k1, k2, f0, f1, f2⟩ := bx.cell3
        clear hr
        go_wp2_with fail
        refine (EX.out _ _ _ _ hA b4).mono ?_
        rintro r w5 ⟨rfl, hb5⟩
        have b5 := below_on b4 hb5
        simp only [Option.getD_some, Option.isSome_some]
        by_cases g : k = b
        · subst g
          go_wp2_with fail
          go_ret
          exact ⟨by simp, b5⟩
        · obtain ⟨rfl, rfl⟩ := HKB.out.resolve_left g
          have dg : ((0 : Int) == b) = false := by simp; omega
          go_wp2_with fail
          refine (KB.out _).mono ?_
          rintro r w6 ⟨rfl, rfl⟩
          go_wp2_with fail
          go_ret
          exact ⟨by simp, b5⟩
end Go.Proofs.YtlmojkknlkfloaaDoor
