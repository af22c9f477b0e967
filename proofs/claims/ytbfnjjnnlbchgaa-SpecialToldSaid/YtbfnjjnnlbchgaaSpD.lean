/- part's and the document's: which words are numbers; which points are singular. -/
import Derived.Laws.BitsAllLaws
import Derived.Test.YtbfnjjnnlbchgaaSpB
namespace Go.Proofs.Ytbfnjjnnlbchgaa
open Go.RowKit Num
set_option linter.unusedSimpArgs false
set_option linter.unusedVariables false
set_option maxRecDepth 100000

/-- Word i of four. -/
def zat (x y u v : Int) (i : Nat) : Int := if i = 0 then x else if i = 1 then y else if i = 2 then u else v
def Wd (x : Int) : Prop := 0 ≤ x ∧ x < 18446744073709551616
theorem zat_wd {x y u v : Int} (hx : Wd x) (hy : Wd y) (hu : Wd u) (hv : Wd v) (i : Nat) : Wd (zat x y u v i) := by
  unfold zat
  split
  · exact hx
  · split
    · exact hy
    · split
      · exact hu
      · exact hv
/-- How many words count. -/
def many (tag : Int) : Nat := if tag = 4 ∨ tag = 5 then 4 else 2
theorem many_le (tag : Int) : many tag ≤ 4 := by unfold many; split <;> omega
def numsI (tag x y u v : Int) : Bool := (List.range (many tag)).all (fun j => decide (kindI (zat x y u v j) ≤ 2)) && (decide (0 ≤ tag) && decide (tag ≤ 20))
def singZ (tag x y u v : Int) : Bool :=
  numsI tag x y u v && (if tag = 5 then isZero u && isZero v else if tag = 8 then isZero x && isZero y else if tag = 17 then isZero x && isOne y else if tag = 20 then isOne x && isZero y else false)
theorem four_cells {w : World} {g : Nat} {x y u v : Int} {t : TypeId} (h : Box w g #[.int .u64 x, .int .u64 y, .int .u64 u, .int .u64 v] t) : ∀ j, j < 4 → w.cell? ⟨g, j, none⟩ = some (.int .u64 (zat x y u v j)) := by
  intro j hj
  rw [h.cell]
  match j, hj with
  | 0, _ => rfl
  | 1, _ => rfl
  | 2, _ => rfl
  | 3, _ => rfl
theorem and_not_top {x : Int} (h : Wd x) : bits .andNot .u64 x 9223372036854775808 = x % 9223372036854775808 := by
  obtain ⟨n, rfl⟩ := Int.eq_ofNat_of_zero_le h.1
  have h1 := h.2
  have e := Go.u64_andNot_nat n 9223372036854775808 (by omega) (by omega)
  have e0 : ((9223372036854775808 : Nat) : Int) = 9223372036854775808 := rfl
  rw [e0] at e
  have p : 18446744073709551615 - 9223372036854775808 = 2 ^ 63 - 1 := by decide
  rw [e, p, Nat.and_two_pow_sub_one_eq_mod]
  omega
theorem or_zero {a b : Int} (ha : 0 ≤ a) (ha1 : a < 18446744073709551616) (hb : 0 ≤ b) (hb1 : b < 18446744073709551616) : (bits .or .u64 a b = 0) ↔ (a = 0 ∧ b = 0) := by
  obtain ⟨m, rfl⟩ := Int.eq_ofNat_of_zero_le ha
  obtain ⟨n, rfl⟩ := Int.eq_ofNat_of_zero_le hb
  rw [bits_or_u64_nat m n (by omega) (by omega)]
  constructor
  · intro h
    have h : m ||| n = 0 := by omega
    have h1 : m ≤ m ||| n := Nat.left_le_or
    have h2 : n ≤ m ||| n := Nat.right_le_or
    omega
  · rintro ⟨h1, h2⟩
    have h1 : m = 0 := by omega
    have h2 : n = 0 := by omega
    subst h1 h2; rfl
theorem zero_mod {x : Int} (h : Wd x) : isZero x = decide (x % 9223372036854775808 = 0) := by
  obtain ⟨h0, h1⟩ := h
  unfold isZero kindI
  refine decide_eq_decide.2 ?_
  unfold expo frac
  repeat' split
  all_goals omega
theorem pbinary (tag : Int) (w : World) : Calls Try.prog 34 #[.int .i64 tag] w fun r w' => r = .returned (.bool (decide (tag = 4 ∨ tag = 5))) ∧ w = w' := by
  by_cases h4 : tag = 4
  · subst h4
    go_enter Try.func34, Try.ntmps34
    go_wp2
    go_ret
    exact ⟨rfl, rfl⟩
  · have d4 : (tag == 4) = false := beq_eq_false_iff_ne.2 h4
    by_cases h5 : tag = 5
    · subst h5
      go_enter Try.func34, Try.ntmps34
      go_wp2
      go_ret
      exact ⟨rfl, rfl⟩
    · have d5 : (tag == 5) = false := beq_eq_false_iff_ne.2 h5
      go_enter Try.func34, Try.ntmps34
      go_wp2
      go_ret
      exact ⟨ret_bool (by simp [h4, h5]), rfl⟩
theorem tag_end (tag : Int) : (0 ≤ tag ∧ tag ≤ 20) ∨ (0 ≤ tag ∧ ¬ tag ≤ 20) ∨ ¬ 0 ≤ tag := by omega
set_option maxHeartbeats 1000000 in
theorem pnumbers (tag x y u v : Int) (w : World) (hx : Wd x) (hy : Wd y) (hu : Wd u) (hv : Wd v) :
    Calls Try.prog 30 #[.int .i64 tag, .agg #[.int .u64 x, .int .u64 y, .int .u64 u, .int .u64 v]] w fun r w' => r = .returned (.bool (numsI tag x y u v)) ∧ Below w.heap.size w w' := by
  have b1 := below_alloc (below_self w) (.cells #[.int .u64 x, .int .u64 y, .int .u64 u, .int .u64 v] 24)
  have bx := box_new w #[.int .u64 x, .int .u64 y, .int .u64 u, .int .u64 v] 24
  have PB := pbinary tag
  have hm : many tag = if decide (tag = 4 ∨ tag = 5) = true then 4 else 2 := by unfold many; simp
  have HA : ∀ i, i < many tag → ¬ kindI (zat x y u v i) ≤ 2 → numsI tag x y u v = false := fun i hi hk => by
    unfold numsI
    have : (List.range (many tag)).all (fun j => decide (kindI (zat x y u v j) ≤ 2)) = false := by
      rw [List.all_eq_false]
      exact ⟨i, List.mem_range.2 hi, by simpa using hk⟩
    rw [this]; rfl
  have HB : (∀ j, j < many tag → kindI (zat x y u v j) ≤ 2) → numsI tag x y u v = (decide (0 ≤ tag) && decide (tag ≤ 20)) := fun h => by
    unfold numsI
    have : (List.range (many tag)).all (fun j => decide (kindI (zat x y u v j) ≤ 2)) = true := by
      rw [List.all_eq_true]
      intro j hj
      exact decide_eq_true (h j (List.mem_range.1 hj))
    rw [this]; rfl
  generalize numsI tag x y u v = q at *
  generalize decide (tag = 4 ∨ tag = 5) = bt at *
  have PB := Lib.hid PB
  have HA := Lib.hid HA
  have HB := Lib.hid HB
  cases bt
  all_goals
    simp only [Bool.false_eq_true, if_false, if_true] at hm
    rw [hm] at HA HB
    go_enter Try.func30, Try.ntmps30
    go_wp2_with fail
    refine (PB.out _).mono ?_; rintro r w' ⟨rfl, rfl⟩
    go_wp2_with fail
  · go_loopw [14] (fun vi wr => ∃ i : Nat, i ≤ 2 ∧ vi = .int .i64 i ∧ Hid (∀ j, j < i → kindI (zat x y u v j) ≤ 2) ∧ Below (w.alloc (.cells #[.int .u64 x, .int .u64 y, .int .u64 u, .int .u64 v] 24)).heap.size (w.alloc (.cells #[.int .u64 x, .int .u64 y, .int .u64 u, .int .u64 v] 24)) wr) (fun vi _ => 2 - (intOf vi).toNat)
    case atStart => exact ⟨0, Nat.zero_le _, rfl, fun j h => absurd h (by omega), below_self _⟩
    case round =>
      obtain ⟨i, hi, rfl, hI, hW⟩ := hrel
      have hwt := below_on b1 hW
      by_cases h0 : i < 2
      · have hc := four_cells (bx.later hW) i (by omega)
        have hz := zat_wd hx hy hu hv i
        have a1 := HA.out i h0
        have i1 := hI.out
        have HN : kindI (zat x y u v i) ≤ 2 → ∀ j, j < i + 1 → kindI (zat x y u v j) ≤ 2 := fun hp j hj => by
          by_cases hji : j = i
          · subst hji; exact hp
          · exact i1 j (by omega)
        have K := fun w => bkind (zat x y u v i) w hz.1 hz.2
        generalize kindI (zat x y u v i) = ki at *
        generalize zat x y u v i = zi at *
        have HN := Lib.hid HN
        have HF := Lib.hid a1
        have K := Lib.hid K
        clear a1 i1 hI
        by_cases hk : ki ≤ 2
        · have d1 : decide (ki ≥ 3) = false := by simp; omega
          have HN := Lib.hid (HN.out hk)
          go_wp2_with fail
          refine (K.out _).mono ?_; rintro r w' ⟨rfl, rfl⟩
          go_wp2_with fail
          exact ⟨⟨i + 1, by omega, by go_num, HN.out, hW⟩, by simp only [intOf]; omega⟩
        · have d1 : decide (ki ≥ 3) = true := by simp; omega
          have HQ := Lib.hid (HF.out (by omega))
          go_wp2_with fail
          refine (K.out _).mono ?_; rintro r w' ⟨rfl, rfl⟩
          go_wp2_with fail
          go_ret
          exact ⟨by rw [HQ.out]; rfl, hwt⟩
      · obtain rfl : i = 2 := by omega
        have HQ := Lib.hid (HB.out (fun j h => hI.out j h))
        rcases tag_end tag with ⟨t1, t2⟩ | ⟨t1, t2⟩ | t1
        · have d1 : decide (tag ≥ 0) = true := by simp; omega
          have d2 : decide (tag ≤ 20) = true := by simp; omega
          go_wp2
          go_ret
          exact ⟨by rw [HQ.out, decide_eq_true t1, d2]; rfl, hwt⟩
        · have d1 : decide (tag ≥ 0) = true := by simp; omega
          have d2 : decide (tag ≤ 20) = false := by simp; omega
          go_wp2
          go_ret
          exact ⟨by rw [HQ.out, decide_eq_true t1, d2]; rfl, hwt⟩
        · have d1 : decide (tag ≥ 0) = false := by simp; omega
          go_wp2
          go_ret
          exact ⟨by rw [HQ.out, decide_eq_false (by omega : ¬ 0 ≤ tag)]; rfl, hwt⟩
  · go_loopw [14] (fun vi wr => ∃ i : Nat, i ≤ 4 ∧ vi = .int .i64 i ∧ Hid (∀ j, j < i → kindI (zat x y u v j) ≤ 2) ∧ Below (w.alloc (.cells #[.int .u64 x, .int .u64 y, .int .u64 u, .int .u64 v] 24)).heap.size (w.alloc (.cells #[.int .u64 x, .int .u64 y, .int .u64 u, .int .u64 v] 24)) wr) (fun vi _ => 4 - (intOf vi).toNat)
    case atStart => exact ⟨0, Nat.zero_le _, rfl, fun j h => absurd h (by omega), below_self _⟩
    case round =>
      obtain ⟨i, hi, rfl, hI, hW⟩ := hrel
      have hwt := below_on b1 hW
      by_cases h0 : i < 4
      · have hc := four_cells (bx.later hW) i (by omega)
        have hz := zat_wd hx hy hu hv i
        have a1 := HA.out i h0
        have i1 := hI.out
        have HN : kindI (zat x y u v i) ≤ 2 → ∀ j, j < i + 1 → kindI (zat x y u v j) ≤ 2 := fun hp j hj => by
          by_cases hji : j = i
          · subst hji; exact hp
          · exact i1 j (by omega)
        have K := fun w => bkind (zat x y u v i) w hz.1 hz.2
        generalize kindI (zat x y u v i) = ki at *
        generalize zat x y u v i = zi at *
        have HN := Lib.hid HN
        have HF := Lib.hid a1
        have K := Lib.hid K
        clear a1 i1 hI
        by_cases hk : ki ≤ 2
        · have d1 : decide (ki ≥ 3) = false := by simp; omega
          have HN := Lib.hid (HN.out hk)
          go_wp2_with fail
          refine (K.out _).mono ?_; rintro r w' ⟨rfl, rfl⟩
          go_wp2_with fail
          exact ⟨⟨i + 1, by omega, by go_num, HN.out, hW⟩, by simp only [intOf]; omega⟩
        · have d1 : decide (ki ≥ 3) = true := by simp; omega
          have HQ := Lib.hid (HF.out (by omega))
          go_wp2_with fail
          refine (K.out _).mono ?_; rintro r w' ⟨rfl, rfl⟩
          go_wp2_with fail
          go_ret
          exact ⟨by rw [HQ.out]; rfl, hwt⟩
      · obtain rfl : i = 4 := by omega
        have HQ := Lib.hid (HB.out (fun j h => hI.out j h))
        rcases tag_end tag with ⟨t1, t2⟩ | ⟨t1, t2⟩ | t1
        · have d1 : decide (tag ≥ 0) = true := by simp; omega
          have d2 : decide (tag ≤ 20) = true := by simp; omega
          go_wp2
          go_ret
          exact ⟨by rw [HQ.out, decide_eq_true t1, d2]; rfl, hwt⟩
        · have d1 : decide (tag ≥ 0) = true := by simp; omega
          have d2 : decide (tag ≤ 20) = false := by simp; omega
          go_wp2
          go_ret
          exact ⟨by rw [HQ.out, decide_eq_true t1, d2]; rfl, hwt⟩
        · have d1 : decide (tag ≥ 0) = false := by simp; omega
          go_wp2
          go_ret
          exact ⟨by rw [HQ.out, decide_eq_false (by omega : ¬ 0 ≤ tag)]; rfl, hwt⟩
set_option maxHeartbeats 1000000 in
theorem tnumbers (tag x y u v : Int) (w : World) (hx : Wd x) (hy : Wd y) (hu : Wd u) (hv : Wd v) :
    Calls Try.prog 31 #[.int .i64 tag, .agg #[.int .u64 x, .int .u64 y, .int .u64 u, .int .u64 v]] w fun r w' => r = .returned (.bool (numsI tag x y u v)) ∧ Below w.heap.size w w' := by
  have b1 := below_alloc (below_self w) (.cells #[.int .u64 x, .int .u64 y, .int .u64 u, .int .u64 v] 24)
  have bx := box_new w #[.int .u64 x, .int .u64 y, .int .u64 u, .int .u64 v] 24
  have HA : ∀ i, i < many tag → ¬ kindI (zat x y u v i) ≤ 2 → numsI tag x y u v = false := fun i hi hk => by
    unfold numsI
    have : (List.range (many tag)).all (fun j => decide (kindI (zat x y u v j) ≤ 2)) = false := by
      rw [List.all_eq_false]
      exact ⟨i, List.mem_range.2 hi, by simpa using hk⟩
    rw [this]; rfl
  have HB : (∀ j, j < many tag → kindI (zat x y u v j) ≤ 2) → numsI tag x y u v = (decide (0 ≤ tag) && decide (tag ≤ 20)) := fun h => by
    unfold numsI
    have : (List.range (many tag)).all (fun j => decide (kindI (zat x y u v j) ≤ 2)) = true := by
      rw [List.all_eq_true]
      intro j hj
      exact decide_eq_true (h j (List.mem_range.1 hj))
    rw [this]; rfl
  generalize numsI tag x y u v = q at *
  have HA := Lib.hid HA
  have HB := Lib.hid HB
  have hm4 := many_le tag
  have ht : (tag = 4 ∧ many tag = 4) ∨ ((tag == 4) = false ∧ tag = 5 ∧ many tag = 4) ∨ ((tag == 4) = false ∧ (tag == 5) = false ∧ many tag = 2) := by
    unfold many
    by_cases h4 : tag = 4
    · exact .inl ⟨h4, by rw [if_pos (.inl h4)]⟩
    · by_cases h5 : tag = 5
      · exact .inr (.inl ⟨beq_eq_false_iff_ne.2 h4, h5, by rw [if_pos (.inr h5)]⟩)
      · exact .inr (.inr ⟨beq_eq_false_iff_ne.2 h4, beq_eq_false_iff_ne.2 h5, by rw [if_neg (by omega)]⟩)
  rcases ht with ⟨rfl, hm⟩ | ⟨h4, rfl, hm⟩ | ⟨h4, h5, hm⟩
  all_goals
    rw [hm] at HA HB
    clear hm hm4
    go_enter Try.func31, Try.ntmps31
    go_wp2_with fail
  · go_loopw [6] (fun vi wr => ∃ i : Nat, i ≤ 4 ∧ vi = .int .i64 i ∧ Hid (∀ j, j < i → kindI (zat x y u v j) ≤ 2) ∧ Below (w.alloc (.cells #[.int .u64 x, .int .u64 y, .int .u64 u, .int .u64 v] 24)).heap.size (w.alloc (.cells #[.int .u64 x, .int .u64 y, .int .u64 u, .int .u64 v] 24)) wr) (fun vi _ => 4 - (intOf vi).toNat)
    case atStart => exact ⟨0, Nat.zero_le _, rfl, fun j h => absurd h (by omega), below_self _⟩
    case round =>
      obtain ⟨i, hi, rfl, hI, hW⟩ := hrel
      have hwt := below_on b1 hW
      by_cases h0 : i < 4
      · have hc := four_cells (bx.later hW) i (by omega)
        have hz := zat_wd hx hy hu hv i
        have a1 := HA.out i h0
        have i1 := hI.out
        have HN : kindI (zat x y u v i) ≤ 2 → ∀ j, j < i + 1 → kindI (zat x y u v j) ≤ 2 := fun hp j hj => by
          by_cases hji : j = i
          · subst hji; exact hp
          · exact i1 j (by omega)
        have K := fun w => rkind (zat x y u v i) w hz.1 hz.2
        generalize kindI (zat x y u v i) = ki at *
        generalize zat x y u v i = zi at *
        have HN := Lib.hid HN
        have HF := Lib.hid a1
        have K := Lib.hid K
        clear a1 i1 hI
        by_cases hk : ki ≤ 2
        · have d1 : decide (ki > 2) = false := by simp; omega
          have HN := Lib.hid (HN.out hk)
          go_wp2_with fail
          refine (K.out _).mono ?_; rintro r w' ⟨rfl, rfl⟩
          go_wp2_with fail
          exact ⟨⟨i + 1, by omega, by go_num, HN.out, hW⟩, by simp only [intOf]; omega⟩
        · have d1 : decide (ki > 2) = true := by simp; omega
          have HQ := Lib.hid (HF.out (by omega))
          go_wp2_with fail
          refine (K.out _).mono ?_; rintro r w' ⟨rfl, rfl⟩
          go_wp2_with fail
          go_ret
          exact ⟨by rw [HQ.out]; rfl, hwt⟩
      · obtain rfl : i = 4 := by omega
        have HQ := Lib.hid (HB.out (fun j h => hI.out j h))
        go_wp2
        go_ret
        exact ⟨by rw [HQ.out]; rfl, hwt⟩
  · go_loopw [6] (fun vi wr => ∃ i : Nat, i ≤ 4 ∧ vi = .int .i64 i ∧ Hid (∀ j, j < i → kindI (zat x y u v j) ≤ 2) ∧ Below (w.alloc (.cells #[.int .u64 x, .int .u64 y, .int .u64 u, .int .u64 v] 24)).heap.size (w.alloc (.cells #[.int .u64 x, .int .u64 y, .int .u64 u, .int .u64 v] 24)) wr) (fun vi _ => 4 - (intOf vi).toNat)
    case atStart => exact ⟨0, Nat.zero_le _, rfl, fun j h => absurd h (by omega), below_self _⟩
    case round =>
      obtain ⟨i, hi, rfl, hI, hW⟩ := hrel
      have hwt := below_on b1 hW
      by_cases h0 : i < 4
      · have hc := four_cells (bx.later hW) i (by omega)
        have hz := zat_wd hx hy hu hv i
        have a1 := HA.out i h0
        have i1 := hI.out
        have HN : kindI (zat x y u v i) ≤ 2 → ∀ j, j < i + 1 → kindI (zat x y u v j) ≤ 2 := fun hp j hj => by
          by_cases hji : j = i
          · subst hji; exact hp
          · exact i1 j (by omega)
        have K := fun w => rkind (zat x y u v i) w hz.1 hz.2
        generalize kindI (zat x y u v i) = ki at *
        generalize zat x y u v i = zi at *
        have HN := Lib.hid HN
        have HF := Lib.hid a1
        have K := Lib.hid K
        clear a1 i1 hI
        by_cases hk : ki ≤ 2
        · have d1 : decide (ki > 2) = false := by simp; omega
          have HN := Lib.hid (HN.out hk)
          go_wp2_with fail
          refine (K.out _).mono ?_; rintro r w' ⟨rfl, rfl⟩
          go_wp2_with fail
          exact ⟨⟨i + 1, by omega, by go_num, HN.out, hW⟩, by simp only [intOf]; omega⟩
        · have d1 : decide (ki > 2) = true := by simp; omega
          have HQ := Lib.hid (HF.out (by omega))
          go_wp2_with fail
          refine (K.out _).mono ?_; rintro r w' ⟨rfl, rfl⟩
          go_wp2_with fail
          go_ret
          exact ⟨by rw [HQ.out]; rfl, hwt⟩
      · obtain rfl : i = 4 := by omega
        have HQ := Lib.hid (HB.out (fun j h => hI.out j h))
        go_wp2
        go_ret
        exact ⟨by rw [HQ.out]; rfl, hwt⟩
  · go_loopw [6] (fun vi wr => ∃ i : Nat, i ≤ 2 ∧ vi = .int .i64 i ∧ Hid (∀ j, j < i → kindI (zat x y u v j) ≤ 2) ∧ Below (w.alloc (.cells #[.int .u64 x, .int .u64 y, .int .u64 u, .int .u64 v] 24)).heap.size (w.alloc (.cells #[.int .u64 x, .int .u64 y, .int .u64 u, .int .u64 v] 24)) wr) (fun vi _ => 2 - (intOf vi).toNat)
    case atStart => exact ⟨0, Nat.zero_le _, rfl, fun j h => absurd h (by omega), below_self _⟩
    case round =>
      obtain ⟨i, hi, rfl, hI, hW⟩ := hrel
      have hwt := below_on b1 hW
      by_cases h0 : i < 2
      · have hc := four_cells (bx.later hW) i (by omega)
        have hz := zat_wd hx hy hu hv i
        have a1 := HA.out i h0
        have i1 := hI.out
        have HN : kindI (zat x y u v i) ≤ 2 → ∀ j, j < i + 1 → kindI (zat x y u v j) ≤ 2 := fun hp j hj => by
          by_cases hji : j = i
          · subst hji; exact hp
          · exact i1 j (by omega)
        have K := fun w => rkind (zat x y u v i) w hz.1 hz.2
        generalize kindI (zat x y u v i) = ki at *
        generalize zat x y u v i = zi at *
        have HN := Lib.hid HN
        have HF := Lib.hid a1
        have K := Lib.hid K
        clear a1 i1 hI
        by_cases hk : ki ≤ 2
        · have d1 : decide (ki > 2) = false := by simp; omega
          have HN := Lib.hid (HN.out hk)
          go_wp2_with fail
          refine (K.out _).mono ?_; rintro r w' ⟨rfl, rfl⟩
          go_wp2_with fail
          exact ⟨⟨i + 1, by omega, by go_num, HN.out, hW⟩, by simp only [intOf]; omega⟩
        · have d1 : decide (ki > 2) = true := by simp; omega
          have HQ := Lib.hid (HF.out (by omega))
          go_wp2_with fail
          refine (K.out _).mono ?_; rintro r w' ⟨rfl, rfl⟩
          go_wp2_with fail
          go_ret
          exact ⟨by rw [HQ.out]; rfl, hwt⟩
      · obtain rfl : i = 2 := by omega
        have HQ := Lib.hid (HB.out (fun j h => hI.out j h))
        rcases tag_end tag with ⟨t1, t2⟩ | ⟨t1, t2⟩ | t1
        · have d1 : decide (tag ≥ 0) = true := by simp; omega
          have d2 : decide (tag ≤ 20) = true := by simp; omega
          go_wp2
          go_ret
          exact ⟨by rw [HQ.out, decide_eq_true t1, d2]; rfl, hwt⟩
        · have d1 : decide (tag ≥ 0) = true := by simp; omega
          have d2 : decide (tag ≤ 20) = false := by simp; omega
          go_wp2
          go_ret
          exact ⟨by rw [HQ.out, decide_eq_true t1, d2]; rfl, hwt⟩
        · have d1 : decide (tag ≥ 0) = false := by simp; omega
          go_wp2
          go_ret
          exact ⟨by rw [HQ.out, decide_eq_false (by omega : ¬ 0 ≤ tag)]; rfl, hwt⟩
end Go.Proofs.Ytbfnjjnnlbchgaa
