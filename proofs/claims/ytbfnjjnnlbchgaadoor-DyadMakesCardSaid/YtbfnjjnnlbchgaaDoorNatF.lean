/- The document's Bits and Shr. -/
import Derived.Test.YtbfnjjnnlbchgaaDoorNatC
import Derived.Test.YtbfnjjnnlbchgaaDoorNatE
namespace Go.Proofs.YtbfnjjnnlbchgaaDoor
open Go.RowKit Num
set_option maxRecDepth 100000

theorem bl_half {w : Int} (h : 0 < w) : bl w = bl (w / 2) + 1 := by
  obtain ⟨a, e, a0, a1⟩ := bl_spec h
  have h2 : pw (a + 1) = pw a * 2 := pw_add a 1
  by_cases hz : a = 0
  · subst hz
    have : pw 0 = 1 := rfl
    have hw : w = 1 := by omega
    subst hw; rfl
  · obtain ⟨b, rfl⟩ : ∃ b, a = b + 1 := ⟨a - 1, by omega⟩
    have h3 : pw (b + 1) = pw b * 2 := pw_add b 1
    have := bl_unique (v := w / 2) (a := b) (by omega) (by rw [h3]; omega)
    omega
theorem rbits (A : Option Addr) (n c : Nat) (xs : List Int) (w : World) (h : Arr w A n c xs) (hn : n ≤ 17592186044416) :
    Calls Tryd.prog 97 #[.slice A n c] w fun e w' => e = .returned (.int .i64 (bl (val xs))) ∧ Below w.heap.size w w' := by
  have T := Lib.hid (rtrim A n c xs w h hn)
  have hv := h.val_nonneg
  have hlen := wd_len h.wf
  rw [h.len] at hlen
  by_cases h0 : val xs = 0
  · have HB := Lib.hid (show bl (val xs) = 0 by rw [h0]; rfl)
    have HE := Lib.hid (show wd (val xs) = [] by rw [h0]; exact wd_zero (Int.le_refl _))
    clear h0
    go_enter Tryd.func97, Tryd.ntmps97
    go_wp2_with fail
    refine T.out.mono ?_; rintro e w' ⟨A2, n2, c2, rfl, hO, hb⟩
    rw [HE.out] at hO
    obtain rfl : n2 = 0 := hO.len.symm
    go_wp2_with fail
    go_ret
    exact ⟨by rw [HB.out]; rfl, hb⟩
  · have hpos : 0 < (wd (val xs)).length := List.length_pos_iff.2 (wd_ne_nil (by omega))
    have hb := bl_words (wf_wd _ hv) (top_wd _ hv) hpos
    rw [val_wd _ hv] at hb
    have HB := Lib.hid hb
    clear hb
    generalize hX : wd (val xs) = X at *
    clear hX h0
    go_enter Tryd.func97, Tryd.ntmps97
    go_wp2_with fail
    refine T.out.mono ?_; rintro e w1 ⟨A2, n2, c2, rfl, hO, hb⟩
    have hx := hO.arr
    obtain rfl : X.length = n2 := hO.len
    have hl0 : ((X.length : Int) == 0) = false := beq_eq_false_iff_ne.2 (by omega)
    obtain ⟨b, o, rfl, hlt, hc⟩ := hx.mem hpos
    have k1 := hc (X.length - 1) (by omega)
    have x1 := hx.words (X.length - 1)
    rw [List.getD_eq_getElem?_getD] at x1
    clear hc
    go_wp2
    generalize X[X.length - 1]?.getD 0 = x at *
    have hx64 := bl_lt (v := x) (a := 64) x1.1 (by rw [← B_pw, B_eq]; exact x1.2)
    have hx0 := bl_nonneg x
    go_loop [4, 5] (fun v4 v5 => ∃ (y : Int) (m : Nat), v5 = .int .u64 y ∧ v4 = .int .i64 m ∧ 0 ≤ y ∧ y < 18446744073709551616 ∧ Hid ((m : Int) + bl y = bl (val xs)) ∧ m ≤ 64 * X.length + 64) (fun _ v5 => (intOf v5).toNat)
    case atStart => exact ⟨x, 64 * (X.length - 1), rfl, by go_num, x1.1, x1.2, by show _ = _; rw [HB.out]; omega, by omega⟩
    case round =>
      obtain ⟨y, m, rfl, rfl, y0, y1, hv, hm⟩ := hrel
      by_cases hy : 0 < y
      · have hh := bl_half hy
        have hm2 : m + 1 ≤ 64 * X.length + 64 := by
          have h1 := hv.out
          have h2 := bl_pos hy
          have h3 := HB.out
          omega
        have HH := Lib.hid hh
        clear hh
        go_wp2
        exact ⟨⟨y / 2, m + 1, rfl, by go_num, by omega, by omega, by show _ = _; have := HH.out; have := hv.out; omega, hm2⟩, by simp only [intOf]; omega⟩
      · obtain rfl : y = 0 := by omega
        have hv2 : (m : Int) = bl (val xs) := by have := hv.out; rw [bl_zero] at this; omega
        have HV := Lib.hid hv2
        clear hv2
        go_wp2
        go_ret
        exact ⟨by rw [← HV.out]; rfl, hb⟩
/-- A list that is turned into another one from its head. -/
def mix (T D : List Int) (i : Nat) : List Int := T.take i ++ D.drop i
theorem mix_zero (T D : List Int) : mix T D 0 = D := by simp [mix]
theorem mix_all (T D : List Int) (h : T.length = D.length) : mix T D T.length = T := by unfold mix; rw [List.take_length, List.drop_eq_nil_of_le (by omega), List.append_nil]
theorem mix_length (T D : List Int) (h : T.length = D.length) (i : Nat) : (mix T D i).length = D.length := by simp [mix, h]; omega
theorem mix_get (T D : List Int) (h : T.length = D.length) (i : Nat) (hi : i ≤ D.length) : (mix T D i).getD i 0 = D.getD i 0 := by
  unfold mix
  have hl : (T.take i).length = i := by simp; omega
  rw [List.getD_eq_getElem?_getD, List.getElem?_append_right (by omega), hl, Nat.sub_self, List.getElem?_drop, Nat.add_zero, ← List.getD_eq_getElem?_getD]
theorem mix_set (T D : List Int) (h : T.length = D.length) (i : Nat) (hi : i < D.length) : (mix T D i).set i (T.getD i 0) = mix T D (i + 1) := by
  unfold mix
  have hl : (T.take i).length = i := by simp; omega
  rw [List.set_append_right _ _ (by omega), hl, Nat.sub_self, List.drop_eq_getElem_cons hi, List.set_cons_zero, List.take_add_one, List.getElem?_eq_getElem (by omega), List.append_assoc]
  simp [List.getD_eq_getElem?_getD, List.getElem?_eq_getElem (by omega : i < T.length)]
theorem rshr_in (A : Option Addr) (n c : Nat) (xs : List Int) (m r : Nat) (w : World) (h : Arr w A n c xs) (hn : n ≤ 17592186044416) (hr : r < 64) (hk : 64 * m + r ≤ 1048576) (hm : m < n) :
    Calls Tryd.prog 95 #[.slice A n c, .int .i64 ((64 * m + r : Nat) : Int)] w fun e w' => ∃ A' n' c', e = .returned (.slice A' n' c') ∧ Arr w' A' n' c' (wd (val (shrL r (xs.drop m)))) ∧ Below w.heap.size w w' := by
  have hcap := h.cap
  have hbig := h.big
  have HL := Lib.hid h.len
  have h1 : decide (((64 * m + r : Nat) : Int) < 0) = false := by simp; omega
  have h2 : decide (1048576 < ((64 * m + r : Nat) : Int)) = false := by simp; omega
  have q1 : ((64 * m + r : Nat) : Int) / 64 = m := by omega
  have q2 : ((64 * m + r : Nat) : Int) % 64 = r := by omega
  have q3 : decide ((n : Int) ≤ m) = false := by simp; omega
  generalize hK : ((64 * m + r : Nat) : Int) = K at *
  have hK0 : 0 ≤ K := by omega
  have hK1 : K ≤ 1048576 := by omega
  clear hK
  obtain ⟨b, o, rfl, hlt, hc⟩ := h.mem (by omega)
  have hD := h.drop m (by omega)
  have hmc : ¬ m = c := by omega
  go_enter Tryd.func95, Tryd.ntmps95
  go_wp2_with (at_builtin; refine wp_append rfl _ _ rfl w.heap.size _ 0 [] rfl (owns_empty rfl (Nat.le_refl _)) _ (n - m) (c - m) (xs.drop m) rfl (hD.below (below_alloc (below_self w) _)) _ (Nat.zero_add _) (by omega) (by simp) ?_)
  intro v' w1 h1' h2'
  obtain ⟨A2, c2, rfl, hO⟩ := own_of_owns h1' (h.wf.drop m)
  have hbw := (below_alloc (below_self w) (.cells #[] 27)).trans (grown_below (B := w.heap.size) h2' (by simp) (by intro j hj; cases hj; exact Nat.le_refl _))
  obtain ⟨g, S0, rfl, hg, _⟩ := hO.row (by omega)
  have hDl : (xs.drop m).length = n - m := by rw [List.length_drop, HL.out]
  clear h1' h2' hc
  by_cases hr0 : r = 0
  · subst hr0
    have e : val (shrL 0 (xs.drop m)) = val (xs.drop m) := by rw [val_shrL (by omega) (h.wf.drop m)]; simp [pw]
    have E := Lib.hid e
    clear e
    go_wp2_with fail
    refine (rtrim _ _ _ _ _ hO.arr (by omega)).mono ?_; rintro e w' ⟨A3, n3, c3, rfl, hO3, hb3⟩
    go_wp2
    go_ret
    exact ⟨_, _, _, rfl, by rw [E.out]; exact hO3.arr, below_on hbw hb3⟩
  · have hlen : (shrL r (xs.drop m)).length = (xs.drop m).length := shrL_length _ _
    have hget : ∀ i, i < n - m → (shrL r (xs.drop m)).getD i 0 = xs.getD (m + i) 0 / pw r + xs.getD (m + i + 1) 0 * pw (64 - r) % B := by
      intro i hi
      rw [shrL_get r _ i (by rw [hDl]; exact hi)]
      simp only [List.getD_eq_getElem?_getD, List.getElem?_drop]
      rw [show m + (i + 1) = m + i + 1 from by omega]
    have hgD : ∀ i, (xs.drop m).getD i 0 = xs.getD (m + i) 0 := by intro i; simp only [List.getD_eq_getElem?_getD, List.getElem?_drop]
    have hwT : Wf (shrL r (xs.drop m)) := wf_shrL (by omega) (h.wf.drop m)
    generalize hS : shrL r (xs.drop m) = T at *
    generalize hDe : xs.drop m = D at *
    have HDE := Lib.hid hDe
    clear hDe
    have HS := Lib.hid hS
    have HT := Lib.hid hlen
    have HD := Lib.hid hDl
    have HGet := Lib.hid hget
    have HGD := Lib.hid hgD
    clear hS hlen hget hDl hgD
    have d3 : decide (0 < (r : Int)) = true := by simp; omega
    go_wp2
    go_loopw [6] (fun v wr => ∃ i : Nat, i ≤ n - m ∧ v = .int .i64 i ∧ Own wr w.heap.size (some ⟨g, 0, none⟩) (n - m) c2 (mix T D i) ∧ Below w.heap.size w wr) (fun v _ => n - m - (intOf v).toNat)
    case atStart => exact ⟨0, Nat.zero_le _, rfl, by rw [mix_zero]; exact hO, hbw⟩
    case round =>
      obtain ⟨i, hi, rfl, hOr, hW⟩ := hrel
      have hA := h.below hW
      by_cases h0 : i < n - m
      · obtain ⟨g', S, e, hB, hR, hl, ht⟩ := hOr.row (by omega)
        cases e
        obtain ⟨b', o', e', hlt', hc⟩ := hA.mem (by omega)
        cases e'
        have k2 : m + i + 1 < n → wr.cell? ⟨b, o + (m + i + 1), none⟩ = some (.int .u64 (xs.getD (m + i + 1) 0)) := fun hh => hc (m + i + 1) hh
        have x1 := hA.words (m + i)
        have y1 := hA.words (m + i + 1)
        have r1 := hR.cell i (by omega)
        rw [← getD_take (by omega : i < n - m), ht, mix_get T D HT.out i (by rw [HD.out]; exact hi), HGD.out] at r1
        have r2 := hR.free i
        have hov := or_shift (r := r) (by omega) x1.1 x1.2 y1.1
        have hT := HGet.out i h0
        have hTw := hwT.getD i
        have hs1 := fun v h0' h1' => hOr.set hR hl ht hB i h0 v h0' h1'
        have hms := mix_set T D HT.out i (by rw [HD.out]; exact h0)
        have hnext : n ≤ m + i + 1 → xs.getD (m + i + 1) 0 = 0 := fun hh => by rw [List.getD_eq_getElem?_getD, List.getElem?_eq_none (by rw [HL.out]; exact hh)]; rfl
        generalize xs.getD (m + i) 0 = x at *
        generalize hy0 : xs.getD (m + i + 1) 0 = y at *
        have HY := Lib.hid hy0
        clear hy0
        generalize T.getD i 0 = t at *
        have v1 : 0 ≤ x / 2 ^ r ∧ x / 2 ^ r < 18446744073709551616 := by
          have hp : (0 : Int) < 2 ^ r := Int.pow_pos (by decide)
          exact ⟨Int.ediv_nonneg x1.1 (by omega), Int.lt_of_le_of_lt (Int.ediv_le_self _ x1.1) x1.2⟩
        have hO2 := hs1 _ v1.1 v1.2
        have hW2 := below_set hW g i hg (.int .u64 (x / 2 ^ r))
        have HMS := Lib.hid hms
        have HOV := Lib.hid hov
        have HTT := Lib.hid hT
        have HV := Lib.hid v1
        have HN := Lib.hid hnext
        clear hms hov hT v1 hc hs1 ht hnext
        by_cases h3 : m + i + 1 < n
        · have k3 := k2 h3
          have d4 : decide ((m : Int) + i + 1 < n) = true := by simp; omega
          clear k2
          go_wp2
          generalize wr.setCell ⟨g, i, none⟩ (.int .u64 (x / 2 ^ r)) = w2 at *
          obtain ⟨g', S2, e, _, hR2, hl2, ht2⟩ := hO2.row (by omega)
          cases e
          obtain ⟨b', o', e', _, hc⟩ := (h.below hW2).mem (by omega)
          cases e'
          have k4 := hc (m + i + 1) h3
          have r3 := hR2.cell i (by omega)
          have hml := mix_length T D HT.out i
          rw [← getD_take (by omega : i < n - m), ht2, getD_set_same _ _ _ (by rw [hml, HD.out]; exact h0)] at r3
          have r4 := hR2.free i
          have hs2 := fun v h0' h1' => hO2.set hR2 hl2 ht2 hB i h0 v h0' h1'
          have HS2 := Lib.hid hs2
          rw [HY.out] at k4
          clear hc k3 r1 r2 hs2 ht2 hml
          go_region
          all_goals go_wp2
          refine ⟨⟨i + 1, by omega, by go_num, ?_, ?_⟩, by simp only [intOf]; omega⟩
          · have h4 := HS2.out t hTw.1 hTw.2
            rw [set_set, HMS.out] at h4
            rw [HOV.out, ← HTT.out]
            exact h4.later ((below_self _).drew)
          · exact (below_set hW2 g i hg _).drew
        · have d4 : decide ((m : Int) + i + 1 < n) = false := by simp; omega
          have ht0 : x / 2 ^ r = t := by
            rw [HTT.out, HN.out (by omega)]
            show x / pw r = _
            simp
          rw [ht0, HMS.out] at hO2
          rw [ht0] at hW2
          have HT0 := Lib.hid ht0
          clear ht0 k2
          go_wp2
          refine ⟨⟨i + 1, by omega, by go_num, by rw [HT0.out]; exact hO2, by rw [HT0.out]; exact hW2⟩, by simp only [intOf]; omega⟩
      · obtain rfl : i = n - m := by omega
        have hOr2 : Own wr w.heap.size (some ⟨g, 0, none⟩) (n - m) c2 T := by
          have e := mix_all T D HT.out
          rw [HT.out, HD.out] at e
          rw [e] at hOr; exact hOr
        clear hOr
        go_wp2_with fail
        refine (rtrim _ _ _ _ _ hOr2.arr (by omega)).mono ?_; rintro e w' ⟨A3, n3, c3, rfl, hO3, hb3⟩
        go_wp2
        go_ret
        exact ⟨_, _, _, rfl, by rw [HDE.out, HS.out]; exact hO3.arr, below_on hW hb3⟩
theorem rshr (A : Option Addr) (n c : Nat) (xs : List Int) (k : Int) (w : World) (h : Arr w A n c xs) (hn : n ≤ 17592186044416) (hk0 : -9223372036854775808 ≤ k) (hk1 : k ≤ 9223372036854775807) :
    Calls Tryd.prog 95 #[.slice A n c, .int .i64 k] w fun e w' => ∃ A' n' c', e = .returned (.slice A' n' c') ∧ Arr w' A' n' c' (wd (shrI (val xs) k)) ∧ Below w.heap.size w w' := by
  by_cases hk : 0 ≤ k ∧ k ≤ 1048576 ∧ k / 64 < n
  · obtain ⟨q, rfl⟩ := Int.eq_ofNat_of_zero_le hk.1
    obtain ⟨m, r, hr, rfl⟩ : ∃ m r : Nat, r < 64 ∧ q = 64 * m + r := ⟨q / 64, q % 64, by omega, by omega⟩
    have := rshr_in A n c xs m r w h hn hr (by omega) (by omega)
    rw [shr_val h.wf hr] at this
    rw [shrI_eq hk.1 hk.2.1]
    exact this
  · have e : wd (shrI (val xs) k) = [] := by
      by_cases hk' : 0 ≤ k ∧ k ≤ 1048576
      · obtain ⟨q, rfl⟩ := Int.eq_ofNat_of_zero_le hk'.1
        rw [shrI_eq hk'.1 hk'.2, Int.toNat_natCast, shr_far h.wf (by rw [h.len]; omega)]; exact wd_zero (Int.le_refl _)
      · rw [shrI_out hk']; exact wd_zero (Int.le_refl _)
    rw [e]
    have hnil : ∀ w : World, Arr w none 0 0 [] := fun w => Arr.nothing w
    by_cases h0 : k < 0
    · have h1 : decide (k < 0) = true := by simp [h0]
      go_enter Tryd.func95, Tryd.ntmps95
      go_wp2
      go_ret
      exact ⟨_, _, _, rfl, hnil _, below_self w⟩
    · have h1 : decide (k < 0) = false := by simp [h0]
      by_cases h2 : 1048576 < k
      · have h3 : decide (1048576 < k) = true := by simp [h2]
        go_enter Tryd.func95, Tryd.ntmps95
        go_wp2
        go_ret
        exact ⟨_, _, _, rfl, hnil _, below_self w⟩
      · have h3 : decide (1048576 < k) = false := by simp; omega
        have h4 : decide ((n : Int) ≤ k / 64) = true := by simp; omega
        go_enter Tryd.func95, Tryd.ntmps95
        go_wp2
        go_ret
        exact ⟨_, _, _, rfl, hnil _, below_self w⟩
end Go.Proofs.YtbfnjjnnlbchgaaDoor
