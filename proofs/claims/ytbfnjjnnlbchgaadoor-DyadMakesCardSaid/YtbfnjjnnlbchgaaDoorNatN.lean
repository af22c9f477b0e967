/- nat.less: what is taken from a window of a row, and how often. -/
import Derived.Test.YtbfnjjnnlbchgaaDoorKn
import Derived.Test.YtbfnjjnnlbchgaaDoorNatI
namespace Go.Proofs.YtbfnjjnnlbchgaaDoor
open Go.RowKit Num
set_option linter.unusedSimpArgs false
set_option linter.unusedVariables false
set_option maxRecDepth 100000

theorem win_get (P Z T : List Int) (j : Nat) (hj : j < Z.length) : (P ++ Z ++ T).getD (P.length + j) 0 = Z.getD j 0 := by
  rw [List.append_assoc, List.getD_eq_getElem?_getD, List.getElem?_append_right (by omega), Nat.add_sub_cancel_left, List.getElem?_append_left hj, List.getD_eq_getElem?_getD]
theorem win_cell {w : World} {g : Nat} {P Z T : List Int} (h : Row w g (P ++ Z ++ T)) (j : Nat) (hj : j < Z.length) : w.cell? ⟨g, P.length + j, none⟩ = some (.int .u64 (Z.getD j 0)) := by
  rw [h.cell (P.length + j) (by simp; omega), win_get P Z T j hj]
theorem win_set {w : World} {g : Nat} {P Z T : List Int} (h : Row w g (P ++ Z ++ T)) (j : Nat) (hj : j < Z.length) (v : Int) (h0 : 0 ≤ v) (h1 : v < 18446744073709551616) : Row (w.setCell ⟨g, P.length + j, none⟩ (.int .u64 v)) g (P ++ Z.set j v ++ T) := by
  have := h.set (P.length + j) (by simp; omega) v h0 h1
  rw [List.append_assoc, List.set_append_right _ _ (by omega), Nat.add_sub_cancel_left, List.set_append_left _ _ hj, ← List.append_assoc] at this
  exact this
theorem win_wf {w : World} {g : Nat} {P Z T : List Int} (h : Row w g (P ++ Z ++ T)) : Wf Z := (wf_append.1 (wf_append.1 h.wf).1).2
theorem sub64_ex (x y b : Int) (hx0 : 0 ≤ x) (hx : x < 18446744073709551616) (hy0 : 0 ≤ y) (hy : y < 18446744073709551616) (hb0 : 0 ≤ b) (hb : b ≤ 1) (w : World) : ∃ s k : Int,
    (callFunc 157 #[.int .u64 x, .int .u64 y, .int .u64 b]).run Tryd.prog w = .ok (.value (.tuple #[.int .u64 s, .int .u64 k])) w ∧ x - y - b = s - k * 18446744073709551616 ∧ 0 ≤ s ∧ s < 18446744073709551616 ∧ 0 ≤ k ∧ k ≤ 1 := by
  have h := call_sub64 x y b hx0 hy0 hy hb0 hb w
  have e := borrow_spec hx0 hx hy0 hy hb0 hb
  have r := borrow_range x y b
  exact ⟨_, _, h, by omega, by omega, by omega, r.1, r.2⟩
theorem add64c_ex (x y c : Int) (hx0 : 0 ≤ x) (hx : x < 18446744073709551616) (hy0 : 0 ≤ y) (hy : y < 18446744073709551616) (hc0 : 0 ≤ c) (hc : c ≤ 1) (w : World) : ∃ s k : Int,
    (callFunc 144 #[.int .u64 x, .int .u64 y, .int .u64 c]).run Tryd.prog w = .ok (.value (.tuple #[.int .u64 s, .int .u64 k])) w ∧ x + y + c = s + k * 18446744073709551616 ∧ 0 ≤ s ∧ s < 18446744073709551616 ∧ 0 ≤ k ∧ k ≤ 1 := by
  have h := call_add64 x y c hx0 hy0 hc0 hc w
  exact ⟨_, _, h, by omega, by omega, by omega, by omega, by omega⟩
theorem less (g : Nat) (P Z T : List Int) (cu : Nat) (A : Option Addr) (k c : Nat) (ds : List Int) (G : Int) (w : World) (hr : Row w g (P ++ Z ++ T)) (hd : Arr w A k c ds) (hne : blk A k = none ∨ blk A k ≠ some g) (hZ : Z.length = k + 1)
    (hcu : k + 1 ≤ cu) (hcu' : cu ≤ 9223372036854775807) (hP : P.length ≤ 1000000000) (hk' : k ≤ 1000000000) (hG0 : 0 ≤ G) (hG : G < 18446744073709551616) (hD : 0 < val ds) (hq : val Z / val ds ≤ G) :
    Calls Tryd.prog 145 #[.slice (some ⟨g, P.length, none⟩) (k + 1) cu, .slice A k c, .int .u64 G] w fun e w' => e = .returned (.int .u64 (val Z / val ds)) ∧ (∃ Z', Z'.length = k + 1 ∧ val Z' = val Z - val Z / val ds * val ds ∧ Row w' g (P ++ Z' ++ T)) ∧ w.grownBy w' (some g) := by
  have cap1 := hd.cap
  have cap2 := hd.big
  have hl := hd.len
  subst hl
  have hZ0 := val_nonneg (win_wf hr)
  have t0 : 0 ≤ val Z / val ds := Int.ediv_nonneg hZ0 (by omega)
  go_enter Tryd.func145, Tryd.ntmps145
  go_wp2_with fail
  go_loopw [7, 8, 19] (fun vcy vc vi wr => ∃ (i : Nat) (cy : Int) (Y : List Int), i ≤ ds.length ∧ vi = .int .i64 i ∧ vcy = .int .u64 cy ∧ vc = .int .u64 0 ∧ 0 ≤ cy ∧ cy < 18446744073709551616 ∧ Y.length = ds.length + 1 ∧ Row wr g (P ++ Y ++ T) ∧ Hid (val Y - cy * B ^ i = val Z - G * val (ds.take i)) ∧ w.grownBy wr (some g)) (fun _ _ vi _ => ds.length + 1 - (intOf vi).toNat)
  case atStart => exact ⟨0, 0, Z, Nat.zero_le _, rfl, rfl, rfl, by omega, by omega, hZ, hr, by show _ = _; simp [val], grown_self w _⟩
  case round =>
    obtain ⟨i, cy, Y, hi, rfl, rfl, rfl, hc0, hc1, hlY, hR, hv, hG1⟩ := hrel
    have hA := hd.other hG1 hne
    by_cases h0 : i < ds.length
    · obtain ⟨b, o, rfl, hlt, hc⟩ := hA.mem (by omega)
      have k1 := hc i h0
      have y1 := hA.words i
      have r1 := win_cell hR i (by omega)
      have r2 := hR.free (P.length + i)
      have s1 := (win_wf hR).getD i
      have hst := fun s cy' e => less_step (s := s) (cy' := cy') (by omega) h0 hv.out e
      have hset := fun v h0 h1 => win_set hR i (by omega) v h0 h1
      generalize ds.getD i 0 = y at *
      generalize Y.getD i 0 = s at *
      obtain ⟨hi', lo, e1, e2, e3, l0, l1, h2, h3⟩ := mul_ex G y hG0 hG y1.1 y1.2
      have g1 : G * y ≤ 18446744073709551615 * 18446744073709551615 := by
        have a1 : G * y ≤ 18446744073709551615 * y := Int.mul_le_mul_of_nonneg_right (by omega) y1.1
        omega
      obtain ⟨l2, c2, ha1, e4, l3, l4, l5, l6⟩ := add64_ex lo cy l0 l1 hc0 hc1 wr
      obtain ⟨s', c3, ha2, e5, l7, l8, l9, l10⟩ := sub64_ex s l2 0 s1.1 s1.2 l3 l4 (by omega) (by omega) wr
      have HM := Lib.hid (mul64 G y wr hG0 hG y1.1 y1.2)
      rw [e1, e2] at HM
      have q1 : hi' + c2 < 18446744073709551616 := by omega
      have q2 : hi' + c2 + c3 < 18446744073709551616 := by omega
      have HS := Lib.hid (hst s' (hi' + c2 + c3) (by rw [B_eq]; omega))
      clear hc e1 e2 e3 h3 e4 e5 hst g1 hv
      go_wp2_with fail
      refine HM.out.mono ?_; rintro r w' ⟨rfl, rfl⟩
      go_wp2_with fail
      exact ⟨⟨i + 1, _, _, by omega, by go_num, rfl, rfl, by omega, q2, by rw [List.length_set]; exact hlY, hset s' l7 l8, HS.out, grown_trans hG1 (grown_set _ _ _ _)⟩, by simp only [intOf]; omega⟩
    · obtain rfl : i = ds.length := by omega
      rw [List.take_length] at hv
      have r1 := win_cell hR ds.length (by omega)
      have r2 := hR.free (P.length + ds.length)
      have s1 := (win_wf hR).getD ds.length
      have hst := fun s cy' e => less_last (s := s) (cy' := cy') (by omega) hv.out e
      have hset := fun v h0 h1 => win_set hR ds.length (by omega) v h0 h1
      generalize Y.getD ds.length 0 = s at *
      obtain ⟨s', c3, ha2, e5, l7, l8, l9, l10⟩ := sub64_ex s cy 0 s1.1 s1.2 hc0 hc1 (by omega) (by omega) wr
      have HS := Lib.hid (hst s' c3 (by rw [B_eq]; omega))
      have hset := hset s' l7 l8
      have HT := Lib.hid hq
      clear e5 hst hv hq
      go_wp2_with fail
      go_loopw [2, 8] (fun vg vc wr => ∃ (g' c' : Int) (Y : List Int), vg = .int .u64 g' ∧ vc = .int .u64 c' ∧ 0 ≤ g' ∧ g' < 18446744073709551616 ∧ 0 ≤ c' ∧ c' ≤ 1 ∧ Y.length = ds.length + 1 ∧ Row wr g (P ++ Y ++ T) ∧ Hid (val Z / val ds ≤ g') ∧ Hid (val Y - c' * B ^ (ds.length + 1) = val Z - g' * val ds) ∧ w.grownBy wr (some g)) (fun vg _ _ => (intOf vg).toNat)
      case atStart => exact ⟨G, c3, _, rfl, rfl, hG0, hG, l9, l10, by rw [List.length_set]; exact hlY, hset, HT.out, HS.out, grown_trans hG1 (grown_set _ _ _ _)⟩
      case round =>
        obtain ⟨g', c', V, rfl, rfl, hg0, hg1, hc0', hc1', hlV, hRV, ht, hvv, hGV⟩ := hrel
        by_cases hc : c' = 0
        · subst hc
          have hh := less_done (win_wf hRV) hD hvv.out ht.out
          have HH := Lib.hid hh
          clear hh
          go_wp2_with fail
          go_ret
          exact ⟨by rw [HH.out.1]; rfl, ⟨V, hlV, HH.out.2, hRV⟩, hGV⟩
        · obtain rfl : c' = 1 := by omega
          have hm := less_more (win_wf hRV) hlV hD hvv.out
          have hg2 : 1 ≤ g' := by omega
          have HM := Lib.hid hm
          clear hm hc
          go_wp2_with fail
          go_loopw [14, 76] (fun vb vi wr => ∃ (i : Nat) (bk : Int) (Y : List Int), i ≤ ds.length ∧ vi = .int .i64 i ∧ vb = .int .u64 bk ∧ 0 ≤ bk ∧ bk ≤ 1 ∧ Y.length = ds.length + 1 ∧ Row wr g (P ++ Y ++ T) ∧ Hid (val Y + bk * B ^ i = val V + val (ds.take i)) ∧ w.grownBy wr (some g)) (fun _ vi _ => ds.length + 1 - (intOf vi).toNat)
          case atStart => exact ⟨0, 0, V, Nat.zero_le _, rfl, rfl, by omega, by omega, hlV, hRV, by show _ = _; simp [val], hGV⟩
          case round =>
            obtain ⟨i, bk, Y2, hi2, rfl, rfl, hb0, hb1, hlY2, hR2, hv2, hG2⟩ := hrel
            have hA := hd.other hG2 hne
            by_cases h0 : i < ds.length
            · obtain ⟨b, o, rfl, hlt, hc⟩ := hA.mem (by omega)
              have k1 := hc i h0
              have y1 := hA.words i
              have r1 := win_cell hR2 i (by omega)
              have r2 := hR2.free (P.length + i)
              have s1 := (win_wf hR2).getD i
              have hst := fun s cy' e => back_step (s := s) (cy' := cy') (by omega) h0 hv2.out e
              have hset := fun v h0 h1 => win_set hR2 i (by omega) v h0 h1
              generalize ds.getD i 0 = y at *
              generalize Y2.getD i 0 = s at *
              obtain ⟨s', c3, ha2, e5, l7, l8, l9, l10⟩ := add64c_ex s y bk s1.1 s1.2 y1.1 y1.2 hb0 hb1 wr
              have HS := Lib.hid (hst s' c3 (by rw [B_eq]; omega))
              clear hc e5 hst hv2
              go_wp2_with fail
              exact ⟨⟨i + 1, _, _, by omega, by go_num, rfl, l9, l10, by rw [List.length_set]; exact hlY2, hset s' l7 l8, HS.out, grown_trans hG2 (grown_set _ _ _ _)⟩, by simp only [intOf]; omega⟩
            · obtain rfl : i = ds.length := by omega
              rw [List.take_length] at hv2
              have r1 := win_cell hR2 ds.length (by omega)
              have r2 := hR2.free (P.length + ds.length)
              have s1 := (win_wf hR2).getD ds.length
              have hst := fun s cy' e => back_last (s := s) (cy' := cy') (by omega) hv2.out e
              have hset := fun v h0 h1 => win_set hR2 ds.length (by omega) v h0 h1
              generalize Y2.getD ds.length 0 = s at *
              obtain ⟨s', c3, ha2, e5, l7, l8, l9, l10⟩ := add64c_ex s 0 bk s1.1 s1.2 (by omega) (by omega) hb0 hb1 wr
              have hs1 := hst s' c3 (by rw [B_eq]; omega)
              have hs2 : val (Y2.set ds.length s') - (1 - c3) * B ^ (ds.length + 1) = val Z - (g' - 1) * val ds := by
                have e1 : (1 - c3) * B ^ (ds.length + 1) = 1 * B ^ (ds.length + 1) - c3 * B ^ (ds.length + 1) := by grind
                have e2 : (g' - 1) * val ds = g' * val ds - val ds := by grind
                have := hvv.out
                omega
              have HS := Lib.hid hs2
              have hset := hset s' l7 l8
              clear e5 hst hv2 hs1 hs2
              go_wp2_with fail
              exact ⟨⟨g' - 1, 1 - c3, _, by go_num, by go_num, by omega, by omega, by omega, by omega, by rw [List.length_set]; exact hlY2, hset, HM.out, HS.out, grown_trans hG2 (grown_set _ _ _ _)⟩, by simp only [intOf]; omega⟩
end Go.Proofs.YtbfnjjnnlbchgaaDoor
