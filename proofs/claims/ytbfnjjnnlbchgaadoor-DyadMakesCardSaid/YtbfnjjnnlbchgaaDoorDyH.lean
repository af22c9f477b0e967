/- dyad.bitsRight and dyad.cut. -/
import Derived.Test.YtbfnjjnnlbchgaaDoorDyB
import Derived.Test.YtbfnjjnnlbchgaaDoorNatC
import Derived.Test.YtbfnjjnnlbchgaaDoorNatH
import Derived.Test.YtbfnjjnnlbchgaaDoorNatJ
import Derived.Test.YtbfnjjnnlbchgaaDoorBtB
namespace Go.Proofs.YtbfnjjnnlbchgaaDoor
open Go.RowKit Num
set_option maxRecDepth 100000

def rightB (p : Int) : Bool := decide (1 ≤ p) && decide (p ≤ 8192)
theorem bright (p : Int) (w : World) : Calls Tryd.prog 98 #[.int .i64 p] w fun r w' => r = .returned (.bool (rightB p)) ∧ w = w' := by
  unfold rightB
  go_enter Tryd.func98, Tryd.ntmps98
  go_wp2
  all_goals go_ret
  all_goals refine ⟨ret_bool ?_, rfl⟩
  all_goals simp; try omega
/-- What is left of v when k bits are cut off, and whether something is behind. -/
def cutQ (v k : Int) : Int := if 0 < k then v / 2 ^ k.toNat else v
def cutR (v k : Int) (rest : Bool) : Bool := rest || (decide (0 < k) && decide (v / 2 ^ k.toNat * 2 ^ k.toNat ≠ v))
def cutD (neg : Bool) (v e : Int) (rest : Bool) (p : Int) (up : Bool) : Option Dy :=
  mkD neg (if cutR v (bl v - p) rest && (neg != up) then cutQ v (bl v - p) + 1 else cutQ v (bl v - p)) (if 0 < bl v - p then e + (bl v - p) else e)
theorem add_len {xs : List Int} (h : Wf xs) {k : Nat} (hl : xs.length ≤ k) (hk : 1 ≤ k) : (wd (val xs + 1)).length ≤ k + 1 := by
  have h1 : (wd (val xs + val [1])).length ≤ k + 1 := wd_sum_len h (wf_one (by decide) (by decide)) hl (by simpa using hk)
  rw [val_one] at h1
  exact h1
set_option maxHeartbeats 4000000 in
theorem dcut (neg : Bool) (A : Option Addr) (n c : Nat) (xs : List Int) (e : Int) (rest : Bool) (p : Int) (up : Bool) (w : World) (h : Arr w A n c xs) (hn : n ≤ 16000) (he0 : -1000000000000 ≤ e) (he1 : e ≤ 1000000000000) (hp0 : 1 ≤ p) (hp1 : p ≤ 1000000000) (hT : Tz w) :
    Calls Tryd.prog 99 #[.bool neg, .slice A n c, .int .i64 e, .bool rest, .int .i64 p, .bool up] w (RetD (cutD neg (val xs) e rest p up) w) := by
  have hv := h.val_nonneg
  have b0 := below_alloc (below_self w) (.cells #[.bool false, .slice none 0 0, .int .i64 0] 24)
  have bx := box_new w #[.bool false, .slice none 0 0, .int .i64 0] 24
  have NB := Lib.hid (fun w' (hb : Below w.heap.size w w') => nbits A n c xs w' (h.below hb) (by omega))
  have hb0 := bl_nonneg (val xs)
  have hb1 := bl_lt (v := val xs) (a := 64 * n) hv (by rw [← B_pow_pw, ← h.len]; exact val_lt h.wf)
  have hlen := wd_len h.wf
  rw [h.len] at hlen
  have hwf := h.wf
  have hxl := h.len
  unfold cutD
  by_cases hk : 0 < bl (val xs) - p
  · obtain ⟨k, hkk⟩ : ∃ k : Nat, bl (val xs) - p = (k : Int) := ⟨(bl (val xs) - p).toNat, by omega⟩
    have SR := Lib.hid (fun w' (hb : Below w.heap.size w w') => shr A n c xs (k : Int) w' (h.below hb) (by omega) (by omega) (by omega))
    rw [shrI_eq (by omega) (by omega), Int.toNat_natCast] at SR
    have hq0 : 0 ≤ val xs / 2 ^ k := Int.ediv_nonneg hv (Int.le_of_lt (pw_pos k))
    have lq : (wd (val xs / 2 ^ k)).length ≤ 16000 := by
      have := wd_length_le hq0 (Int.lt_of_le_of_lt (Int.ediv_le_self _ hv) (lt_pow_of_wd_length hv (k := (wd (val xs)).length) (Nat.le_refl _)))
      omega
    have vq := val_wd _ hq0
    have wq := wf_wd _ hq0
    have lq1 := add_len wq (k := 16000) (by omega) (by omega)
    rw [vq] at lq1
    rw [hkk] at hk ⊢
    unfold cutQ cutR
    rw [if_pos hk, if_pos hk, decide_eq_true hk, Int.toNat_natCast]
    have hsl : 0 ≤ val xs / 2 ^ k * 2 ^ k := Int.mul_nonneg hq0 (Int.le_of_lt (pw_pos k))
    have vsl := val_wd _ hsl
    generalize hqe : val xs / 2 ^ k = q at *
    have dk : decide ((k : Int) > 0) = true := by simp; omega
    have VX2 : Hid (val (wd q) = q) := vq
    have V1 : Hid (val (wd (q + 1)) = q + 1) := val_wd _ (by omega)
    cases rest
    · by_cases hne : q * 2 ^ k = val xs
      · have d8 : decide (q * 2 ^ k ≠ val xs) = false := by simp [hne]
        have cf := cmpI_eq hne
        rw [d8]
        simp only [Bool.or_false, Bool.and_false, Bool.false_and, Bool.false_eq_true, if_false]
        clear hqe d8 hne
        cases neg
        · (generalize ho : mkD false _ _ = o; have HO := Lib.hid ho; clear ho)
          (go_enter Tryd.func99, Tryd.ntmps99; go_wp2_with fail; refine (NB.out _ b0).mono ?_; rintro r w' ⟨rfl, rfl⟩; go_wp2_with fail; refine (SR.out _ b0).mono ?_; rintro r w2 ⟨A2, n2, c2, rfl, h2, hb2⟩; have bw2 := below_on b0 hb2; have bx2 := bx.later hb2; have l2 := h2.len; clear hb2 SR NB; generalize wd q = X2 at *; go_wp2_with fail)
          (have SL := shl A2 n2 c2 X2 (k : Int) w2 h2 (by omega) (by omega) (by omega); rw [shlI_eq (by omega) (by omega), Int.toNat_natCast, VX2.out] at SL; refine SL.mono ?_; rintro r w5 ⟨A5, n5, c5, rfl, h5, hb5⟩; have bw5 := below_on bw2 hb5; have bx2 := bx2.later hb5; have h2 := h2.below hb5; have C := ncmp A5 A n5 c5 n c _ xs w5 h5 (h.below bw5); rw [vsl, cf] at C; have C := Lib.hid C; clear SL h5 hb5; go_wp2_with fail; refine C.out.mono ?_; rintro r w6 ⟨rfl, s6⟩; have bw2 := bw5.trans (s6.below _); have bx2 := bx2.later (s6.below _); have h2 := h2.below (s6.below _); clear C s6; generalize hw6 : w6 = w2 at *; clear hw6; go_wp2_with fail)
          (have bw3 := bw2; have bx3 := bx2; have MK := make false A2 n2 c2 X2 (e + k) w2 h2 (by omega) (by omega) (by omega) (hT.below bw2); rw [VX2.out, HO.out] at MK; have MK := Lib.hid MK; clear h2; refine MK.out.mono ?_; (rintro r w4 ⟨A4, n4, c4, rfl, hA, hb4⟩; have bx4 := bx3.later hb4; have bw4 := below_on bw3 hb4; obtain ⟨k0, k1, k2, f0, f1, f2⟩ := bx4.cell3; clear hb4; go_wp2_with fail; exact bodyPost_ret (v := .tuple #[.agg #[.bool (optD o).neg, .slice A4 n4 c4, .int .i64 (optD o).e], .bool o.isSome]) (by simp [results, Tryd.results99, go_sem, k0, k1, k2]) rfl (retD_set hA bx4 bw4 (Nat.le_refl _))))
        · (generalize ho : mkD true _ _ = o; have HO := Lib.hid ho; clear ho)
          (go_enter Tryd.func99, Tryd.ntmps99; go_wp2_with fail; refine (NB.out _ b0).mono ?_; rintro r w' ⟨rfl, rfl⟩; go_wp2_with fail; refine (SR.out _ b0).mono ?_; rintro r w2 ⟨A2, n2, c2, rfl, h2, hb2⟩; have bw2 := below_on b0 hb2; have bx2 := bx.later hb2; have l2 := h2.len; clear hb2 SR NB; generalize wd q = X2 at *; go_wp2_with fail)
          (have SL := shl A2 n2 c2 X2 (k : Int) w2 h2 (by omega) (by omega) (by omega); rw [shlI_eq (by omega) (by omega), Int.toNat_natCast, VX2.out] at SL; refine SL.mono ?_; rintro r w5 ⟨A5, n5, c5, rfl, h5, hb5⟩; have bw5 := below_on bw2 hb5; have bx2 := bx2.later hb5; have h2 := h2.below hb5; have C := ncmp A5 A n5 c5 n c _ xs w5 h5 (h.below bw5); rw [vsl, cf] at C; have C := Lib.hid C; clear SL h5 hb5; go_wp2_with fail; refine C.out.mono ?_; rintro r w6 ⟨rfl, s6⟩; have bw2 := bw5.trans (s6.below _); have bx2 := bx2.later (s6.below _); have h2 := h2.below (s6.below _); clear C s6; generalize hw6 : w6 = w2 at *; clear hw6; go_wp2_with fail)
          (have bw3 := bw2; have bx3 := bx2; have MK := make true A2 n2 c2 X2 (e + k) w2 h2 (by omega) (by omega) (by omega) (hT.below bw2); rw [VX2.out, HO.out] at MK; have MK := Lib.hid MK; clear h2; refine MK.out.mono ?_; (rintro r w4 ⟨A4, n4, c4, rfl, hA, hb4⟩; have bx4 := bx3.later hb4; have bw4 := below_on bw3 hb4; obtain ⟨k0, k1, k2, f0, f1, f2⟩ := bx4.cell3; clear hb4; go_wp2_with fail; exact bodyPost_ret (v := .tuple #[.agg #[.bool (optD o).neg, .slice A4 n4 c4, .int .i64 (optD o).e], .bool o.isSome]) (by simp [results, Tryd.results99, go_sem, k0, k1, k2]) rfl (retD_set hA bx4 bw4 (Nat.le_refl _))))
      · have d8 : decide (q * 2 ^ k ≠ val xs) = true := by simp [hne]
        have hle : q * 2 ^ k ≤ val xs := by rw [← hqe]; exact Int.ediv_mul_le _ (Int.ne_of_gt (pw_pos k))
        have cf := cmpI_lt (show q * 2 ^ k < val xs by omega)
        rw [d8]
        clear hqe d8 hne hle
        cases neg <;> cases up
        all_goals
          simp only [Bool.false_or, Bool.true_and, bne_self_eq_false, Bool.false_eq_true, if_false, if_true, show (true != false) = true from rfl, show (false != true) = true from rfl]
        · (generalize ho : mkD false _ _ = o; have HO := Lib.hid ho; clear ho)
          (go_enter Tryd.func99, Tryd.ntmps99; go_wp2_with fail; refine (NB.out _ b0).mono ?_; rintro r w' ⟨rfl, rfl⟩; go_wp2_with fail; refine (SR.out _ b0).mono ?_; rintro r w2 ⟨A2, n2, c2, rfl, h2, hb2⟩; have bw2 := below_on b0 hb2; have bx2 := bx.later hb2; have l2 := h2.len; clear hb2 SR NB; generalize wd q = X2 at *; go_wp2_with fail)
          (have SL := shl A2 n2 c2 X2 (k : Int) w2 h2 (by omega) (by omega) (by omega); rw [shlI_eq (by omega) (by omega), Int.toNat_natCast, VX2.out] at SL; refine SL.mono ?_; rintro r w5 ⟨A5, n5, c5, rfl, h5, hb5⟩; have bw5 := below_on bw2 hb5; have bx2 := bx2.later hb5; have h2 := h2.below hb5; have C := ncmp A5 A n5 c5 n c _ xs w5 h5 (h.below bw5); rw [vsl, cf] at C; have C := Lib.hid C; clear SL h5 hb5; go_wp2_with fail; refine C.out.mono ?_; rintro r w6 ⟨rfl, s6⟩; have bw2 := bw5.trans (s6.below _); have bx2 := bx2.later (s6.below _); have h2 := h2.below (s6.below _); clear C s6; generalize hw6 : w6 = w2 at *; clear hw6; go_wp2_with fail)
          (have bw3 := bw2; have bx3 := bx2; have MK := make false A2 n2 c2 X2 (e + k) w2 h2 (by omega) (by omega) (by omega) (hT.below bw2); rw [VX2.out, HO.out] at MK; have MK := Lib.hid MK; clear h2; refine MK.out.mono ?_; (rintro r w4 ⟨A4, n4, c4, rfl, hA, hb4⟩; have bx4 := bx3.later hb4; have bw4 := below_on bw3 hb4; obtain ⟨k0, k1, k2, f0, f1, f2⟩ := bx4.cell3; clear hb4; go_wp2_with fail; exact bodyPost_ret (v := .tuple #[.agg #[.bool (optD o).neg, .slice A4 n4 c4, .int .i64 (optD o).e], .bool o.isSome]) (by simp [results, Tryd.results99, go_sem, k0, k1, k2]) rfl (retD_set hA bx4 bw4 (Nat.le_refl _))))
        · (generalize ho : mkD false _ _ = o; have HO := Lib.hid ho; clear ho)
          (go_enter Tryd.func99, Tryd.ntmps99; go_wp2_with fail; refine (NB.out _ b0).mono ?_; rintro r w' ⟨rfl, rfl⟩; go_wp2_with fail; refine (SR.out _ b0).mono ?_; rintro r w2 ⟨A2, n2, c2, rfl, h2, hb2⟩; have bw2 := below_on b0 hb2; have bx2 := bx.later hb2; have l2 := h2.len; clear hb2 SR NB; generalize wd q = X2 at *; go_wp2_with fail)
          (have SL := shl A2 n2 c2 X2 (k : Int) w2 h2 (by omega) (by omega) (by omega); rw [shlI_eq (by omega) (by omega), Int.toNat_natCast, VX2.out] at SL; refine SL.mono ?_; rintro r w5 ⟨A5, n5, c5, rfl, h5, hb5⟩; have bw5 := below_on bw2 hb5; have bx2 := bx2.later hb5; have h2 := h2.below hb5; have C := ncmp A5 A n5 c5 n c _ xs w5 h5 (h.below bw5); rw [vsl, cf] at C; have C := Lib.hid C; clear SL h5 hb5; go_wp2_with fail; refine C.out.mono ?_; rintro r w6 ⟨rfl, s6⟩; have bw2 := bw5.trans (s6.below _); have bx2 := bx2.later (s6.below _); have h2 := h2.below (s6.below _); clear C s6; generalize hw6 : w6 = w2 at *; clear hw6; go_wp2_with fail)
          (have A1 := add A2 (some ⟨w2.heap.size, 0, none⟩) n2 c2 1 1 X2 [1] _ (h2.below (below_alloc (below_self w2) (.cells #[.int .u64 1] 27))) (arr_one (w := w2) rfl 1 (by decide) (by decide)) (by omega) (by decide); rw [VX2.out, val_one] at A1; refine A1.mono ?_; rintro r w3 ⟨A3, n3, c3, rfl, h3, hb3⟩; have hb23 := below_on (below_alloc (below_self w2) (.cells #[.int .u64 1] 27)) hb3; have bw3 := below_on bw2 hb23; have bx3 := bx2.later hb23; have l3 := h3.len; have MK := make false A3 n3 c3 _ (e + k) w3 h3.arr (by omega) (by omega) (by omega) (hT.below bw3); rw [V1.out, HO.out] at MK; have MK := Lib.hid MK; clear A1 h3 hb3 hb23 h2; go_wp2_with fail; refine MK.out.mono ?_; (rintro r w4 ⟨A4, n4, c4, rfl, hA, hb4⟩; have bx4 := bx3.later hb4; have bw4 := below_on bw3 hb4; obtain ⟨k0, k1, k2, f0, f1, f2⟩ := bx4.cell3; clear hb4; go_wp2_with fail; exact bodyPost_ret (v := .tuple #[.agg #[.bool (optD o).neg, .slice A4 n4 c4, .int .i64 (optD o).e], .bool o.isSome]) (by simp [results, Tryd.results99, go_sem, k0, k1, k2]) rfl (retD_set hA bx4 bw4 (Nat.le_refl _))))
        · (generalize ho : mkD true _ _ = o; have HO := Lib.hid ho; clear ho)
          (go_enter Tryd.func99, Tryd.ntmps99; go_wp2_with fail; refine (NB.out _ b0).mono ?_; rintro r w' ⟨rfl, rfl⟩; go_wp2_with fail; refine (SR.out _ b0).mono ?_; rintro r w2 ⟨A2, n2, c2, rfl, h2, hb2⟩; have bw2 := below_on b0 hb2; have bx2 := bx.later hb2; have l2 := h2.len; clear hb2 SR NB; generalize wd q = X2 at *; go_wp2_with fail)
          (have SL := shl A2 n2 c2 X2 (k : Int) w2 h2 (by omega) (by omega) (by omega); rw [shlI_eq (by omega) (by omega), Int.toNat_natCast, VX2.out] at SL; refine SL.mono ?_; rintro r w5 ⟨A5, n5, c5, rfl, h5, hb5⟩; have bw5 := below_on bw2 hb5; have bx2 := bx2.later hb5; have h2 := h2.below hb5; have C := ncmp A5 A n5 c5 n c _ xs w5 h5 (h.below bw5); rw [vsl, cf] at C; have C := Lib.hid C; clear SL h5 hb5; go_wp2_with fail; refine C.out.mono ?_; rintro r w6 ⟨rfl, s6⟩; have bw2 := bw5.trans (s6.below _); have bx2 := bx2.later (s6.below _); have h2 := h2.below (s6.below _); clear C s6; generalize hw6 : w6 = w2 at *; clear hw6; go_wp2_with fail)
          (have A1 := add A2 (some ⟨w2.heap.size, 0, none⟩) n2 c2 1 1 X2 [1] _ (h2.below (below_alloc (below_self w2) (.cells #[.int .u64 1] 27))) (arr_one (w := w2) rfl 1 (by decide) (by decide)) (by omega) (by decide); rw [VX2.out, val_one] at A1; refine A1.mono ?_; rintro r w3 ⟨A3, n3, c3, rfl, h3, hb3⟩; have hb23 := below_on (below_alloc (below_self w2) (.cells #[.int .u64 1] 27)) hb3; have bw3 := below_on bw2 hb23; have bx3 := bx2.later hb23; have l3 := h3.len; have MK := make true A3 n3 c3 _ (e + k) w3 h3.arr (by omega) (by omega) (by omega) (hT.below bw3); rw [V1.out, HO.out] at MK; have MK := Lib.hid MK; clear A1 h3 hb3 hb23 h2; go_wp2_with fail; refine MK.out.mono ?_; (rintro r w4 ⟨A4, n4, c4, rfl, hA, hb4⟩; have bx4 := bx3.later hb4; have bw4 := below_on bw3 hb4; obtain ⟨k0, k1, k2, f0, f1, f2⟩ := bx4.cell3; clear hb4; go_wp2_with fail; exact bodyPost_ret (v := .tuple #[.agg #[.bool (optD o).neg, .slice A4 n4 c4, .int .i64 (optD o).e], .bool o.isSome]) (by simp [results, Tryd.results99, go_sem, k0, k1, k2]) rfl (retD_set hA bx4 bw4 (Nat.le_refl _))))
        · (generalize ho : mkD true _ _ = o; have HO := Lib.hid ho; clear ho)
          (go_enter Tryd.func99, Tryd.ntmps99; go_wp2_with fail; refine (NB.out _ b0).mono ?_; rintro r w' ⟨rfl, rfl⟩; go_wp2_with fail; refine (SR.out _ b0).mono ?_; rintro r w2 ⟨A2, n2, c2, rfl, h2, hb2⟩; have bw2 := below_on b0 hb2; have bx2 := bx.later hb2; have l2 := h2.len; clear hb2 SR NB; generalize wd q = X2 at *; go_wp2_with fail)
          (have SL := shl A2 n2 c2 X2 (k : Int) w2 h2 (by omega) (by omega) (by omega); rw [shlI_eq (by omega) (by omega), Int.toNat_natCast, VX2.out] at SL; refine SL.mono ?_; rintro r w5 ⟨A5, n5, c5, rfl, h5, hb5⟩; have bw5 := below_on bw2 hb5; have bx2 := bx2.later hb5; have h2 := h2.below hb5; have C := ncmp A5 A n5 c5 n c _ xs w5 h5 (h.below bw5); rw [vsl, cf] at C; have C := Lib.hid C; clear SL h5 hb5; go_wp2_with fail; refine C.out.mono ?_; rintro r w6 ⟨rfl, s6⟩; have bw2 := bw5.trans (s6.below _); have bx2 := bx2.later (s6.below _); have h2 := h2.below (s6.below _); clear C s6; generalize hw6 : w6 = w2 at *; clear hw6; go_wp2_with fail)
          (have bw3 := bw2; have bx3 := bx2; have MK := make true A2 n2 c2 X2 (e + k) w2 h2 (by omega) (by omega) (by omega) (hT.below bw2); rw [VX2.out, HO.out] at MK; have MK := Lib.hid MK; clear h2; refine MK.out.mono ?_; (rintro r w4 ⟨A4, n4, c4, rfl, hA, hb4⟩; have bx4 := bx3.later hb4; have bw4 := below_on bw3 hb4; obtain ⟨k0, k1, k2, f0, f1, f2⟩ := bx4.cell3; clear hb4; go_wp2_with fail; exact bodyPost_ret (v := .tuple #[.agg #[.bool (optD o).neg, .slice A4 n4 c4, .int .i64 (optD o).e], .bool o.isSome]) (by simp [results, Tryd.results99, go_sem, k0, k1, k2]) rfl (retD_set hA bx4 bw4 (Nat.le_refl _))))
    · cases neg <;> cases up
      all_goals
        simp only [Bool.true_or, Bool.true_and, bne_self_eq_false, Bool.false_eq_true, if_false, if_true, show (true != false) = true from rfl, show (false != true) = true from rfl]
      · (generalize ho : mkD false _ _ = o; have HO := Lib.hid ho; clear ho)
        (go_enter Tryd.func99, Tryd.ntmps99; go_wp2_with fail; refine (NB.out _ b0).mono ?_; rintro r w' ⟨rfl, rfl⟩; go_wp2_with fail; refine (SR.out _ b0).mono ?_; rintro r w2 ⟨A2, n2, c2, rfl, h2, hb2⟩; have bw2 := below_on b0 hb2; have bx2 := bx.later hb2; have l2 := h2.len; clear hb2 SR NB; generalize wd q = X2 at *; go_wp2_with fail)
        (have bw3 := bw2; have bx3 := bx2; have MK := make false A2 n2 c2 X2 (e + k) w2 h2 (by omega) (by omega) (by omega) (hT.below bw2); rw [VX2.out, HO.out] at MK; have MK := Lib.hid MK; clear h2; refine MK.out.mono ?_; (rintro r w4 ⟨A4, n4, c4, rfl, hA, hb4⟩; have bx4 := bx3.later hb4; have bw4 := below_on bw3 hb4; obtain ⟨k0, k1, k2, f0, f1, f2⟩ := bx4.cell3; clear hb4; go_wp2_with fail; exact bodyPost_ret (v := .tuple #[.agg #[.bool (optD o).neg, .slice A4 n4 c4, .int .i64 (optD o).e], .bool o.isSome]) (by simp [results, Tryd.results99, go_sem, k0, k1, k2]) rfl (retD_set hA bx4 bw4 (Nat.le_refl _))))
      · (generalize ho : mkD false _ _ = o; have HO := Lib.hid ho; clear ho)
        (go_enter Tryd.func99, Tryd.ntmps99; go_wp2_with fail; refine (NB.out _ b0).mono ?_; rintro r w' ⟨rfl, rfl⟩; go_wp2_with fail; refine (SR.out _ b0).mono ?_; rintro r w2 ⟨A2, n2, c2, rfl, h2, hb2⟩; have bw2 := below_on b0 hb2; have bx2 := bx.later hb2; have l2 := h2.len; clear hb2 SR NB; generalize wd q = X2 at *; go_wp2_with fail)
        (have A1 := add A2 (some ⟨w2.heap.size, 0, none⟩) n2 c2 1 1 X2 [1] _ (h2.below (below_alloc (below_self w2) (.cells #[.int .u64 1] 27))) (arr_one (w := w2) rfl 1 (by decide) (by decide)) (by omega) (by decide); rw [VX2.out, val_one] at A1; refine A1.mono ?_; rintro r w3 ⟨A3, n3, c3, rfl, h3, hb3⟩; have hb23 := below_on (below_alloc (below_self w2) (.cells #[.int .u64 1] 27)) hb3; have bw3 := below_on bw2 hb23; have bx3 := bx2.later hb23; have l3 := h3.len; have MK := make false A3 n3 c3 _ (e + k) w3 h3.arr (by omega) (by omega) (by omega) (hT.below bw3); rw [V1.out, HO.out] at MK; have MK := Lib.hid MK; clear A1 h3 hb3 hb23 h2; go_wp2_with fail; refine MK.out.mono ?_; (rintro r w4 ⟨A4, n4, c4, rfl, hA, hb4⟩; have bx4 := bx3.later hb4; have bw4 := below_on bw3 hb4; obtain ⟨k0, k1, k2, f0, f1, f2⟩ := bx4.cell3; clear hb4; go_wp2_with fail; exact bodyPost_ret (v := .tuple #[.agg #[.bool (optD o).neg, .slice A4 n4 c4, .int .i64 (optD o).e], .bool o.isSome]) (by simp [results, Tryd.results99, go_sem, k0, k1, k2]) rfl (retD_set hA bx4 bw4 (Nat.le_refl _))))
      · (generalize ho : mkD true _ _ = o; have HO := Lib.hid ho; clear ho)
        (go_enter Tryd.func99, Tryd.ntmps99; go_wp2_with fail; refine (NB.out _ b0).mono ?_; rintro r w' ⟨rfl, rfl⟩; go_wp2_with fail; refine (SR.out _ b0).mono ?_; rintro r w2 ⟨A2, n2, c2, rfl, h2, hb2⟩; have bw2 := below_on b0 hb2; have bx2 := bx.later hb2; have l2 := h2.len; clear hb2 SR NB; generalize wd q = X2 at *; go_wp2_with fail)
        (have A1 := add A2 (some ⟨w2.heap.size, 0, none⟩) n2 c2 1 1 X2 [1] _ (h2.below (below_alloc (below_self w2) (.cells #[.int .u64 1] 27))) (arr_one (w := w2) rfl 1 (by decide) (by decide)) (by omega) (by decide); rw [VX2.out, val_one] at A1; refine A1.mono ?_; rintro r w3 ⟨A3, n3, c3, rfl, h3, hb3⟩; have hb23 := below_on (below_alloc (below_self w2) (.cells #[.int .u64 1] 27)) hb3; have bw3 := below_on bw2 hb23; have bx3 := bx2.later hb23; have l3 := h3.len; have MK := make true A3 n3 c3 _ (e + k) w3 h3.arr (by omega) (by omega) (by omega) (hT.below bw3); rw [V1.out, HO.out] at MK; have MK := Lib.hid MK; clear A1 h3 hb3 hb23 h2; go_wp2_with fail; refine MK.out.mono ?_; (rintro r w4 ⟨A4, n4, c4, rfl, hA, hb4⟩; have bx4 := bx3.later hb4; have bw4 := below_on bw3 hb4; obtain ⟨k0, k1, k2, f0, f1, f2⟩ := bx4.cell3; clear hb4; go_wp2_with fail; exact bodyPost_ret (v := .tuple #[.agg #[.bool (optD o).neg, .slice A4 n4 c4, .int .i64 (optD o).e], .bool o.isSome]) (by simp [results, Tryd.results99, go_sem, k0, k1, k2]) rfl (retD_set hA bx4 bw4 (Nat.le_refl _))))
      · (generalize ho : mkD true _ _ = o; have HO := Lib.hid ho; clear ho)
        (go_enter Tryd.func99, Tryd.ntmps99; go_wp2_with fail; refine (NB.out _ b0).mono ?_; rintro r w' ⟨rfl, rfl⟩; go_wp2_with fail; refine (SR.out _ b0).mono ?_; rintro r w2 ⟨A2, n2, c2, rfl, h2, hb2⟩; have bw2 := below_on b0 hb2; have bx2 := bx.later hb2; have l2 := h2.len; clear hb2 SR NB; generalize wd q = X2 at *; go_wp2_with fail)
        (have bw3 := bw2; have bx3 := bx2; have MK := make true A2 n2 c2 X2 (e + k) w2 h2 (by omega) (by omega) (by omega) (hT.below bw2); rw [VX2.out, HO.out] at MK; have MK := Lib.hid MK; clear h2; refine MK.out.mono ?_; (rintro r w4 ⟨A4, n4, c4, rfl, hA, hb4⟩; have bx4 := bx3.later hb4; have bw4 := below_on bw3 hb4; obtain ⟨k0, k1, k2, f0, f1, f2⟩ := bx4.cell3; clear hb4; go_wp2_with fail; exact bodyPost_ret (v := .tuple #[.agg #[.bool (optD o).neg, .slice A4 n4 c4, .int .i64 (optD o).e], .bool o.isSome]) (by simp [results, Tryd.results99, go_sem, k0, k1, k2]) rfl (retD_set hA bx4 bw4 (Nat.le_refl _))))
  · unfold cutQ cutR
    rw [if_neg hk, if_neg hk, decide_eq_false hk]
    have dk : decide (bl (val xs) - p > 0) = false := by simp; omega
    have lq1 := add_len hwf (k := 16000) (by omega) (by omega)
    obtain ⟨vv, ev⟩ : ∃ vv, val xs = vv := ⟨_, rfl⟩
    rw [ev] at hv NB hb0 hb1 hk dk lq1 ⊢
    have VX2 : Hid (val xs = vv) := ev
    have V1 : Hid (val (wd (vv + 1)) = vv + 1) := val_wd _ (by omega)
    clear ev hlen
    obtain ⟨A2, q1⟩ : ∃ A2, A2 = A := ⟨A, rfl⟩
    obtain ⟨n2, q2⟩ : ∃ n2, n2 = n := ⟨n, rfl⟩
    obtain ⟨c2, q3⟩ : ∃ c2, c2 = c := ⟨c, rfl⟩
    obtain ⟨X2, q4⟩ : ∃ X2, X2 = xs := ⟨xs, rfl⟩
    subst q1 q2 q3 q4
    cases rest
    · simp only [Bool.false_and, Bool.or_false, Bool.false_eq_true, if_false]
      cases neg
      · (generalize ho : mkD false _ _ = o; have HO := Lib.hid ho; clear ho)
        (go_enter Tryd.func99, Tryd.ntmps99; go_wp2_with fail; refine (NB.out _ b0).mono ?_; rintro r w' ⟨rfl, rfl⟩; have bw2 := b0; have bx2 := bx; have h2 := h.below b0; clear NB; generalize (w.alloc (.cells #[.bool false, .slice none 0 0, .int .i64 0] 24)) = w2 at *; go_wp2_with fail)
        (have bw3 := bw2; have bx3 := bx2; have MK := make false A2 n2 c2 X2 (e) w2 h2 (by omega) (by omega) (by omega) (hT.below bw2); rw [VX2.out, HO.out] at MK; have MK := Lib.hid MK; clear h2; refine MK.out.mono ?_; (rintro r w4 ⟨A4, n4, c4, rfl, hA, hb4⟩; have bx4 := bx3.later hb4; have bw4 := below_on bw3 hb4; obtain ⟨k0, k1, k2, f0, f1, f2⟩ := bx4.cell3; clear hb4; go_wp2_with fail; exact bodyPost_ret (v := .tuple #[.agg #[.bool (optD o).neg, .slice A4 n4 c4, .int .i64 (optD o).e], .bool o.isSome]) (by simp [results, Tryd.results99, go_sem, k0, k1, k2]) rfl (retD_set hA bx4 bw4 (Nat.le_refl _))))
      · (generalize ho : mkD true _ _ = o; have HO := Lib.hid ho; clear ho)
        (go_enter Tryd.func99, Tryd.ntmps99; go_wp2_with fail; refine (NB.out _ b0).mono ?_; rintro r w' ⟨rfl, rfl⟩; have bw2 := b0; have bx2 := bx; have h2 := h.below b0; clear NB; generalize (w.alloc (.cells #[.bool false, .slice none 0 0, .int .i64 0] 24)) = w2 at *; go_wp2_with fail)
        (have bw3 := bw2; have bx3 := bx2; have MK := make true A2 n2 c2 X2 (e) w2 h2 (by omega) (by omega) (by omega) (hT.below bw2); rw [VX2.out, HO.out] at MK; have MK := Lib.hid MK; clear h2; refine MK.out.mono ?_; (rintro r w4 ⟨A4, n4, c4, rfl, hA, hb4⟩; have bx4 := bx3.later hb4; have bw4 := below_on bw3 hb4; obtain ⟨k0, k1, k2, f0, f1, f2⟩ := bx4.cell3; clear hb4; go_wp2_with fail; exact bodyPost_ret (v := .tuple #[.agg #[.bool (optD o).neg, .slice A4 n4 c4, .int .i64 (optD o).e], .bool o.isSome]) (by simp [results, Tryd.results99, go_sem, k0, k1, k2]) rfl (retD_set hA bx4 bw4 (Nat.le_refl _))))
    · cases neg <;> cases up
      all_goals
        simp only [Bool.true_or, Bool.true_and, bne_self_eq_false, Bool.false_eq_true, if_false, if_true, show (true != false) = true from rfl, show (false != true) = true from rfl]
      · (generalize ho : mkD false _ _ = o; have HO := Lib.hid ho; clear ho)
        (go_enter Tryd.func99, Tryd.ntmps99; go_wp2_with fail; refine (NB.out _ b0).mono ?_; rintro r w' ⟨rfl, rfl⟩; have bw2 := b0; have bx2 := bx; have h2 := h.below b0; clear NB; generalize (w.alloc (.cells #[.bool false, .slice none 0 0, .int .i64 0] 24)) = w2 at *; go_wp2_with fail)
        (have bw3 := bw2; have bx3 := bx2; have MK := make false A2 n2 c2 X2 (e) w2 h2 (by omega) (by omega) (by omega) (hT.below bw2); rw [VX2.out, HO.out] at MK; have MK := Lib.hid MK; clear h2; refine MK.out.mono ?_; (rintro r w4 ⟨A4, n4, c4, rfl, hA, hb4⟩; have bx4 := bx3.later hb4; have bw4 := below_on bw3 hb4; obtain ⟨k0, k1, k2, f0, f1, f2⟩ := bx4.cell3; clear hb4; go_wp2_with fail; exact bodyPost_ret (v := .tuple #[.agg #[.bool (optD o).neg, .slice A4 n4 c4, .int .i64 (optD o).e], .bool o.isSome]) (by simp [results, Tryd.results99, go_sem, k0, k1, k2]) rfl (retD_set hA bx4 bw4 (Nat.le_refl _))))
      · (generalize ho : mkD false _ _ = o; have HO := Lib.hid ho; clear ho)
        (go_enter Tryd.func99, Tryd.ntmps99; go_wp2_with fail; refine (NB.out _ b0).mono ?_; rintro r w' ⟨rfl, rfl⟩; have bw2 := b0; have bx2 := bx; have h2 := h.below b0; clear NB; generalize (w.alloc (.cells #[.bool false, .slice none 0 0, .int .i64 0] 24)) = w2 at *; go_wp2_with fail)
        (have A1 := add A2 (some ⟨w2.heap.size, 0, none⟩) n2 c2 1 1 X2 [1] _ (h2.below (below_alloc (below_self w2) (.cells #[.int .u64 1] 27))) (arr_one (w := w2) rfl 1 (by decide) (by decide)) (by omega) (by decide); rw [VX2.out, val_one] at A1; refine A1.mono ?_; rintro r w3 ⟨A3, n3, c3, rfl, h3, hb3⟩; have hb23 := below_on (below_alloc (below_self w2) (.cells #[.int .u64 1] 27)) hb3; have bw3 := below_on bw2 hb23; have bx3 := bx2.later hb23; have l3 := h3.len; have MK := make false A3 n3 c3 _ (e) w3 h3.arr (by omega) (by omega) (by omega) (hT.below bw3); rw [V1.out, HO.out] at MK; have MK := Lib.hid MK; clear A1 h3 hb3 hb23 h2; go_wp2_with fail; refine MK.out.mono ?_; (rintro r w4 ⟨A4, n4, c4, rfl, hA, hb4⟩; have bx4 := bx3.later hb4; have bw4 := below_on bw3 hb4; obtain ⟨k0, k1, k2, f0, f1, f2⟩ := bx4.cell3; clear hb4; go_wp2_with fail; exact bodyPost_ret (v := .tuple #[.agg #[.bool (optD o).neg, .slice A4 n4 c4, .int .i64 (optD o).e], .bool o.isSome]) (by simp [results, Tryd.results99, go_sem, k0, k1, k2]) rfl (retD_set hA bx4 bw4 (Nat.le_refl _))))
      · (generalize ho : mkD true _ _ = o; have HO := Lib.hid ho; clear ho)
        (go_enter Tryd.func99, Tryd.ntmps99; go_wp2_with fail; refine (NB.out _ b0).mono ?_; rintro r w' ⟨rfl, rfl⟩; have bw2 := b0; have bx2 := bx; have h2 := h.below b0; clear NB; generalize (w.alloc (.cells #[.bool false, .slice none 0 0, .int .i64 0] 24)) = w2 at *; go_wp2_with fail)
        (have A1 := add A2 (some ⟨w2.heap.size, 0, none⟩) n2 c2 1 1 X2 [1] _ (h2.below (below_alloc (below_self w2) (.cells #[.int .u64 1] 27))) (arr_one (w := w2) rfl 1 (by decide) (by decide)) (by omega) (by decide); rw [VX2.out, val_one] at A1; refine A1.mono ?_; rintro r w3 ⟨A3, n3, c3, rfl, h3, hb3⟩; have hb23 := below_on (below_alloc (below_self w2) (.cells #[.int .u64 1] 27)) hb3; have bw3 := below_on bw2 hb23; have bx3 := bx2.later hb23; have l3 := h3.len; have MK := make true A3 n3 c3 _ (e) w3 h3.arr (by omega) (by omega) (by omega) (hT.below bw3); rw [V1.out, HO.out] at MK; have MK := Lib.hid MK; clear A1 h3 hb3 hb23 h2; go_wp2_with fail; refine MK.out.mono ?_; (rintro r w4 ⟨A4, n4, c4, rfl, hA, hb4⟩; have bx4 := bx3.later hb4; have bw4 := below_on bw3 hb4; obtain ⟨k0, k1, k2, f0, f1, f2⟩ := bx4.cell3; clear hb4; go_wp2_with fail; exact bodyPost_ret (v := .tuple #[.agg #[.bool (optD o).neg, .slice A4 n4 c4, .int .i64 (optD o).e], .bool o.isSome]) (by simp [results, Tryd.results99, go_sem, k0, k1, k2]) rfl (retD_set hA bx4 bw4 (Nat.le_refl _))))
      · (generalize ho : mkD true _ _ = o; have HO := Lib.hid ho; clear ho)
        (go_enter Tryd.func99, Tryd.ntmps99; go_wp2_with fail; refine (NB.out _ b0).mono ?_; rintro r w' ⟨rfl, rfl⟩; have bw2 := b0; have bx2 := bx; have h2 := h.below b0; clear NB; generalize (w.alloc (.cells #[.bool false, .slice none 0 0, .int .i64 0] 24)) = w2 at *; go_wp2_with fail)
        (have bw3 := bw2; have bx3 := bx2; have MK := make true A2 n2 c2 X2 (e) w2 h2 (by omega) (by omega) (by omega) (hT.below bw2); rw [VX2.out, HO.out] at MK; have MK := Lib.hid MK; clear h2; refine MK.out.mono ?_; (rintro r w4 ⟨A4, n4, c4, rfl, hA, hb4⟩; have bx4 := bx3.later hb4; have bw4 := below_on bw3 hb4; obtain ⟨k0, k1, k2, f0, f1, f2⟩ := bx4.cell3; clear hb4; go_wp2_with fail; exact bodyPost_ret (v := .tuple #[.agg #[.bool (optD o).neg, .slice A4 n4 c4, .int .i64 (optD o).e], .bool o.isSome]) (by simp [results, Tryd.results99, go_sem, k0, k1, k2]) rfl (retD_set hA bx4 bw4 (Nat.le_refl _))))
end Go.Proofs.YtbfnjjnnlbchgaaDoor
