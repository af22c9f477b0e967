/- A text of ours, with only what the claim's row needs (wip/tools/shake.py). -/
import Derived.Test.YteffemhapnbaeaaGreatDoorMK
import Derived.Test.YteffemhapnbaeaaGreatDoorMB
import Derived.Test.YteffemhapnbaeaaGreatDoorMC
import Derived.Test.YteffemhapnbaeaaGreatDoorME
import Derived.Test.YteffemhapnbaeaaGreatDoorML
import Derived.Test.YteffemhapnbaeaaGreatDoorMN
import Derived.Test.YteffemhapnbaeaaGreatDoorMG
namespace Go.Proofs.YteffemhapnbaeaaGreatDoor
open Go.RowKit Num
set_option maxRecDepth 100000

def rightB (p : Int) : Bool := decide (1 ≤ p) && decide (p ≤ 8192)
theorem bright (p : Int) (w : World) : Calls Tryz.prog 97 #[.int .i64 p] w fun r w' => r = .returned (.bool (rightB p)) ∧ w = w' := by
  unfold rightB
  go_enter Tryz.func97, Tryz.ntmps97
  go_wp2
  all_goals go_ret
  all_goals refine ⟨ret_bool ?_, rfl⟩
  all_goals simp; try omega
/-- What is left of v when k bits are cut off, and whether something is behind. -/
def cutQ (v k : Int) : Int := if 0 < k then v / 2 ^ k.toNat else v
def cutR (v k : Int) (rest : Bool) : Bool := rest || (decide (0 < k) && decide (v / 2 ^ k.toNat * 2 ^ k.toNat ≠ v))
def cutD (neg : Bool) (v e : Int) (rest : Bool) (p : Int) (up : Bool) : Option Dy :=
  mkD neg (if cutR v (bl v - p) rest && (neg != up) then cutQ v (bl v - p) + 1 else cutQ v (bl v - p)) (if 0 < bl v - p then e + (bl v - p) else e)
theorem wd_sum_len2 {xs ys : List Int} (h : Wf xs) (h' : Wf ys) {k : Nat} (hx : xs.length ≤ k) (hy : ys.length ≤ k) : (wd (val xs + val ys)).length ≤ k + 1 := by
  refine wd_length_le (by have := val_nonneg h; have := val_nonneg h'; omega) (Int.lt_of_lt_of_le (val_lt_max h h') (B_pow_le (by omega)))
theorem add_len {xs : List Int} (h : Wf xs) {k : Nat} (hl : xs.length ≤ k) (hk : 1 ≤ k) : (wd (val xs + 1)).length ≤ k + 1 := by
  have h1 : (wd (val xs + val [1])).length ≤ k + 1 := wd_sum_len2 h (wf_one (by decide) (by decide)) hl (by simpa using hk)
  rw [val_one] at h1
  exact h1
set_option maxHeartbeats 4000000 in
theorem dcut (neg : Bool) (A : Option Addr) (n c : Nat) (xs : List Int) (e : Int) (rest : Bool) (p : Int) (up : Bool) (w : World) (h : Arr w A n c xs) (hn : n ≤ 16000) (he0 : -1000000000000 ≤ e) (he1 : e ≤ 1000000000000) (hp0 : 1 ≤ p) (hp1 : p ≤ 1000000000) (hT : Tz w) :
    Calls Tryz.prog 101 #[.bool neg, .slice A n c, .int .i64 e, .bool rest, .int .i64 p, .bool up] w (RetD (cutD neg (val xs) e rest p up) w) := by
  have hv := h.val_nonneg
  have b0 := below_alloc (below_self w) (.cells #[.bool false, .slice none 0 0, .int .i64 0] 26)
  have bx := box_new w #[.bool false, .slice none 0 0, .int .i64 0] 26
  have NB := Lib.hid (fun w' (hb : Below w.heap.size w w') => nbits A n c xs w' (h.below hb) (by omega))
  have hb0 := bl_nonneg (val xs)
  have hb1 := bl_lt (v := val xs) (a := 64 * n) hv (by rw [← B_pow_pw, ← h.len]; exact val_lt h.wf)
  have hlen := wd_len h.wf
  rw [h.len] at hlen
  have hwf := h.wf
  have hxl := h.len
  unfold cutD
  by_cases hk : 0 < bl (val xs) - p
  · obtain ⟨k, hkk⟩ : ∃ k : Nat, bl (val xs) - p = (k : Int) := ⟨(bl (val xs) - p).toNat, by omega⟩
    have SR := Lib.hid (fun w' (hb : Below w.heap.size w w') => shr A n c xs (k : Int) w' (h.below hb) (by omega) (by omega) (by omega))
    rw [shrI_eq (by omega) (by omega), Int.toNat_natCast] at SR
    have hq0 : 0 ≤ val xs / 2 ^ k := Int.ediv_nonneg hv (Int.le_of_lt (pw_pos k))
    have lq : (wd (val xs / 2 ^ k)).length ≤ 16000 := by
      have := wd_length_le hq0 (Int.lt_of_le_of_lt (Int.ediv_le_self _ hv) (lt_pow_of_wd_length hv (k := (wd (val xs)).length) (Nat.le_refl _)))
      omega
    have vq := val_wd _ hq0
    have wq := wf_wd _ hq0
    have lq1 := add_len wq (k := 16000) (by omega) (by omega)
    rw [vq] at lq1
    rw [hkk] at hk ⊢
    unfold cutQ cutR
    rw [if_pos hk, if_pos hk, decide_eq_true hk, Int.toNat_natCast]
    have hsl : 0 ≤ val xs / 2 ^ k * 2 ^ k := Int.mul_nonneg hq0 (Int.le_of_lt (pw_pos k))
    have vsl := val_wd _ hsl
    generalize hqe : val xs / 2 ^ k = q at *
    have dk : decide ((k : Int) > 0) = true := by simp; omega
    have VX2 : Hid (val (wd q) = q) := vq
    have V1 : Hid (val (wd (q + 1)) = q + 1) := val_wd _ (by omega)
    cases rest
    · by_cases hne : q * 2 ^ k = val xs
      · have d8 : decide (q * 2 ^ k ≠ val xs) = false := by simp [hne]
        have cf := cmpI_eq hne
        rw [d8]
        simp only [Bool.or_false, Bool.and_false, Bool.false_and, Bool.false_eq_true, if_false]
        clear hqe d8 hne
        cases neg
        · (generalize ho : mkD false _ _ = o; have HO := Lib.hid ho; clear ho)
          (go_enter Tryz.func101, Tryz.ntmps101; go_wp2_with fail; refine (NB.out _ b0).mono ?_; rintro r w' ⟨rfl, rfl⟩; go_wp2_with fail; refine (SR.out _ b0).mono ?_; rintro r w2 ⟨A2, n2, c2, rfl, h2, hb2⟩; have bw2 := below_on b0 hb2; have bx2 := bx.later hb2; have l2 := h2.len; clear hb2 SR NB; generalize wd q = X2 at *; go_wp2_with fail)
          (have SL := shl A2 n2 c2 X2 (k : Int) w2 h2 (by omega) (by omega) (by omega); rw [shlI_eq (by omega) (by omega), Int.toNat_natCast, VX2.out] at SL; refine SL.mono ?_; rintro r w5 ⟨A5, n5, c5, rfl, h5, hb5⟩; have bw5 := below_on bw2 hb5; have bx2 := bx2.later hb5; have h2 := h2.below hb5; have C := ncmp A5 A n5 c5 n c _ xs w5 h5 (h.below bw5); rw [vsl, cf] at C; have C := Lib.hid C; clear SL h5 hb5; go_wp2_with fail; refine C.out.mono ?_; rintro r w6 ⟨rfl, s6⟩; have bw2 := bw5.trans (s6.below _); have bx2 := bx2.later (s6.below _); have h2 := h2.below (s6.below _); clear C s6; generalize hw6 : w6 = w2 at *; clear hw6; go_wp2_with fail)
          (have bw3 := bw2; have bx3 := bx2; have MK := make false A2 n2 c2 X2 (e + k) w2 h2 (by omega) (by omega) (by omega) (hT.below bw2); rw [VX2.out, HO.out] at MK; have MK := Lib.hid MK; clear h2; refine MK.out.mono ?_; (rintro r w4 ⟨A4, n4, c4, rfl, hA, hb4⟩; have bx4 := bx3.later hb4; have bw4 := below_on bw3 hb4; obtain ⟨k0, k1, k2, f0, f1, f2⟩ := bx4.cell3; clear hb4; go_wp2_with fail; exact bodyPost_ret (v := .tuple #[.agg #[.bool (optD o).neg, .slice A4 n4 c4, .int .i64 (optD o).e], .bool o.isSome]) (by simp [results, Tryz.results101, go_sem, k0, k1, k2]) rfl (retD_set hA bx4 bw4 (Nat.le_refl _))))
        · (generalize ho : mkD true _ _ = o; have HO := Lib.hid ho; clear ho)
          (go_enter Tryz.func101, Tryz.ntmps101; go_wp2_with fail; refine (NB.out _ b0).mono ?_; rintro r w' ⟨rfl, rfl⟩; go_wp2_with fail; refine (SR.out _ b0).mono ?_; rintro r w2 ⟨A2, n2, c2, rfl, h2, hb2⟩; have bw2 := below_on b0 hb2; have bx2 := bx.later hb2; have l2 := h2.len; clear hb2 SR NB; generalize wd q = X2 at *; go_wp2_with fail)
          (have SL := shl A2 n2 c2 X2 (k : Int) w2 h2 (by omega) (by omega) (by omega); rw [shlI_eq (by omega) (by omega), Int.toNat_natCast, VX2.out] at SL; refine SL.mono ?_; rintro r w5 ⟨A5, n5, c5, rfl, h5, hb5⟩; have bw5 := below_on bw2 hb5; have bx2 := bx2.later hb5; have h2 := h2.below hb5; have C := ncmp A5 A n5 c5 n c _ xs w5 h5 (h.below bw5); rw [vsl, cf] at C; have C := Lib.hid C; clear SL h5 hb5; go_wp2_with fail; refine C.out.mono ?_; rintro r w6 ⟨rfl, s6⟩; have bw2 := bw5.trans (s6.below _); have bx2 := bx2.later (s6.below _); have h2 := h2.below (s6.below _); clear C s6; generalize hw6 : w6 = w2 at *; clear hw6; go_wp2_with fail)
          (have bw3 := bw2; have bx3 := bx2; have MK := make true A2 n2 c2 X2 (e + k) w2 h2 (by omega) (by omega) (by omega) (hT.below bw2); rw [VX2.out, HO.out] at MK; have MK := Lib.hid MK; clear h2; refine MK.out.mono ?_; (rintro r w4 ⟨A4, n4, c4, rfl, hA, hb4⟩; have bx4 := bx3.later hb4; have bw4 := below_on bw3 hb4; obtain ⟨k0, k1, k2, f0, f1, f2⟩ := bx4.cell3; clear hb4; go_wp2_with fail; exact bodyPost_ret (v := .tuple #[.agg #[.bool (optD o).neg, .slice A4 n4 c4, .int .i64 (optD o).e], .bool o.isSome]) (by simp [results, Tryz.results101, go_sem, k0, k1, k2]) rfl (retD_set hA bx4 bw4 (Nat.le_refl _))))
      · have d8 : decide (q * 2 ^ k ≠ val xs) = true := by simp [hne]
        have hle : q * 2 ^ k ≤ val xs := by rw [← hqe]; exact Int.ediv_mul_le _ (Int.ne_of_gt (pw_pos k))
        have cf := cmpI_lt (show q * 2 ^ k < val xs by omega)
        rw [d8]
        clear hqe d8 hne hle
        cases neg <;> cases up
        all_goals
          simp only [Bool.false_or, Bool.true_and, bne_self_eq_false, Bool.false_eq_true, if_false, if_true, show (true != false) = true from rfl, show (false != true) = true from rfl]
        · (generalize ho : mkD false _ _ = o; have HO := Lib.hid ho; clear ho)
          (go_enter Tryz.func101, Tryz.ntmps101; go_wp2_with fail; refine (NB.out _ b0).mono ?_; rintro r w' ⟨rfl, rfl⟩; go_wp2_with fail; refine (SR.out _ b0).mono ?_; rintro r w2 ⟨A2, n2, c2, rfl, h2, hb2⟩; have bw2 := below_on b0 hb2; have bx2 := bx.later hb2; have l2 := h2.len; clear hb2 SR NB; generalize wd q = X2 at *; go_wp2_with fail)
          (have SL := shl A2 n2 c2 X2 (k : Int) w2 h2 (by omega) (by omega) (by omega); rw [shlI_eq (by omega) (by omega), Int.toNat_natCast, VX2.out] at SL; refine SL.mono ?_; rintro r w5 ⟨A5, n5, c5, rfl, h5, hb5⟩; have bw5 := below_on bw2 hb5; have bx2 := bx2.later hb5; have h2 := h2.below hb5; have C := ncmp A5 A n5 c5 n c _ xs w5 h5 (h.below bw5); rw [vsl, cf] at C; have C := Lib.hid C; clear SL h5 hb5; go_wp2_with fail; refine C.out.mono ?_; rintro r w6 ⟨rfl, s6⟩; have bw2 := bw5.trans (s6.below _); have bx2 := bx2.later (s6.below _); have h2 := h2.below (s6.below _); clear C s6; generalize hw6 : w6 = w2 at *; clear hw6; go_wp2_with fail)
          (have bw3 := bw2; have bx3 := bx2; have MK := make false A2 n2 c2 X2 (e + k) w2 h2 (by omega) (by omega) (by omega) (hT.below bw2); rw [VX2.out, HO.out] at MK; have MK := Lib.hid MK; clear h2; refine MK.out.mono ?_; (rintro r w4 ⟨A4, n4, c4, rfl, hA, hb4⟩; have bx4 := bx3.later hb4; have bw4 := below_on bw3 hb4; obtain ⟨k0, k1, k2, f0, f1, f2⟩ := bx4.cell3; clear hb4; go_wp2_with fail; exact bodyPost_ret (v := .tuple #[.agg #[.bool (optD o).neg, .slice A4 n4 c4, .int .i64 (optD o).e], .bool o.isSome]) (by simp [results, Tryz.results101, go_sem, k0, k1, k2]) rfl (retD_set hA bx4 bw4 (Nat.le_refl _))))
        · (generalize ho : mkD false _ _ = o; have HO := Lib.hid ho; clear ho)
          (go_enter Tryz.func101, Tryz.ntmps101; go_wp2_with fail; refine (NB.out _ b0).mono ?_; rintro r w' ⟨rfl, rfl⟩; go_wp2_with fail; refine (SR.out _ b0).mono ?_; rintro r w2 ⟨A2, n2, c2, rfl, h2, hb2⟩; have bw2 := below_on b0 hb2; have bx2 := bx.later hb2; have l2 := h2.len; clear hb2 SR NB; generalize wd q = X2 at *; go_wp2_with fail)
          (have SL := shl A2 n2 c2 X2 (k : Int) w2 h2 (by omega) (by omega) (by omega); rw [shlI_eq (by omega) (by omega), Int.toNat_natCast, VX2.out] at SL; refine SL.mono ?_; rintro r w5 ⟨A5, n5, c5, rfl, h5, hb5⟩; have bw5 := below_on bw2 hb5; have bx2 := bx2.later hb5; have h2 := h2.below hb5; have C := ncmp A5 A n5 c5 n c _ xs w5 h5 (h.below bw5); rw [vsl, cf] at C; have C := Lib.hid C; clear SL h5 hb5; go_wp2_with fail; refine C.out.mono ?_; rintro r w6 ⟨rfl, s6⟩; have bw2 := bw5.trans (s6.below _); have bx2 := bx2.later (s6.below _); have h2 := h2.below (s6.below _); clear C s6; generalize hw6 : w6 = w2 at *; clear hw6; go_wp2_with fail)
          (have A1 := add A2 (some ⟨w2.heap.size, 0, none⟩) n2 c2 1 1 X2 [1] _ (h2.below (below_alloc (below_self w2) (.cells #[.int .u64 1] 51))) (arr_one (w := w2) rfl 1 (by decide) (by decide)) (by omega) (by decide); rw [VX2.out, val_one] at A1; refine A1.mono ?_; rintro r w3 ⟨A3, n3, c3, rfl, h3, hb3⟩; have hb23 := below_on (below_alloc (below_self w2) (.cells #[.int .u64 1] 51)) hb3; have bw3 := below_on bw2 hb23; have bx3 := bx2.later hb23; have l3 := h3.len; have MK := make false A3 n3 c3 _ (e + k) w3 h3.arr (by omega) (by omega) (by omega) (hT.below bw3); rw [V1.out, HO.out] at MK; have MK := Lib.hid MK; clear A1 h3 hb3 hb23 h2; go_wp2_with fail; refine MK.out.mono ?_; (rintro r w4 ⟨A4, n4, c4, rfl, hA, hb4⟩; have bx4 := bx3.later hb4; have bw4 := below_on bw3 hb4; obtain ⟨k0, k1, k2, f0, f1, f2⟩ := bx4.cell3; clear hb4; go_wp2_with fail; exact bodyPost_ret (v := .tuple #[.agg #[.bool (optD o).neg, .slice A4 n4 c4, .int .i64 (optD o).e], .bool o.isSome]) (by simp [results, Tryz.results101, go_sem, k0, k1, k2]) rfl (retD_set hA bx4 bw4 (Nat.le_refl _))))
        · (generalize ho : mkD true _ _ = o; have HO := Lib.hid ho; clear ho)
          (go_enter Tryz.func101, Tryz.ntmps101; go_wp2_with fail; refine (NB.out _ b0).mono ?_; rintro r w' ⟨rfl, rfl⟩; go_wp2_with fail; refine (SR.out _ b0).mono ?_; rintro r w2 ⟨A2, n2, c2, rfl, h2, hb2⟩; have bw2 := below_on b0 hb2; have bx2 := bx.later hb2; have l2 := h2.len; clear hb2 SR NB; generalize wd q = X2 at *; go_wp2_with fail)
          (have SL := shl A2 n2 c2 X2 (k : Int) w2 h2 (by omega) (by omega) (by omega); rw [shlI_eq (by omega) (by omega), Int.toNat_natCast, VX2.out] at SL; refine SL.mono ?_; rintro r w5 ⟨A5, n5, c5, rfl, h5, hb5⟩; have bw5 := below_on bw2 hb5; have bx2 := bx2.later hb5; have h2 := h2.below hb5; have C := ncmp A5 A n5 c5 n c _ xs w5 h5 (h.below bw5); rw [vsl, cf] at C; have C := Lib.hid C; clear SL h5 hb5; go_wp2_with fail; refine C.out.mono ?_; rintro r w6 ⟨rfl, s6⟩; have bw2 := bw5.trans (s6.below _); have bx2 := bx2.later (s6.below _); have h2 := h2.below (s6.below _); clear C s6; generalize hw6 : w6 = w2 at *; clear hw6; go_wp2_with fail)
          (have A1 := add A2 (some ⟨w2.heap.size, 0, none⟩) n2 c2 1 1 X2 [1] _ (h2.below (below_alloc (below_self w2) (.cells #[.int .u64 1] 51))) (arr_one (w := w2) rfl 1 (by decide) (by decide)) (by omega) (by decide); rw [VX2.out, val_one] at A1; refine A1.mono ?_; rintro r w3 ⟨A3, n3, c3, rfl, h3, hb3⟩; have hb23 := below_on (below_alloc (below_self w2) (.cells #[.int .u64 1] 51)) hb3; have bw3 := below_on bw2 hb23; have bx3 := bx2.later hb23; have l3 := h3.len; have MK := make true A3 n3 c3 _ (e + k) w3 h3.arr (by omega) (by omega) (by omega) (hT.below bw3); rw [V1.out, HO.out] at MK; have MK := Lib.hid MK; clear A1 h3 hb3 hb23 h2; go_wp2_with fail; refine MK.out.mono ?_; (rintro r w4 ⟨A4, n4, c4, rfl, hA, hb4⟩; have bx4 := bx3.later hb4; have bw4 := below_on bw3 hb4; obtain ⟨k0, k1, k2, f0, f1, f2⟩ := bx4.cell3; clear hb4; go_wp2_with fail; exact bodyPost_ret (v := .tuple #[.agg #[.bool (optD o).neg, .slice A4 n4 c4, .int .i64 (optD o).e], .bool o.isSome]) (by simp [results, Tryz.results101, go_sem, k0, k1, k2]) rfl (retD_set hA bx4 bw4 (Nat.le_refl _))))
        · (generalize ho : mkD true _ _ = o; have HO := Lib.hid ho; clear ho)
          (go_enter Tryz.func101, Tryz.ntmps101; go_wp2_with fail; refine (NB.out _ b0).mono ?_; rintro r w' ⟨rfl, rfl⟩; go_wp2_with fail; refine (SR.out _ b0).mono ?_; rintro r w2 ⟨A2, n2, c2, rfl, h2, hb2⟩; have bw2 := below_on b0 hb2; have bx2 := bx.later hb2; have l2 := h2.len; clear hb2 SR NB; generalize wd q = X2 at *; go_wp2_with fail)
          (have SL := shl A2 n2 c2 X2 (k : Int) w2 h2 (by omega) (by omega) (by omega); rw [shlI_eq (by omega) (by omega), Int.toNat_natCast, VX2.out] at SL; refine SL.mono ?_; rintro r w5 ⟨A5, n5, c5, rfl, h5, hb5⟩; have bw5 := below_on bw2 hb5; have bx2 := bx2.later hb5; have h2 := h2.below hb5; have C := ncmp A5 A n5 c5 n c _ xs w5 h5 (h.below bw5); rw [vsl, cf] at C; have C := Lib.hid C; clear SL h5 hb5; go_wp2_with fail; refine C.out.mono ?_; rintro r w6 ⟨rfl, s6⟩; have bw2 := bw5.trans (s6.below _); have bx2 := bx2.later (s6.below _); have h2 := h2.below (s6.below _); clear C s6; generalize hw6 : w6 = w2 at *; clear hw6; go_wp2_with fail)
          (have bw3 := bw2; have bx3 := bx2; have MK := make true A2 n2 c2 X2 (e + k) w2 h2 (by omega) (by omega) (by omega) (hT.below bw2); rw [VX2.out, HO.out] at MK; have MK := Lib.hid MK; clear h2; refine MK.out.mono ?_; (rintro r w4 ⟨A4, n4, c4, rfl, hA, hb4⟩; have bx4 := bx3.later hb4; have bw4 := below_on bw3 hb4; obtain ⟨k0, k1, k2, f0, f1, f2⟩ := bx4.cell3; clear hb4; go_wp2_with fail; exact bodyPost_ret (v := .tuple #[.agg #[.bool (optD o).neg, .slice A4 n4 c4, .int .i64 (optD o).e], .bool o.isSome]) (by simp [results, Tryz.results101, go_sem, k0, k1, k2]) rfl (retD_set hA bx4 bw4 (Nat.le_refl _))))
    · cases neg <;> cases up
      all_goals
        simp only [Bool.true_or, Bool.true_and, bne_self_eq_false, Bool.false_eq_true, if_false, if_true, show (true != false) = true from rfl, show (false != true) = true from rfl]
      · (generalize ho : mkD false _ _ = o; have HO := Lib.hid ho; clear ho)
        (go_enter Tryz.func101, Tryz.ntmps101; go_wp2_with fail; refine (NB.out _ b0).mono ?_; rintro r w' ⟨rfl, rfl⟩; go_wp2_with fail; refine (SR.out _ b0).mono ?_; rintro r w2 ⟨A2, n2, c2, rfl, h2, hb2⟩; have bw2 := below_on b0 hb2; have bx2 := bx.later hb2; have l2 := h2.len; clear hb2 SR NB; generalize wd q = X2 at *; go_wp2_with fail)
        (have bw3 := bw2; have bx3 := bx2; have MK := make false A2 n2 c2 X2 (e + k) w2 h2 (by omega) (by omega) (by omega) (hT.below bw2); rw [VX2.out, HO.out] at MK; have MK := Lib.hid MK; clear h2; refine MK.out.mono ?_; (rintro r w4 ⟨A4, n4, c4, rfl, hA, hb4⟩; have bx4 := bx3.later hb4; have bw4 := below_on bw3 hb4; obtain ⟨k0, k1, k2, f0, f1, f2⟩ := bx4.cell3; clear hb4; go_wp2_with fail; exact bodyPost_ret (v := .tuple #[.agg #[.bool (optD o).neg, .slice A4 n4 c4, .int .i64 (optD o).e], .bool o.isSome]) (by simp [results, Tryz.results101, go_sem, k0, k1, k2]) rfl (retD_set hA bx4 bw4 (Nat.le_refl _))))
      · (generalize ho : mkD false _ _ = o; have HO := Lib.hid ho; clear ho)
        (go_enter Tryz.func101, Tryz.ntmps101; go_wp2_with fail; refine (NB.out _ b0).mono ?_; rintro r w' ⟨rfl, rfl⟩; go_wp2_with fail; refine (SR.out _ b0).mono ?_; rintro r w2 ⟨A2, n2, c2, rfl, h2, hb2⟩; have bw2 := below_on b0 hb2; have bx2 := bx.later hb2; have l2 := h2.len; clear hb2 SR NB; generalize wd q = X2 at *; go_wp2_with fail)
        (have A1 := add A2 (some ⟨w2.heap.size, 0, none⟩) n2 c2 1 1 X2 [1] _ (h2.below (below_alloc (below_self w2) (.cells #[.int .u64 1] 51))) (arr_one (w := w2) rfl 1 (by decide) (by decide)) (by omega) (by decide); rw [VX2.out, val_one] at A1; refine A1.mono ?_; rintro r w3 ⟨A3, n3, c3, rfl, h3, hb3⟩; have hb23 := below_on (below_alloc (below_self w2) (.cells #[.int .u64 1] 51)) hb3; have bw3 := below_on bw2 hb23; have bx3 := bx2.later hb23; have l3 := h3.len; have MK := make false A3 n3 c3 _ (e + k) w3 h3.arr (by omega) (by omega) (by omega) (hT.below bw3); rw [V1.out, HO.out] at MK; have MK := Lib.hid MK; clear A1 h3 hb3 hb23 h2; go_wp2_with fail; refine MK.out.mono ?_; (rintro r w4 ⟨A4, n4, c4, rfl, hA, hb4⟩; have bx4 := bx3.later hb4; have bw4 := below_on bw3 hb4; obtain ⟨k0, k1, k2, f0, f1, f2⟩ := bx4.cell3; clear hb4; go_wp2_with fail; exact bodyPost_ret (v := .tuple #[.agg #[.bool (optD o).neg, .slice A4 n4 c4, .int .i64 (optD o).e], .bool o.isSome]) (by simp [results, Tryz.results101, go_sem, k0, k1, k2]) rfl (retD_set hA bx4 bw4 (Nat.le_refl _))))
      · (generalize ho : mkD true _ _ = o; have HO := Lib.hid ho; clear ho)
        (go_enter Tryz.func101, Tryz.ntmps101; go_wp2_with fail; refine (NB.out _ b0).mono ?_; rintro r w' ⟨rfl, rfl⟩; go_wp2_with fail; refine (SR.out _ b0).mono ?_; rintro r w2 ⟨A2, n2, c2, rfl, h2, hb2⟩; have bw2 := below_on b0 hb2; have bx2 := bx.later hb2; have l2 := h2.len; clear hb2 SR NB; generalize wd q = X2 at *; go_wp2_with fail)
        (have A1 := add A2 (some ⟨w2.heap.size, 0, none⟩) n2 c2 1 1 X2 [1] _ (h2.below (below_alloc (below_self w2) (.cells #[.int .u64 1] 51))) (arr_one (w := w2) rfl 1 (by decide) (by decide)) (by omega) (by decide); rw [VX2.out, val_one] at A1; refine A1.mono ?_; rintro r w3 ⟨A3, n3, c3, rfl, h3, hb3⟩; have hb23 := below_on (below_alloc (below_self w2) (.cells #[.int .u64 1] 51)) hb3; have bw3 := below_on bw2 hb23; have bx3 := bx2.later hb23; have l3 := h3.len; have MK := make true A3 n3 c3 _ (e + k) w3 h3.arr (by omega) (by omega) (by omega) (hT.below bw3); rw [V1.out, HO.out] at MK; have MK := Lib.hid MK; clear A1 h3 hb3 hb23 h2; go_wp2_with fail; refine MK.out.mono ?_; (rintro r w4 ⟨A4, n4, c4, rfl, hA, hb4⟩; have bx4 := bx3.later hb4; have bw4 := below_on bw3 hb4; obtain ⟨k0, k1, k2, f0, f1, f2⟩ := bx4.cell3; clear hb4; go_wp2_with fail; exact bodyPost_ret (v := .tuple #[.agg #[.bool (optD o).neg, .slice A4 n4 c4, .int .i64 (optD o).e], .bool o.isSome]) (by simp [results, Tryz.results101, go_sem, k0, k1, k2]) rfl (retD_set hA bx4 bw4 (Nat.le_refl _))))
      · (generalize ho : mkD true _ _ = o; have HO := Lib.hid ho; clear ho)
        (go_enter Tryz.func101, Tryz.ntmps101; go_wp2_with fail; refine (NB.out _ b0).mono ?_; rintro r w' ⟨rfl, rfl⟩; go_wp2_with fail; refine (SR.out _ b0).mono ?_; rintro r w2 ⟨A2, n2, c2, rfl, h2, hb2⟩; have bw2 := below_on b0 hb2; have bx2 := bx.later hb2; have l2 := h2.len; clear hb2 SR NB; generalize wd q = X2 at *; go_wp2_with fail)
        (have bw3 := bw2; have bx3 := bx2; have MK := make true A2 n2 c2 X2 (e + k) w2 h2 (by omega) (by omega) (by omega) (hT.below bw2); rw [VX2.out, HO.out] at MK; have MK := Lib.hid MK; clear h2; refine MK.out.mono ?_; (rintro r w4 ⟨A4, n4, c4, rfl, hA, hb4⟩; have bx4 := bx3.later hb4; have bw4 := below_on bw3 hb4; obtain ⟨k0, k1, k2, f0, f1, f2⟩ := bx4.cell3; clear hb4; go_wp2_with fail; exact bodyPost_ret (v := .tuple #[.agg #[.bool (optD o).neg, .slice A4 n4 c4, .int .i64 (optD o).e], .bool o.isSome]) (by simp [results, Tryz.results101, go_sem, k0, k1, k2]) rfl (retD_set hA bx4 bw4 (Nat.le_refl _))))
  · unfold cutQ cutR
    rw [if_neg hk, if_neg hk, decide_eq_false hk]
    have dk : decide (bl (val xs) - p > 0) = false := by simp; omega
    have lq1 := add_len hwf (k := 16000) (by omega) (by omega)
    obtain ⟨vv, ev⟩ : ∃ vv, val xs = vv := ⟨_, rfl⟩
    rw [ev] at hv NB hb0 hb1 hk dk lq1 ⊢
    have VX2 : Hid (val xs = vv) := ev
    have V1 : Hid (val (wd (vv + 1)) = vv + 1) := val_wd _ (by omega)
    clear ev hlen
    obtain ⟨A2, q1⟩ : ∃ A2, A2 = A := ⟨A, rfl⟩
    obtain ⟨n2, q2⟩ : ∃ n2, n2 = n := ⟨n, rfl⟩
    obtain ⟨c2, q3⟩ : ∃ c2, c2 = c := ⟨c, rfl⟩
    obtain ⟨X2, q4⟩ : ∃ X2, X2 = xs := ⟨xs, rfl⟩
    subst q1 q2 q3 q4
    cases rest
    · simp only [Bool.false_and, Bool.or_false, Bool.false_eq_true, if_false]
      cases neg
      · (generalize ho : mkD false _ _ = o; have HO := Lib.hid ho; clear ho)
        (go_enter Tryz.func101, Tryz.ntmps101; go_wp2_with fail; refine (NB.out _ b0).mono ?_; rintro r w' ⟨rfl, rfl⟩; have bw2 := b0; have bx2 := bx; have h2 := h.below b0; clear NB; generalize (w.alloc (.cells #[.bool false, .slice none 0 0, .int .i64 0] 26)) = w2 at *; go_wp2_with fail)
        (have bw3 := bw2; have bx3 := bx2; have MK := make false A2 n2 c2 X2 (e) w2 h2 (by omega) (by omega) (by omega) (hT.below bw2); rw [VX2.out, HO.out] at MK; have MK := Lib.hid MK; clear h2; refine MK.out.mono ?_; (rintro r w4 ⟨A4, n4, c4, rfl, hA, hb4⟩; have bx4 := bx3.later hb4; have bw4 := below_on bw3 hb4; obtain ⟨k0, k1, k2, f0, f1, f2⟩ := bx4.cell3; clear hb4; go_wp2_with fail; exact bodyPost_ret (v := .tuple #[.agg #[.bool (optD o).neg, .slice A4 n4 c4, .int .i64 (optD o).e], .bool o.isSome]) (by simp [results, Tryz.results101, go_sem, k0, k1, k2]) rfl (retD_set hA bx4 bw4 (Nat.le_refl _))))
      · (generalize ho : mkD true _ _ = o; have HO := Lib.hid ho; clear ho)
        (go_enter Tryz.func101, Tryz.ntmps101; go_wp2_with fail; refine (NB.out _ b0).mono ?_; rintro r w' ⟨rfl, rfl⟩; have bw2 := b0; have bx2 := bx; have h2 := h.below b0; clear NB; generalize (w.alloc (.cells #[.bool false, .slice none 0 0, .int .i64 0] 26)) = w2 at *; go_wp2_with fail)
        (have bw3 := bw2; have bx3 := bx2; have MK := make true A2 n2 c2 X2 (e) w2 h2 (by omega) (by omega) (by omega) (hT.below bw2); rw [VX2.out, HO.out] at MK; have MK := Lib.hid MK; clear h2; refine MK.out.mono ?_; (rintro r w4 ⟨A4, n4, c4, rfl, hA, hb4⟩; have bx4 := bx3.later hb4; have bw4 := below_on bw3 hb4; obtain ⟨k0, k1, k2, f0, f1, f2⟩ := bx4.cell3; clear hb4; go_wp2_with fail; exact bodyPost_ret (v := .tuple #[.agg #[.bool (optD o).neg, .slice A4 n4 c4, .int .i64 (optD o).e], .bool o.isSome]) (by simp [results, Tryz.results101, go_sem, k0, k1, k2]) rfl (retD_set hA bx4 bw4 (Nat.le_refl _))))
    · cases neg <;> cases up
      all_goals
        simp only [Bool.true_or, Bool.true_and, bne_self_eq_false, Bool.false_eq_true, if_false, if_true, show (true != false) = true from rfl, show (false != true) = true from rfl]
      · (generalize ho : mkD false _ _ = o; have HO := Lib.hid ho; clear ho)
        (go_enter Tryz.func101, Tryz.ntmps101; go_wp2_with fail; refine (NB.out _ b0).mono ?_; rintro r w' ⟨rfl, rfl⟩; have bw2 := b0; have bx2 := bx; have h2 := h.below b0; clear NB; generalize (w.alloc (.cells #[.bool false, .slice none 0 0, .int .i64 0] 26)) = w2 at *; go_wp2_with fail)
        (have bw3 := bw2; have bx3 := bx2; have MK := make false A2 n2 c2 X2 (e) w2 h2 (by omega) (by omega) (by omega) (hT.below bw2); rw [VX2.out, HO.out] at MK; have MK := Lib.hid MK; clear h2; refine MK.out.mono ?_; (rintro r w4 ⟨A4, n4, c4, rfl, hA, hb4⟩; have bx4 := bx3.later hb4; have bw4 := below_on bw3 hb4; obtain ⟨k0, k1, k2, f0, f1, f2⟩ := bx4.cell3; clear hb4; go_wp2_with fail; exact bodyPost_ret (v := .tuple #[.agg #[.bool (optD o).neg, .slice A4 n4 c4, .int .i64 (optD o).e], .bool o.isSome]) (by simp [results, Tryz.results101, go_sem, k0, k1, k2]) rfl (retD_set hA bx4 bw4 (Nat.le_refl _))))
      · (generalize ho : mkD false _ _ = o; have HO := Lib.hid ho; clear ho)
        (go_enter Tryz.func101, Tryz.ntmps101; go_wp2_with fail; refine (NB.out _ b0).mono ?_; rintro r w' ⟨rfl, rfl⟩; have bw2 := b0; have bx2 := bx; have h2 := h.below b0; clear NB; generalize (w.alloc (.cells #[.bool false, .slice none 0 0, .int .i64 0] 26)) = w2 at *; go_wp2_with fail)
        (have A1 := add A2 (some ⟨w2.heap.size, 0, none⟩) n2 c2 1 1 X2 [1] _ (h2.below (below_alloc (below_self w2) (.cells #[.int .u64 1] 51))) (arr_one (w := w2) rfl 1 (by decide) (by decide)) (by omega) (by decide); rw [VX2.out, val_one] at A1; refine A1.mono ?_; rintro r w3 ⟨A3, n3, c3, rfl, h3, hb3⟩; have hb23 := below_on (below_alloc (below_self w2) (.cells #[.int .u64 1] 51)) hb3; have bw3 := below_on bw2 hb23; have bx3 := bx2.later hb23; have l3 := h3.len; have MK := make false A3 n3 c3 _ (e) w3 h3.arr (by omega) (by omega) (by omega) (hT.below bw3); rw [V1.out, HO.out] at MK; have MK := Lib.hid MK; clear A1 h3 hb3 hb23 h2; go_wp2_with fail; refine MK.out.mono ?_; (rintro r w4 ⟨A4, n4, c4, rfl, hA, hb4⟩; have bx4 := bx3.later hb4; have bw4 := below_on bw3 hb4; obtain ⟨k0, k1, k2, f0, f1, f2⟩ := bx4.cell3; clear hb4; go_wp2_with fail; exact bodyPost_ret (v := .tuple #[.agg #[.bool (optD o).neg, .slice A4 n4 c4, .int .i64 (optD o).e], .bool o.isSome]) (by simp [results, Tryz.results101, go_sem, k0, k1, k2]) rfl (retD_set hA bx4 bw4 (Nat.le_refl _))))
      · (generalize ho : mkD true _ _ = o; have HO := Lib.hid ho; clear ho)
        (go_enter Tryz.func101, Tryz.ntmps101; go_wp2_with fail; refine (NB.out _ b0).mono ?_; rintro r w' ⟨rfl, rfl⟩; have bw2 := b0; have bx2 := bx; have h2 := h.below b0; clear NB; generalize (w.alloc (.cells #[.bool false, .slice none 0 0, .int .i64 0] 26)) = w2 at *; go_wp2_with fail)
        (have A1 := add A2 (some ⟨w2.heap.size, 0, none⟩) n2 c2 1 1 X2 [1] _ (h2.below (below_alloc (below_self w2) (.cells #[.int .u64 1] 51))) (arr_one (w := w2) rfl 1 (by decide) (by decide)) (by omega) (by decide); rw [VX2.out, val_one] at A1; refine A1.mono ?_; rintro r w3 ⟨A3, n3, c3, rfl, h3, hb3⟩; have hb23 := below_on (below_alloc (below_self w2) (.cells #[.int .u64 1] 51)) hb3; have bw3 := below_on bw2 hb23; have bx3 := bx2.later hb23; have l3 := h3.len; have MK := make true A3 n3 c3 _ (e) w3 h3.arr (by omega) (by omega) (by omega) (hT.below bw3); rw [V1.out, HO.out] at MK; have MK := Lib.hid MK; clear A1 h3 hb3 hb23 h2; go_wp2_with fail; refine MK.out.mono ?_; (rintro r w4 ⟨A4, n4, c4, rfl, hA, hb4⟩; have bx4 := bx3.later hb4; have bw4 := below_on bw3 hb4; obtain ⟨k0, k1, k2, f0, f1, f2⟩ := bx4.cell3; clear hb4; go_wp2_with fail; exact bodyPost_ret (v := .tuple #[.agg #[.bool (optD o).neg, .slice A4 n4 c4, .int .i64 (optD o).e], .bool o.isSome]) (by simp [results, Tryz.results101, go_sem, k0, k1, k2]) rfl (retD_set hA bx4 bw4 (Nat.le_refl _))))
      · (generalize ho : mkD true _ _ = o; have HO := Lib.hid ho; clear ho)
        (go_enter Tryz.func101, Tryz.ntmps101; go_wp2_with fail; refine (NB.out _ b0).mono ?_; rintro r w' ⟨rfl, rfl⟩; have bw2 := b0; have bx2 := bx; have h2 := h.below b0; clear NB; generalize (w.alloc (.cells #[.bool false, .slice none 0 0, .int .i64 0] 26)) = w2 at *; go_wp2_with fail)
        (have bw3 := bw2; have bx3 := bx2; have MK := make true A2 n2 c2 X2 (e) w2 h2 (by omega) (by omega) (by omega) (hT.below bw2); rw [VX2.out, HO.out] at MK; have MK := Lib.hid MK; clear h2; refine MK.out.mono ?_; (rintro r w4 ⟨A4, n4, c4, rfl, hA, hb4⟩; have bx4 := bx3.later hb4; have bw4 := below_on bw3 hb4; obtain ⟨k0, k1, k2, f0, f1, f2⟩ := bx4.cell3; clear hb4; go_wp2_with fail; exact bodyPost_ret (v := .tuple #[.agg #[.bool (optD o).neg, .slice A4 n4 c4, .int .i64 (optD o).e], .bool o.isSome]) (by simp [results, Tryz.results101, go_sem, k0, k1, k2]) rfl (retD_set hA bx4 bw4 (Nat.le_refl _))))
end Go.Proofs.YteffemhapnbaeaaGreatDoor
namespace Go.Proofs.YteffemhapnbaeaaGreatDoor
open Go.RowKit Num
set_option maxRecDepth 100000

def overK (x y P : Int) : Nat := (max 0 (P + 2 + bl y - bl x)).toNat
def overD (p q : Bool) (xs ys : List Int) (e f P : Int) (up : Bool) : Option Dy :=
  if plainB p xs e && plainB q ys f && rightB P && decide (ys.length ≠ 0) then
    cutD (p != q) (val xs * 2 ^ overK (val xs) (val ys) P / val ys) (e - f - overK (val xs) (val ys) P) (decide (val xs * 2 ^ overK (val xs) (val ys) P % val ys ≠ 0)) P up
  else none
/-- Two numbers' boxes and the result's. -/
structure Three (w3 : World) (k : Nat) (p q : Bool) (A A' : Option Addr) (n c n' c' : Nat) (e f : Int) : Prop where
  two : Two w3 k p q A A' n c n' c' e f
  res : Box w3 (k + 1 + 1) #[.bool false, .slice none 0 0, .int .i64 0] 26
set_option maxHeartbeats 4000000 in
theorem dover (p q : Bool) (A A' : Option Addr) (n c n' c' : Nat) (xs ys : List Int) (e f P : Int) (up : Bool) (w : World) (h : Arr w A n c xs) (h' : Arr w A' n' c' ys) (hT : Tz w) :
    Calls Tryz.prog 65 #[.agg #[.bool p, .slice A n c, .int .i64 e], .agg #[.bool q, .slice A' n' c', .int .i64 f], .int .i64 P, .bool up] w (RetD (overD p q xs ys e f P up) w) := by
  have b1 : Below w.heap.size w (((w.alloc (.cells #[.bool p, .slice A n c, .int .i64 e] 26)).alloc (.cells #[.bool q, .slice A' n' c', .int .i64 f] 26)).alloc (.cells #[.bool false, .slice none 0 0, .int .i64 0] 26)) := below_alloc (below_alloc (below_alloc (below_self w) _) _) _
  have H := h.below b1
  have H' := h'.below b1
  have DVV := dvs_two p q A A' n c n' c' xs ys e f H H' 26
  have hsz : (((w.alloc (.cells #[.bool p, .slice A n c, .int .i64 e] 26)).alloc (.cells #[.bool q, .slice A' n' c', .int .i64 f] 26)).alloc (.cells #[.bool false, .slice none 0 0, .int .i64 0] 26)).heap.size = w.heap.size + 1 + 1 + 1 := by simp
  rw [hsz] at DVV
  have bW := below_alloc (below_self (((w.alloc (.cells #[.bool p, .slice A n c, .int .i64 e] 26)).alloc (.cells #[.bool q, .slice A' n' c', .int .i64 f] 26)).alloc (.cells #[.bool false, .slice none 0 0, .int .i64 0] 26))) (.cells #[.bool p, .slice A n c, .int .i64 e, .bool q, .slice A' n' c', .int .i64 f] 26)
  have b2 := below_on b1 bW
  have PL := Lib.hid (dplain _ 2 _ rfl _ DVV (by decide))
  have bx := box_new w #[.bool p, .slice A n c, .int .i64 e] 26
  have bx := bx.later (below_alloc (below_self _) (.cells #[.bool q, .slice A' n' c', .int .i64 f] 26))
  have bx := bx.later (below_alloc (below_self _) (.cells #[.bool false, .slice none 0 0, .int .i64 0] 26))
  have by1 := box_new (w.alloc (.cells #[.bool p, .slice A n c, .int .i64 e] 26)) #[.bool q, .slice A' n' c', .int .i64 f] 26
  have by1 := by1.later (below_alloc (below_self _) (.cells #[.bool false, .slice none 0 0, .int .i64 0] 26))
  rw [show (w.alloc (.cells #[.bool p, .slice A n c, .int .i64 e] 26)).heap.size = w.heap.size + 1 by simp] at by1
  have br := box_new ((w.alloc (.cells #[.bool p, .slice A n c, .int .i64 e] 26)).alloc (.cells #[.bool q, .slice A' n' c', .int .i64 f] 26)) #[.bool false, .slice none 0 0, .int .i64 0] 26
  rw [show ((w.alloc (.cells #[.bool p, .slice A n c, .int .i64 e] 26)).alloc (.cells #[.bool q, .slice A' n' c', .int .i64 f] 26)).heap.size = w.heap.size + 1 + 1 by simp] at br
  have KW : ∀ w3, Below ((((w.alloc (.cells #[.bool p, .slice A n c, .int .i64 e] 26)).alloc (.cells #[.bool q, .slice A' n' c', .int .i64 f] 26)).alloc (.cells #[.bool false, .slice none 0 0, .int .i64 0] 26)).alloc (.cells #[.bool p, .slice A n c, .int .i64 e, .bool q, .slice A' n' c', .int .i64 f] 26)).heap.size ((((w.alloc (.cells #[.bool p, .slice A n c, .int .i64 e] 26)).alloc (.cells #[.bool q, .slice A' n' c', .int .i64 f] 26)).alloc (.cells #[.bool false, .slice none 0 0, .int .i64 0] 26)).alloc (.cells #[.bool p, .slice A n c, .int .i64 e, .bool q, .slice A' n' c', .int .i64 f] 26)) w3 → Three w3 w.heap.size p q A A' n c n' c' e f :=
    fun w3 hb => ⟨⟨(bx.later (below_on bW hb)).cell3, (by1.later (below_on bW hb)).cell3⟩, br.later (below_on bW hb)⟩
  have KW := Lib.hid KW
  have ea : [DV.mk p A n c xs e, DV.mk q A' n' c' ys f].all DV.plain = (plainB p xs e && plainB q ys f) := by simp [DV.plain]
  rw [ea] at PL
  obtain ⟨k0, k1, k2, f0, f1, f2⟩ := bx.cell3
  obtain ⟨j0, j1, j2, g0, g1, g2⟩ := by1.cell3
  clear ea bx by1 br DVV hsz
  cases hpl : plainB p xs e && plainB q ys f
  · rw [hpl] at PL
    have er : overD p q xs ys e f P up = none := by unfold overD; rw [hpl]; rfl
    rw [er]
    clear er
    go_enter Tryz.func65, Tryz.ntmps65
    go_wp2_with fail
    refine PL.out.mono ?_; rintro r w3 ⟨rfl, hb3⟩
    have hw3 := below_on b2 hb3
    have br3 := (KW.out w3 hb3).res
    obtain ⟨z0, z1, z2, y0, y1, y2⟩ := br3.cell3
    go_wp2_with fail
    (refine bodyPost_ret (v := .tuple #[.agg #[.bool false, .slice none 0 0, .int .i64 0], .bool false]) (by simp [results, Tryz.results65, go_sem, z0, z1, z2]) rfl ?_; exact retD_set (o := none) (arr_no _) br3 hw3 (by omega))
  · rw [hpl] at PL
    have BR := Lib.hid (fun w => bright P w)
    rw [Bool.and_eq_true] at hpl
    have hp1 := hpl.1
    have hp2 := hpl.2
    obtain ⟨pd1, l1, -, v1⟩ := plainB_parts h.wf hp1
    obtain ⟨pd2, l2, -, v2⟩ := plainB_parts h'.wf hp2
    have hl := h.len
    have hl' := h'.len
    have he := pd1.lo
    have he' := pd1.hi
    have hf := pd2.lo
    have hf' := pd2.hi
    simp only at he he' hf hf'
    by_cases hR : rightB P = true
    · by_cases hn0 : n' = 0
      · have er : overD p q xs ys e f P up = none := by unfold overD; rw [hp1, hp2, hR, hl', hn0]; rfl
        rw [er]
        rw [hR] at BR
        clear er
        subst hn0
        go_enter Tryz.func65, Tryz.ntmps65
        go_wp2_with fail
        refine PL.out.mono ?_; rintro r w3 ⟨rfl, hb3⟩
        have hw3 := below_on b2 hb3
        have hK := KW.out w3 hb3
        obtain ⟨⟨⟨k0', k1', k2', f0', f1', f2'⟩, ⟨j0', j1', j2', g0', g1', g2'⟩⟩, br3⟩ := hK
        obtain ⟨z0, z1, z2, y0, y1, y2⟩ := br3.cell3
        clear k0 k1 k2 f0 f1 f2 j0 j1 j2 g0 g1 g2
        go_wp2_with fail
        refine (BR.out _).mono ?_; rintro r w' ⟨rfl, rfl⟩
        go_wp2_with fail
        all_goals (refine bodyPost_ret (v := .tuple #[.agg #[.bool false, .slice none 0 0, .int .i64 0], .bool false]) (by simp [results, Tryz.results65, go_sem, z0, z1, z2]) rfl ?_; exact retD_set (o := none) (arr_no _) br3 hw3 (by omega))
      · have hyp := v2 (by omega)
        have nx : 0 ≤ val xs := h.val_nonneg
        have hkb0 := bl_nonneg (val xs)
        have hkb1 := bl_lt (v := val xs) (a := 64 * n) nx (by rw [← B_pow_pw, ← h.len]; exact val_lt h.wf)
        have hkc0 := bl_nonneg (val ys)
        have hkc1 := bl_lt (v := val ys) (a := 64 * n') (by omega) (by rw [← B_pow_pw, ← h'.len]; exact val_lt h'.wf)
        have hPr : 1 ≤ P ∧ P ≤ 8192 := by unfold rightB at hR; simpa using hR
        have er : overD p q xs ys e f P up = cutD (p != q) (val xs * 2 ^ overK (val xs) (val ys) P / val ys) (e - f - overK (val xs) (val ys) P) (decide (val xs * 2 ^ overK (val xs) (val ys) P % val ys ≠ 0)) P up := by
          unfold overD
          rw [hp1, hp2, hR, if_pos (by simp [hl', hn0])]
        rw [er]
        rw [hR] at BR
        clear er
        have hk : max 0 (P + 2 + bl (val ys) - bl (val xs)) = ((overK (val xs) (val ys) P : Nat) : Int) := by unfold overK; omega
        have hkk : overK (val xs) (val ys) P ≤ 30000 := by omega
        generalize overK (val xs) (val ys) P = kk at *
        have hN0 : 0 ≤ val xs * 2 ^ kk := Int.mul_nonneg nx (Int.le_of_lt (pw_pos kk))
        have hNl : (wd (val xs * 2 ^ kk)).length ≤ 800 := by
          refine wd_length_le hN0 ?_
          have a1 : val xs < pw (64 * 256) := by
            rw [← B_pow_pw]
            exact Int.lt_of_lt_of_le (val_lt h.wf) (B_pow_le l1)
          have a2 : val xs * pw kk < pw (64 * 256) * pw kk := Int.mul_lt_mul_of_pos_right a1 (pw_pos kk)
          rw [← pw_add] at a2
          rw [B_pow_pw]
          exact Int.lt_of_lt_of_le a2 (pw_le (by omega))
        have vN := val_wd _ hN0
        have hq0 : 0 ≤ val xs * 2 ^ kk / val ys := Int.ediv_nonneg hN0 (by omega)
        have lq : (wd (val xs * 2 ^ kk / val ys)).length ≤ 800 := wd_length_le hq0 (Int.lt_of_le_of_lt (Int.ediv_le_self _ hN0) (lt_pow_of_wd_length hN0 hNl))
        have vq := val_wd _ hq0
        have hr0 : 0 ≤ val xs * 2 ^ kk % val ys := Int.emod_nonneg _ (by omega)
        have NX := Lib.hid (fun w1 hb => nbits A n c xs w1 (H.below (below_on bW hb)) (by omega))
        have NY := Lib.hid (fun w1 hb => nbits A' n' c' ys w1 (H'.below (below_on bW hb)) (by omega))
        have SX : ∀ (w1 : World) (hb : Below ((((w.alloc (.cells #[.bool p, .slice A n c, .int .i64 e] 26)).alloc (.cells #[.bool q, .slice A' n' c', .int .i64 f] 26)).alloc (.cells #[.bool false, .slice none 0 0, .int .i64 0] 26)).alloc (.cells #[.bool p, .slice A n c, .int .i64 e, .bool q, .slice A' n' c', .int .i64 f] 26)).heap.size ((((w.alloc (.cells #[.bool p, .slice A n c, .int .i64 e] 26)).alloc (.cells #[.bool q, .slice A' n' c', .int .i64 f] 26)).alloc (.cells #[.bool false, .slice none 0 0, .int .i64 0] 26)).alloc (.cells #[.bool p, .slice A n c, .int .i64 e, .bool q, .slice A' n' c', .int .i64 f] 26)) w1), Calls Tryz.prog 100 #[.slice A n c, .int .i64 (kk : Int)] w1 fun r w5 => ∃ A5 n5 c5, r = .returned (.slice A5 n5 c5) ∧ Arr w5 A5 n5 c5 (wd (val xs * 2 ^ kk)) ∧ Below ((((w.alloc (.cells #[.bool p, .slice A n c, .int .i64 e] 26)).alloc (.cells #[.bool q, .slice A' n' c', .int .i64 f] 26)).alloc (.cells #[.bool false, .slice none 0 0, .int .i64 0] 26)).alloc (.cells #[.bool p, .slice A n c, .int .i64 e, .bool q, .slice A' n' c', .int .i64 f] 26)).heap.size ((((w.alloc (.cells #[.bool p, .slice A n c, .int .i64 e] 26)).alloc (.cells #[.bool q, .slice A' n' c', .int .i64 f] 26)).alloc (.cells #[.bool false, .slice none 0 0, .int .i64 0] 26)).alloc (.cells #[.bool p, .slice A n c, .int .i64 e, .bool q, .slice A' n' c', .int .i64 f] 26)) w5 := by
          intro w1 hb
          have S := shl A n c xs (kk : Int) w1 (H.below (below_on bW hb)) (by omega) (by omega) (by omega)
          rw [shlI_eq (by omega) (by omega), Int.toNat_natCast] at S
          refine S.mono ?_
          rintro r w5 ⟨A5, n5, c5, rfl, ha, hb5⟩
          exact ⟨A5, n5, c5, rfl, ha, below_on hb hb5⟩
        have SX := Lib.hid SX
        have DM : ∀ (A5 : Option Addr) (n5 c5 : Nat) (w1 : World) (ha : Arr w1 A5 n5 c5 (wd (val xs * 2 ^ kk))) (hb : Below ((((w.alloc (.cells #[.bool p, .slice A n c, .int .i64 e] 26)).alloc (.cells #[.bool q, .slice A' n' c', .int .i64 f] 26)).alloc (.cells #[.bool false, .slice none 0 0, .int .i64 0] 26)).alloc (.cells #[.bool p, .slice A n c, .int .i64 e, .bool q, .slice A' n' c', .int .i64 f] 26)).heap.size ((((w.alloc (.cells #[.bool p, .slice A n c, .int .i64 e] 26)).alloc (.cells #[.bool q, .slice A' n' c', .int .i64 f] 26)).alloc (.cells #[.bool false, .slice none 0 0, .int .i64 0] 26)).alloc (.cells #[.bool p, .slice A n c, .int .i64 e, .bool q, .slice A' n' c', .int .i64 f] 26)) w1), Calls Tryz.prog 99 #[.slice A5 n5 c5, .slice A' n' c'] w1 fun r w6 => ∃ A6 n6 c6 A7 n7 c7, r = .returned (.tuple #[.slice A6 n6 c6, .slice A7 n7 c7, .bool true]) ∧ Arr w6 A6 n6 c6 (wd (val xs * 2 ^ kk / val ys)) ∧ Arr w6 A7 n7 c7 (wd (val xs * 2 ^ kk % val ys)) ∧ Below ((((w.alloc (.cells #[.bool p, .slice A n c, .int .i64 e] 26)).alloc (.cells #[.bool q, .slice A' n' c', .int .i64 f] 26)).alloc (.cells #[.bool false, .slice none 0 0, .int .i64 0] 26)).alloc (.cells #[.bool p, .slice A n c, .int .i64 e, .bool q, .slice A' n' c', .int .i64 f] 26)).heap.size ((((w.alloc (.cells #[.bool p, .slice A n c, .int .i64 e] 26)).alloc (.cells #[.bool q, .slice A' n' c', .int .i64 f] 26)).alloc (.cells #[.bool false, .slice none 0 0, .int .i64 0] 26)).alloc (.cells #[.bool p, .slice A n c, .int .i64 e, .bool q, .slice A' n' c', .int .i64 f] 26)) w6 := by
          intro A5 n5 c5 w1 ha hb
          have D := divmod A5 A' n5 c5 n' c' _ ys w1 ha (H'.below (below_on bW hb)) (by rw [← ha.len]; omega)
          unfold RetDM divI modI at D
          rw [vN, if_neg (by omega), if_neg (by omega), decide_eq_true hyp.1] at D
          refine D.mono ?_
          rintro r w6 ⟨A6, n6, c6, A7, n7, c7, rfl, h6, h7, hb6⟩
          exact ⟨A6, n6, c6, A7, n7, c7, rfl, h6, h7, below_on hb hb6⟩
        have DM := Lib.hid DM
        have KS := Lib.hid (fun w1 hb => (KW.out w1 hb).two)
        have rz : Hid ((wd (val xs * 2 ^ kk % val ys)).length = 0 ∧ decide (val xs * 2 ^ kk % val ys ≠ 0) = false ∨ 0 < (wd (val xs * 2 ^ kk % val ys)).length ∧ decide (val xs * 2 ^ kk % val ys ≠ 0) = true) := by
          show _ ∨ _
          by_cases hz : val xs * 2 ^ kk % val ys = 0
          · left; rw [hz, wd_zero (Int.le_refl _)]; exact ⟨rfl, by simp⟩
          · right; exact ⟨List.length_pos_iff.2 (wd_ne_nil (by omega)), by simp [hz]⟩
        generalize decide (val xs * 2 ^ kk % val ys ≠ 0) = rest at *
        have W1 : IntKind.i64.wrap (P + 2) = P + 2 := by rw [IntKind.wrap_i64]; omega
        have W2 : IntKind.i64.wrap (P + 2 + bl (val ys)) = P + 2 + bl (val ys) := by rw [IntKind.wrap_i64]; omega
        have W3 : IntKind.i64.wrap (P + 2 + bl (val ys) - bl (val xs)) = P + 2 + bl (val ys) - bl (val xs) := by rw [IntKind.wrap_i64]; omega
        have hlA := h.len
        clear hl hl' v1 v2 pd1 pd2 hyp nx hN0 vN hr0 h h' H H' hR hp1 hp2 hpl
        generalize bl (val xs) = bx at *
        generalize bl (val ys) = by1 at *
        go_enter Tryz.func65, Tryz.ntmps65
        go_wp2_with fail
        refine PL.out.mono ?_; rintro r w3 ⟨rfl, hb3⟩
        have hw3 := below_on b2 hb3
        have hK := KW.out w3 hb3
        obtain ⟨⟨⟨k0', k1', k2', f0', f1', f2'⟩, ⟨j0', j1', j2', g0', g1', g2'⟩⟩, br3⟩ := hK
        clear k0 k1 k2 f0 f1 f2 j0 j1 j2 g0 g1 g2
        go_wp2_with fail
        refine (BR.out _).mono ?_; rintro r w' ⟨rfl, rfl⟩
        go_wp2_with fail
        go_region_held3 (fun w' => ((w'.cell? ⟨w.heap.size, 0, none⟩ = some (.bool p) ∧ w'.cell? ⟨w.heap.size, 1, none⟩ = some (.slice A n c) ∧ w'.cell? ⟨w.heap.size, 2, none⟩ = some (.int .i64 e) ∧ w'.frozen? ⟨w.heap.size, 0, none⟩ = false ∧ w'.frozen? ⟨w.heap.size, 1, none⟩ = false ∧ w'.frozen? ⟨w.heap.size, 2, none⟩ = false) ∧ (w'.cell? ⟨w.heap.size + 1, 0, none⟩ = some (.bool q) ∧ w'.cell? ⟨w.heap.size + 1, 1, none⟩ = some (.slice A' n' c') ∧ w'.cell? ⟨w.heap.size + 1, 2, none⟩ = some (.int .i64 f) ∧ w'.frozen? ⟨w.heap.size + 1, 0, none⟩ = false ∧ w'.frozen? ⟨w.heap.size + 1, 1, none⟩ = false ∧ w'.frozen? ⟨w.heap.size + 1, 2, none⟩ = false))) (first | exact KS.out _ ((by repeat (first | with_reducible assumption | with_reducible exact below_self _ | with_reducible refine below_drewN ?_ _ | with_reducible apply Below.drew | with_reducible refine below_alloc ?_ _)))) (first | (go_at_call_of 98 (Value.slice A' n' c'); refine (NY.out _ ?_).mono ?_; (repeat (first | with_reducible assumption | with_reducible exact below_self _ | with_reducible refine below_drewN ?_ _ | with_reducible apply Below.drew | with_reducible refine below_alloc ?_ _)); rintro r w' ⟨rfl, rfl⟩) | (go_at_call_of 98 (Value.slice A n c); refine (NX.out _ ?_).mono ?_; (repeat (first | with_reducible assumption | with_reducible exact below_self _ | with_reducible refine below_drewN ?_ _ | with_reducible apply Below.drew | with_reducible refine below_alloc ?_ _)); rintro r w' ⟨rfl, rfl⟩))
        go_wp2_with fail
        go_region_held3 (fun w' => ((w'.cell? ⟨w.heap.size, 0, none⟩ = some (.bool p) ∧ w'.cell? ⟨w.heap.size, 1, none⟩ = some (.slice A n c) ∧ w'.cell? ⟨w.heap.size, 2, none⟩ = some (.int .i64 e) ∧ w'.frozen? ⟨w.heap.size, 0, none⟩ = false ∧ w'.frozen? ⟨w.heap.size, 1, none⟩ = false ∧ w'.frozen? ⟨w.heap.size, 2, none⟩ = false) ∧ (w'.cell? ⟨w.heap.size + 1, 0, none⟩ = some (.bool q) ∧ w'.cell? ⟨w.heap.size + 1, 1, none⟩ = some (.slice A' n' c') ∧ w'.cell? ⟨w.heap.size + 1, 2, none⟩ = some (.int .i64 f) ∧ w'.frozen? ⟨w.heap.size + 1, 0, none⟩ = false ∧ w'.frozen? ⟨w.heap.size + 1, 1, none⟩ = false ∧ w'.frozen? ⟨w.heap.size + 1, 2, none⟩ = false))) (first | exact KS.out _ ((by repeat (first | with_reducible assumption | with_reducible exact below_self _ | with_reducible refine below_drewN ?_ _ | with_reducible apply Below.drew | with_reducible refine below_alloc ?_ _)))) (first | (go_at_call 100; refine (SX.out _ ?_).mono ?_; (repeat (first | with_reducible assumption | with_reducible exact below_self _ | with_reducible refine below_drewN ?_ _ | with_reducible apply Below.drew | with_reducible refine below_alloc ?_ _)); rintro r w5 ⟨A5, n5, c5, rfl, hA5, hb5⟩) | (go_at_call 99; refine (DM.out _ _ _ _ hA5 ?_).mono ?_; (repeat (first | with_reducible assumption | with_reducible exact below_self _ | with_reducible refine below_drewN ?_ _ | with_reducible apply Below.drew | with_reducible refine below_alloc ?_ _)); rintro r w6 ⟨A6, n6, c6, A7, n7, c7, rfl, h6, h7, hb6⟩))
        have hw6 := below_on b2 hb6
        have br6 := (KW.out w6 hb6).res
        obtain ⟨⟨k0, k1, k2, f0, f1, f2⟩, ⟨j0, j1, j2, g0, g1, g2⟩⟩ := KS.out w6 hb6
        have n6l := h6.len
        have n7l := h7.len
        clear k0' k1' k2' f0' f1' f2' j0' j1' j2' g0' g1' g2' hb3 hw3 br3 SX DM NX NY
        go_wp2_with fail
        have hrest : decide (0 < n7) = rest := by
          have hz := rz.out
          rw [n7l] at hz
          rcases hz with ⟨a, b⟩ | ⟨a, b⟩
          · rw [b, a]; rfl
          · rw [b]; exact decide_eq_true a
        rw [hrest]
        have DC := dcut (p != q) A6 n6 c6 _ (e - f - kk) rest P up w6 h6 (by omega) (by omega) (by omega) (by omega) (by omega) (hT.below hw6)
        rw [vq] at DC
        refine DC.mono ?_
        rintro r w7 ⟨A9, n9, c9, rfl, hA, hb7⟩
        have hw7 := below_on hw6 hb7
        have br7 := br6.later hb7
        obtain ⟨z0, z1, z2, y0, y1, y2⟩ := br7.cell3
        clear DC k0 k1 k2 f0 f1 f2 j0 j1 j2 g0 g1 g2
        go_wp2_with fail
        refine bodyPost_ret (v := _) ?_ rfl (retD_set hA br7 hw7 (by omega))
        simp [results, Tryz.results65, go_sem, z0, z1, z2]
    · have er : overD p q xs ys e f P up = none := by unfold overD; rw [hp1, hp2, Bool.eq_false_iff.2 hR]; rfl
      rw [er]
      rw [Bool.eq_false_iff.2 hR] at BR
      clear er
      go_enter Tryz.func65, Tryz.ntmps65
      go_wp2_with fail
      refine PL.out.mono ?_; rintro r w3 ⟨rfl, hb3⟩
      have hw3 := below_on b2 hb3
      have br3 := (KW.out w3 hb3).res
      obtain ⟨z0, z1, z2, y0, y1, y2⟩ := br3.cell3
      go_wp2_with fail
      refine (BR.out _).mono ?_; rintro r w' ⟨rfl, rfl⟩
      go_wp2_with fail
      (refine bodyPost_ret (v := .tuple #[.agg #[.bool false, .slice none 0 0, .int .i64 0], .bool false]) (by simp [results, Tryz.results65, go_sem, z0, z1, z2]) rfl ?_; exact retD_set (o := none) (arr_no _) br3 hw3 (by omega))
end Go.Proofs.YteffemhapnbaeaaGreatDoor
