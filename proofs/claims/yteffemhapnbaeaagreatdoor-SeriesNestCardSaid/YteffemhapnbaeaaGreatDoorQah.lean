/- Walks and laws that the claim's row needs. No conditions. -/
import Derived.Test.YteffemhapnbaeaaGreatDoorQab
import Derived.Test.YteffemhapnbaeaaGreatDoorQac
import Derived.Test.YteffemhapnbaeaaGreatDoorQad
import Derived.Test.YteffemhapnbaeaaGreatDoorQae
import Derived.Test.YteffemhapnbaeaaGreatDoorQag
set_option maxHeartbeats 16000000
set_option linter.unusedSimpArgs false
set_option linter.unusedVariables false
namespace Go.Proofs.YteffemhapnbaeaaGreatDoor
open Go.RowKit Num
set_option maxRecDepth 100000
def Dp (p : Int) : Bool := decide (1 ≤ p) && decide (p ≤ 8192)
theorem Bcq (p : Int) (w : World) : Calls Tryz.prog 97 #[.int .i64 p] w fun r w' => r = .returned (.bool (Dp p)) ∧ w = w' := by
 unfold Dp
 go_enter Tryz.func97, Tryz.ntmps97
 go_wp2
 all_goals go_ret
 all_goals refine ⟨Ht ?_, rfl⟩
 all_goals simp; try omega
def Mg (v k : Int) : Int := if 0 < k then v / 2 ^ k.toNat else v
def Yr (v k : Int) (rest : Bool) : Bool := rest || (decide (0 < k) && decide (v / 2 ^ k.toNat * 2 ^ k.toNat ≠ v))
def Ji (neg : Bool) (v e : Int) (rest : Bool) (p : Int) (up : Bool) : Option Dy :=
 mkD neg (if Yr v (bl v - p) rest && (neg != up) then Mg v (bl v - p) + 1 else Mg v (bl v - p)) (if 0 < bl v - p then e + (bl v - p) else e)
theorem Yi {xs ys : List Int} (h : Wf xs) (h' : Wf ys) {k : Nat} (hx : xs.length ≤ k) (hy : ys.length ≤ k) : (wd (val xs + val ys)).length ≤ k + 1 := by
 refine wd_length_le (by have := val_nonneg h; have := val_nonneg h'; omega) (Int.lt_of_lt_of_le (Mn h h') (B_pow_le (by omega)))
theorem Rn {xs : List Int} (h : Wf xs) {k : Nat} (hl : xs.length ≤ k) (hk : 1 ≤ k) : (wd (val xs + 1)).length ≤ k + 1 := by
 have h1 : (wd (val xs + val [1])).length ≤ k + 1 := Yi h (Vz (by decide) (by decide)) hl (by simpa using hk)
 rw [Ds] at h1
 exact h1
theorem dcut (neg : Bool) (A : Option Addr) (n c : Nat) (xs : List Int) (e : Int) (rest : Bool) (p : Int) (up : Bool) (w : World) (h : Arr w A n c xs) (hn : n ≤ 16000) (he0 : -1000000000000 ≤ e) (he1 : e ≤ 1000000000000) (hp0 : 1 ≤ p) (hp1 : p ≤ 1000000000) (hT : Tz w) :
  Calls Tryz.prog 101 #[.bool neg, .slice A n c, .int .i64 e, .bool rest, .int .i64 p, .bool up] w (He (Ji neg (val xs) e rest p up) w) := by
 have hv := h.val_nonneg
 have b0 := Ba (Bb w) (.cells #[.bool false, .slice none 0 0, .int .i64 0] 26)
 have bx := Bg w #[.bool false, .slice none 0 0, .int .i64 0] 26
 have NB := Be (fun w' (hb : Below w.heap.size w w') => Ui A n c xs w' (h.below hb) (by omega))
 have hb0 := Df (val xs)
 have hb1 := Gc (v := val xs) (a := 64 * n) hv (by rw [← B_pow_pw, ← h.len]; exact val_lt h.wf)
 have hlen := wd_len h.wf
 rw [h.len] at hlen
 have hwf := h.wf
 have hxl := h.len
 unfold Ji
 by_cases hk : 0 < bl (val xs) - p
 ·obtain ⟨k, hkk⟩ : ∃ k : Nat, bl (val xs) - p = (k : Int) := ⟨(bl (val xs) - p).toNat, by omega⟩
  have SR := Be (fun w' (hb : Below w.heap.size w w') => shr A n c xs (k : Int) w' (h.below hb) (by omega) (by omega) (by omega))
  rw [Gs (by omega) (by omega), Int.toNat_natCast] at SR
  have hq0 : 0 ≤ val xs / 2 ^ k := Int.ediv_nonneg hv (Int.le_of_lt (pw_pos k))
  have lq : (wd (val xs / 2 ^ k)).length ≤ 16000 := by
   have := wd_length_le hq0 (Int.lt_of_le_of_lt (Int.ediv_le_self _ hv) (lt_pow_of_wd_length hv (k := (wd (val xs)).length) (Nat.le_refl _)))
   omega
  have vq := val_wd _ hq0
  have wq := wf_wd _ hq0
  have lq1 := Rn wq (k := 16000) (by omega) (by omega)
  rw [vq] at lq1
  rw [hkk] at hk ⊢
  unfold Mg Yr
  rw [if_pos hk, if_pos hk, decide_eq_true hk, Int.toNat_natCast]
  have hsl : 0 ≤ val xs / 2 ^ k * 2 ^ k := Int.mul_nonneg hq0 (Int.le_of_lt (pw_pos k))
  have vsl := val_wd _ hsl
  generalize hqe : val xs / 2 ^ k = q at *
  have dk : decide ((k : Int) > 0) = true := by simp; omega
  have VX2 : Hid (val (wd q) = q) := vq
  have V1 : Hid (val (wd (q + 1)) = q + 1) := val_wd _ (by omega)
  cases rest
  ·by_cases hne : q * 2 ^ k = val xs
   ·have d8 : decide (q * 2 ^ k ≠ val xs) = false := by simp [hne]
    have cf := Lh hne
    rw [d8]
    simp only [Bool.or_false, Bool.and_false, Bool.false_and, Bool.false_eq_true, if_false]
    clear hqe d8 hne
    cases neg
    ·(generalize ho : mkD false _ _ = o; have HO := Be ho; clear ho)
     (go_enter Tryz.func101, Tryz.ntmps101; go_wp2_with fail; refine (NB.out _ b0).mono ?_; rintro r w' ⟨rfl, rfl⟩; go_wp2_with fail; refine (SR.out _ b0).mono ?_; rintro r w2 ⟨A2, n2, c2, rfl, h2, hb2⟩; have bw2 := Bc b0 hb2; have bx2 := bx.later hb2; have l2 := h2.len; clear hb2 SR NB; generalize wd q = X2 at *; go_wp2_with fail)
     (have SL := shl A2 n2 c2 X2 (k : Int) w2 h2 (by omega) (by omega) (by omega); rw [Dm (by omega) (by omega), Int.toNat_natCast, VX2.out] at SL; refine SL.mono ?_; rintro r w5 ⟨A5, n5, c5, rfl, h5, hb5⟩; have bw5 := Bc bw2 hb5; have bx2 := bx2.later hb5; have h2 := h2.below hb5; have C := Qp A5 A n5 c5 n c _ xs w5 h5 (h.below bw5); rw [vsl, cf] at C; have C := Be C; clear SL h5 hb5; go_wp2_with fail; refine C.out.mono ?_; rintro r w6 ⟨rfl, s6⟩; have bw2 := bw5.trans (s6.below _); have bx2 := bx2.later (s6.below _); have h2 := h2.below (s6.below _); clear C s6; generalize hw6 : w6 = w2 at *; clear hw6; go_wp2_with fail)
     (have bw3 := bw2; have bx3 := bx2; have MK := Hv false A2 n2 c2 X2 (e + k) w2 h2 (by omega) (by omega) (by omega) (hT.below bw2); rw [VX2.out, HO.out] at MK; have MK := Be MK; clear h2; refine MK.out.mono ?_; (rintro r w4 ⟨A4, n4, c4, rfl, hA, hb4⟩; have bx4 := bx3.later hb4; have bw4 := Bc bw3 hb4; obtain ⟨k0, k1, k2, f0, f1, f2⟩ := bx4.cell3; clear hb4; go_wp2_with fail; exact bodyPost_ret (v := .tuple #[.agg #[.bool (Ci o).neg, .slice A4 n4 c4, .int .i64 (Ci o).e], .bool o.isSome]) (by simp [results, Tryz.results101, go_sem, k0, k1, k2]) rfl (Bu hA bx4 bw4 (Nat.le_refl _))))
    ·(generalize ho : mkD true _ _ = o; have HO := Be ho; clear ho)
     (go_enter Tryz.func101, Tryz.ntmps101; go_wp2_with fail; refine (NB.out _ b0).mono ?_; rintro r w' ⟨rfl, rfl⟩; go_wp2_with fail; refine (SR.out _ b0).mono ?_; rintro r w2 ⟨A2, n2, c2, rfl, h2, hb2⟩; have bw2 := Bc b0 hb2; have bx2 := bx.later hb2; have l2 := h2.len; clear hb2 SR NB; generalize wd q = X2 at *; go_wp2_with fail)
     (have SL := shl A2 n2 c2 X2 (k : Int) w2 h2 (by omega) (by omega) (by omega); rw [Dm (by omega) (by omega), Int.toNat_natCast, VX2.out] at SL; refine SL.mono ?_; rintro r w5 ⟨A5, n5, c5, rfl, h5, hb5⟩; have bw5 := Bc bw2 hb5; have bx2 := bx2.later hb5; have h2 := h2.below hb5; have C := Qp A5 A n5 c5 n c _ xs w5 h5 (h.below bw5); rw [vsl, cf] at C; have C := Be C; clear SL h5 hb5; go_wp2_with fail; refine C.out.mono ?_; rintro r w6 ⟨rfl, s6⟩; have bw2 := bw5.trans (s6.below _); have bx2 := bx2.later (s6.below _); have h2 := h2.below (s6.below _); clear C s6; generalize hw6 : w6 = w2 at *; clear hw6; go_wp2_with fail)
     (have bw3 := bw2; have bx3 := bx2; have MK := Hv true A2 n2 c2 X2 (e + k) w2 h2 (by omega) (by omega) (by omega) (hT.below bw2); rw [VX2.out, HO.out] at MK; have MK := Be MK; clear h2; refine MK.out.mono ?_; (rintro r w4 ⟨A4, n4, c4, rfl, hA, hb4⟩; have bx4 := bx3.later hb4; have bw4 := Bc bw3 hb4; obtain ⟨k0, k1, k2, f0, f1, f2⟩ := bx4.cell3; clear hb4; go_wp2_with fail; exact bodyPost_ret (v := .tuple #[.agg #[.bool (Ci o).neg, .slice A4 n4 c4, .int .i64 (Ci o).e], .bool o.isSome]) (by simp [results, Tryz.results101, go_sem, k0, k1, k2]) rfl (Bu hA bx4 bw4 (Nat.le_refl _))))
   ·have d8 : decide (q * 2 ^ k ≠ val xs) = true := by simp [hne]
    have hle : q * 2 ^ k ≤ val xs := by rw [← hqe]; exact Int.ediv_mul_le _ (Int.ne_of_gt (pw_pos k))
    have cf := Gk (show q * 2 ^ k < val xs by omega)
    rw [d8]
    clear hqe d8 hne hle
    cases neg <;> cases up
    all_goals
     simp only [Bool.false_or, Bool.true_and, bne_self_eq_false, Bool.false_eq_true, if_false, if_true, show (true != false) = true from rfl, show (false != true) = true from rfl]
    ·(generalize ho : mkD false _ _ = o; have HO := Be ho; clear ho)
     (go_enter Tryz.func101, Tryz.ntmps101; go_wp2_with fail; refine (NB.out _ b0).mono ?_; rintro r w' ⟨rfl, rfl⟩; go_wp2_with fail; refine (SR.out _ b0).mono ?_; rintro r w2 ⟨A2, n2, c2, rfl, h2, hb2⟩; have bw2 := Bc b0 hb2; have bx2 := bx.later hb2; have l2 := h2.len; clear hb2 SR NB; generalize wd q = X2 at *; go_wp2_with fail)
     (have SL := shl A2 n2 c2 X2 (k : Int) w2 h2 (by omega) (by omega) (by omega); rw [Dm (by omega) (by omega), Int.toNat_natCast, VX2.out] at SL; refine SL.mono ?_; rintro r w5 ⟨A5, n5, c5, rfl, h5, hb5⟩; have bw5 := Bc bw2 hb5; have bx2 := bx2.later hb5; have h2 := h2.below hb5; have C := Qp A5 A n5 c5 n c _ xs w5 h5 (h.below bw5); rw [vsl, cf] at C; have C := Be C; clear SL h5 hb5; go_wp2_with fail; refine C.out.mono ?_; rintro r w6 ⟨rfl, s6⟩; have bw2 := bw5.trans (s6.below _); have bx2 := bx2.later (s6.below _); have h2 := h2.below (s6.below _); clear C s6; generalize hw6 : w6 = w2 at *; clear hw6; go_wp2_with fail)
     (have bw3 := bw2; have bx3 := bx2; have MK := Hv false A2 n2 c2 X2 (e + k) w2 h2 (by omega) (by omega) (by omega) (hT.below bw2); rw [VX2.out, HO.out] at MK; have MK := Be MK; clear h2; refine MK.out.mono ?_; (rintro r w4 ⟨A4, n4, c4, rfl, hA, hb4⟩; have bx4 := bx3.later hb4; have bw4 := Bc bw3 hb4; obtain ⟨k0, k1, k2, f0, f1, f2⟩ := bx4.cell3; clear hb4; go_wp2_with fail; exact bodyPost_ret (v := .tuple #[.agg #[.bool (Ci o).neg, .slice A4 n4 c4, .int .i64 (Ci o).e], .bool o.isSome]) (by simp [results, Tryz.results101, go_sem, k0, k1, k2]) rfl (Bu hA bx4 bw4 (Nat.le_refl _))))
    ·(generalize ho : mkD false _ _ = o; have HO := Be ho; clear ho)
     (go_enter Tryz.func101, Tryz.ntmps101; go_wp2_with fail; refine (NB.out _ b0).mono ?_; rintro r w' ⟨rfl, rfl⟩; go_wp2_with fail; refine (SR.out _ b0).mono ?_; rintro r w2 ⟨A2, n2, c2, rfl, h2, hb2⟩; have bw2 := Bc b0 hb2; have bx2 := bx.later hb2; have l2 := h2.len; clear hb2 SR NB; generalize wd q = X2 at *; go_wp2_with fail)
     (have SL := shl A2 n2 c2 X2 (k : Int) w2 h2 (by omega) (by omega) (by omega); rw [Dm (by omega) (by omega), Int.toNat_natCast, VX2.out] at SL; refine SL.mono ?_; rintro r w5 ⟨A5, n5, c5, rfl, h5, hb5⟩; have bw5 := Bc bw2 hb5; have bx2 := bx2.later hb5; have h2 := h2.below hb5; have C := Qp A5 A n5 c5 n c _ xs w5 h5 (h.below bw5); rw [vsl, cf] at C; have C := Be C; clear SL h5 hb5; go_wp2_with fail; refine C.out.mono ?_; rintro r w6 ⟨rfl, s6⟩; have bw2 := bw5.trans (s6.below _); have bx2 := bx2.later (s6.below _); have h2 := h2.below (s6.below _); clear C s6; generalize hw6 : w6 = w2 at *; clear hw6; go_wp2_with fail)
     (have A1 := add A2 (some ⟨w2.heap.size, 0, none⟩) n2 c2 1 1 X2 [1] _ (h2.below (Ba (Bb w2) (.cells #[.int .u64 1] 51))) (Db (w := w2) rfl 1 (by decide) (by decide)) (by omega) (by decide); rw [VX2.out, Ds] at A1; refine A1.mono ?_; rintro r w3 ⟨A3, n3, c3, rfl, h3, hb3⟩; have hb23 := Bc (Ba (Bb w2) (.cells #[.int .u64 1] 51)) hb3; have bw3 := Bc bw2 hb23; have bx3 := bx2.later hb23; have l3 := h3.len; have MK := Hv false A3 n3 c3 _ (e + k) w3 h3.arr (by omega) (by omega) (by omega) (hT.below bw3); rw [V1.out, HO.out] at MK; have MK := Be MK; clear A1 h3 hb3 hb23 h2; go_wp2_with fail; refine MK.out.mono ?_; (rintro r w4 ⟨A4, n4, c4, rfl, hA, hb4⟩; have bx4 := bx3.later hb4; have bw4 := Bc bw3 hb4; obtain ⟨k0, k1, k2, f0, f1, f2⟩ := bx4.cell3; clear hb4; go_wp2_with fail; exact bodyPost_ret (v := .tuple #[.agg #[.bool (Ci o).neg, .slice A4 n4 c4, .int .i64 (Ci o).e], .bool o.isSome]) (by simp [results, Tryz.results101, go_sem, k0, k1, k2]) rfl (Bu hA bx4 bw4 (Nat.le_refl _))))
    ·(generalize ho : mkD true _ _ = o; have HO := Be ho; clear ho)
     (go_enter Tryz.func101, Tryz.ntmps101; go_wp2_with fail; refine (NB.out _ b0).mono ?_; rintro r w' ⟨rfl, rfl⟩; go_wp2_with fail; refine (SR.out _ b0).mono ?_; rintro r w2 ⟨A2, n2, c2, rfl, h2, hb2⟩; have bw2 := Bc b0 hb2; have bx2 := bx.later hb2; have l2 := h2.len; clear hb2 SR NB; generalize wd q = X2 at *; go_wp2_with fail)
     (have SL := shl A2 n2 c2 X2 (k : Int) w2 h2 (by omega) (by omega) (by omega); rw [Dm (by omega) (by omega), Int.toNat_natCast, VX2.out] at SL; refine SL.mono ?_; rintro r w5 ⟨A5, n5, c5, rfl, h5, hb5⟩; have bw5 := Bc bw2 hb5; have bx2 := bx2.later hb5; have h2 := h2.below hb5; have C := Qp A5 A n5 c5 n c _ xs w5 h5 (h.below bw5); rw [vsl, cf] at C; have C := Be C; clear SL h5 hb5; go_wp2_with fail; refine C.out.mono ?_; rintro r w6 ⟨rfl, s6⟩; have bw2 := bw5.trans (s6.below _); have bx2 := bx2.later (s6.below _); have h2 := h2.below (s6.below _); clear C s6; generalize hw6 : w6 = w2 at *; clear hw6; go_wp2_with fail)
     (have A1 := add A2 (some ⟨w2.heap.size, 0, none⟩) n2 c2 1 1 X2 [1] _ (h2.below (Ba (Bb w2) (.cells #[.int .u64 1] 51))) (Db (w := w2) rfl 1 (by decide) (by decide)) (by omega) (by decide); rw [VX2.out, Ds] at A1; refine A1.mono ?_; rintro r w3 ⟨A3, n3, c3, rfl, h3, hb3⟩; have hb23 := Bc (Ba (Bb w2) (.cells #[.int .u64 1] 51)) hb3; have bw3 := Bc bw2 hb23; have bx3 := bx2.later hb23; have l3 := h3.len; have MK := Hv true A3 n3 c3 _ (e + k) w3 h3.arr (by omega) (by omega) (by omega) (hT.below bw3); rw [V1.out, HO.out] at MK; have MK := Be MK; clear A1 h3 hb3 hb23 h2; go_wp2_with fail; refine MK.out.mono ?_; (rintro r w4 ⟨A4, n4, c4, rfl, hA, hb4⟩; have bx4 := bx3.later hb4; have bw4 := Bc bw3 hb4; obtain ⟨k0, k1, k2, f0, f1, f2⟩ := bx4.cell3; clear hb4; go_wp2_with fail; exact bodyPost_ret (v := .tuple #[.agg #[.bool (Ci o).neg, .slice A4 n4 c4, .int .i64 (Ci o).e], .bool o.isSome]) (by simp [results, Tryz.results101, go_sem, k0, k1, k2]) rfl (Bu hA bx4 bw4 (Nat.le_refl _))))
    ·(generalize ho : mkD true _ _ = o; have HO := Be ho; clear ho)
     (go_enter Tryz.func101, Tryz.ntmps101; go_wp2_with fail; refine (NB.out _ b0).mono ?_; rintro r w' ⟨rfl, rfl⟩; go_wp2_with fail; refine (SR.out _ b0).mono ?_; rintro r w2 ⟨A2, n2, c2, rfl, h2, hb2⟩; have bw2 := Bc b0 hb2; have bx2 := bx.later hb2; have l2 := h2.len; clear hb2 SR NB; generalize wd q = X2 at *; go_wp2_with fail)
     (have SL := shl A2 n2 c2 X2 (k : Int) w2 h2 (by omega) (by omega) (by omega); rw [Dm (by omega) (by omega), Int.toNat_natCast, VX2.out] at SL; refine SL.mono ?_; rintro r w5 ⟨A5, n5, c5, rfl, h5, hb5⟩; have bw5 := Bc bw2 hb5; have bx2 := bx2.later hb5; have h2 := h2.below hb5; have C := Qp A5 A n5 c5 n c _ xs w5 h5 (h.below bw5); rw [vsl, cf] at C; have C := Be C; clear SL h5 hb5; go_wp2_with fail; refine C.out.mono ?_; rintro r w6 ⟨rfl, s6⟩; have bw2 := bw5.trans (s6.below _); have bx2 := bx2.later (s6.below _); have h2 := h2.below (s6.below _); clear C s6; generalize hw6 : w6 = w2 at *; clear hw6; go_wp2_with fail)
     (have bw3 := bw2; have bx3 := bx2; have MK := Hv true A2 n2 c2 X2 (e + k) w2 h2 (by omega) (by omega) (by omega) (hT.below bw2); rw [VX2.out, HO.out] at MK; have MK := Be MK; clear h2; refine MK.out.mono ?_; (rintro r w4 ⟨A4, n4, c4, rfl, hA, hb4⟩; have bx4 := bx3.later hb4; have bw4 := Bc bw3 hb4; obtain ⟨k0, k1, k2, f0, f1, f2⟩ := bx4.cell3; clear hb4; go_wp2_with fail; exact bodyPost_ret (v := .tuple #[.agg #[.bool (Ci o).neg, .slice A4 n4 c4, .int .i64 (Ci o).e], .bool o.isSome]) (by simp [results, Tryz.results101, go_sem, k0, k1, k2]) rfl (Bu hA bx4 bw4 (Nat.le_refl _))))
  ·cases neg <;> cases up
   all_goals
    simp only [Bool.true_or, Bool.true_and, bne_self_eq_false, Bool.false_eq_true, if_false, if_true, show (true != false) = true from rfl, show (false != true) = true from rfl]
   ·(generalize ho : mkD false _ _ = o; have HO := Be ho; clear ho)
    (go_enter Tryz.func101, Tryz.ntmps101; go_wp2_with fail; refine (NB.out _ b0).mono ?_; rintro r w' ⟨rfl, rfl⟩; go_wp2_with fail; refine (SR.out _ b0).mono ?_; rintro r w2 ⟨A2, n2, c2, rfl, h2, hb2⟩; have bw2 := Bc b0 hb2; have bx2 := bx.later hb2; have l2 := h2.len; clear hb2 SR NB; generalize wd q = X2 at *; go_wp2_with fail)
    (have bw3 := bw2; have bx3 := bx2; have MK := Hv false A2 n2 c2 X2 (e + k) w2 h2 (by omega) (by omega) (by omega) (hT.below bw2); rw [VX2.out, HO.out] at MK; have MK := Be MK; clear h2; refine MK.out.mono ?_; (rintro r w4 ⟨A4, n4, c4, rfl, hA, hb4⟩; have bx4 := bx3.later hb4; have bw4 := Bc bw3 hb4; obtain ⟨k0, k1, k2, f0, f1, f2⟩ := bx4.cell3; clear hb4; go_wp2_with fail; exact bodyPost_ret (v := .tuple #[.agg #[.bool (Ci o).neg, .slice A4 n4 c4, .int .i64 (Ci o).e], .bool o.isSome]) (by simp [results, Tryz.results101, go_sem, k0, k1, k2]) rfl (Bu hA bx4 bw4 (Nat.le_refl _))))
   ·(generalize ho : mkD false _ _ = o; have HO := Be ho; clear ho)
    (go_enter Tryz.func101, Tryz.ntmps101; go_wp2_with fail; refine (NB.out _ b0).mono ?_; rintro r w' ⟨rfl, rfl⟩; go_wp2_with fail; refine (SR.out _ b0).mono ?_; rintro r w2 ⟨A2, n2, c2, rfl, h2, hb2⟩; have bw2 := Bc b0 hb2; have bx2 := bx.later hb2; have l2 := h2.len; clear hb2 SR NB; generalize wd q = X2 at *; go_wp2_with fail)
    (have A1 := add A2 (some ⟨w2.heap.size, 0, none⟩) n2 c2 1 1 X2 [1] _ (h2.below (Ba (Bb w2) (.cells #[.int .u64 1] 51))) (Db (w := w2) rfl 1 (by decide) (by decide)) (by omega) (by decide); rw [VX2.out, Ds] at A1; refine A1.mono ?_; rintro r w3 ⟨A3, n3, c3, rfl, h3, hb3⟩; have hb23 := Bc (Ba (Bb w2) (.cells #[.int .u64 1] 51)) hb3; have bw3 := Bc bw2 hb23; have bx3 := bx2.later hb23; have l3 := h3.len; have MK := Hv false A3 n3 c3 _ (e + k) w3 h3.arr (by omega) (by omega) (by omega) (hT.below bw3); rw [V1.out, HO.out] at MK; have MK := Be MK; clear A1 h3 hb3 hb23 h2; go_wp2_with fail; refine MK.out.mono ?_; (rintro r w4 ⟨A4, n4, c4, rfl, hA, hb4⟩; have bx4 := bx3.later hb4; have bw4 := Bc bw3 hb4; obtain ⟨k0, k1, k2, f0, f1, f2⟩ := bx4.cell3; clear hb4; go_wp2_with fail; exact bodyPost_ret (v := .tuple #[.agg #[.bool (Ci o).neg, .slice A4 n4 c4, .int .i64 (Ci o).e], .bool o.isSome]) (by simp [results, Tryz.results101, go_sem, k0, k1, k2]) rfl (Bu hA bx4 bw4 (Nat.le_refl _))))
   ·(generalize ho : mkD true _ _ = o; have HO := Be ho; clear ho)
    (go_enter Tryz.func101, Tryz.ntmps101; go_wp2_with fail; refine (NB.out _ b0).mono ?_; rintro r w' ⟨rfl, rfl⟩; go_wp2_with fail; refine (SR.out _ b0).mono ?_; rintro r w2 ⟨A2, n2, c2, rfl, h2, hb2⟩; have bw2 := Bc b0 hb2; have bx2 := bx.later hb2; have l2 := h2.len; clear hb2 SR NB; generalize wd q = X2 at *; go_wp2_with fail)
    (have A1 := add A2 (some ⟨w2.heap.size, 0, none⟩) n2 c2 1 1 X2 [1] _ (h2.below (Ba (Bb w2) (.cells #[.int .u64 1] 51))) (Db (w := w2) rfl 1 (by decide) (by decide)) (by omega) (by decide); rw [VX2.out, Ds] at A1; refine A1.mono ?_; rintro r w3 ⟨A3, n3, c3, rfl, h3, hb3⟩; have hb23 := Bc (Ba (Bb w2) (.cells #[.int .u64 1] 51)) hb3; have bw3 := Bc bw2 hb23; have bx3 := bx2.later hb23; have l3 := h3.len; have MK := Hv true A3 n3 c3 _ (e + k) w3 h3.arr (by omega) (by omega) (by omega) (hT.below bw3); rw [V1.out, HO.out] at MK; have MK := Be MK; clear A1 h3 hb3 hb23 h2; go_wp2_with fail; refine MK.out.mono ?_; (rintro r w4 ⟨A4, n4, c4, rfl, hA, hb4⟩; have bx4 := bx3.later hb4; have bw4 := Bc bw3 hb4; obtain ⟨k0, k1, k2, f0, f1, f2⟩ := bx4.cell3; clear hb4; go_wp2_with fail; exact bodyPost_ret (v := .tuple #[.agg #[.bool (Ci o).neg, .slice A4 n4 c4, .int .i64 (Ci o).e], .bool o.isSome]) (by simp [results, Tryz.results101, go_sem, k0, k1, k2]) rfl (Bu hA bx4 bw4 (Nat.le_refl _))))
   ·(generalize ho : mkD true _ _ = o; have HO := Be ho; clear ho)
    (go_enter Tryz.func101, Tryz.ntmps101; go_wp2_with fail; refine (NB.out _ b0).mono ?_; rintro r w' ⟨rfl, rfl⟩; go_wp2_with fail; refine (SR.out _ b0).mono ?_; rintro r w2 ⟨A2, n2, c2, rfl, h2, hb2⟩; have bw2 := Bc b0 hb2; have bx2 := bx.later hb2; have l2 := h2.len; clear hb2 SR NB; generalize wd q = X2 at *; go_wp2_with fail)
    (have bw3 := bw2; have bx3 := bx2; have MK := Hv true A2 n2 c2 X2 (e + k) w2 h2 (by omega) (by omega) (by omega) (hT.below bw2); rw [VX2.out, HO.out] at MK; have MK := Be MK; clear h2; refine MK.out.mono ?_; (rintro r w4 ⟨A4, n4, c4, rfl, hA, hb4⟩; have bx4 := bx3.later hb4; have bw4 := Bc bw3 hb4; obtain ⟨k0, k1, k2, f0, f1, f2⟩ := bx4.cell3; clear hb4; go_wp2_with fail; exact bodyPost_ret (v := .tuple #[.agg #[.bool (Ci o).neg, .slice A4 n4 c4, .int .i64 (Ci o).e], .bool o.isSome]) (by simp [results, Tryz.results101, go_sem, k0, k1, k2]) rfl (Bu hA bx4 bw4 (Nat.le_refl _))))
 ·unfold Mg Yr
  rw [if_neg hk, if_neg hk, decide_eq_false hk]
  have dk : decide (bl (val xs) - p > 0) = false := by simp; omega
  have lq1 := Rn hwf (k := 16000) (by omega) (by omega)
  obtain ⟨vv, ev⟩ : ∃ vv, val xs = vv := ⟨_, rfl⟩
  rw [ev] at hv NB hb0 hb1 hk dk lq1 ⊢
  have VX2 : Hid (val xs = vv) := ev
  have V1 : Hid (val (wd (vv + 1)) = vv + 1) := val_wd _ (by omega)
  clear ev hlen
  obtain ⟨A2, q1⟩ : ∃ A2, A2 = A := ⟨A, rfl⟩
  obtain ⟨n2, q2⟩ : ∃ n2, n2 = n := ⟨n, rfl⟩
  obtain ⟨c2, q3⟩ : ∃ c2, c2 = c := ⟨c, rfl⟩
  obtain ⟨X2, q4⟩ : ∃ X2, X2 = xs := ⟨xs, rfl⟩
  subst q1 q2 q3 q4
  cases rest
  ·simp only [Bool.false_and, Bool.or_false, Bool.false_eq_true, if_false]
   cases neg
   ·(generalize ho : mkD false _ _ = o; have HO := Be ho; clear ho)
    (go_enter Tryz.func101, Tryz.ntmps101; go_wp2_with fail; refine (NB.out _ b0).mono ?_; rintro r w' ⟨rfl, rfl⟩; have bw2 := b0; have bx2 := bx; have h2 := h.below b0; clear NB; generalize (w.alloc (.cells #[.bool false, .slice none 0 0, .int .i64 0] 26)) = w2 at *; go_wp2_with fail)
    (have bw3 := bw2; have bx3 := bx2; have MK := Hv false A2 n2 c2 X2 (e) w2 h2 (by omega) (by omega) (by omega) (hT.below bw2); rw [VX2.out, HO.out] at MK; have MK := Be MK; clear h2; refine MK.out.mono ?_; (rintro r w4 ⟨A4, n4, c4, rfl, hA, hb4⟩; have bx4 := bx3.later hb4; have bw4 := Bc bw3 hb4; obtain ⟨k0, k1, k2, f0, f1, f2⟩ := bx4.cell3; clear hb4; go_wp2_with fail; exact bodyPost_ret (v := .tuple #[.agg #[.bool (Ci o).neg, .slice A4 n4 c4, .int .i64 (Ci o).e], .bool o.isSome]) (by simp [results, Tryz.results101, go_sem, k0, k1, k2]) rfl (Bu hA bx4 bw4 (Nat.le_refl _))))
   ·(generalize ho : mkD true _ _ = o; have HO := Be ho; clear ho)
    (go_enter Tryz.func101, Tryz.ntmps101; go_wp2_with fail; refine (NB.out _ b0).mono ?_; rintro r w' ⟨rfl, rfl⟩; have bw2 := b0; have bx2 := bx; have h2 := h.below b0; clear NB; generalize (w.alloc (.cells #[.bool false, .slice none 0 0, .int .i64 0] 26)) = w2 at *; go_wp2_with fail)
    (have bw3 := bw2; have bx3 := bx2; have MK := Hv true A2 n2 c2 X2 (e) w2 h2 (by omega) (by omega) (by omega) (hT.below bw2); rw [VX2.out, HO.out] at MK; have MK := Be MK; clear h2; refine MK.out.mono ?_; (rintro r w4 ⟨A4, n4, c4, rfl, hA, hb4⟩; have bx4 := bx3.later hb4; have bw4 := Bc bw3 hb4; obtain ⟨k0, k1, k2, f0, f1, f2⟩ := bx4.cell3; clear hb4; go_wp2_with fail; exact bodyPost_ret (v := .tuple #[.agg #[.bool (Ci o).neg, .slice A4 n4 c4, .int .i64 (Ci o).e], .bool o.isSome]) (by simp [results, Tryz.results101, go_sem, k0, k1, k2]) rfl (Bu hA bx4 bw4 (Nat.le_refl _))))
  ·cases neg <;> cases up
   all_goals
    simp only [Bool.true_or, Bool.true_and, bne_self_eq_false, Bool.false_eq_true, if_false, if_true, show (true != false) = true from rfl, show (false != true) = true from rfl]
   ·(generalize ho : mkD false _ _ = o; have HO := Be ho; clear ho)
    (go_enter Tryz.func101, Tryz.ntmps101; go_wp2_with fail; refine (NB.out _ b0).mono ?_; rintro r w' ⟨rfl, rfl⟩; have bw2 := b0; have bx2 := bx; have h2 := h.below b0; clear NB; generalize (w.alloc (.cells #[.bool false, .slice none 0 0, .int .i64 0] 26)) = w2 at *; go_wp2_with fail)
    (have bw3 := bw2; have bx3 := bx2; have MK := Hv false A2 n2 c2 X2 (e) w2 h2 (by omega) (by omega) (by omega) (hT.below bw2); rw [VX2.out, HO.out] at MK; have MK := Be MK; clear h2; refine MK.out.mono ?_; (rintro r w4 ⟨A4, n4, c4, rfl, hA, hb4⟩; have bx4 := bx3.later hb4; have bw4 := Bc bw3 hb4; obtain ⟨k0, k1, k2, f0, f1, f2⟩ := bx4.cell3; clear hb4; go_wp2_with fail; exact bodyPost_ret (v := .tuple #[.agg #[.bool (Ci o).neg, .slice A4 n4 c4, .int .i64 (Ci o).e], .bool o.isSome]) (by simp [results, Tryz.results101, go_sem, k0, k1, k2]) rfl (Bu hA bx4 bw4 (Nat.le_refl _))))
   ·(generalize ho : mkD false _ _ = o; have HO := Be ho; clear ho)
    (go_enter Tryz.func101, Tryz.ntmps101; go_wp2_with fail; refine (NB.out _ b0).mono ?_; rintro r w' ⟨rfl, rfl⟩; have bw2 := b0; have bx2 := bx; have h2 := h.below b0; clear NB; generalize (w.alloc (.cells #[.bool false, .slice none 0 0, .int .i64 0] 26)) = w2 at *; go_wp2_with fail)
    (have A1 := add A2 (some ⟨w2.heap.size, 0, none⟩) n2 c2 1 1 X2 [1] _ (h2.below (Ba (Bb w2) (.cells #[.int .u64 1] 51))) (Db (w := w2) rfl 1 (by decide) (by decide)) (by omega) (by decide); rw [VX2.out, Ds] at A1; refine A1.mono ?_; rintro r w3 ⟨A3, n3, c3, rfl, h3, hb3⟩; have hb23 := Bc (Ba (Bb w2) (.cells #[.int .u64 1] 51)) hb3; have bw3 := Bc bw2 hb23; have bx3 := bx2.later hb23; have l3 := h3.len; have MK := Hv false A3 n3 c3 _ (e) w3 h3.arr (by omega) (by omega) (by omega) (hT.below bw3); rw [V1.out, HO.out] at MK; have MK := Be MK; clear A1 h3 hb3 hb23 h2; go_wp2_with fail; refine MK.out.mono ?_; (rintro r w4 ⟨A4, n4, c4, rfl, hA, hb4⟩; have bx4 := bx3.later hb4; have bw4 := Bc bw3 hb4; obtain ⟨k0, k1, k2, f0, f1, f2⟩ := bx4.cell3; clear hb4; go_wp2_with fail; exact bodyPost_ret (v := .tuple #[.agg #[.bool (Ci o).neg, .slice A4 n4 c4, .int .i64 (Ci o).e], .bool o.isSome]) (by simp [results, Tryz.results101, go_sem, k0, k1, k2]) rfl (Bu hA bx4 bw4 (Nat.le_refl _))))
   ·(generalize ho : mkD true _ _ = o; have HO := Be ho; clear ho)
    (go_enter Tryz.func101, Tryz.ntmps101; go_wp2_with fail; refine (NB.out _ b0).mono ?_; rintro r w' ⟨rfl, rfl⟩; have bw2 := b0; have bx2 := bx; have h2 := h.below b0; clear NB; generalize (w.alloc (.cells #[.bool false, .slice none 0 0, .int .i64 0] 26)) = w2 at *; go_wp2_with fail)
    (have A1 := add A2 (some ⟨w2.heap.size, 0, none⟩) n2 c2 1 1 X2 [1] _ (h2.below (Ba (Bb w2) (.cells #[.int .u64 1] 51))) (Db (w := w2) rfl 1 (by decide) (by decide)) (by omega) (by decide); rw [VX2.out, Ds] at A1; refine A1.mono ?_; rintro r w3 ⟨A3, n3, c3, rfl, h3, hb3⟩; have hb23 := Bc (Ba (Bb w2) (.cells #[.int .u64 1] 51)) hb3; have bw3 := Bc bw2 hb23; have bx3 := bx2.later hb23; have l3 := h3.len; have MK := Hv true A3 n3 c3 _ (e) w3 h3.arr (by omega) (by omega) (by omega) (hT.below bw3); rw [V1.out, HO.out] at MK; have MK := Be MK; clear A1 h3 hb3 hb23 h2; go_wp2_with fail; refine MK.out.mono ?_; (rintro r w4 ⟨A4, n4, c4, rfl, hA, hb4⟩; have bx4 := bx3.later hb4; have bw4 := Bc bw3 hb4; obtain ⟨k0, k1, k2, f0, f1, f2⟩ := bx4.cell3; clear hb4; go_wp2_with fail; exact bodyPost_ret (v := .tuple #[.agg #[.bool (Ci o).neg, .slice A4 n4 c4, .int .i64 (Ci o).e], .bool o.isSome]) (by simp [results, Tryz.results101, go_sem, k0, k1, k2]) rfl (Bu hA bx4 bw4 (Nat.le_refl _))))
   ·(generalize ho : mkD true _ _ = o; have HO := Be ho; clear ho)
    (go_enter Tryz.func101, Tryz.ntmps101; go_wp2_with fail; refine (NB.out _ b0).mono ?_; rintro r w' ⟨rfl, rfl⟩; have bw2 := b0; have bx2 := bx; have h2 := h.below b0; clear NB; generalize (w.alloc (.cells #[.bool false, .slice none 0 0, .int .i64 0] 26)) = w2 at *; go_wp2_with fail)
    (have bw3 := bw2; have bx3 := bx2; have MK := Hv true A2 n2 c2 X2 (e) w2 h2 (by omega) (by omega) (by omega) (hT.below bw2); rw [VX2.out, HO.out] at MK; have MK := Be MK; clear h2; refine MK.out.mono ?_; (rintro r w4 ⟨A4, n4, c4, rfl, hA, hb4⟩; have bx4 := bx3.later hb4; have bw4 := Bc bw3 hb4; obtain ⟨k0, k1, k2, f0, f1, f2⟩ := bx4.cell3; clear hb4; go_wp2_with fail; exact bodyPost_ret (v := .tuple #[.agg #[.bool (Ci o).neg, .slice A4 n4 c4, .int .i64 (Ci o).e], .bool o.isSome]) (by simp [results, Tryz.results101, go_sem, k0, k1, k2]) rfl (Bu hA bx4 bw4 (Nat.le_refl _))))
def Fu (x y P : Int) : Nat := (max 0 (P + 2 + bl y - bl x)).toNat
def Cq (p q : Bool) (xs ys : List Int) (e f P : Int) (up : Bool) : Option Dy :=
 if Bq p xs e && Bq q ys f && Dp P && decide (ys.length ≠ 0) then
  Ji (p != q) (val xs * 2 ^ Fu (val xs) (val ys) P / val ys) (e - f - Fu (val xs) (val ys) P) (decide (val xs * 2 ^ Fu (val xs) (val ys) P % val ys ≠ 0)) P up
 else none
structure Zw (w3 : World) (k : Nat) (p q : Bool) (A A' : Option Addr) (n c n' c' : Nat) (e f : Int) : Prop where
 two : Two w3 k p q A A' n c n' c' e f
 res : Box w3 (k + 1 + 1) #[.bool false, .slice none 0 0, .int .i64 0] 26
theorem dover (p q : Bool) (A A' : Option Addr) (n c n' c' : Nat) (xs ys : List Int) (e f P : Int) (up : Bool) (w : World) (h : Arr w A n c xs) (h' : Arr w A' n' c' ys) (hT : Tz w) :
  Calls Tryz.prog 65 #[.agg #[.bool p, .slice A n c, .int .i64 e], .agg #[.bool q, .slice A' n' c', .int .i64 f], .int .i64 P, .bool up] w (He (Cq p q xs ys e f P up) w) := by
 have b1 : Below w.heap.size w (((w.alloc (.cells #[.bool p, .slice A n c, .int .i64 e] 26)).alloc (.cells #[.bool q, .slice A' n' c', .int .i64 f] 26)).alloc (.cells #[.bool false, .slice none 0 0, .int .i64 0] 26)) := Ba (Ba (Ba (Bb w) _) _) _
 have H := h.below b1
 have H' := h'.below b1
 have DVV := Ha p q A A' n c n' c' xs ys e f H H' 26
 have hsz : (((w.alloc (.cells #[.bool p, .slice A n c, .int .i64 e] 26)).alloc (.cells #[.bool q, .slice A' n' c', .int .i64 f] 26)).alloc (.cells #[.bool false, .slice none 0 0, .int .i64 0] 26)).heap.size = w.heap.size + 1 + 1 + 1 := by simp
 rw [hsz] at DVV
 have bW := Ba (Bb (((w.alloc (.cells #[.bool p, .slice A n c, .int .i64 e] 26)).alloc (.cells #[.bool q, .slice A' n' c', .int .i64 f] 26)).alloc (.cells #[.bool false, .slice none 0 0, .int .i64 0] 26))) (.cells #[.bool p, .slice A n c, .int .i64 e, .bool q, .slice A' n' c', .int .i64 f] 26)
 have b2 := Bc b1 bW
 have PL := Be (Bd2 _ 2 _ rfl _ DVV (by decide))
 have bx := Bg w #[.bool p, .slice A n c, .int .i64 e] 26
 have bx := bx.later (Ba (Bb _) (.cells #[.bool q, .slice A' n' c', .int .i64 f] 26))
 have bx := bx.later (Ba (Bb _) (.cells #[.bool false, .slice none 0 0, .int .i64 0] 26))
 have by1 := Bg (w.alloc (.cells #[.bool p, .slice A n c, .int .i64 e] 26)) #[.bool q, .slice A' n' c', .int .i64 f] 26
 have by1 := by1.later (Ba (Bb _) (.cells #[.bool false, .slice none 0 0, .int .i64 0] 26))
 rw [show (w.alloc (.cells #[.bool p, .slice A n c, .int .i64 e] 26)).heap.size = w.heap.size + 1 by simp] at by1
 have br := Bg ((w.alloc (.cells #[.bool p, .slice A n c, .int .i64 e] 26)).alloc (.cells #[.bool q, .slice A' n' c', .int .i64 f] 26)) #[.bool false, .slice none 0 0, .int .i64 0] 26
 rw [show ((w.alloc (.cells #[.bool p, .slice A n c, .int .i64 e] 26)).alloc (.cells #[.bool q, .slice A' n' c', .int .i64 f] 26)).heap.size = w.heap.size + 1 + 1 by simp] at br
 have KW : ∀ w3, Below ((((w.alloc (.cells #[.bool p, .slice A n c, .int .i64 e] 26)).alloc (.cells #[.bool q, .slice A' n' c', .int .i64 f] 26)).alloc (.cells #[.bool false, .slice none 0 0, .int .i64 0] 26)).alloc (.cells #[.bool p, .slice A n c, .int .i64 e, .bool q, .slice A' n' c', .int .i64 f] 26)).heap.size ((((w.alloc (.cells #[.bool p, .slice A n c, .int .i64 e] 26)).alloc (.cells #[.bool q, .slice A' n' c', .int .i64 f] 26)).alloc (.cells #[.bool false, .slice none 0 0, .int .i64 0] 26)).alloc (.cells #[.bool p, .slice A n c, .int .i64 e, .bool q, .slice A' n' c', .int .i64 f] 26)) w3 → Zw w3 w.heap.size p q A A' n c n' c' e f :=
  fun w3 hb => ⟨⟨(bx.later (Bc bW hb)).cell3, (by1.later (Bc bW hb)).cell3⟩, br.later (Bc bW hb)⟩
 have KW := Be KW
 have ea : [DV.mk p A n c xs e, DV.mk q A' n' c' ys f].all DV.plain = (Bq p xs e && Bq q ys f) := by simp [DV.plain]
 rw [ea] at PL
 obtain ⟨k0, k1, k2, f0, f1, f2⟩ := bx.cell3
 obtain ⟨j0, j1, j2, g0, g1, g2⟩ := by1.cell3
 clear ea bx by1 br DVV hsz
 cases hpl : Bq p xs e && Bq q ys f
 ·rw [hpl] at PL
  have er : Cq p q xs ys e f P up = none := by unfold Cq; rw [hpl]; rfl
  rw [er]
  clear er
  go_enter Tryz.func65, Tryz.ntmps65
  go_wp2_with fail
  refine PL.out.mono ?_; rintro r w3 ⟨rfl, hb3⟩
  have hw3 := Bc b2 hb3
  have br3 := (KW.out w3 hb3).res
  obtain ⟨z0, z1, z2, y0, y1, y2⟩ := br3.cell3
  go_wp2_with fail
  (refine bodyPost_ret (v := .tuple #[.agg #[.bool false, .slice none 0 0, .int .i64 0], .bool false]) (by simp [results, Tryz.results65, go_sem, z0, z1, z2]) rfl ?_; exact Bu (o := none) (Dj _) br3 hw3 (by omega))
 ·rw [hpl] at PL
  have BR := Be (fun w => Bcq P w)
  rw [Bool.and_eq_true] at hpl
  have hp1 := hpl.1
  have hp2 := hpl.2
  obtain ⟨pd1, l1, -, v1⟩ := Bm h.wf hp1
  obtain ⟨pd2, l2, -, v2⟩ := Bm h'.wf hp2
  have hl := h.len
  have hl' := h'.len
  have he := pd1.lo
  have he' := pd1.hi
  have hf := pd2.lo
  have hf' := pd2.hi
  simp only at he he' hf hf'
  by_cases hR : Dp P = true
  ·by_cases hn0 : n' = 0
   ·have er : Cq p q xs ys e f P up = none := by unfold Cq; rw [hp1, hp2, hR, hl', hn0]; rfl
    rw [er]
    rw [hR] at BR
    clear er
    subst hn0
    go_enter Tryz.func65, Tryz.ntmps65
    go_wp2_with fail
    refine PL.out.mono ?_; rintro r w3 ⟨rfl, hb3⟩
    have hw3 := Bc b2 hb3
    have hK := KW.out w3 hb3
    obtain ⟨⟨⟨k0', k1', k2', f0', f1', f2'⟩, ⟨j0', j1', j2', g0', g1', g2'⟩⟩, br3⟩ := hK
    obtain ⟨z0, z1, z2, y0, y1, y2⟩ := br3.cell3
    clear k0 k1 k2 f0 f1 f2 j0 j1 j2 g0 g1 g2
    go_wp2_with fail
    refine (BR.out _).mono ?_; rintro r w' ⟨rfl, rfl⟩
    go_wp2_with fail
    all_goals (refine bodyPost_ret (v := .tuple #[.agg #[.bool false, .slice none 0 0, .int .i64 0], .bool false]) (by simp [results, Tryz.results65, go_sem, z0, z1, z2]) rfl ?_; exact Bu (o := none) (Dj _) br3 hw3 (by omega))
   ·have hyp := v2 (by omega)
    have nx : 0 ≤ val xs := h.val_nonneg
    have hkb0 := Df (val xs)
    have hkb1 := Gc (v := val xs) (a := 64 * n) nx (by rw [← B_pow_pw, ← h.len]; exact val_lt h.wf)
    have hkc0 := Df (val ys)
    have hkc1 := Gc (v := val ys) (a := 64 * n') (by omega) (by rw [← B_pow_pw, ← h'.len]; exact val_lt h'.wf)
    have hPr : 1 ≤ P ∧ P ≤ 8192 := by unfold Dp at hR; simpa using hR
    have er : Cq p q xs ys e f P up = Ji (p != q) (val xs * 2 ^ Fu (val xs) (val ys) P / val ys) (e - f - Fu (val xs) (val ys) P) (decide (val xs * 2 ^ Fu (val xs) (val ys) P % val ys ≠ 0)) P up := by
     unfold Cq
     rw [hp1, hp2, hR, if_pos (by simp [hl', hn0])]
    rw [er]
    rw [hR] at BR
    clear er
    have hk : max 0 (P + 2 + bl (val ys) - bl (val xs)) = ((Fu (val xs) (val ys) P : Nat) : Int) := by unfold Fu; omega
    have hkk : Fu (val xs) (val ys) P ≤ 30000 := by omega
    generalize Fu (val xs) (val ys) P = kk at *
    have hN0 : 0 ≤ val xs * 2 ^ kk := Int.mul_nonneg nx (Int.le_of_lt (pw_pos kk))
    have hNl : (wd (val xs * 2 ^ kk)).length ≤ 800 := by
     refine wd_length_le hN0 ?_
     have a1 : val xs < pw (64 * 256) := by
      rw [← B_pow_pw]
      exact Int.lt_of_lt_of_le (val_lt h.wf) (B_pow_le l1)
     have a2 : val xs * pw kk < pw (64 * 256) * pw kk := Int.mul_lt_mul_of_pos_right a1 (pw_pos kk)
     rw [← pw_add] at a2
     rw [B_pow_pw]
     exact Int.lt_of_lt_of_le a2 (pw_le (by omega))
    have vN := val_wd _ hN0
    have hq0 : 0 ≤ val xs * 2 ^ kk / val ys := Int.ediv_nonneg hN0 (by omega)
    have lq : (wd (val xs * 2 ^ kk / val ys)).length ≤ 800 := wd_length_le hq0 (Int.lt_of_le_of_lt (Int.ediv_le_self _ hN0) (lt_pow_of_wd_length hN0 hNl))
    have vq := val_wd _ hq0
    have hr0 : 0 ≤ val xs * 2 ^ kk % val ys := Int.emod_nonneg _ (by omega)
    have NX := Be (fun w1 hb => Ui A n c xs w1 (H.below (Bc bW hb)) (by omega))
    have NY := Be (fun w1 hb => Ui A' n' c' ys w1 (H'.below (Bc bW hb)) (by omega))
    have SX : ∀ (w1 : World) (hb : Below ((((w.alloc (.cells #[.bool p, .slice A n c, .int .i64 e] 26)).alloc (.cells #[.bool q, .slice A' n' c', .int .i64 f] 26)).alloc (.cells #[.bool false, .slice none 0 0, .int .i64 0] 26)).alloc (.cells #[.bool p, .slice A n c, .int .i64 e, .bool q, .slice A' n' c', .int .i64 f] 26)).heap.size ((((w.alloc (.cells #[.bool p, .slice A n c, .int .i64 e] 26)).alloc (.cells #[.bool q, .slice A' n' c', .int .i64 f] 26)).alloc (.cells #[.bool false, .slice none 0 0, .int .i64 0] 26)).alloc (.cells #[.bool p, .slice A n c, .int .i64 e, .bool q, .slice A' n' c', .int .i64 f] 26)) w1), Calls Tryz.prog 100 #[.slice A n c, .int .i64 (kk : Int)] w1 fun r w5 => ∃ A5 n5 c5, r = .returned (.slice A5 n5 c5) ∧ Arr w5 A5 n5 c5 (wd (val xs * 2 ^ kk)) ∧ Below ((((w.alloc (.cells #[.bool p, .slice A n c, .int .i64 e] 26)).alloc (.cells #[.bool q, .slice A' n' c', .int .i64 f] 26)).alloc (.cells #[.bool false, .slice none 0 0, .int .i64 0] 26)).alloc (.cells #[.bool p, .slice A n c, .int .i64 e, .bool q, .slice A' n' c', .int .i64 f] 26)).heap.size ((((w.alloc (.cells #[.bool p, .slice A n c, .int .i64 e] 26)).alloc (.cells #[.bool q, .slice A' n' c', .int .i64 f] 26)).alloc (.cells #[.bool false, .slice none 0 0, .int .i64 0] 26)).alloc (.cells #[.bool p, .slice A n c, .int .i64 e, .bool q, .slice A' n' c', .int .i64 f] 26)) w5 := by
     intro w1 hb
     have S := shl A n c xs (kk : Int) w1 (H.below (Bc bW hb)) (by omega) (by omega) (by omega)
     rw [Dm (by omega) (by omega), Int.toNat_natCast] at S
     refine S.mono ?_
     rintro r w5 ⟨A5, n5, c5, rfl, ha, hb5⟩
     exact ⟨A5, n5, c5, rfl, ha, Bc hb hb5⟩
    have SX := Be SX
    have DM : ∀ (A5 : Option Addr) (n5 c5 : Nat) (w1 : World) (ha : Arr w1 A5 n5 c5 (wd (val xs * 2 ^ kk))) (hb : Below ((((w.alloc (.cells #[.bool p, .slice A n c, .int .i64 e] 26)).alloc (.cells #[.bool q, .slice A' n' c', .int .i64 f] 26)).alloc (.cells #[.bool false, .slice none 0 0, .int .i64 0] 26)).alloc (.cells #[.bool p, .slice A n c, .int .i64 e, .bool q, .slice A' n' c', .int .i64 f] 26)).heap.size ((((w.alloc (.cells #[.bool p, .slice A n c, .int .i64 e] 26)).alloc (.cells #[.bool q, .slice A' n' c', .int .i64 f] 26)).alloc (.cells #[.bool false, .slice none 0 0, .int .i64 0] 26)).alloc (.cells #[.bool p, .slice A n c, .int .i64 e, .bool q, .slice A' n' c', .int .i64 f] 26)) w1), Calls Tryz.prog 99 #[.slice A5 n5 c5, .slice A' n' c'] w1 fun r w6 => ∃ A6 n6 c6 A7 n7 c7, r = .returned (.tuple #[.slice A6 n6 c6, .slice A7 n7 c7, .bool true]) ∧ Arr w6 A6 n6 c6 (wd (val xs * 2 ^ kk / val ys)) ∧ Arr w6 A7 n7 c7 (wd (val xs * 2 ^ kk % val ys)) ∧ Below ((((w.alloc (.cells #[.bool p, .slice A n c, .int .i64 e] 26)).alloc (.cells #[.bool q, .slice A' n' c', .int .i64 f] 26)).alloc (.cells #[.bool false, .slice none 0 0, .int .i64 0] 26)).alloc (.cells #[.bool p, .slice A n c, .int .i64 e, .bool q, .slice A' n' c', .int .i64 f] 26)).heap.size ((((w.alloc (.cells #[.bool p, .slice A n c, .int .i64 e] 26)).alloc (.cells #[.bool q, .slice A' n' c', .int .i64 f] 26)).alloc (.cells #[.bool false, .slice none 0 0, .int .i64 0] 26)).alloc (.cells #[.bool p, .slice A n c, .int .i64 e, .bool q, .slice A' n' c', .int .i64 f] 26)) w6 := by
     intro A5 n5 c5 w1 ha hb
     have D := Bgr A5 A' n5 c5 n' c' _ ys w1 ha (H'.below (Bc bW hb)) (by rw [← ha.len]; omega)
     unfold Jh Rl Rm at D
     rw [vN, if_neg (by omega), if_neg (by omega), decide_eq_true hyp.1] at D
     refine D.mono ?_
     rintro r w6 ⟨A6, n6, c6, A7, n7, c7, rfl, h6, h7, hb6⟩
     exact ⟨A6, n6, c6, A7, n7, c7, rfl, h6, h7, Bc hb hb6⟩
    have DM := Be DM
    have KS := Be (fun w1 hb => (KW.out w1 hb).two)
    have rz : Hid ((wd (val xs * 2 ^ kk % val ys)).length = 0 ∧ decide (val xs * 2 ^ kk % val ys ≠ 0) = false ∨ 0 < (wd (val xs * 2 ^ kk % val ys)).length ∧ decide (val xs * 2 ^ kk % val ys ≠ 0) = true) := by
     show _ ∨ _
     by_cases hz : val xs * 2 ^ kk % val ys = 0
     ·left; rw [hz, wd_zero (Int.le_refl _)]; exact ⟨rfl, by simp⟩
     ·right; exact ⟨List.length_pos_iff.2 (wd_ne_nil (by omega)), by simp [hz]⟩
    generalize decide (val xs * 2 ^ kk % val ys ≠ 0) = rest at *
    have W1 : IntKind.i64.wrap (P + 2) = P + 2 := by rw [IntKind.wrap_i64]; omega
    have W2 : IntKind.i64.wrap (P + 2 + bl (val ys)) = P + 2 + bl (val ys) := by rw [IntKind.wrap_i64]; omega
    have W3 : IntKind.i64.wrap (P + 2 + bl (val ys) - bl (val xs)) = P + 2 + bl (val ys) - bl (val xs) := by rw [IntKind.wrap_i64]; omega
    have hlA := h.len
    clear hl hl' v1 v2 pd1 pd2 hyp nx hN0 vN hr0 h h' H H' hR hp1 hp2 hpl
    generalize bl (val xs) = bx at *
    generalize bl (val ys) = by1 at *
    go_enter Tryz.func65, Tryz.ntmps65
    go_wp2_with fail
    refine PL.out.mono ?_; rintro r w3 ⟨rfl, hb3⟩
    have hw3 := Bc b2 hb3
    have hK := KW.out w3 hb3
    obtain ⟨⟨⟨k0', k1', k2', f0', f1', f2'⟩, ⟨j0', j1', j2', g0', g1', g2'⟩⟩, br3⟩ := hK
    clear k0 k1 k2 f0 f1 f2 j0 j1 j2 g0 g1 g2
    go_wp2_with fail
    refine (BR.out _).mono ?_; rintro r w' ⟨rfl, rfl⟩
    go_wp2_with fail
    go_region_held3 (fun w' => ((w'.cell? ⟨w.heap.size, 0, none⟩ = some (.bool p) ∧ w'.cell? ⟨w.heap.size, 1, none⟩ = some (.slice A n c) ∧ w'.cell? ⟨w.heap.size, 2, none⟩ = some (.int .i64 e) ∧ w'.frozen? ⟨w.heap.size, 0, none⟩ = false ∧ w'.frozen? ⟨w.heap.size, 1, none⟩ = false ∧ w'.frozen? ⟨w.heap.size, 2, none⟩ = false) ∧ (w'.cell? ⟨w.heap.size + 1, 0, none⟩ = some (.bool q) ∧ w'.cell? ⟨w.heap.size + 1, 1, none⟩ = some (.slice A' n' c') ∧ w'.cell? ⟨w.heap.size + 1, 2, none⟩ = some (.int .i64 f) ∧ w'.frozen? ⟨w.heap.size + 1, 0, none⟩ = false ∧ w'.frozen? ⟨w.heap.size + 1, 1, none⟩ = false ∧ w'.frozen? ⟨w.heap.size + 1, 2, none⟩ = false))) (first | exact KS.out _ ((by repeat with_reducible (first | assumption | exact Bb _ | refine Bd ?_ _ | apply Below.drew | refine Ba ?_ _)))) (first | (go_at_call_of 98 (Value.slice A' n' c'); refine (NY.out _ ?_).mono ?_; (repeat with_reducible (first | assumption | exact Bb _ | refine Bd ?_ _ | apply Below.drew | refine Ba ?_ _)); rintro r w' ⟨rfl, rfl⟩) | (go_at_call_of 98 (Value.slice A n c); refine (NX.out _ ?_).mono ?_; (repeat with_reducible (first | assumption | exact Bb _ | refine Bd ?_ _ | apply Below.drew | refine Ba ?_ _)); rintro r w' ⟨rfl, rfl⟩))
    go_wp2_with fail
    go_region_held3 (fun w' => ((w'.cell? ⟨w.heap.size, 0, none⟩ = some (.bool p) ∧ w'.cell? ⟨w.heap.size, 1, none⟩ = some (.slice A n c) ∧ w'.cell? ⟨w.heap.size, 2, none⟩ = some (.int .i64 e) ∧ w'.frozen? ⟨w.heap.size, 0, none⟩ = false ∧ w'.frozen? ⟨w.heap.size, 1, none⟩ = false ∧ w'.frozen? ⟨w.heap.size, 2, none⟩ = false) ∧ (w'.cell? ⟨w.heap.size + 1, 0, none⟩ = some (.bool q) ∧ w'.cell? ⟨w.heap.size + 1, 1, none⟩ = some (.slice A' n' c') ∧ w'.cell? ⟨w.heap.size + 1, 2, none⟩ = some (.int .i64 f) ∧ w'.frozen? ⟨w.heap.size + 1, 0, none⟩ = false ∧ w'.frozen? ⟨w.heap.size + 1, 1, none⟩ = false ∧ w'.frozen? ⟨w.heap.size + 1, 2, none⟩ = false))) (first | exact KS.out _ ((by repeat with_reducible (first | assumption | exact Bb _ | refine Bd ?_ _ | apply Below.drew | refine Ba ?_ _)))) (first | (go_at_call 100; refine (SX.out _ ?_).mono ?_; (repeat with_reducible (first | assumption | exact Bb _ | refine Bd ?_ _ | apply Below.drew | refine Ba ?_ _)); rintro r w5 ⟨A5, n5, c5, rfl, hA5, hb5⟩) | (go_at_call 99; refine (DM.out _ _ _ _ hA5 ?_).mono ?_; (repeat with_reducible (first | assumption | exact Bb _ | refine Bd ?_ _ | apply Below.drew | refine Ba ?_ _)); rintro r w6 ⟨A6, n6, c6, A7, n7, c7, rfl, h6, h7, hb6⟩))
    have hw6 := Bc b2 hb6
    have br6 := (KW.out w6 hb6).res
    obtain ⟨⟨k0, k1, k2, f0, f1, f2⟩, ⟨j0, j1, j2, g0, g1, g2⟩⟩ := KS.out w6 hb6
    have n6l := h6.len
    have n7l := h7.len
    clear k0' k1' k2' f0' f1' f2' j0' j1' j2' g0' g1' g2' hb3 hw3 br3 SX DM NX NY
    go_wp2_with fail
    have hrest : decide (0 < n7) = rest := by
     have hz := rz.out
     rw [n7l] at hz
     rcases hz with ⟨a, b⟩ | ⟨a, b⟩
     ·rw [b, a]; rfl
     ·rw [b]; exact decide_eq_true a
    rw [hrest]
    have DC := dcut (p != q) A6 n6 c6 _ (e - f - kk) rest P up w6 h6 (by omega) (by omega) (by omega) (by omega) (by omega) (hT.below hw6)
    rw [vq] at DC
    refine DC.mono ?_
    rintro r w7 ⟨A9, n9, c9, rfl, hA, hb7⟩
    have hw7 := Bc hw6 hb7
    have br7 := br6.later hb7
    obtain ⟨z0, z1, z2, y0, y1, y2⟩ := br7.cell3
    clear DC k0 k1 k2 f0 f1 f2 j0 j1 j2 g0 g1 g2
    go_wp2_with fail
    refine bodyPost_ret (v := _) ?_ rfl (Bu hA br7 hw7 (by omega))
    simp [results, Tryz.results65, go_sem, z0, z1, z2]
  ·have er : Cq p q xs ys e f P up = none := by unfold Cq; rw [hp1, hp2, Bool.eq_false_iff.2 hR]; rfl
   rw [er]
   rw [Bool.eq_false_iff.2 hR] at BR
   clear er
   go_enter Tryz.func65, Tryz.ntmps65
   go_wp2_with fail
   refine PL.out.mono ?_; rintro r w3 ⟨rfl, hb3⟩
   have hw3 := Bc b2 hb3
   have br3 := (KW.out w3 hb3).res
   obtain ⟨z0, z1, z2, y0, y1, y2⟩ := br3.cell3
   go_wp2_with fail
   refine (BR.out _).mono ?_; rintro r w' ⟨rfl, rfl⟩
   go_wp2_with fail
   (refine bodyPost_ret (v := .tuple #[.agg #[.bool false, .slice none 0 0, .int .i64 0], .bool false]) (by simp [results, Tryz.results65, go_sem, z0, z1, z2]) rfl ?_; exact Bu (o := none) (Dj _) br3 hw3 (by omega))
theorem Kd (neg : Bool) (A : Option Addr) (n c : Nat) (xs : List Int) (e : Int) (w : World) (h : Arr w A n c xs) (hn : n ≤ 100000000) :
  Calls Tryz.prog 85 #[.agg #[.bool neg, .slice A n c, .int .i64 e]] w fun r w' => r = .returned (.bool (Bq neg xs e)) ∧ Below w.heap.size w w' := by
 have hl := h.len
 have hcap := h.cap
 have hbig := h.big
 have HL := Be hl
 clear hl
 by_cases h0 : n = 0
 ·subst h0
  have hp : Bq neg xs e = (decide (e = 0) && !neg) := by unfold Bq; rw [if_pos HL.out]
  have HP := Be hp
  clear hp
  go_enter Tryz.func85, Tryz.ntmps85
  go_wp2_with fail
  all_goals go_ret
  ·have he : e = 0 := by assumption
   exact ⟨by rw [HP.out]; subst he; simp, Ba (Bb w) _⟩
  ·have he : ¬ e = 0 := by assumption
   exact ⟨by rw [HP.out]; simp [he], Ba (Bb w) _⟩
 ·have hp : Bq neg xs e = (decide (xs[n - 1]?.getD 0 ≠ 0) && decide (xs[0]?.getD 0 % 2 = 1) && decide (n ≤ 256) && decide (-262144 ≤ e) && decide (e ≤ 262144)) := by
   unfold Bq; rw [if_neg (by rw [HL.out]; exact h0), HL.out, List.getD_eq_getElem?_getD, List.getD_eq_getElem?_getD]
  have HP := Be hp
  clear hp
  have hbl := Gc (v := val xs) (a := 64 * n) h.val_nonneg (by rw [← B_pow_pw, ← HL.out]; exact val_lt h.wf)
  have RB := Be (fun w' (hb : Below w.heap.size w w') => Th A n c xs w' (h.below hb) (by omega))
  obtain ⟨b, o, rfl, hlt, hc⟩ := h.mem (by omega)
  have k1 := hc (n - 1) (by omega)
  have k2 := hc 0 (by omega)
  rw [Nat.add_zero] at k2
  have l1 : 0 < n := by omega
  clear hc
  have a1 := h.words 0
  rw [List.getD_eq_getElem?_getD] at a1
  have b0 := Ba (Bb w) (.cells #[.bool neg, .slice (some ⟨b, o, none⟩) n c, .int .i64 e] 26)
  generalize bl (val xs) = q at *
  go_enter Tryz.func85, Tryz.ntmps85
  go_wp2_with fail
  ·go_ret
   have z : xs[n - 1]?.getD 0 = 0 := by assumption
   exact ⟨by rw [HP.out]; refine Ht ?_; simp [z], b0⟩
  ·have z : ¬ xs[n - 1]?.getD 0 = 0 := by assumption
   have z1 : xs[0]?.getD 0 % 2 = 1 := by assumption
   have z2 : (n : Int) ≤ 256 := by assumption
   have hq : q ≤ 16384 := by omega
   refine (RB.out _ b0).mono ?_
   rintro r w2 ⟨rfl, hb2⟩
   obtain ⟨j0, j1, j2, _, _, _⟩ := ((Bg w _ _).later hb2).cell3
   have b2 := Bc b0 hb2
   go_wp2_with fail
   all_goals go_ret
   ·have z3 : -262144 ≤ e := by assumption
    have z2' : n ≤ 256 := by omega
    exact ⟨by rw [HP.out]; refine Ht ?_; simp [z, z1, z2', z3], b2⟩
   ·have z3 : e < -262144 := by assumption
    exact ⟨by rw [HP.out]; refine Ht ?_; simp; omega, b2⟩
  ·go_ret
   have z1 : 256 < (n : Int) := by assumption
   exact ⟨by rw [HP.out]; refine Ht ?_; simp; omega, b0⟩
  ·go_ret
   have z1 : ¬ xs[0]?.getD 0 % 2 = 1 := by assumption
   exact ⟨by rw [HP.out]; refine Ht ?_; simp [z1], b0⟩
theorem Yj {X : List Int} (hw : Wf X) {q r : Nat} (hq : q < X.length) (hr : r < 64) : (X[q]?.getD 0 / 2 ^ r) % 2 = (val X / pw (64 * q + r)) % 2 := by
 have h1 := val_drop hw q
 rw [List.drop_eq_getElem_cons hq, val_cons, B_pow_pw] at h1
 rw [List.getElem?_eq_getElem hq, pw_add, ← Int.ediv_ediv_of_nonneg (by have := pw_pos (64 * q); omega), ← h1]
 have e : B = pw r * (2 * pw (63 - r)) := by
  rw [B_split (Nat.le_of_lt hr), show 64 - r = 1 + (63 - r) from by omega, pw_add]; rfl
 have hp := pw_pos r
 show X[q] / pw r % 2 = _
 rw [e, Int.mul_assoc, Int.add_mul_ediv_left _ _ (by omega), Int.mul_assoc, Int.add_mul_emod_self_left]
theorem Ss {v : Int} {z : Nat} (h : 0 < v) (hz : z < tz v) : (v / pw z) % 2 = 0 := by
 obtain ⟨h1, _, _⟩ := odd_split h
 have e : v = pw z * (2 * (pw (tz v - z - 1) * oddI v)) := by
  conv => lhs; rw [h1]
  rw [show tz v = z + (1 + (tz v - z - 1)) from by omega, pw_add, pw_add]
  have : pw 1 = 2 := rfl
  rw [this, show z + (1 + (tz v - z - 1)) - z - 1 = tz v - z - 1 from by omega]; grind
 rw [e, Int.mul_ediv_cancel_left _ (by have := pw_pos z; omega)]
 omega
theorem Bdi {v : Int} (h : 0 < v) : (v / pw (tz v)) % 2 = 1 := (odd_split h).2.1
theorem Bj0 {v : Int} (a b : Nat) : v / pw a / pw b = v / pw (a + b) := by
 rw [Int.ediv_ediv_of_nonneg (by have := pw_pos a; omega), pw_add]
theorem Ts {x y : Int} (h0 : 0 ≤ x) (h : x ≤ y) : (wd x).length ≤ (wd y).length :=
 wd_length_le h0 (Int.lt_of_le_of_lt h (lt_pow_of_wd_length (by omega) (Nat.le_refl _)))
theorem Uc {v : Int} (h0 : 0 ≤ v) (a : Nat) : (wd (v / pw a)).length ≤ (wd v).length :=
 Ts (Int.ediv_nonneg h0 (by have := pw_pos a; omega)) (Int.ediv_le_self _ h0)
theorem La (neg : Bool) (A : Option Addr) (n c : Nat) (xs : List Int) (e : Int) (w : World) (h : Arr w A n c xs) (hn : n ≤ 1000000) (he0 : -9223372036854775808 ≤ e) (he1 : e ≤ 9223372036854775807) :
  Calls Tryz.prog 70 #[.bool neg, .slice A n c, .int .i64 e] w (He (mkD neg (val xs) e) w) := by
 have b0 : Below w.heap.size w (w.alloc (.cells #[.bool false, .slice none 0 0, .int .i64 0] 26)) := Ba (Bb w) _
 have T := Be (Lz A n c xs _ (h.below b0) (by omega))
 by_cases hv : val xs = 0
 ·have em : mkD neg (val xs) e = some Dy.zero := by unfold mkD; rw [if_pos hv]
  rw [em]
  have HZ := Be (show wd (val xs) = [] by rw [hv]; exact wd_zero (Int.le_refl _))
  clear hv em
  go_enter Tryz.func70, Tryz.ntmps70
  go_wp2_with fail
  refine T.out.mono ?_
  rintro r w2 ⟨A2, n2, c2, rfl, hA2, hb2⟩
  have bw2 := Bc b0 hb2
  obtain ⟨k0, k1, k2, f0, f1, f2⟩ := ((Bg w _ _).later hb2).cell3
  rw [HZ.out] at hA2
  obtain rfl : n2 = 0 := hA2.len.symm
  go_wp2_with fail
  refine bodyPost_ret (v := .tuple #[.agg #[.bool false, .slice none 0 0, .int .i64 0], .bool true]) (by simp [results, Tryz.results70, go_sem, k0, k1, k2]) rfl ⟨none, 0, 0, rfl, ?_, (by repeat (first | with_reducible assumption | exact Bb _ | refine Bo ?_ _ _ (by first | exact Nat.le_refl _ | omega | (simp; done) | (simp; omega)) _ | refine Ba ?_ _ | apply Below.drew | apply Bd))⟩
  have : wd (Ci (some Dy.zero)).m = [] := wd_zero (Int.le_refl _)
  rw [this]; exact Arr.nothing _
 ·have hp : 0 < val xs := by have := h.val_nonneg; omega
  have hpos : 0 < (wd (val xs)).length := List.length_pos_iff.2 (wd_ne_nil hp)
  have hlen := wd_len h.wf
  rw [h.len] at hlen
  have hvX := val_wd (val xs) (by omega)
  go_enter Tryz.func70, Tryz.ntmps70
  go_wp2_with fail
  refine T.out.mono ?_
  rintro r w2 ⟨A2, n2, c2, rfl, hA2, hb2⟩
  have bw2 := Bc b0 hb2
  have bx2 := (Bg w _ _).later hb2
  have hx2 := hA2.arr
  have hn2 : n2 = (wd (val xs)).length := hA2.len.symm
  have hn2b : n2 ≤ 1000000 := by omega
  have hle := fun a => Uc (v := val xs) (by omega) a
  rw [← hn2] at hle
  have HLE := Be hle
  clear hle
  have d0 : ((n2 : Int) == 0) = false := beq_eq_false_iff_ne.2 (by omega)
  have htz : tz (val xs) < 64 * n2 := by
   have := tz_lt hx2.wf (by rw [hvX]; exact hp)
   rw [hvX, ← hn2] at this; exact this
  have hbit := fun (q r : Nat) (hq : q < n2) (hr : r < 64) => Yj hx2.wf (q := q) (by rw [← hn2]; exact hq) hr
  rw [hvX] at hbit
  have hev := fun z => Ss (v := val xs) (z := z) hp
  have hod := Bdi hp
  have hfin : oddI (val xs) = val xs / pw (tz (val xs)) := rfl
  have hou := oddI_pos hp
  have hodd := (odd_split hp).2.1
  have hpl := Gq hou
  have hM2 : mkD neg (val xs) e = if 262144 < e ∨ e < -262144 - (tz (val xs) : Int) then none else if (wd (oddI (val xs))).length ≤ 256 ∧ e + (tz (val xs) : Int) ≤ 262144 then some ⟨neg, oddI (val xs), e + tz (val xs)⟩ else none := by
   unfold mkD; rw [if_neg hv]
  generalize hX : wd (val xs) = X at *
  generalize tz (val xs) = z at *
  generalize oddI (val xs) = u at *
  have HX := Be hX
  have HB := Be hbit
  have HE := Be hev
  have HO := Be hod
  have HF := Be hfin
  have HM := Be hM2
  have HP := Be hpl
  have HN := Be hn2
  have HU := Be hodd
  have hz' : z < 64000000 := by omega
  clear hX hbit hev hod hfin hM2 hpl hn2 hodd hv hvX T
  go_wp2_with fail
  go_loop [9] (fun v => ∃ k : Nat, k ≤ z ∧ v = .int .i64 k) (fun v => z - (intOf v).toNat)
  case atStart => exact ⟨0, Nat.zero_le _, rfl⟩
  case round =>
   obtain ⟨k, hk, rfl⟩ := hrel
   obtain ⟨q, r, hr, rfl⟩ : ∃ q r : Nat, r < 64 ∧ k = 64 * q + r := ⟨k / 64, k % 64, by omega, by omega⟩
   have hq : q < n2 := by omega
   obtain ⟨b, o, rfl, hlt, hc⟩ := hx2.mem (by omega)
   have k1 := hc q hq
   have hb := HB.out q r hq hr
   have q1 : ((64 * q + r : Nat) : Int) / 64 = q := by omega
   have q2 : ((64 * q + r : Nat) : Int) % 64 = r := by omega
   have x1 := hx2.words q
   rw [List.getD_eq_getElem?_getD] at x1
   have hnn : 0 ≤ X[q]?.getD 0 / 2 ^ r := Int.ediv_nonneg x1.1 (Int.le_of_lt (Int.pow_pos (by decide)))
   have hlast : 64 * q + r < z ∨ 64 * q + r = z := by omega
   clear hc
   generalize hK : 64 * q + r = K at *
   have HK := Be hK
   clear hK
   by_cases hkz : K < z
   ·have he := HE.out K hkz
    rw [← hb] at he
    have hbb : (X[q]?.getD 0 / 2 ^ r % 2 == 0) = true := beq_iff_eq.2 he
    clear hb he
    go_wp2_with fail
    exact ⟨⟨K + 1, by omega, by go_num⟩, by simp only [intOf]; omega⟩
   ·obtain rfl : K = z := by omega
    have he := HO.out
    rw [← hb] at he
    have hbb : (X[q]?.getD 0 / 2 ^ r % 2 == 0) = false := beq_eq_false_iff_ne.2 (by omega)
    clear hb he
    by_cases t1 : 262144 < e
    ·have d1 : decide (262144 < e) = true := by simp [t1]
     have em := HM.out
     rw [if_pos (.inl t1)] at em
     have EM := Be em
     clear em
     obtain ⟨k0, k1', k2, f0, f1, f2⟩ := bx2.cell3
     go_wp2_with fail
     refine bodyPost_ret (v := .tuple #[.agg #[.bool false, .slice none 0 0, .int .i64 0], .bool false]) (by simp [results, Tryz.results70, go_sem, k0, k1', k2]) rfl (by rw [EM.out]; exact ⟨none, 0, 0, rfl, Dj _, (by repeat (first | with_reducible assumption | exact Bb _ | refine Bo ?_ _ _ (by first | exact Nat.le_refl _ | omega | (simp; done) | (simp; omega)) _ | refine Ba ?_ _ | apply Below.drew | apply Bd))⟩)
    ·have d1 : decide (262144 < e) = false := by simp [t1]
     by_cases t2 : e < -1000000000
     ·have d2 : decide (e < -1000000000) = true := by simp [t2]
      have em := HM.out
      rw [if_pos (.inr (by omega))] at em
      have EM := Be em
      clear em
      obtain ⟨k0, k1', k2, f0, f1, f2⟩ := bx2.cell3
      go_wp2_with fail
      refine bodyPost_ret (v := .tuple #[.agg #[.bool false, .slice none 0 0, .int .i64 0], .bool false]) (by simp [results, Tryz.results70, go_sem, k0, k1', k2]) rfl (by rw [EM.out]; exact ⟨none, 0, 0, rfl, Dj _, (by repeat (first | with_reducible assumption | exact Bb _ | refine Bo ?_ _ _ (by first | exact Nat.le_refl _ | omega | (simp; done) | (simp; omega)) _ | refine Ba ?_ _ | apply Below.drew | apply Bd))⟩)
     ·have d2 : decide (e < -1000000000) = false := by simp [t2]
      go_wp2_with fail
      go_loopw [8, 10, 11] (fun va vk _ wr => ∃ (j : Nat) (A3 : Option Addr) (n3 c3 : Nat), j ≤ K ∧ vk = .int .i64 j ∧ va = .slice A3 n3 c3 ∧ Arr wr A3 n3 c3 (wd (val xs / pw (K - j))) ∧ n3 ≤ n2 ∧ Below w2.heap.size w2 wr) (fun _ vk _ _ => (intOf vk).toNat)
      case atStart => exact ⟨K, _, _, _, Nat.le_refl _, rfl, rfl, by rw [Nat.sub_self, show pw 0 = 1 from rfl, Int.ediv_one, HX.out]; exact hx2, Nat.le_refl _, Bb _⟩
      case round =>
       obtain ⟨j, A3, n3, c3, hj, rfl, rfl, hA3, hn3, hW⟩ := hrel
       by_cases hj0 : 0 < j
       ·go_wp2_with fail
        have hn3' : n3 ≤ 17592186044416 := by omega
        refine (rshr A3 n3 c3 _ (min (j : Int) 1048576) wr hA3 hn3' (by omega) (by omega)).mono ?_
        rintro r' w5 ⟨A5, n5, c5, rfl, hA5, hb5⟩
        have hvd : 0 ≤ val xs / pw (K - j) := Int.ediv_nonneg (by omega) (by have := pw_pos (K - j); omega)
        rw [val_wd _ hvd, Gs (by omega) (by omega)] at hA5
        have e5 : val xs / pw (K - j) / 2 ^ (min (j : Int) 1048576).toNat = val xs / pw (K - (j - min j 1048576)) := by
         have : (min (j : Int) 1048576).toNat = min j 1048576 := by omega
         rw [this]
         show val xs / pw (K - j) / pw (min j 1048576) = _
         rw [Bj0]; congr 2; omega
        rw [e5] at hA5
        have hn5 : n5 ≤ n2 := by rw [← hA5.len]; exact HLE.out _
        have e6 : (j : Int) - min (j : Int) 1048576 = ((j - min j 1048576 : Nat) : Int) := by omega
        have E6 := Be e6
        clear e5 e6
        go_wp2_with fail
        exact ⟨⟨j - min j 1048576, A5, n5, c5, by omega, by rw [E6.out], rfl, hA5, hn5, Bc hW hb5⟩, by simp only [intOf]; omega⟩
       ·obtain rfl : j = 0 := by omega
        rw [Nat.sub_zero, ← HF.out] at hA3
        have bw3 := bw2.trans (hW.mono bw2.size)
        have bx3 := bx2.later hW
        go_wp2_with fail
        have bw4 : Below wr.heap.size wr (wr.alloc (.cells #[.bool neg, .slice A3 n3 c3, .int .i64 (e + (K : Int))] 26)) := Ba (Bb wr) _
        have bd := Bg wr #[.bool neg, .slice A3 n3 c3, .int .i64 (e + (K : Int))] 26
        refine (Kd neg A3 n3 c3 _ (e + K) _ (hA3.below bw4) (by omega)).mono ?_
        rintro r' w5 ⟨rfl, hb5⟩
        rw [HP.out]
        have bg5 := ((bx3.below bw4 bx3.lt).later hb5)
        have bd5 := bd.later hb5
        have bw5 := Bc (Bc bw3 bw4) hb5
        have hA5 := (hA3.below bw4).below hb5
        obtain ⟨k0, k1', k2, f0, f1, f2⟩ := bg5.cell3
        obtain ⟨j0, j1, j2, _, _, _⟩ := bd5.cell3
        have hne : w.heap.size ≠ wr.heap.size := by have := bx3.lt; omega
        by_cases t3 : (wd u).length ≤ 256 ∧ e + (K : Int) ≤ 262144 ∧ -262144 ≤ e + (K : Int)
        ·have d3 : (decide (u % 2 = 1) && decide ((wd u).length ≤ 256) && decide (-262144 ≤ e + (K : Int)) && decide (e + (K : Int) ≤ 262144)) = true := by
          have := HU.out
          simp [this, t3.1, t3.2.1, t3.2.2]
         rw [d3]
         have em := HM.out
         rw [if_neg (by omega), if_pos ⟨t3.1, t3.2.1⟩] at em
         have EM := Be em
         clear em
         go_wp2_with fail
         refine bodyPost_ret (v := .tuple #[.agg #[.bool neg, .slice A3 n3 c3, .int .i64 (e + (K : Int))], .bool true]) (by simp [results, Tryz.results70, go_sem, k0, k1', k2]) rfl ?_
         rw [EM.out]
         exact ⟨A3, n3, c3, rfl, hA5.set3 bg5 _ _ _ (by simp) (by simp), (by repeat (first | with_reducible assumption | exact Bb _ | refine Bo ?_ _ _ (by first | exact Nat.le_refl _ | omega | (simp; done) | (simp; omega)) _ | refine Ba ?_ _ | apply Below.drew | apply Bd))⟩
        ·have d3 : (decide (u % 2 = 1) && decide ((wd u).length ≤ 256) && decide (-262144 ≤ e + (K : Int)) && decide (e + (K : Int) ≤ 262144)) = false := by
          simp; omega
         rw [d3]
         have em : mkD neg (val xs) e = none := by
          rw [HM.out]
          by_cases t4 : e < -262144 - (K : Int)
          ·rw [if_pos (.inr t4)]
          ·rw [if_neg (by omega), if_neg (by omega)]
         have EM := Be em
         clear em
         go_wp2_with fail
         refine bodyPost_ret (v := .tuple #[.agg #[.bool false, .slice none 0 0, .int .i64 0], .bool false]) (by simp [results, Tryz.results70, go_sem, k0, k1', k2]) rfl ?_
         rw [EM.out]
         exact ⟨none, 0, 0, rfl, Dj _, (by repeat (first | with_reducible assumption | exact Bb _ | refine Bo ?_ _ _ (by first | exact Nat.le_refl _ | omega | (simp; done) | (simp; omega)) _ | refine Ba ?_ _ | apply Below.drew | apply Bd))⟩
theorem Box.otherR {w w' : World} {g : Nat} {cs : Array Value} {t : TypeId} {r : Option Nat} (h : Box w g cs t) (hg : w.grownBy w' r) (hne : some g ≠ r) : Box w' g cs t := ⟨(hg.block g h.lt hne).trans h.heap⟩
theorem Bbs {p : Bool} {A0 : Option Addr} {n0 c0 : Nat} {e : Int} : ∀ (i : Nat) (x : Int), (#[Value.bool p, .slice A0 n0 c0, .int .i64 e] : Array Value)[i]? ≠ some (Value.int .u64 x)
 | 0, _ => by simp
 | 1, _ => by simp
 | 2, _ => by simp
 | i + 3, _ => by simp
def Ho (p : Bool) (xs : List Int) (e : Int) : Option Dy := if Bq p xs e then some ⟨!p && decide (0 < xs.length), val xs, e⟩ else none
theorem Bef (p : Bool) (A : Option Addr) (n c : Nat) (xs : List Int) (e : Int) (w : World) (h : Arr w A n c xs) (hn : n ≤ 100000000) :
  Calls Tryz.prog 81 #[.agg #[.bool p, .slice A n c, .int .i64 e]] w (He (Ho p xs e) w) := by
 have b1 : Below w.heap.size w ((w.alloc (.cells #[.bool p, .slice A n c, .int .i64 e] 26)).alloc (.cells #[.bool false, .slice none 0 0, .int .i64 0] 26)) := Ba (Ba (Bb w) _) _
 have H := h.below b1
 have PL := Be (Kd p A n c xs e _ H hn)
 have bx := (Bg w #[.bool p, .slice A n c, .int .i64 e] 26).later (Ba (Bb _) (.cells #[.bool false, .slice none 0 0, .int .i64 0] 26))
 have br := Bg (w.alloc (.cells #[.bool p, .slice A n c, .int .i64 e] 26)) #[.bool false, .slice none 0 0, .int .i64 0] 26
 rw [show (w.alloc (.cells #[.bool p, .slice A n c, .int .i64 e] 26)).heap.size = w.heap.size + 1 by simp] at br
 obtain ⟨k0, k1, k2, f0, f1, f2⟩ := bx.cell3
 cases hpl : Bq p xs e
 ·have er : Ho p xs e = none := by unfold Ho; rw [hpl]; rfl
  rw [er]
  rw [hpl] at PL
  go_enter Tryz.func81, Tryz.ntmps81
  go_wp2_with fail
  refine PL.out.mono ?_; rintro r w3 ⟨rfl, hb3⟩
  have hw3 := Bc b1 hb3
  have br3 := br.later hb3
  obtain ⟨z0, z1, z2, y0, y1, y2⟩ := br3.cell3
  go_wp2_with fail
  refine bodyPost_ret (v := .tuple #[.agg #[.bool false, .slice none 0 0, .int .i64 0], .bool false]) (by simp [results, Tryz.results81, go_sem, z0, z1, z2]) rfl ?_
  exact Bu (o := none) (Dj _) br3 hw3 (by omega)
 ·obtain ⟨pd, l256, wx, vp⟩ := Bm h.wf hpl
  have er : Ho p xs e = some ⟨!p && decide (0 < n), val xs, e⟩ := by unfold Ho; rw [hpl, h.len]; rfl
  rw [er]
  rw [hpl] at PL
  have TR := Be (fun w1 (hb : Below ((w.alloc (.cells #[.bool p, .slice A n c, .int .i64 e] 26)).alloc (.cells #[.bool false, .slice none 0 0, .int .i64 0] 26)).heap.size ((w.alloc (.cells #[.bool p, .slice A n c, .int .i64 e] 26)).alloc (.cells #[.bool false, .slice none 0 0, .int .i64 0] 26)) w1) => Lz A n c xs w1 (H.below hb) (by omega))
  have H3 := Be (fun w3 (hb : Below ((w.alloc (.cells #[.bool p, .slice A n c, .int .i64 e] 26)).alloc (.cells #[.bool false, .slice none 0 0, .int .i64 0] 26)).heap.size ((w.alloc (.cells #[.bool p, .slice A n c, .int .i64 e] 26)).alloc (.cells #[.bool false, .slice none 0 0, .int .i64 0] 26)) w3) (v : Value) => Lz A n c xs (w3.setCell ⟨w.heap.size, 0, none⟩ v) ((H.below hb).set_box (bx.later hb) Bbs 0 v) (by omega))
  have hz : n = 0 → p = false := fun hh => (pd.z (by rw [List.length_eq_zero_iff.1 (h.len.trans hh)]; rfl)).2
  clear pd vp h H er hpl wx
  generalize val xs = m at *
  by_cases h0 : n = 0
  ·obtain rfl := hz h0
   subst h0
   go_enter Tryz.func81, Tryz.ntmps81
   go_wp2_with fail
   refine PL.out.mono ?_; rintro r w3 ⟨rfl, hb3⟩
   have hw3 := Bc b1 hb3
   have bx3 := bx.later hb3
   obtain ⟨x0, x1, x2, t0, t1, t2⟩ := bx3.cell3
   clear k0 k1 k2 f0 f1 f2
   go_wp2_with fail
   refine (TR.out w3 hb3).mono ?_; rintro r w5 ⟨A5, n5, c5, rfl, h5, hb5⟩
   have hw5 := Bc hw3 hb5
   have bx5 := bx3.later hb5
   have br5 := (br.later hb3).later hb5
   obtain ⟨u0, u1, u2, v0, v1, v2⟩ := bx5.cell3
   obtain ⟨z0, z1, z2, y0, y1, y2⟩ := br5.cell3
   clear x0 x1 x2 t0 t1 t2 TR
   go_wp2_with fail
   refine bodyPost_ret (v := _) ?_ rfl (Bu (o := some ⟨!false && decide (0 < 0), m, e⟩) (h5.arr.set_box bx5 Bbs 1 _) (br5.otherR (Br _ _ _ _) (by simp)) (Bo hw5 _ _ (Nat.le_refl _) _) (by omega))
   simp [results, Tryz.results81, go_sem, z0, z1, z2]
   try exact ⟨rfl, rfl⟩
  ·have hd : decide ((n : Int) > 0) = true := by simp; omega
   have hd2 : decide (0 < n) = true := by simp; omega
   rw [hd2, Bool.and_true]
   go_enter Tryz.func81, Tryz.ntmps81
   go_wp2_with fail
   refine PL.out.mono ?_; rintro r w3 ⟨rfl, hb3⟩
   have hw3 := Bc b1 hb3
   have bx3 := bx.later hb3
   obtain ⟨x0, x1, x2, t0, t1, t2⟩ := bx3.cell3
   clear k0 k1 k2 f0 f1 f2
   go_wp2_with fail
   refine (H3.out w3 hb3 _).mono ?_; rintro r w5 ⟨A5, n5, c5, rfl, h5, hb5⟩
   have hw4 := Bo hw3 w.heap.size 0 (Nat.le_refl _) (.bool !p)
   have hw5 := Bc hw4 hb5
   have bx4 := bx3.set 0 (.bool !p)
   have br4 := (br.later hb3).otherR (Br w3 w.heap.size 0 (.bool !p)) (by simp)
   have bx5 := bx4.later hb5
   have br5 := br4.later hb5
   have bx5 : Box w5 w.heap.size #[.bool !p, .slice A n c, .int .i64 e] 26 := bx5
   obtain ⟨u0, u1, u2, v0, v1, v2⟩ := bx5.cell3
   obtain ⟨z0, z1, z2, y0, y1, y2⟩ := br5.cell3
   clear x0 x1 x2 t0 t1 t2 TR H3
   go_wp2_with fail
   refine bodyPost_ret (v := _) ?_ rfl (Bu (o := some ⟨!p, m, e⟩) (h5.arr.set_box bx5 Bbs 1 _) (br5.otherR (Br _ _ _ _) (by simp)) (Bo hw5 _ _ (Nat.le_refl _) _) (by omega))
   simp [results, Tryz.results81, go_sem, z0, z1, z2]
   exact ⟨by cases p <;> rfl, rfl⟩
end Go.Proofs.YteffemhapnbaeaaGreatDoor
