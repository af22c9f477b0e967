/- The law NatSquares. -/
import Derived.Test.YtbonbcmdafpceaaLwD
import Derived.Test.YtbonbcmdafpceaaNatQ
namespace Go.Proofs.Ytbonbcmdafpceaa
open Go.RowKit Num
set_option maxRecDepth 100000

theorem root_unique {s v : Int} (hs : 0 ≤ s) (hv : 0 ≤ v) (h1 : s * s ≤ v * v) (h2 : v * v < (s + 1) * (s + 1)) : s = v := by
  by_cases a : s < v
  · have : (s + 1) * (s + 1) ≤ v * v := Int.mul_le_mul (by omega) (by omega) (by omega) (by omega)
    omega
  · by_cases b : v < s
    · have h3 : (v + 1) * (v + 1) ≤ s * s := Int.mul_le_mul (by omega) (by omega) (by omega) (by omega)
      have h4 : (v + 1) * (v + 1) = v * v + 2 * v + 1 := by grind
      omega
    · omega
theorem root_ten {s : Int} (hs : 0 ≤ s) (h1 : s * s ≤ 10) (h2 : 10 < (s + 1) * (s + 1)) : s = 3 := by
  by_cases a : s ≤ 2
  · have : (s + 1) * (s + 1) ≤ 3 * 3 := Int.mul_le_mul (by omega) (by omega) (by omega) (by omega)
    omega
  · by_cases b : 4 ≤ s
    · have : 4 * 4 ≤ s * s := Int.mul_le_mul b b (by omega) (by omega)
      omega
    · omega
theorem root_len {s v : Int} {k : Nat} (hs : 0 ≤ s) (h : s * s ≤ v) (hv : v < B ^ k) : (wd s).length ≤ k := by
  refine wd_length_le hs ?_
  by_cases h0 : s = 0
  · subst h0; exact B_pow_pos k
  · have : s * 1 ≤ s * s := Int.mul_le_mul_of_nonneg_left (by omega) hs
    omega
set_option maxHeartbeats 2000000 in
theorem natSquares (A : Option Addr) (n c : Nat) (xs : List Int) (w : World) (h : Arr w A n c xs) :
    Calls Try.prog 9 #[.slice A n c] w fun r w' => r = .returned (.bool true) ∧ Below w.heap.size w w' := by
  have b0 := below_alloc (below_self w) (.cells #[.int .u64 10] 22)
  have S0 := sqrt (some ⟨w.heap.size, 0, none⟩) 1 1 [10] _ (arr_one (w := w) rfl 10 (by decide) (by decide)) (by decide)
  rw [val_one] at S0
  have S0 := Lib.hid S0
  by_cases g : n ≤ 60
  · have hf : fewB 60 [(A, n, c)] = true := by simp [fewB, g]
    have nx := h.val_nonneg
    have lx := h.len
    have hvlt := val_lt h.wf
    have vx1 : (val xs + 0) = val xs := by omega
    go_enter Try.func9, Try.ntmps9
    go_wp2_with fail
    refine S0.out.mono ?_
    rintro r w0 ⟨A0, n0, c0, B0, m0, d0, s0, rfl, hs0, -, z0, z1, z2, bw0⟩
    obtain rfl := root_ten z0 z1 z2
    rw [wd_small (by decide) (by decide)] at hs0
    obtain rfl : n0 = 1 := hs0.len.symm
    have b1 := below_on b0 bw0
    clear z0 z1 z2
    go_wp2_with fail
    refine (awake01 w0).mono ?_
    rintro r w1 ⟨rfl, b1'⟩
    have b1 := below_on b1 b1'
    go_wp2_with fail
    have b2 := below_alloc b1 (.cells #[.slice A n c] 31)
    refine (few 60 w1.heap.size [(A, n, c)] 1 rfl _ (by decide) (by decide) (box_list w1 _ _)).mono ?_
    rintro r w' ⟨rfl, rfl⟩
    rw [hf]
    clear hf hs0 b1' bw0
    go_wp2_with fail
    refine (sqrt A n c xs _ (h.below b2) (by omega)).mono ?_
    rintro r w3 ⟨A1, n1, c1, A2, n2, c2, s, rfl, h1, h2, s0, s1, s2, b3⟩
    have bw3 := below_on b2 b3
    have l1 := h1.len
    have l2 := h2.len
    have ls := root_len s0 s1 hvlt
    have lr : (wd (val xs - s * s)).length ≤ xs.length := wd_length_le (by omega) (by
      have := Int.mul_nonneg s0 s0
      omega)
    have vs := val_wd s s0
    have vr := val_wd (val xs - s * s) (by omega)
    have ss0 := Int.mul_nonneg s0 s0
    have vss := val_wd (s * s) ss0
    have lss : (wd (s * s)).length ≤ xs.length := wd_length_le ss0 (by omega)
    have e1 : s * s + (val xs - s * s) = val xs := by omega
    have c1' := cmpI_eq (x := val xs) rfl
    have c2' := cmpI_gt s2
    have hnn := Int.mul_nonneg (show 0 ≤ s + 1 by omega) (show 0 ≤ s + 1 by omega)
    have vnn := val_wd _ hnn
    have vs1 := val_wd (s + 1) (by omega)
    go_wp2_with fail
    have AD := add A1 (some ⟨w3.heap.size, 0, none⟩) n1 c1 1 1 _ [1] _ (h1.below (below_alloc (below_self w3) (.cells #[.int .u64 1] 22))) (arr_one (w := w3) rfl 1 (by decide) (by decide)) (by omega) (by decide)
    rw [vs, val_one] at AD
    refine AD.mono ?_
    rintro r w4 ⟨A3, n3, c3, rfl, h3, b4⟩
    have b34 := below_on (below_alloc (below_self w3) (.cells #[.int .u64 1] 22)) b4
    have bw4 := below_on bw3 b34
    have l3 := h3.len
    have ls1 : (wd (s + 1)).length ≤ 61 := by
      have h1' : (wd (val (wd s) + val [1])).length ≤ 60 + 1 := wd_sum_len (wf_wd _ s0) (wf_one (by decide) (by decide)) (by omega) (by simp)
      rw [vs, val_one] at h1'
      exact h1'
    have h3 := h3.arr
    have h1 := h1.below b34
    have h2 := h2.below b34
    clear AD b4 b34 s1 s2
    have M1 := mul A1 A1 n1 c1 n1 c1 _ _ w4 h1 h1 (by omega) (by omega)
    rw [vs] at M1
    have M1 := Lib.hid M1
    go_wp2_with fail
    refine M1.out.mono ?_
    rintro r w5 ⟨A5, n5, c5, rfl, h5, b5⟩
    have bw5 := below_on bw4 b5
    have l5 := h5.len
    have h5 := h5.arr
    have h2 := h2.below b5
    have h3 := h3.below b5
    have AD := add A5 A2 n5 c5 n2 c2 _ _ w5 h5 h2 (by omega) (by omega)
    rw [vss, vr, e1] at AD
    have AD := Lib.hid AD
    go_wp2_with fail
    refine AD.out.mono ?_
    rintro r w6 ⟨A6, n6, c6, rfl, h6, b6⟩
    have bw6 := below_on bw5 b6
    have h6 := h6.arr
    have h3 := h3.below b6
    have C1 := ncmp A6 A n6 c6 n c _ xs w6 h6 (h.below bw6)
    rw [val_wd _ nx, c1'] at C1
    have C1 := Lib.hid C1
    go_wp2_with fail
    refine C1.out.mono ?_
    rintro r w7 ⟨rfl, s7⟩
    have bw7 := bw6.trans (s7.below _)
    have h3 := h3.below (s7.below _)
    have M2 := mul A3 A3 n3 c3 n3 c3 _ _ w7 h3 h3 (by omega) (by omega)
    rw [vs1] at M2
    have M2 := Lib.hid M2
    go_wp2_with fail
    refine M2.out.mono ?_
    rintro r w8 ⟨A8, n8, c8, rfl, h8, b8⟩
    have bw8 := below_on bw7 b8
    have h8 := h8.arr
    have C2 := ncmp A8 A n8 c8 n c _ xs w8 h8 (h.below bw8)
    rw [vnn, c2'] at C2
    have C2 := Lib.hid C2
    go_wp2_with fail
    refine C2.out.mono ?_
    rintro r w9 ⟨rfl, s9⟩
    have bw9 := bw8.trans (s9.below _)
    clear C1 C2 M1 M2 AD h1 h2 h3 h5 h6 h8 s7 s9 b3 b5 b6 b8 bw3 bw4 bw5 bw6 bw7 bw8 e1 vs vr vss vnn vs1 hnn c2'
    go_wp2_with fail
    refine (mul A A n c n c xs xs w9 (h.below bw9) (h.below bw9) (by omega) (by omega)).mono ?_
    rintro r w10 ⟨A10, n10, c10, rfl, h10, b10⟩
    have bw10 := below_on bw9 b10
    have l10 := h10.len
    have lp := prod_len h.wf h.wf
    have hxx := Int.mul_nonneg nx nx
    have SQ := sqrt A10 n10 c10 _ w10 h10.arr (by omega)
    rw [val_wd _ hxx] at SQ
    have SQ := Lib.hid SQ
    clear h10
    go_wp2_with fail
    refine SQ.out.mono ?_
    rintro r w11 ⟨A11, n11, c11, A12, n12, c12, t, rfl, h11, h12, t0, t1, t2, b11⟩
    have bw11 := below_on bw10 b11
    obtain rfl := root_unique t0 nx t1 t2
    rw [Int.sub_self, wd_zero (Int.le_refl _)] at h12
    obtain rfl : n12 = 0 := h12.len.symm
    have C3 := ncmp A11 A n11 c11 n c _ xs w11 h11 (h.below bw11)
    rw [val_wd _ nx, c1'] at C3
    have C3 := Lib.hid C3
    clear t1 t2 SQ h12
    go_wp2_with fail
    refine C3.out.mono ?_
    rintro r w12 ⟨rfl, s12⟩
    have bw12 := bw11.trans (s12.below _)
    go_wp2_with fail
    go_ret
    exact ⟨rfl, bw12⟩
  · have hf : fewB 60 [(A, n, c)] = false := by simp [fewB]; omega
    go_enter Try.func9, Try.ntmps9
    go_wp2_with fail
    refine S0.out.mono ?_
    rintro r w0 ⟨A0, n0, c0, B0, m0, d0, s0, rfl, hs0, -, z0, z1, z2, bw0⟩
    obtain rfl := root_ten z0 z1 z2
    rw [wd_small (by decide) (by decide)] at hs0
    obtain rfl : n0 = 1 := hs0.len.symm
    have b1 := below_on b0 bw0
    clear z0 z1 z2
    go_wp2_with fail
    refine (awake01 w0).mono ?_
    rintro r w1 ⟨rfl, b1'⟩
    have b1 := below_on b1 b1'
    go_wp2_with fail
    have b2 := below_alloc b1 (.cells #[.slice A n c] 31)
    refine (few 60 w1.heap.size [(A, n, c)] 1 rfl _ (by decide) (by decide) (box_list w1 _ _)).mono ?_
    rintro r w' ⟨rfl, rfl⟩
    rw [hf]
    clear hf
    go_wp2_with fail
    go_ret
    exact ⟨rfl, b2⟩
end Go.Proofs.Ytbonbcmdafpceaa
