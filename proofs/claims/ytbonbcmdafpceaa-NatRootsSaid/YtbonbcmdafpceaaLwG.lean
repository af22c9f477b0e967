/- The law NatRoots. -/
import Derived.Test.YtbonbcmdafpceaaLwF
import Derived.Test.YtbonbcmdafpceaaRefI
namespace Go.Proofs.Ytbonbcmdafpceaa
open Go.RowKit Num
set_option maxRecDepth 100000

theorem root_same {s t v : Int} (hs : 0 ≤ s) (ht : 0 ≤ t) (h1 : s * s ≤ v) (h2 : v < (s + 1) * (s + 1)) (k1 : t * t ≤ v) (k2 : v < (t + 1) * (t + 1)) : t = s := by
  by_cases a : s < t
  · have : (s + 1) * (s + 1) ≤ t * t := Int.mul_le_mul (by omega) (by omega) (by omega) (by omega)
    omega
  · by_cases b : t < s
    · have : (t + 1) * (t + 1) ≤ s * s := Int.mul_le_mul (by omega) (by omega) (by omega) (by omega)
      omega
    · omega
set_option maxHeartbeats 2000000 in
theorem natRoots (A : Option Addr) (n c : Nat) (xs : List Int) (w : World) (h : Arr w A n c xs) :
    Calls Try.prog 8 #[.slice A n c] w fun r w' => r = .returned (.bool true) ∧ Below w.heap.size w w' := by
  have b0 := below_alloc (below_self w) (.cells #[.int .u64 10] 22)
  have S0 := sqrt (some ⟨w.heap.size, 0, none⟩) 1 1 [10] _ (arr_one (w := w) rfl 10 (by decide) (by decide)) (by decide)
  rw [val_one] at S0
  have S0 := Lib.hid S0
  have hcap := h.cap
  have hbig := h.big
  by_cases g : n ≤ 12
  · have hf : fewB 12 [(A, n, c)] = true := by simp [fewB, g]
    go_enter Try.func8, Try.ntmps8
    go_wp2_with fail
    refine S0.out.mono ?_
    rintro r w0 ⟨A0, n0, c0, B0, m0, d0, s0, rfl, hs0, -, z0, z1, z2, bw0⟩
    obtain rfl := root_ten z0 z1 z2
    rw [wd_small (by decide) (by decide)] at hs0
    obtain rfl : n0 = 1 := hs0.len.symm
    have b1 := below_on b0 bw0
    clear z0 z1 z2
    go_wp2_with fail
    refine (awake01 w0).mono ?_
    rintro r w1 ⟨rfl, b1'⟩
    have hs1 := hs0.below b1'
    have b1 := below_on b1 b1'
    obtain ⟨p, o, rfl, _, hc⟩ := hs1.mem (by decide)
    have k1 := hc 0 (by decide)
    simp only [List.getD_cons_zero, Nat.add_zero] at k1
    clear hc
    go_wp2_with fail
    have b2 := below_alloc b1 (.cells #[.slice A n c] 31)
    refine (few 12 w1.heap.size [(A, n, c)] 1 rfl _ (by decide) (by decide) (box_list w1 _ _)).mono ?_
    rintro r w' ⟨rfl, rfl⟩
    rw [hf]
    clear hf hs0 hs1 k1 b1' bw0
    go_wp2_with fail
    refine (sqrt A n c xs _ (h.below b2) (by omega)).mono ?_
    rintro r w3 ⟨A1, n1, c1, A2, n2, c2, s, rfl, h1, h2, s0, s1, s2, b3⟩
    have bw3 := below_on b2 b3
    have HS := Lib.hid (fun t a b c => root_same (t := t) s0 a s1 s2 b c)
    clear s1 s2
    go_wp2_with fail
    refine (rsqrt A n c xs _ (h.below bw3) (by omega)).mono ?_
    rintro r w4 ⟨A3, n3, c3, A4, n4, c4, t, rfl, h3, h4, t0, t1, t2, b4⟩
    have bw4 := below_on bw3 b4
    obtain rfl := HS.out t t0 t1 t2
    have h1 := h1.below b4
    have h2 := h2.below b4
    clear t1 t2 HS
    go_wp2_with fail
    refine (same01 A1 A3 n1 c1 n3 c3 _ _ w4 h1 h3).mono ?_
    rintro r w5 ⟨rfl, s5⟩
    rw [decide_self]
    have bw5 := bw4.trans (s5.below _)
    have h2 := h2.below (s5.below _)
    have h4 := h4.below (s5.below _)
    clear h1 h3 s5
    go_wp2_with fail
    refine (same01 A2 A4 n2 c2 n4 c4 _ _ w5 h2 h4).mono ?_
    rintro r w6 ⟨rfl, s6⟩
    rw [decide_self]
    have bw6 := bw5.trans (s6.below _)
    go_wp2_with fail
    go_ret
    exact ⟨rfl, bw6⟩
  · have hf : fewB 12 [(A, n, c)] = false := by simp [fewB]; omega
    go_enter Try.func8, Try.ntmps8
    go_wp2_with fail
    refine S0.out.mono ?_
    rintro r w0 ⟨A0, n0, c0, B0, m0, d0, s0, rfl, hs0, -, z0, z1, z2, bw0⟩
    obtain rfl := root_ten z0 z1 z2
    rw [wd_small (by decide) (by decide)] at hs0
    obtain rfl : n0 = 1 := hs0.len.symm
    have b1 := below_on b0 bw0
    clear z0 z1 z2
    go_wp2_with fail
    refine (awake01 w0).mono ?_
    rintro r w1 ⟨rfl, b1'⟩
    have hs1 := hs0.below b1'
    have b1 := below_on b1 b1'
    obtain ⟨p, o, rfl, _, hc⟩ := hs1.mem (by decide)
    have k1 := hc 0 (by decide)
    simp only [List.getD_cons_zero, Nat.add_zero] at k1
    clear hc
    go_wp2_with fail
    have b2 := below_alloc b1 (.cells #[.slice A n c] 31)
    refine (few 12 w1.heap.size [(A, n, c)] 1 rfl _ (by decide) (by decide) (box_list w1 _ _)).mono ?_
    rintro r w' ⟨rfl, rfl⟩
    rw [hf]
    clear hf
    go_wp2_with fail
    go_ret
    exact ⟨rfl, b2⟩
end Go.Proofs.Ytbonbcmdafpceaa
