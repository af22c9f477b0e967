/- The law NatRules. -/
import Derived.Test.YtbonbcmdafpceaaLwA
import Derived.Test.YtbonbcmdafpceaaNatP
namespace Go.Proofs.Ytbonbcmdafpceaa
open Go.RowKit Num
set_option maxRecDepth 100000

theorem box_list (w : World) (l : List (Option Addr × Nat × Nat)) (t : TypeId) : ∀ j (h : j < l.length), (w.alloc (.cells (l.map slv).toArray t)).cell? ⟨w.heap.size, j, none⟩ = some (slv l[j]) := by
  intro j hj
  have := (box_new w (l.map slv).toArray t).cell j
  rw [this]
  simp [hj]
theorem rules_eq (x y z : Int) : wd (x * (y + z)) = wd (x * y + x * z) := by rw [Int.mul_add]
theorem rules_parted {v z : Int} (hz : 0 < z) : v / z * z + v % z = v := by have := Int.mul_ediv_add_emod v z; rw [Int.mul_comm]; exact this
set_option maxHeartbeats 2000000 in
theorem natRules (A A' A'' : Option Addr) (n c n' c' n'' c'' : Nat) (xs ys zs : List Int) (w : World) (h : Arr w A n c xs) (h' : Arr w A' n' c' ys) (h'' : Arr w A'' n'' c'' zs) :
    Calls Try.prog 7 #[.slice A n c, .slice A' n' c', .slice A'' n'' c''] w fun r w' => r = .returned (.bool true) ∧ Below w.heap.size w w' := by
  by_cases g : n ≤ 120 ∧ n' ≤ 120 ∧ n'' ≤ 120
  · have hf : fewB 120 [(A, n, c), (A', n', c'), (A'', n'', c'')] = true := by simp [fewB, g.1, g.2.1, g.2.2]
    obtain ⟨g1, g2, g3⟩ := g
    have nx := h.val_nonneg
    have ny := h'.val_nonneg
    have nz := h''.val_nonneg
    have lx := h.len
    have ly := h'.len
    have lz := h''.len
    have L1 := wd_sum_len h'.wf h''.wf (k := 120) (by omega) (by omega)
    have L2 := prod_len h.wf h'.wf
    have L3 := prod_len h.wf h''.wf
    have nxy : 0 ≤ val xs * val ys := Int.mul_nonneg nx ny
    have nxz : 0 ≤ val xs * val zs := Int.mul_nonneg nx nz
    have E1 := rules_eq (val xs) (val ys) (val zs)
    have v1 := val_wd (val ys + val zs) (by omega)
    have v2 := val_wd (val xs * val ys) nxy
    have v3 := val_wd (val xs * val zs) nxz
    go_enter Try.func7, Try.ntmps7
    go_wp2_with fail
    refine (awake01 w).mono ?_
    rintro r w1 ⟨rfl, b1⟩
    go_wp2_with fail
    have b2 := below_alloc b1 (.cells #[.slice A n c, .slice A' n' c', .slice A'' n'' c''] 31)
    refine (few 120 w1.heap.size [(A, n, c), (A', n', c'), (A'', n'', c'')] 3 rfl _ (by decide) (by decide) (box_list w1 _ _)).mono ?_
    rintro r w' ⟨rfl, rfl⟩
    rw [hf]
    clear hf
    go_wp2_with fail
    refine (add A' A'' n' c' n'' c'' ys zs _ (h'.below b2) (h''.below b2) (by omega) (by omega)).mono ?_
    rintro r w3 ⟨A3, n3, c3, rfl, h3, b3⟩
    have bw3 := below_on b2 b3
    have l3 := h3.len
    have h3 := h3.arr
    go_wp2_with fail
    refine (mul A A3 n c n3 c3 xs _ w3 (h.below bw3) h3 (by omega) (by omega)).mono ?_
    rintro r w4 ⟨A4, n4, c4, rfl, h4, b4⟩
    have bw4 := below_on bw3 b4
    have h4 := h4.arr
    rw [v1, E1] at h4
    go_wp2_with fail
    refine (mul A A' n c n' c' xs ys w4 (h.below bw4) (h'.below bw4) (by omega) (by omega)).mono ?_
    rintro r w5 ⟨A5, n5, c5, rfl, h5, b5⟩
    have bw5 := below_on bw4 b5
    have l5 := h5.len
    have h4 := h4.below b5
    have h5 := h5.arr
    go_wp2_with fail
    refine (mul A A'' n c n'' c'' xs zs w5 (h.below bw5) (h''.below bw5) (by omega) (by omega)).mono ?_
    rintro r w6 ⟨A6, n6, c6, rfl, h6, b6⟩
    have bw6 := below_on bw5 b6
    have l6 := h6.len
    have h4 := h4.below b6
    have h5 := h5.below b6
    have h6 := h6.arr
    go_wp2_with fail
    refine (add A5 A6 n5 c5 n6 c6 _ _ w6 h5 h6 (by omega) (by omega)).mono ?_
    rintro r w7 ⟨A7, n7, c7, rfl, h7, b7⟩
    have bw7 := below_on bw6 b7
    have h4 := h4.below b7
    have h7 := h7.arr
    rw [v2, v3] at h7
    go_wp2_with fail
    refine (same01 A4 A7 n4 c4 n7 c7 _ _ w7 h4 h7).mono ?_
    rintro r w8 ⟨rfl, s8⟩
    rw [decide_self]
    have bw8 := bw7.trans (s8.below _)
    clear h3 h4 h5 h6 h7 s8 b3 b4 b5 b6 b7 bw3 bw4 bw5 bw6 bw7 l3 l5 l6 E1 L1 L3 v1 v3
    go_wp2_with fail
    refine (mul A A' n c n' c' xs ys w8 (h.below bw8) (h'.below bw8) (by omega) (by omega)).mono ?_
    rintro r w9 ⟨A9, n9, c9, rfl, h9, b9⟩
    have bw9 := below_on bw8 b9
    have l9 := h9.len
    have h9 := h9.arr
    have DM := divmod A9 A'' n9 c9 n'' c'' _ zs w9 h9 (h''.below bw9) (by omega)
    rw [v2] at DM
    by_cases hz : 0 < val zs
    · have e1 : divI (val xs * val ys) (val zs) = val xs * val ys / val zs := by unfold divI; rw [if_neg (by omega)]
      have e2 : modI (val xs * val ys) (val zs) = val xs * val ys % val zs := by unfold modI; rw [if_neg (by omega)]
      unfold RetDM at DM
      rw [e1, e2, decide_eq_true hz] at DM
      have DM := Lib.hid DM
      have q0 : 0 ≤ val xs * val ys / val zs := Int.ediv_nonneg nxy nz
      have q1 : val xs * val ys / val zs ≤ val xs * val ys := Int.ediv_le_self _ nxy
      have r0 : 0 ≤ val xs * val ys % val zs := Int.emod_nonneg _ (by omega)
      have r1 : val xs * val ys % val zs < val zs := Int.emod_lt_of_pos _ hz
      have lq : (wd (val xs * val ys / val zs)).length ≤ 240 := by
        have := wd_length_le q0 (Int.lt_of_le_of_lt q1 (lt_pow_of_wd_length nxy (Nat.le_refl _)))
        omega
      have lr : (wd (val xs * val ys % val zs)).length ≤ 120 := by
        refine wd_length_le r0 (Int.lt_of_lt_of_le r1 ?_)
        have := val_lt h''.wf
        have := B_pow_le (show zs.length ≤ 120 by omega)
        omega
      have e3 := rules_parted (v := val xs * val ys) hz
      have vq := val_wd _ q0
      have vr := val_wd _ r0
      have qz0 : 0 ≤ val xs * val ys / val zs * val zs := Int.mul_nonneg q0 nz
      have vqz := val_wd _ qz0
      have lqz : (wd (val xs * val ys / val zs * val zs)).length ≤ 240 := by
        have := wd_length_le qz0 (k := (wd (val xs * val ys)).length) (Int.lt_of_le_of_lt (by omega) (lt_pow_of_wd_length nxy (Nat.le_refl _)))
        omega
      have cr := cmpI_lt r1
      have ce := cmpI_eq (x := val xs * val ys) rfl
      clear e1 e2 h9
      generalize val xs * val ys / val zs = q at *
      generalize val xs * val ys % val zs = rr at *
      go_wp2_with fail
      refine DM.out.mono ?_
      rintro r w10 ⟨A1, n1, c1, A2, n2, c2, rfl, hq, hr, b10⟩
      have bw10 := below_on bw9 b10
      have l1 := hq.len
      have l2 := hr.len
      have C1 := ncmp A2 A'' n2 c2 n'' c'' _ zs w10 hr (h''.below bw10)
      rw [vr, cr] at C1
      have C1 := Lib.hid C1
      go_wp2_with fail
      refine C1.out.mono ?_
      rintro r w11 ⟨rfl, s11⟩
      have bw11 := bw10.trans (s11.below _)
      have hq := hq.below (s11.below _)
      have hr := hr.below (s11.below _)
      have M1 := mul A1 A'' n1 c1 n'' c'' _ zs w11 hq (h''.below bw11) (by omega) (by omega)
      rw [vq] at M1
      have M1 := Lib.hid M1
      go_wp2_with fail
      refine M1.out.mono ?_
      rintro r w12 ⟨A12, n12, c12, rfl, h12, b12⟩
      have bw12 := below_on bw11 b12
      have l12 := h12.len
      have h12 := h12.arr
      have hr := hr.below b12
      have M2 := add A12 A2 n12 c12 n2 c2 _ _ w12 h12 hr (by omega) (by omega)
      rw [vqz, vr, e3] at M2
      have M2 := Lib.hid M2
      go_wp2_with fail
      refine M2.out.mono ?_
      rintro r w13 ⟨A13, n13, c13, rfl, h13, b13⟩
      have bw13 := below_on bw12 b13
      have h13 := h13.arr
      go_wp2_with fail
      refine (mul A A' n c n' c' xs ys w13 (h.below bw13) (h'.below bw13) (by omega) (by omega)).mono ?_
      rintro r w14 ⟨A14, n14, c14, rfl, h14, b14⟩
      have bw14 := below_on bw13 b14
      have h14 := h14.arr
      have h13 := h13.below b14
      have C2 := ncmp A13 A14 n13 c13 n14 c14 _ _ w14 h13 h14
      rw [v2, ce] at C2
      have C2 := Lib.hid C2
      go_wp2_with fail
      refine C2.out.mono ?_
      rintro r w15 ⟨rfl, s15⟩
      have bw15 := bw14.trans (s15.below _)
      go_wp2_with fail
      go_ret
      exact ⟨rfl, bw15⟩
    · have hz0 : val zs = 0 := by omega
      unfold RetDM at DM
      rw [decide_eq_false hz] at DM
      have DM := Lib.hid DM
      have NB := Lib.hid (fun w' (hb : Below w.heap.size w w') => nbits A'' n'' c'' zs w' (h''.below hb) (by omega))
      rw [hz0, bl_zero] at NB
      clear hz hz0
      go_wp2_with fail
      refine DM.out.mono ?_
      rintro r w10 ⟨A1, n1, c1, A2, n2, c2, rfl, hq, hr, b10⟩
      have bw10 := below_on bw9 b10
      go_wp2_with fail
      refine (NB.out _ bw10).mono ?_
      rintro r w' ⟨rfl, rfl⟩
      go_wp2_with fail
      go_ret
      exact ⟨rfl, bw10⟩
  · have hf : fewB 120 [(A, n, c), (A', n', c'), (A'', n'', c'')] = false := by simp [fewB]; omega
    go_enter Try.func7, Try.ntmps7
    go_wp2_with fail
    refine (awake01 w).mono ?_
    rintro r w1 ⟨rfl, b1⟩
    go_wp2_with fail
    have b2 := below_alloc b1 (.cells #[.slice A n c, .slice A' n' c', .slice A'' n'' c''] 31)
    refine (few 120 w1.heap.size [(A, n, c), (A', n', c'), (A'', n'', c'')] 3 rfl _ (by decide) (by decide) (box_list w1 _ _)).mono ?_
    rintro r w' ⟨rfl, rfl⟩
    rw [hf]
    clear hf
    go_wp2_with fail
    go_ret
    exact ⟨rfl, b2⟩
end Go.Proofs.Ytbonbcmdafpceaa
