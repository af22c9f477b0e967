/- Package round: to a word's units, and what is beyond all words. -/
import Derived.BigQuiet
import Derived.Test.YtlmojkknlkfloaaDoorRdA
namespace Go.Proofs.YtlmojkknlkfloaaDoor
open Go.RowKit Num
set_option linter.unusedSimpArgs false
set_option linter.unusedVariables false
set_option maxRecDepth 100000

theorem rdnear (mode : Int) (w : World) : Calls Tryd.prog 55 #[.int .i64 mode] w fun r w' => r = .returned (.bool (nearB mode)) ∧ w = w' := by
  unfold nearB
  go_enter Tryd.func55, Tryd.ntmps55
  go_wp2
  all_goals go_ret
  all_goals refine ⟨ret_bool ?_, rfl⟩
  all_goals first | rfl | (simp [*]; done) | (simp; omega)
theorem rdout (neg : Bool) (mode : Int) (w : World) : Calls Tryd.prog 56 #[.bool neg, .int .i64 mode] w fun r w' => r = .returned (.bool (outB neg mode)) ∧ w = w' := by
  unfold outB
  by_cases m2 : mode = 2
  · subst m2
    cases neg
    all_goals
      go_enter Tryd.func56, Tryd.ntmps56
      go_wp2
      all_goals go_ret
      all_goals exact ⟨rfl, rfl⟩
  · by_cases m3 : mode = 3
    · subst m3
      cases neg
      all_goals
        go_enter Tryd.func56, Tryd.ntmps56
        go_wp2
        all_goals go_ret
        all_goals exact ⟨rfl, rfl⟩
    · have d2 : (mode == 2) = false := by simp [m2]
      have d3 : (mode == 3) = false := by simp [m3]
      have ho : ((decide (mode = 2) && !neg) || (decide (mode = 3) && neg)) = false := by simp [m2, m3]
      rw [ho]
      clear ho
      go_enter Tryd.func56, Tryd.ntmps56
      go_wp2
      all_goals go_ret
      all_goals exact ⟨rfl, rfl⟩
theorem rdtop (neg : Bool) (A : Option Addr) (n c : Nat) (xs : List Int) (e : Int) (w : World) (h : Arr w A n c xs) (hn : n ≤ 1000000) (he0 : -1000000 ≤ e) (he1 : e ≤ 1000000) :
    Calls Tryd.prog 57 #[.agg #[.bool neg, .slice A n c, .int .i64 e]] w fun r w' => r = .returned (.int .i64 (bl (val xs) + e)) ∧ Below w.heap.size w w' := by
  have bx := box_new w #[.bool neg, .slice A n c, .int .i64 e] 24
  obtain ⟨k0, k1, k2, f0, f1, f2⟩ := bx.cell3
  have b0 := below_alloc (below_self w) (.cells #[.bool neg, .slice A n c, .int .i64 e] 24)
  have NB := Lib.hid (fun w' (hb : Below w.heap.size w w') => nbits A n c xs w' (h.below hb) (by omega))
  have hb0 := bl_nonneg (val xs)
  have hb1 := bl_lt (v := val xs) (a := 64 * n) h.val_nonneg (by rw [← B_pow_pw, ← h.len]; exact val_lt h.wf)
  have hq : ∀ q : Int, 0 ≤ q → q ≤ 64000000 → IntKind.i64.wrap (q + e) = q + e := fun q h0 h1 => by rw [IntKind.wrap_i64]; omega
  have hqq := hq (bl (val xs)) hb0 (by omega)
  generalize bl (val xs) = q at *
  clear hq
  go_enter Tryd.func57, Tryd.ntmps57
  go_wp2_with fail
  go_region_with (first | (go_at_call 82; refine (NB.out _ ((by repeat (first | with_reducible assumption | with_reducible exact below_self _ | with_reducible refine below_drewN ?_ _ | with_reducible apply Below.drew | with_reducible refine below_alloc ?_ _)))).mono ?_; rintro r w' ⟨rfl, rfl⟩))
  all_goals
    go_wp2
    go_ret
    exact ⟨rfl, (by repeat (first | with_reducible assumption | with_reducible exact below_self _ | with_reducible refine below_drewN ?_ _ | with_reducible apply Below.drew | with_reducible refine below_alloc ?_ _))⟩
theorem bit_cases {w : World} {A : Option Addr} {n c : Nat} {x : Int} (h : Arr w A n c (wd x)) (hx : 0 ≤ x) :
    (n = 0 ∧ x % 2 = 0) ∨ (0 < n ∧ ∃ b o x0, A = some ⟨b, o, none⟩ ∧ b < w.heap.size ∧ w.cell? ⟨b, o, none⟩ = some (.int .u64 x0) ∧ bits .and .u64 x0 1 = x % 2 ∧ x0 % 2 = x % 2 ∧ 0 ≤ x0 ∧ x0 < 18446744073709551616) := by
  by_cases h0 : x = 0
  · left
    rw [h0, wd_zero (Int.le_refl _)] at h
    exact ⟨h.len.symm, by rw [h0]; rfl⟩
  · right
    have hp : 0 < x := by omega
    have hl := h.len
    rw [wd_pos hp] at hl
    simp at hl
    obtain ⟨b, o, e, hlt, hc⟩ := h.mem (by omega)
    have k := hc 0 (by omega)
    rw [wd_pos hp, List.getD_cons_zero, Nat.add_zero] at k
    have r0 : 0 ≤ x % B := by rw [B_eq]; omega
    have r1 : x % B < 18446744073709551616 := by rw [B_eq]; omega
    have r2 : x % B % 2 = x % 2 := by rw [B_eq]; omega
    exact ⟨by omega, b, o, x % B, e, hlt, k, by rw [and_one r0 r1, r2], r2, r0, r1⟩
def RetTo (q : Int) (ok : Bool) (w : World) (r : Ending) (w' : World) : Prop :=
  ∃ A n c, r = .returned (.tuple #[.slice A n c, .bool ok]) ∧ Arr w' A n c (wd q) ∧ Below w.heap.size w w'
set_option maxHeartbeats 4000000 in
theorem rdto (neg : Bool) (A : Option Addr) (n c : Nat) (xs : List Int) (e E mode : Int) (w : World) (h : Arr w A n c xs) (hn : n ≤ 100000) (e0 : -1000000 ≤ e) (e1 : e ≤ 1000000) (E0 : -1000000 ≤ E) (E1 : E ≤ 1000000) (d0 : E - e ≤ 1048576) (d1 : e - E ≤ 1048576) :
    Calls Tryd.prog 58 #[.agg #[.bool neg, .slice A n c, .int .i64 e], .int .i64 E, .int .i64 mode] w (RetTo (unitsI neg (val xs) e E mode) (decide (E ≤ e)) w) := by
  have hv := h.val_nonneg
  have hxl := h.len
  have b0 := below_alloc (below_self w) (.cells #[.bool neg, .slice A n c, .int .i64 e] 24)
  have bx := box_new w #[.bool neg, .slice A n c, .int .i64 e] 24
  obtain ⟨k0, k1, k2, f0, f1, f2⟩ := bx.cell3
  unfold unitsI
  by_cases hc : E ≤ e
  · rw [if_pos hc, decide_eq_true hc]
    have SH := shl A n c xs (e - E) _ (h.below b0) (by omega) (by omega) (by omega)
    rw [shlI_eq (by omega) (by omega)] at SH
    have d3 : decide (E - e ≤ 0) = true := by simp; omega
    have e3 : -(E - e) = e - E := by omega
    have SH := Lib.hid SH
    have e3 := Lib.hid e3
    clear hv
    go_enter Tryd.func58, Tryd.ntmps58
    go_wp2_with fail
    refine SH.out.mono ?_
    rintro r w5 ⟨A5, n5, c5, rfl, h5, hb5⟩
    go_wp2_with fail
    go_ret2
    exact ⟨A5, n5, c5, rfl, h5, below_on b0 hb5⟩
  · rw [if_neg hc, decide_eq_false hc]
    obtain ⟨k, hk⟩ : ∃ k : Nat, E - e = (k : Int) := ⟨(E - e).toNat, by omega⟩
    have hk0 : 0 < k := by omega
    rw [hk, Int.toNat_natCast]
    have d3 : decide ((k : Int) ≤ 0) = false := by simp; omega
    have d4 : decide (E - e ≤ 0) = false := by simp; omega
    have d5 : decide (k = 0) = false := by simp; omega
    have SR := Lib.hid (fun w' (hb : Below w.heap.size w w') => shr A n c xs (k : Int) w' (h.below hb) (by omega) (by omega) (by omega))
    have ST := Lib.hid (fun w' (hb : Below w.heap.size w w') => shr A n c xs ((k : Int) - 1) w' (h.below hb) (by omega) (by omega) (by omega))
    rw [shrI_eq (by omega) (by omega), Int.toNat_natCast] at SR
    rw [shrI_eq (by omega) (by omega), show ((k : Int) - 1).toNat = k - 1 by omega] at ST
    have OW := Lib.hid (fun w => rdout neg mode w)
    have NR := Lib.hid (fun w => rdnear mode w)
    have hq0 : 0 ≤ val xs / 2 ^ k := Int.ediv_nonneg hv (Int.le_of_lt (pw_pos k))
    have hh0 : 0 ≤ val xs / 2 ^ (k - 1) := Int.ediv_nonneg hv (Int.le_of_lt (pw_pos (k - 1)))
    have vq := val_wd _ hq0
    have lq : (wd (val xs / 2 ^ k)).length ≤ 100000 := by
      have h1 := wd_len h.wf
      have := wd_length_le hq0 (Int.lt_of_le_of_lt (Int.ediv_le_self _ hv) (lt_pow_of_wd_length hv (k := (wd (val xs)).length) (Nat.le_refl _)))
      omega
    have hmore : moreB neg (val xs) k mode = if nearB mode then decide (val xs / 2 ^ (k - 1) % 2 = 1) && (!decide (k = 1) || decide (val xs / 2 ^ k % 2 = 1) || decide (mode = 4)) else outB neg mode := rfl
    have VQ : Hid (val (wd (val xs / 2 ^ k)) = val xs / 2 ^ k) := vq
    clear vq
    generalize moreB neg (val xs) k mode = more at *
    generalize outB neg mode = ob at *
    generalize val xs / 2 ^ (k - 1) = hf at *
    generalize val xs / 2 ^ k = q at *
    have HK := Lib.hid hk
    cases hnr : nearB mode
    · rw [hnr] at NR hmore
      simp only [Bool.false_eq_true, if_false] at hmore
      subst hmore
      clear ST hnr
      cases more
      · rw [if_neg (by decide), Int.add_zero]
        (go_enter Tryd.func58, Tryd.ntmps58; go_wp2_with fail; refine (SR.out _ b0).mono ?_; rintro r w2 ⟨A2, n2, c2, rfl, h2, hb2⟩; have bw2 := below_on b0 hb2; have bx2 := bx.later hb2; have l2 := h2.len; clear hb2 SR k0 k1 k2 f0 f1 f2; obtain ⟨k0, k1, k2, f0, f1, f2⟩ := bx2.cell3; go_wp2_with fail; refine (OW.out w2).mono ?_; rintro r w' ⟨rfl, rfl⟩; go_wp2_with fail; refine (NR.out w2).mono ?_; rintro r w' ⟨rfl, rfl⟩)
        (go_wp2_with fail; go_ret2; exact ⟨_, _, _, rfl, h2, bw2⟩)
      · rw [if_pos rfl]
        (go_enter Tryd.func58, Tryd.ntmps58; go_wp2_with fail; refine (SR.out _ b0).mono ?_; rintro r w2 ⟨A2, n2, c2, rfl, h2, hb2⟩; have bw2 := below_on b0 hb2; have bx2 := bx.later hb2; have l2 := h2.len; clear hb2 SR k0 k1 k2 f0 f1 f2; obtain ⟨k0, k1, k2, f0, f1, f2⟩ := bx2.cell3; go_wp2_with fail; refine (OW.out w2).mono ?_; rintro r w' ⟨rfl, rfl⟩; go_wp2_with fail; refine (NR.out w2).mono ?_; rintro r w' ⟨rfl, rfl⟩)
        (go_wp2_with fail; have A1 := add _ (some ⟨w2.heap.size, 0, none⟩) _ _ 1 1 _ [1] _ (h2.below (below_alloc (below_self w2) (.cells #[.int .u64 1] 27))) (arr_one (w := w2) rfl 1 (by decide) (by decide)) (by omega) (by decide); rw [VQ.out, val_one] at A1; refine A1.mono ?_; rintro r w3 ⟨A3, n3, c3, rfl, h3, hb3⟩; have hb23 := below_on (below_alloc (below_self w2) (.cells #[.int .u64 1] 27)) hb3; go_wp2_with fail; go_ret2; exact ⟨A3, n3, c3, rfl, h3.arr, below_on bw2 hb23⟩)
    · rw [hnr] at NR hmore
      rw [if_pos rfl] at hmore
      obtain ⟨R, hR⟩ : ∃ R, R = q + (if more = true then 1 else 0) := ⟨_, rfl⟩
      rw [← hR]
      rw [hmore] at hR
      have HR := Lib.hid hR
      clear hmore hnr hR
      (go_enter Tryd.func58, Tryd.ntmps58; go_wp2_with fail; refine (SR.out _ b0).mono ?_; rintro r w2 ⟨A2, n2, c2, rfl, h2, hb2⟩; have bw2 := below_on b0 hb2; have bx2 := bx.later hb2; have l2 := h2.len; clear hb2 SR k0 k1 k2 f0 f1 f2; obtain ⟨k0, k1, k2, f0, f1, f2⟩ := bx2.cell3; go_wp2_with fail; refine (OW.out w2).mono ?_; rintro r w' ⟨rfl, rfl⟩; go_wp2_with fail; refine (NR.out w2).mono ?_; rintro r w' ⟨rfl, rfl⟩)
      go_wp2_with fail
      refine (ST.out _ bw2).mono ?_
      rintro r w5 ⟨A5, n5, c5, rfl, h5, hb5⟩
      have bw2 := below_on bw2 hb5
      have h2 := h2.below hb5
      have hC := bit_cases h5 hh0
      have hD := bit_cases h2 hq0
      clear ST h5 hb5 k0 k1 k2 f0 f1 f2 bx2
      generalize hww : w5 = w2 at *
      clear hww
      have more1 : ∀ (P : Prop), (hf % 2 = 1 → (¬ k = 1 ∨ q % 2 = 1 ∨ mode = 4) → R = q + 1) ∧ ((hf % 2 = 0 ∨ (k = 1 ∧ q % 2 = 0 ∧ ¬ mode = 4)) → R = q) := by
        intro _
        rw [HR.out]
        refine ⟨fun h1 h2 => ?_, fun h => ?_⟩
        · rw [if_pos]
          rw [Bool.and_eq_true, Bool.or_eq_true, Bool.or_eq_true]
          refine ⟨decide_eq_true h1, ?_⟩
          rcases h2 with h | h | h
          · left; left; simp [h]
          · left; right; simp [h]
          · right; simp [h]
        · rw [if_neg, Int.add_zero]
          rw [Bool.and_eq_true, Bool.or_eq_true, Bool.or_eq_true]
          rintro ⟨g1, g2⟩
          have g1 := of_decide_eq_true g1
          rcases h with h | ⟨a, b, c⟩
          · omega
          · rcases g2 with (g | g) | g
            · simp [a] at g
            · have := of_decide_eq_true g; omega
            · have := of_decide_eq_true g; omega
      obtain ⟨MT, MF⟩ := more1 True
      clear more1 HR
      have MT := Lib.hid MT
      have MF := Lib.hid MF
      rcases hC with ⟨rfl, p5⟩ | ⟨l5, b5, o5, z5, rfl, lt5, m5, a5, -, -, -⟩
      · obtain rfl := MF.out (.inl p5)
        clear p5 MT MF
        rcases hD with ⟨rfl, pd⟩ | ⟨ld, bd, od, zd, rfl, ltd, md, ad, -, -, -⟩
        · clear pd
          (go_wp2_with fail; go_ret2; exact ⟨_, _, _, rfl, h2, bw2⟩)
        · rcases Int.emod_two_eq R with pd | pd
          all_goals
            rw [pd] at ad
            clear pd
            (go_wp2_with fail; go_ret2; exact ⟨_, _, _, rfl, h2, bw2⟩)
      · rcases Int.emod_two_eq hf with p5 | p5
        · obtain rfl := MF.out (.inl p5)
          rw [p5] at a5
          clear p5 MT MF
          rcases hD with ⟨rfl, pd⟩ | ⟨ld, bd, od, zd, rfl, ltd, md, ad, -, -, -⟩
          · clear pd
            (go_wp2_with fail; go_ret2; exact ⟨_, _, _, rfl, h2, bw2⟩)
          · rcases Int.emod_two_eq R with pd | pd
            all_goals
              rw [pd] at ad
              clear pd
              (go_wp2_with fail; go_ret2; exact ⟨_, _, _, rfl, h2, bw2⟩)
        · rw [p5] at a5
          rcases hD with ⟨rfl, pd⟩ | ⟨ld, bd, od, zd, rfl, ltd, md, ad, -, -, -⟩
          · by_cases k1 : k = 1
            · by_cases m4 : mode = 4
              · obtain rfl := MT.out p5 (.inr (.inr m4))
                clear p5 pd MT MF
                subst k1 m4
                (go_wp2_with fail; have A1 := add _ (some ⟨w2.heap.size, 0, none⟩) _ _ 1 1 _ [1] _ (h2.below (below_alloc (below_self w2) (.cells #[.int .u64 1] 27))) (arr_one (w := w2) rfl 1 (by decide) (by decide)) (by omega) (by decide); rw [VQ.out, val_one] at A1; refine A1.mono ?_; rintro r w3 ⟨A3, n3, c3, rfl, h3, hb3⟩; have hb23 := below_on (below_alloc (below_self w2) (.cells #[.int .u64 1] 27)) hb3; go_wp2_with fail; go_ret2; exact ⟨A3, n3, c3, rfl, h3.arr, below_on bw2 hb23⟩)
              · obtain rfl := MF.out (.inr ⟨k1, pd, m4⟩)
                clear p5 pd MT MF
                have dm : (mode == 4) = false := by simp [m4]
                subst k1
                (go_wp2_with fail; go_ret2; exact ⟨_, _, _, rfl, h2, bw2⟩)
            · obtain rfl := MT.out p5 (.inl k1)
              clear p5 pd MT MF
              have dk : (k == 1) = false := by simp [k1]
              have dk2 : ((k : Int) == 1) = false := by simp; omega
              (go_wp2_with fail; have A1 := add _ (some ⟨w2.heap.size, 0, none⟩) _ _ 1 1 _ [1] _ (h2.below (below_alloc (below_self w2) (.cells #[.int .u64 1] 27))) (arr_one (w := w2) rfl 1 (by decide) (by decide)) (by omega) (by decide); rw [VQ.out, val_one] at A1; refine A1.mono ?_; rintro r w3 ⟨A3, n3, c3, rfl, h3, hb3⟩; have hb23 := below_on (below_alloc (below_self w2) (.cells #[.int .u64 1] 27)) hb3; go_wp2_with fail; go_ret2; exact ⟨A3, n3, c3, rfl, h3.arr, below_on bw2 hb23⟩)
          · rcases Int.emod_two_eq q with pd | pd
            · rw [pd] at ad
              by_cases k1 : k = 1
              · by_cases m4 : mode = 4
                · obtain rfl := MT.out p5 (.inr (.inr m4))
                  clear p5 pd MT MF
                  subst k1 m4
                  (go_wp2_with fail; have A1 := add _ (some ⟨w2.heap.size, 0, none⟩) _ _ 1 1 _ [1] _ (h2.below (below_alloc (below_self w2) (.cells #[.int .u64 1] 27))) (arr_one (w := w2) rfl 1 (by decide) (by decide)) (by omega) (by decide); rw [VQ.out, val_one] at A1; refine A1.mono ?_; rintro r w3 ⟨A3, n3, c3, rfl, h3, hb3⟩; have hb23 := below_on (below_alloc (below_self w2) (.cells #[.int .u64 1] 27)) hb3; go_wp2_with fail; go_ret2; exact ⟨A3, n3, c3, rfl, h3.arr, below_on bw2 hb23⟩)
                · obtain rfl := MF.out (.inr ⟨k1, pd, m4⟩)
                  clear p5 pd MT MF
                  have dm : (mode == 4) = false := by simp [m4]
                  subst k1
                  (go_wp2_with fail; go_ret2; exact ⟨_, _, _, rfl, h2, bw2⟩)
              · obtain rfl := MT.out p5 (.inl k1)
                clear p5 pd MT MF
                have dk : (k == 1) = false := by simp [k1]
                have dk2 : ((k : Int) == 1) = false := by simp; omega
                (go_wp2_with fail; have A1 := add _ (some ⟨w2.heap.size, 0, none⟩) _ _ 1 1 _ [1] _ (h2.below (below_alloc (below_self w2) (.cells #[.int .u64 1] 27))) (arr_one (w := w2) rfl 1 (by decide) (by decide)) (by omega) (by decide); rw [VQ.out, val_one] at A1; refine A1.mono ?_; rintro r w3 ⟨A3, n3, c3, rfl, h3, hb3⟩; have hb23 := below_on (below_alloc (below_self w2) (.cells #[.int .u64 1] 27)) hb3; go_wp2_with fail; go_ret2; exact ⟨A3, n3, c3, rfl, h3.arr, below_on bw2 hb23⟩)
            · rw [pd] at ad
              obtain rfl := MT.out p5 (.inr (.inl pd))
              clear p5 pd MT MF
              by_cases k1 : k = 1
              · subst k1
                (go_wp2_with fail; have A1 := add _ (some ⟨w2.heap.size, 0, none⟩) _ _ 1 1 _ [1] _ (h2.below (below_alloc (below_self w2) (.cells #[.int .u64 1] 27))) (arr_one (w := w2) rfl 1 (by decide) (by decide)) (by omega) (by decide); rw [VQ.out, val_one] at A1; refine A1.mono ?_; rintro r w3 ⟨A3, n3, c3, rfl, h3, hb3⟩; have hb23 := below_on (below_alloc (below_self w2) (.cells #[.int .u64 1] 27)) hb3; go_wp2_with fail; go_ret2; exact ⟨A3, n3, c3, rfl, h3.arr, below_on bw2 hb23⟩)
              · have dk : (k == 1) = false := by simp [k1]
                have dk2 : ((k : Int) == 1) = false := by simp; omega
                (go_wp2_with fail; have A1 := add _ (some ⟨w2.heap.size, 0, none⟩) _ _ 1 1 _ [1] _ (h2.below (below_alloc (below_self w2) (.cells #[.int .u64 1] 27))) (arr_one (w := w2) rfl 1 (by decide) (by decide)) (by omega) (by decide); rw [VQ.out, val_one] at A1; refine A1.mono ?_; rintro r w3 ⟨A3, n3, c3, rfl, h3, hb3⟩; have hb23 := below_on (below_alloc (below_self w2) (.cells #[.int .u64 1] 27)) hb3; go_wp2_with fail; go_ret2; exact ⟨A3, n3, c3, rfl, h3.arr, below_on bw2 hb23⟩)
end Go.Proofs.YtlmojkknlkfloaaDoor
