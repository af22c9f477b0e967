/- dyad.Root, the document's Root. -/
import Derived.Laws.BitsLemmas
import Derived.Test.YtlmojkknlkfloaaDoorMS
import Derived.Test.YtlmojkknlkfloaaDoorMJ
namespace Go.Proofs.YtlmojkknlkfloaaDoor
open Go.RowKit Num
set_option linter.unusedSimpArgs false
set_option linter.unusedVariables false
set_option maxRecDepth 100000

theorem i64_and1 (n : Int) : bits .and .i64 n 1 = n % 2 := by
  have h1 : (BitVec.ofInt 64 1).toNat = 2 ^ 1 - 1 := by decide
  have key : (BitVec.ofInt 64 n &&& BitVec.ofInt 64 1).toNat = (n % ((2 ^ 64 : Nat) : Int)).toNat % 2 ^ 1 := by
    rw [BitVec.toNat_and, BitVec.toNat_ofInt, h1, Nat.and_two_pow_sub_one_eq_mod]
  show IntKind.i64.wrap ((BitVec.ofInt 64 n &&& BitVec.ofInt 64 1).toNat : Nat) = n % 2
  rw [key, IntKind.wrap_i64]
  omega
theorem rootD_none {p : Bool} {xs : List Int} {e P : Int} {up : Bool} (h : (plainB p xs e && rightB P && !p) = false) : rootD p xs e P up = none := by
  unfold rootD; rw [h]; rfl
set_option maxHeartbeats 4000000 in
theorem dRoot (p : Bool) (A : Option Addr) (n c : Nat) (xs : List Int) (e P : Int) (up : Bool) (w : World) (h : Arr w A n c xs) (hT : Tz w) :
    Calls Tryd.prog 29 #[.agg #[.bool p, .slice A n c, .int .i64 e], .int .i64 P, .bool up] w (RetD (rootD p xs e P up) w) := by
  have b1 : Below w.heap.size w ((w.alloc (.cells #[.bool p, .slice A n c, .int .i64 e] 24)).alloc (.cells #[.bool false, .slice none 0 0, .int .i64 0] 24)) := below_alloc (below_alloc (below_self w) _) _
  have H := h.below b1
  have PL := Lib.hid (plain p A n c xs e _ H)
  have bx := (box_new w #[.bool p, .slice A n c, .int .i64 e] 24).later (below_alloc (below_self _) (.cells #[.bool false, .slice none 0 0, .int .i64 0] 24))
  have br := box_new (w.alloc (.cells #[.bool p, .slice A n c, .int .i64 e] 24)) #[.bool false, .slice none 0 0, .int .i64 0] 24
  rw [show (w.alloc (.cells #[.bool p, .slice A n c, .int .i64 e] 24)).heap.size = w.heap.size + 1 by simp] at br
  obtain ⟨k0, k1, k2, f0, f1, f2⟩ := bx.cell3
  have BR := fun w => bright P w
  cases hpl : plainB p xs e
  · rw [hpl] at PL
    rw [rootD_none (by rw [hpl]; rfl)]
    go_enter Tryd.func29, Tryd.ntmps29
    go_wp2_with fail
    refine PL.out.mono ?_; rintro r w3 ⟨rfl, hb3⟩
    have hw3 := below_on b1 hb3
    have br3 := br.later hb3
    obtain ⟨z0, z1, z2, y0, y1, y2⟩ := br3.cell3
    go_wp2_with fail
    (refine bodyPost_ret (v := .tuple #[.agg #[.bool false, .slice none 0 0, .int .i64 0], .bool false]) (by simp [results, Tryd.results29, go_sem, z0, z1, z2]) rfl ?_; exact retD_set (o := none) (arr_no _) br3 hw3 (by omega))
  · rw [hpl] at PL
    obtain ⟨pd, l1, -, -⟩ := plainB_parts h.wf hpl
    have he := pd.lo
    have he' := pd.hi
    simp only at he he'
    have hl := h.len
    cases hR : rightB P
    · rw [hR] at BR
      have BR := Lib.hid BR
      rw [rootD_none (by rw [hR, Bool.and_false, Bool.false_and])]
      go_enter Tryd.func29, Tryd.ntmps29
      go_wp2_with fail
      refine PL.out.mono ?_; rintro r w3 ⟨rfl, hb3⟩
      (clear k0 k1 k2 f0 f1 f2)
      (obtain ⟨k0, k1, k2, f0, f1, f2⟩ := (bx.later hb3).cell3)
      have hw3 := below_on b1 hb3
      have br3 := br.later hb3
      obtain ⟨z0, z1, z2, y0, y1, y2⟩ := br3.cell3
      go_wp2_with fail
      refine (BR.out _).mono ?_; rintro r w' ⟨rfl, rfl⟩
      go_wp2_with fail
      (refine bodyPost_ret (v := .tuple #[.agg #[.bool false, .slice none 0 0, .int .i64 0], .bool false]) (by simp [results, Tryd.results29, go_sem, z0, z1, z2]) rfl ?_; exact retD_set (o := none) (arr_no _) br3 hw3 (by omega))
    · rw [hR] at BR
      have BR := Lib.hid BR
      cases p
      · have er : rootD false xs e P up = cutD false (isq (val xs * 2 ^ rootK (val xs) e P)) ((e - rootK (val xs) e P) / 2) (decide (val xs * 2 ^ rootK (val xs) e P - isq (val xs * 2 ^ rootK (val xs) e P) * isq (val xs * 2 ^ rootK (val xs) e P) ≠ 0)) P up := by
          unfold rootD; rw [hpl, hR]; rfl
        rw [er]
        clear er
        have hPr : 1 ≤ P ∧ P ≤ 8192 := by unfold rightB at hR; simpa using hR
        have nx : 0 ≤ val xs := h.val_nonneg
        have hb0 := bl_nonneg (val xs)
        have hb1 := bl_lt (v := val xs) (a := 64 * n) nx (by rw [← B_pow_pw, ← h.len]; exact val_lt h.wf)
        have hr0 : 0 ≤ rootK0 (val xs) P ∧ rootK0 (val xs) P ≤ 30000 := by unfold rootK0; omega
        have hkd : ((rootK (val xs) e P : Nat) : Int) = rootK0 (val xs) P + (e - rootK0 (val xs) P) % 2 := by unfold rootK; omega
        have hmx : max 0 (2 * P + 4 - bl (val xs)) = rootK0 (val xs) P := rfl
        generalize rootK (val xs) e P = kk at *
        generalize rootK0 (val xs) P = r0 at *
        have hkk : kk ≤ 30001 := by omega
        have hev : (e - kk) % 2 = 0 := by omega
        have hN0 : 0 ≤ val xs * 2 ^ kk := Int.mul_nonneg nx (Int.le_of_lt (pw_pos kk))
        have hNl : (wd (val xs * 2 ^ kk)).length ≤ 800 := by
          refine wd_length_le hN0 ?_
          have a1 : val xs < pw (64 * 256) := by
            rw [← B_pow_pw]
            exact Int.lt_of_lt_of_le (val_lt h.wf) (B_pow_le l1)
          have a2 : val xs * pw kk < pw (64 * 256) * pw kk := Int.mul_lt_mul_of_pos_right a1 (pw_pos kk)
          rw [← pw_add] at a2
          rw [B_pow_pw]
          exact Int.lt_of_lt_of_le a2 (pw_le (by omega))
        have vN := val_wd _ hN0
        obtain ⟨i0, i1, i2⟩ := isq_spec hN0
        have hsl : (wd (isq (val xs * 2 ^ kk))).length ≤ 800 := by
          refine Nat.le_trans (wd_mono i0 ?_) hNl
          by_cases hz : isq (val xs * 2 ^ kk) = 0
          · rw [hz]; exact hN0
          · have := Int.mul_le_mul_of_nonneg_left (show 1 ≤ isq (val xs * 2 ^ kk) by omega) i0
            omega
        have vs := val_wd _ i0
        have NB := fun w3 (hb : Below ((w.alloc (.cells #[.bool false, .slice A n c, .int .i64 e] 24)).alloc (.cells #[.bool false, .slice none 0 0, .int .i64 0] 24)).heap.size ((w.alloc (.cells #[.bool false, .slice A n c, .int .i64 e] 24)).alloc (.cells #[.bool false, .slice none 0 0, .int .i64 0] 24)) w3) => (nbits A n c xs w3 (H.below hb) (by omega)).mono (fun r w' (hh : r = _ ∧ w3 = w') => (And.intro hh.1 (hh.2 ▸ below_self w3) : r = _ ∧ Below w3.heap.size w3 w'))
        have SX := fun w3 (hb : Below ((w.alloc (.cells #[.bool false, .slice A n c, .int .i64 e] 24)).alloc (.cells #[.bool false, .slice none 0 0, .int .i64 0] 24)).heap.size ((w.alloc (.cells #[.bool false, .slice A n c, .int .i64 e] 24)).alloc (.cells #[.bool false, .slice none 0 0, .int .i64 0] 24)) w3) => shl A n c xs (kk : Int) w3 (H.below hb) (by omega) (by omega) (by omega)
        rw [shlI_eq (by omega) (by omega), Int.toNat_natCast] at SX
        have SQ : ∀ (A5 : Option Addr) (n5 c5 : Nat) (w1 : World), Arr w1 A5 n5 c5 (wd (val xs * 2 ^ kk)) → Calls Tryd.prog 86 #[.slice A5 n5 c5] w1 fun r w6 => ∃ A6 n6 c6 A7 n7 c7, r = .returned (.tuple #[.slice A6 n6 c6, .slice A7 n7 c7]) ∧ Arr w6 A6 n6 c6 (wd (isq (val xs * 2 ^ kk))) ∧ Arr w6 A7 n7 c7 (wd (val xs * 2 ^ kk - isq (val xs * 2 ^ kk) * isq (val xs * 2 ^ kk))) ∧ Below w1.heap.size w1 w6 := by
          intro A5 n5 c5 w1 ha
          have S := sqrt A5 n5 c5 _ w1 ha (by rw [← ha.len]; omega)
          unfold RetQ at S
          rw [vN] at S
          refine S.mono ?_
          rintro r w6 ⟨A6, n6, c6, A7, n7, c7, s, rfl, h6, h7, s0, s1, s2, hb6⟩
          have es := isq_unique s0 s1 s2
          rw [es] at h6 h7
          exact ⟨A6, n6, c6, A7, n7, c7, rfl, h6, h7, hb6⟩
        have hr2 : 0 ≤ val xs * 2 ^ kk - isq (val xs * 2 ^ kk) * isq (val xs * 2 ^ kk) := by omega
        have rz : Hid ((wd (val xs * 2 ^ kk - isq (val xs * 2 ^ kk) * isq (val xs * 2 ^ kk))).length = 0 ∧ decide (val xs * 2 ^ kk - isq (val xs * 2 ^ kk) * isq (val xs * 2 ^ kk) ≠ 0) = false ∨ 0 < (wd (val xs * 2 ^ kk - isq (val xs * 2 ^ kk) * isq (val xs * 2 ^ kk))).length ∧ decide (val xs * 2 ^ kk - isq (val xs * 2 ^ kk) * isq (val xs * 2 ^ kk) ≠ 0) = true) := by
          show _ ∨ _
          by_cases hz : val xs * 2 ^ kk - isq (val xs * 2 ^ kk) * isq (val xs * 2 ^ kk) = 0
          · left; rw [hz, wd_zero (Int.le_refl _)]; exact ⟨rfl, by simp⟩
          · right; exact ⟨List.length_pos_iff.2 (wd_ne_nil (by omega)), by simp [hz]⟩
        generalize decide (val xs * 2 ^ kk - isq (val xs * 2 ^ kk) * isq (val xs * 2 ^ kk) ≠ 0) = rest at *
        generalize val xs * 2 ^ kk - isq (val xs * 2 ^ kk) * isq (val xs * 2 ^ kk) = R at *
        generalize isq (val xs * 2 ^ kk) = S at *
        have SX := Lib.hid SX
        have SQ := Lib.hid SQ
        have W0 : IntKind.i64.wrap (2 * P) = 2 * P := by rw [IntKind.wrap_i64]; omega
        have W1 : IntKind.i64.wrap (2 * P + 4) = 2 * P + 4 := by rw [IntKind.wrap_i64]; omega
        have W2 : IntKind.i64.wrap (2 * P + 4 - bl (val xs)) = 2 * P + 4 - bl (val xs) := by rw [IntKind.wrap_i64]; omega
        have W3 : IntKind.i64.wrap (e - r0) = e - r0 := by rw [IntKind.wrap_i64]; omega
        have W5 : IntKind.i64.wrap (e - kk) = e - kk := by rw [IntKind.wrap_i64]; omega
        have tq : (e - (kk : Int)).tdiv 2 = (e - kk) / 2 := Int.tdiv_eq_ediv_of_dvd (Int.dvd_of_emod_eq_zero hev)
        have W6 : IntKind.i64.wrap ((e - (kk : Int)) / 2) = (e - kk) / 2 := by rw [IntKind.wrap_i64]; omega
        have hE0 : -1000000 ≤ (e - (kk : Int)) / 2 ∧ (e - (kk : Int)) / 2 ≤ 1000000 := by omega
        generalize hE : (e - (kk : Int)) / 2 = E at *
        clear hE
        have a1 := i64_and1 (e - r0)
        have W4 : IntKind.i64.wrap (r0 + (e - r0) % 2) = (kk : Int) := by rw [IntKind.wrap_i64]; omega
        clear hkd
        generalize bl (val xs) = bb at *
        have NB := Lib.hid NB
        clear i0 i1 i2 hN0 vN pd hpl hR hev h H nx hr2
        go_enter Tryd.func29, Tryd.ntmps29
        go_wp2_with fail
        refine PL.out.mono ?_; rintro r w3 ⟨rfl, hb3⟩
        (clear k0 k1 k2 f0 f1 f2)
        (obtain ⟨k0, k1, k2, f0, f1, f2⟩ := (bx.later hb3).cell3)
        go_wp2_with fail
        refine (BR.out _).mono ?_; rintro r w' ⟨rfl, rfl⟩
        go_wp2_with fail
        refine (NB.out _ hb3).mono ?_; rintro r w4 ⟨rfl, hb4⟩
        have hb4 := below_on hb3 hb4
        (clear k0 k1 k2 f0 f1 f2)
        (obtain ⟨k0, k1, k2, f0, f1, f2⟩ := (bx.later hb4).cell3)
        go_wp2_with fail
        refine (SX.out _ hb4).mono ?_; rintro r w5 ⟨A5, n5, c5, rfl, h5, hb5⟩
        have hb5 := below_on hb4 hb5
        (clear k0 k1 k2 f0 f1 f2)
        (obtain ⟨k0, k1, k2, f0, f1, f2⟩ := (bx.later hb5).cell3)
        go_wp2_with fail
        refine (SQ.out _ _ _ _ h5).mono ?_; rintro r w6 ⟨A6, n6, c6, A7, n7, c7, rfl, h6, h7, hb6⟩
        have hb6 := below_on hb5 hb6
        (clear k0 k1 k2 f0 f1 f2)
        (obtain ⟨k0, k1, k2, f0, f1, f2⟩ := (bx.later hb6).cell3)
        have n6l := h6.len
        have n7l := h7.len
        go_wp2_with fail
        have hrest : decide (0 < n7) = rest := by
          have hz := rz.out
          rw [n7l] at hz
          rcases hz with ⟨a, b⟩ | ⟨a, b⟩
          · rw [b, a]; rfl
          · rw [b]; exact decide_eq_true a
        rw [hrest]
        have DC := dcut false A6 n6 c6 _ E rest P up w6 h6 (by omega) (by omega) (by omega) (by omega) (by omega) (hT.below (below_on b1 hb6))
        rw [vs] at DC
        refine DC.mono ?_
        rintro r w7 ⟨A9, n9, c9, rfl, hA, hb7⟩
        have hw7 := below_on (below_on b1 hb6) hb7
        have br7 := (br.later hb6).later hb7
        obtain ⟨z0, z1, z2, y0, y1, y2⟩ := br7.cell3
        clear DC
        (clear k0 k1 k2 f0 f1 f2)
        go_wp2_with fail
        (refine bodyPost_ret (v := _) ?_ rfl (retD_set hA br7 hw7 (by omega)); simp [results, Tryd.results29, go_sem, z0, z1, z2])
      · rw [rootD_none (by rw [hpl, hR]; rfl)]
        go_enter Tryd.func29, Tryd.ntmps29
        go_wp2_with fail
        refine PL.out.mono ?_; rintro r w3 ⟨rfl, hb3⟩
        (clear k0 k1 k2 f0 f1 f2)
        (obtain ⟨k0, k1, k2, f0, f1, f2⟩ := (bx.later hb3).cell3)
        have hw3 := below_on b1 hb3
        have br3 := br.later hb3
        obtain ⟨z0, z1, z2, y0, y1, y2⟩ := br3.cell3
        go_wp2_with fail
        refine (BR.out _).mono ?_; rintro r w' ⟨rfl, rfl⟩
        go_wp2_with fail
        (refine bodyPost_ret (v := .tuple #[.agg #[.bool false, .slice none 0 0, .int .i64 0], .bool false]) (by simp [results, Tryd.results29, go_sem, z0, z1, z2]) rfl ?_; exact retD_set (o := none) (arr_no _) br3 hw3 (by omega))
set_option maxHeartbeats 4000000 in
theorem rRoot (p : Bool) (A : Option Addr) (n c : Nat) (xs : List Int) (e P : Int) (up : Bool) (w : World) (h : Arr w A n c xs) (hn : n ≤ 100000) :
    Calls Tryd.prog 106 #[.agg #[.bool p, .slice A n c, .int .i64 e], .int .i64 P, .bool up] w (RetD (rootD p xs e P up) w) := by
  have b1 : Below w.heap.size w ((w.alloc (.cells #[.bool p, .slice A n c, .int .i64 e] 24)).alloc (.cells #[.bool false, .slice none 0 0, .int .i64 0] 24)) := below_alloc (below_alloc (below_self w) _) _
  have H := h.below b1
  have PL := Lib.hid (rplain p A n c xs e _ H (by omega))
  have bx := (box_new w #[.bool p, .slice A n c, .int .i64 e] 24).later (below_alloc (below_self _) (.cells #[.bool false, .slice none 0 0, .int .i64 0] 24))
  have br := box_new (w.alloc (.cells #[.bool p, .slice A n c, .int .i64 e] 24)) #[.bool false, .slice none 0 0, .int .i64 0] 24
  rw [show (w.alloc (.cells #[.bool p, .slice A n c, .int .i64 e] 24)).heap.size = w.heap.size + 1 by simp] at br
  obtain ⟨k0, k1, k2, f0, f1, f2⟩ := bx.cell3
  cases hpl : plainB p xs e
  · rw [hpl] at PL
    rw [rootD_none (by rw [hpl]; rfl)]
    go_enter Tryd.func106, Tryd.ntmps106
    go_wp2_with fail
    refine PL.out.mono ?_; rintro r w3 ⟨rfl, hb3⟩
    have hw3 := below_on b1 hb3
    have br3 := br.later hb3
    obtain ⟨z0, z1, z2, y0, y1, y2⟩ := br3.cell3
    go_wp2_with fail
    (refine bodyPost_ret (v := .tuple #[.agg #[.bool false, .slice none 0 0, .int .i64 0], .bool false]) (by simp [results, Tryd.results106, go_sem, z0, z1, z2]) rfl ?_; exact retD_set (o := none) (arr_no _) br3 hw3 (by omega))
  · rw [hpl] at PL
    obtain ⟨pd, l1, -, -⟩ := plainB_parts h.wf hpl
    have he := pd.lo
    have he' := pd.hi
    simp only at he he'
    have hl := h.len
    by_cases hP1 : P < 1
    · have hR : rightB P = false := by unfold rightB; rw [decide_eq_false (by omega)]; rfl
      have d1 : decide (P < 1) = true := decide_eq_true hP1
      rw [rootD_none (by rw [hR, Bool.and_false, Bool.false_and])]
      go_enter Tryd.func106, Tryd.ntmps106
      go_wp2_with fail
      refine PL.out.mono ?_; rintro r w3 ⟨rfl, hb3⟩
      (clear k0 k1 k2 f0 f1 f2)
      (obtain ⟨k0, k1, k2, f0, f1, f2⟩ := (bx.later hb3).cell3)
      have hw3 := below_on b1 hb3
      have br3 := br.later hb3
      obtain ⟨z0, z1, z2, y0, y1, y2⟩ := br3.cell3
      go_wp2_with fail
      (refine bodyPost_ret (v := .tuple #[.agg #[.bool false, .slice none 0 0, .int .i64 0], .bool false]) (by simp [results, Tryd.results106, go_sem, z0, z1, z2]) rfl ?_; exact retD_set (o := none) (arr_no _) br3 hw3 (by omega))
    · have d1 : decide (P < 1) = false := decide_eq_false hP1
      by_cases hP2 : 8192 < P
      · have hR : rightB P = false := by unfold rightB; rw [decide_eq_false (by omega : ¬ P ≤ 8192), Bool.and_false]
        have d2 : decide (P > 8192) = true := decide_eq_true hP2
        rw [rootD_none (by rw [hR, Bool.and_false, Bool.false_and])]
        go_enter Tryd.func106, Tryd.ntmps106
        go_wp2_with fail
        refine PL.out.mono ?_; rintro r w3 ⟨rfl, hb3⟩
        (clear k0 k1 k2 f0 f1 f2)
        (obtain ⟨k0, k1, k2, f0, f1, f2⟩ := (bx.later hb3).cell3)
        have hw3 := below_on b1 hb3
        have br3 := br.later hb3
        obtain ⟨z0, z1, z2, y0, y1, y2⟩ := br3.cell3
        go_wp2_with fail
        (refine bodyPost_ret (v := .tuple #[.agg #[.bool false, .slice none 0 0, .int .i64 0], .bool false]) (by simp [results, Tryd.results106, go_sem, z0, z1, z2]) rfl ?_; exact retD_set (o := none) (arr_no _) br3 hw3 (by omega))
      · have d2 : decide (P > 8192) = false := decide_eq_false hP2
        have hR : rightB P = true := by unfold rightB; rw [decide_eq_true (by omega), decide_eq_true (by omega : P ≤ 8192)]; rfl
        cases p
        · have er : rootD false xs e P up = cutD false (isq (val xs * 2 ^ rootK (val xs) e P)) ((e - rootK (val xs) e P) / 2) (decide (val xs * 2 ^ rootK (val xs) e P - isq (val xs * 2 ^ rootK (val xs) e P) * isq (val xs * 2 ^ rootK (val xs) e P) ≠ 0)) P up := by
            unfold rootD; rw [hpl, hR]; rfl
          rw [er]
          clear er
          have hPr : 1 ≤ P ∧ P ≤ 8192 := by unfold rightB at hR; simpa using hR
          have nx : 0 ≤ val xs := h.val_nonneg
          have hb0 := bl_nonneg (val xs)
          have hb1 := bl_lt (v := val xs) (a := 64 * n) nx (by rw [← B_pow_pw, ← h.len]; exact val_lt h.wf)
          have hr0 : 0 ≤ rootK0 (val xs) P ∧ rootK0 (val xs) P ≤ 30000 := by unfold rootK0; omega
          have hkd : ((rootK (val xs) e P : Nat) : Int) = rootK0 (val xs) P + (e - rootK0 (val xs) P) % 2 := by unfold rootK; omega
          have hmx : max 0 (2 * P + 4 - bl (val xs)) = rootK0 (val xs) P := rfl
          generalize rootK (val xs) e P = kk at *
          generalize rootK0 (val xs) P = r0 at *
          have hkk : kk ≤ 30001 := by omega
          have hev : (e - kk) % 2 = 0 := by omega
          have hN0 : 0 ≤ val xs * 2 ^ kk := Int.mul_nonneg nx (Int.le_of_lt (pw_pos kk))
          have hNl : (wd (val xs * 2 ^ kk)).length ≤ 800 := by
            refine wd_length_le hN0 ?_
            have a1 : val xs < pw (64 * 256) := by
              rw [← B_pow_pw]
              exact Int.lt_of_lt_of_le (val_lt h.wf) (B_pow_le l1)
            have a2 : val xs * pw kk < pw (64 * 256) * pw kk := Int.mul_lt_mul_of_pos_right a1 (pw_pos kk)
            rw [← pw_add] at a2
            rw [B_pow_pw]
            exact Int.lt_of_lt_of_le a2 (pw_le (by omega))
          have vN := val_wd _ hN0
          obtain ⟨i0, i1, i2⟩ := isq_spec hN0
          have hsl : (wd (isq (val xs * 2 ^ kk))).length ≤ 800 := by
            refine Nat.le_trans (wd_mono i0 ?_) hNl
            by_cases hz : isq (val xs * 2 ^ kk) = 0
            · rw [hz]; exact hN0
            · have := Int.mul_le_mul_of_nonneg_left (show 1 ≤ isq (val xs * 2 ^ kk) by omega) i0
              omega
          have vs := val_wd _ i0
          have NB := fun w3 (hb : Below ((w.alloc (.cells #[.bool false, .slice A n c, .int .i64 e] 24)).alloc (.cells #[.bool false, .slice none 0 0, .int .i64 0] 24)).heap.size ((w.alloc (.cells #[.bool false, .slice A n c, .int .i64 e] 24)).alloc (.cells #[.bool false, .slice none 0 0, .int .i64 0] 24)) w3) => (rbits A n c xs w3 (H.below hb) (by omega))
          have SX := fun w3 (hb : Below ((w.alloc (.cells #[.bool false, .slice A n c, .int .i64 e] 24)).alloc (.cells #[.bool false, .slice none 0 0, .int .i64 0] 24)).heap.size ((w.alloc (.cells #[.bool false, .slice A n c, .int .i64 e] 24)).alloc (.cells #[.bool false, .slice none 0 0, .int .i64 0] 24)) w3) => rshl A n c xs (kk : Int) w3 (H.below hb) (by omega) (by omega) (by omega)
          rw [shlI_eq (by omega) (by omega), Int.toNat_natCast] at SX
          have SQ : ∀ (A5 : Option Addr) (n5 c5 : Nat) (w1 : World), Arr w1 A5 n5 c5 (wd (val xs * 2 ^ kk)) → Calls Tryd.prog 134 #[.slice A5 n5 c5] w1 fun r w6 => ∃ A6 n6 c6 A7 n7 c7, r = .returned (.tuple #[.slice A6 n6 c6, .slice A7 n7 c7]) ∧ Arr w6 A6 n6 c6 (wd (isq (val xs * 2 ^ kk))) ∧ Arr w6 A7 n7 c7 (wd (val xs * 2 ^ kk - isq (val xs * 2 ^ kk) * isq (val xs * 2 ^ kk))) ∧ Below w1.heap.size w1 w6 := by
            intro A5 n5 c5 w1 ha
            have S := rsqrt A5 n5 c5 _ w1 ha (by rw [← ha.len]; omega)
            unfold RetQ at S
            rw [vN] at S
            refine S.mono ?_
            rintro r w6 ⟨A6, n6, c6, A7, n7, c7, s, rfl, h6, h7, s0, s1, s2, hb6⟩
            have es := isq_unique s0 s1 s2
            rw [es] at h6 h7
            exact ⟨A6, n6, c6, A7, n7, c7, rfl, h6, h7, hb6⟩
          have hr2 : 0 ≤ val xs * 2 ^ kk - isq (val xs * 2 ^ kk) * isq (val xs * 2 ^ kk) := by omega
          have rz : Hid ((wd (val xs * 2 ^ kk - isq (val xs * 2 ^ kk) * isq (val xs * 2 ^ kk))).length = 0 ∧ decide (val xs * 2 ^ kk - isq (val xs * 2 ^ kk) * isq (val xs * 2 ^ kk) ≠ 0) = false ∨ 0 < (wd (val xs * 2 ^ kk - isq (val xs * 2 ^ kk) * isq (val xs * 2 ^ kk))).length ∧ decide (val xs * 2 ^ kk - isq (val xs * 2 ^ kk) * isq (val xs * 2 ^ kk) ≠ 0) = true) := by
            show _ ∨ _
            by_cases hz : val xs * 2 ^ kk - isq (val xs * 2 ^ kk) * isq (val xs * 2 ^ kk) = 0
            · left; rw [hz, wd_zero (Int.le_refl _)]; exact ⟨rfl, by simp⟩
            · right; exact ⟨List.length_pos_iff.2 (wd_ne_nil (by omega)), by simp [hz]⟩
          generalize decide (val xs * 2 ^ kk - isq (val xs * 2 ^ kk) * isq (val xs * 2 ^ kk) ≠ 0) = rest at *
          generalize val xs * 2 ^ kk - isq (val xs * 2 ^ kk) * isq (val xs * 2 ^ kk) = R at *
          generalize isq (val xs * 2 ^ kk) = S at *
          have SX := Lib.hid SX
          have SQ := Lib.hid SQ
          have W0 : IntKind.i64.wrap (2 * P) = 2 * P := by rw [IntKind.wrap_i64]; omega
          have W1 : IntKind.i64.wrap (2 * P + 4) = 2 * P + 4 := by rw [IntKind.wrap_i64]; omega
          have W2 : IntKind.i64.wrap (2 * P + 4 - bl (val xs)) = 2 * P + 4 - bl (val xs) := by rw [IntKind.wrap_i64]; omega
          have W3 : IntKind.i64.wrap (e - r0) = e - r0 := by rw [IntKind.wrap_i64]; omega
          have W5 : IntKind.i64.wrap (e - kk) = e - kk := by rw [IntKind.wrap_i64]; omega
          have tq : (e - (kk : Int)).tdiv 2 = (e - kk) / 2 := Int.tdiv_eq_ediv_of_dvd (Int.dvd_of_emod_eq_zero hev)
          have W6 : IntKind.i64.wrap ((e - (kk : Int)) / 2) = (e - kk) / 2 := by rw [IntKind.wrap_i64]; omega
          have hE0 : -1000000 ≤ (e - (kk : Int)) / 2 ∧ (e - (kk : Int)) / 2 ≤ 1000000 := by omega
          generalize hE : (e - (kk : Int)) / 2 = E at *
          clear hE
          have hpar : (kk : Int) = r0 ∧ ((e - r0).tmod 2 == 0) = true ∨ (kk : Int) = r0 + 1 ∧ ((e - r0).tmod 2 == 0) = false := by
            have ht : (e - r0).tmod 2 = 0 ↔ (e - r0) % 2 = 0 := by rw [← Int.dvd_iff_tmod_eq_zero, ← Int.dvd_iff_emod_eq_zero]
            by_cases hz : (e - r0) % 2 = 0
            · exact .inl ⟨by omega, by rw [beq_iff_eq]; exact ht.2 hz⟩
            · exact .inr ⟨by omega, beq_eq_false_iff_ne.2 (fun hh => hz (ht.1 hh))⟩
          generalize bl (val xs) = bb at *
          have NB := Lib.hid NB
          clear i0 i1 i2 hN0 vN pd hpl hR hev h H nx hr2
          rcases hpar with ⟨hp1, hp2⟩ | ⟨hp1, hp2⟩
          · have hp3 : (e - r0).tmod 2 = 0 := by simpa using hp2
            have Z : IntKind.i64.wrap 0 = 0 := rfl
            clear hkd hp2
            rw [hp1] at SX W5 tq
            clear W5
            go_enter Tryd.func106, Tryd.ntmps106
            go_wp2_with fail
            refine PL.out.mono ?_; rintro r w3 ⟨rfl, hb3⟩
            (clear k0 k1 k2 f0 f1 f2)
            (obtain ⟨k0, k1, k2, f0, f1, f2⟩ := (bx.later hb3).cell3)
            go_wp2_with fail
            refine (NB.out _ hb3).mono ?_; rintro r w4 ⟨rfl, hb4⟩
            have hb4 := below_on hb3 hb4
            (clear k0 k1 k2 f0 f1 f2)
            (obtain ⟨k0, k1, k2, f0, f1, f2⟩ := (bx.later hb4).cell3)
            go_wp2_with fail
            refine (SX.out _ hb4).mono ?_; rintro r w5 ⟨A5, n5, c5, rfl, h5, hb5⟩
            have hb5 := below_on hb4 hb5
            (clear k0 k1 k2 f0 f1 f2)
            (obtain ⟨k0, k1, k2, f0, f1, f2⟩ := (bx.later hb5).cell3)
            go_wp2_with fail
            refine (SQ.out _ _ _ _ h5).mono ?_; rintro r w6 ⟨A6, n6, c6, A7, n7, c7, rfl, h6, h7, hb6⟩
            have hb6 := below_on hb5 hb6
            (clear k0 k1 k2 f0 f1 f2)
            (obtain ⟨k0, k1, k2, f0, f1, f2⟩ := (bx.later hb6).cell3)
            have n6l := h6.len
            have n7l := h7.len
            go_wp2_with fail
            have hrest : decide (0 < n7) = rest := by
              have hz := rz.out
              rw [n7l] at hz
              rcases hz with ⟨a, b⟩ | ⟨a, b⟩
              · rw [b, a]; rfl
              · rw [b]; exact decide_eq_true a
            rw [hrest]
            have DC := rcutting false A6 n6 c6 _ E rest P up w6 h6 (by omega) (by omega) (by omega) (by omega) (by omega)
            rw [vs] at DC
            refine DC.mono ?_
            rintro r w7 ⟨A9, n9, c9, rfl, hA, hb7⟩
            have hw7 := below_on (below_on b1 hb6) hb7
            have br7 := (br.later hb6).later hb7
            obtain ⟨z0, z1, z2, y0, y1, y2⟩ := br7.cell3
            clear DC
            (clear k0 k1 k2 f0 f1 f2)
            go_wp2_with fail
            (refine bodyPost_ret (v := _) ?_ rfl (retD_set hA br7 hw7 (by omega)); simp [results, Tryd.results106, go_sem, z0, z1, z2])
          · have W4 : IntKind.i64.wrap (r0 + 1) = (kk : Int) := by rw [IntKind.wrap_i64]; omega
            have hp3 : ¬ (e - r0).tmod 2 = 0 := by simpa using hp2
            clear hkd hp1
            go_enter Tryd.func106, Tryd.ntmps106
            go_wp2_with fail
            refine PL.out.mono ?_; rintro r w3 ⟨rfl, hb3⟩
            (clear k0 k1 k2 f0 f1 f2)
            (obtain ⟨k0, k1, k2, f0, f1, f2⟩ := (bx.later hb3).cell3)
            go_wp2_with fail
            refine (NB.out _ hb3).mono ?_; rintro r w4 ⟨rfl, hb4⟩
            have hb4 := below_on hb3 hb4
            (clear k0 k1 k2 f0 f1 f2)
            (obtain ⟨k0, k1, k2, f0, f1, f2⟩ := (bx.later hb4).cell3)
            go_wp2_with fail
            refine (SX.out _ hb4).mono ?_; rintro r w5 ⟨A5, n5, c5, rfl, h5, hb5⟩
            have hb5 := below_on hb4 hb5
            (clear k0 k1 k2 f0 f1 f2)
            (obtain ⟨k0, k1, k2, f0, f1, f2⟩ := (bx.later hb5).cell3)
            go_wp2_with fail
            refine (SQ.out _ _ _ _ h5).mono ?_; rintro r w6 ⟨A6, n6, c6, A7, n7, c7, rfl, h6, h7, hb6⟩
            have hb6 := below_on hb5 hb6
            (clear k0 k1 k2 f0 f1 f2)
            (obtain ⟨k0, k1, k2, f0, f1, f2⟩ := (bx.later hb6).cell3)
            have n6l := h6.len
            have n7l := h7.len
            go_wp2_with fail
            have hrest : decide (0 < n7) = rest := by
              have hz := rz.out
              rw [n7l] at hz
              rcases hz with ⟨a, b⟩ | ⟨a, b⟩
              · rw [b, a]; rfl
              · rw [b]; exact decide_eq_true a
            rw [hrest]
            have DC := rcutting false A6 n6 c6 _ E rest P up w6 h6 (by omega) (by omega) (by omega) (by omega) (by omega)
            rw [vs] at DC
            refine DC.mono ?_
            rintro r w7 ⟨A9, n9, c9, rfl, hA, hb7⟩
            have hw7 := below_on (below_on b1 hb6) hb7
            have br7 := (br.later hb6).later hb7
            obtain ⟨z0, z1, z2, y0, y1, y2⟩ := br7.cell3
            clear DC
            (clear k0 k1 k2 f0 f1 f2)
            go_wp2_with fail
            (refine bodyPost_ret (v := _) ?_ rfl (retD_set hA br7 hw7 (by omega)); simp [results, Tryd.results106, go_sem, z0, z1, z2])
        · rw [rootD_none (by rw [hpl, hR]; rfl)]
          go_enter Tryd.func106, Tryd.ntmps106
          go_wp2_with fail
          refine PL.out.mono ?_; rintro r w3 ⟨rfl, hb3⟩
          (clear k0 k1 k2 f0 f1 f2)
          (obtain ⟨k0, k1, k2, f0, f1, f2⟩ := (bx.later hb3).cell3)
          have hw3 := below_on b1 hb3
          have br3 := br.later hb3
          obtain ⟨z0, z1, z2, y0, y1, y2⟩ := br3.cell3
          go_wp2_with fail
          (refine bodyPost_ret (v := .tuple #[.agg #[.bool false, .slice none 0 0, .int .i64 0], .bool false]) (by simp [results, Tryd.results106, go_sem, z0, z1, z2]) rfl ?_; exact retD_set (o := none) (arr_no _) br3 hw3 (by omega))
end Go.Proofs.YtlmojkknlkfloaaDoor
