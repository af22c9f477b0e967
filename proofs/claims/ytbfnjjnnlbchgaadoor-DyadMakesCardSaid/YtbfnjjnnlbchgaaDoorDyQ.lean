/- The law DyadMakes. -/
import Derived.Deep.RegionHeld3
import Derived.Test.YtbfnjjnnlbchgaaDoorDyC
import Derived.Test.YtbfnjjnnlbchgaaDoorDyN
import Derived.Test.YtbfnjjnnlbchgaaDoorDyL
import Derived.Test.YtbfnjjnnlbchgaaDoorDyO
import Derived.Test.YtbfnjjnnlbchgaaDoorDyP
namespace Go.Proofs.YtbfnjjnnlbchgaaDoor
open Go.RowKit Num
set_option maxRecDepth 100000
set_option linter.unusedSimpArgs false

theorem mkD_plain {neg : Bool} {v e : Int} (hv : 0 ≤ v) {d : Dy} (h : mkD neg v e = some d) : plainB d.neg (wd d.m) d.e = true := by
  unfold mkD at h
  by_cases h0 : v = 0
  · rw [if_pos h0] at h
    obtain rfl := Option.some.inj h
    show plainB false (wd 0) 0 = true
    rw [wd_zero (Int.le_refl _)]; rfl
  · have hp : 0 < v := by omega
    rw [if_neg h0] at h
    split at h
    · cases h
    · rename_i h1
      split at h
      · rename_i h2
        obtain rfl := Option.some.inj h
        have ho := (odd_split hp).2.1
        simp only
        rw [plainB_words (oddI_pos hp)]
        simp only [Bool.and_eq_true, decide_eq_true_eq]
        exact ⟨⟨⟨ho, h2.1⟩, by omega⟩, h2.2⟩
      · cases h
/-- A dyad's box, where it is laid. -/
theorem box_dy (w : World) (p : Bool) (A : Option Addr) (n c : Nat) (e : Int) : Box (w.alloc (.cells #[.bool p, .slice A n c, .int .i64 e] 24)) w.heap.size #[.bool p, .slice A n c, .int .i64 e] 24 := box_new w _ _
/-- A callee's later world is a later world of a fixed one. -/
theorem from_W {W w' : World} {v : Ending} (b : Below W.heap.size W w') : ∀ r w6, (r = v ∧ Below w'.heap.size w' w6) → (r = v ∧ Below W.heap.size W w6) := fun _ _ h => ⟨h.1, below_on b h.2⟩
set_option maxHeartbeats 4000000 in
theorem dyadMakes (p : Bool) (A : Option Addr) (n c : Nat) (xs : List Int) (e : Int) (w : World) (h : Arr w A n c xs) (he0 : -9223372036854775808 ≤ e) (he1 : e ≤ 9223372036854775807) (hT : Tz w) :
    Calls Tryd.prog 7 #[.agg #[.bool p, .slice A n c, .int .i64 e]] w fun r w' => r = .returned (.bool true) ∧ Below w.heap.size w w' := by
  have b0 : Below w.heap.size w (w.alloc (.cells #[.bool p, .slice A n c, .int .i64 e] 24)) := below_alloc (below_self w) _
  have x0 := box_dy w p A n c e
  have AW := Lib.hid (awake02 _ (hT.below b0))
  by_cases hn : n ≤ 300
  · go_enter Tryd.func7, Tryd.ntmps7
    go_wp2_with fail
    refine AW.out.mono ?_; rintro r w1 ⟨rfl, b1⟩
    have x0 := x0.later b1
    have bw1 := below_on b0 b1
    have MK := Lib.hid (make p A n c xs e w1 (h.below bw1) (by omega) he0 he1 (hT.below bw1))
    obtain ⟨k0, k1, k2, f0, f1, f2⟩ := x0.cell3
    clear AW b0 b1
    go_wp2_with fail
    refine MK.out.mono ?_; rintro r w2 ⟨A2, n2, c2, rfl, h2, b2⟩
    clear MK k0 k1 k2 f0 f1 f2
    generalize ho : mkD p (val xs) e = o at *
    have HO := Lib.hid ho
    clear ho
    generalize q2 : (optD o).neg = s2 at *
    generalize q3 : (optD o).e = e2 at *
    have b2' := below_alloc b2 (.cells #[.bool s2, .slice A2 n2 c2, .int .i64 e2] 24)
    have x0 := x0.later b2'
    have x2 := box_dy w2 s2 A2 n2 c2 e2
    have bw2 := below_on bw1 b2'
    have h2 := h2.below (below_alloc (below_self w2) (.cells #[.bool s2, .slice A2 n2 c2, .int .i64 e2] 24))
    have RM := Lib.hid (rmake p A n c xs e _ (h.below bw2) (by omega) he0 he1)
    rw [HO.out] at RM
    obtain ⟨k0, k1, k2, f0, f1, f2⟩ := x0.cell3
    go_wp2_with fail
    refine RM.out.mono ?_; rintro r w3 ⟨A3, n3, c3, rfl, h3, b3⟩
    rw [q2, q3]
    clear RM k0 k1 k2 f0 f1 f2 b2 b2'
    have b3' := below_alloc b3 (.cells #[.bool s2, .slice A3 n3 c3, .int .i64 e2] 24)
    have x0 := x0.later b3'
    have x2 := x2.later b3'
    have x3 := box_dy w3 s2 A3 n3 c3 e2
    have bw3 := below_on bw2 b3'
    have h2 := h2.below b3'
    have h3 := h3.below (below_alloc (below_self w3) (.cells #[.bool s2, .slice A3 n3 c3, .int .i64 e2] 24))
    have NG := Lib.hid (dneg p A n c xs e _ (h.below bw3))
    obtain ⟨k0, k1, k2, f0, f1, f2⟩ := x0.cell3
    go_wp2_with fail
    refine NG.out.mono ?_; rintro r w4 ⟨A4, n4, c4, rfl, h4, b4⟩
    clear NG k0 k1 k2 f0 f1 f2 b3 b3'
    generalize ho2 : negD p xs e = o2 at *
    have hr2 : negR p xs e = o2 := ho2
    have HO2 := Lib.hid hr2
    clear ho2 hr2
    generalize q4 : (optD o2).neg = s4 at *
    generalize q5 : (optD o2).e = e4 at *
    have b4' := below_alloc b4 (.cells #[.bool s4, .slice A4 n4 c4, .int .i64 e4] 24)
    have x0 := x0.later b4'
    have x2 := x2.later b4'
    have x3 := x3.later b4'
    have x4 := box_dy w4 s4 A4 n4 c4 e4
    have bw4 := below_on bw3 b4'
    have h2 := h2.below b4'
    have h3 := h3.below b4'
    have h4 := h4.below (below_alloc (below_self w4) (.cells #[.bool s4, .slice A4 n4 c4, .int .i64 e4] 24))
    have RN := Lib.hid (rneg02 p A n c xs e _ (h.below bw4) (by omega))
    rw [HO2.out] at RN
    obtain ⟨k0, k1, k2, f0, f1, f2⟩ := x0.cell3
    go_wp2_with fail
    refine RN.out.mono ?_; rintro r w5 ⟨A5, n5, c5, rfl, h5, b5⟩
    rw [q4, q5]
    clear RN k0 k1 k2 f0 f1 f2 b4 b4'
    have b5' := below_alloc b5 (.cells #[.bool s4, .slice A5 n5 c5, .int .i64 e4] 24)
    have x0 := x0.later b5'
    have x2 := x2.later b5'
    have x3 := x3.later b5'
    have x4 := x4.later b5'
    have x5 := box_dy w5 s4 A5 n5 c5 e4
    have bw5 := below_on bw4 b5'
    have h2 := h2.below b5'
    have h3 := h3.below b5'
    have h4 := h4.below b5'
    have h5 := h5.below (below_alloc (below_self w5) (.cells #[.bool s4, .slice A5 n5 c5, .int .i64 e4] 24))
    clear b5 b5'
    have hx := h.below bw5
    have hp1 : o.isSome = true → plainB s2 (wd (optD o).m) e2 = true := fun hs => by
      obtain ⟨d, rfl⟩ := Option.isSome_iff_exists.1 hs
      have := mkD_plain h.val_nonneg HO.out
      rw [← q2, ← q3]; exact this
    have HP1 := Lib.hid hp1
    clear hp1
    go_wp2_with fail
    generalize hW : World.alloc w5 _ = W at *
    have SB := Lib.hid (fun w' (b : Below W.heap.size W w') => (dboth s2 A2 A3 n2 c2 n3 c3 _ e2 o.isSome w' (h2.below b) (h3.below b)).mono (from_W b))
    have NB := Lib.hid (fun w' (b : Below W.heap.size W w') => (dboth s4 A4 A5 n4 c4 n5 c5 _ e4 o2.isSome w' (h4.below b) (h5.below b)).mono (from_W b))
    have PL := Lib.hid (fun w' (b : Below W.heap.size W w') => (plain p A n c xs e w' (hx.below b)).mono (from_W b))
    have RP := Lib.hid (fun w' (b : Below W.heap.size W w') => (rplain p A n c xs e w' (hx.below b) (by omega)).mono (from_W b))
    have P2 := Lib.hid (fun w' (b : Below W.heap.size W w') => (plain s2 A2 n2 c2 _ e2 w' (h2.below b)).mono (from_W b))
    have KC : ∀ w', Below W.heap.size W w' → ((w'.cell? ⟨w.heap.size, 0, none⟩ = some (.bool p) ∧ w'.cell? ⟨w.heap.size, 1, none⟩ = some (.slice A n c) ∧ w'.cell? ⟨w.heap.size, 2, none⟩ = some (.int .i64 e)) ∧
      (w'.cell? ⟨w2.heap.size, 0, none⟩ = some (.bool s2) ∧ w'.cell? ⟨w2.heap.size, 1, none⟩ = some (.slice A2 n2 c2) ∧ w'.cell? ⟨w2.heap.size, 2, none⟩ = some (.int .i64 e2)) ∧
      (w'.cell? ⟨w3.heap.size, 0, none⟩ = some (.bool s2) ∧ w'.cell? ⟨w3.heap.size, 1, none⟩ = some (.slice A3 n3 c3) ∧ w'.cell? ⟨w3.heap.size, 2, none⟩ = some (.int .i64 e2)) ∧
      (w'.cell? ⟨w4.heap.size, 0, none⟩ = some (.bool s4) ∧ w'.cell? ⟨w4.heap.size, 1, none⟩ = some (.slice A4 n4 c4) ∧ w'.cell? ⟨w4.heap.size, 2, none⟩ = some (.int .i64 e4)) ∧
      (w'.cell? ⟨w5.heap.size, 0, none⟩ = some (.bool s4) ∧ w'.cell? ⟨w5.heap.size, 1, none⟩ = some (.slice A5 n5 c5) ∧ w'.cell? ⟨w5.heap.size, 2, none⟩ = some (.int .i64 e4))) := fun w' b =>
      ⟨⟨(x0.later b).cell 0, (x0.later b).cell 1, (x0.later b).cell 2⟩, ⟨(x2.later b).cell 0, (x2.later b).cell 1, (x2.later b).cell 2⟩, ⟨(x3.later b).cell 0, (x3.later b).cell 1, (x3.later b).cell 2⟩, ⟨(x4.later b).cell 0, (x4.later b).cell 1, (x4.later b).cell 2⟩, ⟨(x5.later b).cell 0, (x5.later b).cell 1, (x5.later b).cell 2⟩⟩
    have KC := Lib.hid KC
    clear x0 x2 x3 x4 x5 h2 h3 h4 h5 hx h hT
    have bz : Below W.heap.size W W := below_self W
    cases ho3 : o.isSome
    · rw [ho3] at SB HP1
      refine wp_region_held_drew (S := (fun w' => (w'.cell? ⟨w.heap.size, 0, none⟩ = some (.bool p) ∧ w'.cell? ⟨w.heap.size, 1, none⟩ = some (.slice A n c) ∧ w'.cell? ⟨w.heap.size, 2, none⟩ = some (.int .i64 e)) ∧ (w'.cell? ⟨w2.heap.size, 0, none⟩ = some (.bool s2) ∧ w'.cell? ⟨w2.heap.size, 1, none⟩ = some (.slice A2 n2 c2) ∧ w'.cell? ⟨w2.heap.size, 2, none⟩ = some (.int .i64 e2)) ∧ (w'.cell? ⟨w3.heap.size, 0, none⟩ = some (.bool s2) ∧ w'.cell? ⟨w3.heap.size, 1, none⟩ = some (.slice A3 n3 c3) ∧ w'.cell? ⟨w3.heap.size, 2, none⟩ = some (.int .i64 e2)) ∧ (w'.cell? ⟨w4.heap.size, 0, none⟩ = some (.bool s4) ∧ w'.cell? ⟨w4.heap.size, 1, none⟩ = some (.slice A4 n4 c4) ∧ w'.cell? ⟨w4.heap.size, 2, none⟩ = some (.int .i64 e4)) ∧ (w'.cell? ⟨w5.heap.size, 0, none⟩ = some (.bool s4) ∧ w'.cell? ⟨w5.heap.size, 1, none⟩ = some (.slice A5 n5 c5) ∧ w'.cell? ⟨w5.heap.size, 2, none⟩ = some (.int .i64 e4)))) (by kernel_rfl) (KC.out _ (by repeat (first | with_reducible assumption | with_reducible exact below_self _ | with_reducible refine below_drewN ?_ _ | with_reducible apply Below.drew | with_reducible refine below_alloc ?_ _))) (fun hHeld => ?_)
      (refine wpAnyH_take (i := 0) (oi := ⟨some 47, _, _, _, _, _⟩) (v := ?_) rfl (by kernel_rfl) (by kernel_rfl) (by kernel_rfl) (fun _ _ _ h => h) (Or.inl ⟨by rfl, ?_⟩) (by assumption) ?_; rotate_left; (focus (intro w hSw; (try dsimp only at hSw); go_simp; (try with_reducible rfl))); (try simp only [Act.put, List.setIfInBounds_toArray, List.set_cons_zero, List.set_cons_succ]))
      (refine wpAnyH_take (i := 2) (oi := ⟨some 49, _, _, _, _, _⟩) (v := ?_) rfl (by kernel_rfl) (by kernel_rfl) (by kernel_rfl) (fun _ _ _ h => h) (Or.inl ⟨by rfl, ?_⟩) (by assumption) ?_; rotate_left; (focus (intro w hSw; (try dsimp only at hSw); go_simp; (try with_reducible rfl))); (try simp only [Act.put, List.setIfInBounds_toArray, List.set_cons_zero, List.set_cons_succ]))
      (refine wpAnyH_ready (rs := [1]) (by kernel_rfl) (by simp) ?_; refine AllReadyH.cons rfl (fun K hK => ?_) AllReadyH.nil; go_simp)
      go_at_call_of 32 A
      refine (PL.out _ (by repeat (first | with_reducible assumption | with_reducible exact below_self _ | with_reducible refine below_drewN ?_ _ | with_reducible apply Below.drew | with_reducible refine below_alloc ?_ _))).mono ?_; rintro r w6 ⟨rfl, b6⟩
      (refine hK.out _ _ (KC.out _ b6) (fun hHeld2 => ?_); clear hHeld hK K; have hHeld := hHeld2; clear hHeld2; (try simp only [Act.put, List.setIfInBounds_toArray, List.set_cons_zero, List.set_cons_succ]))
      (refine wpAnyH_ready (rs := [3]) (by kernel_rfl) (by simp) ?_; refine AllReadyH.cons rfl (fun K hK => ?_) AllReadyH.nil; go_simp)
      go_at_call_of 33 A
      refine (RP.out _ b6).mono ?_; rintro r w7 ⟨rfl, b7⟩
      (refine hK.out _ _ (KC.out _ b7) (fun hHeld2 => ?_); clear hHeld hK K; have hHeld := hHeld2; clear hHeld2; (try simp only [Act.put, List.setIfInBounds_toArray, List.set_cons_zero, List.set_cons_succ]))
      (refine wpAnyH_take (i := 4) (oi := ⟨some 51, _, _, _, _, _⟩) (v := ?_) rfl (by kernel_rfl) (by kernel_rfl) (by kernel_rfl) (fun _ _ _ h => h) (Or.inl ⟨by rfl, ?_⟩) (by assumption) ?_; rotate_left; (focus (intro w hSw; (try dsimp only at hSw); go_simp; (try with_reducible rfl))); (try simp only [Act.put, List.setIfInBounds_toArray, List.set_cons_zero, List.set_cons_succ]))
      (refine wpAnyH_take (i := 5) (oi := ⟨some 52, _, _, _, _, _⟩) (v := ?_) rfl (by kernel_rfl) (by kernel_rfl) (by kernel_rfl) (fun _ _ _ h => h) (Or.inl ⟨by rfl, ?_⟩) (by assumption) ?_; rotate_left; (focus (intro w hSw; (try dsimp only at hSw); go_simp; (try with_reducible rfl))); (try simp only [Act.put, List.setIfInBounds_toArray, List.set_cons_zero, List.set_cons_succ]))
      (refine wpAnyH_take (i := 6) (oi := ⟨some 53, _, _, _, _, _⟩) (v := ?_) rfl (by kernel_rfl) (by kernel_rfl) (by kernel_rfl) (fun _ _ _ h => h) (Or.inl ⟨by rfl, ?_⟩) (by assumption) ?_; rotate_left; (focus (intro w hSw; (try dsimp only at hSw); go_simp; (try with_reducible rfl))); (try simp only [Act.put, List.setIfInBounds_toArray, List.set_cons_zero, List.set_cons_succ]))
      (refine wpAnyH_take (i := 7) (oi := ⟨some 54, _, _, _, _, _⟩) (v := ?_) rfl (by kernel_rfl) (by kernel_rfl) (by kernel_rfl) (fun _ _ _ h => h) (Or.inl ⟨by rfl, ?_⟩) (by assumption) ?_; rotate_left; (focus (intro w hSw; (try dsimp only at hSw); go_simp; (try with_reducible rfl))); (try simp only [Act.put, List.setIfInBounds_toArray, List.set_cons_zero, List.set_cons_succ]))
      (refine wpAnyH_take (i := 8) (oi := ⟨some 55, _, _, _, _, _⟩) (v := ?_) rfl (by kernel_rfl) (by kernel_rfl) (by kernel_rfl) (fun _ _ _ h => h) (Or.inl ⟨by rfl, ?_⟩) (by assumption) ?_; rotate_left; (focus (intro w hSw; (try dsimp only at hSw); go_simp; (try with_reducible rfl))); (try simp only [Act.put, List.setIfInBounds_toArray, List.set_cons_zero, List.set_cons_succ]))
      (refine wpAnyH_take (i := 9) (oi := ⟨some 56, _, _, _, _, _⟩) (v := ?_) rfl (by kernel_rfl) (by kernel_rfl) (by kernel_rfl) (fun _ _ _ h => h) (Or.inl ⟨by rfl, ?_⟩) (by assumption) ?_; rotate_left; (focus (intro w hSw; (try dsimp only at hSw); go_simp; (try with_reducible rfl))); (try simp only [Act.put, List.setIfInBounds_toArray, List.set_cons_zero, List.set_cons_succ]))
      (refine wpAnyH_ready (rs := [10]) (by kernel_rfl) (by simp) ?_; refine AllReadyH.cons rfl (fun K hK => ?_) AllReadyH.nil; go_simp)
      go_at_call_of 34 A2
      refine (SB.out _ b7).mono ?_; rintro r w8 ⟨rfl, b8⟩
      (refine hK.out _ _ (KC.out _ b8) (fun hHeld2 => ?_); clear hHeld hK K; have hHeld := hHeld2; clear hHeld2; (try simp only [Act.put, List.setIfInBounds_toArray, List.set_cons_zero, List.set_cons_succ]))
      (refine wpAnyH_take (i := 11) (oi := ⟨some 58, _, _, _, _, _⟩) (v := ?_) rfl (by kernel_rfl) (by kernel_rfl) (by kernel_rfl) (fun _ _ _ h => h) (Or.inl ⟨by rfl, ?_⟩) (by assumption) ?_; rotate_left; (focus (intro w hSw; (try dsimp only at hSw); go_simp; (try with_reducible rfl))); (try simp only [Act.put, List.setIfInBounds_toArray, List.set_cons_zero, List.set_cons_succ]))
      (refine wpAnyH_take (i := 12) (oi := ⟨some 59, _, _, _, _, _⟩) (v := ?_) rfl (by kernel_rfl) (by kernel_rfl) (by kernel_rfl) (fun _ _ _ h => h) (Or.inl ⟨by rfl, ?_⟩) (by assumption) ?_; rotate_left; (focus (intro w hSw; (try dsimp only at hSw); go_simp; (try with_reducible rfl))); (try simp only [Act.put, List.setIfInBounds_toArray, List.set_cons_zero, List.set_cons_succ]))
      (refine wpAnyH_take (i := 13) (oi := ⟨some 60, _, _, _, _, _⟩) (v := ?_) rfl (by kernel_rfl) (by kernel_rfl) (by kernel_rfl) (fun _ _ _ h => h) (Or.inl ⟨by rfl, ?_⟩) (by assumption) ?_; rotate_left; (focus (intro w hSw; (try dsimp only at hSw); go_simp; (try with_reducible rfl))); (try simp only [Act.put, List.setIfInBounds_toArray, List.set_cons_zero, List.set_cons_succ]))
      (refine wpAnyH_take (i := 14) (oi := ⟨some 61, _, _, _, _, _⟩) (v := ?_) rfl (by kernel_rfl) (by kernel_rfl) (by kernel_rfl) (fun _ _ _ h => h) (Or.inl ⟨by rfl, ?_⟩) (by assumption) ?_; rotate_left; (focus (intro w hSw; (try dsimp only at hSw); go_simp; (try with_reducible rfl))); (try simp only [Act.put, List.setIfInBounds_toArray, List.set_cons_zero, List.set_cons_succ]))
      (refine wpAnyH_take (i := 15) (oi := ⟨some 62, _, _, _, _, _⟩) (v := ?_) rfl (by kernel_rfl) (by kernel_rfl) (by kernel_rfl) (fun _ _ _ h => h) (Or.inl ⟨by rfl, ?_⟩) (by assumption) ?_; rotate_left; (focus (intro w hSw; (try dsimp only at hSw); go_simp; (try with_reducible rfl))); (try simp only [Act.put, List.setIfInBounds_toArray, List.set_cons_zero, List.set_cons_succ]))
      (refine wpAnyH_take (i := 16) (oi := ⟨some 63, _, _, _, _, _⟩) (v := ?_) rfl (by kernel_rfl) (by kernel_rfl) (by kernel_rfl) (fun _ _ _ h => h) (Or.inl ⟨by rfl, ?_⟩) (by assumption) ?_; rotate_left; (focus (intro w hSw; (try dsimp only at hSw); go_simp; (try with_reducible rfl))); (try simp only [Act.put, List.setIfInBounds_toArray, List.set_cons_zero, List.set_cons_succ]))
      (refine wpAnyH_ready (rs := [17]) (by kernel_rfl) (by simp) ?_; refine AllReadyH.cons rfl (fun K hK => ?_) AllReadyH.nil; go_simp)
      go_at_call_of 34 A4
      refine (NB.out _ b8).mono ?_; rintro r w9 ⟨rfl, b9⟩
      (refine hK.out _ _ (KC.out _ b9) (fun hHeld2 => ?_); clear hHeld hK K; have hHeld := hHeld2; clear hHeld2; (try simp only [Act.put, List.setIfInBounds_toArray, List.set_cons_zero, List.set_cons_succ]))
      (refine wpAnyH_take (i := 18) (oi := ⟨some 65, _, _, _, _, _⟩) (v := ?_) rfl (by kernel_rfl) (by kernel_rfl) (by kernel_rfl) (fun _ _ _ h => h) (Or.inl ⟨by rfl, ?_⟩) (by assumption) ?_; rotate_left; (focus (intro w hSw; (try dsimp only at hSw); go_simp; (try with_reducible rfl))); (try simp only [Act.put, List.setIfInBounds_toArray, List.set_cons_zero, List.set_cons_succ]))
      (refine wpAnyH_take (i := 19) (oi := ⟨some 66, _, _, _, _, _⟩) (v := ?_) rfl (by kernel_rfl) (by kernel_rfl) (by kernel_rfl) (fun _ _ _ h => h) (Or.inl ⟨by rfl, ?_⟩) (by assumption) ?_; rotate_left; (focus (intro w hSw; (try dsimp only at hSw); go_simp; (try with_reducible rfl))); (try simp only [Act.put, List.setIfInBounds_toArray, List.set_cons_zero, List.set_cons_succ]))
      (refine wpAnyH_take (i := 20) (oi := ⟨some 67, _, _, _, _, _⟩) (v := ?_) rfl (by kernel_rfl) (by kernel_rfl) (by kernel_rfl) (fun _ _ _ h => h) (Or.inl ⟨by rfl, ?_⟩) (by assumption) ?_; rotate_left; (focus (intro w hSw; (try dsimp only at hSw); go_simp; (try with_reducible rfl))); (try simp only [Act.put, List.setIfInBounds_toArray, List.set_cons_zero, List.set_cons_succ]))
      (refine wpAnyH_take (i := 21) (oi := ⟨some 68, _, _, _, _, _⟩) (v := ?_) rfl (by kernel_rfl) (by kernel_rfl) (by kernel_rfl) (fun _ _ _ h => h) (Or.inl ⟨by rfl, ?_⟩) (by assumption) ?_; rotate_left; (focus (intro w hSw; (try dsimp only at hSw); go_simp; (try with_reducible rfl))); (try simp only [Act.put, List.setIfInBounds_toArray, List.set_cons_zero, List.set_cons_succ]))
      (refine wpAnyH_take (i := 22) (oi := ⟨some 69, _, _, _, _, _⟩) (v := ?_) rfl (by kernel_rfl) (by kernel_rfl) (by kernel_rfl) (fun _ _ _ h => h) (Or.inl ⟨by rfl, ?_⟩) (by assumption) ?_; rotate_left; (focus (intro w hSw; (try dsimp only at hSw); go_simp; (try with_reducible rfl))); (try simp only [Act.put, List.setIfInBounds_toArray, List.set_cons_zero, List.set_cons_succ]))
      (refine wpAnyH_take (i := 23) (oi := ⟨some 70, _, _, _, _, _⟩) rfl (by kernel_rfl) (by kernel_rfl) (by kernel_rfl) (fun _ _ _ h => h) (Or.inr ⟨by rfl, rfl⟩) (by assumption) ?_; (try simp only [Act.put, List.setIfInBounds_toArray, List.set_cons_zero, List.set_cons_succ]))
      (refine wpAnyH_take (i := 24) (oi := ⟨some 71, _, _, _, _, _⟩) rfl (by kernel_rfl) (by kernel_rfl) (by kernel_rfl) (fun _ _ _ h => h) (Or.inr ⟨by rfl, rfl⟩) (by assumption) ?_; (try simp only [Act.put, List.setIfInBounds_toArray, List.set_cons_zero, List.set_cons_succ]))
      (refine wpAnyH_take (i := 25) (oi := ⟨some 72, _, _, _, _, _⟩) (v := ?_) rfl (by kernel_rfl) (by kernel_rfl) (by kernel_rfl) (fun _ _ _ h => h) (Or.inl ⟨by rfl, ?_⟩) (by assumption) ?_; rotate_left; (focus (intro w hSw; (try dsimp only at hSw); go_simp; (try with_reducible rfl))); (try simp only [Act.put, List.setIfInBounds_toArray, List.set_cons_zero, List.set_cons_succ]))
      (refine wpAnyH_take (i := 26) (oi := ⟨some 73, _, _, _, _, _⟩) (v := ?_) rfl (by kernel_rfl) (by kernel_rfl) (by kernel_rfl) (fun _ _ _ h => h) (Or.inl ⟨by rfl, ?_⟩) (by assumption) ?_; rotate_left; (focus (intro w hSw; (try dsimp only at hSw); go_simp; (try with_reducible rfl))); (try simp only [Act.put, List.setIfInBounds_toArray, List.set_cons_zero, List.set_cons_succ]))
      (refine wpAnyH_take (i := 27) (oi := ⟨some 2, _, _, _, _, _⟩) (v := ?_) rfl (by kernel_rfl) (by kernel_rfl) (by kernel_rfl) (fun _ _ _ h => h) (Or.inl ⟨by rfl, ?_⟩) (by assumption) ?_; rotate_left; (focus (intro w hSw; (try dsimp only at hSw); go_simp; (try with_reducible rfl))); (try simp only [Act.put, List.setIfInBounds_toArray, List.set_cons_zero, List.set_cons_succ]))
      refine wpAnyH_done (by kernel_rfl) ?_ _
      go_wp2_with fail
      go_ret
      exact ⟨rfl, below_on bw5 b9⟩
    · rw [ho3] at SB HP1
      (go_region_held3 (fun w' => (w'.cell? ⟨w.heap.size, 0, none⟩ = some (.bool p) ∧ w'.cell? ⟨w.heap.size, 1, none⟩ = some (.slice A n c) ∧ w'.cell? ⟨w.heap.size, 2, none⟩ = some (.int .i64 e)) ∧ (w'.cell? ⟨w2.heap.size, 0, none⟩ = some (.bool s2) ∧ w'.cell? ⟨w2.heap.size, 1, none⟩ = some (.slice A2 n2 c2) ∧ w'.cell? ⟨w2.heap.size, 2, none⟩ = some (.int .i64 e2)) ∧ (w'.cell? ⟨w3.heap.size, 0, none⟩ = some (.bool s2) ∧ w'.cell? ⟨w3.heap.size, 1, none⟩ = some (.slice A3 n3 c3) ∧ w'.cell? ⟨w3.heap.size, 2, none⟩ = some (.int .i64 e2)) ∧ (w'.cell? ⟨w4.heap.size, 0, none⟩ = some (.bool s4) ∧ w'.cell? ⟨w4.heap.size, 1, none⟩ = some (.slice A4 n4 c4) ∧ w'.cell? ⟨w4.heap.size, 2, none⟩ = some (.int .i64 e4)) ∧ (w'.cell? ⟨w5.heap.size, 0, none⟩ = some (.bool s4) ∧ w'.cell? ⟨w5.heap.size, 1, none⟩ = some (.slice A5 n5 c5) ∧ w'.cell? ⟨w5.heap.size, 2, none⟩ = some (.int .i64 e4))) (first | (refine KC.out _ ?_; (repeat (first | with_reducible assumption | with_reducible exact below_self _ | with_reducible refine below_drewN ?_ _ | with_reducible apply Below.drew | with_reducible refine below_alloc ?_ _)); done) | go_keep) (first | (go_at_call_of 34 A2; refine (SB.out _ ?_).mono ?_; (repeat (first | with_reducible assumption | with_reducible exact below_self _ | with_reducible refine below_drewN ?_ _ | with_reducible apply Below.drew | with_reducible refine below_alloc ?_ _)); rintro r w6 ⟨rfl, b6⟩) | (go_at_call_of 34 A4; refine (NB.out _ ?_).mono ?_; (repeat (first | with_reducible assumption | with_reducible exact below_self _ | with_reducible refine below_drewN ?_ _ | with_reducible apply Below.drew | with_reducible refine below_alloc ?_ _)); rintro r w6 ⟨rfl, b6⟩) | (go_at_call_of 32 A; refine (PL.out _ ?_).mono ?_; (repeat (first | with_reducible assumption | with_reducible exact below_self _ | with_reducible refine below_drewN ?_ _ | with_reducible apply Below.drew | with_reducible refine below_alloc ?_ _)); rintro r w6 ⟨rfl, b6⟩) | (go_at_call_of 33 A; refine (RP.out _ ?_).mono ?_; (repeat (first | with_reducible assumption | with_reducible exact below_self _ | with_reducible refine below_drewN ?_ _ | with_reducible apply Below.drew | with_reducible refine below_alloc ?_ _)); rintro r w6 ⟨rfl, b6⟩) | (go_at_call_of 32 A2; refine (P2.out _ ?_).mono ?_; (repeat (first | with_reducible assumption | with_reducible exact below_self _ | with_reducible refine below_drewN ?_ _ | with_reducible apply Below.drew | with_reducible refine below_alloc ?_ _)); rintro r w6 ⟨rfl, b6⟩)))
      all_goals
        go_wp2_with fail
        go_ret
        refine ⟨?_, below_on bw5 ?_⟩
        · first | rfl | (rw [HP1.out trivial]; done) | (rw [HP1.out trivial]; rfl)
        · repeat (first | with_reducible assumption | with_reducible exact below_self _ | with_reducible refine below_drewN ?_ _ | with_reducible apply Below.drew | with_reducible refine below_alloc ?_ _)
  · have hn' : decide ((n : Int) > 300) = true := by simp; omega
    go_enter Tryd.func7, Tryd.ntmps7
    go_wp2_with fail
    refine AW.out.mono ?_; rintro r w1 ⟨rfl, b1⟩
    obtain ⟨k0, k1, k2, f0, f1, f2⟩ := (x0.later b1).cell3
    go_wp2_with fail
    go_ret
    exact ⟨rfl, below_on b0 b1⟩
end Go.Proofs.YtbfnjjnnlbchgaaDoor
