/- A text of ours, with only what the claim's row needs (wip/tools/shake.py). -/
import Derived.Deep.RegionHeld3
import Derived.Test.YteffemhapnbaeaaGreatDoorMK
import Derived.Test.YteffemhapnbaeaaGreatDoorMC
import Derived.Test.YteffemhapnbaeaaGreatDoorML
namespace Go.Proofs.YteffemhapnbaeaaGreatDoor
open Go.RowKit Num
set_option maxRecDepth 100000
set_option linter.unusedSimpArgs false

def negD (p : Bool) (xs : List Int) (e : Int) : Option Dy := if plainB p xs e then some ⟨!p && decide (0 < xs.length), val xs, e⟩ else none
set_option maxHeartbeats 8000000 in
theorem dneg (p : Bool) (A : Option Addr) (n c : Nat) (xs : List Int) (e : Int) (w : World) (h : Arr w A n c xs) :
    Calls Tryz.prog 80 #[.agg #[.bool p, .slice A n c, .int .i64 e]] w (RetD (negD p xs e) w) := by
  have b1 : Below w.heap.size w ((w.alloc (.cells #[.bool p, .slice A n c, .int .i64 e] 26)).alloc (.cells #[.bool false, .slice none 0 0, .int .i64 0] 26)) := below_alloc (below_alloc (below_self w) _) _
  have H := h.below b1
  have PL := Lib.hid (plain p A n c xs e _ H)
  have bx := (box_new w #[.bool p, .slice A n c, .int .i64 e] 26).later (below_alloc (below_self _) (.cells #[.bool false, .slice none 0 0, .int .i64 0] 26))
  have br := box_new (w.alloc (.cells #[.bool p, .slice A n c, .int .i64 e] 26)) #[.bool false, .slice none 0 0, .int .i64 0] 26
  rw [show (w.alloc (.cells #[.bool p, .slice A n c, .int .i64 e] 26)).heap.size = w.heap.size + 1 by simp] at br
  obtain ⟨k0, k1, k2, f0, f1, f2⟩ := bx.cell3
  cases hpl : plainB p xs e
  · have er : negD p xs e = none := by unfold negD; rw [hpl]; rfl
    rw [er]
    rw [hpl] at PL
    go_enter Tryz.func80, Tryz.ntmps80
    go_wp2_with fail
    refine PL.out.mono ?_; rintro r w3 ⟨rfl, hb3⟩
    have hw3 := below_on b1 hb3
    have br3 := br.later hb3
    obtain ⟨z0, z1, z2, y0, y1, y2⟩ := br3.cell3
    go_wp2_with fail
    refine bodyPost_ret (v := .tuple #[.agg #[.bool false, .slice none 0 0, .int .i64 0], .bool false]) (by simp [results, Tryz.results80, go_sem, z0, z1, z2]) rfl ?_
    exact retD_set (o := none) (arr_no _) br3 hw3 (by omega)
  · obtain ⟨pd, l256, wx, vp⟩ := plainB_parts h.wf hpl
    have er : negD p xs e = some ⟨!p && decide (0 < n), val xs, e⟩ := by unfold negD; rw [hpl, h.len]; rfl
    rw [er]
    rw [hpl] at PL
    have hl := h.len
    have TR := Lib.hid (fun w1 (hb : Below ((w.alloc (.cells #[.bool p, .slice A n c, .int .i64 e] 26)).alloc (.cells #[.bool false, .slice none 0 0, .int .i64 0] 26)).heap.size ((w.alloc (.cells #[.bool p, .slice A n c, .int .i64 e] 26)).alloc (.cells #[.bool false, .slice none 0 0, .int .i64 0] 26)) w1) => (ntrim A n c xs w1 (H.below hb) (by omega)))
    have TR : ∀ (w1 : World) (hb : Below ((w.alloc (.cells #[.bool p, .slice A n c, .int .i64 e] 26)).alloc (.cells #[.bool false, .slice none 0 0, .int .i64 0] 26)).heap.size ((w.alloc (.cells #[.bool p, .slice A n c, .int .i64 e] 26)).alloc (.cells #[.bool false, .slice none 0 0, .int .i64 0] 26)) w1), Calls Tryz.prog 114 #[.slice A n c] w1 fun r w5 => ∃ A5 n5 c5, r = .returned (.slice A5 n5 c5) ∧ Arr w5 A5 n5 c5 (wd (val xs)) ∧ Below ((w.alloc (.cells #[.bool p, .slice A n c, .int .i64 e] 26)).alloc (.cells #[.bool false, .slice none 0 0, .int .i64 0] 26)).heap.size ((w.alloc (.cells #[.bool p, .slice A n c, .int .i64 e] 26)).alloc (.cells #[.bool false, .slice none 0 0, .int .i64 0] 26)) w5 := by
      intro w1 hb
      refine (TR.out w1 hb).mono ?_
      rintro r w5 ⟨A5, n5, c5, rfl, ha, hb5⟩
      exact ⟨A5, n5, c5, rfl, ha.arr, below_on hb hb5⟩
    have TR := Lib.hid TR
    have KC : ∀ w', Below ((w.alloc (.cells #[.bool p, .slice A n c, .int .i64 e] 26)).alloc (.cells #[.bool false, .slice none 0 0, .int .i64 0] 26)).heap.size ((w.alloc (.cells #[.bool p, .slice A n c, .int .i64 e] 26)).alloc (.cells #[.bool false, .slice none 0 0, .int .i64 0] 26)) w' → (w'.cell? ⟨w.heap.size, 0, none⟩ = some (.bool p) ∧ w'.cell? ⟨w.heap.size, 1, none⟩ = some (.slice A n c) ∧ w'.cell? ⟨w.heap.size, 2, none⟩ = some (.int .i64 e)) := fun w' hb => ⟨(bx.later hb).cell 0, (bx.later hb).cell 1, (bx.later hb).cell 2⟩
    have KC := Lib.hid KC
    clear pd vp hl h H er hpl bx
    generalize hm : val xs = m at *
    clear hm wx
    cases p
    · skip
      all_goals
        go_enter Tryz.func80, Tryz.ntmps80
        go_wp2_with fail
        refine PL.out.mono ?_; rintro r w3 ⟨rfl, hb3⟩
        have hw3 := below_on b1 hb3
        have br3 := br.later hb3
        obtain ⟨x0, x1, x2⟩ := KC.out w3 hb3
        obtain ⟨z0, z1, z2, y0, y1, y2⟩ := br3.cell3
        clear k0 k1 k2 f0 f1 f2
        go_wp2_with fail
        go_region_held3 (fun w' => w'.cell? ⟨w.heap.size, 0, none⟩ = some (.bool false) ∧ w'.cell? ⟨w.heap.size, 1, none⟩ = some (.slice A n c) ∧ w'.cell? ⟨w.heap.size, 2, none⟩ = some (.int .i64 e)) (first | (refine KC.out _ ?_; (repeat (first | with_reducible assumption | with_reducible exact below_self _ | with_reducible refine below_drewN ?_ _ | with_reducible apply Below.drew | with_reducible refine below_alloc ?_ _)); done) | go_keep) (first | (go_at_call 114; refine (TR.out _ ?_).mono ?_; (repeat (first | with_reducible assumption | with_reducible exact below_self _ | with_reducible refine below_drewN ?_ _ | with_reducible apply Below.drew | with_reducible refine below_alloc ?_ _)); rintro r w5 ⟨A5, n5, c5, rfl, h5, hb5⟩; obtain ⟨u0, u1, u2, u3, u4, u5⟩ := (br.later hb5).cell3))
        all_goals
          go_wp2_with fail
          refine bodyPost_ret (v := _) ?_ rfl (retD_set h5 (br.later hb5) (below_on b1 hb5) (by omega))
          simp [results, Tryz.results80, go_sem, u0, u1, u2]
          try exact ⟨rfl, rfl⟩
    · skip
      all_goals
        go_enter Tryz.func80, Tryz.ntmps80
        go_wp2_with fail
        refine PL.out.mono ?_; rintro r w3 ⟨rfl, hb3⟩
        have hw3 := below_on b1 hb3
        have br3 := br.later hb3
        obtain ⟨x0, x1, x2⟩ := KC.out w3 hb3
        obtain ⟨z0, z1, z2, y0, y1, y2⟩ := br3.cell3
        clear k0 k1 k2 f0 f1 f2
        go_wp2_with fail
        refine wp_region_held_drew (S := fun w' => w'.cell? ⟨w.heap.size, 0, none⟩ = some (.bool true) ∧ w'.cell? ⟨w.heap.size, 1, none⟩ = some (.slice A n c) ∧ w'.cell? ⟨w.heap.size, 2, none⟩ = some (.int .i64 e)) (by kernel_rfl) (KC.out _ ((by repeat (first | with_reducible assumption | with_reducible exact below_self _ | with_reducible refine below_drewN ?_ _ | with_reducible apply Below.drew | with_reducible refine below_alloc ?_ _)))) (fun hHeld => ?_)
        (refine wpAnyH_take (i := 0) (v := ?_) rfl (by kernel_rfl) (by kernel_rfl) (by kernel_rfl) (fun _ _ _ h => h) (Or.inl ⟨by rfl, ?_⟩) (by assumption) ?_; rotate_left; (focus (intro w hSw; (try dsimp only at hSw); go_simp; (try with_reducible rfl))); (try simp only [Act.put, List.setIfInBounds_toArray, List.set_cons_zero, List.set_cons_succ]))
        (refine wpAnyH_take (i := 1) (v := ?_) rfl (by kernel_rfl) (by kernel_rfl) (by kernel_rfl) (fun _ _ _ h => h) (Or.inl ⟨by rfl, ?_⟩) (by assumption) ?_; rotate_left; (focus (intro w hSw; (try dsimp only at hSw); go_simp; (try with_reducible rfl))); (try simp only [Act.put, List.setIfInBounds_toArray, List.set_cons_zero, List.set_cons_succ]))
        (refine wpAnyH_take (i := 2) (v := ?_) rfl (by kernel_rfl) (by kernel_rfl) (by kernel_rfl) (fun _ _ _ h => h) (Or.inl ⟨by rfl, ?_⟩) (by assumption) ?_; rotate_left; (focus (intro w hSw; (try dsimp only at hSw); go_simp; (try with_reducible rfl))); (try simp only [Act.put, List.setIfInBounds_toArray, List.set_cons_zero, List.set_cons_succ]))
        (refine wpAnyH_take (i := 3) (v := ?_) rfl (by kernel_rfl) (by kernel_rfl) (by kernel_rfl) (fun _ _ _ h => h) (Or.inl ⟨by rfl, ?_⟩) (by assumption) ?_; rotate_left; (focus (intro w hSw; (try dsimp only at hSw); go_simp; (try with_reducible rfl))); (try simp only [Act.put, List.setIfInBounds_toArray, List.set_cons_zero, List.set_cons_succ]))
        (refine wpAnyH_take (i := 4) rfl (by kernel_rfl) (by kernel_rfl) (by kernel_rfl) (fun _ _ _ h => h) (Or.inr ⟨by rfl, rfl⟩) (by assumption) ?_; (try simp only [Act.put, List.setIfInBounds_toArray, List.set_cons_zero, List.set_cons_succ]))
        (refine wpAnyH_take (i := 5) rfl (by kernel_rfl) (by kernel_rfl) (by kernel_rfl) (fun _ _ _ h => h) (Or.inr ⟨by rfl, rfl⟩) (by assumption) ?_; (try simp only [Act.put, List.setIfInBounds_toArray, List.set_cons_zero, List.set_cons_succ]))
        (refine wpAnyH_take (i := 6) rfl (by kernel_rfl) (by kernel_rfl) (by kernel_rfl) (fun _ _ _ h => h) (Or.inr ⟨by rfl, rfl⟩) (by assumption) ?_; (try simp only [Act.put, List.setIfInBounds_toArray, List.set_cons_zero, List.set_cons_succ]))
        (refine wpAnyH_take (i := 7) rfl (by kernel_rfl) (by kernel_rfl) (by kernel_rfl) (fun _ _ _ h => h) (Or.inr ⟨by rfl, rfl⟩) (by assumption) ?_; (try simp only [Act.put, List.setIfInBounds_toArray, List.set_cons_zero, List.set_cons_succ]))
        (refine wpAnyH_take (i := 8) (v := ?_) rfl (by kernel_rfl) (by kernel_rfl) (by kernel_rfl) (fun _ _ _ h => h) (Or.inl ⟨by rfl, ?_⟩) (by assumption) ?_; rotate_left; (focus (intro w hSw; (try dsimp only at hSw); go_simp; (try with_reducible rfl))); (try simp only [Act.put, List.setIfInBounds_toArray, List.set_cons_zero, List.set_cons_succ]))
        (refine wpAnyH_take (i := 9) (v := ?_) rfl (by kernel_rfl) (by kernel_rfl) (by kernel_rfl) (fun _ _ _ h => h) (Or.inl ⟨by rfl, ?_⟩) (by assumption) ?_; rotate_left; (focus (intro w hSw; (try dsimp only at hSw); go_simp; (try with_reducible rfl))); (try simp only [Act.put, List.setIfInBounds_toArray, List.set_cons_zero, List.set_cons_succ]))
        (refine wpAnyH_take (i := 10) (v := ?_) rfl (by kernel_rfl) (by kernel_rfl) (by kernel_rfl) (fun _ _ _ h => h) (Or.inl ⟨by rfl, ?_⟩) (by assumption) ?_; rotate_left; (focus (intro w hSw; (try dsimp only at hSw); go_simp; (try with_reducible rfl))); (try simp only [Act.put, List.setIfInBounds_toArray, List.set_cons_zero, List.set_cons_succ]))
        (refine wpAnyH_take (i := 12) (v := ?_) rfl (by kernel_rfl) (by kernel_rfl) (by kernel_rfl) (fun _ _ _ h => h) (Or.inl ⟨by rfl, ?_⟩) (by assumption) ?_; rotate_left; (focus (intro w hSw; (try dsimp only at hSw); go_simp; (try with_reducible rfl))); (try simp only [Act.put, List.setIfInBounds_toArray, List.set_cons_zero, List.set_cons_succ]))
        (refine wpAnyH_take (i := 13) (v := ?_) rfl (by kernel_rfl) (by kernel_rfl) (by kernel_rfl) (fun _ _ _ h => h) (Or.inl ⟨by rfl, ?_⟩) (by assumption) ?_; rotate_left; (focus (intro w hSw; (try dsimp only at hSw); go_simp; (try with_reducible rfl))); (try simp only [Act.put, List.setIfInBounds_toArray, List.set_cons_zero, List.set_cons_succ]))
        (refine wpAnyH_ready (rs := [11]) (by kernel_rfl) (by simp) ?_; refine AllReadyH.cons rfl (fun K hK => ?_) AllReadyH.nil)
        go_simp
        go_at_call 114
        refine (TR.out _ ((by repeat (first | with_reducible assumption | with_reducible exact below_self _ | with_reducible refine below_drewN ?_ _ | with_reducible apply Below.drew | with_reducible refine below_alloc ?_ _)))).mono ?_
        rintro r w5 ⟨A5, n5, c5, rfl, h5, hb5⟩
        obtain ⟨u0, u1, u2, u3, u4, u5⟩ := (br.later hb5).cell3
        refine hK.out _ _ (KC.out _ hb5) (fun hHeld2 => ?_)
        clear hHeld hK K
        (try simp only [Act.put, List.setIfInBounds_toArray, List.set_cons_zero, List.set_cons_succ])
        (refine wpAnyH_take (i := 14) (v := ?_) rfl (by kernel_rfl) (by kernel_rfl) (by kernel_rfl) (fun _ _ _ h => h) (Or.inl ⟨by rfl, ?_⟩) (by assumption) ?_; rotate_left; (focus (intro w hSw; (try dsimp only at hSw); go_simp; (try with_reducible rfl))); (try simp only [Act.put, List.setIfInBounds_toArray, List.set_cons_zero, List.set_cons_succ]))
        (refine wpAnyH_ready (rs := [15]) (by kernel_rfl) (by simp) ?_; refine AllReadyH.cons rfl (fun K hK => ?_) AllReadyH.nil)
        go_simp
        refine hK.out _ _ ?_ (fun hHeld3 => ?_)
        · simp [*, World.cell?_alloc_some, World.cell?_setCell_far]
        clear hHeld2 hK K
        (try simp only [Act.put, List.setIfInBounds_toArray, List.set_cons_zero, List.set_cons_succ])
        (refine wpAnyH_take (i := 16) (oi := ⟨some 3, _, _, _, _, _⟩) (v := ?_) rfl (by kernel_rfl) (by kernel_rfl) (by kernel_rfl) (fun _ _ _ h => h) (Or.inl ⟨by rfl, ?_⟩) (by assumption) ?_; rotate_left; (focus (intro w hSw; (try dsimp only at hSw); go_simp; (try with_reducible rfl))); (try simp only [Act.put, List.setIfInBounds_toArray, List.set_cons_zero, List.set_cons_succ]))
        refine wpAnyH_done (by kernel_rfl) ?_ _
        all_goals
          go_wp2_with fail
          refine bodyPost_ret (v := _) ?_ rfl (retD_set h5 (br.later hb5) (below_on b1 hb5) (by omega))
          simp [results, Tryz.results80, go_sem, u0, u1, u2]
          try exact ⟨rfl, rfl⟩
end Go.Proofs.YteffemhapnbaeaaGreatDoor
