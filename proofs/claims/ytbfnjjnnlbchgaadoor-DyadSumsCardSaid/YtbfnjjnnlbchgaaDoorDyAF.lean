/- The law DyadSums. -/
import Derived.Deep.RegionHeld3
import Derived.Test.YtbfnjjnnlbchgaaDoorDyAE
import Derived.Test.YtbfnjjnnlbchgaaDoorDyAC
import Derived.Test.YtbfnjjnnlbchgaaDoorMS
import Derived.Test.YtbfnjjnnlbchgaaDoorMP
namespace Go.Proofs.YtbfnjjnnlbchgaaDoor
open Go.RowKit Num
set_option linter.unusedSimpArgs false
set_option linter.unusedVariables false
set_option maxRecDepth 100000

set_option maxHeartbeats 4000000 in
theorem dyadSums (SA : Option Addr) (m cap : Nat) (l : List DV) (hm : l.length = m) (w : World) (h : DVA w SA l) (hT : Tz w) :
    Calls Tryd.prog 10 #[.slice SA m cap] w fun r w' => r = .returned (.bool true) ∧ Below w.heap.size w w' := by
  subst hm
  have AW := Lib.hid (awake02 w hT)
  by_cases hm : 10 < l.length
  · have d0 : decide ((l.length : Int) > 10) = true := by simp; omega
    go_enter Tryd.func10, Tryd.ntmps10
    go_wp2_with fail
    refine AW.out.mono ?_; rintro r w1 ⟨rfl, hb1⟩
    go_wp2_with fail
    go_ret
    exact ⟨rfl, hb1⟩
  · have d0 : decide ((l.length : Int) > 10) = false := by simp; omega
    have FW := fun w1 (hb : Below w.heap.size w w1) => few02 SA l.length cap l rfl w1 (h.later hb) (by omega)
    cases hf : l.all fewD
    · rw [hf] at FW
      have FW := Lib.hid FW
      clear hf
      go_enter Tryd.func10, Tryd.ntmps10
      go_wp2_with fail
      refine AW.out.mono ?_; rintro r w1 ⟨rfl, hb1⟩
      go_wp2_with fail
      refine (FW.out w1 hb1).mono ?_; rintro r w2 ⟨rfl, hb2⟩
      go_wp2_with fail
      go_ret
      exact ⟨rfl, below_on hb1 hb2⟩
    · rw [hf] at FW
      have FW := Lib.hid FW
      have hfew : ∀ d ∈ l, d.n ≤ 40 := fun d hd => (fewD_parts (List.all_eq_true.1 hf d hd)).1
      have SD := fun w2 (hb : Below w.heap.size w w2) => dsumA SA l.length cap l rfl w2 (h.later hb) (by omega) (hT.below hb)
      have SR := fun w2 (hb : Below w.heap.size w w2) => rsum SA l.length cap l rfl w2 (h.later hb) (by omega) (fun d hd => by have := hfew d hd; omega)
      unfold RetD at SD SR
      generalize sumD l = os at *
      generalize (optD os).neg = s1 at *
      generalize (optD os).e = e1 at *
      generalize (optD os).m = m1 at *
      generalize os.isSome = k1s at *
      have SD := Lib.hid SD
      have SR := Lib.hid SR
      have HFW := Lib.hid hfew
      clear hf hfew
      go_enter Tryd.func10, Tryd.ntmps10
      go_wp2_with fail
      refine AW.out.mono ?_; rintro r w1 ⟨rfl, hb1⟩
      go_wp2_with fail
      refine (FW.out w1 hb1).mono ?_; rintro r w2 ⟨rfl, hb2⟩
      have hb2 := below_on hb1 hb2
      go_wp2_with fail
      refine (SD.out w2 hb2).mono ?_; rintro r w3 ⟨A3, n3, c3, rfl, h3, hb3⟩
      have b3' := below_alloc hb3 (.cells #[.bool s1, .slice A3 n3 c3, .int .i64 e1] 24)
      have h3 := h3.below (below_alloc (below_self w3) (.cells #[.bool s1, .slice A3 n3 c3, .int .i64 e1] 24))
      have x3 := box_new w3 #[.bool s1, .slice A3 n3 c3, .int .i64 e1] 24
      have hb3 := below_on hb2 b3'
      clear b3'
      go_wp2_with fail
      refine (SR.out _ hb3).mono ?_; rintro r w4 ⟨A4, n4, c4, rfl, h4, hb4⟩
      have b4' := below_alloc hb4 (.cells #[.bool s1, .slice A4 n4 c4, .int .i64 e1] 24)
      have h3 := h3.below b4'
      have x3 := x3.later b4'
      have h4 := h4.below (below_alloc (below_self w4) (.cells #[.bool s1, .slice A4 n4 c4, .int .i64 e1] 24))
      have x4 := box_new w4 #[.bool s1, .slice A4 n4 c4, .int .i64 e1] 24
      have hb4 := below_on hb3 b4'
      clear b4'
      have S1 := Lib.hid (dboth s1 A3 A4 n3 c3 n4 c4 _ e1 k1s _ h3 h4)
      obtain ⟨k0, k1, k2, f0, f1, f2⟩ := x3.cell3
      obtain ⟨j0, j1, j2, g0, g1, g2⟩ := x4.cell3
      go_wp2_with fail
      refine S1.out.mono ?_; rintro r w5 ⟨rfl, hb5⟩
      have hb5 := below_on hb4 hb5
      clear k0 k1 k2 f0 f1 f2 j0 j1 j2 g0 g1 g2 x3 x4 h3 h4 S1 SD SR FW AW
      go_wp2_with fail
      go_loopw [7] (fun vi wr => ∃ i : Nat, i ≤ l.length ∧ vi = .int .i64 i ∧ Below w.heap.size w wr) (fun vi _ => l.length - (intOf vi).toNat)
      case atStart => exact ⟨0, Nat.zero_le _, rfl, hb5⟩
      case round =>
        clear hb1 hb2 hb3 hb4 hb5
        obtain ⟨i, hi', rfl, hW⟩ := hrel
        have W1 : IntKind.i64.wrap ((i : Int) + 1) = (i : Int) + 1 := by rw [IntKind.wrap_i64]; omega
        by_cases h0 : i + 1 < l.length
        · have hD := h.later hW
          obtain ⟨g, o, hSA, hglt, hd0, hd1, hd2⟩ := hD.mem (by omega)
          subst hSA
          have k0 := hd0 i (by omega)
          have k1 := hd1 i (by omega)
          have k2 := hd2 i (by omega)
          have j0 := hd0 (i + 1) h0
          have j1 := hd1 (i + 1) h0
          have j2 := hd2 (i + 1) h0
          clear hd0 hd1 hd2
          have ho := hD.ok i (by omega)
          have ho' := hD.ok (i + 1) h0
          have hn1 := HFW.out l[i] (List.getElem_mem (by omega))
          have hn2 := HFW.out l[i + 1] (List.getElem_mem h0)
          generalize l[i] = x at *
          generalize l[i + 1] = y at *
          obtain ⟨p, A, n, c, xs, e⟩ := x
          obtain ⟨q, A', n', c', ys, f⟩ := y
          simp only at k0 k1 k2 j0 j1 j2 hn1 hn2
          have hx : Arr wr A n c xs := ho
          have hy : Arr wr A' n' c' ys := ho'
          have KC : ∀ w', Below wr.heap.size wr w' → ((w'.cell? ⟨g, o + i * 3, none⟩ = some (.bool p) ∧ w'.cell? ⟨g, o + i * 3 + 1, none⟩ = some (.slice A n c) ∧ w'.cell? ⟨g, o + i * 3 + 2, none⟩ = some (.int .i64 e)) ∧ (w'.cell? ⟨g, o + (i + 1) * 3, none⟩ = some (.bool q) ∧ w'.cell? ⟨g, o + (i + 1) * 3 + 1, none⟩ = some (.slice A' n' c') ∧ w'.cell? ⟨g, o + (i + 1) * 3 + 2, none⟩ = some (.int .i64 f))) := fun w' hb =>
            ⟨⟨(hb.cell (p := ⟨g, _, none⟩) hglt).trans k0, (hb.cell (p := ⟨g, _, none⟩) hglt).trans k1, (hb.cell (p := ⟨g, _, none⟩) hglt).trans k2⟩, ⟨(hb.cell (p := ⟨g, _, none⟩) hglt).trans j0, (hb.cell (p := ⟨g, _, none⟩) hglt).trans j1, (hb.cell (p := ⟨g, _, none⟩) hglt).trans j2⟩⟩
          have KC := Lib.hid KC
          have MD := fun w1 (hb : Below wr.heap.size wr w1) => dmul p q A A' n c n' c' xs ys e f w1 (hx.below hb) (hy.below hb) (hT.below (below_on hW hb))
          have MR := fun w1 (hb : Below wr.heap.size wr w1) => rmul02 p q A A' n c n' c' xs ys e f w1 (hx.below hb) (hy.below hb) (by omega) (by omega)
          unfold RetD at MD MR
          generalize mulD p q xs ys e f = om at *
          generalize (optD om).neg = s2 at *
          generalize (optD om).e = e2 at *
          generalize (optD om).m = m2 at *
          generalize om.isSome = k2s at *
          have MD := Lib.hid MD
          have MR := Lib.hid MR
          have hil : (i : Int) < (l.length : Int) := by omega
          have hi0 : (0 : Int) ≤ (i : Int) := by omega
          have hil1 : (i : Int) + 1 < (l.length : Int) := by omega
          have hi01 : (0 : Int) ≤ (i : Int) + 1 := by omega
          have htn : ((i : Int) + 1).toNat = i + 1 := by omega
          clear ho ho' hD hx hy
          have hne0 : ¬ wr.heap.size = g := by omega
          go_wp2_with fail
          go_region_held3 (fun w' => (w'.cell? ⟨g, o + i * 3, none⟩ = some (.bool p) ∧ w'.cell? ⟨g, o + i * 3 + 1, none⟩ = some (.slice A n c) ∧ w'.cell? ⟨g, o + i * 3 + 2, none⟩ = some (.int .i64 e)) ∧ (w'.cell? ⟨g, o + (i + 1) * 3, none⟩ = some (.bool q) ∧ w'.cell? ⟨g, o + (i + 1) * 3 + 1, none⟩ = some (.slice A' n' c') ∧ w'.cell? ⟨g, o + (i + 1) * 3 + 2, none⟩ = some (.int .i64 f))) (first | (refine KC.out _ ?_; (repeat (first | with_reducible assumption | with_reducible exact below_self _ | with_reducible refine below_drewN ?_ _ | with_reducible apply Below.drew | with_reducible refine below_alloc ?_ _)); done) | go_keep) (first | (go_at_call 43; refine (MD.out _ ((by repeat (first | with_reducible assumption | with_reducible exact below_self _ | with_reducible refine below_drewN ?_ _ | with_reducible apply Below.drew | with_reducible refine below_alloc ?_ _)))).mono ?_; rintro r w6 ⟨A6, n6, c6, rfl, h6, hc6⟩; have hb6 := below_on ((by repeat (first | with_reducible assumption | with_reducible exact below_self _ | with_reducible refine below_drewN ?_ _ | with_reducible apply Below.drew | with_reducible refine below_alloc ?_ _)) : Below wr.heap.size wr _) hc6; have hz6 := hb6.size; have hne6 : ¬ w6.heap.size = g := (by omega); (try (have bq : Box w6 wr.heap.size #[.bool false, .slice none 0 0, .int .i64 0] 24 := (box_new wr.drew _ _).later hc6; obtain ⟨v0, v1, v2, v3, v4, v5⟩ := bq.cell3))))
          all_goals
            first
              | (have h6' := h6.set3 bq (.bool s2) (.slice A6 n6 c6) (.int .i64 e2) (by simp) (by simp)
                 have x6 : Box _ _ #[.bool s2, .slice A6 n6 c6, .int .i64 e2] 24 := ((bq.set 0 (.bool s2)).set 1 (.slice A6 n6 c6)).set 2 (.int .i64 e2)
                 have hb6' : Below wr.heap.size wr (((w6.setCell ⟨wr.heap.size, 0, none⟩ (.bool s2)).setCell ⟨wr.heap.size, 1, none⟩ (.slice A6 n6 c6)).setCell ⟨wr.heap.size, 2, none⟩ (.int .i64 e2)) := below_set3 hb6 (Nat.le_refl _)
                 generalize (((w6.setCell ⟨wr.heap.size, 0, none⟩ (.bool s2)).setCell ⟨wr.heap.size, 1, none⟩ (.slice A6 n6 c6)).setCell ⟨wr.heap.size, 2, none⟩ (.int .i64 e2)) = W6 at *
                 clear v0 v1 v2 v3 v4 v5 bq)
              | (have h6' := h6.below (below_alloc (below_self w6) (.cells #[.bool s2, .slice A6 n6 c6, .int .i64 e2] 24))
                 have x6 := box_new w6 #[.bool s2, .slice A6 n6 c6, .int .i64 e2] 24
                 have hb6' := below_alloc hb6 (.cells #[.bool s2, .slice A6 n6 c6, .int .i64 e2] 24)
                 generalize World.alloc w6 _ = W6 at *)
          all_goals
            clear h6 hb6 hc6 hz6
            clear k0 k1 k2 j0 j1 j2
            obtain ⟨⟨k0, k1, k2⟩, ⟨j0, j1, j2⟩⟩ := KC.out _ hb6'
            have hW6 := hb6'.size
            have hne7 : ¬ W6.heap.size = g := by omega
            go_wp2_with fail
            go_region_held3 (fun w' => (w'.cell? ⟨g, o + i * 3, none⟩ = some (.bool p) ∧ w'.cell? ⟨g, o + i * 3 + 1, none⟩ = some (.slice A n c) ∧ w'.cell? ⟨g, o + i * 3 + 2, none⟩ = some (.int .i64 e)) ∧ (w'.cell? ⟨g, o + (i + 1) * 3, none⟩ = some (.bool q) ∧ w'.cell? ⟨g, o + (i + 1) * 3 + 1, none⟩ = some (.slice A' n' c') ∧ w'.cell? ⟨g, o + (i + 1) * 3 + 2, none⟩ = some (.int .i64 f))) (first | (refine KC.out _ ?_; (repeat (first | with_reducible assumption | with_reducible exact below_self _ | with_reducible refine below_drewN ?_ _ | with_reducible apply Below.drew | with_reducible refine below_alloc ?_ _)); done) | go_keep) (first | (go_at_call 44; refine (MR.out _ ((by repeat (first | with_reducible assumption | with_reducible exact below_self _ | with_reducible refine below_drewN ?_ _ | with_reducible apply Below.drew | with_reducible refine below_alloc ?_ _)))).mono ?_; rintro r w7 ⟨A7, n7, c7, rfl, h7, hc7⟩; have hs7 := below_on ((by repeat (first | with_reducible assumption | with_reducible exact below_self _ | with_reducible refine below_drewN ?_ _ | with_reducible apply Below.drew | with_reducible refine below_alloc ?_ _)) : Below W6.heap.size W6 _) hc7; have hw7 := below_on hb6' hs7; have hz7 := hs7.size; have hne8 : ¬ w7.heap.size = g := (by omega); (try (have bq : Box w7 W6.heap.size #[.bool false, .slice none 0 0, .int .i64 0] 24 := (box_new W6.drew _ _).later hc7; obtain ⟨v0, v1, v2, v3, v4, v5⟩ := bq.cell3))))
          all_goals
            first
              | (have h7' := h7.set3 bq (.bool s2) (.slice A7 n7 c7) (.int .i64 e2) (by simp) (by simp)
                 have x7 : Box _ _ #[.bool s2, .slice A7 n7 c7, .int .i64 e2] 24 := ((bq.set 0 (.bool s2)).set 1 (.slice A7 n7 c7)).set 2 (.int .i64 e2)
                 have hb7' : Below W6.heap.size W6 (((w7.setCell ⟨W6.heap.size, 0, none⟩ (.bool s2)).setCell ⟨W6.heap.size, 1, none⟩ (.slice A7 n7 c7)).setCell ⟨W6.heap.size, 2, none⟩ (.int .i64 e2)) := below_set3 hs7 (Nat.le_refl _)
                 generalize (((w7.setCell ⟨W6.heap.size, 0, none⟩ (.bool s2)).setCell ⟨W6.heap.size, 1, none⟩ (.slice A7 n7 c7)).setCell ⟨W6.heap.size, 2, none⟩ (.int .i64 e2)) = W7 at *
                 clear v0 v1 v2 v3 v4 v5 bq)
              | (have h7' := h7.below (below_alloc (below_self w7) (.cells #[.bool s2, .slice A7 n7 c7, .int .i64 e2] 24))
                 have x7 := box_new w7 #[.bool s2, .slice A7 n7 c7, .int .i64 e2] 24
                 have hb7' := below_alloc hs7 (.cells #[.bool s2, .slice A7 n7 c7, .int .i64 e2] 24)
                 generalize World.alloc w7 _ = W7 at *)
          all_goals
            have S2 := Lib.hid (dboth s2 A6 A7 n6 c6 n7 c7 _ e2 k2s W7 (h6'.below hb7') h7')
            have x6 := x6.later hb7'
            have hb7 := below_on hb6' hb7'
            clear k0 k1 k2 j0 j1 j2
            obtain ⟨k0, k1, k2, f0, f1, f2⟩ := x6.cell3
            obtain ⟨j0, j1, j2, g0, g1, g2⟩ := x7.cell3
            go_wp2_with fail
            refine S2.out.mono ?_; rintro r w8 ⟨rfl, hb8⟩
            go_wp2_with fail
            exact ⟨⟨i + 1, by omega, by go_num, below_on hW (below_on hb7 hb8)⟩, by simp only [intOf]; omega⟩
        · have W2 : decide ((i : Int) + 1 < (l.length : Int)) = false := by simp; omega
          go_wp2_with fail
          go_ret
          exact ⟨rfl, hW⟩
end Go.Proofs.YtbfnjjnnlbchgaaDoor
