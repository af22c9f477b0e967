/- nat.Mul. Printed by wip/tools/mulk.py. -/
import Derived.Test.YtbfnjjnnlbchgaaDoorNatJ
namespace Go.Proofs.YtbfnjjnnlbchgaaDoor
open Go.RowKit Num
set_option maxRecDepth 100000

set_option maxHeartbeats 1000000 in
theorem mul_step (N : Nat) (hN : N + 1 ≤ 100000000) (IH : 24 ≤ N → MulSpec N) : MulSpec (N + 1) := by
  intro A A' n c n' c' xs ys w h h' hn hn'
  have T := Lib.hid (trim A n c xs w h)
  have T' := Lib.hid (trim A' n' c' ys w h')
  have hx := h.trim
  have hy := h'.trim
  have lx := wd_len h.wf
  have ly := wd_len h'.wf
  rw [h.len] at lx
  rw [h'.len] at ly
  have vx := val_wd _ h.val_nonneg
  have vy := val_wd _ h'.val_nonneg
  generalize hX : wd (val xs) = X at *
  generalize hY : wd (val ys) = Y at *
  rw [← vx, ← vy]
  have zx : X.length = 0 → val X = 0 := fun h0 => by rw [List.eq_nil_of_length_eq_zero h0]; rfl
  have zy : Y.length = 0 → val Y = 0 := fun h0 => by rw [List.eq_nil_of_length_eq_zero h0]; rfl
  clear hX hY vx vy h h'
  have cX := hx.cap
  have cY := hy.cap
  have bX := hx.big
  have bY := hy.big
  have aX := hx.apart (Nat.le_refl _)
  have aY := hy.apart (Nat.le_refl _)
  by_cases hsw : X.length < Y.length
  · have d1 : decide ((X.length : Int) < Y.length) = true := by simp; omega
    by_cases h0 : X.length = 0
    · have d2 : ((X.length : Int) == 0) = true := beq_iff_eq.2 (by omega)
      have hz : val X * val Y = 0 := by rw [zx h0]; simp
      rw [hz]
      clear hz
      go_enter Tryd.func113, Tryd.ntmps113
      go_wp2_with fail
      refine T.out.mono ?_; rintro r w' ⟨rfl, rfl⟩
      go_wp2_with fail
      refine T'.out.mono ?_; rintro r w' ⟨rfl, rfl⟩
      go_wp2_with (at_make; refine wp_make rfl _ _ rfl _ _ (Y.length + X.length) rfl rfl ?m1 ?m2 ?m3 ?_)
      case m1 => omega
      case m2 => omega
      case m3 => omega
      intro g w1 hg hrow hb
      subst hg
      go_wp2_with fail
      go_ret
      exact ⟨_, _, _, rfl, by rw [wd_zero (Int.le_refl _)]; exact Own.nil _ _ _ _ (by omega), hb⟩
    · have d2 : ((X.length : Int) == 0) = false := beq_eq_false_iff_ne.2 (by omega)
      by_cases h1 : X.length ≤ 24
      · have d3 : decide ((X.length : Int) ≤ 24) = true := by simp; omega
        go_enter Tryd.func113, Tryd.ntmps113
        go_wp2_with fail
        refine T.out.mono ?_; rintro r w' ⟨rfl, rfl⟩
        go_wp2_with fail
        refine T'.out.mono ?_; rintro r w' ⟨rfl, rfl⟩
        go_wp2_with (at_make; refine wp_make rfl _ _ rfl _ _ (Y.length + X.length) rfl rfl ?m1 ?m2 ?m3 ?_)
        case m1 => omega
        case m2 => omega
        case m3 => omega
        intro g w1 hg hrow hb
        subst hg
        go_wp2_with fail
        refine (mulPlain w.heap.size A' A Y.length c' X.length c Y X w1 _ w.heap.size hrow (hy.below hb) (hx.below hb) aY aX (Nat.le_refl _) (Nat.le_refl _) (by omega) (by omega) (by omega)).mono ?_
        rintro r w2 ⟨rfl, Z, hZ, hR, hv, hG⟩
        have hO := hR.own (n := Y.length + X.length) (c := Y.length + X.length) (Bk := w.heap.size) hZ (Nat.le_refl _) (by omega) (Nat.le_refl _)
        have hb2 : Below w.heap.size w w2 := hb.trans (grown_below hG hb.size (fun k hk => by cases hk; exact Nat.le_refl _))
        have HV := Lib.hid (show val Z = val X * val Y from hv.trans (by first | rfl | exact Int.mul_comm _ _))
        clear hv
        go_wp2_with fail
        refine (trim _ _ _ _ _ hO.arr).mono ?_; rintro r w' ⟨rfl, rfl⟩
        have hT := hO.trim
        rw [HV.out] at hT ⊢
        go_wp2
        go_ret
        exact ⟨_, _, _, rfl, hT, hb2⟩
      · have d3 : decide ((X.length : Int) ≤ 24) = false := by simp; omega
        go_enter Tryd.func113, Tryd.ntmps113
        go_wp2_with fail
        refine T.out.mono ?_; rintro r w' ⟨rfl, rfl⟩
        go_wp2_with fail
        refine T'.out.mono ?_; rintro r w' ⟨rfl, rfl⟩
        go_wp2_with (at_make; refine wp_make rfl _ _ rfl _ _ (Y.length + X.length) rfl rfl ?m1 ?m2 ?m3 ?_)
        case m1 => omega
        case m2 => omega
        case m3 => omega
        intro g w1 hg hrow hb
        subst hg
        go_wp2_with fail
        refine (halves N (by omega) (IH (by omega)) w.heap.size A' A Y.length c' X.length c Y X w1 _ hrow (hy.below hb) (hx.below hb) (Nat.le_refl _) (by omega) (by omega) (by omega) (by omega)).mono ?_
        rintro r w2 ⟨rfl, Z, hO, hv, hG⟩
        have hb2 : Below w.heap.size w w2 := hb.trans (grown_below hG hb.size (fun k hk => by cases hk; exact Nat.le_refl _))
        have HV := Lib.hid (show val Z = val X * val Y from hv.trans (by first | rfl | exact Int.mul_comm _ _))
        clear hv
        go_wp2_with fail
        refine (trim _ _ _ _ _ hO.arr).mono ?_; rintro r w' ⟨rfl, rfl⟩
        have hT := hO.trim
        rw [HV.out] at hT ⊢
        go_wp2
        go_ret
        exact ⟨_, _, _, rfl, hT, hb2⟩
  · have d1 : decide ((X.length : Int) < Y.length) = false := by simp; omega
    by_cases h0 : Y.length = 0
    · have d2 : ((Y.length : Int) == 0) = true := beq_iff_eq.2 (by omega)
      have hz : val X * val Y = 0 := by rw [zy h0]; simp
      rw [hz]
      clear hz
      go_enter Tryd.func113, Tryd.ntmps113
      go_wp2_with fail
      refine T.out.mono ?_; rintro r w' ⟨rfl, rfl⟩
      go_wp2_with fail
      refine T'.out.mono ?_; rintro r w' ⟨rfl, rfl⟩
      go_wp2_with (at_make; refine wp_make rfl _ _ rfl _ _ (X.length + Y.length) rfl rfl ?m1 ?m2 ?m3 ?_)
      case m1 => omega
      case m2 => omega
      case m3 => omega
      intro g w1 hg hrow hb
      subst hg
      go_wp2_with fail
      go_ret
      exact ⟨_, _, _, rfl, by rw [wd_zero (Int.le_refl _)]; exact Own.nil _ _ _ _ (by omega), hb⟩
    · have d2 : ((Y.length : Int) == 0) = false := beq_eq_false_iff_ne.2 (by omega)
      by_cases h1 : Y.length ≤ 24
      · have d3 : decide ((Y.length : Int) ≤ 24) = true := by simp; omega
        go_enter Tryd.func113, Tryd.ntmps113
        go_wp2_with fail
        refine T.out.mono ?_; rintro r w' ⟨rfl, rfl⟩
        go_wp2_with fail
        refine T'.out.mono ?_; rintro r w' ⟨rfl, rfl⟩
        go_wp2_with (at_make; refine wp_make rfl _ _ rfl _ _ (X.length + Y.length) rfl rfl ?m1 ?m2 ?m3 ?_)
        case m1 => omega
        case m2 => omega
        case m3 => omega
        intro g w1 hg hrow hb
        subst hg
        go_wp2_with fail
        refine (mulPlain w.heap.size A A' X.length c Y.length c' X Y w1 _ w.heap.size hrow (hx.below hb) (hy.below hb) aX aY (Nat.le_refl _) (Nat.le_refl _) (by omega) (by omega) (by omega)).mono ?_
        rintro r w2 ⟨rfl, Z, hZ, hR, hv, hG⟩
        have hO := hR.own (n := X.length + Y.length) (c := X.length + Y.length) (Bk := w.heap.size) hZ (Nat.le_refl _) (by omega) (Nat.le_refl _)
        have hb2 : Below w.heap.size w w2 := hb.trans (grown_below hG hb.size (fun k hk => by cases hk; exact Nat.le_refl _))
        have HV := Lib.hid (show val Z = val X * val Y from hv.trans (by first | rfl | exact Int.mul_comm _ _))
        clear hv
        go_wp2_with fail
        refine (trim _ _ _ _ _ hO.arr).mono ?_; rintro r w' ⟨rfl, rfl⟩
        have hT := hO.trim
        rw [HV.out] at hT ⊢
        go_wp2
        go_ret
        exact ⟨_, _, _, rfl, hT, hb2⟩
      · have d3 : decide ((Y.length : Int) ≤ 24) = false := by simp; omega
        go_enter Tryd.func113, Tryd.ntmps113
        go_wp2_with fail
        refine T.out.mono ?_; rintro r w' ⟨rfl, rfl⟩
        go_wp2_with fail
        refine T'.out.mono ?_; rintro r w' ⟨rfl, rfl⟩
        go_wp2_with (at_make; refine wp_make rfl _ _ rfl _ _ (X.length + Y.length) rfl rfl ?m1 ?m2 ?m3 ?_)
        case m1 => omega
        case m2 => omega
        case m3 => omega
        intro g w1 hg hrow hb
        subst hg
        go_wp2_with fail
        refine (halves N (by omega) (IH (by omega)) w.heap.size A A' X.length c Y.length c' X Y w1 _ hrow (hx.below hb) (hy.below hb) (Nat.le_refl _) (by omega) (by omega) (by omega) (by omega)).mono ?_
        rintro r w2 ⟨rfl, Z, hO, hv, hG⟩
        have hb2 : Below w.heap.size w w2 := hb.trans (grown_below hG hb.size (fun k hk => by cases hk; exact Nat.le_refl _))
        have HV := Lib.hid (show val Z = val X * val Y from hv.trans (by first | rfl | exact Int.mul_comm _ _))
        clear hv
        go_wp2_with fail
        refine (trim _ _ _ _ _ hO.arr).mono ?_; rintro r w' ⟨rfl, rfl⟩
        have hT := hO.trim
        rw [HV.out] at hT ⊢
        go_wp2
        go_ret
        exact ⟨_, _, _, rfl, hT, hb2⟩
theorem mul_all : ∀ N, N ≤ 100000000 → MulSpec N
  | 0, _ => by
    intro A A' n c n' c' xs ys w h h' hn hn'
    exact mul_step 0 (by omega) (fun h => absurd h (by omega)) A A' n c n' c' xs ys w h h' (by omega) (by omega)
  | N + 1, h => mul_step N h (fun _ => mul_all N (by omega))
theorem mul (A A' : Option Addr) (n c n' c' : Nat) (xs ys : List Int) (w : World) (h : Arr w A n c xs) (h' : Arr w A' n' c' ys) (hn : n ≤ 100000000) (hn' : n' ≤ 100000000) :
    Calls Tryd.prog 113 #[.slice A n c, .slice A' n' c'] w fun e w' => ∃ A2 n2 c2, e = .returned (.slice A2 n2 c2) ∧ Own w' w.heap.size A2 n2 c2 (wd (val xs * val ys)) ∧ Below w.heap.size w w' :=
  mul_all 100000000 (Nat.le_refl _) A A' n c n' c' xs ys w h h' hn hn'
end Go.Proofs.YtbfnjjnnlbchgaaDoor
