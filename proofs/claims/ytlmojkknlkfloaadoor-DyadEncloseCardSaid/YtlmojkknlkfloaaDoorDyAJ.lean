/- The law DyadEnclose: no divisor. -/
import Derived.Test.YtlmojkknlkfloaaDoorDyAI
namespace Go.Proofs.YtlmojkknlkfloaaDoor
open Go.RowKit Num
set_option linter.unusedSimpArgs false
set_option linter.unusedVariables false
set_option maxRecDepth 100000

theorem ret_some {s : Bool} {m e : Int} {w w' : World} {r : Ending} (h : RetD (some ⟨s, m, e⟩) w r w') : ∃ A n c, r = .returned (.tuple #[.agg #[.bool s, .slice A n c, .int .i64 e], .bool true]) ∧ Arr w' A n c (wd m) ∧ Below w.heap.size w w' := h
theorem plainB_pos {p : Bool} {xs : List Int} {e : Int} (h : plainB p xs e = true) : plainB false xs e = true := by
  cases p
  · exact h
  · unfold plainB at h ⊢
    split at h
    · simp at h
    · rename_i h1; rw [if_neg h1]; exact h
theorem mulD_plain {p q : Bool} {xs ys : List Int} {e f : Int} {d : Dy} (hx : Wf xs) (hy : Wf ys) (h : mulD p q xs ys e f = some d) : plainB d.neg (wd d.m) d.e = true ∧ 0 ≤ d.m := by
  unfold mulD at h
  split at h
  · exact mk_plain (Int.mul_nonneg (val_nonneg hx) (val_nonneg hy)) h
  · cases h
set_option maxHeartbeats 80000000 in
theorem dyadEnclose_DyAJ (p q : Bool) (A A' : Option Addr) (n c n' c' : Nat) (xs ys : List Int) (e f P : Int) (w : World) (h : Arr w A n c xs) (h' : Arr w A' n' c' ys) (hT : Tz w) (hz : Hid (n' = 0)) :
    Calls Tryd.prog 7 #[.agg #[.bool p, .slice A n c, .int .i64 e], .agg #[.bool q, .slice A' n' c', .int .i64 f], .int .i64 P] w fun r w' => r = .returned (.bool true) ∧ Below w.heap.size w w' := by
  have b1 : Below w.heap.size w ((w.alloc (.cells #[.bool p, .slice A n c, .int .i64 e] 24)).alloc (.cells #[.bool q, .slice A' n' c', .int .i64 f] 24)) := below_alloc (below_alloc (below_self w) _) _
  have xa := (box_new w #[.bool p, .slice A n c, .int .i64 e] 24).later (below_alloc (below_self _) (.cells #[.bool q, .slice A' n' c', .int .i64 f] 24))
  have xb := box_new (w.alloc (.cells #[.bool p, .slice A n c, .int .i64 e] 24)) #[.bool q, .slice A' n' c', .int .i64 f] 24
  rw [show (w.alloc (.cells #[.bool p, .slice A n c, .int .i64 e] 24)).heap.size = w.heap.size + 1 by simp] at xb
  have hwf := h.wf
  have hwf' := h'.wf
  have hxl := h.len
  have hyl := h'.len
  have HA := Lib.hid (fun w3 (hb : Below ((w.alloc (.cells #[.bool p, .slice A n c, .int .i64 e] 24)).alloc (.cells #[.bool q, .slice A' n' c', .int .i64 f] 24)).heap.size ((w.alloc (.cells #[.bool p, .slice A n c, .int .i64 e] 24)).alloc (.cells #[.bool q, .slice A' n' c', .int .i64 f] 24)) w3) => h.below (below_on b1 hb))
  have HB := Lib.hid (fun w3 (hb : Below ((w.alloc (.cells #[.bool p, .slice A n c, .int .i64 e] 24)).alloc (.cells #[.bool q, .slice A' n' c', .int .i64 f] 24)).heap.size ((w.alloc (.cells #[.bool p, .slice A n c, .int .i64 e] 24)).alloc (.cells #[.bool q, .slice A' n' c', .int .i64 f] 24)) w3) => h'.below (below_on b1 hb))
  have HTT := Lib.hid (fun w3 (hb : Below ((w.alloc (.cells #[.bool p, .slice A n c, .int .i64 e] 24)).alloc (.cells #[.bool q, .slice A' n' c', .int .i64 f] 24)).heap.size ((w.alloc (.cells #[.bool p, .slice A n c, .int .i64 e] 24)).alloc (.cells #[.bool q, .slice A' n' c', .int .i64 f] 24)) w3) => hT.below (below_on b1 hb))
  have AW := Lib.hid (awake02 _ (hT.below b1))
  have FW := fun w3 (hb : Below ((w.alloc (.cells #[.bool p, .slice A n c, .int .i64 e] 24)).alloc (.cells #[.bool q, .slice A' n' c', .int .i64 f] 24)).heap.size ((w.alloc (.cells #[.bool p, .slice A n c, .int .i64 e] 24)).alloc (.cells #[.bool q, .slice A' n' c', .int .i64 f] 24)) w3) => few_two p q A A' n c n' c' xs ys e f w3 (h.below (below_on b1 hb)) (h'.below (below_on b1 hb))
  have PA := fun w3 (hb : Below ((w.alloc (.cells #[.bool p, .slice A n c, .int .i64 e] 24)).alloc (.cells #[.bool q, .slice A' n' c', .int .i64 f] 24)).heap.size ((w.alloc (.cells #[.bool p, .slice A n c, .int .i64 e] 24)).alloc (.cells #[.bool q, .slice A' n' c', .int .i64 f] 24)) w3) => plain p A n c xs e w3 (h.below (below_on b1 hb))
  have PB := fun w3 (hb : Below ((w.alloc (.cells #[.bool p, .slice A n c, .int .i64 e] 24)).alloc (.cells #[.bool q, .slice A' n' c', .int .i64 f] 24)).heap.size ((w.alloc (.cells #[.bool p, .slice A n c, .int .i64 e] 24)).alloc (.cells #[.bool q, .slice A' n' c', .int .i64 f] 24)) w3) => plain q A' n' c' ys f w3 (h'.below (below_on b1 hb))
  (obtain ⟨k0, k1, k2, kf0, kf1, kf2⟩ := xa.cell3; obtain ⟨j0, j1, j2, jf0, jf1, jf2⟩ := xb.cell3)
  have HC := Lib.hid (fun w3 (hb : Below w.heap.size w w3) => h.below hb)
  have HC' := Lib.hid (fun w3 (hb : Below w.heap.size w w3) => h'.below hb)
  have HTC := Lib.hid (fun w3 (hb : Below w.heap.size w w3) => hT.below hb)
  clear h h' hT
  cases hf : fewD ⟨p, A, n, c, xs, e⟩ && fewD ⟨q, A', n', c', ys, f⟩
  · rw [hf] at FW
    have FW := Lib.hid FW
    clear hf PA PB
    (go_enter Tryd.func7, Tryd.ntmps7; go_wp2_with fail; refine AW.out.mono ?_; rintro r w3 ⟨rfl, hbt⟩; (have xa := xa.later hbt; have xb := xb.later hbt); (clear k0 k1 k2 kf0 kf1 kf2 j0 j1 j2 jf0 jf1 jf2); (obtain ⟨k0, k1, k2, kf0, kf1, kf2⟩ := xa.cell3; obtain ⟨j0, j1, j2, jf0, jf1, jf2⟩ := xb.cell3); go_wp2_with fail; refine (FW.out w3 hbt).mono ?_; rintro r w4 ⟨rfl, hb4⟩; (have xa := xa.later hb4; have xb := xb.later hb4); have hbt := below_on hbt hb4; (clear k0 k1 k2 kf0 kf1 kf2 j0 j1 j2 jf0 jf1 jf2); (obtain ⟨k0, k1, k2, kf0, kf1, kf2⟩ := xa.cell3; obtain ⟨j0, j1, j2, jf0, jf1, jf2⟩ := xb.cell3))
    (go_wp2_with fail; go_ret; exact ⟨by simp, below_on b1 hbt⟩)
  rw [hf] at FW
  have FW := Lib.hid FW
  rw [Bool.and_eq_true] at hf
  obtain ⟨hn, he1, he0⟩ := fewD_parts hf.1
  obtain ⟨hn', hf1, hf0⟩ := fewD_parts hf.2
  simp only at hn he1 he0 hn' hf1 hf0
  clear hf
  cases hp : plainB p xs e
  · rw [hp] at PA
    have PA := Lib.hid PA
    clear hp PB
    (go_enter Tryd.func7, Tryd.ntmps7; go_wp2_with fail; refine AW.out.mono ?_; rintro r w3 ⟨rfl, hbt⟩; (have xa := xa.later hbt; have xb := xb.later hbt); (clear k0 k1 k2 kf0 kf1 kf2 j0 j1 j2 jf0 jf1 jf2); (obtain ⟨k0, k1, k2, kf0, kf1, kf2⟩ := xa.cell3; obtain ⟨j0, j1, j2, jf0, jf1, jf2⟩ := xb.cell3); go_wp2_with fail; refine (FW.out w3 hbt).mono ?_; rintro r w4 ⟨rfl, hb4⟩; (have xa := xa.later hb4; have xb := xb.later hb4); have hbt := below_on hbt hb4; (clear k0 k1 k2 kf0 kf1 kf2 j0 j1 j2 jf0 jf1 jf2); (obtain ⟨k0, k1, k2, kf0, kf1, kf2⟩ := xa.cell3; obtain ⟨j0, j1, j2, jf0, jf1, jf2⟩ := xb.cell3))
    (go_wp2_with fail; refine (PA.out w4 hbt).mono ?_; rintro r w5 ⟨rfl, hb5⟩; (have xa := xa.later hb5; have xb := xb.later hb5); have hbt := below_on hbt hb5; (clear k0 k1 k2 kf0 kf1 kf2 j0 j1 j2 jf0 jf1 jf2); (obtain ⟨k0, k1, k2, kf0, kf1, kf2⟩ := xa.cell3; obtain ⟨j0, j1, j2, jf0, jf1, jf2⟩ := xb.cell3))
    (go_wp2_with fail; go_ret; exact ⟨by simp, below_on b1 hbt⟩)
  rw [hp] at PA
  have PA := Lib.hid PA
  cases hq : plainB q ys f
  · rw [hq] at PB
    have PB := Lib.hid PB
    clear hp hq
    (go_enter Tryd.func7, Tryd.ntmps7; go_wp2_with fail; refine AW.out.mono ?_; rintro r w3 ⟨rfl, hbt⟩; (have xa := xa.later hbt; have xb := xb.later hbt); (clear k0 k1 k2 kf0 kf1 kf2 j0 j1 j2 jf0 jf1 jf2); (obtain ⟨k0, k1, k2, kf0, kf1, kf2⟩ := xa.cell3; obtain ⟨j0, j1, j2, jf0, jf1, jf2⟩ := xb.cell3); go_wp2_with fail; refine (FW.out w3 hbt).mono ?_; rintro r w4 ⟨rfl, hb4⟩; (have xa := xa.later hb4; have xb := xb.later hb4); have hbt := below_on hbt hb4; (clear k0 k1 k2 kf0 kf1 kf2 j0 j1 j2 jf0 jf1 jf2); (obtain ⟨k0, k1, k2, kf0, kf1, kf2⟩ := xa.cell3; obtain ⟨j0, j1, j2, jf0, jf1, jf2⟩ := xb.cell3))
    (go_wp2_with fail; refine (PA.out w4 hbt).mono ?_; rintro r w5 ⟨rfl, hb5⟩; (have xa := xa.later hb5; have xb := xb.later hb5); have hbt := below_on hbt hb5; (clear k0 k1 k2 kf0 kf1 kf2 j0 j1 j2 jf0 jf1 jf2); (obtain ⟨k0, k1, k2, kf0, kf1, kf2⟩ := xa.cell3; obtain ⟨j0, j1, j2, jf0, jf1, jf2⟩ := xb.cell3))
    (go_wp2_with fail; refine (PB.out w5 hbt).mono ?_; rintro r w6 ⟨rfl, hb6⟩; (have xa := xa.later hb6; have xb := xb.later hb6); have hbt := below_on hbt hb6; (clear k0 k1 k2 kf0 kf1 kf2 j0 j1 j2 jf0 jf1 jf2); (obtain ⟨k0, k1, k2, kf0, kf1, kf2⟩ := xa.cell3; obtain ⟨j0, j1, j2, jf0, jf1, jf2⟩ := xb.cell3))
    (go_wp2_with fail; go_ret; exact ⟨by simp, below_on b1 hbt⟩)
  rw [hq] at PB
  have PB := Lib.hid PB
  by_cases hP1 : P < 1
  · have d1 : decide (P < 1) = true := decide_eq_true hP1
    clear hp hq
    (go_enter Tryd.func7, Tryd.ntmps7; go_wp2_with fail; refine AW.out.mono ?_; rintro r w3 ⟨rfl, hbt⟩; (have xa := xa.later hbt; have xb := xb.later hbt); (clear k0 k1 k2 kf0 kf1 kf2 j0 j1 j2 jf0 jf1 jf2); (obtain ⟨k0, k1, k2, kf0, kf1, kf2⟩ := xa.cell3; obtain ⟨j0, j1, j2, jf0, jf1, jf2⟩ := xb.cell3); go_wp2_with fail; refine (FW.out w3 hbt).mono ?_; rintro r w4 ⟨rfl, hb4⟩; (have xa := xa.later hb4; have xb := xb.later hb4); have hbt := below_on hbt hb4; (clear k0 k1 k2 kf0 kf1 kf2 j0 j1 j2 jf0 jf1 jf2); (obtain ⟨k0, k1, k2, kf0, kf1, kf2⟩ := xa.cell3; obtain ⟨j0, j1, j2, jf0, jf1, jf2⟩ := xb.cell3))
    (go_wp2_with fail; refine (PA.out w4 hbt).mono ?_; rintro r w5 ⟨rfl, hb5⟩; (have xa := xa.later hb5; have xb := xb.later hb5); have hbt := below_on hbt hb5; (clear k0 k1 k2 kf0 kf1 kf2 j0 j1 j2 jf0 jf1 jf2); (obtain ⟨k0, k1, k2, kf0, kf1, kf2⟩ := xa.cell3; obtain ⟨j0, j1, j2, jf0, jf1, jf2⟩ := xb.cell3))
    (go_wp2_with fail; refine (PB.out w5 hbt).mono ?_; rintro r w6 ⟨rfl, hb6⟩; (have xa := xa.later hb6; have xb := xb.later hb6); have hbt := below_on hbt hb6; (clear k0 k1 k2 kf0 kf1 kf2 j0 j1 j2 jf0 jf1 jf2); (obtain ⟨k0, k1, k2, kf0, kf1, kf2⟩ := xa.cell3; obtain ⟨j0, j1, j2, jf0, jf1, jf2⟩ := xb.cell3))
    (go_wp2_with fail; go_ret; exact ⟨by simp, below_on b1 hbt⟩)
  have d1 : decide (P < 1) = false := decide_eq_false hP1
  by_cases hP6 : 600 < P
  · have d2 : decide (P > 600) = true := decide_eq_true hP6
    clear hp hq
    (go_enter Tryd.func7, Tryd.ntmps7; go_wp2_with fail; refine AW.out.mono ?_; rintro r w3 ⟨rfl, hbt⟩; (have xa := xa.later hbt; have xb := xb.later hbt); (clear k0 k1 k2 kf0 kf1 kf2 j0 j1 j2 jf0 jf1 jf2); (obtain ⟨k0, k1, k2, kf0, kf1, kf2⟩ := xa.cell3; obtain ⟨j0, j1, j2, jf0, jf1, jf2⟩ := xb.cell3); go_wp2_with fail; refine (FW.out w3 hbt).mono ?_; rintro r w4 ⟨rfl, hb4⟩; (have xa := xa.later hb4; have xb := xb.later hb4); have hbt := below_on hbt hb4; (clear k0 k1 k2 kf0 kf1 kf2 j0 j1 j2 jf0 jf1 jf2); (obtain ⟨k0, k1, k2, kf0, kf1, kf2⟩ := xa.cell3; obtain ⟨j0, j1, j2, jf0, jf1, jf2⟩ := xb.cell3))
    (go_wp2_with fail; refine (PA.out w4 hbt).mono ?_; rintro r w5 ⟨rfl, hb5⟩; (have xa := xa.later hb5; have xb := xb.later hb5); have hbt := below_on hbt hb5; (clear k0 k1 k2 kf0 kf1 kf2 j0 j1 j2 jf0 jf1 jf2); (obtain ⟨k0, k1, k2, kf0, kf1, kf2⟩ := xa.cell3; obtain ⟨j0, j1, j2, jf0, jf1, jf2⟩ := xb.cell3))
    (go_wp2_with fail; refine (PB.out w5 hbt).mono ?_; rintro r w6 ⟨rfl, hb6⟩; (have xa := xa.later hb6; have xb := xb.later hb6); have hbt := below_on hbt hb6; (clear k0 k1 k2 kf0 kf1 kf2 j0 j1 j2 jf0 jf1 jf2); (obtain ⟨k0, k1, k2, kf0, kf1, kf2⟩ := xa.cell3; obtain ⟨j0, j1, j2, jf0, jf1, jf2⟩ := xb.cell3))
    (go_wp2_with fail; go_ret; exact ⟨by simp, below_on b1 hbt⟩)
  have d2 : decide (P > 600) = false := decide_eq_false hP6
  have hR : rightB P = true := by unfold rightB; rw [decide_eq_true (by omega : 1 ≤ P), decide_eq_true (by omega : P ≤ 8192)]; rfl
  obtain ⟨⟨dn, dm, de⟩, ⟨un, um, ue⟩, cD, cU, lD, lU⟩ := cut_enc (P := P) hwf hp (by omega) he0 he1 (by omega) (by omega)
  have pD := mk_plain (cutN_size (neg := p) (up := false) (val_nonneg hwf) false (by omega : 1 ≤ P)).1 ((cutD_eq p (val xs) e false P false).symm.trans cD)
  have pU := mk_plain (cutN_size (neg := p) (up := true) (val_nonneg hwf) false (by omega : 1 ≤ P)).1 ((cutD_eq p (val xs) e false P true).symm.trans cU)
  simp only at pD pU
  have eD : cutO p xs e P false = some ⟨dn, dm, de⟩ := by unfold cutO; rw [hp, hR]; exact cD
  have eU : cutO p xs e P true = some ⟨un, um, ue⟩ := by unfold cutO; rw [hp, hR]; exact cU
  have CD := fun w3 (hb : Below ((w.alloc (.cells #[.bool p, .slice A n c, .int .i64 e] 24)).alloc (.cells #[.bool q, .slice A' n' c', .int .i64 f] 24)).heap.size ((w.alloc (.cells #[.bool p, .slice A n c, .int .i64 e] 24)).alloc (.cells #[.bool q, .slice A' n' c', .int .i64 f] 24)) w3) => dCut p A n c xs e P false w3 (HA.out w3 hb) (HTT.out w3 hb)
  have CU := fun w3 (hb : Below ((w.alloc (.cells #[.bool p, .slice A n c, .int .i64 e] 24)).alloc (.cells #[.bool q, .slice A' n' c', .int .i64 f] 24)).heap.size ((w.alloc (.cells #[.bool p, .slice A n c, .int .i64 e] 24)).alloc (.cells #[.bool q, .slice A' n' c', .int .i64 f] 24)) w3) => dCut p A n c xs e P true w3 (HA.out w3 hb) (HTT.out w3 hb)
  rw [eD] at CD
  rw [eU] at CU
  have OD := fun w3 A3 n3 c3 (h3 : Arr w3 A3 n3 c3 (wd dm)) (hb : Below ((w.alloc (.cells #[.bool p, .slice A n c, .int .i64 e] 24)).alloc (.cells #[.bool q, .slice A' n' c', .int .i64 f] 24)).heap.size ((w.alloc (.cells #[.bool p, .slice A n c, .int .i64 e] 24)).alloc (.cells #[.bool q, .slice A' n' c', .int .i64 f] 24)) w3) => dorder_true dn p A3 A n3 c3 n c (wd dm) xs de e w3 h3 (HA.out w3 hb) pD.1 hp (by rw [val_wd _ pD.2]; exact lD)
  have OU := fun w3 A3 n3 c3 (h3 : Arr w3 A3 n3 c3 (wd um)) (hb : Below ((w.alloc (.cells #[.bool p, .slice A n c, .int .i64 e] 24)).alloc (.cells #[.bool q, .slice A' n' c', .int .i64 f] 24)).heap.size ((w.alloc (.cells #[.bool p, .slice A n c, .int .i64 e] 24)).alloc (.cells #[.bool q, .slice A' n' c', .int .i64 f] 24)) w3) => dorder_true p un A A3 n c n3 c3 xs (wd um) e ue w3 (HA.out w3 hb) h3 hp pU.1 (by rw [val_wd _ pU.2]; exact lU)
  have hpp := plainB_pos hp
  obtain ⟨⟨rn, rm, re⟩, ⟨tn, tm, te⟩, ⟨xn, xm, xe⟩, ⟨yn, ym, ye⟩, cR, cT, pR, pT, mR, mT, cX, cY, lX, lY⟩ := root_enc (P := P) hwf hpp (by omega) he0 he1 (by omega) (by omega)
  simp only at pR pT mR mT cX cY
  have pX := mulD_plain (wf_wd _ mR) (wf_wd _ mR) cX
  have pY := mulD_plain (wf_wd _ mT) (wf_wd _ mT) cY
  simp only at pX pY
  have RD := fun w3 (hb : Below w.heap.size w w3) => dRoot false A n c xs e P false w3 (HC.out w3 hb) (HTC.out w3 hb)
  have RU := fun w3 (hb : Below w.heap.size w w3) => dRoot false A n c xs e P true w3 (HC.out w3 hb) (HTC.out w3 hb)
  rw [cR] at RD
  rw [cT] at RU
  have MD := fun w3 A3 n3 c3 (h3 : Arr w3 A3 n3 c3 (wd rm)) (hb : Below w.heap.size w w3) => dmul rn rn A3 A3 n3 c3 n3 c3 (wd rm) (wd rm) re re w3 h3 h3 (HTC.out w3 hb)
  have MU := fun w3 A3 n3 c3 (h3 : Arr w3 A3 n3 c3 (wd tm)) (hb : Below w.heap.size w w3) => dmul tn tn A3 A3 n3 c3 n3 c3 (wd tm) (wd tm) te te w3 h3 h3 (HTC.out w3 hb)
  simp only [cX] at MD
  simp only [cY] at MU
  have QX := fun w3 A3 n3 c3 (h3 : Arr w3 A3 n3 c3 (wd xm)) (hb : Below w.heap.size w w3) => dorder_true xn false A3 A n3 c3 n c (wd xm) xs xe e w3 h3 (HC.out w3 hb) pX.1 hpp (by rw [val_wd _ pX.2]; exact lX)
  have QY := fun w3 A3 n3 c3 (h3 : Arr w3 A3 n3 c3 (wd ym)) (hb : Below w.heap.size w w3) => dorder_true false yn A A3 n c n3 c3 xs (wd ym) e ye w3 (HC.out w3 hb) h3 hpp pY.1 (by rw [val_wd _ pY.2]; exact lY)
  have RD := Lib.hid RD
  have RU := Lib.hid RU
  have MD := Lib.hid MD
  have MU := Lib.hid MU
  have QX := Lib.hid QX
  have QY := Lib.hid QY
  clear cR cT pR pT mR mT cX cY lX lY pX pY
  have CD := Lib.hid CD
  have CU := Lib.hid CU
  have OD := Lib.hid OD
  have OU := Lib.hid OU
  clear cD cU lD lU pD pU eD eU
  (go_enter Tryd.func7, Tryd.ntmps7; go_wp2_with fail; refine AW.out.mono ?_; rintro r w3 ⟨rfl, hbt⟩; (have xa := xa.later hbt; have xb := xb.later hbt); (clear k0 k1 k2 kf0 kf1 kf2 j0 j1 j2 jf0 jf1 jf2); (obtain ⟨k0, k1, k2, kf0, kf1, kf2⟩ := xa.cell3; obtain ⟨j0, j1, j2, jf0, jf1, jf2⟩ := xb.cell3); go_wp2_with fail; refine (FW.out w3 hbt).mono ?_; rintro r w4 ⟨rfl, hb4⟩; (have xa := xa.later hb4; have xb := xb.later hb4); have hbt := below_on hbt hb4; (clear k0 k1 k2 kf0 kf1 kf2 j0 j1 j2 jf0 jf1 jf2); (obtain ⟨k0, k1, k2, kf0, kf1, kf2⟩ := xa.cell3; obtain ⟨j0, j1, j2, jf0, jf1, jf2⟩ := xb.cell3))
  (go_wp2_with fail; refine (PA.out w4 hbt).mono ?_; rintro r w5 ⟨rfl, hb5⟩; (have xa := xa.later hb5; have xb := xb.later hb5); have hbt := below_on hbt hb5; (clear k0 k1 k2 kf0 kf1 kf2 j0 j1 j2 jf0 jf1 jf2); (obtain ⟨k0, k1, k2, kf0, kf1, kf2⟩ := xa.cell3; obtain ⟨j0, j1, j2, jf0, jf1, jf2⟩ := xb.cell3))
  (go_wp2_with fail; refine (PB.out w5 hbt).mono ?_; rintro r w6 ⟨rfl, hb6⟩; (have xa := xa.later hb6; have xb := xb.later hb6); have hbt := below_on hbt hb6; (clear k0 k1 k2 kf0 kf1 kf2 j0 j1 j2 jf0 jf1 jf2); (obtain ⟨k0, k1, k2, kf0, kf1, kf2⟩ := xa.cell3; obtain ⟨j0, j1, j2, jf0, jf1, jf2⟩ := xb.cell3))
  go_wp2_with fail
  (refine (CD.out w6 hbt).mono ?_; rintro r w7 hr; obtain ⟨A7, n7, c7, rfl, h7, hb7⟩ := ret_some hr; clear hr; have b7 := below_alloc hb7 (.cells #[.bool dn, .slice A7 n7 c7, .int .i64 de] 24); have h7 := h7.below (below_alloc (below_self w7) (.cells #[.bool dn, .slice A7 n7 c7, .int .i64 de] 24)); have x7 := box_new w7 #[.bool dn, .slice A7 n7 c7, .int .i64 de] 24; have hbt := below_on hbt b7; (have xa := xa.later b7; have xb := xb.later b7); (clear k0 k1 k2 kf0 kf1 kf2 j0 j1 j2 jf0 jf1 jf2))
  have z7 := hbt.size
  (obtain ⟨k0, k1, k2, kf0, kf1, kf2⟩ := xa.cell3; obtain ⟨j0, j1, j2, jf0, jf1, jf2⟩ := xb.cell3)
  go_wp2_with fail
  (refine (CU.out _ hbt).mono ?_; rintro r w8 hr; obtain ⟨A8, n8, c8, rfl, h8, hb8⟩ := ret_some hr; clear hr; have b8 := below_alloc hb8 (.cells #[.bool un, .slice A8 n8 c8, .int .i64 ue] 24); have h8 := h8.below (below_alloc (below_self w8) (.cells #[.bool un, .slice A8 n8 c8, .int .i64 ue] 24)); have x8 := box_new w8 #[.bool un, .slice A8 n8 c8, .int .i64 ue] 24; have hbt := below_on hbt b8; (have xa := xa.later b8; have xb := xb.later b8); (clear k0 k1 k2 kf0 kf1 kf2 j0 j1 j2 jf0 jf1 jf2))
  (have h7 := h7.below b8; have x7 := x7.later b8)
  (obtain ⟨k0, k1, k2, kf0, kf1, kf2⟩ := xa.cell3; obtain ⟨j0, j1, j2, jf0, jf1, jf2⟩ := xb.cell3)
  obtain ⟨d0, d1', d2', df0, df1, df2⟩ := x7.cell3
  obtain ⟨u0, u1, u2, uf0, uf1, uf2⟩ := x8.cell3
  go_wp2_with fail
  (refine (OD.out _ _ _ _ h7 hbt).mono ?_; rintro r w9 ⟨rfl, hb9⟩; (have xa := xa.later hb9; have xb := xb.later hb9); have hbt := below_on hbt hb9; (clear k0 k1 k2 kf0 kf1 kf2 j0 j1 j2 jf0 jf1 jf2); (obtain ⟨k0, k1, k2, kf0, kf1, kf2⟩ := xa.cell3; obtain ⟨j0, j1, j2, jf0, jf1, jf2⟩ := xb.cell3))
  (have h7 := h7.below hb9; have x7 := x7.later hb9)
  (have h8 := h8.below hb9; have x8 := x8.later hb9)
  clear d0 d1' d2' df0 df1 df2 u0 u1 u2 uf0 uf1 uf2
  obtain ⟨u0, u1, u2, uf0, uf1, uf2⟩ := x8.cell3
  go_wp2_with fail
  (refine (OU.out _ _ _ _ h8 hbt).mono ?_; rintro r w10 ⟨rfl, hb10⟩; (have xa := xa.later hb10; have xb := xb.later hb10); have hbt := below_on hbt hb10; (clear k0 k1 k2 kf0 kf1 kf2 j0 j1 j2 jf0 jf1 jf2); (obtain ⟨k0, k1, k2, kf0, kf1, kf2⟩ := xa.cell3; obtain ⟨j0, j1, j2, jf0, jf1, jf2⟩ := xb.cell3))
  (have h7 := h7.below hb10; have x7 := x7.later hb10)
  (have h8 := h8.below hb10; have x8 := x8.later hb10)
  clear u0 u1 u2 uf0 uf1 uf2
  have hg7 : w.heap.size < w7.heap.size := by
    have z := z7
    simp at z
    omega
  have hg8 : w7.heap.size < w8.heap.size := by have z := hb8.size; simp at z; omega
  have hz := hz.out
  have d9 : decide ((n' : Int) > 0) = false := by simp; omega
  have hbw := below_on b1 hbt
  cases p
  · go_wp2_with fail
    generalize hWW : w10 = wt at *
    clear hWW
    (refine (RD.out _ hbw).mono ?_; rintro r w11 hr; obtain ⟨A11, n11, c11, rfl, h11, hb11⟩ := ret_some hr; clear hr; (clear k0 k1 k2 kf0 kf1 kf2 j0 j1 j2 jf0 jf1 jf2); have xa := xa.later hb11; have x7 := x7.later hb11; have x8 := x8.later hb11; have hbw := below_on hbw hb11; obtain ⟨d0, d1', d2', df0, df1, df2⟩ := x7.cell3; obtain ⟨k0, k1, k2, kf0, kf1, kf2⟩ := (xa.put3_apart (show w.heap.size ≠ w7.heap.size by omega) rn A11 n11 c11 re).cell3; simp only [put3] at k0 k1 k2 kf0 kf1 kf2; go_wp2_with fail; have h11 := h11.put3 x7 rn A11 n11 c11 re; have xa := xa.put3_apart (show w.heap.size ≠ w7.heap.size by omega) rn A11 n11 c11 re; have x8 := x8.put3_apart (show w8.heap.size ≠ w7.heap.size by omega) rn A11 n11 c11 re; have x7 := x7.put3 rn A11 n11 c11 re; have hbw := below_put3 hbw (Nat.le_of_lt hg7) rn A11 n11 c11 re; clear d0 d1' d2' df0 df1 df2 k0 k1 k2 kf0 kf1 kf2; refine (RU.out _ hbw).mono ?_; rintro r w12 hr; obtain ⟨A12, n12, c12, rfl, h12, hb12⟩ := ret_some hr; clear hr; have h11 := h11.below hb12; have xa := xa.later hb12; have x7 := x7.later hb12; have x8 := x8.later hb12; have hbw := below_on hbw hb12; obtain ⟨u0, u1, u2, uf0, uf1, uf2⟩ := x8.cell3; obtain ⟨d0, d1', d2', df0, df1, df2⟩ := (x7.put3_apart (show w7.heap.size ≠ w8.heap.size by omega) tn A12 n12 c12 te).cell3; simp only [put3] at d0 d1' d2' df0 df1 df2; go_wp2_with fail; have h11 := h11.put3 x8 tn A12 n12 c12 te; have h12 := h12.put3 x8 tn A12 n12 c12 te; have xa := xa.put3_apart (show w.heap.size ≠ w8.heap.size by omega) tn A12 n12 c12 te; have x8 := x8.put3 tn A12 n12 c12 te; have hbw := below_put3 hbw (show w.heap.size ≤ w8.heap.size by omega) tn A12 n12 c12 te; clear d0 d1' d2' df0 df1 df2 u0 u1 u2 uf0 uf1 uf2 x7; refine (MD.out _ _ _ _ h11 hbw).mono ?_; rintro r w13 hr; obtain ⟨A13, n13, c13, rfl, h13, hb13⟩ := ret_some hr; clear hr h11; have b13 := below_alloc hb13 (.cells #[.bool xn, .slice A13 n13 c13, .int .i64 xe] 24); have h13 := h13.below (below_alloc (below_self w13) (.cells #[.bool xn, .slice A13 n13 c13, .int .i64 xe] 24)); have x13 := box_new w13 #[.bool xn, .slice A13 n13 c13, .int .i64 xe] 24; have h12 := h12.below b13; have xa := xa.later b13; have x8 := x8.later b13; have hbw := below_on hbw b13; obtain ⟨u0, u1, u2, uf0, uf1, uf2⟩ := x8.cell3; go_wp2_with fail; clear u0 u1 u2 uf0 uf1 uf2 x8; refine (MU.out _ _ _ _ h12 hbw).mono ?_; rintro r w14 hr; obtain ⟨A14, n14, c14, rfl, h14, hb14⟩ := ret_some hr; clear hr h12; have b14 := below_alloc hb14 (.cells #[.bool yn, .slice A14 n14 c14, .int .i64 ye] 24); have h14 := h14.below (below_alloc (below_self w14) (.cells #[.bool yn, .slice A14 n14 c14, .int .i64 ye] 24)); have x14 := box_new w14 #[.bool yn, .slice A14 n14 c14, .int .i64 ye] 24; have h13 := h13.below b14; have x13 := x13.later b14; have xa := xa.later b14; have hbw := below_on hbw b14; obtain ⟨u0, u1, u2, uf0, uf1, uf2⟩ := x13.cell3; obtain ⟨k0, k1, k2, kf0, kf1, kf2⟩ := xa.cell3; go_wp2_with fail; refine (QX.out _ _ _ _ h13 hbw).mono ?_; rintro r w15 ⟨rfl, hb15⟩; have h14 := h14.below hb15; have x14 := x14.later hb15; have xa := xa.later hb15; have hbw := below_on hbw hb15; clear u0 u1 u2 uf0 uf1 uf2 k0 k1 k2 kf0 kf1 kf2; obtain ⟨u0, u1, u2, uf0, uf1, uf2⟩ := x14.cell3; obtain ⟨k0, k1, k2, kf0, kf1, kf2⟩ := xa.cell3; go_wp2_with fail; refine (QY.out _ _ _ _ h14 hbw).mono ?_; rintro r w16 ⟨rfl, hb16⟩; have hbw := below_on hbw hb16; go_wp2_with fail; go_ret; exact ⟨by simp, hbw⟩)
  · go_wp2_with fail
    have xa := xa.set 0 (.bool false)
    have x7 := x7.apart (show w7.heap.size ≠ w.heap.size by omega) 0 (.bool false)
    have x8 := x8.apart (show w8.heap.size ≠ w.heap.size by omega) 0 (.bool false)
    have hbw := below_set hbw w.heap.size 0 (Nat.le_refl _) (.bool false)
    (refine (RD.out _ hbw).mono ?_; rintro r w11 hr; obtain ⟨A11, n11, c11, rfl, h11, hb11⟩ := ret_some hr; clear hr; (clear k0 k1 k2 kf0 kf1 kf2 j0 j1 j2 jf0 jf1 jf2); have xa := xa.later hb11; have x7 := x7.later hb11; have x8 := x8.later hb11; have hbw := below_on hbw hb11; obtain ⟨d0, d1', d2', df0, df1, df2⟩ := x7.cell3; obtain ⟨k0, k1, k2, kf0, kf1, kf2⟩ := (xa.put3_apart (show w.heap.size ≠ w7.heap.size by omega) rn A11 n11 c11 re).cell3; simp only [put3] at k0 k1 k2 kf0 kf1 kf2; go_wp2_with fail; have h11 := h11.put3 x7 rn A11 n11 c11 re; have xa := xa.put3_apart (show w.heap.size ≠ w7.heap.size by omega) rn A11 n11 c11 re; have x8 := x8.put3_apart (show w8.heap.size ≠ w7.heap.size by omega) rn A11 n11 c11 re; have x7 := x7.put3 rn A11 n11 c11 re; have hbw := below_put3 hbw (Nat.le_of_lt hg7) rn A11 n11 c11 re; clear d0 d1' d2' df0 df1 df2 k0 k1 k2 kf0 kf1 kf2; refine (RU.out _ hbw).mono ?_; rintro r w12 hr; obtain ⟨A12, n12, c12, rfl, h12, hb12⟩ := ret_some hr; clear hr; have h11 := h11.below hb12; have xa := xa.later hb12; have x7 := x7.later hb12; have x8 := x8.later hb12; have hbw := below_on hbw hb12; obtain ⟨u0, u1, u2, uf0, uf1, uf2⟩ := x8.cell3; obtain ⟨d0, d1', d2', df0, df1, df2⟩ := (x7.put3_apart (show w7.heap.size ≠ w8.heap.size by omega) tn A12 n12 c12 te).cell3; simp only [put3] at d0 d1' d2' df0 df1 df2; go_wp2_with fail; have h11 := h11.put3 x8 tn A12 n12 c12 te; have h12 := h12.put3 x8 tn A12 n12 c12 te; have xa := xa.put3_apart (show w.heap.size ≠ w8.heap.size by omega) tn A12 n12 c12 te; have x8 := x8.put3 tn A12 n12 c12 te; have hbw := below_put3 hbw (show w.heap.size ≤ w8.heap.size by omega) tn A12 n12 c12 te; clear d0 d1' d2' df0 df1 df2 u0 u1 u2 uf0 uf1 uf2 x7; refine (MD.out _ _ _ _ h11 hbw).mono ?_; rintro r w13 hr; obtain ⟨A13, n13, c13, rfl, h13, hb13⟩ := ret_some hr; clear hr h11; have b13 := below_alloc hb13 (.cells #[.bool xn, .slice A13 n13 c13, .int .i64 xe] 24); have h13 := h13.below (below_alloc (below_self w13) (.cells #[.bool xn, .slice A13 n13 c13, .int .i64 xe] 24)); have x13 := box_new w13 #[.bool xn, .slice A13 n13 c13, .int .i64 xe] 24; have h12 := h12.below b13; have xa := xa.later b13; have x8 := x8.later b13; have hbw := below_on hbw b13; obtain ⟨u0, u1, u2, uf0, uf1, uf2⟩ := x8.cell3; go_wp2_with fail; clear u0 u1 u2 uf0 uf1 uf2 x8; refine (MU.out _ _ _ _ h12 hbw).mono ?_; rintro r w14 hr; obtain ⟨A14, n14, c14, rfl, h14, hb14⟩ := ret_some hr; clear hr h12; have b14 := below_alloc hb14 (.cells #[.bool yn, .slice A14 n14 c14, .int .i64 ye] 24); have h14 := h14.below (below_alloc (below_self w14) (.cells #[.bool yn, .slice A14 n14 c14, .int .i64 ye] 24)); have x14 := box_new w14 #[.bool yn, .slice A14 n14 c14, .int .i64 ye] 24; have h13 := h13.below b14; have x13 := x13.later b14; have xa := xa.later b14; have hbw := below_on hbw b14; obtain ⟨u0, u1, u2, uf0, uf1, uf2⟩ := x13.cell3; obtain ⟨k0, k1, k2, kf0, kf1, kf2⟩ := xa.cell3; go_wp2_with fail; refine (QX.out _ _ _ _ h13 hbw).mono ?_; rintro r w15 ⟨rfl, hb15⟩; have h14 := h14.below hb15; have x14 := x14.later hb15; have xa := xa.later hb15; have hbw := below_on hbw hb15; clear u0 u1 u2 uf0 uf1 uf2 k0 k1 k2 kf0 kf1 kf2; obtain ⟨u0, u1, u2, uf0, uf1, uf2⟩ := x14.cell3; obtain ⟨k0, k1, k2, kf0, kf1, kf2⟩ := xa.cell3; go_wp2_with fail; refine (QY.out _ _ _ _ h14 hbw).mono ?_; rintro r w16 ⟨rfl, hb16⟩; have hbw := below_on hbw hb16; go_wp2_with fail; go_ret; exact ⟨by simp, hbw⟩)
end Go.Proofs.YtlmojkknlkfloaaDoor
