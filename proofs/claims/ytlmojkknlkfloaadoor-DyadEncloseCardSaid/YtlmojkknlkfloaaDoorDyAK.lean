/- The law DyadEnclose: a divisor above 0. -/
import Derived.Test.YtlmojkknlkfloaaDoorDyAJ
namespace Go.Proofs.YtlmojkknlkfloaaDoor
open Go.RowKit Num
set_option linter.unusedSimpArgs false
set_option linter.unusedVariables false
set_option maxRecDepth 100000

set_option maxHeartbeats 80000000 in
theorem dyadEnclose_DyAK (p q : Bool) (A A' : Option Addr) (n c n' c' : Nat) (xs ys : List Int) (e f P : Int) (w : World) (h : Arr w A n c xs) (h' : Arr w A' n' c' ys) (hT : Tz w) (hz : 0 < n') (hqf : Hid (q = false)) :
    Calls Tryd.prog 7 #[.agg #[.bool p, .slice A n c, .int .i64 e], .agg #[.bool q, .slice A' n' c', .int .i64 f], .int .i64 P] w fun r w' => r = .returned (.bool true) ∧ Below w.heap.size w w' := by
  have b1 : Below w.heap.size w ((w.alloc (.cells #[.bool p, .slice A n c, .int .i64 e] 24)).alloc (.cells #[.bool q, .slice A' n' c', .int .i64 f] 24)) := below_alloc (below_alloc (below_self w) _) _
  have xa := (box_new w #[.bool p, .slice A n c, .int .i64 e] 24).later (below_alloc (below_self _) (.cells #[.bool q, .slice A' n' c', .int .i64 f] 24))
  have xb := box_new (w.alloc (.cells #[.bool p, .slice A n c, .int .i64 e] 24)) #[.bool q, .slice A' n' c', .int .i64 f] 24
  rw [show (w.alloc (.cells #[.bool p, .slice A n c, .int .i64 e] 24)).heap.size = w.heap.size + 1 by simp] at xb
  have hwf := h.wf
  have hwf' := h'.wf
  have hxl := h.len
  have hyl := h'.len
  have HA := Lib.hid (fun w3 (hb : Below ((w.alloc (.cells #[.bool p, .slice A n c, .int .i64 e] 24)).alloc (.cells #[.bool q, .slice A' n' c', .int .i64 f] 24)).heap.size ((w.alloc (.cells #[.bool p, .slice A n c, .int .i64 e] 24)).alloc (.cells #[.bool q, .slice A' n' c', .int .i64 f] 24)) w3) => h.below (below_on b1 hb))
  have HB := Lib.hid (fun w3 (hb : Below ((w.alloc (.cells #[.bool p, .slice A n c, .int .i64 e] 24)).alloc (.cells #[.bool q, .slice A' n' c', .int .i64 f] 24)).heap.size ((w.alloc (.cells #[.bool p, .slice A n c, .int .i64 e] 24)).alloc (.cells #[.bool q, .slice A' n' c', .int .i64 f] 24)) w3) => h'.below (below_on b1 hb))
  have HTT := Lib.hid (fun w3 (hb : Below ((w.alloc (.cells #[.bool p, .slice A n c, .int .i64 e] 24)).alloc (.cells #[.bool q, .slice A' n' c', .int .i64 f] 24)).heap.size ((w.alloc (.cells #[.bool p, .slice A n c, .int .i64 e] 24)).alloc (.cells #[.bool q, .slice A' n' c', .int .i64 f] 24)) w3) => hT.below (below_on b1 hb))
  have AW := Lib.hid (awake02 _ (hT.below b1))
  have FW := fun w3 (hb : Below ((w.alloc (.cells #[.bool p, .slice A n c, .int .i64 e] 24)).alloc (.cells #[.bool q, .slice A' n' c', .int .i64 f] 24)).heap.size ((w.alloc (.cells #[.bool p, .slice A n c, .int .i64 e] 24)).alloc (.cells #[.bool q, .slice A' n' c', .int .i64 f] 24)) w3) => few_two p q A A' n c n' c' xs ys e f w3 (h.below (below_on b1 hb)) (h'.below (below_on b1 hb))
  have PA := fun w3 (hb : Below ((w.alloc (.cells #[.bool p, .slice A n c, .int .i64 e] 24)).alloc (.cells #[.bool q, .slice A' n' c', .int .i64 f] 24)).heap.size ((w.alloc (.cells #[.bool p, .slice A n c, .int .i64 e] 24)).alloc (.cells #[.bool q, .slice A' n' c', .int .i64 f] 24)) w3) => plain p A n c xs e w3 (h.below (below_on b1 hb))
  have PB := fun w3 (hb : Below ((w.alloc (.cells #[.bool p, .slice A n c, .int .i64 e] 24)).alloc (.cells #[.bool q, .slice A' n' c', .int .i64 f] 24)).heap.size ((w.alloc (.cells #[.bool p, .slice A n c, .int .i64 e] 24)).alloc (.cells #[.bool q, .slice A' n' c', .int .i64 f] 24)) w3) => plain q A' n' c' ys f w3 (h'.below (below_on b1 hb))
  (obtain ⟨k0, k1, k2, kf0, kf1, kf2⟩ := xa.cell3; obtain ⟨j0, j1, j2, jf0, jf1, jf2⟩ := xb.cell3)
  have HC := Lib.hid (fun w3 (hb : Below w.heap.size w w3) => h.below hb)
  have HC' := Lib.hid (fun w3 (hb : Below w.heap.size w w3) => h'.below hb)
  have HTC := Lib.hid (fun w3 (hb : Below w.heap.size w w3) => hT.below hb)
  clear h h' hT
  cases hf : fewD ⟨p, A, n, c, xs, e⟩ && fewD ⟨q, A', n', c', ys, f⟩
  · rw [hf] at FW
    have FW := Lib.hid FW
    clear hf PA PB
    (go_enter Tryd.func7, Tryd.ntmps7; go_wp2_with fail; refine AW.out.mono ?_; rintro r w3 ⟨rfl, hbt⟩; (have xa := xa.later hbt; have xb := xb.later hbt); (clear k0 k1 k2 kf0 kf1 kf2 j0 j1 j2 jf0 jf1 jf2); (obtain ⟨k0, k1, k2, kf0, kf1, kf2⟩ := xa.cell3; obtain ⟨j0, j1, j2, jf0, jf1, jf2⟩ := xb.cell3); go_wp2_with fail; refine (FW.out w3 hbt).mono ?_; rintro r w4 ⟨rfl, hb4⟩; (have xa := xa.later hb4; have xb := xb.later hb4); have hbt := below_on hbt hb4; (clear k0 k1 k2 kf0 kf1 kf2 j0 j1 j2 jf0 jf1 jf2); (obtain ⟨k0, k1, k2, kf0, kf1, kf2⟩ := xa.cell3; obtain ⟨j0, j1, j2, jf0, jf1, jf2⟩ := xb.cell3))
    (go_wp2_with fail; go_ret; exact ⟨by simp, below_on b1 hbt⟩)
  rw [hf] at FW
  have FW := Lib.hid FW
  rw [Bool.and_eq_true] at hf
  obtain ⟨hn, he1, he0⟩ := fewD_parts hf.1
  obtain ⟨hn', hf1, hf0⟩ := fewD_parts hf.2
  simp only at hn he1 he0 hn' hf1 hf0
  clear hf
  cases hp : plainB p xs e
  · rw [hp] at PA
    have PA := Lib.hid PA
    clear hp PB
    (go_enter Tryd.func7, Tryd.ntmps7; go_wp2_with fail; refine AW.out.mono ?_; rintro r w3 ⟨rfl, hbt⟩; (have xa := xa.later hbt; have xb := xb.later hbt); (clear k0 k1 k2 kf0 kf1 kf2 j0 j1 j2 jf0 jf1 jf2); (obtain ⟨k0, k1, k2, kf0, kf1, kf2⟩ := xa.cell3; obtain ⟨j0, j1, j2, jf0, jf1, jf2⟩ := xb.cell3); go_wp2_with fail; refine (FW.out w3 hbt).mono ?_; rintro r w4 ⟨rfl, hb4⟩; (have xa := xa.later hb4; have xb := xb.later hb4); have hbt := below_on hbt hb4; (clear k0 k1 k2 kf0 kf1 kf2 j0 j1 j2 jf0 jf1 jf2); (obtain ⟨k0, k1, k2, kf0, kf1, kf2⟩ := xa.cell3; obtain ⟨j0, j1, j2, jf0, jf1, jf2⟩ := xb.cell3))
    (go_wp2_with fail; refine (PA.out w4 hbt).mono ?_; rintro r w5 ⟨rfl, hb5⟩; (have xa := xa.later hb5; have xb := xb.later hb5); have hbt := below_on hbt hb5; (clear k0 k1 k2 kf0 kf1 kf2 j0 j1 j2 jf0 jf1 jf2); (obtain ⟨k0, k1, k2, kf0, kf1, kf2⟩ := xa.cell3; obtain ⟨j0, j1, j2, jf0, jf1, jf2⟩ := xb.cell3))
    (go_wp2_with fail; go_ret; exact ⟨by simp, below_on b1 hbt⟩)
  rw [hp] at PA
  have PA := Lib.hid PA
  cases hq : plainB q ys f
  · rw [hq] at PB
    have PB := Lib.hid PB
    clear hp hq
    (go_enter Tryd.func7, Tryd.ntmps7; go_wp2_with fail; refine AW.out.mono ?_; rintro r w3 ⟨rfl, hbt⟩; (have xa := xa.later hbt; have xb := xb.later hbt); (clear k0 k1 k2 kf0 kf1 kf2 j0 j1 j2 jf0 jf1 jf2); (obtain ⟨k0, k1, k2, kf0, kf1, kf2⟩ := xa.cell3; obtain ⟨j0, j1, j2, jf0, jf1, jf2⟩ := xb.cell3); go_wp2_with fail; refine (FW.out w3 hbt).mono ?_; rintro r w4 ⟨rfl, hb4⟩; (have xa := xa.later hb4; have xb := xb.later hb4); have hbt := below_on hbt hb4; (clear k0 k1 k2 kf0 kf1 kf2 j0 j1 j2 jf0 jf1 jf2); (obtain ⟨k0, k1, k2, kf0, kf1, kf2⟩ := xa.cell3; obtain ⟨j0, j1, j2, jf0, jf1, jf2⟩ := xb.cell3))
    (go_wp2_with fail; refine (PA.out w4 hbt).mono ?_; rintro r w5 ⟨rfl, hb5⟩; (have xa := xa.later hb5; have xb := xb.later hb5); have hbt := below_on hbt hb5; (clear k0 k1 k2 kf0 kf1 kf2 j0 j1 j2 jf0 jf1 jf2); (obtain ⟨k0, k1, k2, kf0, kf1, kf2⟩ := xa.cell3; obtain ⟨j0, j1, j2, jf0, jf1, jf2⟩ := xb.cell3))
    (go_wp2_with fail; refine (PB.out w5 hbt).mono ?_; rintro r w6 ⟨rfl, hb6⟩; (have xa := xa.later hb6; have xb := xb.later hb6); have hbt := below_on hbt hb6; (clear k0 k1 k2 kf0 kf1 kf2 j0 j1 j2 jf0 jf1 jf2); (obtain ⟨k0, k1, k2, kf0, kf1, kf2⟩ := xa.cell3; obtain ⟨j0, j1, j2, jf0, jf1, jf2⟩ := xb.cell3))
    (go_wp2_with fail; go_ret; exact ⟨by simp, below_on b1 hbt⟩)
  rw [hq] at PB
  have PB := Lib.hid PB
  by_cases hP1 : P < 1
  · have d1 : decide (P < 1) = true := decide_eq_true hP1
    clear hp hq
    (go_enter Tryd.func7, Tryd.ntmps7; go_wp2_with fail; refine AW.out.mono ?_; rintro r w3 ⟨rfl, hbt⟩; (have xa := xa.later hbt; have xb := xb.later hbt); (clear k0 k1 k2 kf0 kf1 kf2 j0 j1 j2 jf0 jf1 jf2); (obtain ⟨k0, k1, k2, kf0, kf1, kf2⟩ := xa.cell3; obtain ⟨j0, j1, j2, jf0, jf1, jf2⟩ := xb.cell3); go_wp2_with fail; refine (FW.out w3 hbt).mono ?_; rintro r w4 ⟨rfl, hb4⟩; (have xa := xa.later hb4; have xb := xb.later hb4); have hbt := below_on hbt hb4; (clear k0 k1 k2 kf0 kf1 kf2 j0 j1 j2 jf0 jf1 jf2); (obtain ⟨k0, k1, k2, kf0, kf1, kf2⟩ := xa.cell3; obtain ⟨j0, j1, j2, jf0, jf1, jf2⟩ := xb.cell3))
    (go_wp2_with fail; refine (PA.out w4 hbt).mono ?_; rintro r w5 ⟨rfl, hb5⟩; (have xa := xa.later hb5; have xb := xb.later hb5); have hbt := below_on hbt hb5; (clear k0 k1 k2 kf0 kf1 kf2 j0 j1 j2 jf0 jf1 jf2); (obtain ⟨k0, k1, k2, kf0, kf1, kf2⟩ := xa.cell3; obtain ⟨j0, j1, j2, jf0, jf1, jf2⟩ := xb.cell3))
    (go_wp2_with fail; refine (PB.out w5 hbt).mono ?_; rintro r w6 ⟨rfl, hb6⟩; (have xa := xa.later hb6; have xb := xb.later hb6); have hbt := below_on hbt hb6; (clear k0 k1 k2 kf0 kf1 kf2 j0 j1 j2 jf0 jf1 jf2); (obtain ⟨k0, k1, k2, kf0, kf1, kf2⟩ := xa.cell3; obtain ⟨j0, j1, j2, jf0, jf1, jf2⟩ := xb.cell3))
    (go_wp2_with fail; go_ret; exact ⟨by simp, below_on b1 hbt⟩)
  have d1 : decide (P < 1) = false := decide_eq_false hP1
  by_cases hP6 : 600 < P
  · have d2 : decide (P > 600) = true := decide_eq_true hP6
    clear hp hq
    (go_enter Tryd.func7, Tryd.ntmps7; go_wp2_with fail; refine AW.out.mono ?_; rintro r w3 ⟨rfl, hbt⟩; (have xa := xa.later hbt; have xb := xb.later hbt); (clear k0 k1 k2 kf0 kf1 kf2 j0 j1 j2 jf0 jf1 jf2); (obtain ⟨k0, k1, k2, kf0, kf1, kf2⟩ := xa.cell3; obtain ⟨j0, j1, j2, jf0, jf1, jf2⟩ := xb.cell3); go_wp2_with fail; refine (FW.out w3 hbt).mono ?_; rintro r w4 ⟨rfl, hb4⟩; (have xa := xa.later hb4; have xb := xb.later hb4); have hbt := below_on hbt hb4; (clear k0 k1 k2 kf0 kf1 kf2 j0 j1 j2 jf0 jf1 jf2); (obtain ⟨k0, k1, k2, kf0, kf1, kf2⟩ := xa.cell3; obtain ⟨j0, j1, j2, jf0, jf1, jf2⟩ := xb.cell3))
    (go_wp2_with fail; refine (PA.out w4 hbt).mono ?_; rintro r w5 ⟨rfl, hb5⟩; (have xa := xa.later hb5; have xb := xb.later hb5); have hbt := below_on hbt hb5; (clear k0 k1 k2 kf0 kf1 kf2 j0 j1 j2 jf0 jf1 jf2); (obtain ⟨k0, k1, k2, kf0, kf1, kf2⟩ := xa.cell3; obtain ⟨j0, j1, j2, jf0, jf1, jf2⟩ := xb.cell3))
    (go_wp2_with fail; refine (PB.out w5 hbt).mono ?_; rintro r w6 ⟨rfl, hb6⟩; (have xa := xa.later hb6; have xb := xb.later hb6); have hbt := below_on hbt hb6; (clear k0 k1 k2 kf0 kf1 kf2 j0 j1 j2 jf0 jf1 jf2); (obtain ⟨k0, k1, k2, kf0, kf1, kf2⟩ := xa.cell3; obtain ⟨j0, j1, j2, jf0, jf1, jf2⟩ := xb.cell3))
    (go_wp2_with fail; go_ret; exact ⟨by simp, below_on b1 hbt⟩)
  have d2 : decide (P > 600) = false := decide_eq_false hP6
  have hR : rightB P = true := by unfold rightB; rw [decide_eq_true (by omega : 1 ≤ P), decide_eq_true (by omega : P ≤ 8192)]; rfl
  obtain ⟨⟨dn, dm, de⟩, ⟨un, um, ue⟩, cD, cU, lD, lU⟩ := cut_enc (P := P) hwf hp (by omega) he0 he1 (by omega) (by omega)
  have pD := mk_plain (cutN_size (neg := p) (up := false) (val_nonneg hwf) false (by omega : 1 ≤ P)).1 ((cutD_eq p (val xs) e false P false).symm.trans cD)
  have pU := mk_plain (cutN_size (neg := p) (up := true) (val_nonneg hwf) false (by omega : 1 ≤ P)).1 ((cutD_eq p (val xs) e false P true).symm.trans cU)
  simp only at pD pU
  have eD : cutO p xs e P false = some ⟨dn, dm, de⟩ := by unfold cutO; rw [hp, hR]; exact cD
  have eU : cutO p xs e P true = some ⟨un, um, ue⟩ := by unfold cutO; rw [hp, hR]; exact cU
  have CD := fun w3 (hb : Below ((w.alloc (.cells #[.bool p, .slice A n c, .int .i64 e] 24)).alloc (.cells #[.bool q, .slice A' n' c', .int .i64 f] 24)).heap.size ((w.alloc (.cells #[.bool p, .slice A n c, .int .i64 e] 24)).alloc (.cells #[.bool q, .slice A' n' c', .int .i64 f] 24)) w3) => dCut p A n c xs e P false w3 (HA.out w3 hb) (HTT.out w3 hb)
  have CU := fun w3 (hb : Below ((w.alloc (.cells #[.bool p, .slice A n c, .int .i64 e] 24)).alloc (.cells #[.bool q, .slice A' n' c', .int .i64 f] 24)).heap.size ((w.alloc (.cells #[.bool p, .slice A n c, .int .i64 e] 24)).alloc (.cells #[.bool q, .slice A' n' c', .int .i64 f] 24)) w3) => dCut p A n c xs e P true w3 (HA.out w3 hb) (HTT.out w3 hb)
  rw [eD] at CD
  rw [eU] at CU
  have OD := fun w3 A3 n3 c3 (h3 : Arr w3 A3 n3 c3 (wd dm)) (hb : Below ((w.alloc (.cells #[.bool p, .slice A n c, .int .i64 e] 24)).alloc (.cells #[.bool q, .slice A' n' c', .int .i64 f] 24)).heap.size ((w.alloc (.cells #[.bool p, .slice A n c, .int .i64 e] 24)).alloc (.cells #[.bool q, .slice A' n' c', .int .i64 f] 24)) w3) => dorder_true dn p A3 A n3 c3 n c (wd dm) xs de e w3 h3 (HA.out w3 hb) pD.1 hp (by rw [val_wd _ pD.2]; exact lD)
  have OU := fun w3 A3 n3 c3 (h3 : Arr w3 A3 n3 c3 (wd um)) (hb : Below ((w.alloc (.cells #[.bool p, .slice A n c, .int .i64 e] 24)).alloc (.cells #[.bool q, .slice A' n' c', .int .i64 f] 24)).heap.size ((w.alloc (.cells #[.bool p, .slice A n c, .int .i64 e] 24)).alloc (.cells #[.bool q, .slice A' n' c', .int .i64 f] 24)) w3) => dorder_true p un A A3 n c n3 c3 xs (wd um) e ue w3 (HA.out w3 hb) h3 hp pU.1 (by rw [val_wd _ pU.2]; exact lU)
  have hpp := plainB_pos hp
  obtain ⟨⟨rn, rm, re⟩, ⟨tn, tm, te⟩, ⟨xn, xm, xe⟩, ⟨yn, ym, ye⟩, cR, cT, pR, pT, mR, mT, cX, cY, lX, lY⟩ := root_enc (P := P) hwf hpp (by omega) he0 he1 (by omega) (by omega)
  simp only at pR pT mR mT cX cY
  have pX := mulD_plain (wf_wd _ mR) (wf_wd _ mR) cX
  have pY := mulD_plain (wf_wd _ mT) (wf_wd _ mT) cY
  simp only at pX pY
  have RD := fun w3 (hb : Below w.heap.size w w3) => dRoot false A n c xs e P false w3 (HC.out w3 hb) (HTC.out w3 hb)
  have RU := fun w3 (hb : Below w.heap.size w w3) => dRoot false A n c xs e P true w3 (HC.out w3 hb) (HTC.out w3 hb)
  rw [cR] at RD
  rw [cT] at RU
  have MD := fun w3 A3 n3 c3 (h3 : Arr w3 A3 n3 c3 (wd rm)) (hb : Below w.heap.size w w3) => dmul rn rn A3 A3 n3 c3 n3 c3 (wd rm) (wd rm) re re w3 h3 h3 (HTC.out w3 hb)
  have MU := fun w3 A3 n3 c3 (h3 : Arr w3 A3 n3 c3 (wd tm)) (hb : Below w.heap.size w w3) => dmul tn tn A3 A3 n3 c3 n3 c3 (wd tm) (wd tm) te te w3 h3 h3 (HTC.out w3 hb)
  simp only [cX] at MD
  simp only [cY] at MU
  have QX := fun w3 A3 n3 c3 (h3 : Arr w3 A3 n3 c3 (wd xm)) (hb : Below w.heap.size w w3) => dorder_true xn false A3 A n3 c3 n c (wd xm) xs xe e w3 h3 (HC.out w3 hb) pX.1 hpp (by rw [val_wd _ pX.2]; exact lX)
  have QY := fun w3 A3 n3 c3 (h3 : Arr w3 A3 n3 c3 (wd ym)) (hb : Below w.heap.size w w3) => dorder_true false yn A A3 n c n3 c3 xs (wd ym) e ye w3 (HC.out w3 hb) h3 hpp pY.1 (by rw [val_wd _ pY.2]; exact lY)
  have RD := Lib.hid RD
  have RU := Lib.hid RU
  have MD := Lib.hid MD
  have MU := Lib.hid MU
  have QX := Lib.hid QX
  have QY := Lib.hid QY
  clear cR cT pR pT mR mT cX cY lX lY pX pY
  have CD := Lib.hid CD
  have CU := Lib.hid CU
  have OD := Lib.hid OD
  have OU := Lib.hid OU
  clear cD cU lD lU pD pU eD eU
  (go_enter Tryd.func7, Tryd.ntmps7; go_wp2_with fail; refine AW.out.mono ?_; rintro r w3 ⟨rfl, hbt⟩; (have xa := xa.later hbt; have xb := xb.later hbt); (clear k0 k1 k2 kf0 kf1 kf2 j0 j1 j2 jf0 jf1 jf2); (obtain ⟨k0, k1, k2, kf0, kf1, kf2⟩ := xa.cell3; obtain ⟨j0, j1, j2, jf0, jf1, jf2⟩ := xb.cell3); go_wp2_with fail; refine (FW.out w3 hbt).mono ?_; rintro r w4 ⟨rfl, hb4⟩; (have xa := xa.later hb4; have xb := xb.later hb4); have hbt := below_on hbt hb4; (clear k0 k1 k2 kf0 kf1 kf2 j0 j1 j2 jf0 jf1 jf2); (obtain ⟨k0, k1, k2, kf0, kf1, kf2⟩ := xa.cell3; obtain ⟨j0, j1, j2, jf0, jf1, jf2⟩ := xb.cell3))
  (go_wp2_with fail; refine (PA.out w4 hbt).mono ?_; rintro r w5 ⟨rfl, hb5⟩; (have xa := xa.later hb5; have xb := xb.later hb5); have hbt := below_on hbt hb5; (clear k0 k1 k2 kf0 kf1 kf2 j0 j1 j2 jf0 jf1 jf2); (obtain ⟨k0, k1, k2, kf0, kf1, kf2⟩ := xa.cell3; obtain ⟨j0, j1, j2, jf0, jf1, jf2⟩ := xb.cell3))
  (go_wp2_with fail; refine (PB.out w5 hbt).mono ?_; rintro r w6 ⟨rfl, hb6⟩; (have xa := xa.later hb6; have xb := xb.later hb6); have hbt := below_on hbt hb6; (clear k0 k1 k2 kf0 kf1 kf2 j0 j1 j2 jf0 jf1 jf2); (obtain ⟨k0, k1, k2, kf0, kf1, kf2⟩ := xa.cell3; obtain ⟨j0, j1, j2, jf0, jf1, jf2⟩ := xb.cell3))
  go_wp2_with fail
  (refine (CD.out w6 hbt).mono ?_; rintro r w7 hr; obtain ⟨A7, n7, c7, rfl, h7, hb7⟩ := ret_some hr; clear hr; have b7 := below_alloc hb7 (.cells #[.bool dn, .slice A7 n7 c7, .int .i64 de] 24); have h7 := h7.below (below_alloc (below_self w7) (.cells #[.bool dn, .slice A7 n7 c7, .int .i64 de] 24)); have x7 := box_new w7 #[.bool dn, .slice A7 n7 c7, .int .i64 de] 24; have hbt := below_on hbt b7; (have xa := xa.later b7; have xb := xb.later b7); (clear k0 k1 k2 kf0 kf1 kf2 j0 j1 j2 jf0 jf1 jf2))
  have z7 := hbt.size
  (obtain ⟨k0, k1, k2, kf0, kf1, kf2⟩ := xa.cell3; obtain ⟨j0, j1, j2, jf0, jf1, jf2⟩ := xb.cell3)
  go_wp2_with fail
  (refine (CU.out _ hbt).mono ?_; rintro r w8 hr; obtain ⟨A8, n8, c8, rfl, h8, hb8⟩ := ret_some hr; clear hr; have b8 := below_alloc hb8 (.cells #[.bool un, .slice A8 n8 c8, .int .i64 ue] 24); have h8 := h8.below (below_alloc (below_self w8) (.cells #[.bool un, .slice A8 n8 c8, .int .i64 ue] 24)); have x8 := box_new w8 #[.bool un, .slice A8 n8 c8, .int .i64 ue] 24; have hbt := below_on hbt b8; (have xa := xa.later b8; have xb := xb.later b8); (clear k0 k1 k2 kf0 kf1 kf2 j0 j1 j2 jf0 jf1 jf2))
  (have h7 := h7.below b8; have x7 := x7.later b8)
  (obtain ⟨k0, k1, k2, kf0, kf1, kf2⟩ := xa.cell3; obtain ⟨j0, j1, j2, jf0, jf1, jf2⟩ := xb.cell3)
  obtain ⟨d0, d1', d2', df0, df1, df2⟩ := x7.cell3
  obtain ⟨u0, u1, u2, uf0, uf1, uf2⟩ := x8.cell3
  go_wp2_with fail
  (refine (OD.out _ _ _ _ h7 hbt).mono ?_; rintro r w9 ⟨rfl, hb9⟩; (have xa := xa.later hb9; have xb := xb.later hb9); have hbt := below_on hbt hb9; (clear k0 k1 k2 kf0 kf1 kf2 j0 j1 j2 jf0 jf1 jf2); (obtain ⟨k0, k1, k2, kf0, kf1, kf2⟩ := xa.cell3; obtain ⟨j0, j1, j2, jf0, jf1, jf2⟩ := xb.cell3))
  (have h7 := h7.below hb9; have x7 := x7.later hb9)
  (have h8 := h8.below hb9; have x8 := x8.later hb9)
  clear d0 d1' d2' df0 df1 df2 u0 u1 u2 uf0 uf1 uf2
  obtain ⟨u0, u1, u2, uf0, uf1, uf2⟩ := x8.cell3
  go_wp2_with fail
  (refine (OU.out _ _ _ _ h8 hbt).mono ?_; rintro r w10 ⟨rfl, hb10⟩; (have xa := xa.later hb10; have xb := xb.later hb10); have hbt := below_on hbt hb10; (clear k0 k1 k2 kf0 kf1 kf2 j0 j1 j2 jf0 jf1 jf2); (obtain ⟨k0, k1, k2, kf0, kf1, kf2⟩ := xa.cell3; obtain ⟨j0, j1, j2, jf0, jf1, jf2⟩ := xb.cell3))
  (have h7 := h7.below hb10; have x7 := x7.later hb10)
  (have h8 := h8.below hb10; have x8 := x8.later hb10)
  clear u0 u1 u2 uf0 uf1 uf2
  have hg7 : w.heap.size < w7.heap.size := by
    have z := z7
    simp at z
    omega
  have hg8 : w7.heap.size < w8.heap.size := by have z := hb8.size; simp at z; omega
  have d9 : decide ((n' : Int) > 0) = true := by simp; omega
  have hbw := below_on b1 hbt
  have hyl0 : ys.length ≠ 0 := by omega
  obtain ⟨⟨on, om, oe⟩, ⟨vn, vm, ve⟩, ⟨Xn, Xm, Xe⟩, ⟨Yn, Ym, Ye⟩, cO, cV, pO, pV, mO, mV, cX, cY, lX, lY⟩ := over_enc (P := P) hwf hwf' hp hq (by omega) (by omega) hyl0 he0 he1 hf0 hf1 (by omega) (by omega)
  simp only at pO pV mO mV cX cY
  have pX := mulD_plain (wf_wd _ mO) hwf' cX
  have pY := mulD_plain (wf_wd _ mV) hwf' cY
  simp only at pX pY
  have ya := xa
  have hqf := hqf.out
  subst hqf
  have xa := ya
  have OVD := fun w3 (hb : Below w.heap.size w w3) => dover p false A A' n c n' c' xs ys e f P false w3 (HC.out w3 hb) (HC'.out w3 hb) (HTC.out w3 hb)
  have OVU := fun w3 (hb : Below w.heap.size w w3) => dover p false A A' n c n' c' xs ys e f P true w3 (HC.out w3 hb) (HC'.out w3 hb) (HTC.out w3 hb)
  rw [cO] at OVD
  rw [cV] at OVU
  have M1 := fun w3 A3 n3 c3 (h3 : Arr w3 A3 n3 c3 (wd om)) (hb : Below w.heap.size w w3) => dmul on false A3 A' n3 c3 n' c' (wd om) ys oe f w3 h3 (HC'.out w3 hb) (HTC.out w3 hb)
  have M2 := fun w3 A3 n3 c3 (h3 : Arr w3 A3 n3 c3 (wd vm)) (hb : Below w.heap.size w w3) => dmul vn false A3 A' n3 c3 n' c' (wd vm) ys ve f w3 h3 (HC'.out w3 hb) (HTC.out w3 hb)
  simp only [cX] at M1
  simp only [cY] at M2
  simp only [Bool.false_eq_true, if_false] at lX lY
  have O1 := fun w3 A3 n3 c3 (h3 : Arr w3 A3 n3 c3 (wd Xm)) (hb : Below w.heap.size w w3) => dorder_true Xn p A3 A n3 c3 n c (wd Xm) xs Xe e w3 h3 (HC.out w3 hb) pX.1 hp (by rw [val_wd _ pX.2]; exact lX)
  have O2 := fun w3 A3 n3 c3 (h3 : Arr w3 A3 n3 c3 (wd Ym)) (hb : Below w.heap.size w w3) => dorder_true p Yn A A3 n c n3 c3 xs (wd Ym) e Ye w3 (HC.out w3 hb) h3 hp pY.1 (by rw [val_wd _ pY.2]; exact lY)
  have OVD := Lib.hid OVD
  have OVU := Lib.hid OVU
  have M1 := Lib.hid M1
  have M2 := Lib.hid M2
  have O1 := Lib.hid O1
  have O2 := Lib.hid O2
  clear cO cV cX cY lX lY pX pY pO pV mO mV
  go_wp2_with fail
  refine (OVD.out _ hbw).mono ?_; rintro r w21 hr; obtain ⟨A21, n21, c21, rfl, h21, hb21⟩ := ret_some hr; clear hr
  have l21a := (xa.later hb21).lt
  have l217 := (x7.later hb21).lt
  have l218 := (x8.later hb21).lt
  have b21 := below_alloc hb21 (.cells #[.bool on, .slice A21 n21 c21, .int .i64 oe] 24)
  have h21 := h21.below (below_alloc (below_self w21) (.cells #[.bool on, .slice A21 n21 c21, .int .i64 oe] 24))
  have x21 := box_new w21 #[.bool on, .slice A21 n21 c21, .int .i64 oe] 24
  have hbw := below_on hbw b21
  (have xa := xa.later b21; have xb := xb.later b21)
  (clear k0 k1 k2 kf0 kf1 kf2 j0 j1 j2 jf0 jf1 jf2)
  (obtain ⟨k0, k1, k2, kf0, kf1, kf2⟩ := xa.cell3; obtain ⟨j0, j1, j2, jf0, jf1, jf2⟩ := xb.cell3)
  have x7 := x7.later b21
  have x8 := x8.later b21
  go_wp2_with fail
  refine (OVU.out _ hbw).mono ?_; rintro r w22 hr; obtain ⟨A22, n22, c22, rfl, h22, hb22⟩ := ret_some hr; clear hr
  have l22a := (xa.later hb22).lt
  have l227 := (x7.later hb22).lt
  have l228 := (x8.later hb22).lt
  have b22 := below_alloc hb22 (.cells #[.bool vn, .slice A22 n22 c22, .int .i64 ve] 24)
  have h22 := h22.below (below_alloc (below_self w22) (.cells #[.bool vn, .slice A22 n22 c22, .int .i64 ve] 24))
  have x22 := box_new w22 #[.bool vn, .slice A22 n22 c22, .int .i64 ve] 24
  have hbw := below_on hbw b22
  (have xa := xa.later b22; have xb := xb.later b22)
  (clear k0 k1 k2 kf0 kf1 kf2 j0 j1 j2 jf0 jf1 jf2)
  (obtain ⟨k0, k1, k2, kf0, kf1, kf2⟩ := xa.cell3; obtain ⟨j0, j1, j2, jf0, jf1, jf2⟩ := xb.cell3)
  have x7 := x7.later b22
  have x8 := x8.later b22
  have h21 := h21.below b22
  have x21 := x21.later b22
  obtain ⟨d0, d1', d2', df0, df1, df2⟩ := x21.cell3
  go_wp2_with fail
  clear d0 d1' d2' df0 df1 df2
  refine (M1.out _ _ _ _ h21 hbw).mono ?_; rintro r w23 hr; obtain ⟨A23, n23, c23, rfl, h23, hb23⟩ := ret_some hr; clear hr
  have l23a := (xa.later hb23).lt
  have l237 := (x7.later hb23).lt
  have l238 := (x8.later hb23).lt
  have b23 := below_alloc hb23 (.cells #[.bool Xn, .slice A23 n23 c23, .int .i64 Xe] 24)
  have h23 := h23.below (below_alloc (below_self w23) (.cells #[.bool Xn, .slice A23 n23 c23, .int .i64 Xe] 24))
  have x23 := box_new w23 #[.bool Xn, .slice A23 n23 c23, .int .i64 Xe] 24
  have hbw := below_on hbw b23
  (have xa := xa.later b23; have xb := xb.later b23)
  (clear k0 k1 k2 kf0 kf1 kf2 j0 j1 j2 jf0 jf1 jf2)
  (obtain ⟨k0, k1, k2, kf0, kf1, kf2⟩ := xa.cell3; obtain ⟨j0, j1, j2, jf0, jf1, jf2⟩ := xb.cell3)
  have x7 := x7.later b23
  have x8 := x8.later b23
  have h22 := h22.below b23
  have x22 := x22.later b23
  clear x21 h21
  obtain ⟨d0, d1', d2', df0, df1, df2⟩ := x22.cell3
  go_wp2_with fail
  clear d0 d1' d2' df0 df1 df2
  refine (M2.out _ _ _ _ h22 hbw).mono ?_; rintro r w24 hr; obtain ⟨A24, n24, c24, rfl, h24, hb24⟩ := ret_some hr; clear hr
  have l24a := (xa.later hb24).lt
  have l247 := (x7.later hb24).lt
  have l248 := (x8.later hb24).lt
  have b24 := below_alloc hb24 (.cells #[.bool Yn, .slice A24 n24 c24, .int .i64 Ye] 24)
  have h24 := h24.below (below_alloc (below_self w24) (.cells #[.bool Yn, .slice A24 n24 c24, .int .i64 Ye] 24))
  have x24 := box_new w24 #[.bool Yn, .slice A24 n24 c24, .int .i64 Ye] 24
  have hbw := below_on hbw b24
  (have xa := xa.later b24; have xb := xb.later b24)
  (clear k0 k1 k2 kf0 kf1 kf2 j0 j1 j2 jf0 jf1 jf2)
  (obtain ⟨k0, k1, k2, kf0, kf1, kf2⟩ := xa.cell3; obtain ⟨j0, j1, j2, jf0, jf1, jf2⟩ := xb.cell3)
  have x7 := x7.later b24
  have x8 := x8.later b24
  have h23 := h23.below b24
  have l43 := (x23.later hb24).lt
  have x23 := x23.later b24
  clear x22 h22
  obtain ⟨d0, d1', d2', df0, df1, df2⟩ := x23.cell3
  obtain ⟨u0, u1, u2, uf0, uf1, uf2⟩ := x24.cell3
  go_wp2_with fail
  clear d0 d1' d2' df0 df1 df2 u0 u1 u2 uf0 uf1 uf2
  refine (O1.out _ _ _ _ h23 hbw).mono ?_; rintro r w25 ⟨rfl, hb25⟩
  have hbw := below_on hbw hb25
  have h24 := h24.below hb25
  have x24 := x24.later hb25
  have x7 := x7.later hb25
  have x8 := x8.later hb25
  have xa := xa.later hb25
  (clear k0 k1 k2 kf0 kf1 kf2 j0 j1 j2 jf0 jf1 jf2)
  obtain ⟨k0, k1, k2, kf0, kf1, kf2⟩ := xa.cell3
  obtain ⟨u0, u1, u2, uf0, uf1, uf2⟩ := x24.cell3
  go_wp2_with fail
  refine (O2.out _ _ _ _ h24 hbw).mono ?_; rintro r w26 ⟨rfl, hb26⟩
  have hbw := below_on hbw hb26
  have x7 := x7.later hb26
  have x8 := x8.later hb26
  have xa := xa.later hb26
  clear u0 u1 u2 uf0 uf1 uf2 k0 k1 k2 kf0 kf1 kf2
  obtain ⟨k0, k1, k2, kf0, kf1, kf2⟩ := xa.cell3
  obtain ⟨j0, j1, j2, jf0, jf1, jf2⟩ := xa.cell3
  cases p
  · go_wp2_with fail
    (refine (RD.out _ hbw).mono ?_; rintro r w11 hr; obtain ⟨A11, n11, c11, rfl, h11, hb11⟩ := ret_some hr; clear hr; (clear k0 k1 k2 kf0 kf1 kf2 j0 j1 j2 jf0 jf1 jf2); have xa := xa.later hb11; have x7 := x7.later hb11; have x8 := x8.later hb11; have hbw := below_on hbw hb11; obtain ⟨d0, d1', d2', df0, df1, df2⟩ := x7.cell3; obtain ⟨k0, k1, k2, kf0, kf1, kf2⟩ := (xa.put3_apart (show w.heap.size ≠ w7.heap.size by omega) rn A11 n11 c11 re).cell3; simp only [put3] at k0 k1 k2 kf0 kf1 kf2; go_wp2_with fail; have h11 := h11.put3 x7 rn A11 n11 c11 re; have xa := xa.put3_apart (show w.heap.size ≠ w7.heap.size by omega) rn A11 n11 c11 re; have x8 := x8.put3_apart (show w8.heap.size ≠ w7.heap.size by omega) rn A11 n11 c11 re; have x7 := x7.put3 rn A11 n11 c11 re; have hbw := below_put3 hbw (Nat.le_of_lt hg7) rn A11 n11 c11 re; clear d0 d1' d2' df0 df1 df2 k0 k1 k2 kf0 kf1 kf2; refine (RU.out _ hbw).mono ?_; rintro r w12 hr; obtain ⟨A12, n12, c12, rfl, h12, hb12⟩ := ret_some hr; clear hr; have h11 := h11.below hb12; have xa := xa.later hb12; have x7 := x7.later hb12; have x8 := x8.later hb12; have hbw := below_on hbw hb12; obtain ⟨u0, u1, u2, uf0, uf1, uf2⟩ := x8.cell3; obtain ⟨d0, d1', d2', df0, df1, df2⟩ := (x7.put3_apart (show w7.heap.size ≠ w8.heap.size by omega) tn A12 n12 c12 te).cell3; simp only [put3] at d0 d1' d2' df0 df1 df2; go_wp2_with fail; have h11 := h11.put3 x8 tn A12 n12 c12 te; have h12 := h12.put3 x8 tn A12 n12 c12 te; have xa := xa.put3_apart (show w.heap.size ≠ w8.heap.size by omega) tn A12 n12 c12 te; have x8 := x8.put3 tn A12 n12 c12 te; have hbw := below_put3 hbw (show w.heap.size ≤ w8.heap.size by omega) tn A12 n12 c12 te; clear d0 d1' d2' df0 df1 df2 u0 u1 u2 uf0 uf1 uf2 x7; refine (MD.out _ _ _ _ h11 hbw).mono ?_; rintro r w13 hr; obtain ⟨A13, n13, c13, rfl, h13, hb13⟩ := ret_some hr; clear hr h11; have b13 := below_alloc hb13 (.cells #[.bool xn, .slice A13 n13 c13, .int .i64 xe] 24); have h13 := h13.below (below_alloc (below_self w13) (.cells #[.bool xn, .slice A13 n13 c13, .int .i64 xe] 24)); have x13 := box_new w13 #[.bool xn, .slice A13 n13 c13, .int .i64 xe] 24; have h12 := h12.below b13; have xa := xa.later b13; have x8 := x8.later b13; have hbw := below_on hbw b13; obtain ⟨u0, u1, u2, uf0, uf1, uf2⟩ := x8.cell3; go_wp2_with fail; clear u0 u1 u2 uf0 uf1 uf2 x8; refine (MU.out _ _ _ _ h12 hbw).mono ?_; rintro r w14 hr; obtain ⟨A14, n14, c14, rfl, h14, hb14⟩ := ret_some hr; clear hr h12; have b14 := below_alloc hb14 (.cells #[.bool yn, .slice A14 n14 c14, .int .i64 ye] 24); have h14 := h14.below (below_alloc (below_self w14) (.cells #[.bool yn, .slice A14 n14 c14, .int .i64 ye] 24)); have x14 := box_new w14 #[.bool yn, .slice A14 n14 c14, .int .i64 ye] 24; have h13 := h13.below b14; have x13 := x13.later b14; have xa := xa.later b14; have hbw := below_on hbw b14; obtain ⟨u0, u1, u2, uf0, uf1, uf2⟩ := x13.cell3; obtain ⟨k0, k1, k2, kf0, kf1, kf2⟩ := xa.cell3; go_wp2_with fail; refine (QX.out _ _ _ _ h13 hbw).mono ?_; rintro r w15 ⟨rfl, hb15⟩; have h14 := h14.below hb15; have x14 := x14.later hb15; have xa := xa.later hb15; have hbw := below_on hbw hb15; clear u0 u1 u2 uf0 uf1 uf2 k0 k1 k2 kf0 kf1 kf2; obtain ⟨u0, u1, u2, uf0, uf1, uf2⟩ := x14.cell3; obtain ⟨k0, k1, k2, kf0, kf1, kf2⟩ := xa.cell3; go_wp2_with fail; refine (QY.out _ _ _ _ h14 hbw).mono ?_; rintro r w16 ⟨rfl, hb16⟩; have hbw := below_on hbw hb16; go_wp2_with fail; go_ret; exact ⟨by simp, hbw⟩)
  · go_wp2_with fail
    have xa := xa.set 0 (.bool false)
    have x7 := x7.apart (show w7.heap.size ≠ w.heap.size by omega) 0 (.bool false)
    have x8 := x8.apart (show w8.heap.size ≠ w.heap.size by omega) 0 (.bool false)
    have hbw := below_set hbw w.heap.size 0 (Nat.le_refl _) (.bool false)
    (refine (RD.out _ hbw).mono ?_; rintro r w11 hr; obtain ⟨A11, n11, c11, rfl, h11, hb11⟩ := ret_some hr; clear hr; (clear k0 k1 k2 kf0 kf1 kf2 j0 j1 j2 jf0 jf1 jf2); have xa := xa.later hb11; have x7 := x7.later hb11; have x8 := x8.later hb11; have hbw := below_on hbw hb11; obtain ⟨d0, d1', d2', df0, df1, df2⟩ := x7.cell3; obtain ⟨k0, k1, k2, kf0, kf1, kf2⟩ := (xa.put3_apart (show w.heap.size ≠ w7.heap.size by omega) rn A11 n11 c11 re).cell3; simp only [put3] at k0 k1 k2 kf0 kf1 kf2; go_wp2_with fail; have h11 := h11.put3 x7 rn A11 n11 c11 re; have xa := xa.put3_apart (show w.heap.size ≠ w7.heap.size by omega) rn A11 n11 c11 re; have x8 := x8.put3_apart (show w8.heap.size ≠ w7.heap.size by omega) rn A11 n11 c11 re; have x7 := x7.put3 rn A11 n11 c11 re; have hbw := below_put3 hbw (Nat.le_of_lt hg7) rn A11 n11 c11 re; clear d0 d1' d2' df0 df1 df2 k0 k1 k2 kf0 kf1 kf2; refine (RU.out _ hbw).mono ?_; rintro r w12 hr; obtain ⟨A12, n12, c12, rfl, h12, hb12⟩ := ret_some hr; clear hr; have h11 := h11.below hb12; have xa := xa.later hb12; have x7 := x7.later hb12; have x8 := x8.later hb12; have hbw := below_on hbw hb12; obtain ⟨u0, u1, u2, uf0, uf1, uf2⟩ := x8.cell3; obtain ⟨d0, d1', d2', df0, df1, df2⟩ := (x7.put3_apart (show w7.heap.size ≠ w8.heap.size by omega) tn A12 n12 c12 te).cell3; simp only [put3] at d0 d1' d2' df0 df1 df2; go_wp2_with fail; have h11 := h11.put3 x8 tn A12 n12 c12 te; have h12 := h12.put3 x8 tn A12 n12 c12 te; have xa := xa.put3_apart (show w.heap.size ≠ w8.heap.size by omega) tn A12 n12 c12 te; have x8 := x8.put3 tn A12 n12 c12 te; have hbw := below_put3 hbw (show w.heap.size ≤ w8.heap.size by omega) tn A12 n12 c12 te; clear d0 d1' d2' df0 df1 df2 u0 u1 u2 uf0 uf1 uf2 x7; refine (MD.out _ _ _ _ h11 hbw).mono ?_; rintro r w13 hr; obtain ⟨A13, n13, c13, rfl, h13, hb13⟩ := ret_some hr; clear hr h11; have b13 := below_alloc hb13 (.cells #[.bool xn, .slice A13 n13 c13, .int .i64 xe] 24); have h13 := h13.below (below_alloc (below_self w13) (.cells #[.bool xn, .slice A13 n13 c13, .int .i64 xe] 24)); have x13 := box_new w13 #[.bool xn, .slice A13 n13 c13, .int .i64 xe] 24; have h12 := h12.below b13; have xa := xa.later b13; have x8 := x8.later b13; have hbw := below_on hbw b13; obtain ⟨u0, u1, u2, uf0, uf1, uf2⟩ := x8.cell3; go_wp2_with fail; clear u0 u1 u2 uf0 uf1 uf2 x8; refine (MU.out _ _ _ _ h12 hbw).mono ?_; rintro r w14 hr; obtain ⟨A14, n14, c14, rfl, h14, hb14⟩ := ret_some hr; clear hr h12; have b14 := below_alloc hb14 (.cells #[.bool yn, .slice A14 n14 c14, .int .i64 ye] 24); have h14 := h14.below (below_alloc (below_self w14) (.cells #[.bool yn, .slice A14 n14 c14, .int .i64 ye] 24)); have x14 := box_new w14 #[.bool yn, .slice A14 n14 c14, .int .i64 ye] 24; have h13 := h13.below b14; have x13 := x13.later b14; have xa := xa.later b14; have hbw := below_on hbw b14; obtain ⟨u0, u1, u2, uf0, uf1, uf2⟩ := x13.cell3; obtain ⟨k0, k1, k2, kf0, kf1, kf2⟩ := xa.cell3; go_wp2_with fail; refine (QX.out _ _ _ _ h13 hbw).mono ?_; rintro r w15 ⟨rfl, hb15⟩; have h14 := h14.below hb15; have x14 := x14.later hb15; have xa := xa.later hb15; have hbw := below_on hbw hb15; clear u0 u1 u2 uf0 uf1 uf2 k0 k1 k2 kf0 kf1 kf2; obtain ⟨u0, u1, u2, uf0, uf1, uf2⟩ := x14.cell3; obtain ⟨k0, k1, k2, kf0, kf1, kf2⟩ := xa.cell3; go_wp2_with fail; refine (QY.out _ _ _ _ h14 hbw).mono ?_; rintro r w16 ⟨rfl, hb16⟩; have hbw := below_on hbw hb16; go_wp2_with fail; go_ret; exact ⟨by simp, hbw⟩)
end Go.Proofs.YtlmojkknlkfloaaDoor
