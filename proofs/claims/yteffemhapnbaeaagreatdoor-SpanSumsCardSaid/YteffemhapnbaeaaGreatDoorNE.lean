/- A text of ours, with only what the claim's row needs (wip/tools/shake.py). -/
import Derived.Deep.RegionHeld3
import Derived.Test.YteffemhapnbaeaaGreatDoorMV
import Derived.Test.YteffemhapnbaeaaGreatDoorNB
import Derived.Test.YteffemhapnbaeaaGreatDoorND
import Derived.Test.YteffemhapnbaeaaGreatDoorSnJ
import Derived.Test.YteffemhapnbaeaaGreatDoorMX
namespace Go.Proofs.YteffemhapnbaeaaGreatDoor
open Go.RowKit Num
variable {tw : TypeId}
set_option linter.unusedSimpArgs false
set_option linter.unusedVariables false
set_option maxRecDepth 100000

set_option maxHeartbeats 4000000 in
theorem spmul2 (p q : Bool) (A A' : Option Addr) (n c n' c' : Nat) (xs ys : List Int) (e f P : Int) (a g : Nat) (bad : Bool) (d : Dy) (w : World) (h : Arr w A n c xs) (h' : Arr w A' n' c' ys) (hT : Tz w)
    (hk : Wk w g P bad tw) (ta : TypeId) (ha : Box w a #[.pointer (some ⟨g, 0, none⟩)] ta) (hd : mulD p q xs ys e f = some d) :
    Calls Tryz.prog 42 #[.agg #[.bool p, .slice A n c, .int .i64 e], .agg #[.bool q, .slice A' n' c', .int .i64 f], .pointer (some ⟨a, 0, none⟩)] w (RetA d w) := by
  have b1 := below_alloc (below_self w) (.cells #[.bool p, .slice A n c, .int .i64 e] 26)
  have b2 := below_alloc b1 (.cells #[.bool q, .slice A' n' c', .int .i64 f] 26)
  have b0 : Below w.heap.size w (((w.alloc (.cells #[.bool p, .slice A n c, .int .i64 e] 26)).alloc (.cells #[.bool q, .slice A' n' c', .int .i64 f] 26)).alloc (.cells #[.bool false, .slice none 0 0, .int .i64 0] 26)) := below_alloc b2 _
  have xa := (box_new w #[.bool p, .slice A n c, .int .i64 e] 26).later (below_alloc (below_alloc (below_self _) (.cells #[.bool q, .slice A' n' c', .int .i64 f] 26)) (.cells #[.bool false, .slice none 0 0, .int .i64 0] 26))
  have xb := (box_new (w.alloc (.cells #[.bool p, .slice A n c, .int .i64 e] 26)) #[.bool q, .slice A' n' c', .int .i64 f] 26).later (below_alloc (below_self _) (.cells #[.bool false, .slice none 0 0, .int .i64 0] 26))
  rw [show (w.alloc (.cells #[.bool p, .slice A n c, .int .i64 e] 26)).heap.size = w.heap.size + 1 by simp] at xb
  have xr := box_new ((w.alloc (.cells #[.bool p, .slice A n c, .int .i64 e] 26)).alloc (.cells #[.bool q, .slice A' n' c', .int .i64 f] 26)) #[.bool false, .slice none 0 0, .int .i64 0] 26
  rw [show ((w.alloc (.cells #[.bool p, .slice A n c, .int .i64 e] 26)).alloc (.cells #[.bool q, .slice A' n' c', .int .i64 f] 26)).heap.size = w.heap.size + 1 + 1 by simp] at xr
  have hk0 := hk.later b0
  have ha0 := ha.later b0
  have H := h.below b0
  have H' := h'.below b0
  have hT0 := hT.below b0
  generalize hW : (((w.alloc (.cells #[.bool p, .slice A n c, .int .i64 e] 26)).alloc (.cells #[.bool q, .slice A' n' c', .int .i64 f] 26)).alloc (.cells #[.bool false, .slice none 0 0, .int .i64 0] 26)) = W at *
  have KC : ∀ w', Below W.heap.size W w' → ((w'.cell? ⟨w.heap.size, 0, none⟩ = some (.bool p) ∧ w'.cell? ⟨w.heap.size, 1, none⟩ = some (.slice A n c) ∧ w'.cell? ⟨w.heap.size, 2, none⟩ = some (.int .i64 e)) ∧ (w'.cell? ⟨w.heap.size + 1, 0, none⟩ = some (.bool q) ∧ w'.cell? ⟨w.heap.size + 1, 1, none⟩ = some (.slice A' n' c') ∧ w'.cell? ⟨w.heap.size + 1, 2, none⟩ = some (.int .i64 f)) ∧ w'.cell? ⟨a, 0, none⟩ = some (.pointer (some ⟨g, 0, none⟩))) := fun w' hb => ⟨⟨(xa.later hb).cell 0, (xa.later hb).cell 1, (xa.later hb).cell 2⟩, ⟨(xb.later hb).cell 0, (xb.later hb).cell 1, (xb.later hb).cell 2⟩, (ha0.later hb).cell 0⟩
  have OV : ∀ w', Below W.heap.size W w' → Calls Tryz.prog 44 #[.agg #[.bool p, .slice A n c, .int .i64 e], .agg #[.bool q, .slice A' n' c', .int .i64 f]] w' fun r w'' => ∃ A5 n5 c5, r = .returned (.tuple #[.agg #[.bool d.neg, .slice A5 n5 c5, .int .i64 d.e], .bool true]) ∧ Arr w'' A5 n5 c5 (wd d.m) ∧ Below W.heap.size W w'' := by
    intro w' hb
    have D := dmul p q A A' n c n' c' xs ys e f w' (H.below hb) (H'.below hb) (hT0.below hb)
    rw [hd] at D
    refine D.mono ?_
    rintro r w'' hr
    obtain ⟨A5, n5, c5, e5, h5, hb5⟩ := hr
    exact ⟨A5, n5, c5, e5, h5, below_on hb hb5⟩
  have MU : ∀ A5 n5 c5 w', Below W.heap.size W w' → Calls Tryz.prog 43 #[.pointer (some ⟨g, 0, none⟩), .agg #[.bool d.neg, .slice A5 n5 c5, .int .i64 d.e], .bool true] w' fun r w'' => r = .returned (.agg #[.bool d.neg, .slice A5 n5 c5, .int .i64 d.e]) ∧ Below w'.heap.size w' w'' ∧ Below W.heap.size W w'' := by
    intro A5 n5 c5 w' hb
    refine (must_ok g d.neg A5 n5 c5 d.e w').mono ?_
    rintro r w'' ⟨rfl, h2⟩
    exact ⟨rfl, h2, below_on hb h2⟩
  have RA := fun w' A5 n5 c5 (h5 : Arr w' A5 n5 c5 (wd d.m)) (hb : Below W.heap.size W w') => retA_set (w := w) (d := d) h5 (xr.later hb) (below_on b0 hb) (show w.heap.size ≤ w.heap.size + 1 + 1 by omega)
  have XR := fun w' (hb : Below W.heap.size W w') => (xr.later hb).cell3
  have la := ha.lt
  have lg := hk.lt
  have KC2 : ∀ w', Below W.heap.size W w' → ∀ v0 v1 v2 W2, W2 = (((w'.setCell ⟨w.heap.size + 1 + 1, 0, none⟩ v0).setCell ⟨w.heap.size + 1 + 1, 1, none⟩ v1).setCell ⟨w.heap.size + 1 + 1, 2, none⟩ v2) → ((W2.cell? ⟨w.heap.size, 0, none⟩ = some (.bool p) ∧ W2.cell? ⟨w.heap.size, 1, none⟩ = some (.slice A n c) ∧ W2.cell? ⟨w.heap.size, 2, none⟩ = some (.int .i64 e)) ∧ (W2.cell? ⟨w.heap.size + 1, 0, none⟩ = some (.bool q) ∧ W2.cell? ⟨w.heap.size + 1, 1, none⟩ = some (.slice A' n' c') ∧ W2.cell? ⟨w.heap.size + 1, 2, none⟩ = some (.int .i64 f)) ∧ W2.cell? ⟨a, 0, none⟩ = some (.pointer (some ⟨g, 0, none⟩))) := by
    rintro w' hb v0 v1 v2 _ rfl
    have xa' := (((xa.later hb).apart (show w.heap.size ≠ w.heap.size + 1 + 1 by omega) 0 v0).apart (show w.heap.size ≠ w.heap.size + 1 + 1 by omega) 1 v1).apart (show w.heap.size ≠ w.heap.size + 1 + 1 by omega) 2 v2
    have xb' := (((xb.later hb).apart (show w.heap.size + 1 ≠ w.heap.size + 1 + 1 by omega) 0 v0).apart (show w.heap.size + 1 ≠ w.heap.size + 1 + 1 by omega) 1 v1).apart (show w.heap.size + 1 ≠ w.heap.size + 1 + 1 by omega) 2 v2
    have ya := (((ha0.later hb).apart (show a ≠ w.heap.size + 1 + 1 by omega) 0 v0).apart (show a ≠ w.heap.size + 1 + 1 by omega) 1 v1).apart (show a ≠ w.heap.size + 1 + 1 by omega) 2 v2
    exact ⟨⟨xa'.cell 0, xa'.cell 1, xa'.cell 2⟩, ⟨xb'.cell 0, xb'.cell 1, xb'.cell 2⟩, ya.cell 0⟩
  have KC2 := Lib.hid KC2
  obtain ⟨⟨k0, k1, k2⟩, ⟨j0, j1, j2⟩, z0⟩ := KC W (below_self W)
  obtain ⟨dn, dm, de⟩ := d
  have KC := Lib.hid KC
  have OV := Lib.hid OV
  have MU := Lib.hid MU
  have RA := Lib.hid RA
  have XR := Lib.hid XR
  have HW := Lib.hid hW
  clear hW h h' hT hk ha hd b1 b2 xa xb xr hk0 ha0 H H' hT0
  simp only at OV MU RA
  go_enter Tryz.func42, Tryz.ntmps42
  go_wp2_with fail
  rw [HW.out]
  go_region_held3 (fun w' => ((w'.cell? ⟨w.heap.size, 0, none⟩ = some (.bool p) ∧ w'.cell? ⟨w.heap.size, 1, none⟩ = some (.slice A n c) ∧ w'.cell? ⟨w.heap.size, 2, none⟩ = some (.int .i64 e)) ∧ (w'.cell? ⟨w.heap.size + 1, 0, none⟩ = some (.bool q) ∧ w'.cell? ⟨w.heap.size + 1, 1, none⟩ = some (.slice A' n' c') ∧ w'.cell? ⟨w.heap.size + 1, 2, none⟩ = some (.int .i64 f)) ∧ w'.cell? ⟨a, 0, none⟩ = some (.pointer (some ⟨g, 0, none⟩)))) (first | (refine KC.out _ ?_; (repeat (first | with_reducible assumption | with_reducible exact below_self _ | with_reducible refine below_drewN ?_ _ | with_reducible apply Below.drew | with_reducible refine below_alloc ?_ _)); done) | (refine KC2.out _ ?_ _ _ _ _ rfl; (repeat (first | with_reducible assumption | with_reducible exact below_self _ | with_reducible refine below_drewN ?_ _ | with_reducible apply Below.drew | with_reducible refine below_alloc ?_ _)); done) | go_keep) (first | (go_at_call 44; refine (OV.out _ ?_).mono ?_; (repeat (first | with_reducible assumption | with_reducible exact below_self _ | with_reducible refine below_drewN ?_ _ | with_reducible apply Below.drew | with_reducible refine below_alloc ?_ _)); rintro r w5 ⟨A5, n5, c5, rfl, h5, hb5⟩) | (go_at_call 43; refine (MU.out _ _ _ _ ?_).mono ?_; (repeat (first | with_reducible assumption | with_reducible exact below_self _ | with_reducible refine below_drewN ?_ _ | with_reducible apply Below.drew | with_reducible refine below_alloc ?_ _)); rintro r w6 ⟨rfl, hb56, hb6⟩; obtain ⟨u0, u1, u2, u3, u4, u5⟩ := XR.out _ hb6))
  go_wp2_with fail
  refine bodyPost_ret (v := .agg #[.bool dn, .slice A5 n5 c5, .int .i64 de]) ?_ rfl (RA.out _ _ _ _ (h5.below hb56) hb6)
  simp [results, Tryz.results42, go_sem, u0, u1, u2]
end Go.Proofs.YteffemhapnbaeaaGreatDoor
namespace Go.Proofs.YteffemhapnbaeaaGreatDoor
open Go.RowKit Num
variable {tw : TypeId}
set_option linter.unusedSimpArgs false
set_option linter.unusedVariables false
set_option maxRecDepth 100000

set_option maxHeartbeats 16000000 in
theorem spendsM (p q s t : Bool) (A A' B B' : Option Addr) (n c n' c' m k m' k' : Nat) (xs ys us vs : List Int) (e f i j P : Int) (a g : Nat) (bad : Bool) (D1 D2 D3 D4 : Dy) (w : World)
    (h : Arr w A n c xs) (h' : Arr w A' n' c' ys) (hB : Arr w B m k us) (hB' : Arr w B' m' k' vs) (hT : Tz w)
    (hk : Wk w g P bad tw) (ta : TypeId) (ha : Box w a #[.pointer (some ⟨g, 0, none⟩)] ta)
    (o1 : mulD p s xs us e i = some D1) (o2 : mulD p t xs vs e j = some D2) (o3 : mulD q s ys us f i = some D3) (o4 : mulD q t ys vs f j = some D4) :
    Calls Tryz.prog 41 #[.agg #[.bool p, .slice A n c, .int .i64 e, .bool q, .slice A' n' c', .int .i64 f], .agg #[.bool s, .slice B m k, .int .i64 i, .bool t, .slice B' m' k', .int .i64 j], .func (.func 42) #[] #[.pointer (some ⟨a, 0, none⟩)]] w (RetF D1 D2 D3 D4 w) := by
  have b1 := below_alloc (below_self w) (.cells #[.bool p, .slice A n c, .int .i64 e, .bool q, .slice A' n' c', .int .i64 f] 28)
  have b0 : Below w.heap.size w ((w.alloc (.cells #[.bool p, .slice A n c, .int .i64 e, .bool q, .slice A' n' c', .int .i64 f] 28)).alloc (.cells #[.bool s, .slice B m k, .int .i64 i, .bool t, .slice B' m' k', .int .i64 j] 28)) := below_alloc b1 _
  have xa := (box_new w #[.bool p, .slice A n c, .int .i64 e, .bool q, .slice A' n' c', .int .i64 f] 28).later (below_alloc (below_self _) (.cells #[.bool s, .slice B m k, .int .i64 i, .bool t, .slice B' m' k', .int .i64 j] 28))
  have xb := box_new (w.alloc (.cells #[.bool p, .slice A n c, .int .i64 e, .bool q, .slice A' n' c', .int .i64 f] 28)) #[.bool s, .slice B m k, .int .i64 i, .bool t, .slice B' m' k', .int .i64 j] 28
  rw [show (w.alloc (.cells #[.bool p, .slice A n c, .int .i64 e, .bool q, .slice A' n' c', .int .i64 f] 28)).heap.size = w.heap.size + 1 by simp] at xb
  generalize hW : ((w.alloc (.cells #[.bool p, .slice A n c, .int .i64 e, .bool q, .slice A' n' c', .int .i64 f] 28)).alloc (.cells #[.bool s, .slice B m k, .int .i64 i, .bool t, .slice B' m' k', .int .i64 j] 28)) = W at *
  have KC : ∀ w', Below W.heap.size W w' → ((w'.cell? ⟨w.heap.size, 0, none⟩ = some (.bool p) ∧ w'.cell? ⟨w.heap.size, 1, none⟩ = some (.slice A n c) ∧ w'.cell? ⟨w.heap.size, 2, none⟩ = some (.int .i64 e) ∧ w'.cell? ⟨w.heap.size, 3, none⟩ = some (.bool q) ∧ w'.cell? ⟨w.heap.size, 4, none⟩ = some (.slice A' n' c') ∧ w'.cell? ⟨w.heap.size, 5, none⟩ = some (.int .i64 f)) ∧ (w'.cell? ⟨w.heap.size + 1, 0, none⟩ = some (.bool s) ∧ w'.cell? ⟨w.heap.size + 1, 1, none⟩ = some (.slice B m k) ∧ w'.cell? ⟨w.heap.size + 1, 2, none⟩ = some (.int .i64 i) ∧ w'.cell? ⟨w.heap.size + 1, 3, none⟩ = some (.bool t) ∧ w'.cell? ⟨w.heap.size + 1, 4, none⟩ = some (.slice B' m' k') ∧ w'.cell? ⟨w.heap.size + 1, 5, none⟩ = some (.int .i64 j))) := fun w' hb => (by obtain ⟨z0, z1, z2, z3, z4, z5, -⟩ := (xa.later hb).cell6; obtain ⟨y0, y1, y2, y3, y4, y5, -⟩ := (xb.later hb).cell6; exact ⟨⟨z0, z1, z2, z3, z4, z5⟩, ⟨y0, y1, y2, y3, y4, y5⟩⟩)
  have OV : ∀ (p1 q1 : Bool) (A1 A2 : Option Addr) (n1 c1 n2 c2 : Nat) (x1 x2 : List Int) (e1 e2 : Int) (D : Dy), Arr w A1 n1 c1 x1 → Arr w A2 n2 c2 x2 → mulD p1 q1 x1 x2 e1 e2 = some D → (∀ w', Below W.heap.size W w' → Calls Tryz.prog 42 #[(.agg #[.bool p1, .slice A1 n1 c1, .int .i64 e1]), (.agg #[.bool q1, .slice A2 n2 c2, .int .i64 e2]), .pointer (some ⟨a, 0, none⟩)] w' fun r w'' => ∃ A5 n5 c5, r = .returned (.agg #[.bool (D).neg, .slice A5 n5 c5, .int .i64 (D).e]) ∧ Arr w'' A5 n5 c5 (wd (D).m) ∧ Below w'.heap.size w' w'' ∧ Below W.heap.size W w'') := by
    intro p1 q1 A1 A2 n1 c1 n2 c2 x1 x2 e1 e2 D ha1 ha2 ho w' hb
    refine (spmul2 p1 q1 A1 A2 n1 c1 n2 c2 x1 x2 e1 e2 P a g bad D w' ((ha1.below b0).below hb) ((ha2.below b0).below hb) ((hT.below b0).below hb) ((hk.later b0).later hb) ta ((ha.later b0).later hb) ho).mono ?_
    rintro r w'' ⟨A5, n5, c5, rfl, h5, hb5⟩
    exact ⟨A5, n5, c5, rfl, h5, hb5, below_on hb hb5⟩
  have C1 := Lib.hid (OV p s A B n c m k xs us e i D1 h hB o1)
  have C2 := Lib.hid (OV p t A B' n c m' k' xs vs e j D2 h hB' o2)
  have C3 := Lib.hid (OV q s A' B n' c' m k ys us f i D3 h' hB o3)
  have C4 := Lib.hid (OV q t A' B' n' c' m' k' ys vs f j D4 h' hB' o4)
  obtain ⟨⟨k0, k1, k2, k3, k4, k5⟩, ⟨j0, j1, j2, j3, j4, j5⟩⟩ := KC W (below_self W)
  have KC := Lib.hid KC
  have HW := Lib.hid hW
  clear OV hW h h' hB hB' hT hk ha o1 o2 o3 o4 b1 xa xb
  obtain ⟨s1, m1, f1⟩ := D1
  obtain ⟨s2, m2, f2⟩ := D2
  obtain ⟨s3, m3, f3⟩ := D3
  obtain ⟨s4, m4, f4⟩ := D4
  simp only at C1 C2 C3 C4
  go_enter Tryz.func41, Tryz.ntmps41
  go_wp2_with fail
  rw [HW.out]
  go_region_held3 (fun w' => ((w'.cell? ⟨w.heap.size, 0, none⟩ = some (.bool p) ∧ w'.cell? ⟨w.heap.size, 1, none⟩ = some (.slice A n c) ∧ w'.cell? ⟨w.heap.size, 2, none⟩ = some (.int .i64 e) ∧ w'.cell? ⟨w.heap.size, 3, none⟩ = some (.bool q) ∧ w'.cell? ⟨w.heap.size, 4, none⟩ = some (.slice A' n' c') ∧ w'.cell? ⟨w.heap.size, 5, none⟩ = some (.int .i64 f)) ∧ (w'.cell? ⟨w.heap.size + 1, 0, none⟩ = some (.bool s) ∧ w'.cell? ⟨w.heap.size + 1, 1, none⟩ = some (.slice B m k) ∧ w'.cell? ⟨w.heap.size + 1, 2, none⟩ = some (.int .i64 i) ∧ w'.cell? ⟨w.heap.size + 1, 3, none⟩ = some (.bool t) ∧ w'.cell? ⟨w.heap.size + 1, 4, none⟩ = some (.slice B' m' k') ∧ w'.cell? ⟨w.heap.size + 1, 5, none⟩ = some (.int .i64 j)))) (first | (refine KC.out _ ?_; (repeat (first | with_reducible assumption | with_reducible exact below_self _ | with_reducible refine below_drewN ?_ _ | with_reducible apply Below.drew | with_reducible refine below_alloc ?_ _)); done) | go_keep) (first | (go_at_call_of 42 (Value.agg #[Value.bool p, Value.slice A n c, Value.int IntKind.i64 e]); go_at_call_of 42 (Value.agg #[Value.bool s, Value.slice B m k, Value.int IntKind.i64 i]); refine (C1.out _ ?_).mono ?_; (repeat (first | with_reducible assumption | with_reducible exact below_self _ | with_reducible refine below_drewN ?_ _ | with_reducible apply Below.drew | with_reducible refine below_alloc ?_ _)); rintro r w1 ⟨A1, n1, c1, rfl, h1, hc1, hb1⟩; (try have h2 := Arr.below (Arr.below h2 ((by repeat (first | with_reducible assumption | with_reducible exact below_self _ | with_reducible refine below_drewN ?_ _ | with_reducible apply Below.drew | with_reducible refine below_alloc ?_ _)))) hc1); (try have h3 := Arr.below (Arr.below h3 ((by repeat (first | with_reducible assumption | with_reducible exact below_self _ | with_reducible refine below_drewN ?_ _ | with_reducible apply Below.drew | with_reducible refine below_alloc ?_ _)))) hc1); (try have h4 := Arr.below (Arr.below h4 ((by repeat (first | with_reducible assumption | with_reducible exact below_self _ | with_reducible refine below_drewN ?_ _ | with_reducible apply Below.drew | with_reducible refine below_alloc ?_ _)))) hc1)) | (go_at_call_of 42 (Value.agg #[Value.bool p, Value.slice A n c, Value.int IntKind.i64 e]); go_at_call_of 42 (Value.agg #[Value.bool t, Value.slice B' m' k', Value.int IntKind.i64 j]); refine (C2.out _ ?_).mono ?_; (repeat (first | with_reducible assumption | with_reducible exact below_self _ | with_reducible refine below_drewN ?_ _ | with_reducible apply Below.drew | with_reducible refine below_alloc ?_ _)); rintro r w2 ⟨A2, n2, c2, rfl, h2, hc2, hb2⟩; (try have h1 := Arr.below (Arr.below h1 ((by repeat (first | with_reducible assumption | with_reducible exact below_self _ | with_reducible refine below_drewN ?_ _ | with_reducible apply Below.drew | with_reducible refine below_alloc ?_ _)))) hc2); (try have h3 := Arr.below (Arr.below h3 ((by repeat (first | with_reducible assumption | with_reducible exact below_self _ | with_reducible refine below_drewN ?_ _ | with_reducible apply Below.drew | with_reducible refine below_alloc ?_ _)))) hc2); (try have h4 := Arr.below (Arr.below h4 ((by repeat (first | with_reducible assumption | with_reducible exact below_self _ | with_reducible refine below_drewN ?_ _ | with_reducible apply Below.drew | with_reducible refine below_alloc ?_ _)))) hc2)) | (go_at_call_of 42 (Value.agg #[Value.bool q, Value.slice A' n' c', Value.int IntKind.i64 f]); go_at_call_of 42 (Value.agg #[Value.bool s, Value.slice B m k, Value.int IntKind.i64 i]); refine (C3.out _ ?_).mono ?_; (repeat (first | with_reducible assumption | with_reducible exact below_self _ | with_reducible refine below_drewN ?_ _ | with_reducible apply Below.drew | with_reducible refine below_alloc ?_ _)); rintro r w3 ⟨A3, n3, c3, rfl, h3, hc3, hb3⟩; (try have h1 := Arr.below (Arr.below h1 ((by repeat (first | with_reducible assumption | with_reducible exact below_self _ | with_reducible refine below_drewN ?_ _ | with_reducible apply Below.drew | with_reducible refine below_alloc ?_ _)))) hc3); (try have h2 := Arr.below (Arr.below h2 ((by repeat (first | with_reducible assumption | with_reducible exact below_self _ | with_reducible refine below_drewN ?_ _ | with_reducible apply Below.drew | with_reducible refine below_alloc ?_ _)))) hc3); (try have h4 := Arr.below (Arr.below h4 ((by repeat (first | with_reducible assumption | with_reducible exact below_self _ | with_reducible refine below_drewN ?_ _ | with_reducible apply Below.drew | with_reducible refine below_alloc ?_ _)))) hc3)) | (go_at_call_of 42 (Value.agg #[Value.bool q, Value.slice A' n' c', Value.int IntKind.i64 f]); go_at_call_of 42 (Value.agg #[Value.bool t, Value.slice B' m' k', Value.int IntKind.i64 j]); refine (C4.out _ ?_).mono ?_; (repeat (first | with_reducible assumption | with_reducible exact below_self _ | with_reducible refine below_drewN ?_ _ | with_reducible apply Below.drew | with_reducible refine below_alloc ?_ _)); rintro r w4 ⟨A4, n4, c4, rfl, h4, hc4, hb4⟩; (try have h1 := Arr.below (Arr.below h1 ((by repeat (first | with_reducible assumption | with_reducible exact below_self _ | with_reducible refine below_drewN ?_ _ | with_reducible apply Below.drew | with_reducible refine below_alloc ?_ _)))) hc4); (try have h2 := Arr.below (Arr.below h2 ((by repeat (first | with_reducible assumption | with_reducible exact below_self _ | with_reducible refine below_drewN ?_ _ | with_reducible apply Below.drew | with_reducible refine below_alloc ?_ _)))) hc4); (try have h3 := Arr.below (Arr.below h3 ((by repeat (first | with_reducible assumption | with_reducible exact below_self _ | with_reducible refine below_drewN ?_ _ | with_reducible apply Below.drew | with_reducible refine below_alloc ?_ _)))) hc4)))
  all_goals
    go_wp2_with fail
    go_ret
    refine ⟨_, A1, n1, c1, A2, n2, c2, A3, n3, c3, A4, n4, c4, rfl, dvs_four _ _ _ _ (box_new _ _ _) ?_ ?_ ?_ ?_, ?_⟩
    · exact Arr.below h1 ((by repeat (first | with_reducible assumption | with_reducible exact below_self _ | with_reducible refine below_drewN ?_ _ | with_reducible apply Below.drew | with_reducible refine below_alloc ?_ _)))
    · exact Arr.below h2 ((by repeat (first | with_reducible assumption | with_reducible exact below_self _ | with_reducible refine below_drewN ?_ _ | with_reducible apply Below.drew | with_reducible refine below_alloc ?_ _)))
    · exact Arr.below h3 ((by repeat (first | with_reducible assumption | with_reducible exact below_self _ | with_reducible refine below_drewN ?_ _ | with_reducible apply Below.drew | with_reducible refine below_alloc ?_ _)))
    · exact Arr.below h4 ((by repeat (first | with_reducible assumption | with_reducible exact below_self _ | with_reducible refine below_drewN ?_ _ | with_reducible apply Below.drew | with_reducible refine below_alloc ?_ _)))
    · exact below_on b0 ((by repeat (first | with_reducible assumption | with_reducible exact below_self _ | with_reducible refine below_drewN ?_ _ | with_reducible apply Below.drew | with_reducible refine below_alloc ?_ _)))
end Go.Proofs.YteffemhapnbaeaaGreatDoor
namespace Go.Proofs.YteffemhapnbaeaaGreatDoor
open Go.RowKit Num
variable {tw : TypeId}
set_option linter.unusedSimpArgs false
set_option linter.unusedVariables false
set_option maxRecDepth 100000

def mulO (P : Int) (D1 D2 D3 D4 : Dy) : Option (Dy × Dy) := twoO false (cutY (bestY false D1 D2 D3 D4) P false) (cutY (bestY true D1 D2 D3 D4) P true)
set_option maxHeartbeats 16000000 in
theorem spmul (p q s t : Bool) (A A' B B' : Option Addr) (n c n' c' m k m' k' : Nat) (xs ys us vs : List Int) (e f i j P : Int) (g : Nat) (bad : Bool) (D1 D2 D3 D4 : Dy) (w : World)
    (h : Arr w A n c xs) (h' : Arr w A' n' c' ys) (hB : Arr w B m k us) (hB' : Arr w B' m' k' vs) (hT : Tz w) (hk : Wk w g P bad tw)
    (ho : takeB bad P [(⟨p, A, n, c, xs, e, q, A', n', c', ys, f⟩ : SVal), (⟨s, B, m, k, us, i, t, B', m', k', vs, j⟩ : SVal)] = false → mulD p s xs us e i = some D1 ∧ mulD p t xs vs e j = some D2 ∧ mulD q s ys us f i = some D3 ∧ mulD q t ys vs f j = some D4) :
    Calls Tryz.prog 16 #[.pointer (some ⟨g, 0, none⟩), .agg #[.bool p, .slice A n c, .int .i64 e, .bool q, .slice A' n' c', .int .i64 f], .agg #[.bool s, .slice B m k, .int .i64 i, .bool t, .slice B' m' k', .int .i64 j]] w
      (RetSp (if takeB bad P [(⟨p, A, n, c, xs, e, q, A', n', c', ys, f⟩ : SVal), (⟨s, B, m, k, us, i, t, B', m', k', vs, j⟩ : SVal)] = false then mulO P D1 D2 D3 D4 else none) g P tw w) := by
  have hg := hk.lt
  have b1 : Below w.heap.size w (w.alloc (.cells #[.pointer (some ⟨g, 0, none⟩)] 31)) := below_alloc (below_self w) _
  have b2 : Below w.heap.size w ((w.alloc (.cells #[.pointer (some ⟨g, 0, none⟩)] 31)).alloc (.cells #[.bool p, .slice A n c, .int .i64 e, .bool q, .slice A' n' c', .int .i64 f] 28)) := below_alloc b1 _
  have b3 : Below w.heap.size w (((w.alloc (.cells #[.pointer (some ⟨g, 0, none⟩)] 31)).alloc (.cells #[.bool p, .slice A n c, .int .i64 e, .bool q, .slice A' n' c', .int .i64 f] 28)).alloc (.cells #[.bool s, .slice B m k, .int .i64 i, .bool t, .slice B' m' k', .int .i64 j] 28)) := below_alloc b2 _
  have b4 : Below w.heap.size w ((((w.alloc (.cells #[.pointer (some ⟨g, 0, none⟩)] 31)).alloc (.cells #[.bool p, .slice A n c, .int .i64 e, .bool q, .slice A' n' c', .int .i64 f] 28)).alloc (.cells #[.bool s, .slice B m k, .int .i64 i, .bool t, .slice B' m' k', .int .i64 j] 28)).alloc (.cells #[.bool false, .slice none 0 0, .int .i64 0, .bool false, .slice none 0 0, .int .i64 0] 28)) := below_alloc b3 _
  have b5 : Below w.heap.size w (((((w.alloc (.cells #[.pointer (some ⟨g, 0, none⟩)] 31)).alloc (.cells #[.bool p, .slice A n c, .int .i64 e, .bool q, .slice A' n' c', .int .i64 f] 28)).alloc (.cells #[.bool s, .slice B m k, .int .i64 i, .bool t, .slice B' m' k', .int .i64 j] 28)).alloc (.cells #[.bool false, .slice none 0 0, .int .i64 0, .bool false, .slice none 0 0, .int .i64 0] 28)).alloc (.cells #[.bool p, .slice A n c, .int .i64 e, .bool q, .slice A' n' c', .int .i64 f, .bool s, .slice B m k, .int .i64 i, .bool t, .slice B' m' k', .int .i64 j] 28)) := below_alloc b4 _
  have s1 : (w.alloc (.cells #[.pointer (some ⟨g, 0, none⟩)] 31)).heap.size = w.heap.size + 1 := by simp
  have s2 : ((w.alloc (.cells #[.pointer (some ⟨g, 0, none⟩)] 31)).alloc (.cells #[.bool p, .slice A n c, .int .i64 e, .bool q, .slice A' n' c', .int .i64 f] 28)).heap.size = w.heap.size + 1 + 1 := by simp
  have s3 : (((w.alloc (.cells #[.pointer (some ⟨g, 0, none⟩)] 31)).alloc (.cells #[.bool p, .slice A n c, .int .i64 e, .bool q, .slice A' n' c', .int .i64 f] 28)).alloc (.cells #[.bool s, .slice B m k, .int .i64 i, .bool t, .slice B' m' k', .int .i64 j] 28)).heap.size = w.heap.size + 1 + 1 + 1 := by simp
  have s4 : ((((w.alloc (.cells #[.pointer (some ⟨g, 0, none⟩)] 31)).alloc (.cells #[.bool p, .slice A n c, .int .i64 e, .bool q, .slice A' n' c', .int .i64 f] 28)).alloc (.cells #[.bool s, .slice B m k, .int .i64 i, .bool t, .slice B' m' k', .int .i64 j] 28)).alloc (.cells #[.bool false, .slice none 0 0, .int .i64 0, .bool false, .slice none 0 0, .int .i64 0] 28)).heap.size = w.heap.size + 1 + 1 + 1 + 1 := by simp
  have xa := (box_new w #[.pointer (some ⟨g, 0, none⟩)] 31).later (below_alloc (below_alloc (below_alloc (below_alloc (below_self _) (.cells #[.bool p, .slice A n c, .int .i64 e, .bool q, .slice A' n' c', .int .i64 f] 28)) (.cells #[.bool s, .slice B m k, .int .i64 i, .bool t, .slice B' m' k', .int .i64 j] 28)) (.cells #[.bool false, .slice none 0 0, .int .i64 0, .bool false, .slice none 0 0, .int .i64 0] 28)) (.cells #[.bool p, .slice A n c, .int .i64 e, .bool q, .slice A' n' c', .int .i64 f, .bool s, .slice B m k, .int .i64 i, .bool t, .slice B' m' k', .int .i64 j] 28))
  have xsa := (box_new (w.alloc (.cells #[.pointer (some ⟨g, 0, none⟩)] 31)) #[.bool p, .slice A n c, .int .i64 e, .bool q, .slice A' n' c', .int .i64 f] 28).later (below_alloc (below_alloc (below_alloc (below_self _) (.cells #[.bool s, .slice B m k, .int .i64 i, .bool t, .slice B' m' k', .int .i64 j] 28)) (.cells #[.bool false, .slice none 0 0, .int .i64 0, .bool false, .slice none 0 0, .int .i64 0] 28)) (.cells #[.bool p, .slice A n c, .int .i64 e, .bool q, .slice A' n' c', .int .i64 f, .bool s, .slice B m k, .int .i64 i, .bool t, .slice B' m' k', .int .i64 j] 28))
  have xsb := (box_new ((w.alloc (.cells #[.pointer (some ⟨g, 0, none⟩)] 31)).alloc (.cells #[.bool p, .slice A n c, .int .i64 e, .bool q, .slice A' n' c', .int .i64 f] 28)) #[.bool s, .slice B m k, .int .i64 i, .bool t, .slice B' m' k', .int .i64 j] 28).later (below_alloc (below_alloc (below_self _) (.cells #[.bool false, .slice none 0 0, .int .i64 0, .bool false, .slice none 0 0, .int .i64 0] 28)) (.cells #[.bool p, .slice A n c, .int .i64 e, .bool q, .slice A' n' c', .int .i64 f, .bool s, .slice B m k, .int .i64 i, .bool t, .slice B' m' k', .int .i64 j] 28))
  have xr := (box_new (((w.alloc (.cells #[.pointer (some ⟨g, 0, none⟩)] 31)).alloc (.cells #[.bool p, .slice A n c, .int .i64 e, .bool q, .slice A' n' c', .int .i64 f] 28)).alloc (.cells #[.bool s, .slice B m k, .int .i64 i, .bool t, .slice B' m' k', .int .i64 j] 28)) #[.bool false, .slice none 0 0, .int .i64 0, .bool false, .slice none 0 0, .int .i64 0] 28).later (below_alloc (below_self _) (.cells #[.bool p, .slice A n c, .int .i64 e, .bool q, .slice A' n' c', .int .i64 f, .bool s, .slice B m k, .int .i64 i, .bool t, .slice B' m' k', .int .i64 j] 28))
  have xl := box_new ((((w.alloc (.cells #[.pointer (some ⟨g, 0, none⟩)] 31)).alloc (.cells #[.bool p, .slice A n c, .int .i64 e, .bool q, .slice A' n' c', .int .i64 f] 28)).alloc (.cells #[.bool s, .slice B m k, .int .i64 i, .bool t, .slice B' m' k', .int .i64 j] 28)).alloc (.cells #[.bool false, .slice none 0 0, .int .i64 0, .bool false, .slice none 0 0, .int .i64 0] 28)) #[.bool p, .slice A n c, .int .i64 e, .bool q, .slice A' n' c', .int .i64 f, .bool s, .slice B m k, .int .i64 i, .bool t, .slice B' m' k', .int .i64 j] 28
  rw [s1] at xsa
  rw [s2] at xsb
  rw [s3] at xr
  rw [s4] at xl
  have hk5 := hk.later b5
  have TK := sptake g (w.heap.size + 1 + 1 + 1 + 1) 2 P bad [(⟨p, A, n, c, xs, e, q, A', n', c', ys, f⟩ : SVal), (⟨s, B, m, k, us, i, t, B', m', k', vs, j⟩ : SVal)] rfl _ hk5 (svs_two (⟨p, A, n, c, xs, e, q, A', n', c', ys, f⟩ : SVal) (⟨s, B, m, k, us, i, t, B', m', k', vs, j⟩ : SVal) xl ⟨h.below b5, h'.below b5⟩ ⟨hB.below b5, hB'.below b5⟩) (by omega) (by decide)
  have m0 := (box_new w #[.pointer (some ⟨g, 0, none⟩)] 31).later (below_alloc (below_alloc (below_alloc (below_self _) (.cells #[.bool p, .slice A n c, .int .i64 e, .bool q, .slice A' n' c', .int .i64 f] 28)) (.cells #[.bool s, .slice B m k, .int .i64 i, .bool t, .slice B' m' k', .int .i64 j] 28)) (.cells #[.bool false, .slice none 0 0, .int .i64 0, .bool false, .slice none 0 0, .int .i64 0] 28)) |>.cell 0
  obtain ⟨k0, k1, k2, k3, k4, k5, -⟩ := (box_new (w.alloc (.cells #[.pointer (some ⟨g, 0, none⟩)] 31)) #[.bool p, .slice A n c, .int .i64 e, .bool q, .slice A' n' c', .int .i64 f] 28).later (below_alloc (below_alloc (below_self _) (.cells #[.bool s, .slice B m k, .int .i64 i, .bool t, .slice B' m' k', .int .i64 j] 28)) (.cells #[.bool false, .slice none 0 0, .int .i64 0, .bool false, .slice none 0 0, .int .i64 0] 28)) |>.cell6
  obtain ⟨j0, j1, j2, j3, j4, j5, -⟩ := (box_new ((w.alloc (.cells #[.pointer (some ⟨g, 0, none⟩)] 31)).alloc (.cells #[.bool p, .slice A n c, .int .i64 e, .bool q, .slice A' n' c', .int .i64 f] 28)) #[.bool s, .slice B m k, .int .i64 i, .bool t, .slice B' m' k', .int .i64 j] 28).later (below_alloc (below_self _) (.cells #[.bool false, .slice none 0 0, .int .i64 0, .bool false, .slice none 0 0, .int .i64 0] 28)) |>.cell6
  rw [s1] at k0 k1 k2 k3 k4 k5
  rw [s2] at j0 j1 j2 j3 j4 j5
  generalize takeB bad P [(⟨p, A, n, c, xs, e, q, A', n', c', ys, f⟩ : SVal), (⟨s, B, m, k, us, i, t, B', m', k', vs, j⟩ : SVal)] = tb at *
  have TK := Lib.hid TK
  have HO := Lib.hid ho
  clear ho s1 s2 s3 s4 b1 b2 b3 b4 xl
  cases tb
  · rw [if_pos rfl]
    obtain ⟨o1, o2, o3, o4⟩ := HO.out rfl
    obtain ⟨oo, hm⟩ : ∃ oo, oo = mulO P D1 D2 D3 D4 := ⟨_, rfl⟩
    rw [← hm]
    go_enter Tryz.func16, Tryz.ntmps16
    go_wp2_with fail
    refine TK.out.mono ?_
    rintro r w6 ⟨rfl, hk6, g6⟩
    have xa6 := xa.grown g6 (show w.heap.size ≠ g by omega)
    have xsa6 := xsa.grown g6 (show w.heap.size + 1 ≠ g by omega)
    have xsb6 := xsb.grown g6 (show w.heap.size + 1 + 1 ≠ g by omega)
    have xr6 := xr.grown g6 (show w.heap.size + 1 + 1 + 1 ≠ g by omega)
    have gw := grown_trans (grown_of b5 (some g)) g6
    have EN := Lib.hid (spendsM p q s t A A' B B' n c n' c' m k m' k' xs ys us vs e f i j P w.heap.size g false D1 D2 D3 D4 w6 (hk.arr h gw) (hk.arr h' gw) (hk.arr hB gw) (hk.arr hB' gw) (hk.tz hT gw) hk6 _ xa6 o1 o2 o3 o4)
    have hT6 := hk.tz hT gw
    clear k0 k1 k2 k3 k4 k5 j0 j1 j2 j3 j4 j5 m0 o1 o2 o3 o4 HO TK
    obtain ⟨k0, k1, k2, k3, k4, k5, -⟩ := xsa6.cell6
    obtain ⟨j0, j1, j2, j3, j4, j5, -⟩ := xsb6.cell6
    go_wp2_with fail
    refine EN.out.mono ?_
    rintro r w7 ⟨hh, A1, n1, c1, A2, n2, c2, A3, n3, c3, A4, n4, c4, rfl, hd, hb7⟩
    have xa7 := xa6.later hb7
    have hk7 := hk6.later hb7
    have xr7 := xr6.later hb7
    have gw7 := grown_on gw hb7
    have hT7 := hT6.below hb7
    have MN := fun w' (hb : Below w7.heap.size w7 w') => spmin_four w' (hd.later hb)
    have MX := fun w' (hb : Below w7.heap.size w7 w') => spmax_four w' (hd.later hb)
    unfold mulO at hm
    generalize bestY false D1 D2 D3 D4 = LL at *
    generalize bestY true D1 D2 D3 D4 = UU at *
    obtain ⟨ln, lm, le⟩ := LL
    obtain ⟨un, um, ue⟩ := UU
    have hm2 : oo = twoO false (cutO ln (wd lm) le P false) (cutO un (wd um) ue P true) := hm
    have OU := fun w' A n c A' n' c' (g1 : Arr w' A n c (wd lm)) (g2 : Arr w' A' n' c' (wd um)) (hb : Below w7.heap.size w7 w') => spout0 ln un A A' n c n' c' (wd lm) (wd um) le ue P g w' g1 g2 (hT7.below hb) (hk7.later hb)
    simp only [← hm2] at OU
    have RT : ∀ w' X n1 c1 Y n2 c2, Arr w' X n1 c1 (wd (oo.getD (Dy.zero, Dy.zero)).1.m) → Arr w' Y n2 c2 (wd (oo.getD (Dy.zero, Dy.zero)).2.m) → Wk w' g P oo.isNone tw → w7.grownBy w' (some g) → ∀ W1, w'.grownBy W1 (some (w.heap.size + 1 + 1 + 1)) → RetSp oo g P tw w (.returned (.agg #[.bool (oo.getD (Dy.zero, Dy.zero)).1.neg, .slice X n1 c1, .int .i64 (oo.getD (Dy.zero, Dy.zero)).1.e, .bool (oo.getD (Dy.zero, Dy.zero)).2.neg, .slice Y n2 c2, .int .i64 (oo.getD (Dy.zero, Dy.zero)).2.e])) W1 := by
      intro w' X n1 c1 Y n2 c2 g1 g2 hk' hG W1 gW1
      exact retSp_put g1 g2 (xr7.grown hG (show w.heap.size + 1 + 1 + 1 ≠ g by omega)) hk' (grown_trans gw7 hG) (show g ≠ w.heap.size + 1 + 1 + 1 by omega) (by omega) gW1
    have KC : ∀ w', w7.grownBy w' (some g) → w'.cell? ⟨w.heap.size, 0, none⟩ = some (.pointer (some ⟨g, 0, none⟩)) := fun w' hb => (xa7.grown hb (by omega)).cell 0
    have KX : ∀ w' W1, w7.grownBy w' (some g) → w'.grownBy W1 (some (w.heap.size + 1 + 1 + 1)) → W1.cell? ⟨w.heap.size, 0, none⟩ = some (.pointer (some ⟨g, 0, none⟩)) := fun w' W1 hb g1 => ((xa7.grown hb (by omega)).grown g1 (by omega)).cell 0
    have XR := Lib.hid (fun w' (hG : w7.grownBy w' (some g)) => xr7.grown hG (show w.heap.size + 1 + 1 + 1 ≠ g by omega))
    have KC := Lib.hid KC
    have KX := Lib.hid KX
    have RT := Lib.hid RT
    have MN := Lib.hid MN
    have MX := Lib.hid MX
    have OU := Lib.hid OU
    have hB7 : Below w7.heap.size w7 w7.drew := Below.drew (below_self _)
    clear k0 k1 k2 k3 k4 k5 j0 j1 j2 j3 j4 j5 hd xa xsa xsb xr xa6 xsa6 xsb6 xr6 xa7 xr7 hk6 g6 gw hk5 h h' hB hB' hT hb7 b5 hm hm2 EN
    go_wp2_with fail
    refine wp_region_noPanic ?_
    refine wp_region_held_drew (S := fun w' => w'.cell? ⟨w.heap.size, 0, none⟩ = some (.pointer (some ⟨g, 0, none⟩))) (by kernel_rfl) (KC.out _ (grown_of hB7 _)) (fun hHeld => ?_)
    (refine wpAnyH_take (i := 0) (oi := ⟨some 19, _, _, _, _, _⟩) (v := ?_) rfl (by kernel_rfl) (by kernel_rfl) (by kernel_rfl) (fun _ _ _ h => h) (Or.inl ⟨by rfl, ?_⟩) (by assumption) ?_; rotate_left; (focus (intro w hSw; (try dsimp only at hSw); go_simp; (try with_reducible rfl))); (try simp only [Act.put, List.setIfInBounds_toArray, List.set_cons_zero, List.set_cons_succ]))
    (refine wpAnyH_take (i := 1) (oi := ⟨some 20, _, _, _, _, _⟩) (v := ?_) rfl (by kernel_rfl) (by kernel_rfl) (by kernel_rfl) (fun _ _ _ h => h) (Or.inl ⟨by rfl, ?_⟩) (by assumption) ?_; rotate_left; (focus (intro w hSw; (try dsimp only at hSw); go_simp; (try with_reducible rfl))); (try simp only [Act.put, List.setIfInBounds_toArray, List.set_cons_zero, List.set_cons_succ]))
    (refine wpAnyH_take (i := 3) (oi := ⟨some 22, _, _, _, _, _⟩) (v := ?_) rfl (by kernel_rfl) (by kernel_rfl) (by kernel_rfl) (fun _ _ _ h => h) (Or.inl ⟨by rfl, ?_⟩) (by assumption) ?_; rotate_left; (focus (intro w hSw; (try dsimp only at hSw); go_simp; (try with_reducible rfl))); (try simp only [Act.put, List.setIfInBounds_toArray, List.set_cons_zero, List.set_cons_succ]))
    (refine wpAnyH_ready (rs := [2]) (by kernel_rfl) (by simp) ?_; refine AllReadyH.cons rfl (fun K hK => ?_) AllReadyH.nil)
    go_simp
    go_at_call 46
    refine (MN.out _ hB7).mono ?_
    rintro r w8 ⟨X1, x1, y1, rfl, a1, hb8⟩
    have hB8 := below_on hB7 hb8
    (refine hK.out _ _ (KC.out _ (grown_of hB8 _)) (fun hHeld2 => ?_); clear hHeld hK K; have hHeld := hHeld2; clear hHeld2; (try simp only [Act.put, List.setIfInBounds_toArray, List.set_cons_zero, List.set_cons_succ]))
    (refine wpAnyH_ready (rs := [4]) (by kernel_rfl) (by simp) ?_; refine AllReadyH.cons rfl (fun K hK => ?_) AllReadyH.nil)
    go_simp
    go_at_call 48
    refine (MX.out _ hB8).mono ?_
    rintro r w9 ⟨X2, x2, y2, rfl, a2, hb9⟩
    have hB9 := below_on hB8 hb9
    have a1 := a1.below hb9
    (refine hK.out _ _ (KC.out _ (grown_of hB9 _)) (fun hHeld2 => ?_); clear hHeld hK K; have hHeld := hHeld2; clear hHeld2; (try simp only [Act.put, List.setIfInBounds_toArray, List.set_cons_zero, List.set_cons_succ]))
    (refine wpAnyH_ready (rs := [5]) (by kernel_rfl) (by simp) ?_; refine AllReadyH.cons rfl (fun K hK => ?_) AllReadyH.nil)
    go_simp
    go_at_call 45
    refine (OU.out _ _ _ _ _ _ _ a1 a2 hB9).mono ?_
    rintro r w10 ⟨X3, x3, y3, X4, x4, y4, rfl, a3, a4, hk10, g10⟩
    have gd := grown_trans (grown_of hB9 (some g)) g10
    (refine hK.out _ _ (KC.out _ gd) (fun hHeld2 => ?_); clear hHeld hK K; have hHeld := hHeld2; clear hHeld2; (try simp only [Act.put, List.setIfInBounds_toArray, List.set_cons_zero, List.set_cons_succ]))
    (refine wpAnyH_ready (rs := [6]) (by kernel_rfl) (by simp) ?_; refine AllReadyH.cons rfl (fun K hK => ?_) AllReadyH.nil)
    refine wp_put6R rfl _ _ rfl rfl (w.heap.size + 1 + 1 + 1) _ X3 x3 y3 _ _ X4 x4 y4 _ (XR.out _ gd) rfl rfl (fun W1 z1 gW1 => ?_)
    (refine hK.out _ _ (KX.out _ _ gd gW1) (fun hHeld2 => ?_); clear hHeld hK K; have hHeld := hHeld2; clear hHeld2; (try simp only [Act.put, List.setIfInBounds_toArray, List.set_cons_zero, List.set_cons_succ]))
    refine wpAnyH_done (by kernel_rfl) ?_ _
    refine NoPanic.normal ?_
    obtain ⟨u0, u1, u2, u3, u4, u5, -⟩ := z1.cell6
    go_wp2_with fail
    refine bodyPost_ret (v := _) ?_ rfl (RT.out _ _ _ _ _ _ _ a3 a4 hk10 gd _ gW1)
    simp [results, Tryz.results16, go_sem, u0, u1, u2, u3, u4, u5]
  · rw [if_neg (fun hh => by simp at hh)]
    go_enter Tryz.func16, Tryz.ntmps16
    go_wp2_with fail
    refine TK.out.mono ?_
    rintro r w6 ⟨rfl, hk6, g6⟩
    have xr6 := xr.grown g6 (show w.heap.size + 1 + 1 + 1 ≠ g by omega)
    have gw := grown_trans (grown_of b5 (some g)) g6
    (go_wp2_with (refine wp_put6 rfl _ _ rfl rfl (w.heap.size + 1 + 1 + 1) false none 0 0 0 false none 0 0 0 xr6 rfl rfl (fun W1 y1 gW1 => ?_); have hk9 := (hk6).other gW1 (show g ≠ w.heap.size + 1 + 1 + 1 by omega); obtain ⟨u0, u1, u2, u3, u4, u5, -⟩ := y1.cell6); refine bodyPost_ret (v := .agg #[.bool false, .slice none 0 0, .int .i64 0, .bool false, .slice none 0 0, .int .i64 0]) ?_ rfl (retSp_none hk9 (grown_own gw gW1 (by omega))); simp [results, Tryz.results16, go_sem, u0, u1, u2, u3, u4, u5])
end Go.Proofs.YteffemhapnbaeaaGreatDoor
