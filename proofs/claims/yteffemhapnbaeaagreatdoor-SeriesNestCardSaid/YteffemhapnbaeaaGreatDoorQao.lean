/- Walks and laws that the claim's row needs. No conditions. -/
import Derived.Test.YteffemhapnbaeaaGreatDoorQan
import Derived.Test.YteffemhapnbaeaaGreatDoorQah
import Derived.Test.YteffemhapnbaeaaGreatDoorQaj
import Derived.Test.YteffemhapnbaeaaGreatDoorQad
import Derived.BigQuiet
import Derived.Test.YteffemhapnbaeaaGreatDoorQak
import Derived.Deep.RegionHeld3
import Derived.Test.YteffemhapnbaeaaGreatDoorQal
set_option maxHeartbeats 16000000
set_option linter.unusedSimpArgs false
set_option linter.unusedVariables false
namespace Go.Proofs.YteffemhapnbaeaaGreatDoor
open Go.RowKit Num
set_option maxRecDepth 100000
def Bao (p q s t : Bool) (xs ys us vs : List Int) (e f i j : Int) : Bool := Ma p s xs us e i && Ma q t ys vs f j
theorem Vs (p q s t : Bool) (A A' B B' : Option Addr) (n c n' c' m k m' k' : Nat) (xs ys us vs : List Int) (e f i j : Int) (w : World)
  (h : Arr w A n c xs) (h' : Arr w A' n' c' ys) (hB : Arr w B m k us) (hB' : Arr w B' m' k' vs) :
  Calls Tryz.prog 11 #[.agg #[.bool p, .slice A n c, .int .i64 e, .bool q, .slice A' n' c', .int .i64 f], .agg #[.bool s, .slice B m k, .int .i64 i, .bool t, .slice B' m' k', .int .i64 j]] w fun r w' => r = .returned (.bool (Bao p q s t xs ys us vs e f i j)) ∧ Below w.heap.size w w' := by
 have b1 := Ba (Bb w) (.cells #[.bool p, .slice A n c, .int .i64 e, .bool q, .slice A' n' c', .int .i64 f] 28)
 have b0 : Below w.heap.size w ((w.alloc (.cells #[.bool p, .slice A n c, .int .i64 e, .bool q, .slice A' n' c', .int .i64 f] 28)).alloc (.cells #[.bool s, .slice B m k, .int .i64 i, .bool t, .slice B' m' k', .int .i64 j] 28)) := Ba b1 _
 have xa := (Bg w #[.bool p, .slice A n c, .int .i64 e, .bool q, .slice A' n' c', .int .i64 f] 28).later (Ba (Bb _) (.cells #[.bool s, .slice B m k, .int .i64 i, .bool t, .slice B' m' k', .int .i64 j] 28))
 have xb := Bg (w.alloc (.cells #[.bool p, .slice A n c, .int .i64 e, .bool q, .slice A' n' c', .int .i64 f] 28)) #[.bool s, .slice B m k, .int .i64 i, .bool t, .slice B' m' k', .int .i64 j] 28
 rw [show (w.alloc (.cells #[.bool p, .slice A n c, .int .i64 e, .bool q, .slice A' n' c', .int .i64 f] 28)).heap.size = w.heap.size + 1 by simp] at xb
 have S1 := Bek p s A B n c m k xs us e i _ (h.below b0) (hB.below b0)
 have S2 := fun w' (hb : Below w.heap.size w w') => Bek q t A' B' n' c' m' k' ys vs f j w' (h'.below hb) (hB'.below hb)
 have hs : Bao p q s t xs ys us vs e f i j = (Ma p s xs us e i && Ma q t ys vs f j) := rfl
 rw [hs]
 generalize Ma p s xs us e i = z1 at *
 generalize Ma q t ys vs f j = z2 at *
 have S1 := Be S1
 have S2 := Be S2
 obtain ⟨k0, k1, k2, k3, k4, k5, -⟩ := xa.cell6
 obtain ⟨j0, j1, j2, j3, j4, j5, -⟩ := xb.cell6
 cases z1
 ·go_enter Tryz.func11, Tryz.ntmps11
  go_wp2_with fail
  refine S1.out.mono ?_
  rintro r w2 ⟨rfl, hb2⟩
  go_wp2_with fail
  go_ret
  exact ⟨rfl, Bc b0 hb2⟩
 ·go_enter Tryz.func11, Tryz.ntmps11
  go_wp2_with fail
  refine S1.out.mono ?_
  rintro r w2 ⟨rfl, hb2⟩
  have b2 := Bc b0 hb2
  have xa := xa.later hb2
  have xb := xb.later hb2
  clear k0 k1 k2 k3 k4 k5 j0 j1 j2 j3 j4 j5
  obtain ⟨k0, k1, k2, k3, k4, k5, -⟩ := xa.cell6
  obtain ⟨j0, j1, j2, j3, j4, j5, -⟩ := xb.cell6
  go_wp2_with fail
  refine (S2.out _ b2).mono ?_
  rintro r w3 ⟨rfl, hb3⟩
  go_wp2_with fail
  go_ret
  exact ⟨rfl, Bc b2 hb3⟩
theorem Mj (p q : Bool) (xs ys : List Int) (e f : Int) : Bao p q p q xs ys xs ys e f e f = true := by unfold Bao Ma; simp
theorem Wk.drew {w : World} {g : Nat} {P : Int} {bad : Bool} {t : TypeId} (h : Wk w g P bad t) : Wk w.drew g P bad t := ⟨h.heap⟩
theorem SVs.later {w w' : World} {h : Nat} {l : List SVal} (s : SVs w h l) (hb : Below w.heap.size w w') : SVs w' h l := by
 have hc : ∀ i, w'.cell? ⟨h, i, none⟩ = w.cell? ⟨h, i, none⟩ := fun i => hb.cell (p := ⟨h, i, none⟩) s.lt
 exact ⟨Nat.lt_of_lt_of_le s.lt hb.size, fun j hj => ⟨(s.ok j hj).1.below hb, (s.ok j hj).2.below hb⟩, fun j hj => (hc _).trans (s.c0 j hj), fun j hj => (hc _).trans (s.c1 j hj), fun j hj => (hc _).trans (s.c2 j hj), fun j hj => (hc _).trans (s.c3 j hj), fun j hj => (hc _).trans (s.c4 j hj), fun j hj => (hc _).trans (s.c5 j hj)⟩
theorem Tq {b1 T T' bi : Bool} (h : bi = (b1 || !T)) (ha : T' = (T && false)) : true = (b1 || !T') := by
 subst ha; cases b1 <;> cases T <;> rfl
theorem Rb {b1 T T' bi : Bool} (h : bi = (b1 || !T)) (ha : T' = (T && true)) : bi = (b1 || !T') := by
 subst ha; rw [h, Bool.and_true]
theorem Hk (g h m : Nat) (P : Int) (bad : Bool) (l : List SVal) (hm : l.length = m) (w : World) (hk : Wk w g P bad 38) (hs : SVs w h l) (hne : h ≠ g) (hl : m ≤ 1000000) (hn : ∀ s ∈ l, s.n ≤ 1000000 ∧ s.n' ≤ 1000000) :
  Calls Tryz.prog 36 #[.pointer (some ⟨g, 0, none⟩), .slice (some ⟨h, 0, none⟩) m m] w fun r w' => r = .returned (.bool (!Bx bad P l)) ∧ Wk w' g P (Bx bad P l) 38 ∧ w.grownBy w' (some g) := by
 subst hm
 obtain ⟨k0, k1, f0, f1⟩ := hk.cells
 have hg := hk.lt
 have HA : ∀ i (h : i < l.length), (l.take (i + 1)).all SVal.right = ((l.take i).all SVal.right && (l[i]).right) := fun i h => by
  rw [List.take_add_one, List.getElem?_eq_getElem h, List.all_append]
  simp
 have HA := Be HA
 have HZ : l.take l.length = l := List.take_length
 have HZ := Be HZ
 by_cases p1 : P < 1
 ·have d1 : decide (P < 1) = true := decide_eq_true p1
  have ht : Bx bad P l = (true || !(l.all SVal.right)) := by unfold Bx; rw [d1]; simp
  rw [ht]
  have hk1 := hk.set true
  have g1 := Br w g 1 (.bool true)
  clear ht
  go_enter Tryz.func36, Tryz.ntmps36
  go_wp2_with fail
  (go_loopw [5] (fun v wr => ∃ (i : Nat) (bi : Bool), i ≤ l.length ∧ v = .int .i64 i ∧ Hid (bi = (true || !((l.take i).all SVal.right))) ∧ Wk wr g P bi 38 ∧ w.grownBy wr (some g)) (fun v _ => l.length - (intOf v).toNat); (case atStart => exact ⟨0, true, Nat.zero_le _, rfl, by show true = _; simp, hk1, g1⟩); (case round => obtain ⟨i, bi, hi, rfl, hB, hkr, hW⟩ := hrel; have hkc := hkr; obtain ⟨k0, k1, f0, f1⟩ := hkc.cells; by_cases h0 : i < l.length; (have hsr := hs.grown hk hW hne; have q0 := hsr.c0 i h0; have q1 := hsr.c1 i h0; have q2 := hsr.c2 i h0; have q3 := hsr.c3 i h0; have q4 := hsr.c4 i h0; have q5 := hsr.c5 i h0; obtain ⟨hA, hA'⟩ := hsr.ok i h0; have ha := HA.out i h0; obtain ⟨z1, z2⟩ := hn (l[i]) (List.getElem_mem h0); generalize hx : l[i] = x at *; obtain ⟨p, A, n, c, xs, e, q, A', n', c', ys, f⟩ := x; simp only at q0 q1 q2 q3 q4 q5 hA hA' z1 z2; have hr : (SVal.mk p A n c xs e q A' n' c' ys f).right = Cb p q xs ys e f := rfl; rw [hr] at ha; have RT := Be (Lb p q A A' n c n' c' xs ys e f _ hA hA' z1 z2); generalize Cb p q xs ys e f = rr at *; have HA1 := Be ha; clear ha hr hx hsr; cases rr; (go_wp2_with fail; refine RT.out.mono ?_; rintro r w4 ⟨rfl, hb4⟩; have hk4 := hkr.later hb4; have g4 := Bp hW hb4; obtain ⟨z0, z1', y0, y1⟩ := hk4.cells; clear k0 k1 f0 f1; go_wp2_with fail; exact ⟨⟨i + 1, true, by omega, by go_num, (Tq hB.out HA1.out), hk4.set _, Bi g4 (Br _ g 1 _)⟩, by simp only [intOf]; omega⟩); (go_wp2_with fail; refine RT.out.mono ?_; rintro r w4 ⟨rfl, hb4⟩; have hk4 := hkr.later hb4; have g4 := Bp hW hb4; clear k0 k1 f0 f1; go_wp2_with fail; exact ⟨⟨i + 1, bi, by omega, by go_num, (Rb hB.out HA1.out), hk4, g4⟩, by simp only [intOf]; omega⟩)); (obtain rfl : i = l.length := (by omega); have e1 := hB.out; rw [HZ.out] at e1; have E1 := Be e1; clear e1; go_wp2_with fail; go_ret; rw [← E1.out]; exact ⟨rfl, hkr, hW⟩)))
 ·have d1 : decide (P < 1) = false := decide_eq_false p1
  by_cases p2 : 8192 < P
  ·have d2 : decide (P > 8192) = true := decide_eq_true p2
   have d3 : decide (8192 < P) = true := decide_eq_true p2
   have ht : Bx bad P l = (true || !(l.all SVal.right)) := by unfold Bx; rw [d3]; simp
   rw [ht]
   have hk1 := hk.set true
   have g1 := Br w g 1 (.bool true)
   clear ht
   go_enter Tryz.func36, Tryz.ntmps36
   go_wp2_with fail
   (go_loopw [5] (fun v wr => ∃ (i : Nat) (bi : Bool), i ≤ l.length ∧ v = .int .i64 i ∧ Hid (bi = (true || !((l.take i).all SVal.right))) ∧ Wk wr g P bi 38 ∧ w.grownBy wr (some g)) (fun v _ => l.length - (intOf v).toNat); (case atStart => exact ⟨0, true, Nat.zero_le _, rfl, by show true = _; simp, hk1, g1⟩); (case round => obtain ⟨i, bi, hi, rfl, hB, hkr, hW⟩ := hrel; have hkc := hkr; obtain ⟨k0, k1, f0, f1⟩ := hkc.cells; by_cases h0 : i < l.length; (have hsr := hs.grown hk hW hne; have q0 := hsr.c0 i h0; have q1 := hsr.c1 i h0; have q2 := hsr.c2 i h0; have q3 := hsr.c3 i h0; have q4 := hsr.c4 i h0; have q5 := hsr.c5 i h0; obtain ⟨hA, hA'⟩ := hsr.ok i h0; have ha := HA.out i h0; obtain ⟨z1, z2⟩ := hn (l[i]) (List.getElem_mem h0); generalize hx : l[i] = x at *; obtain ⟨p, A, n, c, xs, e, q, A', n', c', ys, f⟩ := x; simp only at q0 q1 q2 q3 q4 q5 hA hA' z1 z2; have hr : (SVal.mk p A n c xs e q A' n' c' ys f).right = Cb p q xs ys e f := rfl; rw [hr] at ha; have RT := Be (Lb p q A A' n c n' c' xs ys e f _ hA hA' z1 z2); generalize Cb p q xs ys e f = rr at *; have HA1 := Be ha; clear ha hr hx hsr; cases rr; (go_wp2_with fail; refine RT.out.mono ?_; rintro r w4 ⟨rfl, hb4⟩; have hk4 := hkr.later hb4; have g4 := Bp hW hb4; obtain ⟨z0, z1', y0, y1⟩ := hk4.cells; clear k0 k1 f0 f1; go_wp2_with fail; exact ⟨⟨i + 1, true, by omega, by go_num, (Tq hB.out HA1.out), hk4.set _, Bi g4 (Br _ g 1 _)⟩, by simp only [intOf]; omega⟩); (go_wp2_with fail; refine RT.out.mono ?_; rintro r w4 ⟨rfl, hb4⟩; have hk4 := hkr.later hb4; have g4 := Bp hW hb4; clear k0 k1 f0 f1; go_wp2_with fail; exact ⟨⟨i + 1, bi, by omega, by go_num, (Rb hB.out HA1.out), hk4, g4⟩, by simp only [intOf]; omega⟩)); (obtain rfl : i = l.length := (by omega); have e1 := hB.out; rw [HZ.out] at e1; have E1 := Be e1; clear e1; go_wp2_with fail; go_ret; rw [← E1.out]; exact ⟨rfl, hkr, hW⟩)))
  ·have d2 : decide (P > 8192) = false := decide_eq_false p2
   have d3 : decide (8192 < P) = false := decide_eq_false p2
   have ht : Bx bad P l = (bad || !(l.all SVal.right)) := by unfold Bx; rw [d1, d3]; simp
   rw [ht]
   have hk1 := hk
   have g1 := Do w (some g)
   clear ht
   go_enter Tryz.func36, Tryz.ntmps36
   go_wp2_with fail
   (go_loopw [5] (fun v wr => ∃ (i : Nat) (bi : Bool), i ≤ l.length ∧ v = .int .i64 i ∧ Hid (bi = (bad || !((l.take i).all SVal.right))) ∧ Wk wr g P bi 38 ∧ w.grownBy wr (some g)) (fun v _ => l.length - (intOf v).toNat); (case atStart => exact ⟨0, bad, Nat.zero_le _, rfl, by show bad = _; simp, hk1, g1⟩); (case round => obtain ⟨i, bi, hi, rfl, hB, hkr, hW⟩ := hrel; have hkc := hkr; obtain ⟨k0, k1, f0, f1⟩ := hkc.cells; by_cases h0 : i < l.length; (have hsr := hs.grown hk hW hne; have q0 := hsr.c0 i h0; have q1 := hsr.c1 i h0; have q2 := hsr.c2 i h0; have q3 := hsr.c3 i h0; have q4 := hsr.c4 i h0; have q5 := hsr.c5 i h0; obtain ⟨hA, hA'⟩ := hsr.ok i h0; have ha := HA.out i h0; obtain ⟨z1, z2⟩ := hn (l[i]) (List.getElem_mem h0); generalize hx : l[i] = x at *; obtain ⟨p, A, n, c, xs, e, q, A', n', c', ys, f⟩ := x; simp only at q0 q1 q2 q3 q4 q5 hA hA' z1 z2; have hr : (SVal.mk p A n c xs e q A' n' c' ys f).right = Cb p q xs ys e f := rfl; rw [hr] at ha; have RT := Be (Lb p q A A' n c n' c' xs ys e f _ hA hA' z1 z2); generalize Cb p q xs ys e f = rr at *; have HA1 := Be ha; clear ha hr hx hsr; cases rr; (go_wp2_with fail; refine RT.out.mono ?_; rintro r w4 ⟨rfl, hb4⟩; have hk4 := hkr.later hb4; have g4 := Bp hW hb4; obtain ⟨z0, z1', y0, y1⟩ := hk4.cells; clear k0 k1 f0 f1; go_wp2_with fail; exact ⟨⟨i + 1, true, by omega, by go_num, (Tq hB.out HA1.out), hk4.set _, Bi g4 (Br _ g 1 _)⟩, by simp only [intOf]; omega⟩); (go_wp2_with fail; refine RT.out.mono ?_; rintro r w4 ⟨rfl, hb4⟩; have hk4 := hkr.later hb4; have g4 := Bp hW hb4; clear k0 k1 f0 f1; go_wp2_with fail; exact ⟨⟨i + 1, bi, by omega, by go_num, (Rb hB.out HA1.out), hk4, g4⟩, by simp only [intOf]; omega⟩)); (obtain rfl : i = l.length := (by omega); have e1 := hB.out; rw [HZ.out] at e1; have E1 := Be e1; clear e1; go_wp2_with fail; go_ret; rw [← E1.out]; exact ⟨rfl, hkr, hW⟩)))
theorem Bed (g : Nat) (p q : Bool) (A A' : Option Addr) (n c n' c' : Nat) (e f : Int) (w : World) :
  Calls Tryz.prog 38 #[.pointer (some ⟨g, 0, none⟩), .agg #[.bool p, .slice A n c, .int .i64 e], .bool true, .agg #[.bool q, .slice A' n' c', .int .i64 f], .bool true] w fun r w' => r = .returned (.agg #[.bool p, .slice A n c, .int .i64 e, .bool q, .slice A' n' c', .int .i64 f]) ∧ Below w.heap.size w w' := by
 have b1 := Ba (Bb w) (.cells #[.bool p, .slice A n c, .int .i64 e] 26)
 have b2 := Ba b1 (.cells #[.bool q, .slice A' n' c', .int .i64 f] 26)
 have b0 : Below w.heap.size w (((w.alloc (.cells #[.bool p, .slice A n c, .int .i64 e] 26)).alloc (.cells #[.bool q, .slice A' n' c', .int .i64 f] 26)).alloc (.cells #[.bool false, .slice none 0 0, .int .i64 0, .bool false, .slice none 0 0, .int .i64 0] 28)) := Ba b2 _
 have xa := (Bg w #[.bool p, .slice A n c, .int .i64 e] 26).later (Ba (Ba (Bb _) (.cells #[.bool q, .slice A' n' c', .int .i64 f] 26)) (.cells #[.bool false, .slice none 0 0, .int .i64 0, .bool false, .slice none 0 0, .int .i64 0] 28))
 have xb := (Bg (w.alloc (.cells #[.bool p, .slice A n c, .int .i64 e] 26)) #[.bool q, .slice A' n' c', .int .i64 f] 26).later (Ba (Bb _) (.cells #[.bool false, .slice none 0 0, .int .i64 0, .bool false, .slice none 0 0, .int .i64 0] 28))
 rw [show (w.alloc (.cells #[.bool p, .slice A n c, .int .i64 e] 26)).heap.size = w.heap.size + 1 by simp] at xb
 have xr := Bg ((w.alloc (.cells #[.bool p, .slice A n c, .int .i64 e] 26)).alloc (.cells #[.bool q, .slice A' n' c', .int .i64 f] 26)) #[.bool false, .slice none 0 0, .int .i64 0, .bool false, .slice none 0 0, .int .i64 0] 28
 rw [show ((w.alloc (.cells #[.bool p, .slice A n c, .int .i64 e] 26)).alloc (.cells #[.bool q, .slice A' n' c', .int .i64 f] 26)).heap.size = w.heap.size + 1 + 1 by simp] at xr
 obtain ⟨k0, k1, k2, f0, f1, f2⟩ := xa.cell3
 obtain ⟨j0, j1, j2, g0, g1, g2⟩ := xb.cell3
 go_enter Tryz.func38, Tryz.ntmps38
 go_wp2_with (refine Bt rfl _ _ rfl rfl (w.heap.size + 1 + 1) p A n c e q A' n' c' f xr rfl rfl (fun W1 y1 gW1 => ?_); have b0 := Bl b0 gW1 (show w.heap.size ≤ w.heap.size + 1 + 1 by omega); obtain ⟨u0, u1, u2, u3, u4, u5, -⟩ := y1.cell6)
 refine bodyPost_ret (v := (.agg #[.bool p, .slice A n c, .int .i64 e, .bool q, .slice A' n' c', .int .i64 f])) ?_ rfl ⟨rfl, b0⟩
 simp [results, Tryz.results38, go_sem, u0, u1, u2, u3, u4, u5]
theorem Bec (g : Nat) (P : Int) (bad : Bool) (p q a b : Bool) (A A' : Option Addr) (n c n' c' : Nat) (e f : Int) (w : World) (hk : Wk w g P bad 38) (hab : Hid ((a && b) = false)) :
  Calls Tryz.prog 38 #[.pointer (some ⟨g, 0, none⟩), .agg #[.bool p, .slice A n c, .int .i64 e], .bool a, .agg #[.bool q, .slice A' n' c', .int .i64 f], .bool b] w fun r w' => r = .returned (.agg #[.bool false, .slice none 0 0, .int .i64 0, .bool false, .slice none 0 0, .int .i64 0]) ∧ Wk w' g P true 38 ∧ w.grownBy w' (some g) := by
 have b0 : Below w.heap.size w (((w.alloc (.cells #[.bool p, .slice A n c, .int .i64 e] 26)).alloc (.cells #[.bool q, .slice A' n' c', .int .i64 f] 26)).alloc (.cells #[.bool false, .slice none 0 0, .int .i64 0, .bool false, .slice none 0 0, .int .i64 0] 28)) := Ba (Ba (Ba (Bb w) _) _) _
 have hg := hk.lt
 obtain ⟨k0, k1, f0, f1⟩ := (hk.later b0).cells
 have xr0 := Bg ((w.alloc (.cells #[.bool p, .slice A n c, .int .i64 e] 26)).alloc (.cells #[.bool q, .slice A' n' c', .int .i64 f] 26)) #[.bool false, .slice none 0 0, .int .i64 0, .bool false, .slice none 0 0, .int .i64 0] 28
 rw [show ((w.alloc (.cells #[.bool p, .slice A n c, .int .i64 e] 26)).alloc (.cells #[.bool q, .slice A' n' c', .int .i64 f] 26)).heap.size = w.heap.size + 1 + 1 by simp] at xr0
 have xr := xr0.apart (show w.heap.size + 1 + 1 ≠ g by omega) 1 (.bool true)
 have hk3 := (hk.later b0).set true
 have g3 := Bi (Bv b0 (some g)) (Br _ g 1 (.bool true))
 cases a
 ·clear hab
  go_enter Tryz.func38, Tryz.ntmps38
  go_wp2_with (refine Bt rfl _ _ rfl rfl (w.heap.size + 1 + 1) false none 0 0 0 false none 0 0 0 xr rfl rfl (fun W1 y1 gW1 => ?_); have hk4 := hk3.other gW1 (by omega); obtain ⟨u0, u1, u2, u3, u4, u5, -⟩ := y1.cell6)
  refine bodyPost_ret (v := .agg #[.bool false, .slice none 0 0, .int .i64 0, .bool false, .slice none 0 0, .int .i64 0]) ?_ rfl ⟨rfl, hk4, Cd g3 gW1 (by omega)⟩
  simp [results, Tryz.results38, go_sem, u0, u1, u2, u3, u4, u5]
 ·obtain rfl : b = false := by simpa using hab.out
  clear hab
  go_enter Tryz.func38, Tryz.ntmps38
  go_wp2_with (refine Bt rfl _ _ rfl rfl (w.heap.size + 1 + 1) false none 0 0 0 false none 0 0 0 xr rfl rfl (fun W1 y1 gW1 => ?_); have hk4 := hk3.other gW1 (by omega); obtain ⟨u0, u1, u2, u3, u4, u5, -⟩ := y1.cell6)
  refine bodyPost_ret (v := .agg #[.bool false, .slice none 0 0, .int .i64 0, .bool false, .slice none 0 0, .int .i64 0]) ?_ rfl ⟨rfl, hk4, Cd g3 gW1 (by omega)⟩
  simp [results, Tryz.results38, go_sem, u0, u1, u2, u3, u4, u5]
variable {tw : TypeId}
def Cr (b : Bool) (D1 D2 : Dy) : Option (Dy × Dy) := if b then none else some (D1, D2)
theorem Sx (g : Nat) (P : Int) (bad ok s : Bool) (m e : Int) (A : Option Addr) (n c : Nat) (w : World) (hk : Wk w g P bad tw) (ha : Arr w A n c (wd m)) (hz : ok = false → s = false ∧ m = 0 ∧ e = 0) :
  Calls Tryz.prog 43 #[.pointer (some ⟨g, 0, none⟩), .agg #[.bool s, .slice A n c, .int .i64 e], .bool ok] w fun r w' => ∃ B k j, r = .returned (.agg #[.bool s, .slice B k j, .int .i64 e]) ∧ Arr w' B k j (wd m) ∧ Wk w' g P (bad || !ok) tw ∧ w.grownBy w' (some g) := by
 cases ok
 ·obtain ⟨rfl, rfl, rfl⟩ := hz rfl
  refine (Bfg g P bad _ false A n c 0 w hk).mono ?_
  rintro r w' ⟨rfl, hk', hg⟩
  exact ⟨none, 0, 0, rfl, by rw [wd_zero (Int.le_refl _)]; exact Arr.nothing _, by simpa using hk', hg⟩
 ·refine (Fb g s A n c e w).mono ?_
  rintro r w' ⟨rfl, hb⟩
  exact ⟨A, n, c, rfl, ha.below hb, by simpa using hk.later hb, Bv hb _⟩
theorem Yv (g : Nat) (P : Int) (b : Bool) (s t : Bool) (m e m' f : Int) (A A' : Option Addr) (n c n' c' : Nat) (w : World) (hk : Wk w g P b tw) (ha : Arr w A n c (wd m)) (ha' : Arr w A' n' c' (wd m')) :
  Calls Tryz.prog 34 #[.pointer (some ⟨g, 0, none⟩), .agg #[.bool s, .slice A n c, .int .i64 e], .agg #[.bool t, .slice A' n' c', .int .i64 f]] w fun r w' => ∃ X u v Y k j, r = .returned (.agg #[.bool ((Cr b ⟨s, m, e⟩ ⟨t, m', f⟩).getD (Dy.zero, Dy.zero)).1.neg, .slice X u v, .int .i64 ((Cr b ⟨s, m, e⟩ ⟨t, m', f⟩).getD (Dy.zero, Dy.zero)).1.e, .bool ((Cr b ⟨s, m, e⟩ ⟨t, m', f⟩).getD (Dy.zero, Dy.zero)).2.neg, .slice Y k j, .int .i64 ((Cr b ⟨s, m, e⟩ ⟨t, m', f⟩).getD (Dy.zero, Dy.zero)).2.e]) ∧
   Arr w' X u v (wd ((Cr b ⟨s, m, e⟩ ⟨t, m', f⟩).getD (Dy.zero, Dy.zero)).1.m) ∧ Arr w' Y k j (wd ((Cr b ⟨s, m, e⟩ ⟨t, m', f⟩).getD (Dy.zero, Dy.zero)).2.m) ∧ Below w.heap.size w w' := by
 cases b
 ·refine (Rs g P s t A A' n c n' c' e f w hk).mono ?_
  rintro r w' ⟨rfl, hb⟩
  exact ⟨A, n, c, A', n', c', rfl, ha.below hb, ha'.below hb, hb⟩
 ·refine (Bf6 g P s t A A' n c n' c' e f w hk).mono ?_
  rintro r w' ⟨rfl, hb⟩
  exact ⟨none, 0, 0, none, 0, 0, rfl, by show Arr w' none 0 0 (wd Dy.zero.m); rw [Ge]; exact Arr.nothing _, by show Arr w' none 0 0 (wd Dy.zero.m); rw [Ge]; exact Arr.nothing _, hb⟩
theorem Qv {w w4 : World} {o : Option (Dy × Dy)} {A A' : Option Addr} {n c n' c' g k : Nat} {P : Int} {tw t : TypeId} (h1 : Arr w4 A n c (wd (o.getD (Dy.zero, Dy.zero)).1.m)) (h2 : Arr w4 A' n' c' (wd (o.getD (Dy.zero, Dy.zero)).2.m)) (hb : Box w4 k #[.bool false, .slice none 0 0, .int .i64 0, .bool false, .slice none 0 0, .int .i64 0] t)
  (hk : Wk w4 g P o.isNone tw) (hg : w.grownBy w4 (some g)) (hne : g ≠ k) (hkk : w.heap.size ≤ k) :
  Dx o g P tw w (.returned (.agg #[.bool (o.getD (Dy.zero, Dy.zero)).1.neg, .slice A n c, .int .i64 (o.getD (Dy.zero, Dy.zero)).1.e, .bool (o.getD (Dy.zero, Dy.zero)).2.neg, .slice A' n' c', .int .i64 (o.getD (Dy.zero, Dy.zero)).2.e])) (Xu w4 k (o.getD (Dy.zero, Dy.zero)).1.neg A n c (o.getD (Dy.zero, Dy.zero)).1.e (o.getD (Dy.zero, Dy.zero)).2.neg A' n' c' (o.getD (Dy.zero, Dy.zero)).2.e) := by
 have g6 := Gb w4 k (o.getD (Dy.zero, Dy.zero)).1.neg A n c (o.getD (Dy.zero, Dy.zero)).1.e (o.getD (Dy.zero, Dy.zero)).2.neg A' n' c' (o.getD (Dy.zero, Dy.zero)).2.e
 have no := no6 (a := .bool false) (b := .slice none 0 0) (c := .int .i64 0) (d := .bool false) (e := .slice none 0 0) (f := .int .i64 0) (by simp) (by simp) (by simp) (by simp) (by simp) (by simp)
 exact ⟨A, n, c, A', n', c', rfl, h1.grown hb no g6, h2.grown hb no g6, hk.other g6 hne, Cd hg g6 hkk⟩
theorem Gx (b : Bool) (D1 D2 : Dy) : (Cr b D1 D2).isNone = b := by cases b <;> rfl
theorem Jn {o : Option Dy} : o.isSome = false → (Ci o).neg = false ∧ (Ci o).m = 0 ∧ (Ci o).e = 0 := by
 cases o with
 | none => intro _; exact ⟨rfl, rfl, rfl⟩
 | some d => intro h; cases h
def Fn (bad : Bool) (o1 o2 : Option Dy) : Option (Dy × Dy) := Cr (bad || !(o1.isSome && o2.isSome)) (Ci o1) (Ci o2)
theorem Xr (h m cap : Nat) (l : List DV) (hm : l.length = m) (w : World) (hs : DVs w h l) (hpos : 0 < l.length) (hl : m ≤ 1000000) (hn : ∀ d ∈ l, d.n ≤ 1000000) :
  Calls Tryz.prog 51 #[.slice (some ⟨h, 0, none⟩) m cap, .bool false] w fun r w' => r = .returned (.agg #[.bool (Cc false l).neg, .slice (Cc false l).A (Cc false l).n (Cc false l).c, .int .i64 (Cc false l).e]) ∧ Arr w (Cc false l).A (Cc false l).n (Cc false l).c (Cc false l).xs ∧ Below w.heap.size w w' := by
 (subst hm; have hns : ∀ i (h : i < l.length), (l[i]).n ≤ 1000000 := fun i h => hn _ (List.getElem_mem h); obtain ⟨d0, hd0⟩ : ∃ d0, l[0]? = some d0 := ⟨l[0], List.getElem?_eq_getElem hpos⟩; have hfirst : Cc false (l.take 1) = d0 := Jv false hd0; have hz := hd0; obtain ⟨p0, A0, n0, c0, xs0, e0⟩ := d0; have hl0 : l[0] = ⟨p0, A0, n0, c0, xs0, e0⟩ := (by have := List.getElem?_eq_getElem hpos; rw [this] at hz; exact Option.some.inj hz); have y0 := hs.c0 0 hpos; have y1 := hs.c1 0 hpos; have y2 := hs.c2 0 hpos; rw [hl0] at y0 y1 y2; simp only [Nat.zero_mul, Nat.zero_add] at y0 y1 y2; have z0 := (Ba (Bb w) (.cells #[.bool false, .slice none 0 0, .int .i64 0] 26)).cell (p := ⟨h, 0, none⟩) hs.lt; have z1 := (Ba (Bb w) (.cells #[.bool false, .slice none 0 0, .int .i64 0] 26)).cell (p := ⟨h, 1, none⟩) hs.lt; have z2 := (Ba (Bb w) (.cells #[.bool false, .slice none 0 0, .int .i64 0] 26)).cell (p := ⟨h, 2, none⟩) hs.lt; rw [y0] at z0; rw [y1] at z1; rw [y2] at z2;  have hlast : Cc false (l.take l.length) = Cc false l := (by rw [List.take_length]); have HL := Be hlast; have HF := Be hfirst; have hnext : ∀ i (h : i < l.length), 1 ≤ i → Cc false (l.take (i + 1)) = Kg false (Cc false (l.take i)) (l[i]) := fun i h h1 => Lf false h h1; have HN := Be hnext; have hok : ∀ i (h : i < l.length), Arr w (l[i]).A (l[i]).n (l[i]).c (l[i]).xs := fun i h => hs.ok i h; have xr := Bg w #[.bool false, .slice none 0 0, .int .i64 0] 26; have xb := Bg (w.alloc (.cells #[.bool false, .slice none 0 0, .int .i64 0] 26)) #[.bool p0, .slice A0 n0 c0, .int .i64 e0] 26; rw [show (w.alloc (.cells #[.bool false, .slice none 0 0, .int .i64 0] 26)).heap.size = w.heap.size + 1 by simp] at xb; have xr := xr.later (Ba (Bb _) (.cells #[.bool p0, .slice A0 n0 c0, .int .i64 e0] 26)); have b0 : Below w.heap.size w ((w.alloc (.cells #[.bool false, .slice none 0 0, .int .i64 0] 26)).alloc (.cells #[.bool p0, .slice A0 n0 c0, .int .i64 e0] 26)) := Ba (Ba (Bb w) _) _; have hbest0 : Arr w A0 n0 c0 xs0 := (by have := hok 0 hpos; rw [hl0] at this; exact this); have hn0 : n0 ≤ 1000000 := (by have := hns 0 hpos; rw [hl0] at this; exact this); generalize hbd : Cc false l = R at *; clear hlast hfirst hnext hd0 hz hl0 y0 y1 y2 hbd; go_enter Tryz.func51, Tryz.ntmps51; go_wp2_with fail; go_loopw [6] (fun v wr => ∃ (i : Nat) (b : DV), 1 ≤ i ∧ i ≤ l.length ∧ v = .int .i64 i ∧ Hid (Cc false (l.take i) = b) ∧ b.n ≤ 1000000 ∧ Arr w b.A b.n b.c b.xs ∧ Box wr (w.heap.size + 1) #[.bool b.neg, .slice b.A b.n b.c, .int .i64 b.e] 26 ∧ Box wr w.heap.size #[.bool false, .slice none 0 0, .int .i64 0] 26 ∧ Below w.heap.size w wr) (fun v _ => l.length - (intOf v).toNat); (case atStart => exact ⟨1, _, Nat.le_refl _, hpos, rfl, HF.out, hn0, hbest0, xb, xr, b0⟩); (case round => obtain ⟨i, b, h1i, hi, rfl, hB, hbn, hbA, xbr, xrr, hW⟩ := hrel; obtain ⟨q, A', n', c', ys, f⟩ := b; simp only at hbn hbA xbr; by_cases h0 : i < l.length; (focus (have k0 := (hW.cell (p := ⟨h, i * 3, none⟩) hs.lt).trans (hs.c0 i h0); have k1 := (hW.cell (p := ⟨h, i * 3 + 1, none⟩) hs.lt).trans (hs.c1 i h0); have k2 := (hW.cell (p := ⟨h, i * 3 + 2, none⟩) hs.lt).trans (hs.c2 i h0); have ha := hok i h0; have hln := hns i h0; have hn1 := HN.out i h0 h1i; rw [hB.out] at hn1; generalize hx : l[i] = x at *; obtain ⟨p, A, n, c, xs, e⟩ := x; simp only at k0 k1 k2 ha hln; obtain ⟨j0, j1, j2, g0, g1, g2⟩ := xbr.cell3; have hKS : ∀ w', Below wr.heap.size wr w' → ((w'.cell? ⟨h, i * 3, none⟩ = some (.bool p) ∧ w'.cell? ⟨h, i * 3 + 1, none⟩ = some (.slice A n c) ∧ w'.cell? ⟨h, i * 3 + 2, none⟩ = some (.int .i64 e)) ∧ (w'.cell? ⟨w.heap.size + 1, 0, none⟩ = some (.bool q) ∧ w'.cell? ⟨w.heap.size + 1, 1, none⟩ = some (.slice A' n' c') ∧ w'.cell? ⟨w.heap.size + 1, 2, none⟩ = some (.int .i64 f))) := fun w' hb => ⟨⟨(hb.cell (p := ⟨h, i * 3, none⟩) (Nat.lt_of_lt_of_le hs.lt hW.size)).trans k0, (hb.cell (p := ⟨h, i * 3 + 1, none⟩) (Nat.lt_of_lt_of_le hs.lt hW.size)).trans k1, (hb.cell (p := ⟨h, i * 3 + 2, none⟩) (Nat.lt_of_lt_of_le hs.lt hW.size)).trans k2⟩, ⟨(xbr.later hb).cell 0, (xbr.later hb).cell 1, (xbr.later hb).cell 2⟩⟩; have KS := Be hKS; have hO : ∀ w', Below wr.heap.size wr w' → Calls Tryz.prog 60 #[.agg #[.bool p, .slice A n c, .int .i64 e], .agg #[.bool q, .slice A' n' c', .int .i64 f]] w' fun r w'' => r = .returned (.tuple #[.int .i64 (Dw p q xs ys e f), .bool (Gj p q xs ys e f)]) ∧ Below wr.heap.size wr w'' := (fun w' hb => (Xo p q A A' n c n' c' xs ys e f w' ((ha.below hW).below hb) ((hbA.below hW).below hb) hln hbn).mono (by rintro r w'' ⟨rfl, h2⟩; exact ⟨rfl, Bc hb h2⟩)); have hst : Kg false ⟨q, A', n', c', ys, f⟩ ⟨p, A, n, c, xs, e⟩ = if decide (Dw p q xs ys e f < 0) then ⟨p, A, n, c, xs, e⟩ else ⟨q, A', n', c', ys, f⟩ := rfl; rw [hst] at hn1; generalize Dw p q xs ys e f = cc at *; generalize Gj p q xs ys e f = bb at *; have O := Be hO; have HN1 := Be hn1; have l1 : (i : Int) < l.length := (by omega); have d3 : decide ((i : Int) < l.length) = true := decide_eq_true l1; clear hKS hO hst hn1 hx; by_cases hc : cc < 0; (focus (have dc1 : decide (cc < 0) = true := decide_eq_true hc; have dc2 : decide (cc < 0) = true := decide_eq_true hc; have hn2 := HN1.out; rw [if_pos dc1] at hn2; have HN2 := Be hn2; clear hn2 hc; go_wp2_with fail; go_region_held3 (fun w' => ((w'.cell? ⟨h, i * 3, none⟩ = some (.bool p) ∧ w'.cell? ⟨h, i * 3 + 1, none⟩ = some (.slice A n c) ∧ w'.cell? ⟨h, i * 3 + 2, none⟩ = some (.int .i64 e)) ∧ (w'.cell? ⟨w.heap.size + 1, 0, none⟩ = some (.bool q) ∧ w'.cell? ⟨w.heap.size + 1, 1, none⟩ = some (.slice A' n' c') ∧ w'.cell? ⟨w.heap.size + 1, 2, none⟩ = some (.int .i64 f)))) (first | exact KS.out _ ((by repeat with_reducible (first | assumption | exact Bb _ | refine Bd ?_ _ | apply Below.drew | refine Ba ?_ _)))) (first | (go_at_call 60; refine (O.out _ ?_).mono ?_; (repeat with_reducible (first | assumption | exact Bb _ | refine Bd ?_ _ | apply Below.drew | refine Ba ?_ _)); rintro r w5 ⟨rfl, hb5⟩)); have xb5 := xbr.later hb5; have xr5 := xrr.later hb5; have hW5 := Bc hW hb5; obtain ⟨⟨k0', k1', k2'⟩, -⟩ := KS.out _ hb5; clear k0 k1 k2 j0 j1 j2 g0 g1 g2; go_wp2_with (refine Fk rfl _ _ rfl rfl (w.heap.size + 1) p A n c e xb5 rfl rfl (fun W1 v1 gW1 => ?_); have xr6 := xr5.grown gW1 (show w.heap.size ≠ w.heap.size + 1 by omega); have hW6 := Bl hW5 gW1 (by omega)); exact ⟨⟨i + 1, ⟨p, A, n, c, xs, e⟩, by omega, by omega, by go_num, HN2.out, hln, ha, v1, xr6, hW6⟩, by simp only [intOf]; omega⟩)); (focus (have dc1 : decide (cc < 0) = false := decide_eq_false hc; have dc2 : decide (cc < 0) = false := decide_eq_false hc; have hn2 := HN1.out; rw [if_neg (by rw [dc1]; decide)] at hn2; have HN2 := Be hn2; clear hn2 hc; go_wp2_with fail; go_region_held3 (fun w' => ((w'.cell? ⟨h, i * 3, none⟩ = some (.bool p) ∧ w'.cell? ⟨h, i * 3 + 1, none⟩ = some (.slice A n c) ∧ w'.cell? ⟨h, i * 3 + 2, none⟩ = some (.int .i64 e)) ∧ (w'.cell? ⟨w.heap.size + 1, 0, none⟩ = some (.bool q) ∧ w'.cell? ⟨w.heap.size + 1, 1, none⟩ = some (.slice A' n' c') ∧ w'.cell? ⟨w.heap.size + 1, 2, none⟩ = some (.int .i64 f)))) (first | exact KS.out _ ((by repeat with_reducible (first | assumption | exact Bb _ | refine Bd ?_ _ | apply Below.drew | refine Ba ?_ _)))) (first | (go_at_call 60; refine (O.out _ ?_).mono ?_; (repeat with_reducible (first | assumption | exact Bb _ | refine Bd ?_ _ | apply Below.drew | refine Ba ?_ _)); rintro r w5 ⟨rfl, hb5⟩)); have xb5 := xbr.later hb5; have xr5 := xrr.later hb5; have hW5 := Bc hW hb5; clear k0 k1 k2 j0 j1 j2 g0 g1 g2; go_wp2_with fail; exact ⟨⟨i + 1, ⟨q, A', n', c', ys, f⟩, by omega, by omega, by go_num, HN2.out, hbn, hbA, xb5, xr5, hW5⟩, by simp only [intOf]; omega⟩)))); (obtain rfl : i = l.length := (by omega); have hR := hB.out; rw [HL.out] at hR; subst hR; obtain ⟨j0, j1, j2, g0, g1, g2⟩ := xbr.cell3; go_wp2_with (refine Fk rfl _ _ rfl rfl w.heap.size q A' n' c' f xrr rfl rfl (fun W1 v1 gW1 => ?_); have hW6 := Bl hW gW1 (Nat.le_refl _); obtain ⟨u0, u1, u2, -⟩ := v1.cell3); refine bodyPost_ret (v := .agg #[.bool q, .slice A' n' c', .int .i64 f]) ?_ rfl (by first | exact ⟨rfl, hbA, hW6⟩ | exact ⟨rfl, hW6⟩); simp [results, Tryz.results51, go_sem, u0, u1, u2])))
theorem Xs (h m cap : Nat) (l : List DV) (hm : l.length = m) (w : World) (hs : DVs w h l) (hpos : 0 < l.length) (hl : m ≤ 1000000) (hn : ∀ d ∈ l, d.n ≤ 1000000) :
  Calls Tryz.prog 51 #[.slice (some ⟨h, 0, none⟩) m cap, .bool true] w fun r w' => r = .returned (.agg #[.bool (Cc true l).neg, .slice (Cc true l).A (Cc true l).n (Cc true l).c, .int .i64 (Cc true l).e]) ∧ Arr w (Cc true l).A (Cc true l).n (Cc true l).c (Cc true l).xs ∧ Below w.heap.size w w' := by
 (subst hm; have hns : ∀ i (h : i < l.length), (l[i]).n ≤ 1000000 := fun i h => hn _ (List.getElem_mem h); obtain ⟨d0, hd0⟩ : ∃ d0, l[0]? = some d0 := ⟨l[0], List.getElem?_eq_getElem hpos⟩; have hfirst : Cc true (l.take 1) = d0 := Jv true hd0; have hz := hd0; obtain ⟨p0, A0, n0, c0, xs0, e0⟩ := d0; have hl0 : l[0] = ⟨p0, A0, n0, c0, xs0, e0⟩ := (by have := List.getElem?_eq_getElem hpos; rw [this] at hz; exact Option.some.inj hz); have y0 := hs.c0 0 hpos; have y1 := hs.c1 0 hpos; have y2 := hs.c2 0 hpos; rw [hl0] at y0 y1 y2; simp only [Nat.zero_mul, Nat.zero_add] at y0 y1 y2; have z0 := (Ba (Bb w) (.cells #[.bool false, .slice none 0 0, .int .i64 0] 26)).cell (p := ⟨h, 0, none⟩) hs.lt; have z1 := (Ba (Bb w) (.cells #[.bool false, .slice none 0 0, .int .i64 0] 26)).cell (p := ⟨h, 1, none⟩) hs.lt; have z2 := (Ba (Bb w) (.cells #[.bool false, .slice none 0 0, .int .i64 0] 26)).cell (p := ⟨h, 2, none⟩) hs.lt; rw [y0] at z0; rw [y1] at z1; rw [y2] at z2;  have hlast : Cc true (l.take l.length) = Cc true l := (by rw [List.take_length]); have HL := Be hlast; have HF := Be hfirst; have hnext : ∀ i (h : i < l.length), 1 ≤ i → Cc true (l.take (i + 1)) = Kg true (Cc true (l.take i)) (l[i]) := fun i h h1 => Lf true h h1; have HN := Be hnext; have hok : ∀ i (h : i < l.length), Arr w (l[i]).A (l[i]).n (l[i]).c (l[i]).xs := fun i h => hs.ok i h; have xr := Bg w #[.bool false, .slice none 0 0, .int .i64 0] 26; have xb := Bg (w.alloc (.cells #[.bool false, .slice none 0 0, .int .i64 0] 26)) #[.bool p0, .slice A0 n0 c0, .int .i64 e0] 26; rw [show (w.alloc (.cells #[.bool false, .slice none 0 0, .int .i64 0] 26)).heap.size = w.heap.size + 1 by simp] at xb; have xr := xr.later (Ba (Bb _) (.cells #[.bool p0, .slice A0 n0 c0, .int .i64 e0] 26)); have b0 : Below w.heap.size w ((w.alloc (.cells #[.bool false, .slice none 0 0, .int .i64 0] 26)).alloc (.cells #[.bool p0, .slice A0 n0 c0, .int .i64 e0] 26)) := Ba (Ba (Bb w) _) _; have hbest0 : Arr w A0 n0 c0 xs0 := (by have := hok 0 hpos; rw [hl0] at this; exact this); have hn0 : n0 ≤ 1000000 := (by have := hns 0 hpos; rw [hl0] at this; exact this); generalize hbd : Cc true l = R at *; clear hlast hfirst hnext hd0 hz hl0 y0 y1 y2 hbd; go_enter Tryz.func51, Tryz.ntmps51; go_wp2_with fail; go_loopw [6] (fun v wr => ∃ (i : Nat) (b : DV), 1 ≤ i ∧ i ≤ l.length ∧ v = .int .i64 i ∧ Hid (Cc true (l.take i) = b) ∧ b.n ≤ 1000000 ∧ Arr w b.A b.n b.c b.xs ∧ Box wr (w.heap.size + 1) #[.bool b.neg, .slice b.A b.n b.c, .int .i64 b.e] 26 ∧ Box wr w.heap.size #[.bool false, .slice none 0 0, .int .i64 0] 26 ∧ Below w.heap.size w wr) (fun v _ => l.length - (intOf v).toNat); (case atStart => exact ⟨1, _, Nat.le_refl _, hpos, rfl, HF.out, hn0, hbest0, xb, xr, b0⟩); (case round => obtain ⟨i, b, h1i, hi, rfl, hB, hbn, hbA, xbr, xrr, hW⟩ := hrel; obtain ⟨q, A', n', c', ys, f⟩ := b; simp only at hbn hbA xbr; by_cases h0 : i < l.length; (focus (have k0 := (hW.cell (p := ⟨h, i * 3, none⟩) hs.lt).trans (hs.c0 i h0); have k1 := (hW.cell (p := ⟨h, i * 3 + 1, none⟩) hs.lt).trans (hs.c1 i h0); have k2 := (hW.cell (p := ⟨h, i * 3 + 2, none⟩) hs.lt).trans (hs.c2 i h0); have ha := hok i h0; have hln := hns i h0; have hn1 := HN.out i h0 h1i; rw [hB.out] at hn1; generalize hx : l[i] = x at *; obtain ⟨p, A, n, c, xs, e⟩ := x; simp only at k0 k1 k2 ha hln; obtain ⟨j0, j1, j2, g0, g1, g2⟩ := xbr.cell3; have hKS : ∀ w', Below wr.heap.size wr w' → ((w'.cell? ⟨h, i * 3, none⟩ = some (.bool p) ∧ w'.cell? ⟨h, i * 3 + 1, none⟩ = some (.slice A n c) ∧ w'.cell? ⟨h, i * 3 + 2, none⟩ = some (.int .i64 e)) ∧ (w'.cell? ⟨w.heap.size + 1, 0, none⟩ = some (.bool q) ∧ w'.cell? ⟨w.heap.size + 1, 1, none⟩ = some (.slice A' n' c') ∧ w'.cell? ⟨w.heap.size + 1, 2, none⟩ = some (.int .i64 f))) := fun w' hb => ⟨⟨(hb.cell (p := ⟨h, i * 3, none⟩) (Nat.lt_of_lt_of_le hs.lt hW.size)).trans k0, (hb.cell (p := ⟨h, i * 3 + 1, none⟩) (Nat.lt_of_lt_of_le hs.lt hW.size)).trans k1, (hb.cell (p := ⟨h, i * 3 + 2, none⟩) (Nat.lt_of_lt_of_le hs.lt hW.size)).trans k2⟩, ⟨(xbr.later hb).cell 0, (xbr.later hb).cell 1, (xbr.later hb).cell 2⟩⟩; have KS := Be hKS; have hO : ∀ w', Below wr.heap.size wr w' → Calls Tryz.prog 60 #[.agg #[.bool p, .slice A n c, .int .i64 e], .agg #[.bool q, .slice A' n' c', .int .i64 f]] w' fun r w'' => r = .returned (.tuple #[.int .i64 (Dw p q xs ys e f), .bool (Gj p q xs ys e f)]) ∧ Below wr.heap.size wr w'' := (fun w' hb => (Xo p q A A' n c n' c' xs ys e f w' ((ha.below hW).below hb) ((hbA.below hW).below hb) hln hbn).mono (by rintro r w'' ⟨rfl, h2⟩; exact ⟨rfl, Bc hb h2⟩)); have hst : Kg true ⟨q, A', n', c', ys, f⟩ ⟨p, A, n, c, xs, e⟩ = if decide (0 < Dw p q xs ys e f) then ⟨p, A, n, c, xs, e⟩ else ⟨q, A', n', c', ys, f⟩ := rfl; rw [hst] at hn1; generalize Dw p q xs ys e f = cc at *; generalize Gj p q xs ys e f = bb at *; have O := Be hO; have HN1 := Be hn1; have l1 : (i : Int) < l.length := (by omega); have d3 : decide ((i : Int) < l.length) = true := decide_eq_true l1; clear hKS hO hst hn1 hx; by_cases hc : 0 < cc; (focus (have dc1 : decide (0 < cc) = true := decide_eq_true hc; have dc2 : decide (cc > 0) = true := decide_eq_true hc; have hn2 := HN1.out; rw [if_pos dc1] at hn2; have HN2 := Be hn2; clear hn2 hc; go_wp2_with fail; go_region_held3 (fun w' => ((w'.cell? ⟨h, i * 3, none⟩ = some (.bool p) ∧ w'.cell? ⟨h, i * 3 + 1, none⟩ = some (.slice A n c) ∧ w'.cell? ⟨h, i * 3 + 2, none⟩ = some (.int .i64 e)) ∧ (w'.cell? ⟨w.heap.size + 1, 0, none⟩ = some (.bool q) ∧ w'.cell? ⟨w.heap.size + 1, 1, none⟩ = some (.slice A' n' c') ∧ w'.cell? ⟨w.heap.size + 1, 2, none⟩ = some (.int .i64 f)))) (first | exact KS.out _ ((by repeat with_reducible (first | assumption | exact Bb _ | refine Bd ?_ _ | apply Below.drew | refine Ba ?_ _)))) (first | (go_at_call 60; refine (O.out _ ?_).mono ?_; (repeat with_reducible (first | assumption | exact Bb _ | refine Bd ?_ _ | apply Below.drew | refine Ba ?_ _)); rintro r w5 ⟨rfl, hb5⟩)); have xb5 := xbr.later hb5; have xr5 := xrr.later hb5; have hW5 := Bc hW hb5; obtain ⟨⟨k0', k1', k2'⟩, -⟩ := KS.out _ hb5; clear k0 k1 k2 j0 j1 j2 g0 g1 g2; go_wp2_with (refine Fk rfl _ _ rfl rfl (w.heap.size + 1) p A n c e xb5 rfl rfl (fun W1 v1 gW1 => ?_); have xr6 := xr5.grown gW1 (show w.heap.size ≠ w.heap.size + 1 by omega); have hW6 := Bl hW5 gW1 (by omega)); exact ⟨⟨i + 1, ⟨p, A, n, c, xs, e⟩, by omega, by omega, by go_num, HN2.out, hln, ha, v1, xr6, hW6⟩, by simp only [intOf]; omega⟩)); (focus (have dc1 : decide (0 < cc) = false := decide_eq_false hc; have dc2 : decide (cc > 0) = false := decide_eq_false hc; have hn2 := HN1.out; rw [if_neg (by rw [dc1]; decide)] at hn2; have HN2 := Be hn2; clear hn2 hc; go_wp2_with fail; go_region_held3 (fun w' => ((w'.cell? ⟨h, i * 3, none⟩ = some (.bool p) ∧ w'.cell? ⟨h, i * 3 + 1, none⟩ = some (.slice A n c) ∧ w'.cell? ⟨h, i * 3 + 2, none⟩ = some (.int .i64 e)) ∧ (w'.cell? ⟨w.heap.size + 1, 0, none⟩ = some (.bool q) ∧ w'.cell? ⟨w.heap.size + 1, 1, none⟩ = some (.slice A' n' c') ∧ w'.cell? ⟨w.heap.size + 1, 2, none⟩ = some (.int .i64 f)))) (first | exact KS.out _ ((by repeat with_reducible (first | assumption | exact Bb _ | refine Bd ?_ _ | apply Below.drew | refine Ba ?_ _)))) (first | (go_at_call 60; refine (O.out _ ?_).mono ?_; (repeat with_reducible (first | assumption | exact Bb _ | refine Bd ?_ _ | apply Below.drew | refine Ba ?_ _)); rintro r w5 ⟨rfl, hb5⟩)); have xb5 := xbr.later hb5; have xr5 := xrr.later hb5; have hW5 := Bc hW hb5; clear k0 k1 k2 j0 j1 j2 g0 g1 g2; go_wp2_with fail; exact ⟨⟨i + 1, ⟨q, A', n', c', ys, f⟩, by omega, by omega, by go_num, HN2.out, hbn, hbA, xb5, xr5, hW5⟩, by simp only [intOf]; omega⟩)))); (obtain rfl : i = l.length := (by omega); have hR := hB.out; rw [HL.out] at hR; subst hR; obtain ⟨j0, j1, j2, g0, g1, g2⟩ := xbr.cell3; go_wp2_with (refine Fk rfl _ _ rfl rfl w.heap.size q A' n' c' f xrr rfl rfl (fun W1 v1 gW1 => ?_); have hW6 := Bl hW gW1 (Nat.le_refl _); obtain ⟨u0, u1, u2, -⟩ := v1.cell3); refine bodyPost_ret (v := .agg #[.bool q, .slice A' n' c', .int .i64 f]) ?_ rfl (by first | exact ⟨rfl, hbA, hW6⟩ | exact ⟨rfl, hW6⟩); simp [results, Tryz.results51, go_sem, u0, u1, u2])))
theorem Sd (g : Nat) (P : Int) (s t k1 k2 : Bool) (m e m' f : Int) (A A' : Option Addr) (n c n' c' : Nat) (w : World) (hk : Wk w g P false 38) (ha : Arr w A n c (wd m)) (ha' : Arr w A' n' c' (wd m')) :
  Calls Tryz.prog 38 #[.pointer (some ⟨g, 0, none⟩), (.agg #[.bool s, .slice A n c, .int .i64 e]), .bool k1, (.agg #[.bool t, .slice A' n' c', .int .i64 f]), .bool k2] w fun r w' => ∃ b X u v Y k j, b = (!(k1 && k2)) ∧ r = .returned (.agg #[.bool ((Cr b ⟨s, m, e⟩ ⟨t, m', f⟩).getD (Dy.zero, Dy.zero)).1.neg, .slice X u v, .int .i64 ((Cr b ⟨s, m, e⟩ ⟨t, m', f⟩).getD (Dy.zero, Dy.zero)).1.e, .bool ((Cr b ⟨s, m, e⟩ ⟨t, m', f⟩).getD (Dy.zero, Dy.zero)).2.neg, .slice Y k j, .int .i64 ((Cr b ⟨s, m, e⟩ ⟨t, m', f⟩).getD (Dy.zero, Dy.zero)).2.e]) ∧
   Arr w' X u v (wd ((Cr b ⟨s, m, e⟩ ⟨t, m', f⟩).getD (Dy.zero, Dy.zero)).1.m) ∧ Arr w' Y k j (wd ((Cr b ⟨s, m, e⟩ ⟨t, m', f⟩).getD (Dy.zero, Dy.zero)).2.m) ∧ Wk w' g P b 38 ∧ w.grownBy w' (some g) := by
 cases hkk : (k1 && k2)
 ·refine (Bec g P false s t k1 k2 A A' n c n' c' e f w hk hkk).mono ?_
  rintro r w' ⟨rfl, hk', hg⟩
  exact ⟨true, none, 0, 0, none, 0, 0, rfl, rfl, by show Arr w' none 0 0 (wd Dy.zero.m); rw [Ge]; exact Arr.nothing _, by show Arr w' none 0 0 (wd Dy.zero.m); rw [Ge]; exact Arr.nothing _, hk', hg⟩
 ·simp only [Bool.and_eq_true] at hkk
  obtain ⟨rfl, rfl⟩ := hkk
  refine (Bed g s t A A' n c n' c' e f w).mono ?_
  rintro r w' ⟨rfl, hb⟩
  exact ⟨false, A, n, c, A', n', c', rfl, rfl, ha.below hb, ha'.below hb, hk.later hb, Bv hb _⟩
theorem Ff {w w4 w5 : World} {o : Option (Dy × Dy)} {A A' : Option Addr} {n c n' c' g k : Nat} {P : Int} {tw t : TypeId} (h1 : Arr w4 A n c (wd (o.getD (Dy.zero, Dy.zero)).1.m)) (h2 : Arr w4 A' n' c' (wd (o.getD (Dy.zero, Dy.zero)).2.m)) (hb : Box w4 k #[.bool false, .slice none 0 0, .int .i64 0, .bool false, .slice none 0 0, .int .i64 0] t)
  (hk : Wk w4 g P o.isNone tw) (hg : w.grownBy w4 (some g)) (hne : g ≠ k) (hkk : w.heap.size ≤ k) (g6 : w4.grownBy w5 (some k)) :
  Dx o g P tw w (.returned (.agg #[.bool (o.getD (Dy.zero, Dy.zero)).1.neg, .slice A n c, .int .i64 (o.getD (Dy.zero, Dy.zero)).1.e, .bool (o.getD (Dy.zero, Dy.zero)).2.neg, .slice A' n' c', .int .i64 (o.getD (Dy.zero, Dy.zero)).2.e])) w5 := by
 have no := no6 (a := .bool false) (b := .slice none 0 0) (c := .int .i64 0) (d := .bool false) (e := .slice none 0 0) (f := .int .i64 0) (by simp) (by simp) (by simp) (by simp) (by simp) (by simp)
 exact ⟨A, n, c, A', n', c', rfl, h1.grown hb no g6, h2.grown hb no g6, hk.other g6 hne, Cd hg g6 hkk⟩
theorem Da {w w' : World} {s : Bool} {A : Option Addr} {n c : Nat} {m f : Int} (ha : Arr w' A n c (wd m)) (hb : Below w.heap.size w w') :
  ∃ W k, W = w'.alloc (.cells #[.bool s, .slice A n c, .int .i64 f] 26) ∧ k = w'.heap.size ∧ Box W k #[.bool s, .slice A n c, .int .i64 f] 26 ∧ Arr W A n c (wd m) ∧ Below w.heap.size w W ∧ w.heap.size ≤ k :=
 ⟨_, _, rfl, rfl, Bg _ _ _, ha.below (Ba (Bb _) _), Ba hb _, hb.size⟩
theorem Fp {w w' : World} {s : Bool} {A : Option Addr} {n c : Nat} {m f : Int} (ha : Arr w' A n c (wd m)) (hb : Below w.heap.size w w') (hx : Box w' w.heap.size #[.bool false, .slice none 0 0, .int .i64 0] 26) :
  ∃ W k, W = (((w'.setCell ⟨w.heap.size, 0, none⟩ (.bool s)).setCell ⟨w.heap.size, 1, none⟩ (.slice A n c)).setCell ⟨w.heap.size, 2, none⟩ (.int .i64 f)) ∧ k = w.heap.size ∧ Box W k #[.bool s, .slice A n c, .int .i64 f] 26 ∧ Arr W A n c (wd m) ∧ Below w.heap.size w W ∧ w.heap.size ≤ k :=
 ⟨_, _, rfl, rfl, ((hx.set 0 _).set 1 _).set 2 _, ha.set3 hx _ _ _ (by simp) (by simp), Bo (Bo (Bo hb _ _ (Nat.le_refl _) _) _ _ (Nat.le_refl _) _) _ _ (Nat.le_refl _) _, Nat.le_refl _⟩
theorem Hp {w w' : World} {cs : Array Value} {t : TypeId} (hc : Below (w.alloc (.cells cs t)).drew.heap.size (w.alloc (.cells cs t)).drew w') : Box w' w.heap.size cs t :=
 (Bg w cs t).later (Bc (Below.drew (Bb _)) hc)
end Go.Proofs.YteffemhapnbaeaaGreatDoor
