/- Walks and laws that the claim's row needs. No conditions. -/
import Derived.Test.YteffemhapnbaeaaGreatDoorQak
import Derived.Test.YteffemhapnbaeaaGreatDoorQaj
import Derived.Laws.BitsLemmas
import Derived.Test.YteffemhapnbaeaaGreatDoorQag
import Derived.Test.YteffemhapnbaeaaGreatDoorQai
import Derived.Test.YteffemhapnbaeaaGreatDoorQad
import Derived.Laws.Tables
import Derived.Great.BuildSlice
import Derived.Test.YteffemhapnbaeaaGreatDoorQae
set_option maxHeartbeats 16000000
set_option linter.unusedSimpArgs false
set_option linter.unusedVariables false
namespace Go.Proofs.YteffemhapnbaeaaGreatDoor
open Go.RowKit Num
set_option maxRecDepth 100000
def Bcj (d : Dy) (w : World) (r : Ending) (w' : World) : Prop :=
 ∃ A n c, r = .returned (.agg #[.bool d.neg, .slice A n c, .int .i64 d.e]) ∧ Arr w' A n c (wd d.m) ∧ Below w.heap.size w w'
theorem Fo {w W : World} (h : Below w.heap.size w W) {g : Nat} (hg : w.heap.size ≤ g) {a b c : Value} : Below w.heap.size w (((W.setCell ⟨g, 0, none⟩ a).setCell ⟨g, 1, none⟩ b).setCell ⟨g, 2, none⟩ c) :=
 Bo (Bo (Bo h g 0 hg a) g 1 hg b) g 2 hg c
theorem rwide (neg : Bool) (A : Option Addr) (n c : Nat) (xs : List Int) (e : Int) (w : World) (h : Arr w A n c xs) (hn : n ≤ 15000) (he0 : -1000000000 ≤ e) (he1 : e ≤ 1000000000) :
  Calls Tryz.prog 112 #[.bool neg, .slice A n c, .int .i64 e] w (Bcj (Gv neg (val xs) e) w) := by
 have b0 : Below w.heap.size w (w.alloc (.cells #[.bool false, .slice none 0 0, .int .i64 0] 26)) := Ba (Bb w) _
 have bx := Bg w #[.bool false, .slice none 0 0, .int .i64 0] 26
 have T := Be (Lz A n c xs _ (h.below b0) (by omega))
 by_cases hv : val xs = 0
 ·have em : Gv neg (val xs) e = Dy.zero := by unfold Gv; rw [if_pos hv]
  rw [em]
  have HZ := Be (show wd (val xs) = [] by rw [hv]; exact wd_zero (Int.le_refl _))
  clear hv em
  go_enter Tryz.func112, Tryz.ntmps112
  go_wp2_with fail
  refine T.out.mono ?_
  rintro r w2 ⟨A2, n2, c2, rfl, hA2, hb2⟩
  have bw2 := Bc b0 hb2
  obtain ⟨k0, k1, k2, f0, f1, f2⟩ := (bx.later hb2).cell3
  rw [HZ.out] at hA2
  obtain rfl : n2 = 0 := hA2.len.symm
  go_wp2_with fail
  refine bodyPost_ret (v := .agg #[.bool false, .slice none 0 0, .int .i64 0]) (by simp [results, Tryz.results112, go_sem, k0, k1, k2]) rfl ⟨none, 0, 0, rfl, ?_, Fo bw2 (Nat.le_refl _)⟩
  have : wd Dy.zero.m = [] := wd_zero (Int.le_refl _)
  rw [this]; exact Arr.nothing _
 ·have hp : 0 < val xs := by have := h.val_nonneg; omega
  have hpos : 0 < (wd (val xs)).length := List.length_pos_iff.2 (wd_ne_nil hp)
  have hlen := wd_len h.wf
  rw [h.len] at hlen
  have hvX := val_wd (val xs) (by omega)
  have em : Gv neg (val xs) e = ⟨neg, oddI (val xs), e + tz (val xs)⟩ := by unfold Gv; rw [if_neg hv]
  rw [em]
  clear em
  go_enter Tryz.func112, Tryz.ntmps112
  go_wp2_with fail
  refine T.out.mono ?_
  rintro r w2 ⟨A2, n2, c2, rfl, hA2, hb2⟩
  have bw2 := Bc b0 hb2
  have bx2 := bx.later hb2
  have hx2 := hA2.arr
  have hn2 : n2 = (wd (val xs)).length := hA2.len.symm
  have d0 : ((n2 : Int) == 0) = false := beq_eq_false_iff_ne.2 (by omega)
  have htz : tz (val xs) < 64 * n2 := by
   have := tz_lt hx2.wf (by rw [hvX]; exact hp)
   rw [hvX, ← hn2] at this; exact this
  have hbit := fun (q r : Nat) (hq : q < n2) (hr : r < 64) => Yj hx2.wf (q := q) (by rw [← hn2]; exact hq) hr
  rw [hvX] at hbit
  have hev := fun z => Ss (v := val xs) (z := z) hp
  have hod := Bdi hp
  have SR := rshr A2 n2 c2 _ (tz (val xs) : Int) w2 hx2 (by omega) (by omega) (by omega)
  rw [Gs (by omega) (by omega), Int.toNat_natCast, hvX] at SR
  have eo : val xs / 2 ^ tz (val xs) = oddI (val xs) := rfl
  rw [eo] at SR
  clear eo
  have hW : IntKind.i64.wrap (e + (tz (val xs) : Int)) = e + (tz (val xs) : Int) := by rw [IntKind.wrap_i64]; omega
  have hz' : tz (val xs) < 960001 := by omega
  generalize wd (val xs) = X at *
  generalize tz (val xs) = z at *
  generalize oddI (val xs) = u at *
  have HB := Be hbit
  have HE := Be hev
  have HO := Be hod
  have SR := Be SR
  clear hbit hev hod hv hvX T hn2
  go_wp2_with fail
  go_loop [8] (fun v => ∃ k : Nat, k ≤ z ∧ v = .int .i64 k) (fun v => z - (intOf v).toNat)
  case atStart => exact ⟨0, Nat.zero_le _, rfl⟩
  case round =>
   obtain ⟨k, hk, rfl⟩ := hrel
   obtain ⟨q, r, hr, rfl⟩ : ∃ q r : Nat, r < 64 ∧ k = 64 * q + r := ⟨k / 64, k % 64, by omega, by omega⟩
   have hq : q < n2 := by omega
   obtain ⟨b, o, rfl, hlt, hc⟩ := hx2.mem (by omega)
   have k1 := hc q hq
   have hb := HB.out q r hq hr
   have q1 : ((64 * q + r : Nat) : Int) / 64 = q := by omega
   have q2 : ((64 * q + r : Nat) : Int) % 64 = r := by omega
   have x1 := hx2.words q
   rw [List.getD_eq_getElem?_getD] at x1
   have hnn : 0 ≤ X[q]?.getD 0 / 2 ^ r := Int.ediv_nonneg x1.1 (Int.le_of_lt (Int.pow_pos (by decide)))
   clear hc
   generalize hK : 64 * q + r = K at *
   have HK := Be hK
   clear hK
   by_cases hkz : K < z
   ·have he := HE.out K hkz
    rw [← hb] at he
    have hbb : (X[q]?.getD 0 / 2 ^ r % 2 == 0) = true := beq_iff_eq.2 he
    clear hb he
    go_wp2_with fail
    exact ⟨⟨K + 1, by omega, by go_num⟩, by simp only [intOf]; omega⟩
   ·obtain rfl : K = z := by omega
    have he := HO.out
    rw [← hb] at he
    have hbb : (X[q]?.getD 0 / 2 ^ r % 2 == 0) = false := beq_eq_false_iff_ne.2 (by omega)
    clear hb he
    go_wp2_with fail
    refine SR.out.mono ?_; rintro r' w5 ⟨A5, n5, c5, rfl, hA5, hb5⟩
    have bx5 := bx2.later hb5
    have bw5 := Bc bw2 hb5
    obtain ⟨k0, k1', k2, f0, f1, f2⟩ := bx5.cell3
    go_wp2_with fail
    refine bodyPost_ret (v := _) ?_ rfl ⟨A5, n5, c5, rfl, ?_, Fo bw5 (Nat.le_refl _)⟩
    ·simp [results, Tryz.results112, go_sem, k0, k1', k2]
     try exact ⟨rfl, rfl⟩
    ·exact hA5.set3 bx5 _ _ _ (by simp) (by simp)
theorem Be8 (p q : Bool) (A A' : Option Addr) (n c n' c' : Nat) (x y e f : Int) (w : World) (h : Arr w A n c (wd x)) (h' : Arr w A' n' c' (wd y)) (hx : 0 ≤ x) (hy : 0 ≤ y) (hn : n ≤ 1000000) (hn' : n' ≤ 1000000)
  (he0 : -1000000 ≤ e) (he1 : e ≤ 1000000) (hf0 : -1000000 ≤ f) (hf1 : f ≤ 1000000) (hd : x = 0 ∨ y = 0 ∨ (e - f ≤ 1048576 ∧ f - e ≤ 1048576)) (hp : x = 0 → p = false)
  (lx : (wd (lev x e (Ch x y e f))).length ≤ 14000) (ly : (wd (lev y f (Ch x y e f))).length ≤ 14000) :
  Calls Tryz.prog 78 #[.agg #[.bool p, .slice A n c, .int .i64 e], .agg #[.bool q, .slice A' n' c', .int .i64 f]] w (Bcj (Hh ⟨p, x, e⟩ ⟨q, y, f⟩) w) := by
 have b1 : Below w.heap.size w (((w.alloc (.cells #[.bool p, .slice A n c, .int .i64 e] 26)).alloc (.cells #[.bool q, .slice A' n' c', .int .i64 f] 26)).alloc (.cells #[.bool false, .slice none 0 0, .int .i64 0] 26)) := Ba (Ba (Ba (Bb w) _) _) _
 have H := h.below b1
 have H' := h'.below b1
 have bx := ((Bg w #[.bool p, .slice A n c, .int .i64 e] 26).later (Ba (Bb _) (.cells #[.bool q, .slice A' n' c', .int .i64 f] 26))).later (Ba (Bb _) (.cells #[.bool false, .slice none 0 0, .int .i64 0] 26))
 have by1 := (Bg (w.alloc (.cells #[.bool p, .slice A n c, .int .i64 e] 26)) #[.bool q, .slice A' n' c', .int .i64 f] 26).later (Ba (Bb _) (.cells #[.bool false, .slice none 0 0, .int .i64 0] 26))
 rw [show (w.alloc (.cells #[.bool p, .slice A n c, .int .i64 e] 26)).heap.size = w.heap.size + 1 by simp] at by1
 have br := Bg ((w.alloc (.cells #[.bool p, .slice A n c, .int .i64 e] 26)).alloc (.cells #[.bool q, .slice A' n' c', .int .i64 f] 26)) #[.bool false, .slice none 0 0, .int .i64 0] 26
 rw [show ((w.alloc (.cells #[.bool p, .slice A n c, .int .i64 e] 26)).alloc (.cells #[.bool q, .slice A' n' c', .int .i64 f] 26)).heap.size = w.heap.size + 1 + 1 by simp] at br
 have KW : ∀ w3, Below (((w.alloc (.cells #[.bool p, .slice A n c, .int .i64 e] 26)).alloc (.cells #[.bool q, .slice A' n' c', .int .i64 f] 26)).alloc (.cells #[.bool false, .slice none 0 0, .int .i64 0] 26)).heap.size (((w.alloc (.cells #[.bool p, .slice A n c, .int .i64 e] 26)).alloc (.cells #[.bool q, .slice A' n' c', .int .i64 f] 26)).alloc (.cells #[.bool false, .slice none 0 0, .int .i64 0] 26)) w3 → Zw w3 w.heap.size p q A A' n c n' c' e f := fun w3 hb => ⟨⟨(bx.later hb).cell3, (by1.later hb).cell3⟩, br.later hb⟩
 have KW := Be KW
 clear bx by1 br
 (obtain ⟨⟨k0, k1, k2, f0, f1, f2⟩, ⟨j0, j1, j2, g0, g1, g2⟩⟩ := (KW.out _ (Bb _)).two)
 have SD := fun w3 (hb : Below (((w.alloc (.cells #[.bool p, .slice A n c, .int .i64 e] 26)).alloc (.cells #[.bool q, .slice A' n' c', .int .i64 f] 26)).alloc (.cells #[.bool false, .slice none 0 0, .int .i64 0] 26)).heap.size (((w.alloc (.cells #[.bool p, .slice A n c, .int .i64 e] 26)).alloc (.cells #[.bool q, .slice A' n' c', .int .i64 f] 26)).alloc (.cells #[.bool false, .slice none 0 0, .int .i64 0] 26)) w3) => Beh p q A A' n c n' c' x y e f w3 (H.below hb) (H'.below hb) hx hy hn hn' (by omega) (by omega) (by omega) (by omega) hd
 have hg : -1000000 ≤ Ch x y e f ∧ Ch x y e f ≤ 1000000 := by unfold Ch; split; exact ⟨hf0, hf1⟩; split; exact ⟨he0, he1⟩; omega
 have ex : Hh ⟨p, x, e⟩ ⟨q, y, f⟩ = Ca (sgn p (lev x e (Ch x y e f)) + sgn q (lev y f (Ch x y e f))) (Ch x y e f) := rfl
 rw [ex]
 clear ex
 have nx := Dz hx e (Ch x y e f)
 have ny := Dz hy f (Ch x y e f)
 have hpz : lev x e (Ch x y e f) = 0 → p = false := fun hz => hp (by
  by_cases h0 : x = 0
  ·exact h0
  ·have := Vd (show 0 < x by omega) e (Ch x y e f); omega)
 generalize lev x e (Ch x y e f) = X at *
 generalize lev y f (Ch x y e f) = Y at *
 generalize Ch x y e f = g at *
 have vX := val_wd X nx
 have vY := val_wd Y ny
 have SD := Be SD
 have ADD : ∀ A1 n1 c1 A2 n2 c2 w3, Arr w3 A1 n1 c1 (wd X) → Arr w3 A2 n2 c2 (wd Y) → Calls Tryz.prog 110 #[.slice A1 n1 c1, .slice A2 n2 c2] w3 fun r w' => ∃ A3 n3 c3, r = .returned (.slice A3 n3 c3) ∧ Arr w' A3 n3 c3 (wd (X + Y)) ∧ Below w3.heap.size w3 w' := by
  intro A1 n1 c1 A2 n2 c2 w3 a1 a2
  have l1 := a1.len
  have l2 := a2.len
  have S := radd A1 A2 n1 c1 n2 c2 _ _ w3 a1 a2 (by omega) (by omega)
  rw [vX, vY] at S
  refine S.mono ?_
  rintro r w' ⟨A3, n3, c3, rfl, h3, hb⟩
  exact ⟨A3, n3, c3, rfl, h3.arr, hb⟩
 have ADD := Be ADD
 have CMP : ∀ A1 n1 c1 A2 n2 c2 w3, Arr w3 A1 n1 c1 (wd X) → Arr w3 A2 n2 c2 (wd Y) → Calls Tryz.prog 96 #[.slice A1 n1 c1, .slice A2 n2 c2] w3 fun r w' => r = .returned (.int .i64 (Cs X Y)) ∧ Below w3.heap.size w3 w' := by
  intro A1 n1 c1 A2 n2 c2 w3 a1 a2
  have l1 := a1.len
  have l2 := a2.len
  have S := Beb A1 A2 n1 c1 n2 c2 _ _ w3 a1 a2 (by omega) (by omega)
  rw [vX, vY] at S
  exact S
 have SUB : ∀ (U V : Int), 0 ≤ U → 0 ≤ V → V ≤ U → (wd U).length ≤ 14000 → (wd V).length ≤ 14000 → ∀ A1 n1 c1 A2 n2 c2 w3, Arr w3 A1 n1 c1 (wd U) → Arr w3 A2 n2 c2 (wd V) → Calls Tryz.prog 111 #[.slice A1 n1 c1, .slice A2 n2 c2] w3 fun r w' => ∃ A3 n3 c3, r = .returned (.tuple #[.slice A3 n3 c3, .bool true]) ∧ Arr w' A3 n3 c3 (wd (U - V)) ∧ Below w3.heap.size w3 w' := by
  intro U V hU hV hle lU lV A1 n1 c1 A2 n2 c2 w3 a1 a2
  have l1 := a1.len
  have l2 := a2.len
  have S := rsub A1 A2 n1 c1 n2 c2 _ _ w3 a1 a2 (by omega) (by omega)
  unfold Ut at S
  rw [val_wd U hU, val_wd V hV, decide_eq_true hle, if_pos hle] at S
  refine S.mono ?_
  rintro r w' ⟨A3, n3, c3, rfl, h3, hb⟩
  exact ⟨A3, n3, c3, rfl, h3.arr, hb⟩
 have WIDE : ∀ (ng : Bool) (v : Int) (o : Dy), 0 ≤ v → (wd v).length ≤ 15000 → Gv ng v g = o → ∀ A3 n3 c3 w4, Arr w4 A3 n3 c3 (wd v) → Calls Tryz.prog 112 #[.bool ng, .slice A3 n3 c3, .int .i64 g] w4 (Bcj o w4) := by
  intro ng v o hv hvl ho A3 n3 c3 w4 a3
  have l3 := a3.len
  have S := rwide ng A3 n3 c3 _ g w4 a3 (by omega) (by omega) (by omega)
  rw [val_wd v hv, ho] at S
  exact S
 have lXY : (wd (X + Y)).length ≤ 14001 := by
  have := Tt (wf_wd X nx) (wf_wd Y ny) (k := 14000) lx ly
  rw [vX, vY] at this
  omega
 have CMP := Be CMP
 have WIDE := Be WIDE
 by_cases hX : X = 0
 ·obtain rfl := hpz hX
  have o1 := Sj (p := false) (q := q) g nx ny (fun _ => rfl) (.inl hX)
  rw [decide_eq_true hX, Bool.true_and, Bool.false_or] at o1
  generalize Ca (sgn false X + sgn q Y) g = o at *
  have hw0 : (wd X).length = 0 := by rw [hX, wd_zero (Int.le_refl _)]; rfl
  have WI := Be (WIDE.out q (X + Y) o (by omega) (by omega) o1)
  clear o1 hX SUB CMP WIDE vX vY
  (go_enter Tryz.func78, Tryz.ntmps78; go_wp2_with fail; refine (SD.out _ (Bb _)).mono ?_; rintro r w3 ⟨A1, n1, c1, A2, n2, c2, rfl, ha1, ha2, hb3⟩; (clear k0 k1 k2 f0 f1 f2 j0 j1 j2 g0 g1 g2); (obtain ⟨⟨k0, k1, k2, f0, f1, f2⟩, ⟨j0, j1, j2, g0, g1, g2⟩⟩ := (KW.out _ hb3).two); go_wp2_with fail; have AD := ADD.out A1 n1 c1 A2 n2 c2 w3 ha1 ha2; refine AD.mono ?_; rintro r w4 ⟨A3, n3, c3, rfl, ha3, hc4⟩; clear AD; have hb4 := Bc hb3 hc4; have ha1 := ha1.below hc4; have ha2 := ha2.below hc4; clear hc4; (clear k0 k1 k2 f0 f1 f2 j0 j1 j2 g0 g1 g2); (obtain ⟨⟨k0, k1, k2, f0, f1, f2⟩, ⟨j0, j1, j2, g0, g1, g2⟩⟩ := (KW.out _ hb4).two); have m1 := ha1.len; have m2 := ha2.len)
  have hn1 : n1 = 0 := by omega
  subst hn1
  go_wp2_with fail
  have hbz := hb4
  refine (WI.out _ _ _ _ ha3).mono ?_
  (rintro r w9 ⟨A9, n9, c9, rfl, h9, hc9⟩; have hb9 := Bc hbz hc9; have br9 := (KW.out w9 hb9).res; obtain ⟨u0, u1, u2, u3, u4, u5⟩ := br9.cell3; go_wp2_with fail; refine bodyPost_ret (v := _) ?_ rfl ⟨A9, n9, c9, rfl, ?_, Fo (Bc b1 hb9) (by omega)⟩; (· simp [results, Tryz.results78, go_sem, u0, u1, u2]; try exact ⟨rfl, rfl⟩); (· exact h9.set3 br9 _ _ _ (by simp) (by simp)))
 ·have hX0 : 0 < X := by omega
  have hlX : 0 < (wd X).length := List.length_pos_iff.2 (wd_ne_nil hX0)
  by_cases hY : Y = 0
  ·have o1 := Sj (p := p) (q := q) g nx ny (fun hz => absurd hz hX) (.inr (.inl hY))
   rw [decide_eq_false hX, Bool.false_and, Bool.or_false] at o1
   generalize Ca (sgn p X + sgn q Y) g = o at *
   have hw0 : (wd Y).length = 0 := by rw [hY, wd_zero (Int.le_refl _)]; rfl
   have WI := Be (WIDE.out p (X + Y) o (by omega) (by omega) o1)
   clear o1 hX hY SUB CMP WIDE vX vY
   cases p
   all_goals
    (go_enter Tryz.func78, Tryz.ntmps78; go_wp2_with fail; refine (SD.out _ (Bb _)).mono ?_; rintro r w3 ⟨A1, n1, c1, A2, n2, c2, rfl, ha1, ha2, hb3⟩; (clear k0 k1 k2 f0 f1 f2 j0 j1 j2 g0 g1 g2); (obtain ⟨⟨k0, k1, k2, f0, f1, f2⟩, ⟨j0, j1, j2, g0, g1, g2⟩⟩ := (KW.out _ hb3).two); go_wp2_with fail; have AD := ADD.out A1 n1 c1 A2 n2 c2 w3 ha1 ha2; refine AD.mono ?_; rintro r w4 ⟨A3, n3, c3, rfl, ha3, hc4⟩; clear AD; have hb4 := Bc hb3 hc4; have ha1 := ha1.below hc4; have ha2 := ha2.below hc4; clear hc4; (clear k0 k1 k2 f0 f1 f2 j0 j1 j2 g0 g1 g2); (obtain ⟨⟨k0, k1, k2, f0, f1, f2⟩, ⟨j0, j1, j2, g0, g1, g2⟩⟩ := (KW.out _ hb4).two); have m1 := ha1.len; have m2 := ha2.len)
    have hn2 : n2 = 0 := by omega
    subst hn2
    have d1 : ((n1 : Int) == 0) = false := beq_eq_false_iff_ne.2 (by omega)
    have d2 : decide ((n1 : Int) > 0) = true := by simp; omega
    go_wp2_with fail
    have hbz := hb4
    refine (WI.out _ _ _ _ ha3).mono ?_
    (rintro r w9 ⟨A9, n9, c9, rfl, h9, hc9⟩; have hb9 := Bc hbz hc9; have br9 := (KW.out w9 hb9).res; obtain ⟨u0, u1, u2, u3, u4, u5⟩ := br9.cell3; go_wp2_with fail; refine bodyPost_ret (v := _) ?_ rfl ⟨A9, n9, c9, rfl, ?_, Fo (Bc b1 hb9) (by omega)⟩; (· simp [results, Tryz.results78, go_sem, u0, u1, u2]; try exact ⟨rfl, rfl⟩); (· exact h9.set3 br9 _ _ _ (by simp) (by simp)))
  ·have hY0 : 0 < Y := by omega
   have hlY : 0 < (wd Y).length := List.length_pos_iff.2 (wd_ne_nil hY0)
   by_cases hpq : p = q
   ·have o1 := Sj (p := p) (q := q) g nx ny (fun hz => absurd hz hX) (.inr (.inr hpq))
    rw [decide_eq_false hX, Bool.false_and, Bool.or_false] at o1
    generalize Ca (sgn p X + sgn q Y) g = o at *
    have WI := Be (WIDE.out p (X + Y) o (by omega) (by omega) o1)
    clear o1 hX hY SUB CMP WIDE vX vY
    cases p <;> cases q
    ·clear hpq
     (go_enter Tryz.func78, Tryz.ntmps78; go_wp2_with fail; refine (SD.out _ (Bb _)).mono ?_; rintro r w3 ⟨A1, n1, c1, A2, n2, c2, rfl, ha1, ha2, hb3⟩; (clear k0 k1 k2 f0 f1 f2 j0 j1 j2 g0 g1 g2); (obtain ⟨⟨k0, k1, k2, f0, f1, f2⟩, ⟨j0, j1, j2, g0, g1, g2⟩⟩ := (KW.out _ hb3).two); go_wp2_with fail; have AD := ADD.out A1 n1 c1 A2 n2 c2 w3 ha1 ha2; refine AD.mono ?_; rintro r w4 ⟨A3, n3, c3, rfl, ha3, hc4⟩; clear AD; have hb4 := Bc hb3 hc4; have ha1 := ha1.below hc4; have ha2 := ha2.below hc4; clear hc4; (clear k0 k1 k2 f0 f1 f2 j0 j1 j2 g0 g1 g2); (obtain ⟨⟨k0, k1, k2, f0, f1, f2⟩, ⟨j0, j1, j2, g0, g1, g2⟩⟩ := (KW.out _ hb4).two); have m1 := ha1.len; have m2 := ha2.len)
     have d1 : ((n1 : Int) == 0) = false := beq_eq_false_iff_ne.2 (by omega)
     have d2 : decide ((n1 : Int) > 0) = true := by simp; omega
     have d3 : decide ((n2 : Int) > 0) = true := by simp; omega
     go_wp2_with fail
     have hbz := hb4
     refine (WI.out _ _ _ _ ha3).mono ?_
     (rintro r w9 ⟨A9, n9, c9, rfl, h9, hc9⟩; have hb9 := Bc hbz hc9; have br9 := (KW.out w9 hb9).res; obtain ⟨u0, u1, u2, u3, u4, u5⟩ := br9.cell3; go_wp2_with fail; refine bodyPost_ret (v := _) ?_ rfl ⟨A9, n9, c9, rfl, ?_, Fo (Bc b1 hb9) (by omega)⟩; (· simp [results, Tryz.results78, go_sem, u0, u1, u2]; try exact ⟨rfl, rfl⟩); (· exact h9.set3 br9 _ _ _ (by simp) (by simp)))
    ·cases hpq
    ·cases hpq
    ·clear hpq
     (go_enter Tryz.func78, Tryz.ntmps78; go_wp2_with fail; refine (SD.out _ (Bb _)).mono ?_; rintro r w3 ⟨A1, n1, c1, A2, n2, c2, rfl, ha1, ha2, hb3⟩; (clear k0 k1 k2 f0 f1 f2 j0 j1 j2 g0 g1 g2); (obtain ⟨⟨k0, k1, k2, f0, f1, f2⟩, ⟨j0, j1, j2, g0, g1, g2⟩⟩ := (KW.out _ hb3).two); go_wp2_with fail; have AD := ADD.out A1 n1 c1 A2 n2 c2 w3 ha1 ha2; refine AD.mono ?_; rintro r w4 ⟨A3, n3, c3, rfl, ha3, hc4⟩; clear AD; have hb4 := Bc hb3 hc4; have ha1 := ha1.below hc4; have ha2 := ha2.below hc4; clear hc4; (clear k0 k1 k2 f0 f1 f2 j0 j1 j2 g0 g1 g2); (obtain ⟨⟨k0, k1, k2, f0, f1, f2⟩, ⟨j0, j1, j2, g0, g1, g2⟩⟩ := (KW.out _ hb4).two); have m1 := ha1.len; have m2 := ha2.len)
     have d1 : ((n1 : Int) == 0) = false := beq_eq_false_iff_ne.2 (by omega)
     have d2 : decide ((n1 : Int) > 0) = true := by simp; omega
     have d3 : decide ((n2 : Int) > 0) = true := by simp; omega
     go_wp2_with fail
     have hbz := hb4
     refine (WI.out _ _ _ _ ha3).mono ?_
     (rintro r w9 ⟨A9, n9, c9, rfl, h9, hc9⟩; have hb9 := Bc hbz hc9; have br9 := (KW.out w9 hb9).res; obtain ⟨u0, u1, u2, u3, u4, u5⟩ := br9.cell3; go_wp2_with fail; refine bodyPost_ret (v := _) ?_ rfl ⟨A9, n9, c9, rfl, ?_, Fo (Bc b1 hb9) (by omega)⟩; (· simp [results, Tryz.results78, go_sem, u0, u1, u2]; try exact ⟨rfl, rfl⟩); (· exact h9.set3 br9 _ _ _ (by simp) (by simp)))
   ·obtain ⟨o1, o2⟩ := Bb2 (x := X) (y := Y) g hpq
    have hqq : q = !p := by cases p <;> cases q <;> simp_all
    subst hqq
    generalize Ca (sgn p X + sgn (!p) Y) g = o at *
    clear hpq
    by_cases hle : Y ≤ X
    ·have SB := Be (SUB X Y nx ny hle lx ly)
     have lS : (wd (X - Y)).length ≤ 15000 := Nat.le_trans (Vy (by omega) (by omega : X - Y ≤ X)) (by omega)
     have WI := Be (WIDE.out p (X - Y) o (by omega) lS (o1 hle))
     have hc : 0 ≤ Cs X Y := by unfold Cs; rw [if_neg (by omega)]; split <;> omega
     generalize Cs X Y = cc at *
     have dc : decide (cc ≥ 0) = true := decide_eq_true hc
     clear o1 o2 hX hY SUB WIDE vX vY hle
     cases p
     all_goals
      (go_enter Tryz.func78, Tryz.ntmps78; go_wp2_with fail; refine (SD.out _ (Bb _)).mono ?_; rintro r w3 ⟨A1, n1, c1, A2, n2, c2, rfl, ha1, ha2, hb3⟩; (clear k0 k1 k2 f0 f1 f2 j0 j1 j2 g0 g1 g2); (obtain ⟨⟨k0, k1, k2, f0, f1, f2⟩, ⟨j0, j1, j2, g0, g1, g2⟩⟩ := (KW.out _ hb3).two); go_wp2_with fail; have AD := ADD.out A1 n1 c1 A2 n2 c2 w3 ha1 ha2; refine AD.mono ?_; rintro r w4 ⟨A3, n3, c3, rfl, ha3, hc4⟩; clear AD; have hb4 := Bc hb3 hc4; have ha1 := ha1.below hc4; have ha2 := ha2.below hc4; clear hc4; (clear k0 k1 k2 f0 f1 f2 j0 j1 j2 g0 g1 g2); (obtain ⟨⟨k0, k1, k2, f0, f1, f2⟩, ⟨j0, j1, j2, g0, g1, g2⟩⟩ := (KW.out _ hb4).two); have m1 := ha1.len; have m2 := ha2.len)
      have d1 : ((n1 : Int) == 0) = false := beq_eq_false_iff_ne.2 (by omega)
      have d2 : decide ((n1 : Int) > 0) = true := by simp; omega
      have d3 : decide ((n2 : Int) > 0) = true := by simp; omega
      go_wp2_with fail
      refine (CMP.out _ _ _ _ _ _ _ ha1 ha2).mono ?_; rintro r w5 ⟨rfl, hc5⟩
      have hb5 := Bc hb4 hc5
      have ha1 := ha1.below hc5
      have ha2 := ha2.below hc5
      clear hc5
      (clear k0 k1 k2 f0 f1 f2 j0 j1 j2 g0 g1 g2)
      (obtain ⟨⟨k0, k1, k2, f0, f1, f2⟩, ⟨j0, j1, j2, g0, g1, g2⟩⟩ := (KW.out _ hb5).two)
      go_wp2_with fail
      refine (SB.out _ _ _ _ _ _ _ ha1 ha2).mono ?_; rintro r w6 ⟨A6, n6, c6, rfl, ha6, hc6⟩
      have hbz := Bc hb5 hc6
      clear hc6
      (clear k0 k1 k2 f0 f1 f2 j0 j1 j2 g0 g1 g2)
      (obtain ⟨⟨k0, k1, k2, f0, f1, f2⟩, ⟨j0, j1, j2, g0, g1, g2⟩⟩ := (KW.out _ hbz).two)
      go_wp2_with fail
      refine (WI.out _ _ _ _ ha6).mono ?_
      (rintro r w9 ⟨A9, n9, c9, rfl, h9, hc9⟩; have hb9 := Bc hbz hc9; have br9 := (KW.out w9 hb9).res; obtain ⟨u0, u1, u2, u3, u4, u5⟩ := br9.cell3; go_wp2_with fail; refine bodyPost_ret (v := _) ?_ rfl ⟨A9, n9, c9, rfl, ?_, Fo (Bc b1 hb9) (by omega)⟩; (· simp [results, Tryz.results78, go_sem, u0, u1, u2]; try exact ⟨rfl, rfl⟩); (· exact h9.set3 br9 _ _ _ (by simp) (by simp)))
    ·have hle' : X ≤ Y := by omega
     have SB := Be (SUB Y X ny nx hle' ly lx)
     have lS : (wd (Y - X)).length ≤ 15000 := Nat.le_trans (Vy (by omega) (by omega : Y - X ≤ Y)) (by omega)
     have WI := Be (WIDE.out (!p) (Y - X) o (by omega) lS (o2 hle'))
     have hc : Cs X Y = -1 := Gk (by omega)
     rw [hc] at CMP
     clear o1 o2 hX hY SUB WIDE vX vY hle hc
     cases p
     all_goals
      (go_enter Tryz.func78, Tryz.ntmps78; go_wp2_with fail; refine (SD.out _ (Bb _)).mono ?_; rintro r w3 ⟨A1, n1, c1, A2, n2, c2, rfl, ha1, ha2, hb3⟩; (clear k0 k1 k2 f0 f1 f2 j0 j1 j2 g0 g1 g2); (obtain ⟨⟨k0, k1, k2, f0, f1, f2⟩, ⟨j0, j1, j2, g0, g1, g2⟩⟩ := (KW.out _ hb3).two); go_wp2_with fail; have AD := ADD.out A1 n1 c1 A2 n2 c2 w3 ha1 ha2; refine AD.mono ?_; rintro r w4 ⟨A3, n3, c3, rfl, ha3, hc4⟩; clear AD; have hb4 := Bc hb3 hc4; have ha1 := ha1.below hc4; have ha2 := ha2.below hc4; clear hc4; (clear k0 k1 k2 f0 f1 f2 j0 j1 j2 g0 g1 g2); (obtain ⟨⟨k0, k1, k2, f0, f1, f2⟩, ⟨j0, j1, j2, g0, g1, g2⟩⟩ := (KW.out _ hb4).two); have m1 := ha1.len; have m2 := ha2.len)
      have d1 : ((n1 : Int) == 0) = false := beq_eq_false_iff_ne.2 (by omega)
      have d2 : decide ((n1 : Int) > 0) = true := by simp; omega
      have d3 : decide ((n2 : Int) > 0) = true := by simp; omega
      go_wp2_with fail
      refine (CMP.out _ _ _ _ _ _ _ ha1 ha2).mono ?_; rintro r w5 ⟨rfl, hc5⟩
      have hb5 := Bc hb4 hc5
      have ha1 := ha1.below hc5
      have ha2 := ha2.below hc5
      clear hc5
      (clear k0 k1 k2 f0 f1 f2 j0 j1 j2 g0 g1 g2)
      (obtain ⟨⟨k0, k1, k2, f0, f1, f2⟩, ⟨j0, j1, j2, g0, g1, g2⟩⟩ := (KW.out _ hb5).two)
      go_wp2_with fail
      refine (SB.out _ _ _ _ _ _ _ ha2 ha1).mono ?_; rintro r w6 ⟨A6, n6, c6, rfl, ha6, hc6⟩
      have hbz := Bc hb5 hc6
      clear hc6
      (clear k0 k1 k2 f0 f1 f2 j0 j1 j2 g0 g1 g2)
      (obtain ⟨⟨k0, k1, k2, f0, f1, f2⟩, ⟨j0, j1, j2, g0, g1, g2⟩⟩ := (KW.out _ hbz).two)
      go_wp2_with fail
      refine (WI.out _ _ _ _ ha6).mono ?_
      (rintro r w9 ⟨A9, n9, c9, rfl, h9, hc9⟩; have hb9 := Bc hbz hc9; have br9 := (KW.out w9 hb9).res; obtain ⟨u0, u1, u2, u3, u4, u5⟩ := br9.cell3; go_wp2_with fail; refine bodyPost_ret (v := _) ?_ rfl ⟨A9, n9, c9, rfl, ?_, Fo (Bc b1 hb9) (by omega)⟩; (· simp [results, Tryz.results78, go_sem, u0, u1, u2]; try exact ⟨rfl, rfl⟩); (· exact h9.set3 br9 _ _ _ (by simp) (by simp)))
def DV.dy (d : DV) : Dy := ⟨d.neg, val d.xs, d.e⟩
def tot (L : Int) (l : List DV) : Int := l.foldl (fun a d => a + Fh d.dy L) 0
theorem Bjk (L : Int) (l : List DV) (h : ∀ d ∈ l, d.n = 0 → val d.xs = 0) : ∀ a b, l.foldl (fun a d => a + Fh d.dy L) (a - b) = l.foldl (smF false L) a - l.foldl (smF true L) b := by
 induction l with
 | nil => intro a b; rfl
 | cons d l ih =>
  intro a b
  simp only [List.foldl_cons]
  have ih' := ih (fun x hx => h x (List.mem_cons_of_mem _ hx))
  have hz := h d List.mem_cons_self
  have hs : Fh d.dy L = sgn d.neg (val d.xs * 2 ^ (d.e - L).toNat) := rfl
  have u1 : smF false L a d = if d.n = 0 then a else if d.neg = false then a + val d.xs * 2 ^ (d.e - L).toNat else a := rfl
  have u2 : smF true L b d = if d.n = 0 then b else if d.neg = true then b + val d.xs * 2 ^ (d.e - L).toNat else b := rfl
  rw [u1, u2]
  by_cases hn : d.n = 0
  ·rw [if_pos hn, if_pos hn, hs, hz hn, Int.zero_mul, Lc, Int.add_zero]
   exact ih' a b
  ·rw [if_neg hn, if_neg hn, hs]
   cases d.neg
   ·simp only [sgn, Bool.false_eq_true, if_false, if_true]
    have := ih' (a + val d.xs * 2 ^ (d.e - L).toNat) b
    rw [← this]
    congr 1
    omega
   ·simp only [sgn, Bool.false_eq_true, if_false, if_true, reduceCtorEq]
    have := ih' a (b + val d.xs * 2 ^ (d.e - L).toNat)
    rw [← this]
    congr 1
    omega
theorem Bfy {l : List DV} (hp : l.all DV.plain = true) (h : ∀ d ∈ l, d.n = 0 → val d.xs = 0) (h0 : -262144 ≤ lo l) (h1 : lo l ≤ 262144) :
  To l = if hi l - lo l > 262144 then none else if Bq (Ca (tot (lo l) l) (lo l)).neg (wd (Ca (tot (lo l) l) (lo l)).m) (Ca (tot (lo l) l) (lo l)).e then some (Ca (tot (lo l) l) (lo l)) else none := by
 unfold To
 rw [hp]
 simp only [if_true]
 congr 1
 rw [← Bff _ h0 h1]
 have ht : tot (lo l) l = sm false (lo l) l - sm true (lo l) l := by
  have := Bjk (lo l) l h 0 0
  rw [Int.sub_self] at this
  exact this
 rw [ht]
 by_cases hle : sm true (lo l) l ≤ sm false (lo l) l
 ·rw [if_pos hle, decide_eq_false (by omega)]
  congr 1
  omega
 ·rw [if_neg hle, decide_eq_true (by omega)]
  congr 1
  omega
set_option maxRecDepth 100000
theorem Zb {a b : Int} {m n : Nat} (h1 : a < B ^ m) (h2 : b < B ^ n) (ha : 0 ≤ a) (hb : 0 ≤ b) : a * b < B ^ (m + n) := by
 rw [Int.pow_add]
 have h3 : a * b ≤ a * B ^ n := Int.mul_le_mul_of_nonneg_left (Int.le_of_lt h2) ha
 have h4 : a * B ^ n < B ^ m * B ^ n := Int.mul_lt_mul_of_pos_right h1 (B_pow_pos n)
 omega
theorem Bj5 (p q : Bool) (A A' : Option Addr) (n c n' c' : Nat) (xs ys : List Int) (e f : Int) (w : World) (h : Arr w A n c xs) (h' : Arr w A' n' c' ys) (hn : n ≤ 100000) (hn' : n' ≤ 100000) :
  Calls Tryz.prog 49 #[.agg #[.bool p, .slice A n c, .int .i64 e], .agg #[.bool q, .slice A' n' c', .int .i64 f]] w (He (Lr p q xs ys e f) w) := by
 have b1 : Below w.heap.size w (((w.alloc (.cells #[.bool p, .slice A n c, .int .i64 e] 26)).alloc (.cells #[.bool q, .slice A' n' c', .int .i64 f] 26)).alloc (.cells #[.bool false, .slice none 0 0, .int .i64 0] 26)) := Ba (Ba (Ba (Bb w) _) _) _
 have H := h.below b1
 have H' := h'.below b1
 have bx := ((Bg w #[.bool p, .slice A n c, .int .i64 e] 26).later (Ba (Bb _) (.cells #[.bool q, .slice A' n' c', .int .i64 f] 26))).later (Ba (Bb _) (.cells #[.bool false, .slice none 0 0, .int .i64 0] 26))
 have by1 := (Bg (w.alloc (.cells #[.bool p, .slice A n c, .int .i64 e] 26)) #[.bool q, .slice A' n' c', .int .i64 f] 26).later (Ba (Bb _) (.cells #[.bool false, .slice none 0 0, .int .i64 0] 26))
 rw [show (w.alloc (.cells #[.bool p, .slice A n c, .int .i64 e] 26)).heap.size = w.heap.size + 1 by simp] at by1
 have br := Bg ((w.alloc (.cells #[.bool p, .slice A n c, .int .i64 e] 26)).alloc (.cells #[.bool q, .slice A' n' c', .int .i64 f] 26)) #[.bool false, .slice none 0 0, .int .i64 0] 26
 rw [show ((w.alloc (.cells #[.bool p, .slice A n c, .int .i64 e] 26)).alloc (.cells #[.bool q, .slice A' n' c', .int .i64 f] 26)).heap.size = w.heap.size + 1 + 1 by simp] at br
 have KW : ∀ w3, Below (((w.alloc (.cells #[.bool p, .slice A n c, .int .i64 e] 26)).alloc (.cells #[.bool q, .slice A' n' c', .int .i64 f] 26)).alloc (.cells #[.bool false, .slice none 0 0, .int .i64 0] 26)).heap.size (((w.alloc (.cells #[.bool p, .slice A n c, .int .i64 e] 26)).alloc (.cells #[.bool q, .slice A' n' c', .int .i64 f] 26)).alloc (.cells #[.bool false, .slice none 0 0, .int .i64 0] 26)) w3 → Zw w3 w.heap.size p q A A' n c n' c' e f := fun w3 hb => ⟨⟨(bx.later hb).cell3, (by1.later hb).cell3⟩, br.later hb⟩
 have KW := Be KW
 clear bx by1 br
 (obtain ⟨⟨k0, k1, k2, f0, f1, f2⟩, ⟨j0, j1, j2, g0, g1, g2⟩⟩ := (KW.out _ (Bb _)).two)
 have PX := Kd p A n c xs e _ H (by omega)
 have PY := fun w3 (hb : Below (((w.alloc (.cells #[.bool p, .slice A n c, .int .i64 e] 26)).alloc (.cells #[.bool q, .slice A' n' c', .int .i64 f] 26)).alloc (.cells #[.bool false, .slice none 0 0, .int .i64 0] 26)).heap.size (((w.alloc (.cells #[.bool p, .slice A n c, .int .i64 e] 26)).alloc (.cells #[.bool q, .slice A' n' c', .int .i64 f] 26)).alloc (.cells #[.bool false, .slice none 0 0, .int .i64 0] 26)) w3) => Kd q A' n' c' ys f w3 (H'.below hb) (by omega)
 cases hp : Bq p xs e
 ·rw [hp] at PX
  have PX := Be PX
  have er : Lr p q xs ys e f = none := by unfold Lr; rw [hp]; rfl
  rw [er]
  clear er
  go_enter Tryz.func49, Tryz.ntmps49
  go_wp2_with fail
  refine PX.out.mono ?_; rintro r w3 ⟨rfl, hb3⟩
  have hw3 := Bc b1 hb3
  have br3 := (KW.out w3 hb3).res
  obtain ⟨z0, z1, z2, y0, y1, y2⟩ := br3.cell3
  go_wp2_with fail
  (refine bodyPost_ret (v := .tuple #[.agg #[.bool false, .slice none 0 0, .int .i64 0], .bool false]) (by simp [results, Tryz.results49, go_sem, z0, z1, z2]) rfl ?_; exact Bu (o := none) (Dj _) br3 hw3 (by omega))
 rw [hp] at PX
 have PX := Be PX
 cases hq : Bq q ys f
 ·rw [hq] at PY
  have PY := Be PY
  have er : Lr p q xs ys e f = none := by unfold Lr; rw [hp, hq]; rfl
  rw [er]
  clear er
  go_enter Tryz.func49, Tryz.ntmps49
  go_wp2_with fail
  refine PX.out.mono ?_; rintro r w3 ⟨rfl, hb3⟩
  (clear k0 k1 k2 f0 f1 f2 j0 j1 j2 g0 g1 g2)
  (obtain ⟨⟨k0, k1, k2, f0, f1, f2⟩, ⟨j0, j1, j2, g0, g1, g2⟩⟩ := (KW.out _ hb3).two)
  go_wp2_with fail
  refine (PY.out _ hb3).mono ?_; rintro r w4 ⟨rfl, hb4⟩
  have hb4 := Bc hb3 hb4
  have hw3 := Bc b1 hb4
  have br3 := (KW.out w4 hb4).res
  obtain ⟨z0, z1, z2, y0, y1, y2⟩ := br3.cell3
  go_wp2_with fail
  (refine bodyPost_ret (v := .tuple #[.agg #[.bool false, .slice none 0 0, .int .i64 0], .bool false]) (by simp [results, Tryz.results49, go_sem, z0, z1, z2]) rfl ?_; exact Bu (o := none) (Dj _) br3 hw3 (by omega))
 rw [hq] at PY
 have PY := Be PY
 obtain ⟨pd1, l1, -, -⟩ := Bm h.wf hp
 obtain ⟨pd2, l2, -, -⟩ := Bm h'.wf hq
 have hl := h.len
 have hl' := h'.len
 have he := pd1.lo
 have he' := pd1.hi
 have hf := pd2.lo
 have hf' := pd2.hi
 simp only at he he' hf hf'
 have er : Lr p q xs ys e f = mkD (p != q) (val xs * val ys) (e + f) := by unfold Lr; rw [hp, hq]; rfl
 rw [er]
 clear er
 have nx := h.val_nonneg
 have ny := h'.val_nonneg
 have nm := Int.mul_nonneg nx ny
 have vm := val_wd _ nm
 have lm : (wd (val xs * val ys)).length ≤ 512 := by
  refine wd_length_le nm ?_
  have a1 : val xs < B ^ 256 := Int.lt_of_lt_of_le (val_lt h.wf) (B_pow_le l1)
  have a2 : val ys < B ^ 256 := Int.lt_of_lt_of_le (val_lt h'.wf) (B_pow_le l2)
  have a3 := Zb a1 a2 nx ny
  exact a3
 have MM : ∀ (w1 : World) (hb : Below (((w.alloc (.cells #[.bool p, .slice A n c, .int .i64 e] 26)).alloc (.cells #[.bool q, .slice A' n' c', .int .i64 f] 26)).alloc (.cells #[.bool false, .slice none 0 0, .int .i64 0] 26)).heap.size (((w.alloc (.cells #[.bool p, .slice A n c, .int .i64 e] 26)).alloc (.cells #[.bool q, .slice A' n' c', .int .i64 f] 26)).alloc (.cells #[.bool false, .slice none 0 0, .int .i64 0] 26)) w1), Calls Tryz.prog 86 #[.slice A n c, .slice A' n' c'] w1 fun r w5 => ∃ A5 n5 c5, r = .returned (.slice A5 n5 c5) ∧ Arr w5 A5 n5 c5 (wd (val xs * val ys)) ∧ Below (((w.alloc (.cells #[.bool p, .slice A n c, .int .i64 e] 26)).alloc (.cells #[.bool q, .slice A' n' c', .int .i64 f] 26)).alloc (.cells #[.bool false, .slice none 0 0, .int .i64 0] 26)).heap.size (((w.alloc (.cells #[.bool p, .slice A n c, .int .i64 e] 26)).alloc (.cells #[.bool q, .slice A' n' c', .int .i64 f] 26)).alloc (.cells #[.bool false, .slice none 0 0, .int .i64 0] 26)) w5 := by
  intro w1 hb
  refine (rmul A A' n c n' c' xs ys w1 (H.below hb) (H'.below hb) (by omega) (by omega)).mono ?_
  rintro r w5 ⟨A5, n5, c5, rfl, ha, hb5⟩
  exact ⟨A5, n5, c5, rfl, ha.arr, Bc hb hb5⟩
 have MK : ∀ (A5 : Option Addr) (n5 c5 : Nat) (w1 : World) (ha : Arr w1 A5 n5 c5 (wd (val xs * val ys))) (hb : Below (((w.alloc (.cells #[.bool p, .slice A n c, .int .i64 e] 26)).alloc (.cells #[.bool q, .slice A' n' c', .int .i64 f] 26)).alloc (.cells #[.bool false, .slice none 0 0, .int .i64 0] 26)).heap.size (((w.alloc (.cells #[.bool p, .slice A n c, .int .i64 e] 26)).alloc (.cells #[.bool q, .slice A' n' c', .int .i64 f] 26)).alloc (.cells #[.bool false, .slice none 0 0, .int .i64 0] 26)) w1), Calls Tryz.prog 70 #[.bool (p != q), .slice A5 n5 c5, .int .i64 (e + f)] w1 fun r w6 => ∃ A6 n6 c6, r = .returned (.tuple #[.agg #[.bool (Ci (mkD (p != q) (val xs * val ys) (e + f))).neg, .slice A6 n6 c6, .int .i64 (Ci (mkD (p != q) (val xs * val ys) (e + f))).e], .bool (mkD (p != q) (val xs * val ys) (e + f)).isSome]) ∧ Arr w6 A6 n6 c6 (wd (Ci (mkD (p != q) (val xs * val ys) (e + f))).m) ∧ Below (((w.alloc (.cells #[.bool p, .slice A n c, .int .i64 e] 26)).alloc (.cells #[.bool q, .slice A' n' c', .int .i64 f] 26)).alloc (.cells #[.bool false, .slice none 0 0, .int .i64 0] 26)).heap.size (((w.alloc (.cells #[.bool p, .slice A n c, .int .i64 e] 26)).alloc (.cells #[.bool q, .slice A' n' c', .int .i64 f] 26)).alloc (.cells #[.bool false, .slice none 0 0, .int .i64 0] 26)) w6 := by
  intro A5 n5 c5 w1 ha hb
  have l5 := ha.len
  have M := La (p != q) A5 n5 c5 _ (e + f) w1 ha (by omega) (by omega) (by omega)
  rw [vm] at M
  refine M.mono ?_
  rintro r w6 ⟨A6, n6, c6, rfl, h6, hb6⟩
  exact ⟨A6, n6, c6, rfl, h6, Bc hb hb6⟩
 have MM := Be MM
 have W1 : IntKind.i64.wrap (e + f) = e + f := by rw [IntKind.wrap_i64]; omega
 have KS := Be (fun w1 hb => (KW.out w1 hb).two)
 generalize mkD (p != q) (val xs * val ys) (e + f) = o at *
 have MK := Be MK
 have hne1 : ¬ w.heap.size + 1 + 1 = w.heap.size := by omega
 clear nm vm lm nx ny pd1 pd2 hp hq h h' H H'
 go_enter Tryz.func49, Tryz.ntmps49
 go_wp2_with fail
 refine PX.out.mono ?_; rintro r w3 ⟨rfl, hb3⟩
 (clear k0 k1 k2 f0 f1 f2 j0 j1 j2 g0 g1 g2)
 (obtain ⟨⟨k0, k1, k2, f0, f1, f2⟩, ⟨j0, j1, j2, g0, g1, g2⟩⟩ := (KW.out _ hb3).two)
 go_wp2_with fail
 refine (PY.out _ hb3).mono ?_; rintro r w4 ⟨rfl, hb4⟩
 have hb4 := Bc hb3 hb4
 (clear k0 k1 k2 f0 f1 f2 j0 j1 j2 g0 g1 g2)
 (obtain ⟨⟨k0, k1, k2, f0, f1, f2⟩, ⟨j0, j1, j2, g0, g1, g2⟩⟩ := (KW.out _ hb4).two)
 go_wp2_with fail
 go_region_held3 (fun w' => ((w'.cell? ⟨w.heap.size, 0, none⟩ = some (.bool p) ∧ w'.cell? ⟨w.heap.size, 1, none⟩ = some (.slice A n c) ∧ w'.cell? ⟨w.heap.size, 2, none⟩ = some (.int .i64 e) ∧ w'.frozen? ⟨w.heap.size, 0, none⟩ = false ∧ w'.frozen? ⟨w.heap.size, 1, none⟩ = false ∧ w'.frozen? ⟨w.heap.size, 2, none⟩ = false) ∧ (w'.cell? ⟨w.heap.size + 1, 0, none⟩ = some (.bool q) ∧ w'.cell? ⟨w.heap.size + 1, 1, none⟩ = some (.slice A' n' c') ∧ w'.cell? ⟨w.heap.size + 1, 2, none⟩ = some (.int .i64 f) ∧ w'.frozen? ⟨w.heap.size + 1, 0, none⟩ = false ∧ w'.frozen? ⟨w.heap.size + 1, 1, none⟩ = false ∧ w'.frozen? ⟨w.heap.size + 1, 2, none⟩ = false))) (first | (refine KS.out _ ?_; (repeat with_reducible (first | assumption | exact Bb _ | refine Bd ?_ _ | apply Below.drew | refine Ba ?_ _)); done) | go_keep) (first | (go_at_call 86; refine (MM.out _ ?_).mono ?_; (repeat with_reducible (first | assumption | exact Bb _ | refine Bd ?_ _ | apply Below.drew | refine Ba ?_ _)); rintro r w5 ⟨A5, n5, c5, rfl, h5, hb5⟩) | (go_at_call 70; refine (MK.out _ _ _ _ h5 ?_).mono ?_; (repeat with_reducible (first | assumption | exact Bb _ | refine Bd ?_ _ | apply Below.drew | refine Ba ?_ _)); rintro r w6 ⟨A6, n6, c6, rfl, h6, hb6⟩; have br6 := (KW.out w6 hb6).res; obtain ⟨u0, u1, u2, u3, u4, u5⟩ := br6.cell3))
 all_goals
  go_wp2_with fail
  refine bodyPost_ret (v := _) ?_ rfl (Bu h6 br6 (Bc b1 hb6) (by omega))
  simp [results, Tryz.results49, go_sem, u0, u1, u2]
  try exact ⟨rfl, rfl⟩
theorem Box.apart {w : World} {g g' : Nat} {cs : Array Value} {t : TypeId} (h : Box w g cs t) (hne : g ≠ g') (i : Nat) (v : Value) : Box (w.setCell ⟨g', i, none⟩ v) g cs t := ⟨by rw [heap_setCell_other w _ g v hne]; exact h.heap⟩
theorem Box.grown {w w' : World} {g g' : Nat} {cs : Array Value} {t : TypeId} (h : Box w g cs t) (hg : w.grownBy w' (some g')) (hne : g ≠ g') : Box w' g cs t :=
 ⟨(hg.block g h.lt (by simpa using hne)).trans h.heap⟩
theorem Arr.grown {w w' : World} {A : Option Addr} {n c : Nat} {xs : List Int} (h : Arr w A n c xs) {g : Nat} {cs : Array Value} {t : TypeId} (hb : Box w g cs t) (hno : ∀ (i : Nat) (x : Int), cs[i]? ≠ some (Value.int .u64 x)) (hg : w.grownBy w' (some g)) : Arr w' A n c xs := by
 refine h.other hg ?_
 by_cases h0 : n = 0
 ·left; unfold blk; rw [if_pos h0]
 ·right
  obtain ⟨b, o, rfl, hlt, hc⟩ := h.mem (by omega)
  unfold blk
  rw [if_neg h0]
  intro hh
  obtain rfl : b = g := by simpa using hh
  have := hc 0 (by omega)
  rw [hb.cell] at this
  exact hno _ _ this
theorem Bl {w W W' : World} (h : Below w.heap.size w W) {g : Nat} (hg : W.grownBy W' (some g)) (hne : w.heap.size ≤ g) : Below w.heap.size w W' :=
 ⟨hg.os.trans h.os, hg.tape.trans h.tape, hg.output.trans h.output, Nat.le_trans h.size hg.size, fun i hi => (hg.block i (Nat.lt_of_lt_of_le hi h.size) (by simp; omega)).trans (h.block i hi)⟩
theorem Bf0 {ops : Array Oper} {rest : List Oper} {o : Oper} {a : Act} {w : World} {Q : Exit → Act → World → Prop} (hgd : o.guard = none) (ty : TypeId) (x y : Operand) (ho : o.op = .store ty x y)
  (hd : o.dst = none) (g : Nat) (cells : Array Value) {old : Array Value} {t : TypeId} (hb : Box w g old t) (hx : a.eval x = .pointer (some ⟨g, 0, none⟩)) (hy : a.eval y = .agg cells)
  (hi : (Tryz.prog.info? ty).map (·.size) = some cells.size) (hold : old.size = cells.size) (h1 : cells.all (·.oneCell') = true)
  (h : ∀ W', Box W' g cells t → w.grownBy W' (some g) → wpList Tryz.prog ops Q rest a W') : wpList Tryz.prog ops Q (o :: rest) a w := by
 refine wpList_store_rowTo hgd ty x y ho hd g cells hx hy t old hb.heap hi hold h1 (h _ ⟨setRow_heap w g old cells t (0, 0) hb.heap⟩ ?_)
 exact ⟨rfl, rfl, rfl, by simp [World.setRow], fun i hi hne => setRow_other w g i cells (fun hh => hne (by rw [hh]))⟩
theorem Fk {ops : Array Oper} {rest : List Oper} {o : Oper} {a : Act} {w : World} {Q : Exit → Act → World → Prop} (hgd : o.guard = none) (x y : Operand) (ho : o.op = .store 26 x y)
  (hd : o.dst = none) (g : Nat) (s : Bool) (B : Option Addr) (m c : Nat) (e : Int) {u v z : Value} {t : TypeId} (hb : Box w g #[u, v, z] t) (hx : a.eval x = .pointer (some ⟨g, 0, none⟩)) (hy : a.eval y = .agg #[.bool s, .slice B m c, .int .i64 e])
  (h : ∀ W', Box W' g #[.bool s, .slice B m c, .int .i64 e] t → w.grownBy W' (some g) → wpList Tryz.prog ops Q rest a W') : wpList Tryz.prog ops Q (o :: rest) a w :=
 Bf0 hgd _ x y ho hd g _ hb hx hy (by kernel_rfl) rfl (by simp [Value.oneCell']) h
theorem Box.cell6 {w : World} {g : Nat} {a b c d e f : Value} {t : TypeId} (h : Box w g #[a, b, c, d, e, f] t) :
  w.cell? ⟨g, 0, none⟩ = some a ∧ w.cell? ⟨g, 1, none⟩ = some b ∧ w.cell? ⟨g, 2, none⟩ = some c ∧ w.cell? ⟨g, 3, none⟩ = some d ∧ w.cell? ⟨g, 4, none⟩ = some e ∧ w.cell? ⟨g, 5, none⟩ = some f ∧
   w.frozen? ⟨g, 0, none⟩ = false ∧ w.frozen? ⟨g, 1, none⟩ = false ∧ w.frozen? ⟨g, 2, none⟩ = false ∧ w.frozen? ⟨g, 3, none⟩ = false ∧ w.frozen? ⟨g, 4, none⟩ = false ∧ w.frozen? ⟨g, 5, none⟩ = false :=
 ⟨h.cell 0, h.cell 1, h.cell 2, h.cell 3, h.cell 4, h.cell 5, h.free 0, h.free 1, h.free 2, h.free 3, h.free 4, h.free 5⟩
def Dw (p q : Bool) (xs ys : List Int) (e f : Int) : Int := if Bq p xs e && Bq q ys f then Hf ⟨p, val xs, e⟩ ⟨q, val ys, f⟩ else 0
def Gj (p q : Bool) (xs ys : List Int) (e f : Int) : Bool := Bq p xs e && Bq q ys f
def Cb (p q : Bool) (xs ys : List Int) (e f : Int) : Bool := Gj p q xs ys e f && decide (Dw p q xs ys e f ≤ 0)
def Hc (p q : Bool) (xs ys : List Int) (e f : Int) : Int := if Cb p q xs ys e f then (if xs.length ≠ 0 ∧ p = false then 1 else if q then -1 else 0) else 0
theorem Rq (p q : Bool) (xs ys : List Int) (e f : Int) : Mq p q xs ys e f = .tuple #[.int .i64 (Dw p q xs ys e f), .bool (Gj p q xs ys e f)] := rfl
theorem Qf (p q : Bool) (A A' : Option Addr) (n c n' c' : Nat) (xs ys : List Int) (e f : Int) (w : World) (h : Arr w A n c xs) (h' : Arr w A' n' c' ys) :
  Calls Tryz.prog 73 #[(.agg #[.bool p, .slice A n c, .int .i64 e, .bool q, .slice A' n' c', .int .i64 f])] w fun r w' => r = .returned (.bool (Cb p q xs ys e f)) ∧ Below w.heap.size w w' := by
 have b0 : Below w.heap.size w (w.alloc (.cells #[.bool p, .slice A n c, .int .i64 e, .bool q, .slice A' n' c', .int .i64 f] 28)) := Ba (Bb w) _
 have bx := Bg w #[.bool p, .slice A n c, .int .i64 e, .bool q, .slice A' n' c', .int .i64 f] 28
 obtain ⟨k0, k1, k2, k3, k4, k5, f0, f1, f2, f3, f4, f5⟩ := bx.cell6
 have C := dcmp p q A A' n c n' c' xs ys e f _ (h.below b0) (h'.below b0)
 rw [Rq] at C
 have hr : Cb p q xs ys e f = (Gj p q xs ys e f && decide (Dw p q xs ys e f ≤ 0)) := rfl
 generalize Cb p q xs ys e f = rr at *
 generalize Gj p q xs ys e f = bb at *
 generalize Dw p q xs ys e f = cc at *
 have C := Be C
 have HR := Be hr
 clear hr
 cases bb
 all_goals
  go_enter Tryz.func73, Tryz.ntmps73
  go_wp2_with fail
  refine C.out.mono ?_
  rintro r w2 ⟨rfl, hb2⟩
  (have b0 := Bc b0 hb2; have bx := bx.later hb2; (clear k0 k1 k2 k3 k4 k5 f0 f1 f2 f3 f4 f5; obtain ⟨k0, k1, k2, k3, k4, k5, f0, f1, f2, f3, f4, f5⟩ := bx.cell6); clear hb2)
  go_wp2_with fail
  go_ret
  exact ⟨by rw [HR.out]; simp, b0⟩
theorem Lb (p q : Bool) (A A' : Option Addr) (n c n' c' : Nat) (xs ys : List Int) (e f : Int) (w : World) (h : Arr w A n c xs) (h' : Arr w A' n' c' ys) (hn : n ≤ 1000000) (hn' : n' ≤ 1000000) :
  Calls Tryz.prog 77 #[(.agg #[.bool p, .slice A n c, .int .i64 e, .bool q, .slice A' n' c', .int .i64 f])] w fun r w' => r = .returned (.bool (Cb p q xs ys e f)) ∧ Below w.heap.size w w' := by
 have b0 : Below w.heap.size w (w.alloc (.cells #[.bool p, .slice A n c, .int .i64 e, .bool q, .slice A' n' c', .int .i64 f] 28)) := Ba (Bb w) _
 have bx := Bg w #[.bool p, .slice A n c, .int .i64 e, .bool q, .slice A' n' c', .int .i64 f] 28
 obtain ⟨k0, k1, k2, k3, k4, k5, f0, f1, f2, f3, f4, f5⟩ := bx.cell6
 have C := Xo p q A A' n c n' c' xs ys e f _ (h.below b0) (h'.below b0) hn hn'
 rw [Rq] at C
 have hr : Cb p q xs ys e f = (Gj p q xs ys e f && decide (Dw p q xs ys e f ≤ 0)) := rfl
 generalize Cb p q xs ys e f = rr at *
 generalize Gj p q xs ys e f = bb at *
 generalize Dw p q xs ys e f = cc at *
 have C := Be C
 have HR := Be hr
 clear hr
 cases bb
 all_goals
  go_enter Tryz.func77, Tryz.ntmps77
  go_wp2_with fail
  refine C.out.mono ?_
  rintro r w2 ⟨rfl, hb2⟩
  (have b0 := Bc b0 hb2; have bx := bx.later hb2; (clear k0 k1 k2 k3 k4 k5 f0 f1 f2 f3 f4 f5; obtain ⟨k0, k1, k2, k3, k4, k5, f0, f1, f2, f3, f4, f5⟩ := bx.cell6); clear hb2)
  go_wp2_with fail
  go_ret
  exact ⟨by rw [HR.out]; simp, b0⟩
theorem Bet (p q : Bool) (A A' : Option Addr) (n c n' c' : Nat) (xs ys : List Int) (e f : Int) (w : World) (h : Arr w A n c xs) (h' : Arr w A' n' c' ys) :
  Calls Tryz.prog 61 #[(.agg #[.bool p, .slice A n c, .int .i64 e, .bool q, .slice A' n' c', .int .i64 f])] w fun r w' => r = .returned (.int .i64 (Hc p q xs ys e f)) ∧ Below w.heap.size w w' := by
 have b0 : Below w.heap.size w (w.alloc (.cells #[.bool p, .slice A n c, .int .i64 e, .bool q, .slice A' n' c', .int .i64 f] 28)) := Ba (Bb w) _
 have bx := Bg w #[.bool p, .slice A n c, .int .i64 e, .bool q, .slice A' n' c', .int .i64 f] 28
 obtain ⟨k0, k1, k2, k3, k4, k5, f0, f1, f2, f3, f4, f5⟩ := bx.cell6
 have C := Qf p q A A' n c n' c' xs ys e f _ (h.below b0) (h'.below b0)
 have hs : Hc p q xs ys e f = if Cb p q xs ys e f then (if xs.length ≠ 0 ∧ p = false then 1 else if q then -1 else 0) else 0 := rfl
 rw [h.len] at hs
 generalize Hc p q xs ys e f = ss at *
 generalize Cb p q xs ys e f = rr at *
 have C := Be C
 have HS := Be hs
 clear hs
 by_cases h0 : n = 0
 ·subst h0
  cases rr <;> cases q
  all_goals
   go_enter Tryz.func61, Tryz.ntmps61
   go_wp2_with fail
   refine C.out.mono ?_
   rintro r w2 ⟨rfl, hb2⟩
   (have b0 := Bc b0 hb2; have bx := bx.later hb2; (clear k0 k1 k2 k3 k4 k5 f0 f1 f2 f3 f4 f5; obtain ⟨k0, k1, k2, k3, k4, k5, f0, f1, f2, f3, f4, f5⟩ := bx.cell6); clear hb2)
   go_wp2_with fail
   go_ret
   exact ⟨by rw [HS.out]; simp, b0⟩
 ·have d0 : decide ((n : Int) > 0) = true := by simp; omega
  have d1 : decide (0 < n) = true := by simp; omega
  have hn0 : 0 < n := by omega
  cases rr <;> cases p <;> cases q
  all_goals
   go_enter Tryz.func61, Tryz.ntmps61
   go_wp2_with fail
   refine C.out.mono ?_
   rintro r w2 ⟨rfl, hb2⟩
   (have b0 := Bc b0 hb2; have bx := bx.later hb2; (clear k0 k1 k2 k3 k4 k5 f0 f1 f2 f3 f4 f5; obtain ⟨k0, k1, k2, k3, k4, k5, f0, f1, f2, f3, f4, f5⟩ := bx.cell6); clear hb2)
   go_wp2_with fail
   go_ret
   exact ⟨by rw [HS.out]; simp [h0], b0⟩
theorem Ban (p q : Bool) (A A' : Option Addr) (n c n' c' : Nat) (xs ys : List Int) (e f : Int) (w : World) (h : Arr w A n c xs) (h' : Arr w A' n' c' ys) (hn : n ≤ 1000000) (hn' : n' ≤ 1000000) :
  Calls Tryz.prog 68 #[(.agg #[.bool p, .slice A n c, .int .i64 e, .bool q, .slice A' n' c', .int .i64 f])] w fun r w' => r = .returned (.int .i64 (Hc p q xs ys e f)) ∧ Below w.heap.size w w' := by
 have b0 : Below w.heap.size w (w.alloc (.cells #[.bool p, .slice A n c, .int .i64 e, .bool q, .slice A' n' c', .int .i64 f] 28)) := Ba (Bb w) _
 have bx := Bg w #[.bool p, .slice A n c, .int .i64 e, .bool q, .slice A' n' c', .int .i64 f] 28
 obtain ⟨k0, k1, k2, k3, k4, k5, f0, f1, f2, f3, f4, f5⟩ := bx.cell6
 have C := Lb p q A A' n c n' c' xs ys e f _ (h.below b0) (h'.below b0) hn hn'
 have hs : Hc p q xs ys e f = if Cb p q xs ys e f then (if xs.length ≠ 0 ∧ p = false then 1 else if q then -1 else 0) else 0 := rfl
 rw [h.len] at hs
 generalize Hc p q xs ys e f = ss at *
 generalize Cb p q xs ys e f = rr at *
 have C := Be C
 have HS := Be hs
 clear hs
 by_cases h0 : n = 0
 ·subst h0
  cases rr <;> cases q
  all_goals
   go_enter Tryz.func68, Tryz.ntmps68
   go_wp2_with fail
   refine C.out.mono ?_
   rintro r w2 ⟨rfl, hb2⟩
   (have b0 := Bc b0 hb2; have bx := bx.later hb2; (clear k0 k1 k2 k3 k4 k5 f0 f1 f2 f3 f4 f5; obtain ⟨k0, k1, k2, k3, k4, k5, f0, f1, f2, f3, f4, f5⟩ := bx.cell6); clear hb2)
   go_wp2_with fail
   go_ret
   exact ⟨by rw [HS.out]; simp, b0⟩
 ·have d0 : decide ((n : Int) > 0) = true := by simp; omega
  have d1 : decide (0 < n) = true := by simp; omega
  have hn0 : 0 < n := by omega
  cases rr <;> cases p <;> cases q
  all_goals
   go_enter Tryz.func68, Tryz.ntmps68
   go_wp2_with fail
   refine C.out.mono ?_
   rintro r w2 ⟨rfl, hb2⟩
   (have b0 := Bc b0 hb2; have bx := bx.later hb2; (clear k0 k1 k2 k3 k4 k5 f0 f1 f2 f3 f4 f5; obtain ⟨k0, k1, k2, k3, k4, k5, f0, f1, f2, f3, f4, f5⟩ := bx.cell6); clear hb2)
   go_wp2_with fail
   go_ret
   exact ⟨by rw [HS.out]; simp [h0], b0⟩
end Go.Proofs.YteffemhapnbaeaaGreatDoor
