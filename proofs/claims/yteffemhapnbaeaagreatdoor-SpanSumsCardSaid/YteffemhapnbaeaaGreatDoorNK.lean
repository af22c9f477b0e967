/- A text of ours, with only what the claim's row needs (wip/tools/shake.py). -/
import Derived.Test.YteffemhapnbaeaaGreatDoorMS
import Derived.Test.YteffemhapnbaeaaGreatDoorMI
import Derived.Test.YteffemhapnbaeaaGreatDoorMQ
namespace Go.Proofs.YteffemhapnbaeaaGreatDoor
open Go.RowKit Num
set_option linter.unusedSimpArgs false
set_option linter.unusedVariables false
set_option maxRecDepth 100000

/-- A number is returned. -/
def RetV (d : Dy) (w : World) (r : Ending) (w' : World) : Prop :=
  ∃ A n c, r = .returned (.agg #[.bool d.neg, .slice A n c, .int .i64 d.e]) ∧ Arr w' A n c (wd d.m) ∧ Below w.heap.size w w'
theorem below_set3 {w W : World} (h : Below w.heap.size w W) {g : Nat} (hg : w.heap.size ≤ g) {a b c : Value} : Below w.heap.size w (((W.setCell ⟨g, 0, none⟩ a).setCell ⟨g, 1, none⟩ b).setCell ⟨g, 2, none⟩ c) :=
  below_set (below_set (below_set h g 0 hg a) g 1 hg b) g 2 hg c
set_option maxHeartbeats 2000000 in
theorem rwide (neg : Bool) (A : Option Addr) (n c : Nat) (xs : List Int) (e : Int) (w : World) (h : Arr w A n c xs) (hn : n ≤ 15000) (he0 : -1000000000 ≤ e) (he1 : e ≤ 1000000000) :
    Calls Tryz.prog 112 #[.bool neg, .slice A n c, .int .i64 e] w (RetV (wideD neg (val xs) e) w) := by
  have b0 : Below w.heap.size w (w.alloc (.cells #[.bool false, .slice none 0 0, .int .i64 0] 26)) := below_alloc (below_self w) _
  have bx := box_new w #[.bool false, .slice none 0 0, .int .i64 0] 26
  have T := Lib.hid (rtrim A n c xs _ (h.below b0) (by omega))
  by_cases hv : val xs = 0
  · have em : wideD neg (val xs) e = Dy.zero := by unfold wideD; rw [if_pos hv]
    rw [em]
    have HZ := Lib.hid (show wd (val xs) = [] by rw [hv]; exact wd_zero (Int.le_refl _))
    clear hv em
    go_enter Tryz.func112, Tryz.ntmps112
    go_wp2_with fail
    refine T.out.mono ?_
    rintro r w2 ⟨A2, n2, c2, rfl, hA2, hb2⟩
    have bw2 := below_on b0 hb2
    obtain ⟨k0, k1, k2, f0, f1, f2⟩ := (bx.later hb2).cell3
    rw [HZ.out] at hA2
    obtain rfl : n2 = 0 := hA2.len.symm
    go_wp2_with fail
    refine bodyPost_ret (v := .agg #[.bool false, .slice none 0 0, .int .i64 0]) (by simp [results, Tryz.results112, go_sem, k0, k1, k2]) rfl ⟨none, 0, 0, rfl, ?_, below_set3 bw2 (Nat.le_refl _)⟩
    have : wd Dy.zero.m = [] := wd_zero (Int.le_refl _)
    rw [this]; exact Arr.nothing _
  · have hp : 0 < val xs := by have := h.val_nonneg; omega
    have hpos : 0 < (wd (val xs)).length := List.length_pos_iff.2 (wd_ne_nil hp)
    have hlen := wd_len h.wf
    rw [h.len] at hlen
    have hvX := val_wd (val xs) (by omega)
    have em : wideD neg (val xs) e = ⟨neg, oddI (val xs), e + tz (val xs)⟩ := by unfold wideD; rw [if_neg hv]
    rw [em]
    clear em
    go_enter Tryz.func112, Tryz.ntmps112
    go_wp2_with fail
    refine T.out.mono ?_
    rintro r w2 ⟨A2, n2, c2, rfl, hA2, hb2⟩
    have bw2 := below_on b0 hb2
    have bx2 := bx.later hb2
    have hx2 := hA2.arr
    have hn2 : n2 = (wd (val xs)).length := hA2.len.symm
    have d0 : ((n2 : Int) == 0) = false := beq_eq_false_iff_ne.2 (by omega)
    have htz : tz (val xs) < 64 * n2 := by
      have := tz_lt hx2.wf (by rw [hvX]; exact hp)
      rw [hvX, ← hn2] at this; exact this
    have hbit := fun (q r : Nat) (hq : q < n2) (hr : r < 64) => word_bit hx2.wf (q := q) (by rw [← hn2]; exact hq) hr
    rw [hvX] at hbit
    have hev := fun z => even_below (v := val xs) (z := z) hp
    have hod := odd_at hp
    have SR := rshr A2 n2 c2 _ (tz (val xs) : Int) w2 hx2 (by omega) (by omega) (by omega)
    rw [shrI_eq (by omega) (by omega), Int.toNat_natCast, hvX] at SR
    have eo : val xs / 2 ^ tz (val xs) = oddI (val xs) := rfl
    rw [eo] at SR
    clear eo
    have hW : IntKind.i64.wrap (e + (tz (val xs) : Int)) = e + (tz (val xs) : Int) := by rw [IntKind.wrap_i64]; omega
    have hz' : tz (val xs) < 960001 := by omega
    generalize wd (val xs) = X at *
    generalize tz (val xs) = z at *
    generalize oddI (val xs) = u at *
    have HB := Lib.hid hbit
    have HE := Lib.hid hev
    have HO := Lib.hid hod
    have SR := Lib.hid SR
    clear hbit hev hod hv hvX T hn2
    go_wp2_with fail
    go_loop [8] (fun v => ∃ k : Nat, k ≤ z ∧ v = .int .i64 k) (fun v => z - (intOf v).toNat)
    case atStart => exact ⟨0, Nat.zero_le _, rfl⟩
    case round =>
      obtain ⟨k, hk, rfl⟩ := hrel
      obtain ⟨q, r, hr, rfl⟩ : ∃ q r : Nat, r < 64 ∧ k = 64 * q + r := ⟨k / 64, k % 64, by omega, by omega⟩
      have hq : q < n2 := by omega
      obtain ⟨b, o, rfl, hlt, hc⟩ := hx2.mem (by omega)
      have k1 := hc q hq
      have hb := HB.out q r hq hr
      have q1 : ((64 * q + r : Nat) : Int) / 64 = q := by omega
      have q2 : ((64 * q + r : Nat) : Int) % 64 = r := by omega
      have x1 := hx2.words q
      rw [List.getD_eq_getElem?_getD] at x1
      have hnn : 0 ≤ X[q]?.getD 0 / 2 ^ r := Int.ediv_nonneg x1.1 (Int.le_of_lt (Int.pow_pos (by decide)))
      clear hc
      generalize hK : 64 * q + r = K at *
      have HK := Lib.hid hK
      clear hK
      by_cases hkz : K < z
      · have he := HE.out K hkz
        rw [← hb] at he
        have hbb : (X[q]?.getD 0 / 2 ^ r % 2 == 0) = true := beq_iff_eq.2 he
        clear hb he
        go_wp2_with fail
        exact ⟨⟨K + 1, by omega, by go_num⟩, by simp only [intOf]; omega⟩
      · obtain rfl : K = z := by omega
        have he := HO.out
        rw [← hb] at he
        have hbb : (X[q]?.getD 0 / 2 ^ r % 2 == 0) = false := beq_eq_false_iff_ne.2 (by omega)
        clear hb he
        go_wp2_with fail
        refine SR.out.mono ?_; rintro r' w5 ⟨A5, n5, c5, rfl, hA5, hb5⟩
        have bx5 := bx2.later hb5
        have bw5 := below_on bw2 hb5
        obtain ⟨k0, k1', k2, f0, f1, f2⟩ := bx5.cell3
        go_wp2_with fail
        refine bodyPost_ret (v := _) ?_ rfl ⟨A5, n5, c5, rfl, ?_, below_set3 bw5 (Nat.le_refl _)⟩
        · simp [results, Tryz.results112, go_sem, k0, k1', k2]
          try exact ⟨rfl, rfl⟩
        · exact hA5.set3 bx5 _ _ _ (by simp) (by simp)
set_option maxHeartbeats 4000000 in
theorem radd02 (p q : Bool) (A A' : Option Addr) (n c n' c' : Nat) (x y e f : Int) (w : World) (h : Arr w A n c (wd x)) (h' : Arr w A' n' c' (wd y)) (hx : 0 ≤ x) (hy : 0 ≤ y) (hn : n ≤ 1000000) (hn' : n' ≤ 1000000)
    (he0 : -1000000 ≤ e) (he1 : e ≤ 1000000) (hf0 : -1000000 ≤ f) (hf1 : f ≤ 1000000) (hd : x = 0 ∨ y = 0 ∨ (e - f ≤ 1048576 ∧ f - e ≤ 1048576)) (hp : x = 0 → p = false)
    (lx : (wd (lev x e (sideE x y e f))).length ≤ 14000) (ly : (wd (lev y f (sideE x y e f))).length ≤ 14000) :
    Calls Tryz.prog 78 #[.agg #[.bool p, .slice A n c, .int .i64 e], .agg #[.bool q, .slice A' n' c', .int .i64 f]] w (RetV (addC ⟨p, x, e⟩ ⟨q, y, f⟩) w) := by
  have b1 : Below w.heap.size w (((w.alloc (.cells #[.bool p, .slice A n c, .int .i64 e] 26)).alloc (.cells #[.bool q, .slice A' n' c', .int .i64 f] 26)).alloc (.cells #[.bool false, .slice none 0 0, .int .i64 0] 26)) := below_alloc (below_alloc (below_alloc (below_self w) _) _) _
  have H := h.below b1
  have H' := h'.below b1
  have bx := ((box_new w #[.bool p, .slice A n c, .int .i64 e] 26).later (below_alloc (below_self _) (.cells #[.bool q, .slice A' n' c', .int .i64 f] 26))).later (below_alloc (below_self _) (.cells #[.bool false, .slice none 0 0, .int .i64 0] 26))
  have by1 := (box_new (w.alloc (.cells #[.bool p, .slice A n c, .int .i64 e] 26)) #[.bool q, .slice A' n' c', .int .i64 f] 26).later (below_alloc (below_self _) (.cells #[.bool false, .slice none 0 0, .int .i64 0] 26))
  rw [show (w.alloc (.cells #[.bool p, .slice A n c, .int .i64 e] 26)).heap.size = w.heap.size + 1 by simp] at by1
  have br := box_new ((w.alloc (.cells #[.bool p, .slice A n c, .int .i64 e] 26)).alloc (.cells #[.bool q, .slice A' n' c', .int .i64 f] 26)) #[.bool false, .slice none 0 0, .int .i64 0] 26
  rw [show ((w.alloc (.cells #[.bool p, .slice A n c, .int .i64 e] 26)).alloc (.cells #[.bool q, .slice A' n' c', .int .i64 f] 26)).heap.size = w.heap.size + 1 + 1 by simp] at br
  have KW : ∀ w3, Below (((w.alloc (.cells #[.bool p, .slice A n c, .int .i64 e] 26)).alloc (.cells #[.bool q, .slice A' n' c', .int .i64 f] 26)).alloc (.cells #[.bool false, .slice none 0 0, .int .i64 0] 26)).heap.size (((w.alloc (.cells #[.bool p, .slice A n c, .int .i64 e] 26)).alloc (.cells #[.bool q, .slice A' n' c', .int .i64 f] 26)).alloc (.cells #[.bool false, .slice none 0 0, .int .i64 0] 26)) w3 → Three w3 w.heap.size p q A A' n c n' c' e f := fun w3 hb => ⟨⟨(bx.later hb).cell3, (by1.later hb).cell3⟩, br.later hb⟩
  have KW := Lib.hid KW
  clear bx by1 br
  (obtain ⟨⟨k0, k1, k2, f0, f1, f2⟩, ⟨j0, j1, j2, g0, g1, g2⟩⟩ := (KW.out _ (below_self _)).two)
  have SD := fun w3 (hb : Below (((w.alloc (.cells #[.bool p, .slice A n c, .int .i64 e] 26)).alloc (.cells #[.bool q, .slice A' n' c', .int .i64 f] 26)).alloc (.cells #[.bool false, .slice none 0 0, .int .i64 0] 26)).heap.size (((w.alloc (.cells #[.bool p, .slice A n c, .int .i64 e] 26)).alloc (.cells #[.bool q, .slice A' n' c', .int .i64 f] 26)).alloc (.cells #[.bool false, .slice none 0 0, .int .i64 0] 26)) w3) => rsides p q A A' n c n' c' x y e f w3 (H.below hb) (H'.below hb) hx hy hn hn' (by omega) (by omega) (by omega) (by omega) hd
  have hg : -1000000 ≤ sideE x y e f ∧ sideE x y e f ≤ 1000000 := by unfold sideE; split; exact ⟨hf0, hf1⟩; split; exact ⟨he0, he1⟩; omega
  have ex : addC ⟨p, x, e⟩ ⟨q, y, f⟩ = canD (sgn p (lev x e (sideE x y e f)) + sgn q (lev y f (sideE x y e f))) (sideE x y e f) := rfl
  rw [ex]
  clear ex
  have nx := lev_nonneg hx e (sideE x y e f)
  have ny := lev_nonneg hy f (sideE x y e f)
  have hpz : lev x e (sideE x y e f) = 0 → p = false := fun hz => hp (by
    by_cases h0 : x = 0
    · exact h0
    · have := lev_pos (show 0 < x by omega) e (sideE x y e f); omega)
  generalize lev x e (sideE x y e f) = X at *
  generalize lev y f (sideE x y e f) = Y at *
  generalize sideE x y e f = g at *
  have vX := val_wd X nx
  have vY := val_wd Y ny
  have SD := Lib.hid SD
  have ADD : ∀ A1 n1 c1 A2 n2 c2 w3, Arr w3 A1 n1 c1 (wd X) → Arr w3 A2 n2 c2 (wd Y) → Calls Tryz.prog 110 #[.slice A1 n1 c1, .slice A2 n2 c2] w3 fun r w' => ∃ A3 n3 c3, r = .returned (.slice A3 n3 c3) ∧ Arr w' A3 n3 c3 (wd (X + Y)) ∧ Below w3.heap.size w3 w' := by
    intro A1 n1 c1 A2 n2 c2 w3 a1 a2
    have l1 := a1.len
    have l2 := a2.len
    have S := radd A1 A2 n1 c1 n2 c2 _ _ w3 a1 a2 (by omega) (by omega)
    rw [vX, vY] at S
    refine S.mono ?_
    rintro r w' ⟨A3, n3, c3, rfl, h3, hb⟩
    exact ⟨A3, n3, c3, rfl, h3.arr, hb⟩
  have ADD := Lib.hid ADD
  have CMP : ∀ A1 n1 c1 A2 n2 c2 w3, Arr w3 A1 n1 c1 (wd X) → Arr w3 A2 n2 c2 (wd Y) → Calls Tryz.prog 96 #[.slice A1 n1 c1, .slice A2 n2 c2] w3 fun r w' => r = .returned (.int .i64 (cmpI X Y)) ∧ Below w3.heap.size w3 w' := by
    intro A1 n1 c1 A2 n2 c2 w3 a1 a2
    have l1 := a1.len
    have l2 := a2.len
    have S := rcmp A1 A2 n1 c1 n2 c2 _ _ w3 a1 a2 (by omega) (by omega)
    rw [vX, vY] at S
    exact S
  have SUB : ∀ (U V : Int), 0 ≤ U → 0 ≤ V → V ≤ U → (wd U).length ≤ 14000 → (wd V).length ≤ 14000 → ∀ A1 n1 c1 A2 n2 c2 w3, Arr w3 A1 n1 c1 (wd U) → Arr w3 A2 n2 c2 (wd V) → Calls Tryz.prog 111 #[.slice A1 n1 c1, .slice A2 n2 c2] w3 fun r w' => ∃ A3 n3 c3, r = .returned (.tuple #[.slice A3 n3 c3, .bool true]) ∧ Arr w' A3 n3 c3 (wd (U - V)) ∧ Below w3.heap.size w3 w' := by
    intro U V hU hV hle lU lV A1 n1 c1 A2 n2 c2 w3 a1 a2
    have l1 := a1.len
    have l2 := a2.len
    have S := rsub A1 A2 n1 c1 n2 c2 _ _ w3 a1 a2 (by omega) (by omega)
    unfold RetS at S
    rw [val_wd U hU, val_wd V hV, decide_eq_true hle, if_pos hle] at S
    refine S.mono ?_
    rintro r w' ⟨A3, n3, c3, rfl, h3, hb⟩
    exact ⟨A3, n3, c3, rfl, h3.arr, hb⟩
  have WIDE : ∀ (ng : Bool) (v : Int) (o : Dy), 0 ≤ v → (wd v).length ≤ 15000 → wideD ng v g = o → ∀ A3 n3 c3 w4, Arr w4 A3 n3 c3 (wd v) → Calls Tryz.prog 112 #[.bool ng, .slice A3 n3 c3, .int .i64 g] w4 (RetV o w4) := by
    intro ng v o hv hvl ho A3 n3 c3 w4 a3
    have l3 := a3.len
    have S := rwide ng A3 n3 c3 _ g w4 a3 (by omega) (by omega) (by omega)
    rw [val_wd v hv, ho] at S
    exact S
  have lXY : (wd (X + Y)).length ≤ 14001 := by
    have := wd_sum_len (wf_wd X nx) (wf_wd Y ny) (k := 14000) lx ly
    rw [vX, vY] at this
    omega
  have CMP := Lib.hid CMP
  have WIDE := Lib.hid WIDE
  by_cases hX : X = 0
  · obtain rfl := hpz hX
    have o1 := add_plus (p := false) (q := q) g nx ny (fun _ => rfl) (.inl hX)
    rw [decide_eq_true hX, Bool.true_and, Bool.false_or] at o1
    generalize canD (sgn false X + sgn q Y) g = o at *
    have hw0 : (wd X).length = 0 := by rw [hX, wd_zero (Int.le_refl _)]; rfl
    have WI := Lib.hid (WIDE.out q (X + Y) o (by omega) (by omega) o1)
    clear o1 hX SUB CMP WIDE vX vY
    (go_enter Tryz.func78, Tryz.ntmps78; go_wp2_with fail; refine (SD.out _ (below_self _)).mono ?_; rintro r w3 ⟨A1, n1, c1, A2, n2, c2, rfl, ha1, ha2, hb3⟩; (clear k0 k1 k2 f0 f1 f2 j0 j1 j2 g0 g1 g2); (obtain ⟨⟨k0, k1, k2, f0, f1, f2⟩, ⟨j0, j1, j2, g0, g1, g2⟩⟩ := (KW.out _ hb3).two); go_wp2_with fail; have AD := ADD.out A1 n1 c1 A2 n2 c2 w3 ha1 ha2; refine AD.mono ?_; rintro r w4 ⟨A3, n3, c3, rfl, ha3, hc4⟩; clear AD; have hb4 := below_on hb3 hc4; have ha1 := ha1.below hc4; have ha2 := ha2.below hc4; clear hc4; (clear k0 k1 k2 f0 f1 f2 j0 j1 j2 g0 g1 g2); (obtain ⟨⟨k0, k1, k2, f0, f1, f2⟩, ⟨j0, j1, j2, g0, g1, g2⟩⟩ := (KW.out _ hb4).two); have m1 := ha1.len; have m2 := ha2.len)
    have hn1 : n1 = 0 := by omega
    subst hn1
    go_wp2_with fail
    have hbz := hb4
    refine (WI.out _ _ _ _ ha3).mono ?_
    (rintro r w9 ⟨A9, n9, c9, rfl, h9, hc9⟩; have hb9 := below_on hbz hc9; have br9 := (KW.out w9 hb9).res; obtain ⟨u0, u1, u2, u3, u4, u5⟩ := br9.cell3; go_wp2_with fail; refine bodyPost_ret (v := _) ?_ rfl ⟨A9, n9, c9, rfl, ?_, below_set3 (below_on b1 hb9) (by omega)⟩; (· simp [results, Tryz.results78, go_sem, u0, u1, u2]; try exact ⟨rfl, rfl⟩); (· exact h9.set3 br9 _ _ _ (by simp) (by simp)))
  · have hX0 : 0 < X := by omega
    have hlX : 0 < (wd X).length := List.length_pos_iff.2 (wd_ne_nil hX0)
    by_cases hY : Y = 0
    · have o1 := add_plus (p := p) (q := q) g nx ny (fun hz => absurd hz hX) (.inr (.inl hY))
      rw [decide_eq_false hX, Bool.false_and, Bool.or_false] at o1
      generalize canD (sgn p X + sgn q Y) g = o at *
      have hw0 : (wd Y).length = 0 := by rw [hY, wd_zero (Int.le_refl _)]; rfl
      have WI := Lib.hid (WIDE.out p (X + Y) o (by omega) (by omega) o1)
      clear o1 hX hY SUB CMP WIDE vX vY
      cases p
      all_goals
        (go_enter Tryz.func78, Tryz.ntmps78; go_wp2_with fail; refine (SD.out _ (below_self _)).mono ?_; rintro r w3 ⟨A1, n1, c1, A2, n2, c2, rfl, ha1, ha2, hb3⟩; (clear k0 k1 k2 f0 f1 f2 j0 j1 j2 g0 g1 g2); (obtain ⟨⟨k0, k1, k2, f0, f1, f2⟩, ⟨j0, j1, j2, g0, g1, g2⟩⟩ := (KW.out _ hb3).two); go_wp2_with fail; have AD := ADD.out A1 n1 c1 A2 n2 c2 w3 ha1 ha2; refine AD.mono ?_; rintro r w4 ⟨A3, n3, c3, rfl, ha3, hc4⟩; clear AD; have hb4 := below_on hb3 hc4; have ha1 := ha1.below hc4; have ha2 := ha2.below hc4; clear hc4; (clear k0 k1 k2 f0 f1 f2 j0 j1 j2 g0 g1 g2); (obtain ⟨⟨k0, k1, k2, f0, f1, f2⟩, ⟨j0, j1, j2, g0, g1, g2⟩⟩ := (KW.out _ hb4).two); have m1 := ha1.len; have m2 := ha2.len)
        have hn2 : n2 = 0 := by omega
        subst hn2
        have d1 : ((n1 : Int) == 0) = false := beq_eq_false_iff_ne.2 (by omega)
        have d2 : decide ((n1 : Int) > 0) = true := by simp; omega
        go_wp2_with fail
        have hbz := hb4
        refine (WI.out _ _ _ _ ha3).mono ?_
        (rintro r w9 ⟨A9, n9, c9, rfl, h9, hc9⟩; have hb9 := below_on hbz hc9; have br9 := (KW.out w9 hb9).res; obtain ⟨u0, u1, u2, u3, u4, u5⟩ := br9.cell3; go_wp2_with fail; refine bodyPost_ret (v := _) ?_ rfl ⟨A9, n9, c9, rfl, ?_, below_set3 (below_on b1 hb9) (by omega)⟩; (· simp [results, Tryz.results78, go_sem, u0, u1, u2]; try exact ⟨rfl, rfl⟩); (· exact h9.set3 br9 _ _ _ (by simp) (by simp)))
    · have hY0 : 0 < Y := by omega
      have hlY : 0 < (wd Y).length := List.length_pos_iff.2 (wd_ne_nil hY0)
      by_cases hpq : p = q
      · have o1 := add_plus (p := p) (q := q) g nx ny (fun hz => absurd hz hX) (.inr (.inr hpq))
        rw [decide_eq_false hX, Bool.false_and, Bool.or_false] at o1
        generalize canD (sgn p X + sgn q Y) g = o at *
        have WI := Lib.hid (WIDE.out p (X + Y) o (by omega) (by omega) o1)
        clear o1 hX hY SUB CMP WIDE vX vY
        cases p <;> cases q
        · clear hpq
          (go_enter Tryz.func78, Tryz.ntmps78; go_wp2_with fail; refine (SD.out _ (below_self _)).mono ?_; rintro r w3 ⟨A1, n1, c1, A2, n2, c2, rfl, ha1, ha2, hb3⟩; (clear k0 k1 k2 f0 f1 f2 j0 j1 j2 g0 g1 g2); (obtain ⟨⟨k0, k1, k2, f0, f1, f2⟩, ⟨j0, j1, j2, g0, g1, g2⟩⟩ := (KW.out _ hb3).two); go_wp2_with fail; have AD := ADD.out A1 n1 c1 A2 n2 c2 w3 ha1 ha2; refine AD.mono ?_; rintro r w4 ⟨A3, n3, c3, rfl, ha3, hc4⟩; clear AD; have hb4 := below_on hb3 hc4; have ha1 := ha1.below hc4; have ha2 := ha2.below hc4; clear hc4; (clear k0 k1 k2 f0 f1 f2 j0 j1 j2 g0 g1 g2); (obtain ⟨⟨k0, k1, k2, f0, f1, f2⟩, ⟨j0, j1, j2, g0, g1, g2⟩⟩ := (KW.out _ hb4).two); have m1 := ha1.len; have m2 := ha2.len)
          have d1 : ((n1 : Int) == 0) = false := beq_eq_false_iff_ne.2 (by omega)
          have d2 : decide ((n1 : Int) > 0) = true := by simp; omega
          have d3 : decide ((n2 : Int) > 0) = true := by simp; omega
          go_wp2_with fail
          have hbz := hb4
          refine (WI.out _ _ _ _ ha3).mono ?_
          (rintro r w9 ⟨A9, n9, c9, rfl, h9, hc9⟩; have hb9 := below_on hbz hc9; have br9 := (KW.out w9 hb9).res; obtain ⟨u0, u1, u2, u3, u4, u5⟩ := br9.cell3; go_wp2_with fail; refine bodyPost_ret (v := _) ?_ rfl ⟨A9, n9, c9, rfl, ?_, below_set3 (below_on b1 hb9) (by omega)⟩; (· simp [results, Tryz.results78, go_sem, u0, u1, u2]; try exact ⟨rfl, rfl⟩); (· exact h9.set3 br9 _ _ _ (by simp) (by simp)))
        · cases hpq
        · cases hpq
        · clear hpq
          (go_enter Tryz.func78, Tryz.ntmps78; go_wp2_with fail; refine (SD.out _ (below_self _)).mono ?_; rintro r w3 ⟨A1, n1, c1, A2, n2, c2, rfl, ha1, ha2, hb3⟩; (clear k0 k1 k2 f0 f1 f2 j0 j1 j2 g0 g1 g2); (obtain ⟨⟨k0, k1, k2, f0, f1, f2⟩, ⟨j0, j1, j2, g0, g1, g2⟩⟩ := (KW.out _ hb3).two); go_wp2_with fail; have AD := ADD.out A1 n1 c1 A2 n2 c2 w3 ha1 ha2; refine AD.mono ?_; rintro r w4 ⟨A3, n3, c3, rfl, ha3, hc4⟩; clear AD; have hb4 := below_on hb3 hc4; have ha1 := ha1.below hc4; have ha2 := ha2.below hc4; clear hc4; (clear k0 k1 k2 f0 f1 f2 j0 j1 j2 g0 g1 g2); (obtain ⟨⟨k0, k1, k2, f0, f1, f2⟩, ⟨j0, j1, j2, g0, g1, g2⟩⟩ := (KW.out _ hb4).two); have m1 := ha1.len; have m2 := ha2.len)
          have d1 : ((n1 : Int) == 0) = false := beq_eq_false_iff_ne.2 (by omega)
          have d2 : decide ((n1 : Int) > 0) = true := by simp; omega
          have d3 : decide ((n2 : Int) > 0) = true := by simp; omega
          go_wp2_with fail
          have hbz := hb4
          refine (WI.out _ _ _ _ ha3).mono ?_
          (rintro r w9 ⟨A9, n9, c9, rfl, h9, hc9⟩; have hb9 := below_on hbz hc9; have br9 := (KW.out w9 hb9).res; obtain ⟨u0, u1, u2, u3, u4, u5⟩ := br9.cell3; go_wp2_with fail; refine bodyPost_ret (v := _) ?_ rfl ⟨A9, n9, c9, rfl, ?_, below_set3 (below_on b1 hb9) (by omega)⟩; (· simp [results, Tryz.results78, go_sem, u0, u1, u2]; try exact ⟨rfl, rfl⟩); (· exact h9.set3 br9 _ _ _ (by simp) (by simp)))
      · obtain ⟨o1, o2⟩ := add_minus (x := X) (y := Y) g hpq
        have hqq : q = !p := by cases p <;> cases q <;> simp_all
        subst hqq
        generalize canD (sgn p X + sgn (!p) Y) g = o at *
        clear hpq
        by_cases hle : Y ≤ X
        · have SB := Lib.hid (SUB X Y nx ny hle lx ly)
          have lS : (wd (X - Y)).length ≤ 15000 := Nat.le_trans (wd_mono (by omega) (by omega : X - Y ≤ X)) (by omega)
          have WI := Lib.hid (WIDE.out p (X - Y) o (by omega) lS (o1 hle))
          have hc : 0 ≤ cmpI X Y := by unfold cmpI; rw [if_neg (by omega)]; split <;> omega
          generalize cmpI X Y = cc at *
          have dc : decide (cc ≥ 0) = true := decide_eq_true hc
          clear o1 o2 hX hY SUB WIDE vX vY hle
          cases p
          all_goals
            (go_enter Tryz.func78, Tryz.ntmps78; go_wp2_with fail; refine (SD.out _ (below_self _)).mono ?_; rintro r w3 ⟨A1, n1, c1, A2, n2, c2, rfl, ha1, ha2, hb3⟩; (clear k0 k1 k2 f0 f1 f2 j0 j1 j2 g0 g1 g2); (obtain ⟨⟨k0, k1, k2, f0, f1, f2⟩, ⟨j0, j1, j2, g0, g1, g2⟩⟩ := (KW.out _ hb3).two); go_wp2_with fail; have AD := ADD.out A1 n1 c1 A2 n2 c2 w3 ha1 ha2; refine AD.mono ?_; rintro r w4 ⟨A3, n3, c3, rfl, ha3, hc4⟩; clear AD; have hb4 := below_on hb3 hc4; have ha1 := ha1.below hc4; have ha2 := ha2.below hc4; clear hc4; (clear k0 k1 k2 f0 f1 f2 j0 j1 j2 g0 g1 g2); (obtain ⟨⟨k0, k1, k2, f0, f1, f2⟩, ⟨j0, j1, j2, g0, g1, g2⟩⟩ := (KW.out _ hb4).two); have m1 := ha1.len; have m2 := ha2.len)
            have d1 : ((n1 : Int) == 0) = false := beq_eq_false_iff_ne.2 (by omega)
            have d2 : decide ((n1 : Int) > 0) = true := by simp; omega
            have d3 : decide ((n2 : Int) > 0) = true := by simp; omega
            go_wp2_with fail
            refine (CMP.out _ _ _ _ _ _ _ ha1 ha2).mono ?_; rintro r w5 ⟨rfl, hc5⟩
            have hb5 := below_on hb4 hc5
            have ha1 := ha1.below hc5
            have ha2 := ha2.below hc5
            clear hc5
            (clear k0 k1 k2 f0 f1 f2 j0 j1 j2 g0 g1 g2)
            (obtain ⟨⟨k0, k1, k2, f0, f1, f2⟩, ⟨j0, j1, j2, g0, g1, g2⟩⟩ := (KW.out _ hb5).two)
            go_wp2_with fail
            refine (SB.out _ _ _ _ _ _ _ ha1 ha2).mono ?_; rintro r w6 ⟨A6, n6, c6, rfl, ha6, hc6⟩
            have hbz := below_on hb5 hc6
            clear hc6
            (clear k0 k1 k2 f0 f1 f2 j0 j1 j2 g0 g1 g2)
            (obtain ⟨⟨k0, k1, k2, f0, f1, f2⟩, ⟨j0, j1, j2, g0, g1, g2⟩⟩ := (KW.out _ hbz).two)
            go_wp2_with fail
            refine (WI.out _ _ _ _ ha6).mono ?_
            (rintro r w9 ⟨A9, n9, c9, rfl, h9, hc9⟩; have hb9 := below_on hbz hc9; have br9 := (KW.out w9 hb9).res; obtain ⟨u0, u1, u2, u3, u4, u5⟩ := br9.cell3; go_wp2_with fail; refine bodyPost_ret (v := _) ?_ rfl ⟨A9, n9, c9, rfl, ?_, below_set3 (below_on b1 hb9) (by omega)⟩; (· simp [results, Tryz.results78, go_sem, u0, u1, u2]; try exact ⟨rfl, rfl⟩); (· exact h9.set3 br9 _ _ _ (by simp) (by simp)))
        · have hle' : X ≤ Y := by omega
          have SB := Lib.hid (SUB Y X ny nx hle' ly lx)
          have lS : (wd (Y - X)).length ≤ 15000 := Nat.le_trans (wd_mono (by omega) (by omega : Y - X ≤ Y)) (by omega)
          have WI := Lib.hid (WIDE.out (!p) (Y - X) o (by omega) lS (o2 hle'))
          have hc : cmpI X Y = -1 := cmpI_lt (by omega)
          rw [hc] at CMP
          clear o1 o2 hX hY SUB WIDE vX vY hle hc
          cases p
          all_goals
            (go_enter Tryz.func78, Tryz.ntmps78; go_wp2_with fail; refine (SD.out _ (below_self _)).mono ?_; rintro r w3 ⟨A1, n1, c1, A2, n2, c2, rfl, ha1, ha2, hb3⟩; (clear k0 k1 k2 f0 f1 f2 j0 j1 j2 g0 g1 g2); (obtain ⟨⟨k0, k1, k2, f0, f1, f2⟩, ⟨j0, j1, j2, g0, g1, g2⟩⟩ := (KW.out _ hb3).two); go_wp2_with fail; have AD := ADD.out A1 n1 c1 A2 n2 c2 w3 ha1 ha2; refine AD.mono ?_; rintro r w4 ⟨A3, n3, c3, rfl, ha3, hc4⟩; clear AD; have hb4 := below_on hb3 hc4; have ha1 := ha1.below hc4; have ha2 := ha2.below hc4; clear hc4; (clear k0 k1 k2 f0 f1 f2 j0 j1 j2 g0 g1 g2); (obtain ⟨⟨k0, k1, k2, f0, f1, f2⟩, ⟨j0, j1, j2, g0, g1, g2⟩⟩ := (KW.out _ hb4).two); have m1 := ha1.len; have m2 := ha2.len)
            have d1 : ((n1 : Int) == 0) = false := beq_eq_false_iff_ne.2 (by omega)
            have d2 : decide ((n1 : Int) > 0) = true := by simp; omega
            have d3 : decide ((n2 : Int) > 0) = true := by simp; omega
            go_wp2_with fail
            refine (CMP.out _ _ _ _ _ _ _ ha1 ha2).mono ?_; rintro r w5 ⟨rfl, hc5⟩
            have hb5 := below_on hb4 hc5
            have ha1 := ha1.below hc5
            have ha2 := ha2.below hc5
            clear hc5
            (clear k0 k1 k2 f0 f1 f2 j0 j1 j2 g0 g1 g2)
            (obtain ⟨⟨k0, k1, k2, f0, f1, f2⟩, ⟨j0, j1, j2, g0, g1, g2⟩⟩ := (KW.out _ hb5).two)
            go_wp2_with fail
            refine (SB.out _ _ _ _ _ _ _ ha2 ha1).mono ?_; rintro r w6 ⟨A6, n6, c6, rfl, ha6, hc6⟩
            have hbz := below_on hb5 hc6
            clear hc6
            (clear k0 k1 k2 f0 f1 f2 j0 j1 j2 g0 g1 g2)
            (obtain ⟨⟨k0, k1, k2, f0, f1, f2⟩, ⟨j0, j1, j2, g0, g1, g2⟩⟩ := (KW.out _ hbz).two)
            go_wp2_with fail
            refine (WI.out _ _ _ _ ha6).mono ?_
            (rintro r w9 ⟨A9, n9, c9, rfl, h9, hc9⟩; have hb9 := below_on hbz hc9; have br9 := (KW.out w9 hb9).res; obtain ⟨u0, u1, u2, u3, u4, u5⟩ := br9.cell3; go_wp2_with fail; refine bodyPost_ret (v := _) ?_ rfl ⟨A9, n9, c9, rfl, ?_, below_set3 (below_on b1 hb9) (by omega)⟩; (· simp [results, Tryz.results78, go_sem, u0, u1, u2]; try exact ⟨rfl, rfl⟩); (· exact h9.set3 br9 _ _ _ (by simp) (by simp)))
end Go.Proofs.YteffemhapnbaeaaGreatDoor
namespace Go.Proofs.YteffemhapnbaeaaGreatDoor
open Go.RowKit Num
set_option linter.unusedSimpArgs false
set_option linter.unusedVariables false
set_option maxRecDepth 100000

def DV.dy (d : DV) : Dy := ⟨d.neg, val d.xs, d.e⟩
def tot (L : Int) (l : List DV) : Int := l.foldl (fun a d => a + sval d.dy L) 0
theorem tot_sm (L : Int) (l : List DV) (h : ∀ d ∈ l, d.n = 0 → val d.xs = 0) : ∀ a b, l.foldl (fun a d => a + sval d.dy L) (a - b) = l.foldl (smF false L) a - l.foldl (smF true L) b := by
  induction l with
  | nil => intro a b; rfl
  | cons d l ih =>
    intro a b
    simp only [List.foldl_cons]
    have ih' := ih (fun x hx => h x (List.mem_cons_of_mem _ hx))
    have hz := h d List.mem_cons_self
    have hs : sval d.dy L = sgn d.neg (val d.xs * 2 ^ (d.e - L).toNat) := rfl
    have u1 : smF false L a d = if d.n = 0 then a else if d.neg = false then a + val d.xs * 2 ^ (d.e - L).toNat else a := rfl
    have u2 : smF true L b d = if d.n = 0 then b else if d.neg = true then b + val d.xs * 2 ^ (d.e - L).toNat else b := rfl
    rw [u1, u2]
    by_cases hn : d.n = 0
    · rw [if_pos hn, if_pos hn, hs, hz hn, Int.zero_mul, sgn_zero, Int.add_zero]
      exact ih' a b
    · rw [if_neg hn, if_neg hn, hs]
      cases d.neg
      · simp only [sgn, Bool.false_eq_true, if_false, if_true]
        have := ih' (a + val d.xs * 2 ^ (d.e - L).toNat) b
        rw [← this]
        congr 1
        omega
      · simp only [sgn, Bool.false_eq_true, if_false, if_true, reduceCtorEq]
        have := ih' a (b + val d.xs * 2 ^ (d.e - L).toNat)
        rw [← this]
        congr 1
        omega
theorem sum_can {l : List DV} (hp : l.all DV.plain = true) (h : ∀ d ∈ l, d.n = 0 → val d.xs = 0) (h0 : -262144 ≤ lo l) (h1 : lo l ≤ 262144) :
    sumD l = if hi l - lo l > 262144 then none else if plainB (canD (tot (lo l) l) (lo l)).neg (wd (canD (tot (lo l) l) (lo l)).m) (canD (tot (lo l) l) (lo l)).e then some (canD (tot (lo l) l) (lo l)) else none := by
  unfold sumD
  rw [hp]
  simp only [if_true]
  congr 1
  rw [← mkD_can _ h0 h1]
  have ht : tot (lo l) l = sm false (lo l) l - sm true (lo l) l := by
    have := tot_sm (lo l) l h 0 0
    rw [Int.sub_self] at this
    exact this
  rw [ht]
  by_cases hle : sm true (lo l) l ≤ sm false (lo l) l
  · rw [if_pos hle, decide_eq_false (by omega)]
    congr 1
    omega
  · rw [if_neg hle, decide_eq_true (by omega)]
    congr 1
    omega
end Go.Proofs.YteffemhapnbaeaaGreatDoor
