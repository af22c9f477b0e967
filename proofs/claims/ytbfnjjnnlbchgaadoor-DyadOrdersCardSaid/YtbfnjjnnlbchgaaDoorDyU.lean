/- The document's Cmp; which numbers are few. -/
import Derived.Test.YtbfnjjnnlbchgaaDoorDyR
import Derived.Test.YtbfnjjnnlbchgaaDoorDyC
import Derived.Test.YtbfnjjnnlbchgaaDoorDyG
import Derived.Test.YtbfnjjnnlbchgaaDoorRefE
namespace Go.Proofs.YtbfnjjnnlbchgaaDoor
open Go.RowKit Num
set_option maxRecDepth 100000

theorem cmp_side {p : Bool} {x y e f : Int} (ha : PD ⟨p, x, e⟩) : cmpD ⟨p, x, e⟩ ⟨p, y, f⟩ = (if p then -1 else 1) * cmpI (lev x e (sideE x y e f)) (lev y f (sideE x y e f)) := by
  by_cases hx : x = 0
  · subst hx
    obtain ⟨e1, e2, -⟩ := sides_zero_left y e f
    rw [e1, e2]
    exact cmp_zero_left (a := ⟨p, 0, e⟩) (b := ⟨p, y, f⟩) rfl ha rfl
  · by_cases hy : y = 0
    · subst hy
      obtain ⟨e1, e2, -⟩ := sides_zero_right hx e f
      rw [e1, e2]
      exact cmp_zero_right (a := ⟨p, x, e⟩) (b := ⟨p, 0, f⟩) rfl rfl
    · have e3 : sideE x y e f = min e f := by unfold sideE; rw [if_neg hx, if_neg hy]
      rw [e3, ← sgn_cmp]; rfl
theorem lev_len {x e L : Int} (hx : 0 ≤ x) {k j : Nat} (h : (wd x).length ≤ k) (hj : e - L ≤ 64 * (j : Int)) : (wd (lev x e L)).length ≤ k + j := by
  refine wd_length_le (lev_nonneg hx e L) ?_
  unfold lev
  have h1 := lt_pow_of_wd_length hx h
  have h2 : x * pw (e - L).toNat < B ^ k * pw (e - L).toNat := Int.mul_lt_mul_of_pos_right h1 (pw_pos _)
  have h3 : B ^ k * pw (e - L).toNat ≤ B ^ k * B ^ j := Int.mul_le_mul_of_nonneg_left (by rw [B_pow_pw j]; exact pw_le (by omega)) (Int.le_of_lt (B_pow_pos k))
  rw [Int.pow_add]
  omega
set_option maxHeartbeats 2000000 in
theorem rdcmp (p q : Bool) (A A' : Option Addr) (n c n' c' : Nat) (xs ys : List Int) (e f : Int) (w : World) (h : Arr w A n c xs) (h' : Arr w A' n' c' ys) (hn : n ≤ 1000000) (hn' : n' ≤ 1000000) :
    Calls Tryd.prog 40 #[.agg #[.bool p, .slice A n c, .int .i64 e], .agg #[.bool q, .slice A' n' c', .int .i64 f]] w fun r w' => r = .returned (cmpR p q xs ys e f) ∧ Below w.heap.size w w' := by
  have b1 : Below w.heap.size w ((w.alloc (.cells #[.bool p, .slice A n c, .int .i64 e] 24)).alloc (.cells #[.bool q, .slice A' n' c', .int .i64 f] 24)) := below_alloc (below_alloc (below_self w) _) _
  have bx := (box_new w #[.bool p, .slice A n c, .int .i64 e] 24).later (below_alloc (below_self _) (.cells #[.bool q, .slice A' n' c', .int .i64 f] 24))
  have bz := box_new (w.alloc (.cells #[.bool p, .slice A n c, .int .i64 e] 24)) #[.bool q, .slice A' n' c', .int .i64 f] 24
  rw [show (w.alloc (.cells #[.bool p, .slice A n c, .int .i64 e] 24)).heap.size = w.heap.size + 1 by simp] at bz
  obtain ⟨k0, k1, k2, f0, f1, f2⟩ := bx.cell3
  obtain ⟨j0, j1, j2, g0, g1, g2⟩ := bz.cell3
  have H := h.below b1
  have H' := h'.below b1
  have PX := Lib.hid (rplain p A n c xs e _ H (by omega))
  have PY := Lib.hid (fun w3 (hb : Below ((w.alloc (.cells #[.bool p, .slice A n c, .int .i64 e] 24)).alloc (.cells #[.bool q, .slice A' n' c', .int .i64 f] 24)).heap.size ((w.alloc (.cells #[.bool p, .slice A n c, .int .i64 e] 24)).alloc (.cells #[.bool q, .slice A' n' c', .int .i64 f] 24)) w3) => rplain q A' n' c' ys f w3 (H'.below hb) (by omega))
  cases hp : plainB p xs e
  · have er : cmpR p q xs ys e f = .tuple #[.int .i64 0, .bool false] := by unfold cmpR; rw [hp]; rfl
    rw [er]
    rw [hp] at PX
    clear er PY
    go_enter Tryd.func40, Tryd.ntmps40
    go_wp2_with fail
    refine PX.out.mono ?_; rintro r w3 ⟨rfl, hb3⟩
    have hw3 := below_on b1 hb3
    clear k0 k1 k2 f0 f1 f2 j0 j1 j2 g0 g1 g2
    obtain ⟨k0, k1, k2, f0, f1, f2⟩ := (bx.later hb3).cell3
    obtain ⟨j0, j1, j2, g0, g1, g2⟩ := (bz.later hb3).cell3
    go_wp2_with fail
    go_ret2
    exact ⟨rfl, hw3⟩
  · rw [hp] at PX
    cases hq : plainB q ys f
    · have er : cmpR p q xs ys e f = .tuple #[.int .i64 0, .bool false] := by unfold cmpR; rw [hp, hq]; rfl
      rw [er]
      rw [hq] at PY
      clear er
      go_enter Tryd.func40, Tryd.ntmps40
      go_wp2_with fail
      refine PX.out.mono ?_; rintro r w3 ⟨rfl, hb3⟩
      have hw3 := below_on b1 hb3
      clear k0 k1 k2 f0 f1 f2 j0 j1 j2 g0 g1 g2
      obtain ⟨k0, k1, k2, f0, f1, f2⟩ := (bx.later hb3).cell3
      obtain ⟨j0, j1, j2, g0, g1, g2⟩ := (bz.later hb3).cell3
      go_wp2_with fail
      refine (PY.out _ hb3).mono ?_; rintro r w4 ⟨rfl, hb4⟩
      go_wp2_with fail
      go_ret2
      exact ⟨rfl, below_on hw3 hb4⟩
    · rw [hq] at PY
      obtain ⟨pd1, l1, x1, v1⟩ := plainB_parts h.wf hp
      obtain ⟨pd2, l2, x2, v2⟩ := plainB_parts h'.wf hq
      have he := pd1.lo
      have he' := pd1.hi
      have hf := pd2.lo
      have hf' := pd2.hi
      simp only at he he' hf hf'
      have er : cmpR p q xs ys e f = .tuple #[.int .i64 (cmpD ⟨p, val xs, e⟩ ⟨q, val ys, f⟩), .bool true] := by unfold cmpR; rw [hp, hq]; rfl
      rw [er]
      clear er
      by_cases hpq : p = q
      · subst hpq
        rw [cmp_side pd1]
        have nx := h.val_nonneg
        have ny := h'.val_nonneg
        have SD := fun w3 (hb : Below ((w.alloc (.cells #[.bool p, .slice A n c, .int .i64 e] 24)).alloc (.cells #[.bool p, .slice A' n' c', .int .i64 f] 24)).heap.size ((w.alloc (.cells #[.bool p, .slice A n c, .int .i64 e] 24)).alloc (.cells #[.bool p, .slice A' n' c', .int .i64 f] 24)) w3) => rsides p p A A' n c n' c' (val xs) (val ys) e f w3 (by rw [x1]; exact H.below hb) (by rw [x2]; exact H'.below hb) nx ny hn hn' (by omega) (by omega) (by omega) (by omega) (.inr (.inr ⟨by omega, by omega⟩))
        have hg : -262144 ≤ sideE (val xs) (val ys) e f := by unfold sideE; split; exact hf; split; exact he; omega
        have la := lev_len nx (e := e) (L := sideE (val xs) (val ys) e f) (k := 256) (j := 10000) (by rw [x1]; exact l1) (by omega)
        have lb := lev_len ny (e := f) (L := sideE (val xs) (val ys) e f) (k := 256) (j := 10000) (by rw [x2]; exact l2) (by omega)
        have na := lev_nonneg nx e (sideE (val xs) (val ys) e f)
        have nb := lev_nonneg ny f (sideE (val xs) (val ys) e f)
        have va := val_wd _ na
        have vb := val_wd _ nb
        generalize lev (val xs) e (sideE (val xs) (val ys) e f) = lx at *
        generalize lev (val ys) f (sideE (val xs) (val ys) e f) = ly at *
        generalize sideE (val xs) (val ys) e f = g at *
        have SD := Lib.hid SD
        have cr := cmpI_range lx ly
        have CM : ∀ A1 n1 c1 A2 n2 c2 w5, Arr w5 A1 n1 c1 (wd lx) → Arr w5 A2 n2 c2 (wd ly) → Calls Tryd.prog 109 #[.slice A1 n1 c1, .slice A2 n2 c2] w5 fun e w' => e = .returned (.int .i64 (cmpI lx ly)) ∧ Below w5.heap.size w5 w' := by
          intro A1 n1 c1 A2 n2 c2 w5 a1 a2
          have := rcmp A1 A2 n1 c1 n2 c2 _ _ w5 a1 a2 (by rw [← a1.len]; omega) (by rw [← a2.len]; omega)
          rw [va, vb] at this
          exact this
        have CM := Lib.hid CM
        clear va vb na nb la lb x1 x2 v1 v2 pd1 pd2 hp hq h h' H H' nx ny
        generalize cmpI lx ly = cc at *
        have W1 : IntKind.i64.wrap (-cc) = -cc := by rw [IntKind.wrap_i64]; omega
        cases p
        all_goals
          go_enter Tryd.func40, Tryd.ntmps40
          go_wp2_with fail
          refine PX.out.mono ?_; rintro r w3 ⟨rfl, hb3⟩
          have hw3 := below_on b1 hb3
          clear k0 k1 k2 f0 f1 f2 j0 j1 j2 g0 g1 g2
          obtain ⟨k0, k1, k2, f0, f1, f2⟩ := (bx.later hb3).cell3
          obtain ⟨j0, j1, j2, g0, g1, g2⟩ := (bz.later hb3).cell3
          go_wp2_with fail
          refine (PY.out _ hb3).mono ?_; rintro r w4 ⟨rfl, hb4⟩
          have hw4 := below_on hw3 hb4
          have hb4 := below_on hb3 hb4
          clear k0 k1 k2 f0 f1 f2 j0 j1 j2 g0 g1 g2
          obtain ⟨k0, k1, k2, f0, f1, f2⟩ := (bx.later hb4).cell3
          obtain ⟨j0, j1, j2, g0, g1, g2⟩ := (bz.later hb4).cell3
          go_wp2_with fail
          refine (SD.out _ hb4).mono ?_; rintro r w5 ⟨A1, n1, c1, A2, n2, c2, rfl, ha1, ha2, hb5⟩
          have hw5 := below_on hw4 hb5
          have hb5 := below_on hb4 hb5
          clear k0 k1 k2 f0 f1 f2 j0 j1 j2 g0 g1 g2
          obtain ⟨k0, k1, k2, f0, f1, f2⟩ := (bx.later hb5).cell3
          obtain ⟨j0, j1, j2, g0, g1, g2⟩ := (bz.later hb5).cell3
          go_wp2_with fail
          refine (CM.out _ _ _ _ _ _ _ ha1 ha2).mono ?_; rintro r w6 ⟨rfl, hb6⟩
          have hw6 := below_on hw5 hb6
          have hb6 := below_on hb5 hb6
          clear k0 k1 k2 f0 f1 f2 j0 j1 j2 g0 g1 g2
          obtain ⟨k0, k1, k2, f0, f1, f2⟩ := (bx.later hb6).cell3
          go_wp2_with fail
          go_ret2
          exact ⟨by simp, hw6⟩
      · have hs := cmp_signs pd1 pd2 hpq
        rw [hs]
        simp only
        have hqq : q = !p := by cases p <;> cases q <;> simp_all
        subst hqq
        cases p
        all_goals
          go_enter Tryd.func40, Tryd.ntmps40
          go_wp2_with fail
          refine PX.out.mono ?_; rintro r w3 ⟨rfl, hb3⟩
          have hw3 := below_on b1 hb3
          clear k0 k1 k2 f0 f1 f2 j0 j1 j2 g0 g1 g2
          obtain ⟨k0, k1, k2, f0, f1, f2⟩ := (bx.later hb3).cell3
          obtain ⟨j0, j1, j2, g0, g1, g2⟩ := (bz.later hb3).cell3
          go_wp2_with fail
          refine (PY.out _ hb3).mono ?_; rintro r w4 ⟨rfl, hb4⟩
          have hw4 := below_on hw3 hb4
          have hb4 := below_on hb3 hb4
          clear k0 k1 k2 f0 f1 f2 j0 j1 j2 g0 g1 g2
          obtain ⟨k0, k1, k2, f0, f1, f2⟩ := (bx.later hb4).cell3
          obtain ⟨j0, j1, j2, g0, g1, g2⟩ := (bz.later hb4).cell3
          go_wp2_with fail
          go_ret2
          exact ⟨rfl, hw4⟩
def fewD (d : DV) : Bool := decide (d.n ≤ 40) && (decide (d.e ≤ 20000) && decide (-20000 ≤ d.e))
set_option maxHeartbeats 1000000 in
theorem few02 (SA : Option Addr) (m cap : Nat) (l : List DV) (hm : l.length = m) (w : World) (h : DVA w SA l) (hl : m ≤ 1000000) :
    Calls Tryd.prog 35 #[.slice SA m cap] w fun r w' => r = .returned (.bool (l.all fewD)) ∧ Below w.heap.size w w' := by
  subst hm
  have HA : ∀ i (h : i < l.length), fewD (l[i]) = false → l.all fewD = false := fun i h hh => by
    rw [List.all_eq_false]
    exact ⟨l[i], List.getElem_mem h, by rw [hh]; simp⟩
  have HB : (∀ j (h : j < l.length), fewD (l[j]) = true) → l.all fewD = true := fun h => by
    rw [List.all_eq_true]
    intro t ht
    obtain ⟨j, hj, rfl⟩ := List.mem_iff_getElem.1 ht
    exact h j hj
  generalize l.all fewD = q at *
  have HA := Lib.hid HA
  have HB := Lib.hid HB
  go_enter Tryd.func35, Tryd.ntmps35
  go_wp2
  go_loopw [7] (fun v wr => ∃ i : Nat, i ≤ l.length ∧ v = .int .i64 i ∧ Hid (∀ j (h : j < l.length), j < i → fewD (l[j]) = true) ∧ Below w.heap.size w wr) (fun v _ => l.length - (intOf v).toNat)
  case atStart => exact ⟨0, Nat.zero_le _, rfl, fun j _ h => absurd h (by omega), below_self w⟩
  case round =>
    obtain ⟨i, hi, rfl, hI, hW⟩ := hrel
    by_cases h0 : i < l.length
    · have hD := h.later hW
      obtain ⟨g, o, rfl, -, hd0, hd1, hd2⟩ := hD.mem (by omega)
      have k0 := hd0 i h0
      have k1 := hd1 i h0
      have k2 := hd2 i h0
      clear hd0 hd1 hd2
      have a1 := HA.out i h0
      have i1 := hI.out
      have HN : fewD (l[i]) = true → ∀ j (h : j < l.length), j < i + 1 → fewD (l[j]) = true := fun hp j h hj => by
        by_cases hji : j = i
        · subst hji; exact hp
        · exact i1 j h (by omega)
      generalize hx : l[i] = x at *
      obtain ⟨neg, A, n, c, xs, e⟩ := x
      have HN := Lib.hid HN
      have HF := Lib.hid a1
      obtain ⟨z0, z1, z2, y0, y1, y2⟩ := (box_new wr #[.bool neg, .slice A n c, .int .i64 e] 24).cell3
      have hW4 : Below w.heap.size w (wr.alloc (.cells #[.bool neg, .slice A n c, .int .i64 e] 24)) := hW.trans (below_alloc (below_self wr) _ |>.mono hW.size)
      clear i1 a1 hx hI
      simp only at k0 k1 k2
      by_cases t1 : n ≤ 40
      · have d1 : decide ((n : Int) > 40) = false := by simp; omega
        by_cases t2 : e ≤ 20000
        · have d2 : decide (e > 20000) = false := by simp; omega
          by_cases t3 : -20000 ≤ e
          · have d3 : decide (e < -20000) = false := by simp; omega
            have HN := Lib.hid (HN.out (by unfold fewD; simp [t1, t2, t3]))
            go_wp2_with fail
            exact ⟨⟨i + 1, by omega, by go_num, HN.out, hW4⟩, by simp only [intOf]; omega⟩
          · have d3 : decide (e < -20000) = true := by simp; omega
            have HQ := Lib.hid (HF.out (by unfold fewD; simp [t3]))
            go_wp2_with fail
            go_ret
            exact ⟨by rw [HQ.out]; rfl, hW4⟩
        · have d2 : decide (e > 20000) = true := by simp; omega
          have HQ := Lib.hid (HF.out (by unfold fewD; simp [t2]))
          go_wp2_with fail
          go_ret
          exact ⟨by rw [HQ.out]; rfl, hW4⟩
      · have d1 : decide ((n : Int) > 40) = true := by simp; omega
        have HQ := Lib.hid (HF.out (by unfold fewD; simp [t1]))
        go_wp2_with fail
        go_ret
        exact ⟨by rw [HQ.out]; rfl, hW4⟩
    · obtain rfl : i = l.length := by omega
      have HQ := Lib.hid (HB.out (fun j h => hI.out j h h))
      go_wp2
      go_ret
      exact ⟨by rw [HQ.out]; rfl, hW⟩
end Go.Proofs.YtbfnjjnnlbchgaaDoor
