/- The document's order of two numbers. -/
import Derived.BigQuiet
import Derived.Test.YtbfnjjnnlbchgaaDoorRefA
import Derived.Test.YtbfnjjnnlbchgaaDoorNatA
namespace Go.Proofs.YtbfnjjnnlbchgaaDoor
open Go.RowKit Num
set_option maxRecDepth 100000

theorem compare (A A' : Option Addr) (n c n' c' : Nat) (x y : Int) (w : World) (nx : 0 ≤ x) (ny : 0 ≤ y) (hx : Arr w A n c (Dig.wd x)) (hy : Arr w A' n' c' (Dig.wd y)) :
    Calls Tryd.prog 148 #[.slice A n c, .slice A' n' c'] w fun e w' => e = .returned (.int .i64 (cmpI x y)) ∧ Still w w' := by
  have bx := hx.cap
  have cx := hx.big
  have by' := hy.cap
  have cy := hy.big
  have wx := Dig.wf_wd x nx
  have wy := Dig.wf_wd y ny
  have lx := hx.len
  have ly := hy.len
  by_cases hl : n = n'
  · have hlb : ((n : Int) != (n' : Int)) = false := by simp [hl]
    have hlxy : (Dig.wd x).length = (Dig.wd y).length := by omega
    have vx := Dig.val_wd x nx
    have vy := Dig.val_wd y ny
    generalize Dig.wd x = X at *
    generalize Dig.wd y = Y at *
    subst lx
    have HL := Lib.hid hlxy
    have HLL := Lib.hid hl
    have VX := Lib.hid vx
    have VY := Lib.hid vy
    clear hlxy ly vx vy
    subst hl
    go_enter Tryd.func148, Tryd.ntmps148
    go_wp2
    go_loopw [5] (fun v wr => ∃ r : Nat, r ≤ X.length ∧ v = .int .i64 ((r : Int) - 1) ∧ Hid (X.drop r = Y.drop r) ∧ Still w wr) (fun v _ => (intOf v + 1).toNat)
    case atStart => exact ⟨X.length, Nat.le_refl _, rfl, by show _ = _; rw [List.drop_length, HL.out, List.drop_length], Still.refl _⟩
    case round =>
      obtain ⟨r, hr, rfl, hd, ⟨m, rfl⟩⟩ := hrel
      by_cases h0 : 0 < r
      · obtain ⟨b, o, rfl, hlt, hc⟩ := hx.mem (by omega)
        obtain ⟨b', o', rfl, hlt', hc'⟩ := hy.mem (by omega)
        obtain ⟨q, rfl⟩ : ∃ q, r = q + 1 := ⟨r - 1, by omega⟩
        rw [show (((q + 1 : Nat) : Int) - 1) = (q : Int) from by omega]
        have k1 := hc q (by omega)
        have k2 := hc' q (by omega)
        rw [List.getD_eq_getElem?_getD] at k1 k2
        have l1 : (q : Int) < X.length := by omega
        have hlen := HL.out
        have v1 := fun hlt => Dig.lt_of_word wx hlen wy (i := q) (by omega) hd.out hlt
        have v2 := fun hlt => Dig.lt_of_word wy hlen.symm wx (i := q) (by omega) hd.out.symm hlt
        have v3 := fun heq => Dig.drop_same hlen (i := q) (by omega) hd.out heq
        rw [VX.out, VY.out] at v1 v2
        generalize X[q]?.getD 0 = p at *
        generalize Y[q]?.getD 0 = s at *
        clear hc hc' hlen
        have V1 := Lib.hid v1
        have V2 := Lib.hid v2
        have V3 := Lib.hid v3
        clear v1 v2 v3
        by_cases h1 : p < s
        · have d1 : decide (p < s) = true := by simp [h1]
          have e := cmpI_lt (V1.out h1)
          have HE := Lib.hid e
          clear e
          go_wp2
          go_quiet (fail)
          go_wp2
          go_ret
          exact ⟨by rw [HE.out]; rfl, (by repeat (first | exact Still.refl _ | apply Still.drewN | apply Still.drew))⟩
        · have d1 : decide (p < s) = false := by simp; omega
          by_cases h2 : s < p
          · have d2 : decide (s < p) = true := by simp [h2]
            have HE := Lib.hid (cmpI_gt (V2.out h2))
            go_wp2
            go_quiet (fail)
            go_wp2
            go_quiet (fail)
            go_wp2
            go_ret
            exact ⟨by rw [HE.out]; rfl, (by repeat (first | exact Still.refl _ | apply Still.drewN | apply Still.drew))⟩
          · have d2 : decide (s < p) = false := by simp; omega
            have HD := Lib.hid (V3.out (by omega))
            go_wp2
            go_quiet (fail)
            go_wp2
            go_quiet (fail)
            go_wp2
            exact ⟨⟨q, by omega, rfl, HD.out, (by repeat (first | exact Still.refl _ | apply Still.drewN | apply Still.drew))⟩, by simp only [intOf]; omega⟩
      · obtain rfl : r = 0 := by omega
        have hd' : X = Y := hd.out
        have hv : x = y := by rw [← VX.out, ← VY.out, hd']
        have HE := Lib.hid (cmpI_eq hv)
        clear hd'
        go_wp2
        go_ret
        exact ⟨by rw [HE.out]; rfl, (by repeat (first | exact Still.refl _ | apply Still.drewN | apply Still.drew))⟩
  · have hlb : ((n : Int) != (n' : Int)) = true := by simp; omega
    by_cases hlt : n < n'
    · have e := cmpI_lt (Dig.lt_of_len nx (y := y) (by omega))
      have d1 : decide ((n : Int) < n') = true := by simp; omega
      have HE := Lib.hid e
      clear e
      go_enter Tryd.func148, Tryd.ntmps148
      go_wp2
      go_ret
      exact ⟨by rw [HE.out]; rfl, (by repeat (first | exact Still.refl _ | apply Still.drewN | apply Still.drew))⟩
    · have e := cmpI_gt (Dig.lt_of_len ny (y := x) (by omega))
      have d1 : decide ((n : Int) < n') = false := by simp; omega
      have HE := Lib.hid e
      clear e
      go_enter Tryd.func148, Tryd.ntmps148
      go_wp2
      go_ret
      exact ⟨by rw [HE.out]; rfl, (by repeat (first | exact Still.refl _ | apply Still.drewN | apply Still.drew))⟩
theorem rcmp (A A' : Option Addr) (n c n' c' : Nat) (xs ys : List Int) (w : World) (h : Arr w A n c xs) (h' : Arr w A' n' c' ys) (hn : n ≤ 100000000) (hn' : n' ≤ 100000000) :
    Calls Tryd.prog 109 #[.slice A n c, .slice A' n' c'] w fun e w' => e = .returned (.int .i64 (cmpI (val xs) (val ys))) ∧ Below w.heap.size w w' := by
  have hvx := h.val_nonneg
  have hvy := h'.val_nonneg
  have DX := Lib.hid (digits A n c xs w h hn)
  have DY := Lib.hid (fun w' (hb : Below w.heap.size w w') => digits A' n' c' ys w' (h'.below hb) hn')
  go_enter Tryd.func109, Tryd.ntmps109
  go_wp2_with fail
  refine DX.out.mono ?_; rintro r w1 ⟨A1, n1, c1, rfl, hO1, hb1⟩
  go_wp2_with fail
  refine (DY.out _ hb1).mono ?_; rintro r w2 ⟨A2, n2, c2, rfl, hO2, hb2⟩
  have hw2 := below_on hb1 hb2
  have C := Lib.hid (compare A1 A2 n1 c1 n2 c2 _ _ w2 hvx hvy (hO1.arr.below hb2) hO2.arr)
  go_wp2_with fail
  refine C.out.mono ?_; rintro r w3 ⟨rfl, hs⟩
  have hw3 := hw2.trans (hs.below _)
  go_wp2
  go_ret
  exact ⟨rfl, hw3⟩
end Go.Proofs.YtbfnjjnnlbchgaaDoor
