/- nat.DivMod: nothing to part, one word to part by. -/
import Derived.BigQuiet
import Derived.Deep.RegionWith
import Derived.Test.YtbfnjjnnlbchgaaDoorNatM
import Derived.Test.YtbfnjjnnlbchgaaDoorNatN
namespace Go.Proofs.YtbfnjjnnlbchgaaDoor
open Go.RowKit Num
set_option maxRecDepth 100000

theorem div64a (hi lo y : Int) (w : World) (h0 : 0 ≤ hi) (hl0 : 0 ≤ lo) (hl : lo < 18446744073709551616) (hy : hi < y) (hy' : y < 18446744073709551616) :
    Calls Tryd.prog 141 #[.int .u64 hi, .int .u64 lo, .int .u64 y] w fun e w' => e = .returned (.tuple #[.int .u64 ((hi * 18446744073709551616 + lo) / y), .int .u64 ((hi * 18446744073709551616 + lo) % y)]) ∧ Still w w' := by
  by_cases h : hi = 0
  · subst h
    have := div64_low lo y w hl0 hl hy hy'
    rw [Int.zero_mul, Int.zero_add]
    exact this
  · exact div64 hi lo y w (by omega) hl0 hl hy hy'
theorem drop_cons_val {X : List Int} {i : Nat} (hi : i < X.length) : val (X.drop i) = X.getD i 0 + 18446744073709551616 * val (X.drop (i + 1)) := by
  rw [List.drop_eq_getElem_cons hi, val_cons, List.getD_eq_getElem?_getD, List.getElem?_eq_getElem hi]; rfl
theorem set_drop_val {Q : List Int} {i : Nat} (hi : i < Q.length) (d : Int) : val ((Q.set i d).drop i) = d + 18446744073709551616 * val (Q.drop (i + 1)) := by
  rw [drop_cons_val (by rw [List.length_set]; exact hi), getD_set_same _ _ _ hi]
  congr 3
  rw [List.drop_set_of_lt (by omega)]
theorem word_round {X Q : List Int} {i : Nat} {y L : Int} (hi : i < X.length) (hq : i < Q.length) (hy : 0 < y) (hv : val (Q.drop (i + 1)) = val (X.drop (i + 1)) / y) (hL : L = val (X.drop (i + 1)) % y) :
    val ((Q.set i ((L * 18446744073709551616 + X.getD i 0) / y)).drop i) = val (X.drop i) / y ∧ (L * 18446744073709551616 + X.getD i 0) % y = val (X.drop i) % y := by
  rw [set_drop_val hq, hv, drop_cons_val hi, hL]
  have h1 := div_two (val (X.drop (i + 1))) (X.getD i 0) 18446744073709551616 hy
  have h2 := mod_two (val (X.drop (i + 1))) (X.getD i 0) 18446744073709551616 y
  generalize val (X.drop (i + 1)) = v at *
  generalize X.getD i 0 = x at *
  have e1 : v * 18446744073709551616 + x = x + 18446744073709551616 * v := by omega
  rw [e1] at h1 h2
  rw [h1, h2]
  exact ⟨by omega, rfl⟩
theorem divmod_small (A A' : Option Addr) (n c n' c' : Nat) (xs ys : List Int) (w : World) (h : Arr w A n c xs) (h' : Arr w A' n' c' ys) (hn : n ≤ 100000000) (hxy : val ys = 0 ∨ val xs < val ys) :
    Calls Tryd.prog 103 #[.slice A n c, .slice A' n' c'] w (RetDM (val xs) (val ys) w) := by
  have hx := h.trim
  have hy := h'.trim
  have vx := h.val_nonneg
  have vy := h'.val_nonneg
  have T := Lib.hid (trim A n c xs w h)
  have T' := Lib.hid (trim A' n' c' ys w h')
  have C := Lib.hid (ncmp A A' _ c _ c' _ _ w hx hy)
  have nl : (wd (val xs)).length ≤ 100000000 := Nat.le_trans (wd_len h.wf) (by rw [h.len]; exact hn)
  have NT := Lib.hid (fun w' (hb : Below w.heap.size w w') => ntrim A _ c _ w' (hx.below hb) (by omega))
  rw [val_wd _ vx] at NT
  rw [val_wd _ vx, val_wd _ vy] at C
  by_cases h0 : val ys = 0
  · have l0 : (wd (val ys)).length = 0 := by rw [h0, wd_zero (Int.le_refl _)]; rfl
    rw [l0] at T'
    have e1 : wd (divI (val xs) (val ys)) = [] := by unfold divI; rw [if_pos h0]; exact wd_zero (Int.le_refl _)
    have e2 : wd (modI (val xs) (val ys)) = [] := by unfold modI; rw [if_pos h0]; exact wd_zero (Int.le_refl _)
    have e3 : decide (0 < val ys) = false := by simp; omega
    unfold RetDM
    rw [e1, e2, e3]
    clear C e1 e2 e3 h0
    go_enter Tryd.func103, Tryd.ntmps103
    go_wp2_with fail
    refine T.out.mono ?_; rintro r w' ⟨rfl, rfl⟩
    go_wp2_with fail
    refine T'.out.mono ?_; rintro r w' ⟨rfl, rfl⟩
    go_wp2_with fail
    refine bodyPost_ret (v := .tuple #[.slice none 0 0, .slice none 0 0, .bool false]) (by simp [results, Tryd.results103, go_sem]) rfl ?_
    exact ⟨none, 0, 0, none, 0, 0, rfl, Arr.nothing _, Arr.nothing _, below_self w⟩
  · have hlt : val xs < val ys := by omega
    have lp : 0 < (wd (val ys)).length := List.length_pos_iff.2 (wd_ne_nil (by omega))
    have l0 : (((wd (val ys)).length : Int) == 0) = false := beq_eq_false_iff_ne.2 (by omega)
    have e1 : wd (divI (val xs) (val ys)) = [] := by unfold divI; rw [if_neg h0, Int.ediv_eq_zero_of_lt vx hlt]; exact wd_zero (Int.le_refl _)
    have e2 : modI (val xs) (val ys) = val xs := by unfold modI; rw [if_neg h0, Int.emod_eq_of_lt vx hlt]
    have e3 : decide (0 < val ys) = true := by simp; omega
    unfold RetDM
    rw [e1, e2, e3]
    rw [cmpI_lt hlt] at C
    generalize wd (val ys) = Y at *
    generalize hX : wd (val xs) = X at *
    clear e1 e2 e3 h0 hlt vx vy
    go_enter Tryd.func103, Tryd.ntmps103
    go_wp2_with fail
    refine T.out.mono ?_; rintro r w' ⟨rfl, rfl⟩
    go_wp2_with fail
    refine T'.out.mono ?_; rintro r w' ⟨rfl, rfl⟩
    go_wp2_with fail
    refine C.out.mono ?_; rintro r w0 ⟨rfl, hst⟩
    go_wp2_with fail
    refine (NT.out _ (hst.below _)).mono ?_; rintro r w5 ⟨A5, n5, c5, rfl, hO, hb⟩
    go_wp2_with fail
    refine bodyPost_ret (v := .tuple #[.slice none 0 0, .slice A5 n5 c5, .bool true]) (by simp [results, Tryd.results103, go_sem]) rfl ?_
    exact ⟨none, 0, 0, A5, n5, c5, rfl, Arr.nothing _, hO.arr, below_on (hst.below _) hb⟩
set_option maxHeartbeats 2000000 in
theorem divmod_word (A A' : Option Addr) (n c n' c' : Nat) (xs ys : List Int) (w : World) (h : Arr w A n c xs) (h' : Arr w A' n' c' ys) (hn : n ≤ 100000000) (h0 : 0 < val ys) (h1 : val ys ≤ val xs) (h2 : (wd (val ys)).length = 1) :
    Calls Tryd.prog 103 #[.slice A n c, .slice A' n' c'] w (RetDM (val xs) (val ys) w) := by
  have hx := h.trim
  have hy := h'.trim
  have vx := h.val_nonneg
  have T := Lib.hid (trim A n c xs w h)
  have T' := Lib.hid (trim A' n' c' ys w h')
  have C := Lib.hid (ncmp A A' _ c _ c' _ _ w hx hy)
  have nl : (wd (val xs)).length ≤ 100000000 := Nat.le_trans (wd_len h.wf) (by rw [h.len]; exact hn)
  rw [val_wd _ vx, val_wd _ (by omega)] at C
  have vX := val_wd (val xs) vx
  have vY := val_wd (val ys) (by omega)
  have wX := hx.wf
  unfold RetDM divI modI
  rw [if_neg (by omega), if_neg (by omega), decide_eq_true h0]
  generalize wd (val xs) = X at *
  generalize wd (val ys) = Y at *
  generalize val xs = x at *
  generalize hye : val ys = y at *
  obtain ⟨z, rfl⟩ := List.length_eq_one_iff.1 h2
  rw [val_one] at vY
  subst vY
  have y1 := hy.words 0
  simp only [List.getD_cons_zero] at y1
  have hc : cmpI x z = 0 ∨ cmpI x z = 1 := by unfold cmpI; rw [if_neg (by omega)]; split <;> simp
  generalize cmpI x z = q at *
  have hq : decide (q < 0) = false := by simp; omega
  simp only [List.length_singleton] at T' hy
  have D := Lib.hid (fun hi lo w a b c d => div64a hi lo z w a b c d y1.2)
  clear h2 hye
  subst vX
  have HX0 := Lib.hid h1
  clear h1
  go_enter Tryd.func103, Tryd.ntmps103
  go_wp2_with fail
  refine T.out.mono ?_; rintro r w' ⟨rfl, rfl⟩
  go_wp2_with fail
  refine T'.out.mono ?_; rintro r w' ⟨rfl, rfl⟩
  go_wp2_with fail
  refine C.out.mono ?_; rintro r w0 ⟨rfl, hst⟩
  have hb0 := hst.below w.heap.size
  clear hst
  go_wp2_with (at_make; refine wp_make rfl _ _ rfl _ _ X.length rfl rfl ?m1 ?m2 ?m3 ?_)
  case m1 => omega
  case m2 => omega
  case m3 => omega
  intro g w1 hg hrow hb
  have hb1 := below_on hb0 (hg ▸ hb)
  have hgw : w.heap.size ≤ g := by rw [hg]; exact hb0.size
  clear hg hb
  go_wp2_with fail
  go_loopw [8, 9] (fun vl vi wr => ∃ (r : Nat) (L : Int) (Q : List Int), r ≤ X.length ∧ vi = .int .i64 ((r : Int) - 1) ∧ vl = .int .u64 L ∧ 0 ≤ L ∧ L < z ∧ Q.length = X.length ∧ Row wr g Q ∧ Below w.heap.size w wr ∧ Hid (val (Q.drop r) = val (X.drop r) / z) ∧ Hid (L = val (X.drop r) % z)) (fun _ vi _ => (intOf vi + 1).toNat)
  case atStart => exact ⟨X.length, 0, _, Nat.le_refl _, by go_num, rfl, by omega, h0, by simp, hrow, hb1, by show _ = _; rw [List.drop_eq_nil_of_le (by simp), List.drop_eq_nil_of_le (by simp)]; simp [val], by show _ = _; rw [List.drop_eq_nil_of_le (by simp)]; simp [val]⟩
  case round =>
    obtain ⟨r, L, Q, hr, rfl, rfl, hL0, hL1, hlQ, hR, hW, hv, hm⟩ := hrel
    by_cases hr0 : 0 < r
    · obtain ⟨i, rfl⟩ : ∃ i, r = i + 1 := ⟨r - 1, by omega⟩
      have ei : (((i + 1 : Nat) : Int) - 1) = (i : Int) := by omega
      rw [ei]
      obtain ⟨b, o, rfl, hlt, hc⟩ := (hx.below hW).mem (by omega)
      have k1 := hc i (by omega)
      obtain ⟨b', o', rfl, hlt', hc'⟩ := (hy.below hW).mem (by omega)
      have k2 := hc' 0 (by omega)
      simp only [List.getD_cons_zero, Nat.add_zero] at k2
      have r1 := hR.cell i (by omega)
      have r2 := hR.free i
      have x1 := wX.getD i
      have hwr := word_round (X := X) (Q := Q) (i := i) (y := z) (by omega) (by omega) h0 hv.out hm.out
      have hset := fun W (hr : Row W g Q) v h0 h1 => hr.set i (by omega) v h0 h1
      generalize X.getD i 0 = x at *
      have D' := Lib.hid (fun w => D.out L x w hL0 x1.1 x1.2 hL1)
      have q1 : 0 ≤ (L * 18446744073709551616 + x) / z := Int.ediv_nonneg (by omega) (by omega)
      have q2 : (L * 18446744073709551616 + x) / z < 18446744073709551616 := Int.ediv_lt_of_lt_mul h0 (by omega)
      have q3 : 0 ≤ (L * 18446744073709551616 + x) % z := Int.emod_nonneg _ (by omega)
      have q4 : (L * 18446744073709551616 + x) % z < z := Int.emod_lt_of_pos _ h0
      have HWR := Lib.hid hwr
      clear hwr hv hm hc hc' C T T'
      generalize (L * 18446744073709551616 + x) / z = dq at *
      generalize (L * 18446744073709551616 + x) % z = dr at *
      have HS := Lib.hid (fun W hr => hset W hr dq q1 q2)
      clear hset
      go_wp2_with fail
      go_region_with (go_at_call 141; refine (D'.out _).mono ?_; rintro r w' ⟨rfl, ⟨k, rfl⟩⟩)
      all_goals
        go_wp2_with fail
        exact ⟨⟨i, dr, _, by omega, by go_num, rfl, q3, q4, by rw [List.length_set]; exact hlQ, HS.out _ (by repeat (first | exact hR | apply Row.drewN | apply Row.drew)), (by repeat (first | with_reducible assumption | exact below_self _ | refine below_set ?_ _ _ (by first | exact Nat.le_refl _ | omega | (simp; done) | (simp; omega)) _ | refine below_alloc ?_ _ | apply Below.drew | apply below_drewN)), HWR.out.1, HWR.out.2⟩, by simp only [intOf]; omega⟩
    · obtain rfl : r = 0 := by omega
      have hv := hv.out
      have hm := hm.out
      rw [List.drop_zero, List.drop_zero] at hv
      rw [List.drop_zero] at hm
      have hA := hR.arr' (n := X.length) (c := X.length) hlQ (by omega) (by omega)
      have TQ := Lib.hid (trim _ X.length X.length Q wr hA)
      have TR := Lib.hid (trim _ 1 1 [L] _ (arr_one (w := wr) rfl L hL0 (by omega)))
      have hT1 := hA.trim
      have hT2 := (arr_one (w := wr) rfl L hL0 (by omega)).trim
      rw [val_one] at TR hT2
      rw [hv] at TQ hT1
      have HM := Lib.hid hm
      clear hv hm
      go_wp2_with fail
      refine TQ.out.mono ?_; rintro r w' ⟨rfl, rfl⟩
      go_wp2_with fail
      refine TR.out.mono ?_; rintro r w' ⟨rfl, rfl⟩
      go_wp2_with fail
      refine bodyPost_ret (v := .tuple #[.slice (some ⟨g, 0, none⟩) (wd (val X / z)).length X.length, .slice (some ⟨wr.heap.size, 0, none⟩) (wd L).length 1, .bool true]) (by simp [results, Tryd.results103, go_sem]) rfl ?_
      exact ⟨_, _, _, _, _, _, rfl, hT1.below (below_alloc (below_self _) _), by rw [← HM.out]; exact hT2, below_alloc hW _⟩
end Go.Proofs.YtbfnjjnnlbchgaaDoor
