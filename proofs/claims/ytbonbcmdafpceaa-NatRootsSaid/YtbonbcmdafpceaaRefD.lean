/- The document's order, sum and difference. -/
import Derived.BigQuiet
import Derived.Test.YtbonbcmdafpceaaRefB
import Derived.Test.YtbonbcmdafpceaaNatA
namespace Go.Proofs.Ytbonbcmdafpceaa
open Go.RowKit Num
set_option maxRecDepth 100000

theorem dig_take (X : List Int) (i : Nat) : Dig.val (X.take (i + 1)) = Dig.val (X.take i) + Dig.B ^ i * X.getD i 0 := by
  by_cases h : i < X.length
  · rw [take_last (xs := X) (k := i + 1) (by omega) (by omega), Nat.add_sub_cancel, Dig.val_append, List.length_take, Nat.min_eq_left (by omega), ← List.getD_eq_getElem?_getD]
    simp [Dig.val]
  · rw [List.take_of_length_le (by omega), List.take_of_length_le (by omega), List.getD_eq_getElem?_getD, List.getElem?_eq_none (by omega)]
    simp
theorem dig_snoc (S : List Int) (d : Int) : Dig.val (S ++ [d]) = Dig.val S + Dig.B ^ S.length * d := by rw [Dig.val_append]; simp [Dig.val]
theorem add_step {S X Y : List Int} {i : Nat} {cy n : Int} (hl : S.length = i) (h : Dig.val S + cy * Dig.B ^ i = Dig.val (X.take i) + Dig.val (Y.take i)) (hn : n = cy + X.getD i 0 + Y.getD i 0) :
    Dig.val (S ++ [n % 65536]) + n / 65536 * Dig.B ^ (i + 1) = Dig.val (X.take (i + 1)) + Dig.val (Y.take (i + 1)) := by
  rw [dig_snoc, hl, dig_take, dig_take, Int.pow_succ]
  have e : n = n % 65536 + Dig.B * (n / 65536) := by rw [Dig.B_eq]; omega
  generalize Dig.B ^ i = p at *
  generalize X.getD i 0 = x at *
  generalize Y.getD i 0 = y at *
  generalize n % 65536 = a at *
  generalize n / 65536 = b at *
  have e2 : p * a + b * (p * Dig.B) = p * n := by rw [e]; grind
  have e3 : p * n = p * cy + p * x + p * y := by rw [hn]; grind
  have e4 : cy * p = p * cy := Int.mul_comm _ _
  omega
theorem add_last {S X Y : List Int} {i : Nat} {cy : Int} (hl : S.length = i) (h : Dig.val S + cy * Dig.B ^ i = Dig.val (X.take i) + Dig.val (Y.take i)) (hx : X.length ≤ i) (hy : Y.length ≤ i) :
    Dig.val (S ++ [cy]) = Dig.val X + Dig.val Y := by
  rw [List.take_of_length_le hx, List.take_of_length_le hy] at h
  rw [dig_snoc, hl, ← h, Int.mul_comm]
set_option maxHeartbeats 1000000 in
theorem radd (A A' : Option Addr) (n c n' c' : Nat) (xs ys : List Int) (w : World) (h : Arr w A n c xs) (h' : Arr w A' n' c' ys) (hn : n ≤ 100000000) (hn' : n' ≤ 100000000) :
    Calls Try.prog 62 #[.slice A n c, .slice A' n' c'] w fun e w' => ∃ A2 n2 c2, e = .returned (.slice A2 n2 c2) ∧ Own w' w.heap.size A2 n2 c2 (wd (val xs + val ys)) ∧ Below w.heap.size w w' := by
  have hvx := h.val_nonneg
  have hvy := h'.val_nonneg
  have DX := Lib.hid (digits A n c xs w h hn)
  have DY := Lib.hid (fun w' (hb : Below w.heap.size w w') => digits A' n' c' ys w' (h'.below hb) hn')
  have lX : (Dig.wd (val xs)).length ≤ 4 * n := by
    have := Dig.wd_len (allD_wf xs)
    rw [allD_val h.wf, allD_length, h.len] at this; exact this
  have lY : (Dig.wd (val ys)).length ≤ 4 * n' := by
    have := Dig.wd_len (allD_wf ys)
    rw [allD_val h'.wf, allD_length, h'.len] at this; exact this
  have wX := Dig.wf_wd _ hvx
  have wY := Dig.wf_wd _ hvy
  have vX := Dig.val_wd _ hvx
  have vY := Dig.val_wd _ hvy
  generalize hXe : Dig.wd (val xs) = X at *
  generalize hYe : Dig.wd (val ys) = Y at *
  clear hXe hYe
  rw [← vX, ← vY]
  clear vX vY hvx hvy
  go_enter Try.func62, Try.ntmps62
  go_wp2_with fail
  refine DX.out.mono ?_; rintro r w1 ⟨A1, n1, c1, rfl, hO1, hb1⟩
  obtain rfl := hO1.len
  go_wp2_with fail
  refine (DY.out _ hb1).mono ?_; rintro r w2 ⟨A2, n2, c2, rfl, hO2, hb2⟩
  obtain rfl := hO2.len
  have hw2 := below_on hb1 hb2
  have a1 := hO1.arr.below hb2
  have a2 := hO2.arr
  have cap1 := a1.cap
  have cap2 := a1.big
  have cap3 := a2.cap
  have cap4 := a2.big
  clear hO1 hO2
  go_wp2
  go_loopw [7, 8, 9] (fun vs vc vi wr => ∃ (i : Nat) (cy : Int) (S : List Int), i ≤ max X.length Y.length ∧ vi = .int .i64 i ∧ vc = .int .u64 cy ∧ 0 ≤ cy ∧ cy ≤ 1 ∧ S.length = i ∧ Dig.Wf S ∧ Hid (Dig.val S + cy * Dig.B ^ i = Dig.val (X.take i) + Dig.val (Y.take i)) ∧ wr.ownsRow w2.heap.size 22 1 vs i (cellsOf S) ∧ Below w2.heap.size w2 wr) (fun _ _ vi _ => max X.length Y.length + 1 - (intOf vi).toNat)
  case atStart => exact ⟨0, 0, [], Nat.zero_le _, rfl, rfl, by omega, by omega, rfl, Dig.wf_nil, by show _ = _; simp [Dig.val], owns_nil w2 _, below_self w2⟩
  case round =>
    obtain ⟨i, cy, S, hi, rfl, rfl, hc0, hc1, hlS, hwS, hv, ho, hW⟩ := hrel
    have xg := wX.getD i
    have yg := wY.getD i
    have hst := fun n hn => add_step (n := n) hlS hv.out hn
    have zx : ¬ i < X.length → X.getD i 0 = 0 := fun hh => by rw [List.getD_eq_getElem?_getD, List.getElem?_eq_none (by omega)]; rfl
    have zy : ¬ i < Y.length → Y.getD i 0 = 0 := fun hh => by rw [List.getD_eq_getElem?_getD, List.getElem?_eq_none (by omega)]; rfl
    have hwn : ∀ n : Int, Dig.Wf (S ++ [n % 65536]) := fun n => Dig.wf_append.2 ⟨hwS, Dig.wf_cons.2 ⟨by omega, Dig.wf_nil⟩⟩
    have a1' := a1.below hW
    have a2' := a2.below hW
    by_cases hx : i < X.length
    · obtain ⟨b, o, rfl, hlt, hc⟩ := a1'.mem (by omega)
      have k1 := hc i hx
      have d1 : decide ((i : Int) < X.length) = true := by simp; omega
      clear hc
      by_cases hy : i < Y.length
      · obtain ⟨b', o', rfl, hlt', hc'⟩ := a2'.mem (by omega)
        have k2 := hc' i hy
        have d2 : decide ((i : Int) < Y.length) = true := by simp; omega
        clear hc'
        generalize X.getD i 0 = x at *
        generalize Y.getD i 0 = y at *
        (have HST := Lib.hid (hst (cy + x + y) (by omega)); have HWN := Lib.hid (hwn (cy + x + y)); have t1 : (cy + x + y).tmod 65536 = (cy + x + y) % 65536 := Int.tmod_eq_emod_of_nonneg (by omega); have t2 : (cy + x + y).tdiv 65536 = (cy + x + y) / 65536 := Int.tdiv_eq_ediv_of_nonneg (by omega); clear hst hwn hv zx zy; go_wp2_with (at_builtin; refine wp_append rfl _ _ rfl w2.heap.size _ i S rfl (ho.alloc _) _ 1 1 [(cy + x + y) % 65536] rfl (arr_one rfl ((cy + x + y) % 65536) (by omega) (by omega)) (i + 1) rfl (by omega) (by have := hW.size; simp; omega) ?_); intro v4 w4 ho4 hg4; have hb4 := own_push ho hW hg4; have HO := Lib.hid ho4; clear ho4; go_wp2; exact ⟨⟨i + 1, _, _, by omega, by go_num, rfl, by omega, by omega, by simp; omega, HWN.out, HST.out, HO.out, hb4⟩, by simp only [intOf]; omega⟩)
      · have d2 : decide ((i : Int) < Y.length) = false := by simp; omega
        have y0 := zy hy
        generalize X.getD i 0 = x at *
        generalize Y.getD i 0 = y at *
        subst y0
        (have HST := Lib.hid (hst (cy + x) (by omega)); have HWN := Lib.hid (hwn (cy + x)); have t1 : (cy + x).tmod 65536 = (cy + x) % 65536 := Int.tmod_eq_emod_of_nonneg (by omega); have t2 : (cy + x).tdiv 65536 = (cy + x) / 65536 := Int.tdiv_eq_ediv_of_nonneg (by omega); clear hst hwn hv zx zy; go_wp2_with (at_builtin; refine wp_append rfl _ _ rfl w2.heap.size _ i S rfl (ho.alloc _) _ 1 1 [(cy + x) % 65536] rfl (arr_one rfl ((cy + x) % 65536) (by omega) (by omega)) (i + 1) rfl (by omega) (by have := hW.size; simp; omega) ?_); intro v4 w4 ho4 hg4; have hb4 := own_push ho hW hg4; have HO := Lib.hid ho4; clear ho4; go_wp2; exact ⟨⟨i + 1, _, _, by omega, by go_num, rfl, by omega, by omega, by simp; omega, HWN.out, HST.out, HO.out, hb4⟩, by simp only [intOf]; omega⟩)
    · have d1 : decide ((i : Int) < X.length) = false := by simp; omega
      have x0 := zx hx
      by_cases hy : i < Y.length
      · obtain ⟨b', o', rfl, hlt', hc'⟩ := a2'.mem (by omega)
        have k2 := hc' i hy
        have d2 : decide ((i : Int) < Y.length) = true := by simp; omega
        clear hc'
        generalize X.getD i 0 = x at *
        generalize Y.getD i 0 = y at *
        subst x0
        (have HST := Lib.hid (hst (cy + y) (by omega)); have HWN := Lib.hid (hwn (cy + y)); have t1 : (cy + y).tmod 65536 = (cy + y) % 65536 := Int.tmod_eq_emod_of_nonneg (by omega); have t2 : (cy + y).tdiv 65536 = (cy + y) / 65536 := Int.tdiv_eq_ediv_of_nonneg (by omega); clear hst hwn hv zx zy; go_wp2_with (at_builtin; refine wp_append rfl _ _ rfl w2.heap.size _ i S rfl (ho.alloc _) _ 1 1 [(cy + y) % 65536] rfl (arr_one rfl ((cy + y) % 65536) (by omega) (by omega)) (i + 1) rfl (by omega) (by have := hW.size; simp; omega) ?_); intro v4 w4 ho4 hg4; have hb4 := own_push ho hW hg4; have HO := Lib.hid ho4; clear ho4; go_wp2; exact ⟨⟨i + 1, _, _, by omega, by go_num, rfl, by omega, by omega, by simp; omega, HWN.out, HST.out, HO.out, hb4⟩, by simp only [intOf]; omega⟩)
      · have d2 : decide ((i : Int) < Y.length) = false := by simp; omega
        have hl := add_last hlS hv.out (by omega) (by omega)
        have hwl : Dig.Wf (S ++ [cy]) := Dig.wf_append.2 ⟨hwS, Dig.wf_cons.2 ⟨by omega, Dig.wf_nil⟩⟩
        have HL := Lib.hid hl
        clear hst hwn hv zx zy hl x0
        go_wp2_with (at_builtin; refine wp_append rfl _ _ rfl w2.heap.size _ i S rfl (ho.alloc _) _ 1 1 [cy] rfl (arr_one rfl cy (by omega) (by omega)) (i + 1) rfl (by omega) (by have := hW.size; simp; omega) ?_)
        intro v4 w4 ho4 hg4
        have hb4 := own_push ho hW hg4
        obtain ⟨A5, c5, rfl, hO⟩ := own_of_owns ho4 (dig_wf hwl)
        have WW := Lib.hid (words _ _ _ _ w4 hO.arr hwl (by omega))
        rw [HL.out] at WW
        have hw4 := below_on hw2 hb4
        clear ho4
        go_wp2_with fail
        refine WW.out.mono ?_; rintro r w5 ⟨A6, n6, c6, rfl, hO6, hb6⟩
        go_wp2
        go_ret
        exact ⟨A6, n6, c6, rfl, hO6.mono hw4.size, below_on hw4 hb6⟩
end Go.Proofs.Ytbonbcmdafpceaa
