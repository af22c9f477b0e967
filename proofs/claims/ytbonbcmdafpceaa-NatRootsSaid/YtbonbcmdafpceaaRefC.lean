/- The document's product. -/
import Derived.BigQuiet
import Derived.Test.YtbonbcmdafpceaaRefB
namespace Go.Proofs.Ytbonbcmdafpceaa
open Go.RowKit Num
set_option maxRecDepth 100000

theorem u64_in {x : Int} (h0 : 0 ≤ x) (h1 : x < 18446744073709551616) : IntKind.u64.wrap x = x := by rw [IntKind.wrap_u64]; omega
theorem i64_in {x : Int} (h0 : 0 ≤ x) (h1 : x < 9223372036854775808) : IntKind.i64.wrap x = x := by
  simp [IntKind.wrap, IntKind.bits, IntKind.signed]; omega
theorem rmul (A A' : Option Addr) (n c n' c' : Nat) (xs ys : List Int) (w : World) (h : Arr w A n c xs) (h' : Arr w A' n' c' ys) (hn : n ≤ 100000000) (hn' : n' ≤ 100000000) :
    Calls Try.prog 65 #[.slice A n c, .slice A' n' c'] w fun e w' => ∃ A2 n2 c2, e = .returned (.slice A2 n2 c2) ∧ Own w' w.heap.size A2 n2 c2 (wd (val xs * val ys)) ∧ Below w.heap.size w w' := by
  have hvx := h.val_nonneg
  have hvy := h'.val_nonneg
  have DX := Lib.hid (digits A n c xs w h hn)
  have DY := Lib.hid (fun w' (hb : Below w.heap.size w w') => digits A' n' c' ys w' (h'.below hb) hn')
  have lX : (Dig.wd (val xs)).length ≤ 4 * n := by
    have := Dig.wd_len (allD_wf xs)
    rw [allD_val h.wf, allD_length, h.len] at this; exact this
  have lY : (Dig.wd (val ys)).length ≤ 4 * n' := by
    have := Dig.wd_len (allD_wf ys)
    rw [allD_val h'.wf, allD_length, h'.len] at this; exact this
  have wX := Dig.wf_wd _ hvx
  have wY := Dig.wf_wd _ hvy
  have vX := Dig.val_wd _ hvx
  have vY := Dig.val_wd _ hvy
  generalize hXe : Dig.wd (val xs) = X at *
  generalize hYe : Dig.wd (val ys) = Y at *
  clear hXe hYe
  rw [← vX, ← vY]
  clear vX vY hvx hvy
  go_enter Try.func65, Try.ntmps65
  go_wp2_with fail
  refine DX.out.mono ?_; rintro r w1 ⟨A1, n1, c1, rfl, hO1, hb1⟩
  obtain rfl := hO1.len
  go_wp2_with fail
  refine (DY.out _ hb1).mono ?_; rintro r w2 ⟨A2, n2, c2, rfl, hO2, hb2⟩
  obtain rfl := hO2.len
  have hw2 := below_on hb1 hb2
  have a1 := hO1.arr.below hb2
  have a2 := hO2.arr
  clear hO1 hO2
  go_wp2_with (at_make; refine wp_make rfl _ _ rfl _ _ (X.length + Y.length) rfl rfl ?m1 ?m2 ?m3 ?_)
  case m1 => omega
  case m2 => omega
  case m3 => omega
  intro g w3 hg hrow hb3
  have ap1 := a1.apart (Nat.le_of_eq hg.symm)
  have ap2 := a2.apart (Nat.le_of_eq hg.symm)
  have hb3' : Below w2.heap.size w2 w3 := hb3.mono (Nat.le_of_eq hg.symm)
  have hw3 := below_on hw2 hb3'
  have hgw : w.heap.size ≤ g := by have := hw2.size; omega
  have a1 := a1.below hb3'
  have a2 := a2.below hb3'
  have cap1 := a1.cap
  have cap2 := a1.big
  have cap3 := a2.cap
  have cap4 := a2.big
  clear hg hb3 hb3'
  go_wp2
  go_loopw [8] (fun vi wr => ∃ (i : Nat) (Z : List Int), i ≤ X.length ∧ vi = .int .i64 i ∧ Z.length = X.length + Y.length ∧ Dig.Wf Z ∧ Row wr g Z ∧ Dig.PlainInv Z Y X i 0 0 0 ∧ w3.grownBy wr (some g)) (fun vi _ => X.length + 1 - (intOf vi).toNat)
  case atStart => exact ⟨0, _, Nat.zero_le _, rfl, by simp, Dig.wf_replicate _, hrow, Dig.plain_start Y X _, grown_self _ _⟩
  case round =>
    obtain ⟨i, Z, hi, rfl, hlZ, hwZ, hR, hI, hG⟩ := hrel
    by_cases h0 : i < X.length
    · have x1 := wX.getD i
      have hI2 := Dig.plain_begin (X.getD i 0) hI
      have hlast := fun Z c (h : Dig.PlainInv Z Y X i Y.length (X.getD i 0) c) hl => Dig.plain_last (x := X.getD i 0) h h0 hl rfl
      have A1' := a1.other hG ap1
      obtain ⟨b, o, rfl, hlt, hc⟩ := A1'.mem (by omega)
      have hx0 : w3.cell? ⟨b, o + i, none⟩ = some (.int .u64 (X.getD i 0)) := by
        obtain ⟨b', o', e, _, hh⟩ := a1.mem (by omega)
        cases e
        exact hh i h0
      generalize X.getD i 0 = x at *
      clear hc hI A1'
      have HLA := Lib.hid hlast
      clear hlast
      go_wp2
      go_loopw [9, 10] (fun vc vk wr => ∃ (k : Nat) (cy : Int) (V : List Int), k ≤ Y.length ∧ vk = .int .i64 k ∧ vc = .int .u64 cy ∧ 0 ≤ cy ∧ cy < 65536 ∧ V.length = X.length + Y.length ∧ Dig.Wf V ∧ Row wr g V ∧ Dig.PlainInv V Y X i k x cy ∧ w3.grownBy wr (some g)) (fun _ vk _ => Y.length + 1 - (intOf vk).toNat)
      case atStart => exact ⟨0, 0, Z, Nat.zero_le _, rfl, rfl, by omega, by omega, hlZ, hwZ, hR, hI2, hG⟩
      case round =>
        obtain ⟨k, cy, V, hk, rfl, rfl, hc0, hc1, hlV, hwV, hRV, hIV, hGV⟩ := hrel
        by_cases hk0 : k < Y.length
        · obtain ⟨b2, o2, rfl, hlt2, hc2⟩ := (a2.other hGV ap2).mem (by omega)
          have m1 := hc2 k hk0
          have y1 := wY.getD k
          obtain ⟨b3, o3, e3, _, hc3⟩ := (a1.other hGV ap1).mem (by omega)
          cases e3
          have m2 := hc3 i h0
          have hxx : X.getD i 0 = x := by
            obtain ⟨b', o', e, _, hh⟩ := a1.mem (by omega)
            cases e
            have := (hh i h0).symm.trans hx0
            simpa using this
          rw [hxx] at m2
          have r1 := hRV.cell (i + k) (by omega)
          have r2 := hRV.free (i + k)
          have s1 := hwV.getD (i + k)
          have hset := fun W (hr : Row W g V) v h0 h1 => hr.set (i + k) (by omega) v h0 h1
          have hwset := fun v h0 h1 => hwV.set (i + k) (x := v) h0 h1
          have hst := fun s' c' e => Dig.plain_step (s' := s') (c' := c') hIV hk0 (by omega) rfl rfl e
          generalize Y.getD k 0 = y at *
          generalize V.getD (i + k) 0 = s at *
          have p1 : x * y ≤ 65535 * y := Int.mul_le_mul_of_nonneg_right (by omega) y1.1
          have p2 : 0 ≤ x * y := Int.mul_nonneg x1.1 y1.1
          have HS := Lib.hid (hst ((s + x * y + cy) % 65536) ((s + x * y + cy) / 65536) (by omega))
          have q1 := u64_in (x := x * y) p2 (by omega)
          have q2 := u64_in (x := s + x * y) (by omega) (by omega)
          have q3 := u64_in (x := s + x * y + cy) (by omega) (by omega)
          have q4 := i64_in (x := (i : Int) + k) (by omega) (by omega)
          have t1 : (s + x * y + cy).tmod 65536 = (s + x * y + cy) % 65536 := Int.tmod_eq_emod_of_nonneg (by omega)
          have t2 : (s + x * y + cy).tdiv 65536 = (s + x * y + cy) / 65536 := Int.tdiv_eq_ediv_of_nonneg (by omega)
          have u1 : 0 ≤ (s + x * y + cy) / 65536 ∧ (s + x * y + cy) / 65536 < 65536 := by omega
          have u2 : 0 ≤ (s + x * y + cy) % 65536 ∧ (s + x * y + cy) % 65536 < 65536 := by omega
          have u3' : (i : Int) + k < (X.length + Y.length : Nat) := by omega
          clear hc2 hc3 hst hIV hxx
          go_wp2
          go_quiet (fail)
          have HW := Lib.hid (hwset _ u2.1 u2.2)
          clear hwset q1 q2 q3 q4
          go_wp2
          exact ⟨⟨k + 1, _, _, by omega, by go_num, rfl, u1.1, u1.2, by rw [List.length_set]; exact hlV, HW.out, hset _ (hRV.drewN _) _ u2.1 (by omega), HS.out, grown_trans (grown_drewN hGV _) (grown_set _ _ _ _)⟩, by simp only [intOf]; omega⟩
        · obtain rfl : k = Y.length := by omega
          have hset := hRV.set (i + Y.length) (by omega) cy hc0 (by omega)
          have r2 := hRV.free (i + Y.length)
          have r1 := hRV.cell (i + Y.length) (by omega)
          have HS := Lib.hid (HLA.out _ _ hIV (by omega))
          have HW := Lib.hid (hwV.set (i + Y.length) hc0 hc1)
          clear hIV
          go_wp2
          exact ⟨⟨i + 1, _, by omega, by go_num, by rw [List.length_set]; exact hlV, HW.out, hset, HS.out, grown_trans hGV (grown_set _ _ _ _)⟩, by simp only [intOf]; omega⟩
    · obtain rfl : i = X.length := by omega
      have hz := Dig.plain_end hI (Nat.le_refl _)
      have hO := hR.own (n := X.length + Y.length) (c := X.length + Y.length) (Bk := w.heap.size) hlZ (Nat.le_refl _) (by omega) hgw
      have hbr : Below w.heap.size w wr := hw3.trans (grown_below hG hw3.size (fun q hq => by cases hq; exact hgw))
      have WW := Lib.hid (words _ _ _ Z wr hO.arr hwZ (by omega))
      rw [hz, Int.mul_comm] at WW
      clear hz hI
      go_wp2_with fail
      refine WW.out.mono ?_; rintro r w5 ⟨A5, n5, c5, rfl, hO5, hb5⟩
      go_wp2
      go_ret
      exact ⟨A5, n5, c5, rfl, hO5.mono hbr.size, below_on hbr hb5⟩
end Go.Proofs.Ytbonbcmdafpceaa
