/- nat.Sqrt: Newton's way, from above. -/
import Derived.Test.YtlmojkknlkfloaaDoorMG
import Derived.Test.YtlmojkknlkfloaaDoorMH
import Derived.Test.YtlmojkknlkfloaaDoorMI
import Derived.Test.YtlmojkknlkfloaaDoorMD
namespace Go.Proofs.YtlmojkknlkfloaaDoor
open Go.RowKit Num
set_option maxRecDepth 100000

/-- What a slice of words reads as, or 0. -/
noncomputable def readW (w : World) : Value → Nat
  | .slice A n c => @dite Nat (∃ xs, Arr w A n c xs) (Classical.propDecidable _) (fun h => (val (Classical.choose h)).toNat) (fun _ => 0)
  | _ => 0
theorem Arr.uniq {w : World} {A : Option Addr} {n c : Nat} {xs ys : List Int} (h : Arr w A n c xs) (h' : Arr w A n c ys) : xs = ys := by
  apply List.ext_getElem (by rw [h.len, h'.len])
  intro i hi hj
  have hn : 0 < n := by rw [← h.len]; omega
  obtain ⟨b, o, e, _, hc⟩ := h.mem hn
  obtain ⟨b', o', e', _, hc'⟩ := h'.mem hn
  cases e.symm.trans e'
  have h1 := hc i (by rw [← h.len]; exact hi)
  have h2 := hc' i (by rw [← h.len]; exact hi)
  rw [h1] at h2
  simp only [Option.some.injEq, Value.int.injEq, true_and] at h2
  rw [List.getD_eq_getElem?_getD, List.getD_eq_getElem?_getD, List.getElem?_eq_getElem hi, List.getElem?_eq_getElem hj] at h2
  simpa using h2
theorem readW_arr {w : World} {A : Option Addr} {n c : Nat} {xs : List Int} (h : Arr w A n c xs) : readW w (.slice A n c) = (val xs).toNat := by
  have hh : ∃ xs, Arr w A n c xs := ⟨xs, h⟩
  unfold readW
  simp only
  rw [dif_pos hh, (Classical.choose_spec hh).uniq h]
theorem newton_above {v s t : Int} (hs : 0 < s) (hv : 0 ≤ v) (ht : t = (s + v / s) / 2) : v < (t + 1) * (t + 1) := by
  have h1 := Int.mul_ediv_add_emod v s
  have h2 := Int.emod_lt_of_pos v hs
  have h3 : 0 ≤ v / s := Int.ediv_nonneg hv (by omega)
  generalize v / s = q at *
  generalize v % s = r at *
  have h4 : s + q + 1 ≤ 2 * (t + 1) := by omega
  have h5 : (s + q + 1) * (s + q + 1) ≤ 2 * (t + 1) * (2 * (t + 1)) := Int.mul_le_mul h4 h4 (by omega) (by omega)
  have h6 : 0 ≤ (s - (q + 1)) * (s - (q + 1)) := by
    rcases Int.le_total 0 (s - (q + 1)) with h | h
    · exact Int.mul_nonneg h h
    · have := Int.mul_nonneg (show 0 ≤ -(s - (q + 1)) by omega) (show 0 ≤ -(s - (q + 1)) by omega)
      rwa [Int.neg_mul_neg] at this
  have e1 : (s + q + 1) * (s + q + 1) = (s - (q + 1)) * (s - (q + 1)) + 4 * (s * q + s) := by grind
  have e2 : 2 * (t + 1) * (2 * (t + 1)) = 4 * ((t + 1) * (t + 1)) := by grind
  omega
theorem newton_end {v s t : Int} (hs : 0 < s) (ht : t = (s + v / s) / 2) (h : s ≤ t) : s * s ≤ v := by
  have h1 := Int.mul_ediv_add_emod v s
  have h2 := Int.emod_nonneg v (show s ≠ 0 by omega)
  generalize v / s = q at *
  have h3 : s ≤ q := by omega
  have h4 : s * s ≤ s * q := Int.mul_le_mul_of_nonneg_left h3 (by omega)
  omega
theorem newton_pos {v t : Int} (hv : 0 < v) (ht : 0 ≤ t) (h : v < (t + 1) * (t + 1)) : 0 < t := by
  by_cases h0 : 0 < t
  · exact h0
  · obtain rfl : t = 0 := by omega
    omega
theorem root_start {v : Int} {b : Nat} (hv : 0 < v) (hb : bl v = b) : v < (pw ((b + 1) / 2) + 1) * (pw ((b + 1) / 2) + 1) := by
  obtain ⟨a, ea, a0, a1⟩ := bl_spec hv
  have h1 : pw (a + 1) ≤ pw ((b + 1) / 2 + (b + 1) / 2) := pw_le (by omega)
  rw [pw_add ((b + 1) / 2) ((b + 1) / 2)] at h1
  have hp := pw_pos ((b + 1) / 2)
  have e : (pw ((b + 1) / 2) + 1) * (pw ((b + 1) / 2) + 1) = pw ((b + 1) / 2) * pw ((b + 1) / 2) + 2 * pw ((b + 1) / 2) + 1 := by grind
  omega
/-- The greatest power's words. -/
theorem wd_pw (k r : Nat) (hr : r < 64) : wd (pw (64 * k + r)) = List.replicate k 0 ++ [pw r] := by
  have hp := pw_pos r
  have hlt : pw r < pw 64 := pw_lt_iff.2 hr
  rw [← B_pw, B_eq] at hlt
  have hw : Wf (List.replicate k 0 ++ [pw r]) := wf_append.2 ⟨wf_replicate k, wf_one (by omega) hlt⟩
  have ht : Top (List.replicate k 0 ++ [pw r]) := by
    unfold Top
    rw [List.getLast?_append]
    simp; omega
  have hv : val (List.replicate k 0 ++ [pw r]) = pw (64 * k + r) := by
    rw [val_append, val_replicate, List.length_replicate, val_one, B_pow_pw, ← pw_add, Int.zero_add]
  rw [← hv, wd_val hw ht]
theorem set_last (k : Nat) (v : Int) : (List.replicate (k + 1) (0 : Int)).set k v = List.replicate k 0 ++ [v] := by
  rw [List.replicate_succ', List.set_append_right _ _ (by simp)]
  simp
def RetQ (v : Int) (w : World) (e : Ending) (w' : World) : Prop :=
  ∃ A1 n1 c1 A2 n2 c2 s, e = .returned (.tuple #[.slice A1 n1 c1, .slice A2 n2 c2]) ∧ Arr w' A1 n1 c1 (wd s) ∧ Arr w' A2 n2 c2 (wd (v - s * s)) ∧ 0 ≤ s ∧ s * s ≤ v ∧ v < (s + 1) * (s + 1) ∧ Below w.heap.size w w'
set_option maxHeartbeats 2000000 in
theorem sqrt (A : Option Addr) (n c : Nat) (xs : List Int) (w : World) (h : Arr w A n c xs) (hn : n ≤ 1000000) :
    Calls Tryd.prog 86 #[.slice A n c] w (RetQ (val xs) w) := by
  have hx := h.trim
  have hv := h.val_nonneg
  have T := Lib.hid (trim A n c xs w h)
  have nl : (wd (val xs)).length ≤ 1000000 := Nat.le_trans (wd_len h.wf) (by rw [h.len]; exact hn)
  by_cases h0 : val xs = 0
  · have e : (wd (val xs)).length = 0 := by rw [h0, wd_zero (Int.le_refl _)]; rfl
    rw [e] at T
    rw [h0]
    clear e hx hv nl h0
    go_enter Tryd.func86, Tryd.ntmps86
    go_wp2_with fail
    refine T.out.mono ?_; rintro r w' ⟨rfl, rfl⟩
    go_wp2_with fail
    go_ret2
    exact ⟨none, 0, 0, none, 0, 0, 0, rfl, by rw [wd_zero (Int.le_refl _)]; exact Arr.nothing _, by rw [wd_zero (by omega)]; exact Arr.nothing _, by omega, by omega, by omega, below_self w⟩
  · have hp : 0 < val xs := by omega
    have NB := Lib.hid (nbits A _ c _ w hx (by omega))
    rw [val_wd _ hv] at NB
    obtain ⟨b, hb⟩ : ∃ b : Nat, bl (val xs) = b := ⟨(bl (val xs)).toNat, by have := bl_nonneg (val xs); omega⟩
    have hstart := root_start hp hb
    rw [hb] at NB
    have hb1 : b ≤ 64 * 1000000 := by
      have := bl_lt (v := val xs) (a := 64 * 1000000) hv (by rw [← B_pow_pw]; exact lt_pow_of_wd_length hv nl)
      omega
    have hX0 : (wd (val xs)).length ≠ 0 := by
      have := wd_ne_nil hp
      simpa using this
    have z0 : (((wd (val xs)).length : Int) == 0) = false := beq_eq_false_iff_ne.2 (by omega)
    have vX := val_wd _ hv
    generalize wd (val xs) = X at *
    generalize val xs = v at *
    obtain ⟨k, r, hm, hr⟩ : ∃ k r : Nat, (b + 1) / 2 = 64 * k + r ∧ r < 64 := ⟨(b + 1) / 2 / 64, (b + 1) / 2 % 64, by omega, by omega⟩
    rw [hm] at hstart
    have q1 : ((b : Int) + 1).tdiv 2 = ((64 * k + r : Nat) : Int) := by rw [Int.tdiv_eq_ediv_of_nonneg (by omega)]; omega
    have q2 : (((64 * k + r : Nat) : Int)).tdiv 64 = (k : Int) := by rw [Int.tdiv_eq_ediv_of_nonneg (by omega)]; omega
    have q3 : (((64 * k + r : Nat) : Int)).tmod 64 = (r : Int) := by rw [Int.tmod_eq_emod_of_nonneg (by omega)]; omega
    have hk : k ≤ 1000000 := by omega
    have hpr : 1 ≤ pw r ∧ pw r < 18446744073709551616 := by
      have := pw_pos r
      have hlt : pw r < pw 64 := pw_lt_iff.2 hr
      rw [← B_pw, B_eq] at hlt
      exact ⟨by omega, hlt⟩
    have q4 : IntKind.u64.wrap (1 * 2 ^ r) = pw r := by
      rw [Int.one_mul]
      exact u64_is (by show 0 ≤ pw r; omega) hpr.2
    have q5 : IntKind.u64.wrap (2 ^ r) = pw r := u64_is (by show 0 ≤ pw r; omega) hpr.2
    have hws := wd_pw k r hr
    have HS := Lib.hid hstart
    have HWS := Lib.hid hws
    clear hstart hws h0 hb hm
    have q6 : ((64 : Int) * (k : Int) + (r : Int)) / 64 = (k : Int) := by omega
    have q7 : ((64 : Int) * (k : Int) + (r : Int)) % 64 = (r : Int) := by omega
    go_enter Tryd.func86, Tryd.ntmps86
    go_wp2_with fail
    refine T.out.mono ?_; rintro r w' ⟨rfl, rfl⟩
    go_wp2_with fail
    refine NB.out.mono ?_; rintro r w' ⟨rfl, rfl⟩
    go_wp2_with (at_make; refine wp_make rfl _ _ rfl _ _ (k + 1) rfl rfl ?m1 ?m2 ?m3 ?_)
    case m1 => omega
    case m2 => omega
    case m3 => omega
    intro g w1 hg hrow hb1'
    have hg0 : w.heap.size ≤ g := by omega
    have hw1 : Below w.heap.size w w1 := hg ▸ hb1'
    have r1 := hrow.cell k (by simp)
    have r2 := hrow.free k
    have hset := hrow.set k (by simp) (pw r) (by omega) hpr.2
    rw [set_last, ← HWS.out] at hset
    have hw2 := below_set hw1 g k hg0 (.int .u64 (pw r))
    have hpm := pw_pos (64 * k + r)
    have hln : (wd (pw (64 * k + r))).length = k + 1 := by rw [HWS.out]; simp
    clear hg hb1' hrow
    go_wp2_with fail
    try simp only [q6, q7]
    clear q6 q7 q1 q2 q3
    go_loopw [5] (fun vs wr => ∃ (A3 : Option Addr) (n3 c3 : Nat) (s : Int), vs = .slice A3 n3 c3 ∧ Arr wr A3 n3 c3 (wd s) ∧ 0 < s ∧ n3 ≤ k + 1 ∧ Below w.heap.size w wr ∧ Hid (v < (s + 1) * (s + 1))) (fun vs wr => readW wr vs)
    case atStart => exact ⟨_, _, _, pw (64 * k + r), rfl, hset.arr' hln (by omega) (by omega), hpm, by omega, hw2, HS.out⟩
    case round =>
      clear hset hw2 hpm hln r1 r2 hw1
      obtain ⟨A3, n3, c3, s, rfl, a3, hs0, hn3, hW, hab⟩ := hrel
      have vs := val_wd s (by omega)
      have hrd := readW_arr a3
      rw [vs] at hrd
      have DM := divmod A A3 X.length c n3 c3 X (wd s) wr (hx.below hW) a3 (by omega)
      unfold RetDM divI modI at DM
      rw [vs, vX, if_neg (by omega), if_neg (by omega), decide_eq_true hs0] at DM
      have DM := Lib.hid DM
      have hq0 : 0 ≤ v / s := Int.ediv_nonneg hv (by omega)
      have lq : (wd (v / s)).length ≤ X.length := by
        have := wd_length_le hq0 (Int.lt_of_le_of_lt (Int.ediv_le_self _ hv) (lt_pow_of_wd_length hv (k := (wd v).length) (Nat.le_refl _)))
        have := wd_len hx.wf
        rw [vX] at this
        omega
      have ls := a3.len
      have hN := newton_above hs0 hv rfl
      have hE := newton_end (v := v) hs0 rfl
      have vq := val_wd (v / s) hq0
      have ht0 : 0 ≤ (s + v / s) / 2 := by omega
      have vt := val_wd _ (show 0 ≤ s + v / s by omega)
      have htp := newton_pos hp ht0 hN
      have vtt := val_wd _ ht0
      have e2 : shrI (s + v / s) 1 = (s + v / s) / 2 := by rw [shrI_eq (by omega) (by omega)]; rfl
      generalize v / s = q at *
      have lt : (wd (s + q)).length ≤ 1000000 + 2 := by
        have h1 : (wd (val (wd s) + val (wd q))).length ≤ 1000000 + 1 + 1 := wd_sum_len (wf_wd _ (by omega)) (wf_wd _ hq0) (by omega) (by omega)
        rw [vs, vq] at h1
        exact h1
      have HN := Lib.hid hN
      have HE := Lib.hid hE
      clear hN hE
      go_wp2_with fail
      refine DM.out.mono ?_; rintro r w3 ⟨A4, n4, c4, A5, n5, c5, rfl, h4, h5, b3⟩
      have l4 := h4.len
      have a33 := a3.below b3
      have hw3 := below_on hW b3
      have AD := add A3 A4 n3 c3 n4 c4 _ _ w3 a33 h4 (by omega) (by omega)
      rw [vs, vq] at AD
      have AD := Lib.hid AD
      clear h4 h5 DM
      go_wp2_with fail
      refine AD.out.mono ?_; rintro r w4 ⟨A6, n6, c6, rfl, h6, b4⟩
      have l6 := h6.len
      have a34 := a33.below b4
      have hw4 := below_on hw3 b4
      have SH := shr A6 n6 c6 _ 1 w4 h6.arr (by omega) (by omega) (by omega)
      rw [vt, e2] at SH
      have SH := Lib.hid SH
      clear h6 AD a33
      go_wp2_with fail
      refine SH.out.mono ?_; rintro r w5 ⟨A7, n7, c7, rfl, h7, b5⟩
      have l7 := h7.len
      have a35 := a34.below b5
      have hw5 := below_on hw4 b5
      have C := ncmp A7 A3 n7 c7 n3 c3 _ _ w5 h7 a35
      rw [vs, vtt] at C
      clear SH a34
      generalize (s + q) / 2 = t at *
      by_cases hts : s ≤ t
      · have hcc : cmpI t s = 0 ∨ cmpI t s = 1 := by unfold cmpI; rw [if_neg (by omega)]; split <;> simp
        have hss := HE.out hts
        generalize cmpI t s = cq at *
        have dq : decide (cq ≥ 0) = true := by simp; omega
        have C := Lib.hid C
        have HSS := Lib.hid hss
        clear hss hts
        go_wp2_with fail
        refine C.out.mono ?_; rintro r w6 ⟨rfl, s6⟩
        have hw6 := hw5.trans (s6.below _)
        have a36 := a35.below (s6.below _)
        have M := mul A3 A3 n3 c3 n3 c3 _ _ w6 a36 a36 (by omega) (by omega)
        rw [vs] at M
        have M := Lib.hid M
        have ss0 : 0 ≤ s * s := Int.mul_nonneg (by omega) (by omega)
        have vss := val_wd _ ss0
        have lss : (wd (s * s)).length ≤ 2 * (k + 1) := by
          have := prod_len (wf_wd s (by omega)) (wf_wd s (by omega))
          rw [vs] at this
          omega
        go_wp2_with fail
        refine M.out.mono ?_; rintro r w7 ⟨A8, n8, c8, rfl, h8, b7⟩
        have l8 := h8.len
        have hw7 := below_on hw6 b7
        have a37 := a36.below b7
        have S := sub A A8 X.length c n8 c8 X _ w7 (hx.below hw7) h8.arr (by omega) (by omega)
        unfold RetS at S
        rw [vX, vss, if_pos HSS.out, decide_eq_true HSS.out] at S
        have S := Lib.hid S
        clear h8 M
        go_wp2_with fail
        refine S.out.mono ?_; rintro r w8 ⟨A9, n9, c9, rfl, h9, b8⟩
        go_wp2_with fail
        go_ret2
        exact ⟨A3, n3, c3, A9, n9, c9, s, rfl, a37.below b8, h9.arr, by omega, HSS.out, hab.out, below_on hw7 b8⟩
      · have hcc : cmpI t s = -1 := cmpI_lt (by omega)
        rw [hcc] at C
        have C := Lib.hid C
        have lt7 : n7 ≤ k + 1 := by
          rw [← l7]
          exact wd_length_le ht0 (Int.lt_of_lt_of_le (by omega : t < s) (Int.le_of_lt (Int.lt_of_lt_of_le (lt_pow_of_wd_length (by omega) (Nat.le_refl _)) (B_pow_le (by omega)))))
        clear hcc
        go_wp2_with fail
        refine C.out.mono ?_; rintro r w6 ⟨rfl, s6⟩
        have hw6 := hw5.trans (s6.below _)
        have a76 := h7.below (s6.below _)
        have hr7 := readW_arr a76
        rw [vtt] at hr7
        clear C
        go_wp2_with fail
        refine ⟨?_, ?_⟩
        · exact ⟨A7, n7, c7, t, rfl, a76, htp, lt7, hw6, HN.out⟩
        · show readW w6 (.slice A7 n7 c7) < readW wr (.slice A3 n3 c3)
          rw [hr7, hrd]; omega
end Go.Proofs.YtlmojkknlkfloaaDoor
/- The document's powers of 2 and its root. -/
namespace Go.Proofs.YtlmojkknlkfloaaDoor
open Go.RowKit Num
set_option linter.unusedSimpArgs false
set_option linter.unusedVariables false
set_option maxRecDepth 100000

theorem power (m : Nat) (w : World) (hm : m ≤ 100000000) :
    Calls Tryd.prog 147 #[.int .i64 m] w fun e w' => ∃ A n c, e = .returned (.slice A n c) ∧ Own w' w.heap.size A n c (wd (pw m)) ∧ Below w.heap.size w w' := by
  obtain ⟨k, r, rfl, hr⟩ : ∃ k r : Nat, m = 64 * k + r ∧ r < 64 := ⟨m / 64, m % 64, by omega, by omega⟩
  have hpr : 1 ≤ pw r ∧ pw r < 18446744073709551616 := by
    have := pw_pos r
    have hlt : pw r < pw 64 := pw_lt_iff.2 hr
    rw [← B_pw, B_eq] at hlt
    exact ⟨by omega, hlt⟩
  have q4 : IntKind.u64.wrap (1 * 2 ^ r) = pw r := by
    rw [Int.one_mul]
    exact u64_is (by show 0 ≤ pw r; omega) hpr.2
  have q5 : IntKind.u64.wrap (2 ^ r) = pw r := u64_is (by show 0 ≤ pw r; omega) hpr.2
  have q2 : (((64 * k + r : Nat) : Int)).tdiv 64 = (k : Int) := by rw [Int.tdiv_eq_ediv_of_nonneg (by omega)]; omega
  have q3 : (((64 * k + r : Nat) : Int)).tmod 64 = (r : Int) := by rw [Int.tmod_eq_emod_of_nonneg (by omega)]; omega
  have q6 : ((64 : Int) * (k : Int) + (r : Int)) / 64 = (k : Int) := by omega
  have q7 : ((64 : Int) * (k : Int) + (r : Int)) % 64 = (r : Int) := by omega
  have HWS := Lib.hid (wd_pw k r hr)
  have hln : Hid ((wd (pw (64 * k + r))).length = k + 1) := by show _ = _; rw [HWS.out]; simp
  go_enter Tryd.func147, Tryd.ntmps147
  go_wp2_with (at_make; refine wp_make rfl _ _ rfl _ _ (k + 1) rfl rfl ?m1 ?m2 ?m3 ?_)
  case m1 => omega
  case m2 => omega
  case m3 => omega
  intro g w1 hg hrow hb1'
  have hg0 : w.heap.size ≤ g := by omega
  have hw1 : Below w.heap.size w w1 := hg ▸ hb1'
  have r1 := hrow.cell k (by simp)
  have r2 := hrow.free k
  have hset := hrow.set k (by simp) (pw r) (by omega) hpr.2
  rw [set_last, ← HWS.out] at hset
  have hw2 := below_set hw1 g k hg0 (.int .u64 (pw r))
  clear hg hb1' hrow
  go_wp2_with fail
  go_ret
  have e := hln.out
  refine ⟨some ⟨g, 0, none⟩, (wd (pw (64 * k + r))).length, k + 1, by rw [e]; rfl, ?_, hw2⟩
  exact hset.own rfl (by omega) (by omega) hg0
theorem root_bit {v s : Int} {k : Nat} (h1 : s * s ≤ v) (h2 : v < (s + pw (k + 1)) * (s + pw (k + 1))) :
    (¬ (s + pw k) * (s + pw k) ≤ v → v < (s + pw k) * (s + pw k)) ∧ ((s + pw k) * (s + pw k) ≤ v → v < (s + pw k + pw k) * (s + pw k + pw k)) := by
  refine ⟨fun h => by omega, fun _ => ?_⟩
  have : s + pw k + pw k = s + pw (k + 1) := by
    have e : pw (k + 1) = pw k * 2 := pw_add k 1
    rw [e]; omega
  rw [this]; exact h2
theorem root_first {v : Int} {b : Nat} (hv : 0 ≤ v) (hb : bl v = b) : v < (0 + pw ((b + 1) / 2 + 1)) * (0 + pw ((b + 1) / 2 + 1)) := by
  rw [Int.zero_add, ← pw_add]
  by_cases h0 : v = 0
  · have := pw_pos ((b + 1) / 2 + 1 + ((b + 1) / 2 + 1)); omega
  · obtain ⟨a, ea, a0, a1⟩ := bl_spec (v := v) (by omega)
    have := pw_le (show a + 1 ≤ (b + 1) / 2 + 1 + ((b + 1) / 2 + 1) by omega)
    omega
theorem root_small {s v : Int} {b : Nat} (hs : 0 ≤ s) (h : s * s ≤ v) (hv : 0 ≤ v) (hb : bl v = b) : s < pw (b + 1) := by
  have hvb : v < pw b := by
    by_cases h0 : v = 0
    · have := pw_pos b; omega
    · obtain ⟨a, ea, a0, a1⟩ := bl_spec (v := v) (by omega)
      obtain rfl : b = a + 1 := by omega
      exact a1
  have e : pw (b + 1) = pw b * 2 := pw_add b 1
  have hp := pw_pos b
  by_cases h0 : s = 0
  · omega
  · have : s * 1 ≤ s * s := Int.mul_le_mul_of_nonneg_left (by omega) hs
    omega
set_option maxHeartbeats 2000000 in
theorem rsqrt (A : Option Addr) (n c : Nat) (xs : List Int) (w : World) (h : Arr w A n c xs) (hn : n ≤ 100000) :
    Calls Tryd.prog 134 #[.slice A n c] w (RetQ (val xs) w) := by
  have hv := h.val_nonneg
  have NB := Lib.hid (fun w' (hb : Below w.heap.size w w') => rbits A n c xs w' (h.below hb) (by omega))
  obtain ⟨b, hb⟩ : ∃ b : Nat, bl (val xs) = b := ⟨(bl (val xs)).toNat, by have := bl_nonneg (val xs); omega⟩
  rw [hb] at NB
  have hb1 : b ≤ 64 * 100000 := by
    have := bl_lt (v := val xs) (a := 64 * 100000) hv (by rw [← B_pow_pw]; exact Int.lt_of_lt_of_le (val_lt h.wf) (B_pow_le (by rw [h.len]; omega)))
    omega
  have HF := Lib.hid (root_first hv hb)
  have HSM := Lib.hid (fun s a b => root_small (s := s) a b hv hb)
  have q1 : ((b : Int) + 1).tdiv 2 = (((b + 1) / 2 : Nat) : Int) := by rw [Int.tdiv_eq_ediv_of_nonneg (by omega)]; omega
  have hLS : ∀ s : Int, 0 ≤ s → s < pw (b + 1) → (wd s).length ≤ 100001 := fun s h0 h1 => wd_length_le h0 (by rw [B_pow_pw]; exact Int.lt_of_lt_of_le h1 (pw_le (by omega)))
  have HLS := Lib.hid hLS
  have b0 := below_alloc (below_self w) (.cells #[] 27)
  have hn0 : n ≤ 100000000 := by omega
  have hm : (b + 1) / 2 ≤ 64 * 100000 := by omega
  clear hb hLS
  generalize (b + 1) / 2 = m at *
  go_enter Tryd.func134, Tryd.ntmps134
  go_wp2_with fail
  refine (NB.out _ b0).mono ?_; rintro r w1 ⟨rfl, hb1'⟩
  have hw1 := below_on b0 hb1'
  clear b0 hb1'
  go_wp2_with fail
  go_loopw [4, 6] (fun vs vk wr => ∃ (A3 : Option Addr) (n3 c3 : Nat) (s : Int) (r : Nat), r ≤ m + 1 ∧ vk = .int .i64 ((r : Int) - 1) ∧ vs = .slice A3 n3 c3 ∧ Arr wr A3 n3 c3 (wd s) ∧ 0 ≤ s ∧ Below w.heap.size w wr ∧ Hid (s * s ≤ val xs) ∧ Hid (val xs < (s + pw r) * (s + pw r))) (fun _ vk _ => (intOf vk + 1).toNat)
  case atStart => exact ⟨_, 0, 0, 0, m + 1, Nat.le_refl _, by go_num, rfl, by rw [wd_zero (Int.le_refl _)]; exact Arr.nil _ _ _ (by omega), by omega, hw1, by show _ ≤ _; omega, HF.out⟩
  case round =>
    clear hw1 HF
    obtain ⟨A3, n3, c3, s, r, hr, rfl, rfl, a3, hs0, hW, hlo, hhi⟩ := hrel
    have ls := HLS.out s hs0 (HSM.out s hs0 hlo.out)
    have l3 := a3.len
    have vs := val_wd s hs0
    by_cases hr0 : 0 < r
    · obtain ⟨k, rfl⟩ : ∃ k, r = k + 1 := ⟨r - 1, by omega⟩
      have ei : (((k + 1 : Nat) : Int) - 1) = (k : Int) := by omega
      rw [ei]
      have PW := Lib.hid (power k wr (by omega))
      have hpk := pw_pos k
      have vp := val_wd (pw k) (by omega)
      have lp : (wd (pw k)).length ≤ 100001 := wd_length_le (by omega) (by rw [B_pow_pw]; exact pw_lt_iff.2 (by omega))
      have hbit := root_bit hlo.out hhi.out
      have HBT := Lib.hid hbit
      clear hbit hhi
      go_wp2_with fail
      refine PW.out.mono ?_; rintro r w3 ⟨A4, n4, c4, rfl, h4, b3⟩
      have l4 := h4.len
      have hw3 := below_on hW b3
      have a33 := a3.below b3
      have AD := radd A3 A4 n3 c3 n4 c4 _ _ w3 a33 h4.arr (by omega) (by omega)
      rw [vs, vp] at AD
      have AD := Lib.hid AD
      have lt : (wd (s + pw k)).length ≤ 100003 := by
        have h1 : (wd (val (wd s) + val (wd (pw k)))).length ≤ 100002 + 1 := wd_sum_len (wf_wd _ hs0) (wf_wd _ (by omega)) (by omega) (by omega)
        rw [vs, vp] at h1
        exact h1
      have vt := val_wd (s + pw k) (by omega)
      have ht0 : 0 ≤ s + pw k := by omega
      clear h4 PW
      go_wp2_with fail
      refine AD.out.mono ?_; rintro r w4 ⟨A5, n5, c5, rfl, h5, b4⟩
      have l5 := h5.len
      have hw4 := below_on hw3 b4
      have a34 := a33.below b4
      have h5 := h5.arr
      have M := rmul A5 A5 n5 c5 n5 c5 _ _ w4 h5 h5 (by omega) (by omega)
      rw [vt] at M
      have M := Lib.hid M
      have htt := Int.mul_nonneg ht0 ht0
      have vtt := val_wd _ htt
      have ltt : (wd ((s + pw k) * (s + pw k))).length ≤ 100003 + 100003 := by
        have h1 := prod_len (wf_wd _ ht0) (wf_wd _ ht0)
        rw [vt] at h1
        omega
      clear AD a33
      go_wp2_with fail
      refine M.out.mono ?_; rintro r w5 ⟨A6, n6, c6, rfl, h6, b5⟩
      have l6 := h6.len
      have hw5 := below_on hw4 b5
      have a35 := a34.below b5
      have h55 := h5.below b5
      have C := rcmp A6 A n6 c6 n c _ xs w5 h6.arr (h.below hw5) (by omega) hn0
      rw [vtt] at C
      clear M a34 h5 h6
      by_cases hle : (s + pw k) * (s + pw k) ≤ val xs
      · have hcc : cmpI ((s + pw k) * (s + pw k)) (val xs) = -1 ∨ cmpI ((s + pw k) * (s + pw k)) (val xs) = 0 := by
          by_cases hlt : (s + pw k) * (s + pw k) < val xs
          · exact .inl (cmpI_lt hlt)
          · exact .inr (cmpI_eq (by omega))
        have HN := Lib.hid (HBT.out.2 hle)
        have HLE := Lib.hid hle
        generalize cmpI ((s + pw k) * (s + pw k)) (val xs) = cq at *
        have dq : decide (cq ≤ 0) = true := by simp; omega
        have C := Lib.hid C
        clear hle
        go_wp2_with fail
        refine C.out.mono ?_; rintro r w6 ⟨rfl, b6⟩
        go_wp2_with fail
        exact ⟨⟨A5, n5, c5, s + pw k, k, by omega, by go_num, rfl, h55.below b6, ht0, below_on hw5 b6, HLE.out, HN.out⟩, by simp only [intOf]; omega⟩
      · have hcc : cmpI ((s + pw k) * (s + pw k)) (val xs) = 1 := cmpI_gt (by omega)
        have HN : Hid (val xs < (s + pw k) * (s + pw k)) := Int.not_le.1 hle
        rw [hcc] at C
        have C := Lib.hid C
        clear hcc hle
        go_wp2_with fail
        refine C.out.mono ?_; rintro r w6 ⟨rfl, b6⟩
        go_wp2_with fail
        exact ⟨⟨A3, n3, c3, s, k, by omega, by go_num, rfl, a35.below b6, hs0, below_on hw5 b6, hlo.out, HN.out⟩, by simp only [intOf]; omega⟩
    · obtain rfl : r = 0 := by omega
      have hhi2 : Hid (val xs < (s + 1) * (s + 1)) := hhi.out
      have M := rmul A3 A3 n3 c3 n3 c3 _ _ wr a3 a3 (by omega) (by omega)
      rw [vs] at M
      have M := Lib.hid M
      have hss := Int.mul_nonneg hs0 hs0
      have vss := val_wd _ hss
      have lss : (wd (s * s)).length ≤ 100001 + 100001 := by
        have h1 := prod_len (wf_wd _ hs0) (wf_wd _ hs0)
        rw [vs] at h1
        omega
      clear hhi
      go_wp2_with fail
      refine M.out.mono ?_; rintro r w7 ⟨A8, n8, c8, rfl, h8, b7⟩
      have l8 := h8.len
      have hw7 := below_on hW b7
      have a37 := a3.below b7
      have S := rsub A A8 n c n8 c8 xs _ w7 (h.below hw7) h8.arr hn0 (by omega)
      unfold RetS at S
      rw [vss, if_pos hlo.out, decide_eq_true hlo.out] at S
      have S := Lib.hid S
      clear h8 M
      go_wp2_with fail
      refine S.out.mono ?_; rintro r w8 ⟨A9, n9, c9, rfl, h9, b8⟩
      go_wp2_with fail
      go_ret2
      exact ⟨A3, n3, c3, A9, n9, c9, s, rfl, a37.below b8, h9.arr, hs0, hlo.out, hhi2.out, below_on hw7 b8⟩
end Go.Proofs.YtlmojkknlkfloaaDoor
