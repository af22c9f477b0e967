/- The walks of dyad's first functions. -/
import Derived.Test.YtbfnjjnnlbchgaaDoorNatB
namespace Go.Proofs.YtbfnjjnnlbchgaaDoor
open Go.RowKit Num
set_option maxRecDepth 100000

theorem ctz_split {x : Int} (h0 : 0 < x) (h1 : x < 18446744073709551616) : ∃ u : Int, x = pw (Lib.ctz 64 x.toNat) * u ∧ u % 2 = 1 ∧ 0 ≤ u ∧ Lib.ctz 64 x.toNat < 64 := by
  obtain ⟨n, rfl⟩ := Int.eq_ofNat_of_zero_le (Int.le_of_lt h0)
  obtain ⟨m, hm, hl⟩ := Lib.ctzFrom_spec 64 n (by omega) (by omega)
  have e : Lib.ctz 64 n = Lib.ctzFrom 64 n := by unfold Lib.ctz; rw [if_neg (by omega)]
  rw [Int.toNat_natCast, e]
  refine ⟨2 * (m : Int) + 1, ?_, by omega, by omega, hl⟩
  have h2 : (n : Int) = ((2 ^ Lib.ctzFrom 64 n * (2 * m + 1) : Nat) : Int) := congrArg _ hm
  conv => lhs; rw [h2]
  unfold pw; simp
theorem take_zero_go {xs : List Int} {k : Nat} (hk : k < xs.length) (hv : val (xs.take k) = 0) (hz : xs[k]?.getD 0 = 0) : val (xs.take (k + 1)) = 0 := by
  rw [take_last (by omega) (by omega), Nat.add_sub_cancel, hz, val_snoc_zero]; exact hv
theorem odd (A : Option Addr) (n c : Nat) (xs : List Int) (w : World) (h : Arr w A n c xs) (hn : n ≤ 100000000) (hT : Tz w) :
    Calls Tryd.prog 93 #[.slice A n c] w fun e w' => ∃ A' n' c', e = .returned (.tuple #[.slice A' n' c', .int .i64 (tz (val xs))]) ∧ Arr w' A' n' c' (wd (oddI (val xs))) ∧ Below w.heap.size w w' := by
  have hl := h.len
  have hcap := h.cap
  have hbig := h.big
  have HL := Lib.hid hl
  clear hl
  go_enter Tryd.func93, Tryd.ntmps93
  go_wp2
  go_loop [4] (fun v => ∃ k : Nat, k ≤ n ∧ v = .int .i64 k ∧ Hid (val (xs.take k) = 0)) (fun v => n - (intOf v).toNat)
  case atStart => exact ⟨0, Nat.zero_le _, rfl, rfl⟩
  case round =>
    obtain ⟨k, hk, rfl, hv⟩ := hrel
    by_cases h0 : k < n
    · obtain ⟨b, o, rfl, hlt, hc⟩ := h.mem (by omega)
      have hcell := hc k h0
      have hw := h.words k
      clear hc
      have h0b : ((k : Int) == (n : Int)) = false := by simp; omega
      go_wp2_with fail
      · have hz : (xs[k]?.getD 0 == 0) = true := by assumption
        have hz' : xs[k]?.getD 0 = 0 := by simpa using hz
        exact ⟨⟨k + 1, by omega, by go_num, take_zero_go (by rw [HL.out]; exact h0) hv.out hz'⟩, by simp [intOf]; omega⟩
      · have hz : (xs[k]?.getD 0 == 0) = false := by assumption
        have hz' : xs[k]?.getD 0 ≠ 0 := by simpa using hz
        rw [List.getD_eq_getElem?_getD] at hw
        obtain ⟨u, hu, hu1, hu0, hz64⟩ := ctz_split (x := xs[k]?.getD 0) (by omega) hw.2
        obtain ⟨e1, e2⟩ := odd_words h.wf (by rw [HL.out]; exact h0) hz64 hu hu1 hu0 hv.out
        refine (tz64 _ w (by omega) hw.2 hT).mono ?_; rintro e w' ⟨rfl, rfl⟩
        have hD := h.drop k (by omega)
        generalize Lib.ctz 64 (xs[k]?.getD 0).toNat = z at *
        have H1 := Lib.hid e1
        have H2 := Lib.hid e2
        clear e1 e2 hu hz hz'
        have hkc : k < c := by omega
        have hkc' : ¬ k = c := by omega
        have hnk : n - k ≤ 17592186044416 := by omega
        go_wp2_with fail
        refine (shr _ _ _ _ z w hD hnk (by omega) (by omega)).mono ?_
        rintro e w2 ⟨A2, n2, c2, rfl, hA2, hb2⟩
        rw [shrI_eq (by omega) (by omega), Int.toNat_natCast] at hA2
        go_wp2
        go_ret2
        refine ⟨A2, n2, c2, ?_, ?_, hb2⟩
        · rw [H1.out]; simp
        · rw [H2.out]; exact hA2
    · obtain rfl : k = n := by omega
      have hv' : val xs = 0 := by have := hv.out; rw [← HL.out, List.take_length] at this; exact this
      have HV := Lib.hid hv'
      clear hv' hv
      go_wp2
      go_ret2
      refine ⟨none, 0, 0, ?_, ?_, below_self w⟩
      · rw [HV.out, tz_zero]; rfl
      · rw [HV.out, oddI_zero, wd_zero (Int.le_refl _)]; exact Arr.nothing w
end Go.Proofs.YtbfnjjnnlbchgaaDoor
