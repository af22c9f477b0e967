/- The walks of nat's shifts. -/
import Derived.Test.YtbfnjjnnlbchgaaDoorNatA
namespace Go.Proofs.YtbfnjjnnlbchgaaDoor
open Go.RowKit Num
set_option maxRecDepth 100000

def maxShift : Int := 1048576
/-- A shift down, where it may be asked. -/
def shrI (v n : Int) : Int := if 0 ≤ n ∧ n ≤ maxShift then v / 2 ^ n.toNat else 0
theorem shr_in (A : Option Addr) (n c : Nat) (xs : List Int) (m r : Nat) (w : World) (h : Arr w A n c xs) (hn : n ≤ 17592186044416) (hr : r < 64) (hk : 64 * m + r ≤ 1048576) (hm : m < n) :
    Calls Tryd.prog 132 #[.slice A n c, .int .i64 ((64 * m + r : Nat) : Int)] w fun e w' => ∃ A' n' c', e = .returned (.slice A' n' c') ∧ Arr w' A' n' c' (wd (val (shrL r (xs.drop m)))) ∧ Below w.heap.size w w' := by
  have hl := h.len
  have hcap := h.cap
  have hbig := h.big
  have h1 : decide (((64 * m + r : Nat) : Int) < 0) = false := by simp; omega
  have h2 : decide (1048576 < ((64 * m + r : Nat) : Int)) = false := by simp; omega
  have q1 : ((64 * m + r : Nat) : Int) / 64 = m := by omega
  have q2 : ((64 * m + r : Nat) : Int) % 64 = r := by omega
  have q3 : decide ((n : Int) ≤ m) = false := by simp; omega
  generalize hK : ((64 * m + r : Nat) : Int) = K at *
  have hK0 : 0 ≤ K := by omega
  have hK1 : K ≤ 1048576 := by omega
  have HL := Lib.hid hl
  clear hK hl
  go_enter Tryd.func132, Tryd.ntmps132
  go_wp2_with (at_make; refine wp_make rfl _ _ rfl _ _ (n - m) rfl rfl ?m1 ?m2 ?m3 ?_)
  case m1 => omega
  case m2 => omega
  case m3 => omega
  intro g w1 hg hrow hb
  have hbw : Below w.heap.size w w1 := hb.mono (Nat.le_of_eq hg.symm)
  have HG := Lib.hid hg
  clear hb hg
  go_wp2
  have hlen : (shrL r (xs.drop m)).length = n - m := by rw [shrL_length, List.length_drop, HL.out]
  have hget : ∀ i, i < n - m → (shrL r (xs.drop m)).getD i 0 = xs.getD (i + m) 0 / pw r + xs.getD (i + m + 1) 0 * pw (64 - r) % B := by
    intro i hi
    rw [shrL_get r _ i (by rw [List.length_drop, HL.out]; exact hi)]
    simp only [List.getD_eq_getElem?_getD, List.getElem?_drop]
    rw [show m + i = i + m from by omega, show m + (i + 1) = i + m + 1 from by omega]
  have hwT : Wf (shrL r (xs.drop m)) := wf_shrL (by omega) (h.wf.drop m)
  generalize hS : shrL r (xs.drop m) = T at *
  have HS := Lib.hid hS
  clear hS
  have HT := Lib.hid hlen
  have HGet := Lib.hid hget
  clear hlen hget
  go_loopw [33] (fun v wr => ∃ i : Nat, i ≤ n - m ∧ v = .int .i64 i ∧ Row wr g (fill T i) ∧ Below w.heap.size w wr) (fun v _ => n - m - (intOf v).toNat)
  case atStart => exact ⟨0, Nat.zero_le _, rfl, by rw [fill_zero, HT.out]; exact hrow, hbw⟩
  case round =>
    obtain ⟨i, hi, rfl, hR, hW⟩ := hrel
    by_cases h0 : i < n - m
    · have hA := h.below hW
      obtain ⟨b, o, rfl, hlt, hc⟩ := hA.mem (by omega)
      have hgb : b < g := by
        obtain ⟨b', o', e, hlt', _⟩ := h.mem (by omega)
        cases e
        have := HG.out; omega
      have k1 := hc (i + m) (by omega)
      have x1 := hA.words (i + m)
      have k2 : i + m + 1 < n → wr.cell? ⟨b, o + (i + m + 1), none⟩ = some (.int .u64 (xs.getD (i + m + 1) 0)) := fun hh => hc (i + m + 1) hh
      have r1 := hR.cell i (by rw [fill_length _ _ (by rw [HT.out]; exact hi), HT.out]; exact h0)
      have r2 := hR.free i
      clear hc
      have v1 : 0 ≤ xs[i + m]?.getD 0 / 2 ^ r ∧ xs[i + m]?.getD 0 / 2 ^ r < 18446744073709551616 := by
        have hp : (0 : Int) < 2 ^ r := Int.pow_pos (by decide)
        rw [List.getD_eq_getElem?_getD] at x1
        exact ⟨Int.ediv_nonneg x1.1 (by omega), Int.lt_of_le_of_lt (Int.ediv_le_self _ x1.1) x1.2⟩
      have hW2 := below_set hW g i (by have := HG.out; omega) (.int .u64 (xs[i + m]?.getD 0 / 2 ^ r))
      have hR2 := hR.set i (by rw [fill_length _ _ (by rw [HT.out]; exact hi), HT.out]; exact h0) _ v1.1 v1.2
      have HV := Lib.hid v1
      clear v1
      go_wp2
      · have hlt2 : i + m + 1 < n := by omega
        generalize wr.setCell ⟨g, i, none⟩ (.int .u64 (xs[i + m]?.getD 0 / 2 ^ r)) = w2 at *
        obtain ⟨b', o', e', hlt', hc⟩ := (h.below hW2).mem (by omega)
        cases e'
        have k3 := hc (i + m + 1) hlt2
        have r3 := hR2.cell i (by rw [List.length_set, fill_length _ _ (by rw [HT.out]; exact hi), HT.out]; exact h0)
        rw [getD_set_same _ _ _ (by rw [fill_length _ _ (by rw [HT.out]; exact hi), HT.out]; exact h0)] at r3
        have r4 := hR2.free i
        clear hc k1 k2 r1 r2
        go_region
        all_goals go_wp2
        have e : bits BinOp.or IntKind.u64 (xs[i + m]?.getD 0 / 2 ^ r) (IntKind.u64.wrap (xs[i + m + 1]?.getD 0 * 2 ^ (64 - r))) = T.getD i 0 := by
          rw [HGet.out i h0, List.getD_eq_getElem?_getD, List.getD_eq_getElem?_getD]
          rw [List.getD_eq_getElem?_getD] at x1
          exact or_shift (by omega) x1.1 x1.2 (by rw [← List.getD_eq_getElem?_getD]; exact (h.words (i + m + 1)).1)
        refine ⟨⟨i + 1, by omega, by go_num, ?_, ?_⟩, by simp [intOf]; omega⟩
        · exact (hR2.fill2 (by rw [HT.out]; exact h0) hwT _ e).drew
        · exact (below_set hW2 g i (by have := HG.out; omega) _).drew
      · have hge : n ≤ i + m + 1 := by omega
        have e : xs[i + m]?.getD 0 / 2 ^ r = T.getD i 0 := by
          have z : xs.getD (i + m + 1) 0 = 0 := by rw [List.getD_eq_getElem?_getD, List.getElem?_eq_none (by rw [HL.out]; exact hge)]; rfl
          rw [HGet.out i h0, z, List.getD_eq_getElem?_getD]
          simp [pw]
        refine ⟨⟨i + 1, by omega, by go_num, ?_, hW2⟩, by simp [intOf]; omega⟩
        exact hR.fill (by rw [HT.out]; exact h0) hwT _ e
    · obtain rfl : i = n - m := by omega
      have hR2 : Row wr g T := by rw [← HT.out, fill_all] at hR; exact hR
      have hA2 := hR2.arr' HT.out (Nat.le_refl _) (by omega)
      clear hR
      go_wp2_with fail
      refine (trim _ _ _ _ _ hA2).mono ?_; rintro e w' ⟨rfl, rfl⟩
      go_wp2
      go_ret
      exact ⟨_, _, _, rfl, by rw [HS.out]; exact hA2.trim, hW⟩
theorem shrI_eq {v n : Int} (h0 : 0 ≤ n) (h1 : n ≤ 1048576) : shrI v n = v / 2 ^ n.toNat := by unfold shrI maxShift; rw [if_pos ⟨h0, h1⟩]
theorem shrI_out {v n : Int} (h : ¬ (0 ≤ n ∧ n ≤ 1048576)) : shrI v n = 0 := by unfold shrI maxShift; rw [if_neg h]
theorem shrI_nonneg {v n : Int} (h : 0 ≤ v) : 0 ≤ shrI v n := by
  unfold shrI; split
  · exact Int.ediv_nonneg h (Int.le_of_lt (Int.pow_pos (by decide)))
  · exact Int.le_refl _
theorem shr_val {xs : List Int} (hw : Wf xs) {m r : Nat} (hr : r < 64) : val (shrL r (xs.drop m)) = val xs / 2 ^ (64 * m + r) := by
  rw [val_shrL (by omega) (hw.drop m), val_drop hw, B_pow_pw]
  have := pw_pos (64 * m)
  rw [Int.ediv_ediv_of_nonneg (by omega)]
  show _ / (pw _ * pw _) = _ / pw _
  rw [pw_add]
theorem shr_far {xs : List Int} (hw : Wf xs) {q : Nat} (hq : xs.length ≤ q / 64) : val xs / 2 ^ q = 0 := by
  refine Int.ediv_eq_zero_of_lt (val_nonneg hw) (Int.lt_of_lt_of_le (val_lt hw) ?_)
  rw [B_pow_pw]
  show pw _ ≤ pw _
  obtain ⟨d, hd⟩ : ∃ d, q = 64 * xs.length + d := ⟨q - 64 * xs.length, by omega⟩
  rw [hd, pw_add]
  have h1 := pw_pos (64 * xs.length)
  have h2 := pw_pos d
  have : pw (64 * xs.length) * 1 ≤ pw (64 * xs.length) * pw d := Int.mul_le_mul_of_nonneg_left (by omega) (by omega)
  omega
theorem shr (A : Option Addr) (n c : Nat) (xs : List Int) (k : Int) (w : World) (h : Arr w A n c xs) (hn : n ≤ 17592186044416) (hk0 : -9223372036854775808 ≤ k) (hk1 : k ≤ 9223372036854775807) :
    Calls Tryd.prog 132 #[.slice A n c, .int .i64 k] w fun e w' => ∃ A' n' c', e = .returned (.slice A' n' c') ∧ Arr w' A' n' c' (wd (shrI (val xs) k)) ∧ Below w.heap.size w w' := by
  by_cases hk : 0 ≤ k ∧ k ≤ 1048576 ∧ k / 64 < n
  · obtain ⟨q, rfl⟩ := Int.eq_ofNat_of_zero_le hk.1
    obtain ⟨m, r, hr, rfl⟩ : ∃ m r : Nat, r < 64 ∧ q = 64 * m + r := ⟨q / 64, q % 64, by omega, by omega⟩
    have := shr_in A n c xs m r w h hn hr (by omega) (by omega)
    rw [shr_val h.wf hr] at this
    rw [shrI_eq hk.1 hk.2.1]
    exact this
  · have e : wd (shrI (val xs) k) = [] := by
      by_cases hk' : 0 ≤ k ∧ k ≤ 1048576
      · obtain ⟨q, rfl⟩ := Int.eq_ofNat_of_zero_le hk'.1
        rw [shrI_eq hk'.1 hk'.2, Int.toNat_natCast, shr_far h.wf (by rw [h.len]; omega)]; exact wd_zero (Int.le_refl _)
      · rw [shrI_out hk']; exact wd_zero (Int.le_refl _)
    rw [e]
    have hnil : ∀ w : World, Arr w none 0 0 [] := fun w => Arr.nothing w
    by_cases h0 : k < 0
    · have h1 : decide (k < 0) = true := by simp [h0]
      go_enter Tryd.func132, Tryd.ntmps132
      go_wp2
      go_ret
      exact ⟨_, _, _, rfl, hnil _, below_self w⟩
    · have h1 : decide (k < 0) = false := by simp [h0]
      by_cases h2 : 1048576 < k
      · have h3 : decide (1048576 < k) = true := by simp [h2]
        go_enter Tryd.func132, Tryd.ntmps132
        go_wp2
        go_ret
        exact ⟨_, _, _, rfl, hnil _, below_self w⟩
      · have h3 : decide (1048576 < k) = false := by simp; omega
        have h4 : decide ((n : Int) ≤ k / 64) = true := by simp; omega
        go_enter Tryd.func132, Tryd.ntmps132
        go_wp2
        go_ret
        exact ⟨_, _, _, rfl, hnil _, below_self w⟩
end Go.Proofs.YtbfnjjnnlbchgaaDoor
