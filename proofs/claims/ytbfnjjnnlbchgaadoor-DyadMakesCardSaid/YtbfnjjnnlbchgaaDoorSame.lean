/- The document's Same. -/
import Derived.Test.YtbfnjjnnlbchgaaDoorNatA
namespace Go.Proofs.YtbfnjjnnlbchgaaDoor
open Go.RowKit Num
set_option maxRecDepth 100000

theorem take_same {X Y : List Int} (hl : X.length = Y.length) {i : Nat} (hi : i < X.length) (hd : X.take i = Y.take i) (h : X[i]?.getD 0 = Y[i]?.getD 0) : X.take (i + 1) = Y.take (i + 1) := by
  rw [take_last (xs := X) (k := i + 1) (by omega) (by omega), take_last (xs := Y) (k := i + 1) (by omega) (by omega), Nat.add_sub_cancel, hd, h]
theorem same01 (A A' : Option Addr) (n c n' c' : Nat) (xs ys : List Int) (w : World) (h : Arr w A n c xs) (h' : Arr w A' n' c' ys) :
    Calls Tryd.prog 136 #[.slice A n c, .slice A' n' c'] w fun e w' => e = .returned (.bool (decide (xs = ys))) ∧ Still w w' := by
  have hl := h.len
  have hl' := h'.len
  have b1 := h.cap
  have b2 := h.big
  have b3 := h'.cap
  have b4 := h'.big
  by_cases hn : n = n'
  · have hnb : ((n : Int) != (n' : Int)) = false := by simp [hn]
    subst hn
    have HL := Lib.hid hl
    have HL' := Lib.hid hl'
    clear hl hl'
    go_enter Tryd.func136, Tryd.ntmps136
    go_wp2
    go_loopw [5] (fun v wr => ∃ i : Nat, i ≤ n ∧ v = .int .i64 i ∧ Hid (xs.take i = ys.take i) ∧ Still w wr) (fun v _ => n - (intOf v).toNat)
    case atStart => exact ⟨0, Nat.zero_le _, rfl, rfl, Still.refl _⟩
    case round =>
      obtain ⟨i, hi, rfl, hd, ⟨m, rfl⟩⟩ := hrel
      by_cases h0 : i < n
      · obtain ⟨b, o, rfl, hlt, hc⟩ := h.mem (by omega)
        obtain ⟨b', o', rfl, hlt', hc'⟩ := h'.mem (by omega)
        have k1 := hc i h0
        have k2 := hc' i h0
        have l1 : (i : Int) < n := by omega
        clear hc hc'
        go_wp2
        go_quiet (fail)
        go_wp2
        · have hne : (xs[i]?.getD 0 != ys[i]?.getD 0) = true := by assumption
          have hne' : xs[i]?.getD 0 ≠ ys[i]?.getD 0 := by simpa using hne
          have e : decide (xs = ys) = false := decide_eq_false (fun hh => hne' (by rw [hh]))
          have HE := Lib.hid e
          clear e
          go_ret
          exact ⟨by rw [HE.out]; rfl, (by repeat (first | exact Still.refl _ | apply Still.drewN | apply Still.drew))⟩
        · have hne : (xs[i]?.getD 0 != ys[i]?.getD 0) = false := by assumption
          have hne' : xs[i]?.getD 0 = ys[i]?.getD 0 := by simpa using hne
          exact ⟨⟨i + 1, by omega, by go_num, take_same (by rw [HL.out, HL'.out]) (by rw [HL.out]; exact h0) hd.out hne', (by repeat (first | exact Still.refl _ | apply Still.drewN | apply Still.drew))⟩, by simp only [intOf]; omega⟩
      · obtain rfl : i = n := by omega
        have e : decide (xs = ys) = true := decide_eq_true (by have := hd.out; rw [← HL.out, List.take_length, HL.out, ← HL'.out, List.take_length] at this; exact this)
        have HE := Lib.hid e
        clear e hd
        go_wp2
        go_ret
        exact ⟨by rw [HE.out]; rfl, (by repeat (first | exact Still.refl _ | apply Still.drewN | apply Still.drew))⟩
  · have hnb : ((n : Int) != (n' : Int)) = true := by simp; omega
    have e : decide (xs = ys) = false := decide_eq_false (fun hh => hn (by rw [← hl, ← hl', hh]))
    have HE := Lib.hid e
    clear e hl hl'
    go_enter Tryd.func136, Tryd.ntmps136
    go_wp2
    go_ret
    exact ⟨by rw [HE.out]; rfl, (by repeat (first | exact Still.refl _ | apply Still.drewN | apply Still.drew))⟩
end Go.Proofs.YtbfnjjnnlbchgaaDoor
