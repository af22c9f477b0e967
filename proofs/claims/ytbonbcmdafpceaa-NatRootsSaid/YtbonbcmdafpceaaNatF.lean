/- The document's Bits and Shr. -/
import Derived.Test.YtbonbcmdafpceaaNatC
import Derived.Test.YtbonbcmdafpceaaNatE
namespace Go.Proofs.Ytbonbcmdafpceaa
open Go.RowKit Num
set_option maxRecDepth 100000

theorem bl_half {w : Int} (h : 0 < w) : bl w = bl (w / 2) + 1 := by
  obtain ⟨a, e, a0, a1⟩ := bl_spec h
  have h2 : pw (a + 1) = pw a * 2 := pw_add a 1
  by_cases hz : a = 0
  · subst hz
    have : pw 0 = 1 := rfl
    have hw : w = 1 := by omega
    subst hw; rfl
  · obtain ⟨b, rfl⟩ : ∃ b, a = b + 1 := ⟨a - 1, by omega⟩
    have h3 : pw (b + 1) = pw b * 2 := pw_add b 1
    have := bl_unique (v := w / 2) (a := b) (by omega) (by rw [h3]; omega)
    omega
theorem rbits (A : Option Addr) (n c : Nat) (xs : List Int) (w : World) (h : Arr w A n c xs) (hn : n ≤ 17592186044416) :
    Calls Try.prog 61 #[.slice A n c] w fun e w' => e = .returned (.int .i64 (bl (val xs))) ∧ Below w.heap.size w w' := by
  have T := Lib.hid (rtrim A n c xs w h hn)
  have hv := h.val_nonneg
  have hlen := wd_len h.wf
  rw [h.len] at hlen
  by_cases h0 : val xs = 0
  · have HB := Lib.hid (show bl (val xs) = 0 by rw [h0]; rfl)
    have HE := Lib.hid (show wd (val xs) = [] by rw [h0]; exact wd_zero (Int.le_refl _))
    clear h0
    go_enter Try.func61, Try.ntmps61
    go_wp2_with fail
    refine T.out.mono ?_; rintro e w' ⟨A2, n2, c2, rfl, hO, hb⟩
    rw [HE.out] at hO
    obtain rfl : n2 = 0 := hO.len.symm
    go_wp2_with fail
    go_ret
    exact ⟨by rw [HB.out]; rfl, hb⟩
  · have hpos : 0 < (wd (val xs)).length := List.length_pos_iff.2 (wd_ne_nil (by omega))
    have hb := bl_words (wf_wd _ hv) (top_wd _ hv) hpos
    rw [val_wd _ hv] at hb
    have HB := Lib.hid hb
    clear hb
    generalize hX : wd (val xs) = X at *
    clear hX h0
    go_enter Try.func61, Try.ntmps61
    go_wp2_with fail
    refine T.out.mono ?_; rintro e w1 ⟨A2, n2, c2, rfl, hO, hb⟩
    have hx := hO.arr
    obtain rfl : X.length = n2 := hO.len
    have hl0 : ((X.length : Int) == 0) = false := beq_eq_false_iff_ne.2 (by omega)
    obtain ⟨b, o, rfl, hlt, hc⟩ := hx.mem hpos
    have k1 := hc (X.length - 1) (by omega)
    have x1 := hx.words (X.length - 1)
    rw [List.getD_eq_getElem?_getD] at x1
    clear hc
    go_wp2
    generalize X[X.length - 1]?.getD 0 = x at *
    have hx64 := bl_lt (v := x) (a := 64) x1.1 (by rw [← B_pw, B_eq]; exact x1.2)
    have hx0 := bl_nonneg x
    go_loop [4, 5] (fun v4 v5 => ∃ (y : Int) (m : Nat), v5 = .int .u64 y ∧ v4 = .int .i64 m ∧ 0 ≤ y ∧ y < 18446744073709551616 ∧ Hid ((m : Int) + bl y = bl (val xs)) ∧ m ≤ 64 * X.length + 64) (fun _ v5 => (intOf v5).toNat)
    case atStart => exact ⟨x, 64 * (X.length - 1), rfl, by go_num, x1.1, x1.2, by show _ = _; rw [HB.out]; omega, by omega⟩
    case round =>
      obtain ⟨y, m, rfl, rfl, y0, y1, hv, hm⟩ := hrel
      by_cases hy : 0 < y
      · have hh := bl_half hy
        have hm2 : m + 1 ≤ 64 * X.length + 64 := by
          have h1 := hv.out
          have h2 := bl_pos hy
          have h3 := HB.out
          omega
        have HH := Lib.hid hh
        clear hh
        go_wp2
        exact ⟨⟨y / 2, m + 1, rfl, by go_num, by omega, by omega, by show _ = _; have := HH.out; have := hv.out; omega, hm2⟩, by simp only [intOf]; omega⟩
      · obtain rfl : y = 0 := by omega
        have hv2 : (m : Int) = bl (val xs) := by have := hv.out; rw [bl_zero] at this; omega
        have HV := Lib.hid hv2
        clear hv2
        go_wp2
        go_ret
        exact ⟨by rw [← HV.out]; rfl, hb⟩
/-- A list that is turned into another one from its head. -/
def mix (T D : List Int) (i : Nat) : List Int := T.take i ++ D.drop i
theorem mix_zero (T D : List Int) : mix T D 0 = D := by simp [mix]
theorem mix_all (T D : List Int) (h : T.length = D.length) : mix T D T.length = T := by unfold mix; rw [List.take_length, List.drop_eq_nil_of_le (by omega), List.append_nil]
theorem mix_length (T D : List Int) (h : T.length = D.length) (i : Nat) : (mix T D i).length = D.length := by simp [mix, h]; omega
theorem mix_get (T D : List Int) (h : T.length = D.length) (i : Nat) (hi : i ≤ D.length) : (mix T D i).getD i 0 = D.getD i 0 := by
  unfold mix
  have hl : (T.take i).length = i := by simp; omega
  rw [List.getD_eq_getElem?_getD, List.getElem?_append_right (by omega), hl, Nat.sub_self, List.getElem?_drop, Nat.add_zero, ← List.getD_eq_getElem?_getD]
theorem mix_set (T D : List Int) (h : T.length = D.length) (i : Nat) (hi : i < D.length) : (mix T D i).set i (T.getD i 0) = mix T D (i + 1) := by
  unfold mix
  have hl : (T.take i).length = i := by simp; omega
  rw [List.set_append_right _ _ (by omega), hl, Nat.sub_self, List.drop_eq_getElem_cons hi, List.set_cons_zero, List.take_add_one, List.getElem?_eq_getElem (by omega), List.append_assoc]
  simp [List.getD_eq_getElem?_getD, List.getElem?_eq_getElem (by omega : i < T.length)]
end Go.Proofs.Ytbonbcmdafpceaa
