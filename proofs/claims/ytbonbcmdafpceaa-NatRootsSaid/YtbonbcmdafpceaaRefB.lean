/- The document's numbers: words of digits. -/
import Derived.Test.YtbonbcmdafpceaaRefA
namespace Go.Proofs.Ytbonbcmdafpceaa
open Go.RowKit Num
set_option maxRecDepth 100000

theorem wd_of_len {ys : List Int} (h : Wf ys) (hv : 0 < ys.length → B ^ (ys.length - 1) ≤ val ys) : wd (val ys) = ys := by
  have ht := wd_take h
  have hl := wd_len h
  by_cases h0 : 0 < ys.length
  · have : ys.length ≤ (wd (val ys)).length := by
      by_cases hh : ys.length ≤ (wd (val ys)).length
      · exact hh
      · have := lt_pow_of_wd_length (n := val ys) (k := ys.length - 1) (val_nonneg h) (by omega)
        have := hv h0
        omega
    rw [List.take_of_length_le this] at ht
    exact ht.symm
  · rw [List.take_of_length_le (by omega)] at ht
    exact ht.symm
theorem dig_step {X : List Int} {p m : Nat} (hp : p < X.length) : Dig.val ((X.drop p).take (m + 1)) = Dig.val ((X.drop (p + 1)).take m) * 65536 + X[p]?.getD 0 := by
  rw [List.drop_eq_getElem_cons hp, List.take_succ_cons, Dig.val_cons, List.getElem?_eq_getElem hp, Dig.B_eq]
  simp only [Option.getD_some]; omega
theorem dig_none {X : List Int} {p m : Nat} (hp : X.length ≤ p) : Dig.val ((X.drop p).take m) = 0 := by
  rw [List.drop_eq_nil_of_le hp]; simp [Dig.val]
theorem dig_three {X : List Int} (h : Dig.Wf X) (p : Nat) {m : Nat} (hm : m ≤ 3) : 0 ≤ Dig.val ((X.drop p).take m) ∧ Dig.val ((X.drop p).take m) < 281474976710656 := by
  have hw := (h.drop p).take m
  have h1 := Dig.val_lt hw
  have h2 := Dig.B_pow_le (a := ((X.drop p).take m).length) (b := 3) (by simp; omega)
  have h3 : Dig.B ^ 3 = 281474976710656 := by decide
  rw [h3] at h2
  exact ⟨Dig.val_nonneg hw, by omega⟩
theorem words_step {X ys : List Int} {j : Nat} (hl : ys.length = j) (hv : val ys = Dig.val (X.take (4 * j))) (hj : 4 * j < X.length) : val (ys ++ [Dig.val ((X.drop (4 * j)).take 4)]) = Dig.val (X.take (4 * (j + 1))) := by
  have e : X.take (4 * (j + 1)) = X.take (4 * j) ++ (X.drop (4 * j)).take 4 := by rw [Nat.mul_add, List.take_add]
  rw [val_append, hv, hl, e, Dig.val_append, List.length_take, Nat.min_eq_left (by omega), val_one]
  have : Dig.B ^ (4 * j) = B ^ j := by rw [Int.pow_mul]; rfl
  rw [this]
theorem words_end {v : Int} (hv0 : 0 ≤ v) {ys : List Int} {j : Nat} (h : Wf ys) (hl : ys.length = j) (hv : val ys = Dig.val ((Dig.wd v).take (4 * j))) (h1 : (Dig.wd v).length ≤ 4 * j) (h2 : 0 < j → 4 * (j - 1) < (Dig.wd v).length) : wd v = ys := by
  rw [List.take_of_length_le h1, Dig.val_wd v hv0] at hv
  rw [← hv]
  refine wd_of_len h (fun h0 => ?_)
  rw [hv, hl]
  have h3 := Dig.pow_le_of_wd_length (n := v) (k := 4 * (j - 1)) (h2 (by omega))
  have : Dig.B ^ (4 * (j - 1)) = B ^ (j - 1) := by rw [Int.pow_mul]; rfl
  rw [← this]; exact h3
theorem words (A : Option Addr) (n c : Nat) (ds : List Int) (w : World) (h : Arr w A n c ds) (hD : Dig.Wf ds) (hn : n ≤ 1000000000) :
    Calls Try.prog 55 #[.slice A n c] w fun e w' => ∃ A' n' c', e = .returned (.slice A' n' c') ∧ Own w' w.heap.size A' n' c' (wd (Dig.val ds)) ∧ Below w.heap.size w w' := by
  have C := Lib.hid (cut A n c ds w h hD)
  have hv0 := Dig.val_nonneg hD
  have hlen := Dig.wd_len hD
  rw [h.len] at hlen
  have hA := h.take (Dig.wd (Dig.val ds)).length hlen
  rw [Dig.wd_take hD] at hA
  generalize Dig.val ds = v at *
  have hX := Dig.wf_wd v hv0
  have hend := fun ys j => words_end (v := v) (ys := ys) (j := j) hv0
  generalize hXe : Dig.wd v = X at *
  clear hXe
  have HE := Lib.hid hend
  clear hend
  have hcap := hA.cap
  have hbig := hA.big
  go_enter Try.func55, Try.ntmps55
  go_wp2_with fail
  refine C.out.mono ?_; rintro r w' ⟨rfl, rfl⟩
  go_wp2
  go_loopw [3, 4] (fun vd vi wr => ∃ (j : Nat) (ys : List Int), vi = .int .i64 (4 * j : Nat) ∧ ys.length = j ∧ (0 < j → 4 * (j - 1) < X.length) ∧ Wf ys ∧ Hid (val ys = Dig.val (X.take (4 * j))) ∧ wr.ownsRow w.heap.size 22 1 vd j (cellsOf ys) ∧ Below w.heap.size w wr) (fun _ vi _ => X.length + 4 - (intOf vi).toNat)
  case atStart => exact ⟨0, [], rfl, rfl, fun h => absurd h (by omega), wf_nil, by show _ = _; simp [val, Dig.val], owns_nil w _, below_self w⟩
  case round =>
    obtain ⟨j, ys, rfl, hlj, hj1, hwy, hvy, ho, hW⟩ := hrel
    by_cases h0 : 4 * j < X.length
    · have hst := words_step hlj hvy.out h0
      have HS := Lib.hid hst
      clear hst
      have d0 : decide (((4 * j : Nat) : Int) < X.length) = true := by simp; omega
      generalize hp : 4 * j = p at *
      go_wp2
      go_loop [5, 6] (fun vw vk => ∃ (r : Nat), r ≤ 4 ∧ vk = .int .i64 ((r : Int) - 1) ∧ vw = .int .u64 (Dig.val ((X.drop (p + r)).take (4 - r)))) (fun _ vk => (intOf vk + 1).toNat)
      case atStart => exact ⟨4, by omega, by go_num, by simp [Dig.val]⟩
      case round =>
        obtain ⟨r, hr, rfl, rfl⟩ := hrel
        by_cases hr0 : 0 < r
        · obtain ⟨k, rfl⟩ : ∃ k, r = k + 1 := ⟨r - 1, by omega⟩
          rw [show (((k + 1 : Nat) : Int) - 1) = (k : Int) from by omega]
          have r3 := dig_three hX (p + (k + 1)) (m := 4 - (k + 1)) (by omega)
          have ds1 := fun hp => dig_step (X := X) (p := p + k) (m := 4 - (k + 1)) hp
          have dn1 := fun hp => dig_none (X := X) (p := p + k) (m := 4 - k) hp
          have dn2 := fun hp => dig_none (X := X) (p := p + (k + 1)) (m := 4 - (k + 1)) hp
          rw [show 4 - (k + 1) + 1 = 4 - k from by omega, Nat.add_assoc] at ds1
          have e5 : (k : Int) - 1 = ((k : Nat) : Int) - 1 := rfl
          by_cases hq : p + k < X.length
          · have hds := ds1 hq
            obtain ⟨b, o, rfl, hlt, hc⟩ := (hA.below hW).mem (by omega)
            have k1 := hc (p + k) hq
            have x1 := hX.getD (p + k)
            rw [List.getD_eq_getElem?_getD] at k1 x1
            generalize Dig.val ((X.drop (p + (k + 1))).take (4 - (k + 1))) = u at *
            generalize X[p + k]?.getD 0 = x at *
            have HD := Lib.hid hds
            have d2 : decide ((p : Int) + k < X.length) = true := by simp; omega
            clear ds1 dn1 dn2 hc hds
            go_wp2
            exact ⟨⟨k, by omega, rfl, by rw [HD.out]⟩, by simp only [intOf]; omega⟩
          · have d2 : decide ((p : Int) + k < X.length) = false := by simp; omega
            have z1 := dn1 (by omega)
            have z2 := dn2 (by omega)
            rw [z2]
            have HD := Lib.hid z1
            clear ds1 dn1 dn2 z1 z2
            go_wp2
            exact ⟨⟨k, by omega, rfl, by rw [HD.out]⟩, by simp only [intOf]; omega⟩
        · obtain rfl : r = 0 := by omega
          have r4 : 0 ≤ Dig.val ((X.drop p).take 4) ∧ Dig.val ((X.drop p).take 4) < 18446744073709551616 := by
            have hw := (hX.drop p).take 4
            have h1 := Dig.val_lt hw
            have h2 := Dig.B_pow_le (a := ((X.drop p).take 4).length) (b := 4) (by simp; omega)
            have h3 : Dig.B ^ 4 = 18446744073709551616 := by decide
            rw [h3] at h2
            exact ⟨Dig.val_nonneg hw, by omega⟩
          rw [Nat.add_zero, Nat.sub_zero]
          generalize Dig.val ((X.drop p).take 4) = u at *
          go_wp2_with (at_builtin; refine wp_append rfl _ _ rfl w.heap.size _ j ys rfl (ho.alloc _) _ 1 1 [u] rfl (arr_one rfl u r4.1 r4.2) (j + 1) rfl (by omega) (by have := hW.size; simp; omega) ?_)
          intro v4 w4 ho4 hg4
          have hb4 := own_push ho hW hg4
          have hw4 : Wf (ys ++ [u]) := wf_append.2 ⟨hwy, wf_one r4.1 r4.2⟩
          have HO := Lib.hid ho4
          clear ho4
          go_wp2
          exact ⟨⟨j + 1, ys ++ [u], by go_num, by simp; omega, fun _ => by omega, hw4, HS.out, HO.out, hb4⟩, by simp only [intOf]; omega⟩
    · have hend := HE.out ys j hwy hlj hvy.out (by omega) hj1
      have HF := Lib.hid hend
      clear hend
      obtain ⟨A2, c2, rfl, hO⟩ := own_of_owns ho hwy
      have d0 : decide (((4 * j : Nat) : Int) < X.length) = false := by simp; omega
      clear hvy
      go_wp2
      go_ret
      exact ⟨A2, _, c2, rfl, by rw [HF.out]; exact hO, hW⟩
end Go.Proofs.Ytbonbcmdafpceaa
