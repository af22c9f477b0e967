/- nat.into and nat.off: what is written in place. -/
import Derived.Shelf.Spec.BitsCarry
import Derived.Test.YtbfnjjnnlbchgaaDoorNatB
namespace Go.Proofs.YtbfnjjnnlbchgaaDoor
open Go.RowKit Num
set_option maxRecDepth 100000

/-- A slice over a row of one's own, from block Bk on: its words stand at the row's head. -/
structure Own (w : World) (Bk : Nat) (A : Option Addr) (n c : Nat) (xs : List Int) : Prop where
  len : xs.length = n
  wf : Wf xs
  cap : n ≤ c
  big : c ≤ 9223372036854775807
  row : 0 < n → ∃ g S, A = some ⟨g, 0, none⟩ ∧ Bk ≤ g ∧ Row w g S ∧ n ≤ S.length ∧ S.take n = xs
/-- The block of a slice that isn't empty. -/
def blk (A : Option Addr) (n : Nat) : Option Nat := if n = 0 then none else A.map (·.block)
theorem blk_zero (A : Option Addr) : blk A 0 = none := rfl
theorem blk_pos {b o n : Nat} (hn : 0 < n) : blk (some ⟨b, o, none⟩) n = some b := by unfold blk; rw [if_neg (by omega)]; rfl
theorem Own.nil (w : World) (Bk : Nat) (A : Option Addr) (c : Nat) (hc : c ≤ 9223372036854775807) : Own w Bk A 0 c [] := ⟨rfl, wf_nil, Nat.zero_le _, hc, fun h => absurd h (by omega)⟩
theorem getD_take {S : List Int} {n j : Nat} (hj : j < n) : (S.take n).getD j 0 = S.getD j 0 := by
  simp only [List.getD_eq_getElem?_getD, List.getElem?_take]
  rw [if_pos hj]
theorem Own.arr {w : World} {Bk : Nat} {A : Option Addr} {n c : Nat} {xs : List Int} (h : Own w Bk A n c xs) : Arr w A n c xs := by
  refine ⟨h.len, h.wf, h.cap, h.big, fun hn => ?_⟩
  obtain ⟨g, S, e, _, hr, hl, ht⟩ := h.row hn
  exact ⟨g, 0, e, hr.lt, fun j hj => by rw [Nat.zero_add, hr.cell j (by omega), ← ht, getD_take hj]⟩
theorem Own.mono {w : World} {Bk Bk' : Nat} {A : Option Addr} {n c : Nat} {xs : List Int} (h : Own w Bk A n c xs) (hB : Bk' ≤ Bk) : Own w Bk' A n c xs :=
  ⟨h.len, h.wf, h.cap, h.big, fun hn => by
    obtain ⟨g, S, e, hg, r⟩ := h.row hn
    exact ⟨g, S, e, Nat.le_trans hB hg, r⟩⟩
theorem Own.take {w : World} {Bk : Nat} {A : Option Addr} {n c : Nat} {xs : List Int} (h : Own w Bk A n c xs) (k : Nat) (hk : k ≤ n) : Own w Bk A k c (xs.take k) := by
  have hl := h.len
  refine ⟨by simp; omega, h.wf.take k, Nat.le_trans hk h.cap, h.big, fun hn => ?_⟩
  obtain ⟨g, S, e, hg, hr, hS, ht⟩ := h.row (by omega)
  exact ⟨g, S, e, hg, hr, by omega, by rw [← ht, List.take_take, Nat.min_eq_left hk]⟩
theorem Own.trim {w : World} {Bk : Nat} {A : Option Addr} {n c : Nat} {xs : List Int} (h : Own w Bk A n c xs) : Own w Bk A (wd (val xs)).length c (wd (val xs)) := by
  have := h.take (wd (val xs)).length (by rw [← h.len]; exact wd_len h.wf)
  rwa [wd_take h.wf] at this
theorem Own.below {w w' : World} {Bk B0 : Nat} {A : Option Addr} {n c : Nat} {xs : List Int} (h : Own w Bk A n c xs) (hb : Below B0 w w') (hg : ∀ g, blk A n = some g → g < B0) : Own w' Bk A n c xs := by
  refine ⟨h.len, h.wf, h.cap, h.big, fun hn => ?_⟩
  obtain ⟨g, S, e, hB, hr, r⟩ := h.row hn
  exact ⟨g, S, e, hB, hr.below hb (hg g (by rw [e, blk_pos hn])), r⟩
theorem Own.later {w w' : World} {Bk : Nat} {A : Option Addr} {n c : Nat} {xs : List Int} (h : Own w Bk A n c xs) (hb : Below w.heap.size w w') : Own w' Bk A n c xs := by
  refine ⟨h.len, h.wf, h.cap, h.big, fun hn => ?_⟩
  obtain ⟨g, S, e, hB, hr, r⟩ := h.row hn
  exact ⟨g, S, e, hB, hr.below hb hr.lt, r⟩
theorem Row.own {w : World} {g n c Bk : Nat} {xs : List Int} (h : Row w g xs) (hn : xs.length = n) (hc : n ≤ c) (hb : c ≤ 9223372036854775807) (hB : Bk ≤ g) : Own w Bk (some ⟨g, 0, none⟩) n c xs := by
  subst hn
  exact ⟨rfl, h.wf, hc, hb, fun _ => ⟨g, xs, rfl, hB, h, Nat.le_refl _, by simp⟩⟩
/-- What is written is another block. -/
theorem Own.other {w w' : World} {Bk : Nat} {A : Option Addr} {n c : Nat} {xs : List Int} {r : Option Nat} (h : Own w Bk A n c xs) (hg : w.grownBy w' r) (hne : blk A n = none ∨ blk A n ≠ r) : Own w' Bk A n c xs := by
  refine ⟨h.len, h.wf, h.cap, h.big, fun hn => ?_⟩
  obtain ⟨g, S, e, hB, hr, hl, ht⟩ := h.row hn
  rw [e, blk_pos hn] at hne
  obtain ⟨rest, hh⟩ := hr.heap
  refine ⟨g, S, e, hB, ⟨hr.wf, rest, ?_⟩, hl, ht⟩
  rw [hg.block g hr.lt (by rcases hne with h | h; cases h; exact h)]
  exact hh
theorem Arr.other {w w' : World} {A : Option Addr} {n c : Nat} {xs : List Int} {r : Option Nat} (h : Arr w A n c xs) (hg : w.grownBy w' r) (hne : blk A n = none ∨ blk A n ≠ r) : Arr w' A n c xs := by
  refine ⟨h.len, h.wf, h.cap, h.big, fun hn => ?_⟩
  obtain ⟨b, o, e, hlt, hc⟩ := h.mem hn
  rw [e, blk_pos hn] at hne
  refine ⟨b, o, e, Nat.lt_of_lt_of_le hlt hg.size, fun j hj => ?_⟩
  rw [World.cell?_of_block (w := w) (hg.block b hlt (by rcases hne with h | h; cases h; exact h))]
  exact hc j hj
theorem grown_self (w : World) (r : Option Nat) : w.grownBy w r := ⟨rfl, rfl, rfl, Nat.le_refl _, fun _ _ _ => rfl⟩
theorem grown_trans {a b c : World} {r : Option Nat} (h : a.grownBy b r) (k : b.grownBy c r) : a.grownBy c r :=
  ⟨k.os.trans h.os, k.tape.trans h.tape, k.output.trans h.output, Nat.le_trans h.size k.size, fun i hi hne => (k.block i (Nat.lt_of_lt_of_le hi h.size) hne).trans (h.block i hi hne)⟩
theorem grown_set (w : World) (g o : Nat) (v : Value) : w.grownBy (w.setCell ⟨g, o, none⟩ v) (some g) :=
  ⟨rfl, rfl, rfl, by simp [World.setCell], fun k _ hne => Below.heap_setCell _ _ _ _ (by intro e; exact hne (by rw [e]))⟩
theorem grown_drew {a b : World} {r : Option Nat} (h : a.grownBy b r) : a.grownBy b.drew r := ⟨h.os, h.tape, h.output, h.size, h.block⟩
theorem grown_drewN {a b : World} {r : Option Nat} (h : a.grownBy b r) (n : Nat) : a.grownBy (b.drewN n) r := ⟨h.os, h.tape, h.output, h.size, h.block⟩
theorem Own.drewN {w : World} {Bk : Nat} {A : Option Addr} {n c : Nat} {xs : List Int} (h : Own w Bk A n c xs) (k : Nat) : Own (w.drewN k) Bk A n c xs := h.later (below_drewN (below_self w) k)
/-- A word of it is written. -/
theorem Own.set {w : World} {Bk g n c : Nat} {xs S : List Int} (h : Own w Bk (some ⟨g, 0, none⟩) n c xs) (hr : Row w g S) (hl : n ≤ S.length) (ht : S.take n = xs) (hB : Bk ≤ g) (i : Nat) (hi : i < n) (v : Int) (h0 : 0 ≤ v) (h1 : v < 18446744073709551616) :
    Own (w.setCell ⟨g, i, none⟩ (.int .u64 v)) Bk (some ⟨g, 0, none⟩) n c (xs.set i v) :=
  ⟨by rw [List.length_set]; exact h.len, h.wf.set i h0 h1, h.cap, h.big, fun _ => ⟨g, S.set i v, rfl, hB, hr.set i (by omega) v h0 h1, by rw [List.length_set]; exact hl, by rw [← ht, List.take_set]⟩⟩

theorem call_add64 (x y c : Int) (hx : 0 ≤ x) (hy : 0 ≤ y) (hc0 : 0 ≤ c) (hc : c ≤ 1) (w : World) :
    (callFunc 144 #[.int .u64 x, .int .u64 y, .int .u64 c]).run Tryd.prog w =
      .ok (.value (.tuple #[.int .u64 ((x + y + c) % 18446744073709551616), .int .u64 ((x + y + c) / 18446744073709551616)])) w := by
  rw [run_callFunc_extern Tryd.func144 (by kernel_rfl) (by kernel_rfl) (by kernel_rfl) (e := add64Entry) (by kernel_rfl), run_add64 x y c hx hy hc0 hc]
  rfl
/-- The borrow. -/
def borrow (x y b : Int) : Int := if x < y + b then 1 else 0
theorem call_sub64 (x y b : Int) (hx : 0 ≤ x) (hy : 0 ≤ y) (hy1 : y < 18446744073709551616) (hb0 : 0 ≤ b) (hb : b ≤ 1) (w : World) :
    (callFunc 157 #[.int .u64 x, .int .u64 y, .int .u64 b]).run Tryd.prog w =
      .ok (.value (.tuple #[.int .u64 ((x + 18446744073709551616 - y - b) % 18446744073709551616), .int .u64 (borrow x y b)])) w := by
  obtain ⟨p, rfl⟩ := Int.eq_ofNat_of_zero_le hx
  obtain ⟨q, rfl⟩ := Int.eq_ofNat_of_zero_le hy
  obtain ⟨k, rfl⟩ := Int.eq_ofNat_of_zero_le hb0
  rw [run_callFunc_extern Tryd.func157 (by kernel_rfl) (by kernel_rfl) (by kernel_rfl) (e := sub64Entry) (by kernel_rfl), run_sub64 p q k (by omega)]
  have e1 : (((p + 18446744073709551616 - q - k) % 18446744073709551616 : Nat) : Int) = ((p : Int) + 18446744073709551616 - q - k) % 18446744073709551616 := by omega
  have e2 : ((if p < q + k then 1 else 0 : Nat) : Int) = borrow p q k := by
    unfold borrow; split <;> split <;> omega
  rw [e1, e2]; rfl
theorem into_step {xs ys zs : List Int} {at_ i : Nat} {cy s cy' : Int} (hl : at_ + i < zs.length) (hv : val zs + cy * B ^ (at_ + i) = val xs + B ^ at_ * val (ys.take i))
    (hs : s + B * cy' = zs.getD (at_ + i) 0 + ys.getD i 0 + cy) : val (zs.set (at_ + i) s) + cy' * B ^ (at_ + (i + 1)) = val xs + B ^ at_ * val (ys.take (i + 1)) := by
  rw [val_set _ _ _ hl]
  have ht : val (ys.take (i + 1)) = val (ys.take i) + B ^ i * ys.getD i 0 := by
    by_cases hi : i < ys.length
    · rw [take_last (xs := ys) (k := i + 1) (by omega) (by omega), Nat.add_sub_cancel, val_append, List.length_take, Nat.min_eq_left (by omega), List.getD_eq_getElem?_getD]
      simp [val]
    · rw [List.take_of_length_le (by omega), List.take_of_length_le (by omega), List.getD_eq_getElem?_getD, List.getElem?_eq_none (by omega)]
      simp
  have e1 : B ^ at_ * (val (ys.take i) + B ^ i * ys.getD i 0) = B ^ at_ * val (ys.take i) + B ^ (at_ + i) * ys.getD i 0 := by rw [Int.pow_add]; grind
  rw [ht, e1, show at_ + (i + 1) = (at_ + i) + 1 from by omega, Int.pow_succ]
  generalize zs.getD (at_ + i) 0 = z at *
  generalize B ^ (at_ + i) = p at *
  have e : s = z + ys.getD i 0 + cy - B * cy' := by omega
  rw [e]; grind
theorem into_full {xs ys zs : List Int} {at_ i n : Nat} {cy : Int} (hw : Wf zs) (hl : zs.length = n) (hi : n ≤ at_ + i) (hv : val zs + cy * B ^ (at_ + i) = val xs + B ^ at_ * val (ys.take i)) : val zs = (val xs + B ^ at_ * val ys) % B ^ n := by
  have h1 := val_lt hw
  rw [hl] at h1
  have e : val ys = val (ys.take i) + B ^ i * val (ys.drop i) := by
    by_cases h : i ≤ ys.length
    · exact val_take_drop ys i h
    · rw [List.take_of_length_le (by omega), List.drop_eq_nil_of_le (by omega), val_nil]; omega
  obtain ⟨d, hd⟩ : ∃ d, at_ + i = n + d := ⟨at_ + i - n, by omega⟩
  have e2 : val xs + B ^ at_ * val ys = val zs + B ^ n * (cy * B ^ d + B ^ d * val (ys.drop i)) := by
    rw [e, Int.mul_add, ← Int.mul_assoc, ← Int.pow_add, hd, Int.pow_add]
    rw [hd, Int.pow_add] at hv
    have : val xs + B ^ at_ * val (ys.take i) = val zs + cy * (B ^ n * B ^ d) := hv.symm
    grind
  rw [e2, Int.add_mul_emod_self_left, Int.emod_eq_of_lt (val_nonneg hw) h1]
theorem into_done {xs ys zs : List Int} {at_ i n : Nat} (hw : Wf zs) (hl : zs.length = n) (hi : ys.length ≤ i) (hv : val zs + 0 * B ^ (at_ + i) = val xs + B ^ at_ * val (ys.take i)) : val zs = (val xs + B ^ at_ * val ys) % B ^ n := by
  have h1 := val_lt hw
  rw [hl] at h1
  rw [List.take_of_length_le hi, Int.zero_mul, Int.add_zero] at hv
  rw [← hv, Int.emod_eq_of_lt (val_nonneg hw) h1]
theorem into (A A' : Option Addr) (n c n' c' : Nat) (xs ys : List Int) (at_ : Nat) (w : World) (Bk : Nat) (h : Own w Bk A n c xs) (hb : Arr w A' n' c' ys) (hd : blk A' n' = none ∨ blk A' n' ≠ blk A n) (hn : n ≤ 1000000000000) (hn' : n' ≤ 1000000000000) (hat : at_ ≤ 1000000000000) :
    Calls Tryd.prog 151 #[.slice A n c, .slice A' n' c', .int .i64 at_] w fun e w' => e = .returned (.tuple #[]) ∧ ∃ zs, Own w' Bk A n c zs ∧ val zs = (val xs + B ^ at_ * val ys) % B ^ n ∧ w.grownBy w' (blk A n) := by
  have cap1 := h.cap
  have cap2 := h.big
  have cap3 := hb.cap
  have cap4 := hb.big
  have HL := Lib.hid hb.len
  go_enter Tryd.func151, Tryd.ntmps151
  go_wp2
  go_loopw [6, 7] (fun vc vi wr => ∃ (i : Nat) (cy : Int) (zs : List Int), (at_ + i ≤ n ∨ i = 0) ∧ vi = .int .i64 i ∧ vc = .int .u64 cy ∧ 0 ≤ cy ∧ cy ≤ 1 ∧ Own wr Bk A n c zs ∧ Hid (val zs + cy * B ^ (at_ + i) = val xs + B ^ at_ * val (ys.take i)) ∧ w.grownBy wr (blk A n)) (fun _ vi _ => n + 1 - (intOf vi).toNat)
  case atStart => exact ⟨0, 0, xs, .inr rfl, rfl, rfl, by omega, by omega, h, by show _ = _; simp [val], grown_self w _⟩
  case round =>
    obtain ⟨i, cy, zs, hi, rfl, rfl, hcy0, hcy1, hO, hv, hG⟩ := hrel
    have hA := hb.other hG hd
    by_cases h1 : at_ + i < n
    · obtain ⟨g, S, rfl, hB, hr, hl, ht⟩ := hO.row (by omega)
      have d1 : decide ((n : Int) ≤ at_ + i) = false := by simp; omega
      have r1 := hr.cell (at_ + i) (by omega)
      rw [← getD_take (by omega : at_ + i < n), ht] at r1
      have r2 := hr.free (at_ + i)
      have x1 := hO.wf.getD (at_ + i)
      by_cases h2 : i < n'
      · obtain ⟨b, o, rfl, hlt, hc⟩ := hA.mem (by omega)
        have k1 := hc i h2
        have y1 := hA.words i
        have hst := fun s cy' => into_step (xs := xs) (ys := ys) (s := s) (cy' := cy') (by rw [hO.len]; exact h1) hv.out
        have hse := fun v h0 h1' => hO.set hr hl ht hB (at_ + i) h1 v h0 h1'
        generalize zs.getD (at_ + i) 0 = x at *
        generalize ys.getD i 0 = y at *
        have HST := Lib.hid hst
        have HSE := Lib.hid hse
        have ha := call_add64 x y cy x1.1 y1.1 hcy0 hcy1 wr
        clear hc hst hse
        go_wp2
        refine ⟨⟨i + 1, _, _, .inl (by omega), by go_num, rfl, by omega, by omega, HSE.out _ (by omega) (by omega), HST.out _ _ (by rw [B_eq]; omega), grown_trans hG (by rw [blk_pos (by omega)]; exact grown_set _ _ _ _)⟩, by simp only [intOf]; omega⟩
      · have y0 : ys.getD i 0 = 0 := by rw [List.getD_eq_getElem?_getD, List.getElem?_eq_none (by rw [HL.out]; omega)]; rfl
        have d2 : decide ((i : Int) < n') = false := by simp; omega
        by_cases h3 : cy = 0
        · subst h3
          have hz := into_done hO.wf hO.len (by rw [HL.out]; omega) hv.out
          clear y0 hv
          have HZ := Lib.hid hz
          clear hz
          go_wp2
          go_end0
          exact ⟨rfl, zs, hO, HZ.out, hG⟩
        · have d3 : decide (0 < cy) = true := by simp; omega
          have hst := fun s cy' => into_step (xs := xs) (ys := ys) (s := s) (cy' := cy') (by rw [hO.len]; exact h1) hv.out
          have hse := fun v h0 h1' => hO.set hr hl ht hB (at_ + i) h1 v h0 h1'
          rw [y0] at hst
          clear y0
          generalize zs.getD (at_ + i) 0 = x at *
          have HST := Lib.hid hst
          have HSE := Lib.hid hse
          have ha := call_add64 x 0 cy x1.1 (by omega) hcy0 hcy1 wr
          clear hst hse
          go_wp2
          refine ⟨⟨i + 1, _, _, .inl (by omega), by go_num, rfl, by omega, by omega, HSE.out _ (by omega) (by omega), HST.out _ _ (by rw [B_eq]; omega), grown_trans hG (by rw [blk_pos (by omega)]; exact grown_set _ _ _ _)⟩, by simp only [intOf]; omega⟩
    · have d1 : decide ((n : Int) ≤ at_ + i) = true := by simp; omega
      have hz := into_full hO.wf hO.len (by omega) hv.out
      have HZ := Lib.hid hz
      clear hz
      by_cases h2 : i < n'
      · go_wp2
        refine bodyPost_ret (results_none rfl _ _ _) rfl ?_
        exact ⟨rfl, zs, hO, HZ.out, hG⟩
      · have d2 : decide ((i : Int) < n') = false := by simp; omega
        go_wp2
        all_goals first | go_end0 | refine bodyPost_ret (results_none rfl _ _ _) rfl ?_
        all_goals exact ⟨rfl, zs, hO, HZ.out, hG⟩
theorem borrow_range (x y b : Int) : 0 ≤ borrow x y b ∧ borrow x y b ≤ 1 := by unfold borrow; split <;> omega
theorem borrow_spec {x y b : Int} (hx0 : 0 ≤ x) (hx : x < 18446744073709551616) (hy0 : 0 ≤ y) (hy : y < 18446744073709551616) (hb0 : 0 ≤ b) (hb : b ≤ 1) :
    (x + 18446744073709551616 - y - b) % 18446744073709551616 - 18446744073709551616 * borrow x y b = x - y - b := by
  unfold borrow; split <;> omega
theorem off_step {xs ys zs : List Int} {at_ i : Nat} {cy s cy' : Int} (hl : at_ + i < zs.length) (hv : val zs - cy * B ^ (at_ + i) = val xs - B ^ at_ * val (ys.take i))
    (hs : s - B * cy' = zs.getD (at_ + i) 0 - ys.getD i 0 - cy) : val (zs.set (at_ + i) s) - cy' * B ^ (at_ + (i + 1)) = val xs - B ^ at_ * val (ys.take (i + 1)) := by
  rw [val_set _ _ _ hl]
  have ht : val (ys.take (i + 1)) = val (ys.take i) + B ^ i * ys.getD i 0 := by
    by_cases hi : i < ys.length
    · rw [take_last (xs := ys) (k := i + 1) (by omega) (by omega), Nat.add_sub_cancel, val_append, List.length_take, Nat.min_eq_left (by omega), List.getD_eq_getElem?_getD]
      simp [val]
    · rw [List.take_of_length_le (by omega), List.take_of_length_le (by omega), List.getD_eq_getElem?_getD, List.getElem?_eq_none (by omega)]
      simp
  have e1 : B ^ at_ * (val (ys.take i) + B ^ i * ys.getD i 0) = B ^ at_ * val (ys.take i) + B ^ (at_ + i) * ys.getD i 0 := by rw [Int.pow_add]; grind
  rw [ht, e1, show at_ + (i + 1) = (at_ + i) + 1 from by omega, Int.pow_succ]
  generalize zs.getD (at_ + i) 0 = z at *
  generalize B ^ (at_ + i) = p at *
  have e : s = z - ys.getD i 0 - cy + B * cy' := by omega
  rw [e]; grind
theorem off_full {xs ys zs : List Int} {at_ i n : Nat} {cy : Int} (hw : Wf zs) (hl : zs.length = n) (hi : n ≤ at_ + i) (hv : val zs - cy * B ^ (at_ + i) = val xs - B ^ at_ * val (ys.take i)) : val zs = (val xs - B ^ at_ * val ys) % B ^ n := by
  have h1 := val_lt hw
  rw [hl] at h1
  have e : val ys = val (ys.take i) + B ^ i * val (ys.drop i) := by
    by_cases h : i ≤ ys.length
    · exact val_take_drop ys i h
    · rw [List.take_of_length_le (by omega), List.drop_eq_nil_of_le (by omega), val_nil]; omega
  obtain ⟨d, hd⟩ : ∃ d, at_ + i = n + d := ⟨at_ + i - n, by omega⟩
  have e2 : val xs - B ^ at_ * val ys = val zs + B ^ n * (-(cy * B ^ d) - B ^ d * val (ys.drop i)) := by
    rw [e, Int.mul_add, ← Int.mul_assoc, ← Int.pow_add, hd, Int.pow_add]
    rw [hd, Int.pow_add] at hv
    have : val xs - B ^ at_ * val (ys.take i) = val zs - cy * (B ^ n * B ^ d) := hv.symm
    grind
  rw [e2, Int.add_mul_emod_self_left, Int.emod_eq_of_lt (val_nonneg hw) h1]
theorem off_done {xs ys zs : List Int} {at_ i n : Nat} (hw : Wf zs) (hl : zs.length = n) (hi : ys.length ≤ i) (hv : val zs - 0 * B ^ (at_ + i) = val xs - B ^ at_ * val (ys.take i)) : val zs = (val xs - B ^ at_ * val ys) % B ^ n := by
  have h1 := val_lt hw
  rw [hl] at h1
  rw [List.take_of_length_le hi, Int.zero_mul, Int.sub_zero] at hv
  rw [← hv, Int.emod_eq_of_lt (val_nonneg hw) h1]
theorem off (A A' : Option Addr) (n c n' c' : Nat) (xs ys : List Int) (at_ : Nat) (w : World) (Bk : Nat) (h : Own w Bk A n c xs) (hb : Arr w A' n' c' ys) (hd : blk A' n' = none ∨ blk A' n' ≠ blk A n) (hn : n ≤ 1000000000000) (hn' : n' ≤ 1000000000000) (hat : at_ ≤ 1000000000000) :
    Calls Tryd.prog 152 #[.slice A n c, .slice A' n' c', .int .i64 at_] w fun e w' => e = .returned (.tuple #[]) ∧ ∃ zs, Own w' Bk A n c zs ∧ val zs = (val xs - B ^ at_ * val ys) % B ^ n ∧ w.grownBy w' (blk A n) := by
  have cap1 := h.cap
  have cap2 := h.big
  have cap3 := hb.cap
  have cap4 := hb.big
  have HL := Lib.hid hb.len
  go_enter Tryd.func152, Tryd.ntmps152
  go_wp2
  go_loopw [6, 7] (fun vc vi wr => ∃ (i : Nat) (cy : Int) (zs : List Int), (at_ + i ≤ n ∨ i = 0) ∧ vi = .int .i64 i ∧ vc = .int .u64 cy ∧ 0 ≤ cy ∧ cy ≤ 1 ∧ Own wr Bk A n c zs ∧ Hid (val zs - cy * B ^ (at_ + i) = val xs - B ^ at_ * val (ys.take i)) ∧ w.grownBy wr (blk A n)) (fun _ vi _ => n + 1 - (intOf vi).toNat)
  case atStart => exact ⟨0, 0, xs, .inr rfl, rfl, rfl, by omega, by omega, h, by show _ = _; simp [val], grown_self w _⟩
  case round =>
    obtain ⟨i, cy, zs, hi, rfl, rfl, hcy0, hcy1, hO, hv, hG⟩ := hrel
    have hA := hb.other hG hd
    by_cases h1 : at_ + i < n
    · obtain ⟨g, S, rfl, hB, hr, hl, ht⟩ := hO.row (by omega)
      have d1 : decide ((n : Int) ≤ at_ + i) = false := by simp; omega
      have r1 := hr.cell (at_ + i) (by omega)
      rw [← getD_take (by omega : at_ + i < n), ht] at r1
      have r2 := hr.free (at_ + i)
      have x1 := hO.wf.getD (at_ + i)
      by_cases h2 : i < n'
      · obtain ⟨b, o, rfl, hlt, hc⟩ := hA.mem (by omega)
        have k1 := hc i h2
        have y1 := hA.words i
        have hst := fun s cy' => off_step (xs := xs) (ys := ys) (s := s) (cy' := cy') (by rw [hO.len]; exact h1) hv.out
        have hse := fun v h0 h1' => hO.set hr hl ht hB (at_ + i) h1 v h0 h1'
        generalize zs.getD (at_ + i) 0 = x at *
        generalize ys.getD i 0 = y at *
        have HST := Lib.hid hst
        have HSE := Lib.hid hse
        have ha := call_sub64 x y cy x1.1 y1.1 y1.2 hcy0 hcy1 wr
        have hbs := Lib.hid (borrow_spec x1.1 x1.2 y1.1 y1.2 hcy0 hcy1)
        have hbr := borrow_range x y cy
        clear hc hst hse
        go_wp2
        refine ⟨⟨i + 1, _, _, .inl (by omega), by go_num, rfl, hbr.1, hbr.2, HSE.out _ (by omega) (by omega), HST.out _ _ (by have := hbs.out; rw [B_eq]; omega), grown_trans hG (by rw [blk_pos (by omega)]; exact grown_set _ _ _ _)⟩, by simp only [intOf]; omega⟩
      · have y0 : ys.getD i 0 = 0 := by rw [List.getD_eq_getElem?_getD, List.getElem?_eq_none (by rw [HL.out]; omega)]; rfl
        have d2 : decide ((i : Int) < n') = false := by simp; omega
        by_cases h3 : cy = 0
        · subst h3
          have hz := off_done hO.wf hO.len (by rw [HL.out]; omega) hv.out
          clear y0 hv
          have HZ := Lib.hid hz
          clear hz
          go_wp2
          go_end0
          exact ⟨rfl, zs, hO, HZ.out, hG⟩
        · have d3 : decide (0 < cy) = true := by simp; omega
          have hst := fun s cy' => off_step (xs := xs) (ys := ys) (s := s) (cy' := cy') (by rw [hO.len]; exact h1) hv.out
          have hse := fun v h0 h1' => hO.set hr hl ht hB (at_ + i) h1 v h0 h1'
          rw [y0] at hst
          clear y0
          generalize zs.getD (at_ + i) 0 = x at *
          have HST := Lib.hid hst
          have HSE := Lib.hid hse
          have ha := call_sub64 x 0 cy x1.1 (by omega) (by omega) hcy0 hcy1 wr
          have hbs := Lib.hid (borrow_spec (y := 0) x1.1 x1.2 (by omega) (by omega) hcy0 hcy1)
          have hbr := borrow_range x 0 cy
          clear hst hse
          go_wp2
          refine ⟨⟨i + 1, _, _, .inl (by omega), by go_num, rfl, hbr.1, hbr.2, HSE.out _ (by omega) (by omega), HST.out _ _ (by have := hbs.out; rw [B_eq]; omega), grown_trans hG (by rw [blk_pos (by omega)]; exact grown_set _ _ _ _)⟩, by simp only [intOf]; omega⟩
    · have d1 : decide ((n : Int) ≤ at_ + i) = true := by simp; omega
      have hz := off_full hO.wf hO.len (by omega) hv.out
      have HZ := Lib.hid hz
      clear hz
      by_cases h2 : i < n'
      · go_wp2
        refine bodyPost_ret (results_none rfl _ _ _) rfl ?_
        exact ⟨rfl, zs, hO, HZ.out, hG⟩
      · have d2 : decide ((i : Int) < n') = false := by simp; omega
        go_wp2
        all_goals first | go_end0 | refine bodyPost_ret (results_none rfl _ _ _) rfl ?_
        all_goals exact ⟨rfl, zs, hO, HZ.out, hG⟩
end Go.Proofs.YtbfnjjnnlbchgaaDoor
