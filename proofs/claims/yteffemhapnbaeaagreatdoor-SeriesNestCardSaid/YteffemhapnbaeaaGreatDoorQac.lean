/- Walks and laws that the claim's row needs. No conditions. -/
import Derived.Shelf.Spec.BitsCarry
import Derived.Test.YteffemhapnbaeaaGreatDoorQab
import Derived.Laws.CopyOwn
set_option maxHeartbeats 16000000
set_option linter.unusedSimpArgs false
set_option linter.unusedVariables false
namespace Go.Proofs.YteffemhapnbaeaaGreatDoor
open Go.RowKit Num
set_option maxRecDepth 100000
structure Own (w : World) (Bk : Nat) (A : Option Addr) (n c : Nat) (xs : List Int) : Prop where
 len : xs.length = n
 wf : Wf xs
 cap : n ≤ c
 big : c ≤ 9223372036854775807
 row : 0 < n → ∃ g S, A = some ⟨g, 0, none⟩ ∧ Bk ≤ g ∧ Row w g S ∧ n ≤ S.length ∧ S.take n = xs
def blk (A : Option Addr) (n : Nat) : Option Nat := if n = 0 then none else A.map (·.block)
theorem Bcp (A : Option Addr) : blk A 0 = none := rfl
theorem Gi {b o n : Nat} (hn : 0 < n) : blk (some ⟨b, o, none⟩) n = some b := by unfold blk; rw [if_neg (by omega)]; rfl
theorem Own.nil (w : World) (Bk : Nat) (A : Option Addr) (c : Nat) (hc : c ≤ 9223372036854775807) : Own w Bk A 0 c [] := ⟨rfl, wf_nil, Nat.zero_le _, hc, fun h => absurd h (by omega)⟩
theorem Fq {S : List Int} {n j : Nat} (hj : j < n) : (S.take n).getD j 0 = S.getD j 0 := by
 simp only [List.getD_eq_getElem?_getD, List.getElem?_take]
 rw [if_pos hj]
theorem Own.arr {w : World} {Bk : Nat} {A : Option Addr} {n c : Nat} {xs : List Int} (h : Own w Bk A n c xs) : Arr w A n c xs := by
 refine ⟨h.len, h.wf, h.cap, h.big, fun hn => ?_⟩
 obtain ⟨g, S, e, _, hr, hl, ht⟩ := h.row hn
 exact ⟨g, 0, e, hr.lt, fun j hj => by rw [Nat.zero_add, hr.cell j (by omega), ← ht, Fq hj]⟩
theorem Own.mono {w : World} {Bk Bk' : Nat} {A : Option Addr} {n c : Nat} {xs : List Int} (h : Own w Bk A n c xs) (hB : Bk' ≤ Bk) : Own w Bk' A n c xs :=
 ⟨h.len, h.wf, h.cap, h.big, fun hn => by
  obtain ⟨g, S, e, hg, r⟩ := h.row hn
  exact ⟨g, S, e, Nat.le_trans hB hg, r⟩⟩
theorem Own.take {w : World} {Bk : Nat} {A : Option Addr} {n c : Nat} {xs : List Int} (h : Own w Bk A n c xs) (k : Nat) (hk : k ≤ n) : Own w Bk A k c (xs.take k) := by
 have hl := h.len
 refine ⟨by simp; omega, h.wf.take k, Nat.le_trans hk h.cap, h.big, fun hn => ?_⟩
 obtain ⟨g, S, e, hg, hr, hS, ht⟩ := h.row (by omega)
 exact ⟨g, S, e, hg, hr, by omega, by rw [← ht, List.take_take, Nat.min_eq_left hk]⟩
theorem Own.trim {w : World} {Bk : Nat} {A : Option Addr} {n c : Nat} {xs : List Int} (h : Own w Bk A n c xs) : Own w Bk A (wd (val xs)).length c (wd (val xs)) := by
 have := h.take (wd (val xs)).length (by rw [← h.len]; exact wd_len h.wf)
 rwa [wd_take h.wf] at this
theorem Own.below {w w' : World} {Bk B0 : Nat} {A : Option Addr} {n c : Nat} {xs : List Int} (h : Own w Bk A n c xs) (hb : Below B0 w w') (hg : ∀ g, blk A n = some g → g < B0) : Own w' Bk A n c xs := by
 refine ⟨h.len, h.wf, h.cap, h.big, fun hn => ?_⟩
 obtain ⟨g, S, e, hB, hr, r⟩ := h.row hn
 exact ⟨g, S, e, hB, hr.below hb (hg g (by rw [e, Gi hn])), r⟩
theorem Own.later {w w' : World} {Bk : Nat} {A : Option Addr} {n c : Nat} {xs : List Int} (h : Own w Bk A n c xs) (hb : Below w.heap.size w w') : Own w' Bk A n c xs := by
 refine ⟨h.len, h.wf, h.cap, h.big, fun hn => ?_⟩
 obtain ⟨g, S, e, hB, hr, r⟩ := h.row hn
 exact ⟨g, S, e, hB, hr.below hb hr.lt, r⟩
theorem Row.own {w : World} {g n c Bk : Nat} {xs : List Int} (h : Row w g xs) (hn : xs.length = n) (hc : n ≤ c) (hb : c ≤ 9223372036854775807) (hB : Bk ≤ g) : Own w Bk (some ⟨g, 0, none⟩) n c xs := by
 subst hn
 exact ⟨rfl, h.wf, hc, hb, fun _ => ⟨g, xs, rfl, hB, h, Nat.le_refl _, by simp⟩⟩
theorem Own.other {w w' : World} {Bk : Nat} {A : Option Addr} {n c : Nat} {xs : List Int} {r : Option Nat} (h : Own w Bk A n c xs) (hg : w.grownBy w' r) (hne : blk A n = none ∨ blk A n ≠ r) : Own w' Bk A n c xs := by
 refine ⟨h.len, h.wf, h.cap, h.big, fun hn => ?_⟩
 obtain ⟨g, S, e, hB, hr, hl, ht⟩ := h.row hn
 rw [e, Gi hn] at hne
 obtain ⟨rest, hh⟩ := hr.heap
 refine ⟨g, S, e, hB, ⟨hr.wf, rest, ?_⟩, hl, ht⟩
 rw [hg.block g hr.lt (by rcases hne with h | h; cases h; exact h)]
 exact hh
theorem Arr.other {w w' : World} {A : Option Addr} {n c : Nat} {xs : List Int} {r : Option Nat} (h : Arr w A n c xs) (hg : w.grownBy w' r) (hne : blk A n = none ∨ blk A n ≠ r) : Arr w' A n c xs := by
 refine ⟨h.len, h.wf, h.cap, h.big, fun hn => ?_⟩
 obtain ⟨b, o, e, hlt, hc⟩ := h.mem hn
 rw [e, Gi hn] at hne
 refine ⟨b, o, e, Nat.lt_of_lt_of_le hlt hg.size, fun j hj => ?_⟩
 rw [World.cell?_of_block (w := w) (hg.block b hlt (by rcases hne with h | h; cases h; exact h))]
 exact hc j hj
theorem Do (w : World) (r : Option Nat) : w.grownBy w r := ⟨rfl, rfl, rfl, Nat.le_refl _, fun _ _ _ => rfl⟩
theorem Bi {a b c : World} {r : Option Nat} (h : a.grownBy b r) (k : b.grownBy c r) : a.grownBy c r :=
 ⟨k.os.trans h.os, k.tape.trans h.tape, k.output.trans h.output, Nat.le_trans h.size k.size, fun i hi hne => (k.block i (Nat.lt_of_lt_of_le hi h.size) hne).trans (h.block i hi hne)⟩
theorem Br (w : World) (g o : Nat) (v : Value) : w.grownBy (w.setCell ⟨g, o, none⟩ v) (some g) :=
 ⟨rfl, rfl, rfl, by simp [World.setCell], fun k _ hne => Below.heap_setCell _ _ _ _ (by intro e; exact hne (by rw [e]))⟩
theorem Ce {a b : World} {r : Option Nat} (h : a.grownBy b r) : a.grownBy b.drew r := ⟨h.os, h.tape, h.output, h.size, h.block⟩
theorem Wv {a b : World} {r : Option Nat} (h : a.grownBy b r) (n : Nat) : a.grownBy (b.drewN n) r := ⟨h.os, h.tape, h.output, h.size, h.block⟩
theorem Own.drewN {w : World} {Bk : Nat} {A : Option Addr} {n c : Nat} {xs : List Int} (h : Own w Bk A n c xs) (k : Nat) : Own (w.drewN k) Bk A n c xs := h.later (Bd (Bb w) k)
theorem Own.set {w : World} {Bk g n c : Nat} {xs S : List Int} (h : Own w Bk (some ⟨g, 0, none⟩) n c xs) (hr : Row w g S) (hl : n ≤ S.length) (ht : S.take n = xs) (hB : Bk ≤ g) (i : Nat) (hi : i < n) (v : Int) (h0 : 0 ≤ v) (h1 : v < 18446744073709551616) :
  Own (w.setCell ⟨g, i, none⟩ (.int .u64 v)) Bk (some ⟨g, 0, none⟩) n c (xs.set i v) :=
 ⟨by rw [List.length_set]; exact h.len, h.wf.set i h0 h1, h.cap, h.big, fun _ => ⟨g, S.set i v, rfl, hB, hr.set i (by omega) v h0 h1, by rw [List.length_set]; exact hl, by rw [← ht, List.take_set]⟩⟩
theorem Jx (x y c : Int) (hx : 0 ≤ x) (hy : 0 ≤ y) (hc0 : 0 ≤ c) (hc : c ≤ 1) (w : World) :
  (callFunc 133 #[.int .u64 x, .int .u64 y, .int .u64 c]).run Tryz.prog w =
   .ok (.value (.tuple #[.int .u64 ((x + y + c) % 18446744073709551616), .int .u64 ((x + y + c) / 18446744073709551616)])) w := by
 rw [run_callFunc_extern Tryz.func133 (by kernel_rfl) (by kernel_rfl) (by kernel_rfl) (e := add64Entry) (by kernel_rfl), run_add64 x y c hx hy hc0 hc]
 rfl
def Kj (x y b : Int) : Int := if x < y + b then 1 else 0
theorem Mf (x y b : Int) (hx : 0 ≤ x) (hy : 0 ≤ y) (hy1 : y < 18446744073709551616) (hb0 : 0 ≤ b) (hb : b ≤ 1) (w : World) :
  (callFunc 146 #[.int .u64 x, .int .u64 y, .int .u64 b]).run Tryz.prog w =
   .ok (.value (.tuple #[.int .u64 ((x + 18446744073709551616 - y - b) % 18446744073709551616), .int .u64 (Kj x y b)])) w := by
 obtain ⟨p, rfl⟩ := Int.eq_ofNat_of_zero_le hx
 obtain ⟨q, rfl⟩ := Int.eq_ofNat_of_zero_le hy
 obtain ⟨k, rfl⟩ := Int.eq_ofNat_of_zero_le hb0
 rw [run_callFunc_extern Tryz.func146 (by kernel_rfl) (by kernel_rfl) (by kernel_rfl) (e := sub64Entry) (by kernel_rfl), run_sub64 p q k (by omega)]
 have e1 : (((p + 18446744073709551616 - q - k) % 18446744073709551616 : Nat) : Int) = ((p : Int) + 18446744073709551616 - q - k) % 18446744073709551616 := by omega
 have e2 : ((if p < q + k then 1 else 0 : Nat) : Int) = Kj p q k := by
  unfold Kj; split <;> split <;> omega
 rw [e1, e2]; rfl
theorem Jw (x y b : Int) : 0 ≤ Kj x y b ∧ Kj x y b ≤ 1 := by unfold Kj; split <;> omega
theorem Kk {x y b : Int} (hx0 : 0 ≤ x) (hx : x < 18446744073709551616) (hy0 : 0 ≤ y) (hy : y < 18446744073709551616) (hb0 : 0 ≤ b) (hb : b ≤ 1) :
  (x + 18446744073709551616 - y - b) % 18446744073709551616 - 18446744073709551616 * Kj x y b = x - y - b := by
 unfold Kj; split <;> omega
theorem Uh {xs ys zs : List Int} {at_ i : Nat} {cy s cy' : Int} (hl : at_ + i < zs.length) (hv : val zs + cy * B ^ (at_ + i) = val xs + B ^ at_ * val (ys.take i))
  (hs : s + B * cy' = zs.getD (at_ + i) 0 + ys.getD i 0 + cy) : val (zs.set (at_ + i) s) + cy' * B ^ (at_ + (i + 1)) = val xs + B ^ at_ * val (ys.take (i + 1)) := by
 rw [val_set _ _ _ hl]
 have ht : val (ys.take (i + 1)) = val (ys.take i) + B ^ i * ys.getD i 0 := by
  by_cases hi : i < ys.length
  ·rw [Dd (xs := ys) (k := i + 1) (by omega) (by omega), Nat.add_sub_cancel, val_append, List.length_take, Nat.min_eq_left (by omega), List.getD_eq_getElem?_getD]
   simp [val]
  ·rw [List.take_of_length_le (by omega), List.take_of_length_le (by omega), List.getD_eq_getElem?_getD, List.getElem?_eq_none (by omega)]
   simp
 have e1 : B ^ at_ * (val (ys.take i) + B ^ i * ys.getD i 0) = B ^ at_ * val (ys.take i) + B ^ (at_ + i) * ys.getD i 0 := by rw [Int.pow_add]; grind
 rw [ht, e1, show at_ + (i + 1) = (at_ + i) + 1 from by omega, Int.pow_succ]
 generalize zs.getD (at_ + i) 0 = z at *
 generalize B ^ (at_ + i) = p at *
 have e : s = z + ys.getD i 0 + cy - B * cy' := by omega
 rw [e]; grind
theorem Bbl {xs ys zs : List Int} {at_ i n : Nat} {cy : Int} (hw : Wf zs) (hl : zs.length = n) (hi : n ≤ at_ + i) (hv : val zs + cy * B ^ (at_ + i) = val xs + B ^ at_ * val (ys.take i)) : val zs = (val xs + B ^ at_ * val ys) % B ^ n := by
 have h1 := val_lt hw
 rw [hl] at h1
 have e : val ys = val (ys.take i) + B ^ i * val (ys.drop i) := by
  by_cases h : i ≤ ys.length
  ·exact val_take_drop ys i h
  ·rw [List.take_of_length_le (by omega), List.drop_eq_nil_of_le (by omega), val_nil]; omega
 obtain ⟨d, hd⟩ : ∃ d, at_ + i = n + d := ⟨at_ + i - n, by omega⟩
 have e2 : val xs + B ^ at_ * val ys = val zs + B ^ n * (cy * B ^ d + B ^ d * val (ys.drop i)) := by
  rw [e, Int.mul_add, ← Int.mul_assoc, ← Int.pow_add, hd, Int.pow_add]
  rw [hd, Int.pow_add] at hv
  have : val xs + B ^ at_ * val (ys.take i) = val zs + cy * (B ^ n * B ^ d) := hv.symm
  grind
 rw [e2, Int.add_mul_emod_self_left, Int.emod_eq_of_lt (val_nonneg hw) h1]
theorem Bbk {xs ys zs : List Int} {at_ i n : Nat} (hw : Wf zs) (hl : zs.length = n) (hi : ys.length ≤ i) (hv : val zs + 0 * B ^ (at_ + i) = val xs + B ^ at_ * val (ys.take i)) : val zs = (val xs + B ^ at_ * val ys) % B ^ n := by
 have h1 := val_lt hw
 rw [hl] at h1
 rw [List.take_of_length_le hi, Int.zero_mul, Int.add_zero] at hv
 rw [← hv, Int.emod_eq_of_lt (val_nonneg hw) h1]
theorem into (A A' : Option Addr) (n c n' c' : Nat) (xs ys : List Int) (at_ : Nat) (w : World) (Bk : Nat) (h : Own w Bk A n c xs) (hb : Arr w A' n' c' ys) (hd : blk A' n' = none ∨ blk A' n' ≠ blk A n) (hn : n ≤ 1000000000000) (hn' : n' ≤ 1000000000000) (hat : at_ ≤ 1000000000000) :
  Calls Tryz.prog 141 #[.slice A n c, .slice A' n' c', .int .i64 at_] w fun e w' => e = .returned (.tuple #[]) ∧ ∃ zs, Own w' Bk A n c zs ∧ val zs = (val xs + B ^ at_ * val ys) % B ^ n ∧ w.grownBy w' (blk A n) := by
 have cap1 := h.cap
 have cap2 := h.big
 have cap3 := hb.cap
 have cap4 := hb.big
 have HL := Be hb.len
 go_enter Tryz.func141, Tryz.ntmps141
 go_wp2
 go_loopw [6, 7] (fun vc vi wr => ∃ (i : Nat) (cy : Int) (zs : List Int), (at_ + i ≤ n ∨ i = 0) ∧ vi = .int .i64 i ∧ vc = .int .u64 cy ∧ 0 ≤ cy ∧ cy ≤ 1 ∧ Own wr Bk A n c zs ∧ Hid (val zs + cy * B ^ (at_ + i) = val xs + B ^ at_ * val (ys.take i)) ∧ w.grownBy wr (blk A n)) (fun _ vi _ => n + 1 - (intOf vi).toNat)
 case atStart => exact ⟨0, 0, xs, .inr rfl, rfl, rfl, by omega, by omega, h, by show _ = _; simp [val], Do w _⟩
 case round =>
  obtain ⟨i, cy, zs, hi, rfl, rfl, hcy0, hcy1, hO, hv, hG⟩ := hrel
  have hA := hb.other hG hd
  by_cases h1 : at_ + i < n
  ·obtain ⟨g, S, rfl, hB, hr, hl, ht⟩ := hO.row (by omega)
   have d1 : decide ((n : Int) ≤ at_ + i) = false := by simp; omega
   have r1 := hr.cell (at_ + i) (by omega)
   rw [← Fq (by omega : at_ + i < n), ht] at r1
   have r2 := hr.free (at_ + i)
   have x1 := hO.wf.getD (at_ + i)
   by_cases h2 : i < n'
   ·obtain ⟨b, o, rfl, hlt, hc⟩ := hA.mem (by omega)
    have k1 := hc i h2
    have y1 := hA.words i
    have hst := fun s cy' => Uh (xs := xs) (ys := ys) (s := s) (cy' := cy') (by rw [hO.len]; exact h1) hv.out
    have hse := fun v h0 h1' => hO.set hr hl ht hB (at_ + i) h1 v h0 h1'
    generalize zs.getD (at_ + i) 0 = x at *
    generalize ys.getD i 0 = y at *
    have HST := Be hst
    have HSE := Be hse
    have ha := Jx x y cy x1.1 y1.1 hcy0 hcy1 wr
    clear hc hst hse
    go_wp2
    refine ⟨⟨i + 1, _, _, .inl (by omega), by go_num, rfl, by omega, by omega, HSE.out _ (by omega) (by omega), HST.out _ _ (by rw [B_eq]; omega), Bi hG (by rw [Gi (by omega)]; exact Br _ _ _ _)⟩, by simp only [intOf]; omega⟩
   ·have y0 : ys.getD i 0 = 0 := by rw [List.getD_eq_getElem?_getD, List.getElem?_eq_none (by rw [HL.out]; omega)]; rfl
    have d2 : decide ((i : Int) < n') = false := by simp; omega
    by_cases h3 : cy = 0
    ·subst h3
     have hz := Bbk hO.wf hO.len (by rw [HL.out]; omega) hv.out
     clear y0 hv
     have HZ := Be hz
     clear hz
     go_wp2
     go_end0
     exact ⟨rfl, zs, hO, HZ.out, hG⟩
    ·have d3 : decide (0 < cy) = true := by simp; omega
     have hst := fun s cy' => Uh (xs := xs) (ys := ys) (s := s) (cy' := cy') (by rw [hO.len]; exact h1) hv.out
     have hse := fun v h0 h1' => hO.set hr hl ht hB (at_ + i) h1 v h0 h1'
     rw [y0] at hst
     clear y0
     generalize zs.getD (at_ + i) 0 = x at *
     have HST := Be hst
     have HSE := Be hse
     have ha := Jx x 0 cy x1.1 (by omega) hcy0 hcy1 wr
     clear hst hse
     go_wp2
     refine ⟨⟨i + 1, _, _, .inl (by omega), by go_num, rfl, by omega, by omega, HSE.out _ (by omega) (by omega), HST.out _ _ (by rw [B_eq]; omega), Bi hG (by rw [Gi (by omega)]; exact Br _ _ _ _)⟩, by simp only [intOf]; omega⟩
  ·have d1 : decide ((n : Int) ≤ at_ + i) = true := by simp; omega
   have hz := Bbl hO.wf hO.len (by omega) hv.out
   have HZ := Be hz
   clear hz
   by_cases h2 : i < n'
   ·go_wp2
    refine bodyPost_ret (results_none rfl _ _ _) rfl ?_
    exact ⟨rfl, zs, hO, HZ.out, hG⟩
   ·have d2 : decide ((i : Int) < n') = false := by simp; omega
    go_wp2
    all_goals first | go_end0 | refine bodyPost_ret (results_none rfl _ _ _) rfl ?_
    all_goals exact ⟨rfl, zs, hO, HZ.out, hG⟩
theorem Xe {xs ys zs : List Int} {at_ i : Nat} {cy s cy' : Int} (hl : at_ + i < zs.length) (hv : val zs - cy * B ^ (at_ + i) = val xs - B ^ at_ * val (ys.take i))
  (hs : s - B * cy' = zs.getD (at_ + i) 0 - ys.getD i 0 - cy) : val (zs.set (at_ + i) s) - cy' * B ^ (at_ + (i + 1)) = val xs - B ^ at_ * val (ys.take (i + 1)) := by
 rw [val_set _ _ _ hl]
 have ht : val (ys.take (i + 1)) = val (ys.take i) + B ^ i * ys.getD i 0 := by
  by_cases hi : i < ys.length
  ·rw [Dd (xs := ys) (k := i + 1) (by omega) (by omega), Nat.add_sub_cancel, val_append, List.length_take, Nat.min_eq_left (by omega), List.getD_eq_getElem?_getD]
   simp [val]
  ·rw [List.take_of_length_le (by omega), List.take_of_length_le (by omega), List.getD_eq_getElem?_getD, List.getElem?_eq_none (by omega)]
   simp
 have e1 : B ^ at_ * (val (ys.take i) + B ^ i * ys.getD i 0) = B ^ at_ * val (ys.take i) + B ^ (at_ + i) * ys.getD i 0 := by rw [Int.pow_add]; grind
 rw [ht, e1, show at_ + (i + 1) = (at_ + i) + 1 from by omega, Int.pow_succ]
 generalize zs.getD (at_ + i) 0 = z at *
 generalize B ^ (at_ + i) = p at *
 have e : s = z - ys.getD i 0 - cy + B * cy' := by omega
 rw [e]; grind
theorem Bdk {xs ys zs : List Int} {at_ i n : Nat} {cy : Int} (hw : Wf zs) (hl : zs.length = n) (hi : n ≤ at_ + i) (hv : val zs - cy * B ^ (at_ + i) = val xs - B ^ at_ * val (ys.take i)) : val zs = (val xs - B ^ at_ * val ys) % B ^ n := by
 have h1 := val_lt hw
 rw [hl] at h1
 have e : val ys = val (ys.take i) + B ^ i * val (ys.drop i) := by
  by_cases h : i ≤ ys.length
  ·exact val_take_drop ys i h
  ·rw [List.take_of_length_le (by omega), List.drop_eq_nil_of_le (by omega), val_nil]; omega
 obtain ⟨d, hd⟩ : ∃ d, at_ + i = n + d := ⟨at_ + i - n, by omega⟩
 have e2 : val xs - B ^ at_ * val ys = val zs + B ^ n * (-(cy * B ^ d) - B ^ d * val (ys.drop i)) := by
  rw [e, Int.mul_add, ← Int.mul_assoc, ← Int.pow_add, hd, Int.pow_add]
  rw [hd, Int.pow_add] at hv
  have : val xs - B ^ at_ * val (ys.take i) = val zs - cy * (B ^ n * B ^ d) := hv.symm
  grind
 rw [e2, Int.add_mul_emod_self_left, Int.emod_eq_of_lt (val_nonneg hw) h1]
theorem Bdj {xs ys zs : List Int} {at_ i n : Nat} (hw : Wf zs) (hl : zs.length = n) (hi : ys.length ≤ i) (hv : val zs - 0 * B ^ (at_ + i) = val xs - B ^ at_ * val (ys.take i)) : val zs = (val xs - B ^ at_ * val ys) % B ^ n := by
 have h1 := val_lt hw
 rw [hl] at h1
 rw [List.take_of_length_le hi, Int.zero_mul, Int.sub_zero] at hv
 rw [← hv, Int.emod_eq_of_lt (val_nonneg hw) h1]
theorem off (A A' : Option Addr) (n c n' c' : Nat) (xs ys : List Int) (at_ : Nat) (w : World) (Bk : Nat) (h : Own w Bk A n c xs) (hb : Arr w A' n' c' ys) (hd : blk A' n' = none ∨ blk A' n' ≠ blk A n) (hn : n ≤ 1000000000000) (hn' : n' ≤ 1000000000000) (hat : at_ ≤ 1000000000000) :
  Calls Tryz.prog 142 #[.slice A n c, .slice A' n' c', .int .i64 at_] w fun e w' => e = .returned (.tuple #[]) ∧ ∃ zs, Own w' Bk A n c zs ∧ val zs = (val xs - B ^ at_ * val ys) % B ^ n ∧ w.grownBy w' (blk A n) := by
 have cap1 := h.cap
 have cap2 := h.big
 have cap3 := hb.cap
 have cap4 := hb.big
 have HL := Be hb.len
 go_enter Tryz.func142, Tryz.ntmps142
 go_wp2
 go_loopw [6, 7] (fun vc vi wr => ∃ (i : Nat) (cy : Int) (zs : List Int), (at_ + i ≤ n ∨ i = 0) ∧ vi = .int .i64 i ∧ vc = .int .u64 cy ∧ 0 ≤ cy ∧ cy ≤ 1 ∧ Own wr Bk A n c zs ∧ Hid (val zs - cy * B ^ (at_ + i) = val xs - B ^ at_ * val (ys.take i)) ∧ w.grownBy wr (blk A n)) (fun _ vi _ => n + 1 - (intOf vi).toNat)
 case atStart => exact ⟨0, 0, xs, .inr rfl, rfl, rfl, by omega, by omega, h, by show _ = _; simp [val], Do w _⟩
 case round =>
  obtain ⟨i, cy, zs, hi, rfl, rfl, hcy0, hcy1, hO, hv, hG⟩ := hrel
  have hA := hb.other hG hd
  by_cases h1 : at_ + i < n
  ·obtain ⟨g, S, rfl, hB, hr, hl, ht⟩ := hO.row (by omega)
   have d1 : decide ((n : Int) ≤ at_ + i) = false := by simp; omega
   have r1 := hr.cell (at_ + i) (by omega)
   rw [← Fq (by omega : at_ + i < n), ht] at r1
   have r2 := hr.free (at_ + i)
   have x1 := hO.wf.getD (at_ + i)
   by_cases h2 : i < n'
   ·obtain ⟨b, o, rfl, hlt, hc⟩ := hA.mem (by omega)
    have k1 := hc i h2
    have y1 := hA.words i
    have hst := fun s cy' => Xe (xs := xs) (ys := ys) (s := s) (cy' := cy') (by rw [hO.len]; exact h1) hv.out
    have hse := fun v h0 h1' => hO.set hr hl ht hB (at_ + i) h1 v h0 h1'
    generalize zs.getD (at_ + i) 0 = x at *
    generalize ys.getD i 0 = y at *
    have HST := Be hst
    have HSE := Be hse
    have ha := Mf x y cy x1.1 y1.1 y1.2 hcy0 hcy1 wr
    have hbs := Be (Kk x1.1 x1.2 y1.1 y1.2 hcy0 hcy1)
    have hbr := Jw x y cy
    clear hc hst hse
    go_wp2
    refine ⟨⟨i + 1, _, _, .inl (by omega), by go_num, rfl, hbr.1, hbr.2, HSE.out _ (by omega) (by omega), HST.out _ _ (by have := hbs.out; rw [B_eq]; omega), Bi hG (by rw [Gi (by omega)]; exact Br _ _ _ _)⟩, by simp only [intOf]; omega⟩
   ·have y0 : ys.getD i 0 = 0 := by rw [List.getD_eq_getElem?_getD, List.getElem?_eq_none (by rw [HL.out]; omega)]; rfl
    have d2 : decide ((i : Int) < n') = false := by simp; omega
    by_cases h3 : cy = 0
    ·subst h3
     have hz := Bdj hO.wf hO.len (by rw [HL.out]; omega) hv.out
     clear y0 hv
     have HZ := Be hz
     clear hz
     go_wp2
     go_end0
     exact ⟨rfl, zs, hO, HZ.out, hG⟩
    ·have d3 : decide (0 < cy) = true := by simp; omega
     have hst := fun s cy' => Xe (xs := xs) (ys := ys) (s := s) (cy' := cy') (by rw [hO.len]; exact h1) hv.out
     have hse := fun v h0 h1' => hO.set hr hl ht hB (at_ + i) h1 v h0 h1'
     rw [y0] at hst
     clear y0
     generalize zs.getD (at_ + i) 0 = x at *
     have HST := Be hst
     have HSE := Be hse
     have ha := Mf x 0 cy x1.1 (by omega) (by omega) hcy0 hcy1 wr
     have hbs := Be (Kk (y := 0) x1.1 x1.2 (by omega) (by omega) hcy0 hcy1)
     have hbr := Jw x 0 cy
     clear hst hse
     go_wp2
     refine ⟨⟨i + 1, _, _, .inl (by omega), by go_num, rfl, hbr.1, hbr.2, HSE.out _ (by omega) (by omega), HST.out _ _ (by have := hbs.out; rw [B_eq]; omega), Bi hG (by rw [Gi (by omega)]; exact Br _ _ _ _)⟩, by simp only [intOf]; omega⟩
  ·have d1 : decide ((n : Int) ≤ at_ + i) = true := by simp; omega
   have hz := Bdk hO.wf hO.len (by omega) hv.out
   have HZ := Be hz
   clear hz
   by_cases h2 : i < n'
   ·go_wp2
    refine bodyPost_ret (results_none rfl _ _ _) rfl ?_
    exact ⟨rfl, zs, hO, HZ.out, hG⟩
   ·have d2 : decide ((i : Int) < n') = false := by simp; omega
    go_wp2
    all_goals first | go_end0 | refine bodyPost_ret (results_none rfl _ _ _) rfl ?_
    all_goals exact ⟨rfl, zs, hO, HZ.out, hG⟩
theorem Wd {w : World} {base : Nat} {v : Value} {n : Nat} {xs : List Value} (hown : w.ownsRow base 51 1 v n xs) (c : Nat) (ty : TypeId) :
  (Builtin.append_ #[24, 24] ty #[v, .slice none 0 c]).run Tryz.prog w = .ok v w := by
 obtain ⟨i0, hi, hz0, hz1, hz2⟩ := info_parts Su
 rcases hown.2 with ⟨rfl, rfl⟩ | ⟨g, cap, cur, rfl, _, _, hnc, _⟩
 ·simp [Builtin.append_, run_underlying Tryz.underlying24, sizeOf, typeInfo, hi, Builtin.lenOf, Builtin.firstCells]
 ·simp [Builtin.append_, run_underlying Tryz.underlying24, sizeOf, typeInfo, hi, Builtin.lenOf, Builtin.firstCells, hnc, storeCells]
theorem Km (xs ys : List Int) : cellsOf (xs ++ ys) = cellsOf xs ++ cellsOf ys := by simp [cellsOf]
theorem De {w : World} {ops : Array Oper} {rest : List Oper} {o : Oper} {a : Act} {Q : Exit → Act → World → Prop} (hgd : o.guard = none) (s x : Operand)
  (ho : o.op = .call { callee := .builtin .append, args := #[s, x], argTypes := #[24, 24] }) (base : Nat) (v : Value) (n : Nat) (ys : List Int) (hs : a.eval s = v) (hown : w.ownsRow base 51 1 v n (cellsOf ys))
  (A : Option Addr) (m c : Nat) (xs : List Int) (hx : a.eval x = .slice A m c) (hA : Arr w A m c xs) (l : Nat) (hlm : n + m = l) (hb : l ≤ 17592186044416) (hbase : base ≤ w.heap.size)
  (h : ∀ v' w', w'.ownsRow base 51 1 v' l (cellsOf (ys ++ xs)) → w.grownBy w' v.ownBlock → wpList Tryz.prog ops Q rest (a.put o.dst v') w') : wpList Tryz.prog ops Q (o :: rest) a w := by
 subst hlm
 obtain ⟨i0, hi, hz0, hz1, hz2⟩ := info_parts Su
 have hl := hA.len
 cases A with
 | none =>
  have hm : m = 0 := by
   by_cases h0 : 0 < m
   ·obtain ⟨b, o, e, _⟩ := hA.mem h0; cases e
   ·omega
  subst hm
  obtain rfl : xs = [] := List.eq_nil_of_length_eq_zero hl
  refine wpList_plain hgd fun K hK => ?_
  unfold Oper.wp
  simp [execOp, ho, resolve, invoke, builtin, hs, hx, Wd hown c o.type, Result.andThen]
  exact hK _ _ (h v w (by simpa using hown) (Do w _))
 | some ad =>
  refine wpList_append_own w hgd s x 24 ho base 51 i0 (.int .u64 0) 1 8 Tryz.underlying24 hi hz0 hz1 hz2 rfl (by decide) v n (cellsOf ys) hs hown ad m c (cellsOf xs) hx (by simp [cellsOf, hl]) ?_ ?_ (by unfold maxLen; omega) (by omega) hbase ?_
  ·intro j u hu
   have hj : j < m := by
    have := (List.getElem?_eq_some_iff.1 hu).1
    rw [cellsOf, List.length_map, hl] at this; exact this
   obtain ⟨b, o, e, _, hc⟩ := hA.mem (by omega)
   cases e
   have e2 : (⟨b, o, none⟩ : Addr).add j = ⟨b, o + j, none⟩ := by unfold Addr.add; split <;> simp_all
   have := Kn xs j (by omega) []
   rw [List.append_nil] at this
   rw [e2, hc j hj, ← this, hu]
  ·intro u hu
   obtain ⟨x, _, rfl⟩ := List.mem_map.1 hu
   rfl
  ·intro v' w' h1 h2 _
   rw [← Km] at h1
   exact h v' w' h1 h2
theorem Dg {w : World} {base : Nat} {v : Value} {n : Nat} {xs : List Int} (h : w.ownsRow base 51 1 v n (cellsOf xs)) (hw : Wf xs) : ∃ A c, v = .slice A n c ∧ Own w base A n c xs := by
 have hl : xs.length = n := by have := h.1; simpa [cellsOf] using this
 rcases h.2 with ⟨rfl, rfl⟩ | ⟨g, cap, cur, rfl, hB, hh, h1, h2, hs, ht⟩
 ·obtain rfl : xs = [] := List.eq_nil_of_length_eq_zero hl
  exact ⟨none, 0, rfl, Own.nil w _ _ _ (by omega)⟩
 ·refine ⟨_, cap, rfl, hl, hw, h1, by unfold maxLen at h2; omega, fun hn => ⟨g, xs, rfl, hB, ⟨hw, cur.toList.drop (n * 1), ?_⟩, by omega, by rw [← hl, List.take_length]⟩⟩
  rw [hh, ← ht, List.take_append_drop]
theorem Hq (w : World) (base : Nat) : w.ownsRow base 51 1 (.slice none 0 0) 0 (cellsOf []) := World.ownsRow_nil w base _ _
theorem Mh {w : World} {base g : Nat} (hg : g = w.heap.size) (hb : base ≤ w.heap.size) : (w.alloc (.cells #[] 51)).ownsRow base 51 1 (.slice (some ⟨g, 0, none⟩) 0 0) 0 (cellsOf []) := by
 subst hg; exact World.ownsRow_lit w #[] 0 hb (by omega) (by simp)
theorem Cf {w w' : World} {r : Option Nat} {B : Nat} (h : w.grownBy w' r) (hB : B ≤ w.heap.size) (hr : ∀ k, r = some k → B ≤ k) : Below B w w' := (Below.refl _ _).grown h hB hr
theorem Bg5 (A : Option Addr) (n c : Nat) (xs : List Int) (w : World) (h : Arr w A n c xs) (hn : n ≤ 17592186044416) :
  Calls Tryz.prog 114 #[.slice A n c] w fun e w' => ∃ A' n' c', e = .returned (.slice A' n' c') ∧ Own w' w.heap.size A' n' c' (wd (val xs)) ∧ Below w.heap.size w w' := by
 have hlen := wd_len h.wf
 rw [h.len] at hlen
 have hx := h.trim
 have T := Be (trim A n c xs w h)
 go_enter Tryz.func114, Tryz.ntmps114
 go_wp2_with fail
 refine T.out.mono ?_; rintro e w' ⟨rfl, rfl⟩
 go_wp2_with (at_builtin; refine De rfl _ _ rfl w.heap.size _ 0 [] rfl (Hq w _) A _ c _ rfl hx _ (Nat.zero_add _) (by omega) (Nat.le_refl _) ?_)
 intro v' w' h1 h2
 obtain ⟨A2, c2, rfl, hO⟩ := Dg h1 hx.wf
 have hb := Cf h2 (Nat.le_refl _) (by intro k hk; cases hk)
 go_wp2
 go_ret
 exact ⟨A2, _, c2, rfl, hO, hb⟩
theorem Lz (A : Option Addr) (n c : Nat) (xs : List Int) (w : World) (h : Arr w A n c xs) (hn : n ≤ 17592186044416) :
  Calls Tryz.prog 106 #[.slice A n c] w fun e w' => ∃ A' n' c', e = .returned (.slice A' n' c') ∧ Own w' w.heap.size A' n' c' (wd (val xs)) ∧ Below w.heap.size w w' := by
 have hl := h.len
 have hcap := h.cap
 have hbig := h.big
 have HL := Be hl
 clear hl
 have fin : ∀ k, k ≤ n → wd (val xs) = xs.take k → Arr w A k c (xs.take k) := fun k hk _ => h.take k hk
 go_enter Tryz.func106, Tryz.ntmps106
 go_wp2
 go_loop [3] (fun v => ∃ k : Nat, k ≤ n ∧ v = .int .i64 k ∧ Hid (val (xs.take k) = val xs)) (fun v => (intOf v).toNat)
 case atStart => exact ⟨n, Nat.le_refl _, rfl, by show _ = _; rw [← HL.out, List.take_length]⟩
 case round =>
  obtain ⟨k, hk, rfl, hv⟩ := hrel
  by_cases h0 : 0 < k
  ·obtain ⟨b, o, rfl, hlt, hc⟩ := h.mem (by omega)
   have hcell := hc (k - 1) (by omega)
   clear hc
   go_wp2_with (at_builtin; refine De rfl _ _ rfl w.heap.size _ 0 [] rfl (Mh rfl (Nat.le_refl _)) _ k c (xs.take k) rfl ((h.take k hk).below (Ba (Bb w) _)) _ (Nat.zero_add _) (by omega) (by simp) ?_)
   ·have hz : (xs[k - 1]?.getD 0 == 0) = true := by assumption
    have hz' : xs[k - 1]?.getD 0 = 0 := by simpa using hz
    exact ⟨⟨k - 1, by omega, by go_num, trim_go h0 (by rw [HL.out]; exact hk) hz' hv.out⟩, by simp only [intOf]; omega⟩
   ·have hz : (xs[k - 1]?.getD 0 == 0) = false := by assumption
    have hz' : xs[k - 1]?.getD 0 ≠ 0 := by simpa using hz
    have e := trim_end h.wf h0 (by rw [HL.out]; exact hk) hz' hv.out
    intro v' w' h1 h2
    obtain ⟨A2, c2, rfl, hO⟩ := Dg h1 (h.wf.take k)
    have hb := (Ba (Bb w) (.cells #[] 51)).trans (Cf (B := w.heap.size) h2 (by simp) (by intro j hj; cases hj; exact Nat.le_refl _))
    have E := Be e
    clear e hz hz'
    go_wp2
    go_ret
    exact ⟨A2, _, c2, rfl, by rw [E.out]; exact hO, hb⟩
  ·obtain rfl : k = 0 := by omega
   have e : wd (val xs) = [] := by rw [← hv.out]; exact wd_zero (Int.le_refl _)
   have E := Be e
   clear e
   go_wp2_with (at_builtin; refine De rfl _ _ rfl w.heap.size _ 0 [] rfl (Mh rfl (Nat.le_refl _)) _ 0 c (xs.take 0) rfl ((h.take 0 hk).below (Ba (Bb w) _)) _ (Nat.zero_add _) (by omega) (by simp) ?_)
   intro v' w' h1 h2
   obtain ⟨A2, c2, rfl, hO⟩ := Dg h1 (h.wf.take 0)
   have hb := (Ba (Bb w) (.cells #[] 51)).trans (Cf (B := w.heap.size) h2 (by simp) (by intro j hj; cases hj; exact Nat.le_refl _))
   go_wp2
   go_ret
   exact ⟨A2, _, c2, rfl, by rw [E.out]; exact hO, hb⟩
theorem Bb0 {w w0 : World} {ops : Array Oper} {rest : List Oper} {o : Oper} {a : Act} {Q : Exit → Act → World → Prop} (hgd : o.guard = none) (d s : Operand)
  (ho : o.op = .call { callee := .builtin .copy, args := #[d, s], argTypes := #[24, 24] }) (g n c : Nat) (S : List Int) (A : Option Addr) (m c' : Nat) (xs : List Int)
  (hd : a.eval d = .slice (some ⟨g, 0, none⟩) n c) (hs : a.eval s = .slice A m c') (hr : Row w g S) (hn : S.length = n) (hA : Arr w A m c' xs) (hm : m ≤ n) (Bk : Nat) (hb : Below Bk w0 w) (hB : Bk ≤ g)
  (h : ∀ w', Row w' g (xs ++ S.drop m) → Below Bk w0 w' → wpList Tryz.prog ops Q rest (a.put o.dst (goInt m)) w') : wpList Tryz.prog ops Q (o :: rest) a w := by
 obtain ⟨i0, hi, hz0, hz1, hz2⟩ := info_parts Su
 obtain ⟨rest', hh⟩ := hr.heap
 have hl := hA.len
 have e : (cellsOf xs).length = m := by simp [cellsOf, hl]
 refine wpList_copy_splice hgd d s 24 24 ho 51 Tryz.underlying24 (by rw [hi]; simp [hz1]) _ _ n c m c' hd hs g 0 _ _ hh (cellsOf xs) (by rw [e]; exact (Nat.min_eq_left hm).symm) ?_ ?_ ?_ Bk w0 hb hB ?_
 ·intro hp
  refine ⟨rfl, ?_⟩
  obtain ⟨b, o, rfl, _, hc⟩ := hA.mem (by omega)
  refine ⟨_, rfl, fun j v hv => ?_⟩
  have hj : j < m := by
   have := (List.getElem?_eq_some_iff.1 hv).1
   omega
  have e2 : (⟨b, o, none⟩ : Addr).add j = ⟨b, o + j, none⟩ := by unfold Addr.add; split <;> simp_all
  have := Kn xs j (by omega) []
  rw [List.append_nil] at this
  rw [e2, hc j hj, ← this, hv]
 ·rw [List.length_append, e]; simp [cellsOf]; omega
 ·intro v hv
  obtain ⟨x, _, rfl⟩ := List.mem_map.1 hv
  rfl
 ·intro w' hw hb'
  rw [e]
  refine h w' ⟨wf_append.2 ⟨hA.wf, hr.wf.drop m⟩, rest', ?_⟩ hb'
  have := hw.out
  rw [this]
  unfold splice
  rw [e, Km]
  have e3 : (cellsOf S ++ rest').drop m = cellsOf (S.drop m) ++ rest' := by
   rw [List.drop_append_of_le_length (by simp [cellsOf]; omega)]
   simp [cellsOf, List.map_drop]
  simp [e3]
theorem Arr.blk_lt {w : World} {A : Option Addr} {n c : Nat} {xs : List Int} (h : Arr w A n c xs) : blk A n = none ∨ ∃ b, blk A n = some b ∧ b < w.heap.size := by
 by_cases h0 : 0 < n
 ·obtain ⟨b, o, rfl, hlt, _⟩ := h.mem h0
  exact .inr ⟨b, by unfold blk; rw [if_neg (by omega)]; rfl, hlt⟩
 ·exact .inl (by unfold blk; rw [if_pos (by omega)])
theorem Arr.apart {w : World} {A : Option Addr} {n c : Nat} {xs : List Int} (h : Arr w A n c xs) {g : Nat} (hg : w.heap.size ≤ g) : blk A n = none ∨ blk A n ≠ some g := by
 rcases h.blk_lt with h | ⟨b, e, hlt⟩
 ·exact .inl h
 ·refine .inr ?_; rw [e]; simp; omega
theorem Ur (xs : List Int) (k : Nat) : val (xs ++ List.replicate k (0 : Int)) = val xs := by
 rw [val_append, val_replicate, Int.mul_zero, Int.add_zero]
theorem Mn {xs ys : List Int} (h : Wf xs) (h' : Wf ys) : val xs + val ys < B ^ (max xs.length ys.length + 1) := by
 have h1 := val_lt h
 have h2 := val_lt h'
 have h3 := B_pow_le (a := xs.length) (b := max xs.length ys.length) (by omega)
 have h4 := B_pow_le (a := ys.length) (b := max xs.length ys.length) (by omega)
 have h5 := B_pow_pos (max xs.length ys.length)
 rw [Int.pow_succ]
 generalize B ^ (max xs.length ys.length) = p at *
 rw [B_eq]; omega
theorem add (A A' : Option Addr) (n c n' c' : Nat) (xs ys : List Int) (w : World) (h : Arr w A n c xs) (h' : Arr w A' n' c' ys) (hn : n ≤ 100000000) (hn' : n' ≤ 100000000) :
  Calls Tryz.prog 108 #[.slice A n c, .slice A' n' c'] w fun e w' => ∃ A2 n2 c2, e = .returned (.slice A2 n2 c2) ∧ Own w' w.heap.size A2 n2 c2 (wd (val xs + val ys)) ∧ Below w.heap.size w w' := by
 have hlt := Mn h.wf h'.wf
 rw [h.len, h'.len] at hlt
 have hnn : 0 ≤ val xs + val ys := by have := h.val_nonneg; have := h'.val_nonneg; omega
 have HV := Be (Int.emod_eq_of_lt hnn hlt)
 have e2 : max (n : Int) n' + 1 = ((max n n' + 1 : Nat) : Int) := by omega
 have hap := h'.apart (Nat.le_refl _)
 have hl := h.len
 clear hlt hnn
 go_enter Tryz.func108, Tryz.ntmps108
 go_wp2_with (at_make; refine Jc rfl _ _ rfl _ _ (max n n' + 1) rfl rfl ?m1 ?m2 ?m3 ?_)
 case m1 => omega
 case m2 => omega
 case m3 => omega
 intro g w1 hg hrow hb
 subst hg
 have hb' : Below w.heap.size w w1 := hb
 clear e2
 go_wp2_with (refine Bb0 rfl _ _ rfl w.heap.size (max n n' + 1) (max n n' + 1) _ A n c xs rfl rfl hrow ?m1 (h.below hb') ?m2 w.heap.size hb' (Nat.le_refl _) ?_)
 case m1 => simp
 case m2 => omega
 intro w2 hrow2 hb2
 have hz := Ur xs (max n n' + 1 - n)
 have hlen : (xs ++ List.replicate (max n n' + 1 - n) (0 : Int)).length = max n n' + 1 := by simp; omega
 generalize xs ++ List.replicate (max n n' + 1 - n) (0 : Int) = zs at *
 have HZ := Be hz
 clear hz hrow
 have hO := hrow2.own (n := max n n' + 1) (c := max n n' + 1) (Bk := w.heap.size) hlen (Nat.le_refl _) (by omega) (Nat.le_refl _)
 have hbk : blk (some ⟨w.heap.size, 0, none⟩) (max n n' + 1) = some w.heap.size := Gi (by omega)
 go_wp2_with fail
 refine (into _ A' _ _ n' c' _ ys 0 w2 w.heap.size hO (h'.below hb2) (by rw [hbk]; exact hap) (by omega) (by omega) (by omega)).mono ?_
 rintro r w3 ⟨rfl, zs', hO3, hv3, hg3⟩
 rw [hbk] at hg3
 have hb3 : Below w.heap.size w w3 := hb2.trans (Cf hg3 hb2.size (fun k hk => by cases hk; exact Nat.le_refl _))
 rw [HZ.out, Int.pow_zero, Int.one_mul, HV.out] at hv3
 have HV3 := Be hv3
 clear hv3
 go_wp2_with fail
 refine (trim _ _ _ _ _ hO3.arr).mono ?_
 rintro r w4 ⟨rfl, rfl⟩
 have hT := hO3.trim
 rw [HV3.out] at hT ⊢
 go_wp2
 go_ret
 exact ⟨_, _, _, rfl, hT, hb3⟩
def Ut (x y : Int) (w : World) (e : Ending) (w' : World) : Prop :=
 ∃ A n c, e = .returned (.tuple #[.slice A n c, .bool (decide (y ≤ x))]) ∧ Own w' w.heap.size A n c (wd (if y ≤ x then x - y else 0)) ∧ Below w.heap.size w w'
theorem sub (A A' : Option Addr) (n c n' c' : Nat) (xs ys : List Int) (w : World) (h : Arr w A n c xs) (h' : Arr w A' n' c' ys) (hn : n ≤ 100000000) (hn' : n' ≤ 100000000) :
  Calls Tryz.prog 109 #[.slice A n c, .slice A' n' c'] w (Ut (val xs) (val ys) w) := by
 have C := Be (Qp A A' n c n' c' xs ys w h h')
 by_cases hv : val ys ≤ val xs
 ·have hlt : val xs - val ys < B ^ n := by
   have h1 := val_lt h.wf
   have h2 := h'.val_nonneg
   rw [h.len] at h1; omega
  have HV := Be (Int.emod_eq_of_lt (show 0 ≤ val xs - val ys by omega) hlt)
  have hc : Cs (val xs) (val ys) = 0 ∨ Cs (val xs) (val ys) = 1 := by unfold Cs; rw [if_neg (by omega)]; split <;> simp
  have hd : decide (val ys ≤ val xs) = true := decide_eq_true hv
  have hap := h'.trim.apart (Nat.le_refl _)
  have T := Be (fun w' (hb : Below w.heap.size w w') => trim A' n' c' ys w' (h'.below hb))
  unfold Ut
  rw [if_pos hv, hd]
  clear hd
  generalize Cs (val xs) (val ys) = q at *
  have hq : decide (q < 0) = false := by simp; omega
  clear hlt hv
  have hwb := wd_len h'.wf
  rw [h'.len] at hwb
  have h'T := h'.trim
  generalize hY : wd (val ys) = Y at *
  have HY := Be hY
  clear hY
  go_enter Tryz.func109, Tryz.ntmps109
  go_wp2_with fail
  refine C.out.mono ?_; rintro r w0 ⟨rfl, hst⟩
  have hb0 := hst.below w.heap.size
  clear hst
  go_wp2_with (at_builtin; refine De rfl _ _ rfl w.heap.size _ 0 [] rfl (Hq w0 _) A n c xs rfl (h.below hb0) n ?m1 ?m2 hb0.size ?_)
  case m1 => omega
  case m2 => omega
  intro v' w1 hown hg
  obtain ⟨A1, c1, rfl, hO⟩ := Dg hown h.wf
  have hb1 : Below w.heap.size w w1 := hb0.trans (Cf hg hb0.size (by intro k hk; cases hk))
  go_wp2_with fail
  refine (T.out w1 hb1).mono ?_; rintro r w' ⟨rfl, rfl⟩
  have hd : blk A' Y.length = none ∨ blk A' Y.length ≠ blk A1 n := by
   rcases Nat.eq_zero_or_pos n with h0 | h0
   ·subst h0
    rcases h'T.blk_lt with hh | ⟨b, hh, _⟩
    ·exact .inl hh
    ·exact .inr (by rw [hh, Bcp]; simp)
   ·obtain ⟨g, S, rfl, hB, _⟩ := hO.row h0
    rw [Gi h0]
    exact h'T.apart hB
  have hgr : ∀ k, blk A1 n = some k → w.heap.size ≤ k := by
   intro k hk
   rcases Nat.eq_zero_or_pos n with h0 | h0
   ·subst h0; cases hk
   ·obtain ⟨g, S, rfl, hB, _⟩ := hO.row h0
    rw [Gi h0] at hk; cases hk; exact hB
  go_wp2_with fail
  refine (off A1 A' n c1 _ c' _ Y 0 w1 w.heap.size hO (h'T.below hb1) hd (by omega) (by omega) (by omega)).mono ?_
  rintro r w3 ⟨rfl, zs', hO3, hv3, hg3⟩
  have hb3 : Below w.heap.size w w3 := hb1.trans (Cf hg3 hb1.size hgr)
  rw [← HY.out, val_wd _ h'.val_nonneg, Int.pow_zero, Int.one_mul, HV.out] at hv3
  have HV3 := Be hv3
  clear hv3 hd hgr
  go_wp2_with fail
  refine (trim _ _ _ _ _ hO3.arr).mono ?_
  rintro r w4 ⟨rfl, rfl⟩
  have hT := hO3.trim
  rw [HV3.out] at hT ⊢
  go_wp2
  go_ret2
  exact ⟨_, _, _, rfl, hT, hb3⟩
 ·have hd : decide (val ys ≤ val xs) = false := decide_eq_false hv
  have hc : Cs (val xs) (val ys) = -1 := by unfold Cs; rw [if_pos (by omega)]
  unfold Ut
  rw [if_neg hv, hd]
  rw [hc] at C
  clear hc hd hv
  go_enter Tryz.func109, Tryz.ntmps109
  go_wp2_with fail
  refine C.out.mono ?_; rintro r w0 ⟨rfl, hst⟩
  have hb0 := hst.below w.heap.size
  clear hst
  go_wp2_with fail
  go_ret2
  exact ⟨_, _, _, rfl, by rw [wd_zero (Int.le_refl _)]; exact Own.nil _ _ _ _ (by omega), hb0⟩
end Go.Proofs.YteffemhapnbaeaaGreatDoor
