/- Walks and laws that the claim's row needs. No conditions. -/
import Derived.Test.YteffemhapnbaeaaGreatDoorQab
import Derived.Deep.RegionHeld3
import Derived.Test.YteffemhapnbaeaaGreatDoorQad
import Derived.Test.YteffemhapnbaeaaGreatDoorQah
import Derived.Test.YteffemhapnbaeaaGreatDoorQae
import Derived.Test.YteffemhapnbaeaaGreatDoorQai
import Derived.Test.YteffemhapnbaeaaGreatDoorQaj
set_option maxHeartbeats 16000000
set_option linter.unusedSimpArgs false
set_option linter.unusedVariables false
namespace Go.Proofs.YteffemhapnbaeaaGreatDoor
open Go.RowKit Num
set_option maxRecDepth 100000
def Fh (d : Dy) (L : Int) : Int := sgn d.neg (lev d.m d.e L)
def Ca (S L : Int) : Dy := if S = 0 then Dy.zero else ⟨decide (S < 0), oddI (S.natAbs : Int), L + tz (S.natAbs : Int)⟩
def Gv (neg : Bool) (v e : Int) : Dy := if v = 0 then Dy.zero else ⟨neg, oddI v, e + tz v⟩
theorem Lc (n : Bool) : sgn n 0 = 0 := by cases n <;> rfl
theorem Bca (L : Int) : Fh Dy.zero L = 0 := by
 show sgn false (lev 0 0 L) = 0
 rw [Jl]; rfl
theorem Ra {d : Dy} (h : d.m = 0) (L : Int) : Fh d L = 0 := by
 unfold Fh; rw [h, Jl, Lc]
theorem Bcu (S L : Int) : Fh (Ca S L) L = S := by
 unfold Ca
 by_cases h : S = 0
 ·rw [if_pos h, Bca, h]
 ·rw [if_neg h]
  unfold Fh lev
  have hp : (0 : Int) < (S.natAbs : Int) := by omega
  have e1 : (L + (tz (S.natAbs : Int) : Int) - L).toNat = tz (S.natAbs : Int) := by omega
  show sgn (decide (S < 0)) (oddI (S.natAbs : Int) * pw (L + (tz (S.natAbs : Int) : Int) - L).toNat) = S
  rw [e1, Int.mul_comm, ← (odd_split hp).1]
  unfold sgn
  by_cases hs : S < 0
  ·rw [decide_eq_true hs]; simp only [if_true]; omega
  ·rw [decide_eq_false hs]; simp only [Bool.false_eq_true, if_false]; omega
theorem Sn (S L : Int) (k : Nat) : Ca (S * pw k) L = Ca S (L + k) := by
 unfold Ca
 by_cases h : S = 0
 ·subst h; simp
 ·have hp : (0 : Int) < (S.natAbs : Int) := by omega
  have hk := pw_pos k
  have hne : S * pw k ≠ 0 := Int.mul_ne_zero h (by omega)
  rw [if_neg hne, if_neg h]
  have ea : ((S * pw k).natAbs : Int) = pw k * (S.natAbs : Int) := by
   rw [Int.natAbs_mul, Int.natCast_mul, Int.mul_comm]
   have : ((pw k).natAbs : Int) = pw k := by omega
   rw [this]
  have hs := odd_split hp
  have hh := odd_of_split (v := pw k * (S.natAbs : Int)) (u := oddI (S.natAbs : Int)) (a := k + tz (S.natAbs : Int)) (by rw [pw_add, Int.mul_assoc, ← hs.1]) hs.2.1 (by omega)
  rw [ea, hh.1, hh.2]
  have hd : decide (S * pw k < 0) = decide (S < 0) := by
   by_cases hn : S < 0
   ·rw [decide_eq_true hn, decide_eq_true (Int.mul_neg_of_neg_of_pos hn hk)]
   ·have := Int.mul_nonneg (show 0 ≤ S by omega) (Int.le_of_lt hk)
    rw [decide_eq_false hn, decide_eq_false (by omega)]
  rw [hd]
  congr 1
  omega
theorem Kl (S : Int) {L g : Int} (h : L ≤ g) : Ca (S * pw (g - L).toNat) L = Ca S g := by
 rw [Sn]
 congr 1
 omega
theorem Dr (neg : Bool) {v : Int} (hv : 0 ≤ v) (g : Int) : Gv neg v g = Ca (sgn neg v) g := by
 unfold Gv Ca
 by_cases h : v = 0
 ·subst h
  rw [if_pos rfl, if_pos (Lc neg)]
 ·rw [if_neg h]
  cases neg
  ·show _ = if v = 0 then _ else _
   rw [if_neg h]
   have e1 : ((sgn false v).natAbs : Int) = v := by show ((v).natAbs : Int) = v; omega
   have e2 : decide (sgn false v < 0) = false := decide_eq_false (by show ¬ v < 0; omega)
   rw [e1, e2]
  ·show _ = if -v = 0 then _ else _
   rw [if_neg (by omega)]
   have e1 : ((sgn true v).natAbs : Int) = v := by show ((-v).natAbs : Int) = v; omega
   have e2 : decide (sgn true v < 0) = true := decide_eq_true (by show -v < 0; omega)
   rw [e1, e2]
theorem Bct (S L : Int) : 0 ≤ (Ca S L).m := by
 unfold Ca
 split
 ·exact Int.le_refl _
 ·exact oddI_nonneg (by omega)
theorem Yp {S L : Int} (h : S ≠ 0) : L ≤ (Ca S L).e ∧ (Ca S L).e = L + tz (S.natAbs : Int) ∧ (Ca S L).m = oddI (S.natAbs : Int) := by
 unfold Ca
 rw [if_neg h]
 exact ⟨by simp only; omega, rfl, rfl⟩
def Ch (x y e f : Int) : Int := if x = 0 then f else if y = 0 then e else min e f
def Hh (a b : Dy) : Dy := Ca (Fh a (Ch a.m b.m a.e b.e) + Fh b (Ch a.m b.m a.e b.e)) (Ch a.m b.m a.e b.e)
theorem Gy (d : Dy) {L g : Int} (h : L ≤ g) (hd : d.m = 0 ∨ g ≤ d.e) : Fh d L = Fh d g * pw (g - L).toNat := by
 rcases hd with hz | hd
 ·rw [Ra hz, Ra hz, Int.zero_mul]
 ·unfold Fh
  rw [Sw h hd, Se]
theorem Bep (a b : Dy) : (a.m = 0 ∨ Ch a.m b.m a.e b.e ≤ a.e) ∧ (b.m = 0 ∨ Ch a.m b.m a.e b.e ≤ b.e) := by
 unfold Ch
 by_cases h : a.m = 0
 ·rw [if_pos h]; exact ⟨.inl h, .inr (Int.le_refl _)⟩
 ·rw [if_neg h]
  by_cases h2 : b.m = 0
  ·rw [if_pos h2]; exact ⟨.inr (Int.le_refl _), .inl h2⟩
  ·rw [if_neg h2]; exact ⟨.inr (by omega), .inr (by omega)⟩
theorem Si (a b : Dy) (L : Int) (ha : a.m = 0 ∨ L ≤ a.e) (hb : b.m = 0 ∨ L ≤ b.e) : Hh a b = Ca (Fh a L + Fh b L) L := by
 unfold Hh
 obtain ⟨s1, s2⟩ := Bep a b
 by_cases h1 : a.m = 0
 ·by_cases h2 : b.m = 0
  ·rw [Ra h1, Ra h2, Ra h1, Ra h2]; rfl
  ·have hg : Ch a.m b.m a.e b.e = b.e := by unfold Ch; rw [if_pos h1]
   rw [hg] at s1 s2 ⊢
   have hL := hb.resolve_left h2
   rw [Gy a hL s1, Gy b hL s2, ← Int.add_mul, Kl _ hL]
 ·have hL : L ≤ Ch a.m b.m a.e b.e := by
   have := ha.resolve_left h1
   unfold Ch
   rw [if_neg h1]
   by_cases h2 : b.m = 0
   ·rw [if_pos h2]; exact this
   ·rw [if_neg h2]
    have := hb.resolve_left h2
    omega
  rw [Gy a hL s1, Gy b hL s2, ← Int.add_mul, Kl _ hL]
theorem Sj {p q : Bool} {x y : Int} (g : Int) (hx : 0 ≤ x) (hy : 0 ≤ y) (hp : x = 0 → p = false) (h : x = 0 ∨ y = 0 ∨ p = q) : Gv (p || (decide (x = 0) && q)) (x + y) g = Ca (sgn p x + sgn q y) g := by
 rw [Dr _ (by omega)]
 congr 1
 by_cases h0 : x = 0
 ·subst h0
  rw [hp rfl]
  simp [Lc]
 ·rw [decide_eq_false h0, Bool.false_and, Bool.or_false]
  rcases h with h | h | h
  ·exact absurd h h0
  ·subst h; simp [Lc]
  ·subst h; cases p <;> simp [sgn] <;> omega
theorem Bb2 {p q : Bool} {x y : Int} (g : Int) (h : p ≠ q) : (y ≤ x → Gv p (x - y) g = Ca (sgn p x + sgn q y) g) ∧ (x ≤ y → Gv q (y - x) g = Ca (sgn p x + sgn q y) g) := by
 constructor
 ·intro hh
  rw [Dr _ (by omega)]
  congr 1
  cases p <;> cases q <;> simp [sgn] at h ⊢ <;> omega
 ·intro hh
  rw [Dr _ (by omega)]
  congr 1
  cases p <;> cases q <;> simp [sgn] at h ⊢ <;> omega
theorem Bff (S : Int) {L : Int} (h0 : -262144 ≤ L) (h1 : L ≤ 262144) :
  mkD (decide (S < 0)) (S.natAbs : Int) L = if Bq (Ca S L).neg (wd (Ca S L).m) (Ca S L).e then some (Ca S L) else none := by
 unfold mkD Ca
 by_cases h : S = 0
 ·subst h
  rw [if_pos (by rfl), if_pos rfl]
  show some Dy.zero = if Bq false (wd 0) 0 then some Dy.zero else none
  rw [wd_zero (Int.le_refl _)]; rfl
 ·have hp : (0 : Int) < (S.natAbs : Int) := by omega
  have ho := odd_split hp
  rw [if_neg (by omega), if_neg (by omega), if_neg h, Gq ho.2.2]
  by_cases hh : (wd (oddI (S.natAbs : Int))).length ≤ 256 ∧ L + (tz (S.natAbs : Int) : Int) ≤ 262144
  ·rw [if_pos hh, if_pos (by simp only [Bool.and_eq_true, decide_eq_true_eq]; exact ⟨⟨⟨ho.2.1, hh.1⟩, by omega⟩, hh.2⟩)]
  ·rw [if_neg hh, if_neg (by simp only [Bool.and_eq_true, decide_eq_true_eq]; omega)]
def RetE (x y g : Int) (w : World) (r : Ending) (w' : World) : Prop :=
 ∃ A1 n1 c1 A2 n2 c2, r = .returned (.tuple #[.slice A1 n1 c1, .slice A2 n2 c2, .int .i64 g]) ∧ Arr w' A1 n1 c1 (wd x) ∧ Arr w' A2 n2 c2 (wd y) ∧ Below w.heap.size w w'
theorem Kf (y e f : Int) : lev 0 e (Ch 0 y e f) = 0 ∧ lev y f (Ch 0 y e f) = y ∧ Ch 0 y e f = f := by
 have : Ch 0 y e f = f := by unfold Ch; rw [if_pos rfl]
 rw [this]; exact ⟨Jl _ _, Mw _ _, rfl⟩
theorem Jq {x : Int} (hx : x ≠ 0) (e f : Int) : lev x e (Ch x 0 e f) = x ∧ lev 0 f (Ch x 0 e f) = 0 ∧ Ch x 0 e f = e := by
 have : Ch x 0 e f = e := by unfold Ch; rw [if_neg hx, if_pos rfl]
 rw [this]; exact ⟨Mw _ _, Jl _ _, rfl⟩
theorem Beh (p q : Bool) (A A' : Option Addr) (n c n' c' : Nat) (x y e f : Int) (w : World) (h : Arr w A n c (wd x)) (h' : Arr w A' n' c' (wd y)) (hx : 0 ≤ x) (hy : 0 ≤ y) (hn : n ≤ 1000000) (hn' : n' ≤ 1000000)
  (_he0 : -10000000 ≤ e) (_he1 : e ≤ 10000000) (_hf0 : -10000000 ≤ f) (_hf1 : f ≤ 10000000) (hd : x = 0 ∨ y = 0 ∨ (e - f ≤ 1048576 ∧ f - e ≤ 1048576)) :
  Calls Tryz.prog 95 #[.agg #[.bool p, .slice A n c, .int .i64 e], .agg #[.bool q, .slice A' n' c', .int .i64 f]] w (RetE (lev x e (Ch x y e f)) (lev y f (Ch x y e f)) (Ch x y e f) w) := by
 have b1 : Below w.heap.size w ((w.alloc (.cells #[.bool p, .slice A n c, .int .i64 e] 26)).alloc (.cells #[.bool q, .slice A' n' c', .int .i64 f] 26)) := Ba (Ba (Bb w) _) _
 have bx := (Bg w #[.bool p, .slice A n c, .int .i64 e] 26).later (Ba (Bb _) (.cells #[.bool q, .slice A' n' c', .int .i64 f] 26))
 have bz := Bg (w.alloc (.cells #[.bool p, .slice A n c, .int .i64 e] 26)) #[.bool q, .slice A' n' c', .int .i64 f] 26
 rw [show (w.alloc (.cells #[.bool p, .slice A n c, .int .i64 e] 26)).heap.size = w.heap.size + 1 by simp] at bz
 obtain ⟨k0, k1, k2, f0, f1, f2⟩ := bx.cell3
 obtain ⟨j0, j1, j2, g0, g1, g2⟩ := bz.cell3
 have H := h.below b1
 have H' := h'.below b1
 by_cases hx0 : x = 0
 ·subst hx0
  have hn0 : n = 0 := by have := h.len; rw [wd_zero (Int.le_refl _)] at this; exact this.symm
  subst hn0
  obtain ⟨e1, e2, e3⟩ := Kf y e f
  rw [e1, e2, e3]
  clear e1 e2 e3
  go_enter Tryz.func95, Tryz.ntmps95
  go_wp2_with fail
  go_quiet (fail)
  go_wp2_with fail
  refine bodyPost_ret (v := .tuple #[.slice none 0 0, .slice A' n' c', .int .i64 f]) (by simp [results, Tryz.results95, go_sem]) rfl ?_
  exact ⟨none, 0, 0, A', n', c', rfl, by rw [wd_zero (Int.le_refl _)]; exact Arr.nothing _, h'.below ((by repeat with_reducible (first | assumption | exact Bb _ | refine Bd ?_ _ | apply Below.drew | refine Ba ?_ _))), (by repeat with_reducible (first | assumption | exact Bb _ | refine Bd ?_ _ | apply Below.drew | refine Ba ?_ _))⟩
 ·have hn0 : n ≠ 0 := by
   have := h.len
   have hh := wd_ne_nil (n := x) (by omega)
   intro hz
   rw [hz] at this
   exact hh (List.length_eq_zero_iff.1 this)
  have d1 : ((n : Int) == 0) = false := beq_eq_false_iff_ne.2 (by omega)
  by_cases hy0 : y = 0
  ·subst hy0
   have hm0 : n' = 0 := by have := h'.len; rw [wd_zero (Int.le_refl _)] at this; exact this.symm
   subst hm0
   obtain ⟨e1, e2, e3⟩ := Jq hx0 e f
   rw [e1, e2, e3]
   clear e1 e2 e3
   go_enter Tryz.func95, Tryz.ntmps95
   go_wp2_with fail
   go_quiet (fail)
   go_wp2_with fail
   refine bodyPost_ret (v := .tuple #[.slice A n c, .slice none 0 0, .int .i64 e]) (by simp [results, Tryz.results95, go_sem]) rfl ?_
   exact ⟨A, n, c, none, 0, 0, rfl, h.below ((by repeat with_reducible (first | assumption | exact Bb _ | refine Bd ?_ _ | apply Below.drew | refine Ba ?_ _))), by rw [wd_zero (Int.le_refl _)]; exact Arr.nothing _, (by repeat with_reducible (first | assumption | exact Bb _ | refine Bd ?_ _ | apply Below.drew | refine Ba ?_ _))⟩
  ·have hm0 : n' ≠ 0 := by
    have := h'.len
    have hh := wd_ne_nil (n := y) (by omega)
    intro hz
    rw [hz] at this
    exact hh (List.length_eq_zero_iff.1 this)
   have d2 : ((n' : Int) == 0) = false := beq_eq_false_iff_ne.2 (by omega)
   have e3 : Ch x y e f = min e f := by unfold Ch; rw [if_neg hx0, if_neg hy0]
   rw [e3]
   have hd' := (hd.resolve_left hx0).resolve_left hy0
   have vx := val_wd x hx
   have vy := val_wd y hy
   have SX : ∀ (w1 : World) (hb : Below ((w.alloc (.cells #[.bool p, .slice A n c, .int .i64 e] 26)).alloc (.cells #[.bool q, .slice A' n' c', .int .i64 f] 26)).heap.size ((w.alloc (.cells #[.bool p, .slice A n c, .int .i64 e] 26)).alloc (.cells #[.bool q, .slice A' n' c', .int .i64 f] 26)) w1), Calls Tryz.prog 105 #[.slice A n c, .int .i64 (e - min e f)] w1 fun r w5 => ∃ A5 n5 c5, r = .returned (.slice A5 n5 c5) ∧ Arr w5 A5 n5 c5 (wd (lev x e (min e f))) ∧ Below ((w.alloc (.cells #[.bool p, .slice A n c, .int .i64 e] 26)).alloc (.cells #[.bool q, .slice A' n' c', .int .i64 f] 26)).heap.size ((w.alloc (.cells #[.bool p, .slice A n c, .int .i64 e] 26)).alloc (.cells #[.bool q, .slice A' n' c', .int .i64 f] 26)) w5 ∧ Below w1.heap.size w1 w5 := by
    intro w1 hb
    have S := Bc4 A n c _ (e - min e f) w1 (H.below hb) (by omega) (by omega) (by omega)
    rw [Dm (by omega) (by omega), vx] at S
    refine S.mono ?_
    rintro r w5 ⟨A5, n5, c5, rfl, ha, hb5⟩
    exact ⟨A5, n5, c5, rfl, ha, Bc hb hb5, hb5⟩
   have SY : ∀ (w1 : World) (hb : Below ((w.alloc (.cells #[.bool p, .slice A n c, .int .i64 e] 26)).alloc (.cells #[.bool q, .slice A' n' c', .int .i64 f] 26)).heap.size ((w.alloc (.cells #[.bool p, .slice A n c, .int .i64 e] 26)).alloc (.cells #[.bool q, .slice A' n' c', .int .i64 f] 26)) w1), Calls Tryz.prog 105 #[.slice A' n' c', .int .i64 (f - min e f)] w1 fun r w5 => ∃ A5 n5 c5, r = .returned (.slice A5 n5 c5) ∧ Arr w5 A5 n5 c5 (wd (lev y f (min e f))) ∧ Below ((w.alloc (.cells #[.bool p, .slice A n c, .int .i64 e] 26)).alloc (.cells #[.bool q, .slice A' n' c', .int .i64 f] 26)).heap.size ((w.alloc (.cells #[.bool p, .slice A n c, .int .i64 e] 26)).alloc (.cells #[.bool q, .slice A' n' c', .int .i64 f] 26)) w5 ∧ Below w1.heap.size w1 w5 := by
    intro w1 hb
    have S := Bc4 A' n' c' _ (f - min e f) w1 (H'.below hb) (by omega) (by omega) (by omega)
    rw [Dm (by omega) (by omega), vy] at S
    refine S.mono ?_
    rintro r w5 ⟨A5, n5, c5, rfl, ha, hb5⟩
    exact ⟨A5, n5, c5, rfl, ha, Bc hb hb5, hb5⟩
   have SX := Be SX
   have SY := Be SY
   have W1 : IntKind.i64.wrap (e - min e f) = e - min e f := by rw [IntKind.wrap_i64]; omega
   have W2 : IntKind.i64.wrap (f - min e f) = f - min e f := by rw [IntKind.wrap_i64]; omega
   have KC : ∀ w', Below ((w.alloc (.cells #[.bool p, .slice A n c, .int .i64 e] 26)).alloc (.cells #[.bool q, .slice A' n' c', .int .i64 f] 26)).heap.size ((w.alloc (.cells #[.bool p, .slice A n c, .int .i64 e] 26)).alloc (.cells #[.bool q, .slice A' n' c', .int .i64 f] 26)) w' → ((w'.cell? ⟨w.heap.size, 0, none⟩ = some (.bool p) ∧ w'.cell? ⟨w.heap.size, 1, none⟩ = some (.slice A n c) ∧ w'.cell? ⟨w.heap.size, 2, none⟩ = some (.int .i64 e)) ∧ (w'.cell? ⟨w.heap.size + 1, 0, none⟩ = some (.bool q) ∧ w'.cell? ⟨w.heap.size + 1, 1, none⟩ = some (.slice A' n' c') ∧ w'.cell? ⟨w.heap.size + 1, 2, none⟩ = some (.int .i64 f))) := fun w' hb => ⟨⟨(bx.later hb).cell 0, (bx.later hb).cell 1, (bx.later hb).cell 2⟩, ⟨(bz.later hb).cell 0, (bz.later hb).cell 1, (bz.later hb).cell 2⟩⟩
   have KC := Be KC
   clear bx bz h h' H H' vx vy hd hd' e3
   generalize lev x e (min e f) = lx at *
   generalize lev y f (min e f) = ly at *
   go_enter Tryz.func95, Tryz.ntmps95
   go_wp2_with fail
   generalize ((w.alloc (.cells #[.bool p, .slice A n c, .int .i64 e] 26)).alloc (.cells #[.bool q, .slice A' n' c', .int .i64 f] 26)) = W at *
   generalize min e f = g at *
   go_region_held3 (fun w' => ((w'.cell? ⟨w.heap.size, 0, none⟩ = some (.bool p) ∧ w'.cell? ⟨w.heap.size, 1, none⟩ = some (.slice A n c) ∧ w'.cell? ⟨w.heap.size, 2, none⟩ = some (.int .i64 e)) ∧ (w'.cell? ⟨w.heap.size + 1, 0, none⟩ = some (.bool q) ∧ w'.cell? ⟨w.heap.size + 1, 1, none⟩ = some (.slice A' n' c') ∧ w'.cell? ⟨w.heap.size + 1, 2, none⟩ = some (.int .i64 f)))) (first | exact KC.out _ ((by repeat with_reducible (first | assumption | exact Bb _ | refine Bd ?_ _ | apply Below.drew | refine Ba ?_ _)))) (first | (go_at_call_of 105 (Value.slice A n c); refine (SX.out _ ?_).mono ?_; (repeat with_reducible (first | assumption | exact Bb _ | refine Bd ?_ _ | apply Below.drew | refine Ba ?_ _)); rintro r w5 ⟨A5, n5, c5, rfl, hA5, hb5, hc5⟩) | (go_at_call_of 105 (Value.slice A' n' c'); refine (SY.out _ ?_).mono ?_; (repeat with_reducible (first | assumption | exact Bb _ | refine Bd ?_ _ | apply Below.drew | refine Ba ?_ _)); rintro r w6 ⟨A6, n6, c6, rfl, hA6, hb6, hc6⟩))
   go_wp2_with fail
   refine bodyPost_ret (v := .tuple #[.slice A5 n5 c5, .slice A6 n6 c6, .int .i64 g]) (by simp [results, Tryz.results95, go_sem]) rfl ?_
   exact ⟨A5, n5, c5, A6, n6, c6, rfl, (hA5.below hc6).below ((by repeat with_reducible (first | assumption | exact Bb _ | refine Bd ?_ _ | apply Below.drew | refine Ba ?_ _))), hA6.below ((by repeat with_reducible (first | assumption | exact Bb _ | refine Bd ?_ _ | apply Below.drew | refine Ba ?_ _))), Bc b1 ((by repeat with_reducible (first | assumption | exact Bb _ | refine Bd ?_ _ | apply Below.drew | refine Ba ?_ _)))⟩
theorem Bcs (S L : Int) {M : Int} (h : M ≤ L) : (Ca S L).m = 0 ∨ M ≤ (Ca S L).e := by
 by_cases h0 : S = 0
 ·exact .inl (by unfold Ca; rw [if_pos h0]; rfl)
 ·exact .inr (Int.le_trans h (Yp h0).1)
theorem Yc (S L : Int) {M : Int} (h : M ≤ L) : Fh (Ca S L) M = S * pw (L - M).toNat := by
 rw [Gy _ h (Bcs S L (Int.le_refl _)), Bcu]
theorem Bf5 (S T L : Int) : Hf (Ca S L) (Ca T L) = Cs S T := by
 have h : Hf (Ca S L) (Ca T L) = Cs (Fh (Ca S L) (min (Ca S L).e (Ca T L).e)) (Fh (Ca T L) (min (Ca S L).e (Ca T L).e)) := rfl
 rw [h]
 generalize hg : min (Ca S L).e (Ca T L).e = g
 have e1 := Gy (Ca S L) (L := min g L) (g := g) (by omega) (.inr (by omega))
 have e2 := Gy (Ca T L) (L := min g L) (g := g) (by omega) (.inr (by omega))
 have e3 := Yc S L (M := min g L) (by omega)
 have e4 := Yc T L (M := min g L) (by omega)
 rw [← Hn (pw_pos (g - min g L).toNat), ← e1, ← e2, e3, e4, Hn (pw_pos _)]
theorem Bf4 {x y : Int} (h : x ≤ y) : Cs x y ≤ 0 := by unfold Cs; repeat' split <;> omega
theorem Bbu {neg : Bool} {xs : List Int} {e : Int} (hw : Wf xs) (h : Bq neg xs e = true) : (⟨neg, val xs, e⟩ : Dy) = Ca (sgn neg (val xs)) e := by
 obtain ⟨pd, -, wx, v⟩ := Bm hw h
 rw [← Dr neg (val_nonneg hw) e]
 unfold Gv
 by_cases h0 : val xs = 0
 ·obtain ⟨ze, zn⟩ := pd.z h0
  simp only at ze zn
  rw [if_pos h0, h0, ze, zn]; rfl
 ·have hl : 0 < xs.length := by
   rcases xs with _ | ⟨x, t⟩
   ·exact absurd rfl h0
   ·simp
  obtain ⟨hp, ho⟩ := v hl
  obtain ⟨t1, t2⟩ := odd_of_split (v := val xs) (u := val xs) (a := 0) (by show val xs = 1 * val xs; omega) ho (by omega)
  rw [if_neg h0, t1, t2]
  simp
theorem Mx {neg : Bool} {v e : Int} (hv : 0 ≤ v) {d : Dy} (h : mkD neg v e = some d) : Bq d.neg (wd d.m) d.e = true ∧ 0 ≤ d.m := by
 unfold mkD at h
 by_cases h0 : v = 0
 ·rw [if_pos h0] at h
  obtain rfl := Option.some.inj h
  refine ⟨?_, Int.le_refl _⟩
  show Bq false (wd 0) 0 = true
  rw [wd_zero (Int.le_refl _)]; rfl
 ·have hp : 0 < v := by omega
  rw [if_neg h0] at h
  split at h
  ·cases h
  ·rename_i h1
   split at h
   ·rename_i h2
    obtain rfl := Option.some.inj h
    have ho := (odd_split hp).2.1
    simp only
    refine ⟨?_, oddI_nonneg hv⟩
    rw [Gq (oddI_pos hp)]
    simp only [Bool.and_eq_true, decide_eq_true_eq]
    exact ⟨⟨⟨ho, h2.1⟩, by omega⟩, h2.2⟩
   ·cases h
theorem My {v : Int} (hv : 0 ≤ v) : oddI v ≤ v := by
 unfold oddI
 exact Int.ediv_le_self _ hv
theorem Vy {x y : Int} (h0 : 0 ≤ x) (h : x ≤ y) : (wd x).length ≤ (wd y).length :=
 wd_length_le h0 (Int.lt_of_le_of_lt h (lt_pow_of_wd_length (by omega) (Nat.le_refl _)))
theorem Xa (neg : Bool) {v e : Int} (hv : 0 ≤ v) (hl : (wd v).length ≤ 256) (h0 : -200000 ≤ e) (h1 : e ≤ 200000) : mkD neg v e = some (Ca (sgn neg v) e) := by
 rw [← Dr neg hv e]
 unfold mkD Gv
 by_cases hz : v = 0
 ·rw [if_pos hz, if_pos hz]
 ·have hp : 0 < v := by omega
  have ht := tz_lt (wf_wd v hv) (by rw [val_wd v hv]; exact hp)
  rw [val_wd v hv] at ht
  have hm := Vy (oddI_nonneg hv) (My hv)
  rw [if_neg hz, if_neg hz, if_neg (by omega), if_pos ⟨by omega, by omega⟩]
def Lr (p q : Bool) (xs ys : List Int) (e f : Int) : Option Dy := if Bq p xs e && Bq q ys f then mkD (p != q) (val xs * val ys) (e + f) else none
def Kp (neg : Bool) (v : Int) (rest : Bool) (p : Int) (up : Bool) : Int := if Yr v (bl v - p) rest && (neg != up) then Mg v (bl v - p) + 1 else Mg v (bl v - p)
def Jj (v p : Int) : Nat := (bl v - p).toNat
theorem Uw (neg : Bool) (v e : Int) (rest : Bool) (p : Int) (up : Bool) : Ji neg v e rest p up = mkD neg (Kp neg v rest p up) (e + Jj v p) := by
 unfold Ji Kp Jj
 congr 1
 split <;> omega
theorem Wj {v : Int} (hv : 0 ≤ v) (k : Int) : Mg v k * pw k.toNat ≤ v ∧ v + 1 ≤ (Mg v k + 1) * pw k.toNat ∧ 0 ≤ Mg v k := by
 unfold Mg
 by_cases h : 0 < k
 ·rw [if_pos h]
  have hp := pw_pos k.toNat
  exact ⟨Int.ediv_mul_le _ (Int.ne_of_gt hp), Int.lt_ediv_add_one_mul_self v hp, Int.ediv_nonneg hv (Int.le_of_lt hp)⟩
 ·rw [if_neg h, show k.toNat = 0 by omega]
  show v * 1 ≤ v ∧ v + 1 ≤ (v + 1) * 1 ∧ 0 ≤ v
  omega
theorem Biz {v : Int} (hv : 0 ≤ v) : v < pw (bl v).toNat := by
 by_cases h : v = 0
 ·subst h; rw [Rp]; decide
 ·obtain ⟨a, e, h1, h2⟩ := Gz (v := v) (by omega)
  rw [e, show ((a : Int) + 1).toNat = a + 1 by omega]; exact h2
theorem Bbf {neg up : Bool} {v : Int} (hv : 0 ≤ v) (rest : Bool) {p : Int} (hp : 1 ≤ p) : 0 ≤ Kp neg v rest p up ∧ Kp neg v rest p up ≤ pw p.toNat := by
 have h3 := (Wj hv (bl v - p)).2.2
 have hb := Biz hv
 have hlt : Mg v (bl v - p) < pw p.toNat := by
  unfold Mg
  by_cases hk : 0 < bl v - p
  ·rw [if_pos hk]
   refine Int.ediv_lt_of_lt_mul (pw_pos _) ?_
   show v < pw p.toNat * pw (bl v - p).toNat
   rw [← pw_add, show p.toNat + (bl v - p).toNat = (bl v).toNat by omega]; exact hb
  ·rw [if_neg hk]
   exact Int.lt_of_lt_of_le hb (pw_le (by omega))
 unfold Kp
 split <;> omega
theorem Bjl {x : Int} (h0 : 0 ≤ x) {P : Int} (hP : P ≤ 600) (h : x ≤ pw P.toNat) : (wd x).length ≤ 10 := by
 refine wd_length_le h0 ?_
 rw [B_pow_pw]
 exact Int.lt_of_le_of_lt h (pw_lt_iff.2 (by omega))
theorem Bgq (neg : Bool) {v e : Int} (hv : 0 ≤ v) (rest : Bool) {P : Int} (up : Bool) (h1 : 1 ≤ P) (h2 : P ≤ 600) (hb : bl v ≤ 30000) (e0 : -50000 ≤ e) (e1 : e ≤ 50000) :
  Ji neg v e rest P up = some (Ca (sgn neg (Kp neg v rest P up) * pw (Jj v P)) e) ∧ (Ca (sgn neg (Kp neg v rest P up) * pw (Jj v P)) e).m ≤ pw 600 ∧ -50000 ≤ (Ca (sgn neg (Kp neg v rest P up) * pw (Jj v P)) e).e ∧ (Ca (sgn neg (Kp neg v rest P up) * pw (Jj v P)) e).e ≤ 100000 := by
 obtain ⟨n0, n1⟩ := Bbf (neg := neg) (up := up) hv rest h1
 have hk : (Jj v P : Int) ≤ 30000 := by unfold Jj; have := Df v; omega
 have hw10 := Bjl n0 h2 n1
 rw [Uw, Xa neg n0 (by omega) (by omega) (by omega), Sn, ← Dr neg n0]
 refine ⟨rfl, ?_⟩
 have hle : Kp neg v rest P up ≤ pw 600 := Int.le_trans n1 (pw_le (by omega))
 unfold Gv
 split
 ·exact ⟨Int.le_of_lt (pw_pos _), by show (-50000 : Int) ≤ 0; omega, by show (0 : Int) ≤ 100000; omega⟩
 ·rename_i hz
  have ht := tz_lt (wf_wd _ n0) (by rw [val_wd _ n0]; omega)
  rw [val_wd _ n0] at ht
  exact ⟨Int.le_trans (My n0) hle, by simp only; omega, by simp only; omega⟩
theorem Bcx {p : Bool} {x y e f : Int} (ha : PD ⟨p, x, e⟩) : Hf ⟨p, x, e⟩ ⟨p, y, f⟩ = (if p then -1 else 1) * Cs (lev x e (Ch x y e f)) (lev y f (Ch x y e f)) := by
 by_cases hx : x = 0
 ·subst hx
  obtain ⟨e1, e2, -⟩ := Kf y e f
  rw [e1, e2]
  exact Lt (a := ⟨p, 0, e⟩) (b := ⟨p, y, f⟩) rfl ha rfl
 ·by_cases hy : y = 0
  ·subst hy
   obtain ⟨e1, e2, -⟩ := Jq hx e f
   rw [e1, e2]
   exact Ko (a := ⟨p, x, e⟩) (b := ⟨p, 0, f⟩) rfl rfl
  ·have e3 : Ch x y e f = min e f := by unfold Ch; rw [if_neg hx, if_neg hy]
   rw [e3, ← Ke]; rfl
theorem Ba4 {x e L : Int} (hx : 0 ≤ x) {k j : Nat} (h : (wd x).length ≤ k) (hj : e - L ≤ 64 * (j : Int)) : (wd (lev x e L)).length ≤ k + j := by
 refine wd_length_le (Dz hx e L) ?_
 unfold lev
 have h1 := lt_pow_of_wd_length hx h
 have h2 : x * pw (e - L).toNat < B ^ k * pw (e - L).toNat := Int.mul_lt_mul_of_pos_right h1 (pw_pos _)
 have h3 : B ^ k * pw (e - L).toNat ≤ B ^ k * B ^ j := Int.mul_le_mul_of_nonneg_left (by rw [B_pow_pw j]; exact pw_le (by omega)) (Int.le_of_lt (B_pow_pos k))
 rw [Int.pow_add]
 omega
theorem Xo (p q : Bool) (A A' : Option Addr) (n c n' c' : Nat) (xs ys : List Int) (e f : Int) (w : World) (h : Arr w A n c xs) (h' : Arr w A' n' c' ys) (hn : n ≤ 1000000) (hn' : n' ≤ 1000000) :
  Calls Tryz.prog 60 #[.agg #[.bool p, .slice A n c, .int .i64 e], .agg #[.bool q, .slice A' n' c', .int .i64 f]] w fun r w' => r = .returned (Mq p q xs ys e f) ∧ Below w.heap.size w w' := by
 have b1 : Below w.heap.size w ((w.alloc (.cells #[.bool p, .slice A n c, .int .i64 e] 26)).alloc (.cells #[.bool q, .slice A' n' c', .int .i64 f] 26)) := Ba (Ba (Bb w) _) _
 have bx := (Bg w #[.bool p, .slice A n c, .int .i64 e] 26).later (Ba (Bb _) (.cells #[.bool q, .slice A' n' c', .int .i64 f] 26))
 have bz := Bg (w.alloc (.cells #[.bool p, .slice A n c, .int .i64 e] 26)) #[.bool q, .slice A' n' c', .int .i64 f] 26
 rw [show (w.alloc (.cells #[.bool p, .slice A n c, .int .i64 e] 26)).heap.size = w.heap.size + 1 by simp] at bz
 obtain ⟨k0, k1, k2, f0, f1, f2⟩ := bx.cell3
 obtain ⟨j0, j1, j2, g0, g1, g2⟩ := bz.cell3
 have H := h.below b1
 have H' := h'.below b1
 have PX := Be (Kd p A n c xs e _ H (by omega))
 have PY := Be (fun w3 (hb : Below ((w.alloc (.cells #[.bool p, .slice A n c, .int .i64 e] 26)).alloc (.cells #[.bool q, .slice A' n' c', .int .i64 f] 26)).heap.size ((w.alloc (.cells #[.bool p, .slice A n c, .int .i64 e] 26)).alloc (.cells #[.bool q, .slice A' n' c', .int .i64 f] 26)) w3) => Kd q A' n' c' ys f w3 (H'.below hb) (by omega))
 cases hp : Bq p xs e
 ·have er : Mq p q xs ys e f = .tuple #[.int .i64 0, .bool false] := by unfold Mq; rw [hp]; rfl
  rw [er]
  rw [hp] at PX
  clear er PY
  go_enter Tryz.func60, Tryz.ntmps60
  go_wp2_with fail
  refine PX.out.mono ?_; rintro r w3 ⟨rfl, hb3⟩
  have hw3 := Bc b1 hb3
  clear k0 k1 k2 f0 f1 f2 j0 j1 j2 g0 g1 g2
  obtain ⟨k0, k1, k2, f0, f1, f2⟩ := (bx.later hb3).cell3
  obtain ⟨j0, j1, j2, g0, g1, g2⟩ := (bz.later hb3).cell3
  go_wp2_with fail
  go_ret2
  exact ⟨rfl, hw3⟩
 ·rw [hp] at PX
  cases hq : Bq q ys f
  ·have er : Mq p q xs ys e f = .tuple #[.int .i64 0, .bool false] := by unfold Mq; rw [hp, hq]; rfl
   rw [er]
   rw [hq] at PY
   clear er
   go_enter Tryz.func60, Tryz.ntmps60
   go_wp2_with fail
   refine PX.out.mono ?_; rintro r w3 ⟨rfl, hb3⟩
   have hw3 := Bc b1 hb3
   clear k0 k1 k2 f0 f1 f2 j0 j1 j2 g0 g1 g2
   obtain ⟨k0, k1, k2, f0, f1, f2⟩ := (bx.later hb3).cell3
   obtain ⟨j0, j1, j2, g0, g1, g2⟩ := (bz.later hb3).cell3
   go_wp2_with fail
   refine (PY.out _ hb3).mono ?_; rintro r w4 ⟨rfl, hb4⟩
   go_wp2_with fail
   go_ret2
   exact ⟨rfl, Bc hw3 hb4⟩
  ·rw [hq] at PY
   obtain ⟨pd1, l1, x1, v1⟩ := Bm h.wf hp
   obtain ⟨pd2, l2, x2, v2⟩ := Bm h'.wf hq
   have he := pd1.lo
   have he' := pd1.hi
   have hf := pd2.lo
   have hf' := pd2.hi
   simp only at he he' hf hf'
   have er : Mq p q xs ys e f = .tuple #[.int .i64 (Hf ⟨p, val xs, e⟩ ⟨q, val ys, f⟩), .bool true] := by unfold Mq; rw [hp, hq]; rfl
   rw [er]
   clear er
   by_cases hpq : p = q
   ·subst hpq
    rw [Bcx pd1]
    have nx := h.val_nonneg
    have ny := h'.val_nonneg
    have SD := fun w3 (hb : Below ((w.alloc (.cells #[.bool p, .slice A n c, .int .i64 e] 26)).alloc (.cells #[.bool p, .slice A' n' c', .int .i64 f] 26)).heap.size ((w.alloc (.cells #[.bool p, .slice A n c, .int .i64 e] 26)).alloc (.cells #[.bool p, .slice A' n' c', .int .i64 f] 26)) w3) => Beh p p A A' n c n' c' (val xs) (val ys) e f w3 (by rw [x1]; exact H.below hb) (by rw [x2]; exact H'.below hb) nx ny hn hn' (by omega) (by omega) (by omega) (by omega) (.inr (.inr ⟨by omega, by omega⟩))
    have hg : -262144 ≤ Ch (val xs) (val ys) e f := by unfold Ch; split; exact hf; split; exact he; omega
    have la := Ba4 nx (e := e) (L := Ch (val xs) (val ys) e f) (k := 256) (j := 10000) (by rw [x1]; exact l1) (by omega)
    have lb := Ba4 ny (e := f) (L := Ch (val xs) (val ys) e f) (k := 256) (j := 10000) (by rw [x2]; exact l2) (by omega)
    have na := Dz nx e (Ch (val xs) (val ys) e f)
    have nb := Dz ny f (Ch (val xs) (val ys) e f)
    have va := val_wd _ na
    have vb := val_wd _ nb
    generalize lev (val xs) e (Ch (val xs) (val ys) e f) = lx at *
    generalize lev (val ys) f (Ch (val xs) (val ys) e f) = ly at *
    generalize Ch (val xs) (val ys) e f = g at *
    have SD := Be SD
    have cr := So lx ly
    have CM : ∀ A1 n1 c1 A2 n2 c2 w5, Arr w5 A1 n1 c1 (wd lx) → Arr w5 A2 n2 c2 (wd ly) → Calls Tryz.prog 96 #[.slice A1 n1 c1, .slice A2 n2 c2] w5 fun e w' => e = .returned (.int .i64 (Cs lx ly)) ∧ Below w5.heap.size w5 w' := by
     intro A1 n1 c1 A2 n2 c2 w5 a1 a2
     have := Beb A1 A2 n1 c1 n2 c2 _ _ w5 a1 a2 (by rw [← a1.len]; omega) (by rw [← a2.len]; omega)
     rw [va, vb] at this
     exact this
    have CM := Be CM
    clear va vb na nb la lb x1 x2 v1 v2 pd1 pd2 hp hq h h' H H' nx ny
    generalize Cs lx ly = cc at *
    have W1 : IntKind.i64.wrap (-cc) = -cc := by rw [IntKind.wrap_i64]; omega
    cases p
    all_goals
     go_enter Tryz.func60, Tryz.ntmps60
     go_wp2_with fail
     refine PX.out.mono ?_; rintro r w3 ⟨rfl, hb3⟩
     have hw3 := Bc b1 hb3
     clear k0 k1 k2 f0 f1 f2 j0 j1 j2 g0 g1 g2
     obtain ⟨k0, k1, k2, f0, f1, f2⟩ := (bx.later hb3).cell3
     obtain ⟨j0, j1, j2, g0, g1, g2⟩ := (bz.later hb3).cell3
     go_wp2_with fail
     refine (PY.out _ hb3).mono ?_; rintro r w4 ⟨rfl, hb4⟩
     have hw4 := Bc hw3 hb4
     have hb4 := Bc hb3 hb4
     clear k0 k1 k2 f0 f1 f2 j0 j1 j2 g0 g1 g2
     obtain ⟨k0, k1, k2, f0, f1, f2⟩ := (bx.later hb4).cell3
     obtain ⟨j0, j1, j2, g0, g1, g2⟩ := (bz.later hb4).cell3
     go_wp2_with fail
     refine (SD.out _ hb4).mono ?_; rintro r w5 ⟨A1, n1, c1, A2, n2, c2, rfl, ha1, ha2, hb5⟩
     have hw5 := Bc hw4 hb5
     have hb5 := Bc hb4 hb5
     clear k0 k1 k2 f0 f1 f2 j0 j1 j2 g0 g1 g2
     obtain ⟨k0, k1, k2, f0, f1, f2⟩ := (bx.later hb5).cell3
     obtain ⟨j0, j1, j2, g0, g1, g2⟩ := (bz.later hb5).cell3
     go_wp2_with fail
     refine (CM.out _ _ _ _ _ _ _ ha1 ha2).mono ?_; rintro r w6 ⟨rfl, hb6⟩
     have hw6 := Bc hw5 hb6
     have hb6 := Bc hb5 hb6
     clear k0 k1 k2 f0 f1 f2 j0 j1 j2 g0 g1 g2
     obtain ⟨k0, k1, k2, f0, f1, f2⟩ := (bx.later hb6).cell3
     go_wp2_with fail
     go_ret2
     exact ⟨by simp, hw6⟩
   ·have hs := Ue pd1 pd2 hpq
    rw [hs]
    simp only
    have hqq : q = !p := by cases p <;> cases q <;> simp_all
    subst hqq
    cases p
    all_goals
     go_enter Tryz.func60, Tryz.ntmps60
     go_wp2_with fail
     refine PX.out.mono ?_; rintro r w3 ⟨rfl, hb3⟩
     have hw3 := Bc b1 hb3
     clear k0 k1 k2 f0 f1 f2 j0 j1 j2 g0 g1 g2
     obtain ⟨k0, k1, k2, f0, f1, f2⟩ := (bx.later hb3).cell3
     obtain ⟨j0, j1, j2, g0, g1, g2⟩ := (bz.later hb3).cell3
     go_wp2_with fail
     refine (PY.out _ hb3).mono ?_; rintro r w4 ⟨rfl, hb4⟩
     have hw4 := Bc hw3 hb4
     have hb4 := Bc hb3 hb4
     clear k0 k1 k2 f0 f1 f2 j0 j1 j2 g0 g1 g2
     obtain ⟨k0, k1, k2, f0, f1, f2⟩ := (bx.later hb4).cell3
     obtain ⟨j0, j1, j2, g0, g1, g2⟩ := (bz.later hb4).cell3
     go_wp2_with fail
     go_ret2
     exact ⟨rfl, hw4⟩
theorem Bga (a b : Bool) (w : World) : Calls Tryz.prog 113 #[.bool a, .bool b] w fun r w' => r = .returned (.bool (a != b)) ∧ w = w' := by
 cases a <;> cases b
 all_goals
  go_enter Tryz.func113, Tryz.ntmps113
  go_wp2
  go_ret
  exact ⟨rfl, rfl⟩
theorem Zz (neg : Bool) (v : Int) (rest : Bool) (p : Int) (up : Bool) {k : Nat} (hk : Jj v p = k) :
  Kp neg v rest p up = if (rest || decide (v / 2 ^ k * 2 ^ k ≠ v)) && (neg != up) then v / 2 ^ k + 1 else v / 2 ^ k := by
 unfold Jj at hk
 unfold Kp Yr Mg
 by_cases h : 0 < bl v - p
 ·rw [if_pos h, decide_eq_true h, Bool.true_and, hk]
 ·have : k = 0 := by omega
  subst this
  rw [if_neg h, decide_eq_false h, Bool.false_and]
  have e1 : v / 2 ^ 0 = v := by show v / 1 = v; omega
  have e2 : v / 2 ^ 0 * 2 ^ 0 = v := by rw [e1]; show v * 1 = v; omega
  rw [e2, e1]
  simp
theorem Xn (neg : Bool) (A : Option Addr) (n c : Nat) (xs : List Int) (e : Int) (rest : Bool) (p : Int) (up : Bool) (w : World) (h : Arr w A n c xs) (hn : n ≤ 16000) (he0 : -1000000000000 ≤ e) (he1 : e ≤ 1000000000000) (hp0 : 1 ≤ p) (hp1 : p ≤ 1000000000) :
  Calls Tryz.prog 79 #[.bool neg, .slice A n c, .int .i64 e, .bool rest, .int .i64 p, .bool up] w (He (Ji neg (val xs) e rest p up) w) := by
 have hv := h.val_nonneg
 have b0 := Ba (Bb w) (.cells #[.bool false, .slice none 0 0, .int .i64 0] 26)
 have bx := Bg w #[.bool false, .slice none 0 0, .int .i64 0] 26
 have NB := Be (fun w' (hb : Below w.heap.size w w') => Th A n c xs w' (h.below hb) (by omega))
 have AY := Be (fun w => Bga neg up w)
 have hb0 := Df (val xs)
 have hb1 := Gc (v := val xs) (a := 64 * n) hv (by rw [← B_pow_pw, ← h.len]; exact val_lt h.wf)
 have hlen := wd_len h.wf
 rw [h.len] at hlen
 obtain ⟨k, hk⟩ : ∃ k, Jj (val xs) p = k := ⟨_, rfl⟩
 rw [Uw, Zz neg (val xs) rest p up hk, hk]
 have hkk : max (bl (val xs) - p) 0 = (k : Int) := by unfold Jj at hk; omega
 have W1 : IntKind.i64.wrap (bl (val xs) - p) = bl (val xs) - p := by rw [IntKind.wrap_i64]; omega
 have hk6 : k ≤ 1048576 := by omega
 have SR := Be (fun w' (hb : Below w.heap.size w w') => rshr A n c xs (k : Int) w' (h.below hb) (by omega) (by omega) (by omega))
 rw [Gs (by omega) (by omega), Int.toNat_natCast] at SR
 have hq0 : 0 ≤ val xs / 2 ^ k := Int.ediv_nonneg hv (Int.le_of_lt (pw_pos k))
 have lq : (wd (val xs / 2 ^ k)).length ≤ 16000 := by
  have := wd_length_le hq0 (Int.lt_of_le_of_lt (Int.ediv_le_self _ hv) (lt_pow_of_wd_length hv (k := (wd (val xs)).length) (Nat.le_refl _)))
  omega
 have vq := val_wd _ hq0
 have wq := wf_wd _ hq0
 have lq1 := Rn wq (k := 16000) (by omega) (by omega)
 rw [vq] at lq1
 have hsl : 0 ≤ val xs / 2 ^ k * 2 ^ k := Int.mul_nonneg hq0 (Int.le_of_lt (pw_pos k))
 have vsl := val_wd _ hsl
 have lsl : (wd (val xs / 2 ^ k * 2 ^ k)).length ≤ 16000 := by
  have := wd_length_le hsl (Int.lt_of_le_of_lt (Int.ediv_mul_le _ (Int.ne_of_gt (pw_pos k))) (lt_pow_of_wd_length hv (k := (wd (val xs)).length) (Nat.le_refl _)))
  omega
 have hqe : val xs / 2 ^ k * 2 ^ k ≤ val xs := Int.ediv_mul_le _ (Int.ne_of_gt (pw_pos k))
 clear hk
 generalize val xs / 2 ^ k = q at *
 generalize hqs : q * 2 ^ k = qs at *
 have VX2 : Hid (val (wd q) = q) := vq
 have V1 : Hid (val (wd (q + 1)) = q + 1) := val_wd _ (by omega)
 have HS := Be hqs
 clear vq wq hlen
 have key : ∀ b : Bool, (b = false → ∀ o, mkD neg q (e + k) = o → Calls Tryz.prog 79 #[.bool neg, .slice A n c, .int .i64 e, .bool rest, .int .i64 p, .bool up] w (He o w)) → True := fun _ _ => trivial
 clear key
 cases rest
 ·by_cases hne : qs = val xs
  ·have d8 : decide (qs ≠ val xs) = false := by simp [hne]
   have cf := Lh hne
   rw [d8]
   simp only [Bool.or_false, Bool.and_false, Bool.false_and, Bool.false_eq_true, if_false]
   clear d8 hne
   generalize ho : mkD neg q _ = o
   have HO := Be ho
   clear ho
   clear hqs
   (go_enter Tryz.func79, Tryz.ntmps79; go_wp2_with fail; refine (NB.out _ b0).mono ?_; rintro r w1 ⟨rfl, hb1⟩; have b01 := Bc b0 hb1; have bx1 := bx.later hb1; go_wp2_with fail; refine (SR.out _ b01).mono ?_; rintro r w2 ⟨A2, n2, c2, rfl, h2, hb2⟩; have bw2 := Bc b01 hb2; have bx2 := bx1.later hb2; have l2 := h2.len; clear hb2 SR NB; go_wp2_with fail)
   rw [← HS.out] at vsl cf lsl
   (have SL := Bc4 A2 n2 c2 _ (k : Int) w2 h2 (by omega) (by omega) (by omega); rw [Dm (by omega) (by omega), Int.toNat_natCast, VX2.out] at SL; refine SL.mono ?_; rintro r w5 ⟨A5, n5, c5, rfl, h5, hb5⟩; have bw5 := Bc bw2 hb5; have bx2 := bx2.later hb5; have h2 := h2.below hb5; have l5 := h5.len; have C := Beb A5 A n5 c5 n c _ xs w5 h5 (h.below bw5) (by omega) (by omega); rw [vsl, cf] at C; have C := Be C; clear SL h5 hb5; go_wp2_with fail; refine C.out.mono ?_; rintro r w6 ⟨rfl, s6⟩; have bw2 := Bc bw5 s6; have bx2 := bx2.later s6; have h2 := h2.below s6; clear C s6; generalize hw6 : w6 = w2 at *; clear hw6; go_wp2_with fail)
   (have bw3 := bw2; have bx3 := bx2; have MK := La neg A2 n2 c2 _ (e + k) w2 h2 (by omega) (by omega) (by omega); rw [VX2.out, HO.out] at MK; have MK := Be MK; clear h2; refine MK.out.mono ?_; (rintro r w4 ⟨A4, n4, c4, rfl, hA, hb4⟩; have bx4 := bx3.later hb4; have bw4 := Bc bw3 hb4; obtain ⟨k0, k1, k2, f0, f1, f2⟩ := bx4.cell3; clear hb4; go_wp2_with fail; exact bodyPost_ret (v := .tuple #[.agg #[.bool (Ci o).neg, .slice A4 n4 c4, .int .i64 (Ci o).e], .bool o.isSome]) (by simp [results, Tryz.results79, go_sem, k0, k1, k2]) rfl (Bu hA bx4 bw4 (Nat.le_refl _))))
  ·have d8 : decide (qs ≠ val xs) = true := by simp [hne]
   have cf := Gk (show qs < val xs by omega)
   rw [d8]
   clear d8 hne
   cases hnu : neg != up
   ·rw [hnu] at AY
    simp only [Bool.false_or, Bool.true_and, Bool.false_eq_true, if_false]
    generalize ho : mkD neg q _ = o
    have HO := Be ho
    clear ho hqs
    (go_enter Tryz.func79, Tryz.ntmps79; go_wp2_with fail; refine (NB.out _ b0).mono ?_; rintro r w1 ⟨rfl, hb1⟩; have b01 := Bc b0 hb1; have bx1 := bx.later hb1; go_wp2_with fail; refine (SR.out _ b01).mono ?_; rintro r w2 ⟨A2, n2, c2, rfl, h2, hb2⟩; have bw2 := Bc b01 hb2; have bx2 := bx1.later hb2; have l2 := h2.len; clear hb2 SR NB; go_wp2_with fail)
    rw [← HS.out] at vsl cf lsl
    (have SL := Bc4 A2 n2 c2 _ (k : Int) w2 h2 (by omega) (by omega) (by omega); rw [Dm (by omega) (by omega), Int.toNat_natCast, VX2.out] at SL; refine SL.mono ?_; rintro r w5 ⟨A5, n5, c5, rfl, h5, hb5⟩; have bw5 := Bc bw2 hb5; have bx2 := bx2.later hb5; have h2 := h2.below hb5; have l5 := h5.len; have C := Beb A5 A n5 c5 n c _ xs w5 h5 (h.below bw5) (by omega) (by omega); rw [vsl, cf] at C; have C := Be C; clear SL h5 hb5; go_wp2_with fail; refine C.out.mono ?_; rintro r w6 ⟨rfl, s6⟩; have bw2 := Bc bw5 s6; have bx2 := bx2.later s6; have h2 := h2.below s6; clear C s6; generalize hw6 : w6 = w2 at *; clear hw6; go_wp2_with fail)
    (refine (AY.out _).mono ?_; rintro r w' ⟨rfl, rfl⟩; go_wp2_with fail)
    (have bw3 := bw2; have bx3 := bx2; have MK := La neg A2 n2 c2 _ (e + k) w2 h2 (by omega) (by omega) (by omega); rw [VX2.out, HO.out] at MK; have MK := Be MK; clear h2; refine MK.out.mono ?_; (rintro r w4 ⟨A4, n4, c4, rfl, hA, hb4⟩; have bx4 := bx3.later hb4; have bw4 := Bc bw3 hb4; obtain ⟨k0, k1, k2, f0, f1, f2⟩ := bx4.cell3; clear hb4; go_wp2_with fail; exact bodyPost_ret (v := .tuple #[.agg #[.bool (Ci o).neg, .slice A4 n4 c4, .int .i64 (Ci o).e], .bool o.isSome]) (by simp [results, Tryz.results79, go_sem, k0, k1, k2]) rfl (Bu hA bx4 bw4 (Nat.le_refl _))))
   ·rw [hnu] at AY
    simp only [Bool.false_or, Bool.true_and, if_true]
    generalize ho : mkD neg (q + 1) _ = o
    have HO := Be ho
    clear ho hqs
    (go_enter Tryz.func79, Tryz.ntmps79; go_wp2_with fail; refine (NB.out _ b0).mono ?_; rintro r w1 ⟨rfl, hb1⟩; have b01 := Bc b0 hb1; have bx1 := bx.later hb1; go_wp2_with fail; refine (SR.out _ b01).mono ?_; rintro r w2 ⟨A2, n2, c2, rfl, h2, hb2⟩; have bw2 := Bc b01 hb2; have bx2 := bx1.later hb2; have l2 := h2.len; clear hb2 SR NB; go_wp2_with fail)
    rw [← HS.out] at vsl cf lsl
    (have SL := Bc4 A2 n2 c2 _ (k : Int) w2 h2 (by omega) (by omega) (by omega); rw [Dm (by omega) (by omega), Int.toNat_natCast, VX2.out] at SL; refine SL.mono ?_; rintro r w5 ⟨A5, n5, c5, rfl, h5, hb5⟩; have bw5 := Bc bw2 hb5; have bx2 := bx2.later hb5; have h2 := h2.below hb5; have l5 := h5.len; have C := Beb A5 A n5 c5 n c _ xs w5 h5 (h.below bw5) (by omega) (by omega); rw [vsl, cf] at C; have C := Be C; clear SL h5 hb5; go_wp2_with fail; refine C.out.mono ?_; rintro r w6 ⟨rfl, s6⟩; have bw2 := Bc bw5 s6; have bx2 := bx2.later s6; have h2 := h2.below s6; clear C s6; generalize hw6 : w6 = w2 at *; clear hw6; go_wp2_with fail)
    ((refine (AY.out _).mono ?_; rintro r w' ⟨rfl, rfl⟩; go_wp2_with fail); have A1 := radd A2 (some ⟨w2.heap.size, 0, none⟩) n2 c2 1 1 _ [1] _ (h2.below (Ba (Bb w2) (.cells #[.int .u64 1] 51))) (Db (w := w2) rfl 1 (by decide) (by decide)) (by omega) (by decide); rw [VX2.out, Ds] at A1; refine A1.mono ?_; rintro r w3 ⟨A3, n3, c3, rfl, h3, hb3⟩; have hb23 := Bc (Ba (Bb w2) (.cells #[.int .u64 1] 51)) hb3; have bw3 := Bc bw2 hb23; have bx3 := bx2.later hb23; have l3 := h3.len; have MK := La neg A3 n3 c3 _ (e + k) w3 h3.arr (by omega) (by omega) (by omega); rw [V1.out, HO.out] at MK; have MK := Be MK; clear A1 h3 hb3 hb23 h2; go_wp2_with fail; refine MK.out.mono ?_; (rintro r w4 ⟨A4, n4, c4, rfl, hA, hb4⟩; have bx4 := bx3.later hb4; have bw4 := Bc bw3 hb4; obtain ⟨k0, k1, k2, f0, f1, f2⟩ := bx4.cell3; clear hb4; go_wp2_with fail; exact bodyPost_ret (v := .tuple #[.agg #[.bool (Ci o).neg, .slice A4 n4 c4, .int .i64 (Ci o).e], .bool o.isSome]) (by simp [results, Tryz.results79, go_sem, k0, k1, k2]) rfl (Bu hA bx4 bw4 (Nat.le_refl _))))
 ·cases hnu : neg != up
  ·rw [hnu] at AY
   simp only [Bool.true_or, Bool.true_and, Bool.false_eq_true, if_false]
   generalize ho : mkD neg q _ = o
   have HO := Be ho
   clear ho hqs
   (go_enter Tryz.func79, Tryz.ntmps79; go_wp2_with fail; refine (NB.out _ b0).mono ?_; rintro r w1 ⟨rfl, hb1⟩; have b01 := Bc b0 hb1; have bx1 := bx.later hb1; go_wp2_with fail; refine (SR.out _ b01).mono ?_; rintro r w2 ⟨A2, n2, c2, rfl, h2, hb2⟩; have bw2 := Bc b01 hb2; have bx2 := bx1.later hb2; have l2 := h2.len; clear hb2 SR NB; go_wp2_with fail)
   (refine (AY.out _).mono ?_; rintro r w' ⟨rfl, rfl⟩; go_wp2_with fail)
   (have bw3 := bw2; have bx3 := bx2; have MK := La neg A2 n2 c2 _ (e + k) w2 h2 (by omega) (by omega) (by omega); rw [VX2.out, HO.out] at MK; have MK := Be MK; clear h2; refine MK.out.mono ?_; (rintro r w4 ⟨A4, n4, c4, rfl, hA, hb4⟩; have bx4 := bx3.later hb4; have bw4 := Bc bw3 hb4; obtain ⟨k0, k1, k2, f0, f1, f2⟩ := bx4.cell3; clear hb4; go_wp2_with fail; exact bodyPost_ret (v := .tuple #[.agg #[.bool (Ci o).neg, .slice A4 n4 c4, .int .i64 (Ci o).e], .bool o.isSome]) (by simp [results, Tryz.results79, go_sem, k0, k1, k2]) rfl (Bu hA bx4 bw4 (Nat.le_refl _))))
  ·rw [hnu] at AY
   simp only [Bool.true_or, Bool.true_and, if_true]
   generalize ho : mkD neg (q + 1) _ = o
   have HO := Be ho
   clear ho hqs
   (go_enter Tryz.func79, Tryz.ntmps79; go_wp2_with fail; refine (NB.out _ b0).mono ?_; rintro r w1 ⟨rfl, hb1⟩; have b01 := Bc b0 hb1; have bx1 := bx.later hb1; go_wp2_with fail; refine (SR.out _ b01).mono ?_; rintro r w2 ⟨A2, n2, c2, rfl, h2, hb2⟩; have bw2 := Bc b01 hb2; have bx2 := bx1.later hb2; have l2 := h2.len; clear hb2 SR NB; go_wp2_with fail)
   ((refine (AY.out _).mono ?_; rintro r w' ⟨rfl, rfl⟩; go_wp2_with fail); have A1 := radd A2 (some ⟨w2.heap.size, 0, none⟩) n2 c2 1 1 _ [1] _ (h2.below (Ba (Bb w2) (.cells #[.int .u64 1] 51))) (Db (w := w2) rfl 1 (by decide) (by decide)) (by omega) (by decide); rw [VX2.out, Ds] at A1; refine A1.mono ?_; rintro r w3 ⟨A3, n3, c3, rfl, h3, hb3⟩; have hb23 := Bc (Ba (Bb w2) (.cells #[.int .u64 1] 51)) hb3; have bw3 := Bc bw2 hb23; have bx3 := bx2.later hb23; have l3 := h3.len; have MK := La neg A3 n3 c3 _ (e + k) w3 h3.arr (by omega) (by omega) (by omega); rw [V1.out, HO.out] at MK; have MK := Be MK; clear A1 h3 hb3 hb23 h2; go_wp2_with fail; refine MK.out.mono ?_; (rintro r w4 ⟨A4, n4, c4, rfl, hA, hb4⟩; have bx4 := bx3.later hb4; have bw4 := Bc bw3 hb4; obtain ⟨k0, k1, k2, f0, f1, f2⟩ := bx4.cell3; clear hb4; go_wp2_with fail; exact bodyPost_ret (v := .tuple #[.agg #[.bool (Ci o).neg, .slice A4 n4 c4, .int .i64 (Ci o).e], .bool o.isSome]) (by simp [results, Tryz.results79, go_sem, k0, k1, k2]) rfl (Bu hA bx4 bw4 (Nat.le_refl _))))
def Du (p : Bool) (xs : List Int) (e P : Int) (up : Bool) : Option Dy := if Bq p xs e && Dp P then Ji p (val xs) e false P up else none
theorem Wl (p : Bool) (A : Option Addr) (n c : Nat) (xs : List Int) (e P : Int) (up : Bool) (w : World) (h : Arr w A n c xs) (hT : Tz w) :
  Calls Tryz.prog 76 #[.agg #[.bool p, .slice A n c, .int .i64 e], .int .i64 P, .bool up] w (He (Du p xs e P up) w) := by
 have b1 : Below w.heap.size w ((w.alloc (.cells #[.bool p, .slice A n c, .int .i64 e] 26)).alloc (.cells #[.bool false, .slice none 0 0, .int .i64 0] 26)) := Ba (Ba (Bb w) _) _
 have H := h.below b1
 have PL := Be (plain p A n c xs e _ H)
 have bx := (Bg w #[.bool p, .slice A n c, .int .i64 e] 26).later (Ba (Bb _) (.cells #[.bool false, .slice none 0 0, .int .i64 0] 26))
 have br := Bg (w.alloc (.cells #[.bool p, .slice A n c, .int .i64 e] 26)) #[.bool false, .slice none 0 0, .int .i64 0] 26
 rw [show (w.alloc (.cells #[.bool p, .slice A n c, .int .i64 e] 26)).heap.size = w.heap.size + 1 by simp] at br
 obtain ⟨k0, k1, k2, f0, f1, f2⟩ := bx.cell3
 have BR := fun w => Bcq P w
 unfold Du
 cases hpl : Bq p xs e
 ·rw [hpl] at PL
  rw [Bool.false_and, if_neg (by simp)]
  go_enter Tryz.func76, Tryz.ntmps76
  go_wp2_with fail
  refine PL.out.mono ?_; rintro r w3 ⟨rfl, hb3⟩
  have hw3 := Bc b1 hb3
  have br3 := br.later hb3
  obtain ⟨z0, z1, z2, y0, y1, y2⟩ := br3.cell3
  go_wp2_with fail
  (refine bodyPost_ret (v := .tuple #[.agg #[.bool false, .slice none 0 0, .int .i64 0], .bool false]) (by simp [results, Tryz.results76, go_sem, z0, z1, z2]) rfl ?_; exact Bu (o := none) (Dj _) br3 hw3 (by omega))
 ·rw [hpl] at PL
  obtain ⟨pd, l1, -, -⟩ := Bm h.wf hpl
  have he := pd.lo
  have he' := pd.hi
  simp only at he he'
  have hl := h.len
  cases hR : Dp P
  ·rw [hR] at BR
   have BR := Be BR
   rw [Bool.and_false, if_neg (by simp)]
   go_enter Tryz.func76, Tryz.ntmps76
   go_wp2_with fail
   refine PL.out.mono ?_; rintro r w3 ⟨rfl, hb3⟩
   have hw3 := Bc b1 hb3
   have br3 := br.later hb3
   obtain ⟨z0, z1, z2, y0, y1, y2⟩ := br3.cell3
   go_wp2_with fail
   refine (BR.out _).mono ?_; rintro r w' ⟨rfl, rfl⟩
   go_wp2_with fail
   (refine bodyPost_ret (v := .tuple #[.agg #[.bool false, .slice none 0 0, .int .i64 0], .bool false]) (by simp [results, Tryz.results76, go_sem, z0, z1, z2]) rfl ?_; exact Bu (o := none) (Dj _) br3 hw3 (by omega))
  ·rw [hR] at BR
   have BR := Be BR
   rw [Bool.true_and, if_pos rfl]
   have hPr : 1 ≤ P ∧ P ≤ 8192 := by unfold Dp at hR; simpa using hR
   have DC := Be (fun w3 (hb : Below ((w.alloc (.cells #[.bool p, .slice A n c, .int .i64 e] 26)).alloc (.cells #[.bool false, .slice none 0 0, .int .i64 0] 26)).heap.size ((w.alloc (.cells #[.bool p, .slice A n c, .int .i64 e] 26)).alloc (.cells #[.bool false, .slice none 0 0, .int .i64 0] 26)) w3) => dcut p A n c xs e false P up w3 (H.below hb) (by omega) (by omega) (by omega) (by omega) (by omega) (hT.below (Bc b1 hb)))
   clear pd hpl hR
   generalize Ji p (val xs) e false P up = o at *
   go_enter Tryz.func76, Tryz.ntmps76
   go_wp2_with fail
   refine PL.out.mono ?_; rintro r w3 ⟨rfl, hb3⟩
   clear k0 k1 k2 f0 f1 f2
   obtain ⟨k0, k1, k2, f0, f1, f2⟩ := (bx.later hb3).cell3
   go_wp2_with fail
   refine (BR.out _).mono ?_; rintro r w' ⟨rfl, rfl⟩
   go_wp2_with fail
   refine (DC.out _ hb3).mono ?_; rintro r w7 ⟨A9, n9, c9, rfl, hA, hb7⟩
   have hw7 := Bc (Bc b1 hb3) hb7
   have br7 := (br.later hb3).later hb7
   obtain ⟨z0, z1, z2, y0, y1, y2⟩ := br7.cell3
   clear DC k0 k1 k2 f0 f1 f2
   go_wp2_with fail
   (refine bodyPost_ret (v := _) ?_ rfl (Bu hA br7 hw7 (by omega)); simp [results, Tryz.results76, go_sem, z0, z1, z2])
theorem Bfh {v : Int} (h : v % 2 = 1) {k : Nat} (hk : 0 < k) : v / 2 ^ k * 2 ^ k ≠ v := by
 intro hh
 obtain ⟨j, rfl⟩ : ∃ j, k = j + 1 := ⟨k - 1, by omega⟩
 rw [Int.pow_succ, ← Int.mul_assoc] at hh
 omega
theorem Bcy (neg : Bool) {v : Int} (h : v % 2 = 1) (p : Int) (up : Bool) {k : Nat} (hk : Jj v p = k) (h0 : 0 < k) :
  Kp neg v false p up = if (neg != up) then v / 2 ^ k + 1 else v / 2 ^ k := by
 rw [Zz neg v false p up hk, decide_eq_true (Bfh h h0), Bool.false_or, Bool.true_and]
theorem Yq (neg : Bool) (v : Int) (p : Int) (up : Bool) (h : bl v - p ≤ 0) : Kp neg v false p up = v ∧ Jj v p = 0 := by
 have hk : Jj v p = 0 := by unfold Jj; omega
 have h1 : ¬ 0 < bl v - p := by omega
 refine ⟨?_, hk⟩
 unfold Kp Yr Mg
 rw [if_neg h1, decide_eq_false h1]
 simp
theorem rCut (p : Bool) (A : Option Addr) (n c : Nat) (xs : List Int) (e P : Int) (up : Bool) (w : World) (h : Arr w A n c xs) (hn : n ≤ 100000) :
  Calls Tryz.prog 87 #[.agg #[.bool p, .slice A n c, .int .i64 e], .int .i64 P, .bool up] w (He (Du p xs e P up) w) := by
 have b1 : Below w.heap.size w ((w.alloc (.cells #[.bool p, .slice A n c, .int .i64 e] 26)).alloc (.cells #[.bool false, .slice none 0 0, .int .i64 0] 26)) := Ba (Ba (Bb w) _) _
 have H := h.below b1
 have PL := Be (Kd p A n c xs e _ H (by omega))
 have bx := (Bg w #[.bool p, .slice A n c, .int .i64 e] 26).later (Ba (Bb _) (.cells #[.bool false, .slice none 0 0, .int .i64 0] 26))
 have br := Bg (w.alloc (.cells #[.bool p, .slice A n c, .int .i64 e] 26)) #[.bool false, .slice none 0 0, .int .i64 0] 26
 rw [show (w.alloc (.cells #[.bool p, .slice A n c, .int .i64 e] 26)).heap.size = w.heap.size + 1 by simp] at br
 obtain ⟨k0, k1, k2, f0, f1, f2⟩ := bx.cell3
 have AY := fun w => Bga p up w
 unfold Du
 cases hpl : Bq p xs e
 ·rw [hpl] at PL
  rw [Bool.false_and, if_neg (by simp)]
  go_enter Tryz.func87, Tryz.ntmps87
  go_wp2_with fail
  refine PL.out.mono ?_; rintro r w3 ⟨rfl, hb3⟩
  have hw3 := Bc b1 hb3
  have br3 := br.later hb3
  obtain ⟨z0, z1, z2, y0, y1, y2⟩ := br3.cell3
  go_wp2_with fail
  (refine bodyPost_ret (v := .tuple #[.agg #[.bool false, .slice none 0 0, .int .i64 0], .bool false]) (by simp [results, Tryz.results87, go_sem, z0, z1, z2]) rfl ?_; exact Bu (o := none) (Dj _) br3 hw3 (by omega))
 ·rw [hpl] at PL
  obtain ⟨pd, l1, -, vp⟩ := Bm h.wf hpl
  have he := pd.lo
  have he' := pd.hi
  simp only at he he'
  have hl := h.len
  by_cases hP1 : P < 1
  ·have hR : Dp P = false := by unfold Dp; rw [decide_eq_false (by omega)]; rfl
   have d1 : decide (P < 1) = true := decide_eq_true hP1
   rw [hR, Bool.and_false, if_neg (by simp)]
   go_enter Tryz.func87, Tryz.ntmps87
   go_wp2_with fail
   refine PL.out.mono ?_; rintro r w3 ⟨rfl, hb3⟩
   have hw3 := Bc b1 hb3
   have br3 := br.later hb3
   obtain ⟨z0, z1, z2, y0, y1, y2⟩ := br3.cell3
   go_wp2_with fail
   (refine bodyPost_ret (v := .tuple #[.agg #[.bool false, .slice none 0 0, .int .i64 0], .bool false]) (by simp [results, Tryz.results87, go_sem, z0, z1, z2]) rfl ?_; exact Bu (o := none) (Dj _) br3 hw3 (by omega))
  ·have d1 : decide (P < 1) = false := decide_eq_false hP1
   by_cases hP2 : 8192 < P
   ·have hR : Dp P = false := by unfold Dp; rw [decide_eq_false (by omega : ¬ P ≤ 8192), Bool.and_false]
    have d2 : decide (P > 8192) = true := decide_eq_true hP2
    rw [hR, Bool.and_false, if_neg (by simp)]
    go_enter Tryz.func87, Tryz.ntmps87
    go_wp2_with fail
    refine PL.out.mono ?_; rintro r w3 ⟨rfl, hb3⟩
    have hw3 := Bc b1 hb3
    have br3 := br.later hb3
    obtain ⟨z0, z1, z2, y0, y1, y2⟩ := br3.cell3
    go_wp2_with fail
    (refine bodyPost_ret (v := .tuple #[.agg #[.bool false, .slice none 0 0, .int .i64 0], .bool false]) (by simp [results, Tryz.results87, go_sem, z0, z1, z2]) rfl ?_; exact Bu (o := none) (Dj _) br3 hw3 (by omega))
   ·have hR : Dp P = true := by unfold Dp; rw [decide_eq_true (by omega), decide_eq_true (by omega : P ≤ 8192)]; rfl
    have d2 : decide (P > 8192) = false := decide_eq_false hP2
    rw [hR, Bool.true_and, if_pos rfl, Uw]
    have hv := h.val_nonneg
    have hb0 := Df (val xs)
    have hb1 := Gc (v := val xs) (a := 64 * n) hv (by rw [← B_pow_pw, ← h.len]; exact val_lt h.wf)
    have W1 : IntKind.i64.wrap (bl (val xs) - P) = bl (val xs) - P := by rw [IntKind.wrap_i64]; omega
    have NB := fun w3 (hb : Below ((w.alloc (.cells #[.bool p, .slice A n c, .int .i64 e] 26)).alloc (.cells #[.bool false, .slice none 0 0, .int .i64 0] 26)).heap.size ((w.alloc (.cells #[.bool p, .slice A n c, .int .i64 e] 26)).alloc (.cells #[.bool false, .slice none 0 0, .int .i64 0] 26)) w3) => Th A n c xs w3 (H.below hb) (by omega)
    by_cases hk : bl (val xs) - P ≤ 0
    ·obtain ⟨e1, e2⟩ := Yq p (val xs) P up hk
     rw [e1, e2]
     have MK := fun w3 (hb : Below ((w.alloc (.cells #[.bool p, .slice A n c, .int .i64 e] 26)).alloc (.cells #[.bool false, .slice none 0 0, .int .i64 0] 26)).heap.size ((w.alloc (.cells #[.bool p, .slice A n c, .int .i64 e] 26)).alloc (.cells #[.bool false, .slice none 0 0, .int .i64 0] 26)) w3) => La p A n c xs e w3 (H.below hb) (by omega) (by omega) (by omega)
     rw [show e + ((0 : Nat) : Int) = e by omega]
     have dk : decide (bl (val xs) - P ≤ 0) = true := decide_eq_true hk
     clear e1 e2 pd vp hpl hR
     generalize mkD p (val xs) e = o at *
     generalize bl (val xs) = bb at *
     have NB := Be NB
     have MK := Be MK
     go_enter Tryz.func87, Tryz.ntmps87
     go_wp2_with fail
     refine PL.out.mono ?_; rintro r w3 ⟨rfl, hb3⟩
     clear k0 k1 k2 f0 f1 f2
     obtain ⟨k0, k1, k2, f0, f1, f2⟩ := (bx.later hb3).cell3
     go_wp2_with fail
     refine (NB.out _ hb3).mono ?_; rintro r w4 ⟨rfl, hb4⟩
     have hb4 := Bc hb3 hb4
     clear k0 k1 k2 f0 f1 f2
     obtain ⟨k0, k1, k2, f0, f1, f2⟩ := (bx.later hb4).cell3
     go_wp2_with fail
     refine (MK.out _ hb4).mono ?_; rintro r w7 ⟨A9, n9, c9, rfl, hA, hb7⟩
     have hw7 := Bc (Bc b1 hb4) hb7
     have br7 := (br.later hb4).later hb7
     obtain ⟨z0, z1, z2, y0, y1, y2⟩ := br7.cell3
     clear k0 k1 k2 f0 f1 f2
     go_wp2_with fail
     (refine bodyPost_ret (v := _) ?_ rfl (Bu hA br7 hw7 (by omega)); simp [results, Tryz.results87, go_sem, z0, z1, z2])
    ·have hn0 : 0 < n := by
      rcases Nat.eq_zero_or_pos n with hz | hz
      ·have : val xs = 0 := by rw [List.length_eq_zero_iff.1 (h.len.trans hz)]; rfl
       rw [this, Rp] at hk
       omega
      ·exact hz
     obtain ⟨hvp, hvo⟩ := vp (by omega)
     obtain ⟨k, hkk⟩ : ∃ k, Jj (val xs) P = k := ⟨_, rfl⟩
     have hbk : bl (val xs) - P = (k : Int) := by unfold Jj at hkk; omega
     have hk0 : 0 < k := by omega
     rw [Bcy p hvo P up hkk hk0, hkk]
     have hk6 : k ≤ 1048576 := by omega
     have SR := fun w3 (hb : Below ((w.alloc (.cells #[.bool p, .slice A n c, .int .i64 e] 26)).alloc (.cells #[.bool false, .slice none 0 0, .int .i64 0] 26)).heap.size ((w.alloc (.cells #[.bool p, .slice A n c, .int .i64 e] 26)).alloc (.cells #[.bool false, .slice none 0 0, .int .i64 0] 26)) w3) => rshr A n c xs (k : Int) w3 (H.below hb) (by omega) (by omega) (by omega)
     rw [Gs (by omega) (by omega), Int.toNat_natCast] at SR
     have hq0 : 0 ≤ val xs / 2 ^ k := Int.ediv_nonneg hv (Int.le_of_lt (pw_pos k))
     have lq : (wd (val xs / 2 ^ k)).length ≤ 256 := by
      have := wd_length_le hq0 (Int.lt_of_le_of_lt (Int.ediv_le_self _ hv) (lt_pow_of_wd_length hv (k := (wd (val xs)).length) (Nat.le_refl _)))
      have := wd_len h.wf
      omega
     have vq := val_wd _ hq0
     have lq1 := Rn (wf_wd _ hq0) (k := 256) (by omega) (by omega)
     rw [vq] at lq1
     have dk : decide (bl (val xs) - P ≤ 0) = false := decide_eq_false hk
     have W2 : IntKind.i64.wrap (e + (bl (val xs) - P)) = e + (bl (val xs) - P) := by rw [IntKind.wrap_i64]; omega
     rw [← hbk]
     rw [← hbk] at SR
     generalize val xs / 2 ^ k = q at *
     have vq1 := val_wd (q + 1) (by omega)
     generalize bl (val xs) = bb at *
     clear hkk hvp hvo pd vp hpl hR hv hbk hk0
     have NB := Be NB
     have SR := Be SR
     have PLUS : ∀ (A2 : Option Addr) (n2 c2 : Nat) (w3 : World), Arr w3 A2 n2 c2 (wd q) → Calls Tryz.prog 110 #[.slice A2 n2 c2, .slice (some ⟨w3.heap.size, 0, none⟩) 1 1] (w3.alloc (.cells #[.int .u64 1] 51)) fun e w' => ∃ A3 n3 c3, e = .returned (.slice A3 n3 c3) ∧ Arr w' A3 n3 c3 (wd (q + 1)) ∧ Below w3.heap.size w3 w' := by
      intro A2 n2 c2 w3 h2
      have l2 := h2.len
      have A1 := radd A2 (some ⟨w3.heap.size, 0, none⟩) n2 c2 1 1 _ [1] _ (h2.below (Ba (Bb w3) (.cells #[.int .u64 1] 51))) (Db (w := w3) rfl 1 (by decide) (by decide)) (by omega) (by decide)
      rw [vq, Ds] at A1
      refine A1.mono ?_
      rintro r w' ⟨A3, n3, c3, rfl, h3, hb3⟩
      exact ⟨A3, n3, c3, rfl, h3.arr, Bc (Ba (Bb w3) _) hb3⟩
     have PLUS := Be PLUS
     have MK : ∀ (v : Int) (A2 : Option Addr) (n2 c2 : Nat) (w3 : World), 0 ≤ v → (wd v).length ≤ 1000 → Arr w3 A2 n2 c2 (wd v) → Calls Tryz.prog 70 #[.bool p, .slice A2 n2 c2, .int .i64 (e + (bb - P))] w3 (He (mkD p v (e + (bb - P))) w3) := by
      intro v A2 n2 c2 w3 hv0 hvl h2
      have l2 := h2.len
      have := La p A2 n2 c2 _ (e + (bb - P)) w3 h2 (by omega) (by omega) (by omega)
      rw [val_wd v hv0] at this
      exact this
     have MK := Be MK
     cases hnu : p != up
     ·rw [hnu] at AY
      have AY := Be AY
      rw [if_neg (by simp)]
      generalize ho : mkD p q (e + (bb - P)) = o
      have HO := Be ho
      clear ho hnu vq vq1
      go_enter Tryz.func87, Tryz.ntmps87
      go_wp2_with fail
      refine PL.out.mono ?_; rintro r w3 ⟨rfl, hb3⟩
      clear k0 k1 k2 f0 f1 f2
      obtain ⟨k0, k1, k2, f0, f1, f2⟩ := (bx.later hb3).cell3
      go_wp2_with fail
      refine (NB.out _ hb3).mono ?_; rintro r w4 ⟨rfl, hb4⟩
      have hb4 := Bc hb3 hb4
      clear k0 k1 k2 f0 f1 f2
      obtain ⟨k0, k1, k2, f0, f1, f2⟩ := (bx.later hb4).cell3
      go_wp2_with fail
      refine (SR.out _ hb4).mono ?_; rintro r w5 ⟨A2, n2, c2, rfl, h2, hb5⟩
      have hb5 := Bc hb4 hb5
      clear k0 k1 k2 f0 f1 f2
      obtain ⟨k0, k1, k2, f0, f1, f2⟩ := (bx.later hb5).cell3
      go_wp2_with fail
      refine (AY.out _).mono ?_; rintro r w' ⟨rfl, rfl⟩
      go_wp2_with fail
      have M := MK.out q A2 n2 c2 w5 (by omega) (by omega) h2
      rw [HO.out] at M
      refine M.mono ?_; rintro r w7 ⟨A9, n9, c9, rfl, hA, hb7⟩
      have hw7 := Bc (Bc b1 hb5) hb7
      have br7 := (br.later hb5).later hb7
      obtain ⟨z0, z1, z2, y0, y1, y2⟩ := br7.cell3
      clear k0 k1 k2 f0 f1 f2 M
      go_wp2_with fail
      (refine bodyPost_ret (v := _) ?_ rfl (Bu hA br7 hw7 (by omega)); simp [results, Tryz.results87, go_sem, z0, z1, z2])
     ·rw [hnu] at AY
      have AY := Be AY
      rw [if_pos rfl]
      generalize ho : mkD p (q + 1) (e + (bb - P)) = o
      have HO := Be ho
      clear ho hnu vq vq1
      go_enter Tryz.func87, Tryz.ntmps87
      go_wp2_with fail
      refine PL.out.mono ?_; rintro r w3 ⟨rfl, hb3⟩
      clear k0 k1 k2 f0 f1 f2
      obtain ⟨k0, k1, k2, f0, f1, f2⟩ := (bx.later hb3).cell3
      go_wp2_with fail
      refine (NB.out _ hb3).mono ?_; rintro r w4 ⟨rfl, hb4⟩
      have hb4 := Bc hb3 hb4
      clear k0 k1 k2 f0 f1 f2
      obtain ⟨k0, k1, k2, f0, f1, f2⟩ := (bx.later hb4).cell3
      go_wp2_with fail
      refine (SR.out _ hb4).mono ?_; rintro r w5 ⟨A2, n2, c2, rfl, h2, hb5⟩
      have hb5 := Bc hb4 hb5
      clear k0 k1 k2 f0 f1 f2
      obtain ⟨k0, k1, k2, f0, f1, f2⟩ := (bx.later hb5).cell3
      go_wp2_with fail
      refine (AY.out _).mono ?_; rintro r w' ⟨rfl, rfl⟩
      go_wp2_with fail
      refine (PLUS.out A2 n2 c2 w5 h2).mono ?_; rintro r w6 ⟨A3, n3, c3, rfl, h3, hb6⟩
      have hb6 := Bc hb5 hb6
      clear k0 k1 k2 f0 f1 f2
      obtain ⟨k0, k1, k2, f0, f1, f2⟩ := (bx.later hb6).cell3
      go_wp2_with fail
      have M := MK.out (q + 1) A3 n3 c3 w6 (by omega) (by omega) h3
      rw [HO.out] at M
      refine M.mono ?_; rintro r w7 ⟨A9, n9, c9, rfl, hA, hb7⟩
      have hw7 := Bc (Bc b1 hb6) hb7
      have br7 := (br.later hb6).later hb7
      obtain ⟨z0, z1, z2, y0, y1, y2⟩ := br7.cell3
      clear k0 k1 k2 f0 f1 f2 M
      go_wp2_with fail
      (refine bodyPost_ret (v := _) ?_ rfl (Bu hA br7 hw7 (by omega)); simp [results, Tryz.results87, go_sem, z0, z1, z2])
theorem rover (p q : Bool) (A A' : Option Addr) (n c n' c' : Nat) (xs ys : List Int) (e f P : Int) (up : Bool) (w : World) (h : Arr w A n c xs) (h' : Arr w A' n' c' ys) (hn : n ≤ 100000) (hn' : n' ≤ 100000) :
  Calls Tryz.prog 69 #[.agg #[.bool p, .slice A n c, .int .i64 e], .agg #[.bool q, .slice A' n' c', .int .i64 f], .int .i64 P, .bool up] w (He (Cq p q xs ys e f P up) w) := by
 have b1 : Below w.heap.size w (((w.alloc (.cells #[.bool p, .slice A n c, .int .i64 e] 26)).alloc (.cells #[.bool q, .slice A' n' c', .int .i64 f] 26)).alloc (.cells #[.bool false, .slice none 0 0, .int .i64 0] 26)) := Ba (Ba (Ba (Bb w) _) _) _
 have H := h.below b1
 have H' := h'.below b1
 have bx := Bg w #[.bool p, .slice A n c, .int .i64 e] 26
 have bx := bx.later (Ba (Bb _) (.cells #[.bool q, .slice A' n' c', .int .i64 f] 26))
 have bx := bx.later (Ba (Bb _) (.cells #[.bool false, .slice none 0 0, .int .i64 0] 26))
 have by1 := Bg (w.alloc (.cells #[.bool p, .slice A n c, .int .i64 e] 26)) #[.bool q, .slice A' n' c', .int .i64 f] 26
 have by1 := by1.later (Ba (Bb _) (.cells #[.bool false, .slice none 0 0, .int .i64 0] 26))
 rw [show (w.alloc (.cells #[.bool p, .slice A n c, .int .i64 e] 26)).heap.size = w.heap.size + 1 by simp] at by1
 have br := Bg ((w.alloc (.cells #[.bool p, .slice A n c, .int .i64 e] 26)).alloc (.cells #[.bool q, .slice A' n' c', .int .i64 f] 26)) #[.bool false, .slice none 0 0, .int .i64 0] 26
 rw [show ((w.alloc (.cells #[.bool p, .slice A n c, .int .i64 e] 26)).alloc (.cells #[.bool q, .slice A' n' c', .int .i64 f] 26)).heap.size = w.heap.size + 1 + 1 by simp] at br
 have KW : ∀ w3, Below (((w.alloc (.cells #[.bool p, .slice A n c, .int .i64 e] 26)).alloc (.cells #[.bool q, .slice A' n' c', .int .i64 f] 26)).alloc (.cells #[.bool false, .slice none 0 0, .int .i64 0] 26)).heap.size (((w.alloc (.cells #[.bool p, .slice A n c, .int .i64 e] 26)).alloc (.cells #[.bool q, .slice A' n' c', .int .i64 f] 26)).alloc (.cells #[.bool false, .slice none 0 0, .int .i64 0] 26)) w3 → Zw w3 w.heap.size p q A A' n c n' c' e f := fun w3 hb => ⟨⟨(bx.later hb).cell3, (by1.later hb).cell3⟩, br.later hb⟩
 have KW := Be KW
 clear bx by1 br
 have PX := Kd p A n c xs e _ H (by omega)
 have PY := fun w3 (hb : Below (((w.alloc (.cells #[.bool p, .slice A n c, .int .i64 e] 26)).alloc (.cells #[.bool q, .slice A' n' c', .int .i64 f] 26)).alloc (.cells #[.bool false, .slice none 0 0, .int .i64 0] 26)).heap.size (((w.alloc (.cells #[.bool p, .slice A n c, .int .i64 e] 26)).alloc (.cells #[.bool q, .slice A' n' c', .int .i64 f] 26)).alloc (.cells #[.bool false, .slice none 0 0, .int .i64 0] 26)) w3) => Kd q A' n' c' ys f w3 (H'.below hb) (by omega)
 (obtain ⟨⟨k0, k1, k2, f0, f1, f2⟩, ⟨j0, j1, j2, g0, g1, g2⟩⟩ := (KW.out _ (Bb _)).two)
 cases hp : Bq p xs e
 ·rw [hp] at PX
  have PX := Be PX
  have er : Cq p q xs ys e f P up = none := by unfold Cq; rw [hp]; rfl
  rw [er]
  clear er
  go_enter Tryz.func69, Tryz.ntmps69
  go_wp2_with fail
  refine PX.out.mono ?_; rintro r w3 ⟨rfl, hb3⟩
  have hw3 := Bc b1 hb3
  have br3 := (KW.out w3 hb3).res
  obtain ⟨z0, z1, z2, y0, y1, y2⟩ := br3.cell3
  go_wp2_with fail
  (refine bodyPost_ret (v := .tuple #[.agg #[.bool false, .slice none 0 0, .int .i64 0], .bool false]) (by simp [results, Tryz.results69, go_sem, z0, z1, z2]) rfl ?_; exact Bu (o := none) (Dj _) br3 hw3 (by omega))
 ·rw [hp] at PX
  have PX := Be PX
  cases hq : Bq q ys f
  ·rw [hq] at PY
   have PY := Be PY
   have er : Cq p q xs ys e f P up = none := by unfold Cq; rw [hp, hq]; rfl
   rw [er]
   clear er
   go_enter Tryz.func69, Tryz.ntmps69
   go_wp2_with fail
   refine PX.out.mono ?_; rintro r w3 ⟨rfl, hb3⟩
   (clear k0 k1 k2 f0 f1 f2 j0 j1 j2 g0 g1 g2)
   (obtain ⟨⟨k0, k1, k2, f0, f1, f2⟩, ⟨j0, j1, j2, g0, g1, g2⟩⟩ := (KW.out _ hb3).two)
   go_wp2_with fail
   refine (PY.out _ hb3).mono ?_; rintro r w4 ⟨rfl, hb4⟩
   have hb4 := Bc hb3 hb4
   have hw3 := Bc b1 hb4
   have br3 := (KW.out w4 hb4).res
   obtain ⟨z0, z1, z2, y0, y1, y2⟩ := br3.cell3
   go_wp2_with fail
   (refine bodyPost_ret (v := .tuple #[.agg #[.bool false, .slice none 0 0, .int .i64 0], .bool false]) (by simp [results, Tryz.results69, go_sem, z0, z1, z2]) rfl ?_; exact Bu (o := none) (Dj _) br3 hw3 (by omega))
  ·rw [hq] at PY
   have PY := Be PY
   obtain ⟨pd1, l1, -, v1⟩ := Bm h.wf hp
   obtain ⟨pd2, l2, -, v2⟩ := Bm h'.wf hq
   have hl := h.len
   have hl' := h'.len
   have he := pd1.lo
   have he' := pd1.hi
   have hf := pd2.lo
   have hf' := pd2.hi
   simp only at he he' hf hf'
   by_cases hP1 : P < 1
   ·have hR : Dp P = false := by unfold Dp; rw [decide_eq_false (by omega)]; rfl
    have d1 : decide (P < 1) = true := decide_eq_true hP1
    have er : Cq p q xs ys e f P up = none := by unfold Cq; rw [hp, hq, hR]; rfl
    rw [er]
    clear er
    go_enter Tryz.func69, Tryz.ntmps69
    go_wp2_with fail
    refine PX.out.mono ?_; rintro r w3 ⟨rfl, hb3⟩
    (clear k0 k1 k2 f0 f1 f2 j0 j1 j2 g0 g1 g2)
    (obtain ⟨⟨k0, k1, k2, f0, f1, f2⟩, ⟨j0, j1, j2, g0, g1, g2⟩⟩ := (KW.out _ hb3).two)
    go_wp2_with fail
    refine (PY.out _ hb3).mono ?_; rintro r w4 ⟨rfl, hb4⟩
    have hb4 := Bc hb3 hb4
    have hw3 := Bc b1 hb4
    have br3 := (KW.out w4 hb4).res
    obtain ⟨z0, z1, z2, y0, y1, y2⟩ := br3.cell3
    go_wp2_with fail
    (refine bodyPost_ret (v := .tuple #[.agg #[.bool false, .slice none 0 0, .int .i64 0], .bool false]) (by simp [results, Tryz.results69, go_sem, z0, z1, z2]) rfl ?_; exact Bu (o := none) (Dj _) br3 hw3 (by omega))
   ·have d1 : decide (P < 1) = false := decide_eq_false hP1
    by_cases hP2 : 8192 < P
    ·have hR : Dp P = false := by unfold Dp; rw [decide_eq_false (by omega : ¬ P ≤ 8192), Bool.and_false]
     have d2 : decide (P > 8192) = true := decide_eq_true hP2
     have er : Cq p q xs ys e f P up = none := by unfold Cq; rw [hp, hq, hR]; rfl
     rw [er]
     clear er
     go_enter Tryz.func69, Tryz.ntmps69
     go_wp2_with fail
     refine PX.out.mono ?_; rintro r w3 ⟨rfl, hb3⟩
     (clear k0 k1 k2 f0 f1 f2 j0 j1 j2 g0 g1 g2)
     (obtain ⟨⟨k0, k1, k2, f0, f1, f2⟩, ⟨j0, j1, j2, g0, g1, g2⟩⟩ := (KW.out _ hb3).two)
     go_wp2_with fail
     refine (PY.out _ hb3).mono ?_; rintro r w4 ⟨rfl, hb4⟩
     have hb4 := Bc hb3 hb4
     have hw3 := Bc b1 hb4
     have br3 := (KW.out w4 hb4).res
     obtain ⟨z0, z1, z2, y0, y1, y2⟩ := br3.cell3
     go_wp2_with fail
     (refine bodyPost_ret (v := .tuple #[.agg #[.bool false, .slice none 0 0, .int .i64 0], .bool false]) (by simp [results, Tryz.results69, go_sem, z0, z1, z2]) rfl ?_; exact Bu (o := none) (Dj _) br3 hw3 (by omega))
    ·have hR : Dp P = true := by unfold Dp; rw [decide_eq_true (by omega), decide_eq_true (by omega : P ≤ 8192)]; rfl
     have d2 : decide (P > 8192) = false := decide_eq_false hP2
     by_cases hn0 : n' = 0
     ·have er : Cq p q xs ys e f P up = none := by unfold Cq; rw [hp, hq, hR, hl', hn0]; rfl
      rw [er]
      clear er
      subst hn0
      go_enter Tryz.func69, Tryz.ntmps69
      go_wp2_with fail
      refine PX.out.mono ?_; rintro r w3 ⟨rfl, hb3⟩
      (clear k0 k1 k2 f0 f1 f2 j0 j1 j2 g0 g1 g2)
      (obtain ⟨⟨k0, k1, k2, f0, f1, f2⟩, ⟨j0, j1, j2, g0, g1, g2⟩⟩ := (KW.out _ hb3).two)
      go_wp2_with fail
      refine (PY.out _ hb3).mono ?_; rintro r w4 ⟨rfl, hb4⟩
      have hb4 := Bc hb3 hb4
      have hw3 := Bc b1 hb4
      (clear k0 k1 k2 f0 f1 f2 j0 j1 j2 g0 g1 g2)
      (obtain ⟨⟨k0, k1, k2, f0, f1, f2⟩, ⟨j0, j1, j2, g0, g1, g2⟩⟩ := (KW.out _ hb4).two)
      have br3 := (KW.out w4 hb4).res
      obtain ⟨z0, z1, z2, y0, y1, y2⟩ := br3.cell3
      go_wp2_with fail
      all_goals (refine bodyPost_ret (v := .tuple #[.agg #[.bool false, .slice none 0 0, .int .i64 0], .bool false]) (by simp [results, Tryz.results69, go_sem, z0, z1, z2]) rfl ?_; exact Bu (o := none) (Dj _) br3 hw3 (by omega))
     ·have hyp := v2 (by omega)
      have nx : 0 ≤ val xs := h.val_nonneg
      have hkb0 := Df (val xs)
      have hkb1 := Gc (v := val xs) (a := 64 * n) nx (by rw [← B_pow_pw, ← h.len]; exact val_lt h.wf)
      have hkc0 := Df (val ys)
      have hkc1 := Gc (v := val ys) (a := 64 * n') (by omega) (by rw [← B_pow_pw, ← h'.len]; exact val_lt h'.wf)
      have er : Cq p q xs ys e f P up = Ji (p != q) (val xs * 2 ^ Fu (val xs) (val ys) P / val ys) (e - f - Fu (val xs) (val ys) P) (decide (val xs * 2 ^ Fu (val xs) (val ys) P % val ys ≠ 0)) P up := by
       unfold Cq
       rw [hp, hq, hR, if_pos (by simp [hl', hn0])]
      rw [er]
      clear er
      have hk : max 0 (P + 2 + bl (val ys) - bl (val xs)) = ((Fu (val xs) (val ys) P : Nat) : Int) := by unfold Fu; omega
      have hkk : Fu (val xs) (val ys) P ≤ 30000 := by omega
      generalize Fu (val xs) (val ys) P = kk at *
      have hN0 : 0 ≤ val xs * 2 ^ kk := Int.mul_nonneg nx (Int.le_of_lt (pw_pos kk))
      have hNl : (wd (val xs * 2 ^ kk)).length ≤ 800 := by
       refine wd_length_le hN0 ?_
       have a1 : val xs < pw (64 * 256) := by
        rw [← B_pow_pw]
        exact Int.lt_of_lt_of_le (val_lt h.wf) (B_pow_le l1)
       have a2 : val xs * pw kk < pw (64 * 256) * pw kk := Int.mul_lt_mul_of_pos_right a1 (pw_pos kk)
       rw [← pw_add] at a2
       rw [B_pow_pw]
       exact Int.lt_of_lt_of_le a2 (pw_le (by omega))
      have vN := val_wd _ hN0
      have hq0 : 0 ≤ val xs * 2 ^ kk / val ys := Int.ediv_nonneg hN0 (by omega)
      have lq : (wd (val xs * 2 ^ kk / val ys)).length ≤ 800 := wd_length_le hq0 (Int.lt_of_le_of_lt (Int.ediv_le_self _ hN0) (lt_pow_of_wd_length hN0 hNl))
      have vq := val_wd _ hq0
      have hr0 : 0 ≤ val xs * 2 ^ kk % val ys := Int.emod_nonneg _ (by omega)
      have NX : ∀ (w1 : World) (hb : Below (((w.alloc (.cells #[.bool p, .slice A n c, .int .i64 e] 26)).alloc (.cells #[.bool q, .slice A' n' c', .int .i64 f] 26)).alloc (.cells #[.bool false, .slice none 0 0, .int .i64 0] 26)).heap.size (((w.alloc (.cells #[.bool p, .slice A n c, .int .i64 e] 26)).alloc (.cells #[.bool q, .slice A' n' c', .int .i64 f] 26)).alloc (.cells #[.bool false, .slice none 0 0, .int .i64 0] 26)) w1), Calls Tryz.prog 89 #[.slice A n c] w1 fun r w5 => r = .returned (.int .i64 (bl (val xs))) ∧ Below (((w.alloc (.cells #[.bool p, .slice A n c, .int .i64 e] 26)).alloc (.cells #[.bool q, .slice A' n' c', .int .i64 f] 26)).alloc (.cells #[.bool false, .slice none 0 0, .int .i64 0] 26)).heap.size (((w.alloc (.cells #[.bool p, .slice A n c, .int .i64 e] 26)).alloc (.cells #[.bool q, .slice A' n' c', .int .i64 f] 26)).alloc (.cells #[.bool false, .slice none 0 0, .int .i64 0] 26)) w5 := by
       intro w1 hb
       refine (Th A n c xs w1 (H.below hb) (by omega)).mono ?_
       rintro r w5 ⟨rfl, hb5⟩
       exact ⟨rfl, Bc hb hb5⟩
      have NY : ∀ (w1 : World) (hb : Below (((w.alloc (.cells #[.bool p, .slice A n c, .int .i64 e] 26)).alloc (.cells #[.bool q, .slice A' n' c', .int .i64 f] 26)).alloc (.cells #[.bool false, .slice none 0 0, .int .i64 0] 26)).heap.size (((w.alloc (.cells #[.bool p, .slice A n c, .int .i64 e] 26)).alloc (.cells #[.bool q, .slice A' n' c', .int .i64 f] 26)).alloc (.cells #[.bool false, .slice none 0 0, .int .i64 0] 26)) w1), Calls Tryz.prog 89 #[.slice A' n' c'] w1 fun r w5 => r = .returned (.int .i64 (bl (val ys))) ∧ Below (((w.alloc (.cells #[.bool p, .slice A n c, .int .i64 e] 26)).alloc (.cells #[.bool q, .slice A' n' c', .int .i64 f] 26)).alloc (.cells #[.bool false, .slice none 0 0, .int .i64 0] 26)).heap.size (((w.alloc (.cells #[.bool p, .slice A n c, .int .i64 e] 26)).alloc (.cells #[.bool q, .slice A' n' c', .int .i64 f] 26)).alloc (.cells #[.bool false, .slice none 0 0, .int .i64 0] 26)) w5 := by
       intro w1 hb
       refine (Th A' n' c' ys w1 (H'.below hb) (by omega)).mono ?_
       rintro r w5 ⟨rfl, hb5⟩
       exact ⟨rfl, Bc hb hb5⟩
      have NX := Be NX
      have NY := Be NY
      have SX : ∀ (w1 : World) (hb : Below (((w.alloc (.cells #[.bool p, .slice A n c, .int .i64 e] 26)).alloc (.cells #[.bool q, .slice A' n' c', .int .i64 f] 26)).alloc (.cells #[.bool false, .slice none 0 0, .int .i64 0] 26)).heap.size (((w.alloc (.cells #[.bool p, .slice A n c, .int .i64 e] 26)).alloc (.cells #[.bool q, .slice A' n' c', .int .i64 f] 26)).alloc (.cells #[.bool false, .slice none 0 0, .int .i64 0] 26)) w1), Calls Tryz.prog 105 #[.slice A n c, .int .i64 (kk : Int)] w1 fun r w5 => ∃ A5 n5 c5, r = .returned (.slice A5 n5 c5) ∧ Arr w5 A5 n5 c5 (wd (val xs * 2 ^ kk)) ∧ Below (((w.alloc (.cells #[.bool p, .slice A n c, .int .i64 e] 26)).alloc (.cells #[.bool q, .slice A' n' c', .int .i64 f] 26)).alloc (.cells #[.bool false, .slice none 0 0, .int .i64 0] 26)).heap.size (((w.alloc (.cells #[.bool p, .slice A n c, .int .i64 e] 26)).alloc (.cells #[.bool q, .slice A' n' c', .int .i64 f] 26)).alloc (.cells #[.bool false, .slice none 0 0, .int .i64 0] 26)) w5 := by
       intro w1 hb
       have S := Bc4 A n c xs (kk : Int) w1 (H.below hb) (by omega) (by omega) (by omega)
       rw [Dm (by omega) (by omega), Int.toNat_natCast] at S
       refine S.mono ?_
       rintro r w5 ⟨A5, n5, c5, rfl, ha, hb5⟩
       exact ⟨A5, n5, c5, rfl, ha, Bc hb hb5⟩
      have SX := Be SX
      have DM : ∀ (A5 : Option Addr) (n5 c5 : Nat) (w1 : World) (ha : Arr w1 A5 n5 c5 (wd (val xs * 2 ^ kk))) (hb : Below (((w.alloc (.cells #[.bool p, .slice A n c, .int .i64 e] 26)).alloc (.cells #[.bool q, .slice A' n' c', .int .i64 f] 26)).alloc (.cells #[.bool false, .slice none 0 0, .int .i64 0] 26)).heap.size (((w.alloc (.cells #[.bool p, .slice A n c, .int .i64 e] 26)).alloc (.cells #[.bool q, .slice A' n' c', .int .i64 f] 26)).alloc (.cells #[.bool false, .slice none 0 0, .int .i64 0] 26)) w1), Calls Tryz.prog 104 #[.slice A5 n5 c5, .slice A' n' c'] w1 fun r w6 => ∃ A6 n6 c6 A7 n7 c7, r = .returned (.tuple #[.slice A6 n6 c6, .slice A7 n7 c7, .bool true]) ∧ Arr w6 A6 n6 c6 (wd (val xs * 2 ^ kk / val ys)) ∧ Arr w6 A7 n7 c7 (wd (val xs * 2 ^ kk % val ys)) ∧ Below (((w.alloc (.cells #[.bool p, .slice A n c, .int .i64 e] 26)).alloc (.cells #[.bool q, .slice A' n' c', .int .i64 f] 26)).alloc (.cells #[.bool false, .slice none 0 0, .int .i64 0] 26)).heap.size (((w.alloc (.cells #[.bool p, .slice A n c, .int .i64 e] 26)).alloc (.cells #[.bool q, .slice A' n' c', .int .i64 f] 26)).alloc (.cells #[.bool false, .slice none 0 0, .int .i64 0] 26)) w6 := by
       intro A5 n5 c5 w1 ha hb
       have D := Bfp A5 A' n5 c5 n' c' _ ys w1 ha (H'.below hb) (by rw [← ha.len]; omega) (by omega)
       unfold Jh Rl Rm at D
       rw [vN, if_neg (by omega), if_neg (by omega), decide_eq_true hyp.1] at D
       refine D.mono ?_
       rintro r w6 ⟨A6, n6, c6, A7, n7, c7, rfl, h6, h7, hb6⟩
       exact ⟨A6, n6, c6, A7, n7, c7, rfl, h6, h7, Bc hb hb6⟩
      have DM := Be DM
      have KS := Be (fun w1 hb => (KW.out w1 hb).two)
      have rz : Hid ((wd (val xs * 2 ^ kk % val ys)).length = 0 ∧ decide (val xs * 2 ^ kk % val ys ≠ 0) = false ∨ 0 < (wd (val xs * 2 ^ kk % val ys)).length ∧ decide (val xs * 2 ^ kk % val ys ≠ 0) = true) := by
       show _ ∨ _
       by_cases hz : val xs * 2 ^ kk % val ys = 0
       ·left; rw [hz, wd_zero (Int.le_refl _)]; exact ⟨rfl, by simp⟩
       ·right; exact ⟨List.length_pos_iff.2 (wd_ne_nil (by omega)), by simp [hz]⟩
      generalize decide (val xs * 2 ^ kk % val ys ≠ 0) = rest at *
      have W1 : IntKind.i64.wrap (P + 2) = P + 2 := by rw [IntKind.wrap_i64]; omega
      have W2 : IntKind.i64.wrap (P + 2 + bl (val ys)) = P + 2 + bl (val ys) := by rw [IntKind.wrap_i64]; omega
      have W3 : IntKind.i64.wrap (P + 2 + bl (val ys) - bl (val xs)) = P + 2 + bl (val ys) - bl (val xs) := by rw [IntKind.wrap_i64]; omega
      have dn : ((n' : Int) == 0) = false := beq_eq_false_iff_ne.2 (by omega)
      clear v1 v2 pd1 pd2 hyp nx hN0 vN hr0 h h' H H' hR hp hq
      generalize bl (val xs) = bx at *
      generalize bl (val ys) = by1 at *
      go_enter Tryz.func69, Tryz.ntmps69
      go_wp2_with fail
      refine PX.out.mono ?_; rintro r w3 ⟨rfl, hb3⟩
      (clear k0 k1 k2 f0 f1 f2 j0 j1 j2 g0 g1 g2)
      (obtain ⟨⟨k0, k1, k2, f0, f1, f2⟩, ⟨j0, j1, j2, g0, g1, g2⟩⟩ := (KW.out _ hb3).two)
      go_wp2_with fail
      refine (PY.out _ hb3).mono ?_; rintro r w4 ⟨rfl, hb4⟩
      have hb4 := Bc hb3 hb4
      (clear k0 k1 k2 f0 f1 f2 j0 j1 j2 g0 g1 g2)
      (obtain ⟨⟨k0, k1, k2, f0, f1, f2⟩, ⟨j0, j1, j2, g0, g1, g2⟩⟩ := (KW.out _ hb4).two)
      clear hb3
      go_wp2_with fail
      go_region_held3 (fun w' => ((w'.cell? ⟨w.heap.size, 0, none⟩ = some (.bool p) ∧ w'.cell? ⟨w.heap.size, 1, none⟩ = some (.slice A n c) ∧ w'.cell? ⟨w.heap.size, 2, none⟩ = some (.int .i64 e) ∧ w'.frozen? ⟨w.heap.size, 0, none⟩ = false ∧ w'.frozen? ⟨w.heap.size, 1, none⟩ = false ∧ w'.frozen? ⟨w.heap.size, 2, none⟩ = false) ∧ (w'.cell? ⟨w.heap.size + 1, 0, none⟩ = some (.bool q) ∧ w'.cell? ⟨w.heap.size + 1, 1, none⟩ = some (.slice A' n' c') ∧ w'.cell? ⟨w.heap.size + 1, 2, none⟩ = some (.int .i64 f) ∧ w'.frozen? ⟨w.heap.size + 1, 0, none⟩ = false ∧ w'.frozen? ⟨w.heap.size + 1, 1, none⟩ = false ∧ w'.frozen? ⟨w.heap.size + 1, 2, none⟩ = false))) (first | exact KS.out _ ((by repeat with_reducible (first | assumption | exact Bb _ | refine Bd ?_ _ | apply Below.drew | refine Ba ?_ _)))) (first | (go_at_call_of 89 (Value.slice A' n' c'); refine (NY.out _ ?_).mono ?_; (repeat with_reducible (first | assumption | exact Bb _ | refine Bd ?_ _ | apply Below.drew | refine Ba ?_ _)); rintro r w5 ⟨rfl, hb5⟩) | (go_at_call_of 89 (Value.slice A n c); refine (NX.out _ ?_).mono ?_; (repeat with_reducible (first | assumption | exact Bb _ | refine Bd ?_ _ | apply Below.drew | refine Ba ?_ _)); rintro r w6 ⟨rfl, hb6⟩))
      go_wp2_with fail
      go_region_held3 (fun w' => ((w'.cell? ⟨w.heap.size, 0, none⟩ = some (.bool p) ∧ w'.cell? ⟨w.heap.size, 1, none⟩ = some (.slice A n c) ∧ w'.cell? ⟨w.heap.size, 2, none⟩ = some (.int .i64 e) ∧ w'.frozen? ⟨w.heap.size, 0, none⟩ = false ∧ w'.frozen? ⟨w.heap.size, 1, none⟩ = false ∧ w'.frozen? ⟨w.heap.size, 2, none⟩ = false) ∧ (w'.cell? ⟨w.heap.size + 1, 0, none⟩ = some (.bool q) ∧ w'.cell? ⟨w.heap.size + 1, 1, none⟩ = some (.slice A' n' c') ∧ w'.cell? ⟨w.heap.size + 1, 2, none⟩ = some (.int .i64 f) ∧ w'.frozen? ⟨w.heap.size + 1, 0, none⟩ = false ∧ w'.frozen? ⟨w.heap.size + 1, 1, none⟩ = false ∧ w'.frozen? ⟨w.heap.size + 1, 2, none⟩ = false))) (first | exact KS.out _ ((by repeat with_reducible (first | assumption | exact Bb _ | refine Bd ?_ _ | apply Below.drew | refine Ba ?_ _)))) (first | (go_at_call 105; refine (SX.out _ ?_).mono ?_; (repeat with_reducible (first | assumption | exact Bb _ | refine Bd ?_ _ | apply Below.drew | refine Ba ?_ _)); rintro r w7 ⟨A5, n5, c5, rfl, hA5, hb7⟩) | (go_at_call 104; refine (DM.out _ _ _ _ hA5 ?_).mono ?_; (repeat with_reducible (first | assumption | exact Bb _ | refine Bd ?_ _ | apply Below.drew | refine Ba ?_ _)); rintro r w8 ⟨A6, n6, c6, A7, n7, c7, rfl, h6, h7, hb8⟩))
      have hw8 := Bc b1 hb8
      have br8 := (KW.out w8 hb8).res
      (clear k0 k1 k2 f0 f1 f2 j0 j1 j2 g0 g1 g2)
      (obtain ⟨⟨k0, k1, k2, f0, f1, f2⟩, ⟨j0, j1, j2, g0, g1, g2⟩⟩ := (KW.out _ hb8).two)
      have n6l := h6.len
      have n7l := h7.len
      clear SX DM NX NY
      go_wp2_with fail
      have hrest : decide (0 < n7) = rest := by
       have hz := rz.out
       rw [n7l] at hz
       rcases hz with ⟨a, b⟩ | ⟨a, b⟩
       ·rw [b, a]; rfl
       ·rw [b]; exact decide_eq_true a
      rw [hrest]
      have DC := Xn (p != q) A6 n6 c6 _ (e - f - kk) rest P up w8 h6 (by omega) (by omega) (by omega) (by omega) (by omega)
      rw [vq] at DC
      refine DC.mono ?_
      rintro r w9 ⟨A9, n9, c9, rfl, hA, hb9⟩
      have hw9 := Bc hw8 hb9
      have br9 := br8.later hb9
      obtain ⟨z0, z1, z2, y0, y1, y2⟩ := br9.cell3
      clear DC
      (clear k0 k1 k2 f0 f1 f2 j0 j1 j2 g0 g1 g2)
      go_wp2_with fail
      refine bodyPost_ret (v := _) ?_ rfl (Bu hA br9 hw9 (by omega))
      simp [results, Tryz.results69, go_sem, z0, z1, z2]
end Go.Proofs.YteffemhapnbaeaaGreatDoor
