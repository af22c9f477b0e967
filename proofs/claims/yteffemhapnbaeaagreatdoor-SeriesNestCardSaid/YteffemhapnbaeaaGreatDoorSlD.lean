/- Walks and laws that the claim's row needs. No conditions. -/
import Derived.Deep.RegionHeld3
import Derived.Test.YteffemhapnbaeaaGreatDoorQaz
import Derived.Test.YteffemhapnbaeaaGreatDoorSsX
import Derived.Test.YteffemhapnbaeaaGreatDoorSsY
import Derived.Test.YteffemhapnbaeaaGreatDoorQao
import Derived.Test.YteffemhapnbaeaaGreatDoorQas
set_option maxHeartbeats 16000000
set_option linter.unusedSimpArgs false
set_option linter.unusedVariables false
namespace Go.Proofs.YteffemhapnbaeaaGreatDoor
open Go.RowKit Num
set_option maxRecDepth 100000
set_option exponentiation.threshold 2000
theorem Bcr {x y z : Dy} (hx : PlD x) (hy : PlD y) (hz : PlD z) (h1 : cDy x y ≤ 0) (h2 : cDy y z ≤ 0) : cDy x z ≤ 0 := by
 obtain ⟨L, hL⟩ : ∃ L, L = min x.e (min y.e z.e) := ⟨_, rfl⟩
 have ex := hx.can (L := L) (by omega)
 have ey := hy.can (L := L) (by omega)
 have ez := hz.can (L := L) (by omega)
 have key : ∀ a b : Int, Cs a b ≤ 0 ↔ a ≤ b := fun a b => by
  unfold Cs
  repeat' split <;> omega
 rw [ex] at hx h1
 rw [ey] at hy h1 h2
 rw [ez] at hz h2
 rw [Hw hx hy, key] at h1
 rw [Hw hy hz, key] at h2
 rw [ex, ez, Hw hx hz, key]
 omega
theorem Wy {a b : Dy × Dy} {j : Dy} (hj : PlD j) (ra : Cj a = true) (rb : Cj b = true) (h1 : cDy a.1 j ≤ 0) (h2 : cDy j a.2 ≤ 0) (h3 : cDy b.1 j ≤ 0) (h4 : cDy j b.2 ≤ 0) : Rf a b = true := by
 obtain ⟨p1, p2⟩ := Gr ra
 obtain ⟨q1, q2⟩ := Gr rb
 unfold Rf
 rw [decide_eq_true (Bcr p1 hj q2 h1 h4), decide_eq_true (Bcr q1 hj p2 h3 h2)]
 rfl
theorem Wu (s : Bool) {m : Nat} (h : m < 2 ^ 64) : Good (Dh s m 1000000) := by
 have hd := Fs s m 1000000
 unfold Gv at hd
 have e0 : ((1000000 : Nat) : Int) - 1000000 = 0 := by omega
 rw [e0] at hd
 by_cases hm : (m : Int) = 0
 ·have hz : m = 0 := by omega
  subst hz
  exact ⟨Nat.two_pow_pos _, (by show (950000 : Nat) ≤ 1000000; decide), (by show (1000000 : Nat) ≤ 1050000; decide), fun _ => ⟨rfl, rfl⟩, fun h => absurd rfl h⟩
 ·rw [if_neg hm] at hd
  obtain ⟨o1, o2, o3⟩ := odd_split (v := (m : Int)) (by omega)
  have hle := My (v := (m : Int)) (by omega)
  have em : ((Dh s m 1000000).m : Int) = oddI m := by
   have : (Dh s m 1000000).d.m = oddI m := by rw [hd]
   exact this
  have ee : ((Dh s m 1000000).x : Int) - 1000000 = 0 + (tz (m : Int) : Int) := by
   have : (Dh s m 1000000).d.e = 0 + (tz (m : Int) : Int) := by rw [hd]
   exact this
  have ht : tz (m : Int) < 64 := by
   have hl : (wd (m : Int)).length ≤ 1 := wd_length_le (by omega) (by rw [B_pow_pw, Jf]; exact Int.ofNat_lt.2 h)
   have := tz_lt (wf_wd (m : Int) (by omega)) (by rw [val_wd _ (by omega)]; omega)
   rw [val_wd _ (by omega)] at this
   omega
  have hb : (2 : Nat) ^ 64 < 2 ^ 1600 := Nat.pow_lt_pow_right (by decide) (by decide)
  refine ⟨?_, by omega, by omega, fun hz => by omega, fun _ => by omega⟩
  have : (Dh s m 1000000).m ≤ m := by omega
  exact Nat.lt_of_le_of_lt this (Nat.lt_trans h hb)
theorem Bg6 {n : Int} : (Dh (decide (n < 0)) n.natAbs 1000000).d = Ca n 0 := by
 rw [Fs, Dr _ (by omega)]
 have hs : sgn (decide (n < 0)) (n.natAbs : Int) = n := by
  by_cases hn : n < 0
  ·rw [decide_eq_true hn]; show -(n.natAbs : Int) = n; omega
  ·rw [decide_eq_false hn]; show (n.natAbs : Int) = n; omega
 have e0 : ((1000000 : Nat) : Int) - 1000000 = 0 := by omega
 rw [hs, e0]
theorem Bdn {P : Int} (up : Bool) {a d : Qn} (ha : Good a) (hd : Good d) (h0 : d.m ≠ 0) (am : a.m < 2 ^ 64) (ax : a.x ≤ 1000064) (ax0 : 1000000 ≤ a.x) (dm : d.m < 2 ^ 64) (dx : d.x ≤ 1000064) (dx0 : 1000000 ≤ d.x) (p0 : 1 ≤ P) (p1 : P ≤ 600) : ∃ D, Hg P up a.d d.d = some D ∧ Dq D = true := by
 have hR : Dp P = true := by unfold Dp; rw [decide_eq_true p0, decide_eq_true (by omega : P ≤ 8192)]; rfl
 have hl : (wd d.d.m).length ≠ 0 := by
  intro h
  have h1 := wd_eq_nil.1 (List.length_eq_zero_iff.1 h)
  have : d.d.m = (d.m : Int) := rfl
  omega
 have am' : (a.m : Int) < pw 64 := by rw [Jf]; exact Int.ofNat_lt.2 am
 have dm' : (d.m : Int) < pw 64 := by rw [Jf]; exact Int.ofNat_lt.2 dm
 have hb1 := Gc (v := (a.m : Int)) (a := 64) (by omega) am'
 have hb2 := Gc (v := (d.m : Int)) (a := 64) (by omega) dm'
 have hb3 := Df (a.m : Int)
 have hb4 := Df (d.m : Int)
 have hk : Fu a.d.m d.d.m P ≤ 666 := by unfold Fu; show (max 0 (P + 2 + bl (d.m : Int) - bl (a.m : Int))).toNat ≤ 666; omega
 unfold Hg Cq
 rw [ha.pl.1, hd.pl.1, hR, decide_eq_true hl, if_pos (by rfl), val_wd _ ha.pl.2, val_wd _ hd.pl.2]
 generalize Fu a.d.m d.d.m P = K at *
 have m1 : a.d.m = (a.m : Int) := rfl
 have m2 : d.d.m = (d.m : Int) := rfl
 have m3 : a.d.e = (a.x : Int) - 1000000 := rfl
 have m4 : d.d.e = (d.x : Int) - 1000000 := rfl
 rw [m1, m2]
 have hN : 0 ≤ (a.m : Int) * 2 ^ K := Int.mul_nonneg (by omega) (Int.le_of_lt (pw_pos K))
 have hQ := Int.ediv_nonneg hN (show (0 : Int) ≤ (d.m : Int) by omega)
 have hQ1 : (a.m : Int) * 2 ^ K / (d.m : Int) ≤ (a.m : Int) * 2 ^ K := Int.ediv_le_self _ hN
 have hQ2 : (a.m : Int) * 2 ^ K < pw 730 := by
  have h1 : (a.m : Int) * pw K < pw 64 * pw K := Int.mul_lt_mul_of_pos_right am' (pw_pos K)
  rw [← pw_add] at h1
  exact Int.lt_of_lt_of_le h1 (pw_le (by omega))
 have hb := Gc (v := (a.m : Int) * 2 ^ K / (d.m : Int)) (a := 730) hQ (Int.lt_of_le_of_lt hQ1 hQ2)
 obtain ⟨c1, c2, c3, c4⟩ := Bgq (a.d.neg != d.d.neg) hQ (e := a.d.e - d.d.e - (K : Int)) (decide ((a.m : Int) * 2 ^ K % (d.m : Int) ≠ 0)) up p0 p1 (by omega) (by omega) (by omega)
 refine ⟨_, c1, ?_⟩
 unfold Dq
 have hm := Bct (sgn (a.d.neg != d.d.neg) (Kp (a.d.neg != d.d.neg) ((a.m : Int) * 2 ^ K / (d.m : Int)) (decide ((a.m : Int) * 2 ^ K % (d.m : Int) ≠ 0)) P up) * pw (Jj ((a.m : Int) * 2 ^ K / (d.m : Int)) P)) (a.d.e - d.d.e - (K : Int))
 generalize Ca (sgn (a.d.neg != d.d.neg) (Kp (a.d.neg != d.d.neg) ((a.m : Int) * 2 ^ K / (d.m : Int)) (decide ((a.m : Int) * 2 ^ K % (d.m : Int) ≠ 0)) P up) * pw (Jj ((a.m : Int) * 2 ^ K / (d.m : Int)) P)) (a.d.e - d.d.e - (K : Int)) = D at *
 simp only [Bool.and_eq_true, decide_eq_true_eq]
 refine ⟨⟨⟨hm, ?_⟩, by omega⟩, by omega⟩
 have h600 : pw 600 < pw 1600 := pw_lt_iff.2 (by decide)
 exact Int.lt_of_le_of_lt c2 h600
theorem Uk {s : Bool} {m : Nat} (h : m < 2 ^ 64) : (Dh s m 1000000).m < 2 ^ 64 ∧ 1000000 ≤ (Dh s m 1000000).x ∧ (Dh s m 1000000).x ≤ 1000064 := by
 have hd := Fs s m 1000000
 unfold Gv at hd
 have e0 : ((1000000 : Nat) : Int) - 1000000 = 0 := by omega
 rw [e0] at hd
 by_cases hm : (m : Int) = 0
 ·have hz : m = 0 := by omega
  subst hz
  exact ⟨Nat.two_pow_pos _, (by show (1000000 : Nat) ≤ 1000000; decide), (by show (1000000 : Nat) ≤ 1000064; decide)⟩
 ·rw [if_neg hm] at hd
  have hle := My (v := (m : Int)) (by omega)
  have em : ((Dh s m 1000000).m : Int) = oddI m := by
   have : (Dh s m 1000000).d.m = oddI m := by rw [hd]
   exact this
  have ee : ((Dh s m 1000000).x : Int) - 1000000 = 0 + (tz (m : Int) : Int) := by
   have : (Dh s m 1000000).d.e = 0 + (tz (m : Int) : Int) := by rw [hd]
   exact this
  have ht : tz (m : Int) < 64 := by
   have hl : (wd (m : Int)).length ≤ 1 := wd_length_le (by omega) (by rw [B_pow_pw, Jf]; exact Int.ofNat_lt.2 h)
   have := tz_lt (wf_wd (m : Int) (by omega)) (by rw [val_wd _ (by omega)]; omega)
   rw [val_wd _ (by omega)] at this
   omega
  have : (Dh s m 1000000).m ≤ m := by omega
  exact ⟨Nat.lt_of_le_of_lt this h, by omega, by omega⟩
theorem div_7 {P n : Int} (p0 : 16 ≤ P) (p1 : P ≤ 600) (n0 : -9223372036854775808 ≤ n) (n1 : n ≤ 9223372036854775807) : ∃ u v c : Dy × Dy, Je P n = some u ∧ Je P 7 = some v ∧ Qm P u v = some c := by
 have hp : okP P = true := by unfold okP; simp; omega
 have h64 : n.natAbs < 2 ^ 64 := by
  have : (2 : Nat) ^ 64 = 18446744073709551616 := by decide
  omega
 have gu := Wu (decide (n < 0)) h64
 have gv := Wu false (m := 7) (by decide)
 obtain ⟨u1, u2, u3⟩ := Uk (s := decide (n < 0)) h64
 obtain ⟨v1, v2, v3⟩ := Uk (s := false) (m := 7) (by decide)
 have v0 : (Dh false 7 1000000).m ≠ 0 := by decide
 have vs : (Dh false 7 1000000).s = false := by decide
 obtain ⟨D, eD, fD⟩ := Bdn false gu gv v0 u1 u3 u2 v1 v3 v2 (by omega) p1
 obtain ⟨E, eE, fE⟩ := Bdn true gu gv v0 u1 u3 u2 v1 v3 v2 (by omega) p1
 have eu : (Dh (decide (n < 0)) n.natAbs 1000000).d = Ca n 0 := Bg6
 have ev : (Dh false 7 1000000).d = Ca 7 0 := Bg6 (n := 7)
 have r1 := Hm gu
 have r2 := Hm gv
 have sg := Xy gv vs v0
 rw [eu] at r1 eD eE
 rw [ev] at r2 sg eD eE
 refine ⟨(Ca n 0, Ca n 0), (Ca 7 0, Ca 7 0), _, ?_, ?_, Sr hp r1 r2 sg eD eD eE eE fD fD fE fE⟩
 ·unfold Je; rw [Co hp]
 ·unfold Je; rw [Co hp]
theorem Bjb (c : Dy × Dy) (A A' B B' : Option Addr) (n i n' i' m j m' j' : Nat) (w : World) (h : Arr w A n i (wd c.1.m)) (h' : Arr w A' n' i' (wd c.2.m)) (hB : Arr w B m j (wd c.1.m)) (hB' : Arr w B' m' j' (wd c.2.m)) :
  Calls Tryz.prog 11 #[(.agg #[.bool (c).1.neg, .slice A n i, .int .i64 (c).1.e, .bool (c).2.neg, .slice A' n' i', .int .i64 (c).2.e]), (.agg #[.bool (c).1.neg, .slice B m j, .int .i64 (c).1.e, .bool (c).2.neg, .slice B' m' j', .int .i64 (c).2.e])] w fun r w' => r = .returned (.bool true) ∧ Below w.heap.size w w' := by
 have R := Vs c.1.neg c.2.neg c.1.neg c.2.neg A A' B B' n i n' i' m j m' j' (wd c.1.m) (wd c.2.m) (wd c.1.m) (wd c.2.m) c.1.e c.2.e c.1.e c.2.e w h h' hB hB'
 rw [Mj] at R
 exact R
theorem Zm (P Q n : Int) (w : World) (n0 : -9223372036854775808 ≤ n) (n1' : n ≤ 9223372036854775807) (hT : Tz w) : Calls Tryz.prog 6 #[.int .i64 P, .int .i64 Q, .int .i64 n] w fun r w' => r = .returned (.bool true) ∧ Below w.heap.size w w' := by
 have AW := Be (Yx w hT)
 by_cases c1 : P < 16
 ·have d1 : decide (P < 16) = true := by simp; omega
  go_enter Tryz.func6, Tryz.ntmps6
  go_wp2_with fail
  refine AW.out.mono ?_
  rintro r w1 ⟨rfl, h1⟩
  go_wp2_with fail
  go_ret
  exact ⟨rfl, h1⟩
 have d1 : decide (P < 16) = false := by simp; omega
 by_cases c2 : 600 < P
 ·have d2 : decide (600 < P) = true := by simp; omega
  go_enter Tryz.func6, Tryz.ntmps6
  go_wp2_with fail
  refine AW.out.mono ?_
  rintro r w1 ⟨rfl, h1⟩
  go_wp2_with fail
  go_ret
  exact ⟨rfl, h1⟩
 have d2 : decide (600 < P) = false := by simp; omega
 by_cases c3 : Q < 16
 ·have d3 : decide (Q < 16) = true := by simp; omega
  go_enter Tryz.func6, Tryz.ntmps6
  go_wp2_with fail
  refine AW.out.mono ?_
  rintro r w1 ⟨rfl, h1⟩
  go_wp2_with fail
  go_ret
  exact ⟨rfl, h1⟩
 have d3 : decide (Q < 16) = false := by simp; omega
 by_cases c4 : 600 < Q
 ·have d4 : decide (600 < Q) = true := by simp; omega
  go_enter Tryz.func6, Tryz.ntmps6
  go_wp2_with fail
  refine AW.out.mono ?_
  rintro r w1 ⟨rfl, h1⟩
  go_wp2_with fail
  go_ret
  exact ⟨rfl, h1⟩
 have d4 : decide (600 < Q) = false := by simp; omega
 have hP : 16 ≤ P ∧ P ≤ 600 := by omega
 have hQ : 16 ≤ Q ∧ Q ≤ 600 := by omega
 obtain ⟨u, v, c, eu, ev, ec⟩ := div_7 hP.1 hP.2 n0 n1'
 obtain ⟨p, hp, p0, p1⟩ : ∃ p : Nat, P = (p : Int) ∧ 16 ≤ p ∧ p ≤ 600 := ⟨P.toNat, by omega, by omega, by omega⟩
 obtain ⟨q, hq, q0, q1⟩ : ∃ q : Nat, Q = (q : Int) ∧ 16 ≤ q ∧ q ≤ 600 := ⟨Q.toNat, by omega, by omega, by omega⟩
 obtain ⟨a, -, ea, -, ra, -, -, -, s1, s2⟩ := (Yn p0 p1).all
 obtain ⟨b, -, eb, -, rb, -, -, -, s3, s4⟩ := (Yn q0 q1).all
 obtain ⟨a', -, ea', -, ra', -, -, -, s5, s6⟩ := (Ym p0 p1).all
 obtain ⟨b', -, eb', -, rb', -, -, -, s7, s8⟩ := (Ym q0 q1).all
 have mab := Wy jPi_good.pl ra rb s1 s2 s3 s4
 have mab' := Wy jLn_good.pl ra' rb' s5 s6 s7 s8
 rw [← hp] at ea ea'
 rw [← hq] at eb eb'
 clear s1 s2 s3 s4 s5 s6 s7 s8 hp hq p0 p1 q0 q1 c1 c2 c3 c4
 go_enter Tryz.func6, Tryz.ntmps6
 go_wp2_with fail
 refine AW.out.mono ?_
 rintro r w1 ⟨rfl, h1⟩
 go_wp2_with fail
 refine (Sv P false w1).mono ?_
 rintro r w2 ⟨g1, rfl, hk1, h2, -⟩
 have bw := Bc h1 h2
 go_wp2_with fail
 refine (Sv Q false w2).mono ?_
 rintro r w3 ⟨g2, rfl, hk2, h3, -⟩
 have hk1 := hk1.later h3
 have bw := Bc bw h3
 clear h1 h2 h3 AW
 have ba : Below w3.heap.size w3 (w3.alloc (.cells #[.int .i64 P, .bool false] 38)) := Ba (Bb _) _
 have hk3 : Wk (w3.alloc (.cells #[.int .i64 P, .bool false] 38)) w3.heap.size P false 38 := Bg w3 #[.int .i64 P, .bool false] 38
 have hk1 := hk1.later ba
 have hk2 := hk2.later ba
 have bw := Bc bw ba
 clear ba
 go_wp2_with fail
 generalize w3.alloc (.cells #[.int .i64 P, .bool false] 38) = w4 at *
 generalize w3.heap.size = g3 at *
 have bD : Below w4.heap.size w4 w4.drew := Below.drew (Bb _)
 refine wp_region_noPanic ?_
 refine wp_region_held_drew (S := fun w' => w'.cell? ⟨g1, 1, none⟩ = some (.bool false) ∧ w'.cell? ⟨g2, 1, none⟩ = some (.bool false)) (by kernel_rfl) ⟨(hk1.later bD).cells.2.1, (hk2.later bD).cells.2.1⟩ (fun hHeld => ?_)
 (have hk1 := hk1.later bD; have hk2 := hk2.later bD; have hk3 := hk3.later bD; have bw := Bc bw bD)
 (refine Bj 0 33 rfl ?_; (try simp only [Act.put, Bf]))
 (refine Bj 2 35 rfl ?_; (try simp only [Act.put, Bf]))
 refine Bw 1 rfl (fun K hK => ?_)
 go_simp
 go_at_call 20
 refine (sepi g1 P a _ hk1 (hT.below bw) (by omega) (by omega) ea).mono ?_
 rintro r w1 ⟨A1, n1, i1, A2, n2, i2, rfl, a1, a2, hb⟩
 (have hk1 := hk1.later hb; have hk2 := hk2.later hb; have hk3 := hk3.later hb; have bw := Bc bw hb)
 clear hb
 (refine hK.out _ _ (⟨hk1.cells.2.1, hk2.cells.2.1⟩) (fun _ => ?_); clear hHeld hK K; rename_i hHeld; (try simp only [Act.put, Bf]))
 refine Bw 3 rfl (fun K hK => ?_)
 go_simp
 go_at_call 20
 refine (sepi g2 Q b _ hk2 (hT.below bw) (by omega) (by omega) eb).mono ?_
 rintro r w3 ⟨B1, m1, j1, B2, m2, j2, rfl, b1, b2, hb⟩
 (have hk1 := hk1.later hb; have hk2 := hk2.later hb; have hk3 := hk3.later hb; have bw := Bc bw hb)
 have a1 := a1.below hb
 have a2 := a2.below hb
 clear hb
 (refine hK.out _ _ (⟨hk1.cells.2.1, hk2.cells.2.1⟩) (fun _ => ?_); clear hHeld hK K; rename_i hHeld; (try simp only [Act.put, Bf]))
 refine Bw 4 rfl (fun K hK => ?_)
 go_simp
 go_at_call 26
 refine (Bee a b A1 A2 B1 B2 n1 i1 n2 i2 m1 j1 m2 j2 _ a1 a2 b1 b2 ra rb mab).mono ?_
 rintro r w4 ⟨rfl, hb⟩
 (have hk1 := hk1.later hb; have hk2 := hk2.later hb; have hk3 := hk3.later hb; have bw := Bc bw hb)
 clear hb
 (refine hK.out _ _ (⟨hk1.cells.2.1, hk2.cells.2.1⟩) (fun _ => ?_); clear hHeld hK K; rename_i hHeld; (try simp only [Act.put, Bf]))
 clear a1 a2 b1 b2
 (refine Bj 5 38 rfl ?_; (try simp only [Act.put, Bf]))
 (refine Bj 6 39 rfl ?_; (try simp only [Act.put, Bf]))
 (refine Bj 8 41 rfl ?_; (try simp only [Act.put, Bf]))
 refine Bw 7 rfl (fun K hK => ?_)
 go_simp
 go_at_call 24
 refine (Bel g1 P a' _ hk1 (hT.below bw) (by omega) (by omega) ea').mono ?_
 rintro r w7 ⟨C1, n3, i3, C2, n4, i4, rfl, a1, a2, hb⟩
 (have hk1 := hk1.later hb; have hk2 := hk2.later hb; have hk3 := hk3.later hb; have bw := Bc bw hb)
 clear hb
 (refine hK.out _ _ (⟨hk1.cells.2.1, hk2.cells.2.1⟩) (fun _ => ?_); clear hHeld hK K; rename_i hHeld; (try simp only [Act.put, Bf]))
 refine Bw 9 rfl (fun K hK => ?_)
 go_simp
 go_at_call 24
 refine (Bel g2 Q b' _ hk2 (hT.below bw) (by omega) (by omega) eb').mono ?_
 rintro r w9 ⟨D1, m3, j3, D2, m4, j4, rfl, b1, b2, hb⟩
 (have hk1 := hk1.later hb; have hk2 := hk2.later hb; have hk3 := hk3.later hb; have bw := Bc bw hb)
 have a1 := a1.below hb
 have a2 := a2.below hb
 clear hb
 (refine hK.out _ _ (⟨hk1.cells.2.1, hk2.cells.2.1⟩) (fun _ => ?_); clear hHeld hK K; rename_i hHeld; (try simp only [Act.put, Bf]))
 refine Bw 10 rfl (fun K hK => ?_)
 go_simp
 go_at_call 26
 refine (Bee a' b' C1 C2 D1 D2 n3 i3 n4 i4 m3 j3 m4 j4 _ a1 a2 b1 b2 ra' rb' mab').mono ?_
 rintro r w10 ⟨rfl, hb⟩
 (have hk1 := hk1.later hb; have hk2 := hk2.later hb; have hk3 := hk3.later hb; have bw := Bc bw hb)
 clear hb
 (refine hK.out _ _ (⟨hk1.cells.2.1, hk2.cells.2.1⟩) (fun _ => ?_); clear hHeld hK K; rename_i hHeld; (try simp only [Act.put, Bf]))
 clear a1 a2 b1 b2
 (refine Bj 11 44 rfl ?_; (try simp only [Act.put, Bf]))
 (refine Bj 12 45 rfl ?_; (try simp only [Act.put, Bf]))
 (refine Bj 13 46 rfl ?_; (try simp only [Act.put, Bf]))
 (refine Bj 14 47 rfl ?_; (try simp only [Act.put, Bf]))
 (refine Bj 15 48 rfl ?_; (try simp only [Act.put, Bf]))
 (refine Bj 16 49 rfl ?_; (try simp only [Act.put, Bf]))
 (refine Bj 17 50 rfl ?_; (try simp only [Act.put, Bf]))
 (refine Bj 18 51 rfl ?_; (try simp only [Act.put, Bf]))
 (refine Bj 19 52 rfl ?_; (try simp only [Act.put, Bf]))
 (refine Bj 21 54 rfl ?_; (try simp only [Act.put, Bf]))
 (refine Bj 22 55 rfl ?_; (try simp only [Act.put, Bf]))
 (refine Bj 23 56 rfl ?_; (try simp only [Act.put, Bf]))
 (refine Bj 26 59 rfl ?_; (try simp only [Act.put, Bf]))
 (refine Bj 27 60 rfl ?_; (try simp only [Act.put, Bf]))
 (refine Bj 28 61 rfl ?_; (try simp only [Act.put, Bf]))
 (refine Bj 30 63 rfl ?_; (try simp only [Act.put, Bf]))
 refine Bw 20 rfl (fun K hK => ?_)
 go_simp
 go_at_call 28
 refine (Wc g1 P u n _ n0 n1' hk1 (hT.below bw) eu).mono ?_
 rintro r w20 ⟨E1, n5, i5, E2, n6, i6, rfl, a1, a2, hb⟩
 (have hk1 := hk1.later hb; have hk2 := hk2.later hb; have hk3 := hk3.later hb; have bw := Bc bw hb)
 clear hb
 (refine hK.out _ _ (⟨hk1.cells.2.1, hk2.cells.2.1⟩) (fun _ => ?_); clear hHeld hK K; rename_i hHeld; (try simp only [Act.put, Bf]))
 refine Bw 24 rfl (fun K hK => ?_)
 go_simp
 go_at_call 28
 refine (Wc g1 P v 7 _ (by omega) (by omega) hk1 (hT.below bw) ev).mono ?_
 rintro r w24 ⟨F1, m5, j5, F2, m6, j6, rfl, b1, b2, hb⟩
 (have hk1 := hk1.later hb; have hk2 := hk2.later hb; have hk3 := hk3.later hb; have bw := Bc bw hb)
 have a1 := a1.below hb
 have a2 := a2.below hb
 clear hb
 (refine hK.out _ _ (⟨hk1.cells.2.1, hk2.cells.2.1⟩) (fun _ => ?_); clear hHeld hK K; rename_i hHeld; (try simp only [Act.put, Bf]))
 refine Bw 25 rfl (fun K hK => ?_)
 go_simp
 go_at_call 27
 refine (yDiv g1 P c u v E1 E2 n5 i5 n6 i6 F1 F2 m5 j5 m6 j6 _ a1 a2 b1 b2 hk1 (hT.below bw) ec).mono ?_
 rintro r w25 ⟨G1, n7, i7, G2, n8, i8, rfl, c1, c2, hb⟩
 (have hk1 := hk1.later hb; have hk2 := hk2.later hb; have hk3 := hk3.later hb; have bw := Bc bw hb)
 clear hb
 (refine hK.out _ _ (⟨hk1.cells.2.1, hk2.cells.2.1⟩) (fun _ => ?_); clear hHeld hK K; rename_i hHeld; (try simp only [Act.put, Bf]))
 clear a1 a2 b1 b2
 refine Bw 29 rfl (fun K hK => ?_)
 go_simp
 go_at_call 30
 refine (Ql g3 P u n _ n0 n1' hk3 eu).mono ?_
 rintro r w29 ⟨H1, n9, i9, H2, n10, i10, rfl, a1, a2, hb⟩
 (have hk1 := hk1.later hb; have hk2 := hk2.later hb; have hk3 := hk3.later hb; have bw := Bc bw hb)
 have c1 := c1.below hb
 have c2 := c2.below hb
 clear hb
 (refine hK.out _ _ (⟨hk1.cells.2.1, hk2.cells.2.1⟩) (fun _ => ?_); clear hHeld hK K; rename_i hHeld; (try simp only [Act.put, Bf]))
 refine Bw 31 rfl (fun K hK => ?_)
 go_simp
 go_at_call 30
 refine (Ql g3 P v 7 _ (by omega) (by omega) hk3 ev).mono ?_
 rintro r w31 ⟨I1, m7, j7, I2, m8, j8, rfl, b1, b2, hb⟩
 (have hk1 := hk1.later hb; have hk2 := hk2.later hb; have hk3 := hk3.later hb; have bw := Bc bw hb)
 have a1 := a1.below hb
 have a2 := a2.below hb
 have c1 := c1.below hb
 have c2 := c2.below hb
 clear hb
 (refine hK.out _ _ (⟨hk1.cells.2.1, hk2.cells.2.1⟩) (fun _ => ?_); clear hHeld hK K; rename_i hHeld; (try simp only [Act.put, Bf]))
 refine Bw 32 rfl (fun K hK => ?_)
 go_simp
 go_at_call 29
 refine (Bch g3 P c u v H1 H2 n9 i9 n10 i10 I1 I2 m7 j7 m8 j8 _ a1 a2 b1 b2 hk3 ec).mono ?_
 rintro r w32 ⟨J1, n11, i11, J2, n12, i12, rfl, d1, d2, hb⟩
 (have hk1 := hk1.later hb; have hk2 := hk2.later hb; have hk3 := hk3.later hb; have bw := Bc bw hb)
 have c1 := c1.below hb
 have c2 := c2.below hb
 clear hb
 (refine hK.out _ _ (⟨hk1.cells.2.1, hk2.cells.2.1⟩) (fun _ => ?_); clear hHeld hK K; rename_i hHeld; (try simp only [Act.put, Bf]))
 refine Bw 33 rfl (fun K hK => ?_)
 go_simp
 go_at_call 11
 refine (Bjb c G1 G2 J1 J2 n7 i7 n8 i8 n11 i11 n12 i12 _ c1 c2 d1 d2).mono ?_
 rintro r w33 ⟨rfl, hb⟩
 (have hk1 := hk1.later hb; have hk2 := hk2.later hb; have hk3 := hk3.later hb; have bw := Bc bw hb)
 clear hb
 (refine hK.out _ _ (⟨hk1.cells.2.1, hk2.cells.2.1⟩) (fun _ => ?_); clear hHeld hK K; rename_i hHeld; (try simp only [Act.put, Bf]))
 (refine Bj 34 67 rfl ?_; (try simp only [Act.put, Bf]))
 (refine Bj 35 68 rfl ?_; (try simp only [Act.put, Bf]))
 (refine Bj 36 69 rfl ?_; (try simp only [Act.put, Bf]))
 (refine Bj 37 70 rfl ?_; (try simp only [Act.put, Bf]))
 (refine Bj 38 71 rfl ?_; (try simp only [Act.put, Bf]))
 (refine Bj 39 72 rfl ?_; (try simp only [Act.put, Bf]))
 (refine Bj 40 73 rfl ?_; (try simp only [Act.put, Bf]))
 (refine Bj 41 74 rfl ?_; (try simp only [Act.put, Bf]))
 (refine Bj 42 75 rfl ?_; (try simp only [Act.put, Bf]))
 (refine Bj 43 76 rfl ?_; (try simp only [Act.put, Bf]))
 (refine Bj 44 77 rfl ?_; (try simp only [Act.put, Bf]))
 (refine Bj 45 78 rfl ?_; (try simp only [Act.put, Bf]))
 (refine Bj 46 79 rfl ?_; (try simp only [Act.put, Bf]))
 (refine Bj 47 80 rfl ?_; (try simp only [Act.put, Bf]))
 (refine Bj 48 81 rfl ?_; (try simp only [Act.put, Bf]))
 (refine Bj 49 82 rfl ?_; (try simp only [Act.put, Bf]))
 (refine Bj 50 83 rfl ?_; (try simp only [Act.put, Bf]))
 refine Bw 51 rfl (fun K hK => ?_)
 go_simp
 (refine hK.out _ _ (⟨hk1.cells.2.1, hk2.cells.2.1⟩) (fun _ => ?_); clear hHeld hK K; rename_i hHeld; (try simp only [Act.put, Bf]))
 refine Cn ?_
 clear hHeld
 go_wp2_with fail
 go_ret
 exact ⟨rfl, bw⟩
end Go.Proofs.YteffemhapnbaeaaGreatDoor
