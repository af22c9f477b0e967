/- A text of ours, with only what the claim's row needs (wip/tools/shake.py). -/
import Derived.Test.YteffemhapnbaeaaGreatDoorNF
import Derived.Test.YteffemhapnbaeaaGreatDoorNK
namespace Go.Proofs.YteffemhapnbaeaaGreatDoor
open Go.RowKit Num
set_option linter.unusedSimpArgs false
set_option linter.unusedVariables false
set_option maxRecDepth 100000

theorem addC_sym {a b : Dy} : addC a b = addC b a := by
  rw [addC_can a b (min a.e b.e) (.inr (by omega)) (.inr (by omega)), addC_can b a (min a.e b.e) (.inr (by omega)) (.inr (by omega)), Int.add_comm]
theorem DVof_dy {a : Dy} (h : 0 ≤ a.m) : (DVof a).dy = a := by
  show (⟨a.neg, val (wd a.m), a.e⟩ : Dy) = a
  rw [val_wd _ h]
theorem sum2_is {a b : Dy} (ha : PlD a) (hb : PlD b) (ea : -100000 ≤ a.e ∧ a.e ≤ 100000) (eb : -100000 ≤ b.e ∧ b.e ≤ 100000) (hc : PlD (addC a b)) : sum2 a b = some (addC a b) := by
  have z : ∀ d : Dy, PlD d → (wd d.m).length = 0 → d.m = 0 := fun d hd h => by
    have h1 := wd_eq_nil.1 (List.length_eq_zero_iff.1 h)
    have := hd.2
    omega
  have hl : lo [DVof a, DVof b] = loF (loF 262144 (DVof a)) (DVof b) := rfl
  have hh : hi [DVof a, DVof b] = hiF (hiF (-262144) (DVof a)) (DVof b) := rfl
  have na : (DVof a).n = (wd a.m).length := rfl
  have nb : (DVof b).n = (wd b.m).length := rfl
  have ea' : (DVof a).e = a.e := rfl
  have eb' : (DVof b).e = b.e := rfl
  have key : -262144 ≤ lo [DVof a, DVof b] ∧ lo [DVof a, DVof b] ≤ 262144 ∧ hi [DVof a, DVof b] - lo [DVof a, DVof b] ≤ 262144 ∧ (a.m = 0 ∨ lo [DVof a, DVof b] ≤ a.e) ∧ (b.m = 0 ∨ lo [DVof a, DVof b] ≤ b.e) := by
    rw [hl, hh]
    unfold loF hiF
    rw [na, nb, ea', eb']
    by_cases h1 : (wd a.m).length = 0
    · have := z a ha h1
      by_cases h2 : (wd b.m).length = 0
      · have := z b hb h2
        simp only [h1, h2, if_true]
        omega
      · simp only [h1, h2, if_true, if_false]
        omega
    · by_cases h2 : (wd b.m).length = 0
      · have := z b hb h2
        simp only [h1, h2, if_true, if_false]
        omega
      · simp only [h1, h2, if_false]
        omega
  obtain ⟨k1, k2, k3, k4, k5⟩ := key
  have ht : tot (lo [DVof a, DVof b]) [DVof a, DVof b] = sval a (lo [DVof a, DVof b]) + sval b (lo [DVof a, DVof b]) := by
    show 0 + sval (DVof a).dy _ + sval (DVof b).dy _ = _
    rw [DVof_dy ha.2, DVof_dy hb.2, Int.zero_add]
  unfold sum2
  rw [sum_can (by
    show ((DVof a).plain && ((DVof b).plain && true)) = true
    have p1 : (DVof a).plain = true := ha.1
    have p2 : (DVof b).plain = true := hb.1
    rw [p1, p2]; rfl) (by
    intro d hd h0
    simp only [List.mem_cons, List.not_mem_nil, or_false] at hd
    rcases hd with rfl | rfl
    · show val (wd a.m) = 0
      rw [val_wd _ ha.2]; exact z a ha h0
    · show val (wd b.m) = 0
      rw [val_wd _ hb.2]; exact z b hb h0) k1 k2, if_neg (by omega), ht, ← addC_can a b _ k4 k5, hc.1, if_pos rfl]
theorem cutY_is {d : Dy} (h : PlD d) {P : Int} (h1 : 1 ≤ P) (h2 : P ≤ 8192) (up : Bool) : cutY d P up = cutD d.neg d.m d.e false P up := by
  unfold cutY cutO rightB
  rw [h.1, decide_eq_true h1, decide_eq_true h2, val_wd _ h.2]
  rfl
theorem both_is {a b : Dy} (hc : PlD (addC a b)) {P : Int} (h1 : 1 ≤ P) (h2 : P ≤ 8192) (up : Bool) : bothO P up a b = cutY (addC a b) P up := (cutY_is hc h1 h2 up).symm
theorem bl_grow {v r : Int} {k : Nat} (hv : 0 < v) (h0 : 0 ≤ r) (h1 : r < pw k) : bl (v * pw k + r) = bl v + k := by
  obtain ⟨a, e, q1, q2⟩ := bl_spec hv
  have hk := pw_pos k
  rw [e]
  have := bl_unique (v := v * pw k + r) (a := a + k) (by
    rw [pw_add]
    have := Int.mul_le_mul_of_nonneg_right q1 (Int.le_of_lt hk)
    omega) (by
    rw [show a + k + 1 = a + 1 + k by omega, pw_add]
    have : (v + 1) * pw k ≤ pw (a + 1) * pw k := Int.mul_le_mul_of_nonneg_right (by omega) (Int.le_of_lt hk)
    rw [Int.add_mul, Int.one_mul] at this
    omega)
  rw [this]
  omega
theorem cut_args {neg up : Bool} {v P : Int} (hc : 0 < bl v - P) (hi : v / pw (bl v - P).toNat * pw (bl v - P).toNat ≠ v) : cutN neg v false P up = (if neg != up then v / pw (bl v - P).toNat + 1 else v / pw (bl v - P).toNat) ∧ cutK v P = (bl v - P).toNat := by
  refine ⟨?_, rfl⟩
  have hr : cutR v (bl v - P) false = true := by
    unfold cutR
    rw [decide_eq_true hc]
    simp only [Bool.false_or, Bool.true_and, decide_eq_true_eq]
    exact hi
  have hq : cutQ v (bl v - P) = v / pw (bl v - P).toNat := if_pos hc
  unfold cutN
  rw [hr, hq, Bool.true_and]
/-- The same quotient, the same place: the same cut. -/
theorem cut_same {neg up : Bool} {v1 v2 e1 e2 P : Int} (c1 : 0 < bl v1 - P) (c2 : 0 < bl v2 - P) (i1 : v1 / pw (bl v1 - P).toNat * pw (bl v1 - P).toNat ≠ v1) (i2 : v2 / pw (bl v2 - P).toNat * pw (bl v2 - P).toNat ≠ v2)
    (hq : v1 / pw (bl v1 - P).toNat = v2 / pw (bl v2 - P).toNat) (he : e1 + (bl v1 - P) = e2 + (bl v2 - P)) : cutD neg v1 e1 false P up = cutD neg v2 e2 false P up := by
  obtain ⟨n1, k1⟩ := cut_args (neg := neg) (up := up) c1 i1
  obtain ⟨n2, k2⟩ := cut_args (neg := neg) (up := up) c2 i2
  rw [cutD_eq, cutD_eq, n1, n2, k1, k2, hq]
  congr 1
  omega
theorem div_pw_pw (v : Int) (a b : Nat) : v / pw (a + b) = v / pw a / pw b := by
  rw [pw_add, Int.ediv_ediv_of_nonneg (Int.le_of_lt (pw_pos a))]
/-- Zeros at the low end play no part, where something is cut away. -/
theorem cut_scale {neg up : Bool} {m e P : Int} {j : Nat} (hm : 0 < m) (hc : 0 < bl m - P) (hi : m / pw (bl m - P).toNat * pw (bl m - P).toNat ≠ m) : cutD neg (m * pw j) e false P up = cutD neg m (e + j) false P up := by
  have hb := bl_grow (r := 0) (k := j) hm (Int.le_refl _) (pw_pos j)
  rw [Int.add_zero] at hb
  have hn : (bl (m * pw j) - P).toNat = j + (bl m - P).toNat := by rw [hb]; omega
  have hq : m * pw j / pw (bl (m * pw j) - P).toNat = m / pw (bl m - P).toNat := by
    rw [hn, div_pw_pw, Int.mul_ediv_cancel _ (Int.ne_of_gt (pw_pos j))]
  refine cut_same (by rw [hb]; omega) hc ?_ hi hq (by rw [hb]; omega)
  rw [hq, hn, pw_add]
  intro h
  apply hi
  have hp := pw_pos j
  refine Int.eq_of_mul_eq_mul_right (Int.ne_of_gt hp) ?_
  rw [← h, Int.mul_assoc, Int.mul_comm (pw j)]
end Go.Proofs.YteffemhapnbaeaaGreatDoor
namespace Go.Proofs.YteffemhapnbaeaaGreatDoor
open Go.RowKit Num
set_option linter.unusedSimpArgs false
set_option linter.unusedVariables false
set_option maxRecDepth 100000

theorem can_plain {S M : Int} (h : ((S.natAbs : Nat) : Int) < pw 16384) (h0 : -200000 ≤ M) (h1 : M ≤ 200000) : PlD (canD S M) := by
  have hl : (wd (S.natAbs : Int)).length ≤ 256 := len_of_pw (a := 16384) (by omega) h (by decide)
  have hs : sgn (decide (S < 0)) (S.natAbs : Int) = S := by
    by_cases hn : S < 0
    · rw [decide_eq_true hn]; show -(S.natAbs : Int) = S; omega
    · rw [decide_eq_false hn]; show (S.natAbs : Int) = S; omega
  have hm := mkD_some (decide (S < 0)) (v := (S.natAbs : Int)) (e := M) (by omega) hl h0 h1
  rw [hs] at hm
  exact mk_plain (by omega) hm
theorem addC_pl {a b : Dy} {M : Int} {K : Nat} (ha : a.m = 0 ∨ M ≤ a.e) (hb : b.m = 0 ∨ M ≤ b.e) (na : 0 ≤ a.m) (nb : 0 ≤ b.m) (la : lev a.m a.e M < pw K) (lb : lev b.m b.e M < pw K) (hK : K + 1 ≤ 16384) (h0 : -200000 ≤ M) (h1 : M ≤ 200000) :
    PlD (addC a b) ∧ (((sval a M + sval b M).natAbs : Nat) : Int) < pw (K + 1) := by
  have s1 := sval_abs na M
  have s2 := sval_abs nb M
  have hS : (((sval a M + sval b M).natAbs : Nat) : Int) < pw (K + 1) := by rw [pw_succ2]; omega
  refine ⟨?_, hS⟩
  rw [addC_can a b M ha hb]
  exact can_plain (Int.lt_of_lt_of_le hS (pw_le hK)) h0 h1
theorem lev_topD {D : Dy} {M : Int} (h : 0 ≤ D.m) (h0 : D.m ≠ 0) (hM : M ≤ D.e) : lev D.m D.e M < pw (topD D - M).toNat := by
  have ht : topD D = bl D.m + D.e := if_neg h0
  have hb := bl_nonneg D.m
  have := lev_lt (a := (bl D.m).toNat) (k := (D.e - M).toNat) h (pow_bl h) (Nat.le_refl _)
  rw [show (topD D - M).toNat = (bl D.m).toNat + (D.e - M).toNat by omega]
  exact this
theorem bl_small {D : Dy} (h : PlD D) (hl : (wd D.m).length ≤ 20) : bl D.m ≤ 1280 := by
  refine bl_lt h.2 ?_
  have := lt_pow_of_wd_length h.2 hl
  rw [B_pow_pw] at this
  exact this
/-- A cut of a plain number is there. -/
theorem cut_some {d : Dy} (h : PlD d) {P : Int} (up : Bool) (h1 : 1 ≤ P) (h2 : P ≤ 600) (e0 : -50000 ≤ d.e) (e1 : d.e ≤ 50000) : ∃ D, cutY d P up = some D := by
  rw [cutY_is h h1 (by omega)]
  have hb : bl d.m ≤ 16384 := bl_lt h.2 h.lt
  exact ⟨_, (cut_is d.neg h.2 false up h1 h2 (by omega) e0 e1).1⟩
theorem can_e {S M : Int} {K : Nat} (h : ((S.natAbs : Nat) : Int) < pw (64 * K)) (h0 : -40000 ≤ M) (h1 : M + 64 * K ≤ 50000) (h2 : M ≤ 50000) : -50000 ≤ (canD S M).e ∧ (canD S M).e ≤ 50000 := by
  obtain ⟨-, -, c3, c4⟩ := can_small (L := M) h
  by_cases hs : S = 0
  · rw [c4 hs]; omega
  · have := c3 hs; omega
theorem core_near {G S : Dy} {P : Int} {up : Bool} (hG : PlD G) (hS : PlD S) (lG : (wd G.m).length ≤ 20) (lS : (wd S.m).length ≤ 20) (g0 : -20000 ≤ G.e) (g1 : G.e ≤ 20000) (s0 : -20000 ≤ S.e) (s1 : S.e ≤ 20000) (h1 : 1 ≤ P) (h2 : P ≤ 500)
    (ht : topD S ≤ topD G) (hn : ¬ (S.m ≠ 0 ∧ topD S < min G.e (topD G - P) - 3)) : ∃ s D, sum2 G S = some s ∧ cutY s P up = some D ∧ bothO P up G S = some D := by
  have bG := bl_small hG lG
  have bS := bl_small hS lS
  have nG := bl_nonneg G.m
  have nS := bl_nonneg S.m
  have key : ∃ M : Int, (G.m = 0 ∨ M ≤ G.e) ∧ (S.m = 0 ∨ M ≤ S.e) ∧ lev G.m G.e M < pw 2600 ∧ lev S.m S.e M < pw 2600 ∧ -30000 ≤ M ∧ M ≤ 30000 := by
    by_cases zS : S.m = 0
    · refine ⟨G.e, .inr (Int.le_refl _), .inl zS, ?_, ?_, by omega, by omega⟩
      · rw [lev_self]
        exact Int.lt_of_lt_of_le (pow_bl hG.2) (pw_le (by omega))
      · rw [zS, lev_zero]; exact pw_pos _
    · by_cases zG : G.m = 0
      · refine ⟨S.e, .inl zG, .inr (Int.le_refl _), ?_, ?_, by omega, by omega⟩
        · rw [zG, lev_zero]; exact pw_pos _
        · rw [lev_self]
          exact Int.lt_of_lt_of_le (pow_bl hS.2) (pw_le (by omega))
      · have tG : topD G = bl G.m + G.e := if_neg zG
        have tS : topD S = bl S.m + S.e := if_neg zS
        have hb : min G.e (topD G - P) - 3 ≤ topD S := by
          by_cases hh : topD S < min G.e (topD G - P) - 3
          · exact absurd ⟨zS, hh⟩ hn
          · omega
        refine ⟨min G.e S.e, .inr (by omega), .inr (by omega), ?_, ?_, by omega, by omega⟩
        · exact Int.lt_of_lt_of_le (lev_topD hG.2 zG (by omega)) (pw_le (by omega))
        · exact Int.lt_of_lt_of_le (lev_topD hS.2 zS (by omega)) (pw_le (by omega))
  obtain ⟨M, k1, k2, k3, k4, k5, k6⟩ := key
  obtain ⟨hp, hlt⟩ := addC_pl k1 k2 hG.2 hS.2 k3 k4 (by decide) (by omega) (by omega)
  have hc := addC_can G S M k1 k2
  have he := can_e (M := M) (K := 41) (Int.lt_of_lt_of_le hlt (pw_le (by decide))) (by omega) (by omega) (by omega)
  rw [← hc] at he
  obtain ⟨D, hD⟩ := cut_some hp up h1 (by omega) he.1 he.2
  exact ⟨addC G S, D, sum2_is hG hS ⟨by omega, by omega⟩ ⟨by omega, by omega⟩ hp, hD, by rw [both_is hp h1 (by omega)]; exact hD⟩
/-- A cut of a number does not ask how its zeros are written. -/
theorem cut_canD {V M P : Int} {up : Bool} (hV : V ≠ 0) (hc : 0 < bl (V.natAbs : Int) - P) (hi : (V.natAbs : Int) / pw (bl (V.natAbs : Int) - P).toNat * pw (bl (V.natAbs : Int) - P).toNat ≠ (V.natAbs : Int)) :
    cutD (canD V M).neg (canD V M).m (canD V M).e false P up = cutD (decide (V < 0)) (V.natAbs : Int) M false P up := by
  have hp : (0 : Int) < (V.natAbs : Int) := by omega
  have hcan : canD V M = ⟨decide (V < 0), oddI (V.natAbs : Int), M + tz (V.natAbs : Int)⟩ := by unfold canD; rw [if_neg hV]
  rw [hcan]
  obtain ⟨o1, o2, o3⟩ := odd_split hp
  generalize (V.natAbs : Int) = v at *
  generalize tz v = j at *
  generalize oddI v = m at *
  rw [Int.mul_comm] at o1
  have hb := bl_grow (r := 0) (k := j) o3 (Int.le_refl _) (pw_pos j)
  rw [Int.add_zero, ← o1] at hb
  have c2 : 0 < bl m - P := by
    by_cases hh : 0 < bl m - P
    · exact hh
    · exfalso
      apply hi
      obtain ⟨c, hcd⟩ : ∃ c, c = (bl v - P).toNat := ⟨_, rfl⟩
      obtain ⟨d, hd⟩ : ∃ d, j = c + d := ⟨j - c, by omega⟩
      have hv : v = m * pw d * pw c := by rw [o1, hd, pw_add, Int.mul_assoc, Int.mul_comm (pw c)]
      rw [← hcd, hv, Int.mul_ediv_cancel _ (Int.ne_of_gt (pw_pos c))]
  have i2 : m / pw (bl m - P).toNat * pw (bl m - P).toNat ≠ m := by
    intro hh
    apply hi
    have hn : (bl v - P).toNat = j + (bl m - P).toNat := by omega
    rw [hn, div_pw_pw]
    conv => lhs; rw [o1, Int.mul_ediv_cancel _ (Int.ne_of_gt (pw_pos j)), pw_add, Int.mul_comm (pw j), ← Int.mul_assoc, hh]
    exact o1.symm
  have := cut_scale (neg := decide (V < 0)) (up := up) (e := M) (j := j) o3 c2 i2
  rw [← o1] at this
  exact this.symm
theorem odd_inexact {v : Int} {C : Nat} (hv : v % 2 = 1) (hC : 1 ≤ C) : v / pw C * pw C ≠ v := by
  obtain ⟨c, rfl⟩ : ∃ c, C = c + 1 := ⟨C - 1, by omega⟩
  intro h
  rw [pw_add] at h
  have e2 : pw 1 = 2 := by decide
  rw [e2, ← Int.mul_assoc] at h
  omega
theorem bl_ge {v : Int} {a : Nat} (h : pw a ≤ v) : (a : Int) + 1 ≤ bl v := by
  have hp := pw_pos a
  obtain ⟨b, e, q1, q2⟩ := bl_spec (v := v) (by omega)
  rw [e]
  have : a < b + 1 := by
    have h3 : pw a < pw (b + 1) := by omega
    exact pw_lt_iff.1 h3
  omega
/-- One that is far below the last bit counts by its sign alone. -/
theorem aside {g s : Int} {k P : Nat} {h : Int} {up : Bool} {M L : Int} (hg : (g.natAbs : Int) = h * 8) (hb : pw (P + 2) ≤ (g.natAbs : Int)) (s0 : s ≠ 0) (s1 : (s.natAbs : Int) < pw k) (hP : 1 ≤ P) (hL : L = M + k) :
    cutD (canD (g * pw k + s) M).neg (canD (g * pw k + s) M).m (canD (g * pw k + s) M).e false P up = cutD (canD (g + (if s < 0 then -1 else 1)) L).neg (canD (g + (if s < 0 then -1 else 1)) L).m (canD (g + (if s < 0 then -1 else 1)) L).e false P up := by
  have hk := pw_pos k
  have hp2 := pw_pos (P + 2)
  have e4 : pw (P + 2) = 2 * pw (P + 1) := by rw [show P + 2 = P + 1 + 1 from rfl, pw_succ2]; omega
  have e5 := pw_pos (P + 1)
  have e6 : 2 ≤ pw (P + 1) := by
    have : pw 1 ≤ pw (P + 1) := pw_le (by omega)
    have e2 : pw 1 = 2 := by decide
    omega
  -- the quotient and what is left of the exact sum
  obtain ⟨q, r, hq0, hr0, hr1, hv1, hv2, hsg, hbl⟩ : ∃ q r : Int, 0 < q ∧ 0 < r ∧ r < pw k ∧ ((g * pw k + s).natAbs : Int) = q * pw k + r ∧ (((g + (if s < 0 then -1 else 1)).natAbs : Int) = q ∧ q = h * 8 - 1 ∨ ((g + (if s < 0 then -1 else 1)).natAbs : Int) = q + 1 ∧ q = h * 8) ∧ decide (g * pw k + s < 0) = decide (g + (if s < 0 then -1 else 1) < 0) ∧ pw (P + 1) ≤ q := by
    have hmul : ((g * pw k).natAbs : Int) = (g.natAbs : Int) * pw k := by rw [Int.natAbs_mul, Int.natCast_mul, Int.natAbs_of_nonneg (Int.le_of_lt hk)]
    have hbig : pw k ≤ (g.natAbs : Int) * pw k := by
      have := Int.mul_le_mul_of_nonneg_right (show (1 : Int) ≤ (g.natAbs : Int) by omega) (Int.le_of_lt hk)
      omega
    have hsub : ((g.natAbs : Int) - 1) * pw k = (g.natAbs : Int) * pw k - pw k := by rw [Int.sub_mul, Int.one_mul]
    generalize hgk : g * pw k = gk at *
    have hsign : (g < 0 ↔ gk < 0) := by
      constructor
      · intro hh
        rw [← hgk]
        exact Int.mul_neg_of_neg_of_pos hh hk
      · intro hh
        by_cases hg0 : g < 0
        · exact hg0
        · have := Int.mul_nonneg (show 0 ≤ g by omega) (Int.le_of_lt hk)
          omega
    by_cases gn : g < 0
    · have gkn := hsign.1 gn
      by_cases sn : s < 0
      · rw [if_pos sn]
        refine ⟨(g.natAbs : Int), (s.natAbs : Int), by omega, by omega, s1, by omega, .inr ⟨by omega, hg⟩, ?_, by omega⟩
        rw [decide_eq_true (show gk + s < 0 by omega), decide_eq_true (show g + -1 < 0 by omega)]
      · rw [if_neg sn]
        refine ⟨(g.natAbs : Int) - 1, pw k - (s.natAbs : Int), by omega, by omega, by omega, by rw [hsub]; omega, .inl ⟨by omega, by omega⟩, ?_, by omega⟩
        rw [decide_eq_true (show gk + s < 0 by omega), decide_eq_true (show g + 1 < 0 by omega)]
    · have gkn : ¬ gk < 0 := fun hh => gn (hsign.2 hh)
      by_cases sn : s < 0
      · rw [if_pos sn]
        refine ⟨(g.natAbs : Int) - 1, pw k - (s.natAbs : Int), by omega, by omega, by omega, by rw [hsub]; omega, .inl ⟨by omega, by omega⟩, ?_, by omega⟩
        rw [decide_eq_false (show ¬ gk + s < 0 by omega), decide_eq_false (show ¬ g + -1 < 0 by omega)]
      · rw [if_neg sn]
        refine ⟨(g.natAbs : Int), (s.natAbs : Int), by omega, by omega, s1, by omega, .inr ⟨by omega, hg⟩, ?_, by omega⟩
        rw [decide_eq_false (show ¬ gk + s < 0 by omega), decide_eq_false (show ¬ g + 1 < 0 by omega)]
  generalize g * pw k + s = V1 at *
  generalize g + (if s < 0 then -1 else 1) = V2 at *
  have hbq := bl_ge hbl
  have b1 : bl (V1.natAbs : Int) = bl q + k := by rw [hv1]; exact bl_grow hq0 (Int.le_of_lt hr0) hr1
  have e8 : pw 3 = 8 := by decide
  have b2 : bl (V2.natAbs : Int) = bl q := by
    rcases hv2 with ⟨e, -⟩ | ⟨e, hq⟩
    · rw [e]
    · have hh : 0 < h := by omega
      rw [e, hq, ← e8, bl_grow (r := 1) (k := 3) hh (by decide) (by decide)]
      have := bl_grow (r := 0) (k := 3) hh (by decide) (by decide)
      rw [Int.add_zero] at this
      rw [this]
  have odd2 : (V2.natAbs : Int) % 2 = 1 := by rcases hv2 with ⟨e, hq⟩ | ⟨e, hq⟩ <;> rw [e, hq] <;> omega
  obtain ⟨C, hC⟩ : ∃ C : Nat, bl q - P = C := ⟨(bl q - P).toNat, by omega⟩
  have hC1 : 1 ≤ C := by omega
  have t2 : (bl (V2.natAbs : Int) - P).toNat = C := by rw [b2, hC]; rfl
  have t1 : (bl (V1.natAbs : Int) - P).toNat = k + C := by rw [b1]; omega
  have i2 : (V2.natAbs : Int) / pw (bl (V2.natAbs : Int) - P).toNat * pw (bl (V2.natAbs : Int) - P).toNat ≠ (V2.natAbs : Int) := by rw [t2]; exact odd_inexact odd2 hC1
  have hdiv : (V1.natAbs : Int) / pw k = q := by
    rw [hv1, Int.add_comm, Int.add_mul_ediv_right _ _ (Int.ne_of_gt hk), Int.ediv_eq_zero_of_lt (Int.le_of_lt hr0) hr1, Int.zero_add]
  have i1 : (V1.natAbs : Int) / pw (bl (V1.natAbs : Int) - P).toNat * pw (bl (V1.natAbs : Int) - P).toNat ≠ (V1.natAbs : Int) := by
    rw [t1, div_pw_pw, hdiv, hv1, pw_add]
    intro hh
    have hm : (q * pw k + r) % pw k = r := by rw [Int.add_comm, Int.add_mul_emod_self_right, Int.emod_eq_of_lt (Int.le_of_lt hr0) hr1]
    rw [← hh, Int.mul_comm (pw k), ← Int.mul_assoc, Int.mul_emod_left] at hm
    omega
  have hqq : (V1.natAbs : Int) / pw (bl (V1.natAbs : Int) - P).toNat = (V2.natAbs : Int) / pw (bl (V2.natAbs : Int) - P).toNat := by
    rw [t1, t2, div_pw_pw, hdiv]
    rcases hv2 with ⟨e, -⟩ | ⟨e, hq⟩
    · rw [e]
    · obtain ⟨c, rfl⟩ : ∃ c, C = 1 + c := ⟨C - 1, by omega⟩
      have e2 : pw 1 = 2 := by decide
      rw [e, div_pw_pw, div_pw_pw, e2]
      congr 1
      omega
  have v1 : V1 ≠ 0 := by have := Int.mul_nonneg (Int.le_of_lt hq0) (Int.le_of_lt hk); omega
  have v2 : V2 ≠ 0 := by omega
  rw [cut_canD v1 (by omega) i1, cut_canD v2 (by omega) i2, hsg]
  exact cut_same (by omega) (by omega) i1 i2 hqq (by rw [b1, b2]; omega)
end Go.Proofs.YteffemhapnbaeaaGreatDoor
namespace Go.Proofs.YteffemhapnbaeaaGreatDoor
open Go.RowKit Num
set_option linter.unusedSimpArgs false
set_option linter.unusedVariables false
set_option maxRecDepth 100000

theorem core_far {G S : Dy} {P : Int} {up : Bool} (hG : PlD G) (hS : PlD S) (lG : (wd G.m).length ≤ 20) (lS : (wd S.m).length ≤ 20) (g0 : -20000 ≤ G.e) (g1 : G.e ≤ 20000) (s0 : -20000 ≤ S.e) (s1 : S.e ≤ 20000) (h1 : 1 ≤ P) (h2 : P ≤ 500)
    (ht : topD S ≤ topD G) (hn : S.m ≠ 0) (hf : topD S < min G.e (topD G - P) - 3) : ∃ t s D, mkD S.neg 1 (min G.e (topD G - P) - 3) = some t ∧ sum2 G t = some s ∧ cutY s P up = some D ∧ bothO P up G S = some D := by
  have bG := bl_small hG lG
  have bS := bl_small hS lS
  have nG := bl_nonneg G.m
  have pS := bl_pos (show 0 < S.m by have := hS.2; omega)
  have tS : topD S = bl S.m + S.e := if_neg hn
  have zG : G.m ≠ 0 := by
    intro hz
    have : topD G = -1048576 := if_pos hz
    omega
  have tG : topD G = bl G.m + G.e := if_neg zG
  have pG := bl_pos (show 0 < G.m by have := hG.2; omega)
  obtain ⟨L, hL⟩ : ∃ L, L = min G.e (topD G - P) - 3 := ⟨_, rfl⟩
  rw [← hL] at hf ⊢
  have w1 : (wd 1).length = 1 := by rw [wd_small (by decide) (by decide)]; rfl
  have hmk := mkD_some S.neg (v := 1) (e := L) (by decide) (by omega) (by omega) (by omega)
  have ht1 := mk_plain (by decide) hmk
  have hPt : PlD (canD (sgn S.neg 1) L) := ht1
  have hsv : sval (canD (sgn S.neg 1) L) L = sgn S.neg 1 := canD_val _ _
  have hlow := canD_low (sgn S.neg 1) L (Int.le_refl L)
  have hne : sgn S.neg 1 ≠ 0 := by unfold sgn; split <;> decide
  have habs1 : ((sgn S.neg 1).natAbs : Int) = 1 := by unfold sgn; split <;> decide
  have hte := can_e (S := sgn S.neg 1) (M := L) (K := 1) (by
    rw [habs1]
    have : pw 1 ≤ pw (64 * 1) := pw_le (by decide)
    have e2 : pw 1 = 2 := by decide
    omega) (by omega) (by omega) (by omega)
  -- the sum with the sign alone
  have hGL : L ≤ G.e := by omega
  have hadd : addC G (canD (sgn S.neg 1) L) = canD (sval G L + sgn S.neg 1) L := by
    rw [addC_can _ _ L (.inr hGL) hlow, hsv]
  have ltG : lev G.m G.e L < pw 1800 := Int.lt_of_lt_of_le (lev_topD hG.2 zG hGL) (pw_le (by omega))
  have lt1 : lev (canD (sgn S.neg 1) L).m (canD (sgn S.neg 1) L).e L < pw 1800 := by
    rw [← sval_abs hPt.2, hsv, habs1]
    have : pw 1 ≤ pw 1800 := pw_le (by decide)
    have e2 : pw 1 = 2 := by decide
    omega
  obtain ⟨hp, hlt⟩ := addC_pl (.inr hGL) hlow hG.2 hPt.2 ltG lt1 (by decide) (by omega) (by omega)
  have he := can_e (S := sval G L + sgn S.neg 1) (M := L) (K := 29) (Int.lt_of_lt_of_le (by rw [← hsv]; exact hlt) (pw_le (by decide))) (by omega) (by omega) (by omega)
  rw [← hadd] at he
  obtain ⟨D, hD⟩ := cut_some hp up h1 (by omega) he.1 he.2
  refine ⟨_, addC G (canD (sgn S.neg 1) L), D, hmk, sum2_is hG hPt ⟨by omega, by omega⟩ ⟨by omega, by omega⟩ hp, hD, ?_⟩
  -- the exact sum
  rw [← hD, cutY_is hp h1 (by omega)]
  unfold bothO
  obtain ⟨k, hk⟩ : ∃ k : Nat, L = S.e + k := ⟨(L - S.e).toNat, by omega⟩
  have hG2 : sval G S.e = sval G L * pw k := by
    rw [sval_down G (L := S.e) (g := L) (by omega) (.inr hGL), show (L - S.e).toNat = k by omega]
  have hS2 : sval S S.e = sgn S.neg S.m := by
    unfold sval
    rw [lev_self]
  have hadd2 : addC G S = canD (sval G L * pw k + sgn S.neg S.m) S.e := by
    rw [addC_can _ _ S.e (.inr (by omega)) (.inr (Int.le_refl _)), hG2, hS2]
  obtain ⟨x, hx⟩ : ∃ x : Nat, (G.e - L).toNat = x + 3 := ⟨(G.e - L).toNat - 3, by omega⟩
  have e8 : pw 3 = 8 := by decide
  have hg8 : ((sval G L).natAbs : Int) = G.m * pw x * 8 := by
    rw [sval_abs hG.2]
    unfold lev
    rw [hx, pw_add, e8, Int.mul_assoc]
  have hlevG : ((sval G L).natAbs : Int) = G.m * pw (G.e - L).toNat := sval_abs hG.2 L
  obtain ⟨p, rfl⟩ : ∃ p : Nat, P = p := ⟨P.toNat, by omega⟩
  have hbig : pw (p + 2) ≤ ((sval G L).natAbs : Int) := by
    have hpos : 0 < G.m := by have := hG.2; omega
    have hb := bl_grow (r := 0) (k := (G.e - L).toNat) hpos (Int.le_refl _) (pw_pos _)
    rw [Int.add_zero, ← hlevG] at hb
    obtain ⟨a, e, q1, -⟩ := bl_spec (v := ((sval G L).natAbs : Int)) (by rw [hlevG]; exact Int.mul_pos hpos (pw_pos _))
    refine Int.le_trans (pw_le ?_) q1
    omega
  have hsneg : sgn S.neg 1 = if sgn S.neg S.m < 0 then -1 else 1 := by
    have := hS.2
    unfold sgn
    cases S.neg
    · simp only [Bool.false_eq_true, if_false]; rw [if_neg (by omega)]
    · simp only [if_true]; rw [if_pos (by omega)]
  have hs0 : sgn S.neg S.m ≠ 0 := by unfold sgn; split <;> omega
  have hs1 : ((sgn S.neg S.m).natAbs : Int) < pw k := by
    have e1 : ((sgn S.neg S.m).natAbs : Int) = S.m := by have := hS.2; unfold sgn; split <;> omega
    rw [e1]
    exact Int.lt_of_lt_of_le (pow_bl hS.2) (pw_le (by omega))
  rw [hadd2, hadd, hsneg]
  exact aside hg8 hbig hs0 hs1 (by omega) hk
theorem sum_both {a b : Dy} {P : Int} {up : Bool} (ha : PlD a) (hb : PlD b) (la : (wd a.m).length ≤ 20) (lb : (wd b.m).length ≤ 20) (a0 : -20000 ≤ a.e) (a1 : a.e ≤ 20000) (b0 : -20000 ≤ b.e) (b1 : b.e ≤ 20000) (h1 : 1 ≤ P) (h2 : P ≤ 500) :
    ∃ D, sumO P up a b = some D ∧ bothO P up a b = some D := by
  have core : ∀ G S : Dy, PlD G → PlD S → (wd G.m).length ≤ 20 → (wd S.m).length ≤ 20 → -20000 ≤ G.e → G.e ≤ 20000 → -20000 ≤ S.e → S.e ≤ 20000 → topD S ≤ topD G →
      ∃ D, ((if S.m ≠ 0 ∧ topD S < min G.e (topD G - P) - 3 then mkD S.neg 1 (min G.e (topD G - P) - 3) else some S).bind fun t => (sum2 G t).bind fun s => cutY s P up) = some D ∧ bothO P up G S = some D := by
    intro G S hG hS lG lS g0 g1 s0 s1 ht
    by_cases hn : S.m ≠ 0 ∧ topD S < min G.e (topD G - P) - 3
    · obtain ⟨t, s, D, q1, q2, q3, q4⟩ := core_far (up := up) hG hS lG lS g0 g1 s0 s1 h1 h2 ht hn.1 hn.2
      refine ⟨D, ?_, q4⟩
      rw [if_pos hn, q1]
      show (sum2 G t).bind _ = _
      rw [q2]
      exact q3
    · obtain ⟨s, D, q2, q3, q4⟩ := core_near (up := up) hG hS lG lS g0 g1 s0 s1 h1 h2 ht hn
      refine ⟨D, ?_, q4⟩
      rw [if_neg hn]
      show (sum2 G S).bind _ = _
      rw [q2]
      exact q3
  unfold sumO sumT sumL sumG sumS
  by_cases hlt : topD a < topD b
  · simp only [if_pos hlt]
    obtain ⟨D, q1, q2⟩ := core b a hb ha lb la b0 b1 a0 a1 (by omega)
    refine ⟨D, q1, ?_⟩
    unfold bothO at q2 ⊢
    rw [addC_sym]
    exact q2
  · simp only [if_neg hlt]
    exact core a b ha hb la lb a0 a1 b0 b1 (by omega)
/-- The product of two numbers of up to 20 words is there. -/
theorem mul_some {p q : Bool} {xs ys : List Int} {e f : Int} (hw : Wf xs) (hw' : Wf ys) (hp : plainB p xs e = true) (hq : plainB q ys f = true) (lx : xs.length ≤ 20) (ly : ys.length ≤ 20) (e0 : -20000 ≤ e) (e1 : e ≤ 20000) (f0 : -20000 ≤ f) (f1 : f ≤ 20000) : ∃ D, mulD p q xs ys e f = some D := by
  unfold mulD
  rw [hp, hq]
  simp only [Bool.and_self, if_true]
  have hl : (wd (val xs * val ys)).length ≤ 256 := by
    have := prod_len hw hw'
    omega
  exact ⟨_, mkD_some (p != q) (Int.mul_nonneg (val_nonneg hw) (val_nonneg hw')) hl (by omega) (by omega)⟩
end Go.Proofs.YteffemhapnbaeaaGreatDoor
