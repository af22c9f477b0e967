/- A text of ours, with only what the claim's row needs (wip/tools/shake.py). -/
import Derived.Test.YteffemhapnbaeaaGreatDoorMB
import Derived.BigQuiet
import Derived.Deep.RegionWith
namespace Go.Proofs.YteffemhapnbaeaaGreatDoor
open Go.RowKit Num
set_option maxRecDepth 100000

theorem ctz_split {x : Int} (h0 : 0 < x) (h1 : x < 18446744073709551616) : ∃ u : Int, x = pw (Lib.ctz 64 x.toNat) * u ∧ u % 2 = 1 ∧ 0 ≤ u ∧ Lib.ctz 64 x.toNat < 64 := by
  obtain ⟨n, rfl⟩ := Int.eq_ofNat_of_zero_le (Int.le_of_lt h0)
  obtain ⟨m, hm, hl⟩ := Lib.ctzFrom_spec 64 n (by omega) (by omega)
  have e : Lib.ctz 64 n = Lib.ctzFrom 64 n := by unfold Lib.ctz; rw [if_neg (by omega)]
  rw [Int.toNat_natCast, e]
  refine ⟨2 * (m : Int) + 1, ?_, by omega, by omega, hl⟩
  have h2 : (n : Int) = ((2 ^ Lib.ctzFrom 64 n * (2 * m + 1) : Nat) : Int) := congrArg _ hm
  conv => lhs; rw [h2]
  unfold pw; simp
theorem take_zero_go {xs : List Int} {k : Nat} (hk : k < xs.length) (hv : val (xs.take k) = 0) (hz : xs[k]?.getD 0 = 0) : val (xs.take (k + 1)) = 0 := by
  rw [take_last (by omega) (by omega), Nat.add_sub_cancel, hz, val_snoc_zero]; exact hv
theorem odd (A : Option Addr) (n c : Nat) (xs : List Int) (w : World) (h : Arr w A n c xs) (hn : n ≤ 100000000) (hT : Tz w) :
    Calls Tryz.prog 102 #[.slice A n c] w fun e w' => ∃ A' n' c', e = .returned (.tuple #[.slice A' n' c', .int .i64 (tz (val xs))]) ∧ Arr w' A' n' c' (wd (oddI (val xs))) ∧ Below w.heap.size w w' := by
  have hl := h.len
  have hcap := h.cap
  have hbig := h.big
  have HL := Lib.hid hl
  clear hl
  go_enter Tryz.func102, Tryz.ntmps102
  go_wp2
  go_loop [4] (fun v => ∃ k : Nat, k ≤ n ∧ v = .int .i64 k ∧ Hid (val (xs.take k) = 0)) (fun v => n - (intOf v).toNat)
  case atStart => exact ⟨0, Nat.zero_le _, rfl, rfl⟩
  case round =>
    obtain ⟨k, hk, rfl, hv⟩ := hrel
    by_cases h0 : k < n
    · obtain ⟨b, o, rfl, hlt, hc⟩ := h.mem (by omega)
      have hcell := hc k h0
      have hw := h.words k
      clear hc
      have h0b : ((k : Int) == (n : Int)) = false := by simp; omega
      go_wp2_with fail
      · have hz : (xs[k]?.getD 0 == 0) = true := by assumption
        have hz' : xs[k]?.getD 0 = 0 := by simpa using hz
        exact ⟨⟨k + 1, by omega, by go_num, take_zero_go (by rw [HL.out]; exact h0) hv.out hz'⟩, by simp [intOf]; omega⟩
      · have hz : (xs[k]?.getD 0 == 0) = false := by assumption
        have hz' : xs[k]?.getD 0 ≠ 0 := by simpa using hz
        rw [List.getD_eq_getElem?_getD] at hw
        obtain ⟨u, hu, hu1, hu0, hz64⟩ := ctz_split (x := xs[k]?.getD 0) (by omega) hw.2
        obtain ⟨e1, e2⟩ := odd_words h.wf (by rw [HL.out]; exact h0) hz64 hu hu1 hu0 hv.out
        refine (tz64 _ w (by omega) hw.2 hT).mono ?_; rintro e w' ⟨rfl, rfl⟩
        have hD := h.drop k (by omega)
        generalize Lib.ctz 64 (xs[k]?.getD 0).toNat = z at *
        have H1 := Lib.hid e1
        have H2 := Lib.hid e2
        clear e1 e2 hu hz hz'
        have hkc : k < c := by omega
        have hkc' : ¬ k = c := by omega
        have hnk : n - k ≤ 17592186044416 := by omega
        go_wp2_with fail
        refine (shr _ _ _ _ z w hD hnk (by omega) (by omega)).mono ?_
        rintro e w2 ⟨A2, n2, c2, rfl, hA2, hb2⟩
        rw [shrI_eq (by omega) (by omega), Int.toNat_natCast] at hA2
        go_wp2
        go_ret2
        refine ⟨A2, n2, c2, ?_, ?_, hb2⟩
        · rw [H1.out]; simp
        · rw [H2.out]; exact hA2
    · obtain rfl : k = n := by omega
      have hv' : val xs = 0 := by have := hv.out; rw [← HL.out, List.take_length] at this; exact this
      have HV := Lib.hid hv'
      clear hv' hv
      go_wp2
      go_ret2
      refine ⟨none, 0, 0, ?_, ?_, below_self w⟩
      · rw [HV.out, tz_zero]; rfl
      · rw [HV.out, oddI_zero, wd_zero (Int.le_refl _)]; exact Arr.nothing w
end Go.Proofs.YteffemhapnbaeaaGreatDoor
namespace Go.Proofs.YteffemhapnbaeaaGreatDoor
open Go.RowKit Num
set_option maxRecDepth 100000

def plainB (neg : Bool) (xs : List Int) (e : Int) : Bool :=
  if xs.length = 0 then decide (e = 0) && !neg
  else decide (xs.getD (xs.length - 1) 0 ≠ 0) && decide (xs.getD 0 0 % 2 = 1) && decide (xs.length ≤ 256) && decide (-262144 ≤ e) && decide (e ≤ 262144)
theorem plain (neg : Bool) (A : Option Addr) (n c : Nat) (xs : List Int) (e : Int) (w : World) (h : Arr w A n c xs) :
    Calls Tryz.prog 103 #[.agg #[.bool neg, .slice A n c, .int .i64 e]] w fun r w' => r = .returned (.bool (plainB neg xs e)) ∧ Below w.heap.size w w' := by
  have hl := h.len
  have hcap := h.cap
  have hbig := h.big
  have HL := Lib.hid hl
  clear hl
  by_cases h0 : n = 0
  · subst h0
    have hp : plainB neg xs e = (decide (e = 0) && !neg) := by unfold plainB; rw [if_pos HL.out]
    have HP := Lib.hid hp
    clear hp
    go_enter Tryz.func103, Tryz.ntmps103
    go_wp2
    all_goals go_ret
    · have he : e = 0 := by assumption
      exact ⟨by rw [HP.out]; subst he; simp, below_alloc (below_self w) _⟩
    · have he : ¬ e = 0 := by assumption
      exact ⟨by rw [HP.out]; simp [he], below_alloc (below_self w) _⟩
  · have hp : plainB neg xs e = (decide (xs[n - 1]?.getD 0 ≠ 0) && decide (xs[0]?.getD 0 % 2 = 1) && decide (n ≤ 256) && decide (-262144 ≤ e) && decide (e ≤ 262144)) := by
      unfold plainB; rw [if_neg (by rw [HL.out]; exact h0), HL.out, List.getD_eq_getElem?_getD, List.getD_eq_getElem?_getD]
    have HP := Lib.hid hp
    clear hp
    obtain ⟨b, o, rfl, hlt, hc⟩ := h.mem (by omega)
    have k1 := hc (n - 1) (by omega)
    have k2 := hc 0 (by omega)
    rw [Nat.add_zero] at k2
    have l1 : 0 < n := by omega
    clear hc
    go_enter Tryz.func103, Tryz.ntmps103
    have a1 := h.words 0
    rw [List.getD_eq_getElem?_getD] at a1
    have a2 := and_one a1.1 a1.2
    have A2 := Lib.hid a2
    clear a1 a2
    go_wp2
    all_goals go_ret
    all_goals refine ⟨?_, below_alloc (below_self w) _⟩
    all_goals rw [HP.out, ← A2.out]
    all_goals refine ret_bool ?_
    · have z : xs[n - 1]?.getD 0 = 0 := by assumption
      simp [z]
    · have z : ¬ xs[n - 1]?.getD 0 = 0 := by assumption
      have z1 : bits BinOp.and IntKind.u64 (xs[0]?.getD 0) 1 = 1 := by assumption
      have z2 : (n : Int) ≤ 256 := by assumption
      have z3 : -262144 ≤ e := by assumption
      have z2' : n ≤ 256 := by omega
      simp [z, z1, z2', z3]
    · have z1 : e < -262144 := by assumption
      simp; omega
    · have z1 : 256 < (n : Int) := by assumption
      simp; omega
    · have z1 : ¬ bits BinOp.and IntKind.u64 (xs[0]?.getD 0) 1 = 1 := by assumption
      simp [z1]

/-- A number with finitely many binary digits: m times 2 to the e. -/
structure Dy where
  neg : Bool
  m : Int
  e : Int
def Dy.zero : Dy := ⟨false, 0, 0⟩
def mkD (neg : Bool) (v e : Int) : Option Dy :=
  if v = 0 then some Dy.zero
  else if 262144 < e ∨ e < -262144 - (tz v : Int) then none
  else if (wd (oddI v)).length ≤ 256 ∧ e + (tz v : Int) ≤ 262144 then some ⟨neg, oddI v, e + tz v⟩ else none
def optD (o : Option Dy) : Dy := o.getD Dy.zero
/-- What is returned: a number, and whether there is one. -/
def RetD (o : Option Dy) (w : World) (r : Ending) (w' : World) : Prop :=
  ∃ A n c, r = .returned (.tuple #[.agg #[.bool (optD o).neg, .slice A n c, .int .i64 (optD o).e], .bool o.isSome]) ∧ Arr w' A n c (wd (optD o).m) ∧ Below w.heap.size w w'
theorem plainB_words {v : Int} (hv : 0 < v) (neg : Bool) (e : Int) : plainB neg (wd v) e = (decide (v % 2 = 1) && decide ((wd v).length ≤ 256) && decide (-262144 ≤ e) && decide (e ≤ 262144)) := by
  have hne := wd_ne_nil hv
  have hl : (wd v).length ≠ 0 := by simpa using hne
  have ht := top_wd v (by omega)
  have h1 : (wd v).getD ((wd v).length - 1) 0 ≠ 0 := by
    unfold Top at ht
    rw [List.getLast?_eq_getElem?, List.getElem?_eq_getElem (by omega)] at ht
    rw [List.getD_eq_getElem?_getD, List.getElem?_eq_getElem (by omega)]
    simpa using ht
  have h2 : (wd v).getD 0 0 % 2 = v % 2 := by
    rw [wd_pos hv]
    simp only [List.getD_cons_zero, B_eq]
    omega
  unfold plainB
  rw [if_neg hl, h2]
  simp only [ne_eq, h1, not_false_eq_true, decide_true, Bool.true_and]
theorem arr_no (w : World) : Arr w none 0 0 (wd (optD none).m) := by
  have : wd (optD none).m = [] := wd_zero (Int.le_refl _)
  rw [this]; exact Arr.nothing _
theorem make (neg : Bool) (A : Option Addr) (n c : Nat) (xs : List Int) (e : Int) (w : World) (h : Arr w A n c xs) (hn : n ≤ 100000000) (he0 : -9223372036854775808 ≤ e) (he1 : e ≤ 9223372036854775807) (hT : Tz w) :
    Calls Tryz.prog 66 #[.bool neg, .slice A n c, .int .i64 e] w (RetD (mkD neg (val xs) e) w) := by
  have b0 : Below w.heap.size w (w.alloc (.cells #[.bool false, .slice none 0 0, .int .i64 0] 26)) := below_alloc (below_self w) _
  by_cases hv : val xs = 0
  · have em : mkD neg (val xs) e = some Dy.zero := by unfold mkD; rw [if_pos hv]
    rw [em]
    go_enter Tryz.func66, Tryz.ntmps66
    go_wp2_with fail
    refine (odd _ _ _ _ _ (h.below b0) hn (hT.below b0)).mono ?_
    rintro r w2 ⟨A2, n2, c2, rfl, hA2, hb2⟩
    have bw2 := below_on b0 hb2
    obtain ⟨k0, k1, k2, f0, f1, f2⟩ := ((box_new w _ _).later hb2).cell3
    rw [hv, oddI_zero, wd_zero (Int.le_refl _)] at hA2
    obtain rfl : n2 = 0 := hA2.len.symm
    go_wp2_with fail
    refine bodyPost_ret (v := .tuple #[.agg #[.bool false, .slice none 0 0, .int .i64 0], .bool true]) (by simp [results, Tryz.results66, go_sem, k0, k1, k2]) rfl ⟨none, 0, 0, rfl, ?_, (by repeat (first | with_reducible assumption | exact below_self _ | refine below_set ?_ _ _ (by first | exact Nat.le_refl _ | omega | (simp; done) | (simp; omega)) _ | refine below_alloc ?_ _ | apply Below.drew | apply below_drewN))⟩
    have : wd (optD (some Dy.zero)).m = [] := wd_zero (Int.le_refl _)
    rw [this]; exact Arr.nothing _
  · have hp : 0 < val xs := by have := h.val_nonneg; omega
    have hz := tz_lt h.wf hp
    have hl := h.len
    have hou := oddI_pos hp
    have hodd := (odd_split hp).2.1
    have hpl := plainB_words hou
    generalize hM : mkD neg (val xs) e = M
    have hM2 : M = if 262144 < e ∨ e < -262144 - (tz (val xs) : Int) then none else if (wd (oddI (val xs))).length ≤ 256 ∧ e + (tz (val xs) : Int) ≤ 262144 then some ⟨neg, oddI (val xs), e + tz (val xs)⟩ else none := by
      rw [← hM]; unfold mkD; rw [if_neg hv]
    clear hM
    have hodd' := odd A n c xs (w.alloc (.cells #[.bool false, .slice none 0 0, .int .i64 0] 26)) (h.below b0) hn (hT.below b0)
    generalize tz (val xs) = z at *
    generalize oddI (val xs) = u at *
    have hz' : z < 6400000000 := by omega
    have HL := Lib.hid hl
    have HP := Lib.hid hpl
    have HO := Lib.hid hodd
    have HC := Lib.hid hodd'
    clear hl hz hodd hpl hodd' hv
    by_cases t1 : 262144 < e
    · have d1 : decide (262144 < e) = true := by simp [t1]
      rw [if_pos (.inl t1)] at hM2
      subst hM2
      go_enter Tryz.func66, Tryz.ntmps66
      go_wp2_with fail
      refine HC.out.mono ?_
      rintro r w2 ⟨A2, n2, c2, rfl, hA2, hb2⟩
      have bw2 := below_on b0 hb2
      obtain ⟨k0, k1, k2, f0, f1, f2⟩ := ((box_new w _ _).later hb2).cell3
      have hn2 : 0 < n2 := by rw [← hA2.len]; exact List.length_pos_iff.2 (wd_ne_nil hou)
      have hn3 : ((n2 : Int) == 0) = false := by simp; omega
      go_wp2_with fail
      refine bodyPost_ret (v := .tuple #[.agg #[.bool false, .slice none 0 0, .int .i64 0], .bool false]) (by simp [results, Tryz.results66, go_sem, k0, k1, k2]) rfl ⟨none, 0, 0, rfl, arr_no _, (by repeat (first | with_reducible assumption | exact below_self _ | refine below_set ?_ _ _ (by first | exact Nat.le_refl _ | omega | (simp; done) | (simp; omega)) _ | refine below_alloc ?_ _ | apply Below.drew | apply below_drewN))⟩
    · have d1 : decide (262144 < e) = false := by simp [t1]
      by_cases t2 : e < -262144 - (z : Int)
      · have d2 : decide (e < -262144 - (z : Int)) = true := by simp [t2]
        rw [if_pos (.inr t2)] at hM2
        subst hM2
        go_enter Tryz.func66, Tryz.ntmps66
        go_wp2_with fail
        refine HC.out.mono ?_
        rintro r w2 ⟨A2, n2, c2, rfl, hA2, hb2⟩
        have bw2 := below_on b0 hb2
        obtain ⟨k0, k1, k2, f0, f1, f2⟩ := ((box_new w _ _).later hb2).cell3
        have hn2 : 0 < n2 := by rw [← hA2.len]; exact List.length_pos_iff.2 (wd_ne_nil hou)
        have hn3 : ((n2 : Int) == 0) = false := by simp; omega
        go_wp2_with fail
        refine bodyPost_ret (v := .tuple #[.agg #[.bool false, .slice none 0 0, .int .i64 0], .bool false]) (by simp [results, Tryz.results66, go_sem, k0, k1, k2]) rfl ⟨none, 0, 0, rfl, arr_no _, (by repeat (first | with_reducible assumption | exact below_self _ | refine below_set ?_ _ _ (by first | exact Nat.le_refl _ | omega | (simp; done) | (simp; omega)) _ | refine below_alloc ?_ _ | apply Below.drew | apply below_drewN))⟩
      · have d2 : decide (e < -262144 - (z : Int)) = false := by simp [t2]
        rw [if_neg (by omega)] at hM2
        have hM3 := Lib.hid hM2
        clear hM2
        go_enter Tryz.func66, Tryz.ntmps66
        go_wp2_with fail
        refine HC.out.mono ?_
        rintro r w2 ⟨A2, n2, c2, rfl, hA2, hb2⟩
        have bw2 := below_on b0 hb2
        have bx2 := (box_new w _ _).later hb2
        have hn2 : 0 < n2 := by rw [← hA2.len]; exact List.length_pos_iff.2 (wd_ne_nil hou)
        have hn3 : ((n2 : Int) == 0) = false := by simp; omega
        go_wp2_with fail
        have bw3 : Below w2.heap.size w2 (w2.alloc (.cells #[.bool neg, .slice A2 n2 c2, .int .i64 (e + (z : Int))] 26)) := below_alloc (below_self w2) _
        have bd := box_new w2 #[.bool neg, .slice A2 n2 c2, .int .i64 (e + (z : Int))] 26
        refine (plain neg A2 n2 c2 _ (e + z) _ (hA2.below bw3)).mono ?_
        rintro r w4 ⟨rfl, hb4⟩
        rw [HP.out]
        have bg4 := ((bx2.below bw3 bx2.lt).later hb4)
        have bd4 := bd.later hb4
        have bw4 := below_on (below_on bw2 bw3) hb4
        have hA4 := (hA2.below bw3).below hb4
        obtain ⟨k0, k1, k2, f0, f1, f2⟩ := bg4.cell3
        obtain ⟨j0, j1, j2, _, _, _⟩ := bd4.cell3
        have hne : w.heap.size ≠ w2.heap.size := by have := bx2.lt; omega
        by_cases t3 : (wd u).length ≤ 256 ∧ e + (z : Int) ≤ 262144
        · have d3 : (decide (u % 2 = 1) && decide ((wd u).length ≤ 256) && decide (-262144 ≤ e + (z : Int)) && decide (e + (z : Int) ≤ 262144)) = true := by
            have := HO.out
            simp [this, t3.1, t3.2]; omega
          rw [d3]
          have em := hM3.out
          rw [if_pos t3] at em
          subst em
          go_wp2_with fail
          refine bodyPost_ret (v := .tuple #[.agg #[.bool neg, .slice A2 n2 c2, .int .i64 (e + (z : Int))], .bool true]) (by simp [results, Tryz.results66, go_sem, k0, k1, k2]) rfl ⟨A2, n2, c2, rfl, ?_, (by repeat (first | with_reducible assumption | exact below_self _ | refine below_set ?_ _ _ (by first | exact Nat.le_refl _ | omega | (simp; done) | (simp; omega)) _ | refine below_alloc ?_ _ | apply Below.drew | apply below_drewN))⟩
          exact hA4.set3 bg4 _ _ _ (by simp) (by simp)
        · have d3 : (decide (u % 2 = 1) && decide ((wd u).length ≤ 256) && decide (-262144 ≤ e + (z : Int)) && decide (e + (z : Int) ≤ 262144)) = false := by
            simp; omega
          rw [d3]
          have em := hM3.out
          rw [if_neg t3] at em
          subst em
          go_wp2_with fail
          refine bodyPost_ret (v := .tuple #[.agg #[.bool false, .slice none 0 0, .int .i64 0], .bool false]) (by simp [results, Tryz.results66, go_sem, k0, k1, k2]) rfl ⟨none, 0, 0, rfl, arr_no _, (by repeat (first | with_reducible assumption | exact below_self _ | refine below_set ?_ _ _ (by first | exact Nat.le_refl _ | omega | (simp; done) | (simp; omega)) _ | refine below_alloc ?_ _ | apply Below.drew | apply below_drewN))⟩

end Go.Proofs.YteffemhapnbaeaaGreatDoor
namespace Go.Proofs.YteffemhapnbaeaaGreatDoor
open Go.RowKit Num

/-- m times 2 to the e, in units of 2 to the L. -/
def lev (m e L : Int) : Int := m * pw (e - L).toNat
def sgn (neg : Bool) (v : Int) : Int := if neg then -v else v
/-- Which one is greater. -/
def cmpD (a b : Dy) : Int := cmpI (sgn a.neg (lev a.m a.e (min a.e b.e))) (sgn b.neg (lev b.m b.e (min a.e b.e)))
theorem cmpI_neg (x y : Int) : cmpI (-x) (-y) = -cmpI x y := by unfold cmpI; repeat' split <;> omega
theorem cmpI_flip (x y : Int) : cmpI y x = -cmpI x y := by unfold cmpI; repeat' split <;> omega
theorem cmpI_scale {p : Int} (hp : 0 < p) (x y : Int) : cmpI (x * p) (y * p) = cmpI x y := by
  have h1 : x * p < y * p ↔ x < y := ⟨fun h => Int.lt_of_mul_lt_mul_right h (Int.le_of_lt hp), fun h => Int.mul_lt_mul_of_pos_right h hp⟩
  have h2 : x * p = y * p ↔ x = y := ⟨fun h => Int.eq_of_mul_eq_mul_right (by omega) h, fun h => by rw [h]⟩
  unfold cmpI
  simp only [h1, h2]
theorem lev_down {m e L L' : Int} (h : L' ≤ L) (h' : L ≤ e) : lev m e L' = lev m e L * pw (L - L').toNat := by
  unfold lev
  rw [Int.mul_assoc, ← pw_add]
  congr 2
  omega
theorem lev_self (m e : Int) : lev m e e = m := by unfold lev; rw [Int.sub_self]; show m * 2 ^ 0 = m; omega
theorem lev_zero (e L : Int) : lev 0 e L = 0 := by unfold lev; rw [Int.zero_mul]
theorem lev_pos {m : Int} (h : 0 < m) (e L : Int) : 0 < lev m e L := Int.mul_pos h (pw_pos _)
theorem lev_nonneg {m : Int} (h : 0 ≤ m) (e L : Int) : 0 ≤ lev m e L := Int.mul_nonneg h (Int.le_of_lt (pw_pos _))
theorem sgn_mul (n : Bool) (x p : Int) : sgn n (x * p) = sgn n x * p := by cases n <;> simp [sgn, Int.neg_mul]
theorem cmpD_at {a b : Dy} {L : Int} (ha : L ≤ a.e) (hb : L ≤ b.e) : cmpD a b = cmpI (sgn a.neg (lev a.m a.e L)) (sgn b.neg (lev b.m b.e L)) := by
  unfold cmpD
  rw [lev_down (m := a.m) (L := min a.e b.e) (L' := L) (by omega) (by omega), lev_down (m := b.m) (L := min a.e b.e) (L' := L) (by omega) (by omega), sgn_mul, sgn_mul, cmpI_scale (pw_pos _)]
/-- What a plain number's parts are. -/
structure PD (d : Dy) : Prop where
  nn : 0 ≤ d.m
  z : d.m = 0 → d.e = 0 ∧ d.neg = false
  lo : -262144 ≤ d.e
  hi : d.e ≤ 262144
theorem cmp_signs {a b : Dy} (ha : PD a) (hb : PD b) (h : a.neg ≠ b.neg) : cmpD a b = if a.neg then -1 else 1 := by
  obtain ⟨p, m, e⟩ := a
  obtain ⟨q, v, f⟩ := b
  simp only at h
  have m0 := ha.nn; have v0 := hb.nn; have mz := ha.z; have vz := hb.z
  simp only at m0 v0 mz vz
  unfold cmpD
  simp only
  have l1 := lev_nonneg m0 e (min e f)
  have l2 := lev_nonneg v0 f (min e f)
  cases p
  · obtain rfl : q = true := by cases q <;> simp_all
    have : 0 < v := by
      by_cases hv : v = 0
      · have := (vz hv).2; cases this
      · omega
    have := lev_pos this f (min e f)
    exact cmpI_gt (show -lev v f (min e f) < lev m e (min e f) by omega)
  · obtain rfl : q = false := by cases q <;> simp_all
    have : 0 < m := by
      by_cases hv : m = 0
      · have := (mz hv).2; cases this
      · omega
    have := lev_pos this e (min e f)
    exact cmpI_lt (show -lev m e (min e f) < lev v f (min e f) by omega)
theorem sgn_cmp (n : Bool) (x y : Int) : cmpI (sgn n x) (sgn n y) = (if n then -1 else 1) * cmpI x y := by
  cases n
  · simp [sgn]
  · simp [sgn, cmpI_neg]
theorem lev_top {m v e f L : Int} (hm : 0 < m) (hv : 0 < v) (h : bl m + e < bl v + f) (h1 : L ≤ e) (h2 : L ≤ f) : lev m e L < lev v f L := by
  obtain ⟨a, ea, a0, a1⟩ := bl_spec hm
  obtain ⟨b, eb, b0, b1⟩ := bl_spec hv
  unfold lev
  have k1 : m * pw (e - L).toNat < pw (a + 1) * pw (e - L).toNat := Int.mul_lt_mul_of_pos_right a1 (pw_pos _)
  have k2 : pw b * pw (f - L).toNat ≤ v * pw (f - L).toNat := Int.mul_le_mul_of_nonneg_right b0 (Int.le_of_lt (pw_pos _))
  rw [← pw_add] at k1 k2
  have k3 : pw (a + 1 + (e - L).toNat) ≤ pw (b + (f - L).toNat) := pw_le (by omega)
  omega
theorem cmp_lt {a b : Dy} (h : a.neg = b.neg) (ha : 0 < a.m) (hb : 0 < b.m) (ht : bl a.m + a.e < bl b.m + b.e) : cmpD a b = (if a.neg then 1 else -1) := by
  unfold cmpD
  rw [← h, sgn_cmp, cmpI_lt (lev_top ha hb ht (by omega) (by omega))]
  cases a.neg <;> rfl
theorem cmp_gt {a b : Dy} (h : a.neg = b.neg) (ha : 0 < a.m) (hb : 0 < b.m) (ht : bl b.m + b.e < bl a.m + a.e) : cmpD a b = (if a.neg then -1 else 1) := by
  unfold cmpD
  rw [← h, sgn_cmp, cmpI_gt (lev_top hb ha ht (by omega) (by omega))]
  cases a.neg <;> rfl
theorem cmp_zero_left {a b : Dy} (h : a.neg = b.neg) (ha : PD a) (hm : a.m = 0) : cmpD a b = (if a.neg then -1 else 1) * cmpI 0 b.m := by
  obtain ⟨e0, n0⟩ := ha.z hm
  unfold cmpD
  rw [← h, sgn_cmp, hm, lev_zero]
  congr 1
  rw [← cmpI_scale (pw_pos (b.e - min a.e b.e).toNat) 0 b.m, Int.zero_mul]
  rfl
theorem cmp_zero_right {a b : Dy} (h : a.neg = b.neg) (hm : b.m = 0) : cmpD a b = (if a.neg then -1 else 1) * cmpI a.m 0 := by
  unfold cmpD
  rw [← h, sgn_cmp, hm, lev_zero]
  congr 1
  rw [← cmpI_scale (pw_pos (a.e - min a.e b.e).toNat) a.m 0, Int.zero_mul]
  rfl
theorem cmp_ge {a b : Dy} (h : a.neg = b.neg) (he : b.e ≤ a.e) : cmpD a b = (if a.neg then -1 else 1) * cmpI (a.m * 2 ^ (a.e - b.e).toNat) b.m := by
  rw [cmpD_at (L := b.e) he (Int.le_refl _), ← h, sgn_cmp, lev_self]
  rfl
theorem cmp_le {a b : Dy} (h : a.neg = b.neg) (he : a.e ≤ b.e) : cmpD a b = (if a.neg then -1 else 1) * cmpI a.m (b.m * 2 ^ (b.e - a.e).toNat) := by
  rw [cmpD_at (L := a.e) (Int.le_refl _) he, ← h, sgn_cmp, lev_self]
  rfl
/-- The parts of what is plain in memory. -/
theorem plainB_parts {neg : Bool} {xs : List Int} {e : Int} (hw : Wf xs) (h : plainB neg xs e = true) : PD ⟨neg, val xs, e⟩ ∧ xs.length ≤ 256 ∧ wd (val xs) = xs ∧ (0 < xs.length → 0 < val xs ∧ val xs % 2 = 1) := by
  unfold plainB at h
  by_cases h0 : xs.length = 0
  · rw [if_pos h0] at h
    obtain rfl : xs = [] := List.length_eq_zero_iff.1 h0
    simp at h
    obtain ⟨rfl, rfl⟩ := h
    exact ⟨⟨by simp [val], fun _ => ⟨rfl, rfl⟩, by simp, by simp⟩, by simp, by rw [val_nil, wd_zero (Int.le_refl _)], fun h => absurd h (by simp)⟩
  · rw [if_neg h0] at h
    simp only [Bool.and_eq_true, decide_eq_true_eq] at h
    obtain ⟨⟨⟨⟨h1, h2⟩, h3⟩, h4⟩, h5⟩ := h
    have ht : Top xs := by
      unfold Top
      rw [List.getLast?_eq_getElem?, List.getElem?_eq_getElem (by omega)]
      rw [List.getD_eq_getElem?_getD, List.getElem?_eq_getElem (by omega)] at h1
      simpa using h1
    have hp := val_pos hw ht (by intro e; rw [e] at h0; exact h0 rfl)
    have ho : val xs % 2 = 1 := by
      obtain ⟨x, xs', rfl⟩ := List.exists_cons_of_ne_nil (l := xs) (by intro e; rw [e] at h0; exact h0 rfl)
      simp only [List.getD_cons_zero] at h2
      rw [val_cons, B_eq]; omega
    exact ⟨⟨by simp only; omega, fun hh => absurd hh (by simp only; omega), h4, h5⟩, h3, wd_val hw ht, fun _ => ⟨hp, ho⟩⟩
end Go.Proofs.YteffemhapnbaeaaGreatDoor
namespace Go.Proofs.YteffemhapnbaeaaGreatDoor
open Go.RowKit Num
set_option maxRecDepth 100000

theorem dtop (neg : Bool) (A : Option Addr) (n c : Nat) (xs : List Int) (e : Int) (w : World) (h : Arr w A n c xs) (hn : n ≤ 1000000) (he0 : -1000000 ≤ e) (he1 : e ≤ 1000000) :
    Calls Tryz.prog 118 #[.agg #[.bool neg, .slice A n c, .int .i64 e]] w fun r w' => r = .returned (.int .i64 (bl (val xs) + e)) ∧ Below w.heap.size w w' := by
  have bx := box_new w #[.bool neg, .slice A n c, .int .i64 e] 26
  obtain ⟨k0, k1, k2, f0, f1, f2⟩ := bx.cell3
  have b0 := below_alloc (below_self w) (.cells #[.bool neg, .slice A n c, .int .i64 e] 26)
  have NB := Lib.hid (fun w' (hb : Below w.heap.size w w') => nbits A n c xs w' (h.below hb) (by omega))
  have hb0 := bl_nonneg (val xs)
  have hb1 := bl_lt (v := val xs) (a := 64 * n) h.val_nonneg (by rw [← B_pow_pw, ← h.len]; exact val_lt h.wf)
  have hq : ∀ q : Int, 0 ≤ q → q ≤ 64000000 → IntKind.i64.wrap (q + e) = q + e := fun q h0 h1 => by rw [IntKind.wrap_i64]; omega
  have hqq := hq (bl (val xs)) hb0 (by omega)
  generalize bl (val xs) = q at *
  clear hq
  go_enter Tryz.func118, Tryz.ntmps118
  go_wp2_with fail
  go_region_with (first | (go_at_call 98; refine (NB.out _ ((by repeat (first | with_reducible assumption | exact below_self _ | refine below_set ?_ _ _ (by first | exact Nat.le_refl _ | omega | (simp; done) | (simp; omega)) _ | refine below_alloc ?_ _ | apply Below.drew | apply below_drewN)))).mono ?_; rintro r w' ⟨rfl, rfl⟩))
  all_goals
    go_wp2
    go_ret
    exact ⟨rfl, (by repeat (first | with_reducible assumption | exact below_self _ | refine below_set ?_ _ _ (by first | exact Nat.le_refl _ | omega | (simp; done) | (simp; omega)) _ | refine below_alloc ?_ _ | apply Below.drew | apply below_drewN))⟩
/-- A number as it lies in memory. -/
structure DV where
  neg : Bool
  A : Option Addr
  n : Nat
  c : Nat
  xs : List Int
  e : Int
def DV.ok (d : DV) (w : World) : Prop := Arr w d.A d.n d.c d.xs
def DV.cells (d : DV) : Array Value := #[.bool d.neg, .slice d.A d.n d.c, .int .i64 d.e]
def DV.plain (d : DV) : Bool := plainB d.neg d.xs d.e
/-- Numbers side by side in block g. -/
structure DVs (w : World) (g : Nat) (l : List DV) : Prop where
  lt : g < w.heap.size
  ok : ∀ j (h : j < l.length), (l[j]).ok w
  c0 : ∀ j (h : j < l.length), w.cell? ⟨g, j * 3, none⟩ = some (.bool (l[j]).neg)
  c1 : ∀ j (h : j < l.length), w.cell? ⟨g, j * 3 + 1, none⟩ = some (.slice (l[j]).A (l[j]).n (l[j]).c)
  c2 : ∀ j (h : j < l.length), w.cell? ⟨g, j * 3 + 2, none⟩ = some (.int .i64 (l[j]).e)
theorem DVs.later {w w' : World} {g : Nat} {l : List DV} (h : DVs w g l) (hb : Below w.heap.size w w') : DVs w' g l :=
  ⟨Nat.lt_of_lt_of_le h.lt hb.size, fun j hj => Arr.below (h.ok j hj) hb, fun j hj => (hb.cell (p := ⟨g, _, none⟩) h.lt).trans (h.c0 j hj), fun j hj => (hb.cell (p := ⟨g, _, none⟩) h.lt).trans (h.c1 j hj), fun j hj => (hb.cell (p := ⟨g, _, none⟩) h.lt).trans (h.c2 j hj)⟩
/-- Numbers side by side, wherever the slice begins. -/
structure DVA (w : World) (A : Option Addr) (l : List DV) : Prop where
  ok : ∀ j (h : j < l.length), (l[j]).ok w
  mem : 0 < l.length → ∃ g o, A = some ⟨g, o, none⟩ ∧ g < w.heap.size ∧ (∀ j (h : j < l.length), w.cell? ⟨g, o + j * 3, none⟩ = some (.bool (l[j]).neg)) ∧ (∀ j (h : j < l.length), w.cell? ⟨g, o + j * 3 + 1, none⟩ = some (.slice (l[j]).A (l[j]).n (l[j]).c)) ∧
    (∀ j (h : j < l.length), w.cell? ⟨g, o + j * 3 + 2, none⟩ = some (.int .i64 (l[j]).e))
theorem DVA.later {w w' : World} {A : Option Addr} {l : List DV} (h : DVA w A l) (hb : Below w.heap.size w w') : DVA w' A l := by
  refine ⟨fun j hj => Arr.below (h.ok j hj) hb, fun h0 => ?_⟩
  obtain ⟨g, o, rfl, hg, c0, c1, c2⟩ := h.mem h0
  exact ⟨g, o, rfl, Nat.lt_of_lt_of_le hg hb.size, fun j hj => (hb.cell (p := ⟨g, _, none⟩) hg).trans (c0 j hj), fun j hj => (hb.cell (p := ⟨g, _, none⟩) hg).trans (c1 j hj), fun j hj => (hb.cell (p := ⟨g, _, none⟩) hg).trans (c2 j hj)⟩
theorem DVs.any {w : World} {g : Nat} {l : List DV} (h : DVs w g l) : DVA w (some ⟨g, 0, none⟩) l :=
  ⟨h.ok, fun _ => ⟨g, 0, rfl, h.lt, fun j hj => by rw [Nat.zero_add]; exact h.c0 j hj, fun j hj => by rw [Nat.zero_add]; exact h.c1 j hj, fun j hj => by rw [Nat.zero_add]; exact h.c2 j hj⟩⟩
theorem dplainA (SA : Option Addr) (m cap : Nat) (l : List DV) (hm : l.length = m) (w : World) (h : DVA w SA l) (hl : m ≤ 1000000) :
    Calls Tryz.prog 82 #[.slice SA m cap] w fun r w' => r = .returned (.bool (l.all DV.plain)) ∧ Below w.heap.size w w' := by
  subst hm
  have HA : ∀ i (h : i < l.length), (l[i]).plain = false → l.all DV.plain = false := fun i h hh => by
    rw [List.all_eq_false]
    exact ⟨l[i], List.getElem_mem h, by rw [hh]; simp⟩
  have HB : (∀ j (h : j < l.length), (l[j]).plain = true) → l.all DV.plain = true := fun h => by
    rw [List.all_eq_true]
    intro t ht
    obtain ⟨j, hj, rfl⟩ := List.mem_iff_getElem.1 ht
    exact h j hj
  generalize l.all DV.plain = q at *
  have HA := Lib.hid HA
  have HB := Lib.hid HB
  go_enter Tryz.func82, Tryz.ntmps82
  go_wp2
  go_loopw [7] (fun v wr => ∃ i : Nat, i ≤ l.length ∧ v = .int .i64 i ∧ Hid (∀ j (h : j < l.length), j < i → (l[j]).plain = true) ∧ Below w.heap.size w wr) (fun v _ => l.length - (intOf v).toNat)
  case atStart => exact ⟨0, Nat.zero_le _, rfl, fun j _ h => absurd h (by omega), below_self w⟩
  case round =>
    obtain ⟨i, hi, rfl, hI, hW⟩ := hrel
    by_cases h0 : i < l.length
    · have hD := h.later hW
      obtain ⟨g, o, rfl, -, hd0, hd1, hd2⟩ := hD.mem (by omega)
      have k0 := hd0 i h0
      have k1 := hd1 i h0
      have k2 := hd2 i h0
      clear hd0 hd1 hd2
      have ho := hD.ok i h0
      have a1 := HA.out i h0
      have i1 := hI.out
      have HN : (l[i]).plain = true → ∀ j (h : j < l.length), j < i + 1 → (l[j]).plain = true := fun hp j h hj => by
        by_cases hji : j = i
        · subst hji; exact hp
        · exact i1 j h (by omega)
      generalize hx : l[i] = x at *
      obtain ⟨neg, A, n, c, xs, e⟩ := x
      have HN := Lib.hid HN
      have HF := Lib.hid a1
      have bx := box_new wr #[.bool neg, .slice A n c, .int .i64 e] 26
      have b1 := below_alloc (below_self wr) (.cells #[.bool neg, .slice A n c, .int .i64 e] 26)
      have PL := Lib.hid (plain neg A n c xs e _ (Arr.below ho b1))
      clear i1 a1 hx hI
      simp only at k0 k1 k2
      go_wp2_with fail
      refine PL.out.mono ?_; rintro r w4 ⟨rfl, hb4⟩
      have hW4 : Below w.heap.size w w4 := below_on (hW.trans (below_alloc (below_self wr) _ |>.mono hW.size)) hb4
      cases hp : plainB neg xs e
      · have HQ := Lib.hid (HF.out hp)
        go_wp2_with fail
        go_ret
        exact ⟨by rw [HQ.out]; rfl, hW4⟩
      · have HN := Lib.hid (HN.out hp)
        go_wp2_with fail
        exact ⟨⟨i + 1, by omega, by go_num, HN.out, hW4⟩, by simp only [intOf]; omega⟩
    · obtain rfl : i = l.length := by omega
      have HQ := Lib.hid (HB.out (fun j h => hI.out j h h))
      go_wp2
      go_ret
      exact ⟨by rw [HQ.out]; rfl, hW⟩
theorem dplain (g m : Nat) (l : List DV) (hm : l.length = m) (w : World) (h : DVs w g l) (hl : m ≤ 1000000) :
    Calls Tryz.prog 82 #[.slice (some ⟨g, 0, none⟩) m m] w fun r w' => r = .returned (.bool (l.all DV.plain)) ∧ Below w.heap.size w w' := dplainA _ m m l hm w h.any hl
end Go.Proofs.YteffemhapnbaeaaGreatDoor
