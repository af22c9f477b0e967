/- dyad.Plain and dyad.Make. -/
import Derived.Test.YtbfnjjnnlbchgaaDoorDyA
namespace Go.Proofs.YtbfnjjnnlbchgaaDoor
open Go.RowKit Num
set_option maxRecDepth 100000

def plainB (neg : Bool) (xs : List Int) (e : Int) : Bool :=
  if xs.length = 0 then decide (e = 0) && !neg
  else decide (xs.getD (xs.length - 1) 0 ≠ 0) && decide (xs.getD 0 0 % 2 = 1) && decide (xs.length ≤ 256) && decide (-262144 ≤ e) && decide (e ≤ 262144)
theorem plain (neg : Bool) (A : Option Addr) (n c : Nat) (xs : List Int) (e : Int) (w : World) (h : Arr w A n c xs) :
    Calls Tryd.prog 32 #[.agg #[.bool neg, .slice A n c, .int .i64 e]] w fun r w' => r = .returned (.bool (plainB neg xs e)) ∧ Below w.heap.size w w' := by
  have hl := h.len
  have hcap := h.cap
  have hbig := h.big
  have HL := Lib.hid hl
  clear hl
  by_cases h0 : n = 0
  · subst h0
    have hp : plainB neg xs e = (decide (e = 0) && !neg) := by unfold plainB; rw [if_pos HL.out]
    have HP := Lib.hid hp
    clear hp
    go_enter Tryd.func32, Tryd.ntmps32
    go_wp2
    all_goals go_ret
    · have he : e = 0 := by assumption
      exact ⟨by rw [HP.out]; subst he; simp, below_alloc (below_self w) _⟩
    · have he : ¬ e = 0 := by assumption
      exact ⟨by rw [HP.out]; simp [he], below_alloc (below_self w) _⟩
  · have hp : plainB neg xs e = (decide (xs[n - 1]?.getD 0 ≠ 0) && decide (xs[0]?.getD 0 % 2 = 1) && decide (n ≤ 256) && decide (-262144 ≤ e) && decide (e ≤ 262144)) := by
      unfold plainB; rw [if_neg (by rw [HL.out]; exact h0), HL.out, List.getD_eq_getElem?_getD, List.getD_eq_getElem?_getD]
    have HP := Lib.hid hp
    clear hp
    obtain ⟨b, o, rfl, hlt, hc⟩ := h.mem (by omega)
    have k1 := hc (n - 1) (by omega)
    have k2 := hc 0 (by omega)
    rw [Nat.add_zero] at k2
    have l1 : 0 < n := by omega
    clear hc
    go_enter Tryd.func32, Tryd.ntmps32
    have a1 := h.words 0
    rw [List.getD_eq_getElem?_getD] at a1
    have a2 := and_one a1.1 a1.2
    have A2 := Lib.hid a2
    clear a1 a2
    go_wp2
    all_goals go_ret
    all_goals refine ⟨?_, below_alloc (below_self w) _⟩
    all_goals rw [HP.out, ← A2.out]
    all_goals refine ret_bool ?_
    · have z : xs[n - 1]?.getD 0 = 0 := by assumption
      simp [z]
    · have z : ¬ xs[n - 1]?.getD 0 = 0 := by assumption
      have z1 : bits BinOp.and IntKind.u64 (xs[0]?.getD 0) 1 = 1 := by assumption
      have z2 : (n : Int) ≤ 256 := by assumption
      have z3 : -262144 ≤ e := by assumption
      have z2' : n ≤ 256 := by omega
      simp [z, z1, z2', z3]
    · have z1 : e < -262144 := by assumption
      simp; omega
    · have z1 : 256 < (n : Int) := by assumption
      simp; omega
    · have z1 : ¬ bits BinOp.and IntKind.u64 (xs[0]?.getD 0) 1 = 1 := by assumption
      simp [z1]

/-- A number with finitely many binary digits: m times 2 to the e. -/
structure Dy where
  neg : Bool
  m : Int
  e : Int
def Dy.zero : Dy := ⟨false, 0, 0⟩
def mkD (neg : Bool) (v e : Int) : Option Dy :=
  if v = 0 then some Dy.zero
  else if 262144 < e ∨ e < -262144 - (tz v : Int) then none
  else if (wd (oddI v)).length ≤ 256 ∧ e + (tz v : Int) ≤ 262144 then some ⟨neg, oddI v, e + tz v⟩ else none
def optD (o : Option Dy) : Dy := o.getD Dy.zero
/-- What is returned: a number, and whether there is one. -/
def RetD (o : Option Dy) (w : World) (r : Ending) (w' : World) : Prop :=
  ∃ A n c, r = .returned (.tuple #[.agg #[.bool (optD o).neg, .slice A n c, .int .i64 (optD o).e], .bool o.isSome]) ∧ Arr w' A n c (wd (optD o).m) ∧ Below w.heap.size w w'
theorem plainB_words {v : Int} (hv : 0 < v) (neg : Bool) (e : Int) : plainB neg (wd v) e = (decide (v % 2 = 1) && decide ((wd v).length ≤ 256) && decide (-262144 ≤ e) && decide (e ≤ 262144)) := by
  have hne := wd_ne_nil hv
  have hl : (wd v).length ≠ 0 := by simpa using hne
  have ht := top_wd v (by omega)
  have h1 : (wd v).getD ((wd v).length - 1) 0 ≠ 0 := by
    unfold Top at ht
    rw [List.getLast?_eq_getElem?, List.getElem?_eq_getElem (by omega)] at ht
    rw [List.getD_eq_getElem?_getD, List.getElem?_eq_getElem (by omega)]
    simpa using ht
  have h2 : (wd v).getD 0 0 % 2 = v % 2 := by
    rw [wd_pos hv]
    simp only [List.getD_cons_zero, B_eq]
    omega
  unfold plainB
  rw [if_neg hl, h2]
  simp only [ne_eq, h1, not_false_eq_true, decide_true, Bool.true_and]
theorem arr_no (w : World) : Arr w none 0 0 (wd (optD none).m) := by
  have : wd (optD none).m = [] := wd_zero (Int.le_refl _)
  rw [this]; exact Arr.nothing _
theorem make (neg : Bool) (A : Option Addr) (n c : Nat) (xs : List Int) (e : Int) (w : World) (h : Arr w A n c xs) (hn : n ≤ 100000000) (he0 : -9223372036854775808 ≤ e) (he1 : e ≤ 9223372036854775807) (hT : Tz w) :
    Calls Tryd.prog 28 #[.bool neg, .slice A n c, .int .i64 e] w (RetD (mkD neg (val xs) e) w) := by
  have b0 : Below w.heap.size w (w.alloc (.cells #[.bool false, .slice none 0 0, .int .i64 0] 24)) := below_alloc (below_self w) _
  by_cases hv : val xs = 0
  · have em : mkD neg (val xs) e = some Dy.zero := by unfold mkD; rw [if_pos hv]
    rw [em]
    go_enter Tryd.func28, Tryd.ntmps28
    go_wp2_with fail
    refine (odd _ _ _ _ _ (h.below b0) hn (hT.below b0)).mono ?_
    rintro r w2 ⟨A2, n2, c2, rfl, hA2, hb2⟩
    have bw2 := below_on b0 hb2
    obtain ⟨k0, k1, k2, f0, f1, f2⟩ := ((box_new w _ _).later hb2).cell3
    rw [hv, oddI_zero, wd_zero (Int.le_refl _)] at hA2
    obtain rfl : n2 = 0 := hA2.len.symm
    go_wp2_with fail
    refine bodyPost_ret (v := .tuple #[.agg #[.bool false, .slice none 0 0, .int .i64 0], .bool true]) (by simp [results, Tryd.results28, go_sem, k0, k1, k2]) rfl ⟨none, 0, 0, rfl, ?_, (by repeat (first | with_reducible assumption | exact below_self _ | refine below_set ?_ _ _ (by first | exact Nat.le_refl _ | omega | (simp; done) | (simp; omega)) _ | refine below_alloc ?_ _ | apply Below.drew | apply below_drewN))⟩
    have : wd (optD (some Dy.zero)).m = [] := wd_zero (Int.le_refl _)
    rw [this]; exact Arr.nothing _
  · have hp : 0 < val xs := by have := h.val_nonneg; omega
    have hz := tz_lt h.wf hp
    have hl := h.len
    have hou := oddI_pos hp
    have hodd := (odd_split hp).2.1
    have hpl := plainB_words hou
    generalize hM : mkD neg (val xs) e = M
    have hM2 : M = if 262144 < e ∨ e < -262144 - (tz (val xs) : Int) then none else if (wd (oddI (val xs))).length ≤ 256 ∧ e + (tz (val xs) : Int) ≤ 262144 then some ⟨neg, oddI (val xs), e + tz (val xs)⟩ else none := by
      rw [← hM]; unfold mkD; rw [if_neg hv]
    clear hM
    have hodd' := odd A n c xs (w.alloc (.cells #[.bool false, .slice none 0 0, .int .i64 0] 24)) (h.below b0) hn (hT.below b0)
    generalize tz (val xs) = z at *
    generalize oddI (val xs) = u at *
    have hz' : z < 6400000000 := by omega
    have HL := Lib.hid hl
    have HP := Lib.hid hpl
    have HO := Lib.hid hodd
    have HC := Lib.hid hodd'
    clear hl hz hodd hpl hodd' hv
    by_cases t1 : 262144 < e
    · have d1 : decide (262144 < e) = true := by simp [t1]
      rw [if_pos (.inl t1)] at hM2
      subst hM2
      go_enter Tryd.func28, Tryd.ntmps28
      go_wp2_with fail
      refine HC.out.mono ?_
      rintro r w2 ⟨A2, n2, c2, rfl, hA2, hb2⟩
      have bw2 := below_on b0 hb2
      obtain ⟨k0, k1, k2, f0, f1, f2⟩ := ((box_new w _ _).later hb2).cell3
      have hn2 : 0 < n2 := by rw [← hA2.len]; exact List.length_pos_iff.2 (wd_ne_nil hou)
      have hn3 : ((n2 : Int) == 0) = false := by simp; omega
      go_wp2_with fail
      refine bodyPost_ret (v := .tuple #[.agg #[.bool false, .slice none 0 0, .int .i64 0], .bool false]) (by simp [results, Tryd.results28, go_sem, k0, k1, k2]) rfl ⟨none, 0, 0, rfl, arr_no _, (by repeat (first | with_reducible assumption | exact below_self _ | refine below_set ?_ _ _ (by first | exact Nat.le_refl _ | omega | (simp; done) | (simp; omega)) _ | refine below_alloc ?_ _ | apply Below.drew | apply below_drewN))⟩
    · have d1 : decide (262144 < e) = false := by simp [t1]
      by_cases t2 : e < -262144 - (z : Int)
      · have d2 : decide (e < -262144 - (z : Int)) = true := by simp [t2]
        rw [if_pos (.inr t2)] at hM2
        subst hM2
        go_enter Tryd.func28, Tryd.ntmps28
        go_wp2_with fail
        refine HC.out.mono ?_
        rintro r w2 ⟨A2, n2, c2, rfl, hA2, hb2⟩
        have bw2 := below_on b0 hb2
        obtain ⟨k0, k1, k2, f0, f1, f2⟩ := ((box_new w _ _).later hb2).cell3
        have hn2 : 0 < n2 := by rw [← hA2.len]; exact List.length_pos_iff.2 (wd_ne_nil hou)
        have hn3 : ((n2 : Int) == 0) = false := by simp; omega
        go_wp2_with fail
        refine bodyPost_ret (v := .tuple #[.agg #[.bool false, .slice none 0 0, .int .i64 0], .bool false]) (by simp [results, Tryd.results28, go_sem, k0, k1, k2]) rfl ⟨none, 0, 0, rfl, arr_no _, (by repeat (first | with_reducible assumption | exact below_self _ | refine below_set ?_ _ _ (by first | exact Nat.le_refl _ | omega | (simp; done) | (simp; omega)) _ | refine below_alloc ?_ _ | apply Below.drew | apply below_drewN))⟩
      · have d2 : decide (e < -262144 - (z : Int)) = false := by simp [t2]
        rw [if_neg (by omega)] at hM2
        have hM3 := Lib.hid hM2
        clear hM2
        go_enter Tryd.func28, Tryd.ntmps28
        go_wp2_with fail
        refine HC.out.mono ?_
        rintro r w2 ⟨A2, n2, c2, rfl, hA2, hb2⟩
        have bw2 := below_on b0 hb2
        have bx2 := (box_new w _ _).later hb2
        have hn2 : 0 < n2 := by rw [← hA2.len]; exact List.length_pos_iff.2 (wd_ne_nil hou)
        have hn3 : ((n2 : Int) == 0) = false := by simp; omega
        go_wp2_with fail
        have bw3 : Below w2.heap.size w2 (w2.alloc (.cells #[.bool neg, .slice A2 n2 c2, .int .i64 (e + (z : Int))] 24)) := below_alloc (below_self w2) _
        have bd := box_new w2 #[.bool neg, .slice A2 n2 c2, .int .i64 (e + (z : Int))] 24
        refine (plain neg A2 n2 c2 _ (e + z) _ (hA2.below bw3)).mono ?_
        rintro r w4 ⟨rfl, hb4⟩
        rw [HP.out]
        have bg4 := ((bx2.below bw3 bx2.lt).later hb4)
        have bd4 := bd.later hb4
        have bw4 := below_on (below_on bw2 bw3) hb4
        have hA4 := (hA2.below bw3).below hb4
        obtain ⟨k0, k1, k2, f0, f1, f2⟩ := bg4.cell3
        obtain ⟨j0, j1, j2, _, _, _⟩ := bd4.cell3
        have hne : w.heap.size ≠ w2.heap.size := by have := bx2.lt; omega
        by_cases t3 : (wd u).length ≤ 256 ∧ e + (z : Int) ≤ 262144
        · have d3 : (decide (u % 2 = 1) && decide ((wd u).length ≤ 256) && decide (-262144 ≤ e + (z : Int)) && decide (e + (z : Int) ≤ 262144)) = true := by
            have := HO.out
            simp [this, t3.1, t3.2]; omega
          rw [d3]
          have em := hM3.out
          rw [if_pos t3] at em
          subst em
          go_wp2_with fail
          refine bodyPost_ret (v := .tuple #[.agg #[.bool neg, .slice A2 n2 c2, .int .i64 (e + (z : Int))], .bool true]) (by simp [results, Tryd.results28, go_sem, k0, k1, k2]) rfl ⟨A2, n2, c2, rfl, ?_, (by repeat (first | with_reducible assumption | exact below_self _ | refine below_set ?_ _ _ (by first | exact Nat.le_refl _ | omega | (simp; done) | (simp; omega)) _ | refine below_alloc ?_ _ | apply Below.drew | apply below_drewN))⟩
          exact hA4.set3 bg4 _ _ _ (by simp) (by simp)
        · have d3 : (decide (u % 2 = 1) && decide ((wd u).length ≤ 256) && decide (-262144 ≤ e + (z : Int)) && decide (e + (z : Int) ≤ 262144)) = false := by
            simp; omega
          rw [d3]
          have em := hM3.out
          rw [if_neg t3] at em
          subst em
          go_wp2_with fail
          refine bodyPost_ret (v := .tuple #[.agg #[.bool false, .slice none 0 0, .int .i64 0], .bool false]) (by simp [results, Tryd.results28, go_sem, k0, k1, k2]) rfl ⟨none, 0, 0, rfl, arr_no _, (by repeat (first | with_reducible assumption | exact below_self _ | refine below_set ?_ _ _ (by first | exact Nat.le_refl _ | omega | (simp; done) | (simp; omega)) _ | refine below_alloc ?_ _ | apply Below.drew | apply below_drewN))⟩

end Go.Proofs.YtbfnjjnnlbchgaaDoor
