/- The law SpecialOne. -/
import Derived.Test.YtbfnjjnnlbchgaaSpL
namespace Go.Proofs.Ytbfnjjnnlbchgaa
open Go.RowKit Num
set_option linter.unusedSimpArgs false
set_option linter.unusedVariables false
set_option maxRecDepth 100000

def Good (b : Int) : Prop := Wd b ∧ (isNot b = false ∨ b = 9221120237041090560)
theorem flip_kind {y : Int} (h : Wd y) : kindI ((y + 9223372036854775808) % 18446744073709551616) = kindI y := by
  have e1 : expo ((y + 9223372036854775808) % 18446744073709551616) = expo y := by unfold expo; unfold Wd at h; omega
  have e2 : frac ((y + 9223372036854775808) % 18446744073709551616) = frac y := by unfold frac; unfold Wd at h; omega
  unfold kindI
  rw [e1, e2]
theorem good_clean {x : Int} (h : Wd x) : Good (cleanW x) := by
  unfold cleanW
  cases hn : isNot x
  · exact ⟨h, .inl hn⟩
  · exact (show Good 9221120237041090560 from ⟨⟨by decide, by decide⟩, .inr rfl⟩)
theorem good_flip {y : Int} (h : Wd y) (hn : isNot y = false) : Good ((y + 9223372036854775808) % 18446744073709551616) :=
  ⟨⟨by omega, by omega⟩, .inl (by unfold isNot at hn ⊢; rw [flip_kind h]; exact hn)⟩
theorem good_inf {s : Int} (h : Sgn s) : Good (9218868437227405312 + s) := by rcases h with rfl | rfl <;> exact ⟨⟨by decide, by decide⟩, .inl (by decide)⟩
theorem good_pi {s : Int} (h : Sgn s) : Good (4614256656552045848 + s) := by rcases h with rfl | rfl <;> exact ⟨⟨by decide, by decide⟩, .inl (by decide)⟩
theorem good_sgn {s : Int} (h : Sgn s) : Good s := by rcases h with rfl | rfl <;> exact ⟨⟨by decide, by decide⟩, .inl (by decide)⟩
theorem good_inf0 : Good 9218868437227405312 := ⟨⟨by decide, by decide⟩, .inl (by decide)⟩
theorem good_ninf : Good 18442240474082181120 := ⟨⟨by decide, by decide⟩, .inl (by decide)⟩
theorem good_nan : Good 9221120237041090560 := ⟨⟨by decide, by decide⟩, .inr rfl⟩
theorem good_zero : Good 0 := ⟨⟨by decide, by decide⟩, .inl (by decide)⟩
theorem not_inf0 : isNot 9218868437227405312 = false := by decide
theorem not_sgn {s : Int} (h : Sgn s) : isNot s = false := by rcases h with rfl | rfl <;> decide
theorem ang_fst {x y s z : Int} (h : Sgn z) : Good (angI x y s z).1 ∧ ((angI x y s z).2 = 0 ∨ (angI x y s z).2 = 1) ∧ isNot (angI x y s z).1 = false := by
  unfold angI
  rcases h with rfl | rfl
  all_goals
    repeat' split
    all_goals exact ⟨⟨⟨by decide, by decide⟩, .inl (by decide)⟩, by decide, by decide⟩
/-- What told answers. -/
def Told (x y : Int) (t : Int × Int × Int × Bool) : Prop :=
  t.2.2.2 = true → Good t.1 ∧ Good t.2.1 ∧ (t.2.2.1 = 0 ∨ t.2.2.1 = 1) ∧ (isNot x = false → isNot y = false → (isNot t.1 && isNot t.2.1) = false)
theorem told_inf {x y b f : Int} {ok : Bool} (hb : Good b) (hf : f = 0 ∨ f = 1) : Told x y (9218868437227405312, b, f, ok) := fun _ => ⟨good_inf0, hb, hf, fun _ _ => by simp only [not_inf0, Bool.false_and]⟩
theorem told_one (tag x y : Int) (hx : Wd x) (hy : Wd y) : Told x y (toldI tag x y (sgnw x) (sgnw y)) := by
  have sx := sgnw_sgn x
  have sy := sgnw_sgn y
  generalize sgnw x = a at *
  generalize sgnw y = b at *
  unfold toldI
  split
  · intro _
    refine ⟨good_clean hx, ?_, .inl rfl, fun h _ => ?_⟩
    · show Good (if isNot y then cleanW y else (cleanW y + 9223372036854775808) % 18446744073709551616)
      cases hn : isNot y
      · have e : cleanW y = y := by unfold cleanW; rw [hn]; rfl
        rw [e]; exact good_flip hy hn
      · exact good_clean hy
    · show (isNot (cleanW x) && _) = false
      have e : cleanW x = x := by unfold cleanW; rw [h]; rfl
      rw [e, h]; rfl
  split
  · split
    · exact told_inf (good_sgn sy) (.inl rfl)
    · intro _
      refine ⟨good_clean hx, good_clean hy, .inl rfl, fun h _ => ?_⟩
      show (isNot (cleanW x) && _) = false
      have e : cleanW x = x := by unfold cleanW; rw [h]; rfl
      rw [e, h]; rfl
  split
  · exact told_inf good_zero (.inl rfl)
  have A := ang_fst (x := x) (y := y) (s := a) sy
  split
  · intro _
    exact ⟨A.1, good_zero, A.2.1, fun _ _ => by show (isNot (angI x y a b).1 && _) = false; rw [A.2.2]; rfl⟩
  split
  · split
    · exact told_inf (good_inf sy) (.inl rfl)
    · split
      · exact told_inf (good_sgn sy) (.inl rfl)
      · intro _
        exact ⟨good_zero, good_inf sy, .inl rfl, fun _ _ => by show (isNot 0 && _) = false; rw [show isNot 0 = false by decide]; rfl⟩
  split
  · split
    · exact told_inf (good_sgn sy) (.inl rfl)
    · intro _
      exact ⟨good_zero, good_sgn sy, .inl rfl, fun _ _ => by show (isNot 0 && _) = false; rw [show isNot 0 = false by decide]; rfl⟩
  split
  · exact told_inf A.1 A.2.1
  · intro h; cases h
theorem sing_one (tag x y u : Int) : (singI tag x y (sgnw x) (sgnw y) u).2.2.2 = true → Good (singI tag x y (sgnw x) (sgnw y) u).1 ∧ Good (singI tag x y (sgnw x) (sgnw y) u).2.1 ∧ ((singI tag x y (sgnw x) (sgnw y) u).2.2.1 = 16 ∨ (singI tag x y (sgnw x) (sgnw y) u).2.2.1 = 17) := by
  have sx := sgnw_sgn x
  have sy := sgnw_sgn y
  generalize sgnw x = a at *
  generalize sgnw y = b at *
  unfold singI
  split
  · split
    · exact fun _ => ⟨good_ninf, good_pi sy, .inr rfl⟩
    · exact fun _ => ⟨good_ninf, good_sgn sy, .inl rfl⟩
  split
  · exact fun _ => ⟨good_sgn sx, good_inf sy, .inl rfl⟩
  split
  · exact fun _ => ⟨good_inf sx, good_sgn sy, .inl rfl⟩
  split
  · intro h; cases h
  · intro _
    refine ⟨?_, ?_, .inl rfl⟩
    · show Good (if isZero x then _ else _)
      split
      · exact good_nan
      · exact good_inf (sgI_sgn x u)
    · show Good (if isZero y then _ else _)
      split
      · exact good_nan
      · exact good_inf (sgI_sgn y u)
theorem allN_two {x y u v : Int} {m : Nat} (hm : 2 ≤ m) (h : allN x y u v m = true) : isNot x = false ∧ isNot y = false := by
  unfold allN at h
  rw [List.all_eq_true] at h
  have h0 := h 0 (List.mem_range.2 (by omega))
  have h1 := h 1 (List.mem_range.2 (by omega))
  rw [show zat x y u v 0 = x from rfl] at h0
  rw [show zat x y u v 1 = y from rfl] at h1
  exact ⟨by simpa using h0, by simpa using h1⟩
def OneP (aN : Bool) (t : Int × Int × Int × Bool) : Prop :=
  t = (0, 0, 0, false) ∨ (t.2.2.2 = true ∧ Good t.1 ∧ Good t.2.1 ∧ ((t.2.2.1 = 8 ∧ isNot t.1 = true ∧ isNot t.2.1 = true ∧ aN = true) ∨ ((t.2.2.1 = 0 ∨ t.2.2.1 = 1) ∧ (isNot t.1 && isNot t.2.1 && aN) = false) ∨ (t.2.2.1 = 16 ∨ t.2.2.1 = 17)))
theorem one_nan (aN : Bool) : OneP aN (9221120237041090560, 9221120237041090560, (if aN then 8 else 0), true) := by
  refine .inr ⟨rfl, good_nan, good_nan, ?_⟩
  cases aN
  · exact .inr (.inl ⟨.inl rfl, by simp⟩)
  · exact .inl ⟨rfl, by decide, by decide, rfl⟩
theorem one_spec (tag x y u v : Int) (hx : Wd x) (hy : Wd y) : OneP (allN x y u v (many tag)) (specI tag x y u v) := by
  have hm : 2 ≤ many tag := by unfold many; split <;> omega
  unfold specI
  split
  · exact .inl rfl
  split
  · have T := told_one tag x y hx hy
    generalize toldI tag x y (sgnw x) (sgnw y) = t at *
    unfold finI
    split
    · rename_i ht
      obtain ⟨g1, g2, f, n⟩ := T ht
      refine .inr ⟨ht, g1, g2, .inr (.inl ⟨f, ?_⟩)⟩
      cases ha : allN x y u v (many tag)
      · simp
      · obtain ⟨p, q⟩ := allN_two hm ha
        rw [n p q]; rfl
    · exact one_nan _
  split
  · have S := sing_one tag x y u
    generalize singI tag x y (sgnw x) (sgnw y) u = t at *
    unfold finI
    split
    · rename_i ht
      obtain ⟨g1, g2, f⟩ := S ht
      exact .inr ⟨ht, g1, g2, .inr (.inr f)⟩
    · exact one_nan _
  · exact .inl rfl
set_option maxHeartbeats 4000000 in
theorem specialOne (tag x y u v : Int) (w : World) (hx : Wd x) (hy : Wd y) (hu : Wd u) (hv : Wd v) :
    Calls Try.prog 4 #[.int .i64 tag, .agg #[.int .u64 x, .int .u64 y, .int .u64 u, .int .u64 v]] w fun r w' => r = .returned (.bool true) ∧ Below w.heap.size w w' := by
  have b1 := below_alloc (below_self w) (.cells #[.int .u64 x, .int .u64 y, .int .u64 u, .int .u64 v] 24)
  have bz := box_new w #[.int .u64 x, .int .u64 y, .int .u64 u, .int .u64 v] 24
  have AW := Lib.hid (awake13 (w.alloc (.cells #[.int .u64 x, .int .u64 y, .int .u64 u, .int .u64 v] 24)))
  have S := fun w => spspecial tag x y u v w hx hy hu hv
  unfold RetT at S
  have ONE := one_spec tag x y u v hx hy
  generalize specI tag x y u v = t at *
  obtain ⟨t1, t2, t3, t4⟩ := t
  unfold OneP at ONE
  simp only [Prod.mk.injEq] at S ONE
  rcases ONE with ⟨rfl, rfl, rfl, rfl⟩ | ⟨rfl, g1, g2, F⟩
  · have S := Lib.hid S
    go_enter Try.func4, Try.ntmps4
    go_wp2_with fail
    refine AW.out.mono ?_; rintro r w1 ⟨rfl, hb1⟩
    obtain ⟨k0, k1, k2, k3⟩ := (bz.later hb1).cell4
    go_wp2_with fail
    refine (S.out w1).mono ?_; rintro r w2 ⟨rfl, hb2⟩
    have hb2' := below_alloc hb2 (.cells #[.int .u64 0, .int .u64 0] 26)
    have x2 := box_new w2 #[.int .u64 0, .int .u64 0] 26
    have c0 := x2.cell 0
    have c1 := x2.cell 1
    go_wp2_with fail
    rw [eq_duo]
    simp only [Result.andThen_ok, Oper.upon_value, BEq.rfl, Bool.and_self]
    go_wp2_with fail
    go_ret
    exact ⟨rfl, below_on b1 (below_on hb1 hb2')⟩
  · have R1 := fun w => rkind t1 w g1.1.1 g1.1.2
    have R2 := fun w => rkind t2 w g2.1.1 g2.1.2
    have d1 : (kindI t1 == 4) = isNot t1 := rfl
    have d2 : (kindI t2 == 4) = isNot t2 := rfl
    have g1' := g1.2
    have g2' := g2.2
    clear g1 g2
    have NS := Lib.hid (fun i => allN_succ x y u v i)
    have RZ := Lib.hid (fun i w => rkind (zat x y u v i) w (zat_wd hx hy hu hv i).1 (zat_wd hx hy hu hv i).2)
    have HN0 : Hid (allN x y u v 0 = true) := rfl
    have ht : (tag = 4 ∧ many tag = 4) ∨ ((tag == 4) = false ∧ tag = 5 ∧ many tag = 4) ∨ ((tag == 4) = false ∧ (tag == 5) = false ∧ many tag = 2) := by
      unfold many
      by_cases h4 : tag = 4
      · exact .inl ⟨h4, by rw [if_pos (.inl h4)]⟩
      · by_cases h5 : tag = 5
        · exact .inr (.inl ⟨beq_eq_false_iff_ne.2 h4, h5, by rw [if_pos (.inr h5)]⟩)
        · exact .inr (.inr ⟨beq_eq_false_iff_ne.2 h4, beq_eq_false_iff_ne.2 h5, by rw [if_neg (by omega)]⟩)
    generalize many tag = mt at *
    generalize kindI t1 = κ1 at *
    generalize kindI t2 = κ2 at *
    generalize isNot t1 = m1 at *
    generalize isNot t2 = m2 at *
    have HF := Lib.hid F
    have HT := Lib.hid ht
    have R1 := Lib.hid R1
    have R2 := Lib.hid R2
    have S := Lib.hid S
    have hmt : mt = 2 ∨ mt = 4 := by omega
    have HMT := Lib.hid hmt
    have G1 := Lib.hid g1'
    have G2 := Lib.hid g2'
    clear F ht hmt g1' g2'
    have i0 : ∀ w, (Instr.index 26 (.agg #[.int .u64 t1, .int .u64 t2]) (.int .i64 0)).run Try.prog w = .ok (.int .u64 t1) w := fun _ => by kernel_rfl
    have i1 : ∀ w, (Instr.index 26 (.agg #[.int .u64 t1, .int .u64 t2]) (.int .i64 1)).run Try.prog w = .ok (.int .u64 t2) w := fun _ => by kernel_rfl
    go_enter Try.func4, Try.ntmps4
    go_wp2_with fail
    refine AW.out.mono ?_; rintro r w1 ⟨rfl, hb1⟩
    obtain ⟨k0, k1, k2, k3⟩ := (bz.later hb1).cell4
    go_wp2_with fail
    refine (S.out w1).mono ?_; rintro r w2 ⟨rfl, hb2⟩
    have hb2' := below_alloc hb2 (.cells #[.int .u64 t1, .int .u64 t2] 26)
    have x2 := box_new w2 #[.int .u64 t1, .int .u64 t2] 26
    have bz2 := (bz.later hb1).later hb2'
    clear k0 k1 k2 k3
    have c0 := x2.cell 0
    have c1 := x2.cell 1
    go_wp2_with fail
    clear c0 c1
    go_loopw [8, 34] (fun vn vi wr => wr = w2.alloc (.cells #[.int .u64 t1, .int .u64 t2] 26) ∧ ((vi = .int .i64 0 ∧ vn = .int .i64 0) ∨ (vi = .int .i64 1 ∧ vn = .int .i64 (if m1 then 1 else 0)) ∨ (vi = .int .i64 2 ∧ vn = .int .i64 ((if m1 then 1 else 0) + (if m2 then 1 else 0))))) (fun _ vi _ => 2 - (intOf vi).toNat)
    case atStart => exact ⟨rfl, .inl ⟨rfl, rfl⟩⟩
    case round =>
      obtain ⟨rfl, ⟨rfl, rfl⟩ | ⟨rfl, rfl⟩ | ⟨rfl, rfl⟩⟩ := hrel
      · go_wp2_with fail
        refine (R1.out _).mono ?_; rintro r w' ⟨rfl, rfl⟩
        cases m1
        · go_wp2_with fail
          exact ⟨⟨by trivial, .inr (.inl ⟨rfl, rfl⟩)⟩, by simp only [intOf]; omega⟩
        · obtain rfl : t1 = 9221120237041090560 := by simpa using G1.out
          go_wp2_with fail
          exact ⟨⟨by trivial, .inr (.inl ⟨rfl, rfl⟩)⟩, by simp only [intOf]; omega⟩
      · cases m1 <;> cases m2
        · go_wp2_with fail
          refine (R2.out _).mono ?_; rintro r w' ⟨rfl, hw'⟩; subst hw'
          go_wp2_with fail
          exact ⟨⟨by trivial, .inr (.inr ⟨rfl, rfl⟩)⟩, by simp only [intOf]; omega⟩
        · obtain rfl : t2 = 9221120237041090560 := by simpa using G2.out
          go_wp2_with fail
          refine (R2.out _).mono ?_; rintro r w' ⟨rfl, hw'⟩; subst hw'
          go_wp2_with fail
          exact ⟨⟨by trivial, .inr (.inr ⟨rfl, rfl⟩)⟩, by simp only [intOf]; omega⟩
        · go_wp2_with fail
          refine (R2.out _).mono ?_; rintro r w' ⟨rfl, hw'⟩; subst hw'
          go_wp2_with fail
          exact ⟨⟨by trivial, .inr (.inr ⟨rfl, rfl⟩)⟩, by simp only [intOf]; omega⟩
        · obtain rfl : t2 = 9221120237041090560 := by simpa using G2.out
          go_wp2_with fail
          refine (R2.out _).mono ?_; rintro r w' ⟨rfl, hw'⟩; subst hw'
          go_wp2_with fail
          exact ⟨⟨by trivial, .inr (.inr ⟨rfl, rfl⟩)⟩, by simp only [intOf]; omega⟩
      · generalize hc : (if m1 then 1 else 0 : Int) + (if m2 then 1 else 0) = cn at *
        have HC := Lib.hid hc
        clear hc d1 d2
        have hbt := below_on b1 (below_on hb1 hb2')
        have f3 : t3 = 8 ∨ t3 = 0 ∨ t3 = 1 ∨ t3 = 16 ∨ t3 = 17 := by
          rcases HF.out with h | h | h
          · exact .inl h.1
          · rcases h.1 with h | h <;> simp [h]
          · rcases h with h | h <;> simp [h]
        have a3 : bits .andNot .i64 t3 25 = 0 := by rcases f3 with rfl | rfl | rfl | rfl | rfl <;> decide
        clear f3 i0 i1
        have bzz := bz2
        generalize hwz : w2.alloc (.cells #[.int .u64 t1, .int .u64 t2] 26) = wz at *
        clear hwz
        rcases HT.out with ⟨rfl, hm⟩ | ⟨h4, rfl, hm⟩ | ⟨h4, h5, hm⟩
        all_goals subst hm
        · go_wp2_with fail
          (go_loopw [12, 57] (fun vn vi wr => wr = wz ∧ ∃ i : Nat, i ≤ 4 ∧ vi = .int .i64 i ∧ vn = .bool (!allN x y u v i)) (fun _ vi _ => 4 - (intOf vi).toNat); (case atStart => exact ⟨rfl, 0, Nat.zero_le _, rfl, by rw [HN0.out]; rfl⟩); (case round => (obtain ⟨rfl, i, hi, rfl, rfl⟩ := hrel); by_cases h0 : i < 4; (· (have hc := four_cells bzz i (by omega)); (have ns := NS.out i); (have rz := RZ.out i); (have dz : (kindI (zat x y u v i) == 4) = isNot (zat x y u v i) := rfl); (generalize kindI (zat x y u v i) = kz at *); (generalize isNot (zat x y u v i) = zi at *); (generalize zat x y u v i = z at *); (have NSi := Lib.hid ns); (have RZi := Lib.hid rz); (clear ns rz); (generalize allN x y u v i = ao at *); cases ao <;> cases zi; all_goals ((have NI : Hid _ := NSi.out); (clear NSi); (go_wp2_with (first | (go_at_call_of 9 (Value.int .u64 z); refine (RZi.out _).mono ?_; rintro r w' ⟨rfl, hw'⟩; subst hw'))); exact ⟨⟨by trivial, i + 1, by omega, by go_num, by rw [NI.out]; rfl⟩, by simp only [intOf]; omega⟩)); (· (obtain rfl : i = 4 := by omega); (have F := HF.out); (have hcn := HC.out); (clear HF HC HT HMT NS RZ HN0 S R1 R2 G1 G2 AW a3); (generalize allN x y u v 4 = aN at *); (cases m1 <;> cases m2 <;> cases aN); all_goals ((simp only [Bool.and_true, Bool.and_false, Bool.true_and, Bool.false_and, Bool.false_eq_true, Bool.true_eq_false, and_false, and_true, false_or, or_false, if_true, if_false, reduceCtorEq] at F hcn); (first | (obtain rfl : cn = 0 := hcn.symm) | (obtain rfl : cn = 1 := hcn.symm) | (obtain rfl : cn = 2 := hcn.symm)); (try clear hcn); (have F' : t3 = 8 ∨ t3 = 0 ∨ t3 = 1 ∨ t3 = 16 ∨ t3 = 17 := by omega); (have G := Lib.hid F); (clear F); (have e0 : bits .and .i64 8 8 = 8 := by decide); (have e1 : bits .and .i64 0 8 = 0 := by decide); (have e2 : bits .and .i64 1 8 = 0 := by decide); (have e3 : bits .and .i64 16 8 = 0 := by decide); (have e4 : bits .and .i64 17 8 = 0 := by decide); (have f0 : bits .and .i64 8 16 = 0 := by decide); (have f1 : bits .and .i64 0 16 = 0 := by decide); (have f2 : bits .and .i64 1 16 = 0 := by decide); (have f3 : bits .and .i64 16 16 = 16 := by decide); (have f4 : bits .and .i64 17 16 = 16 := by decide); (rcases F' with rfl | rfl | rfl | rfl | rfl); all_goals (first | (exfalso; have := G.out; omega) | (go_wp2_with fail; go_ret; exact ⟨by simp, hbt⟩))))))
        · go_wp2_with fail
          (go_loopw [12, 57] (fun vn vi wr => wr = wz ∧ ∃ i : Nat, i ≤ 4 ∧ vi = .int .i64 i ∧ vn = .bool (!allN x y u v i)) (fun _ vi _ => 4 - (intOf vi).toNat); (case atStart => exact ⟨rfl, 0, Nat.zero_le _, rfl, by rw [HN0.out]; rfl⟩); (case round => (obtain ⟨rfl, i, hi, rfl, rfl⟩ := hrel); by_cases h0 : i < 4; (· (have hc := four_cells bzz i (by omega)); (have ns := NS.out i); (have rz := RZ.out i); (have dz : (kindI (zat x y u v i) == 4) = isNot (zat x y u v i) := rfl); (generalize kindI (zat x y u v i) = kz at *); (generalize isNot (zat x y u v i) = zi at *); (generalize zat x y u v i = z at *); (have NSi := Lib.hid ns); (have RZi := Lib.hid rz); (clear ns rz); (generalize allN x y u v i = ao at *); cases ao <;> cases zi; all_goals ((have NI : Hid _ := NSi.out); (clear NSi); (go_wp2_with (first | (go_at_call_of 9 (Value.int .u64 z); refine (RZi.out _).mono ?_; rintro r w' ⟨rfl, hw'⟩; subst hw'))); exact ⟨⟨by trivial, i + 1, by omega, by go_num, by rw [NI.out]; rfl⟩, by simp only [intOf]; omega⟩)); (· (obtain rfl : i = 4 := by omega); (have F := HF.out); (have hcn := HC.out); (clear HF HC HT HMT NS RZ HN0 S R1 R2 G1 G2 AW a3); (generalize allN x y u v 4 = aN at *); (cases m1 <;> cases m2 <;> cases aN); all_goals ((simp only [Bool.and_true, Bool.and_false, Bool.true_and, Bool.false_and, Bool.false_eq_true, Bool.true_eq_false, and_false, and_true, false_or, or_false, if_true, if_false, reduceCtorEq] at F hcn); (first | (obtain rfl : cn = 0 := hcn.symm) | (obtain rfl : cn = 1 := hcn.symm) | (obtain rfl : cn = 2 := hcn.symm)); (try clear hcn); (have F' : t3 = 8 ∨ t3 = 0 ∨ t3 = 1 ∨ t3 = 16 ∨ t3 = 17 := by omega); (have G := Lib.hid F); (clear F); (have e0 : bits .and .i64 8 8 = 8 := by decide); (have e1 : bits .and .i64 0 8 = 0 := by decide); (have e2 : bits .and .i64 1 8 = 0 := by decide); (have e3 : bits .and .i64 16 8 = 0 := by decide); (have e4 : bits .and .i64 17 8 = 0 := by decide); (have f0 : bits .and .i64 8 16 = 0 := by decide); (have f1 : bits .and .i64 0 16 = 0 := by decide); (have f2 : bits .and .i64 1 16 = 0 := by decide); (have f3 : bits .and .i64 16 16 = 16 := by decide); (have f4 : bits .and .i64 17 16 = 16 := by decide); (rcases F' with rfl | rfl | rfl | rfl | rfl); all_goals (first | (exfalso; have := G.out; omega) | (go_wp2_with fail; go_ret; exact ⟨by simp, hbt⟩))))))
        · go_wp2_with fail
          (go_loopw [12, 57] (fun vn vi wr => wr = wz ∧ ∃ i : Nat, i ≤ 2 ∧ vi = .int .i64 i ∧ vn = .bool (!allN x y u v i)) (fun _ vi _ => 2 - (intOf vi).toNat); (case atStart => exact ⟨rfl, 0, Nat.zero_le _, rfl, by rw [HN0.out]; rfl⟩); (case round => (obtain ⟨rfl, i, hi, rfl, rfl⟩ := hrel); by_cases h0 : i < 2; (· (have hc := four_cells bzz i (by omega)); (have ns := NS.out i); (have rz := RZ.out i); (have dz : (kindI (zat x y u v i) == 4) = isNot (zat x y u v i) := rfl); (generalize kindI (zat x y u v i) = kz at *); (generalize isNot (zat x y u v i) = zi at *); (generalize zat x y u v i = z at *); (have NSi := Lib.hid ns); (have RZi := Lib.hid rz); (clear ns rz); (generalize allN x y u v i = ao at *); cases ao <;> cases zi; all_goals ((have NI : Hid _ := NSi.out); (clear NSi); (go_wp2_with (first | (go_at_call_of 9 (Value.int .u64 z); refine (RZi.out _).mono ?_; rintro r w' ⟨rfl, hw'⟩; subst hw'))); exact ⟨⟨by trivial, i + 1, by omega, by go_num, by rw [NI.out]; rfl⟩, by simp only [intOf]; omega⟩)); (· (obtain rfl : i = 2 := by omega); (have F := HF.out); (have hcn := HC.out); (clear HF HC HT HMT NS RZ HN0 S R1 R2 G1 G2 AW a3); (generalize allN x y u v 2 = aN at *); (cases m1 <;> cases m2 <;> cases aN); all_goals ((simp only [Bool.and_true, Bool.and_false, Bool.true_and, Bool.false_and, Bool.false_eq_true, Bool.true_eq_false, and_false, and_true, false_or, or_false, if_true, if_false, reduceCtorEq] at F hcn); (first | (obtain rfl : cn = 0 := hcn.symm) | (obtain rfl : cn = 1 := hcn.symm) | (obtain rfl : cn = 2 := hcn.symm)); (try clear hcn); (have F' : t3 = 8 ∨ t3 = 0 ∨ t3 = 1 ∨ t3 = 16 ∨ t3 = 17 := by omega); (have G := Lib.hid F); (clear F); (have e0 : bits .and .i64 8 8 = 8 := by decide); (have e1 : bits .and .i64 0 8 = 0 := by decide); (have e2 : bits .and .i64 1 8 = 0 := by decide); (have e3 : bits .and .i64 16 8 = 0 := by decide); (have e4 : bits .and .i64 17 8 = 0 := by decide); (have f0 : bits .and .i64 8 16 = 0 := by decide); (have f1 : bits .and .i64 0 16 = 0 := by decide); (have f2 : bits .and .i64 1 16 = 0 := by decide); (have f3 : bits .and .i64 16 16 = 16 := by decide); (have f4 : bits .and .i64 17 16 = 16 := by decide); (rcases F' with rfl | rfl | rfl | rfl | rfl); all_goals (first | (exfalso; have := G.out; omega) | (go_wp2_with fail; go_ret; exact ⟨by simp, hbt⟩))))))
end Go.Proofs.Ytbfnjjnnlbchgaa
