/- The document's Special, tag by tag (5, where something is singular). -/
import Derived.Test.YtbfnjjnnlbchgaaSpI
namespace Go.Proofs.Ytbfnjjnnlbchgaa
open Go.RowKit Num
set_option linter.unusedSimpArgs false
set_option linter.unusedVariables false
set_option maxRecDepth 100000

theorem anyK_nextSpJF (x y u v : Int) (i : Nat) : anyK x y u v (i + 1) = (anyK x y u v i || (isInf (zat x y u v i) || isNot (zat x y u v i))) := by rw [anyK_succ, kind3]
set_option maxHeartbeats 8000000 in
theorem tspecial5b (x y u v : Int) (w : World) (hx : Wd x) (hy : Wd y) (hu : Wd u) (hv : Wd v) (hsg : singZ 5 x y u v = true) :
    Calls Try.prog 8 #[.int .i64 5, .agg #[.int .u64 x, .int .u64 y, .int .u64 u, .int .u64 v]] w (RetT (specI 5 x y u v) w) := by
  have b1 : Below w.heap.size w ((w.alloc (.cells #[.int .u64 x, .int .u64 y, .int .u64 u, .int .u64 v] 24)).alloc (.cells #[.int .u64 0, .int .u64 0] 26)) := below_alloc (below_alloc (below_self w) _) _
  have bz := (box_new w #[.int .u64 x, .int .u64 y, .int .u64 u, .int .u64 v] 24).later (below_alloc (below_self _) (.cells #[.int .u64 0, .int .u64 0] 26))
  have br := box_new (w.alloc (.cells #[.int .u64 x, .int .u64 y, .int .u64 u, .int .u64 v] 24)) #[.int .u64 0, .int .u64 0] 26
  rw [show (w.alloc (.cells #[.int .u64 x, .int .u64 y, .int .u64 u, .int .u64 v] 24)).heap.size = w.heap.size + 1 by simp] at br
  have hsz : ((w.alloc (.cells #[.int .u64 x, .int .u64 y, .int .u64 u, .int .u64 v] 24)).alloc (.cells #[.int .u64 0, .int .u64 0] 26)).heap.size = w.heap.size + 1 + 1 := by simp
  have HSZ := Lib.hid hsz
  clear hsz
  have r0 := br.cell 0
  have r1 := br.cell 1
  have f0 := br.free 0
  have f1 := br.free 1
  rw [spec_tab 5 x y u v (by omega) (by omega)]
  have SG := fun w => tsingular 5 x y u v w hx hy hu hv
  have IX := fun w => tinf x w hx.1 hx.2
  have IY := fun w => tinf y w hy.1 hy.2
  have OY := fun w => tnot y w hy.1 hy.2
  have CX := fun w => tclean x w hx.1 hx.2
  have CY := fun w => tclean y w hy.1 hy.2
  have ZX := fun w => tzero x w hx.1 hx.2
  have ZY := fun w => tzero y w hy.1 hy.2
  have NX := fun w => rneg x w
  have NY := fun w => rneg y w
  have NU := fun w => rneg u w
  have AN := fun w => tangle x y w hx hy
  have WX := fun (c : Int) w (h0 : 0 ≤ c) (h1 : c < 9223372036854775808) => twith c (negB x) w h0 h1
  have WY := fun (c : Int) w (h0 : 0 ≤ c) (h1 : c < 9223372036854775808) => twith c (negB y) w h0 h1
  have WT := fun (c : Int) w (h0 : 0 ≤ c) (h1 : c < 9223372036854775808) => twith c true w h0 h1
  have WB := fun b w => twith 9218868437227405312 b w (by decide) (by decide)
  simp only [with_sgn] at WX WY
  have AS := Lib.hid (fun i => anyK_nextSpJF x y u v i)
  have NS := Lib.hid (fun i => allN_succ x y u v i)
  have II := Lib.hid (fun i w => tinf (zat x y u v i) w (zat_wd hx hy hu hv i).1 (zat_wd hx hy hu hv i).2)
  have ON := Lib.hid (fun i w => tnot (zat x y u v i) w (zat_wd hx hy hu hv i).1 (zat_wd hx hy hu hv i).2)
  have HA0 : Hid (anyK x y u v 0 = false) := rfl
  have HN0 : Hid (allN x y u v 0 = true) := rfl
  generalize hT : tabI 5 x y u (anyK x y u v (many 5)) (allN x y u v (many 5)) (singZ 5 x y u v) = T
  obtain ⟨Ta, Tb, Tf, Tok⟩ := T
  unfold RetT
  simp only
  unfold tabI nanT sgI at hT
  have hsa0 : singZ 5 x y u v = true → anyK x y u v (many 5) = false := sing_any
  generalize singZ 5 x y u v = sing at *
  subst hsg
  generalize isInf x = ix at *
  generalize isInf y = iy at *
  generalize isNot y = oy at *
  generalize cleanW x = cx at *
  generalize cleanW y = cy at *
  generalize isZero x = zx at *
  generalize isZero y = zy at *
  generalize angI x y (sgnw x) (sgnw y) = an at *
  obtain ⟨an1, an2⟩ := an
  simp only at AN hT
  generalize sgnw x = sx at *
  generalize sgnw y = sy at *
  generalize negB x = nx at *
  generalize negB y = ny at *
  generalize negB u = nu at *
  have HT := Lib.hid hT
  have SG := Lib.hid SG
  have IX := Lib.hid IX
  have IY := Lib.hid IY
  have OY := Lib.hid OY
  have CX := Lib.hid CX
  have CY := Lib.hid CY
  have ZX := Lib.hid ZX
  have ZY := Lib.hid ZY
  have NX := Lib.hid NX
  have NY := Lib.hid NY
  have NU := Lib.hid NU
  have AN := Lib.hid AN
  have WX := Lib.hid WX
  have WY := Lib.hid WY
  have WT := Lib.hid WT
  have WB := Lib.hid WB
  clear hT r0 r1 f0 f1
  have HSA := Lib.hid hsa0
  clear hsa0
  have hm : many 5 = 4 := rfl
  rw [hm] at HT HSA
  clear hm
  have HTT := HT.out
  clear HT
  have HT := Lib.hid HTT
  clear HTT
  go_enter Try.func8, Try.ntmps8
  go_wp2_with fail
  go_loopw [8, 9, 10] (fun vo vn vi wr => ∃ i : Nat, i ≤ 4 ∧ vi = .int .i64 i ∧ vo = .bool (anyK x y u v i) ∧ vn = .bool (allN x y u v i) ∧ Below ((w.alloc (.cells #[.int .u64 x, .int .u64 y, .int .u64 u, .int .u64 v] 24)).alloc (.cells #[.int .u64 0, .int .u64 0] 26)).heap.size ((w.alloc (.cells #[.int .u64 x, .int .u64 y, .int .u64 u, .int .u64 v] 24)).alloc (.cells #[.int .u64 0, .int .u64 0] 26)) wr) (fun _ _ vi _ => 4 - (intOf vi).toNat)
  case atStart => exact ⟨0, Nat.zero_le _, rfl, by rw [HA0.out], by rw [HN0.out], below_self _⟩
  case round =>
    obtain ⟨i, hi, rfl, rfl, rfl, hW⟩ := hrel
    by_cases h0 : i < 4
    · skip
      have hc := four_cells (bz.later hW) i (by omega)
      have aas := AS.out i
      have ns := NS.out i
      have ii := II.out i
      have on := ON.out i
      generalize isInf (zat x y u v i) = zi1 at *
      generalize isNot (zat x y u v i) = zi2 at *
      generalize zat x y u v i = zi at *
      generalize hao : anyK x y u v i = ao at *
      generalize han : allN x y u v i = an' at *
      clear hao han
      have I1 := Lib.hid ii
      have O1 := Lib.hid on
      clear ii on
      cases ao <;> cases an' <;> cases zi1 <;> cases zi2
      all_goals
        have AI : Hid _ := aas
        have NI : Hid _ := ns
        clear aas ns
        go_wp2_with (first | (go_at_call_of 15 (Value.int .u64 zi); refine (I1.out _).mono ?_; rintro r w' ⟨rfl, rfl⟩) | (go_at_call_of 16 (Value.int .u64 zi); refine (O1.out _).mono ?_; rintro r w' ⟨rfl, rfl⟩))
        exact ⟨⟨i + 1, by omega, by go_num, AI.out.symm ▸ rfl, NI.out.symm ▸ rfl, hW⟩, by simp only [intOf]; omega⟩
    · obtain rfl : i = 4 := by omega
      have q := HT.out
      have hsa := HSA.out
      generalize anyK x y u v 4 = ao at *
      generalize allN x y u v 4 = aN at *
      have hwt := below_on b1 hW
      have bz3 := bz.later hW
      have br3 := br.later hW
      obtain ⟨z0, z1, z2, z3⟩ := bz3.cell4
      clear bz br HT hW HSA
      cases ao
      · skip
        simp only [Bool.not_false, Bool.not_true, Bool.and_false, Bool.false_and, Bool.true_and, Bool.and_true, Bool.false_eq_true, if_false, if_true] at q
        clear hsa
        go_wp2_with fail
        refine (SG.out _).mono ?_; rintro r w4 ⟨rfl, hb4⟩
        have br4 := br3.later hb4
        have hw4 := below_on hwt hb4
        have r0 := br4.cell 0
        have r1 := br4.cell 1
        have f0 := br4.free 0
        have f1 := br4.free 1
        clear z0 z1 z2 z3
        obtain ⟨z0, z1, z2, z3⟩ := (bz3.later hb4).cell4
        have ra0 := fun (o : Obj) => (br4.later (below_alloc (below_self w4) o)).cell 0
        have ra1 := fun (o : Obj) => (br4.later (below_alloc (below_self w4) o)).cell 1
        have ra2 := fun (o : Obj) => (br4.later (below_alloc (below_self w4) o)).free 0
        have ra3 := fun (o : Obj) => (br4.later (below_alloc (below_self w4) o)).free 1
        clear bz3 br3 hb4 hwt SG
        have hw1 : 9218868437227405312 + (if (nx != nu) = true then 9223372036854775808 else 0) = withW 9218868437227405312 (!(nx == nu)) := by cases nx <;> cases nu <;> rfl
        have hw2 : 9218868437227405312 + (if (ny != nu) = true then 9223372036854775808 else 0) = withW 9218868437227405312 (!(ny == nu)) := by cases ny <;> cases nu <;> rfl
        simp only [hw1, hw2] at q
        clear hw1 hw2
        cases zx <;> cases zy <;> cases aN
        all_goals
          simp only [Bool.false_eq_true, if_false, if_true, Bool.or_true, Bool.true_or, Bool.or_false, Bool.false_or, Bool.and_true, Bool.true_and, Bool.and_false, Bool.false_and, Bool.not_true, Bool.not_false, Prod.mk.injEq] at q
          obtain ⟨rfl, rfl, rfl, rfl⟩ := q
          go_wp2_with (first | (go_at_call_of 15 (Value.int .u64 x); refine (IX.out _).mono ?_; rintro r w' ⟨rfl, rfl⟩) | (go_at_call_of 15 (Value.int .u64 y); refine (IY.out _).mono ?_; rintro r w' ⟨rfl, rfl⟩) | (go_at_call_of 16 (Value.int .u64 y); refine (OY.out _).mono ?_; rintro r w' ⟨rfl, rfl⟩) | (go_at_call_of 19 (Value.int .u64 x); refine (CX.out _).mono ?_; rintro r w' ⟨rfl, rfl⟩) | (go_at_call_of 19 (Value.int .u64 y); refine (CY.out _).mono ?_; rintro r w' ⟨rfl, rfl⟩) | (go_at_call_of 22 (Value.int .u64 x); refine (ZX.out _).mono ?_; rintro r w' ⟨rfl, rfl⟩) | (go_at_call_of 22 (Value.int .u64 y); refine (ZY.out _).mono ?_; rintro r w' ⟨rfl, rfl⟩) | (go_at_call_of 20 (Value.bool ny); refine (WY.out _ _ (by decide) (by decide)).mono ?_; rintro r w' ⟨rfl, rfl⟩) | (go_at_call_of 20 (Value.bool nx); refine (WX.out _ _ (by decide) (by decide)).mono ?_; rintro r w' ⟨rfl, rfl⟩) | (go_at_call_of 20 (Value.bool true); refine (WT.out _ _ (by decide) (by decide)).mono ?_; rintro r w' ⟨rfl, rfl⟩) | (go_at_call_of 20 (Value.int .u64 9218868437227405312); refine (WB.out _ _).mono ?_; rintro r w' ⟨rfl, rfl⟩) | (go_at_call_of 21 (Value.int .u64 x); refine (AN.out _).mono ?_; rintro r w' ⟨rfl, rfl⟩) | (go_at_call_of 18 (Value.int .u64 x); refine (NX.out _).mono ?_; rintro r w' ⟨rfl, rfl⟩) | (go_at_call_of 18 (Value.int .u64 y); refine (NY.out _).mono ?_; rintro r w' ⟨rfl, rfl⟩) | (go_at_call_of 18 (Value.int .u64 u); refine (NU.out _).mono ?_; rintro r w' ⟨rfl, rfl⟩))
          all_goals (refine bodyPost_ret (v := _) ?_ rfl ⟨rfl, ?_⟩; (· first | (simp [results, Try.results8, go_sem, r0, r1, ra0, ra1, ra2, ra3]; done) | (simp [results, Try.results8, go_sem, r0, r1, ra0, ra1, ra2, ra3]; exact IntKind.wrap_u64 _)); (· exact (by repeat (first | with_reducible assumption | with_reducible exact below_self _ | with_reducible refine below_drewN ?_ _ | with_reducible apply Below.drew | with_reducible refine below_alloc ?_ _ | (with_reducible refine below_set ?_ _ _ ?_ _; rotate_left; (first | omega | (simp; done) | (simp; omega)))))))
      · exact absurd (hsa trivial) (by simp)
end Go.Proofs.Ytbfnjjnnlbchgaa
