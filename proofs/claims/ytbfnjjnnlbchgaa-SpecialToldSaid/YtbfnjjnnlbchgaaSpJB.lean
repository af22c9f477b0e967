/- The document's Special, tag by tag (1, 6, d). -/
import Derived.Test.YtbfnjjnnlbchgaaSpI
namespace Go.Proofs.Ytbfnjjnnlbchgaa
open Go.RowKit Num
set_option linter.unusedSimpArgs false
set_option linter.unusedVariables false
set_option maxRecDepth 100000

theorem anyK_nextSpJB (x y u v : Int) (i : Nat) : anyK x y u v (i + 1) = (anyK x y u v i || (isInf (zat x y u v i) || isNot (zat x y u v i))) := by rw [anyK_succ, kind3]
set_option maxHeartbeats 8000000 in
theorem tspecial1 (x y u v : Int) (w : World) (hx : Wd x) (hy : Wd y) (hu : Wd u) (hv : Wd v) :
    Calls Try.prog 8 #[.int .i64 1, .agg #[.int .u64 x, .int .u64 y, .int .u64 u, .int .u64 v]] w (RetT (specI 1 x y u v) w) := by
  have b1 : Below w.heap.size w ((w.alloc (.cells #[.int .u64 x, .int .u64 y, .int .u64 u, .int .u64 v] 24)).alloc (.cells #[.int .u64 0, .int .u64 0] 26)) := below_alloc (below_alloc (below_self w) _) _
  have bz := (box_new w #[.int .u64 x, .int .u64 y, .int .u64 u, .int .u64 v] 24).later (below_alloc (below_self _) (.cells #[.int .u64 0, .int .u64 0] 26))
  have br := box_new (w.alloc (.cells #[.int .u64 x, .int .u64 y, .int .u64 u, .int .u64 v] 24)) #[.int .u64 0, .int .u64 0] 26
  rw [show (w.alloc (.cells #[.int .u64 x, .int .u64 y, .int .u64 u, .int .u64 v] 24)).heap.size = w.heap.size + 1 by simp] at br
  have hsz : ((w.alloc (.cells #[.int .u64 x, .int .u64 y, .int .u64 u, .int .u64 v] 24)).alloc (.cells #[.int .u64 0, .int .u64 0] 26)).heap.size = w.heap.size + 1 + 1 := by simp
  have HSZ := Lib.hid hsz
  clear hsz
  have r0 := br.cell 0
  have r1 := br.cell 1
  have f0 := br.free 0
  have f1 := br.free 1
  rw [spec_tab 1 x y u v (by omega) (by omega)]
  have SG := fun w => tsingular 1 x y u v w hx hy hu hv
  have IX := fun w => tinf x w hx.1 hx.2
  have IY := fun w => tinf y w hy.1 hy.2
  have OY := fun w => tnot y w hy.1 hy.2
  have CX := fun w => tclean x w hx.1 hx.2
  have CY := fun w => tclean y w hy.1 hy.2
  have ZX := fun w => tzero x w hx.1 hx.2
  have ZY := fun w => tzero y w hy.1 hy.2
  have NX := fun w => rneg x w
  have NY := fun w => rneg y w
  have NU := fun w => rneg u w
  have AN := fun w => tangle x y w hx hy
  have WX := fun (c : Int) w (h0 : 0 ≤ c) (h1 : c < 9223372036854775808) => twith c (negB x) w h0 h1
  have WY := fun (c : Int) w (h0 : 0 ≤ c) (h1 : c < 9223372036854775808) => twith c (negB y) w h0 h1
  have WT := fun (c : Int) w (h0 : 0 ≤ c) (h1 : c < 9223372036854775808) => twith c true w h0 h1
  have WB := fun b w => twith 9218868437227405312 b w (by decide) (by decide)
  simp only [with_sgn] at WX WY
  have AS := Lib.hid (fun i => anyK_nextSpJB x y u v i)
  have NS := Lib.hid (fun i => allN_succ x y u v i)
  have II := Lib.hid (fun i w => tinf (zat x y u v i) w (zat_wd hx hy hu hv i).1 (zat_wd hx hy hu hv i).2)
  have ON := Lib.hid (fun i w => tnot (zat x y u v i) w (zat_wd hx hy hu hv i).1 (zat_wd hx hy hu hv i).2)
  have HA0 : Hid (anyK x y u v 0 = false) := rfl
  have HN0 : Hid (allN x y u v 0 = true) := rfl
  generalize hT : tabI 1 x y u (anyK x y u v (many 1)) (allN x y u v (many 1)) (singZ 1 x y u v) = T
  obtain ⟨Ta, Tb, Tf, Tok⟩ := T
  unfold RetT
  simp only
  unfold tabI nanT sgI at hT
  have hsa0 : singZ 1 x y u v = false := sing_tag x y u v (by decide) (by decide) (by decide) (by decide)
  generalize singZ 1 x y u v = sing at *
  generalize isInf x = ix at *
  generalize isInf y = iy at *
  generalize isNot y = oy at *
  generalize cleanW x = cx at *
  generalize cleanW y = cy at *
  generalize isZero x = zx at *
  generalize isZero y = zy at *
  generalize angI x y (sgnw x) (sgnw y) = an at *
  obtain ⟨an1, an2⟩ := an
  simp only at AN hT
  generalize sgnw x = sx at *
  generalize sgnw y = sy at *
  generalize negB x = nx at *
  generalize negB y = ny at *
  generalize negB u = nu at *
  have HT := Lib.hid hT
  have SG := Lib.hid SG
  have IX := Lib.hid IX
  have IY := Lib.hid IY
  have OY := Lib.hid OY
  have CX := Lib.hid CX
  have CY := Lib.hid CY
  have ZX := Lib.hid ZX
  have ZY := Lib.hid ZY
  have NX := Lib.hid NX
  have NY := Lib.hid NY
  have NU := Lib.hid NU
  have AN := Lib.hid AN
  have WX := Lib.hid WX
  have WY := Lib.hid WY
  have WT := Lib.hid WT
  have WB := Lib.hid WB
  clear hT r0 r1 f0 f1
  have HSA := Lib.hid hsa0
  clear hsa0
  have hm : many 1 = 2 := rfl
  rw [hm] at HT
  clear hm
  have HTT := HT.out
  clear HT
  have HT := Lib.hid HTT
  clear HTT
  go_enter Try.func8, Try.ntmps8
  go_wp2_with fail
  go_loopw [8, 9, 10] (fun vo vn vi wr => ∃ i : Nat, i ≤ 2 ∧ vi = .int .i64 i ∧ vo = .bool (anyK x y u v i) ∧ vn = .bool (allN x y u v i) ∧ Below ((w.alloc (.cells #[.int .u64 x, .int .u64 y, .int .u64 u, .int .u64 v] 24)).alloc (.cells #[.int .u64 0, .int .u64 0] 26)).heap.size ((w.alloc (.cells #[.int .u64 x, .int .u64 y, .int .u64 u, .int .u64 v] 24)).alloc (.cells #[.int .u64 0, .int .u64 0] 26)) wr) (fun _ _ vi _ => 2 - (intOf vi).toNat)
  case atStart => exact ⟨0, Nat.zero_le _, rfl, by rw [HA0.out], by rw [HN0.out], below_self _⟩
  case round =>
    obtain ⟨i, hi, rfl, rfl, rfl, hW⟩ := hrel
    by_cases h0 : i < 2
    · skip
      have hc := four_cells (bz.later hW) i (by omega)
      have aas := AS.out i
      have ns := NS.out i
      have ii := II.out i
      have on := ON.out i
      generalize isInf (zat x y u v i) = zi1 at *
      generalize isNot (zat x y u v i) = zi2 at *
      generalize zat x y u v i = zi at *
      generalize hao : anyK x y u v i = ao at *
      generalize han : allN x y u v i = an' at *
      clear hao han
      have I1 := Lib.hid ii
      have O1 := Lib.hid on
      clear ii on
      cases ao <;> cases an' <;> cases zi1 <;> cases zi2
      all_goals
        have AI : Hid _ := aas
        have NI : Hid _ := ns
        clear aas ns
        go_wp2_with (first | (go_at_call_of 15 (Value.int .u64 zi); refine (I1.out _).mono ?_; rintro r w' ⟨rfl, rfl⟩) | (go_at_call_of 16 (Value.int .u64 zi); refine (O1.out _).mono ?_; rintro r w' ⟨rfl, rfl⟩))
        exact ⟨⟨i + 1, by omega, by go_num, AI.out.symm ▸ rfl, NI.out.symm ▸ rfl, hW⟩, by simp only [intOf]; omega⟩
    · obtain rfl : i = 2 := by omega
      have q := HT.out
      have hsa := HSA.out
      generalize anyK x y u v 2 = ao at *
      generalize allN x y u v 2 = aN at *
      have hwt := below_on b1 hW
      have bz3 := bz.later hW
      have br3 := br.later hW
      obtain ⟨z0, z1, z2, z3⟩ := bz3.cell4
      clear bz br HT hW HSA
      obtain rfl := hsa
      cases ao
      · have hsa : True := trivial
        simp only [Bool.not_false, Bool.and_self, if_true, Prod.mk.injEq] at q
        obtain ⟨rfl, rfl, rfl, rfl⟩ := q
        clear hsa
        go_wp2_with fail
        refine (SG.out _).mono ?_; rintro r w4 ⟨rfl, hb4⟩
        have br4 := br3.later hb4
        have hw4 := below_on hwt hb4
        have r0 := br4.cell 0
        have r1 := br4.cell 1
        have f0 := br4.free 0
        have f1 := br4.free 1
        go_wp2_with fail
        (refine bodyPost_ret (v := _) ?_ rfl ⟨rfl, ?_⟩; (· first | (simp [results, Try.results8, go_sem, r0, r1]; done) | (simp [results, Try.results8, go_sem, r0, r1]; exact IntKind.wrap_u64 _)); (· exact (by repeat (first | with_reducible assumption | with_reducible exact below_self _ | with_reducible refine below_drewN ?_ _ | with_reducible apply Below.drew | with_reducible refine below_alloc ?_ _ | (with_reducible refine below_set ?_ _ _ ?_ _; rotate_left; (first | omega | (simp; done) | (simp; omega)))))))
      · have hsa : True := trivial
        simp only [Bool.not_false, Bool.not_true, Bool.and_false, Bool.false_and, Bool.true_and, Bool.and_true, Bool.false_eq_true, if_false, if_true] at q
        clear hsa
        go_wp2_with fail
        refine (SG.out _).mono ?_; rintro r w4 ⟨rfl, hb4⟩
        have br4 := br3.later hb4
        have hw4 := below_on hwt hb4
        have r0 := br4.cell 0
        have r1 := br4.cell 1
        have f0 := br4.free 0
        have f1 := br4.free 1
        clear z0 z1 z2 z3
        obtain ⟨z0, z1, z2, z3⟩ := (bz3.later hb4).cell4
        clear bz3 br3 hb4 hwt SG
        cases aN <;> cases ix
        all_goals
          simp only [Bool.false_eq_true, if_false, if_true, Bool.or_true, Bool.true_or, Bool.or_false, Bool.false_or, Bool.and_true, Bool.true_and, Bool.and_false, Bool.false_and, Bool.not_true, Bool.not_false, Prod.mk.injEq] at q
          (obtain ⟨rfl, rfl, rfl, rfl⟩ := q; go_wp2_with (first | (go_at_call_of 15 (Value.int .u64 x); refine (IX.out _).mono ?_; rintro r w' ⟨rfl, rfl⟩) | (go_at_call_of 15 (Value.int .u64 y); refine (IY.out _).mono ?_; rintro r w' ⟨rfl, rfl⟩) | (go_at_call_of 16 (Value.int .u64 y); refine (OY.out _).mono ?_; rintro r w' ⟨rfl, rfl⟩) | (go_at_call_of 19 (Value.int .u64 x); refine (CX.out _).mono ?_; rintro r w' ⟨rfl, rfl⟩) | (go_at_call_of 19 (Value.int .u64 y); refine (CY.out _).mono ?_; rintro r w' ⟨rfl, rfl⟩) | (go_at_call_of 22 (Value.int .u64 x); refine (ZX.out _).mono ?_; rintro r w' ⟨rfl, rfl⟩) | (go_at_call_of 22 (Value.int .u64 y); refine (ZY.out _).mono ?_; rintro r w' ⟨rfl, rfl⟩) | (go_at_call_of 20 (Value.bool ny); refine (WY.out _ _ (by decide) (by decide)).mono ?_; rintro r w' ⟨rfl, rfl⟩) | (go_at_call_of 20 (Value.bool nx); refine (WX.out _ _ (by decide) (by decide)).mono ?_; rintro r w' ⟨rfl, rfl⟩) | (go_at_call_of 20 (Value.bool true); refine (WT.out _ _ (by decide) (by decide)).mono ?_; rintro r w' ⟨rfl, rfl⟩) | (go_at_call_of 20 (Value.int .u64 9218868437227405312); refine (WB.out _ _).mono ?_; rintro r w' ⟨rfl, rfl⟩) | (go_at_call_of 21 (Value.int .u64 x); refine (AN.out _).mono ?_; rintro r w' ⟨rfl, rfl⟩) | (go_at_call_of 18 (Value.int .u64 x); refine (NX.out _).mono ?_; rintro r w' ⟨rfl, rfl⟩) | (go_at_call_of 18 (Value.int .u64 y); refine (NY.out _).mono ?_; rintro r w' ⟨rfl, rfl⟩) | (go_at_call_of 18 (Value.int .u64 u); refine (NU.out _).mono ?_; rintro r w' ⟨rfl, rfl⟩)); (refine bodyPost_ret (v := _) ?_ rfl ⟨rfl, ?_⟩; (· first | (simp [results, Try.results8, go_sem, r0, r1]; done) | (simp [results, Try.results8, go_sem, r0, r1]; exact IntKind.wrap_u64 _)); (· exact (by repeat (first | with_reducible assumption | with_reducible exact below_self _ | with_reducible refine below_drewN ?_ _ | with_reducible apply Below.drew | with_reducible refine below_alloc ?_ _ | (with_reducible refine below_set ?_ _ _ ?_ _; rotate_left; (first | omega | (simp; done) | (simp; omega))))))))
set_option maxHeartbeats 8000000 in
theorem tspecial6 (x y u v : Int) (w : World) (hx : Wd x) (hy : Wd y) (hu : Wd u) (hv : Wd v) :
    Calls Try.prog 8 #[.int .i64 6, .agg #[.int .u64 x, .int .u64 y, .int .u64 u, .int .u64 v]] w (RetT (specI 6 x y u v) w) := by
  have b1 : Below w.heap.size w ((w.alloc (.cells #[.int .u64 x, .int .u64 y, .int .u64 u, .int .u64 v] 24)).alloc (.cells #[.int .u64 0, .int .u64 0] 26)) := below_alloc (below_alloc (below_self w) _) _
  have bz := (box_new w #[.int .u64 x, .int .u64 y, .int .u64 u, .int .u64 v] 24).later (below_alloc (below_self _) (.cells #[.int .u64 0, .int .u64 0] 26))
  have br := box_new (w.alloc (.cells #[.int .u64 x, .int .u64 y, .int .u64 u, .int .u64 v] 24)) #[.int .u64 0, .int .u64 0] 26
  rw [show (w.alloc (.cells #[.int .u64 x, .int .u64 y, .int .u64 u, .int .u64 v] 24)).heap.size = w.heap.size + 1 by simp] at br
  have hsz : ((w.alloc (.cells #[.int .u64 x, .int .u64 y, .int .u64 u, .int .u64 v] 24)).alloc (.cells #[.int .u64 0, .int .u64 0] 26)).heap.size = w.heap.size + 1 + 1 := by simp
  have HSZ := Lib.hid hsz
  clear hsz
  have r0 := br.cell 0
  have r1 := br.cell 1
  have f0 := br.free 0
  have f1 := br.free 1
  rw [spec_tab 6 x y u v (by omega) (by omega)]
  have SG := fun w => tsingular 6 x y u v w hx hy hu hv
  have IX := fun w => tinf x w hx.1 hx.2
  have IY := fun w => tinf y w hy.1 hy.2
  have OY := fun w => tnot y w hy.1 hy.2
  have CX := fun w => tclean x w hx.1 hx.2
  have CY := fun w => tclean y w hy.1 hy.2
  have ZX := fun w => tzero x w hx.1 hx.2
  have ZY := fun w => tzero y w hy.1 hy.2
  have NX := fun w => rneg x w
  have NY := fun w => rneg y w
  have NU := fun w => rneg u w
  have AN := fun w => tangle x y w hx hy
  have WX := fun (c : Int) w (h0 : 0 ≤ c) (h1 : c < 9223372036854775808) => twith c (negB x) w h0 h1
  have WY := fun (c : Int) w (h0 : 0 ≤ c) (h1 : c < 9223372036854775808) => twith c (negB y) w h0 h1
  have WT := fun (c : Int) w (h0 : 0 ≤ c) (h1 : c < 9223372036854775808) => twith c true w h0 h1
  have WB := fun b w => twith 9218868437227405312 b w (by decide) (by decide)
  simp only [with_sgn] at WX WY
  have AS := Lib.hid (fun i => anyK_nextSpJB x y u v i)
  have NS := Lib.hid (fun i => allN_succ x y u v i)
  have II := Lib.hid (fun i w => tinf (zat x y u v i) w (zat_wd hx hy hu hv i).1 (zat_wd hx hy hu hv i).2)
  have ON := Lib.hid (fun i w => tnot (zat x y u v i) w (zat_wd hx hy hu hv i).1 (zat_wd hx hy hu hv i).2)
  have HA0 : Hid (anyK x y u v 0 = false) := rfl
  have HN0 : Hid (allN x y u v 0 = true) := rfl
  generalize hT : tabI 6 x y u (anyK x y u v (many 6)) (allN x y u v (many 6)) (singZ 6 x y u v) = T
  obtain ⟨Ta, Tb, Tf, Tok⟩ := T
  unfold RetT
  simp only
  unfold tabI nanT sgI at hT
  have hsa0 : singZ 6 x y u v = false := sing_tag x y u v (by decide) (by decide) (by decide) (by decide)
  generalize singZ 6 x y u v = sing at *
  generalize isInf x = ix at *
  generalize isInf y = iy at *
  generalize isNot y = oy at *
  generalize cleanW x = cx at *
  generalize cleanW y = cy at *
  generalize isZero x = zx at *
  generalize isZero y = zy at *
  generalize angI x y (sgnw x) (sgnw y) = an at *
  obtain ⟨an1, an2⟩ := an
  simp only at AN hT
  generalize sgnw x = sx at *
  generalize sgnw y = sy at *
  generalize negB x = nx at *
  generalize negB y = ny at *
  generalize negB u = nu at *
  have HT := Lib.hid hT
  have SG := Lib.hid SG
  have IX := Lib.hid IX
  have IY := Lib.hid IY
  have OY := Lib.hid OY
  have CX := Lib.hid CX
  have CY := Lib.hid CY
  have ZX := Lib.hid ZX
  have ZY := Lib.hid ZY
  have NX := Lib.hid NX
  have NY := Lib.hid NY
  have NU := Lib.hid NU
  have AN := Lib.hid AN
  have WX := Lib.hid WX
  have WY := Lib.hid WY
  have WT := Lib.hid WT
  have WB := Lib.hid WB
  clear hT r0 r1 f0 f1
  have HSA := Lib.hid hsa0
  clear hsa0
  have hm : many 6 = 2 := rfl
  rw [hm] at HT
  clear hm
  have HTT := HT.out
  clear HT
  have HT := Lib.hid HTT
  clear HTT
  go_enter Try.func8, Try.ntmps8
  go_wp2_with fail
  go_loopw [8, 9, 10] (fun vo vn vi wr => ∃ i : Nat, i ≤ 2 ∧ vi = .int .i64 i ∧ vo = .bool (anyK x y u v i) ∧ vn = .bool (allN x y u v i) ∧ Below ((w.alloc (.cells #[.int .u64 x, .int .u64 y, .int .u64 u, .int .u64 v] 24)).alloc (.cells #[.int .u64 0, .int .u64 0] 26)).heap.size ((w.alloc (.cells #[.int .u64 x, .int .u64 y, .int .u64 u, .int .u64 v] 24)).alloc (.cells #[.int .u64 0, .int .u64 0] 26)) wr) (fun _ _ vi _ => 2 - (intOf vi).toNat)
  case atStart => exact ⟨0, Nat.zero_le _, rfl, by rw [HA0.out], by rw [HN0.out], below_self _⟩
  case round =>
    obtain ⟨i, hi, rfl, rfl, rfl, hW⟩ := hrel
    by_cases h0 : i < 2
    · skip
      have hc := four_cells (bz.later hW) i (by omega)
      have aas := AS.out i
      have ns := NS.out i
      have ii := II.out i
      have on := ON.out i
      generalize isInf (zat x y u v i) = zi1 at *
      generalize isNot (zat x y u v i) = zi2 at *
      generalize zat x y u v i = zi at *
      generalize hao : anyK x y u v i = ao at *
      generalize han : allN x y u v i = an' at *
      clear hao han
      have I1 := Lib.hid ii
      have O1 := Lib.hid on
      clear ii on
      cases ao <;> cases an' <;> cases zi1 <;> cases zi2
      all_goals
        have AI : Hid _ := aas
        have NI : Hid _ := ns
        clear aas ns
        go_wp2_with (first | (go_at_call_of 15 (Value.int .u64 zi); refine (I1.out _).mono ?_; rintro r w' ⟨rfl, rfl⟩) | (go_at_call_of 16 (Value.int .u64 zi); refine (O1.out _).mono ?_; rintro r w' ⟨rfl, rfl⟩))
        exact ⟨⟨i + 1, by omega, by go_num, AI.out.symm ▸ rfl, NI.out.symm ▸ rfl, hW⟩, by simp only [intOf]; omega⟩
    · obtain rfl : i = 2 := by omega
      have q := HT.out
      have hsa := HSA.out
      generalize anyK x y u v 2 = ao at *
      generalize allN x y u v 2 = aN at *
      have hwt := below_on b1 hW
      have bz3 := bz.later hW
      have br3 := br.later hW
      obtain ⟨z0, z1, z2, z3⟩ := bz3.cell4
      clear bz br HT hW HSA
      obtain rfl := hsa
      cases ao
      · have hsa : True := trivial
        simp only [Bool.not_false, Bool.and_self, if_true, Prod.mk.injEq] at q
        obtain ⟨rfl, rfl, rfl, rfl⟩ := q
        clear hsa
        go_wp2_with fail
        refine (SG.out _).mono ?_; rintro r w4 ⟨rfl, hb4⟩
        have br4 := br3.later hb4
        have hw4 := below_on hwt hb4
        have r0 := br4.cell 0
        have r1 := br4.cell 1
        have f0 := br4.free 0
        have f1 := br4.free 1
        go_wp2_with fail
        (refine bodyPost_ret (v := _) ?_ rfl ⟨rfl, ?_⟩; (· first | (simp [results, Try.results8, go_sem, r0, r1]; done) | (simp [results, Try.results8, go_sem, r0, r1]; exact IntKind.wrap_u64 _)); (· exact (by repeat (first | with_reducible assumption | with_reducible exact below_self _ | with_reducible refine below_drewN ?_ _ | with_reducible apply Below.drew | with_reducible refine below_alloc ?_ _ | (with_reducible refine below_set ?_ _ _ ?_ _; rotate_left; (first | omega | (simp; done) | (simp; omega)))))))
      · have hsa : True := trivial
        simp only [Bool.not_false, Bool.not_true, Bool.and_false, Bool.false_and, Bool.true_and, Bool.and_true, Bool.false_eq_true, if_false, if_true] at q
        clear hsa
        go_wp2_with fail
        refine (SG.out _).mono ?_; rintro r w4 ⟨rfl, hb4⟩
        have br4 := br3.later hb4
        have hw4 := below_on hwt hb4
        have r0 := br4.cell 0
        have r1 := br4.cell 1
        have f0 := br4.free 0
        have f1 := br4.free 1
        clear z0 z1 z2 z3
        obtain ⟨z0, z1, z2, z3⟩ := (bz3.later hb4).cell4
        clear bz3 br3 hb4 hwt SG
        cases aN <;> cases ix <;> cases iy <;> cases nx
        all_goals
          simp only [Bool.false_eq_true, if_false, if_true, Bool.or_true, Bool.true_or, Bool.or_false, Bool.false_or, Bool.and_true, Bool.true_and, Bool.and_false, Bool.false_and, Bool.not_true, Bool.not_false, Prod.mk.injEq] at q
          (obtain ⟨rfl, rfl, rfl, rfl⟩ := q; go_wp2_with (first | (go_at_call_of 15 (Value.int .u64 x); refine (IX.out _).mono ?_; rintro r w' ⟨rfl, rfl⟩) | (go_at_call_of 15 (Value.int .u64 y); refine (IY.out _).mono ?_; rintro r w' ⟨rfl, rfl⟩) | (go_at_call_of 16 (Value.int .u64 y); refine (OY.out _).mono ?_; rintro r w' ⟨rfl, rfl⟩) | (go_at_call_of 19 (Value.int .u64 x); refine (CX.out _).mono ?_; rintro r w' ⟨rfl, rfl⟩) | (go_at_call_of 19 (Value.int .u64 y); refine (CY.out _).mono ?_; rintro r w' ⟨rfl, rfl⟩) | (go_at_call_of 22 (Value.int .u64 x); refine (ZX.out _).mono ?_; rintro r w' ⟨rfl, rfl⟩) | (go_at_call_of 22 (Value.int .u64 y); refine (ZY.out _).mono ?_; rintro r w' ⟨rfl, rfl⟩) | (go_at_call_of 20 (Value.bool ny); refine (WY.out _ _ (by decide) (by decide)).mono ?_; rintro r w' ⟨rfl, rfl⟩) | (go_at_call_of 20 (Value.bool nx); refine (WX.out _ _ (by decide) (by decide)).mono ?_; rintro r w' ⟨rfl, rfl⟩) | (go_at_call_of 20 (Value.bool true); refine (WT.out _ _ (by decide) (by decide)).mono ?_; rintro r w' ⟨rfl, rfl⟩) | (go_at_call_of 20 (Value.int .u64 9218868437227405312); refine (WB.out _ _).mono ?_; rintro r w' ⟨rfl, rfl⟩) | (go_at_call_of 21 (Value.int .u64 x); refine (AN.out _).mono ?_; rintro r w' ⟨rfl, rfl⟩) | (go_at_call_of 18 (Value.int .u64 x); refine (NX.out _).mono ?_; rintro r w' ⟨rfl, rfl⟩) | (go_at_call_of 18 (Value.int .u64 y); refine (NY.out _).mono ?_; rintro r w' ⟨rfl, rfl⟩) | (go_at_call_of 18 (Value.int .u64 u); refine (NU.out _).mono ?_; rintro r w' ⟨rfl, rfl⟩)); (refine bodyPost_ret (v := _) ?_ rfl ⟨rfl, ?_⟩; (· first | (simp [results, Try.results8, go_sem, r0, r1]; done) | (simp [results, Try.results8, go_sem, r0, r1]; exact IntKind.wrap_u64 _)); (· exact (by repeat (first | with_reducible assumption | with_reducible exact below_self _ | with_reducible refine below_drewN ?_ _ | with_reducible apply Below.drew | with_reducible refine below_alloc ?_ _ | (with_reducible refine below_set ?_ _ _ ?_ _; rotate_left; (first | omega | (simp; done) | (simp; omega))))))))
set_option maxHeartbeats 8000000 in
theorem tspeciald (tag x y u v : Int) (w : World) (hx : Wd x) (hy : Wd y) (hu : Wd u) (hv : Wd v) (h0 : 0 ≤ tag) (h20 : tag ≤ 20) (n2 : tag ≠ 2) (n3 : tag ≠ 3) (n0 : tag ≠ 0) (n1 : tag ≠ 1) (n6 : tag ≠ 6) (n7 : tag ≠ 7) (n8 : tag ≠ 8) (n17 : tag ≠ 17) (n20 : tag ≠ 20) (n4 : tag ≠ 4) (n5 : tag ≠ 5) :
    Calls Try.prog 8 #[.int .i64 tag, .agg #[.int .u64 x, .int .u64 y, .int .u64 u, .int .u64 v]] w (RetT (specI tag x y u v) w) := by
  have b1 : Below w.heap.size w ((w.alloc (.cells #[.int .u64 x, .int .u64 y, .int .u64 u, .int .u64 v] 24)).alloc (.cells #[.int .u64 0, .int .u64 0] 26)) := below_alloc (below_alloc (below_self w) _) _
  have bz := (box_new w #[.int .u64 x, .int .u64 y, .int .u64 u, .int .u64 v] 24).later (below_alloc (below_self _) (.cells #[.int .u64 0, .int .u64 0] 26))
  have br := box_new (w.alloc (.cells #[.int .u64 x, .int .u64 y, .int .u64 u, .int .u64 v] 24)) #[.int .u64 0, .int .u64 0] 26
  rw [show (w.alloc (.cells #[.int .u64 x, .int .u64 y, .int .u64 u, .int .u64 v] 24)).heap.size = w.heap.size + 1 by simp] at br
  have hsz : ((w.alloc (.cells #[.int .u64 x, .int .u64 y, .int .u64 u, .int .u64 v] 24)).alloc (.cells #[.int .u64 0, .int .u64 0] 26)).heap.size = w.heap.size + 1 + 1 := by simp
  have HSZ := Lib.hid hsz
  clear hsz
  have r0 := br.cell 0
  have r1 := br.cell 1
  have f0 := br.free 0
  have f1 := br.free 1
  rw [spec_tab tag x y u v (by omega) (by omega)]
  have SG := fun w => tsingular tag x y u v w hx hy hu hv
  have IX := fun w => tinf x w hx.1 hx.2
  have IY := fun w => tinf y w hy.1 hy.2
  have OY := fun w => tnot y w hy.1 hy.2
  have CX := fun w => tclean x w hx.1 hx.2
  have CY := fun w => tclean y w hy.1 hy.2
  have ZX := fun w => tzero x w hx.1 hx.2
  have ZY := fun w => tzero y w hy.1 hy.2
  have NX := fun w => rneg x w
  have NY := fun w => rneg y w
  have NU := fun w => rneg u w
  have AN := fun w => tangle x y w hx hy
  have WX := fun (c : Int) w (h0 : 0 ≤ c) (h1 : c < 9223372036854775808) => twith c (negB x) w h0 h1
  have WY := fun (c : Int) w (h0 : 0 ≤ c) (h1 : c < 9223372036854775808) => twith c (negB y) w h0 h1
  have WT := fun (c : Int) w (h0 : 0 ≤ c) (h1 : c < 9223372036854775808) => twith c true w h0 h1
  have WB := fun b w => twith 9218868437227405312 b w (by decide) (by decide)
  simp only [with_sgn] at WX WY
  have AS := Lib.hid (fun i => anyK_nextSpJB x y u v i)
  have NS := Lib.hid (fun i => allN_succ x y u v i)
  have II := Lib.hid (fun i w => tinf (zat x y u v i) w (zat_wd hx hy hu hv i).1 (zat_wd hx hy hu hv i).2)
  have ON := Lib.hid (fun i w => tnot (zat x y u v i) w (zat_wd hx hy hu hv i).1 (zat_wd hx hy hu hv i).2)
  have HA0 : Hid (anyK x y u v 0 = false) := rfl
  have HN0 : Hid (allN x y u v 0 = true) := rfl
  generalize hT : tabI tag x y u (anyK x y u v (many tag)) (allN x y u v (many tag)) (singZ tag x y u v) = T
  obtain ⟨Ta, Tb, Tf, Tok⟩ := T
  unfold RetT
  simp only
  unfold tabI nanT sgI at hT
  have hsa0 : singZ tag x y u v = false := sing_tag x y u v n5 n8 n17 n20
  generalize singZ tag x y u v = sing at *
  generalize isInf x = ix at *
  generalize isInf y = iy at *
  generalize isNot y = oy at *
  generalize cleanW x = cx at *
  generalize cleanW y = cy at *
  generalize isZero x = zx at *
  generalize isZero y = zy at *
  generalize angI x y (sgnw x) (sgnw y) = an at *
  obtain ⟨an1, an2⟩ := an
  simp only at AN hT
  generalize sgnw x = sx at *
  generalize sgnw y = sy at *
  generalize negB x = nx at *
  generalize negB y = ny at *
  generalize negB u = nu at *
  have HT := Lib.hid hT
  have SG := Lib.hid SG
  have IX := Lib.hid IX
  have IY := Lib.hid IY
  have OY := Lib.hid OY
  have CX := Lib.hid CX
  have CY := Lib.hid CY
  have ZX := Lib.hid ZX
  have ZY := Lib.hid ZY
  have NX := Lib.hid NX
  have NY := Lib.hid NY
  have NU := Lib.hid NU
  have AN := Lib.hid AN
  have WX := Lib.hid WX
  have WY := Lib.hid WY
  have WT := Lib.hid WT
  have WB := Lib.hid WB
  clear hT r0 r1 f0 f1
  have HSA := Lib.hid hsa0
  clear hsa0
  have hm : many tag = 2 := many2 n4 n5
  rw [hm] at HT
  have d2' : (tag == 2) = false := beq_eq_false_iff_ne.2 n2
  have d3' : (tag == 3) = false := beq_eq_false_iff_ne.2 n3
  have d0' : (tag == 0) = false := beq_eq_false_iff_ne.2 n0
  have d1' : (tag == 1) = false := beq_eq_false_iff_ne.2 n1
  have d6' : (tag == 6) = false := beq_eq_false_iff_ne.2 n6
  have d7' : (tag == 7) = false := beq_eq_false_iff_ne.2 n7
  have d8' : (tag == 8) = false := beq_eq_false_iff_ne.2 n8
  have d17' : (tag == 17) = false := beq_eq_false_iff_ne.2 n17
  have d20' : (tag == 20) = false := beq_eq_false_iff_ne.2 n20
  have d4' : (tag == 4) = false := beq_eq_false_iff_ne.2 n4
  have d5' : (tag == 5) = false := beq_eq_false_iff_ne.2 n5
  have e0 : decide (tag < 0) = false := decide_eq_false (by omega)
  have e1 : decide (tag > 20) = false := decide_eq_false (by omega)
  clear hm
  have HTT := HT.out
  clear HT
  rw [if_neg n2, if_neg n3, if_neg n0, if_neg n1, if_neg n6, if_neg n7, if_neg n8, if_neg n17, if_neg n20, if_neg n5] at HTT
  have HT := Lib.hid HTT
  clear HTT
  go_enter Try.func8, Try.ntmps8
  go_wp2_with fail
  go_loopw [8, 9, 10] (fun vo vn vi wr => ∃ i : Nat, i ≤ 2 ∧ vi = .int .i64 i ∧ vo = .bool (anyK x y u v i) ∧ vn = .bool (allN x y u v i) ∧ Below ((w.alloc (.cells #[.int .u64 x, .int .u64 y, .int .u64 u, .int .u64 v] 24)).alloc (.cells #[.int .u64 0, .int .u64 0] 26)).heap.size ((w.alloc (.cells #[.int .u64 x, .int .u64 y, .int .u64 u, .int .u64 v] 24)).alloc (.cells #[.int .u64 0, .int .u64 0] 26)) wr) (fun _ _ vi _ => 2 - (intOf vi).toNat)
  case atStart => exact ⟨0, Nat.zero_le _, rfl, by rw [HA0.out], by rw [HN0.out], below_self _⟩
  case round =>
    obtain ⟨i, hi, rfl, rfl, rfl, hW⟩ := hrel
    by_cases h0 : i < 2
    · skip
      have hc := four_cells (bz.later hW) i (by omega)
      have aas := AS.out i
      have ns := NS.out i
      have ii := II.out i
      have on := ON.out i
      generalize isInf (zat x y u v i) = zi1 at *
      generalize isNot (zat x y u v i) = zi2 at *
      generalize zat x y u v i = zi at *
      generalize hao : anyK x y u v i = ao at *
      generalize han : allN x y u v i = an' at *
      clear hao han
      have I1 := Lib.hid ii
      have O1 := Lib.hid on
      clear ii on
      cases ao <;> cases an' <;> cases zi1 <;> cases zi2
      all_goals
        have AI : Hid _ := aas
        have NI : Hid _ := ns
        clear aas ns
        go_wp2_with (first | (go_at_call_of 15 (Value.int .u64 zi); refine (I1.out _).mono ?_; rintro r w' ⟨rfl, rfl⟩) | (go_at_call_of 16 (Value.int .u64 zi); refine (O1.out _).mono ?_; rintro r w' ⟨rfl, rfl⟩))
        exact ⟨⟨i + 1, by omega, by go_num, AI.out.symm ▸ rfl, NI.out.symm ▸ rfl, hW⟩, by simp only [intOf]; omega⟩
    · obtain rfl : i = 2 := by omega
      have q := HT.out
      have hsa := HSA.out
      generalize anyK x y u v 2 = ao at *
      generalize allN x y u v 2 = aN at *
      have hwt := below_on b1 hW
      have bz3 := bz.later hW
      have br3 := br.later hW
      obtain ⟨z0, z1, z2, z3⟩ := bz3.cell4
      clear bz br HT hW HSA
      obtain rfl := hsa
      cases ao
      · have hsa : True := trivial
        simp only [Bool.not_false, Bool.and_self, if_true, Prod.mk.injEq] at q
        obtain ⟨rfl, rfl, rfl, rfl⟩ := q
        clear hsa
        go_wp2_with fail
        refine (SG.out _).mono ?_; rintro r w4 ⟨rfl, hb4⟩
        have br4 := br3.later hb4
        have hw4 := below_on hwt hb4
        have r0 := br4.cell 0
        have r1 := br4.cell 1
        have f0 := br4.free 0
        have f1 := br4.free 1
        go_wp2_with fail
        (refine bodyPost_ret (v := _) ?_ rfl ⟨rfl, ?_⟩; (· first | (simp [results, Try.results8, go_sem, r0, r1]; done) | (simp [results, Try.results8, go_sem, r0, r1]; exact IntKind.wrap_u64 _)); (· exact (by repeat (first | with_reducible assumption | with_reducible exact below_self _ | with_reducible refine below_drewN ?_ _ | with_reducible apply Below.drew | with_reducible refine below_alloc ?_ _ | (with_reducible refine below_set ?_ _ _ ?_ _; rotate_left; (first | omega | (simp; done) | (simp; omega)))))))
      · have hsa : True := trivial
        simp only [Bool.not_false, Bool.not_true, Bool.and_false, Bool.false_and, Bool.true_and, Bool.and_true, Bool.false_eq_true, if_false, if_true] at q
        clear hsa
        go_wp2_with fail
        refine (SG.out _).mono ?_; rintro r w4 ⟨rfl, hb4⟩
        have br4 := br3.later hb4
        have hw4 := below_on hwt hb4
        have r0 := br4.cell 0
        have r1 := br4.cell 1
        have f0 := br4.free 0
        have f1 := br4.free 1
        clear z0 z1 z2 z3
        obtain ⟨z0, z1, z2, z3⟩ := (bz3.later hb4).cell4
        clear bz3 br3 hb4 hwt SG
        cases aN <;> cases ix
        all_goals
          simp only [Bool.false_eq_true, if_false, if_true, Bool.or_true, Bool.true_or, Bool.or_false, Bool.false_or, Bool.and_true, Bool.true_and, Bool.and_false, Bool.false_and, Bool.not_true, Bool.not_false, Prod.mk.injEq] at q
          (obtain ⟨rfl, rfl, rfl, rfl⟩ := q; go_wp2_with (first | (go_at_call_of 15 (Value.int .u64 x); refine (IX.out _).mono ?_; rintro r w' ⟨rfl, rfl⟩) | (go_at_call_of 15 (Value.int .u64 y); refine (IY.out _).mono ?_; rintro r w' ⟨rfl, rfl⟩) | (go_at_call_of 16 (Value.int .u64 y); refine (OY.out _).mono ?_; rintro r w' ⟨rfl, rfl⟩) | (go_at_call_of 19 (Value.int .u64 x); refine (CX.out _).mono ?_; rintro r w' ⟨rfl, rfl⟩) | (go_at_call_of 19 (Value.int .u64 y); refine (CY.out _).mono ?_; rintro r w' ⟨rfl, rfl⟩) | (go_at_call_of 22 (Value.int .u64 x); refine (ZX.out _).mono ?_; rintro r w' ⟨rfl, rfl⟩) | (go_at_call_of 22 (Value.int .u64 y); refine (ZY.out _).mono ?_; rintro r w' ⟨rfl, rfl⟩) | (go_at_call_of 20 (Value.bool ny); refine (WY.out _ _ (by decide) (by decide)).mono ?_; rintro r w' ⟨rfl, rfl⟩) | (go_at_call_of 20 (Value.bool nx); refine (WX.out _ _ (by decide) (by decide)).mono ?_; rintro r w' ⟨rfl, rfl⟩) | (go_at_call_of 20 (Value.bool true); refine (WT.out _ _ (by decide) (by decide)).mono ?_; rintro r w' ⟨rfl, rfl⟩) | (go_at_call_of 20 (Value.int .u64 9218868437227405312); refine (WB.out _ _).mono ?_; rintro r w' ⟨rfl, rfl⟩) | (go_at_call_of 21 (Value.int .u64 x); refine (AN.out _).mono ?_; rintro r w' ⟨rfl, rfl⟩) | (go_at_call_of 18 (Value.int .u64 x); refine (NX.out _).mono ?_; rintro r w' ⟨rfl, rfl⟩) | (go_at_call_of 18 (Value.int .u64 y); refine (NY.out _).mono ?_; rintro r w' ⟨rfl, rfl⟩) | (go_at_call_of 18 (Value.int .u64 u); refine (NU.out _).mono ?_; rintro r w' ⟨rfl, rfl⟩)); (refine bodyPost_ret (v := _) ?_ rfl ⟨rfl, ?_⟩; (· first | (simp [results, Try.results8, go_sem, r0, r1]; done) | (simp [results, Try.results8, go_sem, r0, r1]; exact IntKind.wrap_u64 _)); (· exact (by repeat (first | with_reducible assumption | with_reducible exact below_self _ | with_reducible refine below_drewN ?_ _ | with_reducible apply Below.drew | with_reducible refine below_alloc ?_ _ | (with_reducible refine below_set ?_ _ _ ?_ _; rotate_left; (first | omega | (simp; done) | (simp; omega))))))))
end Go.Proofs.Ytbfnjjnnlbchgaa
