/- special.Special. -/
import Derived.Test.YtbfnjjnnlbchgaaSpF
namespace Go.Proofs.Ytbfnjjnnlbchgaa
open Go.RowKit Num
set_option linter.unusedSimpArgs false
set_option linter.unusedVariables false
set_option maxRecDepth 100000

def anyK (x y u v : Int) (i : Nat) : Bool := (List.range i).any (fun j => decide (3 ≤ kindI (zat x y u v j)))
def allN (x y u v : Int) (i : Nat) : Bool := (List.range i).all (fun j => !isNot (zat x y u v j))
theorem anyK_succ (x y u v : Int) (i : Nat) : anyK x y u v (i + 1) = (anyK x y u v i || decide (3 ≤ kindI (zat x y u v i))) := by
  unfold anyK
  rw [List.range_succ, List.any_append]
  simp
theorem allN_succ (x y u v : Int) (i : Nat) : allN x y u v (i + 1) = (allN x y u v i && !isNot (zat x y u v i)) := by
  unfold allN
  rw [List.range_succ, List.all_append]
  simp
/-- A word's sign, where it stands. -/
def sgnw (x : Int) : Int := if negB x then 9223372036854775808 else 0
theorem sgnw_sgn (x : Int) : Sgn (sgnw x) := by unfold sgnw Sgn; split <;> simp
theorem and_sgn {x : Int} (h : Wd x) : bits .and .u64 x 9223372036854775808 = sgnw x := by
  rw [and_top h.1 h.2]
  unfold sgnw negB
  by_cases hh : 9223372036854775808 ≤ x
  · rw [if_pos hh, decide_eq_true hh]; rfl
  · rw [if_neg hh, decide_eq_false hh]; rfl
def finI (t : Int × Int × Int × Bool) (none : Bool) : Int × Int × Int × Bool := if t.2.2.2 then t else (9221120237041090560, 9221120237041090560, (if none then 8 else 0), true)
/-- Words and flags of what is special. -/
def specI (tag x y u v : Int) : Int × Int × Int × Bool :=
  if tag < 0 ∨ 20 < tag then (0, 0, 0, false)
  else if anyK x y u v (many tag) then finI (toldI tag x y (sgnw x) (sgnw y)) (allN x y u v (many tag))
  else if singZ tag x y u v then finI (singI tag x y (sgnw x) (sgnw y) u) (allN x y u v (many tag))
  else (0, 0, 0, false)
set_option maxHeartbeats 4000000 in
theorem spspecial (tag x y u v : Int) (w : World) (hx : Wd x) (hy : Wd y) (hu : Wd u) (hv : Wd v) :
    Calls Try.prog 7 #[.int .i64 tag, .agg #[.int .u64 x, .int .u64 y, .int .u64 u, .int .u64 v]] w (RetT (specI tag x y u v) w) := by
  have b1 : Below w.heap.size w ((w.alloc (.cells #[.int .u64 x, .int .u64 y, .int .u64 u, .int .u64 v] 24)).alloc (.cells #[.int .u64 0, .int .u64 0] 26)) := below_alloc (below_alloc (below_self w) _) _
  have bz := (box_new w #[.int .u64 x, .int .u64 y, .int .u64 u, .int .u64 v] 24).later (below_alloc (below_self _) (.cells #[.int .u64 0, .int .u64 0] 26))
  have br := box_new (w.alloc (.cells #[.int .u64 x, .int .u64 y, .int .u64 u, .int .u64 v] 24)) #[.int .u64 0, .int .u64 0] 26
  rw [show (w.alloc (.cells #[.int .u64 x, .int .u64 y, .int .u64 u, .int .u64 v] 24)).heap.size = w.heap.size + 1 by simp] at br
  have hsz : ((w.alloc (.cells #[.int .u64 x, .int .u64 y, .int .u64 u, .int .u64 v] 24)).alloc (.cells #[.int .u64 0, .int .u64 0] 26)).heap.size = w.heap.size + 1 + 1 := by simp
  have HSZ := Lib.hid hsz
  clear hsz
  have r0 := br.cell 0
  have r1 := br.cell 1
  have f0 := br.free 0
  have f1 := br.free 1
  unfold specI
  by_cases t0 : tag < 0
  · rw [if_pos (.inl t0)]
    have d0 : decide (tag < 0) = true := decide_eq_true t0
    go_enter Try.func7, Try.ntmps7
    go_wp2_with fail
    (refine bodyPost_ret (v := _) ?_ rfl ⟨rfl, ?_⟩; (· simp [results, Try.results7, go_sem, r0, r1]); (· exact (by repeat (first | with_reducible assumption | with_reducible exact below_self _ | with_reducible refine below_drewN ?_ _ | with_reducible apply Below.drew | with_reducible refine below_alloc ?_ _ | (with_reducible refine below_set ?_ _ _ ?_ _; rotate_left; (first | omega | (simp; done) | (simp; omega)))))))
  · have d0 : decide (tag < 0) = false := decide_eq_false t0
    by_cases t20 : 20 < tag
    · rw [if_pos (.inr t20)]
      have d1 : decide (tag > 20) = true := by simp; omega
      go_enter Try.func7, Try.ntmps7
      go_wp2_with fail
      (refine bodyPost_ret (v := _) ?_ rfl ⟨rfl, ?_⟩; (· simp [results, Try.results7, go_sem, r0, r1]); (· exact (by repeat (first | with_reducible assumption | with_reducible exact below_self _ | with_reducible refine below_drewN ?_ _ | with_reducible apply Below.drew | with_reducible refine below_alloc ?_ _ | (with_reducible refine below_set ?_ _ _ ?_ _; rotate_left; (first | omega | (simp; done) | (simp; omega)))))))
    · have d1 : decide (tag > 20) = false := by simp; omega
      rw [if_neg (by omega)]
      have m1 := and_sgn hx
      have m2 := and_sgn hy
      have TD := fun w => ptold tag x y (sgnw x) (sgnw y) w hx.1 hx.2 hy.1 hy.2 (sgnw_sgn y)
      have SG := fun w => psingular tag x y u v w hx hy hu hv
      have TS := fun w => ptsing tag x y u v (sgnw x) (sgnw y) w hx hy hu (sgnw_sgn x) (sgnw_sgn y)
      generalize toldI tag x y (sgnw x) (sgnw y) = tt at *
      generalize singI tag x y (sgnw x) (sgnw y) u = st at *
      generalize singZ tag x y u v = sing at *
      generalize sgnw x = sx at *
      generalize sgnw y = sy at *
      obtain ⟨ta, tb, tf, tok⟩ := tt
      obtain ⟨sa, sb, sf, sok⟩ := st
      unfold RetT at TD TS
      simp only at TD TS
      have AS := Lib.hid (fun i => anyK_succ x y u v i)
      have NS := Lib.hid (fun i => allN_succ x y u v i)
      have KD := Lib.hid (fun i w => bkind (zat x y u v i) w (zat_wd hx hy hu hv i).1 (zat_wd hx hy hu hv i).2)
      have NN := Lib.hid (fun i w => snone (zat x y u v i) w (zat_wd hx hy hu hv i).1 (zat_wd hx hy hu hv i).2)
      have M1 := Lib.hid m1
      have M2 := Lib.hid m2
      have TD := Lib.hid TD
      have SG := Lib.hid SG
      have TS := Lib.hid TS
      clear m1 m2 r0 r1 f0 f1
      have hmany : ∀ N, many tag = N → ∀ wr, Below ((w.alloc (.cells #[.int .u64 x, .int .u64 y, .int .u64 u, .int .u64 v] 24)).alloc (.cells #[.int .u64 0, .int .u64 0] 26)).heap.size ((w.alloc (.cells #[.int .u64 x, .int .u64 y, .int .u64 u, .int .u64 v] 24)).alloc (.cells #[.int .u64 0, .int .u64 0] 26)) wr → True := fun _ _ _ _ => trivial
      clear hmany
      have ht : (tag = 4 ∧ many tag = 4) ∨ ((tag == 4) = false ∧ tag = 5 ∧ many tag = 4) ∨ ((tag == 4) = false ∧ (tag == 5) = false ∧ many tag = 2) := by
        unfold many
        by_cases h4 : tag = 4
        · exact .inl ⟨h4, by rw [if_pos (.inl h4)]⟩
        · by_cases h5 : tag = 5
          · exact .inr (.inl ⟨beq_eq_false_iff_ne.2 h4, h5, by rw [if_pos (.inr h5)]⟩)
          · exact .inr (.inr ⟨beq_eq_false_iff_ne.2 h4, beq_eq_false_iff_ne.2 h5, by rw [if_neg (by omega)]⟩)
      generalize hmt : many tag = mt at *
      clear hmt
      have hres : ∀ (T : Int × Int × Int × Bool), T = (if anyK x y u v mt = true then finI (ta, tb, tf, tok) (allN x y u v mt) else if sing = true then finI (sa, sb, sf, sok) (allN x y u v mt) else (0, 0, 0, false)) → T = T := fun _ _ => rfl
      clear hres
      generalize hT : (if anyK x y u v mt = true then finI (ta, tb, tf, tok) (allN x y u v mt) else if sing = true then finI (sa, sb, sf, sok) (allN x y u v mt) else (0, 0, 0, false)) = T
      have HT := Lib.hid hT
      clear hT
      have hA0 : anyK x y u v 0 = false := rfl
      have hN0 : allN x y u v 0 = true := rfl
      have HA0 := Lib.hid hA0
      have HN0 := Lib.hid hN0
      clear hA0 hN0
      have hmt4 : mt ≤ 4 ∧ 2 ≤ mt := by omega
      rcases ht with ⟨rfl, hm⟩ | ⟨h4, rfl, hm⟩ | ⟨h4, h5, hm⟩
      all_goals
        go_enter Try.func7, Try.ntmps7
        go_wp2_with fail
        have hmi : (mt : Int) = ((mt : Nat) : Int) := rfl
        clear hmi
      · subst hm
        go_loopw [8, 9, 33] (fun vo vf vi wr => ∃ i : Nat, i ≤ 4 ∧ vi = .int .i64 i ∧ vo = .bool (anyK x y u v i) ∧ vf = .int .i64 (if allN x y u v i then 8 else 0) ∧ Below ((w.alloc (.cells #[.int .u64 x, .int .u64 y, .int .u64 u, .int .u64 v] 24)).alloc (.cells #[.int .u64 0, .int .u64 0] 26)).heap.size ((w.alloc (.cells #[.int .u64 x, .int .u64 y, .int .u64 u, .int .u64 v] 24)).alloc (.cells #[.int .u64 0, .int .u64 0] 26)) wr) (fun _ _ vi _ => 4 - (intOf vi).toNat)
        case atStart => exact ⟨0, Nat.zero_le _, rfl, by rw [HA0.out], by rw [HN0.out]; rfl, below_self _⟩
        case round =>
          obtain ⟨i, hi, rfl, rfl, rfl, hW⟩ := hrel
          by_cases h0 : i < 4
          · skip
            have hc := four_cells (bz.later hW) i (by omega)
            have aas := AS.out i
            have ns := NS.out i
            have kd := KD.out i
            have nn := NN.out i
            unfold isNot at ns nn
            generalize kindI (zat x y u v i) = ki at *
            generalize zat x y u v i = zi at *
            generalize hao : anyK x y u v i = ao at *
            generalize han : allN x y u v i = an at *
            clear hao han
            have hki : (3 ≤ ki ∧ ki = 4) ∨ (3 ≤ ki ∧ ki ≠ 4) ∨ (¬ 3 ≤ ki ∧ ki ≠ 4) := by omega
            rcases hki with ⟨a1, a2⟩ | ⟨a1, a2⟩ | ⟨a1, a2⟩
            · rw [decide_eq_true a1] at aas
              rw [decide_eq_true a2] at ns nn
              have d3 : decide (ki ≥ 3) = true := decide_eq_true a1
              have KI := Lib.hid kd
              have NNI := Lib.hid nn
              clear kd nn a1 a2
              cases ao <;> cases an
              all_goals
                have AI : Hid _ := aas
                have NI : Hid _ := ns
                clear aas ns
              · skip
                go_wp2_with fail
                refine (KI.out _).mono ?_; rintro r w' ⟨rfl, rfl⟩
                go_wp2_with fail
                refine (NNI.out _).mono ?_; rintro r w' ⟨rfl, rfl⟩
                go_wp2_with fail
                exact ⟨⟨i + 1, by omega, by go_num, AI.out.symm ▸ rfl, NI.out.symm ▸ rfl, hW⟩, by simp only [intOf]; omega⟩
              · skip
                go_wp2_with fail
                refine (KI.out _).mono ?_; rintro r w' ⟨rfl, rfl⟩
                go_wp2_with fail
                refine (NNI.out _).mono ?_; rintro r w' ⟨rfl, rfl⟩
                go_wp2_with fail
                exact ⟨⟨i + 1, by omega, by go_num, AI.out.symm ▸ rfl, NI.out.symm ▸ rfl, hW⟩, by simp only [intOf]; omega⟩
              · skip
                go_wp2_with fail
                refine (NNI.out _).mono ?_; rintro r w' ⟨rfl, rfl⟩
                go_wp2_with fail
                exact ⟨⟨i + 1, by omega, by go_num, AI.out.symm ▸ rfl, NI.out.symm ▸ rfl, hW⟩, by simp only [intOf]; omega⟩
              · skip
                go_wp2_with fail
                refine (NNI.out _).mono ?_; rintro r w' ⟨rfl, rfl⟩
                go_wp2_with fail
                exact ⟨⟨i + 1, by omega, by go_num, AI.out.symm ▸ rfl, NI.out.symm ▸ rfl, hW⟩, by simp only [intOf]; omega⟩
            · rw [decide_eq_true a1] at aas
              rw [decide_eq_false a2] at ns nn
              have d3 : decide (ki ≥ 3) = true := decide_eq_true a1
              have KI := Lib.hid kd
              have NNI := Lib.hid nn
              clear kd nn a1 a2
              cases ao <;> cases an
              all_goals
                have AI : Hid _ := aas
                have NI : Hid _ := ns
                clear aas ns
              · skip
                go_wp2_with fail
                refine (KI.out _).mono ?_; rintro r w' ⟨rfl, rfl⟩
                go_wp2_with fail
                refine (NNI.out _).mono ?_; rintro r w' ⟨rfl, rfl⟩
                go_wp2_with fail
                exact ⟨⟨i + 1, by omega, by go_num, AI.out.symm ▸ rfl, NI.out.symm ▸ rfl, hW⟩, by simp only [intOf]; omega⟩
              · skip
                go_wp2_with fail
                refine (KI.out _).mono ?_; rintro r w' ⟨rfl, rfl⟩
                go_wp2_with fail
                refine (NNI.out _).mono ?_; rintro r w' ⟨rfl, rfl⟩
                go_wp2_with fail
                exact ⟨⟨i + 1, by omega, by go_num, AI.out.symm ▸ rfl, NI.out.symm ▸ rfl, hW⟩, by simp only [intOf]; omega⟩
              · skip
                go_wp2_with fail
                refine (NNI.out _).mono ?_; rintro r w' ⟨rfl, rfl⟩
                go_wp2_with fail
                exact ⟨⟨i + 1, by omega, by go_num, AI.out.symm ▸ rfl, NI.out.symm ▸ rfl, hW⟩, by simp only [intOf]; omega⟩
              · skip
                go_wp2_with fail
                refine (NNI.out _).mono ?_; rintro r w' ⟨rfl, rfl⟩
                go_wp2_with fail
                exact ⟨⟨i + 1, by omega, by go_num, AI.out.symm ▸ rfl, NI.out.symm ▸ rfl, hW⟩, by simp only [intOf]; omega⟩
            · rw [decide_eq_false a1] at aas
              rw [decide_eq_false a2] at ns nn
              have d3 : decide (ki ≥ 3) = false := decide_eq_false a1
              have KI := Lib.hid kd
              have NNI := Lib.hid nn
              clear kd nn a1 a2
              cases ao <;> cases an
              all_goals
                have AI : Hid _ := aas
                have NI : Hid _ := ns
                clear aas ns
              · skip
                go_wp2_with fail
                refine (KI.out _).mono ?_; rintro r w' ⟨rfl, rfl⟩
                go_wp2_with fail
                refine (NNI.out _).mono ?_; rintro r w' ⟨rfl, rfl⟩
                go_wp2_with fail
                exact ⟨⟨i + 1, by omega, by go_num, AI.out.symm ▸ rfl, NI.out.symm ▸ rfl, hW⟩, by simp only [intOf]; omega⟩
              · skip
                go_wp2_with fail
                refine (KI.out _).mono ?_; rintro r w' ⟨rfl, rfl⟩
                go_wp2_with fail
                refine (NNI.out _).mono ?_; rintro r w' ⟨rfl, rfl⟩
                go_wp2_with fail
                exact ⟨⟨i + 1, by omega, by go_num, AI.out.symm ▸ rfl, NI.out.symm ▸ rfl, hW⟩, by simp only [intOf]; omega⟩
              · skip
                go_wp2_with fail
                refine (NNI.out _).mono ?_; rintro r w' ⟨rfl, rfl⟩
                go_wp2_with fail
                exact ⟨⟨i + 1, by omega, by go_num, AI.out.symm ▸ rfl, NI.out.symm ▸ rfl, hW⟩, by simp only [intOf]; omega⟩
              · skip
                go_wp2_with fail
                refine (NNI.out _).mono ?_; rintro r w' ⟨rfl, rfl⟩
                go_wp2_with fail
                exact ⟨⟨i + 1, by omega, by go_num, AI.out.symm ▸ rfl, NI.out.symm ▸ rfl, hW⟩, by simp only [intOf]; omega⟩
          · obtain rfl : i = 4 := by omega
            have hT := HT.out
            generalize anyK x y u v 4 = ao at *
            generalize allN x y u v 4 = an at *
            have hwt := below_on b1 hW
            have hr := hW.size
            rw [HSZ.out] at hr
            obtain ⟨z0, z1, z2, z3⟩ := (bz.later hW).cell4
            have m1 := M1.out
            have m2 := M2.out
            have b3 : Below wr.heap.size wr ((wr.alloc (.cells #[.int .u64 x, .int .u64 y, .int .u64 sx, .int .u64 sy] 34)).alloc (.cells #[.int .u64 0, .int .u64 0] 26)) := below_alloc (below_alloc (below_self _) _) _
            have bp3 := (box_new wr #[.int .u64 x, .int .u64 y, .int .u64 sx, .int .u64 sy] 34).later (below_alloc (below_self _) (.cells #[.int .u64 0, .int .u64 0] 26))
            have bw3 := box_new (wr.alloc (.cells #[.int .u64 x, .int .u64 y, .int .u64 sx, .int .u64 sy] 34)) #[.int .u64 0, .int .u64 0] 26
            rw [show (wr.alloc (.cells #[.int .u64 x, .int .u64 y, .int .u64 sx, .int .u64 sy] 34)).heap.size = wr.heap.size + 1 by simp] at bw3
            have br3 := (br.later hW).later b3
            have bz3 := (bz.later hW).later b3
            have hw3 := below_on hwt b3
            obtain ⟨p0, p1, p2, p3⟩ := bp3.cell4
            obtain ⟨z0', z1', z2', z3'⟩ := bz3.cell4
            clear bz br hW
            cases an
            all_goals
              cases ao
              · simp only [Bool.false_eq_true, if_false] at hT
                cases sing
                · simp only [Bool.false_eq_true, if_false] at hT
                  subst hT
                  go_wp2_with fail
                  refine (SG.out _).mono ?_; rintro r w4 ⟨rfl, hb4⟩
                  have br4 := br3.later hb4
                  have hw4 := below_on hw3 hb4
                  have r0 := br4.cell 0
                  have r1 := br4.cell 1
                  have f0 := br4.free 0
                  have f1 := br4.free 1
                  go_wp2_with fail
                  (refine bodyPost_ret (v := _) ?_ rfl ⟨rfl, ?_⟩; (· simp [results, Try.results7, go_sem, r0, r1]); (· exact (by repeat (first | with_reducible assumption | with_reducible exact below_self _ | with_reducible refine below_drewN ?_ _ | with_reducible apply Below.drew | with_reducible refine below_alloc ?_ _ | (with_reducible refine below_set ?_ _ _ ?_ _; rotate_left; (first | omega | (simp; done) | (simp; omega)))))))
                · simp only [if_true] at hT
                  go_wp2_with fail
                  refine (SG.out _).mono ?_; rintro r w4 ⟨rfl, hb4⟩
                  have br3 := br3.later hb4
                  have bw3 := bw3.later hb4
                  have hw3 := below_on hw3 hb4
                  clear p0 p1 p2 p3 z0' z1' z2' z3' z0 z1 z2 z3
                  obtain ⟨p0, p1, p2, p3⟩ := (bp3.later hb4).cell4
                  obtain ⟨z0', z1', z2', z3'⟩ := (bz3.later hb4).cell4
                  clear hb4
                  go_wp2_with fail
                  refine (TS.out _).mono ?_; rintro r w5 ⟨rfl, hb4⟩
                  unfold finI at hT
                  simp only at hT
                  cases sok
                  · simp only [Bool.false_eq_true, if_false] at hT
                    subst hT
                    (have br4 := br3.later hb4; have bw4 := bw3.later hb4; have hw4 := below_on hw3 hb4; have r0 := br4.cell 0; have r1 := br4.cell 1; have f0 := br4.free 0; have f1 := br4.free 1; have c0 := bw4.cell 0; have c1 := bw4.cell 1; have g0 := bw4.free 0; have g1 := bw4.free 1; have hne : wr.heap.size + 1 ≠ w.heap.size + 1 := (by omega); go_wp2_with fail; (refine bodyPost_ret (v := _) ?_ rfl ⟨rfl, ?_⟩; (· simp [results, Try.results7, go_sem, r0, r1]); (· exact (by repeat (first | with_reducible assumption | with_reducible exact below_self _ | with_reducible refine below_drewN ?_ _ | with_reducible apply Below.drew | with_reducible refine below_alloc ?_ _ | (with_reducible refine below_set ?_ _ _ ?_ _; rotate_left; (first | omega | (simp; done) | (simp; omega))))))))
                  · simp only [if_true] at hT
                    subst hT
                    (have br4 := br3.later hb4; have bw4 := bw3.later hb4; have hw4 := below_on hw3 hb4; have r0 := br4.cell 0; have r1 := br4.cell 1; have f0 := br4.free 0; have f1 := br4.free 1; have c0 := bw4.cell 0; have c1 := bw4.cell 1; have g0 := bw4.free 0; have g1 := bw4.free 1; have hne : wr.heap.size + 1 ≠ w.heap.size + 1 := (by omega); go_wp2_with fail; (refine bodyPost_ret (v := _) ?_ rfl ⟨rfl, ?_⟩; (· simp [results, Try.results7, go_sem, r0, r1]); (· exact (by repeat (first | with_reducible assumption | with_reducible exact below_self _ | with_reducible refine below_drewN ?_ _ | with_reducible apply Below.drew | with_reducible refine below_alloc ?_ _ | (with_reducible refine below_set ?_ _ _ ?_ _; rotate_left; (first | omega | (simp; done) | (simp; omega))))))))
              · simp only [if_true] at hT
                go_wp2_with fail
                refine (TD.out _).mono ?_; rintro r w4 ⟨rfl, hb4⟩
                unfold finI at hT
                simp only at hT
                cases tok
                · simp only [Bool.false_eq_true, if_false] at hT
                  subst hT
                  (have br4 := br3.later hb4; have bw4 := bw3.later hb4; have hw4 := below_on hw3 hb4; have r0 := br4.cell 0; have r1 := br4.cell 1; have f0 := br4.free 0; have f1 := br4.free 1; have c0 := bw4.cell 0; have c1 := bw4.cell 1; have g0 := bw4.free 0; have g1 := bw4.free 1; have hne : wr.heap.size + 1 ≠ w.heap.size + 1 := (by omega); go_wp2_with fail; (refine bodyPost_ret (v := _) ?_ rfl ⟨rfl, ?_⟩; (· simp [results, Try.results7, go_sem, r0, r1]); (· exact (by repeat (first | with_reducible assumption | with_reducible exact below_self _ | with_reducible refine below_drewN ?_ _ | with_reducible apply Below.drew | with_reducible refine below_alloc ?_ _ | (with_reducible refine below_set ?_ _ _ ?_ _; rotate_left; (first | omega | (simp; done) | (simp; omega))))))))
                · simp only [if_true] at hT
                  subst hT
                  (have br4 := br3.later hb4; have bw4 := bw3.later hb4; have hw4 := below_on hw3 hb4; have r0 := br4.cell 0; have r1 := br4.cell 1; have f0 := br4.free 0; have f1 := br4.free 1; have c0 := bw4.cell 0; have c1 := bw4.cell 1; have g0 := bw4.free 0; have g1 := bw4.free 1; have hne : wr.heap.size + 1 ≠ w.heap.size + 1 := (by omega); go_wp2_with fail; (refine bodyPost_ret (v := _) ?_ rfl ⟨rfl, ?_⟩; (· simp [results, Try.results7, go_sem, r0, r1]); (· exact (by repeat (first | with_reducible assumption | with_reducible exact below_self _ | with_reducible refine below_drewN ?_ _ | with_reducible apply Below.drew | with_reducible refine below_alloc ?_ _ | (with_reducible refine below_set ?_ _ _ ?_ _; rotate_left; (first | omega | (simp; done) | (simp; omega))))))))
      · subst hm
        go_loopw [8, 9, 33] (fun vo vf vi wr => ∃ i : Nat, i ≤ 4 ∧ vi = .int .i64 i ∧ vo = .bool (anyK x y u v i) ∧ vf = .int .i64 (if allN x y u v i then 8 else 0) ∧ Below ((w.alloc (.cells #[.int .u64 x, .int .u64 y, .int .u64 u, .int .u64 v] 24)).alloc (.cells #[.int .u64 0, .int .u64 0] 26)).heap.size ((w.alloc (.cells #[.int .u64 x, .int .u64 y, .int .u64 u, .int .u64 v] 24)).alloc (.cells #[.int .u64 0, .int .u64 0] 26)) wr) (fun _ _ vi _ => 4 - (intOf vi).toNat)
        case atStart => exact ⟨0, Nat.zero_le _, rfl, by rw [HA0.out], by rw [HN0.out]; rfl, below_self _⟩
        case round =>
          obtain ⟨i, hi, rfl, rfl, rfl, hW⟩ := hrel
          by_cases h0 : i < 4
          · skip
            have hc := four_cells (bz.later hW) i (by omega)
            have aas := AS.out i
            have ns := NS.out i
            have kd := KD.out i
            have nn := NN.out i
            unfold isNot at ns nn
            generalize kindI (zat x y u v i) = ki at *
            generalize zat x y u v i = zi at *
            generalize hao : anyK x y u v i = ao at *
            generalize han : allN x y u v i = an at *
            clear hao han
            have hki : (3 ≤ ki ∧ ki = 4) ∨ (3 ≤ ki ∧ ki ≠ 4) ∨ (¬ 3 ≤ ki ∧ ki ≠ 4) := by omega
            rcases hki with ⟨a1, a2⟩ | ⟨a1, a2⟩ | ⟨a1, a2⟩
            · rw [decide_eq_true a1] at aas
              rw [decide_eq_true a2] at ns nn
              have d3 : decide (ki ≥ 3) = true := decide_eq_true a1
              have KI := Lib.hid kd
              have NNI := Lib.hid nn
              clear kd nn a1 a2
              cases ao <;> cases an
              all_goals
                have AI : Hid _ := aas
                have NI : Hid _ := ns
                clear aas ns
              · skip
                go_wp2_with fail
                refine (KI.out _).mono ?_; rintro r w' ⟨rfl, rfl⟩
                go_wp2_with fail
                refine (NNI.out _).mono ?_; rintro r w' ⟨rfl, rfl⟩
                go_wp2_with fail
                exact ⟨⟨i + 1, by omega, by go_num, AI.out.symm ▸ rfl, NI.out.symm ▸ rfl, hW⟩, by simp only [intOf]; omega⟩
              · skip
                go_wp2_with fail
                refine (KI.out _).mono ?_; rintro r w' ⟨rfl, rfl⟩
                go_wp2_with fail
                refine (NNI.out _).mono ?_; rintro r w' ⟨rfl, rfl⟩
                go_wp2_with fail
                exact ⟨⟨i + 1, by omega, by go_num, AI.out.symm ▸ rfl, NI.out.symm ▸ rfl, hW⟩, by simp only [intOf]; omega⟩
              · skip
                go_wp2_with fail
                refine (NNI.out _).mono ?_; rintro r w' ⟨rfl, rfl⟩
                go_wp2_with fail
                exact ⟨⟨i + 1, by omega, by go_num, AI.out.symm ▸ rfl, NI.out.symm ▸ rfl, hW⟩, by simp only [intOf]; omega⟩
              · skip
                go_wp2_with fail
                refine (NNI.out _).mono ?_; rintro r w' ⟨rfl, rfl⟩
                go_wp2_with fail
                exact ⟨⟨i + 1, by omega, by go_num, AI.out.symm ▸ rfl, NI.out.symm ▸ rfl, hW⟩, by simp only [intOf]; omega⟩
            · rw [decide_eq_true a1] at aas
              rw [decide_eq_false a2] at ns nn
              have d3 : decide (ki ≥ 3) = true := decide_eq_true a1
              have KI := Lib.hid kd
              have NNI := Lib.hid nn
              clear kd nn a1 a2
              cases ao <;> cases an
              all_goals
                have AI : Hid _ := aas
                have NI : Hid _ := ns
                clear aas ns
              · skip
                go_wp2_with fail
                refine (KI.out _).mono ?_; rintro r w' ⟨rfl, rfl⟩
                go_wp2_with fail
                refine (NNI.out _).mono ?_; rintro r w' ⟨rfl, rfl⟩
                go_wp2_with fail
                exact ⟨⟨i + 1, by omega, by go_num, AI.out.symm ▸ rfl, NI.out.symm ▸ rfl, hW⟩, by simp only [intOf]; omega⟩
              · skip
                go_wp2_with fail
                refine (KI.out _).mono ?_; rintro r w' ⟨rfl, rfl⟩
                go_wp2_with fail
                refine (NNI.out _).mono ?_; rintro r w' ⟨rfl, rfl⟩
                go_wp2_with fail
                exact ⟨⟨i + 1, by omega, by go_num, AI.out.symm ▸ rfl, NI.out.symm ▸ rfl, hW⟩, by simp only [intOf]; omega⟩
              · skip
                go_wp2_with fail
                refine (NNI.out _).mono ?_; rintro r w' ⟨rfl, rfl⟩
                go_wp2_with fail
                exact ⟨⟨i + 1, by omega, by go_num, AI.out.symm ▸ rfl, NI.out.symm ▸ rfl, hW⟩, by simp only [intOf]; omega⟩
              · skip
                go_wp2_with fail
                refine (NNI.out _).mono ?_; rintro r w' ⟨rfl, rfl⟩
                go_wp2_with fail
                exact ⟨⟨i + 1, by omega, by go_num, AI.out.symm ▸ rfl, NI.out.symm ▸ rfl, hW⟩, by simp only [intOf]; omega⟩
            · rw [decide_eq_false a1] at aas
              rw [decide_eq_false a2] at ns nn
              have d3 : decide (ki ≥ 3) = false := decide_eq_false a1
              have KI := Lib.hid kd
              have NNI := Lib.hid nn
              clear kd nn a1 a2
              cases ao <;> cases an
              all_goals
                have AI : Hid _ := aas
                have NI : Hid _ := ns
                clear aas ns
              · skip
                go_wp2_with fail
                refine (KI.out _).mono ?_; rintro r w' ⟨rfl, rfl⟩
                go_wp2_with fail
                refine (NNI.out _).mono ?_; rintro r w' ⟨rfl, rfl⟩
                go_wp2_with fail
                exact ⟨⟨i + 1, by omega, by go_num, AI.out.symm ▸ rfl, NI.out.symm ▸ rfl, hW⟩, by simp only [intOf]; omega⟩
              · skip
                go_wp2_with fail
                refine (KI.out _).mono ?_; rintro r w' ⟨rfl, rfl⟩
                go_wp2_with fail
                refine (NNI.out _).mono ?_; rintro r w' ⟨rfl, rfl⟩
                go_wp2_with fail
                exact ⟨⟨i + 1, by omega, by go_num, AI.out.symm ▸ rfl, NI.out.symm ▸ rfl, hW⟩, by simp only [intOf]; omega⟩
              · skip
                go_wp2_with fail
                refine (NNI.out _).mono ?_; rintro r w' ⟨rfl, rfl⟩
                go_wp2_with fail
                exact ⟨⟨i + 1, by omega, by go_num, AI.out.symm ▸ rfl, NI.out.symm ▸ rfl, hW⟩, by simp only [intOf]; omega⟩
              · skip
                go_wp2_with fail
                refine (NNI.out _).mono ?_; rintro r w' ⟨rfl, rfl⟩
                go_wp2_with fail
                exact ⟨⟨i + 1, by omega, by go_num, AI.out.symm ▸ rfl, NI.out.symm ▸ rfl, hW⟩, by simp only [intOf]; omega⟩
          · obtain rfl : i = 4 := by omega
            have hT := HT.out
            generalize anyK x y u v 4 = ao at *
            generalize allN x y u v 4 = an at *
            have hwt := below_on b1 hW
            have hr := hW.size
            rw [HSZ.out] at hr
            obtain ⟨z0, z1, z2, z3⟩ := (bz.later hW).cell4
            have m1 := M1.out
            have m2 := M2.out
            have b3 : Below wr.heap.size wr ((wr.alloc (.cells #[.int .u64 x, .int .u64 y, .int .u64 sx, .int .u64 sy] 34)).alloc (.cells #[.int .u64 0, .int .u64 0] 26)) := below_alloc (below_alloc (below_self _) _) _
            have bp3 := (box_new wr #[.int .u64 x, .int .u64 y, .int .u64 sx, .int .u64 sy] 34).later (below_alloc (below_self _) (.cells #[.int .u64 0, .int .u64 0] 26))
            have bw3 := box_new (wr.alloc (.cells #[.int .u64 x, .int .u64 y, .int .u64 sx, .int .u64 sy] 34)) #[.int .u64 0, .int .u64 0] 26
            rw [show (wr.alloc (.cells #[.int .u64 x, .int .u64 y, .int .u64 sx, .int .u64 sy] 34)).heap.size = wr.heap.size + 1 by simp] at bw3
            have br3 := (br.later hW).later b3
            have bz3 := (bz.later hW).later b3
            have hw3 := below_on hwt b3
            obtain ⟨p0, p1, p2, p3⟩ := bp3.cell4
            obtain ⟨z0', z1', z2', z3'⟩ := bz3.cell4
            clear bz br hW
            cases an
            all_goals
              cases ao
              · simp only [Bool.false_eq_true, if_false] at hT
                cases sing
                · simp only [Bool.false_eq_true, if_false] at hT
                  subst hT
                  go_wp2_with fail
                  refine (SG.out _).mono ?_; rintro r w4 ⟨rfl, hb4⟩
                  have br4 := br3.later hb4
                  have hw4 := below_on hw3 hb4
                  have r0 := br4.cell 0
                  have r1 := br4.cell 1
                  have f0 := br4.free 0
                  have f1 := br4.free 1
                  go_wp2_with fail
                  (refine bodyPost_ret (v := _) ?_ rfl ⟨rfl, ?_⟩; (· simp [results, Try.results7, go_sem, r0, r1]); (· exact (by repeat (first | with_reducible assumption | with_reducible exact below_self _ | with_reducible refine below_drewN ?_ _ | with_reducible apply Below.drew | with_reducible refine below_alloc ?_ _ | (with_reducible refine below_set ?_ _ _ ?_ _; rotate_left; (first | omega | (simp; done) | (simp; omega)))))))
                · simp only [if_true] at hT
                  go_wp2_with fail
                  refine (SG.out _).mono ?_; rintro r w4 ⟨rfl, hb4⟩
                  have br3 := br3.later hb4
                  have bw3 := bw3.later hb4
                  have hw3 := below_on hw3 hb4
                  clear p0 p1 p2 p3 z0' z1' z2' z3' z0 z1 z2 z3
                  obtain ⟨p0, p1, p2, p3⟩ := (bp3.later hb4).cell4
                  obtain ⟨z0', z1', z2', z3'⟩ := (bz3.later hb4).cell4
                  clear hb4
                  go_wp2_with fail
                  refine (TS.out _).mono ?_; rintro r w5 ⟨rfl, hb4⟩
                  unfold finI at hT
                  simp only at hT
                  cases sok
                  · simp only [Bool.false_eq_true, if_false] at hT
                    subst hT
                    (have br4 := br3.later hb4; have bw4 := bw3.later hb4; have hw4 := below_on hw3 hb4; have r0 := br4.cell 0; have r1 := br4.cell 1; have f0 := br4.free 0; have f1 := br4.free 1; have c0 := bw4.cell 0; have c1 := bw4.cell 1; have g0 := bw4.free 0; have g1 := bw4.free 1; have hne : wr.heap.size + 1 ≠ w.heap.size + 1 := (by omega); go_wp2_with fail; (refine bodyPost_ret (v := _) ?_ rfl ⟨rfl, ?_⟩; (· simp [results, Try.results7, go_sem, r0, r1]); (· exact (by repeat (first | with_reducible assumption | with_reducible exact below_self _ | with_reducible refine below_drewN ?_ _ | with_reducible apply Below.drew | with_reducible refine below_alloc ?_ _ | (with_reducible refine below_set ?_ _ _ ?_ _; rotate_left; (first | omega | (simp; done) | (simp; omega))))))))
                  · simp only [if_true] at hT
                    subst hT
                    (have br4 := br3.later hb4; have bw4 := bw3.later hb4; have hw4 := below_on hw3 hb4; have r0 := br4.cell 0; have r1 := br4.cell 1; have f0 := br4.free 0; have f1 := br4.free 1; have c0 := bw4.cell 0; have c1 := bw4.cell 1; have g0 := bw4.free 0; have g1 := bw4.free 1; have hne : wr.heap.size + 1 ≠ w.heap.size + 1 := (by omega); go_wp2_with fail; (refine bodyPost_ret (v := _) ?_ rfl ⟨rfl, ?_⟩; (· simp [results, Try.results7, go_sem, r0, r1]); (· exact (by repeat (first | with_reducible assumption | with_reducible exact below_self _ | with_reducible refine below_drewN ?_ _ | with_reducible apply Below.drew | with_reducible refine below_alloc ?_ _ | (with_reducible refine below_set ?_ _ _ ?_ _; rotate_left; (first | omega | (simp; done) | (simp; omega))))))))
              · simp only [if_true] at hT
                go_wp2_with fail
                refine (TD.out _).mono ?_; rintro r w4 ⟨rfl, hb4⟩
                unfold finI at hT
                simp only at hT
                cases tok
                · simp only [Bool.false_eq_true, if_false] at hT
                  subst hT
                  (have br4 := br3.later hb4; have bw4 := bw3.later hb4; have hw4 := below_on hw3 hb4; have r0 := br4.cell 0; have r1 := br4.cell 1; have f0 := br4.free 0; have f1 := br4.free 1; have c0 := bw4.cell 0; have c1 := bw4.cell 1; have g0 := bw4.free 0; have g1 := bw4.free 1; have hne : wr.heap.size + 1 ≠ w.heap.size + 1 := (by omega); go_wp2_with fail; (refine bodyPost_ret (v := _) ?_ rfl ⟨rfl, ?_⟩; (· simp [results, Try.results7, go_sem, r0, r1]); (· exact (by repeat (first | with_reducible assumption | with_reducible exact below_self _ | with_reducible refine below_drewN ?_ _ | with_reducible apply Below.drew | with_reducible refine below_alloc ?_ _ | (with_reducible refine below_set ?_ _ _ ?_ _; rotate_left; (first | omega | (simp; done) | (simp; omega))))))))
                · simp only [if_true] at hT
                  subst hT
                  (have br4 := br3.later hb4; have bw4 := bw3.later hb4; have hw4 := below_on hw3 hb4; have r0 := br4.cell 0; have r1 := br4.cell 1; have f0 := br4.free 0; have f1 := br4.free 1; have c0 := bw4.cell 0; have c1 := bw4.cell 1; have g0 := bw4.free 0; have g1 := bw4.free 1; have hne : wr.heap.size + 1 ≠ w.heap.size + 1 := (by omega); go_wp2_with fail; (refine bodyPost_ret (v := _) ?_ rfl ⟨rfl, ?_⟩; (· simp [results, Try.results7, go_sem, r0, r1]); (· exact (by repeat (first | with_reducible assumption | with_reducible exact below_self _ | with_reducible refine below_drewN ?_ _ | with_reducible apply Below.drew | with_reducible refine below_alloc ?_ _ | (with_reducible refine below_set ?_ _ _ ?_ _; rotate_left; (first | omega | (simp; done) | (simp; omega))))))))
      · subst hm
        go_loopw [8, 9, 33] (fun vo vf vi wr => ∃ i : Nat, i ≤ 2 ∧ vi = .int .i64 i ∧ vo = .bool (anyK x y u v i) ∧ vf = .int .i64 (if allN x y u v i then 8 else 0) ∧ Below ((w.alloc (.cells #[.int .u64 x, .int .u64 y, .int .u64 u, .int .u64 v] 24)).alloc (.cells #[.int .u64 0, .int .u64 0] 26)).heap.size ((w.alloc (.cells #[.int .u64 x, .int .u64 y, .int .u64 u, .int .u64 v] 24)).alloc (.cells #[.int .u64 0, .int .u64 0] 26)) wr) (fun _ _ vi _ => 2 - (intOf vi).toNat)
        case atStart => exact ⟨0, Nat.zero_le _, rfl, by rw [HA0.out], by rw [HN0.out]; rfl, below_self _⟩
        case round =>
          obtain ⟨i, hi, rfl, rfl, rfl, hW⟩ := hrel
          by_cases h0 : i < 2
          · skip
            have hc := four_cells (bz.later hW) i (by omega)
            have aas := AS.out i
            have ns := NS.out i
            have kd := KD.out i
            have nn := NN.out i
            unfold isNot at ns nn
            generalize kindI (zat x y u v i) = ki at *
            generalize zat x y u v i = zi at *
            generalize hao : anyK x y u v i = ao at *
            generalize han : allN x y u v i = an at *
            clear hao han
            have hki : (3 ≤ ki ∧ ki = 4) ∨ (3 ≤ ki ∧ ki ≠ 4) ∨ (¬ 3 ≤ ki ∧ ki ≠ 4) := by omega
            rcases hki with ⟨a1, a2⟩ | ⟨a1, a2⟩ | ⟨a1, a2⟩
            · rw [decide_eq_true a1] at aas
              rw [decide_eq_true a2] at ns nn
              have d3 : decide (ki ≥ 3) = true := decide_eq_true a1
              have KI := Lib.hid kd
              have NNI := Lib.hid nn
              clear kd nn a1 a2
              cases ao <;> cases an
              all_goals
                have AI : Hid _ := aas
                have NI : Hid _ := ns
                clear aas ns
              · skip
                go_wp2_with fail
                refine (KI.out _).mono ?_; rintro r w' ⟨rfl, rfl⟩
                go_wp2_with fail
                refine (NNI.out _).mono ?_; rintro r w' ⟨rfl, rfl⟩
                go_wp2_with fail
                exact ⟨⟨i + 1, by omega, by go_num, AI.out.symm ▸ rfl, NI.out.symm ▸ rfl, hW⟩, by simp only [intOf]; omega⟩
              · skip
                go_wp2_with fail
                refine (KI.out _).mono ?_; rintro r w' ⟨rfl, rfl⟩
                go_wp2_with fail
                refine (NNI.out _).mono ?_; rintro r w' ⟨rfl, rfl⟩
                go_wp2_with fail
                exact ⟨⟨i + 1, by omega, by go_num, AI.out.symm ▸ rfl, NI.out.symm ▸ rfl, hW⟩, by simp only [intOf]; omega⟩
              · skip
                go_wp2_with fail
                refine (NNI.out _).mono ?_; rintro r w' ⟨rfl, rfl⟩
                go_wp2_with fail
                exact ⟨⟨i + 1, by omega, by go_num, AI.out.symm ▸ rfl, NI.out.symm ▸ rfl, hW⟩, by simp only [intOf]; omega⟩
              · skip
                go_wp2_with fail
                refine (NNI.out _).mono ?_; rintro r w' ⟨rfl, rfl⟩
                go_wp2_with fail
                exact ⟨⟨i + 1, by omega, by go_num, AI.out.symm ▸ rfl, NI.out.symm ▸ rfl, hW⟩, by simp only [intOf]; omega⟩
            · rw [decide_eq_true a1] at aas
              rw [decide_eq_false a2] at ns nn
              have d3 : decide (ki ≥ 3) = true := decide_eq_true a1
              have KI := Lib.hid kd
              have NNI := Lib.hid nn
              clear kd nn a1 a2
              cases ao <;> cases an
              all_goals
                have AI : Hid _ := aas
                have NI : Hid _ := ns
                clear aas ns
              · skip
                go_wp2_with fail
                refine (KI.out _).mono ?_; rintro r w' ⟨rfl, rfl⟩
                go_wp2_with fail
                refine (NNI.out _).mono ?_; rintro r w' ⟨rfl, rfl⟩
                go_wp2_with fail
                exact ⟨⟨i + 1, by omega, by go_num, AI.out.symm ▸ rfl, NI.out.symm ▸ rfl, hW⟩, by simp only [intOf]; omega⟩
              · skip
                go_wp2_with fail
                refine (KI.out _).mono ?_; rintro r w' ⟨rfl, rfl⟩
                go_wp2_with fail
                refine (NNI.out _).mono ?_; rintro r w' ⟨rfl, rfl⟩
                go_wp2_with fail
                exact ⟨⟨i + 1, by omega, by go_num, AI.out.symm ▸ rfl, NI.out.symm ▸ rfl, hW⟩, by simp only [intOf]; omega⟩
              · skip
                go_wp2_with fail
                refine (NNI.out _).mono ?_; rintro r w' ⟨rfl, rfl⟩
                go_wp2_with fail
                exact ⟨⟨i + 1, by omega, by go_num, AI.out.symm ▸ rfl, NI.out.symm ▸ rfl, hW⟩, by simp only [intOf]; omega⟩
              · skip
                go_wp2_with fail
                refine (NNI.out _).mono ?_; rintro r w' ⟨rfl, rfl⟩
                go_wp2_with fail
                exact ⟨⟨i + 1, by omega, by go_num, AI.out.symm ▸ rfl, NI.out.symm ▸ rfl, hW⟩, by simp only [intOf]; omega⟩
            · rw [decide_eq_false a1] at aas
              rw [decide_eq_false a2] at ns nn
              have d3 : decide (ki ≥ 3) = false := decide_eq_false a1
              have KI := Lib.hid kd
              have NNI := Lib.hid nn
              clear kd nn a1 a2
              cases ao <;> cases an
              all_goals
                have AI : Hid _ := aas
                have NI : Hid _ := ns
                clear aas ns
              · skip
                go_wp2_with fail
                refine (KI.out _).mono ?_; rintro r w' ⟨rfl, rfl⟩
                go_wp2_with fail
                refine (NNI.out _).mono ?_; rintro r w' ⟨rfl, rfl⟩
                go_wp2_with fail
                exact ⟨⟨i + 1, by omega, by go_num, AI.out.symm ▸ rfl, NI.out.symm ▸ rfl, hW⟩, by simp only [intOf]; omega⟩
              · skip
                go_wp2_with fail
                refine (KI.out _).mono ?_; rintro r w' ⟨rfl, rfl⟩
                go_wp2_with fail
                refine (NNI.out _).mono ?_; rintro r w' ⟨rfl, rfl⟩
                go_wp2_with fail
                exact ⟨⟨i + 1, by omega, by go_num, AI.out.symm ▸ rfl, NI.out.symm ▸ rfl, hW⟩, by simp only [intOf]; omega⟩
              · skip
                go_wp2_with fail
                refine (NNI.out _).mono ?_; rintro r w' ⟨rfl, rfl⟩
                go_wp2_with fail
                exact ⟨⟨i + 1, by omega, by go_num, AI.out.symm ▸ rfl, NI.out.symm ▸ rfl, hW⟩, by simp only [intOf]; omega⟩
              · skip
                go_wp2_with fail
                refine (NNI.out _).mono ?_; rintro r w' ⟨rfl, rfl⟩
                go_wp2_with fail
                exact ⟨⟨i + 1, by omega, by go_num, AI.out.symm ▸ rfl, NI.out.symm ▸ rfl, hW⟩, by simp only [intOf]; omega⟩
          · obtain rfl : i = 2 := by omega
            have hT := HT.out
            generalize anyK x y u v 2 = ao at *
            generalize allN x y u v 2 = an at *
            have hwt := below_on b1 hW
            have hr := hW.size
            rw [HSZ.out] at hr
            obtain ⟨z0, z1, z2, z3⟩ := (bz.later hW).cell4
            have m1 := M1.out
            have m2 := M2.out
            have b3 : Below wr.heap.size wr ((wr.alloc (.cells #[.int .u64 x, .int .u64 y, .int .u64 sx, .int .u64 sy] 34)).alloc (.cells #[.int .u64 0, .int .u64 0] 26)) := below_alloc (below_alloc (below_self _) _) _
            have bp3 := (box_new wr #[.int .u64 x, .int .u64 y, .int .u64 sx, .int .u64 sy] 34).later (below_alloc (below_self _) (.cells #[.int .u64 0, .int .u64 0] 26))
            have bw3 := box_new (wr.alloc (.cells #[.int .u64 x, .int .u64 y, .int .u64 sx, .int .u64 sy] 34)) #[.int .u64 0, .int .u64 0] 26
            rw [show (wr.alloc (.cells #[.int .u64 x, .int .u64 y, .int .u64 sx, .int .u64 sy] 34)).heap.size = wr.heap.size + 1 by simp] at bw3
            have br3 := (br.later hW).later b3
            have bz3 := (bz.later hW).later b3
            have hw3 := below_on hwt b3
            obtain ⟨p0, p1, p2, p3⟩ := bp3.cell4
            obtain ⟨z0', z1', z2', z3'⟩ := bz3.cell4
            clear bz br hW
            cases an
            all_goals
              cases ao
              · simp only [Bool.false_eq_true, if_false] at hT
                cases sing
                · simp only [Bool.false_eq_true, if_false] at hT
                  subst hT
                  go_wp2_with fail
                  refine (SG.out _).mono ?_; rintro r w4 ⟨rfl, hb4⟩
                  have br4 := br3.later hb4
                  have hw4 := below_on hw3 hb4
                  have r0 := br4.cell 0
                  have r1 := br4.cell 1
                  have f0 := br4.free 0
                  have f1 := br4.free 1
                  go_wp2_with fail
                  (refine bodyPost_ret (v := _) ?_ rfl ⟨rfl, ?_⟩; (· simp [results, Try.results7, go_sem, r0, r1]); (· exact (by repeat (first | with_reducible assumption | with_reducible exact below_self _ | with_reducible refine below_drewN ?_ _ | with_reducible apply Below.drew | with_reducible refine below_alloc ?_ _ | (with_reducible refine below_set ?_ _ _ ?_ _; rotate_left; (first | omega | (simp; done) | (simp; omega)))))))
                · simp only [if_true] at hT
                  go_wp2_with fail
                  refine (SG.out _).mono ?_; rintro r w4 ⟨rfl, hb4⟩
                  have br3 := br3.later hb4
                  have bw3 := bw3.later hb4
                  have hw3 := below_on hw3 hb4
                  clear p0 p1 p2 p3 z0' z1' z2' z3' z0 z1 z2 z3
                  obtain ⟨p0, p1, p2, p3⟩ := (bp3.later hb4).cell4
                  obtain ⟨z0', z1', z2', z3'⟩ := (bz3.later hb4).cell4
                  clear hb4
                  go_wp2_with fail
                  refine (TS.out _).mono ?_; rintro r w5 ⟨rfl, hb4⟩
                  unfold finI at hT
                  simp only at hT
                  cases sok
                  · simp only [Bool.false_eq_true, if_false] at hT
                    subst hT
                    (have br4 := br3.later hb4; have bw4 := bw3.later hb4; have hw4 := below_on hw3 hb4; have r0 := br4.cell 0; have r1 := br4.cell 1; have f0 := br4.free 0; have f1 := br4.free 1; have c0 := bw4.cell 0; have c1 := bw4.cell 1; have g0 := bw4.free 0; have g1 := bw4.free 1; have hne : wr.heap.size + 1 ≠ w.heap.size + 1 := (by omega); go_wp2_with fail; (refine bodyPost_ret (v := _) ?_ rfl ⟨rfl, ?_⟩; (· simp [results, Try.results7, go_sem, r0, r1]); (· exact (by repeat (first | with_reducible assumption | with_reducible exact below_self _ | with_reducible refine below_drewN ?_ _ | with_reducible apply Below.drew | with_reducible refine below_alloc ?_ _ | (with_reducible refine below_set ?_ _ _ ?_ _; rotate_left; (first | omega | (simp; done) | (simp; omega))))))))
                  · simp only [if_true] at hT
                    subst hT
                    (have br4 := br3.later hb4; have bw4 := bw3.later hb4; have hw4 := below_on hw3 hb4; have r0 := br4.cell 0; have r1 := br4.cell 1; have f0 := br4.free 0; have f1 := br4.free 1; have c0 := bw4.cell 0; have c1 := bw4.cell 1; have g0 := bw4.free 0; have g1 := bw4.free 1; have hne : wr.heap.size + 1 ≠ w.heap.size + 1 := (by omega); go_wp2_with fail; (refine bodyPost_ret (v := _) ?_ rfl ⟨rfl, ?_⟩; (· simp [results, Try.results7, go_sem, r0, r1]); (· exact (by repeat (first | with_reducible assumption | with_reducible exact below_self _ | with_reducible refine below_drewN ?_ _ | with_reducible apply Below.drew | with_reducible refine below_alloc ?_ _ | (with_reducible refine below_set ?_ _ _ ?_ _; rotate_left; (first | omega | (simp; done) | (simp; omega))))))))
              · simp only [if_true] at hT
                go_wp2_with fail
                refine (TD.out _).mono ?_; rintro r w4 ⟨rfl, hb4⟩
                unfold finI at hT
                simp only at hT
                cases tok
                · simp only [Bool.false_eq_true, if_false] at hT
                  subst hT
                  (have br4 := br3.later hb4; have bw4 := bw3.later hb4; have hw4 := below_on hw3 hb4; have r0 := br4.cell 0; have r1 := br4.cell 1; have f0 := br4.free 0; have f1 := br4.free 1; have c0 := bw4.cell 0; have c1 := bw4.cell 1; have g0 := bw4.free 0; have g1 := bw4.free 1; have hne : wr.heap.size + 1 ≠ w.heap.size + 1 := (by omega); go_wp2_with fail; (refine bodyPost_ret (v := _) ?_ rfl ⟨rfl, ?_⟩; (· simp [results, Try.results7, go_sem, r0, r1]); (· exact (by repeat (first | with_reducible assumption | with_reducible exact below_self _ | with_reducible refine below_drewN ?_ _ | with_reducible apply Below.drew | with_reducible refine below_alloc ?_ _ | (with_reducible refine below_set ?_ _ _ ?_ _; rotate_left; (first | omega | (simp; done) | (simp; omega))))))))
                · simp only [if_true] at hT
                  subst hT
                  (have br4 := br3.later hb4; have bw4 := bw3.later hb4; have hw4 := below_on hw3 hb4; have r0 := br4.cell 0; have r1 := br4.cell 1; have f0 := br4.free 0; have f1 := br4.free 1; have c0 := bw4.cell 0; have c1 := bw4.cell 1; have g0 := bw4.free 0; have g1 := bw4.free 1; have hne : wr.heap.size + 1 ≠ w.heap.size + 1 := (by omega); go_wp2_with fail; (refine bodyPost_ret (v := _) ?_ rfl ⟨rfl, ?_⟩; (· simp [results, Try.results7, go_sem, r0, r1]); (· exact (by repeat (first | with_reducible assumption | with_reducible exact below_self _ | with_reducible refine below_drewN ?_ _ | with_reducible apply Below.drew | with_reducible refine below_alloc ?_ _ | (with_reducible refine below_set ?_ _ _ ?_ _; rotate_left; (first | omega | (simp; done) | (simp; omega))))))))
end Go.Proofs.Ytbfnjjnnlbchgaa
