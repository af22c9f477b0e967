/- special's points: where a function has no value. -/
import Derived.Test.YtbfnjjnnlbchgaaSpC
import Derived.Test.YtbfnjjnnlbchgaaSpE
namespace Go.Proofs.Ytbfnjjnnlbchgaa
open Go.RowKit Num
set_option linter.unusedSimpArgs false
set_option linter.unusedVariables false
set_option maxRecDepth 100000

theorem xor_sign {x u : Int} (hx : Wd x) (hu : Wd u) : bits .and .u64 (bits .xor .u64 x u) 9223372036854775808 = if (negB x != negB u) then 9223372036854775808 else 0 := by
  obtain ⟨m, rfl⟩ := Int.eq_ofNat_of_zero_le hx.1
  obtain ⟨n, rfl⟩ := Int.eq_ofNat_of_zero_le hu.1
  have h1 := hx.2
  have h2 := hu.2
  rw [bits_xor_u64_nat m n (by omega) (by omega)]
  have hlt : m ^^^ n < 2 ^ 64 := Nat.xor_lt_two_pow (by omega) (by omega)
  rw [and_top (by omega) (by omega)]
  have d := Nat.xor_div_two_pow (a := m) (b := n) (n := 63)
  have p : (2 : Nat) ^ 63 = 9223372036854775808 := by decide
  rw [p] at d
  have hm : m / 9223372036854775808 = 0 ∨ m / 9223372036854775808 = 1 := by omega
  have hn : n / 9223372036854775808 = 0 ∨ n / 9223372036854775808 = 1 := by omega
  unfold negB
  rcases hm with hm | hm <;> rcases hn with hn | hn <;> rw [hm, hn] at d
  · have e : (0 : Nat) ^^^ 0 = 0 := rfl
    rw [if_neg (by omega), decide_eq_false (by omega), decide_eq_false (by omega)]; rfl
  · have e : (0 : Nat) ^^^ 1 = 1 := rfl
    rw [if_pos (by omega), decide_eq_false (by omega), decide_eq_true (by omega)]; rfl
  · have e : (1 : Nat) ^^^ 0 = 1 := rfl
    rw [if_pos (by omega), decide_eq_true (by omega), decide_eq_false (by omega)]; rfl
  · have e : (1 : Nat) ^^^ 1 = 0 := rfl
    rw [if_neg (by omega), decide_eq_true (by omega), decide_eq_true (by omega)]; rfl
theorem Box.apart {w : World} {g g' : Nat} {cs : Array Value} {t : TypeId} (h : Box w g cs t) (hne : g ≠ g') (i : Nat) (v : Value) : Box (w.setCell ⟨g', i, none⟩ v) g cs t := ⟨by rw [heap_setCell_other w _ g v hne]; exact h.heap⟩
/-- The sign of a quotient. -/
def sgI (x u : Int) : Int := if (negB x != negB u) then 9223372036854775808 else 0
theorem sgI_sgn (x u : Int) : Sgn (sgI x u) := by unfold sgI Sgn; split <;> simp
def singI (tag x y sx sy u : Int) : Int × Int × Int × Bool :=
  if tag = 8 then (if sx ≠ 0 then (18442240474082181120, 4614256656552045848 + sy, 17, true) else (18442240474082181120, sy, 16, true))
  else if tag = 17 then (sx, 9218868437227405312 + sy, 16, true)
  else if tag = 20 then (9218868437227405312 + sx, sy, 16, true)
  else if isZero x && isZero y then (0, 0, 0, false)
  else ((if isZero x then 9221120237041090560 else 9218868437227405312 + sgI x u), (if isZero y then 9221120237041090560 else 9218868437227405312 + sgI y u), 16, true)
set_option maxHeartbeats 4000000 in
theorem ptsing (tag x y u v sx sy : Int) (w : World) (hx : Wd x) (hy : Wd y) (hu : Wd u) (hsx : Sgn sx) (hsy : Sgn sy) :
    Calls Try.prog 14 #[.agg #[.int .u64 x, .int .u64 y, .int .u64 sx, .int .u64 sy], .int .i64 tag, .agg #[.int .u64 x, .int .u64 y, .int .u64 u, .int .u64 v]] w (RetT (singI tag x y sx sy u) w) := by
  have b1 : Below w.heap.size w (((w.alloc (.cells #[.int .u64 x, .int .u64 y, .int .u64 sx, .int .u64 sy] 34)).alloc (.cells #[.int .u64 x, .int .u64 y, .int .u64 u, .int .u64 v] 24)).alloc (.cells #[.int .u64 0, .int .u64 0] 26)) := below_alloc (below_alloc (below_alloc (below_self w) _) _) _
  have bp := ((box_new w #[.int .u64 x, .int .u64 y, .int .u64 sx, .int .u64 sy] 34).later (below_alloc (below_self _) (.cells #[.int .u64 x, .int .u64 y, .int .u64 u, .int .u64 v] 24))).later (below_alloc (below_self _) (.cells #[.int .u64 0, .int .u64 0] 26))
  have bz := (box_new (w.alloc (.cells #[.int .u64 x, .int .u64 y, .int .u64 sx, .int .u64 sy] 34)) #[.int .u64 x, .int .u64 y, .int .u64 u, .int .u64 v] 24).later (below_alloc (below_self _) (.cells #[.int .u64 0, .int .u64 0] 26))
  rw [show (w.alloc (.cells #[.int .u64 x, .int .u64 y, .int .u64 sx, .int .u64 sy] 34)).heap.size = w.heap.size + 1 by simp] at bz
  have br := box_new ((w.alloc (.cells #[.int .u64 x, .int .u64 y, .int .u64 sx, .int .u64 sy] 34)).alloc (.cells #[.int .u64 x, .int .u64 y, .int .u64 u, .int .u64 v] 24)) #[.int .u64 0, .int .u64 0] 26
  rw [show ((w.alloc (.cells #[.int .u64 x, .int .u64 y, .int .u64 sx, .int .u64 sy] 34)).alloc (.cells #[.int .u64 x, .int .u64 y, .int .u64 u, .int .u64 v] 24)).heap.size = w.heap.size + 1 + 1 by simp] at br
  have o1 := or_sign (c := 4614256656552045848) (by omega) (by omega) hsy
  have o2 := or_sign (c := 9218868437227405312) (by omega) (by omega) hsy
  have o3 := or_sign (c := 9218868437227405312) (by omega) (by omega) hsx
  have o4 := or_sign (c := 9218868437227405312) (by omega) (by omega) (sgI_sgn x u)
  have o5 := or_sign (c := 9218868437227405312) (by omega) (by omega) (sgI_sgn y u)
  have n1 : bits .and .u64 (bits .xor .u64 x u) 9223372036854775808 = sgI x u := xor_sign hx hu
  have n2 : bits .and .u64 (bits .xor .u64 y u) 9223372036854775808 = sgI y u := xor_sign hy hu
  have ZX := fun w => szero x w hx.1 hx.2
  have ZY := fun w => szero y w hy.1 hy.2
  obtain ⟨p0, p1, p2, p3⟩ := bp.cell4
  have hsz : (((w.alloc (.cells #[.int .u64 x, .int .u64 y, .int .u64 sx, .int .u64 sy] 34)).alloc (.cells #[.int .u64 x, .int .u64 y, .int .u64 u, .int .u64 v] 24)).alloc (.cells #[.int .u64 0, .int .u64 0] 26)).heap.size = w.heap.size + 1 + 1 + 1 := by simp
  have HSZ := Lib.hid hsz
  clear hsz
  unfold singI RetT
  generalize isZero x = zx at *
  generalize isZero y = zy at *
  generalize sgI x u = gx at *
  generalize sgI y u = gy at *
  have O1 := Lib.hid o1
  have O2 := Lib.hid o2
  have O3 := Lib.hid o3
  have O4 := Lib.hid o4
  have O5 := Lib.hid o5
  have N1 := Lib.hid n1
  have N2 := Lib.hid n2
  have ZX := Lib.hid ZX
  have ZY := Lib.hid ZY
  clear o1 o2 o3 o4 o5 n1 n2 hsx hsy
  have q0 := br.cell 0
  have q1 := br.cell 1
  have f0 := br.free 0
  have f1 := br.free 1
  by_cases t8 : tag = 8
  · subst t8
    rw [if_pos rfl]
    by_cases hs : sx = 0
    · subst hs
      rw [if_neg (by simp)]
      go_enter Try.func14, Try.ntmps14
      go_wp2_with fail
      (refine bodyPost_ret (v := _) ?_ rfl ⟨rfl, ?_⟩; (· simp [results, Try.results14, go_sem, q0, q1]); (· exact (by repeat (first | with_reducible assumption | with_reducible exact below_self _ | with_reducible refine below_drewN ?_ _ | with_reducible apply Below.drew | with_reducible refine below_alloc ?_ _ | (with_reducible refine below_set ?_ _ _ ?_ _; rotate_left; (first | omega | (simp; done) | (simp; omega)))))))
    · have ds : (sx == 0) = false := beq_eq_false_iff_ne.2 hs
      have o1 := O1.out
      rw [if_pos hs]
      go_enter Try.func14, Try.ntmps14
      go_wp2_with fail
      (refine bodyPost_ret (v := _) ?_ rfl ⟨rfl, ?_⟩; (· simp [results, Try.results14, go_sem, q0, q1]); (· exact (by repeat (first | with_reducible assumption | with_reducible exact below_self _ | with_reducible refine below_drewN ?_ _ | with_reducible apply Below.drew | with_reducible refine below_alloc ?_ _ | (with_reducible refine below_set ?_ _ _ ?_ _; rotate_left; (first | omega | (simp; done) | (simp; omega)))))))
  · rw [if_neg t8]
    have d8 : (tag == 8) = false := beq_eq_false_iff_ne.2 t8
    by_cases t17 : tag = 17
    · subst t17
      rw [if_pos rfl]
      have o1 := O2.out
      go_enter Try.func14, Try.ntmps14
      go_wp2_with fail
      (refine bodyPost_ret (v := _) ?_ rfl ⟨rfl, ?_⟩; (· simp [results, Try.results14, go_sem, q0, q1]); (· exact (by repeat (first | with_reducible assumption | with_reducible exact below_self _ | with_reducible refine below_drewN ?_ _ | with_reducible apply Below.drew | with_reducible refine below_alloc ?_ _ | (with_reducible refine below_set ?_ _ _ ?_ _; rotate_left; (first | omega | (simp; done) | (simp; omega)))))))
    · rw [if_neg t17]
      have d17 : (tag == 17) = false := beq_eq_false_iff_ne.2 t17
      by_cases t20 : tag = 20
      · subst t20
        rw [if_pos rfl]
        have o1 := O3.out
        go_enter Try.func14, Try.ntmps14
        go_wp2_with fail
        (refine bodyPost_ret (v := _) ?_ rfl ⟨rfl, ?_⟩; (· simp [results, Try.results14, go_sem, q0, q1]); (· exact (by repeat (first | with_reducible assumption | with_reducible exact below_self _ | with_reducible refine below_drewN ?_ _ | with_reducible apply Below.drew | with_reducible refine below_alloc ?_ _ | (with_reducible refine below_set ?_ _ _ ?_ _; rotate_left; (first | omega | (simp; done) | (simp; omega)))))))
      · rw [if_neg t20]
        have d20 : (tag == 20) = false := beq_eq_false_iff_ne.2 t20
        cases hzz : zx && zy
        · rw [if_neg (by simp)]
          have bp3 := And.intro p0 (And.intro p1 (And.intro p2 p3))
          have bg := box_new (((w.alloc (.cells #[.int .u64 x, .int .u64 y, .int .u64 sx, .int .u64 sy] 34)).alloc (.cells #[.int .u64 x, .int .u64 y, .int .u64 u, .int .u64 v] 24)).alloc (.cells #[.int .u64 0, .int .u64 0] 26)) #[.int .u64 9221120237041090560, .int .u64 9221120237041090560] 26
          have b2 := below_alloc (below_self (((w.alloc (.cells #[.int .u64 x, .int .u64 y, .int .u64 sx, .int .u64 sy] 34)).alloc (.cells #[.int .u64 x, .int .u64 y, .int .u64 u, .int .u64 v] 24)).alloc (.cells #[.int .u64 0, .int .u64 0] 26))) (.cells #[.int .u64 9221120237041090560, .int .u64 9221120237041090560] 26)
          have bw2 := below_on b1 b2
          have bz2 := bz.later b2
          have br2 := br.later b2
          obtain ⟨W0, hW0⟩ : ∃ W0, W0 = (if zx = true then 9221120237041090560 else 9218868437227405312 + gx) := ⟨_, rfl⟩
          obtain ⟨W1, hW1⟩ : ∃ W1, W1 = (if zy = true then 9221120237041090560 else 9218868437227405312 + gy) := ⟨_, rfl⟩
          rw [← hW0, ← hW1]
          rw [HSZ.out] at bg
          clear br bz bp p0 p1 p2 p3 q0 q1 f0 f1 b1 b2
          have bp2 := Lib.hid (bp3)
          clear bp3
          cases zx <;> cases zy
          all_goals
            first
              | (exfalso; simp at hzz; done)
              | skip
          all_goals
            simp only [Bool.false_eq_true, if_false, if_true] at hW0 hW1
            subst hW0 hW1
            clear hzz
            obtain ⟨p0, p1, p2, p3⟩ := bp2.out
            go_enter Try.func14, Try.ntmps14
            go_wp2_with (first | (go_at_call_of 29 (Value.int .u64 x); refine (ZX.out _).mono ?_; rintro r w' ⟨rfl, rfl⟩) | (go_at_call_of 29 (Value.int .u64 y); refine (ZY.out _).mono ?_; rintro r w' ⟨rfl, rfl⟩))
            clear p0 p1 p2 p3 bp2
          · (go_loopw [61] (fun vi wr => (∃ i : Nat, i ≤ 2 ∧ vi = .int .i64 i ∧ (i = 0 ∧ (Box wr (w.heap.size + 1 + 1 + 1) #[.int .u64 (9221120237041090560), .int .u64 (9221120237041090560)] 26) ∨ i = 1 ∧ (Box wr (w.heap.size + 1 + 1 + 1) #[.int .u64 (9218868437227405312 + gx), .int .u64 (9221120237041090560)] 26) ∨ i = 2 ∧ (Box wr (w.heap.size + 1 + 1 + 1) #[.int .u64 (9218868437227405312 + gx), .int .u64 (9218868437227405312 + gy)] 26))) ∧ Box wr (w.heap.size + 1) #[.int .u64 x, .int .u64 y, .int .u64 u, .int .u64 v] 24 ∧ Box wr (w.heap.size + 1 + 1) #[.int .u64 0, .int .u64 0] 26 ∧ Below w.heap.size w wr) (fun vi _ => 2 - (intOf vi).toNat); (case atStart => exact ⟨⟨0, Nat.zero_le _, rfl, .inl ⟨rfl, bg⟩⟩, bz2, br2, bw2⟩); (case round => (obtain ⟨⟨i, hi, rfl, hbs⟩, bz, br, hW⟩ := hrel; clear bg bz2 br2 bw2; have n1 := N1.out; have n2 := N2.out; have o4 := O4.out; have o5 := O5.out; rcases hbs with ⟨rfl, hbs⟩ | ⟨rfl, hbs⟩ | ⟨rfl, hbs⟩; (· (obtain ⟨k0, k1, k2, k3⟩ := bz.cell4; have g0 := hbs.free 0; have g1 := hbs.free 1; have c0 := hbs.cell 0; have c1 := hbs.cell 1; go_wp2_with fail; (first | (refine (ZX.out _).mono ?_; rintro r w' ⟨rfl, rfl⟩) | (refine (ZY.out _).mono ?_; rintro r w' ⟨rfl, rfl⟩)); go_wp2_with fail; (first | exact ⟨⟨1, by omega, by go_num, .inr <| .inl ⟨rfl, hbs⟩⟩, bz, br, hW⟩ | exact ⟨⟨⟨1, by omega, by go_num, .inr <| .inl ⟨rfl, hbs.set (1 - 1) _⟩⟩, bz.apart (by omega) _ _, br.apart (by omega) _ _, below_set hW _ _ (by omega) _⟩, by simp only [intOf]; omega⟩ | exact ⟨⟨⟨1, by omega, by go_num, .inr <| .inl ⟨rfl, hbs⟩⟩, bz, br, hW⟩, by simp only [intOf]; omega⟩))); (· (obtain ⟨k0, k1, k2, k3⟩ := bz.cell4; have g0 := hbs.free 0; have g1 := hbs.free 1; have c0 := hbs.cell 0; have c1 := hbs.cell 1; go_wp2_with fail; (first | (refine (ZX.out _).mono ?_; rintro r w' ⟨rfl, rfl⟩) | (refine (ZY.out _).mono ?_; rintro r w' ⟨rfl, rfl⟩)); go_wp2_with fail; (first | exact ⟨⟨2, by omega, by go_num, .inr <| .inr ⟨rfl, hbs⟩⟩, bz, br, hW⟩ | exact ⟨⟨⟨2, by omega, by go_num, .inr <| .inr ⟨rfl, hbs.set (2 - 1) _⟩⟩, bz.apart (by omega) _ _, br.apart (by omega) _ _, below_set hW _ _ (by omega) _⟩, by simp only [intOf]; omega⟩ | exact ⟨⟨⟨2, by omega, by go_num, .inr <| .inr ⟨rfl, hbs⟩⟩, bz, br, hW⟩, by simp only [intOf]; omega⟩))); (· obtain ⟨k0, k1⟩ := And.intro (hbs.cell 0) (hbs.cell 1); have q0 := br.cell 0; have q1 := br.cell 1; have f0 := br.free 0; have f1 := br.free 1; go_wp2_with fail; (refine bodyPost_ret (v := _) ?_ rfl ⟨rfl, ?_⟩; (· simp [results, Try.results14, go_sem, q0, q1]); (· exact (by repeat (first | with_reducible assumption | with_reducible exact below_self _ | with_reducible refine below_drewN ?_ _ | with_reducible apply Below.drew | with_reducible refine below_alloc ?_ _ | (with_reducible refine below_set ?_ _ _ ?_ _; rotate_left; (first | omega | (simp; done) | (simp; omega)))))))))))
          · (go_loopw [61] (fun vi wr => (∃ i : Nat, i ≤ 2 ∧ vi = .int .i64 i ∧ (i = 0 ∧ (Box wr (w.heap.size + 1 + 1 + 1) #[.int .u64 (9221120237041090560), .int .u64 (9221120237041090560)] 26) ∨ i = 1 ∧ (Box wr (w.heap.size + 1 + 1 + 1) #[.int .u64 (9218868437227405312 + gx), .int .u64 (9221120237041090560)] 26) ∨ i = 2 ∧ (Box wr (w.heap.size + 1 + 1 + 1) #[.int .u64 (9218868437227405312 + gx), .int .u64 (9221120237041090560)] 26))) ∧ Box wr (w.heap.size + 1) #[.int .u64 x, .int .u64 y, .int .u64 u, .int .u64 v] 24 ∧ Box wr (w.heap.size + 1 + 1) #[.int .u64 0, .int .u64 0] 26 ∧ Below w.heap.size w wr) (fun vi _ => 2 - (intOf vi).toNat); (case atStart => exact ⟨⟨0, Nat.zero_le _, rfl, .inl ⟨rfl, bg⟩⟩, bz2, br2, bw2⟩); (case round => (obtain ⟨⟨i, hi, rfl, hbs⟩, bz, br, hW⟩ := hrel; clear bg bz2 br2 bw2; have n1 := N1.out; have n2 := N2.out; have o4 := O4.out; have o5 := O5.out; rcases hbs with ⟨rfl, hbs⟩ | ⟨rfl, hbs⟩ | ⟨rfl, hbs⟩; (· (obtain ⟨k0, k1, k2, k3⟩ := bz.cell4; have g0 := hbs.free 0; have g1 := hbs.free 1; have c0 := hbs.cell 0; have c1 := hbs.cell 1; go_wp2_with fail; (first | (refine (ZX.out _).mono ?_; rintro r w' ⟨rfl, rfl⟩) | (refine (ZY.out _).mono ?_; rintro r w' ⟨rfl, rfl⟩)); go_wp2_with fail; (first | exact ⟨⟨1, by omega, by go_num, .inr <| .inl ⟨rfl, hbs⟩⟩, bz, br, hW⟩ | exact ⟨⟨⟨1, by omega, by go_num, .inr <| .inl ⟨rfl, hbs.set (1 - 1) _⟩⟩, bz.apart (by omega) _ _, br.apart (by omega) _ _, below_set hW _ _ (by omega) _⟩, by simp only [intOf]; omega⟩ | exact ⟨⟨⟨1, by omega, by go_num, .inr <| .inl ⟨rfl, hbs⟩⟩, bz, br, hW⟩, by simp only [intOf]; omega⟩))); (· (obtain ⟨k0, k1, k2, k3⟩ := bz.cell4; have g0 := hbs.free 0; have g1 := hbs.free 1; have c0 := hbs.cell 0; have c1 := hbs.cell 1; go_wp2_with fail; (first | (refine (ZX.out _).mono ?_; rintro r w' ⟨rfl, rfl⟩) | (refine (ZY.out _).mono ?_; rintro r w' ⟨rfl, rfl⟩)); go_wp2_with fail; (first | exact ⟨⟨2, by omega, by go_num, .inr <| .inr ⟨rfl, hbs⟩⟩, bz, br, hW⟩ | exact ⟨⟨⟨2, by omega, by go_num, .inr <| .inr ⟨rfl, hbs.set (2 - 1) _⟩⟩, bz.apart (by omega) _ _, br.apart (by omega) _ _, below_set hW _ _ (by omega) _⟩, by simp only [intOf]; omega⟩ | exact ⟨⟨⟨2, by omega, by go_num, .inr <| .inr ⟨rfl, hbs⟩⟩, bz, br, hW⟩, by simp only [intOf]; omega⟩))); (· obtain ⟨k0, k1⟩ := And.intro (hbs.cell 0) (hbs.cell 1); have q0 := br.cell 0; have q1 := br.cell 1; have f0 := br.free 0; have f1 := br.free 1; go_wp2_with fail; (refine bodyPost_ret (v := _) ?_ rfl ⟨rfl, ?_⟩; (· simp [results, Try.results14, go_sem, q0, q1]); (· exact (by repeat (first | with_reducible assumption | with_reducible exact below_self _ | with_reducible refine below_drewN ?_ _ | with_reducible apply Below.drew | with_reducible refine below_alloc ?_ _ | (with_reducible refine below_set ?_ _ _ ?_ _; rotate_left; (first | omega | (simp; done) | (simp; omega)))))))))))
          · (go_loopw [61] (fun vi wr => (∃ i : Nat, i ≤ 2 ∧ vi = .int .i64 i ∧ (i = 0 ∧ (Box wr (w.heap.size + 1 + 1 + 1) #[.int .u64 (9221120237041090560), .int .u64 (9221120237041090560)] 26) ∨ i = 1 ∧ (Box wr (w.heap.size + 1 + 1 + 1) #[.int .u64 (9221120237041090560), .int .u64 (9221120237041090560)] 26) ∨ i = 2 ∧ (Box wr (w.heap.size + 1 + 1 + 1) #[.int .u64 (9221120237041090560), .int .u64 (9218868437227405312 + gy)] 26))) ∧ Box wr (w.heap.size + 1) #[.int .u64 x, .int .u64 y, .int .u64 u, .int .u64 v] 24 ∧ Box wr (w.heap.size + 1 + 1) #[.int .u64 0, .int .u64 0] 26 ∧ Below w.heap.size w wr) (fun vi _ => 2 - (intOf vi).toNat); (case atStart => exact ⟨⟨0, Nat.zero_le _, rfl, .inl ⟨rfl, bg⟩⟩, bz2, br2, bw2⟩); (case round => (obtain ⟨⟨i, hi, rfl, hbs⟩, bz, br, hW⟩ := hrel; clear bg bz2 br2 bw2; have n1 := N1.out; have n2 := N2.out; have o4 := O4.out; have o5 := O5.out; rcases hbs with ⟨rfl, hbs⟩ | ⟨rfl, hbs⟩ | ⟨rfl, hbs⟩; (· (obtain ⟨k0, k1, k2, k3⟩ := bz.cell4; have g0 := hbs.free 0; have g1 := hbs.free 1; have c0 := hbs.cell 0; have c1 := hbs.cell 1; go_wp2_with fail; (first | (refine (ZX.out _).mono ?_; rintro r w' ⟨rfl, rfl⟩) | (refine (ZY.out _).mono ?_; rintro r w' ⟨rfl, rfl⟩)); go_wp2_with fail; (first | exact ⟨⟨1, by omega, by go_num, .inr <| .inl ⟨rfl, hbs⟩⟩, bz, br, hW⟩ | exact ⟨⟨⟨1, by omega, by go_num, .inr <| .inl ⟨rfl, hbs.set (1 - 1) _⟩⟩, bz.apart (by omega) _ _, br.apart (by omega) _ _, below_set hW _ _ (by omega) _⟩, by simp only [intOf]; omega⟩ | exact ⟨⟨⟨1, by omega, by go_num, .inr <| .inl ⟨rfl, hbs⟩⟩, bz, br, hW⟩, by simp only [intOf]; omega⟩))); (· (obtain ⟨k0, k1, k2, k3⟩ := bz.cell4; have g0 := hbs.free 0; have g1 := hbs.free 1; have c0 := hbs.cell 0; have c1 := hbs.cell 1; go_wp2_with fail; (first | (refine (ZX.out _).mono ?_; rintro r w' ⟨rfl, rfl⟩) | (refine (ZY.out _).mono ?_; rintro r w' ⟨rfl, rfl⟩)); go_wp2_with fail; (first | exact ⟨⟨2, by omega, by go_num, .inr <| .inr ⟨rfl, hbs⟩⟩, bz, br, hW⟩ | exact ⟨⟨⟨2, by omega, by go_num, .inr <| .inr ⟨rfl, hbs.set (2 - 1) _⟩⟩, bz.apart (by omega) _ _, br.apart (by omega) _ _, below_set hW _ _ (by omega) _⟩, by simp only [intOf]; omega⟩ | exact ⟨⟨⟨2, by omega, by go_num, .inr <| .inr ⟨rfl, hbs⟩⟩, bz, br, hW⟩, by simp only [intOf]; omega⟩))); (· obtain ⟨k0, k1⟩ := And.intro (hbs.cell 0) (hbs.cell 1); have q0 := br.cell 0; have q1 := br.cell 1; have f0 := br.free 0; have f1 := br.free 1; go_wp2_with fail; (refine bodyPost_ret (v := _) ?_ rfl ⟨rfl, ?_⟩; (· simp [results, Try.results14, go_sem, q0, q1]); (· exact (by repeat (first | with_reducible assumption | with_reducible exact below_self _ | with_reducible refine below_drewN ?_ _ | with_reducible apply Below.drew | with_reducible refine below_alloc ?_ _ | (with_reducible refine below_set ?_ _ _ ?_ _; rotate_left; (first | omega | (simp; done) | (simp; omega)))))))))))
        · rw [if_pos rfl]
          obtain ⟨rfl, rfl⟩ : zx = true ∧ zy = true := by simpa using hzz
          go_enter Try.func14, Try.ntmps14
          go_wp2_with (first | (go_at_call_of 29 (Value.int .u64 x); refine (ZX.out _).mono ?_; rintro r w' ⟨rfl, rfl⟩) | (go_at_call_of 29 (Value.int .u64 y); refine (ZY.out _).mono ?_; rintro r w' ⟨rfl, rfl⟩))
          (refine bodyPost_ret (v := _) ?_ rfl ⟨rfl, ?_⟩; (· simp [results, Try.results14, go_sem, q0, q1]); (· exact (by repeat (first | with_reducible assumption | with_reducible exact below_self _ | with_reducible refine below_drewN ?_ _ | with_reducible apply Below.drew | with_reducible refine below_alloc ?_ _ | (with_reducible refine below_set ?_ _ _ ?_ _; rotate_left; (first | omega | (simp; done) | (simp; omega)))))))
end Go.Proofs.Ytbfnjjnnlbchgaa
