/- The document's quotient. -/
import Derived.Test.YtbonbcmdafpceaaRefG
import Derived.Test.YtbonbcmdafpceaaKn
namespace Go.Proofs.Ytbonbcmdafpceaa
open Go.RowKit Num
set_option maxRecDepth 100000

theorem dig_drop_cons {X : List Int} {i : Nat} (hi : i < X.length) : Dig.val (X.drop i) = X.getD i 0 + 65536 * Dig.val (X.drop (i + 1)) := by
  rw [List.drop_eq_getElem_cons hi, Dig.val_cons, List.getD_eq_getElem?_getD, List.getElem?_eq_getElem hi]; rfl
theorem rdiv_round {X : List Int} {i : Nat} {y : Int} (hi : i < X.length) (hy : 0 < y) :
    Dig.val (X.drop i) / y = (X.getD i 0 + 65536 * (Dig.val (X.drop (i + 1)) % y)) / y + 65536 * (Dig.val (X.drop (i + 1)) / y) ∧
    Dig.val (X.drop i) % y = (X.getD i 0 + 65536 * (Dig.val (X.drop (i + 1)) % y)) % y := by
  rw [dig_drop_cons hi]
  have h1 := div_two (Dig.val (X.drop (i + 1))) (X.getD i 0) 65536 hy
  have h2 := mod_two (Dig.val (X.drop (i + 1))) (X.getD i 0) 65536 y
  generalize Dig.val (X.drop (i + 1)) = v at *
  generalize X.getD i 0 = x at *
  have e1 : v * 65536 + x = x + 65536 * v := by omega
  have e2 : v % y * 65536 + x = x + 65536 * (v % y) := by omega
  rw [e1, e2] at h1 h2
  exact ⟨by rw [h1]; omega, h2⟩
theorem rdiv_digit {x L y : Int} (hx0 : 0 ≤ x) (hx : x < 65536) (hL0 : 0 ≤ L) (hL : L < y) : 0 ≤ (x + 65536 * L) / y ∧ (x + 65536 * L) / y < 65536 := by
  refine ⟨Int.ediv_nonneg (by omega) (by omega), Int.ediv_lt_of_lt_mul (by omega) (by omega)⟩
theorem rdiv_found {l v y : Int} (hy : 0 < y) (h0 : l * y ≤ v) (h1 : v < y * (l + 1)) : v / y = l ∧ v % y = v - y * l := by
  have e : v / y = l := by
    have a := Int.le_ediv_of_mul_le hy h0
    have b := Int.ediv_lt_of_lt_mul hy (by rw [Int.mul_comm]; exact h1 : v < (l + 1) * y)
    omega
  refine ⟨e, ?_⟩
  rw [Int.emod_def, e]
theorem dig_set_drop {Q : List Int} {i : Nat} (hi : i < Q.length) (d : Int) : Dig.val ((Q.set i d).drop i) = d + 65536 * Dig.val (Q.drop (i + 1)) := by
  rw [dig_drop_cons (by rw [List.length_set]; exact hi), getD_set_same _ _ _ hi]
  congr 3
  rw [List.drop_set_of_lt (by omega)]
theorem owns_one {w : World} {base g : Nat} (hg : g = w.heap.size) (hb : base ≤ w.heap.size) (x : Int) : (w.alloc (.cells #[.int .u64 x] 22)).ownsRow base 22 1 (.slice (some ⟨g, 0, none⟩) 1 1) 1 (cellsOf [x]) := by
  subst hg; exact World.ownsRow_lit w #[.int .u64 x] 1 hb (by decide) (by simp)
theorem dig_len_le {a b : Int} {k : Nat} (h0 : 0 ≤ a) (h : a ≤ b) (hb : (Dig.wd b).length ≤ k) : (Dig.wd a).length ≤ k :=
  Dig.wd_length_le h0 (Int.lt_of_le_of_lt h (Dig.lt_pow_of_wd_length (by omega) hb))
set_option maxHeartbeats 4000000 in
theorem rdivmod (A A' : Option Addr) (n c n' c' : Nat) (xs ys : List Int) (w : World) (h : Arr w A n c xs) (h' : Arr w A' n' c' ys) (hn : n ≤ 10000000) (hn' : n' ≤ 10000000) :
    Calls Try.prog 17 #[.slice A n c, .slice A' n' c'] w (RetDM (val xs) (val ys) w) := by
  have hvx := h.val_nonneg
  have hvy := h'.val_nonneg
  have DX := Lib.hid (digits A n c xs w h (by omega))
  have DY := Lib.hid (fun w' (hb : Below w.heap.size w w') => digits A' n' c' ys w' (h'.below hb) (by omega))
  have lX : (Dig.wd (val xs)).length ≤ 4 * n := by
    have := Dig.wd_len (allD_wf xs)
    rw [allD_val h.wf, allD_length, h.len] at this; exact this
  have lY : (Dig.wd (val ys)).length ≤ 4 * n' := by
    have := Dig.wd_len (allD_wf ys)
    rw [allD_val h'.wf, allD_length, h'.len] at this; exact this
  by_cases h0 : val ys = 0
  · have e0 : Dig.wd (val ys) = [] := by rw [h0]; exact Dig.wd_zero (Int.le_refl _)
    have e1 : wd (divI (val xs) (val ys)) = [] := by unfold divI; rw [if_pos h0]; exact wd_zero (Int.le_refl _)
    have e2 : wd (modI (val xs) (val ys)) = [] := by unfold modI; rw [if_pos h0]; exact wd_zero (Int.le_refl _)
    have e3 : decide (0 < val ys) = false := by simp; omega
    unfold RetDM
    rw [e1, e2, e3]
    rw [e0] at DY
    clear e0 e1 e2 e3 h0
    go_enter Try.func17, Try.ntmps17
    go_wp2_with fail
    refine DX.out.mono ?_; rintro r w1 ⟨A1, n1, c1, rfl, hO1, hb1⟩
    go_wp2_with fail
    refine (DY.out _ hb1).mono ?_; rintro r w2 ⟨A2, n2, c2, rfl, hO2, hb2⟩
    obtain rfl : n2 = 0 := hO2.len.symm
    have hw2 := below_on hb1 hb2
    go_wp2_with fail
    refine bodyPost_ret (v := .tuple #[.slice none 0 0, .slice none 0 0, .bool false]) (by simp [results, Try.results17, go_sem]) rfl ?_
    exact ⟨none, 0, 0, none, 0, 0, rfl, Arr.nothing _, Arr.nothing _, hw2⟩
  · have hp : 0 < val ys := by omega
    unfold RetDM divI modI
    rw [if_neg h0, if_neg h0, decide_eq_true hp]
    have wX := Dig.wf_wd _ hvx
    have vX := Dig.val_wd _ hvx
    generalize hXe : Dig.wd (val xs) = X at *
    generalize val xs = x at *
    clear hXe
    subst vX
    generalize val ys = y at *
    have hYp : 0 < (Dig.wd y).length := List.length_pos_iff.2 (Dig.wd_ne_nil hp)
    have lYL : ∀ L : Int, 0 ≤ L → L < y → (Dig.wd L).length ≤ 40000000 := fun L a b => dig_len_le a (Int.le_of_lt b) (by omega)
    have lM : ∀ M : Int, 0 ≤ M → M < 65536 * y → (Dig.wd M).length ≤ 40000001 := fun M a b => Dig.wd_length_le a (by
      have h1 := Dig.lt_pow_of_wd_length (n := y) (by omega) (k := 40000000) (by omega)
      rw [Int.pow_succ]
      generalize Dig.B ^ 40000000 = P at *
      show M < P * 65536
      omega)
    have HLY := Lib.hid lYL
    have HLM := Lib.hid lM
    clear lYL lM h h' h0
    go_enter Try.func17, Try.ntmps17
    go_wp2_with fail
    refine DX.out.mono ?_; rintro r w1 ⟨A1, n1, c1, rfl, hO1, hb1⟩
    have en1 := hO1.len
    go_wp2_with fail
    refine (DY.out _ hb1).mono ?_; rintro r w2 ⟨A2, n2, c2, rfl, hO2, hb2⟩
    have en2 := hO2.len
    have hw2 := below_on hb1 hb2
    have a1 := hO1.arr.below hb2
    have a2 := hO2.arr
    have z2 : ((n2 : Int) == 0) = false := beq_eq_false_iff_ne.2 (by omega)
    subst en1
    clear hO1 hO2 DX DY hb1 hb2
    go_wp2_with (at_make; refine wp_make rfl _ _ rfl _ _ X.length rfl rfl ?m1 ?m2 ?m3 ?_)
    case m1 => omega
    case m2 => omega
    case m3 => omega
    intro g w3 hg hrow hb3
    have ap1 := a1.apart (Nat.le_of_eq hg.symm)
    have ap2 := a2.apart (Nat.le_of_eq hg.symm)
    have hb3' : Below w2.heap.size w2 w3 := hb3.mono (Nat.le_of_eq hg.symm)
    have hw3 := below_on hw2 hb3'
    have hgw : w.heap.size ≤ g := by have := hw2.size; omega
    have a1 := a1.below hb3'
    have a2 := a2.below hb3'
    clear hg hb3 hb3' hw2
    go_wp2_with fail
    go_loopw [9, 11] (fun vl vi wr => ∃ (r : Nat) (A3 : Option Addr) (n3 c3 : Nat) (L : Int) (Q : List Int), r ≤ X.length ∧ vi = .int .i64 ((r : Int) - 1) ∧ vl = .slice A3 n3 c3 ∧ Arr wr A3 n3 c3 (Dig.wd L) ∧ Row wr g Q ∧ Q.length = X.length ∧ Dig.Wf Q ∧ 0 ≤ L ∧ L < y ∧ Arr wr A1 X.length c1 X ∧ Arr wr A2 n2 c2 (Dig.wd y) ∧ Below w.heap.size w wr ∧ Hid (Dig.val (Q.drop r) = Dig.val (X.drop r) / y) ∧ Hid (L = Dig.val (X.drop r) % y)) (fun _ vi _ => (intOf vi + 1).toNat)
    case atStart => exact ⟨X.length, none, 0, 0, 0, _, Nat.le_refl _, by go_num, rfl, by rw [Dig.wd_zero (Int.le_refl _)]; exact Arr.nothing _, hrow, by simp, Dig.wf_replicate _, by omega, hp, a1, a2, hw3, by show _ = _; rw [List.drop_eq_nil_of_le (by simp), List.drop_eq_nil_of_le (by simp)]; simp [Dig.val], by show _ = _; rw [List.drop_eq_nil_of_le (by simp)]; simp [Dig.val]⟩
    case round =>
      clear a1 a2 hw3 hrow
      obtain ⟨r, A3, n3, c3, L, Q, hr, rfl, rfl, a3, hR, hQl, hQw, hL0, hL1, a1, a2, hW, hv, hm⟩ := hrel
      have ln3 := HLY.out L hL0 hL1
      rw [a3.len] at ln3
      by_cases hr0 : 0 < r
      · obtain ⟨i, rfl⟩ : ∃ i, r = i + 1 := ⟨r - 1, by omega⟩
        have ei : (((i + 1 : Nat) : Int) - 1) = (i : Int) := by omega
        rw [ei]
        obtain ⟨b, o, rfl, hlt, hc⟩ := a1.mem (by omega)
        have k1 := hc i (by omega)
        have xg := wX.getD i
        have hrd := rdiv_round (X := X) (i := i) (y := y) (by omega) hp
        rw [← hm.out] at hrd
        have hdg := rdiv_digit xg.1 xg.2 hL0 hL1
        clear hc
        generalize X.getD i 0 = x at *
        have hM0 : 0 ≤ x + 65536 * L := by omega
        have lM := HLM.out (x + 65536 * L) hM0 (by omega)
        have hMy : x + 65536 * L < 65536 * y := by omega
        have hvl : Dig.val (x :: Dig.wd L) = x + 65536 * L := by
          show x + Dig.B * Dig.val (Dig.wd L) = _
          rw [Dig.val_wd _ hL0]; rfl
        have hwl : Dig.Wf (x :: Dig.wd L) := Dig.wf_cons.2 ⟨xg, Dig.wf_wd _ hL0⟩
        have HRD := Lib.hid hrd
        have HVL := Lib.hid hvl
        have HVQ := hv
        clear hrd hvl hv hm
        go_wp2_with (at_builtin; refine wp_append rfl _ _ rfl wr.heap.size _ 1 [x] rfl (owns_one ?o1 (Nat.le_refl _) x) A3 n3 c3 (Dig.wd L) rfl (a3.below (below_alloc (below_self _) _)) (1 + n3) rfl ?o2 ?o3 ?_)
        case o1 => first | rfl | simp
        case o2 => omega
        case o3 => simp
        intro v4 w4 ho4 hg4
        have hb4 : Below wr.heap.size wr w4 := (below_alloc (below_self wr) _).trans (grown_below hg4 (by simp) (by
          intro k hk
          simp [Value.ownBlock] at hk
          omega))
        obtain ⟨A5, c5, rfl, hO5⟩ := own_of_owns ho4 (dig_wf hwl)
        have C := Lib.hid (cut A5 _ c5 _ w4 hO5.arr hwl)
        have hT := hO5.take (Dig.wd (Dig.val (x :: Dig.wd L))).length (by have := Dig.wd_len hwl; rw [hO5.len] at this; exact this)
        rw [Dig.wd_take hwl, HVL.out] at hT
        rw [HVL.out] at C
        have hR4 := hR.below hb4 hR.lt
        have a1 := a1.below hb4
        have a2 := a2.below hb4
        have hw4 := below_on hW hb4
        have hgl := hR.lt
        have ap5 : blk A5 (Dig.wd (x + 65536 * L)).length = none ∨ blk A5 (Dig.wd (x + 65536 * L)).length ≠ some g := by
          by_cases hz : 0 < (Dig.wd (x + 65536 * L)).length
          · obtain ⟨g5, S5, rfl, hB5, _⟩ := hT.row hz
            rw [blk_pos hz]
            exact .inr (by simp; omega)
          · rw [show (Dig.wd (x + 65536 * L)).length = 0 by omega]; exact .inl rfl
        have a5 := hT.arr
        clear ho4 hg4 hO5 hT hb4 a3 hR hwl
        generalize x + 65536 * L = M at *
        go_wp2_with fail
        refine C.out.mono ?_; rintro r w' ⟨rfl, rfl⟩
        go_wp2_with fail
        refine (guess A5 A2 _ c5 n2 c2 M y w4 hM0 hp a5 a2 (by omega) (by omega)).mono ?_
        rintro r w' ⟨g0, rfl, hg0, hg1, hgm, rfl⟩
        have HG0 := Lib.hid hgm
        clear hgm C
        go_wp2_with fail
        go_loopw [12] (fun vl wr => ∃ l : Int, vl = .int .u64 l ∧ 0 ≤ l ∧ l ≤ 65535 ∧ Hid (l * y ≤ M) ∧ Below w4.heap.size w4 wr) (fun vl _ => (65536 - intOf vl).toNat)
        case atStart => exact ⟨g0, rfl, hg0, hg1, HG0.out, below_self _⟩
        case round =>
          obtain ⟨l, rfl, hl0, hl1, hlm, hb5⟩ := hrel
          have TM := Lib.hid (times A2 n2 c2 y (l + 1) wr (by omega) (by omega) (by omega) (a2.below hb5) (by omega))
          have hyl0 : 0 ≤ y * (l + 1) := Int.mul_nonneg (by omega) (by omega)
          go_wp2_with fail
          refine TM.out.mono ?_; rintro r w6 ⟨A6, n6, c6, rfl, hO6, hb6⟩
          have hb56 := below_on hb5 hb6
          have C := Lib.hid (compare A6 A5 n6 c6 _ c5 (y * (l + 1)) M w6 hyl0 hM0 hO6.arr (a5.below hb56))
          by_cases hle : y * (l + 1) ≤ M
          · have hcc : cmpI (y * (l + 1)) M = -1 ∨ cmpI (y * (l + 1)) M = 0 := by
              by_cases hlt : y * (l + 1) < M
              · exact .inl (cmpI_lt hlt)
              · exact .inr (cmpI_eq (by omega))
            have hl2 : l + 1 ≤ 65535 := by
              by_cases hh : l + 1 ≤ 65535
              · exact hh
              · obtain rfl : l = 65535 := by omega
                exfalso; omega
            have HL : Hid ((l + 1) * y ≤ M) := by show _ ≤ _; rw [Int.mul_comm]; exact hle
            generalize cmpI (y * (l + 1)) M = cq at *
            have dq : decide (cq ≤ 0) = true := by simp; omega
            clear hle TM
            go_wp2_with fail
            refine C.out.mono ?_; rintro r w7 ⟨rfl, s7⟩
            go_wp2_with fail
            exact ⟨⟨l + 1, by go_num, by omega, hl2, HL.out, hb56.trans (s7.below _)⟩, by simp only [intOf]; omega⟩
          · have hcc : cmpI (y * (l + 1)) M = 1 := cmpI_gt (by omega)
            have hf := rdiv_found hp hlm.out (by omega : M < y * (l + 1))
            rw [hcc] at C
            have HF := Lib.hid hf
            have hyl : 0 ≤ y * l := Int.mul_nonneg (by omega) hl0
            have hyM : y * l ≤ M := by rw [Int.mul_comm]; exact hlm.out
            clear hcc hle TM hf hlm
            go_wp2_with fail
            refine C.out.mono ?_; rintro r w7 ⟨rfl, s7⟩
            have hb57 := hb56.trans (s7.below _)
            have hR7 := hR4.below hb57 hR4.lt
            have a17 := a1.below hb57
            have a27 := a2.below hb57
            have a57 := a5.below hb57
            have hw7 := below_on hw4 hb57
            have r1 := hR7.cell i (by omega)
            have r2 := hR7.free i
            have hset := hR7.set i (by omega) l hl0 (by omega)
            have a18 := a17.other (grown_set w7 g i (.int .u64 l)) ap1
            have a28 := a27.other (grown_set w7 g i (.int .u64 l)) ap2
            have a58 := a57.other (grown_set w7 g i (.int .u64 l)) ap5
            have hw8 := below_set hw7 g i hgw (.int .u64 l)
            have hQw' := hQw.set i (x := l) hl0 (by omega)
            have hdr := dig_set_drop (Q := Q) (i := i) (by omega) l
            have TM := Lib.hid (times A2 n2 c2 y l _ (by omega) hl0 (by omega) a28 (by omega))
            clear hb5 hb6 hb56 hb57 hO6 C s7 hR7 a17 a27 a57 hw7
            go_wp2_with fail
            refine TM.out.mono ?_; rintro r w9 ⟨A9, n9, c9, rfl, hO9, hb9⟩
            have MN := Lib.hid (minus A5 A9 _ c5 n9 c9 M (y * l) w9 hM0 hyl hyM (a58.below hb9) hO9.arr (by omega))
            have hw9 := below_on hw8 hb9
            have hR9 := hset.below hb9 hset.lt
            have a19 := a18.below hb9
            have a29 := a28.below hb9
            clear TM hO9 hb9 hset a18 a28 a58 hw8
            go_wp2_with fail
            refine MN.out.mono ?_; rintro r w10 ⟨A10, n10, c10, rfl, hO10, hb10⟩
            have hml : 0 ≤ M - y * l ∧ M - y * l < y := by
              rw [← HF.out.2]; exact ⟨Int.emod_nonneg _ (by omega), Int.emod_lt_of_pos _ hp⟩
            have HV : Hid (Dig.val ((Q.set i l).drop i) = Dig.val (X.drop i) / y) := by
              show _ = _; rw [hdr, HVQ.out, HRD.out.1, HF.out.1]
            have HM : Hid (M - y * l = Dig.val (X.drop i) % y) := by
              show _ = _; rw [HRD.out.2, HF.out.2]
            clear hdr
            go_wp2_with fail
            exact ⟨⟨i, A10, n10, c10, M - y * l, _, by omega, by go_num, rfl, hO10.arr, hR9.below hb10 hR9.lt, by rw [List.length_set]; exact hQl, hQw', hml.1, hml.2, a19.below hb10, a29.below hb10, below_on hw9 hb10, HV.out, HM.out⟩, by simp only [intOf]; omega⟩
      · obtain rfl : r = 0 := by omega
        have hv := hv.out
        have hm := hm.out
        rw [List.drop_zero, List.drop_zero] at hv
        rw [List.drop_zero] at hm
        have hA := hR.arr' (n := X.length) (c := X.length) hQl (by omega) (by omega)
        have W1 := words _ _ _ Q wr hA hQw (by omega)
        rw [hv] at W1
        have W1 := Lib.hid W1
        have W2 := Lib.hid (fun w' (hb : Below wr.heap.size wr w') => words A3 n3 c3 (Dig.wd L) w' (a3.below hb) (Dig.wf_wd _ hL0) (by omega))
        rw [Dig.val_wd _ hL0] at W2
        have HM := Lib.hid hm
        clear hv hm
        go_wp2_with fail
        refine W1.out.mono ?_; rintro r w5 ⟨A5, n5, c5, rfl, hO5, hb5⟩
        go_wp2_with fail
        refine (W2.out _ hb5).mono ?_; rintro r w6 ⟨A6, n6, c6, rfl, hO6, hb6⟩
        go_wp2_with fail
        refine bodyPost_ret (v := .tuple #[.slice A5 n5 c5, .slice A6 n6 c6, .bool true]) (by simp [results, Try.results17, go_sem]) rfl ?_
        exact ⟨_, _, _, _, _, _, rfl, hO5.arr.below hb6, by rw [← HM.out]; exact hO6.arr, below_on (below_on hW hb5) hb6⟩
end Go.Proofs.Ytbonbcmdafpceaa
