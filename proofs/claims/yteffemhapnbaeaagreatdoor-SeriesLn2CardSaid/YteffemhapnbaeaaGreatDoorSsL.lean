/- Walks and laws that the claim's row needs. No conditions. -/
import Derived.Deep.RegionHeld3
import Derived.Test.YteffemhapnbaeaaGreatDoorQax
import Derived.Test.YteffemhapnbaeaaGreatDoorQaz
import Derived.Test.YteffemhapnbaeaaGreatDoorQas
set_option maxHeartbeats 16000000
set_option linter.unusedSimpArgs false
set_option linter.unusedVariables false
namespace Go.Proofs.YteffemhapnbaeaaGreatDoor
open Go.RowKit Num
set_option maxRecDepth 100000
theorem Jp (g : Nat) (P n sg : Int) (turn : Bool) (c : Dy × Dy) (w : World) (hk : Wk w g P false 38) (n0 : 1 ≤ n) (n1 : n ≤ 1000000) (hd : decide (sg < 0) = turn) (h : Mu P n turn = some c) :
  Calls Tryz.prog 58 #[.pointer (some ⟨g, 0, none⟩), .int .i64 n, .int .i64 sg] w (Gf c w) := by
 obtain ⟨u0, hu, h⟩ := bind_some h
 obtain ⟨v0, hv, h⟩ := bind_some h
 obtain ⟨t, ht, h⟩ := bind_some h
 obtain ⟨sq, hsq, h⟩ := bind_some h
 have kk : 0 ≤ n * n ∧ n * n ≤ 1000000000000 := ⟨Int.mul_nonneg (by omega) (by omega), Int.le_trans (Int.mul_le_mul n1 n1 (by omega) (by omega)) (by decide)⟩
 have wkk : IntKind.i64.wrap (n * n) = n * n := by rw [IntKind.wrap_i64]; omega
 have bw : Below w.heap.size w (w.alloc (.cells #[.bool false, .slice none 0 0, .int .i64 0, .bool false, .slice none 0 0, .int .i64 0] 28)) := Ba (Bb w) _
 have xr := Bg w #[.bool false, .slice none 0 0, .int .i64 0, .bool false, .slice none 0 0, .int .i64 0] 28
 go_enter Tryz.func58, Tryz.ntmps58
 go_wp2_with fail
 refine (Ql g P u0 1 _ (by omega) (by omega) (hk.later bw) hu).mono ?_
 rintro r1 w1 ⟨A1, j1, i1, A2, j2, i2, rfl, a1, a2, h1⟩
 have bw := Bc bw h1
 have xr := xr.later h1
 go_wp2_with fail
 refine (Ql g P v0 n _ (by omega) (by omega) (hk.later bw) hv).mono ?_
 rintro r2 w2 ⟨A3, j3, i3, A4, j4, i4, rfl, a3, a4, h2⟩
 have bw := Bc bw h2
 have xr := xr.later h2
 have a1 := a1.below h2
 have a2 := a2.below h2
 go_wp2_with fail
 refine (Bch g P t u0 v0 A1 A2 j1 i1 j2 i2 A3 A4 j3 i3 j4 i4 _ a1 a2 a3 a4 (hk.later bw) ht).mono ?_
 rintro r3 w3 ⟨A5, j5, i5, A6, j6, i6, rfl, t1, t2, h3⟩
 have bw := Bc bw h3
 have xr := xr.later h3
 have ba : Below w3.heap.size w3 (w3.alloc (.cells #[.bool false, .slice none 0 0, .int .i64 0, .bool false, .slice none 0 0, .int .i64 0] 28)) := Ba (Bb _) _
 have xt := Bg w3 #[.bool false, .slice none 0 0, .int .i64 0, .bool false, .slice none 0 0, .int .i64 0] 28
 have lr := xr.lt
 have xr := xr.later ba
 have t1 := t1.below ba
 have t2 := t2.below ba
 have bw := Bc bw ba
 clear a1 a2 a3 a4 ba h1 h2 h3
 go_wp2_with (first
  | (refine Bt rfl _ _ rfl rfl w3.heap.size _ A5 j5 i5 _ _ A6 j6 i6 _ xt rfl rfl (fun W1 xt1 gW1 => ?_); have t1 := t1.grown xt Bh gW1; have t2 := t2.grown xt Bh gW1; have xr := xr.grown gW1 (by omega); have bw := Bl bw gW1 (by omega); have lt := xt1.lt; clear xt gW1; have hkt : w.heap.size < w3.heap.size := lr; generalize w3.heap.size = kt at *; obtain ⟨e0, e1, e2, e3, e4, e5, -⟩ := xt1.cell6; have ba : Below W1.heap.size W1 (W1.alloc (.cells #[.bool false, .slice none 0 0, .int .i64 0, .bool false, .slice none 0 0, .int .i64 0] 28)) := Ba (Bb _) _; have xs := Bg W1 #[.bool false, .slice none 0 0, .int .i64 0, .bool false, .slice none 0 0, .int .i64 0] 28; have xr := xr.later ba; have xt := xt1.later ba; have t1 := t1.below ba; have t2 := t2.below ba; have bw := Bc bw ba; clear xt1 ba)
  | (refine Bt rfl _ _ rfl rfl W1.heap.size _ A5 j5 i5 _ _ A6 j6 i6 _ xs rfl rfl (fun W2 xs2 gW2 => ?_); have t1 := t1.grown xs Bh gW2; have t2 := t2.grown xs Bh gW2; have xr := xr.grown gW2 (by omega); have xt := xt.grown gW2 (by omega); have bw := Bl bw gW2 (by omega); have ls := xs2.lt; clear xs gW2 e0 e1 e2 e3 e4 e5; have hks : kt < W1.heap.size := lt; generalize W1.heap.size = ks at *))
 go_wp2_with fail
 refine (Ql g P sq (n * n) _ (by omega) (by omega) (hk.later bw) hsq).mono ?_
 rintro r4 w4 ⟨B, m, j, B', m', j', rfl, q1, q2, h4⟩
 have xt := xt.later h4
 have xs := xs2.later h4
 have xr := xr.later h4
 have t1 := t1.below h4
 have t2 := t2.below h4
 have bw := Bc bw h4
 have ba : Below w4.heap.size w4 (w4.alloc (.cells #[.bool false, .slice none 0 0, .int .i64 0, .bool false, .slice none 0 0, .int .i64 0] 28)) := Ba (Bb _) _
 have xq := Bg w4 #[.bool false, .slice none 0 0, .int .i64 0, .bool false, .slice none 0 0, .int .i64 0] 28
 have hkq : ks < w4.heap.size := Nat.lt_of_lt_of_le ls h4.size
 have xt := xt.later ba
 have xs := xs.later ba
 have xr := xr.later ba
 have t1 := t1.below ba
 have t2 := t2.below ba
 have q1 := q1.below ba
 have q2 := q2.below ba
 have bw := Bc bw ba
 clear ba h4 xs2 ls lt lr
 go_wp2_with (refine Bt rfl _ _ rfl rfl w4.heap.size _ B m j _ _ B' m' j' _ xq rfl rfl (fun W4 xq4 gW4 => ?_); have t1 := t1.grown xq Bh gW4; have t2 := t2.grown xq Bh gW4; have q1 := q1.grown xq Bh gW4; have q2 := q2.grown xq Bh gW4; have xr := xr.grown gW4 (by omega); have xt := xt.grown gW4 (by omega); have xs := xs.grown gW4 (by omega); have bw := Bl bw gW4 (by omega); clear xq gW4; generalize w4.heap.size = kq at *)
 go_loopw [10] (fun vk wr => ∃ (f1 : Nat) (k : Int) (s u : Dy × Dy) (C C' D D' : Option Addr) (l e l' e' o r o' r' : Nat), vk = .int .i64 k ∧ 1 ≤ k ∧ k + f1 = 2001 ∧ Hid (Tp P (Lw P turn sq) f1 k s u = some c) ∧
  Box wr kt #[.bool (u).1.neg, .slice D o r, .int .i64 (u).1.e, .bool (u).2.neg, .slice D' o' r', .int .i64 (u).2.e] 28 ∧ Box wr ks #[.bool (s).1.neg, .slice C l e, .int .i64 (s).1.e, .bool (s).2.neg, .slice C' l' e', .int .i64 (s).2.e] 28 ∧ Box wr kq #[.bool (sq).1.neg, .slice B m j, .int .i64 (sq).1.e, .bool (sq).2.neg, .slice B' m' j', .int .i64 (sq).2.e] 28 ∧ Box wr w.heap.size #[.bool false, .slice none 0 0, .int .i64 0, .bool false, .slice none 0 0, .int .i64 0] 28 ∧
  Arr wr D o r (wd u.1.m) ∧ Arr wr D' o' r' (wd u.2.m) ∧ Arr wr C l e (wd s.1.m) ∧ Arr wr C' l' e' (wd s.2.m) ∧ Arr wr B m j (wd sq.1.m) ∧ Arr wr B' m' j' (wd sq.2.m) ∧ Below w.heap.size w wr) (fun vk _ => 2001 - (intOf vk).toNat)
 case atStart => exact ⟨2000, 1, t, t, _, _, _, _, _, _, _, _, _, _, _, _, rfl, by omega, by omega, Be h, xt, xs, xq4, xr, t1, t2, t1, t2, q1, q2, bw⟩
 case round =>
  clear xt xs xq4 xr t1 t2 q1 q2 bw h ht
  obtain ⟨f1, k, s, u, C, C', D, D', l, e, l', e', o, r, o', r', rfl, hk1, hkf, hs, xt, xs, xq, xr, t1, t2, s1, s2, q1, q2, bw⟩ := hrel
  cases f1 with
  | zero => exact absurd hs.out (by simp [Tp])
  | succ f2 =>
   have hs := hs.out
   unfold Tp at hs
   obtain ⟨hc, hs⟩ := Cw hs
   simp only [Bool.and_eq_true] at hc
   obtain ⟨hp, rs, ru⟩ := hc
   have SZ : ∀ w', Below wr.heap.size wr w' → Calls Tryz.prog 93 #[(.agg #[.bool (u).1.neg, .slice D o r, .int .i64 (u).1.e, .bool (u).2.neg, .slice D' o' r', .int .i64 (u).2.e])] w' fun r w'' => r = .returned (.int .i64 (Gw u)) ∧ Below wr.heap.size wr w'' := fun w' hb => (Bei u D D' o r o' r' w' (t1.below hb) (t2.below hb) (Bn ru).2.1 (Bn ru).2.2).mono fun r w'' ⟨h1, h2⟩ => ⟨h1, Bc hb h2⟩
   have SZ := Be SZ
   have KS : ∀ w', Below wr.heap.size wr w' → ((w'.cell? ⟨kt, 0, none⟩ = some (.bool (u).1.neg) ∧ w'.cell? ⟨kt, 1, none⟩ = some (.slice D o r) ∧ w'.cell? ⟨kt, 2, none⟩ = some (.int .i64 (u).1.e) ∧ w'.cell? ⟨kt, 3, none⟩ = some (.bool (u).2.neg) ∧ w'.cell? ⟨kt, 4, none⟩ = some (.slice D' o' r') ∧ w'.cell? ⟨kt, 5, none⟩ = some (.int .i64 (u).2.e)) ∧ w'.cell? ⟨g, 0, none⟩ = some (.int .i64 P) ∧ w'.cell? ⟨g, 1, none⟩ = some (.bool false)) := fun w' hb => ⟨xt.six hb, ((hk.later bw).later hb).cells.1, ((hk.later bw).later hb).cells.2.1⟩
   have KS := Be KS
   obtain ⟨p0, p1⟩ := Gd hp
   have ez1 : IntKind.i64.wrap (-P) = -P := by rw [IntKind.wrap_i64]; omega
   have ez2 : IntKind.i64.wrap (-P - 4) = -P - 4 := by rw [IntKind.wrap_i64]; omega
   have kq2 : IntKind.i64.wrap (2 * k) = 2 * k := by rw [IntKind.wrap_i64]; omega
   have kq3 : IntKind.i64.wrap (2 * k + 1) = 2 * k + 1 := by rw [IntKind.wrap_i64]; omega
   have wk1 : IntKind.i64.wrap (k + 1) = k + 1 := by rw [IntKind.wrap_i64]; omega
   by_cases hz : -P - 4 < Gw u
   ·rw [if_pos hz] at hs
    obtain ⟨⟨u', v'⟩, hn, hs⟩ := bind_some hs
    obtain ⟨s', ha, hsF⟩ := bind_some hs
    simp only at ha hsF
    obtain ⟨u9, hu9, hn⟩ := bind_some hn
    obtain ⟨mm, hmm, hn⟩ := bind_some hn
    obtain ⟨pp, hpp, hn⟩ := bind_some hn
    obtain ⟨r9, hr9, hn⟩ := bind_some hn
    obtain ⟨rfl, rfl⟩ : u9 = u' ∧ r9 = v' := by
     injection hn with hn
     injection hn with h1 h2
     exact ⟨h1, h2⟩
    generalize Gw u = zu at *
    have dz : decide (-P - 4 < zu) = true := decide_eq_true hz
    clear hz
    go_wp2_with fail
    go_region_held3 (fun w' => ((w'.cell? ⟨kt, 0, none⟩ = some (.bool (u).1.neg) ∧ w'.cell? ⟨kt, 1, none⟩ = some (.slice D o r) ∧ w'.cell? ⟨kt, 2, none⟩ = some (.int .i64 (u).1.e) ∧ w'.cell? ⟨kt, 3, none⟩ = some (.bool (u).2.neg) ∧ w'.cell? ⟨kt, 4, none⟩ = some (.slice D' o' r') ∧ w'.cell? ⟨kt, 5, none⟩ = some (.int .i64 (u).2.e)) ∧ w'.cell? ⟨g, 0, none⟩ = some (.int .i64 P) ∧ w'.cell? ⟨g, 1, none⟩ = some (.bool false))) (first | (refine KS.out _ ?_; (repeat with_reducible (first | assumption | exact Bb _ | refine Bd ?_ _ | apply Below.drew | refine Ba ?_ _)))) (first | (go_at_call 93; refine (SZ.out _ ?_).mono ?_; (repeat with_reducible (first | assumption | exact Bb _ | refine Bd ?_ _ | apply Below.drew | refine Ba ?_ _)); rintro r w5 ⟨rfl, hb5⟩))
    all_goals
     (have xt := xt.later hb5; have xs := xs.later hb5; have xq := xq.later hb5; have xr := xr.later hb5; have t1 := t1.below hb5; have t2 := t2.below hb5; have s1 := s1.below hb5; have s2 := s2.below hb5; have q1 := q1.below hb5; have q2 := q2.below hb5; have bw := Bc bw hb5)
     clear SZ KS
     obtain ⟨e0, e1, e2, e3, e4, e5, -⟩ := xt.cell6
     obtain ⟨y0, y1, y2, y3, y4, y5, -⟩ := xq.cell6
     go_wp2_with fail
     refine (Bch g P u9 u sq D D' o r o' r' B B' m j m' j' _ t1 t2 q1 q2 (hk.later bw) hu9).mono ?_
     rintro r7 w7 ⟨F1, f3, f4, F2, f5, f6, rfl, b1, b2, hb7⟩
     (have xt := xt.later hb7; have xs := xs.later hb7; have xq := xq.later hb7; have xr := xr.later hb7; have t1 := t1.below hb7; have t2 := t2.below hb7; have s1 := s1.below hb7; have s2 := s2.below hb7; have q1 := q1.below hb7; have q2 := q2.below hb7; have bw := Bc bw hb7)
     clear e0 e1 e2 e3 e4 e5 y0 y1 y2 y3 y4 y5
     have kkt := bw.size
     go_wp2_with (refine Bt rfl _ _ rfl rfl kt _ F1 f3 f4 _ _ F2 f5 f6 _ xt rfl rfl (fun WT xt9 gT => ?_); have b1 := b1.grown xt Bh gT; have b2 := b2.grown xt Bh gT; have s1 := s1.grown xt Bh gT; have s2 := s2.grown xt Bh gT; have q1 := q1.grown xt Bh gT; have q2 := q2.grown xt Bh gT; (have xs := xs.grown gT (by omega); have xq := xq.grown gT (by omega); have xr := xr.grown gT (by omega)); have bw := Bl bw gT (by omega))
     clear t1 t2 xt
     have xt := xt9
     have t1 := b1
     have t2 := b2
     clear b1 b2 xt9 gT kkt hb7
     refine wp_region_noPanic ?_
     refine wp_region_held_drew (S := fun w' => (w'.cell? ⟨kt, 0, none⟩ = some (.bool (u9).1.neg) ∧ w'.cell? ⟨kt, 1, none⟩ = some (.slice F1 f3 f4) ∧ w'.cell? ⟨kt, 2, none⟩ = some (.int .i64 (u9).1.e) ∧ w'.cell? ⟨kt, 3, none⟩ = some (.bool (u9).2.neg) ∧ w'.cell? ⟨kt, 4, none⟩ = some (.slice F2 f5 f6) ∧ w'.cell? ⟨kt, 5, none⟩ = some (.int .i64 (u9).2.e))) (by kernel_rfl) (xt.six (Below.drew (Bb _))) (fun hHeld => ?_)
     (refine Bj 0 47 rfl ?_; (try simp only [Act.put, Bf]))
     (refine Bj 1 48 rfl ?_; (try simp only [Act.put, Bf]))
     (refine Bj 2 49 rfl ?_; (try simp only [Act.put, Bf]))
     (refine Bj 3 50 rfl ?_; (try simp only [Act.put, Bf]))
     (refine Bj 4 51 rfl ?_; (try simp only [Act.put, Bf]))
     (refine Bj 5 52 rfl ?_; (try simp only [Act.put, Bf]))
     (refine wpAnyH_ready (rs := [6, 8]) (by kernel_rfl) (by simp) ?_; refine AllReadyH.cons rfl (fun K hK => ?_) (AllReadyH.cons rfl (fun K hK => ?_) AllReadyH.nil))
     focus
      have bD : Below WT.heap.size WT WT.drew := Below.drew (Bb _)
      (have xt := xt.later bD; have xs := xs.later bD; have xq := xq.later bD; have xr := xr.later bD; have t1 := t1.below bD; have t2 := t2.below bD; have s1 := s1.below bD; have s2 := s2.below bD; have q1 := q1.below bD; have q2 := q2.below bD; have bw := Bc bw bD)
      (go_simp; go_at_call 30; refine (Ql g P mm (2 * k + 1) _ (by omega) (by omega) (hk.later bw) hmm).mono ?_; rintro r6 w6 ⟨A3, n3, i3, A4, n4, i4, rfl, a3, a4, hb6⟩; (have xt := xt.later hb6; have xs := xs.later hb6; have xq := xq.later hb6; have xr := xr.later hb6; have t1 := t1.below hb6; have t2 := t2.below hb6; have s1 := s1.below hb6; have s2 := s2.below hb6; have q1 := q1.below hb6; have q2 := q2.below hb6; have bw := Bc bw hb6); (refine hK.out _ _ (xt.six (Bb _)) (fun _ => ?_); clear hHeld hK K; rename_i hHeld; (try simp only [Act.put, Bf])))
      (refine wpAnyH_ready (rs := [7, 8]) (by kernel_rfl) (by simp) ?_; refine AllReadyH.cons rfl (fun K hK => ?_) (AllReadyH.cons rfl (fun K hK => ?_) AllReadyH.nil))
      focus
       (go_simp; go_at_call 29; refine (Bch g P pp u9 mm F1 F2 f3 f4 f5 f6 A3 A4 n3 i3 n4 i4 _ t1 t2 a3 a4 (hk.later bw) hpp).mono ?_; rintro r7 w7 ⟨A5, n5, i5, A6, n6, i6, rfl, a5, a6, hb7⟩; (have xt := xt.later hb7; have xs := xs.later hb7; have xq := xq.later hb7; have xr := xr.later hb7; have t1 := t1.below hb7; have t2 := t2.below hb7; have s1 := s1.below hb7; have s2 := s2.below hb7; have q1 := q1.below hb7; have q2 := q2.below hb7; have bw := Bc bw hb7); (refine hK.out _ _ (xt.six (Bb _)) (fun _ => ?_); clear hHeld hK K; rename_i hHeld; (try simp only [Act.put, Bf])))
       refine Bw 8 rfl (fun K hK => ?_)
       (go_simp; have ba : Below (w7).heap.size w7 ((w7).alloc (.cells #[.bool false, .slice none 0 0, .int .i64 0, .bool false, .slice none 0 0, .int .i64 0] 28)) := Ba (Bb _) _; have xb := Bg (w7) #[.bool false, .slice none 0 0, .int .i64 0, .bool false, .slice none 0 0, .int .i64 0] 28; have lt1 := xt.lt; have ls1 := xs.lt; have lq1 := xq.lt; have lr1 := xr.lt; have kle := bw.size; generalize hkp : (w7).heap.size = kp at lt1 ls1 lq1 lr1 kle xb ⊢; clear hkp; (have xt := xt.later ba; have xs := xs.later ba; have xq := xq.later ba; have xr := xr.later ba; have t1 := t1.below ba; have t2 := t2.below ba; have s1 := s1.below ba; have s2 := s2.below ba; have q1 := q1.below ba; have q2 := q2.below ba; have bw := Bc bw ba); (refine hK.out _ _ (xt.six (Bb _)) (fun _ => ?_); clear hHeld hK K; rename_i hHeld; (try simp only [Act.put, Bf])))
       have a5 := a5.below ba
       have a6 := a6.below ba
       (refine Bw 9 rfl (fun K hK => ?_); refine Bz rfl _ _ rfl rfl kp _ A5 n5 i5 _ _ A6 n6 i6 _ xb rfl rfl (fun W3 xb3 gW3 => ?_); have xt := xt.grown gW3 (by omega); (have xs := xs.grown gW3 (by omega); have xq := xq.grown gW3 (by omega); have xr := xr.grown gW3 (by omega)); have t1 := t1.grown xb Bh gW3; have t2 := t2.grown xb Bh gW3; have s1 := s1.grown xb Bh gW3; have s2 := s2.grown xb Bh gW3; have q1 := q1.grown xb Bh gW3; have q2 := q2.grown xb Bh gW3; have a5 := a5.grown xb Bh gW3; have a6 := a6.grown xb Bh gW3; have bw := Bl bw gW3 (by omega); (refine hK.out _ _ (xt.six (Bb _)) (fun _ => ?_); clear hHeld hK K; rename_i hHeld; (try simp only [Act.put, Bf])); refine Cn ?_)
      rotate_left
      focus
       (go_simp; have ba : Below (w6).heap.size w6 ((w6).alloc (.cells #[.bool false, .slice none 0 0, .int .i64 0, .bool false, .slice none 0 0, .int .i64 0] 28)) := Ba (Bb _) _; have xb := Bg (w6) #[.bool false, .slice none 0 0, .int .i64 0, .bool false, .slice none 0 0, .int .i64 0] 28; have lt1 := xt.lt; have ls1 := xs.lt; have lq1 := xq.lt; have lr1 := xr.lt; have kle := bw.size; generalize hkp : (w6).heap.size = kp at lt1 ls1 lq1 lr1 kle xb ⊢; clear hkp; (have xt := xt.later ba; have xs := xs.later ba; have xq := xq.later ba; have xr := xr.later ba; have t1 := t1.below ba; have t2 := t2.below ba; have s1 := s1.below ba; have s2 := s2.below ba; have q1 := q1.below ba; have q2 := q2.below ba; have bw := Bc bw ba); (refine hK.out _ _ (xt.six (Bb _)) (fun _ => ?_); clear hHeld hK K; rename_i hHeld; (try simp only [Act.put, Bf])))
       have a3 := a3.below ba
       have a4 := a4.below ba
       refine Bw 7 rfl (fun K hK => ?_)
       (go_simp; go_at_call 29; refine (Bch g P pp u9 mm F1 F2 f3 f4 f5 f6 A3 A4 n3 i3 n4 i4 _ t1 t2 a3 a4 (hk.later bw) hpp).mono ?_; rintro r7 w7 ⟨A5, n5, i5, A6, n6, i6, rfl, a5, a6, hb7⟩; (have xt := xt.later hb7; have xs := xs.later hb7; have xq := xq.later hb7; have xr := xr.later hb7; have t1 := t1.below hb7; have t2 := t2.below hb7; have s1 := s1.below hb7; have s2 := s2.below hb7; have q1 := q1.below hb7; have q2 := q2.below hb7; have bw := Bc bw hb7); (refine hK.out _ _ (xt.six (Bb _)) (fun _ => ?_); clear hHeld hK K; rename_i hHeld; (try simp only [Act.put, Bf])))
       have xb := xb.later hb7
       (refine Bw 9 rfl (fun K hK => ?_); refine Bz rfl _ _ rfl rfl kp _ A5 n5 i5 _ _ A6 n6 i6 _ xb rfl rfl (fun W3 xb3 gW3 => ?_); have xt := xt.grown gW3 (by omega); (have xs := xs.grown gW3 (by omega); have xq := xq.grown gW3 (by omega); have xr := xr.grown gW3 (by omega)); have t1 := t1.grown xb Bh gW3; have t2 := t2.grown xb Bh gW3; have s1 := s1.grown xb Bh gW3; have s2 := s2.grown xb Bh gW3; have q1 := q1.grown xb Bh gW3; have q2 := q2.grown xb Bh gW3; have a5 := a5.grown xb Bh gW3; have a6 := a6.grown xb Bh gW3; have bw := Bl bw gW3 (by omega); (refine hK.out _ _ (xt.six (Bb _)) (fun _ => ?_); clear hHeld hK K; rename_i hHeld; (try simp only [Act.put, Bf])); refine Cn ?_)
     rotate_left 2
     focus
      go_simp
      have bA : Below WT.heap.size WT (WT.alloc (.cells #[.bool false, .slice none 0 0, .int .i64 0, .bool false, .slice none 0 0, .int .i64 0] 28)).drew := Below.drew (Ba (Bb _) _)
      have xb := (Bg WT #[.bool false, .slice none 0 0, .int .i64 0, .bool false, .slice none 0 0, .int .i64 0] 28).later (Below.drew (Bb (WT.alloc (.cells #[.bool false, .slice none 0 0, .int .i64 0, .bool false, .slice none 0 0, .int .i64 0] 28))))
      have lt1 := xt.lt
      have ls1 := xs.lt
      have lq1 := xq.lt
      have lr1 := xr.lt
      have kle := bw.size
      (have xt := xt.later bA; have xs := xs.later bA; have xq := xq.later bA; have xr := xr.later bA; have t1 := t1.below bA; have t2 := t2.below bA; have s1 := s1.below bA; have s2 := s2.below bA; have q1 := q1.below bA; have q2 := q2.below bA; have bw := Bc bw bA)
      generalize hkp : WT.heap.size = kp at lt1 ls1 lq1 lr1 kle xb ⊢
      clear hkp bA
      (refine hK.out _ _ (xt.six (Bb _)) (fun _ => ?_); clear hHeld hK K; rename_i hHeld; (try simp only [Act.put, Bf]))
      refine Bw 6 rfl (fun K hK => ?_)
      (go_simp; go_at_call 30; refine (Ql g P mm (2 * k + 1) _ (by omega) (by omega) (hk.later bw) hmm).mono ?_; rintro r6 w6 ⟨A3, n3, i3, A4, n4, i4, rfl, a3, a4, hb6⟩; (have xt := xt.later hb6; have xs := xs.later hb6; have xq := xq.later hb6; have xr := xr.later hb6; have t1 := t1.below hb6; have t2 := t2.below hb6; have s1 := s1.below hb6; have s2 := s2.below hb6; have q1 := q1.below hb6; have q2 := q2.below hb6; have bw := Bc bw hb6); (refine hK.out _ _ (xt.six (Bb _)) (fun _ => ?_); clear hHeld hK K; rename_i hHeld; (try simp only [Act.put, Bf])))
      have xb := xb.later hb6
      refine Bw 7 rfl (fun K hK => ?_)
      (go_simp; go_at_call 29; refine (Bch g P pp u9 mm F1 F2 f3 f4 f5 f6 A3 A4 n3 i3 n4 i4 _ t1 t2 a3 a4 (hk.later bw) hpp).mono ?_; rintro r7 w7 ⟨A5, n5, i5, A6, n6, i6, rfl, a5, a6, hb7⟩; (have xt := xt.later hb7; have xs := xs.later hb7; have xq := xq.later hb7; have xr := xr.later hb7; have t1 := t1.below hb7; have t2 := t2.below hb7; have s1 := s1.below hb7; have s2 := s2.below hb7; have q1 := q1.below hb7; have q2 := q2.below hb7; have bw := Bc bw hb7); (refine hK.out _ _ (xt.six (Bb _)) (fun _ => ?_); clear hHeld hK K; rename_i hHeld; (try simp only [Act.put, Bf])))
      have xb := xb.later hb7
      (refine Bw 9 rfl (fun K hK => ?_); refine Bz rfl _ _ rfl rfl kp _ A5 n5 i5 _ _ A6 n6 i6 _ xb rfl rfl (fun W3 xb3 gW3 => ?_); have xt := xt.grown gW3 (by omega); (have xs := xs.grown gW3 (by omega); have xq := xq.grown gW3 (by omega); have xr := xr.grown gW3 (by omega)); have t1 := t1.grown xb Bh gW3; have t2 := t2.grown xb Bh gW3; have s1 := s1.grown xb Bh gW3; have s2 := s2.grown xb Bh gW3; have q1 := q1.grown xb Bh gW3; have q2 := q2.grown xb Bh gW3; have a5 := a5.grown xb Bh gW3; have a6 := a6.grown xb Bh gW3; have bw := Bl bw gW3 (by omega); (refine hK.out _ _ (xt.six (Bb _)) (fun _ => ?_); clear hHeld hK K; rename_i hHeld; (try simp only [Act.put, Bf])); refine Cn ?_)
     all_goals
      clear hHeld xb gW3
      have hsm : s' = s' := rfl
      cases turn
      ·rw [if_neg (by simp)] at hr9
       obtain rfl : pp = r9 := by injection hr9
       (obtain ⟨e0, e1, e2, e3, e4, e5, -⟩ := xb3.cell6; obtain ⟨y0, y1, y2, y3, y4, y5, -⟩ := xs.cell6; go_wp2_with fail; (refine (Bcg g P s' s pp C C' l e l' e' A5 A6 n5 i5 n6 i6 _ s1 s2 a5 a6 (hk.later bw) ha).mono ?_; rintro r9' w9 ⟨H1, h3, h4, H2, h5, h6, rfl, c1, c2, hb9⟩; (have xt := xt.later hb9; have xs := xs.later hb9; have xq := xq.later hb9; have xr := xr.later hb9; have t1 := t1.below hb9; have t2 := t2.below hb9; have s1 := s1.below hb9; have s2 := s2.below hb9; have q1 := q1.below hb9; have q2 := q2.below hb9; have bw := Bc bw hb9); (try clear e0 e1 e2 e3 e4 e5); (try clear y0 y1 y2 y3 y4 y5); go_wp2_with (refine Bt rfl _ _ rfl rfl ks _ H1 h3 h4 _ _ H2 h5 h6 _ xs rfl rfl (fun W6 xs6 g6' => ?_); have c1 := c1.grown xs Bh g6'; have c2 := c2.grown xs Bh g6'; have t1 := t1.grown xs Bh g6'; have t2 := t2.grown xs Bh g6'; have q1 := q1.grown xs Bh g6'; have q2 := q2.grown xs Bh g6'; have xt := xt.grown g6' (by omega); have xq := xq.grown g6' (by omega); have xr := xr.grown g6' (by omega); have bw := Bl bw g6' (by omega)); exact ⟨⟨f2, k + 1, s', u9, _, _, _, _, _, _, _, _, _, _, _, _, by simp [wk1], by omega, by omega, Be hsF, xt, xs6, xq, xr, t1, t2, c1, c2, q1, q2, bw⟩, by first | (simp [intOf]; done) | (simp [intOf]; omega)⟩))
      ·by_cases ho : k % 2 = 1
       ·rw [if_pos (by simp [ho])] at hr9
        have km : (k % 2 == 1) = true := by simp [ho]
        clear ho
        obtain ⟨e0, e1, e2, e3, e4, e5, -⟩ := xb3.cell6
        go_wp2_with fail
        refine (zNeg g P r9 pp A5 A6 n5 i5 n6 i6 _ a5 a6 (hk.later bw) hr9).mono ?_
        rintro r8 w8 ⟨G1, g3, g4, G2, g5, g6, rfl, b1, b2, hb8⟩
        have xb3 := xb3.later hb8
        (have xt := xt.later hb8; have xs := xs.later hb8; have xq := xq.later hb8; have xr := xr.later hb8; have t1 := t1.below hb8; have t2 := t2.below hb8; have s1 := s1.below hb8; have s2 := s2.below hb8; have q1 := q1.below hb8; have q2 := q2.below hb8; have bw := Bc bw hb8)
        clear e0 e1 e2 e3 e4 e5
        obtain ⟨y0, y1, y2, y3, y4, y5, -⟩ := xs.cell6
        go_wp2_with (refine Bt rfl _ _ rfl rfl kp _ G1 g3 g4 _ _ G2 g5 g6 _ xb3 rfl rfl (fun WP xb4 gP => ?_); have b1 := b1.grown xb3 Bh gP; have b2 := b2.grown xb3 Bh gP; have t1 := t1.grown xb3 Bh gP; have t2 := t2.grown xb3 Bh gP; have s1 := s1.grown xb3 Bh gP; have s2 := s2.grown xb3 Bh gP; have q1 := q1.grown xb3 Bh gP; have q2 := q2.grown xb3 Bh gP; have xt := xt.grown gP (by omega); (have xs := xs.grown gP (by omega); have xq := xq.grown gP (by omega); have xr := xr.grown gP (by omega)); have bw := Bl bw gP (by omega); obtain ⟨e0, e1, e2, e3, e4, e5, -⟩ := xb4.cell6; obtain ⟨y0, y1, y2, y3, y4, y5, -⟩ := xs.cell6)
        (refine (Bcg g P s' s r9 C C' l e l' e' G1 G2 g3 g4 g5 g6 _ s1 s2 b1 b2 (hk.later bw) ha).mono ?_; rintro r9' w9 ⟨H1, h3, h4, H2, h5, h6, rfl, c1, c2, hb9⟩; (have xt := xt.later hb9; have xs := xs.later hb9; have xq := xq.later hb9; have xr := xr.later hb9; have t1 := t1.below hb9; have t2 := t2.below hb9; have s1 := s1.below hb9; have s2 := s2.below hb9; have q1 := q1.below hb9; have q2 := q2.below hb9; have bw := Bc bw hb9); (try clear e0 e1 e2 e3 e4 e5); (try clear y0 y1 y2 y3 y4 y5); go_wp2_with (refine Bt rfl _ _ rfl rfl ks _ H1 h3 h4 _ _ H2 h5 h6 _ xs rfl rfl (fun W6 xs6 g6' => ?_); have c1 := c1.grown xs Bh g6'; have c2 := c2.grown xs Bh g6'; have t1 := t1.grown xs Bh g6'; have t2 := t2.grown xs Bh g6'; have q1 := q1.grown xs Bh g6'; have q2 := q2.grown xs Bh g6'; have xt := xt.grown g6' (by omega); have xq := xq.grown g6' (by omega); have xr := xr.grown g6' (by omega); have bw := Bl bw g6' (by omega)); exact ⟨⟨f2, k + 1, s', u9, _, _, _, _, _, _, _, _, _, _, _, _, by simp [wk1], by omega, by omega, Be hsF, xt, xs6, xq, xr, t1, t2, c1, c2, q1, q2, bw⟩, by first | (simp [intOf]; done) | (simp [intOf]; omega)⟩)
       ·rw [if_neg (by simp [ho])] at hr9
        obtain rfl : pp = r9 := by injection hr9
        have km : (k % 2 == 1) = false := by simp [ho]
        clear ho
        (obtain ⟨e0, e1, e2, e3, e4, e5, -⟩ := xb3.cell6; obtain ⟨y0, y1, y2, y3, y4, y5, -⟩ := xs.cell6; go_wp2_with fail; (refine (Bcg g P s' s pp C C' l e l' e' A5 A6 n5 i5 n6 i6 _ s1 s2 a5 a6 (hk.later bw) ha).mono ?_; rintro r9' w9 ⟨H1, h3, h4, H2, h5, h6, rfl, c1, c2, hb9⟩; (have xt := xt.later hb9; have xs := xs.later hb9; have xq := xq.later hb9; have xr := xr.later hb9; have t1 := t1.below hb9; have t2 := t2.below hb9; have s1 := s1.below hb9; have s2 := s2.below hb9; have q1 := q1.below hb9; have q2 := q2.below hb9; have bw := Bc bw hb9); (try clear e0 e1 e2 e3 e4 e5); (try clear y0 y1 y2 y3 y4 y5); go_wp2_with (refine Bt rfl _ _ rfl rfl ks _ H1 h3 h4 _ _ H2 h5 h6 _ xs rfl rfl (fun W6 xs6 g6' => ?_); have c1 := c1.grown xs Bh g6'; have c2 := c2.grown xs Bh g6'; have t1 := t1.grown xs Bh g6'; have t2 := t2.grown xs Bh g6'; have q1 := q1.grown xs Bh g6'; have q2 := q2.grown xs Bh g6'; have xt := xt.grown g6' (by omega); have xq := xq.grown g6' (by omega); have xr := xr.grown g6' (by omega); have bw := Bl bw g6' (by omega)); exact ⟨⟨f2, k + 1, s', u9, _, _, _, _, _, _, _, _, _, _, _, _, by simp [wk1], by omega, by omega, Be hsF, xt, xs6, xq, xr, t1, t2, c1, c2, q1, q2, bw⟩, by first | (simp [intOf]; done) | (simp [intOf]; omega)⟩))
   ·rw [if_neg hz] at hs
    have dz : decide (-P - 4 < Gw u) = false := decide_eq_false hz
    unfold Bak at hs
    by_cases hlow : Gw u < -200000
    ·rw [if_pos hlow] at hs
     cases hs
    rw [if_neg hlow] at hs
    obtain ⟨b, hab, hsF⟩ := bind_some hs
    have nb : IntKind.i64.wrap (Gw u + 1) = Gw u + 1 ∧ -300000 ≤ Gw u + 1 ∧ Gw u + 1 ≤ 300000 := by
     rw [IntKind.wrap_i64]
     omega
    generalize hzu : Gw u = zu at *
    have HZ := Be hzu
    clear hzu
    obtain ⟨n9, n8, n7⟩ := nb
    clear hz hlow
    go_wp2_with fail
    refine wp_region_noPanic ?_
    have bD0 : Below wr.heap.size wr wr.drew := Below.drew (Bb _)
    refine wp_region_held_drew (S := fun w' => ((w'.cell? ⟨kt, 0, none⟩ = some (.bool (u).1.neg) ∧ w'.cell? ⟨kt, 1, none⟩ = some (.slice D o r) ∧ w'.cell? ⟨kt, 2, none⟩ = some (.int .i64 (u).1.e) ∧ w'.cell? ⟨kt, 3, none⟩ = some (.bool (u).2.neg) ∧ w'.cell? ⟨kt, 4, none⟩ = some (.slice D' o' r') ∧ w'.cell? ⟨kt, 5, none⟩ = some (.int .i64 (u).2.e)) ∧ w'.cell? ⟨g, 0, none⟩ = some (.int .i64 P) ∧ w'.cell? ⟨g, 1, none⟩ = some (.bool false))) (by kernel_rfl) (KS.out _ bD0) (fun hHeld => ?_)
    (refine Bj 0 25 rfl ?_; (try simp only [Act.put, Bf]))
    (refine Bj 2 27 rfl ?_; (try simp only [Act.put, Bf]))
    (refine Bj 3 28 rfl ?_; (try simp only [Act.put, Bf]))
    (refine Bj 4 29 rfl ?_; (try simp only [Act.put, Bf]))
    (refine Bj 5 30 rfl ?_; (try simp only [Act.put, Bf]))
    (refine Bj 6 31 rfl ?_; (try simp only [Act.put, Bf]))
    (refine Bj 7 32 rfl ?_; (try simp only [Act.put, Bf]))
    refine Bw 1 rfl (fun K hK => ?_)
    go_simp
    go_at_call 93
    refine (SZ.out _ bD0).mono ?_
    rintro r5 w5 ⟨rfl, hb5⟩
    (refine hK.out _ _ (KS.out _ hb5) (fun _ => ?_); clear hHeld hK K; rename_i hHeld; (try simp only [Act.put, Bf]))
    (refine Bj 8 33 rfl ?_; (try simp only [Act.put, Bf]))
    (refine Bj 9 34 rfl ?_; (try simp only [Act.put, Bf]))
    (refine wpAnyH_take (i := 10) (oi := ⟨some 35, _, _, _, _, _⟩) (v := _) rfl (by kernel_rfl) (by kernel_rfl) (by kernel_rfl) (fun _ _ _ h => h) (Or.inr ⟨by rfl, rfl⟩) (by assumption) ?_; (try simp only [Act.put, Bf]))
    (refine wpAnyH_take (i := 11) (oi := ⟨some 36, _, _, _, _, _⟩) (v := _) rfl (by kernel_rfl) (by kernel_rfl) (by kernel_rfl) (fun _ _ _ h => h) (Or.inr ⟨by rfl, rfl⟩) (by assumption) ?_; (try simp only [Act.put, Bf]))
    (refine wpAnyH_take (i := 12) (oi := ⟨some 37, _, _, _, _, _⟩) (v := _) rfl (by kernel_rfl) (by kernel_rfl) (by kernel_rfl) (fun _ _ _ h => h) (Or.inr ⟨by rfl, rfl⟩) (by assumption) ?_; (try simp only [Act.put, Bf]))
    (refine wpAnyH_take (i := 13) (oi := ⟨some 38, _, _, _, _, _⟩) (v := _) rfl (by kernel_rfl) (by kernel_rfl) (by kernel_rfl) (fun _ _ _ h => h) (Or.inr ⟨by rfl, rfl⟩) (by assumption) ?_; (try simp only [Act.put, Bf]))
    (refine wpAnyH_take (i := 14) (oi := ⟨some 39, _, _, _, _, _⟩) (v := _) rfl (by kernel_rfl) (by kernel_rfl) (by kernel_rfl) (fun _ _ _ h => h) (Or.inr ⟨by rfl, rfl⟩) (by assumption) ?_; (try simp only [Act.put, Bf]))
    (refine Bj 15 40 rfl ?_; (try simp only [Act.put, Bf]))
    refine Cn ?_
    clear hHeld bD0
    all_goals
     (have xt := xt.later hb5; have xs := xs.later hb5; have xq := xq.later hb5; have xr := xr.later hb5; have t1 := t1.below hb5; have t2 := t2.below hb5; have s1 := s1.below hb5; have s2 := s2.below hb5; have q1 := q1.below hb5; have q2 := q2.below hb5; have bw := Bc bw hb5)
     clear KS
     have SZ := Be (fun w' (hb : Below w5.heap.size w5 w') => SZ.out w' (Bc hb5 hb))
     obtain ⟨e0, e1, e2, e3, e4, e5, -⟩ := xt.cell6
     go_wp2_with fail
     refine wp_region_noPanic ?_
     have bD : Below w5.heap.size w5 w5.drew := Below.drew (Bb _)
     refine wp_region_held_drew (S := fun w' => (w'.cell? ⟨ks, 0, none⟩ = some (.bool (s).1.neg) ∧ w'.cell? ⟨ks, 1, none⟩ = some (.slice C l e) ∧ w'.cell? ⟨ks, 2, none⟩ = some (.int .i64 (s).1.e) ∧ w'.cell? ⟨ks, 3, none⟩ = some (.bool (s).2.neg) ∧ w'.cell? ⟨ks, 4, none⟩ = some (.slice C' l' e') ∧ w'.cell? ⟨ks, 5, none⟩ = some (.int .i64 (s).2.e)) ∧ (w'.cell? ⟨kt, 0, none⟩ = some (.bool (u).1.neg) ∧ w'.cell? ⟨kt, 1, none⟩ = some (.slice D o r) ∧ w'.cell? ⟨kt, 2, none⟩ = some (.int .i64 (u).1.e) ∧ w'.cell? ⟨kt, 3, none⟩ = some (.bool (u).2.neg) ∧ w'.cell? ⟨kt, 4, none⟩ = some (.slice D' o' r') ∧ w'.cell? ⟨kt, 5, none⟩ = some (.int .i64 (u).2.e))) (by kernel_rfl) ⟨xs.six bD, xt.six bD⟩ (fun hHeld => ?_)
     (have xt := xt.later bD; have xs := xs.later bD; have xq := xq.later bD; have xr := xr.later bD; have t1 := t1.below bD; have t2 := t2.below bD; have s1 := s1.below bD; have s2 := s2.below bD; have q1 := q1.below bD; have q2 := q2.below bD; have bw := Bc bw bD)
     (refine Bj 0 69 rfl ?_; (try simp only [Act.put, Bf]))
     (refine Bj 1 70 rfl ?_; (try simp only [Act.put, Bf]))
     (refine Bj 2 71 rfl ?_; (try simp only [Act.put, Bf]))
     (refine Bj 3 72 rfl ?_; (try simp only [Act.put, Bf]))
     refine Bw 4 rfl (fun K hK => ?_)
     go_simp
     go_at_call 93
     refine (Bei u D D' o r o' r' _ t1 t2 (Bn ru).2.1 (Bn ru).2.2).mono ?_
     rintro r6 w6 ⟨rfl, hb6'⟩
     rw [HZ.out] at *
     have hb6 : Below w5.drew.heap.size w5.drew w6 := hb6'
     (have xt := xt.later hb6; have xs := xs.later hb6; have xq := xq.later hb6; have xr := xr.later hb6; have t1 := t1.below hb6; have t2 := t2.below hb6; have s1 := s1.below hb6; have s2 := s2.below hb6; have q1 := q1.below hb6; have q2 := q2.below hb6; have bw := Bc bw hb6)
     (refine hK.out _ _ (⟨xs.six (Bb _), xt.six (Bb _)⟩) (fun _ => ?_); clear hHeld hK K; rename_i hHeld; (try simp only [Act.put, Bf]))
     (refine Bj 5 74 rfl ?_; (try simp only [Act.put, Bf]))
     refine Bw 6 rfl (fun K hK => ?_)
     go_simp
     go_at_call 94
     refine (Bfo g P (zu + 1) b _ (hk.later bw) ⟨n8, n7⟩ hab).mono ?_
     rintro r7 w7 ⟨A3, n3, i3, A4, n4, i4, rfl, a3, a4, hb7⟩
     (have xt := xt.later hb7; have xs := xs.later hb7; have xq := xq.later hb7; have xr := xr.later hb7; have t1 := t1.below hb7; have t2 := t2.below hb7; have s1 := s1.below hb7; have s2 := s2.below hb7; have q1 := q1.below hb7; have q2 := q2.below hb7; have bw := Bc bw hb7)
     (refine hK.out _ _ (⟨xs.six (Bb _), xt.six (Bb _)⟩) (fun _ => ?_); clear hHeld hK K; rename_i hHeld; (try simp only [Act.put, Bf]))
     refine Bw 7 rfl (fun K hK => ?_)
     go_simp
     go_at_call 13
     refine (Bcg g P c s b C C' l e l' e' A3 A4 n3 i3 n4 i4 _ s1 s2 a3 a4 (hk.later bw) hsF).mono ?_
     rintro r8 w8 ⟨H1, h3, h4, H2, h5, h6, rfl, c1, c2, hb8⟩
     (have xt := xt.later hb8; have xs := xs.later hb8; have xq := xq.later hb8; have xr := xr.later hb8; have t1 := t1.below hb8; have t2 := t2.below hb8; have s1 := s1.below hb8; have s2 := s2.below hb8; have q1 := q1.below hb8; have q2 := q2.below hb8; have bw := Bc bw hb8)
     (refine hK.out _ _ (⟨xs.six (Bb _), xt.six (Bb _)⟩) (fun _ => ?_); clear hHeld hK K; rename_i hHeld; (try simp only [Act.put, Bf]))
     refine Bw 8 rfl (fun K hK => ?_)
     refine Bz rfl _ _ rfl rfl w.heap.size _ H1 h3 h4 _ _ H2 h5 h6 _ xr rfl rfl (fun W6 y6 g6 => ?_)
     have xs := xs.grown g6 (by omega)
     have xt := xt.grown g6 (by omega)
     have c1 := c1.grown xr Bh g6
     have c2 := c2.grown xr Bh g6
     have bw := Bl bw g6 (Nat.le_refl _)
     (refine hK.out _ _ (⟨xs.six (Bb _), xt.six (Bb _)⟩) (fun _ => ?_); clear hHeld hK K; rename_i hHeld; (try simp only [Act.put, Bf]))
     refine Cn ?_
     clear hHeld
     obtain ⟨y0, y1, y2, y3, y4, y5, -⟩ := y6.cell6
     go_wp2_with fail
     refine bodyPost_ret (v := _) ?_ rfl ⟨_, _, _, _, _, _, rfl, c1, c2, bw⟩
     simp [results, Tryz.results58, go_sem, y0, y1, y2, y3, y4, y5]
end Go.Proofs.YteffemhapnbaeaaGreatDoor
