/- Walks and laws that the claim's row needs. No conditions. -/
import Derived.Deep.RegionHeld3
import Derived.Test.YteffemhapnbaeaaGreatDoorSsL
import Derived.Test.YteffemhapnbaeaaGreatDoorQas
set_option maxHeartbeats 16000000
set_option linter.unusedSimpArgs false
set_option linter.unusedVariables false
namespace Go.Proofs.YteffemhapnbaeaaGreatDoor
open Go.RowKit Num
set_option maxRecDepth 100000
theorem rpi4 (g : Nat) (P : Int) (c : Dy × Dy) (w : World) (hk : Wk w g P false 38) (h : piR P = some c) :
  Calls Tryz.prog 23 #[.pointer (some ⟨g, 0, none⟩)] w (Gf c w) := by
 obtain ⟨a, ha, h⟩ := bind_some h
 obtain ⟨b, hb, h⟩ := bind_some h
 obtain ⟨d, hd, h⟩ := bind_some h
 obtain ⟨e, he, h⟩ := bind_some h
 obtain ⟨a1', hu3, ha⟩ := bind_some ha
 obtain ⟨a2', hv3, ha⟩ := bind_some ha
 obtain ⟨b1', hu4, hb⟩ := bind_some hb
 obtain ⟨b2', hv4, hb⟩ := bind_some hb
 obtain ⟨d1', hu5, hd⟩ := bind_some hd
 obtain ⟨d2', hv5, hd⟩ := bind_some hd
 have bw : Below w.heap.size w (w.alloc (.cells #[.bool false, .slice none 0 0, .int .i64 0, .bool false, .slice none 0 0, .int .i64 0] 28)) := Ba (Bb w) _
 have xr := Bg w #[.bool false, .slice none 0 0, .int .i64 0, .bool false, .slice none 0 0, .int .i64 0] 28
 go_enter Tryz.func23, Tryz.ntmps23
 go_wp2_with fail
 refine (Ql g P a1' 48 _ (by omega) (by omega) (hk.later bw) hu3).mono ?_
 rintro r1 w1 ⟨A1, n1, i1, A2, n2, i2, rfl, a1, a2, h1⟩
 have bw := Bc bw h1
 have xr := xr.later h1
 go_wp2_with fail
 refine (Jp g P 18 (-1) true a2' _ (hk.later bw) (by omega) (by omega) (by decide) hv3).mono ?_
 rintro r2 w2 ⟨A3, n3, i3, A4, n4, i4, rfl, a3, a4, h2⟩
 have bw := Bc bw h2
 have xr := xr.later h2
 have a1 := a1.below h2
 have a2 := a2.below h2
 go_wp2_with fail
 refine (Bci g P a a1' a2' A1 A2 n1 i1 n2 i2 A3 A4 n3 i3 n4 i4 _ a1 a2 a3 a4 (hk.later bw) ha).mono ?_
 rintro r3 w3 ⟨B3, m3, j3, C3, k3, l3, rfl, p3, q3, h3⟩
 have bw := Bc bw h3
 have xr := xr.later h3
 have ba : Below w3.heap.size w3 (w3.alloc (.cells #[.bool false, .slice none 0 0, .int .i64 0, .bool false, .slice none 0 0, .int .i64 0] 28)) := Ba (Bb _) _
 have xn := Bg w3 #[.bool false, .slice none 0 0, .int .i64 0, .bool false, .slice none 0 0, .int .i64 0] 28
 have lr := xr.lt
 have p3 := p3.below ba
 have q3 := q3.below ba
 have bw := Bc bw ba
 have xr := xr.later ba
 clear a1 a2 a3 a4 h1 h2 h3 ba
 go_wp2_with (refine Bt rfl _ _ rfl rfl w3.heap.size _ B3 m3 j3 _ _ C3 k3 l3 _ xn rfl rfl (fun W3 x3 gW => ?_); have p3 := p3.grown xn Bh gW; have q3 := q3.grown xn Bh gW; have xr := xr.grown gW (by omega); have bw := Bl bw gW (by omega))
 clear xn gW
 have hlt3 : w.heap.size < w3.heap.size := lr
 generalize w3.heap.size = s3 at *
 clear lr 
 refine (Ql g P b1' 32 _ (by omega) (by omega) (hk.later bw) hu4).mono ?_
 rintro r1 w1 ⟨A1, n1, i1, A2, n2, i2, rfl, a1, a2, h1⟩
 have bw := Bc bw h1
 have xr := xr.later h1
 have x3 := x3.later h1
 have p3 := p3.below h1
 have q3 := q3.below h1
 go_wp2_with fail
 refine (Jp g P 57 (-1) true b2' _ (hk.later bw) (by omega) (by omega) (by decide) hv4).mono ?_
 rintro r2 w2 ⟨A3, n3, i3, A4, n4, i4, rfl, a3, a4, h2⟩
 have bw := Bc bw h2
 have xr := xr.later h2
 have x3 := x3.later h2
 have p3 := p3.below h2
 have q3 := q3.below h2
 have a1 := a1.below h2
 have a2 := a2.below h2
 go_wp2_with fail
 refine (Bci g P b b1' b2' A1 A2 n1 i1 n2 i2 A3 A4 n3 i3 n4 i4 _ a1 a2 a3 a4 (hk.later bw) hb).mono ?_
 rintro r3 w3 ⟨B4, m4, j4, C4, k4, l4, rfl, p4, q4, h3⟩
 have bw := Bc bw h3
 have xr := xr.later h3
 have x3 := x3.later h3
 have p3 := p3.below h3
 have q3 := q3.below h3
 have ba : Below w3.heap.size w3 (w3.alloc (.cells #[.bool false, .slice none 0 0, .int .i64 0, .bool false, .slice none 0 0, .int .i64 0] 28)) := Ba (Bb _) _
 have xn := Bg w3 #[.bool false, .slice none 0 0, .int .i64 0, .bool false, .slice none 0 0, .int .i64 0] 28
 have lr := xr.lt
 have lx3 := x3.lt
 have p4 := p4.below ba
 have q4 := q4.below ba
 have bw := Bc bw ba
 have xr := xr.later ba
 have x3 := x3.later ba
 have p3 := p3.below ba
 have q3 := q3.below ba
 clear a1 a2 a3 a4 h1 h2 h3 ba
 go_wp2_with (refine Bt rfl _ _ rfl rfl w3.heap.size _ B4 m4 j4 _ _ C4 k4 l4 _ xn rfl rfl (fun W4 x4 gW => ?_); have p4 := p4.grown xn Bh gW; have q4 := q4.grown xn Bh gW; have xr := xr.grown gW (by omega); have x3 := x3.grown gW (by omega); have p3 := p3.grown xn Bh gW; have q3 := q3.grown xn Bh gW; have bw := Bl bw gW (by omega))
 clear xn gW
 have hlt4 : w.heap.size < w3.heap.size := lr
 generalize w3.heap.size = s4 at *
 clear lr lx3
 refine (Ql g P d1' 20 _ (by omega) (by omega) (hk.later bw) hu5).mono ?_
 rintro r1 w1 ⟨A1, n1, i1, A2, n2, i2, rfl, a1, a2, h1⟩
 have bw := Bc bw h1
 have xr := xr.later h1
 have x3 := x3.later h1
 have p3 := p3.below h1
 have q3 := q3.below h1
 have x4 := x4.later h1
 have p4 := p4.below h1
 have q4 := q4.below h1
 go_wp2_with fail
 refine (Jp g P 239 (-1) true d2' _ (hk.later bw) (by omega) (by omega) (by decide) hv5).mono ?_
 rintro r2 w2 ⟨A3, n3, i3, A4, n4, i4, rfl, a3, a4, h2⟩
 have bw := Bc bw h2
 have xr := xr.later h2
 have x3 := x3.later h2
 have p3 := p3.below h2
 have q3 := q3.below h2
 have x4 := x4.later h2
 have p4 := p4.below h2
 have q4 := q4.below h2
 have a1 := a1.below h2
 have a2 := a2.below h2
 go_wp2_with fail
 refine (Bci g P d d1' d2' A1 A2 n1 i1 n2 i2 A3 A4 n3 i3 n4 i4 _ a1 a2 a3 a4 (hk.later bw) hd).mono ?_
 rintro r3 w3 ⟨B5, m5, j5, C5, k5, l5, rfl, p5, q5, h3⟩
 have bw := Bc bw h3
 have xr := xr.later h3
 have x3 := x3.later h3
 have p3 := p3.below h3
 have q3 := q3.below h3
 have x4 := x4.later h3
 have p4 := p4.below h3
 have q4 := q4.below h3
 have ba : Below w3.heap.size w3 (w3.alloc (.cells #[.bool false, .slice none 0 0, .int .i64 0, .bool false, .slice none 0 0, .int .i64 0] 28)) := Ba (Bb _) _
 have xn := Bg w3 #[.bool false, .slice none 0 0, .int .i64 0, .bool false, .slice none 0 0, .int .i64 0] 28
 have lr := xr.lt
 have lx3 := x3.lt
 have lx4 := x4.lt
 have p5 := p5.below ba
 have q5 := q5.below ba
 have bw := Bc bw ba
 have xr := xr.later ba
 have x3 := x3.later ba
 have p3 := p3.below ba
 have q3 := q3.below ba
 have x4 := x4.later ba
 have p4 := p4.below ba
 have q4 := q4.below ba
 clear a1 a2 a3 a4 h1 h2 h3 ba
 go_wp2_with (refine Bt rfl _ _ rfl rfl w3.heap.size _ B5 m5 j5 _ _ C5 k5 l5 _ xn rfl rfl (fun W5 x5 gW => ?_); have p5 := p5.grown xn Bh gW; have q5 := q5.grown xn Bh gW; have xr := xr.grown gW (by omega); have x3 := x3.grown gW (by omega); have p3 := p3.grown xn Bh gW; have q3 := q3.grown xn Bh gW; have x4 := x4.grown gW (by omega); have p4 := p4.grown xn Bh gW; have q4 := q4.grown xn Bh gW; have bw := Bl bw gW (by omega))
 clear xn gW
 have hlt5 : w.heap.size < w3.heap.size := lr
 generalize w3.heap.size = s5 at *
 clear lr lx3 lx4
 have bD : Below W5.heap.size W5 W5.drew := Below.drew (Bb _)
 refine wp_region_noPanic ?_
 refine wp_region_held_drew (S := fun w' => (w'.cell? ⟨s3, 0, none⟩ = some (.bool (a).1.neg) ∧ w'.cell? ⟨s3, 1, none⟩ = some (.slice B3 m3 j3) ∧ w'.cell? ⟨s3, 2, none⟩ = some (.int .i64 (a).1.e) ∧ w'.cell? ⟨s3, 3, none⟩ = some (.bool (a).2.neg) ∧ w'.cell? ⟨s3, 4, none⟩ = some (.slice C3 k3 l3) ∧ w'.cell? ⟨s3, 5, none⟩ = some (.int .i64 (a).2.e)) ∧ (w'.cell? ⟨s4, 0, none⟩ = some (.bool (b).1.neg) ∧ w'.cell? ⟨s4, 1, none⟩ = some (.slice B4 m4 j4) ∧ w'.cell? ⟨s4, 2, none⟩ = some (.int .i64 (b).1.e) ∧ w'.cell? ⟨s4, 3, none⟩ = some (.bool (b).2.neg) ∧ w'.cell? ⟨s4, 4, none⟩ = some (.slice C4 k4 l4) ∧ w'.cell? ⟨s4, 5, none⟩ = some (.int .i64 (b).2.e)) ∧ (w'.cell? ⟨s5, 0, none⟩ = some (.bool (d).1.neg) ∧ w'.cell? ⟨s5, 1, none⟩ = some (.slice B5 m5 j5) ∧ w'.cell? ⟨s5, 2, none⟩ = some (.int .i64 (d).1.e) ∧ w'.cell? ⟨s5, 3, none⟩ = some (.bool (d).2.neg) ∧ w'.cell? ⟨s5, 4, none⟩ = some (.slice C5 k5 l5) ∧ w'.cell? ⟨s5, 5, none⟩ = some (.int .i64 (d).2.e))) (by kernel_rfl) ⟨x3.six bD, x4.six bD, x5.six bD⟩ (fun hHeld => ?_)
 have bw := Bc bw bD
 have xr := xr.later bD
 have x3 := x3.later bD
 have p3 := p3.below bD
 have q3 := q3.below bD
 have x4 := x4.later bD
 have p4 := p4.below bD
 have q4 := q4.below bD
 have x5 := x5.later bD
 have p5 := p5.below bD
 have q5 := q5.below bD
 (refine Bj 0 24 rfl ?_; (try simp only [Act.put, Bf]))
 (refine Bj 1 25 rfl ?_; (try simp only [Act.put, Bf]))
 (refine Bj 2 26 rfl ?_; (try simp only [Act.put, Bf]))
 (refine Bj 3 27 rfl ?_; (try simp only [Act.put, Bf]))
 (refine Bj 5 29 rfl ?_; (try simp only [Act.put, Bf]))
 refine Bw 4 rfl (fun K hK => ?_)
 go_simp
 go_at_call 13
 refine (Bcg g P e a b B3 C3 m3 j3 k3 l3 B4 C4 m4 j4 k4 l4 _ p3 q3 p4 q4 (hk.later bw) he).mono ?_
 rintro r6 w6 ⟨A1, n1, i1, A2, n2, i2, rfl, a1, a2, h6⟩
 have bw := Bc bw h6
 have xr := xr.later h6
 have x3 := x3.later h6
 have p3 := p3.below h6
 have q3 := q3.below h6
 have x4 := x4.later h6
 have p4 := p4.below h6
 have q4 := q4.below h6
 have x5 := x5.later h6
 have p5 := p5.below h6
 have q5 := q5.below h6
 (refine hK.out _ _ (⟨x3.six (Bb _), x4.six (Bb _), x5.six (Bb _)⟩) (fun _ => ?_); clear hHeld hK K; rename_i hHeld; (try simp only [Act.put, Bf]))
 refine Bw 6 rfl (fun K hK => ?_)
 go_simp
 go_at_call 15
 refine (zSub g P c e d A1 A2 n1 i1 n2 i2 B5 C5 m5 j5 k5 l5 _ a1 a2 p5 q5 (hk.later bw) h).mono ?_
 rintro r7 w7 ⟨A3, n3, i3, A4, n4, i4, rfl, a3, a4, h7⟩
 have bw := Bc bw h7
 have xr := xr.later h7
 have x3 := x3.later h7
 have p3 := p3.below h7
 have q3 := q3.below h7
 have x4 := x4.later h7
 have p4 := p4.below h7
 have q4 := q4.below h7
 have x5 := x5.later h7
 have p5 := p5.below h7
 have q5 := q5.below h7
 (refine hK.out _ _ (⟨x3.six (Bb _), x4.six (Bb _), x5.six (Bb _)⟩) (fun _ => ?_); clear hHeld hK K; rename_i hHeld; (try simp only [Act.put, Bf]))
 refine Bw 7 rfl (fun K hK => ?_)
 refine Bz rfl _ _ rfl rfl w.heap.size _ A3 n3 i3 _ _ A4 n4 i4 _ xr rfl rfl (fun W6 y6 g6 => ?_)
 have x3 := x3.grown g6 (by omega)
 have x4 := x4.grown g6 (by omega)
 have x5 := x5.grown g6 (by omega)
 have a3 := a3.grown xr Bh g6
 have a4 := a4.grown xr Bh g6
 have bw := Bl bw g6 (Nat.le_refl _)
 (refine hK.out _ _ (⟨x3.six (Bb _), x4.six (Bb _), x5.six (Bb _)⟩) (fun _ => ?_); clear hHeld hK K; rename_i hHeld; (try simp only [Act.put, Bf]))
 refine Cn ?_
 clear hHeld
 obtain ⟨y0, y1, y2, y3, y4, y5, -⟩ := y6.cell6
 go_wp2_with fail
 refine bodyPost_ret (v := _) ?_ rfl ⟨_, _, _, _, _, _, rfl, a3, a4, bw⟩
 simp [results, Tryz.results23, go_sem, y0, y1, y2, y3, y4, y5]
theorem rln4 (g : Nat) (P : Int) (c : Dy × Dy) (w : World) (hk : Wk w g P false 38) (h : Bdd P = some c) :
  Calls Tryz.prog 25 #[.pointer (some ⟨g, 0, none⟩)] w (Gf c w) := by
 obtain ⟨a, ha, h⟩ := bind_some h
 obtain ⟨b, hb, h⟩ := bind_some h
 obtain ⟨d, hd, h⟩ := bind_some h
 obtain ⟨e, he, h⟩ := bind_some h
 obtain ⟨a1', hu3, ha⟩ := bind_some ha
 obtain ⟨a2', hv3, ha⟩ := bind_some ha
 obtain ⟨b1', hu4, hb⟩ := bind_some hb
 obtain ⟨b2', hv4, hb⟩ := bind_some hb
 obtain ⟨d1', hu5, hd⟩ := bind_some hd
 obtain ⟨d2', hv5, hd⟩ := bind_some hd
 have bw : Below w.heap.size w (w.alloc (.cells #[.bool false, .slice none 0 0, .int .i64 0, .bool false, .slice none 0 0, .int .i64 0] 28)) := Ba (Bb w) _
 have xr := Bg w #[.bool false, .slice none 0 0, .int .i64 0, .bool false, .slice none 0 0, .int .i64 0] 28
 go_enter Tryz.func25, Tryz.ntmps25
 go_wp2_with fail
 refine (Ql g P a1' 18 _ (by omega) (by omega) (hk.later bw) hu3).mono ?_
 rintro r1 w1 ⟨A1, n1, i1, A2, n2, i2, rfl, a1, a2, h1⟩
 have bw := Bc bw h1
 have xr := xr.later h1
 go_wp2_with fail
 refine (Jp g P 26 (1) false a2' _ (hk.later bw) (by omega) (by omega) (by decide) hv3).mono ?_
 rintro r2 w2 ⟨A3, n3, i3, A4, n4, i4, rfl, a3, a4, h2⟩
 have bw := Bc bw h2
 have xr := xr.later h2
 have a1 := a1.below h2
 have a2 := a2.below h2
 go_wp2_with fail
 refine (Bci g P a a1' a2' A1 A2 n1 i1 n2 i2 A3 A4 n3 i3 n4 i4 _ a1 a2 a3 a4 (hk.later bw) ha).mono ?_
 rintro r3 w3 ⟨B3, m3, j3, C3, k3, l3, rfl, p3, q3, h3⟩
 have bw := Bc bw h3
 have xr := xr.later h3
 have ba : Below w3.heap.size w3 (w3.alloc (.cells #[.bool false, .slice none 0 0, .int .i64 0, .bool false, .slice none 0 0, .int .i64 0] 28)) := Ba (Bb _) _
 have xn := Bg w3 #[.bool false, .slice none 0 0, .int .i64 0, .bool false, .slice none 0 0, .int .i64 0] 28
 have lr := xr.lt
 have p3 := p3.below ba
 have q3 := q3.below ba
 have bw := Bc bw ba
 have xr := xr.later ba
 clear a1 a2 a3 a4 h1 h2 h3 ba
 go_wp2_with (refine Bt rfl _ _ rfl rfl w3.heap.size _ B3 m3 j3 _ _ C3 k3 l3 _ xn rfl rfl (fun W3 x3 gW => ?_); have p3 := p3.grown xn Bh gW; have q3 := q3.grown xn Bh gW; have xr := xr.grown gW (by omega); have bw := Bl bw gW (by omega))
 clear xn gW
 have hlt3 : w.heap.size < w3.heap.size := lr
 generalize w3.heap.size = s3 at *
 clear lr 
 refine (Ql g P b1' 2 _ (by omega) (by omega) (hk.later bw) hu4).mono ?_
 rintro r1 w1 ⟨A1, n1, i1, A2, n2, i2, rfl, a1, a2, h1⟩
 have bw := Bc bw h1
 have xr := xr.later h1
 have x3 := x3.later h1
 have p3 := p3.below h1
 have q3 := q3.below h1
 go_wp2_with fail
 refine (Jp g P 4801 (1) false b2' _ (hk.later bw) (by omega) (by omega) (by decide) hv4).mono ?_
 rintro r2 w2 ⟨A3, n3, i3, A4, n4, i4, rfl, a3, a4, h2⟩
 have bw := Bc bw h2
 have xr := xr.later h2
 have x3 := x3.later h2
 have p3 := p3.below h2
 have q3 := q3.below h2
 have a1 := a1.below h2
 have a2 := a2.below h2
 go_wp2_with fail
 refine (Bci g P b b1' b2' A1 A2 n1 i1 n2 i2 A3 A4 n3 i3 n4 i4 _ a1 a2 a3 a4 (hk.later bw) hb).mono ?_
 rintro r3 w3 ⟨B4, m4, j4, C4, k4, l4, rfl, p4, q4, h3⟩
 have bw := Bc bw h3
 have xr := xr.later h3
 have x3 := x3.later h3
 have p3 := p3.below h3
 have q3 := q3.below h3
 have ba : Below w3.heap.size w3 (w3.alloc (.cells #[.bool false, .slice none 0 0, .int .i64 0, .bool false, .slice none 0 0, .int .i64 0] 28)) := Ba (Bb _) _
 have xn := Bg w3 #[.bool false, .slice none 0 0, .int .i64 0, .bool false, .slice none 0 0, .int .i64 0] 28
 have lr := xr.lt
 have lx3 := x3.lt
 have p4 := p4.below ba
 have q4 := q4.below ba
 have bw := Bc bw ba
 have xr := xr.later ba
 have x3 := x3.later ba
 have p3 := p3.below ba
 have q3 := q3.below ba
 clear a1 a2 a3 a4 h1 h2 h3 ba
 go_wp2_with (refine Bt rfl _ _ rfl rfl w3.heap.size _ B4 m4 j4 _ _ C4 k4 l4 _ xn rfl rfl (fun W4 x4 gW => ?_); have p4 := p4.grown xn Bh gW; have q4 := q4.grown xn Bh gW; have xr := xr.grown gW (by omega); have x3 := x3.grown gW (by omega); have p3 := p3.grown xn Bh gW; have q3 := q3.grown xn Bh gW; have bw := Bl bw gW (by omega))
 clear xn gW
 have hlt4 : w.heap.size < w3.heap.size := lr
 generalize w3.heap.size = s4 at *
 clear lr lx3
 refine (Ql g P d1' 8 _ (by omega) (by omega) (hk.later bw) hu5).mono ?_
 rintro r1 w1 ⟨A1, n1, i1, A2, n2, i2, rfl, a1, a2, h1⟩
 have bw := Bc bw h1
 have xr := xr.later h1
 have x3 := x3.later h1
 have p3 := p3.below h1
 have q3 := q3.below h1
 have x4 := x4.later h1
 have p4 := p4.below h1
 have q4 := q4.below h1
 go_wp2_with fail
 refine (Jp g P 8749 (1) false d2' _ (hk.later bw) (by omega) (by omega) (by decide) hv5).mono ?_
 rintro r2 w2 ⟨A3, n3, i3, A4, n4, i4, rfl, a3, a4, h2⟩
 have bw := Bc bw h2
 have xr := xr.later h2
 have x3 := x3.later h2
 have p3 := p3.below h2
 have q3 := q3.below h2
 have x4 := x4.later h2
 have p4 := p4.below h2
 have q4 := q4.below h2
 have a1 := a1.below h2
 have a2 := a2.below h2
 go_wp2_with fail
 refine (Bci g P d d1' d2' A1 A2 n1 i1 n2 i2 A3 A4 n3 i3 n4 i4 _ a1 a2 a3 a4 (hk.later bw) hd).mono ?_
 rintro r3 w3 ⟨B5, m5, j5, C5, k5, l5, rfl, p5, q5, h3⟩
 have bw := Bc bw h3
 have xr := xr.later h3
 have x3 := x3.later h3
 have p3 := p3.below h3
 have q3 := q3.below h3
 have x4 := x4.later h3
 have p4 := p4.below h3
 have q4 := q4.below h3
 have ba : Below w3.heap.size w3 (w3.alloc (.cells #[.bool false, .slice none 0 0, .int .i64 0, .bool false, .slice none 0 0, .int .i64 0] 28)) := Ba (Bb _) _
 have xn := Bg w3 #[.bool false, .slice none 0 0, .int .i64 0, .bool false, .slice none 0 0, .int .i64 0] 28
 have lr := xr.lt
 have lx3 := x3.lt
 have lx4 := x4.lt
 have p5 := p5.below ba
 have q5 := q5.below ba
 have bw := Bc bw ba
 have xr := xr.later ba
 have x3 := x3.later ba
 have p3 := p3.below ba
 have q3 := q3.below ba
 have x4 := x4.later ba
 have p4 := p4.below ba
 have q4 := q4.below ba
 clear a1 a2 a3 a4 h1 h2 h3 ba
 go_wp2_with (refine Bt rfl _ _ rfl rfl w3.heap.size _ B5 m5 j5 _ _ C5 k5 l5 _ xn rfl rfl (fun W5 x5 gW => ?_); have p5 := p5.grown xn Bh gW; have q5 := q5.grown xn Bh gW; have xr := xr.grown gW (by omega); have x3 := x3.grown gW (by omega); have p3 := p3.grown xn Bh gW; have q3 := q3.grown xn Bh gW; have x4 := x4.grown gW (by omega); have p4 := p4.grown xn Bh gW; have q4 := q4.grown xn Bh gW; have bw := Bl bw gW (by omega))
 clear xn gW
 have hlt5 : w.heap.size < w3.heap.size := lr
 generalize w3.heap.size = s5 at *
 clear lr lx3 lx4
 have bD : Below W5.heap.size W5 W5.drew := Below.drew (Bb _)
 refine wp_region_noPanic ?_
 refine wp_region_held_drew (S := fun w' => (w'.cell? ⟨s3, 0, none⟩ = some (.bool (a).1.neg) ∧ w'.cell? ⟨s3, 1, none⟩ = some (.slice B3 m3 j3) ∧ w'.cell? ⟨s3, 2, none⟩ = some (.int .i64 (a).1.e) ∧ w'.cell? ⟨s3, 3, none⟩ = some (.bool (a).2.neg) ∧ w'.cell? ⟨s3, 4, none⟩ = some (.slice C3 k3 l3) ∧ w'.cell? ⟨s3, 5, none⟩ = some (.int .i64 (a).2.e)) ∧ (w'.cell? ⟨s4, 0, none⟩ = some (.bool (b).1.neg) ∧ w'.cell? ⟨s4, 1, none⟩ = some (.slice B4 m4 j4) ∧ w'.cell? ⟨s4, 2, none⟩ = some (.int .i64 (b).1.e) ∧ w'.cell? ⟨s4, 3, none⟩ = some (.bool (b).2.neg) ∧ w'.cell? ⟨s4, 4, none⟩ = some (.slice C4 k4 l4) ∧ w'.cell? ⟨s4, 5, none⟩ = some (.int .i64 (b).2.e)) ∧ (w'.cell? ⟨s5, 0, none⟩ = some (.bool (d).1.neg) ∧ w'.cell? ⟨s5, 1, none⟩ = some (.slice B5 m5 j5) ∧ w'.cell? ⟨s5, 2, none⟩ = some (.int .i64 (d).1.e) ∧ w'.cell? ⟨s5, 3, none⟩ = some (.bool (d).2.neg) ∧ w'.cell? ⟨s5, 4, none⟩ = some (.slice C5 k5 l5) ∧ w'.cell? ⟨s5, 5, none⟩ = some (.int .i64 (d).2.e))) (by kernel_rfl) ⟨x3.six bD, x4.six bD, x5.six bD⟩ (fun hHeld => ?_)
 have bw := Bc bw bD
 have xr := xr.later bD
 have x3 := x3.later bD
 have p3 := p3.below bD
 have q3 := q3.below bD
 have x4 := x4.later bD
 have p4 := p4.below bD
 have q4 := q4.below bD
 have x5 := x5.later bD
 have p5 := p5.below bD
 have q5 := q5.below bD
 (refine Bj 0 24 rfl ?_; (try simp only [Act.put, Bf]))
 (refine Bj 1 25 rfl ?_; (try simp only [Act.put, Bf]))
 (refine Bj 2 26 rfl ?_; (try simp only [Act.put, Bf]))
 (refine Bj 3 27 rfl ?_; (try simp only [Act.put, Bf]))
 (refine Bj 5 29 rfl ?_; (try simp only [Act.put, Bf]))
 refine Bw 4 rfl (fun K hK => ?_)
 go_simp
 go_at_call 15
 refine (zSub g P e a b B3 C3 m3 j3 k3 l3 B4 C4 m4 j4 k4 l4 _ p3 q3 p4 q4 (hk.later bw) he).mono ?_
 rintro r6 w6 ⟨A1, n1, i1, A2, n2, i2, rfl, a1, a2, h6⟩
 have bw := Bc bw h6
 have xr := xr.later h6
 have x3 := x3.later h6
 have p3 := p3.below h6
 have q3 := q3.below h6
 have x4 := x4.later h6
 have p4 := p4.below h6
 have q4 := q4.below h6
 have x5 := x5.later h6
 have p5 := p5.below h6
 have q5 := q5.below h6
 (refine hK.out _ _ (⟨x3.six (Bb _), x4.six (Bb _), x5.six (Bb _)⟩) (fun _ => ?_); clear hHeld hK K; rename_i hHeld; (try simp only [Act.put, Bf]))
 refine Bw 6 rfl (fun K hK => ?_)
 go_simp
 go_at_call 13
 refine (Bcg g P c e d A1 A2 n1 i1 n2 i2 B5 C5 m5 j5 k5 l5 _ a1 a2 p5 q5 (hk.later bw) h).mono ?_
 rintro r7 w7 ⟨A3, n3, i3, A4, n4, i4, rfl, a3, a4, h7⟩
 have bw := Bc bw h7
 have xr := xr.later h7
 have x3 := x3.later h7
 have p3 := p3.below h7
 have q3 := q3.below h7
 have x4 := x4.later h7
 have p4 := p4.below h7
 have q4 := q4.below h7
 have x5 := x5.later h7
 have p5 := p5.below h7
 have q5 := q5.below h7
 (refine hK.out _ _ (⟨x3.six (Bb _), x4.six (Bb _), x5.six (Bb _)⟩) (fun _ => ?_); clear hHeld hK K; rename_i hHeld; (try simp only [Act.put, Bf]))
 refine Bw 7 rfl (fun K hK => ?_)
 refine Bz rfl _ _ rfl rfl w.heap.size _ A3 n3 i3 _ _ A4 n4 i4 _ xr rfl rfl (fun W6 y6 g6 => ?_)
 have x3 := x3.grown g6 (by omega)
 have x4 := x4.grown g6 (by omega)
 have x5 := x5.grown g6 (by omega)
 have a3 := a3.grown xr Bh g6
 have a4 := a4.grown xr Bh g6
 have bw := Bl bw g6 (Nat.le_refl _)
 (refine hK.out _ _ (⟨x3.six (Bb _), x4.six (Bb _), x5.six (Bb _)⟩) (fun _ => ?_); clear hHeld hK K; rename_i hHeld; (try simp only [Act.put, Bf]))
 refine Cn ?_
 clear hHeld
 obtain ⟨y0, y1, y2, y3, y4, y5, -⟩ := y6.cell6
 go_wp2_with fail
 refine bodyPost_ret (v := _) ?_ rfl ⟨_, _, _, _, _, _, rfl, a3, a4, bw⟩
 simp [results, Tryz.results25, go_sem, y0, y1, y2, y3, y4, y5]
end Go.Proofs.YteffemhapnbaeaaGreatDoor
