/- Walks and laws that the claim's row needs. No conditions. -/
import Derived.Deep.RegionHeld3
import Derived.Test.YteffemhapnbaeaaGreatDoorQax
import Derived.Test.YteffemhapnbaeaaGreatDoorQaw
import Derived.Test.YteffemhapnbaeaaGreatDoorQay
import Derived.Test.YteffemhapnbaeaaGreatDoorQas
set_option maxHeartbeats 16000000
set_option linter.unusedSimpArgs false
set_option linter.unusedVariables false
namespace Go.Proofs.YteffemhapnbaeaaGreatDoor
open Go.RowKit Num
variable {tw : TypeId}
set_option maxRecDepth 100000
theorem Bfv {X : Dy × Dy} (h1 : Dq X.1 = true) (h2 : Dq X.2 = true) (h : ¬ (X.1.m = 0 ∧ X.2.m = 0)) : -100000 ≤ Fv X ∧ Fv X ≤ 101600 := by
 obtain ⟨a0, a1, a2, a3⟩ := Cg h1
 obtain ⟨b0, b1, b2, b3⟩ := Cg h2
 have c := Ku h1
 have d := Ku h2
 unfold Fv Ml
 by_cases g1 : X.1.m = 0
 ·rw [if_pos g1, if_neg (fun g2 => h ⟨g1, g2⟩)]; omega
 ·rw [if_neg g1]
  split <;> omega
theorem sesum (g s2 s3 s4 : Nat) (P : Int) (turn : Bool) (sq t c : Dy × Dy) (B B' : Option Addr) (m j m' j' : Nat) (A A' : Option Addr) (n i n' i' : Nat) (w : World) (hk : Wk w g P false tw) (hT : Tz w)
  (x2 : Box w s2 #[.pointer (some ⟨g, 0, none⟩)] 40) (x3 : Box w s3 #[.bool (sq).1.neg, .slice B m j, .int .i64 (sq).1.e, .bool (sq).2.neg, .slice B' m' j', .int .i64 (sq).2.e] 28) (x4 : Box w s4 #[.bool turn] 4)
  (q1 : Arr w B m j (wd sq.1.m)) (q2 : Arr w B' m' j' (wd sq.2.m)) (t1 : Arr w A n i (wd t.1.m)) (t2 : Arr w A' n' i' (wd t.2.m)) (f : Nat) (hf : f ≤ 100000) (h : Rj P (Lw P turn sq) f 1 t t = some c) :
  Calls Tryz.prog 123 #[.pointer (some ⟨g, 0, none⟩), (.agg #[.bool (t).1.neg, .slice A n i, .int .i64 (t).1.e, .bool (t).2.neg, .slice A' n' i', .int .i64 (t).2.e]), (.func (.func 124) #[] #[.pointer (some ⟨s2, 0, none⟩), .pointer (some ⟨s3, 0, none⟩), .pointer (some ⟨s4, 0, none⟩)])] w (Gf c w) := by
 have b0 : Below w.heap.size w ((w.alloc (.cells #[.bool (t).1.neg, .slice A n i, .int .i64 (t).1.e, .bool (t).2.neg, .slice A' n' i', .int .i64 (t).2.e] 28)).alloc (.cells #[.bool false, .slice none 0 0, .int .i64 0, .bool false, .slice none 0 0, .int .i64 0] 28)) := Ba (Ba (Bb w) _) _
 have xt := (Bg w #[.bool (t).1.neg, .slice A n i, .int .i64 (t).1.e, .bool (t).2.neg, .slice A' n' i', .int .i64 (t).2.e] 28).later (Ba (Bb _) (.cells #[.bool false, .slice none 0 0, .int .i64 0, .bool false, .slice none 0 0, .int .i64 0] 28))
 have xr := Bg (w.alloc (.cells #[.bool (t).1.neg, .slice A n i, .int .i64 (t).1.e, .bool (t).2.neg, .slice A' n' i', .int .i64 (t).2.e] 28)) #[.bool false, .slice none 0 0, .int .i64 0, .bool false, .slice none 0 0, .int .i64 0] 28
 rw [show (w.alloc (.cells #[.bool (t).1.neg, .slice A n i, .int .i64 (t).1.e, .bool (t).2.neg, .slice A' n' i', .int .i64 (t).2.e] 28)).heap.size = w.heap.size + 1 by simp] at xr
 have vs : ((w.alloc (.cells #[.bool (t).1.neg, .slice A n i, .int .i64 (t).1.e, .bool (t).2.neg, .slice A' n' i', .int .i64 (t).2.e] 28)).alloc (.cells #[.bool false, .slice none 0 0, .int .i64 0, .bool false, .slice none 0 0, .int .i64 0] 28)).heap.size = w.heap.size + 1 + 1 := by simp
 generalize hW : (w.alloc (.cells #[.bool (t).1.neg, .slice A n i, .int .i64 (t).1.e, .bool (t).2.neg, .slice A' n' i', .int .i64 (t).2.e] 28)).alloc (.cells #[.bool false, .slice none 0 0, .int .i64 0, .bool false, .slice none 0 0, .int .i64 0] 28) = V at *
 have HW := Be hW
 have VS := Be vs
 have bw := Below.drew b0
 clear hW vs
 go_enter Tryz.func123, Tryz.ntmps123
 go_wp2_with fail
 rw [HW.out]
 refine wp_region_noPanic ?_
 refine wp_region_held_drew (S := fun w' => w'.cell? ⟨w.heap.size, 0, none⟩ = some (.bool t.1.neg) ∧ w'.cell? ⟨w.heap.size, 1, none⟩ = some (.slice A n i) ∧ w'.cell? ⟨w.heap.size, 2, none⟩ = some (.int .i64 t.1.e) ∧ w'.cell? ⟨w.heap.size, 3, none⟩ = some (.bool t.2.neg) ∧ w'.cell? ⟨w.heap.size, 4, none⟩ = some (.slice A' n' i') ∧ w'.cell? ⟨w.heap.size, 5, none⟩ = some (.int .i64 t.2.e)) (by kernel_rfl) (xt.six (Below.drew (Bb _))) (fun hHeld => ?_)
 (refine Bj 0 11 rfl ?_; (try simp only [Act.put, Bf]))
 (refine Bj 1 12 rfl ?_; (try simp only [Act.put, Bf]))
 have xz := (Bg V #[.bool false, .slice none 0 0, .int .i64 0, .bool false, .slice none 0 0, .int .i64 0] 28).later (Ba (Bb _) (.cells #[.bool false, .slice none 0 0, .int .i64 0, .bool false, .slice none 0 0, .int .i64 0] 28))
 have xz := xz.later (Below.drew (Bb _))
 have xy := (Bg (V.alloc (.cells #[.bool false, .slice none 0 0, .int .i64 0, .bool false, .slice none 0 0, .int .i64 0] 28)) #[.bool false, .slice none 0 0, .int .i64 0, .bool false, .slice none 0 0, .int .i64 0] 28).later (Below.drew (Bb _))
 rw [show (V.alloc (.cells #[.bool false, .slice none 0 0, .int .i64 0, .bool false, .slice none 0 0, .int .i64 0] 28)).heap.size = V.heap.size + 1 by simp] at xy
 have b5 : Below V.heap.size V ((V.alloc (.cells #[.bool false, .slice none 0 0, .int .i64 0, .bool false, .slice none 0 0, .int .i64 0] 28)).alloc (.cells #[.bool false, .slice none 0 0, .int .i64 0, .bool false, .slice none 0 0, .int .i64 0] 28)).drew := Below.drew (Ba (Ba (Bb _) _) _)
 have S0 : ∀ kx ky, (kx = V.heap.size ∧ ky = V.heap.size + 1 ∨ ky = V.heap.size ∧ kx = V.heap.size + 1) → Box ((V.alloc (.cells #[.bool false, .slice none 0 0, .int .i64 0, .bool false, .slice none 0 0, .int .i64 0] 28)).alloc (.cells #[.bool false, .slice none 0 0, .int .i64 0, .bool false, .slice none 0 0, .int .i64 0] 28)).drew kx #[.bool false, .slice none 0 0, .int .i64 0, .bool false, .slice none 0 0, .int .i64 0] 28 ∧ Box ((V.alloc (.cells #[.bool false, .slice none 0 0, .int .i64 0, .bool false, .slice none 0 0, .int .i64 0] 28)).alloc (.cells #[.bool false, .slice none 0 0, .int .i64 0, .bool false, .slice none 0 0, .int .i64 0] 28)).drew ky #[.bool false, .slice none 0 0, .int .i64 0, .bool false, .slice none 0 0, .int .i64 0] 28 ∧ kx ≠ ky ∧ V.heap.size ≤ kx ∧ V.heap.size ≤ ky := by
  rintro kx ky (⟨rfl, rfl⟩ | ⟨rfl, rfl⟩)
  ·exact ⟨xz, xy, by omega, by omega, by omega⟩
  ·exact ⟨xy, xz, by omega, by omega, by omega⟩
 have S0 := Be S0
 have xt5 := xt.later b5
 have xr := xr.later b5
 have bw := Bc b0 b5
 have t1 := t1.below bw
 have t2 := t2.below bw
 clear xz xy
 have sz := b0.size
 have vq : w.heap.size + 1 < V.heap.size := by have := VS.out; omega
 (refine wpAnyH_ready (rs := [2, 3]) (by kernel_rfl) (by simp) ?_; refine AllReadyH.cons rfl (fun K hK => ?_) (AllReadyH.cons rfl (fun K hK => ?_) AllReadyH.nil))
 focus
  go_simp
  have xt3 := xt.later (Ba (Bb V) (.cells #[.bool false, .slice none 0 0, .int .i64 0, .bool false, .slice none 0 0, .int .i64 0] 28))
  (refine hK.out _ _ (xt3.six (Below.drew (Bb _))) (fun _ => ?_); clear hHeld hK K; rename_i hHeld; (try simp only [Act.put, Bf]))
  refine Bw 3 rfl (fun K hK => ?_)
  go_simp
  (refine hK.out _ _ (xt.six b5) (fun _ => ?_); clear hHeld hK K; rename_i hHeld; (try simp only [Act.put, Bf]))
  obtain ⟨xx, xy, hne, gx, gy⟩ := S0.out V.heap.size (V.heap.size + 1) (.inl ⟨rfl, rfl⟩)
  have rx := Nat.lt_of_lt_of_le vq gx
  have ry := Nat.lt_of_lt_of_le vq gy
  generalize hk2 : V.heap.size + 1 = ky at xy hne gy ry ⊢
  generalize hk1 : V.heap.size = kx at xx hne gx gy rx ⊢
  generalize ((V.alloc (.cells #[.bool false, .slice none 0 0, .int .i64 0, .bool false, .slice none 0 0, .int .i64 0] 28)).alloc (.cells #[.bool false, .slice none 0 0, .int .i64 0, .bool false, .slice none 0 0, .int .i64 0] 28)).drew = W5 at *
  (refine Bw 4 rfl (fun K hK => ?_); refine Bz rfl _ _ rfl rfl kx _ A n i _ _ A' n' i' _ xx rfl rfl (fun W6 y6 g6 => ?_); have xt5 := xt5.grown g6 (by omega); have xr := xr.grown g6 (by omega); have xy := xy.grown g6 (by omega); have t1 := t1.grown xx Bh g6; have t2 := t2.grown xx Bh g6; have bw := Bl bw g6 (by omega); (refine hK.out _ _ (xt5.six (Bb _)) (fun _ => ?_); clear hHeld hK K; rename_i hHeld; (try simp only [Act.put, Bf])); refine Bw 5 rfl (fun K hK => ?_); refine Bz rfl _ _ rfl rfl ky _ A n i _ _ A' n' i' _ xy rfl rfl (fun W7 y7 g7 => ?_); have xt5 := xt5.grown g7 (by omega); have xr := xr.grown g7 (by omega); have y6 := y6.grown g7 (by omega); have t1 := t1.grown xy Bh g7; have t2 := t2.grown xy Bh g7; have bw := Bl bw g7 (by omega); (refine hK.out _ _ (xt5.six (Bb _)) (fun _ => ?_); clear hHeld hK K; rename_i hHeld; (try simp only [Act.put, Bf])); refine Cn ?_)
 rotate_left
 focus
  go_simp
  have xt3 := xt.later (Ba (Bb V) (.cells #[.bool false, .slice none 0 0, .int .i64 0, .bool false, .slice none 0 0, .int .i64 0] 28))
  (refine hK.out _ _ (xt3.six (Below.drew (Bb _))) (fun _ => ?_); clear hHeld hK K; rename_i hHeld; (try simp only [Act.put, Bf]))
  refine Bw 2 rfl (fun K hK => ?_)
  go_simp
  (refine hK.out _ _ (xt.six b5) (fun _ => ?_); clear hHeld hK K; rename_i hHeld; (try simp only [Act.put, Bf]))
  obtain ⟨xx, xy, hne, gx, gy⟩ := S0.out (V.heap.size + 1) V.heap.size (.inr ⟨rfl, rfl⟩)
  have rx := Nat.lt_of_lt_of_le vq gx
  have ry := Nat.lt_of_lt_of_le vq gy
  generalize hk2 : V.heap.size + 1 = kx at xx hne gx rx ⊢
  generalize hk1 : V.heap.size = ky at xy hne gx gy ry ⊢
  generalize ((V.alloc (.cells #[.bool false, .slice none 0 0, .int .i64 0, .bool false, .slice none 0 0, .int .i64 0] 28)).alloc (.cells #[.bool false, .slice none 0 0, .int .i64 0, .bool false, .slice none 0 0, .int .i64 0] 28)).drew = W5 at *
  (refine Bw 4 rfl (fun K hK => ?_); refine Bz rfl _ _ rfl rfl kx _ A n i _ _ A' n' i' _ xx rfl rfl (fun W6 y6 g6 => ?_); have xt5 := xt5.grown g6 (by omega); have xr := xr.grown g6 (by omega); have xy := xy.grown g6 (by omega); have t1 := t1.grown xx Bh g6; have t2 := t2.grown xx Bh g6; have bw := Bl bw g6 (by omega); (refine hK.out _ _ (xt5.six (Bb _)) (fun _ => ?_); clear hHeld hK K; rename_i hHeld; (try simp only [Act.put, Bf])); refine Bw 5 rfl (fun K hK => ?_); refine Bz rfl _ _ rfl rfl ky _ A n i _ _ A' n' i' _ xy rfl rfl (fun W7 y7 g7 => ?_); have xt5 := xt5.grown g7 (by omega); have xr := xr.grown g7 (by omega); have y6 := y6.grown g7 (by omega); have t1 := t1.grown xy Bh g7; have t2 := t2.grown xy Bh g7; have bw := Bl bw g7 (by omega); (refine hK.out _ _ (xt5.six (Bb _)) (fun _ => ?_); clear hHeld hK K; rename_i hHeld; (try simp only [Act.put, Bf])); refine Cn ?_)
 all_goals
  clear hHeld xx xy S0 b5 xt vq
  obtain ⟨u0, u1, u2, u3, u4, u5, -⟩ := y6.cell6
  obtain ⟨v0, v1, v2, v3, v4, v5, -⟩ := y7.cell6
  go_wp2_with fail
  go_loopw [9] (fun vk wr => ∃ (f1 : Nat) (k : Int) (s u : Dy × Dy) (C C' D D' : Option Addr) (l e l' e' o r o' r' : Nat), vk = .int .i64 k ∧ 1 ≤ k ∧ k + f1 = f + 1 ∧ Hid (Rj P (Lw P turn sq) f1 k s u = some c) ∧
   Box wr kx #[.bool (s).1.neg, .slice C l e, .int .i64 (s).1.e, .bool (s).2.neg, .slice C' l' e', .int .i64 (s).2.e] 28 ∧ Box wr ky #[.bool (u).1.neg, .slice D o r, .int .i64 (u).1.e, .bool (u).2.neg, .slice D' o' r', .int .i64 (u).2.e] 28 ∧ Arr wr C l e (wd s.1.m) ∧ Arr wr C' l' e' (wd s.2.m) ∧ Arr wr D o r (wd u.1.m) ∧ Arr wr D' o' r' (wd u.2.m) ∧ Box wr (w.heap.size + 1) #[.bool false, .slice none 0 0, .int .i64 0, .bool false, .slice none 0 0, .int .i64 0] 28 ∧ Below w.heap.size w wr) (fun vk _ => f + 1 - (intOf vk).toNat)
  case atStart => exact ⟨f, 1, t, t, A, A', A, A', n, i, n', i', n, i, n', i', rfl, by omega, by omega, Be h, y6, y7, t1, t2, t1, t2, xr, bw⟩
  case round =>
   obtain ⟨f1, k, s, u, C, C', D, D', l, e, l', e', o, r, o', r', rfl, hk1, hkf, hs, xs, xu, d1, d2, d3, d4, xr, hbw⟩ := hrel
   cases f1 with
   | zero => exact absurd hs.out (by simp [Rj])
   | succ f2 =>
    have hs := hs.out
    unfold Rj at hs
    obtain ⟨hc, hs⟩ := Cw hs
    simp only [Bool.and_eq_true] at hc
    obtain ⟨hp, rs, ru⟩ := hc
    obtain ⟨g0, g1, -⟩ := (hk.later hbw).cells
    have SZ1 : ∀ w', Below wr.heap.size wr w' → Calls Tryz.prog 144 #[(.agg #[.bool (s).1.neg, .slice C l e, .int .i64 (s).1.e, .bool (s).2.neg, .slice C' l' e', .int .i64 (s).2.e])] w' fun r w'' => r = .returned (.int .i64 (Fv s)) ∧ Below wr.heap.size wr w'' := fun w' hb => (Zn s C C' l e l' e' w' (d1.below hb) (d2.below hb) (Bn rs).2.1 (Bn rs).2.2).mono fun r w'' ⟨h1, h2⟩ => ⟨h1, Bc hb h2⟩
    have SZ2 : ∀ w', Below wr.heap.size wr w' → Calls Tryz.prog 144 #[(.agg #[.bool (u).1.neg, .slice D o r, .int .i64 (u).1.e, .bool (u).2.neg, .slice D' o' r', .int .i64 (u).2.e])] w' fun r w'' => r = .returned (.int .i64 (Fv u)) ∧ Below wr.heap.size wr w'' := fun w' hb => (Zn u D D' o r o' r' w' (d3.below hb) (d4.below hb) (Bn ru).2.1 (Bn ru).2.2).mono fun r w'' ⟨h1, h2⟩ => ⟨h1, Bc hb h2⟩
    have SZ1 := Be SZ1
    have SZ2 := Be SZ2
    have KS : ∀ w', Below wr.heap.size wr w' → ((w'.cell? ⟨kx, 0, none⟩ = some (.bool (s).1.neg) ∧ w'.cell? ⟨kx, 1, none⟩ = some (.slice C l e) ∧ w'.cell? ⟨kx, 2, none⟩ = some (.int .i64 (s).1.e) ∧ w'.cell? ⟨kx, 3, none⟩ = some (.bool (s).2.neg) ∧ w'.cell? ⟨kx, 4, none⟩ = some (.slice C' l' e') ∧ w'.cell? ⟨kx, 5, none⟩ = some (.int .i64 (s).2.e)) ∧ (w'.cell? ⟨ky, 0, none⟩ = some (.bool (u).1.neg) ∧ w'.cell? ⟨ky, 1, none⟩ = some (.slice D o r) ∧ w'.cell? ⟨ky, 2, none⟩ = some (.int .i64 (u).1.e) ∧ w'.cell? ⟨ky, 3, none⟩ = some (.bool (u).2.neg) ∧ w'.cell? ⟨ky, 4, none⟩ = some (.slice D' o' r') ∧ w'.cell? ⟨ky, 5, none⟩ = some (.int .i64 (u).2.e)) ∧ w'.cell? ⟨g, 0, none⟩ = some (.int .i64 P) ∧ w'.cell? ⟨g, 1, none⟩ = some (.bool false)) := fun w' hb => ⟨xs.six hb, xu.six hb, ((hk.later hbw).later hb).cells.1, ((hk.later hbw).later hb).cells.2.1⟩
    have KS := Be KS
    have z1 := Sf (Bn rs).2.1
    have z2 := Sf (Bn rs).2.2
    obtain ⟨p0, p1⟩ := Gd hp
    have ez : IntKind.i64.wrap (Fv s - P) = Fv s - P := by unfold Fv; rw [IntKind.wrap_i64]; omega
    have nb : ¬ (u.1.m = 0 ∧ u.2.m = 0) → IntKind.i64.wrap (Fv u + 1) = Fv u + 1 ∧ -300000 ≤ Fv u + 1 ∧ Fv u + 1 ≤ 300000 := fun h0 => by
     have := Bfv (Bn ru).2.1 (Bn ru).2.2 h0
     rw [IntKind.wrap_i64]
     omega
    generalize Fv s = zs at *
    generalize hzu : Fv u = zu at *
    have NB := Be nb
    have HZ := Be hzu
    clear nb hzu
    go_wp2_with fail
    go_region_held3 (fun w' => ((w'.cell? ⟨kx, 0, none⟩ = some (.bool (s).1.neg) ∧ w'.cell? ⟨kx, 1, none⟩ = some (.slice C l e) ∧ w'.cell? ⟨kx, 2, none⟩ = some (.int .i64 (s).1.e) ∧ w'.cell? ⟨kx, 3, none⟩ = some (.bool (s).2.neg) ∧ w'.cell? ⟨kx, 4, none⟩ = some (.slice C' l' e') ∧ w'.cell? ⟨kx, 5, none⟩ = some (.int .i64 (s).2.e)) ∧ (w'.cell? ⟨ky, 0, none⟩ = some (.bool (u).1.neg) ∧ w'.cell? ⟨ky, 1, none⟩ = some (.slice D o r) ∧ w'.cell? ⟨ky, 2, none⟩ = some (.int .i64 (u).1.e) ∧ w'.cell? ⟨ky, 3, none⟩ = some (.bool (u).2.neg) ∧ w'.cell? ⟨ky, 4, none⟩ = some (.slice D' o' r') ∧ w'.cell? ⟨ky, 5, none⟩ = some (.int .i64 (u).2.e)) ∧ w'.cell? ⟨g, 0, none⟩ = some (.int .i64 P) ∧ w'.cell? ⟨g, 1, none⟩ = some (.bool false))) (first | (refine KS.out _ ?_; (repeat with_reducible (first | assumption | exact Bb _ | refine Bd ?_ _ | apply Below.drew | refine Ba ?_ _)))) (first | (go_at_call_of 144 (Value.agg #[Value.bool (s).1.neg, Value.slice C l e, Value.int .i64 (s).1.e, Value.bool (s).2.neg, Value.slice C' l' e', Value.int .i64 (s).2.e]); refine (SZ1.out _ ?_).mono ?_; (repeat with_reducible (first | assumption | exact Bb _ | refine Bd ?_ _ | apply Below.drew | refine Ba ?_ _)); rintro r w5 ⟨rfl, hb5⟩) | (go_at_call_of 144 (Value.agg #[Value.bool (u).1.neg, Value.slice D o r, Value.int .i64 (u).1.e, Value.bool (u).2.neg, Value.slice D' o' r', Value.int .i64 (u).2.e]); refine (SZ2.out _ ?_).mono ?_; (repeat with_reducible (first | assumption | exact Bb _ | refine Bd ?_ _ | apply Below.drew | refine Ba ?_ _)); rintro r w5 ⟨rfl, hb5⟩))
    all_goals
     have xs := xs.later hb5
     have xu := xu.later hb5
     have xr := xr.later hb5
     have d1 := d1.below hb5
     have d2 := d2.below hb5
     have d3 := d3.below hb5
     have d4 := d4.below hb5
     have hbw := Bc hbw hb5
     by_cases hz : zs - P < zu
     ·have dz : decide (zs - P < zu) = true := decide_eq_true hz
      rw [if_pos hz] at hs
      obtain ⟨⟨u', v'⟩, hn, hs⟩ := bind_some hs
      obtain ⟨s', ha, hs⟩ := bind_some hs
      simp only at ha hs
      have ba : Below w5.heap.size w5 (w5.alloc (.cells #[.bool false, .slice none 0 0, .int .i64 0, .bool false, .slice none 0 0, .int .i64 0] 28)) := Ba (Bb w5) _
      have xb := Bg w5 #[.bool false, .slice none 0 0, .int .i64 0, .bool false, .slice none 0 0, .int .i64 0] 28
      have hb6 := Bc hbw ba
      have NX := Be (Bje g s2 s3 s4 P k turn sq u u' v' B B' m j m' j' D D' o r o' r' (w5.alloc (.cells #[.bool false, .slice none 0 0, .int .i64 0, .bool false, .slice none 0 0, .int .i64 0] 28)) (hk.later hb6) (hT.below hb6) (x2.later hb6) (x3.later hb6) (x4.later hb6) (q1.below hb6) (q2.below hb6) (d3.below ba) (d4.below ba) (by omega) (by omega) hn)
      have xs5 := xs
      have xr5 := xr
      have xr := xr.later ba
      have xu5 := xu
      have xs := xs.later ba
      have xu := xu.later ba
      have d1 := d1.below ba
      have d2 := d2.below ba
      obtain ⟨e0, e1, e2, e3, e4, e5, -⟩ := xu.cell6
      go_wp2_with fail
      refine NX.out.mono ?_
      rintro r8 w8 ⟨A1, n1, i1, A2, n2, i2, B1, m1, j1, B2, m2, j2, rfl, a1, a2, b1, b2, hb8⟩
      have xs := xs.later hb8
      have xu := xu.later hb8
      have xb := xb.later hb8
      have xr := xr.later hb8
      have d1 := d1.below hb8
      have d2 := d2.below hb8
      have hb9 := Bc hb6 hb8
      have lx := xs5.lt
      have ly := xu5.lt
      have lr := xr5.lt
      have lw := hbw.size
      generalize hkb : w5.heap.size = kb at *
      clear e0 e1 e2 e3 e4 e5 NX
      go_wp2_with (first
       | (refine Bt rfl _ _ rfl rfl ky _ A1 n1 i1 _ _ A2 n2 i2 _ xu rfl rfl (fun W1 y1 gW1 => ?_); have a1 := a1.grown xu Bh gW1; have a2 := a2.grown xu Bh gW1; have b1 := b1.grown xu Bh gW1; have b2 := b2.grown xu Bh gW1; have d1 := d1.grown xu Bh gW1; have d2 := d2.grown xu Bh gW1; have xs := xs.grown gW1 hne; have xr := xr.grown gW1 (by omega); have xb := xb.grown gW1 (by omega); have hb10 := Bl hb9 gW1 (by omega))
       | (refine Bt rfl _ _ rfl rfl kb _ B1 m1 j1 _ _ B2 m2 j2 _ xb rfl rfl (fun W2 y2 gW2 => ?_); have a1 := a1.grown xb Bh gW2; have a2 := a2.grown xb Bh gW2; have b1 := b1.grown xb Bh gW2; have b2 := b2.grown xb Bh gW2; have d1 := d1.grown xb Bh gW2; have d2 := d2.grown xb Bh gW2; have xs := xs.grown gW2 (by omega); have xr := xr.grown gW2 (by omega); have y1 := y1.grown gW2 (by omega); have hb11 := Bl hb10 gW2 (by omega)))
      have bD : Below W2.heap.size W2 W2.drew := Below.drew (Bb _)
      have xs := xs.later bD
      have xr := xr.later bD
      have y1 := y1.later bD
      have y2 := y2.later bD
      have a1 := a1.below bD
      have a2 := a2.below bD
      have b1 := b1.below bD
      have b2 := b2.below bD
      have d1 := d1.below bD
      have d2 := d2.below bD
      have hb12 := Bc hb11 bD
      refine wp_region_noPanic ?_
      refine wp_region_held_drew (S := fun w' => (w'.cell? ⟨kb, 0, none⟩ = some (.bool (v').1.neg) ∧ w'.cell? ⟨kb, 1, none⟩ = some (.slice B1 m1 j1) ∧ w'.cell? ⟨kb, 2, none⟩ = some (.int .i64 (v').1.e) ∧ w'.cell? ⟨kb, 3, none⟩ = some (.bool (v').2.neg) ∧ w'.cell? ⟨kb, 4, none⟩ = some (.slice B2 m2 j2) ∧ w'.cell? ⟨kb, 5, none⟩ = some (.int .i64 (v').2.e))) (by kernel_rfl) (y2.six (Bb _)) (fun hHeld => ?_)
      (refine Bj 0 41 rfl ?_; (try simp only [Act.put, Bf]))
      (refine Bj 1 42 rfl ?_; (try simp only [Act.put, Bf]))
      (refine Bj 2 43 rfl ?_; (try simp only [Act.put, Bf]))
      (refine Bj 4 45 rfl ?_; (try simp only [Act.put, Bf]))
      refine Bw 3 rfl (fun K hK => ?_)
      obtain ⟨e0, e1, e2, e3, e4, e5, -⟩ := xs.cell6
      go_simp
      clear e0 e1 e2 e3 e4 e5
      (refine hK.out _ _ (y2.six (Bb _)) (fun _ => ?_); clear hHeld hK K; rename_i hHeld; (try simp only [Act.put, Bf]))
      refine Bw 5 rfl (fun K hK => ?_)
      go_simp
      go_at_call 12
      refine (yAdd g P s' s v' C C' l e l' e' B1 B2 m1 j1 m2 j2 _ d1 d2 b1 b2 (hk.later hb12) (hT.below hb12) ha).mono ?_
      rintro r9 w9 ⟨F1, i3, j3, F2, i4, j4, rfl, c1, c2, hb13⟩
      have xs := xs.later hb13
      have xr := xr.later hb13
      have y1 := y1.later hb13
      have y2 := y2.later hb13
      have a1 := a1.below hb13
      have a2 := a2.below hb13
      have hb14 := Bc hb12 hb13
      (refine hK.out _ _ (y2.six (Bb _)) (fun _ => ?_); clear hHeld hK K; rename_i hHeld; (try simp only [Act.put, Bf]))
      refine Bw 6 rfl (fun K hK => ?_)
      refine Bz rfl _ _ rfl rfl kx _ F1 i3 j3 _ _ F2 i4 j4 _ xs rfl rfl (fun W3 y3 gW3 => ?_)
      have y1 := y1.grown gW3 (Ne.symm hne)
      have xr := xr.grown gW3 (by omega)
      have y2 := y2.grown gW3 (by omega)
      have a1 := a1.grown xs Bh gW3
      have a2 := a2.grown xs Bh gW3
      have c1 := c1.grown xs Bh gW3
      have c2 := c2.grown xs Bh gW3
      have hb15 := Bl hb14 gW3 (by omega)
      (refine hK.out _ _ (y2.six (Bb _)) (fun _ => ?_); clear hHeld hK K; rename_i hHeld; (try simp only [Act.put, Bf]))
      refine Cn ?_
      clear hHeld
      have wk1 : IntKind.i64.wrap (k + 1) = k + 1 := by rw [IntKind.wrap_i64]; omega
      go_wp2_with fail
      exact ⟨⟨f2, k + 1, s', u', _, _, _, _, _, _, _, _, _, _, _, _, by simp [wk1], by omega, by omega, Be hs, y3, y1, c1, c2, a1, a2, xr, hb15⟩, by simp [intOf]; omega⟩
     ·have dz : decide (zs - P < zu) = false := decide_eq_false hz
      rw [if_neg hz] at hs
      have o1 := Dl d3 (Bn ru).2.1
      have o2 := Dl d4 (Bn ru).2.2
      have zl1 := Jt d3 (Bn ru).2.1
      have zl2 := Jt d4 (Bn ru).2.2
      have wl : IntKind.i64.wrap ((o : Int) + (o' : Int)) = (o : Int) + (o' : Int) := by rw [IntKind.wrap_i64]; omega
      obtain ⟨e0, e1, e2, e3, e4, e5, -⟩ := xu.cell6
      by_cases hzz : u.1.m = 0 ∧ u.2.m = 0
      ·unfold Xp at hs
       rw [if_pos hzz] at hs
       obtain rfl : s = c := by injection hs
       have bz : (((o : Int) + (o' : Int)) == 0) = true := by simp; have := zl1.2 hzz.1; have := zl2.2 hzz.2; omega
       clear zl1 zl2 hzz o1 o2
       obtain ⟨i0, i1, i2, i3, i4, i5, -⟩ := xs.cell6
       go_wp2_with (refine Bt rfl _ _ rfl rfl (w.heap.size + 1) _ C l e _ _ C' l' e' _ xr rfl rfl (fun W1 y1 gW1 => ?_); have d1 := d1.grown xr Bh gW1; have d2 := d2.grown xr Bh gW1; have bw := Bl hbw gW1 (by omega); obtain ⟨j0, j1, j2, j3, j4, j5, -⟩ := y1.cell6)
       refine bodyPost_ret (v := _) ?_ rfl ⟨C, l, e, C', l', e', rfl, d1, d2, bw⟩
       simp [results, Tryz.results123, go_sem, j0, j1, j2, j3, j4, j5]
      ·unfold Xp at hs
       rw [if_neg hzz] at hs
       obtain ⟨b, hab, hs⟩ := bind_some hs
       have bz : (((o : Int) + (o' : Int)) == 0) = false := by
        simp
        intro h0
        exact hzz ⟨zl1.1 (by omega), zl2.1 (by omega)⟩
       obtain ⟨n0, n1, n2⟩ := NB.out hzz
       clear zl1 zl2 hzz o1 o2
       go_wp2_with fail
       refine wp_region_noPanic ?_
       refine wp_region_held_drew (S := fun w' => (w'.cell? ⟨kx, 0, none⟩ = some (.bool (s).1.neg) ∧ w'.cell? ⟨kx, 1, none⟩ = some (.slice C l e) ∧ w'.cell? ⟨kx, 2, none⟩ = some (.int .i64 (s).1.e) ∧ w'.cell? ⟨kx, 3, none⟩ = some (.bool (s).2.neg) ∧ w'.cell? ⟨kx, 4, none⟩ = some (.slice C' l' e') ∧ w'.cell? ⟨kx, 5, none⟩ = some (.int .i64 (s).2.e)) ∧ (w'.cell? ⟨ky, 0, none⟩ = some (.bool (u).1.neg) ∧ w'.cell? ⟨ky, 1, none⟩ = some (.slice D o r) ∧ w'.cell? ⟨ky, 2, none⟩ = some (.int .i64 (u).1.e) ∧ w'.cell? ⟨ky, 3, none⟩ = some (.bool (u).2.neg) ∧ w'.cell? ⟨ky, 4, none⟩ = some (.slice D' o' r') ∧ w'.cell? ⟨ky, 5, none⟩ = some (.int .i64 (u).2.e))) (by kernel_rfl) ⟨xs.six (Below.drew (Bb _)), xu.six (Below.drew (Bb _))⟩ (fun hHeld => ?_)
       have bD : Below w5.heap.size w5 w5.drew := Below.drew (Bb _)
       have xs := xs.later bD
       have xu := xu.later bD
       have xr := xr.later bD
       have d1 := d1.below bD
       have d2 := d2.below bD
       have d3 := d3.below bD
       have d4 := d4.below bD
       have hbw := Bc hbw bD
       (refine Bj 0 58 rfl ?_; (try simp only [Act.put, Bf]))
       (refine Bj 1 59 rfl ?_; (try simp only [Act.put, Bf]))
       (refine Bj 2 60 rfl ?_; (try simp only [Act.put, Bf]))
       (refine Bj 3 61 rfl ?_; (try simp only [Act.put, Bf]))
       (refine Bj 4 62 rfl ?_; (try simp only [Act.put, Bf]))
       (refine Bj 5 63 rfl ?_; (try simp only [Act.put, Bf]))
       refine Bw 6 rfl (fun K hK => ?_)
       go_simp
       go_at_call 144
       refine (Zn u D D' o r o' r' _ d3 d4 (Bn ru).2.1 (Bn ru).2.2).mono ?_
       rintro r6 w6 ⟨rfl, hb6⟩
       have xs := xs.later hb6
       have xu := xu.later hb6
       have xr := xr.later hb6
       have d1 := d1.below hb6
       have d2 := d2.below hb6
       have hbw := Bc hbw hb6
       rw [HZ.out] at *
       (refine hK.out _ _ (⟨xs.six (Bb _), xu.six (Bb _)⟩) (fun _ => ?_); clear hHeld hK K; rename_i hHeld; (try simp only [Act.put, Bf]))
       (refine Bj 7 65 rfl ?_; (try simp only [Act.put, Bf]))
       refine Bw 8 rfl (fun K hK => ?_)
       go_simp
       go_at_call 145
       refine (Bfu g P (zu + 1) b _ (hk.later hbw) (hT.below hbw) ⟨n1, n2⟩ hab).mono ?_
       rintro r7 w7 ⟨A1, n3, i1, A2, n4, i2, rfl, a1, a2, hb7⟩
       have xs := xs.later hb7
       have xu := xu.later hb7
       have xr := xr.later hb7
       have d1 := d1.below hb7
       have d2 := d2.below hb7
       have hbw := Bc hbw hb7
       (refine hK.out _ _ (⟨xs.six (Bb _), xu.six (Bb _)⟩) (fun _ => ?_); clear hHeld hK K; rename_i hHeld; (try simp only [Act.put, Bf]))
       refine Bw 9 rfl (fun K hK => ?_)
       go_simp
       go_at_call 12
       refine (yAdd g P c s b C C' l e l' e' A1 A2 n3 i1 n4 i2 _ d1 d2 a1 a2 (hk.later hbw) (hT.below hbw) hs).mono ?_
       rintro r8 w8 ⟨F1, i3, j3, F2, i4, j4, rfl, c1, c2, hb8⟩
       have xs := xs.later hb8
       have xu := xu.later hb8
       have xr := xr.later hb8
       have hbw := Bc hbw hb8
       (refine hK.out _ _ (⟨xs.six (Bb _), xu.six (Bb _)⟩) (fun _ => ?_); clear hHeld hK K; rename_i hHeld; (try simp only [Act.put, Bf]))
       refine Bw 10 rfl (fun K hK => ?_)
       refine Bz rfl _ _ rfl rfl (w.heap.size + 1) _ F1 i3 j3 _ _ F2 i4 j4 _ xr rfl rfl (fun W1 y1 gW1 => ?_)
       have xs := xs.grown gW1 (by omega)
       have xu := xu.grown gW1 (by omega)
       have c1 := c1.grown xr Bh gW1
       have c2 := c2.grown xr Bh gW1
       have bw := Bl hbw gW1 (by omega)
       (refine hK.out _ _ (⟨xs.six (Bb _), xu.six (Bb _)⟩) (fun _ => ?_); clear hHeld hK K; rename_i hHeld; (try simp only [Act.put, Bf]))
       refine Cn ?_
       clear hHeld
       obtain ⟨j0, j1, j2, j5, j6, j7, -⟩ := y1.cell6
       go_wp2_with fail
       refine bodyPost_ret (v := _) ?_ rfl ⟨F1, i3, j3, F2, i4, j4, rfl, c1, c2, bw⟩
       simp [results, Tryz.results123, go_sem, j0, j1, j2, j5, j6, j7]
theorem Qx (g : Nat) (P k : Int) (turn : Bool) (c : Dy × Dy) (w : World) (hk : Wk w g P false tw) (hT : Tz w) (k0 : 1 ≤ k) (k1 : k ≤ 1000000) (h : Gn P k turn = some c) :
  Calls Tryz.prog 92 #[.pointer (some ⟨g, 0, none⟩), .int .i64 k, .bool turn] w (Gf c w) := by
 obtain ⟨sq, hsq, h⟩ := bind_some h
 obtain ⟨u, hu, h⟩ := bind_some h
 obtain ⟨v, hv, h⟩ := bind_some h
 obtain ⟨t, ht, h⟩ := bind_some h
 have kk : 0 ≤ k * k ∧ k * k ≤ 1000000000000 := ⟨Int.mul_nonneg (by omega) (by omega), Int.le_trans (Int.mul_le_mul k1 k1 (by omega) (by omega)) (by decide)⟩
 have b0 : Below w.heap.size w (((w.alloc (.cells #[.pointer (some ⟨g, 0, none⟩)] 40)).alloc (.cells #[.bool turn] 4)).alloc (.cells #[.bool false, .slice none 0 0, .int .i64 0, .bool false, .slice none 0 0, .int .i64 0] 28)) := Ba (Ba (Ba (Bb w) _) _) _
 have x2 := ((Bg w #[.pointer (some ⟨g, 0, none⟩)] 40).later (Ba (Bb _) (.cells #[.bool turn] 4))).later (Ba (Bb _) (.cells #[.bool false, .slice none 0 0, .int .i64 0, .bool false, .slice none 0 0, .int .i64 0] 28))
 have x4 := (Bg (w.alloc (.cells #[.pointer (some ⟨g, 0, none⟩)] 40)) #[.bool turn] 4).later (Ba (Bb _) (.cells #[.bool false, .slice none 0 0, .int .i64 0, .bool false, .slice none 0 0, .int .i64 0] 28))
 have xr := Bg ((w.alloc (.cells #[.pointer (some ⟨g, 0, none⟩)] 40)).alloc (.cells #[.bool turn] 4)) #[.bool false, .slice none 0 0, .int .i64 0, .bool false, .slice none 0 0, .int .i64 0] 28
 have vs : (((w.alloc (.cells #[.pointer (some ⟨g, 0, none⟩)] 40)).alloc (.cells #[.bool turn] 4)).alloc (.cells #[.bool false, .slice none 0 0, .int .i64 0, .bool false, .slice none 0 0, .int .i64 0] 28)).heap.size = w.heap.size + 1 + 1 + 1 := by simp
 rw [show (w.alloc (.cells #[.pointer (some ⟨g, 0, none⟩)] 40)).heap.size = w.heap.size + 1 by simp] at x4
 rw [show ((w.alloc (.cells #[.pointer (some ⟨g, 0, none⟩)] 40)).alloc (.cells #[.bool turn] 4)).heap.size = w.heap.size + 1 + 1 by simp] at xr
 have NS := Be (Wc g P sq (k * k) _ (by omega) (by omega) (hk.later b0) (hT.below b0) hsq)
 have c0 : (((w.alloc (.cells #[.pointer (some ⟨g, 0, none⟩)] 40)).alloc (.cells #[.bool turn] 4)).alloc (.cells #[.bool false, .slice none 0 0, .int .i64 0, .bool false, .slice none 0 0, .int .i64 0] 28)).cell? ⟨w.heap.size, 0, none⟩ = some (.pointer (some ⟨g, 0, none⟩)) := x2.cell 0
 have wkk : IntKind.i64.wrap (k * k) = k * k := by rw [IntKind.wrap_i64]; omega
 have VS := Be vs
 clear vs
 go_enter Tryz.func92, Tryz.ntmps92
 go_wp2_with fail
 refine NS.out.mono ?_
 rintro r w5 ⟨B, m, j, B', m', j', rfl, q1, q2, hb5⟩
 have x2 := x2.later hb5
 have x4 := x4.later hb5
 have xr := xr.later hb5
 have bw := Bc b0 hb5
 have sz := hb5.size
 have ba : Below w5.heap.size w5 (w5.alloc (.cells #[.bool false, .slice none 0 0, .int .i64 0, .bool false, .slice none 0 0, .int .i64 0] 28)) := Ba (Bb w5) _
 have xb := Bg w5 #[.bool false, .slice none 0 0, .int .i64 0, .bool false, .slice none 0 0, .int .i64 0] 28
 have x2 := x2.later ba
 have x4 := x4.later ba
 have xr := xr.later ba
 have q1 := q1.below ba
 have q2 := q2.below ba
 have bw := Bc bw ba
 have hs5 : w.heap.size + 1 + 1 < w5.heap.size := by have := VS.out; omega
 clear NS c0 VS sz hb5 ba b0
 go_wp2_with (refine Bt rfl _ _ rfl rfl w5.heap.size _ B m j _ _ B' m' j' _ xb rfl rfl (fun W1 x3 gW1 => ?_); have q1 := q1.grown xb Bh gW1; have q2 := q2.grown xb Bh gW1; have x2 := x2.grown gW1 (by omega); have x4 := x4.grown gW1 (by omega); have xr := xr.grown gW1 (by omega); have bw := Bl bw gW1 (by omega))
 generalize w5.heap.size = s3 at *
 have bD : Below W1.heap.size W1 W1.drew := Below.drew (Bb _)
 refine wp_region_noPanic ?_
 refine wp_region_held_drew (S := fun w' => w'.cell? ⟨w.heap.size, 0, none⟩ = some (.pointer (some ⟨g, 0, none⟩))) (by kernel_rfl) ((x2.later bD).cell 0) (fun hHeld => ?_)
 have bw := Bc bw bD
 (have x2 := x2.later bD; have x3 := x3.later bD; have x4 := x4.later bD; have xr := xr.later bD; have q1 := q1.below bD; have q2 := q2.below bD)
 (refine Bj 0 15 rfl ?_; (try simp only [Act.put, Bf]))
 (refine Bj 1 16 rfl ?_; (try simp only [Act.put, Bf]))
 (refine Bj 2 17 rfl ?_; (try simp only [Act.put, Bf]))
 (refine Bj 3 18 rfl ?_; (try simp only [Act.put, Bf]))
 (refine Bj 4 19 rfl ?_; (try simp only [Act.put, Bf]))
 (refine Bj 5 20 rfl ?_; (try simp only [Act.put, Bf]))
 (refine Bj 6 21 rfl ?_; (try simp only [Act.put, Bf]))
 (refine Bj 8 23 rfl ?_; (try simp only [Act.put, Bf]))
 (refine Bj 9 24 rfl ?_; (try simp only [Act.put, Bf]))
 (refine Bj 10 25 rfl ?_; (try simp only [Act.put, Bf]))
 (refine Bj 11 26 rfl ?_; (try simp only [Act.put, Bf]))
 (refine Bj 14 29 rfl ?_; (try simp only [Act.put, Bf]))
 refine Bw 7 rfl (fun K hK => ?_)
 (go_simp; go_at_call 28; refine (Wc g P u 1 _ (by omega) (by omega) (hk.later bw) (hT.below bw) hu).mono ?_; rintro r w6 ⟨A1, n1, i1, A2, n2, i2, rfl, a1, a2, hb6⟩; have bw := Bc bw hb6; (have x2 := x2.later hb6; have x3 := x3.later hb6; have x4 := x4.later hb6; have xr := xr.later hb6; have q1 := q1.below hb6; have q2 := q2.below hb6); (refine hK.out _ _ (x2.cell 0) (fun _ => ?_); clear hHeld hK K; rename_i hHeld; (try simp only [Act.put, Bf])))
 refine Bw 12 rfl (fun K hK => ?_)
 (go_simp; go_at_call 28; refine (Wc g P v k _ (by omega) (by omega) (hk.later bw) (hT.below bw) hv).mono ?_; rintro r w7 ⟨A3, n3, i3, A4, n4, i4, rfl, a3, a4, hb7⟩; have bw := Bc bw hb7; (have x2 := x2.later hb7; have x3 := x3.later hb7; have x4 := x4.later hb7; have xr := xr.later hb7; have q1 := q1.below hb7; have q2 := q2.below hb7); (refine hK.out _ _ (x2.cell 0) (fun _ => ?_); clear hHeld hK K; rename_i hHeld; (try simp only [Act.put, Bf])))
 have a1 := a1.below hb7
 have a2 := a2.below hb7
 refine Bw 13 rfl (fun K hK => ?_)
 go_simp
 go_at_call 27
 refine (yDiv g P t u v A1 A2 n1 i1 n2 i2 A3 A4 n3 i3 n4 i4 _ a1 a2 a3 a4 (hk.later bw) (hT.below bw) ht).mono ?_
 rintro r w8 ⟨A5, n5, i5, A6, n6, i6, rfl, a5, a6, hb8⟩
 have bw := Bc bw hb8
 (have x2 := x2.later hb8; have x3 := x3.later hb8; have x4 := x4.later hb8; have xr := xr.later hb8; have q1 := q1.below hb8; have q2 := q2.below hb8)
 (refine hK.out _ _ (x2.cell 0) (fun _ => ?_); clear hHeld hK K; rename_i hHeld; (try simp only [Act.put, Bf]))
 refine Bw 15 rfl (fun K hK => ?_)
 go_simp
 go_at_call 123
 refine (sesum g w.heap.size s3 (w.heap.size + 1) P turn sq t c B B' m j m' j' A5 A6 n5 i5 n6 i6 _ (hk.later bw) (hT.below bw) x2 x3 x4 q1 q2 a5 a6 2000 (by omega) h).mono ?_
 rintro r w9 ⟨A7, n7, i7, A8, n8, i8, rfl, a7, a8, hb9⟩
 have bw := Bc bw hb9
 (have x2 := x2.later hb9; have x3 := x3.later hb9; have x4 := x4.later hb9; have xr := xr.later hb9; have q1 := q1.below hb9; have q2 := q2.below hb9)
 (refine hK.out _ _ (x2.cell 0) (fun _ => ?_); clear hHeld hK K; rename_i hHeld; (try simp only [Act.put, Bf]))
 refine Bw 16 rfl (fun K hK => ?_)
 refine Bz rfl _ _ rfl rfl (w.heap.size + 1 + 1) _ A7 n7 i7 _ _ A8 n8 i8 _ xr rfl rfl (fun W2 y2 gW2 => ?_)
 have x2 := x2.grown gW2 (by omega)
 (refine hK.out _ _ (x2.cell 0) (fun _ => ?_); clear hHeld hK K; rename_i hHeld; (try simp only [Act.put, Bf]))
 refine Cn ?_
 have a7 := a7.grown xr Bh gW2
 have a8 := a8.grown xr Bh gW2
 have bw := Bl bw gW2 (by omega)
 obtain ⟨u0, u1, u2, u3, u4, u5, -⟩ := y2.cell6
 go_wp2_with fail
 refine bodyPost_ret (v := _) ?_ rfl ⟨A7, n7, i7, A8, n8, i8, rfl, a7, a8, bw⟩
 simp [results, Tryz.results92, go_sem, u0, u1, u2, u3, u4, u5]
theorem Qz (g : Nat) (w : World) : Calls Tryz.prog 54 #[.pointer (some ⟨g, 0, none⟩)] w fun r w' => r = .returned (.pointer (some ⟨g, 0, none⟩)) ∧ Below w.heap.size w w' := by
 go_enter Tryz.func54, Tryz.ntmps54
 go_wp2_with fail
 go_ret
 exact ⟨rfl, Bb _⟩
theorem Bap (g : Nat) (P : Int) (w : World) (hk : Wk w g P false tw) (h0 : 16 ≤ P) (h1 : P ≤ 7000) :
  Calls Tryz.prog 53 #[.pointer (some ⟨g, 0, none⟩), .int .i64 0] w fun r w' => ∃ h, r = .returned (.pointer (some ⟨h, 0, none⟩)) ∧ Wk w' h (P + 64) false 44 ∧ Below w.heap.size w w' ∧ w.heap.size ≤ h := by
 obtain ⟨k0, k1, -⟩ := hk.cells
 have d0 : decide (P < 16) = false := by simp; omega
 have d1 : decide (P > 7000) = false := by simp; omega
 have d2 : decide (7000 < P) = false := by simp; omega
 have e1 : IntKind.i64.wrap (P + 64) = P + 64 := by rw [IntKind.wrap_i64]; omega
 go_enter Tryz.func53, Tryz.ntmps53
 go_wp2_with fail
 go_ret
 exact ⟨_, rfl, Bg w #[.int .i64 (P + 64), .bool false] 44, Ba (Bb w) _, Nat.le_refl _⟩
theorem Rh (g : Nat) (P : Int) (bad : Bool) (w : World) (hk : Wk w g P bad tw) (h : bad = true ∨ P < 16 ∨ 7000 < P) :
  Calls Tryz.prog 53 #[.pointer (some ⟨g, 0, none⟩), .int .i64 0] w fun r w' => r = .returned (.pointer none) ∧ Wk w' g P true tw ∧ w.grownBy w' (some g) := by
 have FA := Be (Vu g P bad w hk)
 obtain ⟨k0, k1, -⟩ := hk.cells
 cases bad
 ·by_cases c0 : P < 16
  ·have d0 : decide (P < 16) = true := by simp; omega
   clear h c0
   go_enter Tryz.func53, Tryz.ntmps53
   go_wp2_with fail
   refine FA.out.mono ?_
   rintro r w1 ⟨rfl, hk1, hg1⟩
   go_wp2_with fail
   go_ret
   exact ⟨rfl, hk1, hg1⟩
  ·have d0 : decide (P < 16) = false := by simp; omega
   have c1 : 7000 < P := by
    rcases h with h | h | h
    ·cases h
    ·exact absurd h c0
    ·exact h
   have d1 : decide (P > 7000) = true := by simp; omega
   have d2 : decide (7000 < P) = true := by simp; omega
   clear h c0 c1
   go_enter Tryz.func53, Tryz.ntmps53
   go_wp2_with fail
   refine FA.out.mono ?_
   rintro r w1 ⟨rfl, hk1, hg1⟩
   go_wp2_with fail
   go_ret
   exact ⟨rfl, hk1, hg1⟩
 ·clear h
  go_enter Tryz.func53, Tryz.ntmps53
  go_wp2_with fail
  refine FA.out.mono ?_
  rintro r w1 ⟨rfl, hk1, hg1⟩
  go_wp2_with fail
  go_ret
  exact ⟨rfl, hk1, hg1⟩
theorem Bgd (g h : Nat) (P Q : Int) (a c : Dy × Dy) (A A' : Option Addr) (n i n' i' : Nat) (w : World) (hk : Wk w g P false tw) (hi : Wk w h Q false 44) (hT : Tz w) (a1 : Arr w A n i (wd a.1.m)) (a2 : Arr w A' n' i' (wd a.2.m)) (ho : Bbt P a = some c) :
  Calls Tryz.prog 55 #[.pointer (some ⟨g, 0, none⟩), .pointer (some ⟨h, 0, none⟩), (.agg #[.bool (a).1.neg, .slice A n i, .int .i64 (a).1.e, .bool (a).2.neg, .slice A' n' i', .int .i64 (a).2.e])] w (Gf c w) := by
 have b2 : Below w.heap.size w ((w.alloc (.cells #[.bool (a).1.neg, .slice A n i, .int .i64 (a).1.e, .bool (a).2.neg, .slice A' n' i', .int .i64 (a).2.e] 28)).alloc (.cells #[.bool false, .slice none 0 0, .int .i64 0, .bool false, .slice none 0 0, .int .i64 0] 28)) := Ba (Ba (Bb w) _) _
 have xa := (Bg w #[.bool a.1.neg, .slice A n i, .int .i64 a.1.e, .bool a.2.neg, .slice A' n' i', .int .i64 a.2.e] 28).later (Ba (Bb _) (.cells #[.bool false, .slice none 0 0, .int .i64 0, .bool false, .slice none 0 0, .int .i64 0] 28))
 have xr := Bg (w.alloc (.cells #[.bool (a).1.neg, .slice A n i, .int .i64 (a).1.e, .bool (a).2.neg, .slice A' n' i', .int .i64 (a).2.e] 28)) #[.bool false, .slice none 0 0, .int .i64 0, .bool false, .slice none 0 0, .int .i64 0] 28
 rw [show (w.alloc (.cells #[.bool (a).1.neg, .slice A n i, .int .i64 (a).1.e, .bool (a).2.neg, .slice A' n' i', .int .i64 (a).2.e] 28)).heap.size = w.heap.size + 1 by simp] at xr
 obtain ⟨k0, k1, k2, k3, k4, k5, -⟩ := xa.cell6
 obtain ⟨j0, j1, -⟩ := (hi.later b2).cells
 have OU := Be (yOut g P c a A A' n i n' i' _ (a1.below b2) (a2.below b2) (hk.later b2) (hT.below b2) ho)
 clear hk hi hT a1 a2 ho
 go_enter Tryz.func55, Tryz.ntmps55
 go_wp2_with fail
 refine OU.out.mono ?_
 rintro r w5 ⟨A1, n1, i1, A2, n2, i2, rfl, a1, a2, hb5⟩
 have xr := xr.later hb5
 have bw := Bc b2 hb5
 go_wp2_with (refine Bt rfl _ _ rfl rfl (w.heap.size + 1) _ A1 n1 i1 _ _ A2 n2 i2 _ xr rfl rfl (fun W1 y1 gW1 => ?_); have a1 := a1.grown xr Bh gW1; have a2 := a2.grown xr Bh gW1; have bw := Bl bw gW1 (by omega); obtain ⟨u0, u1, u2, u3, u4, u5, -⟩ := y1.cell6)
 refine bodyPost_ret (v := _) ?_ rfl ⟨A1, n1, i1, A2, n2, i2, rfl, a1, a2, bw⟩
 simp [results, Tryz.results55, go_sem, u0, u1, u2, u3, u4, u5]
theorem Bjd (g : Nat) (P : Int) (c : Dy × Dy) (w : World) (hk : Wk w g P false tw) (hT : Tz w) (h : Vc P = some c) :
  Calls Tryz.prog 57 #[.pointer (some ⟨g, 0, none⟩)] w (Gf c w) := by
 obtain ⟨a, ha, h⟩ := bind_some h
 obtain ⟨b, hb, h⟩ := bind_some h
 obtain ⟨d, hd, h⟩ := bind_some h
 obtain ⟨e, he, h⟩ := bind_some h
 have bw : Below w.heap.size w (w.alloc (.cells #[.bool false, .slice none 0 0, .int .i64 0, .bool false, .slice none 0 0, .int .i64 0] 28)).drew := Below.drew (Ba (Bb w) _)
 have xr := (Bg w #[.bool false, .slice none 0 0, .int .i64 0, .bool false, .slice none 0 0, .int .i64 0] 28).later (Below.drew (Bb (w.alloc (.cells #[.bool false, .slice none 0 0, .int .i64 0, .bool false, .slice none 0 0, .int .i64 0] 28))))
 go_enter Tryz.func57, Tryz.ntmps57
 go_wp2_with fail
 refine wp_region_noPanic ?_
 refine wp_region_held_drew (S := fun w' => True) (by kernel_rfl) trivial (fun hHeld => ?_)
 (refine Bj 0 3 rfl ?_; (try simp only [Act.put, Bf]))
 (refine Bj 1 4 rfl ?_; (try simp only [Act.put, Bf]))
 (refine Bj 2 5 rfl ?_; (try simp only [Act.put, Bf]))
 (refine Bj 3 6 rfl ?_; (try simp only [Act.put, Bf]))
 (refine Bj 4 7 rfl ?_; (try simp only [Act.put, Bf]))
 (refine Bj 5 8 rfl ?_; (try simp only [Act.put, Bf]))
 (refine Bj 6 9 rfl ?_; (try simp only [Act.put, Bf]))
 (refine Bj 9 12 rfl ?_; (try simp only [Act.put, Bf]))
 (refine Bj 10 13 rfl ?_; (try simp only [Act.put, Bf]))
 (refine Bj 11 14 rfl ?_; (try simp only [Act.put, Bf]))
 (refine Bj 12 15 rfl ?_; (try simp only [Act.put, Bf]))
 refine Bw 7 rfl (fun K hK => ?_)
 go_simp
 go_at_call 92
 refine (Qx g P 5 true a _ (hk.later bw) (hT.below bw) (by omega) (by omega) ha).mono ?_
 rintro r wh1 ⟨A1, nA, iA, A2, mA, jA, rfl, a1, a2, h1⟩
 have bw := Bc bw h1
 have xr := xr.later h1
 (refine hK.out _ _ (trivial) (fun _ => ?_); clear hHeld hK K; rename_i hHeld; (try simp only [Act.put, Bf]))
 refine Bw 8 rfl (fun K hK => ?_)
 go_simp
 go_at_call 56
 refine (Tu g P b a 3 A1 A2 nA iA mA jA _ a1 a2 (hk.later bw) (hT.below bw) hb).mono ?_
 rintro r wh2 ⟨B1, nB, iB, B2, mB, jB, rfl, b1, b2, h2⟩
 have bw := Bc bw h2
 have xr := xr.later h2
 (refine hK.out _ _ (trivial) (fun _ => ?_); clear hHeld hK K; rename_i hHeld; (try simp only [Act.put, Bf]))
 refine Bw 13 rfl (fun K hK => ?_)
 go_simp
 go_at_call 92
 refine (Qx g P 239 true d _ (hk.later bw) (hT.below bw) (by omega) (by omega) hd).mono ?_
 rintro r wh3 ⟨C1, nC, iC, C2, mC, jC, rfl, c1, c2, h3⟩
 have bw := Bc bw h3
 have xr := xr.later h3
 have b1 := b1.below h3
 have b2 := b2.below h3
 (refine hK.out _ _ (trivial) (fun _ => ?_); clear hHeld hK K; rename_i hHeld; (try simp only [Act.put, Bf]))
 refine Bw 14 rfl (fun K hK => ?_)
 go_simp
 go_at_call 56
 refine (Tu g P e d 1 C1 C2 nC iC mC jC _ c1 c2 (hk.later bw) (hT.below bw) he).mono ?_
 rintro r wh4 ⟨D1, nD, iD, D2, mD, jD, rfl, d1, d2, h4⟩
 have bw := Bc bw h4
 have xr := xr.later h4
 have b1 := b1.below h4
 have b2 := b2.below h4
 (refine hK.out _ _ (trivial) (fun _ => ?_); clear hHeld hK K; rename_i hHeld; (try simp only [Act.put, Bf]))
 refine Bw 15 rfl (fun K hK => ?_)
 go_simp
 go_at_call 14
 refine (ySub g P c b e B1 B2 nB iB mB jB D1 D2 nD iD mD jD _ b1 b2 d1 d2 (hk.later bw) (hT.below bw) h).mono ?_
 rintro r wh5 ⟨E1, nE, iE, E2, mE, jE, rfl, e1, e2, h5⟩
 have bw := Bc bw h5
 have xr := xr.later h5
 (refine hK.out _ _ (trivial) (fun _ => ?_); clear hHeld hK K; rename_i hHeld; (try simp only [Act.put, Bf]))
 refine Bw 16 rfl (fun K hK => ?_)
 refine Bz rfl _ _ rfl rfl w.heap.size _ E1 nE iE _ _ E2 mE jE _ xr rfl rfl (fun W2 y2 gW2 => ?_)
 (refine hK.out _ _ (trivial) (fun _ => ?_); clear hHeld hK K; rename_i hHeld; (try simp only [Act.put, Bf]))
 have r1 := e1.grown xr Bh gW2
 have r2 := e2.grown xr Bh gW2
 refine Cn ?_
 have bw := Bl bw gW2 (Nat.le_refl _)
 obtain ⟨u0, u1, u2, u3, u4, u5, -⟩ := y2.cell6
 go_wp2_with fail
 refine bodyPost_ret (v := _) ?_ rfl ⟨_, _, _, _, _, _, rfl, r1, r2, bw⟩
 simp [results, Tryz.results57, go_sem, u0, u1, u2, u3, u4, u5]
theorem selog (g : Nat) (P : Int) (c : Dy × Dy) (w : World) (hk : Wk w g P false tw) (hT : Tz w) (h : Ve P = some c) :
  Calls Tryz.prog 59 #[.pointer (some ⟨g, 0, none⟩)] w (Gf c w) := by
 obtain ⟨a, ha, h⟩ := bind_some h
 have bw : Below w.heap.size w (w.alloc (.cells #[.bool false, .slice none 0 0, .int .i64 0, .bool false, .slice none 0 0, .int .i64 0] 28)).drew := Below.drew (Ba (Bb w) _)
 have xr := (Bg w #[.bool false, .slice none 0 0, .int .i64 0, .bool false, .slice none 0 0, .int .i64 0] 28).later (Below.drew (Bb (w.alloc (.cells #[.bool false, .slice none 0 0, .int .i64 0, .bool false, .slice none 0 0, .int .i64 0] 28))))
 go_enter Tryz.func59, Tryz.ntmps59
 go_wp2_with fail
 refine wp_region_noPanic ?_
 refine wp_region_held_drew (S := fun w' => True) (by kernel_rfl) trivial (fun hHeld => ?_)
 (refine Bj 0 3 rfl ?_; (try simp only [Act.put, Bf]))
 (refine Bj 1 4 rfl ?_; (try simp only [Act.put, Bf]))
 (refine Bj 2 5 rfl ?_; (try simp only [Act.put, Bf]))
 (refine Bj 3 6 rfl ?_; (try simp only [Act.put, Bf]))
 refine Bw 4 rfl (fun K hK => ?_)
 go_simp
 go_at_call 92
 refine (Qx g P 3 false a _ (hk.later bw) (hT.below bw) (by omega) (by omega) ha).mono ?_
 rintro r wh1 ⟨A1, nA, iA, A2, mA, jA, rfl, a1, a2, h1⟩
 have bw := Bc bw h1
 have xr := xr.later h1
 (refine hK.out _ _ (trivial) (fun _ => ?_); clear hHeld hK K; rename_i hHeld; (try simp only [Act.put, Bf]))
 refine Bw 5 rfl (fun K hK => ?_)
 go_simp
 go_at_call 56
 refine (Tu g P c a 1 A1 A2 nA iA mA jA _ a1 a2 (hk.later bw) (hT.below bw) h).mono ?_
 rintro r wh2 ⟨B1, nB, iB, B2, mB, jB, rfl, b1, b2, h2⟩
 have bw := Bc bw h2
 have xr := xr.later h2
 (refine hK.out _ _ (trivial) (fun _ => ?_); clear hHeld hK K; rename_i hHeld; (try simp only [Act.put, Bf]))
 refine Bw 6 rfl (fun K hK => ?_)
 refine Bz rfl _ _ rfl rfl w.heap.size _ B1 nB iB _ _ B2 mB jB _ xr rfl rfl (fun W2 y2 gW2 => ?_)
 (refine hK.out _ _ (trivial) (fun _ => ?_); clear hHeld hK K; rename_i hHeld; (try simp only [Act.put, Bf]))
 have r1 := b1.grown xr Bh gW2
 have r2 := b2.grown xr Bh gW2
 refine Cn ?_
 have bw := Bl bw gW2 (Nat.le_refl _)
 obtain ⟨u0, u1, u2, u3, u4, u5, -⟩ := y2.cell6
 go_wp2_with fail
 refine bodyPost_ret (v := _) ?_ rfl ⟨_, _, _, _, _, _, rfl, r1, r2, bw⟩
 simp [results, Tryz.results59, go_sem, u0, u1, u2, u3, u4, u5]
theorem sepi (g : Nat) (P : Int) (c : Dy × Dy) (w : World) (hk : Wk w g P false tw) (hT : Tz w) (p0 : 16 ≤ P) (p1 : P ≤ 7000) (h : piS P = some c) :
  Calls Tryz.prog 20 #[.pointer (some ⟨g, 0, none⟩)] w (Gf c w) := by
 obtain ⟨a, ha, h⟩ := bind_some h
 obtain ⟨b, hb, h⟩ := bind_some h
 have bw : Below w.heap.size w (w.alloc (.cells #[.bool false, .slice none 0 0, .int .i64 0, .bool false, .slice none 0 0, .int .i64 0] 28)).drew := Below.drew (Ba (Bb w) _)
 have xr := (Bg w #[.bool false, .slice none 0 0, .int .i64 0, .bool false, .slice none 0 0, .int .i64 0] 28).later (Below.drew (Bb (w.alloc (.cells #[.bool false, .slice none 0 0, .int .i64 0, .bool false, .slice none 0 0, .int .i64 0] 28))))
 go_enter Tryz.func20, Tryz.ntmps20
 go_wp2_with fail
 refine (Qz g _).mono ?_
 rintro r w1 ⟨rfl, h1⟩
 go_wp2_with fail
 refine (Bap g P w1 (hk.later (Bc (Ba (Bb w) (.cells #[.bool false, .slice none 0 0, .int .i64 0, .bool false, .slice none 0 0, .int .i64 0] 28)) h1)) p0 p1).mono ?_
 rintro r w2 ⟨q, rfl, hi, h2, hq⟩
 have xr := ((Bg w #[.bool false, .slice none 0 0, .int .i64 0, .bool false, .slice none 0 0, .int .i64 0] 28).later h1).later h2
 have bw := Bc (Bc (Ba (Bb w) (.cells #[.bool false, .slice none 0 0, .int .i64 0, .bool false, .slice none 0 0, .int .i64 0] 28)) h1) h2
 go_wp2_with fail
 refine wp_region_noPanic ?_
 refine wp_region_held_drew (S := fun w' => True) (by kernel_rfl) trivial (fun hHeld => ?_)
 have bD : Below w2.heap.size w2 w2.drew := Below.drew (Bb _)
 have xr := xr.later bD
 have bw := Bc bw bD
 have hi := hi.later bD
 (refine Bj 0 10 rfl ?_; (try simp only [Act.put, Bf]))
 (refine Bj 2 12 rfl ?_; (try simp only [Act.put, Bf]))
 (refine Bj 3 13 rfl ?_; (try simp only [Act.put, Bf]))
 (refine Bj 4 14 rfl ?_; (try simp only [Act.put, Bf]))
 (refine Bj 5 15 rfl ?_; (try simp only [Act.put, Bf]))
 (refine Bj 6 16 rfl ?_; (try simp only [Act.put, Bf]))
 refine Bw 1 rfl (fun K hK => ?_)
 go_simp
 go_at_call 54
 refine (Qz g _).mono ?_
 rintro r wh3 ⟨rfl, h3⟩
 have bw := Bc bw h3
 have xr := xr.later h3
 have hi := hi.later h3
 (refine hK.out _ _ (trivial) (fun _ => ?_); clear hHeld hK K; rename_i hHeld; (try simp only [Act.put, Bf]))
 refine Bw 7 rfl (fun K hK => ?_)
 go_simp
 go_at_call 57
 refine (Bjd q (P + 64) a _ hi (hT.below bw) ha).mono ?_
 rintro r wh4 ⟨A1, nA, iA, A2, mA, jA, rfl, a1, a2, h4⟩
 have bw := Bc bw h4
 have xr := xr.later h4
 have hi := hi.later h4
 (refine hK.out _ _ (trivial) (fun _ => ?_); clear hHeld hK K; rename_i hHeld; (try simp only [Act.put, Bf]))
 refine Bw 8 rfl (fun K hK => ?_)
 go_simp
 go_at_call 56
 refine (Tu q (P + 64) b a 1 A1 A2 nA iA mA jA _ a1 a2 hi (hT.below bw) hb).mono ?_
 rintro r wh5 ⟨B1, nB, iB, B2, mB, jB, rfl, b1, b2, h5⟩
 have bw := Bc bw h5
 have xr := xr.later h5
 have hi := hi.later h5
 (refine hK.out _ _ (trivial) (fun _ => ?_); clear hHeld hK K; rename_i hHeld; (try simp only [Act.put, Bf]))
 refine Bw 9 rfl (fun K hK => ?_)
 go_simp
 go_at_call 55
 refine (Bgd g q P (P + 64) b c B1 B2 nB iB mB jB _ (hk.later bw) hi (hT.below bw) b1 b2 h).mono ?_
 rintro r wh6 ⟨C1, nC, iC, C2, mC, jC, rfl, c1, c2, h6⟩
 have bw := Bc bw h6
 have xr := xr.later h6
 (refine hK.out _ _ (trivial) (fun _ => ?_); clear hHeld hK K; rename_i hHeld; (try simp only [Act.put, Bf]))
 refine Bw 10 rfl (fun K hK => ?_)
 refine Bz rfl _ _ rfl rfl w.heap.size _ C1 nC iC _ _ C2 mC jC _ xr rfl rfl (fun W2 y2 gW2 => ?_)
 (refine hK.out _ _ (trivial) (fun _ => ?_); clear hHeld hK K; rename_i hHeld; (try simp only [Act.put, Bf]))
 have r1 := c1.grown xr Bh gW2
 have r2 := c2.grown xr Bh gW2
 refine Cn ?_
 have bw := Bl bw gW2 (Nat.le_refl _)
 obtain ⟨u0, u1, u2, u3, u4, u5, -⟩ := y2.cell6
 go_wp2_with fail
 refine bodyPost_ret (v := _) ?_ rfl ⟨_, _, _, _, _, _, rfl, r1, r2, bw⟩
 simp [results, Tryz.results20, go_sem, u0, u1, u2, u3, u4, u5]
theorem Bel (g : Nat) (P : Int) (c : Dy × Dy) (w : World) (hk : Wk w g P false tw) (hT : Tz w) (p0 : 16 ≤ P) (p1 : P ≤ 7000) (h : Bde P = some c) :
  Calls Tryz.prog 24 #[.pointer (some ⟨g, 0, none⟩)] w (Gf c w) := by
 obtain ⟨a, ha, h⟩ := bind_some h
 have b0 : Below w.heap.size w (w.alloc (.cells #[.bool false, .slice none 0 0, .int .i64 0, .bool false, .slice none 0 0, .int .i64 0] 28)) := Ba (Bb w) _
 go_enter Tryz.func24, Tryz.ntmps24
 go_wp2_with fail
 refine (Qz g _).mono ?_
 rintro r w1 ⟨rfl, h1⟩
 go_wp2_with fail
 refine (Bap g P w1 (hk.later (Bc b0 h1)) p0 p1).mono ?_
 rintro r w2 ⟨q, rfl, hi, h2, hq⟩
 have xr := ((Bg w #[.bool false, .slice none 0 0, .int .i64 0, .bool false, .slice none 0 0, .int .i64 0] 28).later h1).later h2
 have bw := Bc (Bc b0 h1) h2
 go_wp2_with fail
 refine (Qz g _).mono ?_
 rintro r w3 ⟨rfl, h3⟩
 have xr := xr.later h3
 have bw := Bc bw h3
 have hi := hi.later h3
 go_wp2_with fail
 refine (selog q (P + 64) a _ hi (hT.below bw) ha).mono ?_
 rintro r w4 ⟨A1, n1, i1, A2, n2, i2, rfl, a1, a2, h4⟩
 have xr := xr.later h4
 have bw := Bc bw h4
 have hi := hi.later h4
 go_wp2_with fail
 refine (Bgd g q P (P + 64) a c A1 A2 n1 i1 n2 i2 _ (hk.later bw) hi (hT.below bw) a1 a2 h).mono ?_
 rintro r w5 ⟨B1, m1, j1, B2, m2, j2, rfl, b1, b2, h5⟩
 have xr := xr.later h5
 have bw := Bc bw h5
 go_wp2_with (refine Bt rfl _ _ rfl rfl w.heap.size _ B1 m1 j1 _ _ B2 m2 j2 _ xr rfl rfl (fun W1 y1 gW1 => ?_); have b1 := b1.grown xr Bh gW1; have b2 := b2.grown xr Bh gW1; have bw := Bl bw gW1 (Nat.le_refl _); obtain ⟨u0, u1, u2, u3, u4, u5, -⟩ := y1.cell6)
 refine bodyPost_ret (v := _) ?_ rfl ⟨_, _, _, _, _, _, rfl, b1, b2, bw⟩
 simp [results, Tryz.results24, go_sem, u0, u1, u2, u3, u4, u5]
theorem Re {w a b c : World} {g h : Nat} (h1 : Below w.heap.size w a) (h2 : a.grownBy b (some g)) (h3 : b.grownBy c (some h)) (hh : w.heap.size ≤ h) : w.grownBy c (some g) := by
 refine ⟨?_, ?_, ?_, ?_, ?_⟩
 ·exact h3.os.trans (h2.os.trans h1.os)
 ·exact h3.tape.trans (h2.tape.trans h1.tape)
 ·exact h3.output.trans (h2.output.trans h1.output)
 ·exact Nat.le_trans h1.size (Nat.le_trans h2.size h3.size)
 ·intro i hi hn
  have := h1.size
  have := h2.size
  rw [h3.block i (by omega) (by simp; omega), h2.block i (by omega) hn, h1.block i hi]
theorem Bem (g : Nat) (P : Int) (bad : Bool) (w : World) (hk : Wk w g P bad tw) (hb : bad = true ∨ P < 16 ∨ 7000 < P) :
  Calls Tryz.prog 20 #[.pointer (some ⟨g, 0, none⟩)] w fun r w' => r = .returned (.agg #[.bool false, .slice none 0 0, .int .i64 0, .bool false, .slice none 0 0, .int .i64 0]) ∧ Wk w' g P true tw ∧ w.grownBy w' (some g) := by
 have b0 : Below w.heap.size w (w.alloc (.cells #[.bool false, .slice none 0 0, .int .i64 0, .bool false, .slice none 0 0, .int .i64 0] 28)) := Ba (Bb w) _
 have hg := hk.lt
 go_enter Tryz.func20, Tryz.ntmps20
 go_wp2_with fail
 refine (Qz g _).mono ?_
 rintro r w1 ⟨rfl, h1⟩
 go_wp2_with fail
 refine (Rh g P bad w1 (hk.later (Bc b0 h1)) hb).mono ?_
 rintro r w2 ⟨rfl, hi, h2⟩
 have xr := ((Bg w #[.bool false, .slice none 0 0, .int .i64 0, .bool false, .slice none 0 0, .int .i64 0] 28).later h1).grown h2 (by omega)
 have bw := Bc b0 h1
 go_wp2_with (refine Bt rfl _ _ rfl rfl w.heap.size _ none 0 0 _ _ none 0 0 _ xr rfl rfl (fun W1 y1 gW1 => ?_); have hi := Box.grown hi gW1 (by omega); have bw := Re bw h2 gW1 (Nat.le_refl _); obtain ⟨u0, u1, u2, u3, u4, u5, -⟩ := y1.cell6)
 refine bodyPost_ret (v := _) ?_ rfl ⟨rfl, hi, bw⟩
 simp [results, Tryz.results20, go_sem, u0, u1, u2, u3, u4, u5]
theorem Bc5 (g : Nat) (P : Int) (bad : Bool) (w : World) (hk : Wk w g P bad tw) (hb : bad = true ∨ P < 16 ∨ 7000 < P) :
  Calls Tryz.prog 24 #[.pointer (some ⟨g, 0, none⟩)] w fun r w' => r = .returned (.agg #[.bool false, .slice none 0 0, .int .i64 0, .bool false, .slice none 0 0, .int .i64 0]) ∧ Wk w' g P true tw ∧ w.grownBy w' (some g) := by
 have b0 : Below w.heap.size w (w.alloc (.cells #[.bool false, .slice none 0 0, .int .i64 0, .bool false, .slice none 0 0, .int .i64 0] 28)) := Ba (Bb w) _
 have hg := hk.lt
 go_enter Tryz.func24, Tryz.ntmps24
 go_wp2_with fail
 refine (Qz g _).mono ?_
 rintro r w1 ⟨rfl, h1⟩
 go_wp2_with fail
 refine (Rh g P bad w1 (hk.later (Bc b0 h1)) hb).mono ?_
 rintro r w2 ⟨rfl, hi, h2⟩
 have xr := ((Bg w #[.bool false, .slice none 0 0, .int .i64 0, .bool false, .slice none 0 0, .int .i64 0] 28).later h1).grown h2 (by omega)
 have bw := Bc b0 h1
 go_wp2_with (refine Bt rfl _ _ rfl rfl w.heap.size _ none 0 0 _ _ none 0 0 _ xr rfl rfl (fun W1 y1 gW1 => ?_); have hi := Box.grown hi gW1 (by omega); have bw := Re bw h2 gW1 (Nat.le_refl _); obtain ⟨u0, u1, u2, u3, u4, u5, -⟩ := y1.cell6)
 refine bodyPost_ret (v := _) ?_ rfl ⟨rfl, hi, bw⟩
 simp [results, Tryz.results24, go_sem, u0, u1, u2, u3, u4, u5]
theorem Sv (P : Int) (bad : Bool) (w : World) : Calls Tryz.prog 19 #[.int .i64 P, .bool bad] w fun r w' => ∃ g, r = .returned (.pointer (some ⟨g, 0, none⟩)) ∧ Wk w' g P bad 44 ∧ Below w.heap.size w w' ∧ w.heap.size ≤ g := by
 go_enter Tryz.func19, Tryz.ntmps19
 go_wp2_with fail
 go_ret
 exact ⟨_, rfl, Bg w #[.int .i64 P, .bool bad] 44, Ba (Bb w) _, Nat.le_refl _⟩
theorem Bdc (a b : Dy × Dy) (A A' B B' : Option Addr) (n i n' i' m j m' j' : Nat) (g : Nat) (P N : Int) (w : World) (a1 : Arr w A n i (wd a.1.m)) (a2 : Arr w A' n' i' (wd a.2.m)) (b1 : Arr w B m j (wd b.1.m)) (b2 : Arr w B' m' j' (wd b.2.m))
  (ra : Cj a = true) (rb : Cj b = true) (hk : Wk w g P false 38) (hN : -1000000 ≤ N ∧ N ≤ 1000000) (h : Rf a b = true) (h2 : Ka a N = true) :
  Calls Tryz.prog 22 #[(.agg #[.bool (a).1.neg, .slice A n i, .int .i64 (a).1.e, .bool (a).2.neg, .slice A' n' i', .int .i64 (a).2.e]), (.agg #[.bool (b).1.neg, .slice B m j, .int .i64 (b).1.e, .bool (b).2.neg, .slice B' m' j', .int .i64 (b).2.e]), .pointer (some ⟨g, 0, none⟩), .int .i64 N] w fun r w' => r = .returned (.bool true) ∧ Below w.heap.size w w' := by
 have bw : Below w.heap.size w ((w.alloc (.cells #[.bool (a).1.neg, .slice A n i, .int .i64 (a).1.e, .bool (a).2.neg, .slice A' n' i', .int .i64 (a).2.e] 28)).alloc (.cells #[.bool (b).1.neg, .slice B m j, .int .i64 (b).1.e, .bool (b).2.neg, .slice B' m' j', .int .i64 (b).2.e] 28)) := Ba (Ba (Bb w) _) _
 have xa := (Bg w #[.bool (a).1.neg, .slice A n i, .int .i64 (a).1.e, .bool (a).2.neg, .slice A' n' i', .int .i64 (a).2.e] 28).later (Ba (Bb _) (.cells #[.bool (b).1.neg, .slice B m j, .int .i64 (b).1.e, .bool (b).2.neg, .slice B' m' j', .int .i64 (b).2.e] 28))
 have xb := Bg (w.alloc (.cells #[.bool (a).1.neg, .slice A n i, .int .i64 (a).1.e, .bool (a).2.neg, .slice A' n' i', .int .i64 (a).2.e] 28)) #[.bool (b).1.neg, .slice B m j, .int .i64 (b).1.e, .bool (b).2.neg, .slice B' m' j', .int .i64 (b).2.e] 28
 rw [show (w.alloc (.cells #[.bool (a).1.neg, .slice A n i, .int .i64 (a).1.e, .bool (a).2.neg, .slice A' n' i', .int .i64 (a).2.e] 28)).heap.size = w.heap.size + 1 by simp] at xb
 obtain ⟨k0, k1, k2, k3, k4, k5, -⟩ := xa.cell6
 obtain ⟨l0, l1, l2, l3, l4, l5, -⟩ := xb.cell6
 obtain ⟨g0, g1, -⟩ := (hk.later bw).cells
 have ME := Be (fun w1 (hb : Below w.heap.size w w1) => Bee a b A A' B B' n i n' i' m j m' j' w1 (a1.below hb) (a2.below hb) (b1.below hb) (b2.below hb) ra rb h)
 have NA := Be (fun w1 (hb : Below w.heap.size w w1) => Bal a N A A' n i n' i' w1 (a1.below hb) (a2.below hb) ra hN h2)
 clear a1 a2 b1 b2 ra rb hk h h2
 go_enter Tryz.func22, Tryz.ntmps22
 go_wp2_with fail
 refine (ME.out _ bw).mono ?_
 rintro r w5 ⟨rfl, hb5⟩
 have xa := xa.later hb5
 have bw := Bc bw hb5
 clear k0 k1 k2 k3 k4 k5 l0 l1 l2 l3 l4 l5 g0 g1
 obtain ⟨k0, k1, k2, k3, k4, k5, -⟩ := xa.cell6
 go_wp2_with fail
 refine (NA.out _ bw).mono ?_
 rintro r w6 ⟨rfl, hb6⟩
 have bw := Bc bw hb6
 go_wp2_with fail
 go_ret
 exact ⟨rfl, bw⟩
def Bds : Bool := qpi 16 fun a => and (and (Cp a) (Sa 20 a 999988)) (fQ (Jg 3) fun d => and (Fe d) (Bah 16 a ⟨d, d⟩ fun t => and (and (Fe t.l) (Fe t.h)) (and (not t.l.s) (not (Nat.beq t.l.m 0)))))
theorem Bbx : Bds = true := by decide +kernel
theorem Bf2 : ∃ a d t : Dy × Dy, piS 16 = some a ∧ Je 16 3 = some d ∧ Bev 16 a d = some t ∧ t.1.neg = false ∧ t.1.m ≠ 0 ∧ Cj a = true ∧ Ka a (-12) = true ∧ Dq t.1 = true := by
 have h := Bbx
 unfold Bds at h
 obtain ⟨a, e1, h⟩ := Be4 (by decide) (by decide) h
 rw [Hy] at h
 rw [Bool.and_eq_true, Bool.and_eq_true, Bool.and_eq_true] at h
 obtain ⟨⟨ra, na⟩, gd, h⟩ := h
 have ra := Cv ra
 obtain ⟨t, gl, gh, e2, h⟩ := Xk (P := 16) (by decide) (by decide) ra (Hb (Dc gd)) h
 simp only [Bool.and_eq_true, Bool.not_eq_true', Fm, decide_eq_false_iff_not] at h
 have en := Kc (P := 16) (by decide) (by decide) 3
 have na := Td na
 have e3 : ((999988 : Nat) : Int) - 1000000 = -12 := by omega
 rw [e3] at na
 refine ⟨a.d, ((Jg 3).d, (Jg 3).d), t.d, e1, en, e2, h.2.1, ?_, ra.r, na, gl.fit⟩
 have := h.2.2
 show (t.l.m : Int) ≠ 0
 omega
theorem Yx (w : World) (hT : Tz w) : Calls Tryz.prog 18 #[] w fun r w' => r = .returned (.bool true) ∧ Below w.heap.size w w' := by
 obtain ⟨a, d, t, ea, ed, et, hng, hm, ra, hnar, ft⟩ := Bf2
 go_enter Tryz.func18, Tryz.ntmps18
 go_wp2_with fail
 refine (Sv 16 false w).mono ?_
 rintro r w1 ⟨g, rfl, hk, h1, -⟩
 go_wp2_with fail
 refine (sepi g 16 a _ hk (hT.below h1) (by omega) (by omega) ea).mono ?_
 rintro r w2 ⟨A1, n1, i1, A2, n2, i2, rfl, a1, a2, h2⟩
 have hk := hk.later h2
 have bw := Bc h1 h2
 have lk := hk.lt
 have ba : Below w2.heap.size w2 (w2.alloc (.cells #[.bool false, .slice none 0 0, .int .i64 0, .bool false, .slice none 0 0, .int .i64 0] 28)) := Ba (Bb _) _
 have xz := Bg w2 #[.bool false, .slice none 0 0, .int .i64 0, .bool false, .slice none 0 0, .int .i64 0] 28
 have hk := hk.later ba
 have a1 := a1.below ba
 have a2 := a2.below ba
 have ksz := bw.size
 have bw := Bc bw ba
 clear h1 h2 ba
 go_wp2_with (refine Bt rfl _ _ rfl rfl w2.heap.size _ A1 n1 i1 _ _ A2 n2 i2 _ xz rfl rfl (fun W1 xs gW1 => ?_); have a1 := a1.grown xz Bh gW1; have a2 := a2.grown xz Bh gW1; have hk := Box.grown hk gW1 (by omega); have bw := Bl bw gW1 ksz)
 generalize w2.heap.size = ks at *
 clear xz gW1
 refine wp_region_noPanic ?_
 refine wp_region_held_drew (S := fun w' => (w'.cell? ⟨ks, 0, none⟩ = some (.bool (a).1.neg) ∧ w'.cell? ⟨ks, 1, none⟩ = some (.slice A1 n1 i1) ∧ w'.cell? ⟨ks, 2, none⟩ = some (.int .i64 (a).1.e) ∧ w'.cell? ⟨ks, 3, none⟩ = some (.bool (a).2.neg) ∧ w'.cell? ⟨ks, 4, none⟩ = some (.slice A2 n2 i2) ∧ w'.cell? ⟨ks, 5, none⟩ = some (.int .i64 (a).2.e))) (by kernel_rfl) (xs.six (Below.drew (Bb _))) (fun hHeld => ?_)
 (refine Bj 0 7 rfl ?_; (try simp only [Act.put, Bf]))
 (refine Bj 1 8 rfl ?_; (try simp only [Act.put, Bf]))
 (refine Bj 2 9 rfl ?_; (try simp only [Act.put, Bf]))
 (refine Bj 3 10 rfl ?_; (try simp only [Act.put, Bf]))
 (refine Bj 4 11 rfl ?_; (try simp only [Act.put, Bf]))
 (refine Bj 5 12 rfl ?_; (try simp only [Act.put, Bf]))
 (refine Bj 6 13 rfl ?_; (try simp only [Act.put, Bf]))
 (refine wpAnyH_ready (rs := [7, 9]) (by kernel_rfl) (by simp) ?_; refine AllReadyH.cons rfl (fun K hK => ?_) (AllReadyH.cons rfl (fun K hK => ?_) AllReadyH.nil))
 focus
  have bD : Below W1.heap.size W1 W1.drew := Below.drew (Bb _)
  (have xs := xs.later bD; have hk := hk.later bD; have a1 := a1.below bD; have a2 := a2.below bD; have bw := Bc bw bD)
  (go_simp; go_at_call 28; refine (Wc g 16 d 3 _ (by omega) (by omega) hk (hT.below bw) ed).mono ?_; rintro r6 w6 ⟨A3, n3, i3, A4, n4, i4, rfl, a3, a4, hb6⟩; (have xs := xs.later hb6; have hk := hk.later hb6; have a1 := a1.below hb6; have a2 := a2.below hb6; have bw := Bc bw hb6); (refine hK.out _ _ (xs.six (Bb _)) (fun _ => ?_); clear hHeld hK K; rename_i hHeld; (try simp only [Act.put, Bf])))
  (refine wpAnyH_ready (rs := [8, 9]) (by kernel_rfl) (by simp) ?_; refine AllReadyH.cons rfl (fun K hK => ?_) (AllReadyH.cons rfl (fun K hK => ?_) AllReadyH.nil))
  focus
   (go_simp; go_at_call 14; refine (ySub g 16 t a d A1 A2 n1 i1 n2 i2 A3 A4 n3 i3 n4 i4 _ a1 a2 a3 a4 hk (hT.below bw) et).mono ?_; rintro r7 w7 ⟨A5, n5, i5, A6, n6, i6, rfl, a5, a6, hb7⟩; (have xs := xs.later hb7; have hk := hk.later hb7; have a1 := a1.below hb7; have a2 := a2.below hb7; have bw := Bc bw hb7); (refine hK.out _ _ (xs.six (Bb _)) (fun _ => ?_); clear hHeld hK K; rename_i hHeld; (try simp only [Act.put, Bf])))
   refine Bw 9 rfl (fun K hK => ?_)
   (go_simp; have ba : Below (w7).heap.size w7 ((w7).alloc (.cells #[.bool false, .slice none 0 0, .int .i64 0, .bool false, .slice none 0 0, .int .i64 0] 28)) := Ba (Bb _) _; have xb := Bg (w7) #[.bool false, .slice none 0 0, .int .i64 0, .bool false, .slice none 0 0, .int .i64 0] 28; have lt1 := xs.lt; have ls1 := hk.lt; have kle := bw.size; generalize hkp : (w7).heap.size = kp at lt1 ls1 kle xb ⊢; clear hkp; (have xs := xs.later ba; have hk := hk.later ba; have a1 := a1.below ba; have a2 := a2.below ba; have bw := Bc bw ba); (refine hK.out _ _ (xs.six (Bb _)) (fun _ => ?_); clear hHeld hK K; rename_i hHeld; (try simp only [Act.put, Bf])))
   have a5 := a5.below ba
   have a6 := a6.below ba
   (refine Bw 10 rfl (fun K hK => ?_); refine Bz rfl _ _ rfl rfl kp _ A5 n5 i5 _ _ A6 n6 i6 _ xb rfl rfl (fun W3 y3 gW3 => ?_); have xs := xs.grown gW3 (by omega); have hk := Box.grown hk gW3 (by omega); have a1 := a1.grown xb Bh gW3; have a2 := a2.grown xb Bh gW3; have a5 := a5.grown xb Bh gW3; have bw := Bl bw gW3 (by omega); (refine hK.out _ _ (xs.six (Bb _)) (fun _ => ?_); clear hHeld hK K; rename_i hHeld; (try simp only [Act.put, Bf])); refine Cn ?_)
  rotate_left
  focus
   (go_simp; have ba : Below (w6).heap.size w6 ((w6).alloc (.cells #[.bool false, .slice none 0 0, .int .i64 0, .bool false, .slice none 0 0, .int .i64 0] 28)) := Ba (Bb _) _; have xb := Bg (w6) #[.bool false, .slice none 0 0, .int .i64 0, .bool false, .slice none 0 0, .int .i64 0] 28; have lt1 := xs.lt; have ls1 := hk.lt; have kle := bw.size; generalize hkp : (w6).heap.size = kp at lt1 ls1 kle xb ⊢; clear hkp; (have xs := xs.later ba; have hk := hk.later ba; have a1 := a1.below ba; have a2 := a2.below ba; have bw := Bc bw ba); (refine hK.out _ _ (xs.six (Bb _)) (fun _ => ?_); clear hHeld hK K; rename_i hHeld; (try simp only [Act.put, Bf])))
   have a3 := a3.below ba
   have a4 := a4.below ba
   refine Bw 8 rfl (fun K hK => ?_)
   (go_simp; go_at_call 14; refine (ySub g 16 t a d A1 A2 n1 i1 n2 i2 A3 A4 n3 i3 n4 i4 _ a1 a2 a3 a4 hk (hT.below bw) et).mono ?_; rintro r7 w7 ⟨A5, n5, i5, A6, n6, i6, rfl, a5, a6, hb7⟩; (have xs := xs.later hb7; have hk := hk.later hb7; have a1 := a1.below hb7; have a2 := a2.below hb7; have bw := Bc bw hb7); (refine hK.out _ _ (xs.six (Bb _)) (fun _ => ?_); clear hHeld hK K; rename_i hHeld; (try simp only [Act.put, Bf])))
   have xb := xb.later hb7
   (refine Bw 10 rfl (fun K hK => ?_); refine Bz rfl _ _ rfl rfl kp _ A5 n5 i5 _ _ A6 n6 i6 _ xb rfl rfl (fun W3 y3 gW3 => ?_); have xs := xs.grown gW3 (by omega); have hk := Box.grown hk gW3 (by omega); have a1 := a1.grown xb Bh gW3; have a2 := a2.grown xb Bh gW3; have a5 := a5.grown xb Bh gW3; have bw := Bl bw gW3 (by omega); (refine hK.out _ _ (xs.six (Bb _)) (fun _ => ?_); clear hHeld hK K; rename_i hHeld; (try simp only [Act.put, Bf])); refine Cn ?_)
 rotate_left 2
 focus
  go_simp
  have bA : Below W1.heap.size W1 (W1.alloc (.cells #[.bool false, .slice none 0 0, .int .i64 0, .bool false, .slice none 0 0, .int .i64 0] 28)).drew := Below.drew (Ba (Bb _) _)
  have xb := (Bg W1 #[.bool false, .slice none 0 0, .int .i64 0, .bool false, .slice none 0 0, .int .i64 0] 28).later (Below.drew (Bb (W1.alloc (.cells #[.bool false, .slice none 0 0, .int .i64 0, .bool false, .slice none 0 0, .int .i64 0] 28))))
  have lt1 := xs.lt
  have ls1 := hk.lt
  have kle := bw.size
  (have xs := xs.later bA; have hk := hk.later bA; have a1 := a1.below bA; have a2 := a2.below bA; have bw := Bc bw bA)
  generalize hkp : W1.heap.size = kp at lt1 ls1 kle xb ⊢
  clear hkp bA
  (refine hK.out _ _ (xs.six (Bb _)) (fun _ => ?_); clear hHeld hK K; rename_i hHeld; (try simp only [Act.put, Bf]))
  refine Bw 7 rfl (fun K hK => ?_)
  (go_simp; go_at_call 28; refine (Wc g 16 d 3 _ (by omega) (by omega) hk (hT.below bw) ed).mono ?_; rintro r6 w6 ⟨A3, n3, i3, A4, n4, i4, rfl, a3, a4, hb6⟩; (have xs := xs.later hb6; have hk := hk.later hb6; have a1 := a1.below hb6; have a2 := a2.below hb6; have bw := Bc bw hb6); (refine hK.out _ _ (xs.six (Bb _)) (fun _ => ?_); clear hHeld hK K; rename_i hHeld; (try simp only [Act.put, Bf])))
  have xb := xb.later hb6
  refine Bw 8 rfl (fun K hK => ?_)
  (go_simp; go_at_call 14; refine (ySub g 16 t a d A1 A2 n1 i1 n2 i2 A3 A4 n3 i3 n4 i4 _ a1 a2 a3 a4 hk (hT.below bw) et).mono ?_; rintro r7 w7 ⟨A5, n5, i5, A6, n6, i6, rfl, a5, a6, hb7⟩; (have xs := xs.later hb7; have hk := hk.later hb7; have a1 := a1.below hb7; have a2 := a2.below hb7; have bw := Bc bw hb7); (refine hK.out _ _ (xs.six (Bb _)) (fun _ => ?_); clear hHeld hK K; rename_i hHeld; (try simp only [Act.put, Bf])))
  have xb := xb.later hb7
  (refine Bw 10 rfl (fun K hK => ?_); refine Bz rfl _ _ rfl rfl kp _ A5 n5 i5 _ _ A6 n6 i6 _ xb rfl rfl (fun W3 y3 gW3 => ?_); have xs := xs.grown gW3 (by omega); have hk := Box.grown hk gW3 (by omega); have a1 := a1.grown xb Bh gW3; have a2 := a2.grown xb Bh gW3; have a5 := a5.grown xb Bh gW3; have bw := Bl bw gW3 (by omega); (refine hK.out _ _ (xs.six (Bb _)) (fun _ => ?_); clear hHeld hK K; rename_i hHeld; (try simp only [Act.put, Bf])); refine Cn ?_)
 all_goals
  clear hHeld xb gW3
  have zl := Jt a5 ft
  have hl : decide (0 < n5) = true := by simp; omega
  have NA := Be (fun w1 (hb : Below W3.heap.size W3 w1) => Bal a (-12) A1 A2 n1 i1 n2 i2 w1 (a1.below hb) (a2.below hb) ra (by omega) hnar)
  have hkw : Wk W3 g 16 false 44 := hk
  obtain ⟨g0, g1, -⟩ := hkw.cells
  obtain ⟨e0, e1, e2, e3, e4, e5, -⟩ := xs.cell6
  clear zl hm a1 a2
  go_wp2_with fail
  refine (NA.out _ (Bb _)).mono ?_
  rintro r8 w8 ⟨rfl, hb8⟩
  have y3 := y3.later hb8
  have bw := Bc bw hb8
  clear e0 e1 e2 e3 e4 e5
  obtain ⟨e0, e1, e2, e3, e4, e5, -⟩ := y3.cell6
  go_wp2_with fail
  go_ret
  exact ⟨rfl, bw⟩
def jPi : Qn := ⟨false, 17327932629517120697874217813645658872113946616682530475788917899759651262745400481216185385248150321263005185212962159878930760726752187213406766681234204670869893132595978335229882583102200710067954774848343467604193, 999280⟩
def jLn : Qn := ⟨false, 3823158815118224161610134413427560790105361043196219326568169991709715507778361534302924387495437325064809479105667442084897079904240601450446881737911117177346285674572123959927885521304535177461563342944137142543727, 999280⟩
theorem jPi_good : Good jPi := Dc (by decide +kernel)
theorem jLn_good : Good jLn := Dc (by decide +kernel)
end Go.Proofs.YteffemhapnbaeaaGreatDoor
