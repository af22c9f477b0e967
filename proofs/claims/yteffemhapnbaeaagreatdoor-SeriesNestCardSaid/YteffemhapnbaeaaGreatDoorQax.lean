/- Walks and laws that the claim's row needs. No conditions. -/
import Derived.Deep.RegionHeld3
import Derived.Test.YteffemhapnbaeaaGreatDoorQaw
import Derived.Test.YteffemhapnbaeaaGreatDoorQau
import Derived.Test.YteffemhapnbaeaaGreatDoorQal
import Derived.Test.YteffemhapnbaeaaGreatDoorQaj
import Derived.Test.YteffemhapnbaeaaGreatDoorQas
set_option maxHeartbeats 16000000
set_option linter.unusedSimpArgs false
set_option linter.unusedVariables false
namespace Go.Proofs.YteffemhapnbaeaaGreatDoor
open Go.RowKit Num
variable {tw : TypeId}
set_option maxRecDepth 100000
def Lw (P : Int) (turn : Bool) (sq : Dy × Dy) (k : Int) (t : Dy × Dy) : Option ((Dy × Dy) × (Dy × Dy)) :=
 (Qm P t sq).bind fun t' => (Je P (2 * k + 1)).bind fun m => (Qm P t' m).bind fun q => (if turn && decide (k % 2 = 1) then Tw P q else some q).bind fun r => some (t', r)
theorem Bje (g s2 s3 s4 : Nat) (P k : Int) (turn : Bool) (sq t t' r' : Dy × Dy) (B B' : Option Addr) (m j m' j' : Nat) (A A' : Option Addr) (n i n' i' : Nat) (w : World) (hk : Wk w g P false tw) (hT : Tz w)
  (x2 : Box w s2 #[.pointer (some ⟨g, 0, none⟩)] 40) (x3 : Box w s3 #[.bool sq.1.neg, .slice B m j, .int .i64 sq.1.e, .bool sq.2.neg, .slice B' m' j', .int .i64 sq.2.e] 28) (x4 : Box w s4 #[.bool turn] 4)
  (q1 : Arr w B m j (wd sq.1.m)) (q2 : Arr w B' m' j' (wd sq.2.m)) (t1 : Arr w A n i (wd t.1.m)) (t2 : Arr w A' n' i' (wd t.2.m)) (hk0 : 0 ≤ k) (hk1 : k ≤ 1000000) (h : Lw P turn sq k t = some (t', r')) :
  Calls Tryz.prog 124 #[.int .i64 k, (.agg #[.bool (t).1.neg, .slice A n i, .int .i64 (t).1.e, .bool (t).2.neg, .slice A' n' i', .int .i64 (t).2.e]), .pointer (some ⟨s2, 0, none⟩), .pointer (some ⟨s3, 0, none⟩), .pointer (some ⟨s4, 0, none⟩)] w (fun r w' => ∃ A n i A' n' i' B m j B' m' j',
   r = .returned (.tuple #[(.agg #[.bool (t').1.neg, .slice A n i, .int .i64 (t').1.e, .bool (t').2.neg, .slice A' n' i', .int .i64 (t').2.e]), (.agg #[.bool (r').1.neg, .slice B m j, .int .i64 (r').1.e, .bool (r').2.neg, .slice B' m' j', .int .i64 (r').2.e])]) ∧ Arr w' A n i (wd t'.1.m) ∧ Arr w' A' n' i' (wd t'.2.m) ∧ Arr w' B m j (wd r'.1.m) ∧ Arr w' B' m' j' (wd r'.2.m) ∧ Below w.heap.size w w') := by
 obtain ⟨t₀, ht', h⟩ := bind_some h
 obtain ⟨u, hu, h⟩ := bind_some h
 obtain ⟨q, hq, h⟩ := bind_some h
 obtain ⟨r₀, hr, h⟩ := bind_some h
 obtain ⟨rfl, rfl⟩ : t₀ = t' ∧ r₀ = r' := by
  injection h with h
  injection h with h1 h2
  exact ⟨h1, h2⟩
 have b0 : Below w.heap.size w (((w.alloc (.cells #[.bool (t).1.neg, .slice A n i, .int .i64 (t).1.e, .bool (t).2.neg, .slice A' n' i', .int .i64 (t).2.e] 28)).alloc (.cells #[.bool false, .slice none 0 0, .int .i64 0, .bool false, .slice none 0 0, .int .i64 0] 28)).alloc (.cells #[.bool false, .slice none 0 0, .int .i64 0, .bool false, .slice none 0 0, .int .i64 0] 28)) := Ba (Ba (Ba (Bb w) _) _) _
 have xt := ((Bg w #[.bool t.1.neg, .slice A n i, .int .i64 t.1.e, .bool t.2.neg, .slice A' n' i', .int .i64 t.2.e] 28).later (Ba (Bb _) (.cells #[.bool false, .slice none 0 0, .int .i64 0, .bool false, .slice none 0 0, .int .i64 0] 28))).later (Ba (Bb _) (.cells #[.bool false, .slice none 0 0, .int .i64 0, .bool false, .slice none 0 0, .int .i64 0] 28))
 have xr1 := (Bg (w.alloc (.cells #[.bool (t).1.neg, .slice A n i, .int .i64 (t).1.e, .bool (t).2.neg, .slice A' n' i', .int .i64 (t).2.e] 28)) #[.bool false, .slice none 0 0, .int .i64 0, .bool false, .slice none 0 0, .int .i64 0] 28).later (Ba (Bb _) (.cells #[.bool false, .slice none 0 0, .int .i64 0, .bool false, .slice none 0 0, .int .i64 0] 28))
 have xr2 := (Bg ((w.alloc (.cells #[.bool (t).1.neg, .slice A n i, .int .i64 (t).1.e, .bool (t).2.neg, .slice A' n' i', .int .i64 (t).2.e] 28)).alloc (.cells #[.bool false, .slice none 0 0, .int .i64 0, .bool false, .slice none 0 0, .int .i64 0] 28)) #[.bool false, .slice none 0 0, .int .i64 0, .bool false, .slice none 0 0, .int .i64 0] 28)
 have vs : (((w.alloc (.cells #[.bool (t).1.neg, .slice A n i, .int .i64 (t).1.e, .bool (t).2.neg, .slice A' n' i', .int .i64 (t).2.e] 28)).alloc (.cells #[.bool false, .slice none 0 0, .int .i64 0, .bool false, .slice none 0 0, .int .i64 0] 28)).alloc (.cells #[.bool false, .slice none 0 0, .int .i64 0, .bool false, .slice none 0 0, .int .i64 0] 28)).heap.size = w.heap.size + 1 + 1 + 1 := by simp
 rw [show (w.alloc (.cells #[.bool (t).1.neg, .slice A n i, .int .i64 (t).1.e, .bool (t).2.neg, .slice A' n' i', .int .i64 (t).2.e] 28)).heap.size = w.heap.size + 1 by simp] at xr1
 rw [show ((w.alloc (.cells #[.bool (t).1.neg, .slice A n i, .int .i64 (t).1.e, .bool (t).2.neg, .slice A' n' i', .int .i64 (t).2.e] 28)).alloc (.cells #[.bool false, .slice none 0 0, .int .i64 0, .bool false, .slice none 0 0, .int .i64 0] 28)).heap.size = w.heap.size + 1 + 1 by simp] at xr2
 generalize hW : ((w.alloc (.cells #[.bool (t).1.neg, .slice A n i, .int .i64 (t).1.e, .bool (t).2.neg, .slice A' n' i', .int .i64 (t).2.e] 28)).alloc (.cells #[.bool false, .slice none 0 0, .int .i64 0, .bool false, .slice none 0 0, .int .i64 0] 28)).alloc (.cells #[.bool false, .slice none 0 0, .int .i64 0, .bool false, .slice none 0 0, .int .i64 0] 28) = V at *
 have DV1 := fun w1 (hb : Below w.heap.size w w1) => yDiv g P t₀ t sq A A' n i n' i' B B' m j m' j' w1 (t1.below hb) (t2.below hb) (q1.below hb) (q2.below hb) (hk.later hb) (hT.below hb) ht'
 have NU := fun w1 (hb : Below w.heap.size w w1) => Wc g P u (2 * k + 1) w1 (by omega) (by omega) (hk.later hb) (hT.below hb) hu
 have DV2 := fun w1 A k l A' k' l' B m j B' m' j' (hb : Below w.heap.size w w1) h1 h2 h3 h4 => yDiv g P q t₀ u A k l A' k' l' B m j B' m' j' w1 h1 h2 h3 h4 (hk.later hb) (hT.below hb) hq
 have KQ : ∀ w', Below w.heap.size w w' → (w'.cell? ⟨s2, 0, none⟩ = some (.pointer (some ⟨g, 0, none⟩)) ∧ (w'.cell? ⟨s3, 0, none⟩ = some (.bool sq.1.neg) ∧ w'.cell? ⟨s3, 1, none⟩ = some (.slice B m j) ∧ w'.cell? ⟨s3, 2, none⟩ = some (.int .i64 sq.1.e) ∧ w'.cell? ⟨s3, 3, none⟩ = some (.bool sq.2.neg) ∧ w'.cell? ⟨s3, 4, none⟩ = some (.slice B' m' j') ∧ w'.cell? ⟨s3, 5, none⟩ = some (.int .i64 sq.2.e)) ∧ w'.cell? ⟨s4, 0, none⟩ = some (.bool turn)) := fun w' hb => ⟨(x2.later hb).cell 0, x3.six hb, (x4.later hb).cell 0⟩
 have DV1 := Be DV1
 have DV2 := Be DV2
 have NU := Be NU
 have KQ := Be KQ
 have HW := Be hW
 have VS := Be vs
 have kq : IntKind.i64.wrap (2 * k) = 2 * k := by rw [IntKind.wrap_i64]; omega
 have kq1 : IntKind.i64.wrap (2 * k + 1) = 2 * k + 1 := by rw [IntKind.wrap_i64]; omega
 have bw := Below.drew b0
 have xt1 := xt.later (Below.drew (Bb _))
 have xr1 := xr1.later (Below.drew (Bb _))
 have xr2 := xr2.later (Below.drew (Bb _))
 clear hW vs x2 x3 x4 q1 q2 t1 t2 ht' hu hq h b0
 obtain ⟨c0, c1, c2, c3, c4, c5, -⟩ := xt.cell6
 go_enter Tryz.func124, Tryz.ntmps124
 go_wp2_with fail
 rw [HW.out]
 refine wp_region_noPanic ?_
 refine wp_region_held_drew (S := fun w' => (w'.cell? ⟨s2, 0, none⟩ = some (.pointer (some ⟨g, 0, none⟩)) ∧ (w'.cell? ⟨s3, 0, none⟩ = some (.bool sq.1.neg) ∧ w'.cell? ⟨s3, 1, none⟩ = some (.slice B m j) ∧ w'.cell? ⟨s3, 2, none⟩ = some (.int .i64 sq.1.e) ∧ w'.cell? ⟨s3, 3, none⟩ = some (.bool sq.2.neg) ∧ w'.cell? ⟨s3, 4, none⟩ = some (.slice B' m' j') ∧ w'.cell? ⟨s3, 5, none⟩ = some (.int .i64 sq.2.e)) ∧ w'.cell? ⟨s4, 0, none⟩ = some (.bool turn))) (by kernel_rfl) (KQ.out _ bw) (fun hHeld => ?_)
 (refine Bj 0 10 rfl ?_; (try simp only [Act.put, Bf]))
 (refine Bj 1 11 rfl ?_; (try simp only [Act.put, Bf]))
 (refine Bj 2 12 rfl ?_; (try simp only [Act.put, Bf]))
 (refine Bj 4 14 rfl ?_; (try simp only [Act.put, Bf]))
 refine Bw 3 rfl (fun K hK => ?_)
 go_simp
 (refine hK.out _ _ (KQ.out _ bw) (fun _ => ?_); clear hHeld hK K; rename_i hHeld; (try simp only [Act.put, Bf]))
 refine Bw 5 rfl (fun K hK => ?_)
 go_simp
 go_at_call 27
 refine (DV1.out _ bw).mono ?_
 rintro r w5 ⟨A1, n1, i1, A2, n2, i2, rfl, a1, a2, hb5⟩
 have bw := Bc bw hb5
 have xt1 := xt1.later hb5
 have xr1 := xr1.later hb5
 have xr2 := xr2.later hb5
 (refine hK.out _ _ (KQ.out _ bw) (fun _ => ?_); clear hHeld hK K; rename_i hHeld; (try simp only [Act.put, Bf]))
 refine Bw 6 rfl (fun K hK => ?_)
 refine Bz rfl _ _ rfl rfl w.heap.size _ A1 n1 i1 _ _ A2 n2 i2 _ xt1 rfl rfl (fun W1 y1 gW1 => ?_)
 have a1 := a1.grown xt1 Bh gW1
 have a2 := a2.grown xt1 Bh gW1
 have bw := Bl bw gW1 (Nat.le_refl _)
 have xr1 := xr1.grown gW1 (by omega)
 have xr2 := xr2.grown gW1 (by omega)
 (refine hK.out _ _ (KQ.out _ bw) (fun _ => ?_); clear hHeld hK K; rename_i hHeld; (try simp only [Act.put, Bf]))
 refine Cn ?_
 have kW3 : w.heap.size + 1 + 1 + 1 ≤ W1.heap.size := by
  have u1 := VS.out
  have u2 : V.heap.size ≤ w5.heap.size := hb5.size
  have u3 := gW1.size
  omega
 clear hHeld xt1 xt gW1 hb5
 have NU := Be (fun w1 (hb : Below W1.heap.size W1 w1) => NU.out w1 (Bc bw hb))
 have xr12 := Be (And.intro xr1 xr2)
 have aa := Be (And.intro a1 a2)
 have kW := bw.size
 clear xr1 xr2 a1 a2
 obtain ⟨c0, c1, c2, c3, c4, c5, -⟩ := y1.cell6
 have hsq := KQ.out _ bw
 go_wp2_with fail
 refine wp_region_noPanic ?_
 have kQ2 : ∀ w', Below W1.heap.size W1 w' → (w'.cell? ⟨s2, 0, none⟩ = some (.pointer (some ⟨g, 0, none⟩)) ∧ (w'.cell? ⟨s3, 0, none⟩ = some (.bool sq.1.neg) ∧ w'.cell? ⟨s3, 1, none⟩ = some (.slice B m j) ∧ w'.cell? ⟨s3, 2, none⟩ = some (.int .i64 sq.1.e) ∧ w'.cell? ⟨s3, 3, none⟩ = some (.bool sq.2.neg) ∧ w'.cell? ⟨s3, 4, none⟩ = some (.slice B' m' j') ∧ w'.cell? ⟨s3, 5, none⟩ = some (.int .i64 sq.2.e)) ∧ w'.cell? ⟨s4, 0, none⟩ = some (.bool turn)) ∧ (w'.cell? ⟨w.heap.size, 0, none⟩ = some (.bool (t₀).1.neg) ∧ w'.cell? ⟨w.heap.size, 1, none⟩ = some (.slice A1 n1 i1) ∧ w'.cell? ⟨w.heap.size, 2, none⟩ = some (.int .i64 (t₀).1.e) ∧ w'.cell? ⟨w.heap.size, 3, none⟩ = some (.bool (t₀).2.neg) ∧ w'.cell? ⟨w.heap.size, 4, none⟩ = some (.slice A2 n2 i2) ∧ w'.cell? ⟨w.heap.size, 5, none⟩ = some (.int .i64 (t₀).2.e)) := fun w' hb => ⟨KQ.out _ (Bc bw hb), y1.six hb⟩
 have kQ2 := Be kQ2
 refine wp_region_held_drew (S := fun w' => (w'.cell? ⟨s2, 0, none⟩ = some (.pointer (some ⟨g, 0, none⟩)) ∧ (w'.cell? ⟨s3, 0, none⟩ = some (.bool sq.1.neg) ∧ w'.cell? ⟨s3, 1, none⟩ = some (.slice B m j) ∧ w'.cell? ⟨s3, 2, none⟩ = some (.int .i64 sq.1.e) ∧ w'.cell? ⟨s3, 3, none⟩ = some (.bool sq.2.neg) ∧ w'.cell? ⟨s3, 4, none⟩ = some (.slice B' m' j') ∧ w'.cell? ⟨s3, 5, none⟩ = some (.int .i64 sq.2.e)) ∧ w'.cell? ⟨s4, 0, none⟩ = some (.bool turn)) ∧ (w'.cell? ⟨w.heap.size, 0, none⟩ = some (.bool (t₀).1.neg) ∧ w'.cell? ⟨w.heap.size, 1, none⟩ = some (.slice A1 n1 i1) ∧ w'.cell? ⟨w.heap.size, 2, none⟩ = some (.int .i64 (t₀).1.e) ∧ w'.cell? ⟨w.heap.size, 3, none⟩ = some (.bool (t₀).2.neg) ∧ w'.cell? ⟨w.heap.size, 4, none⟩ = some (.slice A2 n2 i2) ∧ w'.cell? ⟨w.heap.size, 5, none⟩ = some (.int .i64 (t₀).2.e))) (by kernel_rfl) (kQ2.out _ (Below.drew (Bb _))) (fun hHeld => ?_)
 (refine Bj 0 16 rfl ?_; (try simp only [Act.put, Bf]))
 (refine Bj 1 17 rfl ?_; (try simp only [Act.put, Bf]))
 (refine Bj 2 18 rfl ?_; (try simp only [Act.put, Bf]))
 (refine Bj 3 19 rfl ?_; (try simp only [Act.put, Bf]))
 (refine Bj 4 20 rfl ?_; (try simp only [Act.put, Bf]))
 (refine Bj 5 21 rfl ?_; (try simp only [Act.put, Bf]))
 (refine Bj 6 22 rfl ?_; (try simp only [Act.put, Bf]))
 (refine Bj 7 23 rfl ?_; (try simp only [Act.put, Bf]))
 (refine Bj 8 24 rfl ?_; (try simp only [Act.put, Bf]))
 (refine Bj 9 25 rfl ?_; (try simp only [Act.put, Bf]))
 have bv : Below W1.heap.size W1 W1.drew := Below.drew (Bb _)
 have DV3 : ∀ w1 A A' k l k' l', Below W1.heap.size W1 w1 → Arr w1 A k l (wd u.1.m) → Arr w1 A' k' l' (wd u.2.m) → _ := fun w1 A A' k l k' l' hb h3 h4 => DV2.out w1 A1 A2 n1 i1 n2 i2 A A' k l k' l' (Bc bw hb) (aa.out.1.below hb) (aa.out.2.below hb) h3 h4
 have DV3 := Be DV3
 (refine wpAnyH_ready (rs := [10, 12]) (by kernel_rfl) (by simp) ?_; refine AllReadyH.cons rfl (fun K hK => ?_) (AllReadyH.cons rfl (fun K hK => ?_) AllReadyH.nil))
 focus
  (go_simp; go_at_call 28; refine (NU.out _ bv).mono ?_; rintro r w6 ⟨A3, n3, i3, A4, n4, i4, rfl, a3, a4, hb6⟩; have bv := Bc bv hb6; (refine hK.out _ _ (kQ2.out _ bv) (fun _ => ?_); clear hHeld hK K; rename_i hHeld; (try simp only [Act.put, Bf])))
  (refine wpAnyH_ready (rs := [11, 12]) (by kernel_rfl) (by simp) ?_; refine AllReadyH.cons rfl (fun K hK => ?_) (AllReadyH.cons rfl (fun K hK => ?_) AllReadyH.nil))
  focus
   (go_simp; go_at_call 27; refine (DV3.out _ _ _ _ _ _ _ bv a3 a4).mono ?_; rintro r w7 ⟨A5, n5, i5, A6, n6, i6, rfl, a5, a6, hb7⟩; have bv := Bc bv hb7; (refine hK.out _ _ (kQ2.out _ bv) (fun _ => ?_); clear hHeld hK K; rename_i hHeld; (try simp only [Act.put, Bf])))
   refine Bw 12 rfl (fun K hK => ?_)
   go_simp
   (refine hK.out _ _ (kQ2.out _ (Ba bv _)) (fun _ => ?_); clear hHeld hK K; rename_i hHeld; (try simp only [Act.put, Bf]))
   (have bw0 := bv; have xb := Bg (w7) #[.bool false, .slice none 0 0, .int .i64 0, .bool false, .slice none 0 0, .int .i64 0] 28; have bv := Ba bv (.cells #[.bool false, .slice none 0 0, .int .i64 0, .bool false, .slice none 0 0, .int .i64 0] 28); have kle := bw0.size; clear bw0; generalize (w7).heap.size = kx at *)
   have a5 := a5.below (Ba (Bb w7) (.cells #[.bool false, .slice none 0 0, .int .i64 0, .bool false, .slice none 0 0, .int .i64 0] 28))
   have a6 := a6.below (Ba (Bb w7) (.cells #[.bool false, .slice none 0 0, .int .i64 0, .bool false, .slice none 0 0, .int .i64 0] 28))
   generalize w7.alloc (.cells #[.bool false, .slice none 0 0, .int .i64 0, .bool false, .slice none 0 0, .int .i64 0] 28) = w9 at *
   (refine Bw 13 rfl (fun K hK => ?_); refine Bz rfl _ _ rfl rfl kx _ A5 n5 i5 _ _ A6 n6 i6 _ xb rfl rfl (fun W2 y2 gW2 => ?_); have a5 := a5.grown xb Bh gW2; have a6 := a6.grown xb Bh gW2; have bv := Bl bv gW2 kle; (refine hK.out _ _ (kQ2.out _ bv) (fun _ => ?_); clear hHeld hK K; rename_i hHeld; (try simp only [Act.put, Bf])); refine Cn ?_)
  rotate_left
  focus
   go_simp
   (refine hK.out _ _ (kQ2.out _ (Ba bv _)) (fun _ => ?_); clear hHeld hK K; rename_i hHeld; (try simp only [Act.put, Bf]))
   (have bw0 := bv; have xb := Bg (w6) #[.bool false, .slice none 0 0, .int .i64 0, .bool false, .slice none 0 0, .int .i64 0] 28; have bv := Ba bv (.cells #[.bool false, .slice none 0 0, .int .i64 0, .bool false, .slice none 0 0, .int .i64 0] 28); have kle := bw0.size; clear bw0; generalize (w6).heap.size = kx at *)
   have a3 := a3.below (Ba (Bb w6) (.cells #[.bool false, .slice none 0 0, .int .i64 0, .bool false, .slice none 0 0, .int .i64 0] 28))
   have a4 := a4.below (Ba (Bb w6) (.cells #[.bool false, .slice none 0 0, .int .i64 0, .bool false, .slice none 0 0, .int .i64 0] 28))
   generalize w6.alloc (.cells #[.bool false, .slice none 0 0, .int .i64 0, .bool false, .slice none 0 0, .int .i64 0] 28) = w9 at *
   refine Bw 11 rfl (fun K hK => ?_)
   (go_simp; go_at_call 27; refine (DV3.out _ _ _ _ _ _ _ bv a3 a4).mono ?_; rintro r w7 ⟨A5, n5, i5, A6, n6, i6, rfl, a5, a6, hb7⟩; have bv := Bc bv hb7; (refine hK.out _ _ (kQ2.out _ bv) (fun _ => ?_); clear hHeld hK K; rename_i hHeld; (try simp only [Act.put, Bf])))
   have xb := xb.later hb7
   (refine Bw 13 rfl (fun K hK => ?_); refine Bz rfl _ _ rfl rfl kx _ A5 n5 i5 _ _ A6 n6 i6 _ xb rfl rfl (fun W2 y2 gW2 => ?_); have a5 := a5.grown xb Bh gW2; have a6 := a6.grown xb Bh gW2; have bv := Bl bv gW2 kle; (refine hK.out _ _ (kQ2.out _ bv) (fun _ => ?_); clear hHeld hK K; rename_i hHeld; (try simp only [Act.put, Bf])); refine Cn ?_)
 rotate_left 2
 focus
  go_simp
  have bz := Below.drew (Ba (Bb W1) (.cells #[.bool false, .slice none 0 0, .int .i64 0, .bool false, .slice none 0 0, .int .i64 0] 28))
  (refine hK.out _ _ (kQ2.out _ bz) (fun _ => ?_); clear hHeld hK K; rename_i hHeld; (try simp only [Act.put, Bf]))
  have xb := (Bg W1 #[.bool false, .slice none 0 0, .int .i64 0, .bool false, .slice none 0 0, .int .i64 0] 28).later (Below.drew (Bb (W1.alloc (.cells #[.bool false, .slice none 0 0, .int .i64 0, .bool false, .slice none 0 0, .int .i64 0] 28))))
  have bv : Below W1.heap.size W1 (W1.alloc (.cells #[.bool false, .slice none 0 0, .int .i64 0, .bool false, .slice none 0 0, .int .i64 0] 28)).drew := Below.drew (Ba (Bb _) _)
  generalize (W1.alloc (.cells #[.bool false, .slice none 0 0, .int .i64 0, .bool false, .slice none 0 0, .int .i64 0] 28)).drew = w9 at *
  generalize hkx : W1.heap.size = kx at xb ⊢
  refine Bw 10 rfl (fun K hK => ?_)
  (go_simp; go_at_call 28; refine (NU.out _ bv).mono ?_; rintro r w6 ⟨A3, n3, i3, A4, n4, i4, rfl, a3, a4, hb6⟩; have bv := Bc bv hb6; (refine hK.out _ _ (kQ2.out _ bv) (fun _ => ?_); clear hHeld hK K; rename_i hHeld; (try simp only [Act.put, Bf])))
  refine Bw 11 rfl (fun K hK => ?_)
  (go_simp; go_at_call 27; refine (DV3.out _ _ _ _ _ _ _ bv a3 a4).mono ?_; rintro r w7 ⟨A5, n5, i5, A6, n6, i6, rfl, a5, a6, hb7⟩; have bv := Bc bv hb7; (refine hK.out _ _ (kQ2.out _ bv) (fun _ => ?_); clear hHeld hK K; rename_i hHeld; (try simp only [Act.put, Bf])))
  have xb := (xb.later hb6).later hb7
  have kle : W1.heap.size ≤ kx := by omega
  (refine Bw 13 rfl (fun K hK => ?_); refine Bz rfl _ _ rfl rfl kx _ A5 n5 i5 _ _ A6 n6 i6 _ xb rfl rfl (fun W2 y2 gW2 => ?_); have a5 := a5.grown xb Bh gW2; have a6 := a6.grown xb Bh gW2; have bv := Bl bv gW2 kle; (refine hK.out _ _ (kQ2.out _ bv) (fun _ => ?_); clear hHeld hK K; rename_i hHeld; (try simp only [Act.put, Bf])); refine Cn ?_)
 all_goals
  clear hHeld
  have bw := Bc bw bv
  have yt := y1.later bv
  have xr1 := xr12.out.1.later bv
  have xr2 := xr12.out.2.later bv
  have a1 := aa.out.1.below bv
  have a2 := aa.out.2.below bv
  obtain ⟨⟨l2, ⟨m0, m1, m2, m3, m4, m5⟩, l4⟩, o0, o1, o2, o3, o4, o5⟩ := kQ2.out _ bv
  obtain ⟨e0, e1, e2, e3, e4, e5, -⟩ := y2.cell6
  cases turn
  ·rw [if_neg (by simp)] at hr
   obtain rfl : q = r₀ := by injection hr
   have yk := y2
   have p1 := a5
   have p2 := a6
   go_wp2_with fail
   (refine wp_region_noPanic ?_; refine wp_region_held_drew (S := fun w' => (w'.cell? ⟨w.heap.size, 0, none⟩ = some (.bool (t₀).1.neg) ∧ w'.cell? ⟨w.heap.size, 1, none⟩ = some (.slice A1 n1 i1) ∧ w'.cell? ⟨w.heap.size, 2, none⟩ = some (.int .i64 (t₀).1.e) ∧ w'.cell? ⟨w.heap.size, 3, none⟩ = some (.bool (t₀).2.neg) ∧ w'.cell? ⟨w.heap.size, 4, none⟩ = some (.slice A2 n2 i2) ∧ w'.cell? ⟨w.heap.size, 5, none⟩ = some (.int .i64 (t₀).2.e)) ∧ (w'.cell? ⟨kx, 0, none⟩ = some (.bool (q).1.neg) ∧ w'.cell? ⟨kx, 1, none⟩ = some (.slice A5 n5 i5) ∧ w'.cell? ⟨kx, 2, none⟩ = some (.int .i64 (q).1.e) ∧ w'.cell? ⟨kx, 3, none⟩ = some (.bool (q).2.neg) ∧ w'.cell? ⟨kx, 4, none⟩ = some (.slice A6 n6 i6) ∧ w'.cell? ⟨kx, 5, none⟩ = some (.int .i64 (q).2.e))) (by kernel_rfl) ⟨yt.six (Below.drew (Bb _)), yk.six (Below.drew (Bb _))⟩ (fun hHeld => ?_); (have bw := Below.drew bw; have yt := yt.later (Below.drew (Bb _)); have yk := yk.later (Below.drew (Bb _)); have xr1 := xr1.later (Below.drew (Bb _)); have xr2 := xr2.later (Below.drew (Bb _)); have a1 := a1.below (Below.drew (Bb _)); have a2 := a2.below (Below.drew (Bb _)); have p1 := p1.below (Below.drew (Bb _)); have p2 := p2.below (Below.drew (Bb _))); (refine Bj 0 39 rfl ?_; (try simp only [Act.put, Bf])); (refine Bj 1 40 rfl ?_; (try simp only [Act.put, Bf])); refine Bw 2 rfl (fun K hK => ?_); refine Bz rfl _ _ rfl rfl (w.heap.size + 1) _ A1 n1 i1 _ _ A2 n2 i2 _ xr1 rfl rfl (fun W5 y5 g5 => ?_); have yt := yt.grown g5 (by omega); have yk := yk.grown g5 (by omega); have xr2 := xr2.grown g5 (by omega); have a1 := a1.grown xr1 Bh g5; have a2 := a2.grown xr1 Bh g5; have p1 := p1.grown xr1 Bh g5; have p2 := p2.grown xr1 Bh g5; have bw := Bl bw g5 (by omega); (refine hK.out _ _ (⟨yt.six (Bb _), yk.six (Bb _)⟩) (fun _ => ?_); clear hHeld hK K; rename_i hHeld; (try simp only [Act.put, Bf])); refine Bw 3 rfl (fun K hK => ?_); refine Bz rfl _ _ rfl rfl (w.heap.size + 1 + 1) _ A5 n5 i5 _ _ A6 n6 i6 _ xr2 rfl rfl (fun W6 y6 g6 => ?_); have y5 := y5.grown g6 (by omega); have yt := yt.grown g6 (by omega); have yk := yk.grown g6 (by omega); have a1 := a1.grown xr2 Bh g6; have a2 := a2.grown xr2 Bh g6; have p1 := p1.grown xr2 Bh g6; have p2 := p2.grown xr2 Bh g6; have bw := Bl bw g6 (by omega); (refine hK.out _ _ (⟨yt.six (Bb _), yk.six (Bb _)⟩) (fun _ => ?_); clear hHeld hK K; rename_i hHeld; (try simp only [Act.put, Bf])); refine Cn ?_; obtain ⟨u0, u1, u2, u3, u4, u5, -⟩ := y5.cell6; obtain ⟨v0, v1, v2, v3, v4, v5, -⟩ := y6.cell6; go_wp2_with fail; refine bodyPost_ret (v := _) ?_ rfl ⟨A1, n1, i1, A2, n2, i2, A5, n5, i5, A6, n6, i6, rfl, a1, a2, p1, p2, bw⟩; simp [results, Tryz.results124, go_sem, u0, u1, u2, u3, u4, u5, v0, v1, v2, v3, v4, v5])
  ·by_cases ho : k % 2 = 1
   ·rw [if_pos (by simp [ho])] at hr
    have km : (k % 2 == 1) = true := by simp [ho]
    have NG := Be (fun w1 A A' k l k' l' (hb : Below w.heap.size w w1) h1 h2 => yNeg g P r₀ q A A' k l k' l' w1 h1 h2 (hk.later hb) (hT.below hb) hr)
    clear ho hr
    go_wp2_with fail
    refine wp_region_noPanic ?_
    refine wp_region_held_drew (S := fun w' => (w'.cell? ⟨s2, 0, none⟩ = some (.pointer (some ⟨g, 0, none⟩)) ∧ (w'.cell? ⟨s3, 0, none⟩ = some (.bool sq.1.neg) ∧ w'.cell? ⟨s3, 1, none⟩ = some (.slice B m j) ∧ w'.cell? ⟨s3, 2, none⟩ = some (.int .i64 sq.1.e) ∧ w'.cell? ⟨s3, 3, none⟩ = some (.bool sq.2.neg) ∧ w'.cell? ⟨s3, 4, none⟩ = some (.slice B' m' j') ∧ w'.cell? ⟨s3, 5, none⟩ = some (.int .i64 sq.2.e)) ∧ w'.cell? ⟨s4, 0, none⟩ = some (.bool true))) (by kernel_rfl) (KQ.out _ (Below.drew bw)) (fun hHeld => ?_)
    have bw := Below.drew bw
    have yt := yt.later (Below.drew (Bb _))
    have xb := y2.later (Below.drew (Bb _))
    have xr1 := xr1.later (Below.drew (Bb _))
    have xr2 := xr2.later (Below.drew (Bb _))
    have a1 := a1.below (Below.drew (Bb _))
    have a2 := a2.below (Below.drew (Bb _))
    have a5 := a5.below (Below.drew (Bb _))
    have a6 := a6.below (Below.drew (Bb _))
    (refine Bj 0 34 rfl ?_; (try simp only [Act.put, Bf]))
    (refine Bj 1 35 rfl ?_; (try simp only [Act.put, Bf]))
    (refine Bj 2 36 rfl ?_; (try simp only [Act.put, Bf]))
    refine Bw 3 rfl (fun K hK => ?_)
    go_simp
    (refine hK.out _ _ (KQ.out _ bw) (fun _ => ?_); clear hHeld hK K; rename_i hHeld; (try simp only [Act.put, Bf]))
    refine Bw 4 rfl (fun K hK => ?_)
    go_simp
    go_at_call 39
    refine (NG.out _ _ _ _ _ _ _ bw a5 a6).mono ?_
    rintro r w8 ⟨A7, n7, i7, A8, n8, i8, rfl, a7, a8, hb8⟩
    have bw := Bc bw hb8
    have yt := yt.later hb8
    have xb := xb.later hb8
    have xr1 := xr1.later hb8
    have xr2 := xr2.later hb8
    have a1 := a1.below hb8
    have a2 := a2.below hb8
    (refine hK.out _ _ (KQ.out _ bw) (fun _ => ?_); clear hHeld hK K; rename_i hHeld; (try simp only [Act.put, Bf]))
    refine Bw 5 rfl (fun K hK => ?_)
    refine Bz rfl _ _ rfl rfl kx _ A7 n7 i7 _ _ A8 n8 i8 _ xb rfl rfl (fun W3 y3 gW3 => ?_)
    have p1 := a7.grown xb Bh gW3
    have p2 := a8.grown xb Bh gW3
    have a1 := a1.grown xb Bh gW3
    have a2 := a2.grown xb Bh gW3
    have yt := yt.grown gW3 (by omega)
    have xr1 := xr1.grown gW3 (by omega)
    have xr2 := xr2.grown gW3 (by omega)
    have bw := Bl bw gW3 (by omega)
    have yk := y3
    (refine hK.out _ _ (KQ.out _ bw) (fun _ => ?_); clear hHeld hK K; rename_i hHeld; (try simp only [Act.put, Bf]))
    refine Cn ?_
    clear hHeld
    obtain ⟨j0, j1, j2, j3, j4, j5, -⟩ := yk.cell6
    obtain ⟨f0, f1, f2, f3, f4, f5, -⟩ := yt.cell6
    go_wp2_with fail
    (refine wp_region_noPanic ?_; refine wp_region_held_drew (S := fun w' => (w'.cell? ⟨w.heap.size, 0, none⟩ = some (.bool (t₀).1.neg) ∧ w'.cell? ⟨w.heap.size, 1, none⟩ = some (.slice A1 n1 i1) ∧ w'.cell? ⟨w.heap.size, 2, none⟩ = some (.int .i64 (t₀).1.e) ∧ w'.cell? ⟨w.heap.size, 3, none⟩ = some (.bool (t₀).2.neg) ∧ w'.cell? ⟨w.heap.size, 4, none⟩ = some (.slice A2 n2 i2) ∧ w'.cell? ⟨w.heap.size, 5, none⟩ = some (.int .i64 (t₀).2.e)) ∧ (w'.cell? ⟨kx, 0, none⟩ = some (.bool (r₀).1.neg) ∧ w'.cell? ⟨kx, 1, none⟩ = some (.slice A7 n7 i7) ∧ w'.cell? ⟨kx, 2, none⟩ = some (.int .i64 (r₀).1.e) ∧ w'.cell? ⟨kx, 3, none⟩ = some (.bool (r₀).2.neg) ∧ w'.cell? ⟨kx, 4, none⟩ = some (.slice A8 n8 i8) ∧ w'.cell? ⟨kx, 5, none⟩ = some (.int .i64 (r₀).2.e))) (by kernel_rfl) ⟨yt.six (Below.drew (Bb _)), yk.six (Below.drew (Bb _))⟩ (fun hHeld => ?_); (have bw := Below.drew bw; have yt := yt.later (Below.drew (Bb _)); have yk := yk.later (Below.drew (Bb _)); have xr1 := xr1.later (Below.drew (Bb _)); have xr2 := xr2.later (Below.drew (Bb _)); have a1 := a1.below (Below.drew (Bb _)); have a2 := a2.below (Below.drew (Bb _)); have p1 := p1.below (Below.drew (Bb _)); have p2 := p2.below (Below.drew (Bb _))); (refine Bj 0 39 rfl ?_; (try simp only [Act.put, Bf])); (refine Bj 1 40 rfl ?_; (try simp only [Act.put, Bf])); refine Bw 2 rfl (fun K hK => ?_); refine Bz rfl _ _ rfl rfl (w.heap.size + 1) _ A1 n1 i1 _ _ A2 n2 i2 _ xr1 rfl rfl (fun W5 y5 g5 => ?_); have yt := yt.grown g5 (by omega); have yk := yk.grown g5 (by omega); have xr2 := xr2.grown g5 (by omega); have a1 := a1.grown xr1 Bh g5; have a2 := a2.grown xr1 Bh g5; have p1 := p1.grown xr1 Bh g5; have p2 := p2.grown xr1 Bh g5; have bw := Bl bw g5 (by omega); (refine hK.out _ _ (⟨yt.six (Bb _), yk.six (Bb _)⟩) (fun _ => ?_); clear hHeld hK K; rename_i hHeld; (try simp only [Act.put, Bf])); refine Bw 3 rfl (fun K hK => ?_); refine Bz rfl _ _ rfl rfl (w.heap.size + 1 + 1) _ A7 n7 i7 _ _ A8 n8 i8 _ xr2 rfl rfl (fun W6 y6 g6 => ?_); have y5 := y5.grown g6 (by omega); have yt := yt.grown g6 (by omega); have yk := yk.grown g6 (by omega); have a1 := a1.grown xr2 Bh g6; have a2 := a2.grown xr2 Bh g6; have p1 := p1.grown xr2 Bh g6; have p2 := p2.grown xr2 Bh g6; have bw := Bl bw g6 (by omega); (refine hK.out _ _ (⟨yt.six (Bb _), yk.six (Bb _)⟩) (fun _ => ?_); clear hHeld hK K; rename_i hHeld; (try simp only [Act.put, Bf])); refine Cn ?_; obtain ⟨u0, u1, u2, u3, u4, u5, -⟩ := y5.cell6; obtain ⟨v0, v1, v2, v3, v4, v5, -⟩ := y6.cell6; go_wp2_with fail; refine bodyPost_ret (v := _) ?_ rfl ⟨A1, n1, i1, A2, n2, i2, A7, n7, i7, A8, n8, i8, rfl, a1, a2, p1, p2, bw⟩; simp [results, Tryz.results124, go_sem, u0, u1, u2, u3, u4, u5, v0, v1, v2, v3, v4, v5])
   ·rw [if_neg (by simp [ho])] at hr
    obtain rfl : q = r₀ := by injection hr
    have km : (k % 2 == 1) = false := by simp [ho]
    clear ho hr
    have yk := y2
    have p1 := a5
    have p2 := a6
    go_wp2_with fail
    (refine wp_region_noPanic ?_; refine wp_region_held_drew (S := fun w' => (w'.cell? ⟨w.heap.size, 0, none⟩ = some (.bool (t₀).1.neg) ∧ w'.cell? ⟨w.heap.size, 1, none⟩ = some (.slice A1 n1 i1) ∧ w'.cell? ⟨w.heap.size, 2, none⟩ = some (.int .i64 (t₀).1.e) ∧ w'.cell? ⟨w.heap.size, 3, none⟩ = some (.bool (t₀).2.neg) ∧ w'.cell? ⟨w.heap.size, 4, none⟩ = some (.slice A2 n2 i2) ∧ w'.cell? ⟨w.heap.size, 5, none⟩ = some (.int .i64 (t₀).2.e)) ∧ (w'.cell? ⟨kx, 0, none⟩ = some (.bool (q).1.neg) ∧ w'.cell? ⟨kx, 1, none⟩ = some (.slice A5 n5 i5) ∧ w'.cell? ⟨kx, 2, none⟩ = some (.int .i64 (q).1.e) ∧ w'.cell? ⟨kx, 3, none⟩ = some (.bool (q).2.neg) ∧ w'.cell? ⟨kx, 4, none⟩ = some (.slice A6 n6 i6) ∧ w'.cell? ⟨kx, 5, none⟩ = some (.int .i64 (q).2.e))) (by kernel_rfl) ⟨yt.six (Below.drew (Bb _)), yk.six (Below.drew (Bb _))⟩ (fun hHeld => ?_); (have bw := Below.drew bw; have yt := yt.later (Below.drew (Bb _)); have yk := yk.later (Below.drew (Bb _)); have xr1 := xr1.later (Below.drew (Bb _)); have xr2 := xr2.later (Below.drew (Bb _)); have a1 := a1.below (Below.drew (Bb _)); have a2 := a2.below (Below.drew (Bb _)); have p1 := p1.below (Below.drew (Bb _)); have p2 := p2.below (Below.drew (Bb _))); (refine Bj 0 39 rfl ?_; (try simp only [Act.put, Bf])); (refine Bj 1 40 rfl ?_; (try simp only [Act.put, Bf])); refine Bw 2 rfl (fun K hK => ?_); refine Bz rfl _ _ rfl rfl (w.heap.size + 1) _ A1 n1 i1 _ _ A2 n2 i2 _ xr1 rfl rfl (fun W5 y5 g5 => ?_); have yt := yt.grown g5 (by omega); have yk := yk.grown g5 (by omega); have xr2 := xr2.grown g5 (by omega); have a1 := a1.grown xr1 Bh g5; have a2 := a2.grown xr1 Bh g5; have p1 := p1.grown xr1 Bh g5; have p2 := p2.grown xr1 Bh g5; have bw := Bl bw g5 (by omega); (refine hK.out _ _ (⟨yt.six (Bb _), yk.six (Bb _)⟩) (fun _ => ?_); clear hHeld hK K; rename_i hHeld; (try simp only [Act.put, Bf])); refine Bw 3 rfl (fun K hK => ?_); refine Bz rfl _ _ rfl rfl (w.heap.size + 1 + 1) _ A5 n5 i5 _ _ A6 n6 i6 _ xr2 rfl rfl (fun W6 y6 g6 => ?_); have y5 := y5.grown g6 (by omega); have yt := yt.grown g6 (by omega); have yk := yk.grown g6 (by omega); have a1 := a1.grown xr2 Bh g6; have a2 := a2.grown xr2 Bh g6; have p1 := p1.grown xr2 Bh g6; have p2 := p2.grown xr2 Bh g6; have bw := Bl bw g6 (by omega); (refine hK.out _ _ (⟨yt.six (Bb _), yk.six (Bb _)⟩) (fun _ => ?_); clear hHeld hK K; rename_i hHeld; (try simp only [Act.put, Bf])); refine Cn ?_; obtain ⟨u0, u1, u2, u3, u4, u5, -⟩ := y5.cell6; obtain ⟨v0, v1, v2, v3, v4, v5, -⟩ := y6.cell6; go_wp2_with fail; refine bodyPost_ret (v := _) ?_ rfl ⟨A1, n1, i1, A2, n2, i2, A5, n5, i5, A6, n6, i6, rfl, a1, a2, p1, p2, bw⟩; simp [results, Tryz.results124, go_sem, u0, u1, u2, u3, u4, u5, v0, v1, v2, v3, v4, v5])
def Ro (P n : Int) : Option (Dy × Dy) := (Je P 1).bind fun u => (Fx P u (max n (-P - 64))).bind fun x => (Tw P x).bind fun y => Bd5 P y x
theorem Bfo (g : Nat) (P n : Int) (c : Dy × Dy) (w : World) (hk : Wk w g P false 38) (hn : -300000 ≤ n ∧ n ≤ 300000) (h : Ro P n = some c) :
  Calls Tryz.prog 94 #[.pointer (some ⟨g, 0, none⟩), .int .i64 n] w (Gf c w) := by
 obtain ⟨u, hu, h⟩ := bind_some h
 obtain ⟨x, hx, h⟩ := bind_some h
 obtain ⟨y, hy, h⟩ := bind_some h
 have b0 : Below w.heap.size w (w.alloc (.cells #[.bool false, .slice none 0 0, .int .i64 0, .bool false, .slice none 0 0, .int .i64 0] 28)) := Ba (Bb w) _
 have xr := Bg w #[.bool false, .slice none 0 0, .int .i64 0, .bool false, .slice none 0 0, .int .i64 0] 28
 have hk0 := hk.later b0
 have vs : (w.alloc (.cells #[.bool false, .slice none 0 0, .int .i64 0, .bool false, .slice none 0 0, .int .i64 0] 28)).heap.size = w.heap.size + 1 := by simp
 have hgl := hk.lt
 generalize hW : w.alloc (.cells #[.bool false, .slice none 0 0, .int .i64 0, .bool false, .slice none 0 0, .int .i64 0] 28) = V at *
 have NU := fun w1 (hb : Below V.heap.size V w1) => Ql g P u 1 w1 (by omega) (by omega) (hk0.later hb) hu
 have SC := fun w1 A k l A' k' l' (hb : Below V.heap.size V w1) h1 h2 => Bjm g P x u (max n (-P - 64)) A k l A' k' l' w1 h1 h2 (hk0.later hb) hx
 have NG := fun w1 A k l A' k' l' (hb : Below V.heap.size V w1) h1 h2 => zNeg g P y x A k l A' k' l' w1 h1 h2 (hk0.later hb) hy
 have HU := fun w1 A k l A' k' l' B m j B' m' j' (hb : Below V.heap.size V w1) h1 h2 h3 h4 => zHull g P c y x A k l A' k' l' B m j B' m' j' w1 h1 h2 h3 h4 (hk0.later hb) h
 have XR := fun w1 (hb : Below V.heap.size V w1) => xr.later hb
 have FI := fun w1 (hb : Below V.heap.size V w1) => Bc b0 hb
 have KP := fun w1 (hb : Below V.heap.size V w1) => (hk0.later hb).cells.1
 have KP := Be KP
 obtain ⟨p0, p1⟩ := Gd (Cw hu).1
 have e1 : IntKind.i64.wrap (-P) = -P := by rw [IntKind.wrap_i64]; omega
 have e2 : IntKind.i64.wrap (-P - 64) = -P - 64 := by rw [IntKind.wrap_i64]; omega
 have NU := Be NU
 have SC := Be SC
 have NG := Be NG
 have HU := Be HU
 have XR := Be XR
 have FI := Be FI
 have HW := Be hW
 have VS := Be vs
 clear vs
 clear hW hu hx hy h xr b0 hk0 hk
 go_enter Tryz.func94, Tryz.ntmps94
 go_wp2_with fail
 rw [HW.out]
 refine wp_region_noPanic ?_
 refine wp_region_held_drew (S := fun w' => w'.cell? ⟨g, 0, none⟩ = some (.int .i64 P)) (by kernel_rfl) (KP.out _ (Below.drew (Bb _))) (fun hHeld => ?_)
 (refine Bj 0 6 rfl ?_; (try simp only [Act.put, Bf]))
 (refine Bj 1 7 rfl ?_; (try simp only [Act.put, Bf]))
 (refine Bj 3 9 rfl ?_; (try simp only [Act.put, Bf]))
 (refine Bj 4 10 rfl ?_; (try simp only [Act.put, Bf]))
 (refine Bj 5 11 rfl ?_; (try simp only [Act.put, Bf]))
 (refine Bj 6 12 rfl ?_; (try simp only [Act.put, Bf]))
 (refine Bj 7 13 rfl ?_; (try simp only [Act.put, Bf]))
 (refine Bj 8 14 rfl ?_; (try simp only [Act.put, Bf]))
 (refine Bj 9 15 rfl ?_; (try simp only [Act.put, Bf]))
 (refine Bj 10 16 rfl ?_; (try simp only [Act.put, Bf]))
 have bw : Below V.heap.size V V.drew := Below.drew (Bb _)
 (refine wpAnyH_ready (rs := [2, 12]) (by kernel_rfl) (by simp) ?_; refine AllReadyH.cons rfl (fun K hK => ?_) (AllReadyH.cons rfl (fun K hK => ?_) AllReadyH.nil))
 focus
  (go_simp; go_at_call 30; refine (NU.out _ bw).mono ?_; rintro r w6 ⟨A1, n1, c1, A2, n2, c2, rfl, a1, a2, hb6⟩; have bw := Bc bw hb6; (refine hK.out _ _ (KP.out _ bw) (fun _ => ?_); clear hHeld hK K; rename_i hHeld; (try simp only [Act.put, Bf])))
  (refine wpAnyH_ready (rs := [11, 12]) (by kernel_rfl) (by simp) ?_; refine AllReadyH.cons rfl (fun K hK => ?_) (AllReadyH.cons rfl (fun K hK => ?_) AllReadyH.nil))
  focus
   (go_simp; go_at_call 126; refine (SC.out _ _ _ _ _ _ _ bw a1 a2).mono ?_; rintro r w7 ⟨A3, n3, c3, A4, n4, c4, rfl, a3, a4, hb7⟩; have bw := Bc bw hb7; (refine hK.out _ _ (KP.out _ bw) (fun _ => ?_); clear hHeld hK K; rename_i hHeld; (try simp only [Act.put, Bf])))
   refine Bw 12 rfl (fun K hK => ?_)
   (go_simp; (refine hK.out _ _ (KP.out _ (Ba bw _)) (fun _ => ?_); clear hHeld hK K; rename_i hHeld; (try simp only [Act.put, Bf])))
   (have bw0 := bw; have xb := Bg (w7) #[.bool false, .slice none 0 0, .int .i64 0, .bool false, .slice none 0 0, .int .i64 0] 28; have bw := Ba bw (.cells #[.bool false, .slice none 0 0, .int .i64 0, .bool false, .slice none 0 0, .int .i64 0] 28); have kle := bw0.size; clear bw0; generalize (w7).heap.size = kx at *)
   have a3 := a3.below (Ba (Bb w7) (.cells #[.bool false, .slice none 0 0, .int .i64 0, .bool false, .slice none 0 0, .int .i64 0] 28))
   have a4 := a4.below (Ba (Bb w7) (.cells #[.bool false, .slice none 0 0, .int .i64 0, .bool false, .slice none 0 0, .int .i64 0] 28))
   generalize w7.alloc (.cells #[.bool false, .slice none 0 0, .int .i64 0, .bool false, .slice none 0 0, .int .i64 0] 28) = w9 at *
   (refine Bw 13 rfl (fun K hK => ?_); refine Bz rfl _ _ rfl rfl kx _ A3 n3 c3 _ _ A4 n4 c4 _ xb rfl rfl (fun W1 y1 gW1 => ?_); have a3 := a3.grown xb Bh gW1; have a4 := a4.grown xb Bh gW1; have bw := Bl bw gW1 kle; (refine hK.out _ _ (KP.out _ bw) (fun _ => ?_); clear hHeld hK K; rename_i hHeld; (try simp only [Act.put, Bf])); refine Cn ?_)
  rotate_left
  focus
   (go_simp; (refine hK.out _ _ (KP.out _ (Ba bw _)) (fun _ => ?_); clear hHeld hK K; rename_i hHeld; (try simp only [Act.put, Bf])))
   (have bw0 := bw; have xb := Bg (w6) #[.bool false, .slice none 0 0, .int .i64 0, .bool false, .slice none 0 0, .int .i64 0] 28; have bw := Ba bw (.cells #[.bool false, .slice none 0 0, .int .i64 0, .bool false, .slice none 0 0, .int .i64 0] 28); have kle := bw0.size; clear bw0; generalize (w6).heap.size = kx at *)
   have a1 := a1.below (Ba (Bb w6) (.cells #[.bool false, .slice none 0 0, .int .i64 0, .bool false, .slice none 0 0, .int .i64 0] 28))
   have a2 := a2.below (Ba (Bb w6) (.cells #[.bool false, .slice none 0 0, .int .i64 0, .bool false, .slice none 0 0, .int .i64 0] 28))
   generalize w6.alloc (.cells #[.bool false, .slice none 0 0, .int .i64 0, .bool false, .slice none 0 0, .int .i64 0] 28) = w9 at *
   refine Bw 11 rfl (fun K hK => ?_)
   (go_simp; go_at_call 126; refine (SC.out _ _ _ _ _ _ _ bw a1 a2).mono ?_; rintro r w7 ⟨A3, n3, c3, A4, n4, c4, rfl, a3, a4, hb7⟩; have bw := Bc bw hb7; (refine hK.out _ _ (KP.out _ bw) (fun _ => ?_); clear hHeld hK K; rename_i hHeld; (try simp only [Act.put, Bf])))
   have xb := xb.later hb7
   (refine Bw 13 rfl (fun K hK => ?_); refine Bz rfl _ _ rfl rfl kx _ A3 n3 c3 _ _ A4 n4 c4 _ xb rfl rfl (fun W1 y1 gW1 => ?_); have a3 := a3.grown xb Bh gW1; have a4 := a4.grown xb Bh gW1; have bw := Bl bw gW1 kle; (refine hK.out _ _ (KP.out _ bw) (fun _ => ?_); clear hHeld hK K; rename_i hHeld; (try simp only [Act.put, Bf])); refine Cn ?_)
 rotate_left 2
 focus
  have bz := Below.drew (Ba (Bb V) (.cells #[.bool false, .slice none 0 0, .int .i64 0, .bool false, .slice none 0 0, .int .i64 0] 28))
  (go_simp; (refine hK.out _ _ (KP.out _ bz) (fun _ => ?_); clear hHeld hK K; rename_i hHeld; (try simp only [Act.put, Bf])))
  have xb := (Bg V #[.bool false, .slice none 0 0, .int .i64 0, .bool false, .slice none 0 0, .int .i64 0] 28).later (Below.drew (Bb (V.alloc (.cells #[.bool false, .slice none 0 0, .int .i64 0, .bool false, .slice none 0 0, .int .i64 0] 28))))
  have kle := Nat.le_refl V.heap.size
  have bw : Below V.heap.size V (V.alloc (.cells #[.bool false, .slice none 0 0, .int .i64 0, .bool false, .slice none 0 0, .int .i64 0] 28)).drew := Below.drew (Ba (Bb _) _)
  generalize (V.alloc (.cells #[.bool false, .slice none 0 0, .int .i64 0, .bool false, .slice none 0 0, .int .i64 0] 28)).drew = w9 at *
  generalize hkx : V.heap.size = kx at xb ⊢
  rw [hkx] at kle
  refine Bw 2 rfl (fun K hK => ?_)
  (go_simp; go_at_call 30; refine (NU.out _ bw).mono ?_; rintro r w6 ⟨A1, n1, c1, A2, n2, c2, rfl, a1, a2, hb6⟩; have bw := Bc bw hb6; (refine hK.out _ _ (KP.out _ bw) (fun _ => ?_); clear hHeld hK K; rename_i hHeld; (try simp only [Act.put, Bf])))
  refine Bw 11 rfl (fun K hK => ?_)
  (go_simp; go_at_call 126; refine (SC.out _ _ _ _ _ _ _ bw a1 a2).mono ?_; rintro r w7 ⟨A3, n3, c3, A4, n4, c4, rfl, a3, a4, hb7⟩; have bw := Bc bw hb7; (refine hK.out _ _ (KP.out _ bw) (fun _ => ?_); clear hHeld hK K; rename_i hHeld; (try simp only [Act.put, Bf])))
  have xb := (xb.later hb6).later hb7
  have kle : V.heap.size ≤ kx := by omega
  (refine Bw 13 rfl (fun K hK => ?_); refine Bz rfl _ _ rfl rfl kx _ A3 n3 c3 _ _ A4 n4 c4 _ xb rfl rfl (fun W1 y1 gW1 => ?_); have a3 := a3.grown xb Bh gW1; have a4 := a4.grown xb Bh gW1; have bw := Bl bw gW1 kle; (refine hK.out _ _ (KP.out _ bw) (fun _ => ?_); clear hHeld hK K; rename_i hHeld; (try simp only [Act.put, Bf])); refine Cn ?_)
 all_goals
  have cx := y1.six (Below.drew (Bb _))
  have bw := Below.drew bw
  obtain ⟨v0, v1, v2, v3, v4, v5, -⟩ := y1.cell6
  go_wp2_with fail
  refine wp_region_noPanic ?_
  refine wp_region_held_drew (S := fun w' => (w'.cell? ⟨kx, 0, none⟩ = some (.bool x.1.neg) ∧ w'.cell? ⟨kx, 1, none⟩ = some (.slice A3 n3 c3) ∧ w'.cell? ⟨kx, 2, none⟩ = some (.int .i64 x.1.e) ∧ w'.cell? ⟨kx, 3, none⟩ = some (.bool x.2.neg) ∧ w'.cell? ⟨kx, 4, none⟩ = some (.slice A4 n4 c4) ∧ w'.cell? ⟨kx, 5, none⟩ = some (.int .i64 x.2.e))) (by kernel_rfl) cx (fun hHeld => ?_)
  (refine Bj 0 18 rfl ?_; (try simp only [Act.put, Bf]))
  (refine Bj 1 19 rfl ?_; (try simp only [Act.put, Bf]))
  (refine Bj 2 20 rfl ?_; (try simp only [Act.put, Bf]))
  (refine Bj 4 22 rfl ?_; (try simp only [Act.put, Bf]))
  refine Bw 3 rfl (fun K hK => ?_)
  go_simp
  go_at_call 40
  have a3 := a3.below (Below.drew (Bb _))
  have a4 := a4.below (Below.drew (Bb _))
  refine (NG.out _ _ _ _ _ _ _ bw a3 a4).mono ?_
  rintro r w8 ⟨A5, n5, c5, A6, n6, c6, rfl, a5, a6, hb8⟩
  have bw := Bc bw hb8
  have y8 := (y1.later (Below.drew (Bb _))).later hb8
  have a3 := a3.below hb8
  have a4 := a4.below hb8
  (refine hK.out _ _ (y8.six (Bb _)) (fun _ => ?_); clear hHeld hK K; rename_i hHeld; (try simp only [Act.put, Bf]))
  refine Bw 5 rfl (fun K hK => ?_)
  go_simp
  go_at_call 127
  refine (HU.out _ _ _ _ _ _ _ _ _ _ _ _ _ bw a5 a6 a3 a4).mono ?_
  rintro r w10 ⟨A7, n7, c7, A8, n8, c8, rfl, a7, a8, hb10⟩
  have bw := Bc bw hb10
  have y9 := y8.later hb10
  (refine hK.out _ _ (y9.six (Bb _)) (fun _ => ?_); clear hHeld hK K; rename_i hHeld; (try simp only [Act.put, Bf]))
  refine Bw 6 rfl (fun K hK => ?_)
  have xr := XR.out _ bw
  refine Bz rfl _ _ rfl rfl w.heap.size _ A7 n7 c7 _ _ A8 n8 c8 _ xr rfl rfl (fun W2 y2 gW2 => ?_)
  have hne : w.heap.size ≠ kx := by have := VS.out; omega
  have y10 := y9.grown gW2 (Ne.symm hne)
  (refine hK.out _ _ (y10.six (Bb _)) (fun _ => ?_); clear hHeld hK K; rename_i hHeld; (try simp only [Act.put, Bf]))
  refine Cn ?_
  have a7 := a7.grown xr Bh gW2
  have a8 := a8.grown xr Bh gW2
  have bf := Bl (FI.out _ bw) gW2 (Nat.le_refl _)
  obtain ⟨u0, u1, u2, u3, u4, u5, -⟩ := y2.cell6
  go_wp2_with fail
  refine bodyPost_ret (v := _) ?_ rfl ⟨A7, n7, c7, A8, n8, c8, rfl, a7, a8, bf⟩
  simp [results, Tryz.results94, go_sem, u0, u1, u2, u3, u4, u5]
def Xp (P : Int) (s t : Dy × Dy) : Option (Dy × Dy) := if t.1.m = 0 ∧ t.2.m = 0 then some s else (Uv P (Fv t + 1)).bind fun b => Bcl P s b
def Rj (P : Int) (nx : Int → Dy × Dy → Option ((Dy × Dy) × (Dy × Dy))) : Nat → Int → Dy × Dy → Dy × Dy → Option (Dy × Dy)
 | 0, _, _, _ => none
 | f + 1, k, s, t => Gp (okP P && (Cj s && Cj t)) (if Fv s - P < Fv t then (nx k t).bind fun tp => (Bcl P s tp.2).bind fun s' => Rj P nx f (k + 1) s' tp.1 else Xp P s t)
def Gn (P n : Int) (turn : Bool) : Option (Dy × Dy) :=
 (Je P (n * n)).bind fun sq => (Je P 1).bind fun u => (Je P n).bind fun v => (Qm P u v).bind fun t => Rj P (Lw P turn sq) 2000 1 t t
def Vc (P : Int) : Option (Dy × Dy) := (Gn P 5 true).bind fun a => (Fx P a 3).bind fun b => (Gn P 239 true).bind fun c => (Fx P c 1).bind fun d => Bev P b d
def Ve (P : Int) : Option (Dy × Dy) := (Gn P 3 false).bind fun a => Fx P a 1
def piS (P : Int) : Option (Dy × Dy) := (Vc (P + 64)).bind fun a => (Fx (P + 64) a 1).bind fun b => Bbt P b
def Bde (P : Int) : Option (Dy × Dy) := (Ve (P + 64)).bind fun a => Bbt P a
def Bak (P : Int) (s t : Dy × Dy) : Option (Dy × Dy) := if Gw t < -200000 then none else (Ro P (Gw t + 1)).bind fun b => Yl P s b
def Tp (P : Int) (nx : Int → Dy × Dy → Option ((Dy × Dy) × (Dy × Dy))) : Nat → Int → Dy × Dy → Dy × Dy → Option (Dy × Dy)
 | 0, _, _, _ => none
 | f + 1, k, s, t => Gp (okP P && (Cj s && Cj t)) (if -P - 4 < Gw t then (nx k t).bind fun tp => (Yl P s tp.2).bind fun s' => Tp P nx f (k + 1) s' tp.1 else Bak P s t)
def Mu (P n : Int) (turn : Bool) : Option (Dy × Dy) :=
 (Je P 1).bind fun u => (Je P n).bind fun v => (Qm P u v).bind fun t => (Je P (n * n)).bind fun sq => Tp P (Lw P turn sq) 2000 1 t t
def Gu (P k n : Int) (turn : Bool) : Option (Dy × Dy) := (Je P k).bind fun u => (Mu P n turn).bind fun v => mulS P u v
def piR (P : Int) : Option (Dy × Dy) := (Gu P 48 18 true).bind fun a => (Gu P 32 57 true).bind fun b => (Gu P 20 239 true).bind fun c => (Yl P a b).bind fun d => Beu P d c
def Bdd (P : Int) : Option (Dy × Dy) := (Gu P 18 26 false).bind fun a => (Gu P 2 4801 false).bind fun b => (Gu P 8 8749 false).bind fun c => (Beu P a b).bind fun d => Yl P d c
def Tc (a b : Nat) : Bool := Nat.ble (Nat.succ a) b
theorem Hz (a b : Nat) : Tc a b = decide (a < b) := by
 unfold Tc
 rw [Bool.eq_iff_iff, Nat.ble_eq, decide_eq_true_eq]
 omega
theorem Fm (a b : Nat) : Nat.beq a b = decide (a = b) := by
 rw [Bool.eq_iff_iff, Nat.beq_eq, decide_eq_true_eq]
theorem Me (a b : Nat) : Nat.ble a b = decide (a ≤ b) := by
 rw [Bool.eq_iff_iff, Nat.ble_eq, decide_eq_true_eq]
def qbd (h v : Nat) : Nat := Nat.rec 0 (fun j r => cond (Nat.ble (Nat.pow 2 j) v) (Nat.succ j) r) h
theorem Jf (n : Nat) : pw n = ((2 ^ n : Nat) : Int) := by unfold pw; simp
theorem Bj1 (h : Nat) {v : Nat} (hv : v < 2 ^ h) : ((qbd h v : Nat) : Int) = bl v := by
 induction h with
 | zero =>
  have : v = 0 := by simpa using hv
  subst this
  rfl
 | succ j ih =>
  have e : qbd (j + 1) v = cond (Nat.ble (2 ^ j) v) (Nat.succ j) (qbd j v) := rfl
  rw [e, Me]
  by_cases hj : 2 ^ j ≤ v
  ·rw [decide_eq_true hj]
   have := Lg (v := (v : Int)) (a := j) (by rw [Jf]; omega) (by rw [Jf]; omega)
   rw [this]
   rfl
  ·rw [decide_eq_false hj]
   exact ih (by omega)
def qbl (h v : Nat) : Nat := cond (Nat.ble (Nat.pow 2 h) v) (Go.bitLen v) (qbd h v)
theorem Qt (h v : Nat) : ((qbl h v : Nat) : Int) = bl v := by
 unfold qbl
 rw [Me]
 by_cases hj : Nat.pow 2 h ≤ v
 ·rw [decide_eq_true hj]; rfl
 ·rw [decide_eq_false hj]
  exact Bj1 h (by have : Nat.pow 2 h = 2 ^ h := rfl; omega)
def qtr (n : Nat) : Nat → Nat := Nat.rec (fun _ => 0) (fun _ r v => cond (Nat.beq (Nat.mod v 2) 0) (Nat.succ (r (Nat.div v 2))) 0) n
theorem Bj3 (n : Nat) {v : Nat} (h0 : 0 < v) (h : v ≤ n) : qtr n v = tzN v := by
 induction n generalizing v with
 | zero => omega
 | succ n ih =>
  have e : qtr (n + 1) v = cond (Nat.beq (v % 2) 0) (Nat.succ (qtr n (v / 2))) 0 := rfl
  rw [e, Fm, tzN, if_neg (by omega)]
  by_cases h1 : v % 2 = 1
  ·rw [if_pos h1, decide_eq_false (by omega)]; rfl
  ·rw [if_neg h1, decide_eq_true (by omega), ih (by omega) (by omega)]
   show Nat.succ _ = _
   omega
structure Qn where
 s : Bool
 m : Nat
 x : Nat
def Qn.d (q : Qn) : Dy := ⟨q.s, (q.m : Int), (q.x : Int) - 1000000⟩
def Dh (s : Bool) (m x : Nat) : Qn := cond (Nat.beq m 0) ⟨false, 0, 1000000⟩ ⟨s, Nat.shiftRight m (qtr m m), Nat.add x (qtr m m)⟩
theorem Fs (s : Bool) (m x : Nat) : (Dh s m x).d = Gv s m ((x : Int) - 1000000) := by
 unfold Dh Gv
 rw [Fm]
 by_cases h : m = 0
 ·rw [decide_eq_true h, if_pos (by omega)]
  have e : ((1000000 : Nat) : Int) - 1000000 = 0 := by omega
  show (⟨false, ((0 : Nat) : Int), ((1000000 : Nat) : Int) - 1000000⟩ : Dy) = Dy.zero
  rw [e]
  rfl
 ·rw [decide_eq_false h, if_neg (by omega), Bj3 m (by omega) (Nat.le_refl _)]
  show (⟨s, ((Nat.shiftRight m (tzN m) : Nat) : Int), ((Nat.add x (tzN m) : Nat) : Int) - 1000000⟩ : Dy) = ⟨s, (m : Int) / pw (tz m), (x : Int) - 1000000 + tz m⟩
  have e1 : ((Nat.shiftRight m (tzN m) : Nat) : Int) = (m : Int) / pw (tz m) := by
   show ((m >>> tzN m : Nat) : Int) = _
   rw [Nat.shiftRight_eq_div_pow, Jf]
   exact Int.natCast_ediv m (2 ^ tzN m)
  have e2 : ((Nat.add x (tzN m) : Nat) : Int) - 1000000 = (x : Int) - 1000000 + tz m := by
   show ((x + tzN m : Nat) : Int) - 1000000 = (x : Int) - 1000000 + ((tzN m : Nat) : Int)
   omega
  rw [e1, e2]
def Fe (q : Qn) : Bool := and (Tc q.m (Nat.pow 2 1600)) (and (Nat.ble 950000 q.x) (and (Nat.ble q.x 1050000) (cond (Nat.beq q.m 0) (and (not q.s) (Nat.beq q.x 1000000)) (Nat.beq (Nat.mod q.m 2) 1))))
set_option exponentiation.threshold 2000
structure Good (q : Qn) : Prop where
 lt : q.m < 2 ^ 1600
 lo : 950000 ≤ q.x
 hi : q.x ≤ 1050000
 z : q.m = 0 → q.s = false ∧ q.x = 1000000
 odd : q.m ≠ 0 → q.m % 2 = 1
theorem Dc {q : Qn} (h : Fe q = true) : Good q := by
 unfold Fe at h
 simp only [Bool.and_eq_true, Hz, Me, Fm, decide_eq_true_eq] at h
 obtain ⟨h1, h2, h3, h4⟩ := h
 refine ⟨h1, h2, h3, fun hz => ?_, fun hz => ?_⟩
 ·rw [decide_eq_true hz] at h4
  simpa using h4
 ·rw [decide_eq_false hz] at h4
  have h5 : decide (q.m % 2 = 1) = true := h4
  exact of_decide_eq_true h5
theorem Good.len {q : Qn} (h : Good q) : (wd (q.m : Int)).length ≤ 25 := by
 refine wd_length_le (by omega) ?_
 have := h.lt
 rw [B_pow_pw, Jf]
 exact Int.ofNat_lt.2 this
theorem Good.fit {q : Qn} (h : Good q) : Dq q.d = true := by
 have h1 := h.lt
 have h2 := h.lo
 have h3 := h.hi
 unfold Dq Qn.d
 simp only [Bool.and_eq_true, decide_eq_true_eq]
 refine ⟨⟨⟨by omega, ?_⟩, by omega⟩, by omega⟩
 have : ((q.m : Nat) : Int) < ((2 ^ 1600 : Nat) : Int) := Int.ofNat_lt.2 h1
 rwa [← Jf] at this
theorem Good.pl {q : Qn} (h : Good q) : PlD q.d := by
 refine ⟨?_, by show (0 : Int) ≤ (q.m : Int); omega⟩
 have h2 := h.lo
 have h3 := h.hi
 show Bq q.s (wd (q.m : Int)) ((q.x : Int) - 1000000) = true
 by_cases hz : q.m = 0
 ·obtain ⟨e1, e2⟩ := h.z hz
  rw [hz, e1, e2]
  show Bq false (wd 0) 0 = true
  rw [wd_zero (Int.le_refl _)]; rfl
 ·have ho := h.odd hz
  have hl := h.len
  rw [Gq (by omega)]
  simp only [Bool.and_eq_true, decide_eq_true_eq]
  omega
theorem Rv {s : Bool} {m x : Nat} (h : Good (Dh s m x)) : mkD s m ((x : Int) - 1000000) = some (Dh s m x).d := by
 have hd := Fs s m x
 have hf := Cg h.fit
 have hl := h.len
 unfold mkD
 unfold Gv at hd
 by_cases hm : (m : Int) = 0
 ·rw [if_pos hm] at hd ⊢; rw [hd]
 ·rw [if_neg hm] at hd ⊢
  rw [hd] at hf
  simp only at hf
  have e : ((Dh s m x).m : Int) = oddI m := by
   have : (Dh s m x).d.m = oddI m := by rw [hd]
   exact this
  rw [e] at hl
  rw [if_neg (by omega), if_pos ⟨by omega, by omega⟩, hd]
def Zi (a b : Bool) : Bool := cond a (not b) b
theorem Vo (a b : Bool) : Zi a b = (a != b) := by cases a <;> cases b <;> rfl
def Bg8 (s : Bool) (v x : Nat) (rest up : Bool) (k : Nat) : Qn :=
 Dh s (cond (and (or rest (not (Nat.beq (Nat.shiftLeft (Nat.shiftRight v k) k) v))) (Zi s up)) (Nat.succ (Nat.shiftRight v k)) (Nat.shiftRight v k)) (Nat.add x k)
def Xh (h : Nat) (s : Bool) (v x : Nat) (rest : Bool) (P : Nat) (up : Bool) : Qn := Bg8 s v x rest up (Nat.sub (qbl h v) P)
theorem Qb {h : Nat} {s : Bool} {v x : Nat} {rest : Bool} {P : Nat} {up : Bool} (hg : Good (Xh h s v x rest P up)) : Ji s v ((x : Int) - 1000000) rest P up = some (Xh h s v x rest P up).d := by
 have hb := Qt h v
 unfold Xh Bg8 at hg ⊢
 rw [← Rv hg]
 unfold Ji Yr Mg
 rw [← hb, ← Vo]
 generalize qbl h v = L
 have sr : ∀ k : Nat, Nat.shiftRight v k = v / 2 ^ k := fun k => Nat.shiftRight_eq_div_pow v k
 have sl : ∀ u k : Nat, Nat.shiftLeft u k = u * 2 ^ k := fun u k => Nat.shiftLeft_eq u k
 by_cases hk : P < L
 ·obtain ⟨k, hk1, hk0⟩ : ∃ k : Nat, L = P + k ∧ 0 < k := ⟨L - P, by omega, by omega⟩
  subst hk1
  have e1 : ((P + k : Nat) : Int) - (P : Int) = (k : Int) := by omega
  have e2 : Nat.sub (P + k) P = k := by show P + k - P = k; omega
  have c0 : (0 : Int) < (k : Int) := by omega
  rw [e1, e2, if_pos c0, if_pos c0, decide_eq_true c0, Bool.true_and, Int.toNat_natCast]
  have q1 : (v : Int) / 2 ^ k = ((v / 2 ^ k : Nat) : Int) := by simp
  have q2 : decide ((v : Int) / 2 ^ k * 2 ^ k ≠ (v : Int)) = !(Nat.beq (v / 2 ^ k * 2 ^ k) v) := by
   rw [q1, Fm]
   have : ((v / 2 ^ k : Nat) : Int) * 2 ^ k = ((v / 2 ^ k * 2 ^ k : Nat) : Int) := by simp
   rw [this, Bool.eq_iff_iff]
   simp only [decide_eq_true_eq, Bool.not_eq_true', decide_eq_false_iff_not]
   omega
  rw [q2, q1, sl, sr]
  generalize v / 2 ^ k = q
  have e3 : ((Nat.add x k : Nat) : Int) - 1000000 = (x : Int) - 1000000 + (k : Int) := by show ((x + k : Nat) : Int) - _ = _; omega
  rw [e3]
  cases (rest || !(Nat.beq (q * 2 ^ k) v)) && Zi s up
  ·rfl
  ·rfl
 ·have c0 : ¬ (0 : Int) < (L : Int) - (P : Int) := by omega
  have e2 : Nat.sub L P = 0 := by show L - P = 0; omega
  rw [e2, if_neg c0, if_neg c0, decide_eq_false c0, Bool.false_and, Bool.or_false, sl, sr]
  have e3 : ((Nat.add x 0 : Nat) : Int) - 1000000 = (x : Int) - 1000000 := rfl
  have e4 : Nat.beq (v / 2 ^ 0 * 2 ^ 0) v = true := by simp
  have e5 : v / 2 ^ 0 = v := by simp
  rw [e3, e4, e5, Bool.not_true, Bool.or_false]
  cases rest && Zi s up
  ·rfl
  ·rfl
def Be3 (P : Nat) (up : Bool) (a b : Qn) (K : Nat) : Qn :=
 Xh (Nat.add P 3) (Zi a.s b.s) (Nat.div (Nat.shiftLeft a.m K) b.m) (Nat.sub (Nat.add a.x 1000000) (Nat.add b.x K)) (not (Nat.beq (Nat.mod (Nat.shiftLeft a.m K) b.m) 0)) P up
def Te (P : Nat) (up : Bool) (a b : Qn) : Qn := Be3 P up a b (Nat.sub (Nat.add (Nat.add P 2) (qbl 24 b.m)) (qbl P a.m))
theorem Qc {P : Nat} {up : Bool} {a b : Qn} (ha : Good a) (hb : Good b) (h0 : b.m ≠ 0) (p0 : 1 ≤ P) (p1 : P ≤ 8192) (hg : Good (Te P up a b)) : Hg P up a.d b.d = some (Te P up a b).d := by
 have pa := ha.pl
 have pb := hb.pl
 have bb := Ku hb.fit
 unfold Hg Cq
 have hr : Dp (P : Int) = true := by unfold Dp; simp; omega
 have hl : (wd b.d.m).length ≠ 0 := by
  intro h
  have h1 := wd_eq_nil.1 (List.length_eq_zero_iff.1 h)
  have : b.d.m = (b.m : Int) := rfl
  omega
 rw [pa.1, pb.1, hr, decide_eq_true hl, if_pos (by rfl), val_wd _ pa.2, val_wd _ pb.2]
 unfold Te Be3 at hg ⊢
 have eK : Fu a.d.m b.d.m P = Nat.sub (Nat.add (Nat.add P 2) (qbl 24 b.m)) (qbl P a.m) := by
  unfold Fu
  show (max 0 ((P : Int) + 2 + bl (b.m : Int) - bl (a.m : Int))).toNat = P + 2 + qbl 24 b.m - qbl P a.m
  rw [← Qt 24 b.m, ← Qt P a.m]
  omega
 have hK : Nat.sub (Nat.add (Nat.add P 2) (qbl 24 b.m)) (qbl P a.m) ≤ P + 2 + 1600 := by
  have : ((qbl 24 b.m : Nat) : Int) ≤ 1600 := by rw [Qt]; exact bb.2
  show P + 2 + qbl 24 b.m - qbl P a.m ≤ _
  omega
 rw [eK]
 generalize Nat.sub (Nat.add (Nat.add P 2) (qbl 24 b.m)) (qbl P a.m) = K at *
 rw [← Qb hg, ← Vo]
 have ha1 := ha.lo
 have hb1 := hb.hi
 have sl : Nat.shiftLeft a.m K = a.m * 2 ^ K := Nat.shiftLeft_eq a.m K
 rw [sl]
 have v1 : a.d.m * 2 ^ K / b.d.m = ((Nat.div (a.m * 2 ^ K) b.m : Nat) : Int) := by
  show (a.m : Int) * 2 ^ K / (b.m : Int) = ((a.m * 2 ^ K / b.m : Nat) : Int)
  simp
 have v2 : a.d.e - b.d.e - (K : Int) = ((Nat.sub (Nat.add a.x 1000000) (Nat.add b.x K) : Nat) : Int) - 1000000 := by
  show (a.x : Int) - 1000000 - ((b.x : Int) - 1000000) - (K : Int) = ((a.x + 1000000 - (b.x + K) : Nat) : Int) - 1000000
  omega
 have v3 : decide (a.d.m * 2 ^ K % b.d.m ≠ 0) = !(Nat.beq (Nat.mod (a.m * 2 ^ K) b.m) 0) := by
  show decide ((a.m : Int) * 2 ^ K % (b.m : Int) ≠ 0) = !(Nat.beq (a.m * 2 ^ K % b.m) 0)
  have : (a.m : Int) * 2 ^ K % (b.m : Int) = ((a.m * 2 ^ K % b.m : Nat) : Int) := by simp
  rw [this, Fm, Bool.eq_iff_iff]
  simp only [decide_eq_true_eq, Bool.not_eq_true', decide_eq_false_iff_not]
  omega
 rw [v1, v2, v3]
 rfl
theorem Zv {a : Dy} (h : 0 ≤ a.m) : (Fd a).dy = a := by
 show (⟨a.neg, val (wd a.m), a.e⟩ : Dy) = a
 rw [val_wd _ h]
theorem Bav {a b : Dy} (ha : PlD a) (hb : PlD b) (ea : -100000 ≤ a.e ∧ a.e ≤ 100000) (eb : -100000 ≤ b.e ∧ b.e ≤ 100000) (hc : PlD (Hh a b)) : Qi a b = some (Hh a b) := by
 have z : ∀ d : Dy, PlD d → (wd d.m).length = 0 → d.m = 0 := fun d hd h => by
  have h1 := wd_eq_nil.1 (List.length_eq_zero_iff.1 h)
  have := hd.2
  omega
 have hl : lo [Fd a, Fd b] = loF (loF 262144 (Fd a)) (Fd b) := rfl
 have hh : hi [Fd a, Fd b] = hiF (hiF (-262144) (Fd a)) (Fd b) := rfl
 have na : (Fd a).n = (wd a.m).length := rfl
 have nb : (Fd b).n = (wd b.m).length := rfl
 have ea' : (Fd a).e = a.e := rfl
 have eb' : (Fd b).e = b.e := rfl
 have key : -262144 ≤ lo [Fd a, Fd b] ∧ lo [Fd a, Fd b] ≤ 262144 ∧ hi [Fd a, Fd b] - lo [Fd a, Fd b] ≤ 262144 ∧ (a.m = 0 ∨ lo [Fd a, Fd b] ≤ a.e) ∧ (b.m = 0 ∨ lo [Fd a, Fd b] ≤ b.e) := by
  rw [hl, hh]
  unfold loF hiF
  rw [na, nb, ea', eb']
  by_cases h1 : (wd a.m).length = 0
  ·have := z a ha h1
   by_cases h2 : (wd b.m).length = 0
   ·have := z b hb h2
    simp only [h1, h2, if_true]
    omega
   ·simp only [h1, h2, if_true, if_false]
    omega
  ·by_cases h2 : (wd b.m).length = 0
   ·have := z b hb h2
    simp only [h1, h2, if_true, if_false]
    omega
   ·simp only [h1, h2, if_false]
    omega
 obtain ⟨k1, k2, k3, k4, k5⟩ := key
 have ht : tot (lo [Fd a, Fd b]) [Fd a, Fd b] = Fh a (lo [Fd a, Fd b]) + Fh b (lo [Fd a, Fd b]) := by
  show 0 + Fh (Fd a).dy _ + Fh (Fd b).dy _ = _
  rw [Zv ha.2, Zv hb.2, Int.zero_add]
 unfold Qi
 rw [Bfy (by
  show ((Fd a).plain && ((Fd b).plain && true)) = true
  have p1 : (Fd a).plain = true := ha.1
  have p2 : (Fd b).plain = true := hb.1
  rw [p1, p2]; rfl) (by
  intro d hd h0
  simp only [List.mem_cons, List.not_mem_nil, or_false] at hd
  rcases hd with rfl | rfl
  ·show val (wd a.m) = 0
   rw [val_wd _ ha.2]; exact z a ha h0
  ·show val (wd b.m) = 0
   rw [val_wd _ hb.2]; exact z b hb h0) k1 k2, if_neg (by omega), ht, ← Si a b _ k4 k5, hc.1, if_pos rfl]
theorem Mr {d : Dy} (h : PlD d) {P : Int} (h1 : 1 ≤ P) (h2 : P ≤ 8192) (up : Bool) : Kq d P up = Ji d.neg d.m d.e false P up := by
 unfold Kq Du Dp
 rw [h.1, decide_eq_true h1, decide_eq_true h2, val_wd _ h.2]
 rfl
set_option maxRecDepth 100000
set_option exponentiation.threshold 2000
def Bdr (s t : Bool) (S T g : Nat) : Qn := cond (Zi s t) (cond (Nat.ble T S) (Dh s (Nat.sub S T) g) (Dh t (Nat.sub T S) g)) (Dh s (Nat.add S T) g)
def Zf (a b : Qn) : Qn := Bdr a.s b.s (Nat.shiftLeft a.m (Nat.sub a.x b.x)) (Nat.shiftLeft b.m (Nat.sub b.x a.x)) (Nat.sub a.x (Nat.sub a.x b.x))
theorem Bfj (s t : Bool) (S T g : Nat) : (Bdr s t S T g).d = Ca (sgn s (S : Int) + sgn t (T : Int)) ((g : Int) - 1000000) := by
 unfold Bdr
 rw [Me]
 by_cases h : T ≤ S
 ·rw [decide_eq_true h]
  have e : ((Nat.sub S T : Nat) : Int) = (S : Int) - T := by show ((S - T : Nat) : Int) = _; omega
  cases s <;> cases t
  ·show (Dh false (S + T) g).d = _
   rw [Fs, Dr _ (by omega)]
   congr 1 <;> first | (simp [sgn]; done) | (simp [sgn]; omega)
  ·show (Dh false (Nat.sub S T) g).d = _
   rw [Fs, Dr _ (by omega), e]
   congr 1 <;> first | (simp [sgn]; done) | (simp [sgn]; omega)
  ·show (Dh true (Nat.sub S T) g).d = _
   rw [Fs, Dr _ (by omega), e]
   congr 1 <;> first | (simp [sgn]; done) | (simp [sgn]; omega)
  ·show (Dh true (S + T) g).d = _
   rw [Fs, Dr _ (by omega)]
   congr 1 <;> first | (simp [sgn]; done) | (simp [sgn]; omega)
 ·rw [decide_eq_false h]
  have e : ((Nat.sub T S : Nat) : Int) = (T : Int) - S := by show ((T - S : Nat) : Int) = _; omega
  cases s <;> cases t
  ·show (Dh false (S + T) g).d = _
   rw [Fs, Dr _ (by omega)]
   congr 1 <;> first | (simp [sgn]; done) | (simp [sgn]; omega)
  ·show (Dh true (Nat.sub T S) g).d = _
   rw [Fs, Dr _ (by omega), e]
   congr 1 <;> first | (simp [sgn]; done) | (simp [sgn]; omega)
  ·show (Dh false (Nat.sub T S) g).d = _
   rw [Fs, Dr _ (by omega), e]
   congr 1 <;> first | (simp [sgn]; done) | (simp [sgn]; omega)
  ·show (Dh true (S + T) g).d = _
   rw [Fs, Dr _ (by omega)]
   congr 1 <;> first | (simp [sgn]; done) | (simp [sgn]; omega)
theorem Vv (a b : Qn) : Fh a.d ((Nat.sub a.x (Nat.sub a.x b.x) : Nat) - 1000000) = sgn a.s ((Nat.shiftLeft a.m (Nat.sub a.x b.x) : Nat) : Int) := by
 have sl : Nat.shiftLeft a.m (Nat.sub a.x b.x) = a.m * 2 ^ (a.x - b.x) := Nat.shiftLeft_eq a.m (a.x - b.x)
 rw [sl]
 unfold Fh lev
 show sgn a.s ((a.m : Int) * pw (((a.x : Int) - 1000000) - (((a.x - (a.x - b.x) : Nat) : Int) - 1000000)).toNat) = _
 have e : (((a.x : Int) - 1000000) - (((a.x - (a.x - b.x) : Nat) : Int) - 1000000)).toNat = a.x - b.x := by omega
 rw [e, Jf]
 congr 1
theorem Ba6 (a b : Qn) : Nat.sub a.x (Nat.sub a.x b.x) = Nat.sub b.x (Nat.sub b.x a.x) := by
 show a.x - (a.x - b.x) = b.x - (b.x - a.x)
 omega
theorem Bdq (a b : Qn) : (Zf a b).d = Hh a.d b.d := by
 unfold Zf
 rw [Bfj]
 have l1 : ((Nat.sub a.x (Nat.sub a.x b.x) : Nat) : Int) - 1000000 ≤ a.d.e := by
  show ((a.x - (a.x - b.x) : Nat) : Int) - 1000000 ≤ (a.x : Int) - 1000000
  omega
 have l2 : ((Nat.sub a.x (Nat.sub a.x b.x) : Nat) : Int) - 1000000 ≤ b.d.e := by
  show ((a.x - (a.x - b.x) : Nat) : Int) - 1000000 ≤ (b.x : Int) - 1000000
  omega
 rw [Si a.d b.d _ (.inr l1) (.inr l2), Vv a b, Ba6 a b, Vv b a]
def qlt (a b : Qn) : Bool := cond a.s (cond b.s (Tc (Nat.shiftLeft b.m (Nat.sub b.x a.x)) (Nat.shiftLeft a.m (Nat.sub a.x b.x))) true) (cond b.s false (Tc (Nat.shiftLeft a.m (Nat.sub a.x b.x)) (Nat.shiftLeft b.m (Nat.sub b.x a.x))))
theorem cDy_q {a b : Qn} (ha : Good a) (hb : Good b) : cDy a.d b.d = Cs (sgn a.s ((Nat.shiftLeft a.m (Nat.sub a.x b.x) : Nat) : Int)) (sgn b.s ((Nat.shiftLeft b.m (Nat.sub b.x a.x) : Nat) : Int)) := by
 have pa := ha.pl
 have pb := hb.pl
 have l1 : ((Nat.sub a.x (Nat.sub a.x b.x) : Nat) : Int) - 1000000 ≤ a.d.e := by
  show ((a.x - (a.x - b.x) : Nat) : Int) - 1000000 ≤ (a.x : Int) - 1000000
  omega
 have l2 : ((Nat.sub a.x (Nat.sub a.x b.x) : Nat) : Int) - 1000000 ≤ b.d.e := by
  show ((a.x - (a.x - b.x) : Nat) : Int) - 1000000 ≤ (b.x : Int) - 1000000
  omega
 have ea := pa.can l1
 have eb := pb.can l2
 rw [ea, eb, Hw (by rw [← ea]; exact pa) (by rw [← eb]; exact pb), ← Vv a b, ← Vv b a, Ba6 b a]
theorem Sz {a b : Qn} (ha : Good a) (hb : Good b) : decide (cDy a.d b.d < 0) = qlt a b ∧ decide (0 < cDy a.d b.d) = qlt b a := by
 rw [cDy_q ha hb]
 have za : a.s = true → 0 < Nat.shiftLeft a.m (Nat.sub a.x b.x) := fun h => by
  have : a.m ≠ 0 := fun hz => by rw [(ha.z hz).1] at h; cases h
  rw [show Nat.shiftLeft a.m (Nat.sub a.x b.x) = a.m * 2 ^ (a.x - b.x) from Nat.shiftLeft_eq a.m (a.x - b.x)]
  exact Nat.mul_pos (by omega) (Nat.two_pow_pos _)
 have zb : b.s = true → 0 < Nat.shiftLeft b.m (Nat.sub b.x a.x) := fun h => by
  have : b.m ≠ 0 := fun hz => by rw [(hb.z hz).1] at h; cases h
  rw [show Nat.shiftLeft b.m (Nat.sub b.x a.x) = b.m * 2 ^ (b.x - a.x) from Nat.shiftLeft_eq b.m (b.x - a.x)]
  exact Nat.mul_pos (by omega) (Nat.two_pow_pos _)
 unfold qlt
 generalize Nat.shiftLeft a.m (Nat.sub a.x b.x) = S at *
 generalize Nat.shiftLeft b.m (Nat.sub b.x a.x) = T at *
 have key : ∀ x y : Int, (Cs x y < 0 ↔ x < y) ∧ (0 < Cs x y ↔ y < x) := fun x y => by
  unfold Cs
  constructor <;> repeat' split <;> omega
 rw [Hz, Hz]
 cases hs : a.s <;> cases ht : b.s <;> rw [hs] at za <;> rw [ht] at zb <;> simp only [key, sgn, cond_true, cond_false, if_true, if_false, Bool.false_eq_true]
 ·constructor <;> rw [Bool.eq_iff_iff] <;> simp only [decide_eq_true_eq] <;> omega
 ·have := zb rfl
  constructor <;> simp only [decide_eq_true_eq, decide_eq_false_iff_not] <;> omega
 ·have := za rfl
  constructor <;> simp only [decide_eq_true_eq, decide_eq_false_iff_not] <;> omega
 ·constructor <;> rw [Bool.eq_iff_iff] <;> simp only [decide_eq_true_eq] <;> omega
def Fl (z P : Nat) (a : Qn) : Nat := cond (Nat.beq a.m 0) z (Nat.add (qbl P a.m) a.x)
theorem Qd (z P : Nat) (a : Qn) : ((Fl z P a : Nat) : Int) - 1000000 = if a.d.m = 0 then (z : Int) - 1000000 else bl a.d.m + a.d.e := by
 unfold Fl
 rw [Fm]
 have e : a.d.m = (a.m : Int) := rfl
 have e2 : a.d.e = (a.x : Int) - 1000000 := rfl
 rw [e, e2, ← Qt P a.m]
 by_cases h : a.m = 0
 ·rw [decide_eq_true h, if_pos (by omega)]; rfl
 ·rw [decide_eq_false h, if_neg (by omega)]
  show ((qbl P a.m + a.x : Nat) : Int) - 1000000 = _
  omega
def fN (n : Nat) (k : Nat → Bool) : Bool := Nat.casesOn n (k 0) (fun m => k (Nat.succ m))
theorem Jk (n : Nat) (k : Nat → Bool) : fN n k = k n := by cases n <;> rfl
def fB (b : Bool) (k : Bool → Bool) : Bool := cond b (k true) (k false)
theorem fB_is (b : Bool) (k : Bool → Bool) : fB b k = k b := by cases b <;> rfl
def fQ (a : Qn) (k : Qn → Bool) : Bool := fB a.s fun s => fN a.m fun m => fN a.x fun x => k ⟨s, m, x⟩
theorem Hy (a : Qn) (k : Qn → Bool) : fQ a k = k a := by
 unfold fQ
 rw [fB_is, Jk, Jk]
def Tf (P : Nat) (up : Bool) (G T : Qn) (h : Nat) (k : Qn → Bool) : Bool := fQ (Zf G T) fun s => and (Fe s) (fQ (Xh h s.s s.m s.x false P up) fun r => and (Fe r) (k r))
theorem Tg {P : Nat} {up : Bool} {G T : Qn} {h : Nat} {k : Qn → Bool} (hk : Tf P up G T h k = true) : ∃ s r, Good s ∧ s.d = Hh G.d T.d ∧ Good r ∧ Ji s.d.neg s.d.m s.d.e false P up = some r.d ∧ k r = true := by
 unfold Tf at hk
 rw [Hy, Hy] at hk
 simp only [Bool.and_eq_true] at hk
 obtain ⟨h1, h2, h3⟩ := hk
 exact ⟨Zf G T, _, Dc h1, Bdq G T, Dc h2, Qb (Dc h2), h3⟩
def Bg9 (P : Nat) (up : Bool) (G S : Qn) (L : Nat) (k : Qn → Bool) : Bool :=
 cond (and (not (Nat.beq S.m 0)) (Tc (Fl 0 P S) L)) (Tf P up G ⟨S.s, 1, L⟩ (Nat.sub (Nat.succ (Fl 0 P G)) L) k) (Tf P up G S (Nat.sub (Nat.succ (Fl 0 P G)) (Nat.sub G.x (Nat.sub G.x S.x))) k)
def Baj (P : Nat) (up : Bool) (G S : Qn) (k : Qn → Bool) : Bool := fN (Nat.sub (Nat.sub G.x (Nat.sub G.x (Nat.sub (Fl 0 P G) P))) 3) fun L => Bg9 P up G S L k
def Bc0 (P : Nat) (up : Bool) (a b : Qn) (k : Qn → Bool) : Bool := cond (Tc (Fl 0 P a) (Fl 0 P b)) (Baj P up b a k) (Baj P up a b k)
theorem Vx {P : Nat} {a : Qn} (ha : Good a) : (a.m = 0 ∧ Fj a.d = -1048576 ∧ Fl 0 P a = 0) ∨ (a.m ≠ 0 ∧ Fj a.d = (Fl 0 P a : Int) - 1000000 ∧ 950000 ≤ Fl 0 P a ∧ Fl 0 P a ≤ 1052000) := by
 have e := Qd 0 P a
 have hm : a.d.m = (a.m : Int) := rfl
 have fb := Ku ha.fit
 by_cases h : a.m = 0
 ·refine .inl ⟨h, if_pos (by omega), ?_⟩
  unfold Fl
  rw [Fm, decide_eq_true h]
  rfl
 ·refine .inr ⟨h, ?_⟩
  have ht : Fj a.d = bl a.d.m + a.d.e := if_neg (by omega)
  rw [if_neg (by omega)] at e
  rw [ht, ← e]
  have h1 := ha.lo
  have h2 := ha.hi
  have he : a.d.e = (a.x : Int) - 1000000 := rfl
  refine ⟨rfl, ?_, ?_⟩ <;> omega
theorem Za (s : Bool) {e : Int} (h0 : -200000 ≤ e) (h1 : e ≤ 200000) : mkD s 1 e = some ⟨s, 1, e⟩ := by
 have := Bbq s (v := 1) (e := e) (u := 1) (a := 0) (by unfold pw; rfl) (by decide) (by decide) (by decide) (by omega) (by omega) (by omega)
 simpa using this
theorem Biy (s : Bool) {e : Int} (h0 : -200000 ≤ e) (h1 : e ≤ 200000) : PlD ⟨s, 1, e⟩ := by
 have := Mx (neg := s) (v := 1) (e := e) (by decide) (Za s h0 h1)
 exact this
theorem Xm {P : Nat} {up : Bool} {G S : Qn} {k : Qn → Bool} (hG : Good G) (hS : Good S) (p0 : 1 ≤ P) (p1 : P ≤ 8192) (hk : Baj P up G S k = true) (ht : Fj S.d ≤ Fj G.d) :
  ∃ r, Good r ∧ ((if S.d.m ≠ 0 ∧ Fj S.d < min G.d.e (Fj G.d - P) - 3 then mkD S.d.neg 1 (min G.d.e (Fj G.d - P) - 3) else some S.d).bind fun t => (Qi G.d t).bind fun s => Kq s P up) = some r.d ∧ k r = true := by
 have pG := hG.pl
 have pS := hS.pl
 have g1 := hG.lo
 have g2 := hG.hi
 have s1 := hS.lo
 have s2 := hS.hi
 have eG : G.d.e = (G.x : Int) - 1000000 := rfl
 have eS : S.d.e = (S.x : Int) - 1000000 := rfl
 have mS : S.d.m = (S.m : Int) := rfl
 unfold Baj at hk
 rw [Jk] at hk
 unfold Bg9 at hk
 have tS := Vx (P := P) hS
 have tG := Vx (P := P) hG
 rw [Fm, Hz] at hk
 have near : ∀ {h : Nat}, Tf P up G S h k = true → ∃ r, Good r ∧ ((Qi G.d S.d).bind fun s => Kq s P up) = some r.d ∧ k r = true := fun hk => by
  obtain ⟨s, r, hs, es, hr, hc, hkr⟩ := Tg hk
  refine ⟨r, hr, ?_, hkr⟩
  rw [Bav pG pS (by omega) (by omega) (by rw [← es]; exact hs.pl), ← es]
  show Kq s.d P up = _
  rw [Mr hs.pl (by omega) (by omega), hc]
 have eL : Nat.sub (Nat.sub G.x (Nat.sub G.x (Nat.sub (Fl 0 P G) P))) 3 = G.x - (G.x - (Fl 0 P G - P)) - 3 := rfl
 rw [eL] at hk
 by_cases hz : S.m = 0
 ·rw [decide_eq_true hz] at hk
  rw [if_neg (by omega)]
  exact near hk
 ·rw [decide_eq_false hz] at hk
  obtain ⟨-, t1, t2, t3⟩ := tS.resolve_left (fun h => hz h.1)
  obtain ⟨-, t4, t5, t6⟩ := tG.resolve_left (fun h => by omega)
  have hL : ((G.x - (G.x - (Fl 0 P G - P)) - 3 : Nat) : Int) - 1000000 = min G.d.e (Fj G.d - P) - 3 := by omega
  by_cases hc : Fl 0 P S < G.x - (G.x - (Fl 0 P G - P)) - 3
  ·rw [decide_eq_true hc] at hk
   rw [if_pos ⟨by omega, by omega⟩, ← hL]
   obtain ⟨s, r, hs, es, hr, hcc, hkr⟩ := Tg hk
   have hT : (⟨S.s, 1, G.x - (G.x - (Fl 0 P G - P)) - 3⟩ : Qn).d = ⟨S.s, 1, ((G.x - (G.x - (Fl 0 P G - P)) - 3 : Nat) : Int) - 1000000⟩ := rfl
   rw [hT] at es
   have b0 : -200000 ≤ ((G.x - (G.x - (Fl 0 P G - P)) - 3 : Nat) : Int) - 1000000 := by omega
   have b1 : ((G.x - (G.x - (Fl 0 P G - P)) - 3 : Nat) : Int) - 1000000 ≤ 200000 := by omega
   have b2 : -100000 ≤ ((G.x - (G.x - (Fl 0 P G - P)) - 3 : Nat) : Int) - 1000000 := by omega
   have b3 : ((G.x - (G.x - (Fl 0 P G - P)) - 3 : Nat) : Int) - 1000000 ≤ 100000 := by omega
   refine ⟨r, hr, ?_, hkr⟩
   rw [show S.d.neg = S.s from rfl, Za S.s b0 b1]
   show ((Qi G.d _).bind fun s => Kq s P up) = _
   rw [Bav pG (Biy S.s b0 b1) (by omega) ⟨b2, b3⟩ (by rw [← es]; exact hs.pl), ← es]
   show Kq s.d P up = _
   rw [Mr hs.pl (by omega) (by omega), hcc]
  ·rw [decide_eq_false hc] at hk
   rw [if_neg (by omega)]
   exact near hk
theorem Sc {P : Nat} {up : Bool} {a b : Qn} {k : Qn → Bool} (ha : Good a) (hb : Good b) (p0 : 1 ≤ P) (p1 : P ≤ 8192) (hk : Bc0 P up a b k = true) : ∃ r, Good r ∧ Le P up a.d b.d = some r.d ∧ k r = true := by
 unfold Bc0 at hk
 rw [Hz] at hk
 have tA := Vx (P := P) ha
 have tB := Vx (P := P) hb
 unfold Le Bez Bey Zo Zq
 by_cases h : Fj a.d < Fj b.d
 ·rw [decide_eq_true (by omega)] at hk
  simp only [if_pos h]
  exact Xm hb ha p0 p1 hk (by omega)
 ·rw [decide_eq_false (by omega)] at hk
  simp only [if_neg h]
  exact Xm ha hb p0 p1 hk (by omega)
theorem Qa {P : Nat} {up : Bool} {a b : Qn} {h : Nat} {k : Qn → Bool} (hk : Tf P up a b h k = true) : ∃ r, Good r ∧ Dt P up a.d b.d = some r.d ∧ k r = true := by
 obtain ⟨s, r, hs, es, hr, hc, hkr⟩ := Tg hk
 refine ⟨r, hr, ?_, hkr⟩
 unfold Dt
 rw [← es, hc]
end Go.Proofs.YteffemhapnbaeaaGreatDoor
