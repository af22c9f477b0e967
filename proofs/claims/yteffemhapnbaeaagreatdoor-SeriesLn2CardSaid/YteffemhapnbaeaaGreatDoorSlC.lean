/- Walks and laws that the claim's row needs. No conditions. -/
import Derived.Deep.RegionHeld3
import Derived.Test.YteffemhapnbaeaaGreatDoorQaz
import Derived.Test.YteffemhapnbaeaaGreatDoorSsY
import Derived.Test.YteffemhapnbaeaaGreatDoorSsM
import Derived.Test.YteffemhapnbaeaaGreatDoorQao
import Derived.Test.YteffemhapnbaeaaGreatDoorQas
set_option maxHeartbeats 16000000
set_option linter.unusedSimpArgs false
set_option linter.unusedVariables false
namespace Go.Proofs.YteffemhapnbaeaaGreatDoor
open Go.RowKit Num
set_option maxRecDepth 100000
theorem Bft (w : World) : Calls Tryz.prog 11 #[.agg #[.bool false, .slice none 0 0, .int .i64 0, .bool false, .slice none 0 0, .int .i64 0], .agg #[.bool false, .slice none 0 0, .int .i64 0, .bool false, .slice none 0 0, .int .i64 0]] w fun r w' => r = .returned (.bool true) ∧ Below w.heap.size w w' := by
 have h : Arr w none 0 0 (wd 0) := Dj w
 have R := Vs false false false false none none none none 0 0 0 0 0 0 0 0 (wd 0) (wd 0) (wd 0) (wd 0) 0 0 0 0 w h h h h
 rw [Mj] at R
 exact R
theorem Bc6 (P : Int) (bad : Bool) (w : World) (hT : Tz w) : Calls Tryz.prog 5 #[.int .i64 P, .bool bad] w fun r w' => r = .returned (.bool true) ∧ Below w.heap.size w w' := by
 have AW := Be (Yx w hT)
 by_cases c1 : 16 ≤ P ∧ P ≤ 600 ∧ bad = false
 ·obtain ⟨q0, q1, rfl⟩ := c1
  have d1 : decide (600 < P) = false := by simp; omega
  have d1' : decide (7000 < P) = false := by simp; omega
  have d2 : decide (P < 16) = false := by simp; omega
  obtain ⟨p, hp, p0, p1⟩ : ∃ p : Nat, P = (p : Int) ∧ 16 ≤ p ∧ p ≤ 600 := ⟨P.toNat, by omega, by omega, by omega⟩
  obtain ⟨a, b, ea, eb, ra, rb, hm, hn, -, -⟩ := (Ym p0 p1).all
  rw [← hp] at ea eb hn
  clear hp p0 p1 p
  have w100 : IntKind.i64.wrap (P + 100) = P + 100 := by rw [IntKind.wrap_i64]; omega
  have w4 : IntKind.i64.wrap (4 - P) = 4 - P := by rw [IntKind.wrap_i64]; omega
  go_enter Tryz.func5, Tryz.ntmps5
  go_wp2_with fail
  refine AW.out.mono ?_
  rintro r w1 ⟨rfl, h1⟩
  go_wp2_with fail
  refine (Sv P false w1).mono ?_
  rintro r w2 ⟨g, rfl, hk, h2, hg⟩
  have bw := Bc h1 h2
  go_wp2_with fail
  refine (Bel g P a w2 hk (hT.below bw) q0 (by omega) ea).mono ?_
  rintro r w3 ⟨A1, n1, i1, A2, n2, i2, rfl, a1, a2, h3⟩
  have hk := hk.later h3
  have bw := Bc bw h3
  have lk := hk.lt
  have ba : Below w3.heap.size w3 (w3.alloc (.cells #[.bool false, .slice none 0 0, .int .i64 0, .bool false, .slice none 0 0, .int .i64 0] 28)) := Ba (Bb _) _
  have xz := Bg w3 #[.bool false, .slice none 0 0, .int .i64 0, .bool false, .slice none 0 0, .int .i64 0] 28
  have hk := hk.later ba
  have a1 := a1.below ba
  have a2 := a2.below ba
  have ksz := bw.size
  have bw := Bc bw ba
  clear h1 h2 h3 ba
  go_wp2_with (refine Bt rfl _ _ rfl rfl w3.heap.size _ A1 n1 i1 _ _ A2 n2 i2 _ xz rfl rfl (fun W1 xs gW1 => ?_); have a1 := a1.grown xz Bh gW1; have a2 := a2.grown xz Bh gW1; have hk := Box.grown hk gW1 (by omega); have bw := Bl bw gW1 ksz)
  generalize w3.heap.size = ks at *
  clear xz gW1
  refine (Bea (P + 100) W1).mono ?_
  rintro r w4 ⟨g2, rfl, hk2, h4⟩
  have hk : Wk w4 g P false 44 := Box.later hk h4
  have xs := xs.later h4
  have a1 := a1.below h4
  have a2 := a2.below h4
  have bw := Bc bw h4
  go_wp2_with fail
  have bD : Below w4.heap.size w4 w4.drew := Below.drew (Bb _)
  refine wp_region_noPanic ?_
  refine wp_region_held_drew (S := fun w' => (w'.cell? ⟨g, 1, none⟩ = some (.bool false) ∧ (w'.cell? ⟨ks, 0, none⟩ = some (.bool (a).1.neg) ∧ w'.cell? ⟨ks, 1, none⟩ = some (.slice A1 n1 i1) ∧ w'.cell? ⟨ks, 2, none⟩ = some (.int .i64 (a).1.e) ∧ w'.cell? ⟨ks, 3, none⟩ = some (.bool (a).2.neg) ∧ w'.cell? ⟨ks, 4, none⟩ = some (.slice A2 n2 i2) ∧ w'.cell? ⟨ks, 5, none⟩ = some (.int .i64 (a).2.e)))) (by kernel_rfl) ⟨(hk.later bD).cells.2.1, xs.six bD⟩ (fun hHeld => ?_)
  have hk := hk.later bD
  have hk2 := hk2.later bD
  have xs := xs.later bD
  have a1 := a1.below bD
  have a2 := a2.below bD
  have bw := Bc bw bD
  (refine Bj 0 43 rfl ?_; (try simp only [Act.put, Bf]))
  (refine Bj 1 44 rfl ?_; (try simp only [Act.put, Bf]))
  (refine Bj 2 45 rfl ?_; (try simp only [Act.put, Bf]))
  (refine Bj 3 46 rfl ?_; (try simp only [Act.put, Bf]))
  (refine Bj 4 47 rfl ?_; (try simp only [Act.put, Bf]))
  (refine Bj 5 48 rfl ?_; (try simp only [Act.put, Bf]))
  (refine Bj 6 49 rfl ?_; (try simp only [Act.put, Bf]))
  (refine Bj 7 50 rfl ?_; (try simp only [Act.put, Bf]))
  (refine Bj 8 51 rfl ?_; (try simp only [Act.put, Bf]))
  (refine Bj 10 53 rfl ?_; (try simp only [Act.put, Bf]))
  (refine Bj 11 54 rfl ?_; (try simp only [Act.put, Bf]))
  (refine Bj 12 55 rfl ?_; (try simp only [Act.put, Bf]))
  refine Bw 9 rfl (fun K hK => ?_)
  go_simp
  go_at_call 25
  refine (rln4 g2 (P + 100) b _ hk2 eb).mono ?_
  rintro r5 w5 ⟨B1, m1, j1, B2, m2, j2, rfl, b1, b2, h5⟩
  have hk := hk.later h5
  have hk2 := hk2.later h5
  have xs := xs.later h5
  have a1 := a1.below h5
  have a2 := a2.below h5
  have bw := Bc bw h5
  (refine hK.out _ _ (⟨hk.cells.2.1, xs.six (Bb _)⟩) (fun _ => ?_); clear hHeld hK K; rename_i hHeld; (try simp only [Act.put, Bf]))
  refine Bw 13 rfl (fun K hK => ?_)
  go_simp
  go_at_call 22
  refine (Bdc a b A1 A2 B1 B2 n1 i1 n2 i2 m1 j1 m2 j2 g2 (P + 100) (4 - P) _ a1 a2 b1 b2 ra rb hk2 (by omega) hm hn).mono ?_
  rintro r6 w6 ⟨rfl, h6⟩
  have hk := hk.later h6
  have xs := xs.later h6
  have bw := Bc bw h6
  (refine hK.out _ _ (⟨hk.cells.2.1, xs.six (Bb _)⟩) (fun _ => ?_); clear hHeld hK K; rename_i hHeld; (try simp only [Act.put, Bf]))
  (refine Bj 14 57 rfl ?_; (try simp only [Act.put, Bf]))
  refine Bw 15 rfl (fun K hK => ?_)
  go_simp
  (refine hK.out _ _ (⟨hk.cells.2.1, xs.six (Bb _)⟩) (fun _ => ?_); clear hHeld hK K; rename_i hHeld; (try simp only [Act.put, Bf]))
  refine Cn ?_
  clear hHeld
  go_wp2_with fail
  go_ret
  exact ⟨rfl, bw⟩
 by_cases c2 : 600 < P ∧ P ≤ 7000
 ·have d1 : decide (600 < P) = true := by simp; omega
  have d3 : decide (P ≤ 7000) = true := by simp; omega
  go_enter Tryz.func5, Tryz.ntmps5
  go_wp2_with fail
  refine AW.out.mono ?_
  rintro r w1 ⟨rfl, h1⟩
  go_wp2_with fail
  go_ret
  exact ⟨rfl, h1⟩
 have hb : bad = true ∨ P < 16 ∨ 7000 < P := by
  cases bad
  ·right
   simp at c1
   omega
  ·exact .inl rfl
 have BD := Be hb
 have key : ∃ x y z u : Bool, decide (600 < P) = x ∧ decide (P ≤ 7000) = y ∧ decide (P < 16) = z ∧ decide (7000 < P) = u ∧ (x && y) = false ∧ (bad || z || u) = true := by
  refine ⟨_, _, _, _, rfl, rfl, rfl, rfl, ?_, ?_⟩
  ·rw [Bool.and_eq_false_iff, decide_eq_false_iff_not, decide_eq_false_iff_not]
   omega
  ·rcases hb with rfl | h | h
   ·rfl
   ·rw [decide_eq_true h]; simp
   ·rw [decide_eq_true h]; simp
 obtain ⟨x, y, z, u, d1, d2, d3, d4, e1, e2⟩ := key
 clear hb c1 c2
 go_enter Tryz.func5, Tryz.ntmps5
 go_wp2_with fail
 refine AW.out.mono ?_
 rintro r w1 ⟨rfl, h1⟩
 cases x <;> cases y <;> cases z <;> cases u <;> cases bad <;> first | (cases e1; done) | (cases e2; done) | skip
 all_goals
  clear e1 e2
  go_wp2_with fail
  (refine (Sv P _ w1).mono ?_; rintro r w2 ⟨g, rfl, hk, h2, hg⟩; go_wp2_with fail; refine (Bc5 g P _ w2 hk (by first | exact .inl rfl | exact .inr BD.out | exact BD.out | exact .inr (BD.out.resolve_left (fun h => h)) | exact .inr (BD.out.resolve_left (by decide)))).mono ?_; rintro r w3 ⟨rfl, hk, h3⟩; have lg := hk.lt; have s1 := h1.size; have bw := Bl (Bc h1 h2) h3 (by omega); have xz := Bg w3 #[.bool false, .slice none 0 0, .int .i64 0, .bool false, .slice none 0 0, .int .i64 0] 28; have hk := hk.later (Ba (Bb w3) (.cells #[.bool false, .slice none 0 0, .int .i64 0, .bool false, .slice none 0 0, .int .i64 0] 28)); have ksz := bw.size; have bw := Ba bw (.cells #[.bool false, .slice none 0 0, .int .i64 0, .bool false, .slice none 0 0, .int .i64 0] 28); clear h2 h3; go_wp2_with (refine Bt rfl _ _ rfl rfl w3.heap.size _ none 0 0 _ _ none 0 0 _ xz rfl rfl (fun W1 xs gW1 => ?_); have hk := Box.grown hk gW1 (by omega); have bw := Bl bw gW1 ksz; obtain ⟨e0, e1, e2, e3, e4, e5, -⟩ := xs.cell6; have hkw : Wk W1 g P true 44 := hk; obtain ⟨g0, g1, -⟩ := hkw.cells; have SM := Be (Bft W1)); refine SM.out.mono ?_; rintro r w9 ⟨rfl, hb9⟩; have bw := Bc bw hb9; go_wp2_with fail; go_ret; exact ⟨rfl, bw⟩)
end Go.Proofs.YteffemhapnbaeaaGreatDoor
