/- Walks and laws that the claim's row needs. No conditions. -/
import Derived.Deep.RegionHeld3
import Derived.Test.YteffemhapnbaeaaGreatDoorQao
import Derived.Test.YteffemhapnbaeaaGreatDoorQam
import Derived.Test.YteffemhapnbaeaaGreatDoorQah
set_option maxHeartbeats 16000000
set_option linter.unusedSimpArgs false
set_option linter.unusedVariables false
namespace Go.Proofs.YteffemhapnbaeaaGreatDoor
open Go.RowKit Num
variable {tw : TypeId}
set_option maxRecDepth 100000
def RetM (o : Option Dy) (g : Nat) (P : Int) (bad : Bool) (t : TypeId) (w : World) (r : Ending) (w' : World) : Prop :=
 ∃ A n c, r = .returned (.agg #[.bool (Ci o).neg, .slice A n c, .int .i64 (Ci o).e]) ∧ Arr w' A n c (wd (Ci o).m) ∧ Wk w' g P (bad || !o.isSome) t ∧ w.grownBy w' (some g)
theorem Tj (w : World) (k : Nat) (x y z : Value) : w.grownBy (((w.setCell ⟨k, 0, none⟩ x).setCell ⟨k, 1, none⟩ y).setCell ⟨k, 2, none⟩ z) (some k) := Bi (Bi (Br w k 0 _) (Br _ k 1 _)) (Br _ k 2 _)
theorem Xz (p : Bool) (A : Option Addr) (n c : Nat) (xs : List Int) (e k P : Int) (a u g : Nat) (bad : Bool) (w : World) (h : Arr w A n c xs) (hT : Tz w) (hn : n ≤ 100000000) (e0 : -1000000 ≤ e) (e1 : e ≤ 1000000) (k0 : -1000000 ≤ k) (k1 : k ≤ 1000000)
  (hk : Wk w g P bad tw) (ta tu : TypeId) (ha : Box w a #[.pointer (some ⟨g, 0, none⟩)] ta) (hu : Box w u #[.int .i64 k] tu) (hag : a ≠ g) (hug : u ≠ g) :
  Calls Tryz.prog 91 #[.agg #[.bool p, .slice A n c, .int .i64 e], .pointer (some ⟨a, 0, none⟩), .pointer (some ⟨u, 0, none⟩)] w (RetM (mkD p (val xs) (e + k)) g P bad tw w) := by
 have b1 := Ba (Bb w) (.cells #[.bool p, .slice A n c, .int .i64 e] 26)
 have b0 : Below w.heap.size w ((w.alloc (.cells #[.bool p, .slice A n c, .int .i64 e] 26)).alloc (.cells #[.bool false, .slice none 0 0, .int .i64 0] 26)) := Ba b1 _
 have xa := (Bg w #[.bool p, .slice A n c, .int .i64 e] 26).later (Ba (Bb _) (.cells #[.bool false, .slice none 0 0, .int .i64 0] 26))
 have xr := Bg (w.alloc (.cells #[.bool p, .slice A n c, .int .i64 e] 26)) #[.bool false, .slice none 0 0, .int .i64 0] 26
 rw [show (w.alloc (.cells #[.bool p, .slice A n c, .int .i64 e] 26)).heap.size = w.heap.size + 1 by simp] at xr
 have hk0 := hk.later b0
 have ha0 := ha.later b0
 have hu0 := hu.later b0
 have H := h.below b0
 have hT0 := hT.below b0
 have lg := hk.lt
 have la := ha.lt
 have lu := hu.lt
 have gw := Bv b0 (some g)
 generalize hW : ((w.alloc (.cells #[.bool p, .slice A n c, .int .i64 e] 26)).alloc (.cells #[.bool false, .slice none 0 0, .int .i64 0] 26)) = W at *
 have hsum : IntKind.i64.wrap (e + k) = e + k := by rw [IntKind.wrap_i64]; omega
 have MK := fun w' (h2 : Arr w' A n c xs) (hT2 : Tz w') => Hv p A n c xs (e + k) w' h2 hn (by omega) (by omega) hT2
 have hz := Jn (o := mkD p (val xs) (e + k))
 unfold RetM
 unfold He at MK
 generalize (mkD p (val xs) (e + k)).isSome = ok at *
 generalize Ci (mkD p (val xs) (e + k)) = D at *
 obtain ⟨s, m, f⟩ := D
 simp only at MK hz ⊢
 have R1 : ∀ w', W.grownBy w' (some g) → Calls Tryz.prog 66 #[.bool p, .slice A n c, .int .i64 (e + k)] w' fun r w'' => ∃ A5 n5 c5, r = .returned (.tuple #[.agg #[.bool s, .slice A5 n5 c5, .int .i64 f], .bool ok]) ∧ Arr w'' A5 n5 c5 (wd m) ∧ Below w'.heap.size w' w'' ∧ W.grownBy w'' (some g) := by
  intro w' hG
  refine (MK w' (hk0.arr H hG) (hk0.tz hT0 hG)).mono ?_
  rintro r w'' ⟨A5, n5, c5, rfl, h5, hb⟩
  exact ⟨A5, n5, c5, rfl, h5, hb, Bp hG hb⟩
 have M1 : ∀ A5 n5 c5 w' b, Wk w' g P b tw → Arr w' A5 n5 c5 (wd m) → W.grownBy w' (some g) → Calls Tryz.prog 43 #[.pointer (some ⟨g, 0, none⟩), .agg #[.bool s, .slice A5 n5 c5, .int .i64 f], .bool ok] w' fun r w'' => ∃ B k j, r = .returned (.agg #[.bool s, .slice B k j, .int .i64 f]) ∧ Arr w'' B k j (wd m) ∧ Wk w'' g P (b || !ok) tw ∧ w'.grownBy w'' (some g) ∧ W.grownBy w'' (some g) := by
  intro A5 n5 c5 w' b hk' hA hG
  refine (Sx g P b ok s m f A5 n5 c5 w' hk' hA hz).mono ?_
  rintro r w'' ⟨B, k, j, rfl, hB, hk2, hg2⟩
  exact ⟨B, k, j, rfl, hB, hk2, hg2, Bi hG hg2⟩
 have KC : ∀ w', W.grownBy w' (some g) → ((w'.cell? ⟨w.heap.size, 0, none⟩ = some (.bool p) ∧ w'.cell? ⟨w.heap.size, 1, none⟩ = some (.slice A n c) ∧ w'.cell? ⟨w.heap.size, 2, none⟩ = some (.int .i64 e)) ∧ w'.cell? ⟨a, 0, none⟩ = some (.pointer (some ⟨g, 0, none⟩)) ∧ w'.cell? ⟨u, 0, none⟩ = some (.int .i64 k)) := fun w' hG => ⟨⟨(xa.grown hG (show w.heap.size ≠ g by omega)).cell 0, (xa.grown hG (show w.heap.size ≠ g by omega)).cell 1, (xa.grown hG (show w.heap.size ≠ g by omega)).cell 2⟩, (ha0.grown hG hag).cell 0, (hu0.grown hG hug).cell 0⟩
 have KC2 : ∀ w', W.grownBy w' (some g) → ∀ v0 v1 v2 W2, W2 = (((w'.setCell ⟨w.heap.size + 1, 0, none⟩ v0).setCell ⟨w.heap.size + 1, 1, none⟩ v1).setCell ⟨w.heap.size + 1, 2, none⟩ v2) → ((W2.cell? ⟨w.heap.size, 0, none⟩ = some (.bool p) ∧ W2.cell? ⟨w.heap.size, 1, none⟩ = some (.slice A n c) ∧ W2.cell? ⟨w.heap.size, 2, none⟩ = some (.int .i64 e)) ∧ W2.cell? ⟨a, 0, none⟩ = some (.pointer (some ⟨g, 0, none⟩)) ∧ W2.cell? ⟨u, 0, none⟩ = some (.int .i64 k)) := by
  rintro w' hG v0 v1 v2 _ rfl
  have g3 := Tj w' (w.heap.size + 1) v0 v1 v2
  have ya := (xa.grown hG (show w.heap.size ≠ g by omega)).grown g3 (show w.heap.size ≠ w.heap.size + 1 by omega)
  exact ⟨⟨ya.cell 0, ya.cell 1, ya.cell 2⟩, ((ha0.grown hG hag).grown g3 (show a ≠ w.heap.size + 1 by omega)).cell 0, ((hu0.grown hG hug).grown g3 (show u ≠ w.heap.size + 1 by omega)).cell 0⟩
 have XR := fun w' (hG : W.grownBy w' (some g)) => (xr.grown hG (show w.heap.size + 1 ≠ g by omega)).cell3
 have FIN : ∀ w' b B i j, Arr w' B i j (wd m) → Wk w' g P b tw → W.grownBy w' (some g) → Arr (((w'.setCell ⟨w.heap.size + 1, 0, none⟩ (.bool s)).setCell ⟨w.heap.size + 1, 1, none⟩ (.slice B i j)).setCell ⟨w.heap.size + 1, 2, none⟩ (.int .i64 f)) B i j (wd m) ∧
   Wk (((w'.setCell ⟨w.heap.size + 1, 0, none⟩ (.bool s)).setCell ⟨w.heap.size + 1, 1, none⟩ (.slice B i j)).setCell ⟨w.heap.size + 1, 2, none⟩ (.int .i64 f)) g P b tw ∧
   w.grownBy (((w'.setCell ⟨w.heap.size + 1, 0, none⟩ (.bool s)).setCell ⟨w.heap.size + 1, 1, none⟩ (.slice B i j)).setCell ⟨w.heap.size + 1, 2, none⟩ (.int .i64 f)) (some g) := by
  intro w' b B i j hA hk' hG
  have g3 := Tj w' (w.heap.size + 1) (.bool s) (.slice B i j) (.int .i64 f)
  exact ⟨hA.set3 (xr.grown hG (show w.heap.size + 1 ≠ g by omega)) _ _ _ (by simp) (by simp), hk'.other g3 (by omega), Cd (Bi gw hG) g3 (by omega)⟩
 have hG : W.grownBy W (some g) := Do _ _
 obtain ⟨⟨j0, j1, j2⟩, j3, j4⟩ := KC W hG
 have KC := Be KC
 have KC2 := Be KC2
 have R1 := Be R1
 have M1 := Be M1
 have XR := Be XR
 have FIN := Be FIN
 have HW := Be hW
 have hk := hk0
 clear hW h hT ha hu b1 b0 xa xr hk0 ha0 hu0 H hT0 MK hz gw
 go_enter Tryz.func91, Tryz.ntmps91
 go_wp2_with fail
 rw [HW.out]
 go_region_held3 (fun w' => ((w'.cell? ⟨w.heap.size, 0, none⟩ = some (.bool p) ∧ w'.cell? ⟨w.heap.size, 1, none⟩ = some (.slice A n c) ∧ w'.cell? ⟨w.heap.size, 2, none⟩ = some (.int .i64 e)) ∧ w'.cell? ⟨a, 0, none⟩ = some (.pointer (some ⟨g, 0, none⟩)) ∧ w'.cell? ⟨u, 0, none⟩ = some (.int .i64 k))) (first | (refine KC.out _ ?_; ((first | with_reducible exact hG | with_reducible exact Ce hG)); done) | (refine KC2.out _ ?_ _ _ _ _ rfl; ((first | with_reducible exact hG | with_reducible exact Ce hG)); done) | go_keep) (first | (go_at_call 66; (try rw [hsum]); refine (R1.out _ ?_).mono ?_; ((first | with_reducible exact hG | with_reducible exact Ce hG)); rintro r w5 ⟨A5, n5, c5, rfl, h5, hc, hG⟩; have hk := Wk.later (Wk.later hk ((by repeat with_reducible (first | assumption | exact Bb _ | refine Bd ?_ _ | apply Below.drew | refine Ba ?_ _)))) hc) | (go_at_call 43; refine (M1.out _ _ _ _ _ (Wk.later hk ((by repeat with_reducible (first | assumption | exact Bb _ | refine Bd ?_ _ | apply Below.drew | refine Ba ?_ _)))) (Arr.below h5 ((by repeat with_reducible (first | assumption | exact Bb _ | refine Bd ?_ _ | apply Below.drew | refine Ba ?_ _)))) ?_).mono ?_; ((first | with_reducible exact hG | with_reducible exact Ce hG)); rintro r w6 ⟨B, i, j, rfl, h6, hk6, hc, hG⟩; have hk := hk6; obtain ⟨u0, u1, u2, u3, u4, u5⟩ := XR.out _ hG))
 go_wp2_with fail
 obtain ⟨z1, z2, z3⟩ := FIN.out _ _ _ _ _ h6 hk hG
 refine bodyPost_ret (v := .agg #[.bool s, .slice B i j, .int .i64 f]) ?_ rfl ⟨B, i, j, rfl, z1, z2, z3⟩
 simp [results, Tryz.results91, go_sem, u0, u1, u2]
def Kh (k : Int) : Bool := decide (262144 < k) || decide (k < -262144)
def Qw (bad : Bool) (P : Int) (p q : Bool) (xs ys : List Int) (e f k : Int) : Option (Dy × Dy) := Fn (bad || decide (P < 1) || decide (8192 < P) || !Cb p q xs ys e f || Kh k) (mkD p (val xs) (e + k)) (mkD q (val ys) (f + k))
theorem Jr (bad : Bool) (P : Int) (p q : Bool) (A A' : Option Addr) (n c n' c' : Nat) (xs ys : List Int) (e f : Int) : Bx bad P [(⟨p, A, n, c, xs, e, q, A', n', c', ys, f⟩ : SVal)] = (bad || decide (P < 1) || decide (8192 < P) || !Cb p q xs ys e f) := by
 unfold Bx SVal.right; simp
theorem Lq (P : Int) (l : List SVal) : Bx true P l = true := by unfold Bx; simp
theorem Hj {p q : Bool} {xs ys : List Int} {e f : Int} (h : Cb p q xs ys e f = true) : Bq p xs e = true ∧ Bq q ys f = true := by
 unfold Cb Gj at h
 simp only [Bool.and_eq_true] at h
 exact ⟨h.1.1, h.1.2⟩
theorem Bfx (p q : Bool) (A A' : Option Addr) (n c n' c' : Nat) (xs ys : List Int) (e f k P : Int) (g : Nat) (bad : Bool) (w : World) (h : Arr w A n c xs) (h' : Arr w A' n' c' ys) (hT : Tz w) (hk : Wk w g P bad tw) :
  Calls Tryz.prog 56 #[.pointer (some ⟨g, 0, none⟩), (.agg #[.bool p, .slice A n c, .int .i64 e, .bool q, .slice A' n' c', .int .i64 f]), .int .i64 k] w (Dx (Qw bad P p q xs ys e f k) g P tw w) := by
 have lg := hk.lt
 have b1 := Ba (Bb w) (.cells #[.pointer (some ⟨g, 0, none⟩)] 31)
 have b2 := Ba b1 (.cells #[.bool p, .slice A n c, .int .i64 e, .bool q, .slice A' n' c', .int .i64 f] 28)
 have b3 := Ba b2 (.cells #[.int .i64 k] 3)
 have b4 : Below w.heap.size w ((((w.alloc (.cells #[.pointer (some ⟨g, 0, none⟩)] 31)).alloc (.cells #[.bool p, .slice A n c, .int .i64 e, .bool q, .slice A' n' c', .int .i64 f] 28)).alloc (.cells #[.int .i64 k] 3)).alloc (.cells #[.bool false, .slice none 0 0, .int .i64 0, .bool false, .slice none 0 0, .int .i64 0] 28)) := Ba b3 _
 have s1 : (w.alloc (.cells #[.pointer (some ⟨g, 0, none⟩)] 31)).heap.size = w.heap.size + 1 := by simp
 have s2 : ((w.alloc (.cells #[.pointer (some ⟨g, 0, none⟩)] 31)).alloc (.cells #[.bool p, .slice A n c, .int .i64 e, .bool q, .slice A' n' c', .int .i64 f] 28)).heap.size = w.heap.size + 2 := by simp
 have s3 : (((w.alloc (.cells #[.pointer (some ⟨g, 0, none⟩)] 31)).alloc (.cells #[.bool p, .slice A n c, .int .i64 e, .bool q, .slice A' n' c', .int .i64 f] 28)).alloc (.cells #[.int .i64 k] 3)).heap.size = w.heap.size + 3 := by simp
 have s4 : ((((w.alloc (.cells #[.pointer (some ⟨g, 0, none⟩)] 31)).alloc (.cells #[.bool p, .slice A n c, .int .i64 e, .bool q, .slice A' n' c', .int .i64 f] 28)).alloc (.cells #[.int .i64 k] 3)).alloc (.cells #[.bool false, .slice none 0 0, .int .i64 0, .bool false, .slice none 0 0, .int .i64 0] 28)).heap.size = w.heap.size + 4 := by simp
 have xa := (Bg w #[.pointer (some ⟨g, 0, none⟩)] 31).later (Ba (Ba (Ba (Bb _) (.cells #[.bool p, .slice A n c, .int .i64 e, .bool q, .slice A' n' c', .int .i64 f] 28)) (.cells #[.int .i64 k] 3)) (.cells #[.bool false, .slice none 0 0, .int .i64 0, .bool false, .slice none 0 0, .int .i64 0] 28))
 have xs1 := (Bg (w.alloc (.cells #[.pointer (some ⟨g, 0, none⟩)] 31)) #[.bool p, .slice A n c, .int .i64 e, .bool q, .slice A' n' c', .int .i64 f] 28).later (Ba (Ba (Bb _) (.cells #[.int .i64 k] 3)) (.cells #[.bool false, .slice none 0 0, .int .i64 0, .bool false, .slice none 0 0, .int .i64 0] 28))
 have xk := (Bg ((w.alloc (.cells #[.pointer (some ⟨g, 0, none⟩)] 31)).alloc (.cells #[.bool p, .slice A n c, .int .i64 e, .bool q, .slice A' n' c', .int .i64 f] 28)) #[.int .i64 k] 3).later (Ba (Bb _) (.cells #[.bool false, .slice none 0 0, .int .i64 0, .bool false, .slice none 0 0, .int .i64 0] 28))
 have xr := Bg (((w.alloc (.cells #[.pointer (some ⟨g, 0, none⟩)] 31)).alloc (.cells #[.bool p, .slice A n c, .int .i64 e, .bool q, .slice A' n' c', .int .i64 f] 28)).alloc (.cells #[.int .i64 k] 3)) #[.bool false, .slice none 0 0, .int .i64 0, .bool false, .slice none 0 0, .int .i64 0] 28
 rw [s1] at xs1
 rw [s2] at xk
 rw [s3] at xr
 have hk4 := hk.later b4
 obtain ⟨t1, t2, t3, t4, t5, t6, -⟩ := xs1.cell6
 have t0 := xa.cell 0
 have tk := xk.cell 0
 have TKA : ∀ w' b, Wk w' g P b tw → Arr w' A n c xs → Arr w' A' n' c' ys → g < w'.heap.size → Calls Tryz.prog 33 #[.pointer (some ⟨g, 0, none⟩), .slice (some ⟨w'.heap.size, 0, none⟩) 1 1] (w'.alloc (.cells #[.bool p, .slice A n c, .int .i64 e, .bool q, .slice A' n' c', .int .i64 f] 28)) fun r w'' => r = .returned (.bool (!Bx b P [(⟨p, A, n, c, xs, e, q, A', n', c', ys, f⟩ : SVal)])) ∧ Wk w'' g P (Bx b P [(⟨p, A, n, c, xs, e, q, A', n', c', ys, f⟩ : SVal)]) tw ∧ (w'.alloc (.cells #[.bool p, .slice A n c, .int .i64 e, .bool q, .slice A' n' c', .int .i64 f] 28)).grownBy w'' (some g) := by
  intro w' b hw h1 h2 hlt
  have bb := Ba (Bb w') (.cells #[.bool p, .slice A n c, .int .i64 e, .bool q, .slice A' n' c', .int .i64 f] 28)
  exact Mk g w'.heap.size 1 P b [(⟨p, A, n, c, xs, e, q, A', n', c', ys, f⟩ : SVal)] rfl _ (hw.later bb) (Ja (Bg w' #[.bool p, .slice A n c, .int .i64 e, .bool q, .slice A' n' c', .int .i64 f] 28) (h1.below bb) (h2.below bb)) (by omega) (by decide)
 have ho : Qw bad P p q xs ys e f k = Fn (bad || decide (P < 1) || decide (8192 < P) || !Cb p q xs ys e f || Kh k) (mkD p (val xs) (e + k)) (mkD q (val ys) (f + k)) := rfl
 by_cases hf : 262144 < k ∨ k < -262144
 ·have hfb : Kh k = true := by unfold Kh; rcases hf with h1 | h1 <;> simp [h1]
  rw [ho, hfb, Bool.or_true]
  have h2 : Fn true (mkD p (val xs) (e + k)) (mkD q (val ys) (f + k)) = none := rfl
  rw [h2]
  have FL := Be (Vu g P bad ((((w.alloc (.cells #[.pointer (some ⟨g, 0, none⟩)] 31)).alloc (.cells #[.bool p, .slice A n c, .int .i64 e, .bool q, .slice A' n' c', .int .i64 f] 28)).alloc (.cells #[.int .i64 k] 3)).alloc (.cells #[.bool false, .slice none 0 0, .int .i64 0, .bool false, .slice none 0 0, .int .i64 0] 28)) hk4)
  have TKB : ∀ w6, Wk w6 g P true tw → Arr w6 A n c xs → Arr w6 A' n' c' ys → ((((w.alloc (.cells #[.pointer (some ⟨g, 0, none⟩)] 31)).alloc (.cells #[.bool p, .slice A n c, .int .i64 e, .bool q, .slice A' n' c', .int .i64 f] 28)).alloc (.cells #[.int .i64 k] 3)).alloc (.cells #[.bool false, .slice none 0 0, .int .i64 0, .bool false, .slice none 0 0, .int .i64 0] 28)).grownBy w6 (some g) → Calls Tryz.prog 33 #[.pointer (some ⟨g, 0, none⟩), .slice (some ⟨w6.heap.size, 0, none⟩) 1 1] (w6.alloc (.cells #[.bool p, .slice A n c, .int .i64 e, .bool q, .slice A' n' c', .int .i64 f] 28)) fun r w'' => r = .returned (.bool false) ∧ Wk w'' g P true tw ∧ (w6.alloc (.cells #[.bool p, .slice A n c, .int .i64 e, .bool q, .slice A' n' c', .int .i64 f] 28)).grownBy w'' (some g) := by
   intro w6 hw h1 h2 hg
   have T := TKA w6 true hw h1 h2 hw.lt
   rw [Lq] at T
   exact T
  clear ho hfb h2 TKA s1 s2 s3
  rcases hf with h1 | h1
  ·have d1 : decide (k > 262144) = true := decide_eq_true h1
   have d1' : decide (262144 < k) = true := decide_eq_true h1
   go_enter Tryz.func56, Tryz.ntmps56
   (go_wp2_with fail; refine FL.out.mono ?_; rintro r w6 ⟨rfl, hk6, g6⟩; have xa6 := xa.grown g6 (show w.heap.size ≠ g by omega); have xs6 := xs1.grown g6 (show w.heap.size + 1 ≠ g by omega); have xr6 := xr.grown g6 (show w.heap.size + 3 ≠ g by omega); have gw6 := Bi (Bv b4 (some g)) g6; have TK2 := TKB w6 hk6 (hk.arr h gw6) (hk.arr h' gw6) g6; have TK2 := Be TK2; clear t0 t1 t2 t3 t4 t5 t6; obtain ⟨t1, t2, t3, t4, t5, t6, -⟩ := xs6.cell6; have t0 := xa6.cell 0; go_wp2_with fail; refine TK2.out.mono ?_; rintro r w7 ⟨rfl, hk7, g7⟩; have xr7 := (xr6.later (Ba (Bb _) _)).grown g7 (show w.heap.size + 3 ≠ g by omega); have gw7 := Bi (Bp gw6 (Ba (Bb _) (.cells #[.bool p, .slice A n c, .int .i64 e, .bool q, .slice A' n' c', .int .i64 f] 28))) g7; go_wp2_with (refine Bt rfl _ _ rfl rfl (w.heap.size + 3) false none 0 0 0 false none 0 0 0 xr7 rfl rfl (fun W1 y1 gW1 => ?_); have hk8 := hk7.other gW1 (show g ≠ w.heap.size + 3 by omega); obtain ⟨u0, u1, u2, u3, u4, u5, -⟩ := y1.cell6); refine bodyPost_ret (v := (.agg #[.bool false, .slice none 0 0, .int .i64 0, .bool false, .slice none 0 0, .int .i64 0])) ?_ rfl (Cl hk8 (Cd gw7 gW1 (by omega))); (simp [results, Tryz.results56, go_sem, u0, u1, u2, u3, u4, u5]))
  ·have d1 : decide (k > 262144) = false := decide_eq_false (by omega)
   have d1' : decide (262144 < k) = false := decide_eq_false (by omega)
   have d2 : decide (k < -262144) = true := decide_eq_true h1
   go_enter Tryz.func56, Tryz.ntmps56
   (go_wp2_with fail; refine FL.out.mono ?_; rintro r w6 ⟨rfl, hk6, g6⟩; have xa6 := xa.grown g6 (show w.heap.size ≠ g by omega); have xs6 := xs1.grown g6 (show w.heap.size + 1 ≠ g by omega); have xr6 := xr.grown g6 (show w.heap.size + 3 ≠ g by omega); have gw6 := Bi (Bv b4 (some g)) g6; have TK2 := TKB w6 hk6 (hk.arr h gw6) (hk.arr h' gw6) g6; have TK2 := Be TK2; clear t0 t1 t2 t3 t4 t5 t6; obtain ⟨t1, t2, t3, t4, t5, t6, -⟩ := xs6.cell6; have t0 := xa6.cell 0; go_wp2_with fail; refine TK2.out.mono ?_; rintro r w7 ⟨rfl, hk7, g7⟩; have xr7 := (xr6.later (Ba (Bb _) _)).grown g7 (show w.heap.size + 3 ≠ g by omega); have gw7 := Bi (Bp gw6 (Ba (Bb _) (.cells #[.bool p, .slice A n c, .int .i64 e, .bool q, .slice A' n' c', .int .i64 f] 28))) g7; go_wp2_with (refine Bt rfl _ _ rfl rfl (w.heap.size + 3) false none 0 0 0 false none 0 0 0 xr7 rfl rfl (fun W1 y1 gW1 => ?_); have hk8 := hk7.other gW1 (show g ≠ w.heap.size + 3 by omega); obtain ⟨u0, u1, u2, u3, u4, u5, -⟩ := y1.cell6); refine bodyPost_ret (v := (.agg #[.bool false, .slice none 0 0, .int .i64 0, .bool false, .slice none 0 0, .int .i64 0])) ?_ rfl (Cl hk8 (Cd gw7 gW1 (by omega))); (simp [results, Tryz.results56, go_sem, u0, u1, u2, u3, u4, u5]))
 ·have d1 : decide (k > 262144) = false := decide_eq_false (by omega)
  have d1' : decide (262144 < k) = false := decide_eq_false (by omega)
  have d2 : decide (k < -262144) = false := decide_eq_false (by omega)
  have hfb : Kh k = false := by unfold Kh; rw [d1', d2]; rfl
  rw [ho, hfb, Bool.or_false]
  have TK := TKA ((((w.alloc (.cells #[.pointer (some ⟨g, 0, none⟩)] 31)).alloc (.cells #[.bool p, .slice A n c, .int .i64 e, .bool q, .slice A' n' c', .int .i64 f] 28)).alloc (.cells #[.int .i64 k] 3)).alloc (.cells #[.bool false, .slice none 0 0, .int .i64 0, .bool false, .slice none 0 0, .int .i64 0] 28)) bad hk4 (h.below b4) (h'.below b4) hk4.lt
  rw [s4, Jr] at TK
  have hr : (bad || decide (P < 1) || decide (8192 < P) || !Cb p q xs ys e f) = false → Cb p q xs ys e f = true := by
   intro hh
   simp only [Bool.or_eq_false_iff, Bool.not_eq_false'] at hh
   exact hh.2
  generalize (bad || decide (P < 1) || decide (8192 < P) || !Cb p q xs ys e f) = tb at *
  have TK := Be TK
  have HR := Be hr
  clear ho hfb TKA hr
  cases tb
  ·obtain ⟨pl1, pl2⟩ := Hj (HR.out rfl)
   have v1 := (Bm h.wf pl1).1.lo
   have v2 := (Bm h.wf pl1).1.hi
   have v3 := (Bm h'.wf pl2).1.lo
   have v4 := (Bm h'.wf pl2).1.hi
   have v5 := (Bm h.wf pl1).2.1
   have v6 := (Bm h'.wf pl2).2.1
   simp only at v1 v2 v3 v4
   have ln := h.len
   have ln' := h'.len
   have ho : Fn false (mkD p (val xs) (e + k)) (mkD q (val ys) (f + k)) = Cr (!((mkD p (val xs) (e + k)).isSome && (mkD q (val ys) (f + k)).isSome)) (Ci (mkD p (val xs) (e + k))) (Ci (mkD q (val ys) (f + k))) := rfl
   rw [ho]
   have D1 := fun w' b (hw : Wk w' g P b tw) (h2 : Arr w' A n c xs) (hT2 : Tz w') (ha : Box w' w.heap.size #[.pointer (some ⟨g, 0, none⟩)] 31) (hu : Box w' (w.heap.size + 2) #[.int .i64 k] 3) => Xz p A n c xs e k P w.heap.size (w.heap.size + 2) g b w' h2 hT2 (by omega) (by omega) (by omega) (by omega) (by omega) hw _ _ ha hu (by omega) (by omega)
   have D2 := fun w' b (hw : Wk w' g P b tw) (h2 : Arr w' A' n' c' ys) (hT2 : Tz w') (ha : Box w' w.heap.size #[.pointer (some ⟨g, 0, none⟩)] 31) (hu : Box w' (w.heap.size + 2) #[.int .i64 k] 3) => Xz q A' n' c' ys f k P w.heap.size (w.heap.size + 2) g b w' h2 hT2 (by omega) (by omega) (by omega) (by omega) (by omega) hw _ _ ha hu (by omega) (by omega)
   unfold RetM at D1 D2
   clear ho pl1 pl2 HR s1 s2 s3 s4
   generalize (mkD p (val xs) (e + k)).isSome = k1 at *
   generalize (mkD q (val ys) (f + k)).isSome = k2 at *
   generalize Ci (mkD p (val xs) (e + k)) = E1 at *
   generalize Ci (mkD q (val ys) (f + k)) = E2 at *
   obtain ⟨s1, m1, f1⟩ := E1
   obtain ⟨s2, m2, f2⟩ := E2
   simp only at D1 D2
   have D1 := Be D1
   have D2 := Be D2
   go_enter Tryz.func56, Tryz.ntmps56
   go_wp2_with fail
   refine TK.out.mono ?_
   rintro r w7 ⟨rfl, hk7, g7⟩
   have bw := Ba (Bb ((((w.alloc (.cells #[.pointer (some ⟨g, 0, none⟩)] 31)).alloc (.cells #[.bool p, .slice A n c, .int .i64 e, .bool q, .slice A' n' c', .int .i64 f] 28)).alloc (.cells #[.int .i64 k] 3)).alloc (.cells #[.bool false, .slice none 0 0, .int .i64 0, .bool false, .slice none 0 0, .int .i64 0] 28))) (.cells #[.bool p, .slice A n c, .int .i64 e, .bool q, .slice A' n' c', .int .i64 f] 28)
   have xa7 := (xa.later bw).grown g7 (show w.heap.size ≠ g by omega)
   have xs7 := (xs1.later bw).grown g7 (show w.heap.size + 1 ≠ g by omega)
   have xk7 := (xk.later bw).grown g7 (show w.heap.size + 2 ≠ g by omega)
   have xr7 := (xr.later bw).grown g7 (show w.heap.size + 3 ≠ g by omega)
   have gw7 := Bi (Bv (Bc b4 bw) (some g)) g7
   have hA7 := hk.arr h gw7
   have hA7' := hk.arr h' gw7
   have hT7 := hk.tz hT gw7
   have R1 : ∀ w' b, Wk w' g P b tw → w7.grownBy w' (some g) → Calls Tryz.prog 91 #[.agg #[.bool p, .slice A n c, .int .i64 e], .pointer (some ⟨w.heap.size, 0, none⟩), .pointer (some ⟨w.heap.size + 2, 0, none⟩)] w' fun r w'' => ∃ B i j, r = .returned (.agg #[.bool s1, .slice B i j, .int .i64 f1]) ∧ Arr w'' B i j (wd m1) ∧ Wk w'' g P (b || !k1) tw ∧ w'.grownBy w'' (some g) ∧ w7.grownBy w'' (some g) := by
    intro w' b hw hG
    refine (D1.out w' b hw (hk7.arr hA7 hG) (hk7.tz hT7 hG) (xa7.grown hG (by omega)) (xk7.grown hG (by omega))).mono ?_
    rintro r w'' ⟨B, i, j, rfl, hB, hk2, hg2⟩
    exact ⟨B, i, j, rfl, hB, hk2, hg2, Bi hG hg2⟩
   have R2 : ∀ w' b, Wk w' g P b tw → w7.grownBy w' (some g) → Calls Tryz.prog 91 #[.agg #[.bool q, .slice A' n' c', .int .i64 f], .pointer (some ⟨w.heap.size, 0, none⟩), .pointer (some ⟨w.heap.size + 2, 0, none⟩)] w' fun r w'' => ∃ B i j, r = .returned (.agg #[.bool s2, .slice B i j, .int .i64 f2]) ∧ Arr w'' B i j (wd m2) ∧ Wk w'' g P (b || !k2) tw ∧ w'.grownBy w'' (some g) ∧ w7.grownBy w'' (some g) := by
    intro w' b hw hG
    refine (D2.out w' b hw (hk7.arr hA7' hG) (hk7.tz hT7 hG) (xa7.grown hG (by omega)) (xk7.grown hG (by omega))).mono ?_
    rintro r w'' ⟨B, i, j, rfl, hB, hk2, hg2⟩
    exact ⟨B, i, j, rfl, hB, hk2, hg2, Bi hG hg2⟩
   have GV : ∀ B1 x1 y1 B2 x2 y2 w' b, Wk w' g P b tw → Arr w' B1 x1 y1 (wd m1) → Arr w' B2 x2 y2 (wd m2) → w7.grownBy w' (some g) → Calls Tryz.prog 34 #[.pointer (some ⟨g, 0, none⟩), .agg #[.bool s1, .slice B1 x1 y1, .int .i64 f1], .agg #[.bool s2, .slice B2 x2 y2, .int .i64 f2]] w' fun r w'' => ∃ X u v Y k j, r = .returned (.agg #[.bool ((Cr b ⟨s1, m1, f1⟩ ⟨s2, m2, f2⟩).getD (Dy.zero, Dy.zero)).1.neg, .slice X u v, .int .i64 ((Cr b ⟨s1, m1, f1⟩ ⟨s2, m2, f2⟩).getD (Dy.zero, Dy.zero)).1.e, .bool ((Cr b ⟨s1, m1, f1⟩ ⟨s2, m2, f2⟩).getD (Dy.zero, Dy.zero)).2.neg, .slice Y k j, .int .i64 ((Cr b ⟨s1, m1, f1⟩ ⟨s2, m2, f2⟩).getD (Dy.zero, Dy.zero)).2.e]) ∧
     Arr w'' X u v (wd ((Cr b ⟨s1, m1, f1⟩ ⟨s2, m2, f2⟩).getD (Dy.zero, Dy.zero)).1.m) ∧ Arr w'' Y k j (wd ((Cr b ⟨s1, m1, f1⟩ ⟨s2, m2, f2⟩).getD (Dy.zero, Dy.zero)).2.m) ∧ Below w'.heap.size w' w'' ∧ w7.grownBy w'' (some g) := by
    intro B1 x1 y1 B2 x2 y2 w' b hk' ha hb hG
    refine (Yv g P b s1 s2 m1 f1 m2 f2 B1 B2 x1 y1 x2 y2 w' hk' ha hb).mono ?_
    rintro r w'' ⟨X, u, v, Y, k, j, rfl, hX, hY, hb2⟩
    exact ⟨X, u, v, Y, k, j, rfl, hX, hY, hb2, Bp hG hb2⟩
   have KC : ∀ w', w7.grownBy w' (some g) → (w'.cell? ⟨w.heap.size, 0, none⟩ = some (.pointer (some ⟨g, 0, none⟩)) ∧ w'.cell? ⟨w.heap.size + 1, 0, none⟩ = some (.bool p) ∧ w'.cell? ⟨w.heap.size + 1, 1, none⟩ = some (.slice A n c) ∧ w'.cell? ⟨w.heap.size + 1, 2, none⟩ = some (.int .i64 e) ∧ w'.cell? ⟨w.heap.size + 1, 3, none⟩ = some (.bool q) ∧ w'.cell? ⟨w.heap.size + 1, 4, none⟩ = some (.slice A' n' c') ∧ w'.cell? ⟨w.heap.size + 1, 5, none⟩ = some (.int .i64 f)) := by
    intro w' hG
    obtain ⟨z0, z1, z2, z3, z4, z5, -⟩ := (xs7.grown hG (show w.heap.size + 1 ≠ g by omega)).cell6
    exact ⟨(xa7.grown hG (show w.heap.size ≠ g by omega)).cell 0, z0, z1, z2, z3, z4, z5⟩
   have KC2 : ∀ w', w7.grownBy w' (some g) → ∀ p1 B n1 c1 e1 q1 B' n2 c2 f1 W2, W2 = Xu w' (w.heap.size + 3) p1 B n1 c1 e1 q1 B' n2 c2 f1 → (W2.cell? ⟨w.heap.size, 0, none⟩ = some (.pointer (some ⟨g, 0, none⟩)) ∧ W2.cell? ⟨w.heap.size + 1, 0, none⟩ = some (.bool p) ∧ W2.cell? ⟨w.heap.size + 1, 1, none⟩ = some (.slice A n c) ∧ W2.cell? ⟨w.heap.size + 1, 2, none⟩ = some (.int .i64 e) ∧ W2.cell? ⟨w.heap.size + 1, 3, none⟩ = some (.bool q) ∧ W2.cell? ⟨w.heap.size + 1, 4, none⟩ = some (.slice A' n' c') ∧ W2.cell? ⟨w.heap.size + 1, 5, none⟩ = some (.int .i64 f)) := by
    rintro w' hG p1 B n1 c1 e1 q1 B' n2 c2 f1 _ rfl
    have g6 := Gb w' (w.heap.size + 3) p1 B n1 c1 e1 q1 B' n2 c2 f1
    obtain ⟨z0, z1, z2, z3, z4, z5, -⟩ := ((xs7.grown hG (show w.heap.size + 1 ≠ g by omega)).grown g6 (show w.heap.size + 1 ≠ w.heap.size + 3 by omega)).cell6
    exact ⟨((xa7.grown hG (show w.heap.size ≠ g by omega)).grown g6 (show w.heap.size ≠ w.heap.size + 3 by omega)).cell 0, z0, z1, z2, z3, z4, z5⟩
   have XR := fun w' (hG : w7.grownBy w' (some g)) => (xr7.grown hG (show w.heap.size + 3 ≠ g by omega)).cell6
   have FIN := fun w' b X u v Y k j (h1 : Arr w' X u v (wd ((Cr b ⟨s1, m1, f1⟩ ⟨s2, m2, f2⟩).getD (Dy.zero, Dy.zero)).1.m)) (h2 : Arr w' Y k j (wd ((Cr b ⟨s1, m1, f1⟩ ⟨s2, m2, f2⟩).getD (Dy.zero, Dy.zero)).2.m)) (hk' : Wk w' g P b tw) (hG : w7.grownBy w' (some g)) => Qv (w := w) (o := Cr b ⟨s1, m1, f1⟩ ⟨s2, m2, f2⟩) (P := P) (tw := tw) h1 h2 (xr7.grown hG (show w.heap.size + 3 ≠ g by omega)) (by rw [Gx]; exact hk') (Bi gw7 hG) (show g ≠ w.heap.size + 3 by omega) (by omega)
   have hG : w7.grownBy w7 (some g) := Do _ _
   obtain ⟨j0, j1, j2, j3, j4, j5, j6⟩ := KC w7 hG
   have KC := Be KC
   have KC2 := Be KC2
   have XR := Be XR
   have FIN := Be FIN
   have R1 := Be R1
   have R2 := Be R2
   have GV := Be GV
   have hk0 := hk
   have hk := hk7
   clear t0 t1 t2 t3 t4 t5 t6 tk xa7 xs7 xk7 xr7 hA7 hA7' hT7 hk7 xa xs1 xk xr g7 gw7 b1 b2 b3 b4 hk0 h h' hT hk4 TK D1 D2 bw
   go_wp2_with fail
   go_region_held3 (fun w' => (w'.cell? ⟨w.heap.size, 0, none⟩ = some (.pointer (some ⟨g, 0, none⟩)) ∧ w'.cell? ⟨w.heap.size + 1, 0, none⟩ = some (.bool p) ∧ w'.cell? ⟨w.heap.size + 1, 1, none⟩ = some (.slice A n c) ∧ w'.cell? ⟨w.heap.size + 1, 2, none⟩ = some (.int .i64 e) ∧ w'.cell? ⟨w.heap.size + 1, 3, none⟩ = some (.bool q) ∧ w'.cell? ⟨w.heap.size + 1, 4, none⟩ = some (.slice A' n' c') ∧ w'.cell? ⟨w.heap.size + 1, 5, none⟩ = some (.int .i64 f))) (first | (refine KC.out _ ?_; ((first | with_reducible exact hG | with_reducible exact Ce hG)); done) | (refine KC2.out _ ?_ _ _ _ _ _ _ _ _ _ _ _ rfl; ((first | with_reducible exact hG | with_reducible exact Ce hG)); done) | go_keep) (first | (go_at_call_of 91 (Value.agg #[Value.bool p, Value.slice A n c, Value.int IntKind.i64 e]); refine ((R1).out _ _ (Wk.later hk ((by repeat with_reducible (first | assumption | exact Bb _ | refine Bd ?_ _ | apply Below.drew | refine Ba ?_ _)))) ?_).mono ?_; ((first | with_reducible exact hG | with_reducible exact Ce hG)); rintro r w3 ⟨B1, x1, y1, rfl, b1, hk3, hc, hG⟩; (try have b2 := Wk.arr (Wk.later hk ((by repeat with_reducible (first | assumption | exact Bb _ | refine Bd ?_ _ | apply Below.drew | refine Ba ?_ _)))) (Arr.below b2 ((by repeat with_reducible (first | assumption | exact Bb _ | refine Bd ?_ _ | apply Below.drew | refine Ba ?_ _)))) hc); have hk := hk3) | (go_at_call_of 91 (Value.agg #[Value.bool q, Value.slice A' n' c', Value.int IntKind.i64 f]); refine ((R2).out _ _ (Wk.later hk ((by repeat with_reducible (first | assumption | exact Bb _ | refine Bd ?_ _ | apply Below.drew | refine Ba ?_ _)))) ?_).mono ?_; ((first | with_reducible exact hG | with_reducible exact Ce hG)); rintro r w3 ⟨B2, x2, y2, rfl, b2, hk3, hc, hG⟩; (try have b1 := Wk.arr (Wk.later hk ((by repeat with_reducible (first | assumption | exact Bb _ | refine Bd ?_ _ | apply Below.drew | refine Ba ?_ _)))) (Arr.below b1 ((by repeat with_reducible (first | assumption | exact Bb _ | refine Bd ?_ _ | apply Below.drew | refine Ba ?_ _)))) hc); have hk := hk3) | (go_at_call 34; refine (GV.out _ _ _ _ _ _ _ _ (Wk.later hk ((by repeat with_reducible (first | assumption | exact Bb _ | refine Bd ?_ _ | apply Below.drew | refine Ba ?_ _)))) (Arr.below b1 ((by repeat with_reducible (first | assumption | exact Bb _ | refine Bd ?_ _ | apply Below.drew | refine Ba ?_ _)))) (Arr.below b2 ((by repeat with_reducible (first | assumption | exact Bb _ | refine Bd ?_ _ | apply Below.drew | refine Ba ?_ _)))) ?_).mono ?_; ((first | with_reducible exact hG | with_reducible exact Ce hG)); rintro r w5 ⟨X1, i1, j1, X2, i2, j2, rfl, e1, e2, hc, hG⟩; have hk := Wk.later (Wk.later hk ((by repeat with_reducible (first | assumption | exact Bb _ | refine Bd ?_ _ | apply Below.drew | refine Ba ?_ _)))) hc; obtain ⟨u0, u1, u2, u3, u4, u5, u6⟩ := XR.out _ hG))
   all_goals
    cases k1 <;> cases k2
    all_goals
     go_wp2_with fail
     refine bodyPost_ret (v := _) ?_ rfl (FIN.out _ _ _ _ _ _ _ _ e1 e2 hk hG)
     simp [results, Tryz.results56, go_sem, u0, u1, u2, u3, u4, u5]
     try rfl
     try simp [Cr]
  ·have h2 : Fn true (mkD p (val xs) (e + k)) (mkD q (val ys) (f + k)) = none := rfl
   rw [h2]
   clear s1 s2 s3
   go_enter Tryz.func56, Tryz.ntmps56
   go_wp2_with fail
   refine TK.out.mono ?_
   rintro r w7 ⟨rfl, hk7, g7⟩
   have bw := Ba (Bb ((((w.alloc (.cells #[.pointer (some ⟨g, 0, none⟩)] 31)).alloc (.cells #[.bool p, .slice A n c, .int .i64 e, .bool q, .slice A' n' c', .int .i64 f] 28)).alloc (.cells #[.int .i64 k] 3)).alloc (.cells #[.bool false, .slice none 0 0, .int .i64 0, .bool false, .slice none 0 0, .int .i64 0] 28))) (.cells #[.bool p, .slice A n c, .int .i64 e, .bool q, .slice A' n' c', .int .i64 f] 28)
   have xr7 := (xr.later bw).grown g7 (show w.heap.size + 3 ≠ g by omega)
   have gw7 := Bi (Bv (Bc b4 bw) (some g)) g7
   go_wp2_with (refine Bt rfl _ _ rfl rfl (w.heap.size + 3) false none 0 0 0 false none 0 0 0 xr7 rfl rfl (fun W1 y1 gW1 => ?_); have hk8 := hk7.other gW1 (show g ≠ w.heap.size + 3 by omega); obtain ⟨u0, u1, u2, u3, u4, u5, -⟩ := y1.cell6)
   refine bodyPost_ret (v := (.agg #[.bool false, .slice none 0 0, .int .i64 0, .bool false, .slice none 0 0, .int .i64 0])) ?_ rfl (Cl hk8 (Cd gw7 gW1 (by omega)))
   simp [results, Tryz.results56, go_sem, u0, u1, u2, u3, u4, u5]
theorem Ze {p : Bool} {xs : List Int} {e : Int} (h : Bq p xs e = true) : xs.length ≤ 256 := by
 unfold Bq at h
 by_cases h0 : xs.length = 0
 ·omega
 ·rw [if_neg h0] at h
  simp only [Bool.and_eq_true, decide_eq_true_eq] at h
  exact h.1.1.2
theorem Xt (g : Nat) (P : Int) (bad : Bool) (p : Bool) (A : Option Addr) (n c : Nat) (xs : List Int) (e : Int) (w : World) (hk : Wk w g P bad 38) (h : Arr w A n c xs) (hn : n ≤ 1000000) :
  Calls Tryz.prog 71 #[.pointer (some ⟨g, 0, none⟩), .agg #[.bool p, .slice A n c, .int .i64 e]] w (Dx (Ky bad P p xs e) g P 38 w) := by
 have b1 := Ba (Bb w) (.cells #[.bool p, .slice A n c, .int .i64 e] 26)
 have b2 : Below w.heap.size w ((w.alloc (.cells #[.bool p, .slice A n c, .int .i64 e] 26)).alloc (.cells #[.bool false, .slice none 0 0, .int .i64 0, .bool false, .slice none 0 0, .int .i64 0] 28)) := Ba b1 _
 have b3 : Below w.heap.size w (((w.alloc (.cells #[.bool p, .slice A n c, .int .i64 e] 26)).alloc (.cells #[.bool false, .slice none 0 0, .int .i64 0, .bool false, .slice none 0 0, .int .i64 0] 28)).alloc (.cells #[.bool p, .slice A n c, .int .i64 e, .bool p, .slice A n c, .int .i64 e] 28)) := Ba b2 _
 have xa := (Bg w #[.bool p, .slice A n c, .int .i64 e] 26).later (Ba (Ba (Bb _) (.cells #[.bool false, .slice none 0 0, .int .i64 0, .bool false, .slice none 0 0, .int .i64 0] 28)) (.cells #[.bool p, .slice A n c, .int .i64 e, .bool p, .slice A n c, .int .i64 e] 28))
 have xr := (Bg (w.alloc (.cells #[.bool p, .slice A n c, .int .i64 e] 26)) #[.bool false, .slice none 0 0, .int .i64 0, .bool false, .slice none 0 0, .int .i64 0] 28).later (Ba (Bb _) (.cells #[.bool p, .slice A n c, .int .i64 e, .bool p, .slice A n c, .int .i64 e] 28))
 rw [show (w.alloc (.cells #[.bool p, .slice A n c, .int .i64 e] 26)).heap.size = w.heap.size + 1 by simp] at xr
 have xs1 := Bg ((w.alloc (.cells #[.bool p, .slice A n c, .int .i64 e] 26)).alloc (.cells #[.bool false, .slice none 0 0, .int .i64 0, .bool false, .slice none 0 0, .int .i64 0] 28)) #[.bool p, .slice A n c, .int .i64 e, .bool p, .slice A n c, .int .i64 e] 28
 rw [show ((w.alloc (.cells #[.bool p, .slice A n c, .int .i64 e] 26)).alloc (.cells #[.bool false, .slice none 0 0, .int .i64 0, .bool false, .slice none 0 0, .int .i64 0] 28)).heap.size = w.heap.size + 1 + 1 by simp] at xs1
 have hk3 := hk.later b3
 have hg := hk.lt
 have h3 := h.below b3
 have TK := Hk g (w.heap.size + 1 + 1) 1 P bad [⟨p, A, n, c, xs, e, p, A, n, c, xs, e⟩] rfl _ hk3 (Ja xs1 h3 h3) (by omega) (by decide) (fun s hs => by
  obtain rfl := List.mem_singleton.1 hs
  exact ⟨hn, hn⟩)
 have hl : Bx bad P [⟨p, A, n, c, xs, e, p, A, n, c, xs, e⟩] = (bad || decide (P < 1) || decide (8192 < P) || !Bq p xs e) := by
  unfold Bx SVal.right
  simp [Uf]
 rw [hl] at TK
 have ho : Ky bad P p xs e = if bad || decide (P < 1) || decide (8192 < P) || !Bq p xs e then none else some (⟨p, val xs, e⟩, ⟨p, val xs, e⟩) := rfl
 rw [ho]
 have hw : (bad || decide (P < 1) || decide (8192 < P) || !Bq p xs e) = false → wd (val xs) = xs := fun hh => by
  simp only [Bool.or_eq_false_iff, Bool.not_eq_false'] at hh
  exact (Bm h.wf hh.2).2.2.1
 obtain ⟨k0, k1, k2, f0, f1, f2⟩ := (Bg w #[.bool p, .slice A n c, .int .i64 e] 26).later (Ba (Bb _) (.cells #[.bool false, .slice none 0 0, .int .i64 0, .bool false, .slice none 0 0, .int .i64 0] 28)) |>.cell3
 have TK := Be TK
 clear hl ho
 generalize (bad || decide (P < 1) || decide (8192 < P) || !Bq p xs e) = bb at *
 have HW := Be hw
 clear hw
 cases bb
 ·go_enter Tryz.func71, Tryz.ntmps71
  go_wp2_with fail
  refine TK.out.mono ?_
  rintro r w5 ⟨rfl, hk5, g5⟩
  have xa5 := xa.grown g5 (show w.heap.size ≠ g by omega)
  have xr5 := xr.grown g5 (show w.heap.size + 1 ≠ g by omega)
  have h5 := hk3.arr h3 g5
  have gw := Bi (Bv b3 (some g)) g5
  clear k0 k1 k2 f0 f1 f2
  obtain ⟨k0, k1, k2, f0, f1, f2⟩ := xa5.cell3
  go_wp2_with (refine Bt rfl _ _ rfl rfl (w.heap.size + 1) p A n c e p A n c e xr5 rfl rfl (fun W1 y1 gW1 => ?_); have hk6 := hk5.other gW1 (show g ≠ w.heap.size + 1 by omega); have h6 := h5.grown xr5 (no6 (by simp) (by simp) (by simp) (by simp) (by simp) (by simp)) gW1; obtain ⟨u0, u1, u2, u3, u4, u5, -⟩ := y1.cell6)
  refine bodyPost_ret (v := .agg #[.bool p, .slice A n c, .int .i64 e, .bool p, .slice A n c, .int .i64 e]) ?_ rfl ⟨A, n, c, A, n, c, rfl, ?_, ?_, hk6, ?_⟩
  ·simp [results, Tryz.results71, go_sem, u0, u1, u2, u3, u4, u5]
  ·show Arr W1 A n c (wd (val xs)); rw [HW.out trivial]; exact h6
  ·show Arr W1 A n c (wd (val xs)); rw [HW.out trivial]; exact h6
  ·exact ⟨gW1.os.trans gw.os, gW1.tape.trans gw.tape, gW1.output.trans gw.output, Nat.le_trans gw.size gW1.size, fun k hk' hne => (gW1.block k (Nat.lt_of_lt_of_le hk' gw.size) (by simp; omega)).trans (gw.block k hk' hne)⟩
 ·go_enter Tryz.func71, Tryz.ntmps71
  go_wp2_with fail
  refine TK.out.mono ?_
  rintro r w5 ⟨rfl, hk5, g5⟩
  have xr5 := xr.grown g5 (show w.heap.size + 1 ≠ g by omega)
  have gw := Bi (Bv b3 (some g)) g5
  go_wp2_with (refine Bt rfl _ _ rfl rfl (w.heap.size + 1) false none 0 0 0 false none 0 0 0 xr5 rfl rfl (fun W1 y1 gW1 => ?_); have hk6 := hk5.other gW1 (show g ≠ w.heap.size + 1 by omega); obtain ⟨u0, u1, u2, u3, u4, u5, -⟩ := y1.cell6)
  refine bodyPost_ret (v := .agg #[.bool false, .slice none 0 0, .int .i64 0, .bool false, .slice none 0 0, .int .i64 0]) ?_ rfl (Cl hk6 ?_)
  ·simp [results, Tryz.results71, go_sem, u0, u1, u2, u3, u4, u5]
  ·exact ⟨gW1.os.trans gw.os, gW1.tape.trans gw.tape, gW1.output.trans gw.output, Nat.le_trans gw.size gW1.size, fun k hk' hne => (gW1.block k (Nat.lt_of_lt_of_le hk' gw.size) (by simp; omega)).trans (gw.block k hk' hne)⟩
theorem Bj7 (g : Nat) (P : Int) (bad : Bool) (n : Int) (w : World) (hk : Wk w g P bad 38) (h0 : -9223372036854775808 ≤ n) (h1 : n ≤ 9223372036854775807) :
  Calls Tryz.prog 30 #[.pointer (some ⟨g, 0, none⟩), .int .i64 n] w (Dx (Tx bad P n) g P 38 w) := by
 have hm := Ww h0 h1
 have hpl := Mx (by split <;> omega) hm
 have hD : Ca n 0 = ⟨(Ca n 0).neg, (Ca n 0).m, (Ca n 0).e⟩ := rfl
 have hlen : (wd (Ca n 0).m).length ≤ 1000000 := by have := Ze hpl.1; omega
 have ho : Ky bad P (Ca n 0).neg (wd (Ca n 0).m) (Ca n 0).e = Tx bad P n := by
  unfold Ky Tx Yk
  rw [hpl.1, val_wd _ hpl.2]
  simp
 have hg := hk.lt
 obtain ⟨m0, hm0⟩ : ∃ m0, m0 = if n < 0 then -n else n := ⟨_, rfl⟩
 rw [← hm0] at hm
 have b1 : Below w.heap.size w (w.alloc (.cells #[.bool false, .slice none 0 0, .int .i64 0, .bool false, .slice none 0 0, .int .i64 0] 28)) := Ba (Bb w) _
 have b2 : Below w.heap.size w ((w.alloc (.cells #[.bool false, .slice none 0 0, .int .i64 0, .bool false, .slice none 0 0, .int .i64 0] 28)).alloc (.cells #[.int .u64 m0] 51)) := Ba b1 _
 have xr := (Bg w #[.bool false, .slice none 0 0, .int .i64 0, .bool false, .slice none 0 0, .int .i64 0] 28).later (Ba (Bb _) (.cells #[.int .u64 m0] 51))
 have hu := Db (w := w.alloc (.cells #[.bool false, .slice none 0 0, .int .i64 0, .bool false, .slice none 0 0, .int .i64 0] 28)) (g := w.heap.size + 1) (by simp) m0 (by rw [hm0]; split <;> omega) (by rw [hm0]; split <;> omega)
 have MK := La (decide (n < 0)) _ 1 1 [m0] 0 _ hu (by decide) (by decide) (by decide)
 rw [Ds, hm] at MK
 generalize Tx bad P n = o at *
 generalize Ca n 0 = d at *
 obtain ⟨s, m, f⟩ := d
 simp only at ho
 have HO := Be ho
 have HL := Be hlen
 clear hD hpl hm ho hlen
 by_cases hn : n < 0
 ·have d0 : decide (n < 0) = true := decide_eq_true hn
  rw [d0] at MK
  have MK := Be MK
  rw [if_pos hn] at hm0
  have e1 : -n = m0 := hm0.symm
  have c1 : IntKind.u64.wrap n = n + 18446744073709551616 := by rw [IntKind.wrap_u64]; omega
  have c2 : IntKind.u64.wrap (-(n + 18446744073709551616)) = m0 := by rw [IntKind.wrap_u64]; omega
  have c3 : IntKind.u64.wrap (-n) = m0 := by rw [IntKind.wrap_u64]; omega
  clear hm0 e1
  (go_enter Tryz.func30, Tryz.ntmps30; go_wp2_with fail; refine MK.out.mono ?_; rintro r w4 hr; obtain ⟨A4, n4, c4, rfl, h4, hb4⟩ := Cx hr; clear hr; have b5 := Ba hb4 (.cells #[.bool s, .slice A4 n4 c4, .int .i64 f] 26); have h5 := h4.below (Ba (Bb w4) (.cells #[.bool s, .slice A4 n4 c4, .int .i64 f] 26)); have x5 := Bg w4 #[.bool s, .slice A4 n4 c4, .int .i64 f] 26; have bb5 := Bc b2 b5; have hk5 := hk.later bb5; have xr5 := xr.later b5; obtain ⟨k0, k1, k2, f0, f1, f2⟩ := x5.cell3; have PT := Xt g P bad s A4 n4 c4 (wd m) f _ hk5 h5 (by rw [← h5.len]; exact HL.out); rw [HO.out] at PT; have PT := Be PT; go_wp2_with fail; refine PT.out.mono ?_; rintro r w6 ⟨A6, n6, c6, A7, n7, c7, rfl, h6, h7, hk6, g6⟩; have xr6 := xr5.grown g6 (show w.heap.size ≠ g by omega); have gw := Bi (Bv bb5 (some g)) g6; clear PT k0 k1 k2 f0 f1 f2; go_wp2_with (refine Bt rfl _ _ rfl rfl w.heap.size _ A6 n6 c6 _ _ A7 n7 c7 _ xr6 rfl rfl (fun W1 y1 gW1 => ?_); have hk7 := hk6.other gW1 (show g ≠ w.heap.size by omega); have h8 := h6.grown xr6 (no6 (by simp) (by simp) (by simp) (by simp) (by simp) (by simp)) gW1; have h9 := h7.grown xr6 (no6 (by simp) (by simp) (by simp) (by simp) (by simp) (by simp)) gW1; obtain ⟨u0, u1, u2, u3, u4, u5, -⟩ := y1.cell6); refine bodyPost_ret (v := _) ?_ rfl ⟨A6, n6, c6, A7, n7, c7, rfl, h8, h9, hk7, ?_⟩; (simp [results, Tryz.results30, go_sem, u0, u1, u2, u3, u4, u5]); (exact Cd gw gW1 (Nat.le_refl _)))
 ·have d0 : decide (n < 0) = false := decide_eq_false hn
  rw [d0] at MK
  rw [if_neg hn] at hm0
  subst hm0
  have MK := Be MK
  have c1 : IntKind.u64.wrap m0 = m0 := by rw [IntKind.wrap_u64]; omega
  (go_enter Tryz.func30, Tryz.ntmps30; go_wp2_with fail; refine MK.out.mono ?_; rintro r w4 hr; obtain ⟨A4, n4, c4, rfl, h4, hb4⟩ := Cx hr; clear hr; have b5 := Ba hb4 (.cells #[.bool s, .slice A4 n4 c4, .int .i64 f] 26); have h5 := h4.below (Ba (Bb w4) (.cells #[.bool s, .slice A4 n4 c4, .int .i64 f] 26)); have x5 := Bg w4 #[.bool s, .slice A4 n4 c4, .int .i64 f] 26; have bb5 := Bc b2 b5; have hk5 := hk.later bb5; have xr5 := xr.later b5; obtain ⟨k0, k1, k2, f0, f1, f2⟩ := x5.cell3; have PT := Xt g P bad s A4 n4 c4 (wd m) f _ hk5 h5 (by rw [← h5.len]; exact HL.out); rw [HO.out] at PT; have PT := Be PT; go_wp2_with fail; refine PT.out.mono ?_; rintro r w6 ⟨A6, n6, c6, A7, n7, c7, rfl, h6, h7, hk6, g6⟩; have xr6 := xr5.grown g6 (show w.heap.size ≠ g by omega); have gw := Bi (Bv bb5 (some g)) g6; clear PT k0 k1 k2 f0 f1 f2; go_wp2_with (refine Bt rfl _ _ rfl rfl w.heap.size _ A6 n6 c6 _ _ A7 n7 c7 _ xr6 rfl rfl (fun W1 y1 gW1 => ?_); have hk7 := hk6.other gW1 (show g ≠ w.heap.size by omega); have h8 := h6.grown xr6 (no6 (by simp) (by simp) (by simp) (by simp) (by simp) (by simp)) gW1; have h9 := h7.grown xr6 (no6 (by simp) (by simp) (by simp) (by simp) (by simp) (by simp)) gW1; obtain ⟨u0, u1, u2, u3, u4, u5, -⟩ := y1.cell6); refine bodyPost_ret (v := _) ?_ rfl ⟨A6, n6, c6, A7, n7, c7, rfl, h8, h9, hk7, ?_⟩; (simp [results, Tryz.results30, go_sem, u0, u1, u2, u3, u4, u5]); (exact Cd gw gW1 (Nat.le_refl _)))
theorem Beg (p q : Bool) (A A' : Option Addr) (n c n' c' : Nat) (xs ys : List Int) (e f k P : Int) (g : Nat) (bad : Bool) (w : World) (h : Arr w A n c xs) (h' : Arr w A' n' c' ys) (hk : Wk w g P bad 38) (hn : n ≤ 100000) (hn' : n' ≤ 100000) :
  Calls Tryz.prog 126 #[.pointer (some ⟨g, 0, none⟩), (.agg #[.bool p, .slice A n c, .int .i64 e, .bool q, .slice A' n' c', .int .i64 f]), .int .i64 k] w (Dx (Qw bad P p q xs ys e f k) g P 38 w) := by
 have hg := hk.lt
 have b1 := Ba (Bb w) (.cells #[.bool p, .slice A n c, .int .i64 e, .bool q, .slice A' n' c', .int .i64 f] 28)
 have b2 : Below w.heap.size w ((w.alloc (.cells #[.bool p, .slice A n c, .int .i64 e, .bool q, .slice A' n' c', .int .i64 f] 28)).alloc (.cells #[.bool false, .slice none 0 0, .int .i64 0, .bool false, .slice none 0 0, .int .i64 0] 28)) := Ba b1 (.cells #[.bool false, .slice none 0 0, .int .i64 0, .bool false, .slice none 0 0, .int .i64 0] 28)
 have xa := (Bg w #[.bool p, .slice A n c, .int .i64 e, .bool q, .slice A' n' c', .int .i64 f] 28).later (Ba (Bb _) (.cells #[.bool false, .slice none 0 0, .int .i64 0, .bool false, .slice none 0 0, .int .i64 0] 28))
 have xr := Bg (w.alloc (.cells #[.bool p, .slice A n c, .int .i64 e, .bool q, .slice A' n' c', .int .i64 f] 28)) #[.bool false, .slice none 0 0, .int .i64 0, .bool false, .slice none 0 0, .int .i64 0] 28
 rw [show (w.alloc (.cells #[.bool p, .slice A n c, .int .i64 e, .bool q, .slice A' n' c', .int .i64 f] 28)).heap.size = w.heap.size + 1 by simp] at xr
 have hk2 := hk.later b2
 obtain ⟨c0, c1, fz0, fz1⟩ := hk2.cells
 have s2 : ((w.alloc (.cells #[.bool p, .slice A n c, .int .i64 e, .bool q, .slice A' n' c', .int .i64 f] 28)).alloc (.cells #[.bool false, .slice none 0 0, .int .i64 0, .bool false, .slice none 0 0, .int .i64 0] 28)).heap.size = w.heap.size + 2 := by simp
 have TKA : ∀ w' b, Wk w' g P b 38 → Arr w' A n c xs → Arr w' A' n' c' ys → g < w'.heap.size → Calls Tryz.prog 36 #[.pointer (some ⟨g, 0, none⟩), .slice (some ⟨w'.heap.size, 0, none⟩) 1 1] (w'.alloc (.cells #[.bool p, .slice A n c, .int .i64 e, .bool q, .slice A' n' c', .int .i64 f] 28)) fun r w'' => r = .returned (.bool (!Bx b P [(⟨p, A, n, c, xs, e, q, A', n', c', ys, f⟩ : SVal)])) ∧ Wk w'' g P (Bx b P [(⟨p, A, n, c, xs, e, q, A', n', c', ys, f⟩ : SVal)]) 38 ∧ (w'.alloc (.cells #[.bool p, .slice A n c, .int .i64 e, .bool q, .slice A' n' c', .int .i64 f] 28)).grownBy w'' (some g) := by
  intro w' b hw h1 h2 hlt
  have bb := Ba (Bb w') (.cells #[.bool p, .slice A n c, .int .i64 e, .bool q, .slice A' n' c', .int .i64 f] 28)
  exact Hk g w'.heap.size 1 P b [(⟨p, A, n, c, xs, e, q, A', n', c', ys, f⟩ : SVal)] rfl _ (hw.later bb) (Ja (Bg w' #[.bool p, .slice A n c, .int .i64 e, .bool q, .slice A' n' c', .int .i64 f] 28) (h1.below bb) (h2.below bb)) (by omega) (by decide) (fun s hs => by
   obtain rfl := List.mem_singleton.1 hs
   exact ⟨by show n ≤ 1000000; omega, by show n' ≤ 1000000; omega⟩)
 have ho : Qw bad P p q xs ys e f k = Fn (bad || decide (P < 1) || decide (8192 < P) || !Cb p q xs ys e f || Kh k) (mkD p (val xs) (e + k)) (mkD q (val ys) (f + k)) := rfl
 by_cases hf : 262144 < k ∨ k < -262144
 ·have hfb : Kh k = true := by unfold Kh; rcases hf with h1 | h1 <;> simp [h1]
  rw [ho, hfb, Bool.or_true]
  have h2 : Fn true (mkD p (val xs) (e + k)) (mkD q (val ys) (f + k)) = none := rfl
  rw [h2]
  have eG : (w.setCell ⟨g, 1, none⟩ (.bool true)).heap.size = w.heap.size := by simp
  have bS : Below (w.setCell ⟨g, 1, none⟩ (.bool true)).heap.size (w.setCell ⟨g, 1, none⟩ (.bool true)) (((w.setCell ⟨g, 1, none⟩ (.bool true)).alloc (.cells #[.bool p, .slice A n c, .int .i64 e, .bool q, .slice A' n' c', .int .i64 f] 28)).alloc (.cells #[.bool false, .slice none 0 0, .int .i64 0, .bool false, .slice none 0 0, .int .i64 0] 28)) := Ba (Ba (Bb _) _) _
  have hkS : Wk (((w.setCell ⟨g, 1, none⟩ (.bool true)).alloc (.cells #[.bool p, .slice A n c, .int .i64 e, .bool q, .slice A' n' c', .int .i64 f] 28)).alloc (.cells #[.bool false, .slice none 0 0, .int .i64 0, .bool false, .slice none 0 0, .int .i64 0] 28)) g P true 38 := (hk.set true).later bS
  have gS : w.grownBy (((w.setCell ⟨g, 1, none⟩ (.bool true)).alloc (.cells #[.bool p, .slice A n c, .int .i64 e, .bool q, .slice A' n' c', .int .i64 f] 28)).alloc (.cells #[.bool false, .slice none 0 0, .int .i64 0, .bool false, .slice none 0 0, .int .i64 0] 28)) (some g) := Bp (Br w g 1 _) bS
  have xaS := (Bg (w.setCell ⟨g, 1, none⟩ (.bool true)) #[.bool p, .slice A n c, .int .i64 e, .bool q, .slice A' n' c', .int .i64 f] 28).later (Ba (Bb _) (.cells #[.bool false, .slice none 0 0, .int .i64 0, .bool false, .slice none 0 0, .int .i64 0] 28))
  have xrS := Bg ((w.setCell ⟨g, 1, none⟩ (.bool true)).alloc (.cells #[.bool p, .slice A n c, .int .i64 e, .bool q, .slice A' n' c', .int .i64 f] 28)) #[.bool false, .slice none 0 0, .int .i64 0, .bool false, .slice none 0 0, .int .i64 0] 28
  rw [show ((w.setCell ⟨g, 1, none⟩ (.bool true)).alloc (.cells #[.bool p, .slice A n c, .int .i64 e, .bool q, .slice A' n' c', .int .i64 f] 28)).heap.size = w.heap.size + 1 by simp] at xrS
  rw [eG] at xaS
  have TKB := TKA (((w.setCell ⟨g, 1, none⟩ (.bool true)).alloc (.cells #[.bool p, .slice A n c, .int .i64 e, .bool q, .slice A' n' c', .int .i64 f] 28)).alloc (.cells #[.bool false, .slice none 0 0, .int .i64 0, .bool false, .slice none 0 0, .int .i64 0] 28)) true hkS (hk.arr h gS) (hk.arr h' gS) hkS.lt
  rw [Lq] at TKB
  rw [show (((w.setCell ⟨g, 1, none⟩ (.bool true)).alloc (.cells #[.bool p, .slice A n c, .int .i64 e, .bool q, .slice A' n' c', .int .i64 f] 28)).alloc (.cells #[.bool false, .slice none 0 0, .int .i64 0, .bool false, .slice none 0 0, .int .i64 0] 28)).heap.size = w.heap.size + 2 by simp] at TKB
  have xrB := xrS.later (Ba (Bb _) (.cells #[.bool p, .slice A n c, .int .i64 e, .bool q, .slice A' n' c', .int .i64 f] 28))
  have gB := Bp gS (Ba (Bb _) (.cells #[.bool p, .slice A n c, .int .i64 e, .bool q, .slice A' n' c', .int .i64 f] 28))
  obtain ⟨t0, t1, t2, t3, t4, t5, -⟩ := xaS.cell6
  have TKB := Be TKB
  clear ho hfb h2 TKA xa xr hk2 hkS gS xaS xrS bS eG
  rcases hf with h1 | h1
  ·have d1 : decide (k > 262144) = true := decide_eq_true h1
   have d1' : decide (262144 < k) = true := decide_eq_true h1
   (go_enter Tryz.func126, Tryz.ntmps126; go_wp2_with fail; refine TKB.out.mono ?_; rintro r w7 ⟨rfl, hk7, g7⟩; have xr7 := xrB.grown g7 (show w.heap.size + 1 ≠ g by omega); have gw7 := Bi gB g7; go_wp2_with (refine Bt rfl _ _ rfl rfl (w.heap.size + 1) false none 0 0 0 false none 0 0 0 xr7 rfl rfl (fun W1 y1 gW1 => ?_); have hk8 := hk7.other gW1 (show g ≠ w.heap.size + 1 by omega); obtain ⟨u0, u1, u2, u3, u4, u5, -⟩ := y1.cell6); refine bodyPost_ret (v := (.agg #[.bool false, .slice none 0 0, .int .i64 0, .bool false, .slice none 0 0, .int .i64 0])) ?_ rfl (Cl hk8 (Cd gw7 gW1 (by omega))); (simp [results, Tryz.results126, go_sem, u0, u1, u2, u3, u4, u5]))
  ·have d1 : decide (k > 262144) = false := decide_eq_false (by omega)
   have d1' : decide (262144 < k) = false := decide_eq_false (by omega)
   have d2 : decide (k < -262144) = true := decide_eq_true h1
   (go_enter Tryz.func126, Tryz.ntmps126; go_wp2_with fail; refine TKB.out.mono ?_; rintro r w7 ⟨rfl, hk7, g7⟩; have xr7 := xrB.grown g7 (show w.heap.size + 1 ≠ g by omega); have gw7 := Bi gB g7; go_wp2_with (refine Bt rfl _ _ rfl rfl (w.heap.size + 1) false none 0 0 0 false none 0 0 0 xr7 rfl rfl (fun W1 y1 gW1 => ?_); have hk8 := hk7.other gW1 (show g ≠ w.heap.size + 1 by omega); obtain ⟨u0, u1, u2, u3, u4, u5, -⟩ := y1.cell6); refine bodyPost_ret (v := (.agg #[.bool false, .slice none 0 0, .int .i64 0, .bool false, .slice none 0 0, .int .i64 0])) ?_ rfl (Cl hk8 (Cd gw7 gW1 (by omega))); (simp [results, Tryz.results126, go_sem, u0, u1, u2, u3, u4, u5]))
 ·have d1 : decide (k > 262144) = false := decide_eq_false (by omega)
  have d1' : decide (262144 < k) = false := decide_eq_false (by omega)
  have d2 : decide (k < -262144) = false := decide_eq_false (by omega)
  have hfb : Kh k = false := by unfold Kh; rw [d1', d2]; rfl
  rw [ho, hfb, Bool.or_false]
  have TK := TKA ((w.alloc (.cells #[.bool p, .slice A n c, .int .i64 e, .bool q, .slice A' n' c', .int .i64 f] 28)).alloc (.cells #[.bool false, .slice none 0 0, .int .i64 0, .bool false, .slice none 0 0, .int .i64 0] 28)) bad hk2 (h.below b2) (h'.below b2) hk2.lt
  rw [s2, Jr] at TK
  have hr : (bad || decide (P < 1) || decide (8192 < P) || !Cb p q xs ys e f) = false → Cb p q xs ys e f = true := by
   intro hh
   simp only [Bool.or_eq_false_iff, Bool.not_eq_false'] at hh
   exact hh.2
  generalize (bad || decide (P < 1) || decide (8192 < P) || !Cb p q xs ys e f) = tb at *
  have TK := Be TK
  have HR := Be hr
  obtain ⟨t0, t1, t2, t3, t4, t5, -⟩ := xa.cell6
  have b3 := Ba b2 (.cells #[.bool p, .slice A n c, .int .i64 e, .bool q, .slice A' n' c', .int .i64 f] 28)
  have xa3 := xa.later (Ba (Bb _) (.cells #[.bool p, .slice A n c, .int .i64 e, .bool q, .slice A' n' c', .int .i64 f] 28))
  have xr3 := xr.later (Ba (Bb _) (.cells #[.bool p, .slice A n c, .int .i64 e, .bool q, .slice A' n' c', .int .i64 f] 28))
  clear ho hfb TKA hr s2
  cases tb
  ·obtain ⟨pl1, pl2⟩ := Hj (HR.out rfl)
   have v1 := (Bm h.wf pl1).1.lo
   have v2 := (Bm h.wf pl1).1.hi
   have v3 := (Bm h'.wf pl2).1.lo
   have v4 := (Bm h'.wf pl2).1.hi
   simp only at v1 v2 v3 v4
   have k0 : -262144 ≤ k := by omega
   have k1 : k ≤ 262144 := by omega
   have ho : Fn false (mkD p (val xs) (e + k)) (mkD q (val ys) (f + k)) = Cr (!((mkD p (val xs) (e + k)).isSome && (mkD q (val ys) (f + k)).isSome)) (Ci (mkD p (val xs) (e + k))) (Ci (mkD q (val ys) (f + k))) := rfl
   rw [ho]
   have D1 := fun w' (h2 : Arr w' A n c xs) => La p A n c xs (e + k) w' h2 (by omega) (by omega) (by omega)
   have D2 := fun w' (h2 : Arr w' A' n' c' ys) => La q A' n' c' ys (f + k) w' h2 (by omega) (by omega) (by omega)
   unfold He at D1 D2
   clear ho pl1 pl2 HR
   generalize (mkD p (val xs) (e + k)).isSome = k1' at *
   generalize (mkD q (val ys) (f + k)).isSome = k2' at *
   generalize Ci (mkD p (val xs) (e + k)) = E1 at *
   generalize Ci (mkD q (val ys) (f + k)) = E2 at *
   obtain ⟨s1, m1, f1⟩ := E1
   obtain ⟨s2, m2, f2⟩ := E2
   simp only at D1 D2
   have D1 := Be D1
   have D2 := Be D2
   go_enter Tryz.func126, Tryz.ntmps126
   go_wp2_with fail
   refine TK.out.mono ?_
   rintro r w7 ⟨rfl, hk7, g7⟩
   have xa7 := xa3.grown g7 (show w.heap.size ≠ g by omega)
   have xr7 := xr3.grown g7 (show w.heap.size + 1 ≠ g by omega)
   have gw7 := Bi (Bv b3 (some g)) g7
   have hA7 := hk.arr h gw7
   have hA7' := hk.arr h' gw7
   clear t0 t1 t2 t3 t4 t5 c0 c1 fz0 fz1
   obtain ⟨j0, j1, j2, j3, j4, j5, -⟩ := xa7.cell6
   go_wp2_with fail
   refine (D1.out w7 hA7).mono ?_
   rintro r w8 ⟨A1, n1, c1, rfl, a1, hb1⟩
   have xa8 := xa7.later hb1
   obtain ⟨j0, j1, j2, j3, j4, j5, -⟩ := xa8.cell6
   have y0 := fun o => (xa8.later (Ba (Bb _) o)).cell 3
   have y1 := fun o => (xa8.later (Ba (Bb _) o)).cell 4
   have y2 := fun o => (xa8.later (Ba (Bb _) o)).cell 5
   go_wp2_with fail
   obtain ⟨W9, k9, e1, e2, x9, a9, b9, l9⟩ := Da (w := w7) (s := s1) (f := f1) a1 hb1
   rw [← e1, ← e2]
   have hk9 := hk7.later b9
   have xr9 := xr7.later b9
   have xa9 := xa7.later b9
   have gw9 := Bp gw7 b9
   have hA9 := hA7'.below b9
   clear e1 e2 y0 y1 y2 j0 j1 j2 j3 j4 j5
   obtain ⟨j0, j1, j2, j3, j4, j5, -⟩ := xa9.cell6
   go_wp2_with fail
   refine (D2.out W9 hA9).mono ?_
   rintro r w10 ⟨A2, n2, c2, rfl, a2, hb2⟩
   have x9' := x9.later hb2
   have y0 := fun o => (x9'.later (Ba (Bb _) o)).cell 0
   have y1 := fun o => (x9'.later (Ba (Bb _) o)).cell 1
   have y2 := fun o => (x9'.later (Ba (Bb _) o)).cell 2
   obtain ⟨i0, i1, i2, -, -, -⟩ := x9'.cell3
   go_wp2_with fail
   obtain ⟨W10, k10, e1, e2, x10, a10, b10, l10⟩ := Da (w := W9) (s := s2) (f := f2) a2 hb2
   rw [← e1]
   try rw [← e2]
   have a9' := a9.below b10
   have hk10 := hk9.later b10
   have xr10 := xr9.later b10
   have gw10 := Bp gw9 b10
   refine (Sd g P s1 s2 k1' k2' m1 f1 m2 f2 A1 A2 n1 c1 n2 c2 W10 hk10 a9' a10).mono ?_
   rintro r w11 ⟨pb, X1, u1, v1, X2, u2, v2, rfl, rfl, z1, z2, hk11, g11⟩
   have xr11 := xr10.grown g11 (show w.heap.size + 1 ≠ g by omega)
   have gw11 := Bi gw10 g11
   go_wp2_with (refine Bt rfl _ _ rfl rfl (w.heap.size + 1) _ X1 u1 v1 _ _ X2 u2 v2 _ xr11 rfl rfl (fun W1 y1 gW1 => ?_); obtain ⟨z3, z4, z5, z6, z7, z8, -⟩ := y1.cell6)
   refine bodyPost_ret (v := _) ?_ rfl (Ff z1 z2 xr11 (by rw [Gx]; exact hk11) gw11 (show g ≠ w.heap.size + 1 by omega) (by omega) gW1)
   simp [results, Tryz.results126, go_sem, z3, z4, z5, z6, z7, z8]
  ·have h2 : Fn true (mkD p (val xs) (e + k)) (mkD q (val ys) (f + k)) = none := rfl
   rw [h2]
   go_enter Tryz.func126, Tryz.ntmps126
   go_wp2_with fail
   refine TK.out.mono ?_
   rintro r w7 ⟨rfl, hk7, g7⟩
   have xr7 := xr3.grown g7 (show w.heap.size + 1 ≠ g by omega)
   have gw7 := Bi (Bv b3 (some g)) g7
   go_wp2_with (refine Bt rfl _ _ rfl rfl (w.heap.size + 1) false none 0 0 0 false none 0 0 0 xr7 rfl rfl (fun W1 y1 gW1 => ?_); have hk8 := hk7.other gW1 (show g ≠ w.heap.size + 1 by omega); obtain ⟨u0, u1, u2, u3, u4, u5, -⟩ := y1.cell6)
   refine bodyPost_ret (v := (.agg #[.bool false, .slice none 0 0, .int .i64 0, .bool false, .slice none 0 0, .int .i64 0])) ?_ rfl (Cl hk8 (Cd gw7 gW1 (by omega)))
   simp [results, Tryz.results126, go_sem, u0, u1, u2, u3, u4, u5]
end Go.Proofs.YteffemhapnbaeaaGreatDoor
