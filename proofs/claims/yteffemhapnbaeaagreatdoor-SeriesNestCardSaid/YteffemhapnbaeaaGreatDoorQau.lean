/- Walks and laws that the claim's row needs. No conditions. -/
import Derived.Test.YteffemhapnbaeaaGreatDoorQal
import Derived.Test.YteffemhapnbaeaaGreatDoorQak
import Derived.Test.YteffemhapnbaeaaGreatDoorQas
import Derived.Test.YteffemhapnbaeaaGreatDoorQao
import Derived.Deep.RegionHeld3
import Derived.Test.YteffemhapnbaeaaGreatDoorQaq
import Derived.Test.YteffemhapnbaeaaGreatDoorQat
import Derived.Laws.AppendOwn
set_option maxHeartbeats 16000000
set_option linter.unusedSimpArgs false
set_option linter.unusedVariables false
namespace Go.Proofs.YteffemhapnbaeaaGreatDoor
open Go.RowKit Num
set_option maxRecDepth 100000
theorem Bgy {m e L : Int} {a k : Nat} (h0 : 0 ≤ m) (hm : m < pw a) (he : (e - L).toNat ≤ k) : lev m e L < pw (a + k) := by
 unfold lev
 rw [pw_add]
 have h1 : pw (e - L).toNat ≤ pw k := pw_le he
 have h2 : m * pw (e - L).toNat ≤ m * pw k := Int.mul_le_mul_of_nonneg_left h1 h0
 have h3 : m * pw k < pw a * pw k := Int.mul_lt_mul_of_pos_right hm (pw_pos k)
 omega
theorem PlD.lt {D : Dy} (h : PlD D) : D.m < pw 16384 := by
 have := lt_pow_of_wd_length h.2 h.bounds.1
 rw [B_pow_pw] at this
 exact this
theorem Lj {v : Int} {a k : Nat} (h0 : 0 ≤ v) (hv : v < pw a) (hk : a ≤ 64 * k) : (wd v).length ≤ k := by
 refine wd_length_le h0 ?_
 rw [B_pow_pw]
 exact Int.lt_of_lt_of_le hv (pw_le hk)
theorem Yb {D : Dy} (h : 0 ≤ D.m) (L : Int) : ((Fh D L).natAbs : Int) = lev D.m D.e L := by
 have h1 := Dz h D.e L
 unfold Fh sgn
 split <;> omega
theorem Bdp (k : Nat) : pw (k + 1) = pw k + pw k := by
 rw [pw_add]
 have : pw 1 = 2 := by decide
 rw [this]; omega
theorem Bbb {S L : Int} {k : Nat} (h : ((S.natAbs : Nat) : Int) < pw (64 * k)) : (wd (Ca S L).m).length ≤ k ∧ 0 ≤ (Ca S L).m ∧ (S ≠ 0 → L ≤ (Ca S L).e ∧ (Ca S L).e ≤ L + 64 * k) ∧ (S = 0 → (Ca S L).e = 0) := by
 refine ⟨?_, Bct S L, ?_, ?_⟩
 ·by_cases h0 : S = 0
  ·unfold Ca; rw [if_pos h0, Ge]; exact Nat.zero_le _
  ·rw [(Yp h0 (L := L)).2.2]
   have h1 := My (v := (S.natAbs : Int)) (by omega)
   exact Lj (oddI_nonneg (by omega)) (Int.lt_of_le_of_lt h1 h) (Nat.le_refl _)
 ·intro h0
  obtain ⟨q1, q2, -⟩ := Yp h0 (L := L)
  refine ⟨q1, ?_⟩
  rw [q2]
  have hl := Lj (v := (S.natAbs : Int)) (by omega) h (Nat.le_refl _)
  have ht := tz_lt (xs := wd (S.natAbs : Int)) (wf_wd _ (by omega)) (by rw [val_wd _ (by omega)]; omega)
  rw [val_wd _ (by omega)] at ht
  have : (64 * (wd (S.natAbs : Int)).length : Nat) ≤ 64 * k := Nat.mul_le_mul_left _ hl
  omega
 ·intro h0
  unfold Ca; rw [if_pos h0]; rfl
theorem Mc {a b : Dy} (ha : PlD a) (hb : PlD b) (ea : -100000 ≤ a.e ∧ a.e ≤ 100000) (eb : -100000 ≤ b.e ∧ b.e ≤ 100000) :
  (wd (Hh a b).m).length ≤ 3400 ∧ 0 ≤ (Hh a b).m ∧ -100000 ≤ (Hh a b).e ∧ (Hh a b).e ≤ 400000 ∧ (wd (lev a.m a.e (Ch a.m b.m a.e b.e))).length ≤ 3400 ∧ (wd (lev b.m b.e (Ch a.m b.m a.e b.e))).length ≤ 3400 := by
 have key : ∀ (D : Dy) (L : Int), PlD D → D.e - L ≤ 200000 → lev D.m D.e L < pw (16384 + 200000) := fun D L h hL => Bgy h.2 h.lt (by omega)
 have hs : -100000 ≤ Ch a.m b.m a.e b.e ∧ Ch a.m b.m a.e b.e ≤ 100000 := by unfold Ch; split <;> (try split) <;> omega
 obtain ⟨L, hL⟩ : ∃ L, L = min a.e b.e := ⟨_, rfl⟩
 have hC := Si a b L (.inr (by omega)) (.inr (by omega))
 have s1 := Yb ha.2 L
 have s2 := Yb hb.2 L
 have k1 := key a L ha (by omega)
 have k2 := key b L hb (by omega)
 have k3 := key a (Ch a.m b.m a.e b.e) ha (by omega)
 have k4 := key b (Ch a.m b.m a.e b.e) hb (by omega)
 have n3 := Dz ha.2 a.e (Ch a.m b.m a.e b.e)
 have n4 := Dz hb.2 b.e (Ch a.m b.m a.e b.e)
 have hK : (16384 + 200000 : Nat) + 1 ≤ 64 * 3400 := by decide
 have hK2 : (16384 + 200000 : Nat) ≤ 64 * 3400 := by decide
 have q3 := Lj n3 k3 hK2
 have q4 := Lj n4 k4 hK2
 generalize (16384 + 200000 : Nat) = K at *
 have hS : (((Fh a L + Fh b L).natAbs : Nat) : Int) < pw (64 * 3400) := by
  refine Int.lt_of_lt_of_le ?_ (pw_le hK)
  rw [Bdp]
  omega
 have hc := Bbb (L := L) hS
 rw [← hC] at hc
 obtain ⟨c1, c2, c3, c4⟩ := hc
 refine ⟨c1, c2, ?_, ?_, q3, q4⟩
 ·by_cases h0 : Fh a L + Fh b L = 0
  ·rw [c4 h0]; omega
  ·have := (c3 h0).1; omega
 ·by_cases h0 : Fh a L + Fh b L = 0
  ·rw [c4 h0]; omega
  ·have := (c3 h0).2; omega
def Dt (P : Int) (up : Bool) (a b : Dy) : Option Dy := Ji (Hh a b).neg (Hh a b).m (Hh a b).e false P up
theorem Bgb (p q : Bool) (A A' : Option Addr) (n c n' c' : Nat) (x y e f P : Int) (up : Bool) (w : World) (h : Arr w A n c (wd x)) (h' : Arr w A' n' c' (wd y)) (ha : PlD ⟨p, x, e⟩) (hb : PlD ⟨q, y, f⟩) (e0 : -100000 ≤ e) (e1 : e ≤ 100000) (f0 : -100000 ≤ f) (f1 : f ≤ 100000) (P0 : 1 ≤ P) (P1 : P ≤ 8192) :
  Calls Tryz.prog 37 #[.agg #[.bool p, .slice A n c, .int .i64 e], .agg #[.bool q, .slice A' n' c', .int .i64 f], .int .i64 P, .bool up] w (He (Dt P up ⟨p, x, e⟩ ⟨q, y, f⟩) w) := by
 have b1 : Below w.heap.size w (((w.alloc (.cells #[.bool p, .slice A n c, .int .i64 e] 26)).alloc (.cells #[.bool q, .slice A' n' c', .int .i64 f] 26)).alloc (.cells #[.bool false, .slice none 0 0, .int .i64 0] 26)) := Ba (Ba (Ba (Bb w) _) _) _
 have xa := (Bg w #[.bool p, .slice A n c, .int .i64 e] 26).later (Ba (Ba (Bb _) (.cells #[.bool q, .slice A' n' c', .int .i64 f] 26)) (.cells #[.bool false, .slice none 0 0, .int .i64 0] 26))
 have xb := (Bg (w.alloc (.cells #[.bool p, .slice A n c, .int .i64 e] 26)) #[.bool q, .slice A' n' c', .int .i64 f] 26).later (Ba (Bb _) (.cells #[.bool false, .slice none 0 0, .int .i64 0] 26))
 rw [show (w.alloc (.cells #[.bool p, .slice A n c, .int .i64 e] 26)).heap.size = w.heap.size + 1 by simp] at xb
 have xr := Bg ((w.alloc (.cells #[.bool p, .slice A n c, .int .i64 e] 26)).alloc (.cells #[.bool q, .slice A' n' c', .int .i64 f] 26)) #[.bool false, .slice none 0 0, .int .i64 0] 26
 rw [show ((w.alloc (.cells #[.bool p, .slice A n c, .int .i64 e] 26)).alloc (.cells #[.bool q, .slice A' n' c', .int .i64 f] 26)).heap.size = w.heap.size + 1 + 1 by simp] at xr
 obtain ⟨s1, s2, s3, s4, s5, s6⟩ := Mc ha hb ⟨e0, e1⟩ ⟨f0, f1⟩
 have hn := h.len
 have hn' := h'.len
 have ba := ha.bounds
 have bb := hb.bounds
 simp only at ba bb s5 s6
 have AD := Be8 p q A A' n c n' c' x y e f _ (h.below b1) (h'.below b1) ba.2.2.2.1 bb.2.2.2.1 (by omega) (by omega) (by omega) (by omega) (by omega) (by omega) (.inr (.inr ⟨by omega, by omega⟩)) (fun hz => by
  have := ba.2.2.2.2 hz
  have h2 : p = false := congrArg Dy.neg this
  exact h2) (by omega) (by omega)
 have hbo : Dt P up ⟨p, x, e⟩ ⟨q, y, f⟩ = Ji (Hh ⟨p, x, e⟩ ⟨q, y, f⟩).neg (Hh ⟨p, x, e⟩ ⟨q, y, f⟩).m (Hh ⟨p, x, e⟩ ⟨q, y, f⟩).e false P up := rfl
 rw [hbo]
 clear hbo ha hb ba bb s5 s6 hn hn'
 generalize Hh ⟨p, x, e⟩ ⟨q, y, f⟩ = S at *
 obtain ⟨sn, sm, se⟩ := S
 simp only at s1 s2 s3 s4 ⊢
 have vS := val_wd sm s2
 have CT := fun w' B k j (hB : Arr w' B k j (wd sm)) => Xn sn B k j (wd sm) se false P up w' hB (by rw [← hB.len]; omega) (by omega) (by omega) P0 (by omega)
 rw [vS] at CT
 obtain ⟨oo, ho⟩ : ∃ oo, oo = Ji sn sm se false P up := ⟨_, rfl⟩
 rw [← ho] at CT ⊢
 have AD := Be AD
 have CT := Be CT
 obtain ⟨k0, k1, k2, f0', f1', f2'⟩ := xa.cell3
 obtain ⟨j0, j1, j2, g0, g1, g2⟩ := xb.cell3
 clear s1 s2 s3 s4 vS ho
 go_enter Tryz.func37, Tryz.ntmps37
 go_wp2_with fail
 refine AD.out.mono ?_
 rintro r w4 ⟨A4, n4, c4, rfl, h4, hb4⟩
 have b4 := Bc b1 hb4
 have xr4 := xr.later hb4
 clear k0 k1 k2 f0' f1' f2' j0 j1 j2 g0 g1 g2
 have bx := Bg w4 #[.bool sn, .slice A4 n4 c4, .int .i64 se] 26
 obtain ⟨k0, k1, k2, f0', f1', f2'⟩ := bx.cell3
 have b5 := Ba b4 (.cells #[.bool sn, .slice A4 n4 c4, .int .i64 se] 26)
 have h5 := h4.below (Ba (Bb w4) (.cells #[.bool sn, .slice A4 n4 c4, .int .i64 se] 26))
 have xr5 := xr4.later (Ba (Bb w4) (.cells #[.bool sn, .slice A4 n4 c4, .int .i64 se] 26))
 go_wp2_with fail
 refine (CT.out _ _ _ _ h5).mono ?_
 rintro r w6 ⟨A6, n6, c6, rfl, h6, hb6⟩
 have b6 := Bc b5 hb6
 have xr6 := xr5.later hb6
 obtain ⟨z0, z1, z2, y0, y1, y2⟩ := xr6.cell3
 clear k0 k1 k2 f0' f1' f2'
 go_wp2_with fail
 refine bodyPost_ret (v := _) ?_ rfl (Bu h6 xr6 b6 (by omega))
 simp [results, Tryz.results37, go_sem, z0, z1, z2]
theorem Be9 (p q s t : Bool) (A A' B B' : Option Addr) (n c n' c' m k m' k' : Nat) (xs ys us vs : List Int) (e f i j P : Int) (g : Nat) (bad : Bool) (w : World)
  (h : Arr w A n c xs) (h' : Arr w A' n' c' ys) (hB : Arr w B m k us) (hB' : Arr w B' m' k' vs) (hk : Wk w g P bad 38) (hn : n ≤ 100000) (hn' : n' ≤ 100000) (hm : m ≤ 100000) (hm' : m' ≤ 100000)
  (e0 : -100000 ≤ e ∧ e ≤ 100000) (f0 : -100000 ≤ f ∧ f ≤ 100000) (i0 : -100000 ≤ i ∧ i ≤ 100000) (j0 : -100000 ≤ j ∧ j ≤ 100000) :
  Calls Tryz.prog 13 #[.pointer (some ⟨g, 0, none⟩), .agg #[.bool p, .slice A n c, .int .i64 e, .bool q, .slice A' n' c', .int .i64 f], .agg #[.bool s, .slice B m k, .int .i64 i, .bool t, .slice B' m' k', .int .i64 j]] w
   (Dx (Fn (Bx bad P [(⟨p, A, n, c, xs, e, q, A', n', c', ys, f⟩ : SVal), (⟨s, B, m, k, us, i, t, B', m', k', vs, j⟩ : SVal)]) (Dt P false (⟨p, val xs, e⟩ : Dy) (⟨s, val us, i⟩ : Dy)) (Dt P true (⟨q, val ys, f⟩ : Dy) (⟨t, val vs, j⟩ : Dy))) g P 38 w) := by
 have hg := hk.lt
 have b2 : Below w.heap.size w (w.alloc (.cells #[.bool p, .slice A n c, .int .i64 e, .bool q, .slice A' n' c', .int .i64 f] 28)) := Ba (Bb w) _
 have b3 : Below w.heap.size w ((w.alloc (.cells #[.bool p, .slice A n c, .int .i64 e, .bool q, .slice A' n' c', .int .i64 f] 28)).alloc (.cells #[.bool s, .slice B m k, .int .i64 i, .bool t, .slice B' m' k', .int .i64 j] 28)) := Ba b2 _
 have b4 : Below w.heap.size w (((w.alloc (.cells #[.bool p, .slice A n c, .int .i64 e, .bool q, .slice A' n' c', .int .i64 f] 28)).alloc (.cells #[.bool s, .slice B m k, .int .i64 i, .bool t, .slice B' m' k', .int .i64 j] 28)).alloc (.cells #[.bool false, .slice none 0 0, .int .i64 0, .bool false, .slice none 0 0, .int .i64 0] 28)) := Ba b3 _
 have b5 : Below w.heap.size w ((((w.alloc (.cells #[.bool p, .slice A n c, .int .i64 e, .bool q, .slice A' n' c', .int .i64 f] 28)).alloc (.cells #[.bool s, .slice B m k, .int .i64 i, .bool t, .slice B' m' k', .int .i64 j] 28)).alloc (.cells #[.bool false, .slice none 0 0, .int .i64 0, .bool false, .slice none 0 0, .int .i64 0] 28)).alloc (.cells #[.bool p, .slice A n c, .int .i64 e, .bool q, .slice A' n' c', .int .i64 f, .bool s, .slice B m k, .int .i64 i, .bool t, .slice B' m' k', .int .i64 j] 28)) := Ba b4 _
 have s2 : (w.alloc (.cells #[.bool p, .slice A n c, .int .i64 e, .bool q, .slice A' n' c', .int .i64 f] 28)).heap.size = w.heap.size + 1 := by simp
 have s3 : ((w.alloc (.cells #[.bool p, .slice A n c, .int .i64 e, .bool q, .slice A' n' c', .int .i64 f] 28)).alloc (.cells #[.bool s, .slice B m k, .int .i64 i, .bool t, .slice B' m' k', .int .i64 j] 28)).heap.size = w.heap.size + 1 + 1 := by simp
 have s4 : (((w.alloc (.cells #[.bool p, .slice A n c, .int .i64 e, .bool q, .slice A' n' c', .int .i64 f] 28)).alloc (.cells #[.bool s, .slice B m k, .int .i64 i, .bool t, .slice B' m' k', .int .i64 j] 28)).alloc (.cells #[.bool false, .slice none 0 0, .int .i64 0, .bool false, .slice none 0 0, .int .i64 0] 28)).heap.size = w.heap.size + 1 + 1 + 1 := by simp
 have xsa := (Bg w #[.bool p, .slice A n c, .int .i64 e, .bool q, .slice A' n' c', .int .i64 f] 28).later (Ba (Ba (Ba (Bb _) (.cells #[.bool s, .slice B m k, .int .i64 i, .bool t, .slice B' m' k', .int .i64 j] 28)) (.cells #[.bool false, .slice none 0 0, .int .i64 0, .bool false, .slice none 0 0, .int .i64 0] 28)) (.cells #[.bool p, .slice A n c, .int .i64 e, .bool q, .slice A' n' c', .int .i64 f, .bool s, .slice B m k, .int .i64 i, .bool t, .slice B' m' k', .int .i64 j] 28))
 have xsb := (Bg (w.alloc (.cells #[.bool p, .slice A n c, .int .i64 e, .bool q, .slice A' n' c', .int .i64 f] 28)) #[.bool s, .slice B m k, .int .i64 i, .bool t, .slice B' m' k', .int .i64 j] 28).later (Ba (Ba (Bb _) (.cells #[.bool false, .slice none 0 0, .int .i64 0, .bool false, .slice none 0 0, .int .i64 0] 28)) (.cells #[.bool p, .slice A n c, .int .i64 e, .bool q, .slice A' n' c', .int .i64 f, .bool s, .slice B m k, .int .i64 i, .bool t, .slice B' m' k', .int .i64 j] 28))
 have xr := (Bg ((w.alloc (.cells #[.bool p, .slice A n c, .int .i64 e, .bool q, .slice A' n' c', .int .i64 f] 28)).alloc (.cells #[.bool s, .slice B m k, .int .i64 i, .bool t, .slice B' m' k', .int .i64 j] 28)) #[.bool false, .slice none 0 0, .int .i64 0, .bool false, .slice none 0 0, .int .i64 0] 28).later (Ba (Bb _) (.cells #[.bool p, .slice A n c, .int .i64 e, .bool q, .slice A' n' c', .int .i64 f, .bool s, .slice B m k, .int .i64 i, .bool t, .slice B' m' k', .int .i64 j] 28))
 have xl := Bg (((w.alloc (.cells #[.bool p, .slice A n c, .int .i64 e, .bool q, .slice A' n' c', .int .i64 f] 28)).alloc (.cells #[.bool s, .slice B m k, .int .i64 i, .bool t, .slice B' m' k', .int .i64 j] 28)).alloc (.cells #[.bool false, .slice none 0 0, .int .i64 0, .bool false, .slice none 0 0, .int .i64 0] 28)) #[.bool p, .slice A n c, .int .i64 e, .bool q, .slice A' n' c', .int .i64 f, .bool s, .slice B m k, .int .i64 i, .bool t, .slice B' m' k', .int .i64 j] 28
 rw [s2] at xsb
 rw [s3] at xr
 rw [s4] at xl
 have hk5 := hk.later b5
 have TK := Hk g (w.heap.size + 1 + 1 + 1) 2 P bad [(⟨p, A, n, c, xs, e, q, A', n', c', ys, f⟩ : SVal), (⟨s, B, m, k, us, i, t, B', m', k', vs, j⟩ : SVal)] rfl _ hk5 (Jb (⟨p, A, n, c, xs, e, q, A', n', c', ys, f⟩ : SVal) (⟨s, B, m, k, us, i, t, B', m', k', vs, j⟩ : SVal) xl ⟨h.below b5, h'.below b5⟩ ⟨hB.below b5, hB'.below b5⟩) (by omega) (by decide) (fun s hs => by
  simp at hs
  rcases hs with rfl | rfl
  ·exact ⟨by show n ≤ 1000000; omega, by show n' ≤ 1000000; omega⟩
  ·exact ⟨by show m ≤ 1000000; omega, by show m' ≤ 1000000; omega⟩)
 obtain ⟨k0, k1, k2, k3, k4, k5, -⟩ := (Bg w #[.bool p, .slice A n c, .int .i64 e, .bool q, .slice A' n' c', .int .i64 f] 28).later (Ba (Ba (Bb _) (.cells #[.bool s, .slice B m k, .int .i64 i, .bool t, .slice B' m' k', .int .i64 j] 28)) (.cells #[.bool false, .slice none 0 0, .int .i64 0, .bool false, .slice none 0 0, .int .i64 0] 28)) |>.cell6
 obtain ⟨jj0, jj1, jj2, jj3, jj4, jj5, -⟩ := (Bg (w.alloc (.cells #[.bool p, .slice A n c, .int .i64 e, .bool q, .slice A' n' c', .int .i64 f] 28)) #[.bool s, .slice B m k, .int .i64 i, .bool t, .slice B' m' k', .int .i64 j] 28).later (Ba (Bb _) (.cells #[.bool false, .slice none 0 0, .int .i64 0, .bool false, .slice none 0 0, .int .i64 0] 28)) |>.cell6
 rw [s2] at jj0 jj1 jj2 jj3 jj4 jj5
 have TP : Bx bad P [(⟨p, A, n, c, xs, e, q, A', n', c', ys, f⟩ : SVal), (⟨s, B, m, k, us, i, t, B', m', k', vs, j⟩ : SVal)] = false → _ := Hu
 have TQ : Bx bad P [(⟨p, A, n, c, xs, e, q, A', n', c', ys, f⟩ : SVal), (⟨s, B, m, k, us, i, t, B', m', k', vs, j⟩ : SVal)] = false → 1 ≤ P ∧ P ≤ 8192 := Lo
 generalize Bx bad P [(⟨p, A, n, c, xs, e, q, A', n', c', ys, f⟩ : SVal), (⟨s, B, m, k, us, i, t, B', m', k', vs, j⟩ : SVal)] = tb at *
 have TK := Be TK
 have TP := Be TP
 have TQ := Be TQ
 clear s2 s3 s4 b2 b3 b4 xl
 cases tb
 ·obtain ⟨p1, p2, p3, p4⟩ := TP.out rfl
  obtain ⟨P1, P2⟩ := TQ.out rfl
  have v1 := (Bm h.wf p1).2.2.1
  have v2 := (Bm h'.wf p2).2.2.1
  have v3 := (Bm hB.wf p3).2.2.1
  have v4 := (Bm hB'.wf p4).2.2.1
  have l1 := PlD.of h.wf p1
  have l2 := PlD.of h'.wf p2
  have l3 := PlD.of hB.wf p3
  have l4 := PlD.of hB'.wf p4
  have ho : Fn false (Dt P false (⟨p, val xs, e⟩ : Dy) (⟨s, val us, i⟩ : Dy)) (Dt P true (⟨q, val ys, f⟩ : Dy) (⟨t, val vs, j⟩ : Dy)) = Cr (!((Dt P false (⟨p, val xs, e⟩ : Dy) (⟨s, val us, i⟩ : Dy)).isSome && (Dt P true (⟨q, val ys, f⟩ : Dy) (⟨t, val vs, j⟩ : Dy)).isSome)) (Ci (Dt P false (⟨p, val xs, e⟩ : Dy) (⟨s, val us, i⟩ : Dy))) (Ci (Dt P true (⟨q, val ys, f⟩ : Dy) (⟨t, val vs, j⟩ : Dy))) := rfl
  rw [ho]
  have D1 := fun w' (g1 : Arr w' A n c xs) (g2 : Arr w' B m k us) => Bgb p s A B n c m k (val xs) (val us) e i P false w' (by rw [v1]; exact g1) (by rw [v3]; exact g2) l1 l3 e0.1 e0.2 i0.1 i0.2 P1 P2
  have D2 := fun w' (g1 : Arr w' A' n' c' ys) (g2 : Arr w' B' m' k' vs) => Bgb q t A' B' n' c' m' k' (val ys) (val vs) f j P true w' (by rw [v2]; exact g1) (by rw [v4]; exact g2) l2 l4 f0.1 f0.2 j0.1 j0.2 P1 P2
  unfold He at D1 D2
  clear ho p1 p2 p3 p4 v1 v2 v3 v4 l1 l2 l3 l4 TP TQ
  generalize (Dt P false (⟨p, val xs, e⟩ : Dy) (⟨s, val us, i⟩ : Dy)).isSome = k1' at *
  generalize (Dt P true (⟨q, val ys, f⟩ : Dy) (⟨t, val vs, j⟩ : Dy)).isSome = k2' at *
  generalize Ci (Dt P false (⟨p, val xs, e⟩ : Dy) (⟨s, val us, i⟩ : Dy)) = E1 at *
  generalize Ci (Dt P true (⟨q, val ys, f⟩ : Dy) (⟨t, val vs, j⟩ : Dy)) = E2 at *
  obtain ⟨s1, m1, f1⟩ := E1
  obtain ⟨s2, m2, f2⟩ := E2
  simp only at D1 D2
  have D1 := Be D1
  have D2 := Be D2
  go_enter Tryz.func13, Tryz.ntmps13
  go_wp2_with fail
  refine TK.out.mono ?_
  rintro r w7 ⟨rfl, hk7, g7⟩
  have xa7 := xsa.grown g7 (show w.heap.size ≠ g by omega)
  have xb7 := xsb.grown g7 (show w.heap.size + 1 ≠ g by omega)
  have xr7 := xr.grown g7 (show w.heap.size + 1 + 1 ≠ g by omega)
  have gw7 := Bi (Bv b5 (some g)) g7
  have hA7 := hk.arr h gw7
  have hA7' := hk.arr h' gw7
  have hC7 := hk.arr hB gw7
  have hC7' := hk.arr hB' gw7
  have R1 : ∀ w', Below w7.heap.size w7 w' → Calls Tryz.prog 37 #[(.agg #[.bool p, .slice A n c, .int .i64 e]), (.agg #[.bool s, .slice B m k, .int .i64 i]), .int .i64 P, .bool false] w' fun r w'' => ∃ A5 n5 c5, r = .returned (.tuple #[.agg #[.bool s1, .slice A5 n5 c5, .int .i64 f1], .bool k1']) ∧ Arr w'' A5 n5 c5 (wd m1) ∧ Below w'.heap.size w' w'' ∧ Below w7.heap.size w7 w'' := by
   intro w' hG
   refine (D1.out w' (hA7.below hG) (hC7.below hG)).mono ?_
   rintro r w'' ⟨A5, n5, c5, rfl, h5, hb⟩
   exact ⟨A5, n5, c5, rfl, h5, hb, Bc hG hb⟩
  have R2 : ∀ w', Below w7.heap.size w7 w' → Calls Tryz.prog 37 #[(.agg #[.bool q, .slice A' n' c', .int .i64 f]), (.agg #[.bool t, .slice B' m' k', .int .i64 j]), .int .i64 P, .bool true] w' fun r w'' => ∃ A5 n5 c5, r = .returned (.tuple #[.agg #[.bool s2, .slice A5 n5 c5, .int .i64 f2], .bool k2']) ∧ Arr w'' A5 n5 c5 (wd m2) ∧ Below w'.heap.size w' w'' ∧ Below w7.heap.size w7 w'' := by
   intro w' hG
   refine (D2.out w' (hA7'.below hG) (hC7'.below hG)).mono ?_
   rintro r w'' ⟨A5, n5, c5, rfl, h5, hb⟩
   exact ⟨A5, n5, c5, rfl, h5, hb, Bc hG hb⟩
  have KC : ∀ w', Below w7.heap.size w7 w' → ((w'.cell? ⟨w.heap.size, 0, none⟩ = some (.bool p) ∧ w'.cell? ⟨w.heap.size, 1, none⟩ = some (.slice A n c) ∧ w'.cell? ⟨w.heap.size, 2, none⟩ = some (.int .i64 e) ∧ w'.cell? ⟨w.heap.size, 3, none⟩ = some (.bool q) ∧ w'.cell? ⟨w.heap.size, 4, none⟩ = some (.slice A' n' c') ∧ w'.cell? ⟨w.heap.size, 5, none⟩ = some (.int .i64 f)) ∧ (w'.cell? ⟨w.heap.size + 1, 0, none⟩ = some (.bool s) ∧ w'.cell? ⟨w.heap.size + 1, 1, none⟩ = some (.slice B m k) ∧ w'.cell? ⟨w.heap.size + 1, 2, none⟩ = some (.int .i64 i) ∧ w'.cell? ⟨w.heap.size + 1, 3, none⟩ = some (.bool t) ∧ w'.cell? ⟨w.heap.size + 1, 4, none⟩ = some (.slice B' m' k') ∧ w'.cell? ⟨w.heap.size + 1, 5, none⟩ = some (.int .i64 j)) ∧ w'.cell? ⟨g, 0, none⟩ = some (.int .i64 P)) := by
   intro w' hG
   obtain ⟨z0, z1, z2, z3, z4, z5, -⟩ := (xa7.later hG).cell6
   obtain ⟨y0, y1, y2, y3, y4, y5, -⟩ := (xb7.later hG).cell6
   exact ⟨⟨z0, z1, z2, z3, z4, z5⟩, ⟨y0, y1, y2, y3, y4, y5⟩, (hk7.later hG).cells.1⟩
  obtain ⟨⟨q0, q1, q2, q3, q4, q5⟩, ⟨r0, r1, r2, r3, r4, r5⟩, r6⟩ := KC w7 (Bb _)
  have KC := Be KC
  have R1 := Be R1
  have R2 := Be R2
  clear k0 k1 k2 k3 k4 k5 jj0 jj1 jj2 jj3 jj4 jj5 xa7 xb7 hA7 hA7' hC7 hC7' xsa xsb xr g7 b5 h h' hB hB' hk5 TK D1 D2
  go_wp2_with fail
  go_region_held3 (fun w' => ((w'.cell? ⟨w.heap.size, 0, none⟩ = some (.bool p) ∧ w'.cell? ⟨w.heap.size, 1, none⟩ = some (.slice A n c) ∧ w'.cell? ⟨w.heap.size, 2, none⟩ = some (.int .i64 e) ∧ w'.cell? ⟨w.heap.size, 3, none⟩ = some (.bool q) ∧ w'.cell? ⟨w.heap.size, 4, none⟩ = some (.slice A' n' c') ∧ w'.cell? ⟨w.heap.size, 5, none⟩ = some (.int .i64 f)) ∧ (w'.cell? ⟨w.heap.size + 1, 0, none⟩ = some (.bool s) ∧ w'.cell? ⟨w.heap.size + 1, 1, none⟩ = some (.slice B m k) ∧ w'.cell? ⟨w.heap.size + 1, 2, none⟩ = some (.int .i64 i) ∧ w'.cell? ⟨w.heap.size + 1, 3, none⟩ = some (.bool t) ∧ w'.cell? ⟨w.heap.size + 1, 4, none⟩ = some (.slice B' m' k') ∧ w'.cell? ⟨w.heap.size + 1, 5, none⟩ = some (.int .i64 j)) ∧ w'.cell? ⟨g, 0, none⟩ = some (.int .i64 P))) (first | (refine KC.out _ ?_; (repeat (first | with_reducible assumption | with_reducible exact Bb _ | with_reducible refine Bd ?_ _ | with_reducible apply Below.drew | with_reducible refine Ba ?_ _ | (refine Bo ?_ _ _ (by first | exact Nat.le_refl _ | omega | (simp; done) | (simp; omega)) _))); done) | go_keep) (first | (go_at_call 37; refine (R1.out _ ?_).mono ?_; (repeat (first | with_reducible assumption | with_reducible exact Bb _ | with_reducible refine Bd ?_ _ | with_reducible apply Below.drew | with_reducible refine Ba ?_ _ | (refine Bo ?_ _ _ (by first | exact Nat.le_refl _ | omega | (simp; done) | (simp; omega)) _))); rintro r w8 ⟨A1, n1, c1, rfl, a1, hc1, hb1⟩; (first | (have NB := Hp hc1; obtain ⟨v0, v1, v2, v3, v4, v5⟩ := NB.cell3) | skip)))
  have KC7 := KC
  have XR7 := xr7
  all_goals
   first
    | (have MB := Fp (w := w7) (s := s1) (f := f1) a1 hb1 NB)
    | (have MB := Da (w := w7) (s := s1) (f := f1) a1 hb1)
   obtain ⟨W9, k9, e1, e2, x9, a9, b9, l9⟩ := MB
   rw [← e1, ← e2]
   have KC9 : ∀ w', Below W9.heap.size W9 w' → ((w'.cell? ⟨w.heap.size, 0, none⟩ = some (.bool p) ∧ w'.cell? ⟨w.heap.size, 1, none⟩ = some (.slice A n c) ∧ w'.cell? ⟨w.heap.size, 2, none⟩ = some (.int .i64 e) ∧ w'.cell? ⟨w.heap.size, 3, none⟩ = some (.bool q) ∧ w'.cell? ⟨w.heap.size, 4, none⟩ = some (.slice A' n' c') ∧ w'.cell? ⟨w.heap.size, 5, none⟩ = some (.int .i64 f)) ∧ (w'.cell? ⟨w.heap.size + 1, 0, none⟩ = some (.bool s) ∧ w'.cell? ⟨w.heap.size + 1, 1, none⟩ = some (.slice B m k) ∧ w'.cell? ⟨w.heap.size + 1, 2, none⟩ = some (.int .i64 i) ∧ w'.cell? ⟨w.heap.size + 1, 3, none⟩ = some (.bool t) ∧ w'.cell? ⟨w.heap.size + 1, 4, none⟩ = some (.slice B' m' k') ∧ w'.cell? ⟨w.heap.size + 1, 5, none⟩ = some (.int .i64 j)) ∧ w'.cell? ⟨g, 0, none⟩ = some (.int .i64 P)) := fun w' hb => KC.out w' (Bc b9 hb)
   have R9 : ∀ w', Below W9.heap.size W9 w' → Calls Tryz.prog 37 #[(.agg #[.bool q, .slice A' n' c', .int .i64 f]), (.agg #[.bool t, .slice B' m' k', .int .i64 j]), .int .i64 P, .bool true] w' fun r w'' => ∃ A5 n5 c5, r = .returned (.tuple #[.agg #[.bool s2, .slice A5 n5 c5, .int .i64 f2], .bool k2']) ∧ Arr w'' A5 n5 c5 (wd m2) ∧ Below w'.heap.size w' w'' ∧ Below W9.heap.size W9 w'' := by
    intro w' hG
    refine (R2.out w' (Bc b9 hG)).mono ?_
    rintro r w'' ⟨A5, n5, c5, rfl, h5, hb, -⟩
    exact ⟨A5, n5, c5, rfl, h5, hb, Bc hG hb⟩
   have hk9 := hk7.later b9
   have xr9 := xr7.later b9
   have gw9 := Bp gw7 b9
   have l9' : k9 ≠ g := by have := hk7.lt; omega
   have lr9 : w.heap.size + 1 + 1 < k9 := by have := xr7.lt; omega
   clear e1 e2 hb1 R1 R2 KC a1 hc1 q0 q1 q2 q3 q4 q5 r0 r1 r2 r3 r4 r5 r6 hk7 xr7 gw7
   obtain ⟨⟨q0, q1, q2, q3, q4, q5⟩, ⟨r0, r1, r2, r3, r4, r5⟩, r6⟩ := KC9 W9 (Bb _)
   have KC := Be KC9
   have R2 := Be R9
   clear KC9 R9
   go_wp2_with fail
   go_region_held3 (fun w' => ((w'.cell? ⟨w.heap.size, 0, none⟩ = some (.bool p) ∧ w'.cell? ⟨w.heap.size, 1, none⟩ = some (.slice A n c) ∧ w'.cell? ⟨w.heap.size, 2, none⟩ = some (.int .i64 e) ∧ w'.cell? ⟨w.heap.size, 3, none⟩ = some (.bool q) ∧ w'.cell? ⟨w.heap.size, 4, none⟩ = some (.slice A' n' c') ∧ w'.cell? ⟨w.heap.size, 5, none⟩ = some (.int .i64 f)) ∧ (w'.cell? ⟨w.heap.size + 1, 0, none⟩ = some (.bool s) ∧ w'.cell? ⟨w.heap.size + 1, 1, none⟩ = some (.slice B m k) ∧ w'.cell? ⟨w.heap.size + 1, 2, none⟩ = some (.int .i64 i) ∧ w'.cell? ⟨w.heap.size + 1, 3, none⟩ = some (.bool t) ∧ w'.cell? ⟨w.heap.size + 1, 4, none⟩ = some (.slice B' m' k') ∧ w'.cell? ⟨w.heap.size + 1, 5, none⟩ = some (.int .i64 j)) ∧ w'.cell? ⟨g, 0, none⟩ = some (.int .i64 P))) (first | (refine KC.out _ ?_; (repeat (first | with_reducible assumption | with_reducible exact Bb _ | with_reducible refine Bd ?_ _ | with_reducible apply Below.drew | with_reducible refine Ba ?_ _ | (refine Bo ?_ _ _ (by first | exact Nat.le_refl _ | omega | (simp; done) | (simp; omega)) _))); done) | go_keep) (first | (go_at_call 37; refine (R2.out _ ?_).mono ?_; (repeat (first | with_reducible assumption | with_reducible exact Bb _ | with_reducible refine Bd ?_ _ | with_reducible apply Below.drew | with_reducible refine Ba ?_ _ | (refine Bo ?_ _ _ (by first | exact Nat.le_refl _ | omega | (simp; done) | (simp; omega)) _))); rintro r w10 ⟨A2, n2, c2, rfl, a2, hc2, hb2⟩; (first | (have NB := Hp hc2; obtain ⟨v0, v1, v2, v3, v4, v5⟩ := NB.cell3) | skip)))
  all_goals
   first
    | (have MB := Fp (w := W9) (s := s2) (f := f2) a2 hb2 NB)
    | (have MB := Da (w := W9) (s := s2) (f := f2) a2 hb2)
   obtain ⟨W10, k10, e1, e2, x10, a10, b10, l10⟩ := MB
   rw [← e1, ← e2]
   have x9' := x9.later b10
   have a9' := a9.below b10
   have hk10 := hk9.later b10
   have xr10 := xr9.later b10
   have gw10 := Bp gw9 b10
   have GV := Be (Sd g P s1 s2 k1' k2' m1 f1 m2 f2 A1 A2 n1 c1 n2 c2 W10 hk10 a9' a10)
   clear e1 e2 hb2 a2 hc2 q0 q1 q2 q3 q4 q5 r0 r1 r2 r3 r4 r5 r6 KC R2
   obtain ⟨y0, y1, y2, y3, y4, y5⟩ := x9'.cell3
   obtain ⟨qq0, qq1, qq2, qq3, qq4, qq5⟩ := x10.cell3
   go_wp2_with fail
   refine GV.out.mono ?_
   rintro r w11 ⟨pb, X1, u1, v1, X2, u2, v2, rfl, rfl, z1, z2, hk11, g11⟩
   have xr11 := xr10.grown g11 (show w.heap.size + 1 + 1 ≠ g by omega)
   have gw11 := Bi gw10 g11
   go_wp2_with (refine Bt rfl _ _ rfl rfl (w.heap.size + 1 + 1) _ X1 u1 v1 _ _ X2 u2 v2 _ xr11 rfl rfl (fun W1 y1 gW1 => ?_); obtain ⟨z3, z4, z5, z6, z7, z8, -⟩ := y1.cell6)
   refine bodyPost_ret (v := _) ?_ rfl (Ff z1 z2 xr11 (by rw [Gx]; exact hk11) gw11 (show g ≠ w.heap.size + 1 + 1 by omega) (by omega) gW1)
   simp [results, Tryz.results13, go_sem, z3, z4, z5, z6, z7, z8]
 ·have ho : Fn true (Dt P false (⟨p, val xs, e⟩ : Dy) (⟨s, val us, i⟩ : Dy)) (Dt P true (⟨q, val ys, f⟩ : Dy) (⟨t, val vs, j⟩ : Dy)) = none := rfl
  rw [ho]
  go_enter Tryz.func13, Tryz.ntmps13
  go_wp2_with fail
  refine TK.out.mono ?_
  rintro r w6 ⟨rfl, hk6, g6⟩
  have xr6 := xr.grown g6 (show w.heap.size + 1 + 1 ≠ g by omega)
  have gw := Bi (Bv b5 (some g)) g6
  go_wp2_with (refine Bt rfl _ _ rfl rfl (w.heap.size + 1 + 1) false none 0 0 0 false none 0 0 0 xr6 rfl rfl (fun W1 y1 gW1 => ?_); have hk9 := hk6.other gW1 (show g ≠ w.heap.size + 1 + 1 by omega); obtain ⟨u0, u1, u2, u3, u4, u5, -⟩ := y1.cell6)
  refine bodyPost_ret (v := .agg #[.bool false, .slice none 0 0, .int .i64 0, .bool false, .slice none 0 0, .int .i64 0]) ?_ rfl (Cl hk9 (Cd gw gW1 (by omega)))
  simp [results, Tryz.results13, go_sem, u0, u1, u2, u3, u4, u5]
theorem Bcc {bad : Bool} {P : Int} {p q s t : Bool} {A A' B B' : Option Addr} {n c n' c' m k m' k' : Nat} {xs ys us vs : List Int} {e f i j : Int} (hu : Wf us) (hv : Wf vs) (h : Bx bad P [(⟨p, A, n, c, xs, e, q, A', n', c', ys, f⟩ : SVal), (⟨s, B, m, k, us, i, t, B', m', k', vs, j⟩ : SVal)] = false) :
  Bx false P [(⟨s, B, m, k, us, i, t, B', m', k', vs, j⟩ : SVal)] = false ∧ bad = false ∧ ∀ C n6 c6 C' n7 c7, Bx false P [(⟨p, A, n, c, xs, e, q, A', n', c', ys, f⟩ : SVal), ⟨(Cm (⟨t, val vs, j⟩ : Dy)).neg, C, n6, c6, wd (Cm (⟨t, val vs, j⟩ : Dy)).m, (Cm (⟨t, val vs, j⟩ : Dy)).e, (Cm (⟨s, val us, i⟩ : Dy)).neg, C', n7, c7, wd (Cm (⟨s, val us, i⟩ : Dy)).m, (Cm (⟨s, val us, i⟩ : Dy)).e⟩] = false := by
 have hb : bad = false ∧ Bx false P [(⟨s, B, m, k, us, i, t, B', m', k', vs, j⟩ : SVal)] = false := by
  rw [Qj] at h
  rw [Jr]
  simp only [Bool.or_eq_false_iff, Bool.not_eq_false', Bool.and_eq_true] at h ⊢
  exact ⟨h.1.1.1, ⟨⟨trivial, h.1.1.2⟩, h.1.2⟩, h.2.2⟩
 obtain ⟨rfl, hr⟩ := hb
 refine ⟨hr, rfl, fun C n6 c6 C' n7 c7 => ?_⟩
 rw [← Yd hu hv hr]
 exact h
theorem Bj9 (p q s t : Bool) (A A' B B' : Option Addr) (n c n' c' m k m' k' : Nat) (xs ys us vs : List Int) (e f i j P : Int) (g : Nat) (bad : Bool) (w : World)
  (h : Arr w A n c xs) (h' : Arr w A' n' c' ys) (hB : Arr w B m k us) (hB' : Arr w B' m' k' vs) (hk : Wk w g P bad 38) (hn : n ≤ 100000) (hn' : n' ≤ 100000) (hm : m ≤ 100000) (hm' : m' ≤ 100000)
  (e0 : -100000 ≤ e ∧ e ≤ 100000) (f0 : -100000 ≤ f ∧ f ≤ 100000) (i0 : -100000 ≤ i ∧ i ≤ 100000) (j0 : -100000 ≤ j ∧ j ≤ 100000) :
  Calls Tryz.prog 15 #[.pointer (some ⟨g, 0, none⟩), .agg #[.bool p, .slice A n c, .int .i64 e, .bool q, .slice A' n' c', .int .i64 f], .agg #[.bool s, .slice B m k, .int .i64 i, .bool t, .slice B' m' k', .int .i64 j]] w
   (Dx (Fn (Bx bad P [(⟨p, A, n, c, xs, e, q, A', n', c', ys, f⟩ : SVal), (⟨s, B, m, k, us, i, t, B', m', k', vs, j⟩ : SVal)]) (Dt P false (⟨p, val xs, e⟩ : Dy) (Cm (⟨t, val vs, j⟩ : Dy))) (Dt P true (⟨q, val ys, f⟩ : Dy) (Cm (⟨s, val us, i⟩ : Dy)))) g P 38 w) := by
 have hg := hk.lt
 have b2 : Below w.heap.size w (w.alloc (.cells #[.bool p, .slice A n c, .int .i64 e, .bool q, .slice A' n' c', .int .i64 f] 28)) := Ba (Bb w) _
 have b3 : Below w.heap.size w ((w.alloc (.cells #[.bool p, .slice A n c, .int .i64 e, .bool q, .slice A' n' c', .int .i64 f] 28)).alloc (.cells #[.bool s, .slice B m k, .int .i64 i, .bool t, .slice B' m' k', .int .i64 j] 28)) := Ba b2 _
 have b4 : Below w.heap.size w (((w.alloc (.cells #[.bool p, .slice A n c, .int .i64 e, .bool q, .slice A' n' c', .int .i64 f] 28)).alloc (.cells #[.bool s, .slice B m k, .int .i64 i, .bool t, .slice B' m' k', .int .i64 j] 28)).alloc (.cells #[.bool false, .slice none 0 0, .int .i64 0, .bool false, .slice none 0 0, .int .i64 0] 28)) := Ba b3 _
 have b5 : Below w.heap.size w ((((w.alloc (.cells #[.bool p, .slice A n c, .int .i64 e, .bool q, .slice A' n' c', .int .i64 f] 28)).alloc (.cells #[.bool s, .slice B m k, .int .i64 i, .bool t, .slice B' m' k', .int .i64 j] 28)).alloc (.cells #[.bool false, .slice none 0 0, .int .i64 0, .bool false, .slice none 0 0, .int .i64 0] 28)).alloc (.cells #[.bool p, .slice A n c, .int .i64 e, .bool q, .slice A' n' c', .int .i64 f, .bool s, .slice B m k, .int .i64 i, .bool t, .slice B' m' k', .int .i64 j] 28)) := Ba b4 _
 have s2 : (w.alloc (.cells #[.bool p, .slice A n c, .int .i64 e, .bool q, .slice A' n' c', .int .i64 f] 28)).heap.size = w.heap.size + 1 := by simp
 have s3 : ((w.alloc (.cells #[.bool p, .slice A n c, .int .i64 e, .bool q, .slice A' n' c', .int .i64 f] 28)).alloc (.cells #[.bool s, .slice B m k, .int .i64 i, .bool t, .slice B' m' k', .int .i64 j] 28)).heap.size = w.heap.size + 1 + 1 := by simp
 have s4 : (((w.alloc (.cells #[.bool p, .slice A n c, .int .i64 e, .bool q, .slice A' n' c', .int .i64 f] 28)).alloc (.cells #[.bool s, .slice B m k, .int .i64 i, .bool t, .slice B' m' k', .int .i64 j] 28)).alloc (.cells #[.bool false, .slice none 0 0, .int .i64 0, .bool false, .slice none 0 0, .int .i64 0] 28)).heap.size = w.heap.size + 1 + 1 + 1 := by simp
 have xsa := (Bg w #[.bool p, .slice A n c, .int .i64 e, .bool q, .slice A' n' c', .int .i64 f] 28).later (Ba (Ba (Ba (Bb _) (.cells #[.bool s, .slice B m k, .int .i64 i, .bool t, .slice B' m' k', .int .i64 j] 28)) (.cells #[.bool false, .slice none 0 0, .int .i64 0, .bool false, .slice none 0 0, .int .i64 0] 28)) (.cells #[.bool p, .slice A n c, .int .i64 e, .bool q, .slice A' n' c', .int .i64 f, .bool s, .slice B m k, .int .i64 i, .bool t, .slice B' m' k', .int .i64 j] 28))
 have xsb := (Bg (w.alloc (.cells #[.bool p, .slice A n c, .int .i64 e, .bool q, .slice A' n' c', .int .i64 f] 28)) #[.bool s, .slice B m k, .int .i64 i, .bool t, .slice B' m' k', .int .i64 j] 28).later (Ba (Ba (Bb _) (.cells #[.bool false, .slice none 0 0, .int .i64 0, .bool false, .slice none 0 0, .int .i64 0] 28)) (.cells #[.bool p, .slice A n c, .int .i64 e, .bool q, .slice A' n' c', .int .i64 f, .bool s, .slice B m k, .int .i64 i, .bool t, .slice B' m' k', .int .i64 j] 28))
 have xr := (Bg ((w.alloc (.cells #[.bool p, .slice A n c, .int .i64 e, .bool q, .slice A' n' c', .int .i64 f] 28)).alloc (.cells #[.bool s, .slice B m k, .int .i64 i, .bool t, .slice B' m' k', .int .i64 j] 28)) #[.bool false, .slice none 0 0, .int .i64 0, .bool false, .slice none 0 0, .int .i64 0] 28).later (Ba (Bb _) (.cells #[.bool p, .slice A n c, .int .i64 e, .bool q, .slice A' n' c', .int .i64 f, .bool s, .slice B m k, .int .i64 i, .bool t, .slice B' m' k', .int .i64 j] 28))
 have xl := Bg (((w.alloc (.cells #[.bool p, .slice A n c, .int .i64 e, .bool q, .slice A' n' c', .int .i64 f] 28)).alloc (.cells #[.bool s, .slice B m k, .int .i64 i, .bool t, .slice B' m' k', .int .i64 j] 28)).alloc (.cells #[.bool false, .slice none 0 0, .int .i64 0, .bool false, .slice none 0 0, .int .i64 0] 28)) #[.bool p, .slice A n c, .int .i64 e, .bool q, .slice A' n' c', .int .i64 f, .bool s, .slice B m k, .int .i64 i, .bool t, .slice B' m' k', .int .i64 j] 28
 rw [s2] at xsb
 rw [s3] at xr
 rw [s4] at xl
 have hk5 := hk.later b5
 have TK := Hk g (w.heap.size + 1 + 1 + 1) 2 P bad [(⟨p, A, n, c, xs, e, q, A', n', c', ys, f⟩ : SVal), (⟨s, B, m, k, us, i, t, B', m', k', vs, j⟩ : SVal)] rfl _ hk5 (Jb (⟨p, A, n, c, xs, e, q, A', n', c', ys, f⟩ : SVal) (⟨s, B, m, k, us, i, t, B', m', k', vs, j⟩ : SVal) xl ⟨h.below b5, h'.below b5⟩ ⟨hB.below b5, hB'.below b5⟩) (by omega) (by decide) (fun s hs => by
  simp at hs
  rcases hs with rfl | rfl
  ·exact ⟨by show n ≤ 1000000; omega, by show n' ≤ 1000000; omega⟩
  ·exact ⟨by show m ≤ 1000000; omega, by show m' ≤ 1000000; omega⟩)
 obtain ⟨k0, k1, k2, k3, k4, k5, -⟩ := (Bg w #[.bool p, .slice A n c, .int .i64 e, .bool q, .slice A' n' c', .int .i64 f] 28).later (Ba (Ba (Bb _) (.cells #[.bool s, .slice B m k, .int .i64 i, .bool t, .slice B' m' k', .int .i64 j] 28)) (.cells #[.bool false, .slice none 0 0, .int .i64 0, .bool false, .slice none 0 0, .int .i64 0] 28)) |>.cell6
 obtain ⟨jj0, jj1, jj2, jj3, jj4, jj5, -⟩ := (Bg (w.alloc (.cells #[.bool p, .slice A n c, .int .i64 e, .bool q, .slice A' n' c', .int .i64 f] 28)) #[.bool s, .slice B m k, .int .i64 i, .bool t, .slice B' m' k', .int .i64 j] 28).later (Ba (Bb _) (.cells #[.bool false, .slice none 0 0, .int .i64 0, .bool false, .slice none 0 0, .int .i64 0] 28)) |>.cell6
 rw [s2] at jj0 jj1 jj2 jj3 jj4 jj5
 have TP : Bx bad P [(⟨p, A, n, c, xs, e, q, A', n', c', ys, f⟩ : SVal), (⟨s, B, m, k, us, i, t, B', m', k', vs, j⟩ : SVal)] = false → _ := Hu
 have TR := Bcc (bad := bad) (P := P) (p := p) (q := q) (s := s) (t := t) (A := A) (A' := A') (B := B) (B' := B') (n := n) (c := c) (n' := n') (c' := c') (m := m) (k := k) (m' := m') (k' := k') (xs := xs) (ys := ys) (us := us) (vs := vs) (e := e) (f := f) (i := i) (j := j) hB.wf hB'.wf
 have TQ : Bx bad P [(⟨p, A, n, c, xs, e, q, A', n', c', ys, f⟩ : SVal), (⟨s, B, m, k, us, i, t, B', m', k', vs, j⟩ : SVal)] = false → 1 ≤ P ∧ P ≤ 8192 := Lo
 generalize Bx bad P [(⟨p, A, n, c, xs, e, q, A', n', c', ys, f⟩ : SVal), (⟨s, B, m, k, us, i, t, B', m', k', vs, j⟩ : SVal)] = tb at *
 have TK := Be TK
 have TP := Be TP
 have TQ := Be TQ
 have TR := Be TR
 clear s2 s3 s4 b2 b3 b4 xl
 cases tb
 ·obtain ⟨p1, p2, p3, p4⟩ := TP.out rfl
  obtain ⟨tbf, hcut, hnb⟩ := TR.out rfl
  obtain ⟨oo, hoo⟩ : ∃ oo, oo = Fn false (Dt P false (⟨p, val xs, e⟩ : Dy) (Cm (⟨t, val vs, j⟩ : Dy))) (Dt P true (⟨q, val ys, f⟩ : Dy) (Cm (⟨s, val us, i⟩ : Dy))) := ⟨_, rfl⟩
  rw [← hoo]
  have w1 : val (wd (Cm (⟨t, val vs, j⟩ : Dy)).m) = (Cm (⟨t, val vs, j⟩ : Dy)).m := val_wd _ (val_nonneg hB'.wf)
  have w2 : val (wd (Cm (⟨s, val us, i⟩ : Dy)).m) = (Cm (⟨s, val us, i⟩ : Dy)).m := val_wd _ (val_nonneg hB.wf)
  have z1 : (wd (Cm (⟨t, val vs, j⟩ : Dy)).m).length ≤ 256 := (PlD.of hB'.wf p4).neg.bounds.1
  have z2 : (wd (Cm (⟨s, val us, i⟩ : Dy)).m).length ≤ 256 := (PlD.of hB.wf p3).neg.bounds.1
  have q1 : (Cm (⟨t, val vs, j⟩ : Dy)).e = j := rfl
  have q2 : (Cm (⟨s, val us, i⟩ : Dy)).e = i := rfl
  have NG := fun w' (g1 : Arr w' B m k us) (g2 : Arr w' B' m' k' vs) (hk2 : Wk w' g P false 38) => Bam s t B B' m k m' k' us vs i j P g false w' g1 g2 hk2 hm hm'
  have hng : Fn (Bx false P [(⟨s, B, m, k, us, i, t, B', m', k', vs, j⟩ : SVal)]) (Ho t vs j) (Ho s us i) = some ((Cm (⟨t, val vs, j⟩ : Dy)), (Cm (⟨s, val us, i⟩ : Dy))) := by
   rw [tbf]
   have a1 := Rw hB'.wf p4
   have a2 := Rw hB.wf p3
   show Fn false (Ga t vs j) (Ga s us i) = _
   rw [a1, a2]
   rfl
  rw [hng] at NG
  have AD : ∀ w' C n6 c6 C' n7 c7, Wk w' g P false 38 → Arr w' A n c xs → Arr w' A' n' c' ys → Arr w' C n6 c6 (wd (Cm (⟨t, val vs, j⟩ : Dy)).m) → Arr w' C' n7 c7 (wd (Cm (⟨s, val us, i⟩ : Dy)).m) →
    Calls Tryz.prog 13 #[.pointer (some ⟨g, 0, none⟩), .agg #[.bool p, .slice A n c, .int .i64 e, .bool q, .slice A' n' c', .int .i64 f], .agg #[.bool (Cm (⟨t, val vs, j⟩ : Dy)).neg, .slice C n6 c6, .int .i64 (Cm (⟨t, val vs, j⟩ : Dy)).e, .bool (Cm (⟨s, val us, i⟩ : Dy)).neg, .slice C' n7 c7, .int .i64 (Cm (⟨s, val us, i⟩ : Dy)).e]] w' (Dx oo g P 38 w') := by
   intro w' C n6 c6 C' n7 c7 hk2 a1 a2 g1 g2
   have H := Be9 p q (Cm (⟨t, val vs, j⟩ : Dy)).neg (Cm (⟨s, val us, i⟩ : Dy)).neg A A' C C' n c n' c' n6 c6 n7 c7 xs ys (wd (Cm (⟨t, val vs, j⟩ : Dy)).m) (wd (Cm (⟨s, val us, i⟩ : Dy)).m) e f (Cm (⟨t, val vs, j⟩ : Dy)).e (Cm (⟨s, val us, i⟩ : Dy)).e P g false w' a1 a2 g1 g2 hk2 hn hn' (by have := g1.len; omega) (by have := g2.len; omega) e0 f0 (by rw [q1]; exact j0) (by rw [q2]; exact i0)
   rw [hnb C n6 c6 C' n7 c7, w1, w2] at H
   rw [hoo]
   exact H
  have NG := Be NG
  have AD := Be AD
  generalize (Cm (⟨t, val vs, j⟩ : Dy)) = N1 at *
  generalize (Cm (⟨s, val us, i⟩ : Dy)) = N2 at *
  obtain ⟨ns1, nm1, ne1⟩ := N1
  obtain ⟨ns2, nm2, ne2⟩ := N2
  clear p1 p2 p3 p4 TP TQ TR w1 w2 z1 z2 q1 q2 hng hoo hnb hcut tbf
  go_enter Tryz.func15, Tryz.ntmps15
  go_wp2_with fail
  refine TK.out.mono ?_
  rintro r w6 ⟨rfl, hk6, g6⟩
  have xsa6 := xsa.grown g6 (show w.heap.size ≠ g by omega)
  have xsb6 := xsb.grown g6 (show w.heap.size + 1 ≠ g by omega)
  have xr6 := xr.grown g6 (show w.heap.size + 1 + 1 ≠ g by omega)
  have gw := Bi (Bv b5 (some g)) g6
  have hA := hk.arr h gw
  have hA' := hk.arr h' gw
  have hC := hk.arr hB gw
  have hC' := hk.arr hB' gw
  have KC : ∀ w', w6.grownBy w' (some g) → ((w'.cell? ⟨w.heap.size, 0, none⟩ = some (.bool p) ∧ w'.cell? ⟨w.heap.size, 1, none⟩ = some (.slice A n c) ∧ w'.cell? ⟨w.heap.size, 2, none⟩ = some (.int .i64 e) ∧ w'.cell? ⟨w.heap.size, 3, none⟩ = some (.bool q) ∧ w'.cell? ⟨w.heap.size, 4, none⟩ = some (.slice A' n' c') ∧ w'.cell? ⟨w.heap.size, 5, none⟩ = some (.int .i64 f)) ∧ w'.cell? ⟨w.heap.size + 1, 0, none⟩ = some (.bool s) ∧ w'.cell? ⟨w.heap.size + 1, 1, none⟩ = some (.slice B m k) ∧ w'.cell? ⟨w.heap.size + 1, 2, none⟩ = some (.int .i64 i) ∧ w'.cell? ⟨w.heap.size + 1, 3, none⟩ = some (.bool t) ∧ w'.cell? ⟨w.heap.size + 1, 4, none⟩ = some (.slice B' m' k') ∧ w'.cell? ⟨w.heap.size + 1, 5, none⟩ = some (.int .i64 j)) := by
   intro w' hb
   obtain ⟨z0, z1, z2, z3, z4, z5, -⟩ := (xsa6.grown hb (show w.heap.size ≠ g by omega)).cell6
   obtain ⟨y0, y1, y2, y3, y4, y5, -⟩ := (xsb6.grown hb (show w.heap.size + 1 ≠ g by omega)).cell6
   exact ⟨⟨z0, z1, z2, z3, z4, z5⟩, ⟨y0, y1, y2, y3, y4, y5⟩⟩
  have KX : ∀ w' W1, w6.grownBy w' (some g) → w'.grownBy W1 (some (w.heap.size + 1 + 1)) → ((W1.cell? ⟨w.heap.size, 0, none⟩ = some (.bool p) ∧ W1.cell? ⟨w.heap.size, 1, none⟩ = some (.slice A n c) ∧ W1.cell? ⟨w.heap.size, 2, none⟩ = some (.int .i64 e) ∧ W1.cell? ⟨w.heap.size, 3, none⟩ = some (.bool q) ∧ W1.cell? ⟨w.heap.size, 4, none⟩ = some (.slice A' n' c') ∧ W1.cell? ⟨w.heap.size, 5, none⟩ = some (.int .i64 f)) ∧ W1.cell? ⟨w.heap.size + 1, 0, none⟩ = some (.bool s) ∧ W1.cell? ⟨w.heap.size + 1, 1, none⟩ = some (.slice B m k) ∧ W1.cell? ⟨w.heap.size + 1, 2, none⟩ = some (.int .i64 i) ∧ W1.cell? ⟨w.heap.size + 1, 3, none⟩ = some (.bool t) ∧ W1.cell? ⟨w.heap.size + 1, 4, none⟩ = some (.slice B' m' k') ∧ W1.cell? ⟨w.heap.size + 1, 5, none⟩ = some (.int .i64 j)) := by
   intro w' W1 hb gW1
   obtain ⟨z0, z1, z2, z3, z4, z5, -⟩ := ((xsa6.grown hb (show w.heap.size ≠ g by omega)).grown gW1 (by omega)).cell6
   obtain ⟨y0, y1, y2, y3, y4, y5, -⟩ := ((xsb6.grown hb (show w.heap.size + 1 ≠ g by omega)).grown gW1 (by omega)).cell6
   exact ⟨⟨z0, z1, z2, z3, z4, z5⟩, ⟨y0, y1, y2, y3, y4, y5⟩⟩
  have RT : ∀ w' X n1 c1 Y n2 c2, Arr w' X n1 c1 (wd (oo.getD (Dy.zero, Dy.zero)).1.m) → Arr w' Y n2 c2 (wd (oo.getD (Dy.zero, Dy.zero)).2.m) → Wk w' g P oo.isNone 38 → w6.grownBy w' (some g) → ∀ W1, w'.grownBy W1 (some (w.heap.size + 1 + 1)) → Dx oo g P 38 w (.returned (.agg #[.bool (oo.getD (Dy.zero, Dy.zero)).1.neg, .slice X n1 c1, .int .i64 (oo.getD (Dy.zero, Dy.zero)).1.e, .bool (oo.getD (Dy.zero, Dy.zero)).2.neg, .slice Y n2 c2, .int .i64 (oo.getD (Dy.zero, Dy.zero)).2.e])) W1 := by
   intro w' X n1 c1 Y n2 c2 g1 g2 hk' hG W1 gW1
   exact Ff g1 g2 (xr6.grown hG (show w.heap.size + 1 + 1 ≠ g by omega)) hk' (Bi gw hG) (show g ≠ w.heap.size + 1 + 1 by omega) (by omega) gW1
  have XR := Be (fun w' (hG : w6.grownBy w' (some g)) => xr6.grown hG (show w.heap.size + 1 + 1 ≠ g by omega))
  have KC := Be KC
  have KX := Be KX
  have RT := Be RT
  have gd : w6.grownBy w6.drew (some g) := Ce (Do _ _)
  clear k0 k1 k2 k3 k4 k5 jj0 jj1 jj2 jj3 jj4 jj5
  go_wp2_with fail
  refine wp_region_noPanic ?_
  refine wp_region_held_drew (S := fun w' => ((w'.cell? ⟨w.heap.size, 0, none⟩ = some (.bool p) ∧ w'.cell? ⟨w.heap.size, 1, none⟩ = some (.slice A n c) ∧ w'.cell? ⟨w.heap.size, 2, none⟩ = some (.int .i64 e) ∧ w'.cell? ⟨w.heap.size, 3, none⟩ = some (.bool q) ∧ w'.cell? ⟨w.heap.size, 4, none⟩ = some (.slice A' n' c') ∧ w'.cell? ⟨w.heap.size, 5, none⟩ = some (.int .i64 f)) ∧ w'.cell? ⟨w.heap.size + 1, 0, none⟩ = some (.bool s) ∧ w'.cell? ⟨w.heap.size + 1, 1, none⟩ = some (.slice B m k) ∧ w'.cell? ⟨w.heap.size + 1, 2, none⟩ = some (.int .i64 i) ∧ w'.cell? ⟨w.heap.size + 1, 3, none⟩ = some (.bool t) ∧ w'.cell? ⟨w.heap.size + 1, 4, none⟩ = some (.slice B' m' k') ∧ w'.cell? ⟨w.heap.size + 1, 5, none⟩ = some (.int .i64 j))) (by kernel_rfl) (KC.out _ gd) (fun hHeld => ?_)
  (refine Bj 0 14 rfl ?_; (try simp only [Act.put, Bf]))
  (refine Bj 1 15 rfl ?_; (try simp only [Act.put, Bf]))
  (refine Bj 2 16 rfl ?_; (try simp only [Act.put, Bf]))
  (refine Bj 3 17 rfl ?_; (try simp only [Act.put, Bf]))
  refine Bw 4 rfl (fun K hK => ?_)
  go_simp
  go_at_call 40
  refine (NG.out _ (hk6.arr hC gd) (hk6.arr hC' gd) (hk6.later (Below.drew (Bb _)))).mono ?_
  rintro r w7 ⟨A1, n1, c1, A2, n2, c2, rfl, a1, a2, hk7, g7⟩
  have gd := Bi gd g7
  (refine hK.out _ _ (KC.out _ gd) (fun _ => ?_); clear hHeld hK K; rename_i hHeld; (try simp only [Act.put, Bf]))
  refine Bw 5 rfl (fun K hK => ?_)
  go_simp
  go_at_call 13
  refine (AD.out _ _ _ _ _ _ _ hk7 (hk6.arr hA gd) (hk6.arr hA' gd) a1 a2).mono ?_
  rintro r w8 ⟨A3, n3, c3, A4, n4, c4, rfl, a3, a4, hk8, g8⟩
  have gd := Bi gd g8
  (refine hK.out _ _ (KC.out _ gd) (fun _ => ?_); clear hHeld hK K; rename_i hHeld; (try simp only [Act.put, Bf]))
  refine Bw 6 rfl (fun K hK => ?_)
  refine Bz rfl _ _ rfl rfl (w.heap.size + 1 + 1) _ A3 n3 c3 _ _ A4 n4 c4 _ (XR.out _ gd) rfl rfl (fun W1 y1 gW1 => ?_)
  (refine hK.out _ _ (KX.out _ _ gd gW1) (fun _ => ?_); clear hHeld hK K; rename_i hHeld; (try simp only [Act.put, Bf]))
  refine Cn ?_
  obtain ⟨u0, u1, u2, u3, u4, u5, -⟩ := y1.cell6
  go_wp2_with fail
  refine bodyPost_ret (v := _) ?_ rfl (RT.out _ _ _ _ _ _ _ a3 a4 hk8 gd _ gW1)
  simp [results, Tryz.results15, go_sem, u0, u1, u2, u3, u4, u5]
 ·have ho : Fn true (Dt P false (⟨p, val xs, e⟩ : Dy) (Cm (⟨t, val vs, j⟩ : Dy))) (Dt P true (⟨q, val ys, f⟩ : Dy) (Cm (⟨s, val us, i⟩ : Dy))) = none := rfl
  rw [ho]
  go_enter Tryz.func15, Tryz.ntmps15
  go_wp2_with fail
  refine TK.out.mono ?_
  rintro r w6 ⟨rfl, hk6, g6⟩
  have xr6 := xr.grown g6 (show w.heap.size + 1 + 1 ≠ g by omega)
  have gw := Bi (Bv b5 (some g)) g6
  go_wp2_with (refine Bt rfl _ _ rfl rfl (w.heap.size + 1 + 1) false none 0 0 0 false none 0 0 0 xr6 rfl rfl (fun W1 y1 gW1 => ?_); have hk9 := hk6.other gW1 (show g ≠ w.heap.size + 1 + 1 by omega); obtain ⟨u0, u1, u2, u3, u4, u5, -⟩ := y1.cell6)
  refine bodyPost_ret (v := .agg #[.bool false, .slice none 0 0, .int .i64 0, .bool false, .slice none 0 0, .int .i64 0]) ?_ rfl (Cl hk9 (Cd gw gW1 (by omega)))
  simp [results, Tryz.results15, go_sem, u0, u1, u2, u3, u4, u5]
def Fa (l : List DV) : List Value := l.flatMap fun d => d.cells.toList
theorem Wq (l : List DV) : (Fa l).length = l.length * 3 := by
 induction l with
 | nil => rfl
 | cons d r ih => simp only [Fa, List.flatMap_cons, List.length_append, List.length_cons] at ih ⊢; rw [ih]; simp [DV.cells]; omega
theorem Rd (l : List DV) (d : DV) : Fa (l ++ [d]) = Fa l ++ d.cells.toList := by simp [Fa]
theorem Wp (l : List DV) (j i : Nat) (hj : j < l.length) (hi : i < 3) : (Fa l)[j * 3 + i]? = (l[j]).cells.toList[i]? := by
 induction l generalizing j with
 | nil => simp at hj
 | cons d r ih =>
  have hd : d.cells.toList.length = 3 := rfl
  rw [show Fa (d :: r) = d.cells.toList ++ Fa r from rfl]
  cases j with
  | zero => rw [List.getElem?_append_left (by omega)]; simp
  | succ j =>
   rw [List.getElem?_append_right (by omega), hd, show (j + 1) * 3 + i - 3 = j * 3 + i by omega, ih j (by simpa using hj)]
   rfl
def OwnD (w : World) (base : Nat) (v : Value) (l : List DV) : Prop :=
 (v = .slice none 0 0 ∧ l = []) ∨ ∃ g cap cur, v = .slice (some ⟨g, 0, none⟩) l.length cap ∧ base ≤ g ∧ Box w g cur 26 ∧ (∀ (i : Nat) (x : Int), cur[i]? ≠ some (Value.int .u64 x)) ∧ l.length ≤ cap ∧ cap ≤ maxLen ∧ cur.size = cap * 3 ∧ cur.toList.take (l.length * 3) = Fa l
theorem Bd7 : (Tryz.prog.info? 26).map (fun i => (i.zero, i.size, i.bytes)) = some (some (.agg #[.bool false, .slice none 0 0, .int .i64 0]), 3, 40) := by kernel_rfl
theorem OwnD.lt {w : World} {base : Nat} {v : Value} {l : List DV} (h : OwnD w base v l) : ∀ k, v.ownBlock = some k → base ≤ k ∧ k < w.heap.size := by
 intro k hk
 rcases h with ⟨rfl, _⟩ | ⟨g, cap, cur, rfl, hb, hg, _⟩
 ·simp [Value.ownBlock] at hk
 ·simp only [Value.ownBlock, Option.some.injEq] at hk
  subst hk
  exact ⟨hb, hg.lt⟩
theorem OwnD.later {w w' : World} {base : Nat} {v : Value} {l : List DV} (h : OwnD w base v l) (hb : Below w.heap.size w w') : OwnD w' base v l := by
 rcases h with h | ⟨g, cap, cur, h1, h2, h3, h4⟩
 ·exact .inl h
 ·exact .inr ⟨g, cap, cur, h1, h2, h3.later hb, h4⟩
theorem OwnD.beside {w w' : World} {base : Nat} {v u : Value} {l : List DV} (h : OwnD w base v l) (hg : w.grownBy w' u.ownBlock) (hs : ∀ k, v.ownBlock = some k → u.ownBlock ≠ some k) : OwnD w' base v l := by
 rcases h with h | ⟨g, cap, cur, rfl, h2, h3, h4⟩
 ·exact .inl h
 ·refine .inr ⟨g, cap, cur, rfl, h2, ⟨?_⟩, h4⟩
  rw [hg.block g h3.lt (fun e => hs g rfl e.symm)]
  exact h3.heap
theorem OwnD.arr {w w' : World} {base : Nat} {v : Value} {l : List DV} (h : OwnD w base v l) {A : Option Addr} {n c : Nat} {xs : List Int} (ha : Arr w A n c xs) (hg : w.grownBy w' v.ownBlock) : Arr w' A n c xs := by
 rcases h with ⟨rfl, _⟩ | ⟨g, cap, cur, rfl, h2, h3, h4, _⟩
 ·exact ha.below (Cf hg (Nat.le_refl _) (fun k hk => by simp [Value.ownBlock] at hk))
 ·exact ha.grown h3 h4 hg
theorem OwnD.below {w w' : World} {base : Nat} {v : Value} {l : List DV} (h : OwnD w base v l) (hg : w.grownBy w' v.ownBlock) (hb : base ≤ w.heap.size) : Below base w w' := Cf hg hb (fun k hk => (h.lt k hk).1)
theorem Kb {a b : Array Value} (ha : ∀ (i : Nat) (x : Int), a[i]? ≠ some (Value.int .u64 x)) (hb : ∀ (i : Nat) (x : Int), b[i]? ≠ some (Value.int .u64 x)) : ∀ (i : Nat) (x : Int), (a ++ b)[i]? ≠ some (Value.int .u64 x) := by
 intro i x
 rw [Array.getElem?_append]
 split
 ·exact ha i x
 ·exact hb _ x
theorem Bdh (n : Nat) : ∀ (i : Nat) (x : Int), (Builtin.zeroCells #[.bool false, .slice none 0 0, .int .i64 0] n)[i]? ≠ some (Value.int .u64 x) := by
 intro i x hx
 simp only [Builtin.zeroCells, Array.getElem?_map] at hx
 obtain ⟨k, -, hk⟩ := Option.map_eq_some_iff.1 hx
 have h3 : k % 3 = 0 ∨ k % 3 = 1 ∨ k % 3 = 2 := by omega
 have hs : (#[Value.bool false, Value.slice none 0 0, Value.int IntKind.i64 0] : Array Value).size = 3 := rfl
 rw [hs] at hk
 rcases h3 with h | h | h <;> rw [h] at hk <;> simp at hk
theorem Qq (d : DV) : ∀ (i : Nat) (x : Int), d.cells[i]? ≠ some (Value.int .u64 x) := no3 (by simp) (by simp) (by simp)
theorem Xd {l : List Value} {cur : Array Value} (h : ∀ (i : Nat) (x : Int), cur[i]? ≠ some (Value.int .u64 x)) (hm : ∀ v ∈ l, v ∈ cur.toList) : ∀ (i : Nat) (x : Int), l.toArray[i]? ≠ some (Value.int .u64 x) := by
 intro i x hx
 rw [List.getElem?_toArray] at hx
 obtain ⟨j, hj, e⟩ := List.mem_iff_getElem.1 (hm _ (List.mem_of_getElem? hx))
 apply h j x
 rw [← Array.getElem?_toList, List.getElem?_eq_getElem hj, e]
theorem Bhy (l : List DV) : ∀ (i : Nat) (x : Int), (Fa l).toArray[i]? ≠ some (Value.int .u64 x) := by
 intro i x hx
 rw [List.getElem?_toArray] at hx
 obtain ⟨d, -, hd⟩ := List.mem_flatMap.1 (List.mem_of_getElem? hx)
 obtain ⟨j, hj, e⟩ := List.mem_iff_getElem.1 hd
 apply Qq d j x
 rw [← Array.getElem?_toList, List.getElem?_eq_getElem hj, e]
theorem Bej (w : World) (base : Nat) (v : Value) (l : List DV) (d : DV) (k c : Nat) (t ty : TypeId) (h : OwnD w base v l) (hb : Box w k d.cells t) (hl : l.length ≤ 1000) (hbase : base ≤ w.heap.size) :
  ∃ v' w', (Builtin.append_ #[62, 62] ty #[v, .slice (some ⟨k, 0, none⟩) 1 c]).run Tryz.prog w = .ok v' w' ∧ OwnD w' base v' (l ++ [d]) ∧ w.grownBy w' v.ownBlock ∧
   (v'.ownBlock = v.ownBlock ∨ v'.ownBlock = some w.heap.size) := by
 obtain ⟨i0, hi, hz0, hz1, hz2⟩ := info_parts Bd7
 have hnews : ∀ (j : Nat) u, d.cells.toList[j]? = some u → w.cell? ((⟨k, 0, none⟩ : Addr).add j) = some u := by
  intro j u hu
  have hadd : (⟨k, 0, none⟩ : Addr).add j = ⟨k, j, none⟩ := by unfold Addr.add; split <;> simp_all
  rw [hadd, hb.cell j, ← hu, Array.getElem?_toList]
 have h3 : d.cells.toList.length = 3 := rfl
 have h1 : ∀ u ∈ d.cells.toList, u.oneCell' = true := by
  intro u hu
  simp [DV.cells] at hu
  rcases hu with rfl | rfl | rfl <;> rfl
 have hnl : d.cells.toList.length = 1 * i0.size := by rw [hz1]; exact h3
 have hlast : (l ++ [d]).length = l.length + 1 := by simp
 have hdv := Wq l
 have grown : ∀ (cap : Nat), l.length + 1 ≤ cap → cap ≤ maxLen → ∀ (row : Option Nat) (cur : Array Value), cur = (Fa l).toArray ++ d.cells.toList.toArray ++ Builtin.zeroCells (Value.cells (.agg #[.bool false, .slice none 0 0, .int .i64 0])) (cap - (l.length + 1)) →
   OwnD (w.drew.alloc (.cells cur 26)) base (.slice (some ⟨w.heap.size, 0, none⟩) (l.length + 1) cap) (l ++ [d]) ∧ w.grownBy (w.drew.alloc (.cells cur 26)) row := by
  intro cap h1 h2 row cur hc
  refine ⟨.inr ⟨w.heap.size, cap, cur, by rw [hlast], hbase, ⟨heap_alloc_new w.drew _⟩, ?_, by rw [hlast]; exact h1, h2, ?_, ?_⟩, ⟨rfl, rfl, rfl, by simp, fun k hk _ => heap_alloc_old w.drew _ hk⟩⟩
  ·rw [hc]
   exact Kb (Kb (Bhy l) (by simpa using Qq d)) (Bdh _)
  ·rw [hc]
   simp only [Array.size_append, List.size_toArray, size_zeroCells, hdv, h3, Value.cells]
   show l.length * 3 + 3 + (cap - (l.length + 1)) * 3 = cap * 3
   omega
  ·rw [hc, Rd]
   simp only [Array.toList_append, List.append_assoc]
   rw [← List.append_assoc]
   have hlen : (Fa l ++ d.cells.toList).length = (l ++ [d]).length * 3 := by rw [List.length_append, hdv, h3, hlast]; omega
   rw [← hlen]
   exact List.take_left
 rcases h with ⟨rfl, rfl⟩ | ⟨g, cap, cur, rfl, hbg, hg, hnu, hnc, hcm, hcs, htake⟩
 ·have hr := run_append_nil (P := Tryz.prog) w 62 ty 26 i0 _ Tryz.underlying62 hi hz0 ⟨k, 0, none⟩ 1 c d.cells.toList hnl hnews (by omega) (by omega) (by rw [hz2]; omega)
  have hgr := grown _ (by simpa using grownCap_ge w 1 0 26) (grownCap_le_maxLen w 1 0 26 (by unfold maxLen; omega)) (Value.ownBlock (.slice none 0 0)) _ rfl
  simp only [List.length_nil, Nat.zero_add, Fa, List.flatMap_nil, Array.empty_append] at hgr
  exact ⟨_, _, hr, hgr.1, hgr.2, .inr rfl⟩
 ·by_cases hroom : l.length + 1 ≤ cap
  ·have hfit : l.length * i0.size + d.cells.toList.length ≤ cur.size := by rw [hz1, h3, hcs]; omega
   have hr := run_append_room (P := Tryz.prog) w 62 ty 26 i0 Tryz.underlying62 hi g l.length cap cur hg.heap ⟨k, 0, none⟩ 1 c d.cells.toList hnl hnews h1 hroom hfit
   rw [hz1, h3] at hr
   refine ⟨_, _, hr, .inr ⟨g, cap, _, by rw [hlast], hbg, ⟨setRow_heap w g cur _ 26 _ hg.heap⟩, ?_, by rw [hlast]; exact hroom, hcm, ?_, ?_⟩, ⟨rfl, rfl, rfl, by simp, fun k _ hk => setRow_other w g k _ (fun e => hk (by simp [Value.ownBlock, e]))⟩, .inl rfl⟩
   ·rw [← List.append_toArray, ← List.append_toArray]
    exact Kb (Kb (Xd hnu fun v hv => List.mem_of_mem_take hv) (by simpa using Qq d)) (Xd hnu fun v hv => List.mem_of_mem_drop hv)
   ·simp only [List.size_toArray, List.length_append, List.length_take, List.length_drop, Array.length_toList, h3]
    omega
   ·rw [htake, Rd]
    have hlen : (Fa l ++ d.cells.toList).length = (l ++ [d]).length * 3 := by rw [List.length_append, hdv, h3, hlast]; omega
    rw [← hlen]
    exact List.take_left
  ·have holds : ∀ (j : Nat) u, (Fa l)[j]? = some u → w.cell? ((⟨g, 0, none⟩ : Addr).add j) = some u := by
    intro j u hu
    have hadd : (⟨g, 0, none⟩ : Addr).add j = ⟨g, j, none⟩ := by unfold Addr.add; split <;> simp_all
    rw [hadd, hg.cell j]
    rw [← htake, List.getElem?_take] at hu
    split at hu
    ·simpa using hu
    ·cases hu
   have hr := run_append_grow (P := Tryz.prog) w 62 ty 26 i0 _ Tryz.underlying62 hi hz0 ⟨g, 0, none⟩ l.length cap (Fa l) (by rw [hdv, hz1]) holds ⟨k, 0, none⟩ 1 c d.cells.toList hnl hnews (by omega) (by omega) (growslice_fits (by omega) (by rw [hz2]; omega))
   have hgr := grown _ (grownCap_ge w (l.length + 1) cap 26) (grownCap_le_maxLen w (l.length + 1) cap 26 (by unfold maxLen; omega)) (Value.ownBlock (.slice (some ⟨g, 0, none⟩) l.length cap)) _ rfl
   exact ⟨_, _, hr, hgr.1, hgr.2, .inr rfl⟩
theorem Wa {w : World} {ops : Array Oper} {rest : List Oper} {o : Oper} {a : Act} {Q : Exit → Act → World → Prop} (hgd : o.guard = none) (s x : Operand)
  (ho : o.op = .call { callee := .builtin .append, args := #[s, x], argTypes := #[62, 62] }) (base : Nat) (v : Value) (l : List DV) (hs : a.eval s = v) (h : OwnD w base v l)
  (d : DV) (k c : Nat) (t : TypeId) (hx : a.eval x = .slice (some ⟨k, 0, none⟩) 1 c) (hb : Box w k d.cells t) (hl : l.length ≤ 1000) (hbase : base ≤ w.heap.size)
  (hK : ∀ v' w', OwnD w' base v' (l ++ [d]) → w.grownBy w' v.ownBlock → (v'.ownBlock = v.ownBlock ∨ v'.ownBlock = some w.heap.size) → wpList Tryz.prog ops Q rest (a.put o.dst v') w') : wpList Tryz.prog ops Q (o :: rest) a w := by
 obtain ⟨v', w', hr, h2, h3, h4⟩ := Bej w base v l d k c t o.type h hb hl hbase
 refine wpList_plain hgd fun K hk => ?_
 unfold Oper.wp execOp
 simp only [ho, resolve, invoke, builtin, Sem.run_bind, Sem.run_pure, Result.andThen_ok, List.map_toArray, List.map_cons, List.map_nil, hs, hx, hr]
 exact hk _ _ (hK v' w' h2 h3 h4)
theorem OwnD.dvs {w : World} {base : Nat} {v : Value} {l : List DV} (h : OwnD w base v l) (hl : 0 < l.length) (hok : ∀ j (hj : j < l.length), (l[j]).ok w) : ∃ g cap, v = .slice (some ⟨g, 0, none⟩) l.length cap ∧ DVs w g l := by
 rcases h with ⟨_, rfl⟩ | ⟨g, cap, cur, rfl, _, hg, _, _, _, _, htake⟩
 ·simp at hl
 ·have hc : ∀ j (hj : j < l.length) i, i < 3 → w.cell? ⟨g, j * 3 + i, none⟩ = (l[j]).cells.toList[i]? := fun j hj i hi => by
   rw [hg.cell, ← Wp l j i hj hi, ← htake, List.getElem?_take, if_pos (by omega), Array.getElem?_toList]
  exact ⟨g, cap, rfl, hg.lt, hok, fun j hj => hc j hj 0 (by omega), fun j hj => hc j hj 1 (by omega), fun j hj => hc j hj 2 (by omega)⟩
end Go.Proofs.YteffemhapnbaeaaGreatDoor
