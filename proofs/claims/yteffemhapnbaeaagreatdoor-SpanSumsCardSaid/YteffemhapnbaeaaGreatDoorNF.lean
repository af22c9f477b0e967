/- A text of ours, with only what the claim's row needs (wip/tools/shake.py). -/
import Derived.Test.YteffemhapnbaeaaGreatDoorNK
import Derived.Test.YteffemhapnbaeaaGreatDoorMS
import Derived.Test.YteffemhapnbaeaaGreatDoorNC
import Derived.Test.YteffemhapnbaeaaGreatDoorNI
import Derived.Deep.RegionHeld3
import Derived.Test.YteffemhapnbaeaaGreatDoorNJ
import Derived.Test.YteffemhapnbaeaaGreatDoorND
import Derived.Test.YteffemhapnbaeaaGreatDoorMX
namespace Go.Proofs.YteffemhapnbaeaaGreatDoor
open Go.RowKit Num
set_option linter.unusedSimpArgs false
set_option linter.unusedVariables false
set_option maxRecDepth 100000

theorem lev_lt {m e L : Int} {a k : Nat} (h0 : 0 ≤ m) (hm : m < pw a) (he : (e - L).toNat ≤ k) : lev m e L < pw (a + k) := by
  unfold lev
  rw [pw_add]
  have h1 : pw (e - L).toNat ≤ pw k := pw_le he
  have h2 : m * pw (e - L).toNat ≤ m * pw k := Int.mul_le_mul_of_nonneg_left h1 h0
  have h3 : m * pw k < pw a * pw k := Int.mul_lt_mul_of_pos_right hm (pw_pos k)
  omega
theorem PlD.lt {D : Dy} (h : PlD D) : D.m < pw 16384 := by
  have := lt_pow_of_wd_length h.2 h.bounds.1
  rw [B_pow_pw] at this
  exact this
theorem len_of_pw {v : Int} {a k : Nat} (h0 : 0 ≤ v) (hv : v < pw a) (hk : a ≤ 64 * k) : (wd v).length ≤ k := by
  refine wd_length_le h0 ?_
  rw [B_pow_pw]
  exact Int.lt_of_lt_of_le hv (pw_le hk)
theorem sval_abs {D : Dy} (h : 0 ≤ D.m) (L : Int) : ((sval D L).natAbs : Int) = lev D.m D.e L := by
  have h1 := lev_nonneg h D.e L
  unfold sval sgn
  split <;> omega
theorem pw_succ2 (k : Nat) : pw (k + 1) = pw k + pw k := by
  rw [pw_add]
  have : pw 1 = 2 := by decide
  rw [this]; omega
theorem can_small {S L : Int} {k : Nat} (h : ((S.natAbs : Nat) : Int) < pw (64 * k)) : (wd (canD S L).m).length ≤ k ∧ 0 ≤ (canD S L).m ∧ (S ≠ 0 → L ≤ (canD S L).e ∧ (canD S L).e ≤ L + 64 * k) ∧ (S = 0 → (canD S L).e = 0) := by
  refine ⟨?_, canD_m S L, ?_, ?_⟩
  · by_cases h0 : S = 0
    · unfold canD; rw [if_pos h0, wd_zero_m]; exact Nat.zero_le _
    · rw [(canD_e h0 (L := L)).2.2]
      have h1 := oddI_le (v := (S.natAbs : Int)) (by omega)
      exact len_of_pw (oddI_nonneg (by omega)) (Int.lt_of_le_of_lt h1 h) (Nat.le_refl _)
  · intro h0
    obtain ⟨q1, q2, -⟩ := canD_e h0 (L := L)
    refine ⟨q1, ?_⟩
    rw [q2]
    have hl := len_of_pw (v := (S.natAbs : Int)) (by omega) h (Nat.le_refl _)
    have ht := tz_lt (xs := wd (S.natAbs : Int)) (wf_wd _ (by omega)) (by rw [val_wd _ (by omega)]; omega)
    rw [val_wd _ (by omega)] at ht
    have : (64 * (wd (S.natAbs : Int)).length : Nat) ≤ 64 * k := Nat.mul_le_mul_left _ hl
    omega
  · intro h0
    unfold canD; rw [if_pos h0]; rfl
theorem addC_small {a b : Dy} (ha : PlD a) (hb : PlD b) (ea : -100000 ≤ a.e ∧ a.e ≤ 100000) (eb : -100000 ≤ b.e ∧ b.e ≤ 100000) :
    (wd (addC a b).m).length ≤ 3400 ∧ 0 ≤ (addC a b).m ∧ -100000 ≤ (addC a b).e ∧ (addC a b).e ≤ 400000 ∧ (wd (lev a.m a.e (sideE a.m b.m a.e b.e))).length ≤ 3400 ∧ (wd (lev b.m b.e (sideE a.m b.m a.e b.e))).length ≤ 3400 := by
  have key : ∀ (D : Dy) (L : Int), PlD D → D.e - L ≤ 200000 → lev D.m D.e L < pw (16384 + 200000) := fun D L h hL => lev_lt h.2 h.lt (by omega)
  have hs : -100000 ≤ sideE a.m b.m a.e b.e ∧ sideE a.m b.m a.e b.e ≤ 100000 := by unfold sideE; split <;> (try split) <;> omega
  obtain ⟨L, hL⟩ : ∃ L, L = min a.e b.e := ⟨_, rfl⟩
  have hC := addC_can a b L (.inr (by omega)) (.inr (by omega))
  have s1 := sval_abs ha.2 L
  have s2 := sval_abs hb.2 L
  have k1 := key a L ha (by omega)
  have k2 := key b L hb (by omega)
  have k3 := key a (sideE a.m b.m a.e b.e) ha (by omega)
  have k4 := key b (sideE a.m b.m a.e b.e) hb (by omega)
  have n3 := lev_nonneg ha.2 a.e (sideE a.m b.m a.e b.e)
  have n4 := lev_nonneg hb.2 b.e (sideE a.m b.m a.e b.e)
  have hK : (16384 + 200000 : Nat) + 1 ≤ 64 * 3400 := by decide
  have hK2 : (16384 + 200000 : Nat) ≤ 64 * 3400 := by decide
  have q3 := len_of_pw n3 k3 hK2
  have q4 := len_of_pw n4 k4 hK2
  generalize (16384 + 200000 : Nat) = K at *
  have hS : (((sval a L + sval b L).natAbs : Nat) : Int) < pw (64 * 3400) := by
    refine Int.lt_of_lt_of_le ?_ (pw_le hK)
    rw [pw_succ2]
    omega
  have hc := can_small (L := L) hS
  rw [← hC] at hc
  obtain ⟨c1, c2, c3, c4⟩ := hc
  refine ⟨c1, c2, ?_, ?_, q3, q4⟩
  · by_cases h0 : sval a L + sval b L = 0
    · rw [c4 h0]; omega
    · have := (c3 h0).1; omega
  · by_cases h0 : sval a L + sval b L = 0
    · rw [c4 h0]; omega
    · have := (c3 h0).2; omega
def bothO (P : Int) (up : Bool) (a b : Dy) : Option Dy := cutD (addC a b).neg (addC a b).m (addC a b).e false P up
theorem rboth (p q : Bool) (A A' : Option Addr) (n c n' c' : Nat) (x y e f P : Int) (up : Bool) (w : World) (h : Arr w A n c (wd x)) (h' : Arr w A' n' c' (wd y)) (ha : PlD ⟨p, x, e⟩) (hb : PlD ⟨q, y, f⟩) (e0 : -100000 ≤ e) (e1 : e ≤ 100000) (f0 : -100000 ≤ f) (f1 : f ≤ 100000) (P0 : 1 ≤ P) (P1 : P ≤ 8192) :
    Calls Tryz.prog 37 #[.agg #[.bool p, .slice A n c, .int .i64 e], .agg #[.bool q, .slice A' n' c', .int .i64 f], .int .i64 P, .bool up] w (RetD (bothO P up ⟨p, x, e⟩ ⟨q, y, f⟩) w) := by
  have b1 : Below w.heap.size w (((w.alloc (.cells #[.bool p, .slice A n c, .int .i64 e] 26)).alloc (.cells #[.bool q, .slice A' n' c', .int .i64 f] 26)).alloc (.cells #[.bool false, .slice none 0 0, .int .i64 0] 26)) := below_alloc (below_alloc (below_alloc (below_self w) _) _) _
  have xa := (box_new w #[.bool p, .slice A n c, .int .i64 e] 26).later (below_alloc (below_alloc (below_self _) (.cells #[.bool q, .slice A' n' c', .int .i64 f] 26)) (.cells #[.bool false, .slice none 0 0, .int .i64 0] 26))
  have xb := (box_new (w.alloc (.cells #[.bool p, .slice A n c, .int .i64 e] 26)) #[.bool q, .slice A' n' c', .int .i64 f] 26).later (below_alloc (below_self _) (.cells #[.bool false, .slice none 0 0, .int .i64 0] 26))
  rw [show (w.alloc (.cells #[.bool p, .slice A n c, .int .i64 e] 26)).heap.size = w.heap.size + 1 by simp] at xb
  have xr := box_new ((w.alloc (.cells #[.bool p, .slice A n c, .int .i64 e] 26)).alloc (.cells #[.bool q, .slice A' n' c', .int .i64 f] 26)) #[.bool false, .slice none 0 0, .int .i64 0] 26
  rw [show ((w.alloc (.cells #[.bool p, .slice A n c, .int .i64 e] 26)).alloc (.cells #[.bool q, .slice A' n' c', .int .i64 f] 26)).heap.size = w.heap.size + 1 + 1 by simp] at xr
  obtain ⟨s1, s2, s3, s4, s5, s6⟩ := addC_small ha hb ⟨e0, e1⟩ ⟨f0, f1⟩
  have hn := h.len
  have hn' := h'.len
  have ba := ha.bounds
  have bb := hb.bounds
  simp only at ba bb s5 s6
  have AD := radd02 p q A A' n c n' c' x y e f _ (h.below b1) (h'.below b1) ba.2.2.2.1 bb.2.2.2.1 (by omega) (by omega) (by omega) (by omega) (by omega) (by omega) (.inr (.inr ⟨by omega, by omega⟩)) (fun hz => by
    have := ba.2.2.2.2 hz
    have h2 : p = false := congrArg Dy.neg this
    exact h2) (by omega) (by omega)
  have hbo : bothO P up ⟨p, x, e⟩ ⟨q, y, f⟩ = cutD (addC ⟨p, x, e⟩ ⟨q, y, f⟩).neg (addC ⟨p, x, e⟩ ⟨q, y, f⟩).m (addC ⟨p, x, e⟩ ⟨q, y, f⟩).e false P up := rfl
  rw [hbo]
  clear hbo ha hb ba bb s5 s6 hn hn'
  generalize addC ⟨p, x, e⟩ ⟨q, y, f⟩ = S at *
  obtain ⟨sn, sm, se⟩ := S
  simp only at s1 s2 s3 s4 ⊢
  have vS := val_wd sm s2
  have CT := fun w' B k j (hB : Arr w' B k j (wd sm)) => rcutting sn B k j (wd sm) se false P up w' hB (by rw [← hB.len]; omega) (by omega) (by omega) P0 (by omega)
  rw [vS] at CT
  obtain ⟨oo, ho⟩ : ∃ oo, oo = cutD sn sm se false P up := ⟨_, rfl⟩
  rw [← ho] at CT ⊢
  have AD := Lib.hid AD
  have CT := Lib.hid CT
  obtain ⟨k0, k1, k2, f0', f1', f2'⟩ := xa.cell3
  obtain ⟨j0, j1, j2, g0, g1, g2⟩ := xb.cell3
  clear s1 s2 s3 s4 vS ho
  go_enter Tryz.func37, Tryz.ntmps37
  go_wp2_with fail
  refine AD.out.mono ?_
  rintro r w4 ⟨A4, n4, c4, rfl, h4, hb4⟩
  have b4 := below_on b1 hb4
  have xr4 := xr.later hb4
  clear k0 k1 k2 f0' f1' f2' j0 j1 j2 g0 g1 g2
  have bx := box_new w4 #[.bool sn, .slice A4 n4 c4, .int .i64 se] 26
  obtain ⟨k0, k1, k2, f0', f1', f2'⟩ := bx.cell3
  have b5 := below_alloc b4 (.cells #[.bool sn, .slice A4 n4 c4, .int .i64 se] 26)
  have h5 := h4.below (below_alloc (below_self w4) (.cells #[.bool sn, .slice A4 n4 c4, .int .i64 se] 26))
  have xr5 := xr4.later (below_alloc (below_self w4) (.cells #[.bool sn, .slice A4 n4 c4, .int .i64 se] 26))
  go_wp2_with fail
  refine (CT.out _ _ _ _ h5).mono ?_
  rintro r w6 ⟨A6, n6, c6, rfl, h6, hb6⟩
  have b6 := below_on b5 hb6
  have xr6 := xr5.later hb6
  obtain ⟨z0, z1, z2, y0, y1, y2⟩ := xr6.cell3
  clear k0 k1 k2 f0' f1' f2'
  go_wp2_with fail
  refine bodyPost_ret (v := _) ?_ rfl (retD_set h6 xr6 b6 (by omega))
  simp [results, Tryz.results37, go_sem, z0, z1, z2]
end Go.Proofs.YteffemhapnbaeaaGreatDoor
namespace Go.Proofs.YteffemhapnbaeaaGreatDoor
open Go.RowKit Num
set_option linter.unusedSimpArgs false
set_option linter.unusedVariables false
set_option maxRecDepth 100000

set_option maxHeartbeats 16000000 in
theorem radd03 (p q s t : Bool) (A A' B B' : Option Addr) (n c n' c' m k m' k' : Nat) (xs ys us vs : List Int) (e f i j P : Int) (g : Nat) (bad : Bool) (w : World)
    (h : Arr w A n c xs) (h' : Arr w A' n' c' ys) (hB : Arr w B m k us) (hB' : Arr w B' m' k' vs) (hk : Wk w g P bad 38) (hn : n ≤ 100000) (hn' : n' ≤ 100000) (hm : m ≤ 100000) (hm' : m' ≤ 100000)
    (e0 : -100000 ≤ e ∧ e ≤ 100000) (f0 : -100000 ≤ f ∧ f ≤ 100000) (i0 : -100000 ≤ i ∧ i ≤ 100000) (j0 : -100000 ≤ j ∧ j ≤ 100000) :
    Calls Tryz.prog 13 #[.pointer (some ⟨g, 0, none⟩), .agg #[.bool p, .slice A n c, .int .i64 e, .bool q, .slice A' n' c', .int .i64 f], .agg #[.bool s, .slice B m k, .int .i64 i, .bool t, .slice B' m' k', .int .i64 j]] w
      (RetSp (twoO (takeB bad P [(⟨p, A, n, c, xs, e, q, A', n', c', ys, f⟩ : SVal), (⟨s, B, m, k, us, i, t, B', m', k', vs, j⟩ : SVal)]) (bothO P false (⟨p, val xs, e⟩ : Dy) (⟨s, val us, i⟩ : Dy)) (bothO P true (⟨q, val ys, f⟩ : Dy) (⟨t, val vs, j⟩ : Dy))) g P 38 w) := by
  have hg := hk.lt
  have b2 : Below w.heap.size w (w.alloc (.cells #[.bool p, .slice A n c, .int .i64 e, .bool q, .slice A' n' c', .int .i64 f] 28)) := below_alloc (below_self w) _
  have b3 : Below w.heap.size w ((w.alloc (.cells #[.bool p, .slice A n c, .int .i64 e, .bool q, .slice A' n' c', .int .i64 f] 28)).alloc (.cells #[.bool s, .slice B m k, .int .i64 i, .bool t, .slice B' m' k', .int .i64 j] 28)) := below_alloc b2 _
  have b4 : Below w.heap.size w (((w.alloc (.cells #[.bool p, .slice A n c, .int .i64 e, .bool q, .slice A' n' c', .int .i64 f] 28)).alloc (.cells #[.bool s, .slice B m k, .int .i64 i, .bool t, .slice B' m' k', .int .i64 j] 28)).alloc (.cells #[.bool false, .slice none 0 0, .int .i64 0, .bool false, .slice none 0 0, .int .i64 0] 28)) := below_alloc b3 _
  have b5 : Below w.heap.size w ((((w.alloc (.cells #[.bool p, .slice A n c, .int .i64 e, .bool q, .slice A' n' c', .int .i64 f] 28)).alloc (.cells #[.bool s, .slice B m k, .int .i64 i, .bool t, .slice B' m' k', .int .i64 j] 28)).alloc (.cells #[.bool false, .slice none 0 0, .int .i64 0, .bool false, .slice none 0 0, .int .i64 0] 28)).alloc (.cells #[.bool p, .slice A n c, .int .i64 e, .bool q, .slice A' n' c', .int .i64 f, .bool s, .slice B m k, .int .i64 i, .bool t, .slice B' m' k', .int .i64 j] 28)) := below_alloc b4 _
  have s2 : (w.alloc (.cells #[.bool p, .slice A n c, .int .i64 e, .bool q, .slice A' n' c', .int .i64 f] 28)).heap.size = w.heap.size + 1 := by simp
  have s3 : ((w.alloc (.cells #[.bool p, .slice A n c, .int .i64 e, .bool q, .slice A' n' c', .int .i64 f] 28)).alloc (.cells #[.bool s, .slice B m k, .int .i64 i, .bool t, .slice B' m' k', .int .i64 j] 28)).heap.size = w.heap.size + 1 + 1 := by simp
  have s4 : (((w.alloc (.cells #[.bool p, .slice A n c, .int .i64 e, .bool q, .slice A' n' c', .int .i64 f] 28)).alloc (.cells #[.bool s, .slice B m k, .int .i64 i, .bool t, .slice B' m' k', .int .i64 j] 28)).alloc (.cells #[.bool false, .slice none 0 0, .int .i64 0, .bool false, .slice none 0 0, .int .i64 0] 28)).heap.size = w.heap.size + 1 + 1 + 1 := by simp
  have xsa := (box_new w #[.bool p, .slice A n c, .int .i64 e, .bool q, .slice A' n' c', .int .i64 f] 28).later (below_alloc (below_alloc (below_alloc (below_self _) (.cells #[.bool s, .slice B m k, .int .i64 i, .bool t, .slice B' m' k', .int .i64 j] 28)) (.cells #[.bool false, .slice none 0 0, .int .i64 0, .bool false, .slice none 0 0, .int .i64 0] 28)) (.cells #[.bool p, .slice A n c, .int .i64 e, .bool q, .slice A' n' c', .int .i64 f, .bool s, .slice B m k, .int .i64 i, .bool t, .slice B' m' k', .int .i64 j] 28))
  have xsb := (box_new (w.alloc (.cells #[.bool p, .slice A n c, .int .i64 e, .bool q, .slice A' n' c', .int .i64 f] 28)) #[.bool s, .slice B m k, .int .i64 i, .bool t, .slice B' m' k', .int .i64 j] 28).later (below_alloc (below_alloc (below_self _) (.cells #[.bool false, .slice none 0 0, .int .i64 0, .bool false, .slice none 0 0, .int .i64 0] 28)) (.cells #[.bool p, .slice A n c, .int .i64 e, .bool q, .slice A' n' c', .int .i64 f, .bool s, .slice B m k, .int .i64 i, .bool t, .slice B' m' k', .int .i64 j] 28))
  have xr := (box_new ((w.alloc (.cells #[.bool p, .slice A n c, .int .i64 e, .bool q, .slice A' n' c', .int .i64 f] 28)).alloc (.cells #[.bool s, .slice B m k, .int .i64 i, .bool t, .slice B' m' k', .int .i64 j] 28)) #[.bool false, .slice none 0 0, .int .i64 0, .bool false, .slice none 0 0, .int .i64 0] 28).later (below_alloc (below_self _) (.cells #[.bool p, .slice A n c, .int .i64 e, .bool q, .slice A' n' c', .int .i64 f, .bool s, .slice B m k, .int .i64 i, .bool t, .slice B' m' k', .int .i64 j] 28))
  have xl := box_new (((w.alloc (.cells #[.bool p, .slice A n c, .int .i64 e, .bool q, .slice A' n' c', .int .i64 f] 28)).alloc (.cells #[.bool s, .slice B m k, .int .i64 i, .bool t, .slice B' m' k', .int .i64 j] 28)).alloc (.cells #[.bool false, .slice none 0 0, .int .i64 0, .bool false, .slice none 0 0, .int .i64 0] 28)) #[.bool p, .slice A n c, .int .i64 e, .bool q, .slice A' n' c', .int .i64 f, .bool s, .slice B m k, .int .i64 i, .bool t, .slice B' m' k', .int .i64 j] 28
  rw [s2] at xsb
  rw [s3] at xr
  rw [s4] at xl
  have hk5 := hk.later b5
  have TK := rtake03 g (w.heap.size + 1 + 1 + 1) 2 P bad [(⟨p, A, n, c, xs, e, q, A', n', c', ys, f⟩ : SVal), (⟨s, B, m, k, us, i, t, B', m', k', vs, j⟩ : SVal)] rfl _ hk5 (svs_two (⟨p, A, n, c, xs, e, q, A', n', c', ys, f⟩ : SVal) (⟨s, B, m, k, us, i, t, B', m', k', vs, j⟩ : SVal) xl ⟨h.below b5, h'.below b5⟩ ⟨hB.below b5, hB'.below b5⟩) (by omega) (by decide) (fun s hs => by
    simp at hs
    rcases hs with rfl | rfl
    · exact ⟨by show n ≤ 1000000; omega, by show n' ≤ 1000000; omega⟩
    · exact ⟨by show m ≤ 1000000; omega, by show m' ≤ 1000000; omega⟩)
  obtain ⟨k0, k1, k2, k3, k4, k5, -⟩ := (box_new w #[.bool p, .slice A n c, .int .i64 e, .bool q, .slice A' n' c', .int .i64 f] 28).later (below_alloc (below_alloc (below_self _) (.cells #[.bool s, .slice B m k, .int .i64 i, .bool t, .slice B' m' k', .int .i64 j] 28)) (.cells #[.bool false, .slice none 0 0, .int .i64 0, .bool false, .slice none 0 0, .int .i64 0] 28)) |>.cell6
  obtain ⟨jj0, jj1, jj2, jj3, jj4, jj5, -⟩ := (box_new (w.alloc (.cells #[.bool p, .slice A n c, .int .i64 e, .bool q, .slice A' n' c', .int .i64 f] 28)) #[.bool s, .slice B m k, .int .i64 i, .bool t, .slice B' m' k', .int .i64 j] 28).later (below_alloc (below_self _) (.cells #[.bool false, .slice none 0 0, .int .i64 0, .bool false, .slice none 0 0, .int .i64 0] 28)) |>.cell6
  rw [s2] at jj0 jj1 jj2 jj3 jj4 jj5
  have TP : takeB bad P [(⟨p, A, n, c, xs, e, q, A', n', c', ys, f⟩ : SVal), (⟨s, B, m, k, us, i, t, B', m', k', vs, j⟩ : SVal)] = false → _ := take_plain
  have TQ : takeB bad P [(⟨p, A, n, c, xs, e, q, A', n', c', ys, f⟩ : SVal), (⟨s, B, m, k, us, i, t, B', m', k', vs, j⟩ : SVal)] = false → 1 ≤ P ∧ P ≤ 8192 := take_prec
  generalize takeB bad P [(⟨p, A, n, c, xs, e, q, A', n', c', ys, f⟩ : SVal), (⟨s, B, m, k, us, i, t, B', m', k', vs, j⟩ : SVal)] = tb at *
  have TK := Lib.hid TK
  have TP := Lib.hid TP
  have TQ := Lib.hid TQ
  clear s2 s3 s4 b2 b3 b4 xl
  cases tb
  · obtain ⟨p1, p2, p3, p4⟩ := TP.out rfl
    obtain ⟨P1, P2⟩ := TQ.out rfl
    have v1 := (plainB_parts h.wf p1).2.2.1
    have v2 := (plainB_parts h'.wf p2).2.2.1
    have v3 := (plainB_parts hB.wf p3).2.2.1
    have v4 := (plainB_parts hB'.wf p4).2.2.1
    have l1 := PlD.of h.wf p1
    have l2 := PlD.of h'.wf p2
    have l3 := PlD.of hB.wf p3
    have l4 := PlD.of hB'.wf p4
    have ho : twoO false (bothO P false (⟨p, val xs, e⟩ : Dy) (⟨s, val us, i⟩ : Dy)) (bothO P true (⟨q, val ys, f⟩ : Dy) (⟨t, val vs, j⟩ : Dy)) = pairO (!((bothO P false (⟨p, val xs, e⟩ : Dy) (⟨s, val us, i⟩ : Dy)).isSome && (bothO P true (⟨q, val ys, f⟩ : Dy) (⟨t, val vs, j⟩ : Dy)).isSome)) (optD (bothO P false (⟨p, val xs, e⟩ : Dy) (⟨s, val us, i⟩ : Dy))) (optD (bothO P true (⟨q, val ys, f⟩ : Dy) (⟨t, val vs, j⟩ : Dy))) := rfl
    rw [ho]
    have D1 := fun w' (g1 : Arr w' A n c xs) (g2 : Arr w' B m k us) => rboth p s A B n c m k (val xs) (val us) e i P false w' (by rw [v1]; exact g1) (by rw [v3]; exact g2) l1 l3 e0.1 e0.2 i0.1 i0.2 P1 P2
    have D2 := fun w' (g1 : Arr w' A' n' c' ys) (g2 : Arr w' B' m' k' vs) => rboth q t A' B' n' c' m' k' (val ys) (val vs) f j P true w' (by rw [v2]; exact g1) (by rw [v4]; exact g2) l2 l4 f0.1 f0.2 j0.1 j0.2 P1 P2
    unfold RetD at D1 D2
    clear ho p1 p2 p3 p4 v1 v2 v3 v4 l1 l2 l3 l4 TP TQ
    generalize (bothO P false (⟨p, val xs, e⟩ : Dy) (⟨s, val us, i⟩ : Dy)).isSome = k1' at *
    generalize (bothO P true (⟨q, val ys, f⟩ : Dy) (⟨t, val vs, j⟩ : Dy)).isSome = k2' at *
    generalize optD (bothO P false (⟨p, val xs, e⟩ : Dy) (⟨s, val us, i⟩ : Dy)) = E1 at *
    generalize optD (bothO P true (⟨q, val ys, f⟩ : Dy) (⟨t, val vs, j⟩ : Dy)) = E2 at *
    obtain ⟨s1, m1, f1⟩ := E1
    obtain ⟨s2, m2, f2⟩ := E2
    simp only at D1 D2
    have D1 := Lib.hid D1
    have D2 := Lib.hid D2
    go_enter Tryz.func13, Tryz.ntmps13
    go_wp2_with fail
    refine TK.out.mono ?_
    rintro r w7 ⟨rfl, hk7, g7⟩
    have xa7 := xsa.grown g7 (show w.heap.size ≠ g by omega)
    have xb7 := xsb.grown g7 (show w.heap.size + 1 ≠ g by omega)
    have xr7 := xr.grown g7 (show w.heap.size + 1 + 1 ≠ g by omega)
    have gw7 := grown_trans (grown_of b5 (some g)) g7
    have hA7 := hk.arr h gw7
    have hA7' := hk.arr h' gw7
    have hC7 := hk.arr hB gw7
    have hC7' := hk.arr hB' gw7
    have R1 : ∀ w', Below w7.heap.size w7 w' → Calls Tryz.prog 37 #[(.agg #[.bool p, .slice A n c, .int .i64 e]), (.agg #[.bool s, .slice B m k, .int .i64 i]), .int .i64 P, .bool false] w' fun r w'' => ∃ A5 n5 c5, r = .returned (.tuple #[.agg #[.bool s1, .slice A5 n5 c5, .int .i64 f1], .bool k1']) ∧ Arr w'' A5 n5 c5 (wd m1) ∧ Below w'.heap.size w' w'' ∧ Below w7.heap.size w7 w'' := by
      intro w' hG
      refine (D1.out w' (hA7.below hG) (hC7.below hG)).mono ?_
      rintro r w'' ⟨A5, n5, c5, rfl, h5, hb⟩
      exact ⟨A5, n5, c5, rfl, h5, hb, below_on hG hb⟩
    have R2 : ∀ w', Below w7.heap.size w7 w' → Calls Tryz.prog 37 #[(.agg #[.bool q, .slice A' n' c', .int .i64 f]), (.agg #[.bool t, .slice B' m' k', .int .i64 j]), .int .i64 P, .bool true] w' fun r w'' => ∃ A5 n5 c5, r = .returned (.tuple #[.agg #[.bool s2, .slice A5 n5 c5, .int .i64 f2], .bool k2']) ∧ Arr w'' A5 n5 c5 (wd m2) ∧ Below w'.heap.size w' w'' ∧ Below w7.heap.size w7 w'' := by
      intro w' hG
      refine (D2.out w' (hA7'.below hG) (hC7'.below hG)).mono ?_
      rintro r w'' ⟨A5, n5, c5, rfl, h5, hb⟩
      exact ⟨A5, n5, c5, rfl, h5, hb, below_on hG hb⟩
    have KC : ∀ w', Below w7.heap.size w7 w' → ((w'.cell? ⟨w.heap.size, 0, none⟩ = some (.bool p) ∧ w'.cell? ⟨w.heap.size, 1, none⟩ = some (.slice A n c) ∧ w'.cell? ⟨w.heap.size, 2, none⟩ = some (.int .i64 e) ∧ w'.cell? ⟨w.heap.size, 3, none⟩ = some (.bool q) ∧ w'.cell? ⟨w.heap.size, 4, none⟩ = some (.slice A' n' c') ∧ w'.cell? ⟨w.heap.size, 5, none⟩ = some (.int .i64 f)) ∧ (w'.cell? ⟨w.heap.size + 1, 0, none⟩ = some (.bool s) ∧ w'.cell? ⟨w.heap.size + 1, 1, none⟩ = some (.slice B m k) ∧ w'.cell? ⟨w.heap.size + 1, 2, none⟩ = some (.int .i64 i) ∧ w'.cell? ⟨w.heap.size + 1, 3, none⟩ = some (.bool t) ∧ w'.cell? ⟨w.heap.size + 1, 4, none⟩ = some (.slice B' m' k') ∧ w'.cell? ⟨w.heap.size + 1, 5, none⟩ = some (.int .i64 j)) ∧ w'.cell? ⟨g, 0, none⟩ = some (.int .i64 P)) := by
      intro w' hG
      obtain ⟨z0, z1, z2, z3, z4, z5, -⟩ := (xa7.later hG).cell6
      obtain ⟨y0, y1, y2, y3, y4, y5, -⟩ := (xb7.later hG).cell6
      exact ⟨⟨z0, z1, z2, z3, z4, z5⟩, ⟨y0, y1, y2, y3, y4, y5⟩, (hk7.later hG).cells.1⟩
    obtain ⟨⟨q0, q1, q2, q3, q4, q5⟩, ⟨r0, r1, r2, r3, r4, r5⟩, r6⟩ := KC w7 (below_self _)
    have KC := Lib.hid KC
    have R1 := Lib.hid R1
    have R2 := Lib.hid R2
    clear k0 k1 k2 k3 k4 k5 jj0 jj1 jj2 jj3 jj4 jj5 xa7 xb7 hA7 hA7' hC7 hC7' xsa xsb xr g7 b5 h h' hB hB' hk5 TK D1 D2
    go_wp2_with fail
    go_region_held3 (fun w' => ((w'.cell? ⟨w.heap.size, 0, none⟩ = some (.bool p) ∧ w'.cell? ⟨w.heap.size, 1, none⟩ = some (.slice A n c) ∧ w'.cell? ⟨w.heap.size, 2, none⟩ = some (.int .i64 e) ∧ w'.cell? ⟨w.heap.size, 3, none⟩ = some (.bool q) ∧ w'.cell? ⟨w.heap.size, 4, none⟩ = some (.slice A' n' c') ∧ w'.cell? ⟨w.heap.size, 5, none⟩ = some (.int .i64 f)) ∧ (w'.cell? ⟨w.heap.size + 1, 0, none⟩ = some (.bool s) ∧ w'.cell? ⟨w.heap.size + 1, 1, none⟩ = some (.slice B m k) ∧ w'.cell? ⟨w.heap.size + 1, 2, none⟩ = some (.int .i64 i) ∧ w'.cell? ⟨w.heap.size + 1, 3, none⟩ = some (.bool t) ∧ w'.cell? ⟨w.heap.size + 1, 4, none⟩ = some (.slice B' m' k') ∧ w'.cell? ⟨w.heap.size + 1, 5, none⟩ = some (.int .i64 j)) ∧ w'.cell? ⟨g, 0, none⟩ = some (.int .i64 P))) (first | (refine KC.out _ ?_; (repeat (first | with_reducible assumption | with_reducible exact below_self _ | with_reducible refine below_drewN ?_ _ | with_reducible apply Below.drew | with_reducible refine below_alloc ?_ _ | (refine below_set ?_ _ _ (by first | exact Nat.le_refl _ | omega | (simp; done) | (simp; omega)) _))); done) | go_keep) (first | (go_at_call 37; refine (R1.out _ ?_).mono ?_; (repeat (first | with_reducible assumption | with_reducible exact below_self _ | with_reducible refine below_drewN ?_ _ | with_reducible apply Below.drew | with_reducible refine below_alloc ?_ _ | (refine below_set ?_ _ _ (by first | exact Nat.le_refl _ | omega | (simp; done) | (simp; omega)) _))); rintro r w8 ⟨A1, n1, c1, rfl, a1, hc1, hb1⟩; (first | (have NB := new_kept hc1; obtain ⟨v0, v1, v2, v3, v4, v5⟩ := NB.cell3) | skip)))
    have KC7 := KC
    have XR7 := xr7
    all_goals
      first
        | (have MB := made_before (w := w7) (s := s1) (f := f1) a1 hb1 NB)
        | (have MB := made_after (w := w7) (s := s1) (f := f1) a1 hb1)
      obtain ⟨W9, k9, e1, e2, x9, a9, b9, l9⟩ := MB
      rw [← e1, ← e2]
      have KC9 : ∀ w', Below W9.heap.size W9 w' → ((w'.cell? ⟨w.heap.size, 0, none⟩ = some (.bool p) ∧ w'.cell? ⟨w.heap.size, 1, none⟩ = some (.slice A n c) ∧ w'.cell? ⟨w.heap.size, 2, none⟩ = some (.int .i64 e) ∧ w'.cell? ⟨w.heap.size, 3, none⟩ = some (.bool q) ∧ w'.cell? ⟨w.heap.size, 4, none⟩ = some (.slice A' n' c') ∧ w'.cell? ⟨w.heap.size, 5, none⟩ = some (.int .i64 f)) ∧ (w'.cell? ⟨w.heap.size + 1, 0, none⟩ = some (.bool s) ∧ w'.cell? ⟨w.heap.size + 1, 1, none⟩ = some (.slice B m k) ∧ w'.cell? ⟨w.heap.size + 1, 2, none⟩ = some (.int .i64 i) ∧ w'.cell? ⟨w.heap.size + 1, 3, none⟩ = some (.bool t) ∧ w'.cell? ⟨w.heap.size + 1, 4, none⟩ = some (.slice B' m' k') ∧ w'.cell? ⟨w.heap.size + 1, 5, none⟩ = some (.int .i64 j)) ∧ w'.cell? ⟨g, 0, none⟩ = some (.int .i64 P)) := fun w' hb => KC.out w' (below_on b9 hb)
      have R9 : ∀ w', Below W9.heap.size W9 w' → Calls Tryz.prog 37 #[(.agg #[.bool q, .slice A' n' c', .int .i64 f]), (.agg #[.bool t, .slice B' m' k', .int .i64 j]), .int .i64 P, .bool true] w' fun r w'' => ∃ A5 n5 c5, r = .returned (.tuple #[.agg #[.bool s2, .slice A5 n5 c5, .int .i64 f2], .bool k2']) ∧ Arr w'' A5 n5 c5 (wd m2) ∧ Below w'.heap.size w' w'' ∧ Below W9.heap.size W9 w'' := by
        intro w' hG
        refine (R2.out w' (below_on b9 hG)).mono ?_
        rintro r w'' ⟨A5, n5, c5, rfl, h5, hb, -⟩
        exact ⟨A5, n5, c5, rfl, h5, hb, below_on hG hb⟩
      have hk9 := hk7.later b9
      have xr9 := xr7.later b9
      have gw9 := grown_on gw7 b9
      have l9' : k9 ≠ g := by have := hk7.lt; omega
      have lr9 : w.heap.size + 1 + 1 < k9 := by have := xr7.lt; omega
      clear e1 e2 hb1 R1 R2 KC a1 hc1 q0 q1 q2 q3 q4 q5 r0 r1 r2 r3 r4 r5 r6 hk7 xr7 gw7
      obtain ⟨⟨q0, q1, q2, q3, q4, q5⟩, ⟨r0, r1, r2, r3, r4, r5⟩, r6⟩ := KC9 W9 (below_self _)
      have KC := Lib.hid KC9
      have R2 := Lib.hid R9
      clear KC9 R9
      go_wp2_with fail
      go_region_held3 (fun w' => ((w'.cell? ⟨w.heap.size, 0, none⟩ = some (.bool p) ∧ w'.cell? ⟨w.heap.size, 1, none⟩ = some (.slice A n c) ∧ w'.cell? ⟨w.heap.size, 2, none⟩ = some (.int .i64 e) ∧ w'.cell? ⟨w.heap.size, 3, none⟩ = some (.bool q) ∧ w'.cell? ⟨w.heap.size, 4, none⟩ = some (.slice A' n' c') ∧ w'.cell? ⟨w.heap.size, 5, none⟩ = some (.int .i64 f)) ∧ (w'.cell? ⟨w.heap.size + 1, 0, none⟩ = some (.bool s) ∧ w'.cell? ⟨w.heap.size + 1, 1, none⟩ = some (.slice B m k) ∧ w'.cell? ⟨w.heap.size + 1, 2, none⟩ = some (.int .i64 i) ∧ w'.cell? ⟨w.heap.size + 1, 3, none⟩ = some (.bool t) ∧ w'.cell? ⟨w.heap.size + 1, 4, none⟩ = some (.slice B' m' k') ∧ w'.cell? ⟨w.heap.size + 1, 5, none⟩ = some (.int .i64 j)) ∧ w'.cell? ⟨g, 0, none⟩ = some (.int .i64 P))) (first | (refine KC.out _ ?_; (repeat (first | with_reducible assumption | with_reducible exact below_self _ | with_reducible refine below_drewN ?_ _ | with_reducible apply Below.drew | with_reducible refine below_alloc ?_ _ | (refine below_set ?_ _ _ (by first | exact Nat.le_refl _ | omega | (simp; done) | (simp; omega)) _))); done) | go_keep) (first | (go_at_call 37; refine (R2.out _ ?_).mono ?_; (repeat (first | with_reducible assumption | with_reducible exact below_self _ | with_reducible refine below_drewN ?_ _ | with_reducible apply Below.drew | with_reducible refine below_alloc ?_ _ | (refine below_set ?_ _ _ (by first | exact Nat.le_refl _ | omega | (simp; done) | (simp; omega)) _))); rintro r w10 ⟨A2, n2, c2, rfl, a2, hc2, hb2⟩; (first | (have NB := new_kept hc2; obtain ⟨v0, v1, v2, v3, v4, v5⟩ := NB.cell3) | skip)))
    all_goals
      first
        | (have MB := made_before (w := W9) (s := s2) (f := f2) a2 hb2 NB)
        | (have MB := made_after (w := W9) (s := s2) (f := f2) a2 hb2)
      obtain ⟨W10, k10, e1, e2, x10, a10, b10, l10⟩ := MB
      rw [← e1, ← e2]
      have x9' := x9.later b10
      have a9' := a9.below b10
      have hk10 := hk9.later b10
      have xr10 := xr9.later b10
      have gw10 := grown_on gw9 b10
      have GV := Lib.hid (rgive_o g P s1 s2 k1' k2' m1 f1 m2 f2 A1 A2 n1 c1 n2 c2 W10 hk10 a9' a10)
      clear e1 e2 hb2 a2 hc2 q0 q1 q2 q3 q4 q5 r0 r1 r2 r3 r4 r5 r6 KC R2
      obtain ⟨y0, y1, y2, y3, y4, y5⟩ := x9'.cell3
      obtain ⟨qq0, qq1, qq2, qq3, qq4, qq5⟩ := x10.cell3
      go_wp2_with fail
      refine GV.out.mono ?_
      rintro r w11 ⟨pb, X1, u1, v1, X2, u2, v2, rfl, rfl, z1, z2, hk11, g11⟩
      have xr11 := xr10.grown g11 (show w.heap.size + 1 + 1 ≠ g by omega)
      have gw11 := grown_trans gw10 g11
      go_wp2_with (refine wp_put6 rfl _ _ rfl rfl (w.heap.size + 1 + 1) _ X1 u1 v1 _ _ X2 u2 v2 _ xr11 rfl rfl (fun W1 y1 gW1 => ?_); obtain ⟨z3, z4, z5, z6, z7, z8, -⟩ := y1.cell6)
      refine bodyPost_ret (v := _) ?_ rfl (retSp_put z1 z2 xr11 (by rw [pair_none]; exact hk11) gw11 (show g ≠ w.heap.size + 1 + 1 by omega) (by omega) gW1)
      simp [results, Tryz.results13, go_sem, z3, z4, z5, z6, z7, z8]
  · have ho : twoO true (bothO P false (⟨p, val xs, e⟩ : Dy) (⟨s, val us, i⟩ : Dy)) (bothO P true (⟨q, val ys, f⟩ : Dy) (⟨t, val vs, j⟩ : Dy)) = none := rfl
    rw [ho]
    go_enter Tryz.func13, Tryz.ntmps13
    go_wp2_with fail
    refine TK.out.mono ?_
    rintro r w6 ⟨rfl, hk6, g6⟩
    have xr6 := xr.grown g6 (show w.heap.size + 1 + 1 ≠ g by omega)
    have gw := grown_trans (grown_of b5 (some g)) g6
    go_wp2_with (refine wp_put6 rfl _ _ rfl rfl (w.heap.size + 1 + 1) false none 0 0 0 false none 0 0 0 xr6 rfl rfl (fun W1 y1 gW1 => ?_); have hk9 := hk6.other gW1 (show g ≠ w.heap.size + 1 + 1 by omega); obtain ⟨u0, u1, u2, u3, u4, u5, -⟩ := y1.cell6)
    refine bodyPost_ret (v := .agg #[.bool false, .slice none 0 0, .int .i64 0, .bool false, .slice none 0 0, .int .i64 0]) ?_ rfl (retSp_none hk9 (grown_own gw gW1 (by omega)))
    simp [results, Tryz.results13, go_sem, u0, u1, u2, u3, u4, u5]
end Go.Proofs.YteffemhapnbaeaaGreatDoor
namespace Go.Proofs.YteffemhapnbaeaaGreatDoor
open Go.RowKit Num
set_option linter.unusedSimpArgs false
set_option linter.unusedVariables false
set_option maxRecDepth 100000

theorem take_sub2 {bad : Bool} {P : Int} {p q s t : Bool} {A A' B B' : Option Addr} {n c n' c' m k m' k' : Nat} {xs ys us vs : List Int} {e f i j : Int} (hu : Wf us) (hv : Wf vs) (h : takeB bad P [(⟨p, A, n, c, xs, e, q, A', n', c', ys, f⟩ : SVal), (⟨s, B, m, k, us, i, t, B', m', k', vs, j⟩ : SVal)] = false) :
    takeB false P [(⟨s, B, m, k, us, i, t, B', m', k', vs, j⟩ : SVal)] = false ∧ bad = false ∧ ∀ C n6 c6 C' n7 c7, takeB false P [(⟨p, A, n, c, xs, e, q, A', n', c', ys, f⟩ : SVal), ⟨(negY (⟨t, val vs, j⟩ : Dy)).neg, C, n6, c6, wd (negY (⟨t, val vs, j⟩ : Dy)).m, (negY (⟨t, val vs, j⟩ : Dy)).e, (negY (⟨s, val us, i⟩ : Dy)).neg, C', n7, c7, wd (negY (⟨s, val us, i⟩ : Dy)).m, (negY (⟨s, val us, i⟩ : Dy)).e⟩] = false := by
  have hb : bad = false ∧ takeB false P [(⟨s, B, m, k, us, i, t, B', m', k', vs, j⟩ : SVal)] = false := by
    rw [take_two] at h
    rw [take_one]
    simp only [Bool.or_eq_false_iff, Bool.not_eq_false', Bool.and_eq_true] at h ⊢
    exact ⟨h.1.1.1, ⟨⟨trivial, h.1.1.2⟩, h.1.2⟩, h.2.2⟩
  obtain ⟨rfl, hr⟩ := hb
  refine ⟨hr, rfl, fun C n6 c6 C' n7 c7 => ?_⟩
  rw [← take_sub hu hv hr]
  exact h
set_option maxHeartbeats 16000000 in
theorem rsub03 (p q s t : Bool) (A A' B B' : Option Addr) (n c n' c' m k m' k' : Nat) (xs ys us vs : List Int) (e f i j P : Int) (g : Nat) (bad : Bool) (w : World)
    (h : Arr w A n c xs) (h' : Arr w A' n' c' ys) (hB : Arr w B m k us) (hB' : Arr w B' m' k' vs) (hk : Wk w g P bad 38) (hn : n ≤ 100000) (hn' : n' ≤ 100000) (hm : m ≤ 100000) (hm' : m' ≤ 100000)
    (e0 : -100000 ≤ e ∧ e ≤ 100000) (f0 : -100000 ≤ f ∧ f ≤ 100000) (i0 : -100000 ≤ i ∧ i ≤ 100000) (j0 : -100000 ≤ j ∧ j ≤ 100000) :
    Calls Tryz.prog 15 #[.pointer (some ⟨g, 0, none⟩), .agg #[.bool p, .slice A n c, .int .i64 e, .bool q, .slice A' n' c', .int .i64 f], .agg #[.bool s, .slice B m k, .int .i64 i, .bool t, .slice B' m' k', .int .i64 j]] w
      (RetSp (twoO (takeB bad P [(⟨p, A, n, c, xs, e, q, A', n', c', ys, f⟩ : SVal), (⟨s, B, m, k, us, i, t, B', m', k', vs, j⟩ : SVal)]) (bothO P false (⟨p, val xs, e⟩ : Dy) (negY (⟨t, val vs, j⟩ : Dy))) (bothO P true (⟨q, val ys, f⟩ : Dy) (negY (⟨s, val us, i⟩ : Dy)))) g P 38 w) := by
  have hg := hk.lt
  have b2 : Below w.heap.size w (w.alloc (.cells #[.bool p, .slice A n c, .int .i64 e, .bool q, .slice A' n' c', .int .i64 f] 28)) := below_alloc (below_self w) _
  have b3 : Below w.heap.size w ((w.alloc (.cells #[.bool p, .slice A n c, .int .i64 e, .bool q, .slice A' n' c', .int .i64 f] 28)).alloc (.cells #[.bool s, .slice B m k, .int .i64 i, .bool t, .slice B' m' k', .int .i64 j] 28)) := below_alloc b2 _
  have b4 : Below w.heap.size w (((w.alloc (.cells #[.bool p, .slice A n c, .int .i64 e, .bool q, .slice A' n' c', .int .i64 f] 28)).alloc (.cells #[.bool s, .slice B m k, .int .i64 i, .bool t, .slice B' m' k', .int .i64 j] 28)).alloc (.cells #[.bool false, .slice none 0 0, .int .i64 0, .bool false, .slice none 0 0, .int .i64 0] 28)) := below_alloc b3 _
  have b5 : Below w.heap.size w ((((w.alloc (.cells #[.bool p, .slice A n c, .int .i64 e, .bool q, .slice A' n' c', .int .i64 f] 28)).alloc (.cells #[.bool s, .slice B m k, .int .i64 i, .bool t, .slice B' m' k', .int .i64 j] 28)).alloc (.cells #[.bool false, .slice none 0 0, .int .i64 0, .bool false, .slice none 0 0, .int .i64 0] 28)).alloc (.cells #[.bool p, .slice A n c, .int .i64 e, .bool q, .slice A' n' c', .int .i64 f, .bool s, .slice B m k, .int .i64 i, .bool t, .slice B' m' k', .int .i64 j] 28)) := below_alloc b4 _
  have s2 : (w.alloc (.cells #[.bool p, .slice A n c, .int .i64 e, .bool q, .slice A' n' c', .int .i64 f] 28)).heap.size = w.heap.size + 1 := by simp
  have s3 : ((w.alloc (.cells #[.bool p, .slice A n c, .int .i64 e, .bool q, .slice A' n' c', .int .i64 f] 28)).alloc (.cells #[.bool s, .slice B m k, .int .i64 i, .bool t, .slice B' m' k', .int .i64 j] 28)).heap.size = w.heap.size + 1 + 1 := by simp
  have s4 : (((w.alloc (.cells #[.bool p, .slice A n c, .int .i64 e, .bool q, .slice A' n' c', .int .i64 f] 28)).alloc (.cells #[.bool s, .slice B m k, .int .i64 i, .bool t, .slice B' m' k', .int .i64 j] 28)).alloc (.cells #[.bool false, .slice none 0 0, .int .i64 0, .bool false, .slice none 0 0, .int .i64 0] 28)).heap.size = w.heap.size + 1 + 1 + 1 := by simp
  have xsa := (box_new w #[.bool p, .slice A n c, .int .i64 e, .bool q, .slice A' n' c', .int .i64 f] 28).later (below_alloc (below_alloc (below_alloc (below_self _) (.cells #[.bool s, .slice B m k, .int .i64 i, .bool t, .slice B' m' k', .int .i64 j] 28)) (.cells #[.bool false, .slice none 0 0, .int .i64 0, .bool false, .slice none 0 0, .int .i64 0] 28)) (.cells #[.bool p, .slice A n c, .int .i64 e, .bool q, .slice A' n' c', .int .i64 f, .bool s, .slice B m k, .int .i64 i, .bool t, .slice B' m' k', .int .i64 j] 28))
  have xsb := (box_new (w.alloc (.cells #[.bool p, .slice A n c, .int .i64 e, .bool q, .slice A' n' c', .int .i64 f] 28)) #[.bool s, .slice B m k, .int .i64 i, .bool t, .slice B' m' k', .int .i64 j] 28).later (below_alloc (below_alloc (below_self _) (.cells #[.bool false, .slice none 0 0, .int .i64 0, .bool false, .slice none 0 0, .int .i64 0] 28)) (.cells #[.bool p, .slice A n c, .int .i64 e, .bool q, .slice A' n' c', .int .i64 f, .bool s, .slice B m k, .int .i64 i, .bool t, .slice B' m' k', .int .i64 j] 28))
  have xr := (box_new ((w.alloc (.cells #[.bool p, .slice A n c, .int .i64 e, .bool q, .slice A' n' c', .int .i64 f] 28)).alloc (.cells #[.bool s, .slice B m k, .int .i64 i, .bool t, .slice B' m' k', .int .i64 j] 28)) #[.bool false, .slice none 0 0, .int .i64 0, .bool false, .slice none 0 0, .int .i64 0] 28).later (below_alloc (below_self _) (.cells #[.bool p, .slice A n c, .int .i64 e, .bool q, .slice A' n' c', .int .i64 f, .bool s, .slice B m k, .int .i64 i, .bool t, .slice B' m' k', .int .i64 j] 28))
  have xl := box_new (((w.alloc (.cells #[.bool p, .slice A n c, .int .i64 e, .bool q, .slice A' n' c', .int .i64 f] 28)).alloc (.cells #[.bool s, .slice B m k, .int .i64 i, .bool t, .slice B' m' k', .int .i64 j] 28)).alloc (.cells #[.bool false, .slice none 0 0, .int .i64 0, .bool false, .slice none 0 0, .int .i64 0] 28)) #[.bool p, .slice A n c, .int .i64 e, .bool q, .slice A' n' c', .int .i64 f, .bool s, .slice B m k, .int .i64 i, .bool t, .slice B' m' k', .int .i64 j] 28
  rw [s2] at xsb
  rw [s3] at xr
  rw [s4] at xl
  have hk5 := hk.later b5
  have TK := rtake03 g (w.heap.size + 1 + 1 + 1) 2 P bad [(⟨p, A, n, c, xs, e, q, A', n', c', ys, f⟩ : SVal), (⟨s, B, m, k, us, i, t, B', m', k', vs, j⟩ : SVal)] rfl _ hk5 (svs_two (⟨p, A, n, c, xs, e, q, A', n', c', ys, f⟩ : SVal) (⟨s, B, m, k, us, i, t, B', m', k', vs, j⟩ : SVal) xl ⟨h.below b5, h'.below b5⟩ ⟨hB.below b5, hB'.below b5⟩) (by omega) (by decide) (fun s hs => by
    simp at hs
    rcases hs with rfl | rfl
    · exact ⟨by show n ≤ 1000000; omega, by show n' ≤ 1000000; omega⟩
    · exact ⟨by show m ≤ 1000000; omega, by show m' ≤ 1000000; omega⟩)
  obtain ⟨k0, k1, k2, k3, k4, k5, -⟩ := (box_new w #[.bool p, .slice A n c, .int .i64 e, .bool q, .slice A' n' c', .int .i64 f] 28).later (below_alloc (below_alloc (below_self _) (.cells #[.bool s, .slice B m k, .int .i64 i, .bool t, .slice B' m' k', .int .i64 j] 28)) (.cells #[.bool false, .slice none 0 0, .int .i64 0, .bool false, .slice none 0 0, .int .i64 0] 28)) |>.cell6
  obtain ⟨jj0, jj1, jj2, jj3, jj4, jj5, -⟩ := (box_new (w.alloc (.cells #[.bool p, .slice A n c, .int .i64 e, .bool q, .slice A' n' c', .int .i64 f] 28)) #[.bool s, .slice B m k, .int .i64 i, .bool t, .slice B' m' k', .int .i64 j] 28).later (below_alloc (below_self _) (.cells #[.bool false, .slice none 0 0, .int .i64 0, .bool false, .slice none 0 0, .int .i64 0] 28)) |>.cell6
  rw [s2] at jj0 jj1 jj2 jj3 jj4 jj5
  have TP : takeB bad P [(⟨p, A, n, c, xs, e, q, A', n', c', ys, f⟩ : SVal), (⟨s, B, m, k, us, i, t, B', m', k', vs, j⟩ : SVal)] = false → _ := take_plain
  have TR := take_sub2 (bad := bad) (P := P) (p := p) (q := q) (s := s) (t := t) (A := A) (A' := A') (B := B) (B' := B') (n := n) (c := c) (n' := n') (c' := c') (m := m) (k := k) (m' := m') (k' := k') (xs := xs) (ys := ys) (us := us) (vs := vs) (e := e) (f := f) (i := i) (j := j) hB.wf hB'.wf
  have TQ : takeB bad P [(⟨p, A, n, c, xs, e, q, A', n', c', ys, f⟩ : SVal), (⟨s, B, m, k, us, i, t, B', m', k', vs, j⟩ : SVal)] = false → 1 ≤ P ∧ P ≤ 8192 := take_prec
  generalize takeB bad P [(⟨p, A, n, c, xs, e, q, A', n', c', ys, f⟩ : SVal), (⟨s, B, m, k, us, i, t, B', m', k', vs, j⟩ : SVal)] = tb at *
  have TK := Lib.hid TK
  have TP := Lib.hid TP
  have TQ := Lib.hid TQ
  have TR := Lib.hid TR
  clear s2 s3 s4 b2 b3 b4 xl
  cases tb
  · obtain ⟨p1, p2, p3, p4⟩ := TP.out rfl
    obtain ⟨tbf, hcut, hnb⟩ := TR.out rfl
    obtain ⟨oo, hoo⟩ : ∃ oo, oo = twoO false (bothO P false (⟨p, val xs, e⟩ : Dy) (negY (⟨t, val vs, j⟩ : Dy))) (bothO P true (⟨q, val ys, f⟩ : Dy) (negY (⟨s, val us, i⟩ : Dy))) := ⟨_, rfl⟩
    rw [← hoo]
    have w1 : val (wd (negY (⟨t, val vs, j⟩ : Dy)).m) = (negY (⟨t, val vs, j⟩ : Dy)).m := val_wd _ (val_nonneg hB'.wf)
    have w2 : val (wd (negY (⟨s, val us, i⟩ : Dy)).m) = (negY (⟨s, val us, i⟩ : Dy)).m := val_wd _ (val_nonneg hB.wf)
    have z1 : (wd (negY (⟨t, val vs, j⟩ : Dy)).m).length ≤ 256 := (PlD.of hB'.wf p4).neg.bounds.1
    have z2 : (wd (negY (⟨s, val us, i⟩ : Dy)).m).length ≤ 256 := (PlD.of hB.wf p3).neg.bounds.1
    have q1 : (negY (⟨t, val vs, j⟩ : Dy)).e = j := rfl
    have q2 : (negY (⟨s, val us, i⟩ : Dy)).e = i := rfl
    have NG := fun w' (g1 : Arr w' B m k us) (g2 : Arr w' B' m' k' vs) (hk2 : Wk w' g P false 38) => rnegs03 s t B B' m k m' k' us vs i j P g false w' g1 g2 hk2 hm hm'
    have hng : twoO (takeB false P [(⟨s, B, m, k, us, i, t, B', m', k', vs, j⟩ : SVal)]) (negR t vs j) (negR s us i) = some ((negY (⟨t, val vs, j⟩ : Dy)), (negY (⟨s, val us, i⟩ : Dy))) := by
      rw [tbf]
      have a1 := negD_is hB'.wf p4
      have a2 := negD_is hB.wf p3
      show twoO false (negD t vs j) (negD s us i) = _
      rw [a1, a2]
      rfl
    rw [hng] at NG
    have AD : ∀ w' C n6 c6 C' n7 c7, Wk w' g P false 38 → Arr w' A n c xs → Arr w' A' n' c' ys → Arr w' C n6 c6 (wd (negY (⟨t, val vs, j⟩ : Dy)).m) → Arr w' C' n7 c7 (wd (negY (⟨s, val us, i⟩ : Dy)).m) →
        Calls Tryz.prog 13 #[.pointer (some ⟨g, 0, none⟩), .agg #[.bool p, .slice A n c, .int .i64 e, .bool q, .slice A' n' c', .int .i64 f], .agg #[.bool (negY (⟨t, val vs, j⟩ : Dy)).neg, .slice C n6 c6, .int .i64 (negY (⟨t, val vs, j⟩ : Dy)).e, .bool (negY (⟨s, val us, i⟩ : Dy)).neg, .slice C' n7 c7, .int .i64 (negY (⟨s, val us, i⟩ : Dy)).e]] w' (RetSp oo g P 38 w') := by
      intro w' C n6 c6 C' n7 c7 hk2 a1 a2 g1 g2
      have H := radd03 p q (negY (⟨t, val vs, j⟩ : Dy)).neg (negY (⟨s, val us, i⟩ : Dy)).neg A A' C C' n c n' c' n6 c6 n7 c7 xs ys (wd (negY (⟨t, val vs, j⟩ : Dy)).m) (wd (negY (⟨s, val us, i⟩ : Dy)).m) e f (negY (⟨t, val vs, j⟩ : Dy)).e (negY (⟨s, val us, i⟩ : Dy)).e P g false w' a1 a2 g1 g2 hk2 hn hn' (by have := g1.len; omega) (by have := g2.len; omega) e0 f0 (by rw [q1]; exact j0) (by rw [q2]; exact i0)
      rw [hnb C n6 c6 C' n7 c7, w1, w2] at H
      rw [hoo]
      exact H
    have NG := Lib.hid NG
    have AD := Lib.hid AD
    generalize (negY (⟨t, val vs, j⟩ : Dy)) = N1 at *
    generalize (negY (⟨s, val us, i⟩ : Dy)) = N2 at *
    obtain ⟨ns1, nm1, ne1⟩ := N1
    obtain ⟨ns2, nm2, ne2⟩ := N2
    clear p1 p2 p3 p4 TP TQ TR w1 w2 z1 z2 q1 q2 hng hoo hnb hcut tbf
    go_enter Tryz.func15, Tryz.ntmps15
    go_wp2_with fail
    refine TK.out.mono ?_
    rintro r w6 ⟨rfl, hk6, g6⟩
    have xsa6 := xsa.grown g6 (show w.heap.size ≠ g by omega)
    have xsb6 := xsb.grown g6 (show w.heap.size + 1 ≠ g by omega)
    have xr6 := xr.grown g6 (show w.heap.size + 1 + 1 ≠ g by omega)
    have gw := grown_trans (grown_of b5 (some g)) g6
    have hA := hk.arr h gw
    have hA' := hk.arr h' gw
    have hC := hk.arr hB gw
    have hC' := hk.arr hB' gw
    have KC : ∀ w', w6.grownBy w' (some g) → ((w'.cell? ⟨w.heap.size, 0, none⟩ = some (.bool p) ∧ w'.cell? ⟨w.heap.size, 1, none⟩ = some (.slice A n c) ∧ w'.cell? ⟨w.heap.size, 2, none⟩ = some (.int .i64 e) ∧ w'.cell? ⟨w.heap.size, 3, none⟩ = some (.bool q) ∧ w'.cell? ⟨w.heap.size, 4, none⟩ = some (.slice A' n' c') ∧ w'.cell? ⟨w.heap.size, 5, none⟩ = some (.int .i64 f)) ∧ w'.cell? ⟨w.heap.size + 1, 0, none⟩ = some (.bool s) ∧ w'.cell? ⟨w.heap.size + 1, 1, none⟩ = some (.slice B m k) ∧ w'.cell? ⟨w.heap.size + 1, 2, none⟩ = some (.int .i64 i) ∧ w'.cell? ⟨w.heap.size + 1, 3, none⟩ = some (.bool t) ∧ w'.cell? ⟨w.heap.size + 1, 4, none⟩ = some (.slice B' m' k') ∧ w'.cell? ⟨w.heap.size + 1, 5, none⟩ = some (.int .i64 j)) := by
      intro w' hb
      obtain ⟨z0, z1, z2, z3, z4, z5, -⟩ := (xsa6.grown hb (show w.heap.size ≠ g by omega)).cell6
      obtain ⟨y0, y1, y2, y3, y4, y5, -⟩ := (xsb6.grown hb (show w.heap.size + 1 ≠ g by omega)).cell6
      exact ⟨⟨z0, z1, z2, z3, z4, z5⟩, ⟨y0, y1, y2, y3, y4, y5⟩⟩
    have KX : ∀ w' W1, w6.grownBy w' (some g) → w'.grownBy W1 (some (w.heap.size + 1 + 1)) → ((W1.cell? ⟨w.heap.size, 0, none⟩ = some (.bool p) ∧ W1.cell? ⟨w.heap.size, 1, none⟩ = some (.slice A n c) ∧ W1.cell? ⟨w.heap.size, 2, none⟩ = some (.int .i64 e) ∧ W1.cell? ⟨w.heap.size, 3, none⟩ = some (.bool q) ∧ W1.cell? ⟨w.heap.size, 4, none⟩ = some (.slice A' n' c') ∧ W1.cell? ⟨w.heap.size, 5, none⟩ = some (.int .i64 f)) ∧ W1.cell? ⟨w.heap.size + 1, 0, none⟩ = some (.bool s) ∧ W1.cell? ⟨w.heap.size + 1, 1, none⟩ = some (.slice B m k) ∧ W1.cell? ⟨w.heap.size + 1, 2, none⟩ = some (.int .i64 i) ∧ W1.cell? ⟨w.heap.size + 1, 3, none⟩ = some (.bool t) ∧ W1.cell? ⟨w.heap.size + 1, 4, none⟩ = some (.slice B' m' k') ∧ W1.cell? ⟨w.heap.size + 1, 5, none⟩ = some (.int .i64 j)) := by
      intro w' W1 hb gW1
      obtain ⟨z0, z1, z2, z3, z4, z5, -⟩ := ((xsa6.grown hb (show w.heap.size ≠ g by omega)).grown gW1 (by omega)).cell6
      obtain ⟨y0, y1, y2, y3, y4, y5, -⟩ := ((xsb6.grown hb (show w.heap.size + 1 ≠ g by omega)).grown gW1 (by omega)).cell6
      exact ⟨⟨z0, z1, z2, z3, z4, z5⟩, ⟨y0, y1, y2, y3, y4, y5⟩⟩
    have RT : ∀ w' X n1 c1 Y n2 c2, Arr w' X n1 c1 (wd (oo.getD (Dy.zero, Dy.zero)).1.m) → Arr w' Y n2 c2 (wd (oo.getD (Dy.zero, Dy.zero)).2.m) → Wk w' g P oo.isNone 38 → w6.grownBy w' (some g) → ∀ W1, w'.grownBy W1 (some (w.heap.size + 1 + 1)) → RetSp oo g P 38 w (.returned (.agg #[.bool (oo.getD (Dy.zero, Dy.zero)).1.neg, .slice X n1 c1, .int .i64 (oo.getD (Dy.zero, Dy.zero)).1.e, .bool (oo.getD (Dy.zero, Dy.zero)).2.neg, .slice Y n2 c2, .int .i64 (oo.getD (Dy.zero, Dy.zero)).2.e])) W1 := by
      intro w' X n1 c1 Y n2 c2 g1 g2 hk' hG W1 gW1
      exact retSp_put g1 g2 (xr6.grown hG (show w.heap.size + 1 + 1 ≠ g by omega)) hk' (grown_trans gw hG) (show g ≠ w.heap.size + 1 + 1 by omega) (by omega) gW1
    have XR := Lib.hid (fun w' (hG : w6.grownBy w' (some g)) => xr6.grown hG (show w.heap.size + 1 + 1 ≠ g by omega))
    have KC := Lib.hid KC
    have KX := Lib.hid KX
    have RT := Lib.hid RT
    have gd : w6.grownBy w6.drew (some g) := grown_drew (grown_self _ _)
    clear k0 k1 k2 k3 k4 k5 jj0 jj1 jj2 jj3 jj4 jj5
    go_wp2_with fail
    refine wp_region_noPanic ?_
    refine wp_region_held_drew (S := fun w' => ((w'.cell? ⟨w.heap.size, 0, none⟩ = some (.bool p) ∧ w'.cell? ⟨w.heap.size, 1, none⟩ = some (.slice A n c) ∧ w'.cell? ⟨w.heap.size, 2, none⟩ = some (.int .i64 e) ∧ w'.cell? ⟨w.heap.size, 3, none⟩ = some (.bool q) ∧ w'.cell? ⟨w.heap.size, 4, none⟩ = some (.slice A' n' c') ∧ w'.cell? ⟨w.heap.size, 5, none⟩ = some (.int .i64 f)) ∧ w'.cell? ⟨w.heap.size + 1, 0, none⟩ = some (.bool s) ∧ w'.cell? ⟨w.heap.size + 1, 1, none⟩ = some (.slice B m k) ∧ w'.cell? ⟨w.heap.size + 1, 2, none⟩ = some (.int .i64 i) ∧ w'.cell? ⟨w.heap.size + 1, 3, none⟩ = some (.bool t) ∧ w'.cell? ⟨w.heap.size + 1, 4, none⟩ = some (.slice B' m' k') ∧ w'.cell? ⟨w.heap.size + 1, 5, none⟩ = some (.int .i64 j))) (by kernel_rfl) (KC.out _ gd) (fun hHeld => ?_)
    (refine wpAnyH_take (i := 0) (oi := ⟨some 14, _, _, _, _, _⟩) (v := ?_) rfl (by kernel_rfl) (by kernel_rfl) (by kernel_rfl) (fun _ _ _ h => h) (Or.inl ⟨by rfl, ?_⟩) (by assumption) ?_; rotate_left; (focus (intro w hSw; (try dsimp only at hSw); go_simp; (try with_reducible rfl))); (try simp only [Act.put, List.setIfInBounds_toArray, List.set_cons_zero, List.set_cons_succ]))
    (refine wpAnyH_take (i := 1) (oi := ⟨some 15, _, _, _, _, _⟩) (v := ?_) rfl (by kernel_rfl) (by kernel_rfl) (by kernel_rfl) (fun _ _ _ h => h) (Or.inl ⟨by rfl, ?_⟩) (by assumption) ?_; rotate_left; (focus (intro w hSw; (try dsimp only at hSw); go_simp; (try with_reducible rfl))); (try simp only [Act.put, List.setIfInBounds_toArray, List.set_cons_zero, List.set_cons_succ]))
    (refine wpAnyH_take (i := 2) (oi := ⟨some 16, _, _, _, _, _⟩) (v := ?_) rfl (by kernel_rfl) (by kernel_rfl) (by kernel_rfl) (fun _ _ _ h => h) (Or.inl ⟨by rfl, ?_⟩) (by assumption) ?_; rotate_left; (focus (intro w hSw; (try dsimp only at hSw); go_simp; (try with_reducible rfl))); (try simp only [Act.put, List.setIfInBounds_toArray, List.set_cons_zero, List.set_cons_succ]))
    (refine wpAnyH_take (i := 3) (oi := ⟨some 17, _, _, _, _, _⟩) (v := ?_) rfl (by kernel_rfl) (by kernel_rfl) (by kernel_rfl) (fun _ _ _ h => h) (Or.inl ⟨by rfl, ?_⟩) (by assumption) ?_; rotate_left; (focus (intro w hSw; (try dsimp only at hSw); go_simp; (try with_reducible rfl))); (try simp only [Act.put, List.setIfInBounds_toArray, List.set_cons_zero, List.set_cons_succ]))
    (refine wpAnyH_ready (rs := [4]) (by kernel_rfl) (by simp) ?_; refine AllReadyH.cons rfl (fun K hK => ?_) AllReadyH.nil)
    go_simp
    go_at_call 40
    refine (NG.out _ (hk6.arr hC gd) (hk6.arr hC' gd) (hk6.later (Below.drew (below_self _)))).mono ?_
    rintro r w7 ⟨A1, n1, c1, A2, n2, c2, rfl, a1, a2, hk7, g7⟩
    have gd := grown_trans gd g7
    (refine hK.out _ _ (KC.out _ gd) (fun hHeld2 => ?_); clear hHeld hK K; have hHeld := hHeld2; clear hHeld2; (try simp only [Act.put, List.setIfInBounds_toArray, List.set_cons_zero, List.set_cons_succ]))
    (refine wpAnyH_ready (rs := [5]) (by kernel_rfl) (by simp) ?_; refine AllReadyH.cons rfl (fun K hK => ?_) AllReadyH.nil)
    go_simp
    go_at_call 13
    refine (AD.out _ _ _ _ _ _ _ hk7 (hk6.arr hA gd) (hk6.arr hA' gd) a1 a2).mono ?_
    rintro r w8 ⟨A3, n3, c3, A4, n4, c4, rfl, a3, a4, hk8, g8⟩
    have gd := grown_trans gd g8
    (refine hK.out _ _ (KC.out _ gd) (fun hHeld2 => ?_); clear hHeld hK K; have hHeld := hHeld2; clear hHeld2; (try simp only [Act.put, List.setIfInBounds_toArray, List.set_cons_zero, List.set_cons_succ]))
    (refine wpAnyH_ready (rs := [6]) (by kernel_rfl) (by simp) ?_; refine AllReadyH.cons rfl (fun K hK => ?_) AllReadyH.nil)
    refine wp_put6R rfl _ _ rfl rfl (w.heap.size + 1 + 1) _ A3 n3 c3 _ _ A4 n4 c4 _ (XR.out _ gd) rfl rfl (fun W1 y1 gW1 => ?_)
    (refine hK.out _ _ (KX.out _ _ gd gW1) (fun hHeld2 => ?_); clear hHeld hK K; have hHeld := hHeld2; clear hHeld2; (try simp only [Act.put, List.setIfInBounds_toArray, List.set_cons_zero, List.set_cons_succ]))
    refine wpAnyH_done (by kernel_rfl) ?_ _
    refine NoPanic.normal ?_
    obtain ⟨u0, u1, u2, u3, u4, u5, -⟩ := y1.cell6
    go_wp2_with fail
    refine bodyPost_ret (v := _) ?_ rfl (RT.out _ _ _ _ _ _ _ a3 a4 hk8 gd _ gW1)
    simp [results, Tryz.results15, go_sem, u0, u1, u2, u3, u4, u5]
  · have ho : twoO true (bothO P false (⟨p, val xs, e⟩ : Dy) (negY (⟨t, val vs, j⟩ : Dy))) (bothO P true (⟨q, val ys, f⟩ : Dy) (negY (⟨s, val us, i⟩ : Dy))) = none := rfl
    rw [ho]
    go_enter Tryz.func15, Tryz.ntmps15
    go_wp2_with fail
    refine TK.out.mono ?_
    rintro r w6 ⟨rfl, hk6, g6⟩
    have xr6 := xr.grown g6 (show w.heap.size + 1 + 1 ≠ g by omega)
    have gw := grown_trans (grown_of b5 (some g)) g6
    go_wp2_with (refine wp_put6 rfl _ _ rfl rfl (w.heap.size + 1 + 1) false none 0 0 0 false none 0 0 0 xr6 rfl rfl (fun W1 y1 gW1 => ?_); have hk9 := hk6.other gW1 (show g ≠ w.heap.size + 1 + 1 by omega); obtain ⟨u0, u1, u2, u3, u4, u5, -⟩ := y1.cell6)
    refine bodyPost_ret (v := .agg #[.bool false, .slice none 0 0, .int .i64 0, .bool false, .slice none 0 0, .int .i64 0]) ?_ rfl (retSp_none hk9 (grown_own gw gW1 (by omega)))
    simp [results, Tryz.results15, go_sem, u0, u1, u2, u3, u4, u5]
end Go.Proofs.YteffemhapnbaeaaGreatDoor
