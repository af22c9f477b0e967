/- Walks and laws that the claim's row needs. No conditions. -/
import Derived.Test.YteffemhapnbaeaaGreatDoorQab
import Derived.Test.YteffemhapnbaeaaGreatDoorQac
import Derived.Test.YteffemhapnbaeaaGreatDoorQaa
import Derived.Deep.RegionWith
set_option maxHeartbeats 16000000
set_option linter.unusedSimpArgs false
set_option linter.unusedVariables false
namespace Go.Proofs.YteffemhapnbaeaaGreatDoor
open Go.RowKit Num
set_option maxRecDepth 100000
theorem Bf3 {w : Int} (h : 0 < w) : bl w = bl (w / 2) + 1 := by
 obtain ⟨a, e, a0, a1⟩ := Gz h
 have h2 : pw (a + 1) = pw a * 2 := pw_add a 1
 by_cases hz : a = 0
 ·subst hz
  have : pw 0 = 1 := rfl
  have hw : w = 1 := by omega
  subst hw; rfl
 ·obtain ⟨b, rfl⟩ : ∃ b, a = b + 1 := ⟨a - 1, by omega⟩
  have h3 : pw (b + 1) = pw b * 2 := pw_add b 1
  have := Lg (v := w / 2) (a := b) (by omega) (by rw [h3]; omega)
  omega
theorem Th (A : Option Addr) (n c : Nat) (xs : List Int) (w : World) (h : Arr w A n c xs) (hn : n ≤ 17592186044416) :
  Calls Tryz.prog 89 #[.slice A n c] w fun e w' => e = .returned (.int .i64 (bl (val xs))) ∧ Below w.heap.size w w' := by
 have T := Be (Lz A n c xs w h hn)
 have hv := h.val_nonneg
 have hlen := wd_len h.wf
 rw [h.len] at hlen
 by_cases h0 : val xs = 0
 ·have HB := Be (show bl (val xs) = 0 by rw [h0]; rfl)
  have HE := Be (show wd (val xs) = [] by rw [h0]; exact wd_zero (Int.le_refl _))
  clear h0
  go_enter Tryz.func89, Tryz.ntmps89
  go_wp2_with fail
  refine T.out.mono ?_; rintro e w' ⟨A2, n2, c2, rfl, hO, hb⟩
  rw [HE.out] at hO
  obtain rfl : n2 = 0 := hO.len.symm
  go_wp2_with fail
  go_ret
  exact ⟨by rw [HB.out]; rfl, hb⟩
 ·have hpos : 0 < (wd (val xs)).length := List.length_pos_iff.2 (wd_ne_nil (by omega))
  have hb := Sl (wf_wd _ hv) (top_wd _ hv) hpos
  rw [val_wd _ hv] at hb
  have HB := Be hb
  clear hb
  generalize hX : wd (val xs) = X at *
  clear hX h0
  go_enter Tryz.func89, Tryz.ntmps89
  go_wp2_with fail
  refine T.out.mono ?_; rintro e w1 ⟨A2, n2, c2, rfl, hO, hb⟩
  have hx := hO.arr
  obtain rfl : X.length = n2 := hO.len
  have hl0 : ((X.length : Int) == 0) = false := beq_eq_false_iff_ne.2 (by omega)
  obtain ⟨b, o, rfl, hlt, hc⟩ := hx.mem hpos
  have k1 := hc (X.length - 1) (by omega)
  have x1 := hx.words (X.length - 1)
  rw [List.getD_eq_getElem?_getD] at x1
  clear hc
  go_wp2
  generalize X[X.length - 1]?.getD 0 = x at *
  have hx64 := Gc (v := x) (a := 64) x1.1 (by rw [← B_pw, B_eq]; exact x1.2)
  have hx0 := Df x
  go_loop [4, 5] (fun v4 v5 => ∃ (y : Int) (m : Nat), v5 = .int .u64 y ∧ v4 = .int .i64 m ∧ 0 ≤ y ∧ y < 18446744073709551616 ∧ Hid ((m : Int) + bl y = bl (val xs)) ∧ m ≤ 64 * X.length + 64) (fun _ v5 => (intOf v5).toNat)
  case atStart => exact ⟨x, 64 * (X.length - 1), rfl, by go_num, x1.1, x1.2, by show _ = _; rw [HB.out]; omega, by omega⟩
  case round =>
   obtain ⟨y, m, rfl, rfl, y0, y1, hv, hm⟩ := hrel
   by_cases hy : 0 < y
   ·have hh := Bf3 hy
    have hm2 : m + 1 ≤ 64 * X.length + 64 := by
     have h1 := hv.out
     have h2 := Bgj hy
     have h3 := HB.out
     omega
    have HH := Be hh
    clear hh
    go_wp2
    exact ⟨⟨y / 2, m + 1, rfl, by go_num, by omega, by omega, by show _ = _; have := HH.out; have := hv.out; omega, hm2⟩, by simp only [intOf]; omega⟩
   ·obtain rfl : y = 0 := by omega
    have hv2 : (m : Int) = bl (val xs) := by have := hv.out; rw [Rp] at this; omega
    have HV := Be hv2
    clear hv2
    go_wp2
    go_ret
    exact ⟨by rw [← HV.out]; rfl, hb⟩
def mix (T D : List Int) (i : Nat) : List Int := T.take i ++ D.drop i
theorem Wz (T D : List Int) : mix T D 0 = D := by simp [mix]
theorem Bfc (T D : List Int) (h : T.length = D.length) : mix T D T.length = T := by unfold mix; rw [List.take_length, List.drop_eq_nil_of_le (by omega), List.append_nil]
theorem Yz (T D : List Int) (h : T.length = D.length) (i : Nat) : (mix T D i).length = D.length := by simp [mix, h]; omega
theorem Bfd (T D : List Int) (h : T.length = D.length) (i : Nat) (hi : i ≤ D.length) : (mix T D i).getD i 0 = D.getD i 0 := by
 unfold mix
 have hl : (T.take i).length = i := by simp; omega
 rw [List.getD_eq_getElem?_getD, List.getElem?_append_right (by omega), hl, Nat.sub_self, List.getElem?_drop, Nat.add_zero, ← List.getD_eq_getElem?_getD]
theorem Bfe (T D : List Int) (h : T.length = D.length) (i : Nat) (hi : i < D.length) : (mix T D i).set i (T.getD i 0) = mix T D (i + 1) := by
 unfold mix
 have hl : (T.take i).length = i := by simp; omega
 rw [List.set_append_right _ _ (by omega), hl, Nat.sub_self, List.drop_eq_getElem_cons hi, List.set_cons_zero, List.take_add_one, List.getElem?_eq_getElem (by omega), List.append_assoc]
 simp [List.getD_eq_getElem?_getD, List.getElem?_eq_getElem (by omega : i < T.length)]
theorem Bfs (A : Option Addr) (n c : Nat) (xs : List Int) (m r : Nat) (w : World) (h : Arr w A n c xs) (hn : n ≤ 17592186044416) (hr : r < 64) (hk : 64 * m + r ≤ 1048576) (hm : m < n) :
  Calls Tryz.prog 107 #[.slice A n c, .int .i64 ((64 * m + r : Nat) : Int)] w fun e w' => ∃ A' n' c', e = .returned (.slice A' n' c') ∧ Arr w' A' n' c' (wd (val (shrL r (xs.drop m)))) ∧ Below w.heap.size w w' := by
 have hcap := h.cap
 have hbig := h.big
 have HL := Be h.len
 have h1 : decide (((64 * m + r : Nat) : Int) < 0) = false := by simp; omega
 have h2 : decide (1048576 < ((64 * m + r : Nat) : Int)) = false := by simp; omega
 have q1 : ((64 * m + r : Nat) : Int) / 64 = m := by omega
 have q2 : ((64 * m + r : Nat) : Int) % 64 = r := by omega
 have q3 : decide ((n : Int) ≤ m) = false := by simp; omega
 generalize hK : ((64 * m + r : Nat) : Int) = K at *
 have hK0 : 0 ≤ K := by omega
 have hK1 : K ≤ 1048576 := by omega
 clear hK
 obtain ⟨b, o, rfl, hlt, hc⟩ := h.mem (by omega)
 have hD := h.drop m (by omega)
 have hmc : ¬ m = c := by omega
 go_enter Tryz.func107, Tryz.ntmps107
 go_wp2_with (at_builtin; refine De rfl _ _ rfl w.heap.size _ 0 [] rfl (Mh rfl (Nat.le_refl _)) _ (n - m) (c - m) (xs.drop m) rfl (hD.below (Ba (Bb w) _)) _ (Nat.zero_add _) (by omega) (by simp) ?_)
 intro v' w1 h1' h2'
 obtain ⟨A2, c2, rfl, hO⟩ := Dg h1' (h.wf.drop m)
 have hbw := (Ba (Bb w) (.cells #[] 51)).trans (Cf (B := w.heap.size) h2' (by simp) (by intro j hj; cases hj; exact Nat.le_refl _))
 obtain ⟨g, S0, rfl, hg, _⟩ := hO.row (by omega)
 have hDl : (xs.drop m).length = n - m := by rw [List.length_drop, HL.out]
 clear h1' h2' hc
 by_cases hr0 : r = 0
 ·subst hr0
  have e : val (shrL 0 (xs.drop m)) = val (xs.drop m) := by rw [val_shrL (by omega) (h.wf.drop m)]; simp [pw]
  have E := Be e
  clear e
  go_wp2_with fail
  refine (Lz _ _ _ _ _ hO.arr (by omega)).mono ?_; rintro e w' ⟨A3, n3, c3, rfl, hO3, hb3⟩
  go_wp2
  go_ret
  exact ⟨_, _, _, rfl, by rw [E.out]; exact hO3.arr, Bc hbw hb3⟩
 ·have hlen : (shrL r (xs.drop m)).length = (xs.drop m).length := shrL_length _ _
  have hget : ∀ i, i < n - m → (shrL r (xs.drop m)).getD i 0 = xs.getD (m + i) 0 / pw r + xs.getD (m + i + 1) 0 * pw (64 - r) % B := by
   intro i hi
   rw [shrL_get r _ i (by rw [hDl]; exact hi)]
   simp only [List.getD_eq_getElem?_getD, List.getElem?_drop]
   rw [show m + (i + 1) = m + i + 1 from by omega]
  have hgD : ∀ i, (xs.drop m).getD i 0 = xs.getD (m + i) 0 := by intro i; simp only [List.getD_eq_getElem?_getD, List.getElem?_drop]
  have hwT : Wf (shrL r (xs.drop m)) := wf_shrL (by omega) (h.wf.drop m)
  generalize hS : shrL r (xs.drop m) = T at *
  generalize hDe : xs.drop m = D at *
  have HDE := Be hDe
  clear hDe
  have HS := Be hS
  have HT := Be hlen
  have HD := Be hDl
  have HGet := Be hget
  have HGD := Be hgD
  clear hS hlen hget hDl hgD
  have d3 : decide (0 < (r : Int)) = true := by simp; omega
  go_wp2
  go_loopw [6] (fun v wr => ∃ i : Nat, i ≤ n - m ∧ v = .int .i64 i ∧ Own wr w.heap.size (some ⟨g, 0, none⟩) (n - m) c2 (mix T D i) ∧ Below w.heap.size w wr) (fun v _ => n - m - (intOf v).toNat)
  case atStart => exact ⟨0, Nat.zero_le _, rfl, by rw [Wz]; exact hO, hbw⟩
  case round =>
   obtain ⟨i, hi, rfl, hOr, hW⟩ := hrel
   have hA := h.below hW
   by_cases h0 : i < n - m
   ·obtain ⟨g', S, e, hB, hR, hl, ht⟩ := hOr.row (by omega)
    cases e
    obtain ⟨b', o', e', hlt', hc⟩ := hA.mem (by omega)
    cases e'
    have k2 : m + i + 1 < n → wr.cell? ⟨b, o + (m + i + 1), none⟩ = some (.int .u64 (xs.getD (m + i + 1) 0)) := fun hh => hc (m + i + 1) hh
    have x1 := hA.words (m + i)
    have y1 := hA.words (m + i + 1)
    have r1 := hR.cell i (by omega)
    rw [← Fq (by omega : i < n - m), ht, Bfd T D HT.out i (by rw [HD.out]; exact hi), HGD.out] at r1
    have r2 := hR.free i
    have hov := Xf (r := r) (by omega) x1.1 x1.2 y1.1
    have hT := HGet.out i h0
    have hTw := hwT.getD i
    have hs1 := fun v h0' h1' => hOr.set hR hl ht hB i h0 v h0' h1'
    have hms := Bfe T D HT.out i (by rw [HD.out]; exact h0)
    have hnext : n ≤ m + i + 1 → xs.getD (m + i + 1) 0 = 0 := fun hh => by rw [List.getD_eq_getElem?_getD, List.getElem?_eq_none (by rw [HL.out]; exact hh)]; rfl
    generalize xs.getD (m + i) 0 = x at *
    generalize hy0 : xs.getD (m + i + 1) 0 = y at *
    have HY := Be hy0
    clear hy0
    generalize T.getD i 0 = t at *
    have v1 : 0 ≤ x / 2 ^ r ∧ x / 2 ^ r < 18446744073709551616 := by
     have hp : (0 : Int) < 2 ^ r := Int.pow_pos (by decide)
     exact ⟨Int.ediv_nonneg x1.1 (by omega), Int.lt_of_le_of_lt (Int.ediv_le_self _ x1.1) x1.2⟩
    have hO2 := hs1 _ v1.1 v1.2
    have hW2 := Bo hW g i hg (.int .u64 (x / 2 ^ r))
    have HMS := Be hms
    have HOV := Be hov
    have HTT := Be hT
    have HV := Be v1
    have HN := Be hnext
    clear hms hov hT v1 hc hs1 ht hnext
    by_cases h3 : m + i + 1 < n
    ·have k3 := k2 h3
     have d4 : decide ((m : Int) + i + 1 < n) = true := by simp; omega
     clear k2
     go_wp2
     generalize wr.setCell ⟨g, i, none⟩ (.int .u64 (x / 2 ^ r)) = w2 at *
     obtain ⟨g', S2, e, _, hR2, hl2, ht2⟩ := hO2.row (by omega)
     cases e
     obtain ⟨b', o', e', _, hc⟩ := (h.below hW2).mem (by omega)
     cases e'
     have k4 := hc (m + i + 1) h3
     have r3 := hR2.cell i (by omega)
     have hml := Yz T D HT.out i
     rw [← Fq (by omega : i < n - m), ht2, getD_set_same _ _ _ (by rw [hml, HD.out]; exact h0)] at r3
     have r4 := hR2.free i
     have hs2 := fun v h0' h1' => hO2.set hR2 hl2 ht2 hB i h0 v h0' h1'
     have HS2 := Be hs2
     rw [HY.out] at k4
     clear hc k3 r1 r2 hs2 ht2 hml
     go_region
     all_goals go_wp2
     refine ⟨⟨i + 1, by omega, by go_num, ?_, ?_⟩, by simp only [intOf]; omega⟩
     ·have h4 := HS2.out t hTw.1 hTw.2
      rw [set_set, HMS.out] at h4
      rw [HOV.out, ← HTT.out]
      exact h4.later ((Bb _).drew)
     ·exact (Bo hW2 g i hg _).drew
    ·have d4 : decide ((m : Int) + i + 1 < n) = false := by simp; omega
     have ht0 : x / 2 ^ r = t := by
      rw [HTT.out, HN.out (by omega)]
      show x / pw r = _
      simp
     rw [ht0, HMS.out] at hO2
     rw [ht0] at hW2
     have HT0 := Be ht0
     clear ht0 k2
     go_wp2
     refine ⟨⟨i + 1, by omega, by go_num, by rw [HT0.out]; exact hO2, by rw [HT0.out]; exact hW2⟩, by simp only [intOf]; omega⟩
   ·obtain rfl : i = n - m := by omega
    have hOr2 : Own wr w.heap.size (some ⟨g, 0, none⟩) (n - m) c2 T := by
     have e := Bfc T D HT.out
     rw [HT.out, HD.out] at e
     rw [e] at hOr; exact hOr
    clear hOr
    go_wp2_with fail
    refine (Lz _ _ _ _ _ hOr2.arr (by omega)).mono ?_; rintro e w' ⟨A3, n3, c3, rfl, hO3, hb3⟩
    go_wp2
    go_ret
    exact ⟨_, _, _, rfl, by rw [HDE.out, HS.out]; exact hO3.arr, Bc hW hb3⟩
theorem rshr (A : Option Addr) (n c : Nat) (xs : List Int) (k : Int) (w : World) (h : Arr w A n c xs) (hn : n ≤ 17592186044416) (hk0 : -9223372036854775808 ≤ k) (hk1 : k ≤ 9223372036854775807) :
  Calls Tryz.prog 107 #[.slice A n c, .int .i64 k] w fun e w' => ∃ A' n' c', e = .returned (.slice A' n' c') ∧ Arr w' A' n' c' (wd (Vt (val xs) k)) ∧ Below w.heap.size w w' := by
 by_cases hk : 0 ≤ k ∧ k ≤ 1048576 ∧ k / 64 < n
 ·obtain ⟨q, rfl⟩ := Int.eq_ofNat_of_zero_le hk.1
  obtain ⟨m, r, hr, rfl⟩ : ∃ m r : Nat, r < 64 ∧ q = 64 * m + r := ⟨q / 64, q % 64, by omega, by omega⟩
  have := Bfs A n c xs m r w h hn hr (by omega) (by omega)
  rw [Bas h.wf hr] at this
  rw [Gs hk.1 hk.2.1]
  exact this
 ·have e : wd (Vt (val xs) k) = [] := by
   by_cases hk' : 0 ≤ k ∧ k ≤ 1048576
   ·obtain ⟨q, rfl⟩ := Int.eq_ofNat_of_zero_le hk'.1
    rw [Gs hk'.1 hk'.2, Int.toNat_natCast, Bar h.wf (by rw [h.len]; omega)]; exact wd_zero (Int.le_refl _)
   ·rw [Xx hk']; exact wd_zero (Int.le_refl _)
  rw [e]
  have hnil : ∀ w : World, Arr w none 0 0 [] := fun w => Arr.nothing w
  by_cases h0 : k < 0
  ·have h1 : decide (k < 0) = true := by simp [h0]
   go_enter Tryz.func107, Tryz.ntmps107
   go_wp2
   go_ret
   exact ⟨_, _, _, rfl, hnil _, Bb w⟩
  ·have h1 : decide (k < 0) = false := by simp [h0]
   by_cases h2 : 1048576 < k
   ·have h3 : decide (1048576 < k) = true := by simp [h2]
    go_enter Tryz.func107, Tryz.ntmps107
    go_wp2
    go_ret
    exact ⟨_, _, _, rfl, hnil _, Bb w⟩
   ·have h3 : decide (1048576 < k) = false := by simp; omega
    have h4 : decide ((n : Int) ≤ k / 64) = true := by simp; omega
    go_enter Tryz.func107, Tryz.ntmps107
    go_wp2
    go_ret
    exact ⟨_, _, _, rfl, hnil _, Bb w⟩
theorem Wb {w : World} {ops : Array Oper} {rest : List Oper} {o : Oper} {a : Act} {Q : Exit → Act → World → Prop} (hg : o.guard = none) (l c : Operand) (hop : o.op = Op.makeSlice 24 l c)
  (L C : Int) (n : Nat) (hl : a.eval l = .int .i64 L) (hc : a.eval c = .int .i64 C) (hL : L = (n : Int)) (hC : C = (n : Int)) (hn : n ≤ 35184372088832) (base : Nat) (hB : base ≤ w.heap.size)
  (hK : ∀ w' A, w'.ownsRow base 51 1 (.slice A n n) n (cellsOf (List.replicate n 0)) → Below w.heap.size w w' → (∀ k, (Value.slice A n n).ownBlock = some k → base ≤ k) → wpList Tryz.prog ops Q rest (a.put o.dst (.slice A n n)) w') :
  wpList Tryz.prog ops Q (o :: rest) a w := by
 obtain ⟨i0, hi, hz0, hz1, hz2⟩ := info_parts Su
 refine wpList_make_full w hg l c 24 hop base 51 i0 (.int .u64 0) 1 Tryz.underlying24 hi hz0 hz1 .i64 .i64 L C n hl hc hL hC (by rw [hz2]; omega) (by unfold maxLen; omega) hB ?_
 intro w' hown hgrow
 have e : (Value.int IntKind.u64 0).cells = #[Value.int .u64 0] := rfl
 rw [e, Hx] at hown
 exact hK w' _ hown (Rc hgrow) (fun k hk => (hown.lt k hk).1)
def Qe (r : Nat) (c : Int) : List Int → List Int
 | [] => []
 | x :: xs => (x * pw r % B + c) :: Qe r (x / pw (64 - r)) xs
theorem Ri (r : Nat) : ∀ (c : Int) (xs : List Int), (Qe r c xs).length = xs.length
 | _, [] => rfl
 | c, x :: xs => by simp [Qe, Ri r _ xs]
theorem Xw (r : Nat) : ∀ (xs : List Int) (c : Int) (i : Nat), i < xs.length → (Qe r c xs).getD i 0 = xs.getD i 0 * pw r % B + (if i = 0 then c else xs.getD (i - 1) 0 / pw (64 - r))
 | [], c, i, h => by simp at h
 | x :: xs, c, 0, _ => by simp [Qe]
 | x :: xs, c, i + 1, h => by
  have := Xw r xs (x / pw (64 - r)) i (by simpa using h)
  simp only [Qe, List.getD_cons_succ, this]
  cases i with
  | zero => simp
  | succ i => simp
theorem Bay {r : Nat} (hr : r < 64) : ∀ {xs : List Int} {c : Int}, Wf xs → 0 ≤ c → c < pw r → Wf (Qe r c xs)
 | [], _, _, _, _ => wf_nil
 | x :: xs, c, h, h0, h1 => by
  have h' := wf_cons.1 h
  have hq := pw_pos (64 - r)
  rw [Qe, wf_cons]
  have := Baq (x := x) hr h0 h1
  refine ⟨by omega, Bay hr h'.2 (Int.ediv_nonneg h'.1.1 (by omega)) ?_⟩
  exact Int.ediv_lt_of_lt_mul hq (by rw [← B_split (by omega), B_eq]; exact h'.1.2)
theorem Yf {r : Nat} (hr : r < 64) : ∀ (xs : List Int) (c : Int), val (Qe r c xs ++ [(if xs = [] then c else (xs.getLast?.getD 0) / pw (64 - r))]) = val xs * pw r + c
 | [], c => by simp [Qe, val]
 | x :: xs, c => by
  have ih := Yf hr xs (x / pw (64 - r))
  have e := Tk (x := x) (Nat.le_of_lt hr)
  have e2 : (if x :: xs = [] then c else ((x :: xs).getLast?.getD 0) / pw (64 - r)) = (if xs = [] then x / pw (64 - r) else (xs.getLast?.getD 0) / pw (64 - r)) := by
   rw [if_neg (by simp)]
   by_cases hx : xs = []
   ·subst hx; simp
   ·rw [if_neg hx, List.getLast?_cons]
    cases hl : xs.getLast? with
    | none => exact absurd (List.getLast?_eq_none_iff.1 hl) hx
    | some y => simp
  rw [e2, Qe, List.cons_append, val_cons, ih, val_cons, Int.add_mul, e]
  grind
theorem Ua {r : Nat} (hr : r < 64) (xs : List Int) : val (Qe r 0 (xs ++ [0])) = val xs * pw r := by
 have h := Yf hr (xs ++ [0]) 0
 rw [if_neg (by simp)] at h
 simp only [List.getLast?_append, List.getLast?_singleton, Option.some_or, Option.getD_some, Int.zero_ediv] at h
 rw [val_snoc_zero, val_snoc_zero, Int.add_zero] at h
 exact h
theorem Bdf (O T : List Int) (h : O.length = T.length) (i : Nat) (hi : i < O.length) : (mix O T (i + 1)).set i (T.getD i 0) = mix O T i := by
 unfold mix
 have hl : (O.take i).length = i := by simp; omega
 rw [List.take_add_one, List.getElem?_eq_getElem hi, List.append_assoc, List.set_append_right _ _ (by omega), hl, Nat.sub_self, List.drop_eq_getElem_cons (by omega : i < T.length)]
 simp [List.getD_eq_getElem?_getD, List.getElem?_eq_getElem (by omega : i < T.length)]
theorem Rg (O T : List Int) (k j : Nat) (hj : j < k) (hk : k ≤ O.length) : (mix O T k).getD j 0 = O.getD j 0 := by
 unfold mix
 rw [List.getD_eq_getElem?_getD, List.getElem?_append_left (by simp; omega), ← List.getD_eq_getElem?_getD, Fq hj]
theorem Bfi {x y : Int} {r : Nat} (hr : r < 64) (hx0 : 0 ≤ x) (hy0 : 0 ≤ y) (hy : y < 18446744073709551616) :
  bits .or .u64 (IntKind.u64.wrap (x * 2 ^ r)) (y / 2 ^ (64 - r)) = x * pw r % B + y / pw (64 - r) := by
 have hq := pw_pos (64 - r)
 have h1 : 0 ≤ y / pw (64 - r) := Int.ediv_nonneg hy0 (by omega)
 have h2 : y / pw (64 - r) < pw r := Int.ediv_lt_of_lt_mul hq (by rw [← B_split (by omega), B_eq]; exact hy)
 have h3 := Zd (x := x) (c := y / pw (64 - r)) hr hx0 h1 h2
 have h4 : y / pw (64 - r) < 18446744073709551616 := Int.lt_of_le_of_lt (Int.ediv_le_self _ hy0) hy
 have h5 : 0 ≤ IntKind.u64.wrap (x * 2 ^ r) ∧ IntKind.u64.wrap (x * 2 ^ r) < 18446744073709551616 := by rw [IntKind.wrap_u64]; omega
 have hc : bits .or .u64 (IntKind.u64.wrap (x * 2 ^ r)) (y / pw (64 - r)) = bits .or .u64 (y / pw (64 - r)) (IntKind.u64.wrap (x * 2 ^ r)) := by
  generalize y / pw (64 - r) = p at *
  generalize IntKind.u64.wrap (x * 2 ^ r) = q at *
  obtain ⟨a, rfl⟩ := Int.eq_ofNat_of_zero_le h1
  obtain ⟨b, rfl⟩ := Int.eq_ofNat_of_zero_le h5.1
  rw [bits_or_u64_nat _ _ (by omega) (by omega), bits_or_u64_nat _ _ (by omega) (by omega), Nat.or_comm]
 show bits .or .u64 (IntKind.u64.wrap (x * 2 ^ r)) (y / pw (64 - r)) = _
 rw [hc, h3]; omega
theorem Bfr (A : Option Addr) (n c : Nat) (xs : List Int) (m r : Nat) (w : World) (h : Arr w A n c xs) (hn : n ≤ 100000000) (hr : r < 64) (hk : 64 * m + r ≤ 1048576) (h0 : 0 < val xs) :
  Calls Tryz.prog 105 #[.slice A n c, .int .i64 ((64 * m + r : Nat) : Int)] w fun e w' => ∃ A' n' c', e = .returned (.slice A' n' c') ∧ Arr w' A' n' c' (wd (val xs * pw (64 * m + r))) ∧ Below w.heap.size w w' := by
 have hlen := wd_len h.wf
 rw [h.len] at hlen
 have hpos : 0 < (wd (val xs)).length := List.length_pos_iff.2 (wd_ne_nil h0)
 have hvX : val (wd (val xs)) = val xs := val_wd _ (by omega)
 have hwX := wf_wd (val xs) (by omega)
 have htX := top_wd (val xs) (by omega)
 have T := Be (Lz A n c xs w h (by omega))
 generalize hX : wd (val xs) = X at *
 have HV := Be hvX
 clear hX hvX
 have h1 : decide (((64 * m + r : Nat) : Int) < 0) = false := by simp; omega
 have h2 : decide (1048576 < ((64 * m + r : Nat) : Int)) = false := by simp; omega
 have h3 : ((X.length : Int) == 0) = false := beq_eq_false_iff_ne.2 (by omega)
 have q1 : ((64 * m + r : Nat) : Int) / 64 = m := by omega
 have q2 : ((64 * m + r : Nat) : Int) % 64 = r := by omega
 generalize hK : ((64 * m + r : Nat) : Int) = K at *
 have hK0 : 0 ≤ K := by omega
 have hK1 : K ≤ 1048576 := by omega
 clear hK
 have hm : m ≤ 16384 := by omega
 go_enter Tryz.func105, Tryz.ntmps105
 go_wp2_with fail
 refine T.out.mono ?_; rintro e w1 ⟨A1, n1, c1, rfl, hO1, hb1⟩
 obtain rfl : X.length = n1 := hO1.len
 have hx1 := hO1.arr
 go_wp2_with (at_make; refine Wb rfl _ _ rfl _ _ m rfl rfl ?m1 ?m2 ?m3 w.heap.size hb1.size ?_)
 case m1 => omega
 case m2 => omega
 case m3 => omega
 intro w2 A2 ho2 hb2 hB2
 have bw2 := Bc hb1 hb2
 have hx2 := hx1.below hb2
 clear hO1 hx1
 go_wp2_with (at_builtin; refine De rfl (.tmp 23) (.tmp 24) rfl w.heap.size _ m (List.replicate m 0) rfl ho2 A1 X.length c1 X rfl hx2 (m + X.length) rfl (by omega) bw2.size ?_)
 intro v3 w3 ho3 hg3
 have bw3 := bw2.trans (Cf hg3 bw2.size hB2)
 have hwO : Wf (List.replicate m 0 ++ X) := wf_append.2 ⟨wf_replicate m, hwX⟩
 obtain ⟨A3, c3, rfl, hO3⟩ := Dg ho3 hwO
 by_cases hr0 : r = 0
 ·subst hr0
  have d0 : ((0 : Int) == 0) = true := rfl
  have e : wd (val xs * pw (64 * m + 0)) = List.replicate m 0 ++ X := by
   have hv : val (List.replicate m 0 ++ X) = val xs * pw (64 * m + 0) := by
    rw [val_append, val_replicate, HV.out, List.length_replicate, B_pow_pw, Nat.add_zero]; grind
   rw [← hv]
   refine wd_val hwO ?_
   unfold Top at *
   rw [List.getLast?_append]
   cases hl : X.getLast? with
   | none => rw [List.getLast?_eq_none_iff] at hl; rw [hl] at hpos; simp at hpos
   | some y => rw [hl] at htX; simpa using htX
  have E := Be e
  clear e
  go_wp2
  go_ret
  exact ⟨_, _, _, rfl, by rw [E.out]; exact hO3.arr, bw3⟩
 ·have d0 : ((r : Int) == 0) = false := beq_eq_false_iff_ne.2 (by omega)
  go_wp2_with (at_builtin; refine De rfl (.tmp 30) (.tmp 31) rfl w.heap.size _ (m + X.length) (List.replicate m 0 ++ X) rfl (ho3.alloc _) _ 1 1 [0] rfl (Db rfl 0 (by omega) (by omega)) (m + X.length + 1) rfl (by omega) (by have := bw3.size; simp; omega) ?_)
  intro v4 w4 ho4 hg4
  have hwO2 : Wf (List.replicate m 0 ++ (X ++ [0])) := by rw [← List.append_assoc]; exact wf_append.2 ⟨hwO, Vz (by omega) (by omega)⟩
  obtain ⟨A4, c4, rfl, hO4⟩ := Dg ho4 hwO2
  have hB3 := fun k hk => (ho3.lt k hk).1
  have bw4 := (Ba bw3 (.cells #[.int .u64 0] 51)).trans (Cf (B := w.heap.size) hg4 (by have := bw3.size; simp; omega) hB3)
  have hvO : val (List.replicate m 0 ++ X) = B ^ m * val xs := by rw [val_append, val_replicate, HV.out, List.length_replicate]; omega
  have hLO : (List.replicate m 0 ++ (X ++ [0])).length = m + X.length + 1 := by simp; omega
  have hvT := Ua hr (List.replicate m 0 ++ X)
  rw [List.append_assoc] at hvT
  have hlT := Ri r 0 (List.replicate m 0 ++ (X ++ [0]))
  have hgT := Xw r (List.replicate m 0 ++ (X ++ [0])) 0
  have hwT : Wf (Qe r 0 (List.replicate m 0 ++ (X ++ [0]))) := Bay hr hwO2 (by omega) (pw_pos r)
  rw [hvO] at hvT
  generalize Qe r 0 (List.replicate m 0 ++ (X ++ [0])) = T at *
  generalize List.replicate m 0 ++ (X ++ [0]) = O at *
  have hfin : wd (val T) = wd (val xs * pw (64 * m + r)) := by rw [hvT, pw_add, B_pow_pw]; congr 1; grind
  have HF := Be hfin
  have HLO := Be hLO
  have HLT := Be hlT
  have HGT := Be hgT
  clear hfin hLO hlT hgT hvT hvO ho3 ho4 hg4 hg3 ho2 HV
  obtain ⟨g, S0, rfl, hg, _⟩ := hO4.row (by omega)
  generalize hL : m + X.length + 1 = L at *
  have HL := Be hL
  have hL0 : 0 < L := by omega
  have hL1 : L ≤ 200000000 := by omega
  clear hL
  go_wp2
  go_loopw [7] (fun v wr => ∃ i : Nat, i ≤ L ∧ v = .int .i64 ((i : Int) - 1) ∧ Own wr w.heap.size (some ⟨g, 0, none⟩) L c4 (mix O T i) ∧ Below w.heap.size w wr) (fun v _ => (intOf v + 1).toNat)
  case atStart => exact ⟨L, Nat.le_refl _, rfl, (by have e : mix O T L = O := (by unfold mix; rw [← HLO.out, List.take_length, List.drop_eq_nil_of_le (by rw [HLT.out]; omega), List.append_nil]); rw [e]; exact hO4), bw4⟩
  case round =>
   obtain ⟨i', hi, rfl, hOr, hW⟩ := hrel
   by_cases h0 : 0 < i'
   ·obtain ⟨i, rfl⟩ : ∃ i, i' = i + 1 := ⟨i' - 1, by omega⟩
    rw [show (((i + 1 : Nat) : Int) - 1) = (i : Int) from by omega]
    have hwO' := hwO2.getD i
    obtain ⟨g', S, e, hB, hR, hl, ht⟩ := hOr.row hL0
    cases e
    have r1 := hR.cell i (by omega)
    rw [← Fq (by omega : i < L), ht, Rg O T _ _ (by omega) (by rw [HLO.out]; omega)] at r1
    have r2 := hR.free i
    have r5 : 0 < i → wr.cell? ⟨g, i - 1, none⟩ = some (.int .u64 (O.getD (i - 1) 0)) := fun hh => by
     rw [hR.cell (i - 1) (by omega), ← Fq (by omega : i - 1 < L), ht, Rg O T _ _ (by omega) (by rw [HLO.out]; omega)]
    have x1 := hwO2.getD i
    have y1 := hwO2.getD (i - 1)
    have hT := HGT.out i (by rw [HLO.out]; omega)
    have hTw := hwT.getD i
    have hs1 := fun v h0' h1' => hOr.set hR hl ht hB i (by omega) v h0' h1'
    have hms := Bdf O T (by rw [HLT.out]) i (by rw [HLO.out]; omega)
    generalize O.getD i 0 = x at *
    generalize O.getD (i - 1) 0 = y at *
    generalize T.getD i 0 = t at *
    have v1 : 0 ≤ IntKind.u64.wrap (x * 2 ^ r) ∧ IntKind.u64.wrap (x * 2 ^ r) < 18446744073709551616 := by rw [IntKind.wrap_u64]; omega
    have hO2 := hs1 _ v1.1 v1.2
    have hW2 := Bo hW g i hg (.int .u64 (IntKind.u64.wrap (x * 2 ^ r)))
    have HMS := Be hms
    have HTT := Be hT
    have HOV := Be (Bfi hr x1.1 y1.1 y1.2)
    have r6 : wr.cell? ⟨g, i - 1, none⟩ = some (.int .u64 y) ∨ i = 0 := by
     by_cases hi0 : 0 < i
     ·exact .inl (r5 hi0)
     ·exact .inr (by omega)
    clear hms hT hs1 ht v1 r5
    by_cases hi0 : 0 < i
    ·have k5 := r6.resolve_right (by omega)
     clear r6
     have k6 : (wr.setCell ⟨g, i, none⟩ (.int .u64 (IntKind.u64.wrap (x * 2 ^ r)))).cell? ⟨g, i - 1, none⟩ = some (.int .u64 y) := by
      have hne2 : (⟨g, i, none⟩ : Addr) ≠ ⟨g, i - 1, none⟩ := by intro hh; injection hh with _ hh; omega
      exact (World.cell?_setCell_other wr _ _ _ hne2).trans k5
     go_wp2
     generalize wr.setCell ⟨g, i, none⟩ (.int .u64 (IntKind.u64.wrap (x * 2 ^ r))) = w2 at *
     obtain ⟨g', S2, e, _, hR2, hl2, ht2⟩ := hO2.row (by omega)
     cases e
     have hml : (mix O T (i + 1)).length = L := hOr.len
     have r3 := hR2.cell i (by omega)
     rw [← Fq (by omega : i < L), ht2, getD_set_same _ _ _ (by rw [hml]; omega)] at r3
     have r4 := hR2.free i
     have HS2 := Be (fun v h0' h1' => hO2.set hR2 hl2 ht2 hB i (by omega) v h0' h1')
     clear k5 r1 r2 ht2 hml
     go_region
     all_goals go_wp2
     refine ⟨⟨i, by omega, by go_num, ?_, ?_⟩, by simp only [intOf]; omega⟩
     ·have h4 := HS2.out t hTw.1 hTw.2
      rw [set_set, HMS.out] at h4
      have e1 : x * pw r % B + y / pw (64 - r) = t := by have := HTT.out; rw [if_neg (by omega)] at this; exact this.symm
      rw [HOV.out, e1]
      exact h4.later ((Bb _).drew)
     ·exact (Bo hW2 g i hg _).drew
    ·obtain rfl : i = 0 := by omega
     have ht0 : IntKind.u64.wrap (x * 2 ^ r) = t := by
      have := HTT.out
      rw [if_pos rfl, Int.add_zero] at this
      rw [IntKind.wrap_u64, this]; rfl
     rw [ht0, HMS.out] at hO2
     rw [ht0] at hW2
     have HT0 := Be ht0
     clear ht0 r6
     go_wp2
     refine ⟨⟨0, by omega, by go_num, by rw [HT0.out]; exact hO2, by rw [HT0.out]; exact hW2⟩, by simp [intOf]⟩
   ·obtain rfl : i' = 0 := by omega
    rw [Wz] at hOr
    go_wp2_with fail
    refine (Lz _ _ _ _ _ hOr.arr (by omega)).mono ?_; rintro e w' ⟨A5, n5, c5, rfl, hO5, hb5⟩
    go_wp2
    go_ret
    exact ⟨_, _, _, rfl, by rw [← HF.out]; exact hO5.arr, Bc hW hb5⟩
theorem Bc4 (A : Option Addr) (n c : Nat) (xs : List Int) (k : Int) (w : World) (h : Arr w A n c xs) (hn : n ≤ 100000000) (hk0 : -9223372036854775808 ≤ k) (hk1 : k ≤ 9223372036854775807) :
  Calls Tryz.prog 105 #[.slice A n c, .int .i64 k] w fun e w' => ∃ A' n' c', e = .returned (.slice A' n' c') ∧ Arr w' A' n' c' (wd (Ty (val xs) k)) ∧ Below w.heap.size w w' := by
 have hv := h.val_nonneg
 by_cases hk : 0 ≤ k ∧ k ≤ 1048576 ∧ 0 < val xs
 ·obtain ⟨q, rfl⟩ := Int.eq_ofNat_of_zero_le hk.1
  obtain ⟨m, r, hr, rfl⟩ : ∃ m r : Nat, r < 64 ∧ q = 64 * m + r := ⟨q / 64, q % 64, by omega, by omega⟩
  have := Bfr A n c xs m r w h hn hr (by omega) hk.2.2
  rw [Dm hk.1 hk.2.1]
  exact this
 ·have e : wd (Ty (val xs) k) = [] := by
   by_cases hk' : 0 ≤ k ∧ k ≤ 1048576
   ·have : val xs = 0 := by omega
    rw [Dm hk'.1 hk'.2, this, Int.zero_mul]; exact wd_zero (Int.le_refl _)
   ·rw [Xv hk']; exact wd_zero (Int.le_refl _)
  rw [e]
  have T := Be (Lz A n c xs w h (by omega))
  have hnil : ∀ w : World, Arr w none 0 0 [] := fun w => Arr.nothing w
  have hz : 0 ≤ k ∧ k ≤ 1048576 → wd (val xs) = [] := fun hh => by
   have : val xs = 0 := by omega
   rw [this]; exact wd_zero (Int.le_refl _)
  clear e
  by_cases h0 : k < 0
  ·have h1 : decide (k < 0) = true := by simp [h0]
   go_enter Tryz.func105, Tryz.ntmps105
   go_wp2
   go_ret
   exact ⟨_, _, _, rfl, hnil _, Bb w⟩
  ·have h1 : decide (k < 0) = false := by simp [h0]
   by_cases h2 : 1048576 < k
   ·have h3 : decide (1048576 < k) = true := by simp [h2]
    go_enter Tryz.func105, Tryz.ntmps105
    go_wp2
    go_ret
    exact ⟨_, _, _, rfl, hnil _, Bb w⟩
   ·have h3 : decide (1048576 < k) = false := by simp; omega
    have HZ := Be (hz (by omega))
    clear hz
    go_enter Tryz.func105, Tryz.ntmps105
    go_wp2_with fail
    refine T.out.mono ?_; rintro e w1 ⟨A1, n1, c1, rfl, hO1, hb1⟩
    rw [HZ.out] at hO1
    obtain rfl : n1 = 0 := hO1.len.symm
    go_wp2
    go_ret
    exact ⟨_, _, _, rfl, hO1.arr, hb1⟩
theorem Bcb {X Y : List Int} (hl : X.length = Y.length) {i : Nat} (hi : i < X.length) (hd : X.take i = Y.take i) (h : X[i]?.getD 0 = Y[i]?.getD 0) : X.take (i + 1) = Y.take (i + 1) := by
 rw [Dd (xs := X) (k := i + 1) (by omega) (by omega), Dd (xs := Y) (k := i + 1) (by omega) (by omega), Nat.add_sub_cancel, hd, h]
theorem Bja (A A' : Option Addr) (n c n' c' : Nat) (xs ys : List Int) (w : World) (h : Arr w A n c xs) (h' : Arr w A' n' c' ys) :
  Calls Tryz.prog 72 #[.slice A n c, .slice A' n' c'] w fun e w' => e = .returned (.bool (decide (xs = ys))) ∧ Still w w' := by
 have hl := h.len
 have hl' := h'.len
 have b1 := h.cap
 have b2 := h.big
 have b3 := h'.cap
 have b4 := h'.big
 by_cases hn : n = n'
 ·have hnb : ((n : Int) != (n' : Int)) = false := by simp [hn]
  subst hn
  have HL := Be hl
  have HL' := Be hl'
  clear hl hl'
  go_enter Tryz.func72, Tryz.ntmps72
  go_wp2
  go_loopw [5] (fun v wr => ∃ i : Nat, i ≤ n ∧ v = .int .i64 i ∧ Hid (xs.take i = ys.take i) ∧ Still w wr) (fun v _ => n - (intOf v).toNat)
  case atStart => exact ⟨0, Nat.zero_le _, rfl, rfl, Still.refl _⟩
  case round =>
   obtain ⟨i, hi, rfl, hd, ⟨m, rfl⟩⟩ := hrel
   by_cases h0 : i < n
   ·obtain ⟨b, o, rfl, hlt, hc⟩ := h.mem (by omega)
    obtain ⟨b', o', rfl, hlt', hc'⟩ := h'.mem (by omega)
    have k1 := hc i h0
    have k2 := hc' i h0
    have l1 : (i : Int) < n := by omega
    clear hc hc'
    go_wp2
    go_quiet (fail)
    go_wp2
    ·have hne : (xs[i]?.getD 0 != ys[i]?.getD 0) = true := by assumption
     have hne' : xs[i]?.getD 0 ≠ ys[i]?.getD 0 := by simpa using hne
     have e : decide (xs = ys) = false := decide_eq_false (fun hh => hne' (by rw [hh]))
     have HE := Be e
     clear e
     go_ret
     exact ⟨by rw [HE.out]; rfl, (by repeat (first | exact Still.refl _ | apply Still.drewN | apply Still.drew))⟩
    ·have hne : (xs[i]?.getD 0 != ys[i]?.getD 0) = false := by assumption
     have hne' : xs[i]?.getD 0 = ys[i]?.getD 0 := by simpa using hne
     exact ⟨⟨i + 1, by omega, by go_num, Bcb (by rw [HL.out, HL'.out]) (by rw [HL.out]; exact h0) hd.out hne', (by repeat (first | exact Still.refl _ | apply Still.drewN | apply Still.drew))⟩, by simp only [intOf]; omega⟩
   ·obtain rfl : i = n := by omega
    have e : decide (xs = ys) = true := decide_eq_true (by have := hd.out; rw [← HL.out, List.take_length, HL.out, ← HL'.out, List.take_length] at this; exact this)
    have HE := Be e
    clear e hd
    go_wp2
    go_ret
    exact ⟨by rw [HE.out]; rfl, (by repeat (first | exact Still.refl _ | apply Still.drewN | apply Still.drew))⟩
 ·have hnb : ((n : Int) != (n' : Int)) = true := by simp; omega
  have e : decide (xs = ys) = false := decide_eq_false (fun hh => hn (by rw [← hl, ← hl', hh]))
  have HE := Be e
  clear e hl hl'
  go_enter Tryz.func72, Tryz.ntmps72
  go_wp2
  go_ret
  exact ⟨by rw [HE.out]; rfl, (by repeat (first | exact Still.refl _ | apply Still.drewN | apply Still.drew))⟩
theorem Sh (x y : Int) (hx0 : 0 ≤ x) (hx : x < 18446744073709551616) (hy0 : 0 ≤ y) (hy : y < 18446744073709551616) (w : World) : ∃ s k : Int,
  (callFunc 133 #[.int .u64 x, .int .u64 y, .int .u64 0]).run Tryz.prog w = .ok (.value (.tuple #[.int .u64 s, .int .u64 k])) w ∧ x + y = s + k * 18446744073709551616 ∧ 0 ≤ s ∧ s < 18446744073709551616 ∧ 0 ≤ k ∧ k ≤ 1 := by
 have h := Jx x y 0 hx0 hy0 (Int.le_refl _) (by omega) w
 exact ⟨_, _, h, by omega, by omega, by omega, by omega, by omega⟩
theorem Bdg (x y : Int) (hx0 : 0 ≤ x) (hx : x < 18446744073709551616) (hy0 : 0 ≤ y) (hy : y < 18446744073709551616) : ∃ hi lo : Int,
  x * y / 18446744073709551616 = hi ∧ x * y % 18446744073709551616 = lo ∧ x * y = hi * 18446744073709551616 + lo ∧ 0 ≤ lo ∧ lo < 18446744073709551616 ∧ 0 ≤ hi ∧ x * y ≤ 340282366920938463426481119284349108225 := by
 have h1 : x * y ≤ 18446744073709551615 * y := Int.mul_le_mul_of_nonneg_right (by omega) hy0
 have h2 : 0 ≤ x * y := Int.mul_nonneg hx0 hy0
 exact ⟨_, _, rfl, rfl, by omega, by omega, by omega, by omega, by omega⟩
structure PlainInv (Z xs ys : List Int) (i k : Nat) (x c : Int) : Prop where
 v : val Z + c * B ^ (i + k) = val xs * val (ys.take i) + x * B ^ i * val (xs.take k)
 z : ∀ j, i + xs.length ≤ j → Z.getD j 0 = 0
theorem plain_step {Z xs ys : List Int} {i k : Nat} {x y c s s' c' : Int} (h : PlainInv Z xs ys i k x c) (hk : k < xs.length) (hl : i + k < Z.length) (hs : Z.getD (i + k) 0 = s) (hy : xs.getD k 0 = y) (e : x * y + c + s = s' + c' * 18446744073709551616) :
  PlainInv (Z.set (i + k) s') xs ys i (k + 1) x c' := by
 refine ⟨?_, fun j hj => by rw [getD_set_other _ _ _ _ (by omega)]; exact h.z j hj⟩
 have hv := h.v
 have e1 : val (xs.take (k + 1)) = val (xs.take k) + B ^ k * y := by
  rw [Dd (xs := xs) (k := k + 1) (by omega) (by omega), Nat.add_sub_cancel, val_append, List.length_take, Nat.min_eq_left (by omega), ← List.getD_eq_getElem?_getD, hy]
  simp [val]
 rw [val_set _ _ _ hl, hs, e1, ← Nat.add_assoc, Int.pow_succ, Int.pow_add]
 rw [Int.pow_add] at hv
 generalize B ^ i = p at *
 generalize B ^ k = q at *
 have e2 : c' * (p * q * B) = (x * y + c + s - s') * (p * q) := by
  have : x * y + c + s - s' = c' * B := by rw [B_eq]; omega
  rw [this]; grind
 rw [e2]; grind
theorem plain_last {Z xs ys : List Int} {i : Nat} {x c : Int} (h : PlainInv Z xs ys i xs.length x c) (hi : i < ys.length) (hl : i + xs.length < Z.length) (hx : ys.getD i 0 = x) :
  PlainInv (Z.set (i + xs.length) c) xs ys (i + 1) 0 0 0 := by
 have hv := h.v
 refine ⟨?_, fun j hj => by rw [getD_set_other _ _ _ _ (by omega)]; exact h.z j (by omega)⟩
 have e1 : val (ys.take (i + 1)) = val (ys.take i) + B ^ i * x := by
  rw [Dd (xs := ys) (k := i + 1) (by omega) (by omega), Nat.add_sub_cancel, val_append, List.length_take, Nat.min_eq_left (by omega), ← List.getD_eq_getElem?_getD, hx]
  simp [val]
 rw [List.take_length] at hv
 rw [val_set _ _ _ hl, h.z _ (Nat.le_refl _), e1, List.take_zero, val_nil]
 generalize B ^ i = p at *
 generalize B ^ (i + xs.length) = q at *
 grind
theorem plain_begin {Z xs ys : List Int} {i : Nat} (x : Int) (h : PlainInv Z xs ys i 0 0 0) : PlainInv Z xs ys i 0 x 0 := by
 have hv := h.v
 refine ⟨?_, h.z⟩
 rw [List.take_zero, val_nil, Int.zero_mul, Int.mul_zero] at *
 exact hv
theorem plain_start (xs ys : List Int) (n : Nat) : PlainInv (List.replicate n 0) xs ys 0 0 0 0 := by
 refine ⟨by rw [val_replicate]; simp [val], fun j _ => ?_⟩
 rw [List.getD_eq_getElem?_getD, List.getElem?_replicate]; split <;> rfl
theorem plain_end {Z xs ys : List Int} {i : Nat} (h : PlainInv Z xs ys i 0 0 0) (hi : ys.length ≤ i) : val Z = val xs * val ys := by
 have hv := h.v
 rw [List.take_of_length_le hi, Int.zero_mul, Int.zero_mul, Int.zero_mul] at hv
 omega
theorem Tt {xs ys : List Int} (h : Wf xs) (h' : Wf ys) {k : Nat} (hx : xs.length ≤ k) (hy : ys.length ≤ k) : (wd (val xs + val ys)).length ≤ k + 1 := by
 refine wd_length_le (by have := val_nonneg h; have := val_nonneg h'; omega) (Int.lt_of_lt_of_le (Mn h h') (B_pow_le (by omega)))
theorem Box.other {w w' : World} {g : Nat} {cs : Array Value} {t : TypeId} {r : Option Nat} (h : Box w g cs t) (hg : w.grownBy w' r) (hne : r ≠ some g) : Box w' g cs t :=
 ⟨(hg.block g h.lt (by intro e; exact hne e.symm)).trans h.heap⟩
set_option maxRecDepth 100000
def Ma (p q : Bool) (xs ys : List Int) (e f : Int) : Bool := p == q && (e == f && decide (xs = ys))
theorem Bek (p q : Bool) (A A' : Option Addr) (n c n' c' : Nat) (xs ys : List Int) (e f : Int) (w : World) (h : Arr w A n c xs) (h' : Arr w A' n' c' ys) :
  Calls Tryz.prog 32 #[.agg #[.bool p, .slice A n c, .int .i64 e], .agg #[.bool q, .slice A' n' c', .int .i64 f]] w fun r w' => r = .returned (.bool (Ma p q xs ys e f)) ∧ Below w.heap.size w w' := by
 have S : Hid (Ma p q xs ys e f = (p == q && (e == f && decide (xs = ys)))) := rfl
 generalize Ma p q xs ys e f = s at *
 generalize hx : decide (xs = ys) = d at *
 have HX := Be hx
 clear hx
 go_enter Tryz.func32, Tryz.ntmps32
 go_wp2_with fail
 ·have hb : Below w.heap.size w ((w.alloc (.cells #[.bool q, .slice A n c, .int .i64 f] 26)).alloc (.cells #[.bool q, .slice A' n' c', .int .i64 f] 26)) := (by repeat (first | with_reducible assumption | exact Bb _ | refine Bo ?_ _ _ (by first | exact Nat.le_refl _ | omega | (simp; done) | (simp; omega)) _ | refine Ba ?_ _ | apply Below.drew | apply Bd))
  have z1 : p = q := by assumption
  have z2 : e = f := by assumption
  refine (Bja A A' n c n' c' xs ys _ (h.below hb) (h'.below hb)).mono ?_
  rintro r w' ⟨rfl, hs⟩
  have bw := hb.trans (hs.below _)
  have hs' : s = decide (xs = ys) := by rw [S.out, z1, z2, ← HX.out]; simp
  have HS := Be hs'
  clear hs'
  rw [HX.out]
  go_wp2_with fail
  go_ret
  exact ⟨by rw [HS.out, HX.out]; rfl, bw⟩
 ·have z2 : ¬ e = f := by assumption
  have hs' : s = false := by rw [S.out]; simp [z2]
  go_ret
  exact ⟨by rw [hs']; first | rfl | simp [z2], (by repeat (first | with_reducible assumption | exact Bb _ | refine Bo ?_ _ _ (by first | exact Nat.le_refl _ | omega | (simp; done) | (simp; omega)) _ | refine Ba ?_ _ | apply Below.drew | apply Bd))⟩
 ·have z2 : ¬ p = q := by assumption
  have hs' : s = false := by rw [S.out]; simp [z2]
  go_ret
  exact ⟨by rw [hs']; first | rfl | simp [z2], (by repeat (first | with_reducible assumption | exact Bb _ | refine Bo ?_ _ _ (by first | exact Nat.le_refl _ | omega | (simp; done) | (simp; omega)) _ | refine Ba ?_ _ | apply Below.drew | apply Bd))⟩
theorem Bu {w w4 : World} {o : Option Dy} {A : Option Addr} {n c g : Nat} {t : TypeId} {p : Bool} {A' : Option Addr} {n' c' : Nat} {e : Int} (h : Arr w4 A n c (wd (Ci o).m)) (hb : Box w4 g #[.bool p, .slice A' n' c', .int .i64 e] t) (hw : Below w.heap.size w w4) (hg : w.heap.size ≤ g) :
  He o w (.returned (.tuple #[.agg #[.bool (Ci o).neg, .slice A n c, .int .i64 (Ci o).e], .bool o.isSome])) (((w4.setCell ⟨g, 0, none⟩ (.bool (Ci o).neg)).setCell ⟨g, 1, none⟩ (.slice A n c)).setCell ⟨g, 2, none⟩ (.int .i64 (Ci o).e)) :=
 ⟨A, n, c, rfl, h.set3 hb _ _ _ (by simp) (by simp), Bo (Bo (Bo hw _ _ hg _) _ _ hg _) _ _ hg _⟩
end Go.Proofs.YteffemhapnbaeaaGreatDoor
