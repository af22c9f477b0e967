/- Walks and laws that the claim's row needs. No conditions. -/
import Derived.Deep.RegionHeld3
import Derived.Test.YteffemhapnbaeaaGreatDoorQau
import Derived.Test.YteffemhapnbaeaaGreatDoorQan
import Derived.Test.YteffemhapnbaeaaGreatDoorQal
import Derived.Test.YteffemhapnbaeaaGreatDoorQat
import Derived.Test.YteffemhapnbaeaaGreatDoorQaq
import Derived.Test.YteffemhapnbaeaaGreatDoorQar
import Derived.Test.YteffemhapnbaeaaGreatDoorQap
set_option maxHeartbeats 16000000
set_option linter.unusedSimpArgs false
set_option linter.unusedVariables false
namespace Go.Proofs.YteffemhapnbaeaaGreatDoor
open Go.RowKit Num
set_option maxRecDepth 100000
def Fg (D1 D2 D3 D4 : Dy) (i : Nat) : Dy := if i = 0 then D1 else if i = 1 then D2 else if i = 2 then D3 else D4
def Ck (a b : DV) (i : Nat) : DV := if i = 0 then a else b
theorem Vp {l : List DV} {F : Nat → Dy} {i : Nat} (hl : l.length = i) (h : ∀ j (hj : j < l.length), Rep (l[j]) (F j)) {d : DV} (hd : Rep d (F i)) : ∀ j (hj : j < (l ++ [d]).length), Rep ((l ++ [d])[j]) (F j) := by
 intro j hj
 by_cases h0 : j < l.length
 ·rw [List.getElem_append_left h0]
  exact h j h0
 ·have hj' : j = i := by simp at hj; omega
  subst hj'
  rw [List.getElem_append_right (by omega)]
  simp only [hl, Nat.sub_self, List.getElem_cons_zero]
  exact hd
theorem Zc {l : List DV} {w w' : World} (h : ∀ j (hj : j < l.length), (l[j]).ok w) (ch : ∀ A n c xs, Arr w A n c xs → Arr w' A n c xs) {d : DV} (hd : d.ok w) : ∀ j (hj : j < (l ++ [d]).length), ((l ++ [d])[j]).ok w' := by
 intro j hj
 by_cases h0 : j < l.length
 ·rw [List.getElem_append_left h0]
  exact ch _ _ _ _ (h j h0)
 ·rw [List.getElem_append_right (by omega)]
  simp only [List.length_append, List.length_cons, List.length_nil] at hj
  have : j - l.length = 0 := by omega
  simp only [this, List.getElem_cons_zero]
  exact ch _ _ _ _ hd
theorem Box.beside {w w' : World} {k : Nat} {cs : Array Value} {t : TypeId} {r : Option Nat} (h : Box w k cs t) (hg : w.grownBy w' r) (hne : ∀ x, r = some x → x ≠ k) : Box w' k cs t :=
 ⟨(hg.block k h.lt (fun e => hne k e.symm rfl)).trans h.heap⟩
theorem Ba8 {base : Nat} {W w12 : World} {v7 v8 : Value} {l8 : List DV} {c1 c2 : Obj} (h8 : OwnD W base v8 l8) (sep : ∀ k, v8.ownBlock = some k → v7.ownBlock ≠ some k) (g7 : (W.alloc c1).grownBy w12 v7.ownBlock) : OwnD (w12.alloc c2) base v8 l8 :=
 ((h8.later (Ba (Bb _) c1)).beside g7 sep).later (Ba (Bb _) c2)
theorem Bb4 {base : Nat} {w0 W w12 w14 : World} {v7 v8 v7' v8' : Value} {l7 l8 l7' l8' : List DV} {c1 c2 : Obj} (hbase : base = w0.heap.size) (hW : Below base w0 W)
  (h7 : OwnD W base v7 l7) (h8 : OwnD W base v8 l8) (sep : ∀ k, v8.ownBlock = some k → v7.ownBlock ≠ some k)
  (hO7 : OwnD w12 base v7' l7') (g7 : (W.alloc c1).grownBy w12 v7.ownBlock) (p7 : v7'.ownBlock = v7.ownBlock ∨ v7'.ownBlock = some (W.heap.size + 1))
  (hO8 : OwnD w14 base v8' l8') (g8 : (w12.alloc c2).grownBy w14 v8.ownBlock) (p8 : v8'.ownBlock = v8.ownBlock ∨ v8'.ownBlock = some (w12.heap.size + 1)) :
  OwnD w14 base v7' l7' ∧ (∀ k, v8'.ownBlock = some k → v7'.ownBlock ≠ some k) ∧ Below base w0 w14 ∧ (∀ A n c xs, Arr W A n c xs → Arr w14 A n c xs) := by
 have hs1 : (W.alloc c1).heap.size = W.heap.size + 1 := by simp
 have hs2 : (w12.alloc c2).heap.size = w12.heap.size + 1 := by simp
 have hz := g7.size
 have hbs : base ≤ W.heap.size := by rw [hbase]; exact hW.size
 have sep' : ∀ k, v7'.ownBlock = some k → v8.ownBlock ≠ some k := by
  intro k hk hk8
  rcases p7 with e | e
  ·exact sep k hk8 (e.symm.trans hk)
  ·have := (h8.lt k hk8).2
   have hk' : some k = some _ := hk.symm.trans e
   simp only [Option.some.injEq] at hk'
   omega
 have hm := Ba8 (c2 := c2) h8 sep g7
 have h7' := h7.later (Ba (Bb _) c1)
 refine ⟨(hO7.later (Ba (Bb _) c2)).beside g8 sep', ?_, ?_, ?_⟩
 ·intro k hk hk7
  rcases p8 with e | e
  ·exact sep' k hk7 (e.symm.trans hk)
  ·have := (hO7.lt k hk7).2
   have hk' : some k = some _ := hk.symm.trans e
   simp only [Option.some.injEq] at hk'
   omega
 ·have t1 : Below base w0 (W.alloc c1) := hW.trans ((Below.refl _ _).alloc hbs c1)
  have t2 : Below base w0 w12 := t1.trans (h7'.below g7 (by omega))
  have t3 : Below base w0 (w12.alloc c2) := t2.trans ((Below.refl _ _).alloc (by omega) c2)
  exact t3.trans (hm.below g8 (by omega))
 ·intro A n c xs ha
  exact hm.arr ((h7'.arr (ha.below (Ba (Bb _) c1)) g7).below (Ba (Bb _) c2)) g8
theorem Lx {D1 D2 D3 D4 : Dy} {l : List DV} (hl : l.length = 4) (hr : ∀ j (hj : j < l.length), Rep (l[j]) (Fg D1 D2 D3 D4 j)) (h cap : Nat) (w : World) (hs : DVs w h l) (hlen : ∀ i, (wd (Fg D1 D2 D3 D4 i).m).length ≤ 1000000) :
  Calls Tryz.prog 51 #[.slice (some ⟨h, 0, none⟩) 4 cap, .bool false] w (Us (Cy false D1 D2 D3 D4) w) := by
 have hn : ∀ d ∈ l, d.n ≤ 1000000 := by
  intro d hd
  obtain ⟨j, hj, rfl⟩ := List.mem_iff_getElem.1 hd
  have := hs.ok j hj
  have e := (hr j hj).xs
  have hl := this.len
  rw [e] at hl
  have := hlen j
  omega
 refine (Xr h 4 cap l hl w hs (by omega) (by decide) hn).mono ?_
 rintro r w' ⟨rfl, ha, hb⟩
 match l, hl, hr with
 | [a, b, c, d], _, hr =>
  have R := Mp false (hr 0 (by simp)) (hr 1 (by simp)) (hr 2 (by simp)) (hr 3 (by simp))
  have R : Rep (Cc false [a, b, c, d]) (Cy false D1 D2 D3 D4) := R
  rw [R.xs] at ha
  exact ⟨_, _, _, by rw [R.neg, R.e], ha.below hb, hb⟩
theorem Ly {D1 D2 D3 D4 : Dy} {l : List DV} (hl : l.length = 4) (hr : ∀ j (hj : j < l.length), Rep (l[j]) (Fg D1 D2 D3 D4 j)) (h cap : Nat) (w : World) (hs : DVs w h l) (hlen : ∀ i, (wd (Fg D1 D2 D3 D4 i).m).length ≤ 1000000) :
  Calls Tryz.prog 51 #[.slice (some ⟨h, 0, none⟩) 4 cap, .bool true] w (Us (Cy true D1 D2 D3 D4) w) := by
 have hn : ∀ d ∈ l, d.n ≤ 1000000 := by
  intro d hd
  obtain ⟨j, hj, rfl⟩ := List.mem_iff_getElem.1 hd
  have := hs.ok j hj
  have e := (hr j hj).xs
  have hl := this.len
  rw [e] at hl
  have := hlen j
  omega
 refine (Xs h 4 cap l hl w hs (by omega) (by decide) hn).mono ?_
 rintro r w' ⟨rfl, ha, hb⟩
 match l, hl, hr with
 | [a, b, c, d], _, hr =>
  have R := Mp true (hr 0 (by simp)) (hr 1 (by simp)) (hr 2 (by simp)) (hr 3 (by simp))
  have R : Rep (Cc true [a, b, c, d]) (Cy true D1 D2 D3 D4) := R
  rw [R.xs] at ha
  exact ⟨_, _, _, by rw [R.neg, R.e], ha.below hb, hb⟩
theorem Bj4 (p q s t : Bool) (A A' B B' : Option Addr) (n c n' c' m k m' k' : Nat) (xs ys us vs : List Int) (e f i j P : Int) (g : Nat) (bad : Bool) (D1 D2 D3 D4 E1 E2 E3 E4 : Dy) (w : World)
  (h : Arr w A n c xs) (h' : Arr w A' n' c' ys) (hB : Arr w B m k us) (hB' : Arr w B' m' k' vs) (hk : Wk w g P bad 38) (hn : n ≤ 100000) (hn' : n' ≤ 100000) (hm : m ≤ 100000) (hm' : m' ≤ 100000)
  (ho : Bx bad P [(⟨p, A, n, c, xs, e, q, A', n', c', ys, f⟩ : SVal), (⟨s, B, m, k, us, i, t, B', m', k', vs, j⟩ : SVal)] = false → Hc s t us vs i j ≠ 0 →
   ((Cq p s xs us e i P false = some D1 ∧ Cq p t xs vs e j P false = some D2 ∧ Cq q s ys us f i P false = some D3 ∧ Cq q t ys vs f j P false = some D4) ∧
   (Cq p s xs us e i P true = some E1 ∧ Cq p t xs vs e j P true = some E2 ∧ Cq q s ys us f i P true = some E3 ∧ Cq q t ys vs f j P true = some E4)) ∧
   ∀ i, (wd (Fg D1 D2 D3 D4 i).m).length ≤ 1000000 ∧ (wd (Fg E1 E2 E3 E4 i).m).length ≤ 1000000) :
  Calls Tryz.prog 29 #[.pointer (some ⟨g, 0, none⟩), .agg #[.bool p, .slice A n c, .int .i64 e, .bool q, .slice A' n' c', .int .i64 f], .agg #[.bool s, .slice B m k, .int .i64 i, .bool t, .slice B' m' k', .int .i64 j]] w
   (Dx (if Bx bad P [(⟨p, A, n, c, xs, e, q, A', n', c', ys, f⟩ : SVal), (⟨s, B, m, k, us, i, t, B', m', k', vs, j⟩ : SVal)] = false ∧ Hc s t us vs i j ≠ 0 then some (Cy false D1 D2 D3 D4, Cy true E1 E2 E3 E4) else none) g P 38 w) := by
 have hg := hk.lt
 have b2 : Below w.heap.size w (w.alloc (.cells #[.bool p, .slice A n c, .int .i64 e, .bool q, .slice A' n' c', .int .i64 f] 28)) := Ba (Bb w) _
 have b3 : Below w.heap.size w ((w.alloc (.cells #[.bool p, .slice A n c, .int .i64 e, .bool q, .slice A' n' c', .int .i64 f] 28)).alloc (.cells #[.bool s, .slice B m k, .int .i64 i, .bool t, .slice B' m' k', .int .i64 j] 28)) := Ba b2 _
 have b4 : Below w.heap.size w (((w.alloc (.cells #[.bool p, .slice A n c, .int .i64 e, .bool q, .slice A' n' c', .int .i64 f] 28)).alloc (.cells #[.bool s, .slice B m k, .int .i64 i, .bool t, .slice B' m' k', .int .i64 j] 28)).alloc (.cells #[.bool false, .slice none 0 0, .int .i64 0, .bool false, .slice none 0 0, .int .i64 0] 28)) := Ba b3 _
 have b5 : Below w.heap.size w ((((w.alloc (.cells #[.bool p, .slice A n c, .int .i64 e, .bool q, .slice A' n' c', .int .i64 f] 28)).alloc (.cells #[.bool s, .slice B m k, .int .i64 i, .bool t, .slice B' m' k', .int .i64 j] 28)).alloc (.cells #[.bool false, .slice none 0 0, .int .i64 0, .bool false, .slice none 0 0, .int .i64 0] 28)).alloc (.cells #[.bool p, .slice A n c, .int .i64 e, .bool q, .slice A' n' c', .int .i64 f, .bool s, .slice B m k, .int .i64 i, .bool t, .slice B' m' k', .int .i64 j] 28)) := Ba b4 _
 have s2 : (w.alloc (.cells #[.bool p, .slice A n c, .int .i64 e, .bool q, .slice A' n' c', .int .i64 f] 28)).heap.size = w.heap.size + 1 := by simp
 have s3 : ((w.alloc (.cells #[.bool p, .slice A n c, .int .i64 e, .bool q, .slice A' n' c', .int .i64 f] 28)).alloc (.cells #[.bool s, .slice B m k, .int .i64 i, .bool t, .slice B' m' k', .int .i64 j] 28)).heap.size = w.heap.size + 1 + 1 := by simp
 have s4 : (((w.alloc (.cells #[.bool p, .slice A n c, .int .i64 e, .bool q, .slice A' n' c', .int .i64 f] 28)).alloc (.cells #[.bool s, .slice B m k, .int .i64 i, .bool t, .slice B' m' k', .int .i64 j] 28)).alloc (.cells #[.bool false, .slice none 0 0, .int .i64 0, .bool false, .slice none 0 0, .int .i64 0] 28)).heap.size = w.heap.size + 1 + 1 + 1 := by simp
 have xsa := (Bg w #[.bool p, .slice A n c, .int .i64 e, .bool q, .slice A' n' c', .int .i64 f] 28).later (Ba (Ba (Ba (Bb _) (.cells #[.bool s, .slice B m k, .int .i64 i, .bool t, .slice B' m' k', .int .i64 j] 28)) (.cells #[.bool false, .slice none 0 0, .int .i64 0, .bool false, .slice none 0 0, .int .i64 0] 28)) (.cells #[.bool p, .slice A n c, .int .i64 e, .bool q, .slice A' n' c', .int .i64 f, .bool s, .slice B m k, .int .i64 i, .bool t, .slice B' m' k', .int .i64 j] 28))
 have xsb := (Bg (w.alloc (.cells #[.bool p, .slice A n c, .int .i64 e, .bool q, .slice A' n' c', .int .i64 f] 28)) #[.bool s, .slice B m k, .int .i64 i, .bool t, .slice B' m' k', .int .i64 j] 28).later (Ba (Ba (Bb _) (.cells #[.bool false, .slice none 0 0, .int .i64 0, .bool false, .slice none 0 0, .int .i64 0] 28)) (.cells #[.bool p, .slice A n c, .int .i64 e, .bool q, .slice A' n' c', .int .i64 f, .bool s, .slice B m k, .int .i64 i, .bool t, .slice B' m' k', .int .i64 j] 28))
 have xr := (Bg ((w.alloc (.cells #[.bool p, .slice A n c, .int .i64 e, .bool q, .slice A' n' c', .int .i64 f] 28)).alloc (.cells #[.bool s, .slice B m k, .int .i64 i, .bool t, .slice B' m' k', .int .i64 j] 28)) #[.bool false, .slice none 0 0, .int .i64 0, .bool false, .slice none 0 0, .int .i64 0] 28).later (Ba (Bb _) (.cells #[.bool p, .slice A n c, .int .i64 e, .bool q, .slice A' n' c', .int .i64 f, .bool s, .slice B m k, .int .i64 i, .bool t, .slice B' m' k', .int .i64 j] 28))
 have xl := Bg (((w.alloc (.cells #[.bool p, .slice A n c, .int .i64 e, .bool q, .slice A' n' c', .int .i64 f] 28)).alloc (.cells #[.bool s, .slice B m k, .int .i64 i, .bool t, .slice B' m' k', .int .i64 j] 28)).alloc (.cells #[.bool false, .slice none 0 0, .int .i64 0, .bool false, .slice none 0 0, .int .i64 0] 28)) #[.bool p, .slice A n c, .int .i64 e, .bool q, .slice A' n' c', .int .i64 f, .bool s, .slice B m k, .int .i64 i, .bool t, .slice B' m' k', .int .i64 j] 28
 rw [s2] at xsb
 rw [s3] at xr
 rw [s4] at xl
 have hk5 := hk.later b5
 have TK := Hk g (w.heap.size + 1 + 1 + 1) 2 P bad [(⟨p, A, n, c, xs, e, q, A', n', c', ys, f⟩ : SVal), (⟨s, B, m, k, us, i, t, B', m', k', vs, j⟩ : SVal)] rfl _ hk5 (Jb (⟨p, A, n, c, xs, e, q, A', n', c', ys, f⟩ : SVal) (⟨s, B, m, k, us, i, t, B', m', k', vs, j⟩ : SVal) xl ⟨h.below b5, h'.below b5⟩ ⟨hB.below b5, hB'.below b5⟩) (by omega) (by decide) (fun s hs => by
  simp at hs
  rcases hs with rfl | rfl
  ·exact ⟨by show n ≤ 1000000; omega, by show n' ≤ 1000000; omega⟩
  ·exact ⟨by show m ≤ 1000000; omega, by show m' ≤ 1000000; omega⟩)
 obtain ⟨k0, k1, k2, k3, k4, k5, -⟩ := (Bg w #[.bool p, .slice A n c, .int .i64 e, .bool q, .slice A' n' c', .int .i64 f] 28).later (Ba (Ba (Bb _) (.cells #[.bool s, .slice B m k, .int .i64 i, .bool t, .slice B' m' k', .int .i64 j] 28)) (.cells #[.bool false, .slice none 0 0, .int .i64 0, .bool false, .slice none 0 0, .int .i64 0] 28)) |>.cell6
 obtain ⟨j0, j1, j2, j3, j4, j5, -⟩ := (Bg (w.alloc (.cells #[.bool p, .slice A n c, .int .i64 e, .bool q, .slice A' n' c', .int .i64 f] 28)) #[.bool s, .slice B m k, .int .i64 i, .bool t, .slice B' m' k', .int .i64 j] 28).later (Ba (Bb _) (.cells #[.bool false, .slice none 0 0, .int .i64 0, .bool false, .slice none 0 0, .int .i64 0] 28)) |>.cell6
 rw [s2] at j0 j1 j2 j3 j4 j5
 generalize Bx bad P [(⟨p, A, n, c, xs, e, q, A', n', c', ys, f⟩ : SVal), (⟨s, B, m, k, us, i, t, B', m', k', vs, j⟩ : SVal)] = tb at *
 have TK := Be TK
 have HO := Be ho
 clear ho s2 s3 s4 b2 b3 b4 xl
 cases tb
 ·by_cases hsg : Hc s t us vs i j = 0
  ·rw [if_neg (fun hh => hh.2 hsg)]
   go_enter Tryz.func29, Tryz.ntmps29
   go_wp2_with fail
   refine TK.out.mono ?_
   rintro r w6 ⟨rfl, hk6, g6⟩
   have xsb6 := xsb.grown g6 (show w.heap.size + 1 ≠ g by omega)
   have xr6 := xr.grown g6 (show w.heap.size + 1 + 1 ≠ g by omega)
   have gw := Bi (Bv b5 (some g)) g6
   have SG := Ban s t B B' m k m' k' us vs i j w6 (hk.arr hB gw) (hk.arr hB' gw) (by omega) (by omega)
   rw [hsg] at SG
   have SG := Be SG
   clear k0 k1 k2 k3 k4 k5 j0 j1 j2 j3 j4 j5 hsg
   obtain ⟨j0, j1, j2, j3, j4, j5, -⟩ := xsb6.cell6
   go_wp2_with fail
   refine SG.out.mono ?_
   rintro r w7 ⟨rfl, hb7⟩
   have hk7 := hk6.later hb7
   obtain ⟨z0, z1, f0, f1⟩ := hk7.cells
   have xr7 := xr6.later hb7
   have gw7 := Bp gw hb7
   have hk8 := hk7.set true
   have xr8 := xr7.apart (show w.heap.size + 1 + 1 ≠ g by omega) 1 (.bool true)
   have gw8 := Bi gw7 (Br _ g 1 (.bool true))
   clear j0 j1 j2 j3 j4 j5
   (go_wp2_with (refine Bt rfl _ _ rfl rfl (w.heap.size + 1 + 1) false none 0 0 0 false none 0 0 0 xr8 rfl rfl (fun W1 y1 gW1 => ?_); have hk9 := (hk8).other gW1 (show g ≠ w.heap.size + 1 + 1 by omega); obtain ⟨u0, u1, u2, u3, u4, u5, -⟩ := y1.cell6); refine bodyPost_ret (v := .agg #[.bool false, .slice none 0 0, .int .i64 0, .bool false, .slice none 0 0, .int .i64 0]) ?_ rfl (Cl hk9 (Cd gw8 gW1 (by omega))); simp [results, Tryz.results29, go_sem, u0, u1, u2, u3, u4, u5])
  ·rw [if_pos ⟨rfl, hsg⟩]
   obtain ⟨⟨⟨o1, o2, o3, o4⟩, q1, q2, q3, q4⟩, hlen⟩ := HO.out rfl hsg
   go_enter Tryz.func29, Tryz.ntmps29
   go_wp2_with fail
   refine TK.out.mono ?_
   rintro r w6 ⟨rfl, hk6, g6⟩
   have xsa6 := xsa.grown g6 (show w.heap.size ≠ g by omega)
   have xsb6 := xsb.grown g6 (show w.heap.size + 1 ≠ g by omega)
   have xr6 := xr.grown g6 (show w.heap.size + 1 + 1 ≠ g by omega)
   have gw := Bi (Bv b5 (some g)) g6
   have SG := Be (Ban s t B B' m k m' k' us vs i j w6 (hk.arr hB gw) (hk.arr hB' gw) (by omega) (by omega))
   have sg1 : decide (Hc s t us vs i j = 0) = false := decide_eq_false hsg
   clear k0 k1 k2 k3 k4 k5 j0 j1 j2 j3 j4 j5
   obtain ⟨j0, j1, j2, j3, j4, j5, -⟩ := xsb6.cell6
   generalize Hc s t us vs i j = sg at *
   go_wp2_with fail
   refine SG.out.mono ?_
   rintro r w7 ⟨rfl, hb7⟩
   have xsa7 := xsa6.later hb7
   have xsb7 := xsb6.later hb7
   have hk7 := hk6.later hb7
   have xr7 := xr6.later hb7
   have gw7 := Bp gw hb7
   have HA := hk.arr h gw7
   have HA' := hk.arr h' gw7
   have HB := hk.arr hB gw7
   have HB' := hk.arr hB' gw7
   clear j0 j1 j2 j3 j4 j5 xsa xsb xr TK SG HO b5
   obtain ⟨k0, k1, k2, k3, k4, k5, -⟩ := xsa7.cell6
   obtain ⟨j0, j1, j2, j3, j4, j5, -⟩ := (xsb7.later (Ba (Bb w7) (.cells #[.bool p, .slice A n c, .int .i64 e, .bool q, .slice A' n' c', .int .i64 f] 26))).cell6
   go_wp2_with fail
   have B0 : Below w7.heap.size w7 ((w7.alloc (.cells #[.bool p, .slice A n c, .int .i64 e, .bool q, .slice A' n' c', .int .i64 f] 26)).alloc (.cells #[.bool s, .slice B m k, .int .i64 i, .bool t, .slice B' m' k', .int .i64 j] 26)) := Ba (Ba (Bb _) _) _
   have xA := (Bg w7 #[.bool p, .slice A n c, .int .i64 e, .bool q, .slice A' n' c', .int .i64 f] 26).later (Ba (Bb _) (.cells #[.bool s, .slice B m k, .int .i64 i, .bool t, .slice B' m' k', .int .i64 j] 26))
   have xB := Bg (w7.alloc (.cells #[.bool p, .slice A n c, .int .i64 e, .bool q, .slice A' n' c', .int .i64 f] 26)) #[.bool s, .slice B m k, .int .i64 i, .bool t, .slice B' m' k', .int .i64 j] 26
   rw [show (w7.alloc (.cells #[.bool p, .slice A n c, .int .i64 e, .bool q, .slice A' n' c', .int .i64 f] 26)).heap.size = w7.heap.size + 1 by simp] at xB
   have hk0 := hk7.later B0
   have xr0 := xr7.later B0
   have gw0 := Bp gw7 B0
   have ha1 := HA.below B0
   have ha2 := HA'.below B0
   have hb1 := HB.below B0
   have hb2 := HB'.below B0
   generalize hW : ((w7.alloc (.cells #[.bool p, .slice A n c, .int .i64 e, .bool q, .slice A' n' c', .int .i64 f] 26)).alloc (.cells #[.bool s, .slice B m k, .int .i64 i, .bool t, .slice B' m' k', .int .i64 j] 26)) = w0 at *
   have RV : ∀ (x y : DV) (D : Dy) (up : Bool), x.ok w0 → y.ok w0 → x.n ≤ 100000 → y.n ≤ 100000 → Cq x.neg y.neg x.xs y.xs x.e y.e P up = some D → ∀ w', Below w0.heap.size w0 w' → Calls Tryz.prog 69 #[(.agg #[.bool x.neg, .slice x.A x.n x.c, .int .i64 x.e]), (.agg #[.bool y.neg, .slice y.A y.n y.c, .int .i64 y.e]), .int .i64 P, .bool up] w' fun r w'' => ∃ A5 n5 c5, r = .returned (.tuple #[.agg #[.bool D.neg, .slice A5 n5 c5, .int .i64 D.e], .bool true]) ∧ Arr w'' A5 n5 c5 (wd D.m) ∧ Below w'.heap.size w' w'' := by
    intro x y D up hx hy hxn hyn ho w' hb
    have R := rover x.neg y.neg x.A y.A x.n x.c y.n y.c x.xs y.xs x.e y.e P up w' (Arr.below hx hb) (Arr.below hy hb) hxn hyn
    rw [ho] at R
    exact R
   have RDn : ∀ i1, i1 < 4 → ∀ w', Below w0.heap.size w0 w' → Calls Tryz.prog 69 #[(.agg #[.bool (Ck (⟨p, A, n, c, xs, e⟩ : DV) (⟨q, A', n', c', ys, f⟩ : DV) (i1 / 2)).neg, .slice (Ck (⟨p, A, n, c, xs, e⟩ : DV) (⟨q, A', n', c', ys, f⟩ : DV) (i1 / 2)).A (Ck (⟨p, A, n, c, xs, e⟩ : DV) (⟨q, A', n', c', ys, f⟩ : DV) (i1 / 2)).n (Ck (⟨p, A, n, c, xs, e⟩ : DV) (⟨q, A', n', c', ys, f⟩ : DV) (i1 / 2)).c, .int .i64 (Ck (⟨p, A, n, c, xs, e⟩ : DV) (⟨q, A', n', c', ys, f⟩ : DV) (i1 / 2)).e]), (.agg #[.bool (Ck (⟨s, B, m, k, us, i⟩ : DV) (⟨t, B', m', k', vs, j⟩ : DV) (i1 % 2)).neg, .slice (Ck (⟨s, B, m, k, us, i⟩ : DV) (⟨t, B', m', k', vs, j⟩ : DV) (i1 % 2)).A (Ck (⟨s, B, m, k, us, i⟩ : DV) (⟨t, B', m', k', vs, j⟩ : DV) (i1 % 2)).n (Ck (⟨s, B, m, k, us, i⟩ : DV) (⟨t, B', m', k', vs, j⟩ : DV) (i1 % 2)).c, .int .i64 (Ck (⟨s, B, m, k, us, i⟩ : DV) (⟨t, B', m', k', vs, j⟩ : DV) (i1 % 2)).e]), .int .i64 P, .bool false] w' fun r w'' => ∃ A5 n5 c5, r = .returned (.tuple #[.agg #[.bool (Fg D1 D2 D3 D4 i1).neg, .slice A5 n5 c5, .int .i64 (Fg D1 D2 D3 D4 i1).e], .bool true]) ∧ Arr w'' A5 n5 c5 (wd (Fg D1 D2 D3 D4 i1).m) ∧ Below w'.heap.size w' w'' := by
    intro i1 hi1
    rcases (show i1 = 0 ∨ i1 = 1 ∨ i1 = 2 ∨ i1 = 3 by omega) with rfl | rfl | rfl | rfl
    ·exact RV (⟨p, A, n, c, xs, e⟩ : DV) (⟨s, B, m, k, us, i⟩ : DV) D1 false ha1 hb1 hn hm o1
    ·exact RV (⟨p, A, n, c, xs, e⟩ : DV) (⟨t, B', m', k', vs, j⟩ : DV) D2 false ha1 hb2 hn hm' o2
    ·exact RV (⟨q, A', n', c', ys, f⟩ : DV) (⟨s, B, m, k, us, i⟩ : DV) D3 false ha2 hb1 hn' hm o3
    ·exact RV (⟨q, A', n', c', ys, f⟩ : DV) (⟨t, B', m', k', vs, j⟩ : DV) D4 false ha2 hb2 hn' hm' o4
   have RUn : ∀ i1, i1 < 4 → ∀ w', Below w0.heap.size w0 w' → Calls Tryz.prog 69 #[(.agg #[.bool (Ck (⟨p, A, n, c, xs, e⟩ : DV) (⟨q, A', n', c', ys, f⟩ : DV) (i1 / 2)).neg, .slice (Ck (⟨p, A, n, c, xs, e⟩ : DV) (⟨q, A', n', c', ys, f⟩ : DV) (i1 / 2)).A (Ck (⟨p, A, n, c, xs, e⟩ : DV) (⟨q, A', n', c', ys, f⟩ : DV) (i1 / 2)).n (Ck (⟨p, A, n, c, xs, e⟩ : DV) (⟨q, A', n', c', ys, f⟩ : DV) (i1 / 2)).c, .int .i64 (Ck (⟨p, A, n, c, xs, e⟩ : DV) (⟨q, A', n', c', ys, f⟩ : DV) (i1 / 2)).e]), (.agg #[.bool (Ck (⟨s, B, m, k, us, i⟩ : DV) (⟨t, B', m', k', vs, j⟩ : DV) (i1 % 2)).neg, .slice (Ck (⟨s, B, m, k, us, i⟩ : DV) (⟨t, B', m', k', vs, j⟩ : DV) (i1 % 2)).A (Ck (⟨s, B, m, k, us, i⟩ : DV) (⟨t, B', m', k', vs, j⟩ : DV) (i1 % 2)).n (Ck (⟨s, B, m, k, us, i⟩ : DV) (⟨t, B', m', k', vs, j⟩ : DV) (i1 % 2)).c, .int .i64 (Ck (⟨s, B, m, k, us, i⟩ : DV) (⟨t, B', m', k', vs, j⟩ : DV) (i1 % 2)).e]), .int .i64 P, .bool true] w' fun r w'' => ∃ A5 n5 c5, r = .returned (.tuple #[.agg #[.bool (Fg E1 E2 E3 E4 i1).neg, .slice A5 n5 c5, .int .i64 (Fg E1 E2 E3 E4 i1).e], .bool true]) ∧ Arr w'' A5 n5 c5 (wd (Fg E1 E2 E3 E4 i1).m) ∧ Below w'.heap.size w' w'' := by
    intro i1 hi1
    rcases (show i1 = 0 ∨ i1 = 1 ∨ i1 = 2 ∨ i1 = 3 by omega) with rfl | rfl | rfl | rfl
    ·exact RV (⟨p, A, n, c, xs, e⟩ : DV) (⟨s, B, m, k, us, i⟩ : DV) E1 true ha1 hb1 hn hm q1
    ·exact RV (⟨p, A, n, c, xs, e⟩ : DV) (⟨t, B', m', k', vs, j⟩ : DV) E2 true ha1 hb2 hn hm' q2
    ·exact RV (⟨q, A', n', c', ys, f⟩ : DV) (⟨s, B, m, k, us, i⟩ : DV) E3 true ha2 hb1 hn' hm q3
    ·exact RV (⟨q, A', n', c', ys, f⟩ : DV) (⟨t, B', m', k', vs, j⟩ : DV) E4 true ha2 hb2 hn' hm' q4
   have KC : ∀ w', Below w0.heap.size w0 w' → ((w'.cell? ⟨w7.heap.size, 0, none⟩ = some (.bool p) ∧ w'.cell? ⟨w7.heap.size, 1, none⟩ = some (.slice A n c) ∧ w'.cell? ⟨w7.heap.size, 2, none⟩ = some (.int .i64 e) ∧ w'.cell? ⟨w7.heap.size, 3, none⟩ = some (.bool q) ∧ w'.cell? ⟨w7.heap.size, 4, none⟩ = some (.slice A' n' c') ∧ w'.cell? ⟨w7.heap.size, 5, none⟩ = some (.int .i64 f)) ∧ (w'.cell? ⟨w7.heap.size + 1, 0, none⟩ = some (.bool s) ∧ w'.cell? ⟨w7.heap.size + 1, 1, none⟩ = some (.slice B m k) ∧ w'.cell? ⟨w7.heap.size + 1, 2, none⟩ = some (.int .i64 i) ∧ w'.cell? ⟨w7.heap.size + 1, 3, none⟩ = some (.bool t) ∧ w'.cell? ⟨w7.heap.size + 1, 4, none⟩ = some (.slice B' m' k') ∧ w'.cell? ⟨w7.heap.size + 1, 5, none⟩ = some (.int .i64 j)) ∧ w'.cell? ⟨g, 0, none⟩ = some (.int .i64 P)) := by
    intro w' hb
    obtain ⟨z0, z1, z2, z3, z4, z5, -⟩ := (xA.later hb).cell6
    obtain ⟨y0, y1, y2, y3, y4, y5, -⟩ := (xB.later hb).cell6
    exact ⟨⟨z0, z1, z2, z3, z4, z5⟩, ⟨y0, y1, y2, y3, y4, y5⟩, (hk0.later hb).cells.1⟩
   have RDn := Be RDn
   have RUn := Be RUn
   have KC := Be KC
   have HW := Be hW
   have zb : (sg == 0) = false := by simpa using hsg
   simp only [zb]
   clear zb
   have l0g : g < w0.heap.size := hk0.lt
   have l0r : w.heap.size + 1 + 1 < w0.heap.size := xr0.lt
   clear hW RV o1 o2 o3 o4 q1 q2 q3 q4 ha1 ha2 hb1 hb2 HA HA' HB HB' k0 k1 k2 k3 k4 k5 j0 j1 j2 j3 j4 j5 B0 xA xB xsa7 xsb7 xsa6 xsb6 xr6 xr7 hk6 hk7 hk5 gw gw7 g6 hb7 h h' hB hB' sg1 hsg
   go_loopw [7, 8, 11] (fun v7 v8 vi wr => ∃ (i1 : Nat) (l7 l8 : List DV), i1 ≤ 4 ∧ vi = .int .i64 i1 ∧ Hid (l7.length = i1) ∧ Hid (l8.length = i1) ∧ OwnD wr w0.heap.size v7 l7 ∧ OwnD wr w0.heap.size v8 l8 ∧ Hid (∀ k, v8.ownBlock = some k → v7.ownBlock ≠ some k) ∧ Hid (∀ j (hj : j < l7.length), Rep (l7[j]) (Fg D1 D2 D3 D4 j)) ∧ Hid (∀ j (hj : j < l7.length), (l7[j]).ok wr) ∧ Hid (∀ j (hj : j < l8.length), Rep (l8[j]) (Fg E1 E2 E3 E4 j)) ∧ Hid (∀ j (hj : j < l8.length), (l8[j]).ok wr) ∧ Below w0.heap.size w0 wr) (fun _ _ vi _ => 4 - (intOf vi).toNat)
   case atStart =>
    exact ⟨0, [], [], by omega, rfl, rfl, rfl, .inl ⟨rfl, rfl⟩, .inl ⟨rfl, rfl⟩, by intro k hk; simp [Value.ownBlock] at hk, by intro j hj; simp at hj, by intro j hj; simp at hj, by intro j hj; simp at hj, by intro j hj; simp at hj, Bb _⟩
   case round =>
    obtain ⟨i1, l7, l8, hi4, rfl, e7, e8, O7, O8, sep, rep7, ok7, rep8, ok8, hW0⟩ := hrel
    by_cases h0 : i1 < 4
    ·have RD : ∀ w', Below wr.heap.size wr w' → Calls Tryz.prog 69 #[(.agg #[.bool (Ck (⟨p, A, n, c, xs, e⟩ : DV) (⟨q, A', n', c', ys, f⟩ : DV) (i1 / 2)).neg, .slice (Ck (⟨p, A, n, c, xs, e⟩ : DV) (⟨q, A', n', c', ys, f⟩ : DV) (i1 / 2)).A (Ck (⟨p, A, n, c, xs, e⟩ : DV) (⟨q, A', n', c', ys, f⟩ : DV) (i1 / 2)).n (Ck (⟨p, A, n, c, xs, e⟩ : DV) (⟨q, A', n', c', ys, f⟩ : DV) (i1 / 2)).c, .int .i64 (Ck (⟨p, A, n, c, xs, e⟩ : DV) (⟨q, A', n', c', ys, f⟩ : DV) (i1 / 2)).e]), (.agg #[.bool (Ck (⟨s, B, m, k, us, i⟩ : DV) (⟨t, B', m', k', vs, j⟩ : DV) (i1 % 2)).neg, .slice (Ck (⟨s, B, m, k, us, i⟩ : DV) (⟨t, B', m', k', vs, j⟩ : DV) (i1 % 2)).A (Ck (⟨s, B, m, k, us, i⟩ : DV) (⟨t, B', m', k', vs, j⟩ : DV) (i1 % 2)).n (Ck (⟨s, B, m, k, us, i⟩ : DV) (⟨t, B', m', k', vs, j⟩ : DV) (i1 % 2)).c, .int .i64 (Ck (⟨s, B, m, k, us, i⟩ : DV) (⟨t, B', m', k', vs, j⟩ : DV) (i1 % 2)).e]), .int .i64 P, .bool false] w' fun r w'' => ∃ A5 n5 c5, r = .returned (.tuple #[.agg #[.bool (Fg D1 D2 D3 D4 i1).neg, .slice A5 n5 c5, .int .i64 (Fg D1 D2 D3 D4 i1).e], .bool true]) ∧ Arr w'' A5 n5 c5 (wd (Fg D1 D2 D3 D4 i1).m) ∧ Below w'.heap.size w' w'' ∧ Below wr.heap.size wr w'' := fun w' hb => (RDn.out i1 h0 w' (Bc hW0 hb)).mono (by rintro r w'' ⟨A5, n5, c5, e5, h5, hb5⟩; exact ⟨A5, n5, c5, e5, h5, hb5, Bc hb hb5⟩)
     have RU : ∀ w', Below wr.heap.size wr w' → Calls Tryz.prog 69 #[(.agg #[.bool (Ck (⟨p, A, n, c, xs, e⟩ : DV) (⟨q, A', n', c', ys, f⟩ : DV) (i1 / 2)).neg, .slice (Ck (⟨p, A, n, c, xs, e⟩ : DV) (⟨q, A', n', c', ys, f⟩ : DV) (i1 / 2)).A (Ck (⟨p, A, n, c, xs, e⟩ : DV) (⟨q, A', n', c', ys, f⟩ : DV) (i1 / 2)).n (Ck (⟨p, A, n, c, xs, e⟩ : DV) (⟨q, A', n', c', ys, f⟩ : DV) (i1 / 2)).c, .int .i64 (Ck (⟨p, A, n, c, xs, e⟩ : DV) (⟨q, A', n', c', ys, f⟩ : DV) (i1 / 2)).e]), (.agg #[.bool (Ck (⟨s, B, m, k, us, i⟩ : DV) (⟨t, B', m', k', vs, j⟩ : DV) (i1 % 2)).neg, .slice (Ck (⟨s, B, m, k, us, i⟩ : DV) (⟨t, B', m', k', vs, j⟩ : DV) (i1 % 2)).A (Ck (⟨s, B, m, k, us, i⟩ : DV) (⟨t, B', m', k', vs, j⟩ : DV) (i1 % 2)).n (Ck (⟨s, B, m, k, us, i⟩ : DV) (⟨t, B', m', k', vs, j⟩ : DV) (i1 % 2)).c, .int .i64 (Ck (⟨s, B, m, k, us, i⟩ : DV) (⟨t, B', m', k', vs, j⟩ : DV) (i1 % 2)).e]), .int .i64 P, .bool true] w' fun r w'' => ∃ A5 n5 c5, r = .returned (.tuple #[.agg #[.bool (Fg E1 E2 E3 E4 i1).neg, .slice A5 n5 c5, .int .i64 (Fg E1 E2 E3 E4 i1).e], .bool true]) ∧ Arr w'' A5 n5 c5 (wd (Fg E1 E2 E3 E4 i1).m) ∧ Below w'.heap.size w' w'' ∧ Below wr.heap.size wr w'' := fun w' hb => (RUn.out i1 h0 w' (Bc hW0 hb)).mono (by rintro r w'' ⟨A5, n5, c5, e5, h5, hb5⟩; exact ⟨A5, n5, c5, e5, h5, hb5, Bc hb hb5⟩)
     have KR := fun w' (hb : Below wr.heap.size wr w') => KC.out w' (Bc hW0 hb)
     have ad7 := fun (d : DV) (hd : Rep d (Fg D1 D2 D3 D4 i1)) => Vp e7.out rep7.out hd
     have ad8 := fun (d : DV) (hd : Rep d (Fg E1 E2 E3 E4 i1)) => Vp e8.out rep8.out hd
     have n7 : ∀ d : DV, (l7 ++ [d]).length = i1 + 1 := fun d => by simp [e7.out]
     have n8 : ∀ d : DV, (l8 ++ [d]).length = i1 + 1 := fun d => by simp [e8.out]
     have k7 : l7.length ≤ 1000 := by have := e7.out; omega
     have k8 : l8.length ≤ 1000 := by have := e8.out; omega
     generalize Fg D1 D2 D3 D4 i1 = DD at RD ad7
     generalize Fg E1 E2 E3 E4 i1 = EE at RU ad8
     obtain ⟨s1, m1, f1⟩ := DD
     obtain ⟨s2, m2, f2⟩ := EE
     have kk0 := hW0.size
     have wz0 : IntKind.i64.wrap 0 = 0 := by first | rfl | decide | go_num
     have wz1 : IntKind.i64.wrap 1 = 1 := by first | rfl | decide | go_num
     obtain ⟨⟨j0, j1, j2, j3, j4, j5⟩, ⟨y0, y1, y2, y3, y4, y5⟩, z0⟩ := KR wr (Bb _)
     have AD7 := Be ad7
     have AD8 := Be ad8
     have N7 := Be n7
     have N8 := Be n8
     have KR := Be KR
     clear ad7 ad8 n7 n8 RDn RUn KC
     rcases (show i1 = 0 ∨ i1 = 1 ∨ i1 = 2 ∨ i1 = 3 by omega) with rfl | rfl | rfl | rfl
     all_goals
      simp only [Ck, Nat.reduceDiv, Nat.reduceMod, reduceIte, Nat.succ_ne_zero, Nat.reduceEqDiff, if_true, if_false, Nat.one_ne_zero] at RD RU
      have RD := Be RD
      have RU := Be RU
      go_wp2_with fail
      go_region_held3 (fun w' => ((w'.cell? ⟨w7.heap.size, 0, none⟩ = some (.bool p) ∧ w'.cell? ⟨w7.heap.size, 1, none⟩ = some (.slice A n c) ∧ w'.cell? ⟨w7.heap.size, 2, none⟩ = some (.int .i64 e) ∧ w'.cell? ⟨w7.heap.size, 3, none⟩ = some (.bool q) ∧ w'.cell? ⟨w7.heap.size, 4, none⟩ = some (.slice A' n' c') ∧ w'.cell? ⟨w7.heap.size, 5, none⟩ = some (.int .i64 f)) ∧ (w'.cell? ⟨w7.heap.size + 1, 0, none⟩ = some (.bool s) ∧ w'.cell? ⟨w7.heap.size + 1, 1, none⟩ = some (.slice B m k) ∧ w'.cell? ⟨w7.heap.size + 1, 2, none⟩ = some (.int .i64 i) ∧ w'.cell? ⟨w7.heap.size + 1, 3, none⟩ = some (.bool t) ∧ w'.cell? ⟨w7.heap.size + 1, 4, none⟩ = some (.slice B' m' k') ∧ w'.cell? ⟨w7.heap.size + 1, 5, none⟩ = some (.int .i64 j)) ∧ w'.cell? ⟨g, 0, none⟩ = some (.int .i64 P))) (first | (refine KR.out _ ?_; (repeat (first | with_reducible assumption | with_reducible exact Bb _ | with_reducible refine Bd ?_ _ | with_reducible apply Below.drew | with_reducible refine Ba ?_ _ | (refine Bo ?_ _ _ (by first | exact Nat.le_refl _ | omega | (simp; done) | (simp; omega)) _))); done) | go_keep) (first | (go_at_call 69; refine (RD.out _ ?_).mono ?_; (repeat (first | with_reducible assumption | with_reducible exact Bb _ | with_reducible refine Bd ?_ _ | with_reducible apply Below.drew | with_reducible refine Ba ?_ _ | (refine Bo ?_ _ _ (by first | exact Nat.le_refl _ | omega | (simp; done) | (simp; omega)) _))); rintro r w8 ⟨A1, n1, c1, rfl, a1, hc1, hb1⟩; (first | (have NB := Hp hc1; obtain ⟨v0, v1, v2, v3, v4, v5⟩ := NB.cell3) | skip)))
      all_goals
       first
        | (have MB := Fp (w := wr) (s := s1) (f := f1) a1 hb1 NB)
        | (have MB := Da (w := wr) (s := s1) (f := f1) a1 hb1)
       obtain ⟨W9, k9, e1, e2, x9, a9, b9, l9⟩ := MB
       rw [← e1, ← e2]
       have KC9 := fun w' (hb : Below W9.heap.size W9 w') => KR.out w' (Bc b9 hb)
       have RU9 := fun w' (hb : Below W9.heap.size W9 w') => RU.out w' (Bc b9 hb)
       clear e1 e2 hb1 a1 hc1 j0 j1 j2 j3 j4 j5 y0 y1 y2 y3 y4 y5 z0 KR RD RU
       try clear NB v0 v1 v2 v3 v4 v5
       obtain ⟨⟨j0, j1, j2, j3, j4, j5⟩, ⟨y0, y1, y2, y3, y4, y5⟩, z0⟩ := KC9 W9 (Bb _)
       have KR := Be KC9
       have RU := Be RU9
       clear KC9 RU9
       go_wp2_with fail
       go_region_held3 (fun w' => ((w'.cell? ⟨w7.heap.size, 0, none⟩ = some (.bool p) ∧ w'.cell? ⟨w7.heap.size, 1, none⟩ = some (.slice A n c) ∧ w'.cell? ⟨w7.heap.size, 2, none⟩ = some (.int .i64 e) ∧ w'.cell? ⟨w7.heap.size, 3, none⟩ = some (.bool q) ∧ w'.cell? ⟨w7.heap.size, 4, none⟩ = some (.slice A' n' c') ∧ w'.cell? ⟨w7.heap.size, 5, none⟩ = some (.int .i64 f)) ∧ (w'.cell? ⟨w7.heap.size + 1, 0, none⟩ = some (.bool s) ∧ w'.cell? ⟨w7.heap.size + 1, 1, none⟩ = some (.slice B m k) ∧ w'.cell? ⟨w7.heap.size + 1, 2, none⟩ = some (.int .i64 i) ∧ w'.cell? ⟨w7.heap.size + 1, 3, none⟩ = some (.bool t) ∧ w'.cell? ⟨w7.heap.size + 1, 4, none⟩ = some (.slice B' m' k') ∧ w'.cell? ⟨w7.heap.size + 1, 5, none⟩ = some (.int .i64 j)) ∧ w'.cell? ⟨g, 0, none⟩ = some (.int .i64 P))) (first | (refine KR.out _ ?_; (repeat (first | with_reducible assumption | with_reducible exact Bb _ | with_reducible refine Bd ?_ _ | with_reducible apply Below.drew | with_reducible refine Ba ?_ _ | (refine Bo ?_ _ _ (by first | exact Nat.le_refl _ | omega | (simp; done) | (simp; omega)) _))); done) | go_keep) (first | (go_at_call 69; refine (RU.out _ ?_).mono ?_; (repeat (first | with_reducible assumption | with_reducible exact Bb _ | with_reducible refine Bd ?_ _ | with_reducible apply Below.drew | with_reducible refine Ba ?_ _ | (refine Bo ?_ _ _ (by first | exact Nat.le_refl _ | omega | (simp; done) | (simp; omega)) _))); rintro r w10 ⟨A2, n2, c2, rfl, a2, hc2, -⟩; (have hb2 : Below W9.heap.size W9 w10 := (by refine Bc ?_ hc2; (repeat (first | with_reducible assumption | with_reducible exact Bb _ | with_reducible refine Bd ?_ _ | with_reducible apply Below.drew | with_reducible refine Ba ?_ _ | (refine Bo ?_ _ _ (by first | exact Nat.le_refl _ | omega | (simp; done) | (simp; omega)) _))))); (first | (have NB := Hp hc2; obtain ⟨v0, v1, v2, v3, v4, v5⟩ := NB.cell3) | skip)))
       all_goals
        first
         | (have MB := Fp (w := W9) (s := s2) (f := f2) a2 hb2 NB)
         | (have MB := Da (w := W9) (s := s2) (f := f2) a2 hb2)
        obtain ⟨W10, k10, e1, e2, x10, a10, b10, l10⟩ := MB
        rw [← e1, ← e2]
        have x9' := x9.later b10
        have a9' := a9.below b10
        have hWX : Below w0.heap.size w0 W10 := Bc (Bc hW0 b9) b10
        have O7' := (O7.later b9).later b10
        have O8' := (O8.later b9).later b10
        have sep10 : ∀ x, u7.ownBlock = some x → x ≠ k10 := fun x hx => by
         have := (O7.lt x hx).2
         have := b9.size
         omega
        have ok7' := Be (fun j (hj : j < l7.length) => ((ok7.out j hj).below b9).below b10)
        have ok8' := Be (fun j (hj : j < l8.length) => ((ok8.out j hj).below b9).below b10)
        have zW : w0.heap.size ≤ W10.heap.size := hWX.size
        have zA : ∀ o : Obj, w0.heap.size ≤ (W10.alloc o).heap.size := fun o => by simp; omega
        clear e1 e2 hb2 a2 hc2 j0 j1 j2 j3 j4 j5 y0 y1 y2 y3 y4 y5 z0 KR RU
        try clear NB v0 v1 v2 v3 v4 v5
        obtain ⟨t0, t1, t2, -, -, -⟩ := x9'.cell3
        go_wp2_with (at_builtin; refine Wa rfl _ _ rfl w0.heap.size _ l7 rfl (O7'.later (Ba (Bb _) _)) ⟨s1, A1, n1, c1, wd m1, f1⟩ _ _ 26 rfl (Bg W10 _ _) k7 (zA _) ?_)
        intro v7' w12 hO7 g7 p7
        have x10' := (x10.later (Ba (Bb _) _)).beside g7 sep10
        obtain ⟨t3, t4, t5, -, -, -⟩ := x10'.cell3
        have zB : ∀ o : Obj, w0.heap.size ≤ (w12.alloc o).heap.size := fun o => by
         have h1 := g7.size
         have h2 := zA (.cells #[.bool s1, .slice A1 n1 c1, .int .i64 f1] 26)
         simp
         omega
        clear t0 t1 t2
        go_wp2_with (at_builtin; refine Wa rfl _ _ rfl w0.heap.size _ l8 rfl (Ba8 O8' sep.out g7) ⟨s2, A2, n2, c2, wd m2, f2⟩ _ _ 26 rfl (Bg w12 _ _) k8 (zB _) ?_)
        intro v8' w14 hO8 g8 p8
        clear t3 t4 t5
        go_wp2_with fail
        obtain ⟨r1, r2, r3, r4⟩ := Bb4 rfl hWX O7' O8' sep.out hO7 g7 p7 hO8 g8 p8
        exact ⟨⟨_, _, _, Nat.succ_le_of_lt h0, by first | rfl | go_num, N7.out _, N8.out _, r1, hO8, r2, AD7.out _ ⟨rfl, rfl, rfl⟩, Zc (d := ⟨s1, A1, n1, c1, wd m1, f1⟩) ok7'.out r4 a9', AD8.out _ ⟨rfl, rfl, rfl⟩, Zc (d := ⟨s2, A2, n2, c2, wd m2, f2⟩) ok8'.out r4 a10, r3⟩, by first | decide | (simp [intOf]; done) | (simp [intOf]; omega)⟩
    ·obtain rfl : i1 = 4 := by omega
     have d7 := OwnD.dvs O7 (by rw [e7.out]; decide) ok7.out
     have d8 := OwnD.dvs O8 (by rw [e8.out]; decide) ok8.out
     rw [e7.out] at d7
     rw [e8.out] at d8
     obtain ⟨g7, c7, rfl, v7⟩ := d7
     obtain ⟨g8, c8, rfl, v8⟩ := d8
     have L7 := Be (Lx e7.out rep7.out g7 c7 wr v7 (fun i => (hlen i).1))
     have L8 := Be (fun w' (hb : Below wr.heap.size wr w') => Ly e8.out rep8.out g8 c8 w' (v8.later hb) (fun i => (hlen i).2))
     have xr1 := xr0.later hW0
     have hk1 := hk0.later hW0
     have gw1 := Bp gw0 hW0
     clear RDn RUn KC O7 O8 sep rep7 ok7 rep8 ok8 hlen
     go_wp2_with fail
     refine L7.out.mono ?_
     rintro r w2 ⟨A1, n1, c1, rfl, a1, hb2⟩
     go_wp2_with fail
     refine (L8.out _ hb2).mono ?_
     rintro r w3 ⟨A2, n2, c2, rfl, a2, hb3⟩
     have hb13 := Bc hb2 hb3
     have xr3 := xr1.later hb13
     have hk3 := hk1.later hb13
     have gw3 := Bp gw1 hb13
     have a1 := a1.below hb3
     generalize Cy false D1 D2 D3 D4 = LL at *
     generalize Cy true E1 E2 E3 E4 = UU at *
     go_wp2_with (refine Bt rfl _ _ rfl rfl (w.heap.size + 1 + 1) _ A1 n1 c1 _ _ A2 n2 c2 _ xr3 rfl rfl (fun W1 y1 gW1 => ?_); obtain ⟨z3, z4, z5, z6, z7, z8, -⟩ := y1.cell6)
     refine bodyPost_ret (v := _) ?_ rfl (Ff (o := some (LL, UU)) a1 a2 xr3 hk3 gw3 (show g ≠ w.heap.size + 1 + 1 by omega) (by omega) gW1)
     simp [results, Tryz.results29, go_sem, z3, z4, z5, z6, z7, z8]
 ·rw [if_neg (fun hh => by cases hh.1)]
  go_enter Tryz.func29, Tryz.ntmps29
  go_wp2_with fail
  refine TK.out.mono ?_
  rintro r w6 ⟨rfl, hk6, g6⟩
  have xr6 := xr.grown g6 (show w.heap.size + 1 + 1 ≠ g by omega)
  have gw := Bi (Bv b5 (some g)) g6
  (go_wp2_with (refine Bt rfl _ _ rfl rfl (w.heap.size + 1 + 1) false none 0 0 0 false none 0 0 0 xr6 rfl rfl (fun W1 y1 gW1 => ?_); have hk9 := (hk6).other gW1 (show g ≠ w.heap.size + 1 + 1 by omega); obtain ⟨u0, u1, u2, u3, u4, u5, -⟩ := y1.cell6); refine bodyPost_ret (v := .agg #[.bool false, .slice none 0 0, .int .i64 0, .bool false, .slice none 0 0, .int .i64 0]) ?_ rfl (Cl hk9 (Cd gw gW1 (by omega))); simp [results, Tryz.results29, go_sem, u0, u1, u2, u3, u4, u5])
variable {tw : TypeId}
variable {tw : TypeId}
def Bbr (P : Int) (D1 D2 D3 D4 : Dy) : Option (Dy × Dy) := Fn false (Kq (Cy false D1 D2 D3 D4) P false) (Kq (Cy true D1 D2 D3 D4) P true)
theorem Bb3 {base : Nat} {w0 W w12 : World} {v7 : Value} {l7 : List DV} {c1 : Obj} (hbase : base = w0.heap.size) (hW : Below base w0 W) (h7 : OwnD W base v7 l7) (g7 : (W.alloc c1).grownBy w12 v7.ownBlock) :
  Below base w0 w12 ∧ (∀ A n c xs, Arr W A n c xs → Arr w12 A n c xs) := by
 have hs1 : (W.alloc c1).heap.size = W.heap.size + 1 := by simp
 have hbs : base ≤ W.heap.size := by rw [hbase]; exact hW.size
 have h7' := h7.later (Ba (Bb _) c1)
 refine ⟨?_, ?_⟩
 ·have t1 : Below base w0 (W.alloc c1) := hW.trans ((Below.refl _ _).alloc hbs c1)
  exact t1.trans (h7'.below g7 (by omega))
 ·intro A n c xs ha
  exact h7'.arr (ha.below (Ba (Bb _) c1)) g7
theorem Vg {p q : Bool} {xs ys : List Int} {e f : Int} {D : Dy} (hw : Wf xs) (hw' : Wf ys) (h : Lr p q xs ys e f = some D) : PlD D := by
 unfold Lr at h
 split at h
 ·exact Mx (Int.mul_nonneg (val_nonneg hw) (val_nonneg hw')) h
 ·cases h
theorem Bba {a b c d : Dy} (ha : PlD a) (hb : PlD b) (hc : PlD c) (hd : PlD d) : PlD (Cy false a b c d) ∧ PlD (Cy true a b c d) ∧ cDy (Cy false a b c d) (Cy true a b c d) ≤ 0 := by
 obtain ⟨L, la, lb, lc, ld⟩ := Ws a.e b.e c.e d.e
 have ea := ha.can la
 have eb := hb.can lb
 have ec := hc.can lc
 have ed := hd.can ld
 generalize Fh a L = x at *
 generalize Fh b L = y at *
 generalize Fh c L = z at *
 generalize Fh d L = u at *
 subst ea eb ec ed
 have q1 := Hi (most := false) (Hi (most := false) (Hi (most := false) ha hb) hc) hd
 have q2 := Hi (most := true) (Hi (most := true) (Hi (most := true) ha hb) hc) hd
 rw [Wg ha hb hc hd, Wg ha hb hc hd]
 refine ⟨q1, q2, ?_⟩
 rw [Hw q1 q2]
 refine Bf4 ?_
 unfold Ls
 simp only [Bool.false_eq_true, if_false, if_true]
 omega
theorem Bj6 (p q s t : Bool) (A A' B B' : Option Addr) (n c n' c' m k m' k' : Nat) (xs ys us vs : List Int) (e f i j P : Int) (g : Nat) (bad : Bool) (D1 D2 D3 D4 : Dy) (w : World)
  (h : Arr w A n c xs) (h' : Arr w A' n' c' ys) (hB : Arr w B m k us) (hB' : Arr w B' m' k' vs) (hk : Wk w g P bad 38) (hn : n ≤ 100000) (hn' : n' ≤ 100000) (hm : m ≤ 100000) (hm' : m' ≤ 100000)
  (ho : Bx bad P [(⟨p, A, n, c, xs, e, q, A', n', c', ys, f⟩ : SVal), (⟨s, B, m, k, us, i, t, B', m', k', vs, j⟩ : SVal)] = false → Lr p s xs us e i = some D1 ∧ Lr p t xs vs e j = some D2 ∧ Lr q s ys us f i = some D3 ∧ Lr q t ys vs f j = some D4) :
  Calls Tryz.prog 17 #[.pointer (some ⟨g, 0, none⟩), .agg #[.bool p, .slice A n c, .int .i64 e, .bool q, .slice A' n' c', .int .i64 f], .agg #[.bool s, .slice B m k, .int .i64 i, .bool t, .slice B' m' k', .int .i64 j]] w
   (Dx (if Bx bad P [(⟨p, A, n, c, xs, e, q, A', n', c', ys, f⟩ : SVal), (⟨s, B, m, k, us, i, t, B', m', k', vs, j⟩ : SVal)] = false then Bbr P D1 D2 D3 D4 else none) g P 38 w) := by
 have hg := hk.lt
 have b2 : Below w.heap.size w (w.alloc (.cells #[.bool p, .slice A n c, .int .i64 e, .bool q, .slice A' n' c', .int .i64 f] 28)) := Ba (Bb w) _
 have b3 : Below w.heap.size w ((w.alloc (.cells #[.bool p, .slice A n c, .int .i64 e, .bool q, .slice A' n' c', .int .i64 f] 28)).alloc (.cells #[.bool s, .slice B m k, .int .i64 i, .bool t, .slice B' m' k', .int .i64 j] 28)) := Ba b2 _
 have b4 : Below w.heap.size w (((w.alloc (.cells #[.bool p, .slice A n c, .int .i64 e, .bool q, .slice A' n' c', .int .i64 f] 28)).alloc (.cells #[.bool s, .slice B m k, .int .i64 i, .bool t, .slice B' m' k', .int .i64 j] 28)).alloc (.cells #[.bool false, .slice none 0 0, .int .i64 0, .bool false, .slice none 0 0, .int .i64 0] 28)) := Ba b3 _
 have b5 : Below w.heap.size w ((((w.alloc (.cells #[.bool p, .slice A n c, .int .i64 e, .bool q, .slice A' n' c', .int .i64 f] 28)).alloc (.cells #[.bool s, .slice B m k, .int .i64 i, .bool t, .slice B' m' k', .int .i64 j] 28)).alloc (.cells #[.bool false, .slice none 0 0, .int .i64 0, .bool false, .slice none 0 0, .int .i64 0] 28)).alloc (.cells #[.bool p, .slice A n c, .int .i64 e, .bool q, .slice A' n' c', .int .i64 f, .bool s, .slice B m k, .int .i64 i, .bool t, .slice B' m' k', .int .i64 j] 28)) := Ba b4 _
 have s2 : (w.alloc (.cells #[.bool p, .slice A n c, .int .i64 e, .bool q, .slice A' n' c', .int .i64 f] 28)).heap.size = w.heap.size + 1 := by simp
 have s3 : ((w.alloc (.cells #[.bool p, .slice A n c, .int .i64 e, .bool q, .slice A' n' c', .int .i64 f] 28)).alloc (.cells #[.bool s, .slice B m k, .int .i64 i, .bool t, .slice B' m' k', .int .i64 j] 28)).heap.size = w.heap.size + 1 + 1 := by simp
 have s4 : (((w.alloc (.cells #[.bool p, .slice A n c, .int .i64 e, .bool q, .slice A' n' c', .int .i64 f] 28)).alloc (.cells #[.bool s, .slice B m k, .int .i64 i, .bool t, .slice B' m' k', .int .i64 j] 28)).alloc (.cells #[.bool false, .slice none 0 0, .int .i64 0, .bool false, .slice none 0 0, .int .i64 0] 28)).heap.size = w.heap.size + 1 + 1 + 1 := by simp
 have xsa := (Bg w #[.bool p, .slice A n c, .int .i64 e, .bool q, .slice A' n' c', .int .i64 f] 28).later (Ba (Ba (Ba (Bb _) (.cells #[.bool s, .slice B m k, .int .i64 i, .bool t, .slice B' m' k', .int .i64 j] 28)) (.cells #[.bool false, .slice none 0 0, .int .i64 0, .bool false, .slice none 0 0, .int .i64 0] 28)) (.cells #[.bool p, .slice A n c, .int .i64 e, .bool q, .slice A' n' c', .int .i64 f, .bool s, .slice B m k, .int .i64 i, .bool t, .slice B' m' k', .int .i64 j] 28))
 have xsb := (Bg (w.alloc (.cells #[.bool p, .slice A n c, .int .i64 e, .bool q, .slice A' n' c', .int .i64 f] 28)) #[.bool s, .slice B m k, .int .i64 i, .bool t, .slice B' m' k', .int .i64 j] 28).later (Ba (Ba (Bb _) (.cells #[.bool false, .slice none 0 0, .int .i64 0, .bool false, .slice none 0 0, .int .i64 0] 28)) (.cells #[.bool p, .slice A n c, .int .i64 e, .bool q, .slice A' n' c', .int .i64 f, .bool s, .slice B m k, .int .i64 i, .bool t, .slice B' m' k', .int .i64 j] 28))
 have xr := (Bg ((w.alloc (.cells #[.bool p, .slice A n c, .int .i64 e, .bool q, .slice A' n' c', .int .i64 f] 28)).alloc (.cells #[.bool s, .slice B m k, .int .i64 i, .bool t, .slice B' m' k', .int .i64 j] 28)) #[.bool false, .slice none 0 0, .int .i64 0, .bool false, .slice none 0 0, .int .i64 0] 28).later (Ba (Bb _) (.cells #[.bool p, .slice A n c, .int .i64 e, .bool q, .slice A' n' c', .int .i64 f, .bool s, .slice B m k, .int .i64 i, .bool t, .slice B' m' k', .int .i64 j] 28))
 have xl := Bg (((w.alloc (.cells #[.bool p, .slice A n c, .int .i64 e, .bool q, .slice A' n' c', .int .i64 f] 28)).alloc (.cells #[.bool s, .slice B m k, .int .i64 i, .bool t, .slice B' m' k', .int .i64 j] 28)).alloc (.cells #[.bool false, .slice none 0 0, .int .i64 0, .bool false, .slice none 0 0, .int .i64 0] 28)) #[.bool p, .slice A n c, .int .i64 e, .bool q, .slice A' n' c', .int .i64 f, .bool s, .slice B m k, .int .i64 i, .bool t, .slice B' m' k', .int .i64 j] 28
 rw [s2] at xsb
 rw [s3] at xr
 rw [s4] at xl
 have hk5 := hk.later b5
 have TK := Hk g (w.heap.size + 1 + 1 + 1) 2 P bad [(⟨p, A, n, c, xs, e, q, A', n', c', ys, f⟩ : SVal), (⟨s, B, m, k, us, i, t, B', m', k', vs, j⟩ : SVal)] rfl _ hk5 (Jb (⟨p, A, n, c, xs, e, q, A', n', c', ys, f⟩ : SVal) (⟨s, B, m, k, us, i, t, B', m', k', vs, j⟩ : SVal) xl ⟨h.below b5, h'.below b5⟩ ⟨hB.below b5, hB'.below b5⟩) (by omega) (by decide) (fun s hs => by
  simp at hs
  rcases hs with rfl | rfl
  ·exact ⟨by show n ≤ 1000000; omega, by show n' ≤ 1000000; omega⟩
  ·exact ⟨by show m ≤ 1000000; omega, by show m' ≤ 1000000; omega⟩)
 obtain ⟨k0, k1, k2, k3, k4, k5, -⟩ := (Bg w #[.bool p, .slice A n c, .int .i64 e, .bool q, .slice A' n' c', .int .i64 f] 28).later (Ba (Ba (Bb _) (.cells #[.bool s, .slice B m k, .int .i64 i, .bool t, .slice B' m' k', .int .i64 j] 28)) (.cells #[.bool false, .slice none 0 0, .int .i64 0, .bool false, .slice none 0 0, .int .i64 0] 28)) |>.cell6
 obtain ⟨j0, j1, j2, j3, j4, j5, -⟩ := (Bg (w.alloc (.cells #[.bool p, .slice A n c, .int .i64 e, .bool q, .slice A' n' c', .int .i64 f] 28)) #[.bool s, .slice B m k, .int .i64 i, .bool t, .slice B' m' k', .int .i64 j] 28).later (Ba (Bb _) (.cells #[.bool false, .slice none 0 0, .int .i64 0, .bool false, .slice none 0 0, .int .i64 0] 28)) |>.cell6
 rw [s2] at j0 j1 j2 j3 j4 j5
 have TQ : Bx bad P [(⟨p, A, n, c, xs, e, q, A', n', c', ys, f⟩ : SVal), (⟨s, B, m, k, us, i, t, B', m', k', vs, j⟩ : SVal)] = false → 1 ≤ P ∧ P ≤ 8192 := Lo
 generalize Bx bad P [(⟨p, A, n, c, xs, e, q, A', n', c', ys, f⟩ : SVal), (⟨s, B, m, k, us, i, t, B', m', k', vs, j⟩ : SVal)] = tb at *
 have TK := Be TK
 have HO := Be ho
 clear ho s2 s3 s4 b2 b3 b4 xl
 cases tb
 ·rw [if_pos rfl]
  obtain ⟨o1, o2, o3, o4⟩ := HO.out rfl
  obtain ⟨P1, P2⟩ := TQ rfl
  have d1 := Vg h.wf hB.wf o1
  have d2 := Vg h.wf hB'.wf o2
  have d3 := Vg h'.wf hB.wf o3
  have d4 := Vg h'.wf hB'.wf o4
  have hlen : ∀ i, (wd (Fg D1 D2 D3 D4 i).m).length ≤ 1000000 := by
   intro i
   have q1 := d1.bounds.1
   have q2 := d2.bounds.1
   have q3 := d3.bounds.1
   have q4 := d4.bounds.1
   unfold Fg
   split
   ·omega
   ·split
    ·omega
    ·split <;> omega
  obtain ⟨oo, hm3⟩ : ∃ oo, oo = Bbr P D1 D2 D3 D4 := ⟨_, rfl⟩
  rw [← hm3]
  unfold Bbr at hm3
  obtain ⟨r1, r2, r3⟩ := Bba d1 d2 d3 d4
  have hrt := Xq r1 r2 r3
  have rb1 := r1.bounds.1
  have rb2 := r2.bounds.1
  clear d1 d2 d3 d4 r1 r2 r3 TQ
  go_enter Tryz.func17, Tryz.ntmps17
  go_wp2_with fail
  refine TK.out.mono ?_
  rintro r w7 ⟨rfl, hk7, g7⟩
  have xsa7 := xsa.grown g7 (show w.heap.size ≠ g by omega)
  have xsb7 := xsb.grown g7 (show w.heap.size + 1 ≠ g by omega)
  have xr7 := xr.grown g7 (show w.heap.size + 1 + 1 ≠ g by omega)
  have gw7 := Bi (Bv b5 (some g)) g7
  have HA := hk.arr h gw7
  have HA' := hk.arr h' gw7
  have HB := hk.arr hB gw7
  have HB' := hk.arr hB' gw7
  clear k0 k1 k2 k3 k4 k5 j0 j1 j2 j3 j4 j5 xsa xsb xr TK HO b5
  obtain ⟨k0, k1, k2, k3, k4, k5, -⟩ := xsa7.cell6
  obtain ⟨j0, j1, j2, j3, j4, j5, -⟩ := (xsb7.later (Ba (Bb w7) (.cells #[.bool p, .slice A n c, .int .i64 e, .bool q, .slice A' n' c', .int .i64 f] 26))).cell6
  go_wp2_with fail
  have B0 : Below w7.heap.size w7 ((w7.alloc (.cells #[.bool p, .slice A n c, .int .i64 e, .bool q, .slice A' n' c', .int .i64 f] 26)).alloc (.cells #[.bool s, .slice B m k, .int .i64 i, .bool t, .slice B' m' k', .int .i64 j] 26)) := Ba (Ba (Bb _) _) _
  have xA := (Bg w7 #[.bool p, .slice A n c, .int .i64 e, .bool q, .slice A' n' c', .int .i64 f] 26).later (Ba (Bb _) (.cells #[.bool s, .slice B m k, .int .i64 i, .bool t, .slice B' m' k', .int .i64 j] 26))
  have xB := Bg (w7.alloc (.cells #[.bool p, .slice A n c, .int .i64 e, .bool q, .slice A' n' c', .int .i64 f] 26)) #[.bool s, .slice B m k, .int .i64 i, .bool t, .slice B' m' k', .int .i64 j] 26
  rw [show (w7.alloc (.cells #[.bool p, .slice A n c, .int .i64 e, .bool q, .slice A' n' c', .int .i64 f] 26)).heap.size = w7.heap.size + 1 by simp] at xB
  have hk0 := hk7.later B0
  have xr0 := xr7.later B0
  have gw0 := Bp gw7 B0
  have ha1 := HA.below B0
  have ha2 := HA'.below B0
  have hb1 := HB.below B0
  have hb2 := HB'.below B0
  generalize hW : ((w7.alloc (.cells #[.bool p, .slice A n c, .int .i64 e, .bool q, .slice A' n' c', .int .i64 f] 26)).alloc (.cells #[.bool s, .slice B m k, .int .i64 i, .bool t, .slice B' m' k', .int .i64 j] 26)) = w0 at *
  have RV : ∀ (x y : DV) (D : Dy), x.ok w0 → y.ok w0 → x.n ≤ 100000 → y.n ≤ 100000 → Lr x.neg y.neg x.xs y.xs x.e y.e = some D → ∀ w', Below w0.heap.size w0 w' → Calls Tryz.prog 49 #[(.agg #[.bool x.neg, .slice x.A x.n x.c, .int .i64 x.e]), (.agg #[.bool y.neg, .slice y.A y.n y.c, .int .i64 y.e])] w' fun r w'' => ∃ A5 n5 c5, r = .returned (.tuple #[.agg #[.bool D.neg, .slice A5 n5 c5, .int .i64 D.e], .bool true]) ∧ Arr w'' A5 n5 c5 (wd D.m) ∧ Below w'.heap.size w' w'' := by
   intro x y D hx hy hxn hyn ho w' hb
   have R := Bj5 x.neg y.neg x.A y.A x.n x.c y.n y.c x.xs y.xs x.e y.e w' (Arr.below hx hb) (Arr.below hy hb) hxn hyn
   rw [ho] at R
   exact R
  have RDn : ∀ i1, i1 < 4 → ∀ w', Below w0.heap.size w0 w' → Calls Tryz.prog 49 #[(.agg #[.bool (Ck (⟨p, A, n, c, xs, e⟩ : DV) (⟨q, A', n', c', ys, f⟩ : DV) (i1 / 2)).neg, .slice (Ck (⟨p, A, n, c, xs, e⟩ : DV) (⟨q, A', n', c', ys, f⟩ : DV) (i1 / 2)).A (Ck (⟨p, A, n, c, xs, e⟩ : DV) (⟨q, A', n', c', ys, f⟩ : DV) (i1 / 2)).n (Ck (⟨p, A, n, c, xs, e⟩ : DV) (⟨q, A', n', c', ys, f⟩ : DV) (i1 / 2)).c, .int .i64 (Ck (⟨p, A, n, c, xs, e⟩ : DV) (⟨q, A', n', c', ys, f⟩ : DV) (i1 / 2)).e]), (.agg #[.bool (Ck (⟨s, B, m, k, us, i⟩ : DV) (⟨t, B', m', k', vs, j⟩ : DV) (i1 % 2)).neg, .slice (Ck (⟨s, B, m, k, us, i⟩ : DV) (⟨t, B', m', k', vs, j⟩ : DV) (i1 % 2)).A (Ck (⟨s, B, m, k, us, i⟩ : DV) (⟨t, B', m', k', vs, j⟩ : DV) (i1 % 2)).n (Ck (⟨s, B, m, k, us, i⟩ : DV) (⟨t, B', m', k', vs, j⟩ : DV) (i1 % 2)).c, .int .i64 (Ck (⟨s, B, m, k, us, i⟩ : DV) (⟨t, B', m', k', vs, j⟩ : DV) (i1 % 2)).e])] w' fun r w'' => ∃ A5 n5 c5, r = .returned (.tuple #[.agg #[.bool (Fg D1 D2 D3 D4 i1).neg, .slice A5 n5 c5, .int .i64 (Fg D1 D2 D3 D4 i1).e], .bool true]) ∧ Arr w'' A5 n5 c5 (wd (Fg D1 D2 D3 D4 i1).m) ∧ Below w'.heap.size w' w'' := by
   intro i1 hi1
   rcases (show i1 = 0 ∨ i1 = 1 ∨ i1 = 2 ∨ i1 = 3 by omega) with rfl | rfl | rfl | rfl
   ·exact RV (⟨p, A, n, c, xs, e⟩ : DV) (⟨s, B, m, k, us, i⟩ : DV) D1 ha1 hb1 hn hm o1
   ·exact RV (⟨p, A, n, c, xs, e⟩ : DV) (⟨t, B', m', k', vs, j⟩ : DV) D2 ha1 hb2 hn hm' o2
   ·exact RV (⟨q, A', n', c', ys, f⟩ : DV) (⟨s, B, m, k, us, i⟩ : DV) D3 ha2 hb1 hn' hm o3
   ·exact RV (⟨q, A', n', c', ys, f⟩ : DV) (⟨t, B', m', k', vs, j⟩ : DV) D4 ha2 hb2 hn' hm' o4
  have KC : ∀ w', Below w0.heap.size w0 w' → ((w'.cell? ⟨w7.heap.size, 0, none⟩ = some (.bool p) ∧ w'.cell? ⟨w7.heap.size, 1, none⟩ = some (.slice A n c) ∧ w'.cell? ⟨w7.heap.size, 2, none⟩ = some (.int .i64 e) ∧ w'.cell? ⟨w7.heap.size, 3, none⟩ = some (.bool q) ∧ w'.cell? ⟨w7.heap.size, 4, none⟩ = some (.slice A' n' c') ∧ w'.cell? ⟨w7.heap.size, 5, none⟩ = some (.int .i64 f)) ∧ (w'.cell? ⟨w7.heap.size + 1, 0, none⟩ = some (.bool s) ∧ w'.cell? ⟨w7.heap.size + 1, 1, none⟩ = some (.slice B m k) ∧ w'.cell? ⟨w7.heap.size + 1, 2, none⟩ = some (.int .i64 i) ∧ w'.cell? ⟨w7.heap.size + 1, 3, none⟩ = some (.bool t) ∧ w'.cell? ⟨w7.heap.size + 1, 4, none⟩ = some (.slice B' m' k') ∧ w'.cell? ⟨w7.heap.size + 1, 5, none⟩ = some (.int .i64 j))) := by
   intro w' hb
   obtain ⟨z0, z1, z2, z3, z4, z5, -⟩ := (xA.later hb).cell6
   obtain ⟨y0, y1, y2, y3, y4, y5, -⟩ := (xB.later hb).cell6
   exact ⟨⟨z0, z1, z2, z3, z4, z5⟩, ⟨y0, y1, y2, y3, y4, y5⟩⟩
  have RDn := Be RDn
  have KC := Be KC
  have HW := Be hW
  have l0g : g < w0.heap.size := hk0.lt
  have l0r : w.heap.size + 1 + 1 < w0.heap.size := xr0.lt
  have HRT := Be hrt
  have HM3 := Be hm3
  clear hW RV o1 o2 o3 o4 ha1 ha2 hb1 hb2 HA HA' HB HB' k0 k1 k2 k3 k4 k5 j0 j1 j2 j3 j4 j5 B0 xA xB xsa7 xsb7 xr7 hk7 hk5 gw7 g7 h h' hB hB' hrt hm3
  go_loopw [7, 10] (fun v7 vi wr => ∃ (i1 : Nat) (l7 : List DV), i1 ≤ 4 ∧ vi = .int .i64 i1 ∧ Hid (l7.length = i1) ∧ OwnD wr w0.heap.size v7 l7 ∧ Hid (∀ j (hj : j < l7.length), Rep (l7[j]) (Fg D1 D2 D3 D4 j)) ∧ Hid (∀ j (hj : j < l7.length), (l7[j]).ok wr) ∧ Below w0.heap.size w0 wr) (fun _ vi _ => 4 - (intOf vi).toNat)
  case atStart =>
   exact ⟨0, [], by omega, rfl, rfl, .inl ⟨rfl, rfl⟩, by intro j hj; simp at hj, by intro j hj; simp at hj, Bb _⟩
  case round =>
   obtain ⟨i1, l7, hi4, rfl, e7, O7, rep7, ok7, hW0⟩ := hrel
   by_cases h0 : i1 < 4
   ·have RD : ∀ w', Below wr.heap.size wr w' → Calls Tryz.prog 49 #[(.agg #[.bool (Ck (⟨p, A, n, c, xs, e⟩ : DV) (⟨q, A', n', c', ys, f⟩ : DV) (i1 / 2)).neg, .slice (Ck (⟨p, A, n, c, xs, e⟩ : DV) (⟨q, A', n', c', ys, f⟩ : DV) (i1 / 2)).A (Ck (⟨p, A, n, c, xs, e⟩ : DV) (⟨q, A', n', c', ys, f⟩ : DV) (i1 / 2)).n (Ck (⟨p, A, n, c, xs, e⟩ : DV) (⟨q, A', n', c', ys, f⟩ : DV) (i1 / 2)).c, .int .i64 (Ck (⟨p, A, n, c, xs, e⟩ : DV) (⟨q, A', n', c', ys, f⟩ : DV) (i1 / 2)).e]), (.agg #[.bool (Ck (⟨s, B, m, k, us, i⟩ : DV) (⟨t, B', m', k', vs, j⟩ : DV) (i1 % 2)).neg, .slice (Ck (⟨s, B, m, k, us, i⟩ : DV) (⟨t, B', m', k', vs, j⟩ : DV) (i1 % 2)).A (Ck (⟨s, B, m, k, us, i⟩ : DV) (⟨t, B', m', k', vs, j⟩ : DV) (i1 % 2)).n (Ck (⟨s, B, m, k, us, i⟩ : DV) (⟨t, B', m', k', vs, j⟩ : DV) (i1 % 2)).c, .int .i64 (Ck (⟨s, B, m, k, us, i⟩ : DV) (⟨t, B', m', k', vs, j⟩ : DV) (i1 % 2)).e])] w' fun r w'' => ∃ A5 n5 c5, r = .returned (.tuple #[.agg #[.bool (Fg D1 D2 D3 D4 i1).neg, .slice A5 n5 c5, .int .i64 (Fg D1 D2 D3 D4 i1).e], .bool true]) ∧ Arr w'' A5 n5 c5 (wd (Fg D1 D2 D3 D4 i1).m) ∧ Below w'.heap.size w' w'' ∧ Below wr.heap.size wr w'' := fun w' hb => (RDn.out i1 h0 w' (Bc hW0 hb)).mono (by rintro r w'' ⟨A5, n5, c5, e5, h5, hb5⟩; exact ⟨A5, n5, c5, e5, h5, hb5, Bc hb hb5⟩)
    have KR := fun w' (hb : Below wr.heap.size wr w') => KC.out w' (Bc hW0 hb)
    have ad7 := fun (d : DV) (hd : Rep d (Fg D1 D2 D3 D4 i1)) => Vp e7.out rep7.out hd
    have n7 : ∀ d : DV, (l7 ++ [d]).length = i1 + 1 := fun d => by simp [e7.out]
    have k7 : l7.length ≤ 1000 := by have := e7.out; omega
    generalize Fg D1 D2 D3 D4 i1 = DD at RD ad7
    obtain ⟨s1, m1, f1⟩ := DD
    have kk0 := hW0.size
    have wz0 : IntKind.i64.wrap 0 = 0 := by first | rfl | decide | go_num
    have wz1 : IntKind.i64.wrap 1 = 1 := by first | rfl | decide | go_num
    obtain ⟨⟨j0, j1, j2, j3, j4, j5⟩, ⟨y0, y1, y2, y3, y4, y5⟩⟩ := KR wr (Bb _)
    have AD7 := Be ad7
    have N7 := Be n7
    have KR := Be KR
    clear ad7 n7 RDn KC
    rcases (show i1 = 0 ∨ i1 = 1 ∨ i1 = 2 ∨ i1 = 3 by omega) with rfl | rfl | rfl | rfl
    all_goals
     simp only [Ck, Nat.reduceDiv, Nat.reduceMod, reduceIte, Nat.succ_ne_zero, Nat.reduceEqDiff, if_true, if_false, Nat.one_ne_zero] at RD
     have RD := Be RD
     go_wp2_with fail
     go_region_held3 (fun w' => ((w'.cell? ⟨w7.heap.size, 0, none⟩ = some (.bool p) ∧ w'.cell? ⟨w7.heap.size, 1, none⟩ = some (.slice A n c) ∧ w'.cell? ⟨w7.heap.size, 2, none⟩ = some (.int .i64 e) ∧ w'.cell? ⟨w7.heap.size, 3, none⟩ = some (.bool q) ∧ w'.cell? ⟨w7.heap.size, 4, none⟩ = some (.slice A' n' c') ∧ w'.cell? ⟨w7.heap.size, 5, none⟩ = some (.int .i64 f)) ∧ (w'.cell? ⟨w7.heap.size + 1, 0, none⟩ = some (.bool s) ∧ w'.cell? ⟨w7.heap.size + 1, 1, none⟩ = some (.slice B m k) ∧ w'.cell? ⟨w7.heap.size + 1, 2, none⟩ = some (.int .i64 i) ∧ w'.cell? ⟨w7.heap.size + 1, 3, none⟩ = some (.bool t) ∧ w'.cell? ⟨w7.heap.size + 1, 4, none⟩ = some (.slice B' m' k') ∧ w'.cell? ⟨w7.heap.size + 1, 5, none⟩ = some (.int .i64 j)))) (first | (refine KR.out _ ?_; (repeat (first | with_reducible assumption | with_reducible exact Bb _ | with_reducible refine Bd ?_ _ | with_reducible apply Below.drew | with_reducible refine Ba ?_ _ | (refine Bo ?_ _ _ (by first | exact Nat.le_refl _ | omega | (simp; done) | (simp; omega)) _))); done) | go_keep) (first | (go_at_call 49; refine (RD.out _ ?_).mono ?_; (repeat (first | with_reducible assumption | with_reducible exact Bb _ | with_reducible refine Bd ?_ _ | with_reducible apply Below.drew | with_reducible refine Ba ?_ _ | (refine Bo ?_ _ _ (by first | exact Nat.le_refl _ | omega | (simp; done) | (simp; omega)) _))); rintro r w8 ⟨A1, n1, c1, rfl, a1, hc1, hb1⟩; (first | (have NB := Hp hc1; obtain ⟨v0, v1, v2, v3, v4, v5⟩ := NB.cell3) | skip)))
     all_goals
      first
       | (have MB := Fp (w := wr) (s := s1) (f := f1) a1 hb1 NB)
       | (have MB := Da (w := wr) (s := s1) (f := f1) a1 hb1)
      obtain ⟨W10, k9, e1, e2, x9, a9, b9, l9⟩ := MB
      rw [← e1, ← e2]
      have hWX : Below w0.heap.size w0 W10 := Bc hW0 b9
      have O7' := O7.later b9
      have ok7' := Be (fun j (hj : j < l7.length) => ((ok7.out j hj).below b9))
      have zW : w0.heap.size ≤ W10.heap.size := hWX.size
      have zA : ∀ o : Obj, w0.heap.size ≤ (W10.alloc o).heap.size := fun o => by simp; omega
      clear e1 e2 hb1 a1 hc1 j0 j1 j2 j3 j4 j5 y0 y1 y2 y3 y4 y5 KR RD
      try clear NB v0 v1 v2 v3 v4 v5
      obtain ⟨t0, t1, t2, -, -, -⟩ := x9.cell3
      go_wp2_with (at_builtin; refine Wa rfl _ _ rfl w0.heap.size _ l7 rfl (O7'.later (Ba (Bb _) _)) ⟨s1, A1, n1, c1, wd m1, f1⟩ _ _ 26 rfl (Bg W10 _ _) k7 (zA _) ?_)
      intro v7' w12 hO7 g7 p7
      clear t0 t1 t2
      go_wp2_with fail
      obtain ⟨r3, r4⟩ := Bb3 rfl hWX O7' g7
      exact ⟨⟨_, _, Nat.succ_le_of_lt h0, by first | rfl | go_num, N7.out _, hO7, AD7.out _ ⟨rfl, rfl, rfl⟩, Zc (d := ⟨s1, A1, n1, c1, wd m1, f1⟩) ok7'.out r4 a9, r3⟩, by first | decide | (simp [intOf]; done) | (simp [intOf]; omega)⟩
   ·obtain rfl : i1 = 4 := by omega
    have d7 := OwnD.dvs O7 (by rw [e7.out]; decide) ok7.out
    rw [e7.out] at d7
    obtain ⟨g7, c7, rfl, v7⟩ := d7
    have L7 := Be (Lx e7.out rep7.out g7 c7 wr v7 hlen)
    have L8 := Be (fun w' (hb : Below wr.heap.size wr w') => Ly e7.out rep7.out g7 c7 w' (v7.later hb) hlen)
    have xr1 := xr0.later hW0
    have hk1 := hk0.later hW0
    have gw1 := Bp gw0 hW0
    clear RDn KC O7 rep7 ok7 hlen
    go_wp2_with fail
    refine L7.out.mono ?_
    rintro r w2 ⟨A1, n1, c1, rfl, a1, hb2⟩
    go_wp2_with fail
    refine (L8.out _ hb2).mono ?_
    rintro r w3 ⟨A2, n2, c2, rfl, a2, hb3⟩
    have hb13 := Bc hb2 hb3
    have xr3 := xr1.later hb13
    have hk3 := hk1.later hb13
    have gw3 := Bp gw1 hb13
    have a1 := a1.below hb3
    have hoo : oo = Fn false (Du (Cy false D1 D2 D3 D4).neg (wd (Cy false D1 D2 D3 D4).m) (Cy false D1 D2 D3 D4).e P false) (Du (Cy true D1 D2 D3 D4).neg (wd (Cy true D1 D2 D3 D4).m) (Cy true D1 D2 D3 D4).e P true) := HM3.out
    have hrt := HRT.out
    clear HM3 HRT L7 L8
    generalize Cy false D1 D2 D3 D4 = LL at *
    generalize Cy true D1 D2 D3 D4 = UU at *
    obtain ⟨ln, lm, le⟩ := LL
    obtain ⟨un, um, ue⟩ := UU
    simp only at hrt hoo rb1 rb2 a1 a2
    have OT := Bj8 ln un A1 A2 n1 c1 n2 c2 (wd lm) (wd um) le ue P g false w3 a1 a2 hk3 (by rw [← a1.len]; omega) (by rw [← a2.len]; omega)
    have htk : Bx false P [⟨ln, A1, n1, c1, wd lm, le, un, A2, n2, c2, wd um, ue⟩] = false := by
     rw [Jr, hrt, decide_eq_false (show ¬ P < 1 by omega), decide_eq_false (show ¬ 8192 < P by omega)]; rfl
    rw [htk, ← hoo] at OT
    have OT := Be OT
    clear hoo hrt htk
    go_wp2_with fail
    refine OT.out.mono ?_
    rintro r w4 ⟨A3, n3, c3, A4, n4, c4, rfl, a3, a4, hk4, g4⟩
    have xr4 := xr3.grown g4 (show w.heap.size + 1 + 1 ≠ g by omega)
    have gw4 := Bi gw3 g4
    go_wp2_with (refine Bt rfl _ _ rfl rfl (w.heap.size + 1 + 1) _ A3 n3 c3 _ _ A4 n4 c4 _ xr4 rfl rfl (fun W1 y1 gW1 => ?_); obtain ⟨z3, z4, z5, z6, z7, z8, -⟩ := y1.cell6)
    refine bodyPost_ret (v := _) ?_ rfl (Ff (o := oo) a3 a4 xr4 hk4 gw4 (show g ≠ w.heap.size + 1 + 1 by omega) (by omega) gW1)
    simp [results, Tryz.results17, go_sem, z3, z4, z5, z6, z7, z8]
 ·rw [if_neg (fun hh => by cases hh)]
  go_enter Tryz.func17, Tryz.ntmps17
  go_wp2_with fail
  refine TK.out.mono ?_
  rintro r w6 ⟨rfl, hk6, g6⟩
  have xr6 := xr.grown g6 (show w.heap.size + 1 + 1 ≠ g by omega)
  have gw := Bi (Bv b5 (some g)) g6
  (go_wp2_with (refine Bt rfl _ _ rfl rfl (w.heap.size + 1 + 1) false none 0 0 0 false none 0 0 0 xr6 rfl rfl (fun W1 y1 gW1 => ?_); have hk9 := (hk6).other gW1 (show g ≠ w.heap.size + 1 + 1 by omega); obtain ⟨u0, u1, u2, u3, u4, u5, -⟩ := y1.cell6); refine bodyPost_ret (v := .agg #[.bool false, .slice none 0 0, .int .i64 0, .bool false, .slice none 0 0, .int .i64 0]) ?_ rfl (Cl hk9 (Cd gw gW1 (by omega))); simp [results, Tryz.results17, go_sem, u0, u1, u2, u3, u4, u5])
def Gf (c : Dy × Dy) (w : World) (r : Ending) (w' : World) : Prop :=
 ∃ A n k A' n' k', r = .returned (.agg #[.bool (c).1.neg, .slice A n k, .int .i64 (c).1.e, .bool (c).2.neg, .slice A' n' k', .int .i64 (c).2.e]) ∧ Arr w' A n k (wd c.1.m) ∧ Arr w' A' n' k' (wd c.2.m) ∧ Below w.heap.size w w'
theorem Yo {w w' : World} {g : Nat} {cs : Array Value} {t : TypeId} (hg : w.grownBy w' (some g)) (h : Box w g cs t) (h' : Box w' g cs t) : Below w.heap.size w w' := by
 refine ⟨hg.os, hg.tape, hg.output, hg.size, fun i hi => ?_⟩
 by_cases e : i = g
 ·subst e; rw [h.heap, h'.heap]
 ·exact hg.block i hi (by simpa using e)
theorem Fc {c : Dy × Dy} {g : Nat} {P : Int} {w w' : World} {r : Ending} (hk : Wk w g P false tw) (h : Dx (some c) g P tw w r w') : Gf c w r w' := by
 obtain ⟨A, n, k, A', n', k', e, h1, h2, hk', hg⟩ := h
 exact ⟨A, n, k, A', n', k', e, h1, h2, Yo hg hk hk'⟩
def okP (P : Int) : Bool := decide (1 ≤ P) && decide (P ≤ 8192)
def Dq (d : Dy) : Bool := decide (0 ≤ d.m) && decide (d.m < 2 ^ 1600) && decide (-100000 ≤ d.e) && decide (d.e ≤ 100000)
def Cj (X : Dy × Dy) : Bool := Cb X.1.neg X.2.neg (wd X.1.m) (wd X.2.m) X.1.e X.2.e && (Dq X.1 && Dq X.2)
def Beq (X : Dy × Dy) : Int := Hc X.1.neg X.2.neg (wd X.1.m) (wd X.2.m) X.1.e X.2.e
def Hg (P : Int) (up : Bool) (a b : Dy) : Option Dy := Cq a.neg b.neg (wd a.m) (wd b.m) a.e b.e P up
def Tv (a b : Dy) : Option Dy := Lr a.neg b.neg (wd a.m) (wd b.m) a.e b.e
def Gp (c : Bool) (x : Option (Dy × Dy)) : Option (Dy × Dy) := if c then x else none
def Je (P k : Int) : Option (Dy × Dy) := Gp (okP P) (some (Ca k 0, Ca k 0))
def Tw (P : Int) (a : Dy × Dy) : Option (Dy × Dy) := Gp (okP P && Cj a) (some (Cm a.2, Cm a.1))
def Bcl (P : Int) (a b : Dy × Dy) : Option (Dy × Dy) := Gp (okP P && (Cj a && Cj b)) ((Le P false a.1 b.1).bind fun D => (Le P true a.2 b.2).bind fun E => some (D, E))
def Bev (P : Int) (a b : Dy × Dy) : Option (Dy × Dy) := Gp (okP P && (Cj a && Cj b)) ((Le P false a.1 (Cm b.2)).bind fun D => (Le P true a.2 (Cm b.1)).bind fun E => some (D, E))
def Bco (D1 D2 D3 D4 E1 E2 E3 E4 : Dy) : Option (Dy × Dy) := Gp ((Dq D1 && Dq D2 && Dq D3 && Dq D4) && (Dq E1 && Dq E2 && Dq E3 && Dq E4)) (some (Cy false D1 D2 D3 D4, Cy true E1 E2 E3 E4))
def Qm (P : Int) (a b : Dy × Dy) : Option (Dy × Dy) := Gp (okP P && (Cj a && Cj b) && decide (Beq b ≠ 0))
 ((Hg P false a.1 b.1).bind fun D1 => (Hg P false a.1 b.2).bind fun D2 => (Hg P false a.2 b.1).bind fun D3 => (Hg P false a.2 b.2).bind fun D4 =>
 (Hg P true a.1 b.1).bind fun E1 => (Hg P true a.1 b.2).bind fun E2 => (Hg P true a.2 b.1).bind fun E3 => (Hg P true a.2 b.2).bind fun E4 => Bco D1 D2 D3 D4 E1 E2 E3 E4)
def mulS (P : Int) (a b : Dy × Dy) : Option (Dy × Dy) := Gp (okP P && (Cj a && Cj b))
 ((Tv a.1 b.1).bind fun D1 => (Tv a.1 b.2).bind fun D2 => (Tv a.2 b.1).bind fun D3 => (Tv a.2 b.2).bind fun D4 => Bbr P D1 D2 D3 D4)
def Fx (P : Int) (a : Dy × Dy) (k : Int) : Option (Dy × Dy) := Gp (okP P && Cj a && !Kh k) ((mkD a.1.neg a.1.m (a.1.e + k)).bind fun D => (mkD a.2.neg a.2.m (a.2.e + k)).bind fun E => some (D, E))
def Bd6 (P : Int) (a b : Dy × Dy) : Option (Dy × Dy) := Gp (okP P && (Cj a && Cj b)) (some (Cy false a.1 a.2 b.1 b.2, Cy true a.1 a.2 b.1 b.2))
def Yl (P : Int) (a b : Dy × Dy) : Option (Dy × Dy) := Gp (okP P && (Cj a && Cj b)) ((Dt P false a.1 b.1).bind fun D => (Dt P true a.2 b.2).bind fun E => some (D, E))
def Beu (P : Int) (a b : Dy × Dy) : Option (Dy × Dy) := Gp (okP P && (Cj a && Cj b)) ((Dt P false a.1 (Cm b.2)).bind fun D => (Dt P true a.2 (Cm b.1)).bind fun E => some (D, E))
def Bd5 (P : Int) (a b : Dy × Dy) : Option (Dy × Dy) := Gp (okP P && (Cj a && Cj b)) (some (Dn false a.1 b.1, Dn true a.2 b.2))
def Bbt (P : Int) (a : Dy × Dy) : Option (Dy × Dy) := Gp (okP P && Cj a) ((Kq a.1 P false).bind fun D => (Kq a.2 P true).bind fun E => some (D, E))
theorem Cw {c : Bool} {x : Option (Dy × Dy)} {y : Dy × Dy} (h : Gp c x = some y) : c = true ∧ x = some y := by
 unfold Gp at h
 cases c
 ·cases h
 ·exact ⟨rfl, h⟩
theorem Gd {P : Int} (h : okP P = true) : 1 ≤ P ∧ P ≤ 8192 := by
 unfold okP at h
 simpa using h
theorem Cg {d : Dy} (h : Dq d = true) : 0 ≤ d.m ∧ d.m < 2 ^ 1600 ∧ -100000 ≤ d.e ∧ d.e ≤ 100000 := by
 unfold Dq at h
 simp only [Bool.and_eq_true, decide_eq_true_eq] at h
 exact ⟨h.1.1.1, h.1.1.2, h.1.2, h.2⟩
theorem Bn {a : Dy × Dy} (h : Cj a = true) : Cb a.1.neg a.2.neg (wd a.1.m) (wd a.2.m) a.1.e a.2.e = true ∧ Dq a.1 = true ∧ Dq a.2 = true := by
 unfold Cj at h
 simp only [Bool.and_eq_true] at h
 exact ⟨h.1, h.2.1, h.2.2⟩
theorem Gl {d : Dy} (h : Dq d = true) : (wd d.m).length ≤ 25 := by
 obtain ⟨h0, h1, _, _⟩ := Cg h
 refine wd_length_le h0 (Int.lt_of_lt_of_le h1 ?_)
 decide +kernel
theorem Di {d : Dy} (h : Dq d = true) : (⟨d.neg, val (wd d.m), d.e⟩ : Dy) = d := by rw [val_wd d.m (Cg h).1]
theorem Tr {P : Int} {a : Dy × Dy} {A A' : Option Addr} {n k n' k' : Nat} (h : okP P = true) (ha : Cj a = true) : Bx false P [⟨a.1.neg, A, n, k, wd a.1.m, a.1.e, a.2.neg, A', n', k', wd a.2.m, a.2.e⟩] = false := by
 obtain ⟨h1, h2⟩ := Gd h
 rw [Jr, (Bn ha).1, decide_eq_false (show ¬ P < 1 by omega), decide_eq_false (show ¬ 8192 < P by omega)]
 rfl
theorem Gt {P : Int} {a b : Dy × Dy} {A A' B B' : Option Addr} {n k n' k' m l m' l' : Nat} (h : okP P = true) (ha : Cj a = true) (hb : Cj b = true) :
  Bx false P [⟨a.1.neg, A, n, k, wd a.1.m, a.1.e, a.2.neg, A', n', k', wd a.2.m, a.2.e⟩, ⟨b.1.neg, B, m, l, wd b.1.m, b.1.e, b.2.neg, B', m', l', wd b.2.m, b.2.e⟩] = false := by
 obtain ⟨h1, h2⟩ := Gd h
 rw [Qj, (Bn ha).1, (Bn hb).1, decide_eq_false (show ¬ P < 1 by omega), decide_eq_false (show ¬ 8192 < P by omega)]
 rfl
theorem Gr {a : Dy × Dy} (h : Cj a = true) : PlD a.1 ∧ PlD a.2 := by
 obtain ⟨hr, f1, f2⟩ := Bn h
 obtain ⟨p1, p2⟩ := Hj hr
 exact ⟨⟨p1, (Cg f1).1⟩, ⟨p2, (Cg f2).1⟩⟩
end Go.Proofs.YteffemhapnbaeaaGreatDoor
