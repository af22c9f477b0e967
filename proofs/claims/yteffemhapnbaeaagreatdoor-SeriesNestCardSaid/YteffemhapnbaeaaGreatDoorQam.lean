/- Walks and laws that the claim's row needs. No conditions. -/
import Derived.Test.YteffemhapnbaeaaGreatDoorQal
import Derived.Test.YteffemhapnbaeaaGreatDoorQak
set_option maxHeartbeats 16000000
set_option linter.unusedSimpArgs false
set_option linter.unusedVariables false
namespace Go.Proofs.YteffemhapnbaeaaGreatDoor
open Go.RowKit Num
set_option maxRecDepth 100000
theorem Bv {w w' : World} (h : Below w.heap.size w w') (r : Option Nat) : w.grownBy w' r := ⟨h.os, h.tape, h.output, h.size, fun i hi _ => h.block i hi⟩
theorem Bp {a b c : World} {r : Option Nat} (h : a.grownBy b r) (k : Below b.heap.size b c) : a.grownBy c r := Bi h (Bv k r)
def Wk (w : World) (g : Nat) (P : Int) (bad : Bool) (t : TypeId) : Prop := Box w g #[.int .i64 P, .bool bad] t
theorem Wk.lt {w : World} {g : Nat} {P : Int} {bad : Bool} {t : TypeId} (h : Wk w g P bad t) : g < w.heap.size := Box.lt h
theorem Wk.cells {w : World} {g : Nat} {P : Int} {bad : Bool} {t : TypeId} (h : Wk w g P bad t) : w.cell? ⟨g, 0, none⟩ = some (.int .i64 P) ∧ w.cell? ⟨g, 1, none⟩ = some (.bool bad) ∧ w.frozen? ⟨g, 0, none⟩ = false ∧ w.frozen? ⟨g, 1, none⟩ = false :=
 ⟨Box.cell h 0, Box.cell h 1, Box.free h 0, Box.free h 1⟩
theorem Wk.later {w w' : World} {g : Nat} {P : Int} {bad : Bool} {t : TypeId} (h : Wk w g P bad t) (hb : Below w.heap.size w w') : Wk w' g P bad t := Box.later h hb
theorem Wk.set {w : World} {g : Nat} {P : Int} {bad : Bool} {t : TypeId} (h : Wk w g P bad t) (b : Bool) : Wk (w.setCell ⟨g, 1, none⟩ (.bool b)) g P b t := Box.set h 1 (.bool b)
theorem Wk.other {w w' : World} {g g' : Nat} {P : Int} {bad : Bool} {t : TypeId} (h : Wk w g P bad t) (hg : w.grownBy w' (some g')) (hne : g ≠ g') : Wk w' g P bad t := Box.grown h hg hne
theorem no_wk (P : Int) (bad : Bool) : ∀ (i : Nat) (x : Int), (#[Value.int .i64 P, .bool bad] : Array Value)[i]? ≠ some (Value.int .u64 x)
 | 0, x => by simp
 | 1, x => by simp
 | i + 2, x => by simp
theorem Wk.arr {w w' : World} {g : Nat} {P : Int} {bad : Bool} {t : TypeId} (h : Wk w g P bad t) {A : Option Addr} {n c : Nat} {xs : List Int} (ha : Arr w A n c xs) (hg : w.grownBy w' (some g)) : Arr w' A n c xs := ha.grown h (no_wk P bad) hg
theorem Wk.tz {w w' : World} {g : Nat} {P : Int} {bad : Bool} {t : TypeId} (h : Wk w g P bad t) (hT : Tz w) (hg : w.grownBy w' (some g)) : Tz w' := by
 have hne : 2 ≠ g := by
  intro hh
  subst hh
  have h0 := hT.tab 0 (by decide)
  rw [h.cells.1] at h0
  simp at h0
 refine ⟨fun j hj => ?_⟩
 have h1 := hT.tab j hj
 have hlt := World.block_lt_of_cell? (w := w) (a := ⟨2, j, none⟩) h1
 rw [World.cell?_of_block (w := w) (w' := w') (hg.block _ hlt (by simpa using hne))]
 exact h1
theorem Fb (g : Nat) (s : Bool) (A : Option Addr) (n c : Nat) (e : Int) (w : World) :
  Calls Tryz.prog 43 #[.pointer (some ⟨g, 0, none⟩), .agg #[.bool s, .slice A n c, .int .i64 e], .bool true] w fun r w' => r = .returned (.agg #[.bool s, .slice A n c, .int .i64 e]) ∧ Below w.heap.size w w' := by
 have bx := (Bg w #[.bool s, .slice A n c, .int .i64 e] 26).later (Ba (Bb _) (.cells #[.bool false, .slice none 0 0, .int .i64 0] 26))
 have br := Bg (w.alloc (.cells #[.bool s, .slice A n c, .int .i64 e] 26)) #[.bool false, .slice none 0 0, .int .i64 0] 26
 rw [show (w.alloc (.cells #[.bool s, .slice A n c, .int .i64 e] 26)).heap.size = w.heap.size + 1 by simp] at br
 have b0 : Below w.heap.size w ((w.alloc (.cells #[.bool s, .slice A n c, .int .i64 e] 26)).alloc (.cells #[.bool false, .slice none 0 0, .int .i64 0] 26)) := Ba (Ba (Bb w) _) _
 obtain ⟨k0, k1, k2, f0, f1, f2⟩ := bx.cell3
 obtain ⟨j0, j1, j2, g0, g1, g2⟩ := br.cell3
 go_enter Tryz.func43, Tryz.ntmps43
 go_wp2_with (refine Fk rfl _ _ rfl rfl (w.heap.size + 1) s A n c e br rfl rfl (fun W1 y1 gW1 => ?_); have b0 := Bl b0 gW1 (show w.heap.size ≤ w.heap.size + 1 by omega); obtain ⟨z0, z1, z2, y0, y1', y2⟩ := y1.cell3)
 refine bodyPost_ret (v := .agg #[.bool s, .slice A n c, .int .i64 e]) ?_ rfl ⟨rfl, b0⟩
 simp [results, Tryz.results43, go_sem, z0, z1, z2]
theorem Bfg (g : Nat) (P : Int) (bad : Bool) (t : TypeId) (s : Bool) (A : Option Addr) (n c : Nat) (e : Int) (w : World) (hk : Wk w g P bad t) :
  Calls Tryz.prog 43 #[.pointer (some ⟨g, 0, none⟩), .agg #[.bool s, .slice A n c, .int .i64 e], .bool false] w fun r w' => r = .returned (.agg #[.bool false, .slice none 0 0, .int .i64 0]) ∧ Wk w' g P true t ∧ w.grownBy w' (some g) := by
 have b0 : Below w.heap.size w ((w.alloc (.cells #[.bool s, .slice A n c, .int .i64 e] 26)).alloc (.cells #[.bool false, .slice none 0 0, .int .i64 0] 26)) := Ba (Ba (Bb w) _) _
 have hk2 := hk.later b0
 have hg := hk.lt
 obtain ⟨k0, k1, f0, f1⟩ := hk2.cells
 have br2 := Bg ((w.setCell ⟨g, 1, none⟩ (.bool true)).alloc (.cells #[.bool s, .slice A n c, .int .i64 e] 26)) #[.bool false, .slice none 0 0, .int .i64 0] 26
 rw [show ((w.setCell ⟨g, 1, none⟩ (.bool true)).alloc (.cells #[.bool s, .slice A n c, .int .i64 e] 26)).heap.size = w.heap.size + 1 by simp] at br2
 have b1 := Ba (Ba (Bb (w.setCell ⟨g, 1, none⟩ (.bool true))) (.cells #[.bool s, .slice A n c, .int .i64 e] 26)) (.cells #[.bool false, .slice none 0 0, .int .i64 0] 26)
 have hk3 := (hk.set true).later b1
 have g3 := Bp (Br w g 1 (.bool true)) b1
 go_enter Tryz.func43, Tryz.ntmps43
 go_wp2_with (refine Fk rfl _ _ rfl rfl (w.heap.size + 1) false none 0 0 0 br2 rfl rfl (fun W1 y1 gW1 => ?_); have hk4 := hk3.other gW1 (by omega); obtain ⟨z0, z1, z2, y0, y1', y2⟩ := y1.cell3)
 refine bodyPost_ret (v := .agg #[.bool false, .slice none 0 0, .int .i64 0]) ?_ rfl ⟨rfl, hk4, ?_⟩
 ·simp [results, Tryz.results43, go_sem, z0, z1, z2]
 ·exact ⟨gW1.os.trans g3.os, gW1.tape.trans g3.tape, gW1.output.trans g3.output, Nat.le_trans g3.size gW1.size, fun k hk hne => (gW1.block k (Nat.lt_of_lt_of_le hk g3.size) (by simp; omega)).trans (g3.block k hk hne)⟩
variable {tw : TypeId}
theorem Bt {ops : Array Oper} {rest : List Oper} {o : Oper} {a : Act} {w : World} {Q : Exit → Act → World → Prop} (hgd : o.guard = none) (x y : Operand) (ho : o.op = .store 28 x y)
  (hd : o.dst = none) (g : Nat) (p : Bool) (A : Option Addr) (n c : Nat) (e : Int) (q : Bool) (A' : Option Addr) (n' c' : Nat) (f : Int) {v0 v1 v2 v3 v4 v5 : Value} {t : TypeId} (hb : Box w g #[v0, v1, v2, v3, v4, v5] t) (hx : a.eval x = .pointer (some ⟨g, 0, none⟩)) (hy : a.eval y = (.agg #[.bool p, .slice A n c, .int .i64 e, .bool q, .slice A' n' c', .int .i64 f]))
  (h : ∀ W', Box W' g #[.bool p, .slice A n c, .int .i64 e, .bool q, .slice A' n' c', .int .i64 f] t → w.grownBy W' (some g) → wpList Tryz.prog ops Q rest a W') : wpList Tryz.prog ops Q (o :: rest) a w :=
 Bf0 hgd _ x y ho hd g _ hb hx hy (by kernel_rfl) rfl (by simp [Value.oneCell']) h
theorem no6 {a b c d e f : Value} (ha : ∀ x, a ≠ Value.int .u64 x) (hb : ∀ x, b ≠ Value.int .u64 x) (hc : ∀ x, c ≠ Value.int .u64 x) (hd : ∀ x, d ≠ Value.int .u64 x) (he : ∀ x, e ≠ Value.int .u64 x) (hf : ∀ x, f ≠ Value.int .u64 x) : ∀ (i : Nat) (x : Int), (#[a, b, c, d, e, f] : Array Value)[i]? ≠ some (Value.int .u64 x)
 | 0, x => by simpa using ha x
 | 1, x => by simpa using hb x
 | 2, x => by simpa using hc x
 | 3, x => by simpa using hd x
 | 4, x => by simpa using he x
 | 5, x => by simpa using hf x
 | i + 6, x => by simp
theorem Rs (g : Nat) (P : Int) (p q : Bool) (A A' : Option Addr) (n c n' c' : Nat) (e f : Int) (w : World) (hk : Wk w g P false tw) :
  Calls Tryz.prog 34 #[.pointer (some ⟨g, 0, none⟩), .agg #[.bool p, .slice A n c, .int .i64 e], .agg #[.bool q, .slice A' n' c', .int .i64 f]] w fun r w' => r = .returned (.agg #[.bool p, .slice A n c, .int .i64 e, .bool q, .slice A' n' c', .int .i64 f]) ∧ Below w.heap.size w w' := by
 have b1 := Ba (Bb w) (.cells #[.bool p, .slice A n c, .int .i64 e] 26)
 have b2 := Ba b1 (.cells #[.bool q, .slice A' n' c', .int .i64 f] 26)
 have b0 : Below w.heap.size w (((w.alloc (.cells #[.bool p, .slice A n c, .int .i64 e] 26)).alloc (.cells #[.bool q, .slice A' n' c', .int .i64 f] 26)).alloc (.cells #[.bool false, .slice none 0 0, .int .i64 0, .bool false, .slice none 0 0, .int .i64 0] 28)) := Ba b2 _
 have xa := (Bg w #[.bool p, .slice A n c, .int .i64 e] 26).later (Ba (Ba (Bb _) (.cells #[.bool q, .slice A' n' c', .int .i64 f] 26)) (.cells #[.bool false, .slice none 0 0, .int .i64 0, .bool false, .slice none 0 0, .int .i64 0] 28))
 have xb := (Bg (w.alloc (.cells #[.bool p, .slice A n c, .int .i64 e] 26)) #[.bool q, .slice A' n' c', .int .i64 f] 26).later (Ba (Bb _) (.cells #[.bool false, .slice none 0 0, .int .i64 0, .bool false, .slice none 0 0, .int .i64 0] 28))
 rw [show (w.alloc (.cells #[.bool p, .slice A n c, .int .i64 e] 26)).heap.size = w.heap.size + 1 by simp] at xb
 have xr := Bg ((w.alloc (.cells #[.bool p, .slice A n c, .int .i64 e] 26)).alloc (.cells #[.bool q, .slice A' n' c', .int .i64 f] 26)) #[.bool false, .slice none 0 0, .int .i64 0, .bool false, .slice none 0 0, .int .i64 0] 28
 rw [show ((w.alloc (.cells #[.bool p, .slice A n c, .int .i64 e] 26)).alloc (.cells #[.bool q, .slice A' n' c', .int .i64 f] 26)).heap.size = w.heap.size + 1 + 1 by simp] at xr
 obtain ⟨z0, z1, y0, y1⟩ := (hk.later b0).cells
 obtain ⟨k0, k1, k2, f0, f1, f2⟩ := xa.cell3
 obtain ⟨j0, j1, j2, g0, g1, g2⟩ := xb.cell3
 go_enter Tryz.func34, Tryz.ntmps34
 go_wp2_with (refine Bt rfl _ _ rfl rfl (w.heap.size + 1 + 1) p A n c e q A' n' c' f xr rfl rfl (fun W1 y1 gW1 => ?_); have b0 := Bl b0 gW1 (show w.heap.size ≤ w.heap.size + 1 + 1 by omega); obtain ⟨u0, u1, u2, u3, u4, u5, -⟩ := y1.cell6)
 refine bodyPost_ret (v := (.agg #[.bool p, .slice A n c, .int .i64 e, .bool q, .slice A' n' c', .int .i64 f])) ?_ rfl ⟨rfl, b0⟩
 simp [results, Tryz.results34, go_sem, u0, u1, u2, u3, u4, u5]
theorem Bf6 (g : Nat) (P : Int) (p q : Bool) (A A' : Option Addr) (n c n' c' : Nat) (e f : Int) (w : World) (hk : Wk w g P true tw) :
  Calls Tryz.prog 34 #[.pointer (some ⟨g, 0, none⟩), .agg #[.bool p, .slice A n c, .int .i64 e], .agg #[.bool q, .slice A' n' c', .int .i64 f]] w fun r w' => r = .returned (.agg #[.bool false, .slice none 0 0, .int .i64 0, .bool false, .slice none 0 0, .int .i64 0]) ∧ Below w.heap.size w w' := by
 have b1 := Ba (Bb w) (.cells #[.bool p, .slice A n c, .int .i64 e] 26)
 have b2 := Ba b1 (.cells #[.bool q, .slice A' n' c', .int .i64 f] 26)
 have b0 : Below w.heap.size w (((w.alloc (.cells #[.bool p, .slice A n c, .int .i64 e] 26)).alloc (.cells #[.bool q, .slice A' n' c', .int .i64 f] 26)).alloc (.cells #[.bool false, .slice none 0 0, .int .i64 0, .bool false, .slice none 0 0, .int .i64 0] 28)) := Ba b2 _
 have xr := Bg ((w.alloc (.cells #[.bool p, .slice A n c, .int .i64 e] 26)).alloc (.cells #[.bool q, .slice A' n' c', .int .i64 f] 26)) #[.bool false, .slice none 0 0, .int .i64 0, .bool false, .slice none 0 0, .int .i64 0] 28
 rw [show ((w.alloc (.cells #[.bool p, .slice A n c, .int .i64 e] 26)).alloc (.cells #[.bool q, .slice A' n' c', .int .i64 f] 26)).heap.size = w.heap.size + 1 + 1 by simp] at xr
 obtain ⟨z0, z1, y0, y1⟩ := (hk.later b0).cells
 go_enter Tryz.func34, Tryz.ntmps34
 go_wp2_with (refine Bt rfl _ _ rfl rfl (w.heap.size + 1 + 1) false none 0 0 0 false none 0 0 0 xr rfl rfl (fun W1 y1 gW1 => ?_); have b0 := Bl b0 gW1 (show w.heap.size ≤ w.heap.size + 1 + 1 by omega); obtain ⟨u0, u1, u2, u3, u4, u5, -⟩ := y1.cell6)
 refine bodyPost_ret (v := .agg #[.bool false, .slice none 0 0, .int .i64 0, .bool false, .slice none 0 0, .int .i64 0]) ?_ rfl ⟨rfl, b0⟩
 simp [results, Tryz.results34, go_sem, u0, u1, u2, u3, u4, u5]
theorem Vu (g : Nat) (P : Int) (bad : Bool) (w : World) (hk : Wk w g P bad tw) :
  Calls Tryz.prog 62 #[.pointer (some ⟨g, 0, none⟩)] w fun r w' => r = .returned (.tuple #[]) ∧ Wk w' g P true tw ∧ w.grownBy w' (some g) := by
 obtain ⟨k0, k1, f0, f1⟩ := hk.cells
 go_enter Tryz.func62, Tryz.ntmps62
 go_wp2_with fail
 go_end0
 exact ⟨rfl, hk.set true, Br w g 1 _⟩
structure SVal where
 p : Bool
 A : Option Addr
 n : Nat
 c : Nat
 xs : List Int
 e : Int
 q : Bool
 A' : Option Addr
 n' : Nat
 c' : Nat
 ys : List Int
 f : Int
def SVal.ok (s : SVal) (w : World) : Prop := Arr w s.A s.n s.c s.xs ∧ Arr w s.A' s.n' s.c' s.ys
def SVal.right (s : SVal) : Bool := Cb s.p s.q s.xs s.ys s.e s.f
structure SVs (w : World) (h : Nat) (l : List SVal) : Prop where
 lt : h < w.heap.size
 ok : ∀ j (hj : j < l.length), (l[j]).ok w
 c0 : ∀ j (hj : j < l.length), w.cell? ⟨h, j * 6, none⟩ = some (.bool (l[j]).p)
 c1 : ∀ j (hj : j < l.length), w.cell? ⟨h, j * 6 + 1, none⟩ = some (.slice (l[j]).A (l[j]).n (l[j]).c)
 c2 : ∀ j (hj : j < l.length), w.cell? ⟨h, j * 6 + 2, none⟩ = some (.int .i64 (l[j]).e)
 c3 : ∀ j (hj : j < l.length), w.cell? ⟨h, j * 6 + 3, none⟩ = some (.bool (l[j]).q)
 c4 : ∀ j (hj : j < l.length), w.cell? ⟨h, j * 6 + 4, none⟩ = some (.slice (l[j]).A' (l[j]).n' (l[j]).c')
 c5 : ∀ j (hj : j < l.length), w.cell? ⟨h, j * 6 + 5, none⟩ = some (.int .i64 (l[j]).f)
theorem SVs.grown {w w' : World} {h : Nat} {l : List SVal} {g : Nat} {P : Int} {bad : Bool} {t : TypeId} (s : SVs w h l) (hk : Wk w g P bad t) (hg : w.grownBy w' (some g)) (hne : h ≠ g) : SVs w' h l := by
 have hc : ∀ i, w'.cell? ⟨h, i, none⟩ = w.cell? ⟨h, i, none⟩ := fun i => World.cell?_of_block (hg.block h s.lt (by simpa using hne))
 exact ⟨Nat.lt_of_lt_of_le s.lt hg.size, fun j hj => ⟨hk.arr (s.ok j hj).1 hg, hk.arr (s.ok j hj).2 hg⟩, fun j hj => (hc _).trans (s.c0 j hj), fun j hj => (hc _).trans (s.c1 j hj), fun j hj => (hc _).trans (s.c2 j hj), fun j hj => (hc _).trans (s.c3 j hj), fun j hj => (hc _).trans (s.c4 j hj), fun j hj => (hc _).trans (s.c5 j hj)⟩
def Bx (bad : Bool) (P : Int) (l : List SVal) : Bool := bad || decide (P < 1) || decide (8192 < P) || !(l.all SVal.right)
theorem Ln {b1 T T' rr : Bool} (h : false = (b1 || !T)) (ha : T' = (T && rr)) : (!rr) = (b1 || !T') := by
 subst ha; revert h; cases b1 <;> cases T <;> cases rr <;> decide
theorem Lp {b1 T T' rr : Bool} (h : true = (b1 || !T)) (ha : T' = (T && rr)) : true = (b1 || !T') := by
 subst ha; revert h; cases b1 <;> cases T <;> cases rr <;> decide
theorem Mk (g h m : Nat) (P : Int) (bad : Bool) (l : List SVal) (hm : l.length = m) (w : World) (hk : Wk w g P bad tw) (hs : SVs w h l) (hne : h ≠ g) (hl : m ≤ 1000000) :
  Calls Tryz.prog 33 #[.pointer (some ⟨g, 0, none⟩), .slice (some ⟨h, 0, none⟩) m m] w fun r w' => r = .returned (.bool (!Bx bad P l)) ∧ Wk w' g P (Bx bad P l) tw ∧ w.grownBy w' (some g) := by
 subst hm
 obtain ⟨k0, k1, f0, f1⟩ := hk.cells
 obtain ⟨b1, hb1⟩ : ∃ b1, b1 = (bad || decide (P < 1) || decide (8192 < P)) := ⟨_, rfl⟩
 have ht : Bx bad P l = (b1 || !(l.all SVal.right)) := by rw [hb1]; rfl
 rw [ht]
 have hk1 := hk.set b1
 have g1 := Br w g 1 (.bool b1)
 have hs1 := hs.grown hk g1 hne
 have HB1 := Be hb1
 clear ht hb1
 have HA : ∀ i (h : i < l.length), (l.take (i + 1)).all SVal.right = ((l.take i).all SVal.right && (l[i]).right) := fun i h => by
  rw [List.take_add_one, List.getElem?_eq_getElem h, List.all_append]
  simp
 have HA := Be HA
 have HZ : l.take l.length = l := List.take_length
 have HZ := Be HZ
 cases bad
 ·by_cases p1 : P < 1
  ·have d1 : decide (P < 1) = true := decide_eq_true p1
   obtain rfl : b1 = true := by rw [HB1.out, d1]; rfl
   go_enter Tryz.func33, Tryz.ntmps33
   go_wp2_with fail
   (go_loopw [32] (fun v wr => ∃ (i : Nat) (bi : Bool), i ≤ l.length ∧ v = .int .i64 i ∧ Hid (bi = (true || !((l.take i).all SVal.right))) ∧ Wk wr g P bi tw ∧ w.grownBy wr (some g)) (fun v _ => l.length - (intOf v).toNat); (case atStart => exact ⟨0, true, Nat.zero_le _, rfl, by show true = _; simp, hk1, g1⟩); (case round => obtain ⟨i, bi, hi, rfl, hB, hkr, hW⟩ := hrel; have hkc := hkr; obtain ⟨k0, k1, f0, f1⟩ := hkc.cells; by_cases h0 : i < l.length; (have hsr := hs.grown hk hW hne; have q0 := hsr.c0 i h0; have q1 := hsr.c1 i h0; have q2 := hsr.c2 i h0; have q3 := hsr.c3 i h0; have q4 := hsr.c4 i h0; have q5 := hsr.c5 i h0; obtain ⟨hA, hA'⟩ := hsr.ok i h0; have ha := HA.out i h0; generalize hx : l[i] = x at *; obtain ⟨p, A, n, c, xs, e, q, A', n', c', ys, f⟩ := x; simp only at q0 q1 q2 q3 q4 q5 hA hA'; have hb0 := Ba (Bb wr) (.cells #[.bool p, .slice A n c, .int .i64 e, .bool q, .slice A' n' c', .int .i64 f] 28); have bx := Bg wr #[.bool p, .slice A n c, .int .i64 e, .bool q, .slice A' n' c', .int .i64 f] 28; have hr : (SVal.mk p A n c xs e q A' n' c' ys f).right = Cb p q xs ys e f := rfl; rw [hr] at ha; obtain ⟨v0, v1, t0, t1⟩ := (hkr.later hb0).cells; have RT := Be (Qf p q A A' n c n' c' xs ys e f _ (hA.below hb0) (hA'.below hb0)); generalize Cb p q xs ys e f = rr at *; have HA1 := Be ha; clear ha hr hx hsr; cases bi; (go_wp2_with fail; refine RT.out.mono ?_; rintro r w4 ⟨rfl, hb4⟩; have hk4 := (hkr.later hb0).later hb4; have g4 := Bp (Bp hW hb0) hb4; obtain ⟨z0, z1, y0, y1⟩ := hk4.cells; clear k0 k1 f0 f1 v0 v1 t0 t1; go_wp2_with fail; exact ⟨⟨i + 1, !rr, by omega, by go_num, (Ln hB.out HA1.out), hk4.set _, Bi g4 (Br _ g 1 _)⟩, by simp only [intOf]; omega⟩); (go_wp2_with fail; exact ⟨⟨i + 1, true, by omega, by go_num, (Lp hB.out HA1.out), (by first | exact (hkr.set true).later (Ba (Bb _) _) | exact (hkr.later hb0).set true), (by first | exact Bp (Bi hW (Br _ g 1 _)) (Ba (Bb _) _) | exact Bi (Bp hW hb0) (Br _ g 1 _))⟩, by simp only [intOf]; omega⟩)); (obtain rfl : i = l.length := (by omega); have e1 := hB.out; rw [HZ.out] at e1; have E1 := Be e1; clear e1; go_wp2_with fail; go_ret; rw [← E1.out]; exact ⟨rfl, hkr, hW⟩)))
  ·have d1 : decide (P < 1) = false := decide_eq_false p1
   by_cases p2 : 8192 < P
   ·have d2 : decide (P > 8192) = true := decide_eq_true p2
    have d3 : decide (8192 < P) = true := decide_eq_true p2
    obtain rfl : b1 = true := by rw [HB1.out, d1, d3]; rfl
    go_enter Tryz.func33, Tryz.ntmps33
    go_wp2_with fail
    (go_loopw [32] (fun v wr => ∃ (i : Nat) (bi : Bool), i ≤ l.length ∧ v = .int .i64 i ∧ Hid (bi = (true || !((l.take i).all SVal.right))) ∧ Wk wr g P bi tw ∧ w.grownBy wr (some g)) (fun v _ => l.length - (intOf v).toNat); (case atStart => exact ⟨0, true, Nat.zero_le _, rfl, by show true = _; simp, hk1, g1⟩); (case round => obtain ⟨i, bi, hi, rfl, hB, hkr, hW⟩ := hrel; have hkc := hkr; obtain ⟨k0, k1, f0, f1⟩ := hkc.cells; by_cases h0 : i < l.length; (have hsr := hs.grown hk hW hne; have q0 := hsr.c0 i h0; have q1 := hsr.c1 i h0; have q2 := hsr.c2 i h0; have q3 := hsr.c3 i h0; have q4 := hsr.c4 i h0; have q5 := hsr.c5 i h0; obtain ⟨hA, hA'⟩ := hsr.ok i h0; have ha := HA.out i h0; generalize hx : l[i] = x at *; obtain ⟨p, A, n, c, xs, e, q, A', n', c', ys, f⟩ := x; simp only at q0 q1 q2 q3 q4 q5 hA hA'; have hb0 := Ba (Bb wr) (.cells #[.bool p, .slice A n c, .int .i64 e, .bool q, .slice A' n' c', .int .i64 f] 28); have bx := Bg wr #[.bool p, .slice A n c, .int .i64 e, .bool q, .slice A' n' c', .int .i64 f] 28; have hr : (SVal.mk p A n c xs e q A' n' c' ys f).right = Cb p q xs ys e f := rfl; rw [hr] at ha; obtain ⟨v0, v1, t0, t1⟩ := (hkr.later hb0).cells; have RT := Be (Qf p q A A' n c n' c' xs ys e f _ (hA.below hb0) (hA'.below hb0)); generalize Cb p q xs ys e f = rr at *; have HA1 := Be ha; clear ha hr hx hsr; cases bi; (go_wp2_with fail; refine RT.out.mono ?_; rintro r w4 ⟨rfl, hb4⟩; have hk4 := (hkr.later hb0).later hb4; have g4 := Bp (Bp hW hb0) hb4; obtain ⟨z0, z1, y0, y1⟩ := hk4.cells; clear k0 k1 f0 f1 v0 v1 t0 t1; go_wp2_with fail; exact ⟨⟨i + 1, !rr, by omega, by go_num, (Ln hB.out HA1.out), hk4.set _, Bi g4 (Br _ g 1 _)⟩, by simp only [intOf]; omega⟩); (go_wp2_with fail; exact ⟨⟨i + 1, true, by omega, by go_num, (Lp hB.out HA1.out), (by first | exact (hkr.set true).later (Ba (Bb _) _) | exact (hkr.later hb0).set true), (by first | exact Bp (Bi hW (Br _ g 1 _)) (Ba (Bb _) _) | exact Bi (Bp hW hb0) (Br _ g 1 _))⟩, by simp only [intOf]; omega⟩)); (obtain rfl : i = l.length := (by omega); have e1 := hB.out; rw [HZ.out] at e1; have E1 := Be e1; clear e1; go_wp2_with fail; go_ret; rw [← E1.out]; exact ⟨rfl, hkr, hW⟩)))
   ·have d2 : decide (P > 8192) = false := decide_eq_false p2
    have d3 : decide (8192 < P) = false := decide_eq_false p2
    obtain rfl : b1 = false := by rw [HB1.out, d1, d3]; rfl
    go_enter Tryz.func33, Tryz.ntmps33
    go_wp2_with fail
    (go_loopw [32] (fun v wr => ∃ (i : Nat) (bi : Bool), i ≤ l.length ∧ v = .int .i64 i ∧ Hid (bi = (false || !((l.take i).all SVal.right))) ∧ Wk wr g P bi tw ∧ w.grownBy wr (some g)) (fun v _ => l.length - (intOf v).toNat); (case atStart => exact ⟨0, false, Nat.zero_le _, rfl, by show false = _; simp, hk1, g1⟩); (case round => obtain ⟨i, bi, hi, rfl, hB, hkr, hW⟩ := hrel; have hkc := hkr; obtain ⟨k0, k1, f0, f1⟩ := hkc.cells; by_cases h0 : i < l.length; (have hsr := hs.grown hk hW hne; have q0 := hsr.c0 i h0; have q1 := hsr.c1 i h0; have q2 := hsr.c2 i h0; have q3 := hsr.c3 i h0; have q4 := hsr.c4 i h0; have q5 := hsr.c5 i h0; obtain ⟨hA, hA'⟩ := hsr.ok i h0; have ha := HA.out i h0; generalize hx : l[i] = x at *; obtain ⟨p, A, n, c, xs, e, q, A', n', c', ys, f⟩ := x; simp only at q0 q1 q2 q3 q4 q5 hA hA'; have hb0 := Ba (Bb wr) (.cells #[.bool p, .slice A n c, .int .i64 e, .bool q, .slice A' n' c', .int .i64 f] 28); have bx := Bg wr #[.bool p, .slice A n c, .int .i64 e, .bool q, .slice A' n' c', .int .i64 f] 28; have hr : (SVal.mk p A n c xs e q A' n' c' ys f).right = Cb p q xs ys e f := rfl; rw [hr] at ha; obtain ⟨v0, v1, t0, t1⟩ := (hkr.later hb0).cells; have RT := Be (Qf p q A A' n c n' c' xs ys e f _ (hA.below hb0) (hA'.below hb0)); generalize Cb p q xs ys e f = rr at *; have HA1 := Be ha; clear ha hr hx hsr; cases bi; (go_wp2_with fail; refine RT.out.mono ?_; rintro r w4 ⟨rfl, hb4⟩; have hk4 := (hkr.later hb0).later hb4; have g4 := Bp (Bp hW hb0) hb4; obtain ⟨z0, z1, y0, y1⟩ := hk4.cells; clear k0 k1 f0 f1 v0 v1 t0 t1; go_wp2_with fail; exact ⟨⟨i + 1, !rr, by omega, by go_num, (Ln hB.out HA1.out), hk4.set _, Bi g4 (Br _ g 1 _)⟩, by simp only [intOf]; omega⟩); (go_wp2_with fail; exact ⟨⟨i + 1, true, by omega, by go_num, (Lp hB.out HA1.out), (by first | exact (hkr.set true).later (Ba (Bb _) _) | exact (hkr.later hb0).set true), (by first | exact Bp (Bi hW (Br _ g 1 _)) (Ba (Bb _) _) | exact Bi (Bp hW hb0) (Br _ g 1 _))⟩, by simp only [intOf]; omega⟩)); (obtain rfl : i = l.length := (by omega); have e1 := hB.out; rw [HZ.out] at e1; have E1 := Be e1; clear e1; go_wp2_with fail; go_ret; rw [← E1.out]; exact ⟨rfl, hkr, hW⟩)))
 ·obtain rfl : b1 = true := by rw [HB1.out]; rfl
  go_enter Tryz.func33, Tryz.ntmps33
  go_wp2_with fail
  (go_loopw [32] (fun v wr => ∃ (i : Nat) (bi : Bool), i ≤ l.length ∧ v = .int .i64 i ∧ Hid (bi = (true || !((l.take i).all SVal.right))) ∧ Wk wr g P bi tw ∧ w.grownBy wr (some g)) (fun v _ => l.length - (intOf v).toNat); (case atStart => exact ⟨0, true, Nat.zero_le _, rfl, by show true = _; simp, hk1, g1⟩); (case round => obtain ⟨i, bi, hi, rfl, hB, hkr, hW⟩ := hrel; have hkc := hkr; obtain ⟨k0, k1, f0, f1⟩ := hkc.cells; by_cases h0 : i < l.length; (have hsr := hs.grown hk hW hne; have q0 := hsr.c0 i h0; have q1 := hsr.c1 i h0; have q2 := hsr.c2 i h0; have q3 := hsr.c3 i h0; have q4 := hsr.c4 i h0; have q5 := hsr.c5 i h0; obtain ⟨hA, hA'⟩ := hsr.ok i h0; have ha := HA.out i h0; generalize hx : l[i] = x at *; obtain ⟨p, A, n, c, xs, e, q, A', n', c', ys, f⟩ := x; simp only at q0 q1 q2 q3 q4 q5 hA hA'; have hb0 := Ba (Bb wr) (.cells #[.bool p, .slice A n c, .int .i64 e, .bool q, .slice A' n' c', .int .i64 f] 28); have bx := Bg wr #[.bool p, .slice A n c, .int .i64 e, .bool q, .slice A' n' c', .int .i64 f] 28; have hr : (SVal.mk p A n c xs e q A' n' c' ys f).right = Cb p q xs ys e f := rfl; rw [hr] at ha; obtain ⟨v0, v1, t0, t1⟩ := (hkr.later hb0).cells; have RT := Be (Qf p q A A' n c n' c' xs ys e f _ (hA.below hb0) (hA'.below hb0)); generalize Cb p q xs ys e f = rr at *; have HA1 := Be ha; clear ha hr hx hsr; cases bi; (go_wp2_with fail; refine RT.out.mono ?_; rintro r w4 ⟨rfl, hb4⟩; have hk4 := (hkr.later hb0).later hb4; have g4 := Bp (Bp hW hb0) hb4; obtain ⟨z0, z1, y0, y1⟩ := hk4.cells; clear k0 k1 f0 f1 v0 v1 t0 t1; go_wp2_with fail; exact ⟨⟨i + 1, !rr, by omega, by go_num, (Ln hB.out HA1.out), hk4.set _, Bi g4 (Br _ g 1 _)⟩, by simp only [intOf]; omega⟩); (go_wp2_with fail; exact ⟨⟨i + 1, true, by omega, by go_num, (Lp hB.out HA1.out), (by first | exact (hkr.set true).later (Ba (Bb _) _) | exact (hkr.later hb0).set true), (by first | exact Bp (Bi hW (Br _ g 1 _)) (Ba (Bb _) _) | exact Bi (Bp hW hb0) (Br _ g 1 _))⟩, by simp only [intOf]; omega⟩)); (obtain rfl : i = l.length := (by omega); have e1 := hB.out; rw [HZ.out] at e1; have E1 := Be e1; clear e1; go_wp2_with fail; go_ret; rw [← E1.out]; exact ⟨rfl, hkr, hW⟩)))
def Dx (o : Option (Dy × Dy)) (g : Nat) (P : Int) (t : TypeId) (w : World) (r : Ending) (w' : World) : Prop :=
 ∃ A n c A' n' c', r = .returned (.agg #[.bool (o.getD (Dy.zero, Dy.zero)).1.neg, .slice A n c, .int .i64 (o.getD (Dy.zero, Dy.zero)).1.e, .bool (o.getD (Dy.zero, Dy.zero)).2.neg, .slice A' n' c', .int .i64 (o.getD (Dy.zero, Dy.zero)).2.e]) ∧
  Arr w' A n c (wd (o.getD (Dy.zero, Dy.zero)).1.m) ∧ Arr w' A' n' c' (wd (o.getD (Dy.zero, Dy.zero)).2.m) ∧ Wk w' g P o.isNone t ∧ w.grownBy w' (some g)
theorem Ge : wd Dy.zero.m = [] := wd_zero (Int.le_refl _)
theorem Cl {g : Nat} {P : Int} {t : TypeId} {w w' : World} (hk : Wk w' g P true t) (hg : w.grownBy w' (some g)) :
  Dx none g P t w (.returned (.agg #[.bool false, .slice none 0 0, .int .i64 0, .bool false, .slice none 0 0, .int .i64 0])) w' :=
 ⟨none, 0, 0, none, 0, 0, rfl, by show Arr w' none 0 0 (wd Dy.zero.m); rw [Ge]; exact Arr.nothing _, by show Arr w' none 0 0 (wd Dy.zero.m); rw [Ge]; exact Arr.nothing _, hk, hg⟩
def SVal.lo (s : SVal) : Dy := ⟨s.p, val s.xs, s.e⟩
def SVal.hi (s : SVal) : Dy := ⟨s.q, val s.ys, s.f⟩
theorem Ja {w : World} {h : Nat} {p q : Bool} {A A' : Option Addr} {n c n' c' : Nat} {e f : Int} {xs ys : List Int} {t : TypeId} (hb : Box w h #[.bool p, .slice A n c, .int .i64 e, .bool q, .slice A' n' c', .int .i64 f] t) (ha : Arr w A n c xs) (ha' : Arr w A' n' c' ys) :
  SVs w h [⟨p, A, n, c, xs, e, q, A', n', c', ys, f⟩] := by
 have one : ∀ j, j < [(⟨p, A, n, c, xs, e, q, A', n', c', ys, f⟩ : SVal)].length → j = 0 := fun j hj => by simpa using hj
 refine ⟨hb.lt, fun j hj => ?_, fun j hj => ?_, fun j hj => ?_, fun j hj => ?_, fun j hj => ?_, fun j hj => ?_, fun j hj => ?_⟩ <;> obtain rfl := one j hj
 ·exact ⟨ha, ha'⟩
 ·exact hb.cell 0
 ·exact hb.cell 1
 ·exact hb.cell 2
 ·exact hb.cell 3
 ·exact hb.cell 4
 ·exact hb.cell 5
theorem Uf (p : Bool) (xs : List Int) (e : Int) : Cb p p xs xs e e = Bq p xs e := by
 unfold Cb Gj Dw
 cases Bq p xs e
 ·rfl
 ·have : Hf ⟨p, val xs, e⟩ ⟨p, val xs, e⟩ = 0 := by unfold Hf; exact Lh rfl
  simp [this]
def Ky (bad : Bool) (P : Int) (p : Bool) (xs : List Int) (e : Int) : Option (Dy × Dy) := if bad || decide (P < 1) || decide (8192 < P) || !Bq p xs e then none else some (⟨p, val xs, e⟩, ⟨p, val xs, e⟩)
theorem Bau (g : Nat) (P : Int) (bad : Bool) (p : Bool) (A : Option Addr) (n c : Nat) (xs : List Int) (e : Int) (w : World) (hk : Wk w g P bad tw) (h : Arr w A n c xs) :
  Calls Tryz.prog 67 #[.pointer (some ⟨g, 0, none⟩), .agg #[.bool p, .slice A n c, .int .i64 e]] w (Dx (Ky bad P p xs e) g P tw w) := by
 have b1 := Ba (Bb w) (.cells #[.bool p, .slice A n c, .int .i64 e] 26)
 have b2 : Below w.heap.size w ((w.alloc (.cells #[.bool p, .slice A n c, .int .i64 e] 26)).alloc (.cells #[.bool false, .slice none 0 0, .int .i64 0, .bool false, .slice none 0 0, .int .i64 0] 28)) := Ba b1 _
 have b3 : Below w.heap.size w (((w.alloc (.cells #[.bool p, .slice A n c, .int .i64 e] 26)).alloc (.cells #[.bool false, .slice none 0 0, .int .i64 0, .bool false, .slice none 0 0, .int .i64 0] 28)).alloc (.cells #[.bool p, .slice A n c, .int .i64 e, .bool p, .slice A n c, .int .i64 e] 28)) := Ba b2 _
 have xa := (Bg w #[.bool p, .slice A n c, .int .i64 e] 26).later (Ba (Ba (Bb _) (.cells #[.bool false, .slice none 0 0, .int .i64 0, .bool false, .slice none 0 0, .int .i64 0] 28)) (.cells #[.bool p, .slice A n c, .int .i64 e, .bool p, .slice A n c, .int .i64 e] 28))
 have xr := (Bg (w.alloc (.cells #[.bool p, .slice A n c, .int .i64 e] 26)) #[.bool false, .slice none 0 0, .int .i64 0, .bool false, .slice none 0 0, .int .i64 0] 28).later (Ba (Bb _) (.cells #[.bool p, .slice A n c, .int .i64 e, .bool p, .slice A n c, .int .i64 e] 28))
 rw [show (w.alloc (.cells #[.bool p, .slice A n c, .int .i64 e] 26)).heap.size = w.heap.size + 1 by simp] at xr
 have xs1 := Bg ((w.alloc (.cells #[.bool p, .slice A n c, .int .i64 e] 26)).alloc (.cells #[.bool false, .slice none 0 0, .int .i64 0, .bool false, .slice none 0 0, .int .i64 0] 28)) #[.bool p, .slice A n c, .int .i64 e, .bool p, .slice A n c, .int .i64 e] 28
 rw [show ((w.alloc (.cells #[.bool p, .slice A n c, .int .i64 e] 26)).alloc (.cells #[.bool false, .slice none 0 0, .int .i64 0, .bool false, .slice none 0 0, .int .i64 0] 28)).heap.size = w.heap.size + 1 + 1 by simp] at xs1
 have hk3 := hk.later b3
 have hg := hk.lt
 have h3 := h.below b3
 have TK := Mk g (w.heap.size + 1 + 1) 1 P bad [⟨p, A, n, c, xs, e, p, A, n, c, xs, e⟩] rfl _ hk3 (Ja xs1 h3 h3) (by omega) (by decide)
 have hl : Bx bad P [⟨p, A, n, c, xs, e, p, A, n, c, xs, e⟩] = (bad || decide (P < 1) || decide (8192 < P) || !Bq p xs e) := by
  unfold Bx SVal.right
  simp [Uf]
 rw [hl] at TK
 have ho : Ky bad P p xs e = if bad || decide (P < 1) || decide (8192 < P) || !Bq p xs e then none else some (⟨p, val xs, e⟩, ⟨p, val xs, e⟩) := rfl
 rw [ho]
 have hw : (bad || decide (P < 1) || decide (8192 < P) || !Bq p xs e) = false → wd (val xs) = xs := fun hh => by
  simp only [Bool.or_eq_false_iff, Bool.not_eq_false'] at hh
  exact (Bm h.wf hh.2).2.2.1
 obtain ⟨k0, k1, k2, f0, f1, f2⟩ := (Bg w #[.bool p, .slice A n c, .int .i64 e] 26).later (Ba (Bb _) (.cells #[.bool false, .slice none 0 0, .int .i64 0, .bool false, .slice none 0 0, .int .i64 0] 28)) |>.cell3
 have TK := Be TK
 clear hl ho
 generalize (bad || decide (P < 1) || decide (8192 < P) || !Bq p xs e) = bb at *
 have HW := Be hw
 clear hw
 cases bb
 ·go_enter Tryz.func67, Tryz.ntmps67
  go_wp2_with fail
  refine TK.out.mono ?_
  rintro r w5 ⟨rfl, hk5, g5⟩
  have xa5 := xa.grown g5 (show w.heap.size ≠ g by omega)
  have xr5 := xr.grown g5 (show w.heap.size + 1 ≠ g by omega)
  have h5 := hk3.arr h3 g5
  have gw := Bi (Bv b3 (some g)) g5
  clear k0 k1 k2 f0 f1 f2
  obtain ⟨k0, k1, k2, f0, f1, f2⟩ := xa5.cell3
  go_wp2_with (refine Bt rfl _ _ rfl rfl (w.heap.size + 1) p A n c e p A n c e xr5 rfl rfl (fun W1 y1 gW1 => ?_); have hk6 := hk5.other gW1 (show g ≠ w.heap.size + 1 by omega); have h6 := h5.grown xr5 (no6 (by simp) (by simp) (by simp) (by simp) (by simp) (by simp)) gW1; obtain ⟨u0, u1, u2, u3, u4, u5, -⟩ := y1.cell6)
  refine bodyPost_ret (v := .agg #[.bool p, .slice A n c, .int .i64 e, .bool p, .slice A n c, .int .i64 e]) ?_ rfl ⟨A, n, c, A, n, c, rfl, ?_, ?_, hk6, ?_⟩
  ·simp [results, Tryz.results67, go_sem, u0, u1, u2, u3, u4, u5]
  ·show Arr W1 A n c (wd (val xs)); rw [HW.out trivial]; exact h6
  ·show Arr W1 A n c (wd (val xs)); rw [HW.out trivial]; exact h6
  ·exact ⟨gW1.os.trans gw.os, gW1.tape.trans gw.tape, gW1.output.trans gw.output, Nat.le_trans gw.size gW1.size, fun k hk' hne => (gW1.block k (Nat.lt_of_lt_of_le hk' gw.size) (by simp; omega)).trans (gw.block k hk' hne)⟩
 ·go_enter Tryz.func67, Tryz.ntmps67
  go_wp2_with fail
  refine TK.out.mono ?_
  rintro r w5 ⟨rfl, hk5, g5⟩
  have xr5 := xr.grown g5 (show w.heap.size + 1 ≠ g by omega)
  have gw := Bi (Bv b3 (some g)) g5
  go_wp2_with (refine Bt rfl _ _ rfl rfl (w.heap.size + 1) false none 0 0 0 false none 0 0 0 xr5 rfl rfl (fun W1 y1 gW1 => ?_); have hk6 := hk5.other gW1 (show g ≠ w.heap.size + 1 by omega); obtain ⟨u0, u1, u2, u3, u4, u5, -⟩ := y1.cell6)
  refine bodyPost_ret (v := .agg #[.bool false, .slice none 0 0, .int .i64 0, .bool false, .slice none 0 0, .int .i64 0]) ?_ rfl (Cl hk6 ?_)
  ·simp [results, Tryz.results67, go_sem, u0, u1, u2, u3, u4, u5]
  ·exact ⟨gW1.os.trans gw.os, gW1.tape.trans gw.tape, gW1.output.trans gw.output, Nat.le_trans gw.size gW1.size, fun k hk' hne => (gW1.block k (Nat.lt_of_lt_of_le hk' gw.size) (by simp; omega)).trans (gw.block k hk' hne)⟩
theorem Cx {s : Bool} {m e : Int} {w w' : World} {r : Ending} (h : He (some ⟨s, m, e⟩) w r w') : ∃ A n c, r = .returned (.tuple #[.agg #[.bool s, .slice A n c, .int .i64 e], .bool true]) ∧ Arr w' A n c (wd m) ∧ Below w.heap.size w w' := h
theorem Cd {w W W' : World} {g k : Nat} (h : w.grownBy W (some g)) (hg : W.grownBy W' (some k)) (hk : w.heap.size ≤ k) : w.grownBy W' (some g) :=
 ⟨hg.os.trans h.os, hg.tape.trans h.tape, hg.output.trans h.output, Nat.le_trans h.size hg.size, fun i hi hne => (hg.block i (Nat.lt_of_lt_of_le hi h.size) (by simp; omega)).trans (h.block i hi hne)⟩
def Yk (bad : Bool) (P : Int) : Bool := bad || decide (P < 1) || decide (8192 < P)
def Tx (bad : Bool) (P n : Int) : Option (Dy × Dy) := if Yk bad P then none else some (Ca n 0, Ca n 0)
theorem Ww {n : Int} (h0 : -9223372036854775808 ≤ n) (h1 : n ≤ 9223372036854775807) : mkD (decide (n < 0)) (if n < 0 then -n else n) 0 = some (Ca n 0) := by
 have e : sgn (decide (n < 0)) (if n < 0 then -n else n) = n := by
  by_cases h : n < 0
  ·rw [decide_eq_true h, if_pos h]; simp [sgn]
  ·rw [decide_eq_false h, if_neg h]; simp [sgn]
 have := Xa (decide (n < 0)) (v := if n < 0 then -n else n) (e := 0) (by split <;> omega) (by
  have : (wd (if n < 0 then -n else n)).length ≤ 1 := wd_length_le (by split <;> omega) (by rw [Int.pow_succ, Int.pow_zero, Int.one_mul, B_eq]; split <;> omega)
  omega) (by decide) (by decide)
 rw [e] at this
 exact this
theorem spnum (g : Nat) (P : Int) (bad : Bool) (n : Int) (w : World) (hk : Wk w g P bad tw) (hT : Tz w) (h0 : -9223372036854775808 ≤ n) (h1 : n ≤ 9223372036854775807) :
  Calls Tryz.prog 28 #[.pointer (some ⟨g, 0, none⟩), .int .i64 n] w (Dx (Tx bad P n) g P tw w) := by
 have hm := Ww h0 h1
 have hpl := Mx (by split <;> omega) hm
 have hD : Ca n 0 = ⟨(Ca n 0).neg, (Ca n 0).m, (Ca n 0).e⟩ := rfl
 have ho : Ky bad P (Ca n 0).neg (wd (Ca n 0).m) (Ca n 0).e = Tx bad P n := by
  unfold Ky Tx Yk
  rw [hpl.1, val_wd _ hpl.2]
  simp
 have hg := hk.lt
 obtain ⟨m0, hm0⟩ : ∃ m0, m0 = if n < 0 then -n else n := ⟨_, rfl⟩
 rw [← hm0] at hm
 have b1 : Below w.heap.size w (w.alloc (.cells #[.bool false, .slice none 0 0, .int .i64 0, .bool false, .slice none 0 0, .int .i64 0] 28)) := Ba (Bb w) _
 have b2 : Below w.heap.size w ((w.alloc (.cells #[.bool false, .slice none 0 0, .int .i64 0, .bool false, .slice none 0 0, .int .i64 0] 28)).alloc (.cells #[.int .u64 m0] 51)) := Ba b1 _
 have xr := (Bg w #[.bool false, .slice none 0 0, .int .i64 0, .bool false, .slice none 0 0, .int .i64 0] 28).later (Ba (Bb _) (.cells #[.int .u64 m0] 51))
 have hu := Db (w := w.alloc (.cells #[.bool false, .slice none 0 0, .int .i64 0, .bool false, .slice none 0 0, .int .i64 0] 28)) (g := w.heap.size + 1) (by simp) m0 (by rw [hm0]; split <;> omega) (by rw [hm0]; split <;> omega)
 have MK := Hv (decide (n < 0)) _ 1 1 [m0] 0 _ hu (by decide) (by decide) (by decide) (hT.below b2)
 rw [Ds, hm] at MK
 generalize Tx bad P n = o at *
 generalize Ca n 0 = d at *
 obtain ⟨s, m, f⟩ := d
 simp only at ho
 have HO := Be ho
 clear hD hpl hm ho
 by_cases hn : n < 0
 ·have d0 : decide (n < 0) = true := decide_eq_true hn
  rw [d0] at MK
  have MK := Be MK
  rw [if_pos hn] at hm0
  have e1 : -n = m0 := hm0.symm
  have c1 : IntKind.u64.wrap n = n + 18446744073709551616 := by rw [IntKind.wrap_u64]; omega
  have c2 : IntKind.u64.wrap (-(n + 18446744073709551616)) = m0 := by rw [IntKind.wrap_u64]; omega
  have c3 : IntKind.u64.wrap (-n) = m0 := by rw [IntKind.wrap_u64]; omega
  clear hm0 e1
  (go_enter Tryz.func28, Tryz.ntmps28; go_wp2_with fail; refine MK.out.mono ?_; rintro r w4 hr; obtain ⟨A4, n4, c4, rfl, h4, hb4⟩ := Cx hr; clear hr; have b5 := Ba hb4 (.cells #[.bool s, .slice A4 n4 c4, .int .i64 f] 26); have h5 := h4.below (Ba (Bb w4) (.cells #[.bool s, .slice A4 n4 c4, .int .i64 f] 26)); have x5 := Bg w4 #[.bool s, .slice A4 n4 c4, .int .i64 f] 26; have bb5 := Bc b2 b5; have hk5 := hk.later bb5; have xr5 := xr.later b5; obtain ⟨k0, k1, k2, f0, f1, f2⟩ := x5.cell3; have PT := Bau g P bad s A4 n4 c4 (wd m) f _ hk5 h5; rw [HO.out] at PT; have PT := Be PT; go_wp2_with fail; refine PT.out.mono ?_; rintro r w6 ⟨A6, n6, c6, A7, n7, c7, rfl, h6, h7, hk6, g6⟩; have xr6 := xr5.grown g6 (show w.heap.size ≠ g by omega); have gw := Bi (Bv bb5 (some g)) g6; clear PT k0 k1 k2 f0 f1 f2; go_wp2_with (refine Bt rfl _ _ rfl rfl w.heap.size _ A6 n6 c6 _ _ A7 n7 c7 _ xr6 rfl rfl (fun W1 y1 gW1 => ?_); have hk7 := hk6.other gW1 (show g ≠ w.heap.size by omega); have h8 := h6.grown xr6 (no6 (by simp) (by simp) (by simp) (by simp) (by simp) (by simp)) gW1; have h9 := h7.grown xr6 (no6 (by simp) (by simp) (by simp) (by simp) (by simp) (by simp)) gW1; obtain ⟨u0, u1, u2, u3, u4, u5, -⟩ := y1.cell6); refine bodyPost_ret (v := _) ?_ rfl ⟨A6, n6, c6, A7, n7, c7, rfl, h8, h9, hk7, ?_⟩; (simp [results, Tryz.results28, go_sem, u0, u1, u2, u3, u4, u5]); (exact Cd gw gW1 (Nat.le_refl _)))
 ·have d0 : decide (n < 0) = false := decide_eq_false hn
  rw [d0] at MK
  rw [if_neg hn] at hm0
  subst hm0
  have MK := Be MK
  have c1 : IntKind.u64.wrap m0 = m0 := by rw [IntKind.wrap_u64]; omega
  (go_enter Tryz.func28, Tryz.ntmps28; go_wp2_with fail; refine MK.out.mono ?_; rintro r w4 hr; obtain ⟨A4, n4, c4, rfl, h4, hb4⟩ := Cx hr; clear hr; have b5 := Ba hb4 (.cells #[.bool s, .slice A4 n4 c4, .int .i64 f] 26); have h5 := h4.below (Ba (Bb w4) (.cells #[.bool s, .slice A4 n4 c4, .int .i64 f] 26)); have x5 := Bg w4 #[.bool s, .slice A4 n4 c4, .int .i64 f] 26; have bb5 := Bc b2 b5; have hk5 := hk.later bb5; have xr5 := xr.later b5; obtain ⟨k0, k1, k2, f0, f1, f2⟩ := x5.cell3; have PT := Bau g P bad s A4 n4 c4 (wd m) f _ hk5 h5; rw [HO.out] at PT; have PT := Be PT; go_wp2_with fail; refine PT.out.mono ?_; rintro r w6 ⟨A6, n6, c6, A7, n7, c7, rfl, h6, h7, hk6, g6⟩; have xr6 := xr5.grown g6 (show w.heap.size ≠ g by omega); have gw := Bi (Bv bb5 (some g)) g6; clear PT k0 k1 k2 f0 f1 f2; go_wp2_with (refine Bt rfl _ _ rfl rfl w.heap.size _ A6 n6 c6 _ _ A7 n7 c7 _ xr6 rfl rfl (fun W1 y1 gW1 => ?_); have hk7 := hk6.other gW1 (show g ≠ w.heap.size by omega); have h8 := h6.grown xr6 (no6 (by simp) (by simp) (by simp) (by simp) (by simp) (by simp)) gW1; have h9 := h7.grown xr6 (no6 (by simp) (by simp) (by simp) (by simp) (by simp) (by simp)) gW1; obtain ⟨u0, u1, u2, u3, u4, u5, -⟩ := y1.cell6); refine bodyPost_ret (v := _) ?_ rfl ⟨A6, n6, c6, A7, n7, c7, rfl, h8, h9, hk7, ?_⟩; (simp [results, Tryz.results28, go_sem, u0, u1, u2, u3, u4, u5]); (exact Cd gw gW1 (Nat.le_refl _)))
end Go.Proofs.YteffemhapnbaeaaGreatDoor
