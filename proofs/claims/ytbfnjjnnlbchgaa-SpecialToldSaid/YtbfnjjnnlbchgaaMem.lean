/- Slices of words in memory: what one reads as; what later worlds keep of it. No function of the program in sight. -/
import Derived.Test.YtbfnjjnnlbchgaaProg
import Derived.WalkKit
import Derived.WalkSpells
import Derived.KernelRfl
import Derived.Lib.Hide
import Derived.Deep.Draws
import Derived.Deep.QuietTactic
import Derived.BigQuiet
import Derived.Test.YtbfnjjnnlbchgaaNum
namespace Go.Proofs.Ytbfnjjnnlbchgaa
open Go.RowKit Num

/-- A slice (address A, n words, capacity c) reads as a list. -/
structure Arr (w : World) (A : Option Addr) (n c : Nat) (xs : List Int) : Prop where
  len : xs.length = n
  wf : Wf xs
  cap : n ≤ c
  big : c ≤ 9223372036854775807
  mem : 0 < n → ∃ b o, A = some ⟨b, o, none⟩ ∧ b < w.heap.size ∧ ∀ j, j < n → w.cell? ⟨b, o + j, none⟩ = some (.int .u64 (xs.getD j 0))

theorem Arr.mk' {w : World} {b o n c : Nat} {xs : List Int} (len : xs.length = n) (wf : Wf xs) (cap : n ≤ c) (big : c ≤ 9223372036854775807) (hb : b < w.heap.size)
    (hc : ∀ j, j < n → w.cell? ⟨b, o + j, none⟩ = some (.int .u64 (xs.getD j 0))) : Arr w (some ⟨b, o, none⟩) n c xs :=
  ⟨len, wf, cap, big, fun _ => ⟨b, o, rfl, hb, hc⟩⟩
theorem Arr.below {w w' : World} {A : Option Addr} {n c : Nat} {xs : List Int} (h : Arr w A n c xs) (hb : Below w.heap.size w w') : Arr w' A n c xs := by
  refine ⟨h.len, h.wf, h.cap, h.big, fun hn => ?_⟩
  obtain ⟨b, o, e, hlt, hc⟩ := h.mem hn
  exact ⟨b, o, e, Nat.lt_of_lt_of_le hlt hb.size, fun j hj => (hb.cell (p := ⟨b, o + j, none⟩) hlt).trans (hc j hj)⟩
theorem Arr.nil (w : World) (A : Option Addr) (c : Nat) (hc : c ≤ 9223372036854775807) : Arr w A 0 c [] :=
  ⟨rfl, wf_nil, Nat.zero_le _, hc, fun h => absurd h (by omega)⟩
theorem Arr.nothing (w : World) : Arr w none 0 0 [] := Arr.nil w _ _ (by omega)
theorem Arr.take {w : World} {A : Option Addr} {n c : Nat} {xs : List Int} (h : Arr w A n c xs) (k : Nat) (hk : k ≤ n) : Arr w A k c (xs.take k) := by
  have hl := h.len
  refine ⟨by simp; omega, h.wf.take k, Nat.le_trans hk h.cap, h.big, fun hn => ?_⟩
  obtain ⟨b, o, e, hlt, hc⟩ := h.mem (by omega)
  refine ⟨b, o, e, hlt, fun j hj => ?_⟩
  rw [hc j (by omega)]
  congr 2
  simp only [List.getD_eq_getElem?_getD, List.getElem?_take]
  rw [if_pos hj]
theorem Arr.drop {w : World} {b o n c : Nat} {xs : List Int} (h : Arr w (some ⟨b, o, none⟩) n c xs) (k : Nat) (hk : k ≤ n) : Arr w (some ⟨b, o + k, none⟩) (n - k) (c - k) (xs.drop k) := by
  have hl := h.len
  have h1 := h.cap
  have h2 := h.big
  refine ⟨by simp; omega, h.wf.drop k, by omega, by omega, fun hn => ?_⟩
  obtain ⟨b', o', e, hlt, hc⟩ := h.mem (by omega)
  cases e
  refine ⟨b, o + k, rfl, hlt, fun j hj => ?_⟩
  rw [Nat.add_assoc, hc (k + j) (by omega)]
  congr 2
  simp only [List.getD_eq_getElem?_getD, List.getElem?_drop]
theorem Arr.words {w : World} {A : Option Addr} {n c : Nat} {xs : List Int} (h : Arr w A n c xs) (i : Nat) : 0 ≤ xs.getD i 0 ∧ xs.getD i 0 < 18446744073709551616 := h.wf.getD i

/-- A later world's later world. -/
theorem below_on {w w1 w2 : World} (h : Below w.heap.size w w1) (k : Below w1.heap.size w1 w2) : Below w.heap.size w w2 :=
  h.trans ⟨k.os, k.tape, k.output, k.size, fun i hi => k.block i (Nat.lt_of_lt_of_le hi h.size)⟩
theorem below_alloc {w W : World} (h : Below w.heap.size w W) (o : Obj) : Below w.heap.size w (W.alloc o) := h.alloc h.size o
theorem below_self (w : World) : Below w.heap.size w w := Below.refl _ _
theorem below_set {w W : World} (h : Below w.heap.size w W) (g o : Nat) (hg : w.heap.size ≤ g) (v : Value) : Below w.heap.size w (W.setCell ⟨g, o, none⟩ v) := h.setCell hg v
theorem below_new {w : World} {B : Nat} (hB : B ≤ w.heap.size) (o : Obj) : Below B w (w.alloc o) := (Below.refl _ _).alloc hB o

/-! ### a number without zeros at its high end -/
theorem take_last {xs : List Int} {k : Nat} (h0 : 0 < k) (hk : k ≤ xs.length) : xs.take k = xs.take (k - 1) ++ [xs[k - 1]?.getD 0] := by
  obtain ⟨j, rfl⟩ : ∃ j, k = j + 1 := ⟨k - 1, by omega⟩
  rw [Nat.add_sub_cancel, List.take_add_one, List.getElem?_eq_getElem (by omega)]
  rfl
theorem trim_go {xs : List Int} {k : Nat} (h0 : 0 < k) (hk : k ≤ xs.length) (hz : xs[k - 1]?.getD 0 = 0) (hv : val (xs.take k) = val xs) : val (xs.take (k - 1)) = val xs := by
  rw [take_last h0 hk, hz, val_snoc_zero] at hv
  exact hv
theorem trim_end {xs : List Int} {k : Nat} (hw : Wf xs) (h0 : 0 < k) (hk : k ≤ xs.length) (hz : xs[k - 1]?.getD 0 ≠ 0) (hv : val (xs.take k) = val xs) : wd (val xs) = xs.take k := by
  rw [← hv]
  refine wd_val (hw.take k) ?_
  unfold Top
  rw [take_last h0 hk]
  simpa using hz
theorem wd_take {xs : List Int} (hw : Wf xs) : xs.take (wd (val xs)).length = wd (val xs) := by
  have h := eq_wd_append hw
  conv => lhs; rw [h]
  rw [List.take_left']
  rw [← h]
theorem wd_len {xs : List Int} (hw : Wf xs) : (wd (val xs)).length ≤ xs.length := wd_length_le (val_nonneg hw) (val_lt hw)
theorem Arr.trim {w : World} {A : Option Addr} {n c : Nat} {xs : List Int} (h : Arr w A n c xs) : Arr w A (wd (val xs)).length c (wd (val xs)) := by
  have := h.take (wd (val xs)).length (by rw [← h.len]; exact wd_len h.wf)
  rwa [wd_take h.wf] at this
theorem Arr.val_nonneg {w : World} {A : Option Addr} {n c : Nat} {xs : List Int} (h : Arr w A n c xs) : 0 ≤ val xs := Num.val_nonneg h.wf

/-- The world is the old one, but for what was drawn. -/
def Still (w w' : World) : Prop := ∃ n, w' = w.drewN n
theorem Still.refl (w : World) : Still w w := ⟨0, rfl⟩
theorem Still.drewN {w w1 : World} (h : Still w w1) (n : Nat) : Still w (w1.drewN n) := by
  obtain ⟨m, rfl⟩ := h; exact ⟨m + n, World.drewN_drewN ..⟩
theorem Still.drew {w w1 : World} (h : Still w w1) : Still w w1.drew := by
  obtain ⟨m, rfl⟩ := h; exact ⟨m + 1, rfl⟩
theorem Still.trans {a b c : World} (h : Still a b) (k : Still b c) : Still a c := by
  obtain ⟨m, rfl⟩ := k; exact h.drewN m
theorem below_drewN {B : Nat} {w W : World} (h : Below B w W) (n : Nat) : Below B w (W.drewN n) := ⟨h.os, h.tape, h.output, h.size, h.block⟩
theorem Still.below {w w' : World} (h : Still w w') (B : Nat) : Below B w w' := by
  obtain ⟨n, rfl⟩ := h; exact below_drewN (Below.refl _ _) n

/-- -1, 0, 1: which one is greater. -/
def cmpI (x y : Int) : Int := if x < y then -1 else if x = y then 0 else 1

/-- 'or' of what has no bit in common. -/
theorem or_add {a b : Int} {s : Nat} (hs : s ≤ 64) (ha : 0 ≤ a) (ha' : a < pw s) (hb : 0 ≤ b) (hb' : b * pw s < 18446744073709551616) : bits .or .u64 a (b * pw s) = a + b * pw s := by
  obtain ⟨x, rfl⟩ := Int.eq_ofNat_of_zero_le ha
  obtain ⟨y, rfl⟩ := Int.eq_ofNat_of_zero_le hb
  have e : (y : Int) * pw s = ((y * 2 ^ s : Nat) : Int) := by unfold pw; simp
  have hx : x < 2 ^ s := by
    have : (x : Int) < ((2 ^ s : Nat) : Int) := by simpa [pw] using ha'
    omega
  have hx2 : x < 18446744073709551616 := Nat.lt_of_lt_of_le hx (by
    have : (2 : Nat) ^ s ≤ 2 ^ 64 := Nat.pow_le_pow_right (by decide) hs
    omega)
  rw [e] at hb' ⊢
  rw [bits_or_u64_nat x _ hx2 (by omega), Nat.or_comm, Nat.mul_comm, ← Nat.two_pow_add_eq_or_of_lt hx]
  omega
theorem and_one {x : Int} (h0 : 0 ≤ x) (h1 : x < 18446744073709551616) : bits .and .u64 x 1 = x % 2 := by
  obtain ⟨n, rfl⟩ := Int.eq_ofNat_of_zero_le h0
  have := bits_and_u64_nat n 1 (by omega) (by omega)
  have e : ((1 : Nat) : Int) = 1 := rfl
  rw [e] at this
  rw [this, Nat.and_one_is_mod]
  simp
theorem ret_bool {a b : Bool} (h : a = b) : Ending.returned (.bool a) = Ending.returned (.bool b) := by rw [h]
theorem ret_i64 {a b : Int} (h : a = b) : Ending.returned (.int .i64 a) = Ending.returned (.int .i64 b) := by rw [h]
theorem or_shift {x y : Int} {r : Nat} (hr : r ≤ 64) (hx0 : 0 ≤ x) (hx : x < 18446744073709551616) (_hy0 : 0 ≤ y) :
    bits .or .u64 (x / 2 ^ r) (IntKind.u64.wrap (y * 2 ^ (64 - r))) = x / pw r + y * pw (64 - r) % B := by
  have hp := pw_pos r
  have hq := pw_pos (64 - r)
  have hB := B_split hr
  have b : y * pw (64 - r) % B = (y % pw r) * pw (64 - r) := by rw [hB]; exact mod_mul_left _ _ _ hp hq
  have c1 : 0 ≤ y % pw r := Int.emod_nonneg _ (by omega)
  have c2 : y % pw r < pw r := Int.emod_lt_of_pos _ hp
  have a1 : 0 ≤ x / pw r := Int.ediv_nonneg hx0 (by omega)
  have a2 : x / pw r < pw (64 - r) := Int.ediv_lt_of_lt_mul hp (by rw [Int.mul_comm, ← hB]; exact hx)
  have d2 : (y % pw r + 1) * pw (64 - r) ≤ pw r * pw (64 - r) := Int.mul_le_mul_of_nonneg_right (by omega) (by omega)
  rw [Int.add_mul, Int.one_mul, ← hB] at d2
  have e := or_add (s := 64 - r) (by omega) a1 a2 c1 (by rw [← B_eq]; omega)
  rw [IntKind.wrap_u64]
  show bits .or .u64 (x / pw r) (y * pw (64 - r) % B) = _
  rw [b]; exact e
/-! ### boxes -/
theorem bcell {W w1 : World} (hb : Below W.heap.size W w1) : (∀ b o, b < W.heap.size → w1.cell? ⟨b, o, none⟩ = W.cell? ⟨b, o, none⟩) ∧ (∀ b o, b < W.heap.size → w1.frozen? ⟨b, o, none⟩ = W.frozen? ⟨b, o, none⟩) :=
  ⟨fun b o h => hb.cell (p := ⟨b, o, none⟩) h, fun b o h => hb.frozen (p := ⟨b, o, none⟩) h⟩
/-- Block g holds just these cells. -/
structure Box (w : World) (g : Nat) (cs : Array Value) (t : TypeId) : Prop where
  heap : w.heap[g]? = some (.cells cs t (0, 0))
theorem Box.lt {w : World} {g : Nat} {cs : Array Value} {t : TypeId} (h : Box w g cs t) : g < w.heap.size := (Array.getElem?_eq_some_iff.1 h.heap).1
theorem Box.cell {w : World} {g : Nat} {cs : Array Value} {t : TypeId} (h : Box w g cs t) (i : Nat) : w.cell? ⟨g, i, none⟩ = cs[i]? := cell_of_row w g i _ _ _ h.heap
theorem Box.free {w : World} {g : Nat} {cs : Array Value} {t : TypeId} (h : Box w g cs t) (i : Nat) : w.frozen? ⟨g, i, none⟩ = false := frozen_of_row w g i _ _ h.heap
theorem Box.below {w w' : World} {B g : Nat} {cs : Array Value} {t : TypeId} (h : Box w g cs t) (hb : Below B w w') (hg : g < B) : Box w' g cs t := ⟨(hb.block g hg).trans h.heap⟩
theorem Box.later {w w' : World} {g : Nat} {cs : Array Value} {t : TypeId} (h : Box w g cs t) (hb : Below w.heap.size w w') : Box w' g cs t := h.below hb h.lt
theorem box_new (w : World) (cs : Array Value) (t : TypeId) : Box (w.alloc (.cells cs t)) w.heap.size cs t := ⟨heap_alloc_new w _⟩
theorem Box.set {w : World} {g : Nat} {cs : Array Value} {t : TypeId} (h : Box w g cs t) (i : Nat) (v : Value) : Box (w.setCell ⟨g, i, none⟩ v) g (cs.setIfInBounds i v) t := ⟨heap_setCell_same w g i _ _ v h.heap⟩
theorem Box.cell3 {w : World} {g : Nat} {a b c : Value} {t : TypeId} (h : Box w g #[a, b, c] t) : w.cell? ⟨g, 0, none⟩ = some a ∧ w.cell? ⟨g, 1, none⟩ = some b ∧ w.cell? ⟨g, 2, none⟩ = some c ∧ w.frozen? ⟨g, 0, none⟩ = false ∧ w.frozen? ⟨g, 1, none⟩ = false ∧ w.frozen? ⟨g, 2, none⟩ = false :=
  ⟨h.cell 0, h.cell 1, h.cell 2, h.free 0, h.free 1, h.free 2⟩
/-- What reads as words doesn't lie in a box that holds none. -/
theorem Arr.set_box {w : World} {A : Option Addr} {n c : Nat} {xs : List Int} (h : Arr w A n c xs) {g : Nat} {cs : Array Value} {t : TypeId} (hb : Box w g cs t) (hno : ∀ (i : Nat) (x : Int), cs[i]? ≠ some (Value.int .u64 x)) (i : Nat) (v : Value) : Arr (w.setCell ⟨g, i, none⟩ v) A n c xs := by
  refine ⟨h.len, h.wf, h.cap, h.big, fun hn => ?_⟩
  obtain ⟨b, o, e, hlt, hc⟩ := h.mem hn
  refine ⟨b, o, e, by simpa using hlt, fun j hj => ?_⟩
  have hne : b ≠ g := by
    rintro rfl
    have := hc 0 hn
    rw [hb.cell] at this
    exact hno _ _ this
  have hne2 : (⟨g, i, none⟩ : Addr) ≠ ⟨b, o + j, none⟩ := by intro hh; injection hh with hh; exact hne hh.symm
  exact (World.cell?_setCell_other w _ _ v hne2).trans (hc j hj)
theorem no3 {a b c : Value} (ha : ∀ x, a ≠ Value.int .u64 x) (hb : ∀ x, b ≠ Value.int .u64 x) (hc : ∀ x, c ≠ Value.int .u64 x) : ∀ (i : Nat) (x : Int), (#[a, b, c] : Array Value)[i]? ≠ some (Value.int .u64 x)
  | 0, x => by simpa using ha x
  | 1, x => by simpa using hb x
  | 2, x => by simpa using hc x
  | i + 3, x => by simp
theorem Arr.set3 {w : World} {A : Option Addr} {n c : Nat} {xs : List Int} (h : Arr w A n c xs) {g : Nat} {t : TypeId} {p : Bool} {A' : Option Addr} {n' c' : Nat} {e : Int} (hb : Box w g #[.bool p, .slice A' n' c', .int .i64 e] t) (x z y : Value) (hx : ∀ k, x ≠ Value.int .u64 k) (hz : ∀ k, z ≠ Value.int .u64 k) :
    Arr (((w.setCell ⟨g, 0, none⟩ x).setCell ⟨g, 1, none⟩ z).setCell ⟨g, 2, none⟩ y) A n c xs := by
  have h1 := h.set_box hb (no3 (by simp) (by simp) (by simp)) 0 x
  have hb1 : Box (w.setCell ⟨g, 0, none⟩ x) g #[x, .slice A' n' c', .int .i64 e] t := hb.set 0 x
  have h2 := h1.set_box hb1 (no3 hx (by simp) (by simp)) 1 z
  have hb2 : Box ((w.setCell ⟨g, 0, none⟩ x).setCell ⟨g, 1, none⟩ z) g #[x, z, .int .i64 e] t := hb1.set 1 z
  exact h2.set_box hb2 (no3 hx hz (by simp)) 2 y
/-! ### a row of words that is one's own -/
def cellsOf (xs : List Int) : List Value := xs.map (Value.int .u64)
/-- Block g holds the words xs (and perhaps something behind them). -/
structure Row (w : World) (g : Nat) (xs : List Int) : Prop where
  wf : Wf xs
  heap : ∃ rest, w.heap[g]? = some (.cells (cellsOf xs ++ rest).toArray 22 (0, 0))
theorem cellsOf_get (xs : List Int) (i : Nat) (hi : i < xs.length) (rest : List Value) : (cellsOf xs ++ rest)[i]? = some (.int .u64 (xs.getD i 0)) := by
  rw [List.getElem?_append_left (by simpa [cellsOf] using hi)]
  simp [cellsOf, List.getD_eq_getElem?_getD, List.getElem?_eq_getElem hi]
theorem Row.lt {w : World} {g : Nat} {xs : List Int} (h : Row w g xs) : g < w.heap.size := by
  obtain ⟨rest, hh⟩ := h.heap; exact (Array.getElem?_eq_some_iff.1 hh).1
theorem Row.cell {w : World} {g : Nat} {xs : List Int} (h : Row w g xs) (i : Nat) (hi : i < xs.length) : w.cell? ⟨g, i, none⟩ = some (.int .u64 (xs.getD i 0)) := by
  obtain ⟨rest, hh⟩ := h.heap
  rw [cell_of_row w g i _ _ _ hh, List.getElem?_toArray, cellsOf_get xs i hi]
theorem Row.free {w : World} {g : Nat} {xs : List Int} (h : Row w g xs) (i : Nat) : w.frozen? ⟨g, i, none⟩ = false := by
  obtain ⟨rest, hh⟩ := h.heap
  exact frozen_of_row w g i _ _ hh
theorem cellsOf_set (xs : List Int) (i : Nat) (hi : i < xs.length) (rest : List Value) (v : Int) : (cellsOf xs ++ rest).set i (.int .u64 v) = cellsOf (xs.set i v) ++ rest := by
  rw [List.set_append_left _ _ (by simpa [cellsOf] using hi)]
  simp [cellsOf, List.map_set]
theorem Row.set {w : World} {g : Nat} {xs : List Int} (h : Row w g xs) (i : Nat) (hi : i < xs.length) (v : Int) (h0 : 0 ≤ v) (h1 : v < 18446744073709551616) : Row (w.setCell ⟨g, i, none⟩ (.int .u64 v)) g (xs.set i v) := by
  obtain ⟨rest, hh⟩ := h.heap
  refine ⟨h.wf.set i h0 h1, rest, ?_⟩
  rw [heap_setCell_same w g i _ _ _ hh, ← cellsOf_set xs i hi]
  simp
theorem Row.below {w w' : World} {B g : Nat} {xs : List Int} (h : Row w g xs) (hb : Below B w w') (hg : g < B) : Row w' g xs := by
  obtain ⟨rest, hh⟩ := h.heap
  exact ⟨h.wf, rest, (hb.block g hg).trans hh⟩
theorem Row.drewN {w : World} {g : Nat} {xs : List Int} (h : Row w g xs) (n : Nat) : Row (w.drewN n) g xs := ⟨h.wf, h.heap⟩
theorem Row.drew {w : World} {g : Nat} {xs : List Int} (h : Row w g xs) : Row w.drew g xs := ⟨h.wf, h.heap⟩
theorem Row.arr {w : World} {g c : Nat} {xs : List Int} (h : Row w g xs) (hc : xs.length ≤ c) (hb : c ≤ 9223372036854775807) : Arr w (some ⟨g, 0, none⟩) xs.length c xs :=
  ⟨rfl, h.wf, hc, hb, fun _ => ⟨g, 0, rfl, h.lt, fun j hj => by rw [Nat.zero_add]; exact h.cell j hj⟩⟩
theorem Row.arr' {w : World} {g n c : Nat} {xs : List Int} (h : Row w g xs) (hn : xs.length = n) (hc : n ≤ c) (hb : c ≤ 9223372036854775807) : Arr w (some ⟨g, 0, none⟩) n c xs := by
  subst hn; exact h.arr hc hb
/-- A row that is filled: its next word. -/
theorem Row.fill {w : World} {g i : Nat} {T : List Int} (h : Row w g (fill T i)) (hi : i < T.length) (hT : Wf T) (v : Int) (hv : v = T.getD i 0) : Row (w.setCell ⟨g, i, none⟩ (.int .u64 v)) g (Num.fill T (i + 1)) := by
  subst hv
  have := h.set i (by rw [fill_length _ _ (by omega)]; exact hi) _ (hT.getD i).1 (hT.getD i).2
  rwa [fill_set T i hi] at this
theorem Row.fill2 {w : World} {g i : Nat} {T : List Int} {u : Int} (h : Row w g ((Num.fill T i).set i u)) (hi : i < T.length) (hT : Wf T) (v : Int) (hv : v = T.getD i 0) : Row (w.setCell ⟨g, i, none⟩ (.int .u64 v)) g (Num.fill T (i + 1)) := by
  subst hv
  have := h.set i (by rw [List.length_set, fill_length _ _ (by omega)]; exact hi) _ (hT.getD i).1 (hT.getD i).2
  rwa [set_set, fill_set T i hi] at this
theorem info64 : (Try.prog.info? 22).map (fun i => (i.zero, i.size, i.bytes)) = some (some (.int .u64 0), 1, 8) := by kernel_rfl
theorem cellsOf_replicate (n : Nat) : (madeCells #[Value.int .u64 0] (n * 1)).toList = cellsOf (List.replicate n 0) := by
  rw [Nat.mul_one, toList_madeCells_one]; simp [cellsOf]
theorem below_grown {w w' : World} (h : w.grownBy w' none) : Below w.heap.size w w' := ⟨h.os, h.tape, h.output, h.size, fun i hi => h.block i hi (by simp)⟩
/-- 'make([]uint64, n)'. -/
theorem wp_make {w : World} {ops : Array Oper} {rest : List Oper} {o : Oper} {a : Act} {Q : Exit → Act → World → Prop} (hg : o.guard = none) (l c : Operand) (hop : o.op = Op.makeSlice 31 l c)
    (L C : Int) (n : Nat) (hl : a.eval l = .int .i64 L) (hc : a.eval c = .int .i64 C) (hL : L = (n : Int)) (hC : C = (n : Int)) (hn : n ≤ 35184372088832)
    (hK : ∀ g w', g = w.heap.size → Row w' g (List.replicate n 0) → Below g w w' → wpList Try.prog ops Q rest (a.put o.dst (.slice (some ⟨g, 0, none⟩) n n)) w') :
    wpList Try.prog ops Q (o :: rest) a w := by
  obtain ⟨i0, hi, hz0, hz1, hz2⟩ := info_parts info64
  refine wpList_make_full w hg l c 31 hop w.heap.size 22 i0 (.int .u64 0) 1 Try.underlying31 hi hz0 hz1 .i64 .i64 L C n hl hc hL hC (by rw [hz2]; omega) (by unfold maxLen; omega) (Nat.le_refl _) ?_
  intro w' hown hgrow
  refine hK _ w' rfl ⟨wf_replicate n, ?_⟩ (below_grown hgrow)
  rcases hown.2 with ⟨h, _⟩ | ⟨g, cap, cur, h, _, hh, _, _, hs, ht⟩
  · cases h
  · cases h
    refine ⟨[], ?_⟩
    have e : (Value.int IntKind.u64 0).cells = #[Value.int .u64 0] := rfl
    rw [e, cellsOf_replicate] at ht
    rw [List.append_nil, hh, ← ht]
    have e2 : (cur.toList.take (n * 1)).toArray = cur := by
      rw [List.take_of_length_le (by simp; omega)]
    rw [e2]
theorem val_one (x : Int) : val [x] = x := by simp [val]
theorem wf_one {x : Int} (h0 : 0 ≤ x) (h1 : x < 18446744073709551616) : Wf [x] := wf_cons.2 ⟨⟨h0, h1⟩, wf_nil⟩
theorem arr_one {w : World} {g : Nat} (hg : g = w.heap.size) (x : Int) (h0 : 0 ≤ x) (h1 : x < 18446744073709551616) : Arr (w.alloc (.cells #[.int .u64 x] 22)) (some ⟨g, 0, none⟩) 1 1 [x] := by
  subst hg
  exact Arr.mk' rfl (wf_one h0 h1) (by omega) (by omega) (by simp) (fun j hj => by
    obtain rfl : j = 0 := by omega
    exact (box_new w _ _).cell 0)
end Go.Proofs.Ytbfnjjnnlbchgaa
