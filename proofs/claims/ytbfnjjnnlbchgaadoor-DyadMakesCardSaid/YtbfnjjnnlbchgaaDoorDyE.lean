/- dyad.top; dyad.plain. -/
import Derived.BigQuiet
import Derived.Deep.RegionWith
import Derived.Test.YtbfnjjnnlbchgaaDoorDyB
import Derived.Test.YtbfnjjnnlbchgaaDoorNatC
namespace Go.Proofs.YtbfnjjnnlbchgaaDoor
open Go.RowKit Num
set_option maxRecDepth 100000

theorem dtop (neg : Bool) (A : Option Addr) (n c : Nat) (xs : List Int) (e : Int) (w : World) (h : Arr w A n c xs) (hn : n ≤ 1000000) (he0 : -1000000 ≤ e) (he1 : e ≤ 1000000) :
    Calls Tryd.prog 87 #[.agg #[.bool neg, .slice A n c, .int .i64 e]] w fun r w' => r = .returned (.int .i64 (bl (val xs) + e)) ∧ Below w.heap.size w w' := by
  have bx := box_new w #[.bool neg, .slice A n c, .int .i64 e] 24
  obtain ⟨k0, k1, k2, f0, f1, f2⟩ := bx.cell3
  have b0 := below_alloc (below_self w) (.cells #[.bool neg, .slice A n c, .int .i64 e] 24)
  have NB := Lib.hid (fun w' (hb : Below w.heap.size w w') => nbits A n c xs w' (h.below hb) (by omega))
  have hb0 := bl_nonneg (val xs)
  have hb1 := bl_lt (v := val xs) (a := 64 * n) h.val_nonneg (by rw [← B_pow_pw, ← h.len]; exact val_lt h.wf)
  have hq : ∀ q : Int, 0 ≤ q → q ≤ 64000000 → IntKind.i64.wrap (q + e) = q + e := fun q h0 h1 => by rw [IntKind.wrap_i64]; omega
  have hqq := hq (bl (val xs)) hb0 (by omega)
  generalize bl (val xs) = q at *
  clear hq
  go_enter Tryd.func87, Tryd.ntmps87
  go_wp2_with fail
  go_region_with (first | (go_at_call 102; refine (NB.out _ ((by repeat (first | with_reducible assumption | exact below_self _ | refine below_set ?_ _ _ (by first | exact Nat.le_refl _ | omega | (simp; done) | (simp; omega)) _ | refine below_alloc ?_ _ | apply Below.drew | apply below_drewN)))).mono ?_; rintro r w' ⟨rfl, rfl⟩))
  all_goals
    go_wp2
    go_ret
    exact ⟨rfl, (by repeat (first | with_reducible assumption | exact below_self _ | refine below_set ?_ _ _ (by first | exact Nat.le_refl _ | omega | (simp; done) | (simp; omega)) _ | refine below_alloc ?_ _ | apply Below.drew | apply below_drewN))⟩
/-- A number as it lies in memory. -/
structure DV where
  neg : Bool
  A : Option Addr
  n : Nat
  c : Nat
  xs : List Int
  e : Int
def DV.ok (d : DV) (w : World) : Prop := Arr w d.A d.n d.c d.xs
def DV.cells (d : DV) : Array Value := #[.bool d.neg, .slice d.A d.n d.c, .int .i64 d.e]
def DV.plain (d : DV) : Bool := plainB d.neg d.xs d.e
/-- Numbers side by side in block g. -/
structure DVs (w : World) (g : Nat) (l : List DV) : Prop where
  lt : g < w.heap.size
  ok : ∀ j (h : j < l.length), (l[j]).ok w
  c0 : ∀ j (h : j < l.length), w.cell? ⟨g, j * 3, none⟩ = some (.bool (l[j]).neg)
  c1 : ∀ j (h : j < l.length), w.cell? ⟨g, j * 3 + 1, none⟩ = some (.slice (l[j]).A (l[j]).n (l[j]).c)
  c2 : ∀ j (h : j < l.length), w.cell? ⟨g, j * 3 + 2, none⟩ = some (.int .i64 (l[j]).e)
theorem DVs.later {w w' : World} {g : Nat} {l : List DV} (h : DVs w g l) (hb : Below w.heap.size w w') : DVs w' g l :=
  ⟨Nat.lt_of_lt_of_le h.lt hb.size, fun j hj => Arr.below (h.ok j hj) hb, fun j hj => (hb.cell (p := ⟨g, _, none⟩) h.lt).trans (h.c0 j hj), fun j hj => (hb.cell (p := ⟨g, _, none⟩) h.lt).trans (h.c1 j hj), fun j hj => (hb.cell (p := ⟨g, _, none⟩) h.lt).trans (h.c2 j hj)⟩
/-- Numbers side by side, wherever the slice begins. -/
structure DVA (w : World) (A : Option Addr) (l : List DV) : Prop where
  ok : ∀ j (h : j < l.length), (l[j]).ok w
  mem : 0 < l.length → ∃ g o, A = some ⟨g, o, none⟩ ∧ g < w.heap.size ∧ (∀ j (h : j < l.length), w.cell? ⟨g, o + j * 3, none⟩ = some (.bool (l[j]).neg)) ∧ (∀ j (h : j < l.length), w.cell? ⟨g, o + j * 3 + 1, none⟩ = some (.slice (l[j]).A (l[j]).n (l[j]).c)) ∧
    (∀ j (h : j < l.length), w.cell? ⟨g, o + j * 3 + 2, none⟩ = some (.int .i64 (l[j]).e))
theorem DVA.later {w w' : World} {A : Option Addr} {l : List DV} (h : DVA w A l) (hb : Below w.heap.size w w') : DVA w' A l := by
  refine ⟨fun j hj => Arr.below (h.ok j hj) hb, fun h0 => ?_⟩
  obtain ⟨g, o, rfl, hg, c0, c1, c2⟩ := h.mem h0
  exact ⟨g, o, rfl, Nat.lt_of_lt_of_le hg hb.size, fun j hj => (hb.cell (p := ⟨g, _, none⟩) hg).trans (c0 j hj), fun j hj => (hb.cell (p := ⟨g, _, none⟩) hg).trans (c1 j hj), fun j hj => (hb.cell (p := ⟨g, _, none⟩) hg).trans (c2 j hj)⟩
theorem DVs.any {w : World} {g : Nat} {l : List DV} (h : DVs w g l) : DVA w (some ⟨g, 0, none⟩) l :=
  ⟨h.ok, fun _ => ⟨g, 0, rfl, h.lt, fun j hj => by rw [Nat.zero_add]; exact h.c0 j hj, fun j hj => by rw [Nat.zero_add]; exact h.c1 j hj, fun j hj => by rw [Nat.zero_add]; exact h.c2 j hj⟩⟩
theorem dplainA (SA : Option Addr) (m cap : Nat) (l : List DV) (hm : l.length = m) (w : World) (h : DVA w SA l) (hl : m ≤ 1000000) :
    Calls Tryd.prog 86 #[.slice SA m cap] w fun r w' => r = .returned (.bool (l.all DV.plain)) ∧ Below w.heap.size w w' := by
  subst hm
  have HA : ∀ i (h : i < l.length), (l[i]).plain = false → l.all DV.plain = false := fun i h hh => by
    rw [List.all_eq_false]
    exact ⟨l[i], List.getElem_mem h, by rw [hh]; simp⟩
  have HB : (∀ j (h : j < l.length), (l[j]).plain = true) → l.all DV.plain = true := fun h => by
    rw [List.all_eq_true]
    intro t ht
    obtain ⟨j, hj, rfl⟩ := List.mem_iff_getElem.1 ht
    exact h j hj
  generalize l.all DV.plain = q at *
  have HA := Lib.hid HA
  have HB := Lib.hid HB
  go_enter Tryd.func86, Tryd.ntmps86
  go_wp2
  go_loopw [7] (fun v wr => ∃ i : Nat, i ≤ l.length ∧ v = .int .i64 i ∧ Hid (∀ j (h : j < l.length), j < i → (l[j]).plain = true) ∧ Below w.heap.size w wr) (fun v _ => l.length - (intOf v).toNat)
  case atStart => exact ⟨0, Nat.zero_le _, rfl, fun j _ h => absurd h (by omega), below_self w⟩
  case round =>
    obtain ⟨i, hi, rfl, hI, hW⟩ := hrel
    by_cases h0 : i < l.length
    · have hD := h.later hW
      obtain ⟨g, o, rfl, -, hd0, hd1, hd2⟩ := hD.mem (by omega)
      have k0 := hd0 i h0
      have k1 := hd1 i h0
      have k2 := hd2 i h0
      clear hd0 hd1 hd2
      have ho := hD.ok i h0
      have a1 := HA.out i h0
      have i1 := hI.out
      have HN : (l[i]).plain = true → ∀ j (h : j < l.length), j < i + 1 → (l[j]).plain = true := fun hp j h hj => by
        by_cases hji : j = i
        · subst hji; exact hp
        · exact i1 j h (by omega)
      generalize hx : l[i] = x at *
      obtain ⟨neg, A, n, c, xs, e⟩ := x
      have HN := Lib.hid HN
      have HF := Lib.hid a1
      have bx := box_new wr #[.bool neg, .slice A n c, .int .i64 e] 24
      have b1 := below_alloc (below_self wr) (.cells #[.bool neg, .slice A n c, .int .i64 e] 24)
      have PL := Lib.hid (plain neg A n c xs e _ (Arr.below ho b1))
      clear i1 a1 hx hI
      simp only at k0 k1 k2
      go_wp2_with fail
      refine PL.out.mono ?_; rintro r w4 ⟨rfl, hb4⟩
      have hW4 : Below w.heap.size w w4 := below_on (hW.trans (below_alloc (below_self wr) _ |>.mono hW.size)) hb4
      cases hp : plainB neg xs e
      · have HQ := Lib.hid (HF.out hp)
        go_wp2_with fail
        go_ret
        exact ⟨by rw [HQ.out]; rfl, hW4⟩
      · have HN := Lib.hid (HN.out hp)
        go_wp2_with fail
        exact ⟨⟨i + 1, by omega, by go_num, HN.out, hW4⟩, by simp only [intOf]; omega⟩
    · obtain rfl : i = l.length := by omega
      have HQ := Lib.hid (HB.out (fun j h => hI.out j h h))
      go_wp2
      go_ret
      exact ⟨by rw [HQ.out]; rfl, hW⟩
theorem dplain (g m : Nat) (l : List DV) (hm : l.length = m) (w : World) (h : DVs w g l) (hl : m ≤ 1000000) :
    Calls Tryd.prog 86 #[.slice (some ⟨g, 0, none⟩) m m] w fun r w' => r = .returned (.bool (l.all DV.plain)) ∧ Below w.heap.size w w' := dplainA _ m m l hm w h.any hl
end Go.Proofs.YtbfnjjnnlbchgaaDoor
