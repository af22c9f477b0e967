/- A text of ours, with only what the claim's row needs (wip/tools/shake.py). -/
import Derived.Deep.RegionHeld3
import Derived.Test.YteffemhapnbaeaaGreatDoorSnR
namespace Go.Proofs.YteffemhapnbaeaaGreatDoor
open Go.RowKit Num
set_option linter.unusedSimpArgs false
set_option linter.unusedVariables false
set_option maxRecDepth 100000

def four (D1 D2 D3 D4 : Dy) (i : Nat) : Dy := if i = 0 then D1 else if i = 1 then D2 else if i = 2 then D3 else D4
def pickD (a b : DV) (i : Nat) : DV := if i = 0 then a else b
theorem rep_add {l : List DV} {F : Nat → Dy} {i : Nat} (hl : l.length = i) (h : ∀ j (hj : j < l.length), Rep (l[j]) (F j)) {d : DV} (hd : Rep d (F i)) : ∀ j (hj : j < (l ++ [d]).length), Rep ((l ++ [d])[j]) (F j) := by
  intro j hj
  by_cases h0 : j < l.length
  · rw [List.getElem_append_left h0]
    exact h j h0
  · have hj' : j = i := by simp at hj; omega
    subst hj'
    rw [List.getElem_append_right (by omega)]
    simp only [hl, Nat.sub_self, List.getElem_cons_zero]
    exact hd
theorem ok_add {l : List DV} {w w' : World} (h : ∀ j (hj : j < l.length), (l[j]).ok w) (ch : ∀ A n c xs, Arr w A n c xs → Arr w' A n c xs) {d : DV} (hd : d.ok w) : ∀ j (hj : j < (l ++ [d]).length), ((l ++ [d])[j]).ok w' := by
  intro j hj
  by_cases h0 : j < l.length
  · rw [List.getElem_append_left h0]
    exact ch _ _ _ _ (h j h0)
  · rw [List.getElem_append_right (by omega)]
    simp only [List.length_append, List.length_cons, List.length_nil] at hj
    have : j - l.length = 0 := by omega
    simp only [this, List.getElem_cons_zero]
    exact ch _ _ _ _ hd
theorem rleast_four_f {D1 D2 D3 D4 : Dy} {l : List DV} (hl : l.length = 4) (hr : ∀ j (hj : j < l.length), Rep (l[j]) (four D1 D2 D3 D4 j)) (h cap : Nat) (w : World) (hs : DVs w h l) (hlen : ∀ i, (wd (four D1 D2 D3 D4 i).m).length ≤ 1000000) :
    Calls Tryz.prog 51 #[.slice (some ⟨h, 0, none⟩) 4 cap, .bool false] w (RetA (bestY false D1 D2 D3 D4) w) := by
  have hn : ∀ d ∈ l, d.n ≤ 1000000 := by
    intro d hd
    obtain ⟨j, hj, rfl⟩ := List.mem_iff_getElem.1 hd
    have := hs.ok j hj
    have e := (hr j hj).xs
    have hl := this.len
    rw [e] at hl
    have := hlen j
    omega
  refine (rleast_f h 4 cap l hl w hs (by omega) (by decide) hn).mono ?_
  rintro r w' ⟨rfl, ha, hb⟩
  match l, hl, hr with
  | [a, b, c, d], _, hr =>
    have R := best_rep false (hr 0 (by simp)) (hr 1 (by simp)) (hr 2 (by simp)) (hr 3 (by simp))
    have R : Rep (bestD false [a, b, c, d]) (bestY false D1 D2 D3 D4) := R
    rw [R.xs] at ha
    exact ⟨_, _, _, by rw [R.neg, R.e], ha.below hb, hb⟩
theorem rleast_four_t {D1 D2 D3 D4 : Dy} {l : List DV} (hl : l.length = 4) (hr : ∀ j (hj : j < l.length), Rep (l[j]) (four D1 D2 D3 D4 j)) (h cap : Nat) (w : World) (hs : DVs w h l) (hlen : ∀ i, (wd (four D1 D2 D3 D4 i).m).length ≤ 1000000) :
    Calls Tryz.prog 51 #[.slice (some ⟨h, 0, none⟩) 4 cap, .bool true] w (RetA (bestY true D1 D2 D3 D4) w) := by
  have hn : ∀ d ∈ l, d.n ≤ 1000000 := by
    intro d hd
    obtain ⟨j, hj, rfl⟩ := List.mem_iff_getElem.1 hd
    have := hs.ok j hj
    have e := (hr j hj).xs
    have hl := this.len
    rw [e] at hl
    have := hlen j
    omega
  refine (rleast_t h 4 cap l hl w hs (by omega) (by decide) hn).mono ?_
  rintro r w' ⟨rfl, ha, hb⟩
  match l, hl, hr with
  | [a, b, c, d], _, hr =>
    have R := best_rep true (hr 0 (by simp)) (hr 1 (by simp)) (hr 2 (by simp)) (hr 3 (by simp))
    have R : Rep (bestD true [a, b, c, d]) (bestY true D1 D2 D3 D4) := R
    rw [R.xs] at ha
    exact ⟨_, _, _, by rw [R.neg, R.e], ha.below hb, hb⟩
end Go.Proofs.YteffemhapnbaeaaGreatDoor
