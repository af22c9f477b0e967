/- Layer 1's laws: what all of them share, and NatShifts. -/
import Derived.Test.YtbonbcmdafpceaaNatL
import Derived.Test.YtbonbcmdafpceaaNatG
import Derived.Test.YtbonbcmdafpceaaNatF
import Derived.Test.YtbonbcmdafpceaaNatC
import Derived.Test.YtbonbcmdafpceaaSame
namespace Go.Proofs.Ytbonbcmdafpceaa
open Go.RowKit Num
set_option maxRecDepth 100000

theorem awake01 (w : World) : Calls Try.prog 14 #[] w fun r w' => r = .returned (.bool true) ∧ Below w.heap.size w w' := by
  have b2 := below_alloc (below_alloc (below_self w) (.cells #[.int .u64 12] 22)) (.cells #[.int .u64 12] 22)
  have a1 : Arr ((w.alloc (.cells #[.int .u64 12] 22)).alloc (.cells #[.int .u64 12] 22)) (some ⟨w.heap.size, 0, none⟩) 1 1 [12] := (arr_one (w := w) rfl 12 (by decide) (by decide)).below (below_alloc (below_self _) _)
  have a2 : Arr ((w.alloc (.cells #[.int .u64 12] 22)).alloc (.cells #[.int .u64 12] 22)) (some ⟨w.heap.size + 1, 0, none⟩) 1 1 [12] := arr_one (by simp) 12 (by decide) (by decide)
  go_enter Try.func14, Try.ntmps14
  go_wp2_with fail
  refine (mul _ _ 1 1 1 1 [12] [12] _ a1 a2 (by decide) (by decide)).mono ?_
  rintro r w3 ⟨A, n, c, rfl, hO, hb⟩
  have b3 := below_on b2 hb
  have e : wd (val [12] * val [12]) = [144] := by rw [val_one]; exact wd_small (by decide) (by decide)
  rw [e] at hO
  obtain rfl : n = 1 := hO.len.symm
  have hA := hO.arr
  have a3 : Arr ((w3.alloc (.cells #[.int .u64 145] 22)).alloc (.cells #[.int .u64 12] 22)) (some ⟨w3.heap.size, 0, none⟩) 1 1 [145] := (arr_one (w := w3) rfl 145 (by decide) (by decide)).below (below_alloc (below_self _) _)
  have a4 : Arr ((w3.alloc (.cells #[.int .u64 145] 22)).alloc (.cells #[.int .u64 12] 22)) (some ⟨w3.heap.size + 1, 0, none⟩) 1 1 [12] := arr_one (by simp) 12 (by decide) (by decide)
  have b4 := below_alloc (below_alloc (below_self w3) (.cells #[.int .u64 145] 22)) (.cells #[.int .u64 12] 22)
  clear e hO hb
  go_wp2_with fail
  refine (divmod_one _ _ 1 1 145 12 _ a3 a4 (by decide) (by decide)).mono ?_
  rintro r w5 ⟨A1, n1, c1, A2, n2, c2, rfl, hq, hr, hb⟩
  have b5 := below_on b4 hb
  have b6 := below_on b3 b5
  have e1 : wd (145 / 12) = [12] := wd_small (by decide) (by decide)
  have e2 : wd (145 % 12) = [1] := wd_small (by decide) (by decide)
  rw [e1] at hq
  rw [e2] at hr
  obtain rfl : n1 = 1 := hq.len.symm
  obtain rfl : n2 = 1 := hr.len.symm
  have hA := hA.below b5
  obtain ⟨p1, o1, rfl, _, h1⟩ := hA.mem (by decide)
  obtain ⟨p2, o2, rfl, _, h2⟩ := hq.mem (by decide)
  obtain ⟨p3, o3, rfl, _, h3⟩ := hr.mem (by decide)
  have k1 := h1 0 (by decide)
  have k2 := h2 0 (by decide)
  have k3 := h3 0 (by decide)
  simp only [List.getD_cons_zero, Nat.add_zero] at k1 k2 k3
  clear h1 h2 h3 e1 e2
  go_wp2_with fail
  go_ret
  exact ⟨rfl, b6⟩
def slv (t : Option Addr × Nat × Nat) : Value := .slice t.1 t.2.1 t.2.2
def fewB (k : Nat) (l : List (Option Addr × Nat × Nat)) : Bool := l.all fun t => decide (t.2.1 ≤ k)
theorem few (k g : Nat) (l : List (Option Addr × Nat × Nat)) (m : Nat) (hm : l.length = m) (w : World) (_hk : k ≤ 1000000) (hl : m ≤ 1000000) (hc : ∀ j (h : j < l.length), w.cell? ⟨g, j, none⟩ = some (slv l[j])) :
    Calls Try.prog 15 #[.int .i64 k, .slice (some ⟨g, 0, none⟩) m m] w fun r w' => r = .returned (.bool (fewB k l)) ∧ w = w' := by
  subst hm
  have HA : ∀ i (h : i < l.length), k < l[i].2.1 → fewB k l = false := fun i h hh => by
    unfold fewB
    rw [List.all_eq_false]
    exact ⟨l[i], List.getElem_mem h, by simp; omega⟩
  have HB : (∀ j (h : j < l.length), l[j].2.1 ≤ k) → fewB k l = true := fun h => by
    unfold fewB
    rw [List.all_eq_true]
    intro t ht
    obtain ⟨j, hj, rfl⟩ := List.mem_iff_getElem.1 ht
    exact decide_eq_true (h j hj)
  generalize fewB k l = q at *
  have HC := Lib.hid hc
  have HA := Lib.hid HA
  have HB := Lib.hid HB
  clear hc
  go_enter Try.func15, Try.ntmps15
  go_wp2
  go_loop [9] (fun v => ∃ i : Nat, i ≤ l.length ∧ v = .int .i64 i ∧ Hid (∀ j (h : j < l.length), j < i → l[j].2.1 ≤ k)) (fun v => l.length - (intOf v).toNat)
  case atStart => exact ⟨0, Nat.zero_le _, rfl, fun j _ h => absurd h (by omega)⟩
  case round =>
    obtain ⟨i, hi, rfl, hI⟩ := hrel
    by_cases h0 : i < l.length
    · have k1 := HC.out i h0
      have a1 := HA.out i h0
      have i1 := hI.out
      generalize hx : l[i] = x at *
      obtain ⟨A, n, c⟩ := x
      by_cases h1 : n ≤ k
      · have d1 : decide ((k : Int) < n) = false := by simp; omega
        have d2 : decide ((n : Int) > k) = false := by simp; omega
        have HN : Hid (∀ j (h : j < l.length), j < i + 1 → l[j].2.1 ≤ k) := fun j h hj => by
          by_cases hji : j = i
          · subst hji; rw [hx]; exact h1
          · exact i1 j h (by omega)
        have k1' : w.cell? ⟨g, i, none⟩ = some (.slice A n c) := k1
        clear i1 a1 k1 hx
        go_wp2
        exact ⟨⟨i + 1, by omega, by go_num, HN⟩, by simp only [intOf]; omega⟩
      · have d1 : decide ((k : Int) < n) = true := by simp; omega
        have HQ := Lib.hid (a1 (by show k < n; omega))
        have k1' : w.cell? ⟨g, i, none⟩ = some (.slice A n c) := k1
        clear i1 a1 k1 hx
        go_wp2
        go_ret
        exact ⟨by rw [HQ.out]; rfl, rfl⟩
    · obtain rfl : i = l.length := by omega
      have HQ := Lib.hid (HB.out (fun j h => hI.out j h h))
      go_wp2
      go_ret
      exact ⟨by rw [HQ.out]; rfl, rfl⟩
theorem kept (A A' : Option Addr) (n c n' c' : Nat) (xs ys : List Int) (w : World) (h : Arr w A n c xs) (h' : Arr w A' n' c' ys) :
    Calls Try.prog 19 #[.slice A n c, .slice A' n' c'] w fun e w' => e = .returned (.bool (decide (xs = ys))) ∧ Still w w' := by
  have S := Lib.hid (same01 A A' n c n' c' xs ys w h h')
  generalize decide (xs = ys) = q at *
  go_enter Try.func19, Try.ntmps19
  go_wp2_with fail
  refine S.out.mono ?_
  rintro r w1 ⟨rfl, hs⟩
  go_wp2
  go_ret
  exact ⟨rfl, hs⟩
theorem decide_self (xs : List Int) : decide (xs = xs) = true := decide_eq_true rfl
end Go.Proofs.Ytbonbcmdafpceaa
