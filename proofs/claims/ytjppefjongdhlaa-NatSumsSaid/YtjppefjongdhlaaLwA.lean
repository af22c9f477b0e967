/- Layer 1's laws: what all of them share, and NatShifts. -/
import Derived.Test.YtjppefjongdhlaaNatL
import Derived.Test.YtjppefjongdhlaaNatG
import Derived.Test.YtjppefjongdhlaaNatF
import Derived.Test.YtjppefjongdhlaaNatC
import Derived.Test.YtjppefjongdhlaaSame
namespace Go.Proofs.Ytjppefjongdhlaa
open Go.RowKit Num
set_option maxRecDepth 100000

theorem awake01 (w : World) : Calls Try.prog 17 #[] w fun r w' => r = .returned (.bool true) ∧ Below w.heap.size w w' := by
  have b2 := below_alloc (below_alloc (below_self w) (.cells #[.int .u64 12] 22)) (.cells #[.int .u64 12] 22)
  have a1 : Arr ((w.alloc (.cells #[.int .u64 12] 22)).alloc (.cells #[.int .u64 12] 22)) (some ⟨w.heap.size, 0, none⟩) 1 1 [12] := (arr_one (w := w) rfl 12 (by decide) (by decide)).below (below_alloc (below_self _) _)
  have a2 : Arr ((w.alloc (.cells #[.int .u64 12] 22)).alloc (.cells #[.int .u64 12] 22)) (some ⟨w.heap.size + 1, 0, none⟩) 1 1 [12] := arr_one (by simp) 12 (by decide) (by decide)
  go_enter Try.func17, Try.ntmps17
  go_wp2_with fail
  refine (mul _ _ 1 1 1 1 [12] [12] _ a1 a2 (by decide) (by decide)).mono ?_
  rintro r w3 ⟨A, n, c, rfl, hO, hb⟩
  have b3 := below_on b2 hb
  have e : wd (val [12] * val [12]) = [144] := by rw [val_one]; exact wd_small (by decide) (by decide)
  rw [e] at hO
  obtain rfl : n = 1 := hO.len.symm
  have hA := hO.arr
  have a3 : Arr ((w3.alloc (.cells #[.int .u64 145] 22)).alloc (.cells #[.int .u64 12] 22)) (some ⟨w3.heap.size, 0, none⟩) 1 1 [145] := (arr_one (w := w3) rfl 145 (by decide) (by decide)).below (below_alloc (below_self _) _)
  have a4 : Arr ((w3.alloc (.cells #[.int .u64 145] 22)).alloc (.cells #[.int .u64 12] 22)) (some ⟨w3.heap.size + 1, 0, none⟩) 1 1 [12] := arr_one (by simp) 12 (by decide) (by decide)
  have b4 := below_alloc (below_alloc (below_self w3) (.cells #[.int .u64 145] 22)) (.cells #[.int .u64 12] 22)
  clear e hO hb
  go_wp2_with fail
  refine (divmod_one _ _ 1 1 145 12 _ a3 a4 (by decide) (by decide)).mono ?_
  rintro r w5 ⟨A1, n1, c1, A2, n2, c2, rfl, hq, hr, hb⟩
  have b5 := below_on b4 hb
  have b6 := below_on b3 b5
  have e1 : wd (145 / 12) = [12] := wd_small (by decide) (by decide)
  have e2 : wd (145 % 12) = [1] := wd_small (by decide) (by decide)
  rw [e1] at hq
  rw [e2] at hr
  obtain rfl : n1 = 1 := hq.len.symm
  obtain rfl : n2 = 1 := hr.len.symm
  have hA := hA.below b5
  obtain ⟨p1, o1, rfl, _, h1⟩ := hA.mem (by decide)
  obtain ⟨p2, o2, rfl, _, h2⟩ := hq.mem (by decide)
  obtain ⟨p3, o3, rfl, _, h3⟩ := hr.mem (by decide)
  have k1 := h1 0 (by decide)
  have k2 := h2 0 (by decide)
  have k3 := h3 0 (by decide)
  simp only [List.getD_cons_zero, Nat.add_zero] at k1 k2 k3
  clear h1 h2 h3 e1 e2
  go_wp2_with fail
  go_ret
  exact ⟨rfl, b6⟩
def slv (t : Option Addr × Nat × Nat) : Value := .slice t.1 t.2.1 t.2.2
def fewB (k : Nat) (l : List (Option Addr × Nat × Nat)) : Bool := l.all fun t => decide (t.2.1 ≤ k)
theorem few (k g : Nat) (l : List (Option Addr × Nat × Nat)) (m : Nat) (hm : l.length = m) (w : World) (hk : k ≤ 1000000) (hl : m ≤ 1000000) (hc : ∀ j (h : j < l.length), w.cell? ⟨g, j, none⟩ = some (slv l[j])) :
    Calls Try.prog 18 #[.int .i64 k, .slice (some ⟨g, 0, none⟩) m m] w fun r w' => r = .returned (.bool (fewB k l)) ∧ w = w' := by
  subst hm
  have HA : ∀ i (h : i < l.length), k < l[i].2.1 → fewB k l = false := fun i h hh => by
    unfold fewB
    rw [List.all_eq_false]
    exact ⟨l[i], List.getElem_mem h, by simp; omega⟩
  have HB : (∀ j (h : j < l.length), l[j].2.1 ≤ k) → fewB k l = true := fun h => by
    unfold fewB
    rw [List.all_eq_true]
    intro t ht
    obtain ⟨j, hj, rfl⟩ := List.mem_iff_getElem.1 ht
    exact decide_eq_true (h j hj)
  generalize fewB k l = q at *
  have HC := Lib.hid hc
  have HA := Lib.hid HA
  have HB := Lib.hid HB
  clear hc
  go_enter Try.func18, Try.ntmps18
  go_wp2
  go_loop [9] (fun v => ∃ i : Nat, i ≤ l.length ∧ v = .int .i64 i ∧ Hid (∀ j (h : j < l.length), j < i → l[j].2.1 ≤ k)) (fun v => l.length - (intOf v).toNat)
  case atStart => exact ⟨0, Nat.zero_le _, rfl, fun j _ h => absurd h (by omega)⟩
  case round =>
    obtain ⟨i, hi, rfl, hI⟩ := hrel
    by_cases h0 : i < l.length
    · have k1 := HC.out i h0
      have a1 := HA.out i h0
      have i1 := hI.out
      generalize hx : l[i] = x at *
      obtain ⟨A, n, c⟩ := x
      by_cases h1 : n ≤ k
      · have d1 : decide ((k : Int) < n) = false := by simp; omega
        have d2 : decide ((n : Int) > k) = false := by simp; omega
        have HN : Hid (∀ j (h : j < l.length), j < i + 1 → l[j].2.1 ≤ k) := fun j h hj => by
          by_cases hji : j = i
          · subst hji; rw [hx]; exact h1
          · exact i1 j h (by omega)
        have k1' : w.cell? ⟨g, i, none⟩ = some (.slice A n c) := k1
        clear i1 a1 k1 hx
        go_wp2
        exact ⟨⟨i + 1, by omega, by go_num, HN⟩, by simp only [intOf]; omega⟩
      · have d1 : decide ((k : Int) < n) = true := by simp; omega
        have HQ := Lib.hid (a1 (by show k < n; omega))
        have k1' : w.cell? ⟨g, i, none⟩ = some (.slice A n c) := k1
        clear i1 a1 k1 hx
        go_wp2
        go_ret
        exact ⟨by rw [HQ.out]; rfl, rfl⟩
    · obtain rfl : i = l.length := by omega
      have HQ := Lib.hid (HB.out (fun j h => hI.out j h h))
      go_wp2
      go_ret
      exact ⟨by rw [HQ.out]; rfl, rfl⟩
theorem kept (A A' : Option Addr) (n c n' c' : Nat) (xs ys : List Int) (w : World) (h : Arr w A n c xs) (h' : Arr w A' n' c' ys) :
    Calls Try.prog 22 #[.slice A n c, .slice A' n' c'] w fun e w' => e = .returned (.bool (decide (xs = ys))) ∧ Still w w' := by
  have S := Lib.hid (same01 A A' n c n' c' xs ys w h h')
  generalize decide (xs = ys) = q at *
  go_enter Try.func22, Try.ntmps22
  go_wp2_with fail
  refine S.out.mono ?_
  rintro r w1 ⟨rfl, hs⟩
  go_wp2
  go_ret
  exact ⟨rfl, hs⟩
theorem decide_self (xs : List Int) : decide (xs = xs) = true := decide_eq_true rfl
theorem natShifts (A : Option Addr) (n c : Nat) (xs : List Int) (k : Int) (w : World) (h : Arr w A n c xs) (hk0 : -9223372036854775808 ≤ k) (hk1 : k ≤ 9223372036854775807) :
    Calls Try.prog 8 #[.slice A n c, .int .i64 k] w fun r w' => r = .returned (.bool true) ∧ Below w.heap.size w w' := by
  have hcap := h.cap
  have hbig := h.big
  by_cases g : n ≤ 200
  · have hf : fewB 200 [(A, n, c)] = true := by simp [fewB, g]
    go_enter Try.func8, Try.ntmps8
    go_wp2_with fail
    refine (awake01 w).mono ?_
    rintro r w1 ⟨rfl, b1⟩
    go_wp2_with fail
    have bs := box_new w1 #[.slice A n c] 31
    have b2 := below_alloc b1 (.cells #[.slice A n c] 31)
    refine (few 200 w1.heap.size [(A, n, c)] 1 rfl _ (by decide) (by decide) (fun j hj => by
      obtain rfl : j = 0 := by simpa using hj
      exact bs.cell 0)).mono ?_
    rintro r w' ⟨rfl, rfl⟩
    rw [hf]
    clear hf bs
    have hap := h.blk_lt
    have h2 := h.below b2
    go_wp2_with (at_builtin; refine wp_append rfl _ _ rfl w.heap.size _ 0 [] rfl (owns_empty ?m0 ?m3) A n c xs rfl (h2.below (below_alloc (below_self _) _)) n ?m1 ?m2 ?m4 ?_)
    case m0 => first | rfl | simp
    case m1 => omega
    case m2 => omega
    case m3 => have := b2.size; omega
    case m4 => have := b2.size; simp at this ⊢; omega
    intro v' w3 hown hg
    obtain ⟨A3, c3, rfl, hO⟩ := own_of_owns hown h.wf
    have b3 : Below w.heap.size w w3 := (below_alloc b2 (.cells #[] 22)).trans (grown_below hg (by have := b2.size; simp at this ⊢; omega) (by
      intro q hq
      have := b1.size
      simp [Value.ownBlock] at hq
      omega))
    have h3 := h.below b3
    have x3 := hO.arr
    clear hg hown hO h2
    go_wp2_with fail
    refine (shl A n c xs k w3 h3 (by omega) hk0 hk1).mono ?_
    rintro r w4 ⟨A4, n4, c4, rfl, h4, b4⟩
    have bw4 := below_on b3 b4
    have x4 := x3.below b4
    go_wp2_with fail
    refine (rshl A3 n c3 xs k w4 x4 (by omega) hk0 hk1).mono ?_
    rintro r w5 ⟨A5, n5, c5, rfl, h5, b5⟩
    have bw5 := below_on bw4 b5
    have h45 := h4.below b5
    have x5 := x4.below b5
    go_wp2_with fail
    refine (same01 A4 A5 n4 c4 n5 c5 _ _ w5 h45 h5).mono ?_
    rintro r w6 ⟨rfl, s6⟩
    rw [decide_self]
    have bw6 := bw5.trans (s6.below _)
    have x6 := x5.below (s6.below _)
    clear h45 h4 h5 s6 x3 x4 x5 b4 b5
    go_wp2_with fail
    refine (shr A n c xs k w6 (h.below bw6) (by omega) hk0 hk1).mono ?_
    rintro r w7 ⟨A7, n7, c7, rfl, h7, b7⟩
    have bw7 := below_on bw6 b7
    have x7 := x6.below b7
    go_wp2_with fail
    refine (rshr A3 n c3 xs k w7 x7 (by omega) hk0 hk1).mono ?_
    rintro r w8 ⟨A8, n8, c8, rfl, h8, b8⟩
    have bw8 := below_on bw7 b8
    have h78 := h7.below b8
    have x8 := x7.below b8
    go_wp2_with fail
    refine (same01 A7 A8 n7 c7 n8 c8 _ _ w8 h78 h8).mono ?_
    rintro r w9 ⟨rfl, s9⟩
    rw [decide_self]
    have bw9 := bw8.trans (s9.below _)
    have x9 := x8.below (s9.below _)
    clear h78 h7 h8 s9 x6 x7 x8 b7 b8
    go_wp2_with fail
    refine (nbits A n c xs w9 (h.below bw9) (by omega)).mono ?_
    rintro r w' ⟨rfl, rfl⟩
    go_wp2_with fail
    refine (rbits A3 n c3 xs w9 x9 (by omega)).mono ?_
    rintro r w10 ⟨rfl, b10⟩
    have bw10 := below_on bw9 b10
    go_wp2_with fail
    refine (kept A A3 n c n c3 xs xs w10 (h.below bw10) (x9.below b10)).mono ?_
    rintro r w11 ⟨rfl, s11⟩
    rw [decide_self]
    have bw11 := bw10.trans (s11.below _)
    go_wp2_with fail
    go_ret
    exact ⟨rfl, bw11⟩
  · have hf : fewB 200 [(A, n, c)] = false := by simp [fewB]; omega
    go_enter Try.func8, Try.ntmps8
    go_wp2_with fail
    refine (awake01 w).mono ?_
    rintro r w1 ⟨rfl, b1⟩
    go_wp2_with fail
    have bs := box_new w1 #[.slice A n c] 31
    have b2 := below_alloc b1 (.cells #[.slice A n c] 31)
    refine (few 200 w1.heap.size [(A, n, c)] 1 rfl _ (by decide) (by decide) (fun j hj => by
      obtain rfl : j = 0 := by simpa using hj
      exact bs.cell 0)).mono ?_
    rintro r w' ⟨rfl, rfl⟩
    rw [hf]
    clear hf bs
    go_wp2_with fail
    go_ret
    exact ⟨rfl, b2⟩
end Go.Proofs.Ytjppefjongdhlaa
