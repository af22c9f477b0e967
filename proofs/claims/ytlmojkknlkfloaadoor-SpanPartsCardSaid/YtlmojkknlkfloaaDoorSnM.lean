/- The laws' Few: spans. -/
import Derived.Test.YtlmojkknlkfloaaDoorSnL
import Derived.Test.YtlmojkknlkfloaaDoorMS
namespace Go.Proofs.YtlmojkknlkfloaaDoor
open Go.RowKit Num
set_option linter.unusedSimpArgs false
set_option linter.unusedVariables false
set_option maxRecDepth 100000

def SVal.loV (s : SVal) : DV := ⟨s.p, s.A, s.n, s.c, s.xs, s.e⟩
def SVal.hiV (s : SVal) : DV := ⟨s.q, s.A', s.n', s.c', s.ys, s.f⟩
def fewS (s : SVal) : Bool := (fewD s.loV && fewD s.hiV) && (decide (s.n ≤ 20) && decide (s.n' ≤ 20))
theorem SVs.later {w w' : World} {h : Nat} {l : List SVal} (s : SVs w h l) (hb : Below w.heap.size w w') : SVs w' h l := by
  have hc : ∀ i, w'.cell? ⟨h, i, none⟩ = w.cell? ⟨h, i, none⟩ := fun i => hb.cell (p := ⟨h, i, none⟩) s.lt
  exact ⟨Nat.lt_of_lt_of_le s.lt hb.size, fun j hj => ⟨(s.ok j hj).1.below hb, (s.ok j hj).2.below hb⟩, fun j hj => (hc _).trans (s.c0 j hj), fun j hj => (hc _).trans (s.c1 j hj), fun j hj => (hc _).trans (s.c2 j hj), fun j hj => (hc _).trans (s.c3 j hj), fun j hj => (hc _).trans (s.c4 j hj), fun j hj => (hc _).trans (s.c5 j hj)⟩
set_option maxHeartbeats 4000000 in
theorem few03 (h m : Nat) (l : List SVal) (hm : l.length = m) (w : World) (hs : SVs w h l) (hl : m ≤ 1000000) :
    Calls Tryd.prog 31 #[.slice (some ⟨h, 0, none⟩) m m] w fun r w' => r = .returned (.bool (l.all fewS)) ∧ Below w.heap.size w w' := by
  subst hm
  have HA : ∀ i (h : i < l.length), fewS (l[i]) = false → l.all fewS = false := fun i h hh => by
    rw [List.all_eq_false]
    exact ⟨l[i], List.getElem_mem h, by rw [hh]; simp⟩
  have HB : (∀ j (h : j < l.length), fewS (l[j]) = true) → l.all fewS = true := fun h => by
    rw [List.all_eq_true]
    intro t ht
    obtain ⟨j, hj, rfl⟩ := List.mem_iff_getElem.1 ht
    exact h j hj
  generalize l.all fewS = q0 at *
  have HA := Lib.hid HA
  have HB := Lib.hid HB
  go_enter Tryd.func31, Tryd.ntmps31
  go_wp2
  go_loopw [7] (fun v wr => ∃ i : Nat, i ≤ l.length ∧ v = .int .i64 i ∧ Hid (∀ j (h : j < l.length), j < i → fewS (l[j]) = true) ∧ Below w.heap.size w wr) (fun v _ => l.length - (intOf v).toNat)
  case atStart => exact ⟨0, Nat.zero_le _, rfl, fun j _ h => absurd h (by omega), below_self w⟩
  case round =>
    obtain ⟨i, hi, rfl, hI, hW⟩ := hrel
    by_cases h0 : i < l.length
    · have hsr := hs.later hW
      have q0' := hsr.c0 i h0
      have q1 := hsr.c1 i h0
      have q2 := hsr.c2 i h0
      have q3 := hsr.c3 i h0
      have q4 := hsr.c4 i h0
      have q5 := hsr.c5 i h0
      obtain ⟨hA, hA'⟩ := hsr.ok i h0
      have a1 := HA.out i h0
      have i1 := hI.out
      have HN : fewS (l[i]) = true → ∀ j (h : j < l.length), j < i + 1 → fewS (l[j]) = true := fun hp j h hj => by
        by_cases hji : j = i
        · subst hji; exact hp
        · exact i1 j h (by omega)
      generalize hx : l[i] = x at *
      obtain ⟨p, A, n, c, xs, e, q, A', n', c', ys, f⟩ := x
      simp only at q0' q1 q2 q3 q4 q5 hA hA'
      have b1 := below_alloc (below_self wr) (.cells #[.bool p, .slice A n c, .int .i64 e, .bool q, .slice A' n' c', .int .i64 f] 41)
      have bx := box_new wr #[.bool p, .slice A n c, .int .i64 e, .bool q, .slice A' n' c', .int .i64 f] 41
      have b2 := below_alloc b1 (.cells #[.bool p, .slice A n c, .int .i64 e, .bool q, .slice A' n' c', .int .i64 f] 24)
      have dv := dvs_two p q A A' n c n' c' xs ys e f (hA.below b1) (hA'.below b1) 24
      rw [show (wr.alloc (.cells #[.bool p, .slice A n c, .int .i64 e, .bool q, .slice A' n' c', .int .i64 f] 41)).heap.size = wr.heap.size + 1 by simp] at dv
      have FW := few02 _ 2 2 _ rfl _ dv.any (by decide)
      have hf : [(⟨p, A, n, c, xs, e⟩ : DV), ⟨q, A', n', c', ys, f⟩].all fewD = (fewD ⟨p, A, n, c, xs, e⟩ && fewD ⟨q, A', n', c', ys, f⟩) := by simp
      rw [hf] at FW
      have hfs : fewS ⟨p, A, n, c, xs, e, q, A', n', c', ys, f⟩ = ((fewD ⟨p, A, n, c, xs, e⟩ && fewD ⟨q, A', n', c', ys, f⟩) && (decide (n ≤ 20) && decide (n' ≤ 20))) := rfl
      rw [hfs] at HN a1
      have bx2 := bx.later (below_alloc (below_self _) (.cells #[.bool p, .slice A n c, .int .i64 e, .bool q, .slice A' n' c', .int .i64 f] 24))
      obtain ⟨k0, k1, k2, k3, k4, k5, -⟩ := bx.cell6
      generalize (fewD ⟨p, A, n, c, xs, e⟩ && fewD ⟨q, A', n', c', ys, f⟩) = fb at *
      have HN := Lib.hid HN
      have HF := Lib.hid a1
      have FW := Lib.hid FW
      have hw2 : Below w.heap.size w ((wr.alloc (.cells #[.bool p, .slice A n c, .int .i64 e, .bool q, .slice A' n' c', .int .i64 f] 41)).alloc (.cells #[.bool p, .slice A n c, .int .i64 e, .bool q, .slice A' n' c', .int .i64 f] 24)) := hW.trans (b2.mono hW.size)
      clear i1 a1 hx hI hf hfs hsr dv
      cases fb
      · have HQ := Lib.hid (HF.out (by simp))
        go_wp2_with fail
        refine FW.out.mono ?_; rintro r w4 ⟨rfl, hb4⟩
        go_wp2_with fail
        go_ret
        exact ⟨by rw [HQ.out]; rfl, below_on hw2 hb4⟩
      · by_cases hn : n ≤ 20
        · have d1 : decide ((n : Int) > 20) = false := by simp; omega
          have d2 : decide (20 < (n : Int)) = false := by simp; omega
          have d2' : decide (20 < n) = false := by simp; omega
          by_cases hn' : n' ≤ 20
          · have d3 : decide ((n' : Int) > 20) = false := by simp; omega
            have d4 : decide (20 < (n' : Int)) = false := by simp; omega
            have d4' : decide (20 < n') = false := by simp; omega
            have HN := Lib.hid (HN.out (by simp [hn, hn']))
            go_wp2_with fail
            refine FW.out.mono ?_; rintro r w4 ⟨rfl, hb4⟩
            clear k0 k1 k2 k3 k4 k5
            obtain ⟨k0, k1, k2, k3, k4, k5, -⟩ := (bx2.later hb4).cell6
            go_wp2_with fail
            exact ⟨⟨i + 1, by omega, by go_num, HN.out, below_on hw2 hb4⟩, by simp only [intOf]; omega⟩
          · have d3 : decide ((n' : Int) > 20) = true := by simp; omega
            have d4 : decide (20 < (n' : Int)) = true := by simp; omega
            have d4' : decide (20 < n') = true := by simp; omega
            have HQ := Lib.hid (HF.out (by simp [hn, hn']))
            go_wp2_with fail
            refine FW.out.mono ?_; rintro r w4 ⟨rfl, hb4⟩
            clear k0 k1 k2 k3 k4 k5
            obtain ⟨k0, k1, k2, k3, k4, k5, -⟩ := (bx2.later hb4).cell6
            go_wp2_with fail
            go_ret
            exact ⟨by rw [HQ.out]; rfl, below_on hw2 hb4⟩
        · have d1 : decide ((n : Int) > 20) = true := by simp; omega
          have d2 : decide (20 < (n : Int)) = true := by simp; omega
          have d2' : decide (20 < n) = true := by simp; omega
          have HQ := Lib.hid (HF.out (by simp [hn]))
          go_wp2_with fail
          refine FW.out.mono ?_; rintro r w4 ⟨rfl, hb4⟩
          clear k0 k1 k2 k3 k4 k5
          obtain ⟨k0, k1, k2, k3, k4, k5, -⟩ := (bx2.later hb4).cell6
          go_wp2_with fail
          go_ret
          exact ⟨by rw [HQ.out]; rfl, below_on hw2 hb4⟩
    · obtain rfl : i = l.length := by omega
      have HQ := Lib.hid (HB.out (fun j h => hI.out j h h))
      go_wp2
      go_ret
      exact ⟨by rw [HQ.out]; rfl, hW⟩
end Go.Proofs.YtlmojkknlkfloaaDoor
