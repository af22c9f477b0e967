/- The words about a span, on both sides; the law RoundAmong. -/
import Derived.OwnWalk
import Derived.Test.YtlmojkknlkfloaaDoorRdG
import Derived.Test.YtlmojkknlkfloaaDoorRdM
namespace Go.Proofs.YtlmojkknlkfloaaDoor
open Go.RowKit Num
set_option linter.unusedSimpArgs false
set_option linter.unusedVariables false
set_option maxRecDepth 100000

def endsO (p q : Bool) (xs ys : List Int) (e f : Int) : Option (Int × Int) := if rightS p q xs ys e f then some (exX p xs e 3, exX q ys f 2) else none
def RetN (o : Option (Int × Int)) (w : World) (r : Ending) (w' : World) : Prop :=
  r = .returned (.tuple #[.int .u64 (o.getD (0, 0)).1, .int .u64 (o.getD (0, 0)).2, .bool o.isSome]) ∧ Below w.heap.size w w'
theorem rdends (p q : Bool) (A A' : Option Addr) (n c n' c' : Nat) (xs ys : List Int) (e f : Int) (w : World) (h : Arr w A n c xs) (h' : Arr w A' n' c' ys) (hT : Tz w) :
    Calls Tryd.prog 20 #[(.agg #[.bool p, .slice A n c, .int .i64 e, .bool q, .slice A' n' c', .int .i64 f])] w (RetN (endsO p q xs ys e f) w) := by
  have b0 : Below w.heap.size w (w.alloc (.cells #[.bool p, .slice A n c, .int .i64 e, .bool q, .slice A' n' c', .int .i64 f] 41)) := below_alloc (below_self w) _
  have bx := box_new w #[.bool p, .slice A n c, .int .i64 e, .bool q, .slice A' n' c', .int .i64 f] 41
  obtain ⟨k0, k1, k2, k3, k4, k5, f0, f1, f2, f3, f4, f5⟩ := bx.cell6
  have RR := fun w' (hb : Below w.heap.size w w') => rdright p q A A' n c n' c' xs ys e f w' (h.below hb) (h'.below hb)
  have EA := fun w' (hb : Below w.heap.size w w') => rdexact p A n c xs e 3 w' (h.below hb) (hT.below hb)
  have EB := fun w' (hb : Below w.heap.size w w') => rdexact q A' n' c' ys f 2 w' (h'.below hb) (hT.below hb)
  have er : endsO p q xs ys e f = if rightS p q xs ys e f then some (exX p xs e 3, exX q ys f 2) else none := rfl
  rw [er]
  unfold exX
  unfold RetX at EA EB
  clear er
  generalize ((exactD p xs e 3).getD (0, 0)).1 = X at *
  generalize ((exactD q ys f 2).getD (0, 0)).1 = Y at *
  generalize ((exactD p xs e 3).getD (0, 0)).2 = X2 at *
  generalize ((exactD q ys f 2).getD (0, 0)).2 = Y2 at *
  generalize (exactD p xs e 3).isSome = X3 at *
  generalize (exactD q ys f 2).isSome = Y3 at *
  generalize endsI p q xs ys e f = cc at *
  generalize rightS p q xs ys e f = rr at *
  have RR := Lib.hid RR
  have EA := Lib.hid EA
  have EB := Lib.hid EB
  cases rr
  · go_enter Tryd.func20, Tryd.ntmps20
    go_wp2_with fail
    refine (RR.out _ b0).mono ?_; rintro r w2 ⟨rfl, hb2⟩
    (have b0 := below_on b0 hb2; have bx := bx.later hb2; (clear k0 k1 k2 k3 k4 k5 f0 f1 f2 f3 f4 f5; obtain ⟨k0, k1, k2, k3, k4, k5, f0, f1, f2, f3, f4, f5⟩ := bx.cell6); clear hb2)
    go_wp2_with fail
    go_ret3
    exact ⟨rfl, b0⟩
  · go_enter Tryd.func20, Tryd.ntmps20
    go_wp2_with fail
    refine (RR.out _ b0).mono ?_; rintro r w2 ⟨rfl, hb2⟩
    (have b0 := below_on b0 hb2; have bx := bx.later hb2; (clear k0 k1 k2 k3 k4 k5 f0 f1 f2 f3 f4 f5; obtain ⟨k0, k1, k2, k3, k4, k5, f0, f1, f2, f3, f4, f5⟩ := bx.cell6); clear hb2)
    go_wp2_with fail
    refine (EA.out _ b0).mono ?_; rintro r w3 ⟨rfl, hb3⟩
    (have b0 := below_on b0 hb3; have bx := bx.later hb3; (clear k0 k1 k2 k3 k4 k5 f0 f1 f2 f3 f4 f5; obtain ⟨k0, k1, k2, k3, k4, k5, f0, f1, f2, f3, f4, f5⟩ := bx.cell6); clear hb3)
    go_wp2_with fail
    refine (EB.out _ b0).mono ?_; rintro r w4 ⟨rfl, hb4⟩
    (have b0 := below_on b0 hb4; have bx := bx.later hb4; (clear k0 k1 k2 k3 k4 k5 f0 f1 f2 f3 f4 f5; obtain ⟨k0, k1, k2, k3, k4, k5, f0, f1, f2, f3, f4, f5⟩ := bx.cell6); clear hb4)
    go_wp2_with fail
    go_ret3
    exact ⟨rfl, b0⟩
theorem rends10 (p q : Bool) (A A' : Option Addr) (n c n' c' : Nat) (xs ys : List Int) (e f : Int) (w : World) (h : Arr w A n c xs) (h' : Arr w A' n' c' ys) (hn : n ≤ 1000000) (hn' : n' ≤ 1000000) :
    Calls Tryd.prog 21 #[(.agg #[.bool p, .slice A n c, .int .i64 e, .bool q, .slice A' n' c', .int .i64 f])] w (RetN (endsO p q xs ys e f) w) := by
  have b0 : Below w.heap.size w (w.alloc (.cells #[.bool p, .slice A n c, .int .i64 e, .bool q, .slice A' n' c', .int .i64 f] 41)) := below_alloc (below_self w) _
  have bx := box_new w #[.bool p, .slice A n c, .int .i64 e, .bool q, .slice A' n' c', .int .i64 f] 41
  obtain ⟨k0, k1, k2, k3, k4, k5, f0, f1, f2, f3, f4, f5⟩ := bx.cell6
  have RR := fun w' (hb : Below w.heap.size w w') => rright03 p q A A' n c n' c' xs ys e f w' (h.below hb) (h'.below hb) hn hn'
  have EA := fun w' (hb : Below w.heap.size w w') => rexact10 p A n c xs e 3 w' (h.below hb) hn
  have EB := fun w' (hb : Below w.heap.size w w') => rexact10 q A' n' c' ys f 2 w' (h'.below hb) hn'
  have er : endsO p q xs ys e f = if rightS p q xs ys e f then some (exX p xs e 3, exX q ys f 2) else none := rfl
  rw [er]
  unfold exX
  unfold RetX at EA EB
  clear er
  generalize ((exactD p xs e 3).getD (0, 0)).1 = X at *
  generalize ((exactD q ys f 2).getD (0, 0)).1 = Y at *
  generalize ((exactD p xs e 3).getD (0, 0)).2 = X2 at *
  generalize ((exactD q ys f 2).getD (0, 0)).2 = Y2 at *
  generalize (exactD p xs e 3).isSome = X3 at *
  generalize (exactD q ys f 2).isSome = Y3 at *
  generalize rightS p q xs ys e f = rr at *
  have RR := Lib.hid RR
  have EA := Lib.hid EA
  have EB := Lib.hid EB
  cases rr
  · go_enter Tryd.func21, Tryd.ntmps21
    go_wp2_with fail
    refine (RR.out _ b0).mono ?_; rintro r w2 ⟨rfl, hb2⟩
    (have b0 := below_on b0 hb2; have bx := bx.later hb2; (clear k0 k1 k2 k3 k4 k5 f0 f1 f2 f3 f4 f5; obtain ⟨k0, k1, k2, k3, k4, k5, f0, f1, f2, f3, f4, f5⟩ := bx.cell6); clear hb2)
    go_wp2_with fail
    go_ret3
    exact ⟨rfl, b0⟩
  · go_enter Tryd.func21, Tryd.ntmps21
    go_wp2_with fail
    refine (RR.out _ b0).mono ?_; rintro r w2 ⟨rfl, hb2⟩
    (have b0 := below_on b0 hb2; have bx := bx.later hb2; (clear k0 k1 k2 k3 k4 k5 f0 f1 f2 f3 f4 f5; obtain ⟨k0, k1, k2, k3, k4, k5, f0, f1, f2, f3, f4, f5⟩ := bx.cell6); clear hb2)
    go_wp2_with fail
    refine (EA.out _ b0).mono ?_; rintro r w3 ⟨rfl, hb3⟩
    (have b0 := below_on b0 hb3; have bx := bx.later hb3; (clear k0 k1 k2 k3 k4 k5 f0 f1 f2 f3 f4 f5; obtain ⟨k0, k1, k2, k3, k4, k5, f0, f1, f2, f3, f4, f5⟩ := bx.cell6); clear hb3)
    go_wp2_with fail
    refine (EB.out _ b0).mono ?_; rintro r w4 ⟨rfl, hb4⟩
    (have b0 := below_on b0 hb4; have bx := bx.later hb4; (clear k0 k1 k2 k3 k4 k5 f0 f1 f2 f3 f4 f5; obtain ⟨k0, k1, k2, k3, k4, k5, f0, f1, f2, f3, f4, f5⟩ := bx.cell6); clear hb4)
    go_wp2_with fail
    go_ret3
    exact ⟨rfl, b0⟩
set_option maxHeartbeats 4000000 in
theorem roundAmong (p q : Bool) (A A' : Option Addr) (n c n' c' : Nat) (xs ys : List Int) (e f mode : Int) (w : World) (h : Arr w A n c xs) (h' : Arr w A' n' c' ys) (hT : Tz w) :
    Calls Tryd.prog 6 #[(.agg #[.bool p, .slice A n c, .int .i64 e, .bool q, .slice A' n' c', .int .i64 f]), .int .i64 mode] w fun r w' => r = .returned (.bool true) ∧ Below w.heap.size w w' := by
  have b0 : Below w.heap.size w (w.alloc (.cells #[.bool p, .slice A n c, .int .i64 e, .bool q, .slice A' n' c', .int .i64 f] 41)) := below_alloc (below_self w) _
  have bx := box_new w #[.bool p, .slice A n c, .int .i64 e, .bool q, .slice A' n' c', .int .i64 f] 41
  obtain ⟨k0, k1, k2, k3, k4, k5, f0, f1, f2, f3, f4, f5⟩ := bx.cell6
  have AW := Lib.hid (fun w' (hb : Below w.heap.size w w') => awake10 w' (hT.below hb))
  have FA := fun w' => few10 p A n c e w' (Nat.le_trans h.cap h.big)
  have FB := fun w' => few10 q A' n' c' f w' (Nat.le_trans h'.cap h'.big)
  by_cases hn : n ≤ 100
  · rw [decide_eq_true hn] at FA
    have FA := Lib.hid FA
    by_cases hn' : n' ≤ 100
    · rw [decide_eq_true hn'] at FB
      have FB := Lib.hid FB
      have PA := fun w' (hb : Below w.heap.size w w') => rdamong p q A A' n c n' c' xs ys e f mode w' (h.below hb) (h'.below hb) (hT.below hb)
      have RA := fun w' (hb : Below w.heap.size w w') => ramong10 p q A A' n c n' c' xs ys e f mode w' (h.below hb) (h'.below hb) (by omega) (by omega)
      have PE := fun w' (hb : Below w.heap.size w w') => rdends p q A A' n c n' c' xs ys e f w' (h.below hb) (h'.below hb) (hT.below hb)
      have RE := fun w' (hb : Below w.heap.size w w') => rends10 p q A A' n c n' c' xs ys e f w' (h.below hb) (h'.below hb) (by omega) (by omega)
      unfold RetX at PA RA
      unfold RetN at PE RE
      generalize ((amongO p q xs ys e f mode).getD (0, 0)).1 = X at *
      generalize ((amongO p q xs ys e f mode).getD (0, 0)).2 = Y at *
      generalize (amongO p q xs ys e f mode).isSome = s at *
      generalize ((endsO p q xs ys e f).getD (0, 0)).1 = U at *
      generalize ((endsO p q xs ys e f).getD (0, 0)).2 = V at *
      generalize (endsO p q xs ys e f).isSome = t at *
      have PA := Lib.hid PA
      have RA := Lib.hid RA
      have PE := Lib.hid PE
      have RE := Lib.hid RE
      go_enter Tryd.func6, Tryd.ntmps6
      go_wp2_with fail
      refine (AW.out _ b0).mono ?_; rintro r w2 ⟨rfl, hb2⟩
      (have b0 := below_on b0 hb2; have bx := bx.later hb2; (clear k0 k1 k2 k3 k4 k5 f0 f1 f2 f3 f4 f5; obtain ⟨k0, k1, k2, k3, k4, k5, f0, f1, f2, f3, f4, f5⟩ := bx.cell6); clear hb2)
      go_wp2_with fail
      refine (FA.out _).mono ?_; rintro r w3 ⟨rfl, hb3⟩
      (have b0 := below_on b0 hb3; have bx := bx.later hb3; (clear k0 k1 k2 k3 k4 k5 f0 f1 f2 f3 f4 f5; obtain ⟨k0, k1, k2, k3, k4, k5, f0, f1, f2, f3, f4, f5⟩ := bx.cell6); clear hb3)
      go_wp2_with fail
      refine (FB.out _).mono ?_; rintro r w4 ⟨rfl, hb4⟩
      (have b0 := below_on b0 hb4; have bx := bx.later hb4; (clear k0 k1 k2 k3 k4 k5 f0 f1 f2 f3 f4 f5; obtain ⟨k0, k1, k2, k3, k4, k5, f0, f1, f2, f3, f4, f5⟩ := bx.cell6); clear hb4)
      go_wp2_with fail
      refine (PA.out _ b0).mono ?_; rintro r w5 ⟨rfl, hb5⟩
      (have b0 := below_on b0 hb5; have bx := bx.later hb5; (clear k0 k1 k2 k3 k4 k5 f0 f1 f2 f3 f4 f5; obtain ⟨k0, k1, k2, k3, k4, k5, f0, f1, f2, f3, f4, f5⟩ := bx.cell6); clear hb5)
      go_wp2_with fail
      refine (RA.out _ b0).mono ?_; rintro r w6 ⟨rfl, hb6⟩
      (have b0 := below_on b0 hb6; have bx := bx.later hb6; (clear k0 k1 k2 k3 k4 k5 f0 f1 f2 f3 f4 f5; obtain ⟨k0, k1, k2, k3, k4, k5, f0, f1, f2, f3, f4, f5⟩ := bx.cell6); clear hb6)
      go_wp2_with fail
      refine (PE.out _ b0).mono ?_; rintro r w7 ⟨rfl, hb7⟩
      (have b0 := below_on b0 hb7; have bx := bx.later hb7; (clear k0 k1 k2 k3 k4 k5 f0 f1 f2 f3 f4 f5; obtain ⟨k0, k1, k2, k3, k4, k5, f0, f1, f2, f3, f4, f5⟩ := bx.cell6); clear hb7)
      go_wp2_with fail
      refine (RE.out _ b0).mono ?_; rintro r w8 ⟨rfl, hb8⟩
      (have b0 := below_on b0 hb8; have bx := bx.later hb8; (clear k0 k1 k2 k3 k4 k5 f0 f1 f2 f3 f4 f5; obtain ⟨k0, k1, k2, k3, k4, k5, f0, f1, f2, f3, f4, f5⟩ := bx.cell6); clear hb8)
      go_wp2_with fail
      go_ret
      exact ⟨by simp, b0⟩
    · rw [decide_eq_false hn'] at FB
      have FB := Lib.hid FB
      go_enter Tryd.func6, Tryd.ntmps6
      go_wp2_with fail
      refine (AW.out _ b0).mono ?_; rintro r w2 ⟨rfl, hb2⟩
      (have b0 := below_on b0 hb2; have bx := bx.later hb2; (clear k0 k1 k2 k3 k4 k5 f0 f1 f2 f3 f4 f5; obtain ⟨k0, k1, k2, k3, k4, k5, f0, f1, f2, f3, f4, f5⟩ := bx.cell6); clear hb2)
      go_wp2_with fail
      refine (FA.out _).mono ?_; rintro r w3 ⟨rfl, hb3⟩
      (have b0 := below_on b0 hb3; have bx := bx.later hb3; (clear k0 k1 k2 k3 k4 k5 f0 f1 f2 f3 f4 f5; obtain ⟨k0, k1, k2, k3, k4, k5, f0, f1, f2, f3, f4, f5⟩ := bx.cell6); clear hb3)
      go_wp2_with fail
      refine (FB.out _).mono ?_; rintro r w4 ⟨rfl, hb4⟩
      (have b0 := below_on b0 hb4; have bx := bx.later hb4; (clear k0 k1 k2 k3 k4 k5 f0 f1 f2 f3 f4 f5; obtain ⟨k0, k1, k2, k3, k4, k5, f0, f1, f2, f3, f4, f5⟩ := bx.cell6); clear hb4)
      go_wp2_with fail
      go_ret
      exact ⟨rfl, b0⟩
  · rw [decide_eq_false hn] at FA
    have FA := Lib.hid FA
    go_enter Tryd.func6, Tryd.ntmps6
    go_wp2_with fail
    refine (AW.out _ b0).mono ?_; rintro r w2 ⟨rfl, hb2⟩
    (have b0 := below_on b0 hb2; have bx := bx.later hb2; (clear k0 k1 k2 k3 k4 k5 f0 f1 f2 f3 f4 f5; obtain ⟨k0, k1, k2, k3, k4, k5, f0, f1, f2, f3, f4, f5⟩ := bx.cell6); clear hb2)
    go_wp2_with fail
    refine (FA.out _).mono ?_; rintro r w3 ⟨rfl, hb3⟩
    (have b0 := below_on b0 hb3; have bx := bx.later hb3; (clear k0 k1 k2 k3 k4 k5 f0 f1 f2 f3 f4 f5; obtain ⟨k0, k1, k2, k3, k4, k5, f0, f1, f2, f3, f4, f5⟩ := bx.cell6); clear hb3)
    go_wp2_with fail
    go_ret
    exact ⟨rfl, b0⟩
end Go.Proofs.YtlmojkknlkfloaaDoor
