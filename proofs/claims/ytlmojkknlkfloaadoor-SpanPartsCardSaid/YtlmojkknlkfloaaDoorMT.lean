/- The quotients of few spans. -/
import Derived.Test.YtlmojkknlkfloaaDoorSnS
import Derived.Test.YtlmojkknlkfloaaDoorSnM
import Derived.Test.YtlmojkknlkfloaaDoorSnI
import Derived.Test.YtlmojkknlkfloaaDoorMS
import Derived.Deep.RegionHeld3
import Derived.Test.YtlmojkknlkfloaaDoorSnR
namespace Go.Proofs.YtlmojkknlkfloaaDoor
open Go.RowKit Num
set_option linter.unusedSimpArgs false
set_option linter.unusedVariables false
set_option maxRecDepth 100000

theorem ends_nonzero {s t : Bool} {us vs : List Int} {i j : Int} (hw : Wf us) (hw' : Wf vs) (h : signS s t us vs i j ≠ 0) : plainB s us i = true ∧ plainB t vs j = true ∧ us.length ≠ 0 ∧ vs.length ≠ 0 := by
  unfold signS at h
  split at h
  · rename_i hr
    unfold rightS bothB endsI at hr
    simp only [Bool.and_eq_true, decide_eq_true_eq] at hr
    obtain ⟨⟨h1, h2⟩, h3⟩ := hr
    rw [if_pos ⟨h1, h2⟩] at h3
    refine ⟨h1, h2, ?_⟩
    obtain ⟨-, -, -, p1⟩ := plainB_parts hw h1
    obtain ⟨-, -, -, p2⟩ := plainB_parts hw' h2
    have hz : ∀ {l : List Int}, l.length = 0 → val l = 0 := fun {l} hl => by rw [List.length_eq_zero_iff.1 hl]; rfl
    split at h
    · rename_i hc
      obtain ⟨hc1, rfl⟩ := hc
      refine ⟨hc1, fun h0 => ?_⟩
      have hv := (p1 (by omega)).1
      simp only [cmpD, hz h0, lev, Int.zero_mul, sgn_zero] at h3
      have hp := pw_pos (i - min i j).toNat
      have := Int.mul_pos hv hp
      unfold cmpI sgn at h3
      simp only [Bool.false_eq_true, if_false] at h3
      split at h3 <;> (try split at h3) <;> omega
    · split at h
      · rename_i ht
        subst ht
        have hvl : vs.length ≠ 0 := fun h0 => by
          unfold plainB at h2
          rw [if_pos h0] at h2
          simp at h2
        refine ⟨fun h0 => ?_, hvl⟩
        have hv := (p2 (by omega)).1
        simp only [cmpD, hz h0, lev, Int.zero_mul, sgn_zero] at h3
        have hp := pw_pos (j - min i j).toNat
        have := Int.mul_pos hv hp
        unfold cmpI sgn at h3
        simp only [if_true] at h3
        split at h3 <;> (try split at h3) <;> omega
      · exact absurd rfl h
  · exact absurd rfl h
theorem plain_len {D : Dy} (h : plainB D.neg (wd D.m) D.e = true) : (wd D.m).length ≤ 1000000 := by
  by_cases h0 : (wd D.m).length = 0
  · omega
  · have := (plainB_top h h0).2.1
    omega
theorem four_all {Q : Dy → Prop} {D1 D2 D3 D4 : Dy} (h1 : Q D1) (h2 : Q D2) (h3 : Q D3) (h4 : Q D4) (i : Nat) : Q (four D1 D2 D3 D4 i) := by
  unfold four
  split
  · exact h1
  · split
    · exact h2
    · split
      · exact h3
      · exact h4
theorem over_all (p q s t : Bool) (A A' B B' : Option Addr) (n c n' c' m k m' k' : Nat) (xs ys us vs : List Int) (e f i j P : Int) (bad : Bool) (hx : Wf xs) (hy : Wf ys) (hu : Wf us) (hv : Wf vs)
    (lx : xs.length ≤ 40) (ly : ys.length ≤ 40) (lu : us.length ≤ 40) (lv : vs.length ≤ 40) (e0 : -20000 ≤ e) (e1 : e ≤ 20000) (f0 : -20000 ≤ f) (f1 : f ≤ 20000) (i0 : -20000 ≤ i) (i1 : i ≤ 20000) (j0 : -20000 ≤ j) (j1 : j ≤ 20000)
    (hP : P ≤ 300 ∨ 8192 < P) :
    ∃ D1 D2 D3 D4 E1 E2 E3 E4, takeB bad P [(⟨p, A, n, c, xs, e, q, A', n', c', ys, f⟩ : SVal), (⟨s, B, m, k, us, i, t, B', m', k', vs, j⟩ : SVal)] = false → signS s t us vs i j ≠ 0 →
      ((overD p s xs us e i P false = some D1 ∧ overD p t xs vs e j P false = some D2 ∧ overD q s ys us f i P false = some D3 ∧ overD q t ys vs f j P false = some D4) ∧
      (overD p s xs us e i P true = some E1 ∧ overD p t xs vs e j P true = some E2 ∧ overD q s ys us f i P true = some E3 ∧ overD q t ys vs f j P true = some E4)) ∧
      ∀ i, (wd (four D1 D2 D3 D4 i).m).length ≤ 1000000 ∧ (wd (four E1 E2 E3 E4 i).m).length ≤ 1000000 := by
  by_cases ht : takeB bad P [(⟨p, A, n, c, xs, e, q, A', n', c', ys, f⟩ : SVal), (⟨s, B, m, k, us, i, t, B', m', k', vs, j⟩ : SVal)] = false
  · by_cases hs : signS s t us vs i j = 0
    · exact ⟨Dy.zero, Dy.zero, Dy.zero, Dy.zero, Dy.zero, Dy.zero, Dy.zero, Dy.zero, fun _ h => absurd hs h⟩
    · obtain ⟨pu, pv, nu, nv⟩ := ends_nonzero hu hv hs
      unfold takeB at ht
      simp only [List.all_cons, List.all_nil, Bool.and_true, SVal.right, Bool.or_eq_false_iff, decide_eq_false_iff_not, Bool.not_eq_false', Bool.and_eq_true] at ht
      obtain ⟨⟨⟨-, p1⟩, p2⟩, ra, rb⟩ := ht
      unfold rightS bothB at ra
      simp only [Bool.and_eq_true] at ra
      obtain ⟨⟨px, py⟩, -⟩ := ra
      have h1 : 1 ≤ P := by omega
      have h2 : P ≤ 600 := by omega
      obtain ⟨D1, E1, -, -, a1, a2, a3, a4, -⟩ := over_enc hx hu px pu lx lu nu e0 e1 i0 i1 h1 h2
      obtain ⟨D2, E2, -, -, b1, b2, b3, b4, -⟩ := over_enc hx hv px pv lx lv nv e0 e1 j0 j1 h1 h2
      obtain ⟨D3, E3, -, -, c1, c2, c3, c4, -⟩ := over_enc hy hu py pu ly lu nu f0 f1 i0 i1 h1 h2
      obtain ⟨D4, E4, -, -, d1, d2, d3, d4, -⟩ := over_enc hy hv py pv ly lv nv f0 f1 j0 j1 h1 h2
      exact ⟨D1, D2, D3, D4, E1, E2, E3, E4, fun _ _ => ⟨⟨⟨a1, b1, c1, d1⟩, a2, b2, c2, d2⟩, fun i => ⟨four_all (Q := fun D => (wd D.m).length ≤ 1000000) (plain_len a3) (plain_len b3) (plain_len c3) (plain_len d3) i, four_all (Q := fun D => (wd D.m).length ≤ 1000000) (plain_len a4) (plain_len b4) (plain_len c4) (plain_len d4) i⟩⟩⟩
  · exact ⟨Dy.zero, Dy.zero, Dy.zero, Dy.zero, Dy.zero, Dy.zero, Dy.zero, Dy.zero, fun h => absurd h ht⟩
end Go.Proofs.YtlmojkknlkfloaaDoor
/- The laws' state: two spans, four works; SpanParts. -/
namespace Go.Proofs.YtlmojkknlkfloaaDoor
open Go.RowKit Num
set_option linter.unusedSimpArgs false
set_option linter.unusedVariables false
set_option maxRecDepth 100000

def SVal.six (a : SVal) : Array Value := #[.bool a.p, .slice a.A a.n a.c, .int .i64 a.e, .bool a.q, .slice a.A' a.n' a.c', .int .i64 a.f]
structure St (w0 : World) (sa sb g1 h1 g2 h2 : Nat) (a b : SVal) (P : Int) (b1 b2 b3 b4 : Bool) (w : World) : Prop where
  xa : Box w sa a.six 41
  xb : Box w sb b.six 41
  oa : a.ok w
  ob : b.ok w
  tz : Tz w
  v : Wk w g1 P b1 64
  r : Wk w h1 P b2 65
  x : Wk w g2 P b3 64
  y : Wk w h2 P b4 65
  nd : [sa, sb, g1, h1, g2, h2].Nodup
  ge : w0.heap.size ≤ g1 ∧ w0.heap.size ≤ h1 ∧ w0.heap.size ≤ g2 ∧ w0.heap.size ≤ h2
  below : Below w0.heap.size w0 w
section
variable {w0 : World} {sa sb g1 h1 g2 h2 : Nat} {a b : SVal} {P : Int} {b1 b2 b3 b4 : Bool} {w w' : World}
theorem St.later (h : St w0 sa sb g1 h1 g2 h2 a b P b1 b2 b3 b4 w) (hb : Below w.heap.size w w') : St w0 sa sb g1 h1 g2 h2 a b P b1 b2 b3 b4 w' :=
  ⟨h.xa.later hb, h.xb.later hb, ⟨h.oa.1.below hb, h.oa.2.below hb⟩, ⟨h.ob.1.below hb, h.ob.2.below hb⟩, h.tz.below hb, h.v.later hb, h.r.later hb, h.x.later hb, h.y.later hb, h.nd, h.ge, below_on h.below hb⟩
theorem St.drew (h : St w0 sa sb g1 h1 g2 h2 a b P b1 b2 b3 b4 w) : St w0 sa sb g1 h1 g2 h2 a b P b1 b2 b3 b4 w.drew := h.later (Below.drew (below_self _))
theorem St.drewN {z : Nat} (h : St w0 sa sb g1 h1 g2 h2 a b P b1 b2 b3 b4 w) : St w0 sa sb g1 h1 g2 h2 a b P b1 b2 b3 b4 (w.drewN z) := h.later (below_drewN (below_self _) _)
theorem Arr.drew' {A : Option Addr} {n c : Nat} {xs : List Int} (h : Arr w A n c xs) : Arr w.drew A n c xs := h.below (Below.drew (below_self _))
theorem Arr.drewN' {z : Nat} {A : Option Addr} {n c : Nat} {xs : List Int} (h : Arr w A n c xs) : Arr (w.drewN z) A n c xs := h.below (below_drewN (below_self _) _)
theorem grown_belowS {g : Nat} (h : Below w0.heap.size w0 w) (hg : w.grownBy w' (some g)) (hge : w0.heap.size ≤ g) : Below w0.heap.size w0 w' :=
  h.trans (grown_below hg h.size (fun k hk => by cases hk; exact hge))
theorem St.onV {b5 : Bool} (h : St w0 sa sb g1 h1 g2 h2 a b P b1 b2 b3 b4 w) (hg : w.grownBy w' (some g1)) (hk : Wk w' g1 P b5 64) : St w0 sa sb g1 h1 g2 h2 a b P b5 b2 b3 b4 w' := by
  obtain ⟨n1, n2, n3, n4⟩ := by simpa using h.nd
  exact ⟨h.xa.grown hg (by omega), h.xb.grown hg (by omega), ⟨h.v.arr h.oa.1 hg, h.v.arr h.oa.2 hg⟩, ⟨h.v.arr h.ob.1 hg, h.v.arr h.ob.2 hg⟩, h.v.tz h.tz hg, hk, h.r.other hg (by omega), h.x.other hg (by omega), h.y.other hg (by omega), h.nd, h.ge, grown_belowS h.below hg h.ge.1⟩
theorem St.onR {b5 : Bool} (h : St w0 sa sb g1 h1 g2 h2 a b P b1 b2 b3 b4 w) (hg : w.grownBy w' (some h1)) (hk : Wk w' h1 P b5 65) : St w0 sa sb g1 h1 g2 h2 a b P b1 b5 b3 b4 w' := by
  obtain ⟨n1, n2, n3, n4⟩ := by simpa using h.nd
  exact ⟨h.xa.grown hg (by omega), h.xb.grown hg (by omega), ⟨h.r.arr h.oa.1 hg, h.r.arr h.oa.2 hg⟩, ⟨h.r.arr h.ob.1 hg, h.r.arr h.ob.2 hg⟩, h.r.tz h.tz hg, h.v.other hg (by omega), hk, h.x.other hg (by omega), h.y.other hg (by omega), h.nd, h.ge, grown_belowS h.below hg h.ge.2.1⟩
theorem St.onX {b5 : Bool} (h : St w0 sa sb g1 h1 g2 h2 a b P b1 b2 b3 b4 w) (hg : w.grownBy w' (some g2)) (hk : Wk w' g2 P b5 64) : St w0 sa sb g1 h1 g2 h2 a b P b1 b2 b5 b4 w' := by
  obtain ⟨n1, n2, n3, n4⟩ := by simpa using h.nd
  exact ⟨h.xa.grown hg (by omega), h.xb.grown hg (by omega), ⟨h.x.arr h.oa.1 hg, h.x.arr h.oa.2 hg⟩, ⟨h.x.arr h.ob.1 hg, h.x.arr h.ob.2 hg⟩, h.x.tz h.tz hg, h.v.other hg (by omega), h.r.other hg (by omega), hk, h.y.other hg (by omega), h.nd, h.ge, grown_belowS h.below hg h.ge.2.2.1⟩
theorem St.onY {b5 : Bool} (h : St w0 sa sb g1 h1 g2 h2 a b P b1 b2 b3 b4 w) (hg : w.grownBy w' (some h2)) (hk : Wk w' h2 P b5 65) : St w0 sa sb g1 h1 g2 h2 a b P b1 b2 b3 b5 w' := by
  obtain ⟨n1, n2, n3, n4⟩ := by simpa using h.nd
  exact ⟨h.xa.grown hg (by omega), h.xb.grown hg (by omega), ⟨h.y.arr h.oa.1 hg, h.y.arr h.oa.2 hg⟩, ⟨h.y.arr h.ob.1 hg, h.y.arr h.ob.2 hg⟩, h.y.tz h.tz hg, h.v.other hg (by omega), h.r.other hg (by omega), h.x.other hg (by omega), hk, h.nd, h.ge, grown_belowS h.below hg h.ge.2.2.2⟩
end
end Go.Proofs.YtlmojkknlkfloaaDoor
/- SpanParts. -/
namespace Go.Proofs.YtlmojkknlkfloaaDoor
open Go.RowKit Num
set_option linter.unusedSimpArgs false
set_option linter.unusedVariables false
set_option maxRecDepth 100000

def St2 (w0 : World) (sa sb g1 h1 g2 h2 : Nat) (a b : SVal) (P : Int) (w : World) : Prop := ∃ b1 b2 b3 b4, St w0 sa sb g1 h1 g2 h2 a b P b1 b2 b3 b4 w
theorem same_self (s t : Bool) (m1 f1 m2 f2 : Int) (A A' B B' : Option Addr) (n c n' c' m k m' k' : Nat) (w : World) (h : Arr w A n c (wd m1)) (h' : Arr w A' n' c' (wd m2)) (hB : Arr w B m k (wd m1)) (hB' : Arr w B' m' k' (wd m2)) :
    Calls Tryd.prog 46 #[.agg #[.bool s, .slice A n c, .int .i64 f1, .bool t, .slice A' n' c', .int .i64 f2], .agg #[.bool s, .slice B m k, .int .i64 f1, .bool t, .slice B' m' k', .int .i64 f2]] w fun r w' => r = .returned (.bool true) ∧ Below w.heap.size w w' := by
  have R := rsame03 s t s t A A' B B' n c n' c' m k m' k' (wd m1) (wd m2) (wd m1) (wd m2) f1 f2 f1 f2 w h h' hB hB'
  rw [sameS_self] at R
  exact R
set_option maxHeartbeats 16000000 in
/-- The law's one statement. -/
theorem parts_end (P : Int) (bad : Bool) (p q s t : Bool) (A A' B B' : Option Addr) (n c n' c' m k m' k' : Nat) (xs ys us vs : List Int) (e f i j : Int) (sa sb g1 h1 g2 h2 : Nat) (w0 w : World)
    (hS : St w0 sa sb g1 h1 g2 h2 (⟨p, A, n, c, xs, e, q, A', n', c', ys, f⟩ : SVal) (⟨s, B, m, k, us, i, t, B', m', k', vs, j⟩ : SVal) P bad bad bad bad w) (hn : n ≤ 20) (hn' : n' ≤ 20) (hm : m ≤ 20) (hm' : m' ≤ 20) (e0 : -20000 ≤ e) (e1 : e ≤ 20000) (f0 : -20000 ≤ f) (f1 : f ≤ 20000) (i0 : -20000 ≤ i) (i1 : i ≤ 20000) (j0 : -20000 ≤ j) (j1 : j ≤ 20000) (hP : P ≤ 300 ∨ 8192 < P) :
    ∃ (s1 t1 s3 t3 z1 z2 : Bool) (m1 f1 m2 f2 m3 f3 m4 f4 : Int),
      (∀ b2 b3 b4 w', St w0 sa sb g1 h1 g2 h2 (⟨p, A, n, c, xs, e, q, A', n', c', ys, f⟩ : SVal) (⟨s, B, m, k, us, i, t, B', m', k', vs, j⟩ : SVal) P bad b2 b3 b4 w' → Calls Tryd.prog 50 #[.pointer (some ⟨g1, 0, none⟩), (.agg #[.bool p, .slice A n c, .int .i64 e, .bool q, .slice A' n' c', .int .i64 f]), (.agg #[.bool s, .slice B m k, .int .i64 i, .bool t, .slice B' m' k', .int .i64 j])] w' fun r w'' => (∃ X5 n5 c5 Y5 n6 c6, r = .returned (.agg #[.bool (⟨s1, m1, f1⟩ : Dy).neg, .slice X5 n5 c5, .int .i64 (⟨s1, m1, f1⟩ : Dy).e, .bool (⟨t1, m2, f2⟩ : Dy).neg, .slice Y5 n6 c6, .int .i64 (⟨t1, m2, f2⟩ : Dy).e]) ∧ Arr w'' X5 n5 c5 (wd (⟨s1, m1, f1⟩ : Dy).m) ∧ Arr w'' Y5 n6 c6 (wd (⟨t1, m2, f2⟩ : Dy).m) ∧ (St w0 sa sb g1 h1 g2 h2 (⟨p, A, n, c, xs, e, q, A', n', c', ys, f⟩ : SVal) (⟨s, B, m, k, us, i, t, B', m', k', vs, j⟩ : SVal) P z1 b2 b3 b4 w'') ∧ ∀ A n c xs, Arr w' A n c xs → Arr w'' A n c xs)) ∧
      (∀ b1 b3 b4 w', St w0 sa sb g1 h1 g2 h2 (⟨p, A, n, c, xs, e, q, A', n', c', ys, f⟩ : SVal) (⟨s, B, m, k, us, i, t, B', m', k', vs, j⟩ : SVal) P b1 bad b3 b4 w' → Calls Tryd.prog 51 #[.pointer (some ⟨h1, 0, none⟩), (.agg #[.bool p, .slice A n c, .int .i64 e, .bool q, .slice A' n' c', .int .i64 f]), (.agg #[.bool s, .slice B m k, .int .i64 i, .bool t, .slice B' m' k', .int .i64 j])] w' fun r w'' => (∃ X5 n5 c5 Y5 n6 c6, r = .returned (.agg #[.bool (⟨s1, m1, f1⟩ : Dy).neg, .slice X5 n5 c5, .int .i64 (⟨s1, m1, f1⟩ : Dy).e, .bool (⟨t1, m2, f2⟩ : Dy).neg, .slice Y5 n6 c6, .int .i64 (⟨t1, m2, f2⟩ : Dy).e]) ∧ Arr w'' X5 n5 c5 (wd (⟨s1, m1, f1⟩ : Dy).m) ∧ Arr w'' Y5 n6 c6 (wd (⟨t1, m2, f2⟩ : Dy).m) ∧ (St w0 sa sb g1 h1 g2 h2 (⟨p, A, n, c, xs, e, q, A', n', c', ys, f⟩ : SVal) (⟨s, B, m, k, us, i, t, B', m', k', vs, j⟩ : SVal) P b1 z1 b3 b4 w'') ∧ ∀ A n c xs, Arr w' A n c xs → Arr w'' A n c xs)) ∧
      (∀ b1 b2 b4 w', St w0 sa sb g1 h1 g2 h2 (⟨p, A, n, c, xs, e, q, A', n', c', ys, f⟩ : SVal) (⟨s, B, m, k, us, i, t, B', m', k', vs, j⟩ : SVal) P b1 b2 bad b4 w' → Calls Tryd.prog 52 #[.pointer (some ⟨g2, 0, none⟩), (.agg #[.bool p, .slice A n c, .int .i64 e, .bool q, .slice A' n' c', .int .i64 f])] w' fun r w'' => (∃ X5 n5 c5 Y5 n6 c6, r = .returned (.agg #[.bool (⟨s3, m3, f3⟩ : Dy).neg, .slice X5 n5 c5, .int .i64 (⟨s3, m3, f3⟩ : Dy).e, .bool (⟨t3, m4, f4⟩ : Dy).neg, .slice Y5 n6 c6, .int .i64 (⟨t3, m4, f4⟩ : Dy).e]) ∧ Arr w'' X5 n5 c5 (wd (⟨s3, m3, f3⟩ : Dy).m) ∧ Arr w'' Y5 n6 c6 (wd (⟨t3, m4, f4⟩ : Dy).m) ∧ (St w0 sa sb g1 h1 g2 h2 (⟨p, A, n, c, xs, e, q, A', n', c', ys, f⟩ : SVal) (⟨s, B, m, k, us, i, t, B', m', k', vs, j⟩ : SVal) P b1 b2 z2 b4 w'') ∧ ∀ A n c xs, Arr w' A n c xs → Arr w'' A n c xs)) ∧
      (∀ b1 b2 b3 w', St w0 sa sb g1 h1 g2 h2 (⟨p, A, n, c, xs, e, q, A', n', c', ys, f⟩ : SVal) (⟨s, B, m, k, us, i, t, B', m', k', vs, j⟩ : SVal) P b1 b2 b3 bad w' → Calls Tryd.prog 53 #[.pointer (some ⟨h2, 0, none⟩), (.agg #[.bool p, .slice A n c, .int .i64 e, .bool q, .slice A' n' c', .int .i64 f])] w' fun r w'' => (∃ X5 n5 c5 Y5 n6 c6, r = .returned (.agg #[.bool (⟨s3, m3, f3⟩ : Dy).neg, .slice X5 n5 c5, .int .i64 (⟨s3, m3, f3⟩ : Dy).e, .bool (⟨t3, m4, f4⟩ : Dy).neg, .slice Y5 n6 c6, .int .i64 (⟨t3, m4, f4⟩ : Dy).e]) ∧ Arr w'' X5 n5 c5 (wd (⟨s3, m3, f3⟩ : Dy).m) ∧ Arr w'' Y5 n6 c6 (wd (⟨t3, m4, f4⟩ : Dy).m) ∧ (St w0 sa sb g1 h1 g2 h2 (⟨p, A, n, c, xs, e, q, A', n', c', ys, f⟩ : SVal) (⟨s, B, m, k, us, i, t, B', m', k', vs, j⟩ : SVal) P b1 b2 b3 z2 w'') ∧ ∀ A n c xs, Arr w' A n c xs → Arr w'' A n c xs)) := by
  obtain ⟨oa1, oa2⟩ := hS.oa
  obtain ⟨ob1, ob2⟩ := hS.ob
  have oa1 : Arr w A n c xs := oa1
  have oa2 : Arr w A' n' c' ys := oa2
  have ob1 : Arr w B m k us := ob1
  have ob2 : Arr w B' m' k' vs := ob2
  obtain ⟨D1, D2, D3, D4, E1, E2, E3, E4, HO⟩ := over_all p q s t A A' B B' n c n' c' m k m' k' xs ys us vs e f i j P bad oa1.wf oa2.wf ob1.wf ob2.wf (by have := oa1.len; omega) (by have := oa2.len; omega) (by have := ob1.len; omega) (by have := ob2.len; omega) e0 e1 f0 f1 i0 i1 j0 j1 hP
  have DV := fun w' (hT : Tz w') (h : Arr w' A n c xs) (h' : Arr w' A' n' c' ys) (hB : Arr w' B m k us) (hB' : Arr w' B' m' k' vs) (hk : Wk w' g1 P bad 64) => spdiv p q s t A A' B B' n c n' c' m k m' k' xs ys us vs e f i j P g1 bad D1 D2 D3 D4 E1 E2 E3 E4 w' h h' hB hB' hT hk (fun a b => (HO a b).1)
  have DR := fun w' (h : Arr w' A n c xs) (h' : Arr w' A' n' c' ys) (hB : Arr w' B m k us) (hB' : Arr w' B' m' k' vs) (hk : Wk w' h1 P bad 65) => rdiv03 p q s t A A' B B' n c n' c' m k m' k' xs ys us vs e f i j P h1 bad D1 D2 D3 D4 E1 E2 E3 E4 w' h h' hB hB' hk (by omega) (by omega) (by omega) (by omega) HO
  have RV := fun w' (hT : Tz w') (h : Arr w' A n c xs) (h' : Arr w' A' n' c' ys) (hk : Wk w' g2 P bad 64) => sproot p q A A' n c n' c' xs ys e f P g2 bad w' h h' hT hk
  have RR := fun w' (h : Arr w' A n c xs) (h' : Arr w' A' n' c' ys) (hk : Wk w' h2 P bad 65) => rroot03 p q A A' n c n' c' xs ys e f P h2 bad w' h h' hk (by omega) (by omega)
  generalize (if takeB bad P [(⟨p, A, n, c, xs, e, q, A', n', c', ys, f⟩ : SVal), (⟨s, B, m, k, us, i, t, B', m', k', vs, j⟩ : SVal)] = false ∧ signS s t us vs i j ≠ 0 then some (bestY false D1 D2 D3 D4, bestY true E1 E2 E3 E4) else none) = o1 at DV DR
  generalize twoO (takeB bad P [(⟨p, A, n, c, xs, e, q, A', n', c', ys, f⟩ : SVal)]) (rootD p xs e P false) (rootD q ys f P true) = o2 at RV RR
  refine ⟨(o1.getD (Dy.zero, Dy.zero)).1.neg, (o1.getD (Dy.zero, Dy.zero)).2.neg, (o2.getD (Dy.zero, Dy.zero)).1.neg, (o2.getD (Dy.zero, Dy.zero)).2.neg, o1.isNone, o2.isNone, (o1.getD (Dy.zero, Dy.zero)).1.m, (o1.getD (Dy.zero, Dy.zero)).1.e, (o1.getD (Dy.zero, Dy.zero)).2.m, (o1.getD (Dy.zero, Dy.zero)).2.e, (o2.getD (Dy.zero, Dy.zero)).1.m, (o2.getD (Dy.zero, Dy.zero)).1.e, (o2.getD (Dy.zero, Dy.zero)).2.m, (o2.getD (Dy.zero, Dy.zero)).2.e, ?_, ?_, ?_, ?_⟩
  · intro b2 b3 b4 w' h
    refine (DV w' h.tz h.oa.1 h.oa.2 h.ob.1 h.ob.2 h.v).mono ?_
    rintro r w'' ⟨X1, n1, c1, Y1, m1, d1, rfl, x1, y1, hk, hg⟩
    exact ⟨X1, n1, c1, Y1, m1, d1, rfl, x1, y1, h.onV hg hk, fun A n c xs ha => h.v.arr ha hg⟩
  · intro b1 b3 b4 w' h
    refine (DR w' h.oa.1 h.oa.2 h.ob.1 h.ob.2 h.r).mono ?_
    rintro r w'' ⟨X1, n1, c1, Y1, m1, d1, rfl, x1, y1, hk, hg⟩
    exact ⟨X1, n1, c1, Y1, m1, d1, rfl, x1, y1, h.onR hg hk, fun A n c xs ha => h.r.arr ha hg⟩
  · intro b1 b2 b4 w' h
    refine (RV w' h.tz h.oa.1 h.oa.2 h.x).mono ?_
    rintro r w'' ⟨X1, n1, c1, Y1, m1, d1, rfl, x1, y1, hk, hg⟩
    exact ⟨X1, n1, c1, Y1, m1, d1, rfl, x1, y1, h.onX hg hk, fun A n c xs ha => h.x.arr ha hg⟩
  · intro b1 b2 b3 w' h
    refine (RR w' h.oa.1 h.oa.2 h.y).mono ?_
    rintro r w'' ⟨X1, n1, c1, Y1, m1, d1, rfl, x1, y1, hk, hg⟩
    exact ⟨X1, n1, c1, Y1, m1, d1, rfl, x1, y1, h.onY hg hk, fun A n c xs ha => h.y.arr ha hg⟩
end Go.Proofs.YtlmojkknlkfloaaDoor
