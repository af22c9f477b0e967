/- A text of ours, with only what the claim's row needs (wip/tools/shake.py). -/
import Derived.Test.YteffemhapnbaeaaGreatDoorNF
import Derived.Test.YteffemhapnbaeaaGreatDoorSrL
import Derived.Test.YteffemhapnbaeaaGreatDoorNG
import Derived.Test.YteffemhapnbaeaaGreatDoorMW
namespace Go.Proofs.YteffemhapnbaeaaGreatDoor
open Go.RowKit Num
set_option linter.unusedSimpArgs false
set_option linter.unusedVariables false
set_option maxRecDepth 100000

def SVal.sixR (a : SVal) : Array Value := #[.bool a.p, .slice a.A a.n a.c, .int .i64 a.e, .bool a.q, .slice a.A' a.n' a.c', .int .i64 a.f]
structure S6 (w0 : World) (sa sb g1 h1 g2 h2 g3 h3 : Nat) (a b : SVal) (P : Int) (b1 b2 b3 b4 b5 b6 : Bool) (w : World) : Prop where
  xa : Box w sa a.sixR 28
  xb : Box w sb b.sixR 28
  oa : a.ok w
  ob : b.ok w
  tz : Tz w
  v : Wk w g1 P b1 37
  r : Wk w h1 P b2 38
  x : Wk w g2 P b3 37
  y : Wk w h2 P b4 38
  p : Wk w g3 P b5 37
  q : Wk w h3 P b6 38
  nd : [sa, sb, g1, h1, g2, h2, g3, h3].Nodup
  ge : w0.heap.size ≤ g1 ∧ w0.heap.size ≤ h1 ∧ w0.heap.size ≤ g2 ∧ w0.heap.size ≤ h2 ∧ w0.heap.size ≤ g3 ∧ w0.heap.size ≤ h3
  below : Below w0.heap.size w0 w
section
variable {w0 : World} {sa sb g1 h1 g2 h2 g3 h3 : Nat} {a b : SVal} {P : Int} {b1 b2 b3 b4 b5 b6 : Bool} {w w' : World}
theorem S6.later (s : S6 w0 sa sb g1 h1 g2 h2 g3 h3 a b P b1 b2 b3 b4 b5 b6 w) (hb : Below w.heap.size w w') : S6 w0 sa sb g1 h1 g2 h2 g3 h3 a b P b1 b2 b3 b4 b5 b6 w' :=
  ⟨s.xa.later hb, s.xb.later hb, ⟨s.oa.1.below hb, s.oa.2.below hb⟩, ⟨s.ob.1.below hb, s.ob.2.below hb⟩, s.tz.below hb, s.v.later hb, s.r.later hb, s.x.later hb, s.y.later hb, s.p.later hb, s.q.later hb, s.nd, s.ge, below_on s.below hb⟩
theorem S6.drew (s : S6 w0 sa sb g1 h1 g2 h2 g3 h3 a b P b1 b2 b3 b4 b5 b6 w) : S6 w0 sa sb g1 h1 g2 h2 g3 h3 a b P b1 b2 b3 b4 b5 b6 w.drew := s.later (Below.drew (below_self _))
theorem S6.drewN {z : Nat} (s : S6 w0 sa sb g1 h1 g2 h2 g3 h3 a b P b1 b2 b3 b4 b5 b6 w) : S6 w0 sa sb g1 h1 g2 h2 g3 h3 a b P b1 b2 b3 b4 b5 b6 (w.drewN z) := s.later (below_drewN (below_self _) _)
theorem S6.on1 {z5 : Bool} (s : S6 w0 sa sb g1 h1 g2 h2 g3 h3 a b P b1 b2 b3 b4 b5 b6 w) (hg : w.grownBy w' (some g1)) (hk : Wk w' g1 P z5 37) : S6 w0 sa sb g1 h1 g2 h2 g3 h3 a b P z5 b2 b3 b4 b5 b6 w' := by
  have nd := s.nd
  simp only [List.nodup_cons, List.mem_cons, List.not_mem_nil, or_false, not_or, not_false_eq_true, List.nodup_nil, and_true] at nd
  obtain ⟨⟨_, _, _, _, _, _, _⟩, ⟨_, _, _, _, _, _⟩, ⟨_, _, _, _, _⟩, ⟨_, _, _, _⟩, ⟨_, _, _⟩, ⟨_, _⟩, _⟩ := nd
  have ge := s.ge
  exact ⟨s.xa.grown hg (by omega), s.xb.grown hg (by omega), ⟨s.v.arr s.oa.1 hg, s.v.arr s.oa.2 hg⟩, ⟨s.v.arr s.ob.1 hg, s.v.arr s.ob.2 hg⟩, s.v.tz s.tz hg, hk, s.r.other hg (by omega), s.x.other hg (by omega), s.y.other hg (by omega), s.p.other hg (by omega), s.q.other hg (by omega), s.nd, s.ge, grown_belowR s.below hg (by omega)⟩
theorem S6.on2 {z5 : Bool} (s : S6 w0 sa sb g1 h1 g2 h2 g3 h3 a b P b1 b2 b3 b4 b5 b6 w) (hg : w.grownBy w' (some h1)) (hk : Wk w' h1 P z5 38) : S6 w0 sa sb g1 h1 g2 h2 g3 h3 a b P b1 z5 b3 b4 b5 b6 w' := by
  have nd := s.nd
  simp only [List.nodup_cons, List.mem_cons, List.not_mem_nil, or_false, not_or, not_false_eq_true, List.nodup_nil, and_true] at nd
  obtain ⟨⟨_, _, _, _, _, _, _⟩, ⟨_, _, _, _, _, _⟩, ⟨_, _, _, _, _⟩, ⟨_, _, _, _⟩, ⟨_, _, _⟩, ⟨_, _⟩, _⟩ := nd
  have ge := s.ge
  exact ⟨s.xa.grown hg (by omega), s.xb.grown hg (by omega), ⟨s.r.arr s.oa.1 hg, s.r.arr s.oa.2 hg⟩, ⟨s.r.arr s.ob.1 hg, s.r.arr s.ob.2 hg⟩, s.r.tz s.tz hg, s.v.other hg (by omega), hk, s.x.other hg (by omega), s.y.other hg (by omega), s.p.other hg (by omega), s.q.other hg (by omega), s.nd, s.ge, grown_belowR s.below hg (by omega)⟩
theorem S6.on3 {z5 : Bool} (s : S6 w0 sa sb g1 h1 g2 h2 g3 h3 a b P b1 b2 b3 b4 b5 b6 w) (hg : w.grownBy w' (some g2)) (hk : Wk w' g2 P z5 37) : S6 w0 sa sb g1 h1 g2 h2 g3 h3 a b P b1 b2 z5 b4 b5 b6 w' := by
  have nd := s.nd
  simp only [List.nodup_cons, List.mem_cons, List.not_mem_nil, or_false, not_or, not_false_eq_true, List.nodup_nil, and_true] at nd
  obtain ⟨⟨_, _, _, _, _, _, _⟩, ⟨_, _, _, _, _, _⟩, ⟨_, _, _, _, _⟩, ⟨_, _, _, _⟩, ⟨_, _, _⟩, ⟨_, _⟩, _⟩ := nd
  have ge := s.ge
  exact ⟨s.xa.grown hg (by omega), s.xb.grown hg (by omega), ⟨s.x.arr s.oa.1 hg, s.x.arr s.oa.2 hg⟩, ⟨s.x.arr s.ob.1 hg, s.x.arr s.ob.2 hg⟩, s.x.tz s.tz hg, s.v.other hg (by omega), s.r.other hg (by omega), hk, s.y.other hg (by omega), s.p.other hg (by omega), s.q.other hg (by omega), s.nd, s.ge, grown_belowR s.below hg (by omega)⟩
theorem S6.on4 {z5 : Bool} (s : S6 w0 sa sb g1 h1 g2 h2 g3 h3 a b P b1 b2 b3 b4 b5 b6 w) (hg : w.grownBy w' (some h2)) (hk : Wk w' h2 P z5 38) : S6 w0 sa sb g1 h1 g2 h2 g3 h3 a b P b1 b2 b3 z5 b5 b6 w' := by
  have nd := s.nd
  simp only [List.nodup_cons, List.mem_cons, List.not_mem_nil, or_false, not_or, not_false_eq_true, List.nodup_nil, and_true] at nd
  obtain ⟨⟨_, _, _, _, _, _, _⟩, ⟨_, _, _, _, _, _⟩, ⟨_, _, _, _, _⟩, ⟨_, _, _, _⟩, ⟨_, _, _⟩, ⟨_, _⟩, _⟩ := nd
  have ge := s.ge
  exact ⟨s.xa.grown hg (by omega), s.xb.grown hg (by omega), ⟨s.y.arr s.oa.1 hg, s.y.arr s.oa.2 hg⟩, ⟨s.y.arr s.ob.1 hg, s.y.arr s.ob.2 hg⟩, s.y.tz s.tz hg, s.v.other hg (by omega), s.r.other hg (by omega), s.x.other hg (by omega), hk, s.p.other hg (by omega), s.q.other hg (by omega), s.nd, s.ge, grown_belowR s.below hg (by omega)⟩
theorem S6.on5 {z5 : Bool} (s : S6 w0 sa sb g1 h1 g2 h2 g3 h3 a b P b1 b2 b3 b4 b5 b6 w) (hg : w.grownBy w' (some g3)) (hk : Wk w' g3 P z5 37) : S6 w0 sa sb g1 h1 g2 h2 g3 h3 a b P b1 b2 b3 b4 z5 b6 w' := by
  have nd := s.nd
  simp only [List.nodup_cons, List.mem_cons, List.not_mem_nil, or_false, not_or, not_false_eq_true, List.nodup_nil, and_true] at nd
  obtain ⟨⟨_, _, _, _, _, _, _⟩, ⟨_, _, _, _, _, _⟩, ⟨_, _, _, _, _⟩, ⟨_, _, _, _⟩, ⟨_, _, _⟩, ⟨_, _⟩, _⟩ := nd
  have ge := s.ge
  exact ⟨s.xa.grown hg (by omega), s.xb.grown hg (by omega), ⟨s.p.arr s.oa.1 hg, s.p.arr s.oa.2 hg⟩, ⟨s.p.arr s.ob.1 hg, s.p.arr s.ob.2 hg⟩, s.p.tz s.tz hg, s.v.other hg (by omega), s.r.other hg (by omega), s.x.other hg (by omega), s.y.other hg (by omega), hk, s.q.other hg (by omega), s.nd, s.ge, grown_belowR s.below hg (by omega)⟩
theorem S6.on6 {z5 : Bool} (s : S6 w0 sa sb g1 h1 g2 h2 g3 h3 a b P b1 b2 b3 b4 b5 b6 w) (hg : w.grownBy w' (some h3)) (hk : Wk w' h3 P z5 38) : S6 w0 sa sb g1 h1 g2 h2 g3 h3 a b P b1 b2 b3 b4 b5 z5 w' := by
  have nd := s.nd
  simp only [List.nodup_cons, List.mem_cons, List.not_mem_nil, or_false, not_or, not_false_eq_true, List.nodup_nil, and_true] at nd
  obtain ⟨⟨_, _, _, _, _, _, _⟩, ⟨_, _, _, _, _, _⟩, ⟨_, _, _, _, _⟩, ⟨_, _, _, _⟩, ⟨_, _, _⟩, ⟨_, _⟩, _⟩ := nd
  have ge := s.ge
  exact ⟨s.xa.grown hg (by omega), s.xb.grown hg (by omega), ⟨s.q.arr s.oa.1 hg, s.q.arr s.oa.2 hg⟩, ⟨s.q.arr s.ob.1 hg, s.q.arr s.ob.2 hg⟩, s.q.tz s.tz hg, s.v.other hg (by omega), s.r.other hg (by omega), s.x.other hg (by omega), s.y.other hg (by omega), s.p.other hg (by omega), hk, s.nd, s.ge, grown_belowR s.below hg (by omega)⟩
end
section
variable {w0 : World} {sa sb g1 h1 g2 h2 g3 h3 : Nat} {a b : SVal} {P : Int} {bad : Bool}
theorem pair6_1 {FV FR : FuncId} {AV AR : Array Value} {o : Option (Dy × Dy)} (hV : ∀ b2 b3 b4 b5 b6 w', S6 w0 sa sb g1 h1 g2 h2 g3 h3 a b P bad b2 b3 b4 b5 b6 w' → Calls Tryz.prog FV AV w' (RetSp o g1 P 37 w')) (hR : ∀ b1 b3 b4 b5 b6 w', S6 w0 sa sb g1 h1 g2 h2 g3 h3 a b P b1 bad b3 b4 b5 b6 w' → Calls Tryz.prog FR AR w' (RetSp o h1 P 38 w')) :
    ∃ (s t z : Bool) (m1 f1 m2 f2 : Int), (∀ b2 b3 b4 b5 b6 w', S6 w0 sa sb g1 h1 g2 h2 g3 h3 a b P bad b2 b3 b4 b5 b6 w' → Calls Tryz.prog FV AV w' fun r w'' => (∃ X5 n5 c5 Y5 n6 c6, r = .returned (.agg #[.bool (⟨s, m1, f1⟩ : Dy).neg, .slice X5 n5 c5, .int .i64 (⟨s, m1, f1⟩ : Dy).e, .bool (⟨t, m2, f2⟩ : Dy).neg, .slice Y5 n6 c6, .int .i64 (⟨t, m2, f2⟩ : Dy).e]) ∧ Arr w'' X5 n5 c5 (wd (⟨s, m1, f1⟩ : Dy).m) ∧ Arr w'' Y5 n6 c6 (wd (⟨t, m2, f2⟩ : Dy).m) ∧ (S6 w0 sa sb g1 h1 g2 h2 g3 h3 a b P z b2 b3 b4 b5 b6 w'') ∧ ∀ A n c xs, Arr w' A n c xs → Arr w'' A n c xs)) ∧ (∀ b1 b3 b4 b5 b6 w', S6 w0 sa sb g1 h1 g2 h2 g3 h3 a b P b1 bad b3 b4 b5 b6 w' → Calls Tryz.prog FR AR w' fun r w'' => (∃ X5 n5 c5 Y5 n6 c6, r = .returned (.agg #[.bool (⟨s, m1, f1⟩ : Dy).neg, .slice X5 n5 c5, .int .i64 (⟨s, m1, f1⟩ : Dy).e, .bool (⟨t, m2, f2⟩ : Dy).neg, .slice Y5 n6 c6, .int .i64 (⟨t, m2, f2⟩ : Dy).e]) ∧ Arr w'' X5 n5 c5 (wd (⟨s, m1, f1⟩ : Dy).m) ∧ Arr w'' Y5 n6 c6 (wd (⟨t, m2, f2⟩ : Dy).m) ∧ (S6 w0 sa sb g1 h1 g2 h2 g3 h3 a b P b1 z b3 b4 b5 b6 w'') ∧ ∀ A n c xs, Arr w' A n c xs → Arr w'' A n c xs)) := by
  refine ⟨(o.getD (Dy.zero, Dy.zero)).1.neg, (o.getD (Dy.zero, Dy.zero)).2.neg, o.isNone, (o.getD (Dy.zero, Dy.zero)).1.m, (o.getD (Dy.zero, Dy.zero)).1.e, (o.getD (Dy.zero, Dy.zero)).2.m, (o.getD (Dy.zero, Dy.zero)).2.e, ?_, ?_⟩
  · intro b2 b3 b4 b5 b6 w' s
    refine (hV b2 b3 b4 b5 b6 w' s).mono ?_
    rintro r w'' ⟨X1, n1, c1, Y1, m1, d1, rfl, x1, y1, hk, hg⟩
    exact ⟨X1, n1, c1, Y1, m1, d1, rfl, x1, y1, s.on1 hg hk, fun A n c xs ha => s.v.arr ha hg⟩
  · intro b1 b3 b4 b5 b6 w' s
    refine (hR b1 b3 b4 b5 b6 w' s).mono ?_
    rintro r w'' ⟨X1, n1, c1, Y1, m1, d1, rfl, x1, y1, hk, hg⟩
    exact ⟨X1, n1, c1, Y1, m1, d1, rfl, x1, y1, s.on2 hg hk, fun A n c xs ha => s.r.arr ha hg⟩
theorem pair6_2 {FV FR : FuncId} {AV AR : Array Value} {o : Option (Dy × Dy)} (hV : ∀ b1 b2 b4 b5 b6 w', S6 w0 sa sb g1 h1 g2 h2 g3 h3 a b P b1 b2 bad b4 b5 b6 w' → Calls Tryz.prog FV AV w' (RetSp o g2 P 37 w')) (hR : ∀ b1 b2 b3 b5 b6 w', S6 w0 sa sb g1 h1 g2 h2 g3 h3 a b P b1 b2 b3 bad b5 b6 w' → Calls Tryz.prog FR AR w' (RetSp o h2 P 38 w')) :
    ∃ (s t z : Bool) (m1 f1 m2 f2 : Int), (∀ b1 b2 b4 b5 b6 w', S6 w0 sa sb g1 h1 g2 h2 g3 h3 a b P b1 b2 bad b4 b5 b6 w' → Calls Tryz.prog FV AV w' fun r w'' => (∃ X5 n5 c5 Y5 n6 c6, r = .returned (.agg #[.bool (⟨s, m1, f1⟩ : Dy).neg, .slice X5 n5 c5, .int .i64 (⟨s, m1, f1⟩ : Dy).e, .bool (⟨t, m2, f2⟩ : Dy).neg, .slice Y5 n6 c6, .int .i64 (⟨t, m2, f2⟩ : Dy).e]) ∧ Arr w'' X5 n5 c5 (wd (⟨s, m1, f1⟩ : Dy).m) ∧ Arr w'' Y5 n6 c6 (wd (⟨t, m2, f2⟩ : Dy).m) ∧ (S6 w0 sa sb g1 h1 g2 h2 g3 h3 a b P b1 b2 z b4 b5 b6 w'') ∧ ∀ A n c xs, Arr w' A n c xs → Arr w'' A n c xs)) ∧ (∀ b1 b2 b3 b5 b6 w', S6 w0 sa sb g1 h1 g2 h2 g3 h3 a b P b1 b2 b3 bad b5 b6 w' → Calls Tryz.prog FR AR w' fun r w'' => (∃ X5 n5 c5 Y5 n6 c6, r = .returned (.agg #[.bool (⟨s, m1, f1⟩ : Dy).neg, .slice X5 n5 c5, .int .i64 (⟨s, m1, f1⟩ : Dy).e, .bool (⟨t, m2, f2⟩ : Dy).neg, .slice Y5 n6 c6, .int .i64 (⟨t, m2, f2⟩ : Dy).e]) ∧ Arr w'' X5 n5 c5 (wd (⟨s, m1, f1⟩ : Dy).m) ∧ Arr w'' Y5 n6 c6 (wd (⟨t, m2, f2⟩ : Dy).m) ∧ (S6 w0 sa sb g1 h1 g2 h2 g3 h3 a b P b1 b2 b3 z b5 b6 w'') ∧ ∀ A n c xs, Arr w' A n c xs → Arr w'' A n c xs)) := by
  refine ⟨(o.getD (Dy.zero, Dy.zero)).1.neg, (o.getD (Dy.zero, Dy.zero)).2.neg, o.isNone, (o.getD (Dy.zero, Dy.zero)).1.m, (o.getD (Dy.zero, Dy.zero)).1.e, (o.getD (Dy.zero, Dy.zero)).2.m, (o.getD (Dy.zero, Dy.zero)).2.e, ?_, ?_⟩
  · intro b1 b2 b4 b5 b6 w' s
    refine (hV b1 b2 b4 b5 b6 w' s).mono ?_
    rintro r w'' ⟨X1, n1, c1, Y1, m1, d1, rfl, x1, y1, hk, hg⟩
    exact ⟨X1, n1, c1, Y1, m1, d1, rfl, x1, y1, s.on3 hg hk, fun A n c xs ha => s.x.arr ha hg⟩
  · intro b1 b2 b3 b5 b6 w' s
    refine (hR b1 b2 b3 b5 b6 w' s).mono ?_
    rintro r w'' ⟨X1, n1, c1, Y1, m1, d1, rfl, x1, y1, hk, hg⟩
    exact ⟨X1, n1, c1, Y1, m1, d1, rfl, x1, y1, s.on4 hg hk, fun A n c xs ha => s.y.arr ha hg⟩
theorem pair6_3 {FV FR : FuncId} {AV AR : Array Value} {o : Option (Dy × Dy)} (hV : ∀ b1 b2 b3 b4 b6 w', S6 w0 sa sb g1 h1 g2 h2 g3 h3 a b P b1 b2 b3 b4 bad b6 w' → Calls Tryz.prog FV AV w' (RetSp o g3 P 37 w')) (hR : ∀ b1 b2 b3 b4 b5 w', S6 w0 sa sb g1 h1 g2 h2 g3 h3 a b P b1 b2 b3 b4 b5 bad w' → Calls Tryz.prog FR AR w' (RetSp o h3 P 38 w')) :
    ∃ (s t z : Bool) (m1 f1 m2 f2 : Int), (∀ b1 b2 b3 b4 b6 w', S6 w0 sa sb g1 h1 g2 h2 g3 h3 a b P b1 b2 b3 b4 bad b6 w' → Calls Tryz.prog FV AV w' fun r w'' => (∃ X5 n5 c5 Y5 n6 c6, r = .returned (.agg #[.bool (⟨s, m1, f1⟩ : Dy).neg, .slice X5 n5 c5, .int .i64 (⟨s, m1, f1⟩ : Dy).e, .bool (⟨t, m2, f2⟩ : Dy).neg, .slice Y5 n6 c6, .int .i64 (⟨t, m2, f2⟩ : Dy).e]) ∧ Arr w'' X5 n5 c5 (wd (⟨s, m1, f1⟩ : Dy).m) ∧ Arr w'' Y5 n6 c6 (wd (⟨t, m2, f2⟩ : Dy).m) ∧ (S6 w0 sa sb g1 h1 g2 h2 g3 h3 a b P b1 b2 b3 b4 z b6 w'') ∧ ∀ A n c xs, Arr w' A n c xs → Arr w'' A n c xs)) ∧ (∀ b1 b2 b3 b4 b5 w', S6 w0 sa sb g1 h1 g2 h2 g3 h3 a b P b1 b2 b3 b4 b5 bad w' → Calls Tryz.prog FR AR w' fun r w'' => (∃ X5 n5 c5 Y5 n6 c6, r = .returned (.agg #[.bool (⟨s, m1, f1⟩ : Dy).neg, .slice X5 n5 c5, .int .i64 (⟨s, m1, f1⟩ : Dy).e, .bool (⟨t, m2, f2⟩ : Dy).neg, .slice Y5 n6 c6, .int .i64 (⟨t, m2, f2⟩ : Dy).e]) ∧ Arr w'' X5 n5 c5 (wd (⟨s, m1, f1⟩ : Dy).m) ∧ Arr w'' Y5 n6 c6 (wd (⟨t, m2, f2⟩ : Dy).m) ∧ (S6 w0 sa sb g1 h1 g2 h2 g3 h3 a b P b1 b2 b3 b4 b5 z w'') ∧ ∀ A n c xs, Arr w' A n c xs → Arr w'' A n c xs)) := by
  refine ⟨(o.getD (Dy.zero, Dy.zero)).1.neg, (o.getD (Dy.zero, Dy.zero)).2.neg, o.isNone, (o.getD (Dy.zero, Dy.zero)).1.m, (o.getD (Dy.zero, Dy.zero)).1.e, (o.getD (Dy.zero, Dy.zero)).2.m, (o.getD (Dy.zero, Dy.zero)).2.e, ?_, ?_⟩
  · intro b1 b2 b3 b4 b6 w' s
    refine (hV b1 b2 b3 b4 b6 w' s).mono ?_
    rintro r w'' ⟨X1, n1, c1, Y1, m1, d1, rfl, x1, y1, hk, hg⟩
    exact ⟨X1, n1, c1, Y1, m1, d1, rfl, x1, y1, s.on5 hg hk, fun A n c xs ha => s.p.arr ha hg⟩
  · intro b1 b2 b3 b4 b5 w' s
    refine (hR b1 b2 b3 b4 b5 w' s).mono ?_
    rintro r w'' ⟨X1, n1, c1, Y1, m1, d1, rfl, x1, y1, hk, hg⟩
    exact ⟨X1, n1, c1, Y1, m1, d1, rfl, x1, y1, s.on6 hg hk, fun A n c xs ha => s.q.arr ha hg⟩
end
end Go.Proofs.YteffemhapnbaeaaGreatDoor
namespace Go.Proofs.YteffemhapnbaeaaGreatDoor
open Go.RowKit Num
set_option linter.unusedSimpArgs false
set_option linter.unusedVariables false
set_option maxRecDepth 100000

theorem take_all {bad : Bool} {P : Int} {p q s t : Bool} {A A' B B' : Option Addr} {n c n' c' m k m' k' : Nat} {xs ys us vs : List Int} {e f i j : Int} (hx : Wf xs) (hy : Wf ys) (hu : Wf us) (hv : Wf vs) (hP : P ≤ 500 ∨ 8192 < P) (h : takeB bad P [(⟨p, A, n, c, xs, e, q, A', n', c', ys, f⟩ : SVal), (⟨s, B, m, k, us, i, t, B', m', k', vs, j⟩ : SVal)] = false) :
    PlD (⟨p, val xs, e⟩ : Dy) ∧ PlD (⟨q, val ys, f⟩ : Dy) ∧ PlD (⟨s, val us, i⟩ : Dy) ∧ PlD (⟨t, val vs, j⟩ : Dy) ∧ 1 ≤ P ∧ P ≤ 500 := by
  obtain ⟨p1, p2, p3, p4⟩ := take_plain h
  obtain ⟨q1, q2⟩ := take_prec h
  exact ⟨PlD.of hx p1, PlD.of hy p2, PlD.of hu p3, PlD.of hv p4, q1, by omega⟩
theorem pl_len {p : Bool} {xs : List Int} {e : Int} (hw : Wf xs) (hl : xs.length ≤ 20) : (wd (val xs)).length ≤ 20 := by
  refine wd_length_le (val_nonneg hw) ?_
  exact Int.lt_of_lt_of_le (val_lt hw) (B_pow_le hl)
section
variable {w0 : World} {sa sb g1 h1 g2 h2 g3 h3 : Nat} {p q s t : Bool} {A A' B B' : Option Addr} {n c n' c' m k m' k' : Nat} {xs ys us vs : List Int} {e f i j P : Int} {bad : Bool}
theorem case_add (hx : Wf xs) (hy : Wf ys) (hu : Wf us) (hv : Wf vs) (hn : xs.length ≤ 20) (hn' : ys.length ≤ 20) (hm : us.length ≤ 20) (hm' : vs.length ≤ 20) (e0 : -20000 ≤ e ∧ e ≤ 20000) (f0 : -20000 ≤ f ∧ f ≤ 20000) (i0 : -20000 ≤ i ∧ i ≤ 20000) (j0 : -20000 ≤ j ∧ j ≤ 20000) (hP : P ≤ 500 ∨ 8192 < P) : ∃ (s1 t1 z : Bool) (m1 f1 m2 f2 : Int), (∀ b2 b3 b4 b5 b6 w', S6 w0 sa sb g1 h1 g2 h2 g3 h3 (⟨p, A, n, c, xs, e, q, A', n', c', ys, f⟩ : SVal) (⟨s, B, m, k, us, i, t, B', m', k', vs, j⟩ : SVal) P bad b2 b3 b4 b5 b6 w' → Calls Tryz.prog 12 #[.pointer (some ⟨g1, 0, none⟩), (.agg #[.bool p, .slice A n c, .int .i64 e, .bool q, .slice A' n' c', .int .i64 f]), (.agg #[.bool s, .slice B m k, .int .i64 i, .bool t, .slice B' m' k', .int .i64 j])] w' fun r w'' => (∃ X5 n5 c5 Y5 n6 c6, r = .returned (.agg #[.bool (⟨s1, m1, f1⟩ : Dy).neg, .slice X5 n5 c5, .int .i64 (⟨s1, m1, f1⟩ : Dy).e, .bool (⟨t1, m2, f2⟩ : Dy).neg, .slice Y5 n6 c6, .int .i64 (⟨t1, m2, f2⟩ : Dy).e]) ∧ Arr w'' X5 n5 c5 (wd (⟨s1, m1, f1⟩ : Dy).m) ∧ Arr w'' Y5 n6 c6 (wd (⟨t1, m2, f2⟩ : Dy).m) ∧ (S6 w0 sa sb g1 h1 g2 h2 g3 h3 (⟨p, A, n, c, xs, e, q, A', n', c', ys, f⟩ : SVal) (⟨s, B, m, k, us, i, t, B', m', k', vs, j⟩ : SVal) P z b2 b3 b4 b5 b6 w'') ∧ ∀ A n c xs, Arr w' A n c xs → Arr w'' A n c xs)) ∧ (∀ b1 b3 b4 b5 b6 w', S6 w0 sa sb g1 h1 g2 h2 g3 h3 (⟨p, A, n, c, xs, e, q, A', n', c', ys, f⟩ : SVal) (⟨s, B, m, k, us, i, t, B', m', k', vs, j⟩ : SVal) P b1 bad b3 b4 b5 b6 w' → Calls Tryz.prog 13 #[.pointer (some ⟨h1, 0, none⟩), (.agg #[.bool p, .slice A n c, .int .i64 e, .bool q, .slice A' n' c', .int .i64 f]), (.agg #[.bool s, .slice B m k, .int .i64 i, .bool t, .slice B' m' k', .int .i64 j])] w' fun r w'' => (∃ X5 n5 c5 Y5 n6 c6, r = .returned (.agg #[.bool (⟨s1, m1, f1⟩ : Dy).neg, .slice X5 n5 c5, .int .i64 (⟨s1, m1, f1⟩ : Dy).e, .bool (⟨t1, m2, f2⟩ : Dy).neg, .slice Y5 n6 c6, .int .i64 (⟨t1, m2, f2⟩ : Dy).e]) ∧ Arr w'' X5 n5 c5 (wd (⟨s1, m1, f1⟩ : Dy).m) ∧ Arr w'' Y5 n6 c6 (wd (⟨t1, m2, f2⟩ : Dy).m) ∧ (S6 w0 sa sb g1 h1 g2 h2 g3 h3 (⟨p, A, n, c, xs, e, q, A', n', c', ys, f⟩ : SVal) (⟨s, B, m, k, us, i, t, B', m', k', vs, j⟩ : SVal) P b1 z b3 b4 b5 b6 w'') ∧ ∀ A n c xs, Arr w' A n c xs → Arr w'' A n c xs)) := by
  have key : ∃ D E, takeB bad P [(⟨p, A, n, c, xs, e, q, A', n', c', ys, f⟩ : SVal), (⟨s, B, m, k, us, i, t, B', m', k', vs, j⟩ : SVal)] = false → (sumO P false (⟨p, val xs, e⟩ : Dy) (⟨s, val us, i⟩ : Dy) = some D ∧ sumO P true (⟨q, val ys, f⟩ : Dy) (⟨t, val vs, j⟩ : Dy) = some E) ∧ bothO P false (⟨p, val xs, e⟩ : Dy) (⟨s, val us, i⟩ : Dy) = some D ∧ bothO P true (⟨q, val ys, f⟩ : Dy) (⟨t, val vs, j⟩ : Dy) = some E := by
    cases hT : takeB bad P [(⟨p, A, n, c, xs, e, q, A', n', c', ys, f⟩ : SVal), (⟨s, B, m, k, us, i, t, B', m', k', vs, j⟩ : SVal)]
    · obtain ⟨l1, l2, l3, l4, q1, q2⟩ := take_all hx hy hu hv hP hT
      obtain ⟨D, d1, d2⟩ := sum_both (up := false) l1 l3 (pl_len (p := p) (e := e) hx hn) (pl_len (p := s) (e := i) hu hm) e0.1 e0.2 i0.1 i0.2 q1 q2
      obtain ⟨E, d3, d4⟩ := sum_both (up := true) l2 l4 (pl_len (p := q) (e := f) hy hn') (pl_len (p := t) (e := j) hv hm') f0.1 f0.2 j0.1 j0.2 q1 q2
      exact ⟨D, E, fun _ => ⟨⟨d1, d3⟩, d2, d4⟩⟩
    · exact ⟨Dy.zero, Dy.zero, fun h => by cases h⟩
  obtain ⟨D, E, hDE⟩ := key
  have ho : twoO (takeB bad P [(⟨p, A, n, c, xs, e, q, A', n', c', ys, f⟩ : SVal), (⟨s, B, m, k, us, i, t, B', m', k', vs, j⟩ : SVal)]) (bothO P false (⟨p, val xs, e⟩ : Dy) (⟨s, val us, i⟩ : Dy)) (bothO P true (⟨q, val ys, f⟩ : Dy) (⟨t, val vs, j⟩ : Dy)) = if takeB bad P [(⟨p, A, n, c, xs, e, q, A', n', c', ys, f⟩ : SVal), (⟨s, B, m, k, us, i, t, B', m', k', vs, j⟩ : SVal)] = false then some (D, E) else none := by
    cases hT : takeB bad P [(⟨p, A, n, c, xs, e, q, A', n', c', ys, f⟩ : SVal), (⟨s, B, m, k, us, i, t, B', m', k', vs, j⟩ : SVal)]
    · obtain ⟨-, d2, d4⟩ := hDE hT
      rw [d2, d4, if_pos rfl]; rfl
    · rw [if_neg (by decide)]; rfl
  refine pair6_1 (o := if takeB bad P [(⟨p, A, n, c, xs, e, q, A', n', c', ys, f⟩ : SVal), (⟨s, B, m, k, us, i, t, B', m', k', vs, j⟩ : SVal)] = false then some (D, E) else none) (fun b2 b3 b4 b5 b6 w' s6 => ?_) (fun b1 b3 b4 b5 b6 w' s6 => ?_)
  · exact spadd p q s t A A' B B' n c n' c' m k m' k' xs ys us vs e f i j P g1 bad w' D E s6.oa.1 s6.oa.2 s6.ob.1 s6.ob.2 s6.tz s6.v (fun h => (hDE h).1)
  · have a1 : Arr w' A n c xs := s6.oa.1
    have a2 : Arr w' A' n' c' ys := s6.oa.2
    have a3 : Arr w' B m k us := s6.ob.1
    have a4 : Arr w' B' m' k' vs := s6.ob.2
    rw [← ho]
    exact radd03 p q s t A A' B B' n c n' c' m k m' k' xs ys us vs e f i j P h1 bad w' a1 a2 a3 a4 s6.r (by have := a1.len; omega) (by have := a2.len; omega) (by have := a3.len; omega) (by have := a4.len; omega) ⟨by omega, by omega⟩ ⟨by omega, by omega⟩ ⟨by omega, by omega⟩ ⟨by omega, by omega⟩
theorem case_sub (hx : Wf xs) (hy : Wf ys) (hu : Wf us) (hv : Wf vs) (hn : xs.length ≤ 20) (hn' : ys.length ≤ 20) (hm : us.length ≤ 20) (hm' : vs.length ≤ 20) (e0 : -20000 ≤ e ∧ e ≤ 20000) (f0 : -20000 ≤ f ∧ f ≤ 20000) (i0 : -20000 ≤ i ∧ i ≤ 20000) (j0 : -20000 ≤ j ∧ j ≤ 20000) (hP : P ≤ 500 ∨ 8192 < P) : ∃ (s1 t1 z : Bool) (m1 f1 m2 f2 : Int), (∀ b1 b2 b4 b5 b6 w', S6 w0 sa sb g1 h1 g2 h2 g3 h3 (⟨p, A, n, c, xs, e, q, A', n', c', ys, f⟩ : SVal) (⟨s, B, m, k, us, i, t, B', m', k', vs, j⟩ : SVal) P b1 b2 bad b4 b5 b6 w' → Calls Tryz.prog 14 #[.pointer (some ⟨g2, 0, none⟩), (.agg #[.bool p, .slice A n c, .int .i64 e, .bool q, .slice A' n' c', .int .i64 f]), (.agg #[.bool s, .slice B m k, .int .i64 i, .bool t, .slice B' m' k', .int .i64 j])] w' fun r w'' => (∃ X5 n5 c5 Y5 n6 c6, r = .returned (.agg #[.bool (⟨s1, m1, f1⟩ : Dy).neg, .slice X5 n5 c5, .int .i64 (⟨s1, m1, f1⟩ : Dy).e, .bool (⟨t1, m2, f2⟩ : Dy).neg, .slice Y5 n6 c6, .int .i64 (⟨t1, m2, f2⟩ : Dy).e]) ∧ Arr w'' X5 n5 c5 (wd (⟨s1, m1, f1⟩ : Dy).m) ∧ Arr w'' Y5 n6 c6 (wd (⟨t1, m2, f2⟩ : Dy).m) ∧ (S6 w0 sa sb g1 h1 g2 h2 g3 h3 (⟨p, A, n, c, xs, e, q, A', n', c', ys, f⟩ : SVal) (⟨s, B, m, k, us, i, t, B', m', k', vs, j⟩ : SVal) P b1 b2 z b4 b5 b6 w'') ∧ ∀ A n c xs, Arr w' A n c xs → Arr w'' A n c xs)) ∧ (∀ b1 b2 b3 b5 b6 w', S6 w0 sa sb g1 h1 g2 h2 g3 h3 (⟨p, A, n, c, xs, e, q, A', n', c', ys, f⟩ : SVal) (⟨s, B, m, k, us, i, t, B', m', k', vs, j⟩ : SVal) P b1 b2 b3 bad b5 b6 w' → Calls Tryz.prog 15 #[.pointer (some ⟨h2, 0, none⟩), (.agg #[.bool p, .slice A n c, .int .i64 e, .bool q, .slice A' n' c', .int .i64 f]), (.agg #[.bool s, .slice B m k, .int .i64 i, .bool t, .slice B' m' k', .int .i64 j])] w' fun r w'' => (∃ X5 n5 c5 Y5 n6 c6, r = .returned (.agg #[.bool (⟨s1, m1, f1⟩ : Dy).neg, .slice X5 n5 c5, .int .i64 (⟨s1, m1, f1⟩ : Dy).e, .bool (⟨t1, m2, f2⟩ : Dy).neg, .slice Y5 n6 c6, .int .i64 (⟨t1, m2, f2⟩ : Dy).e]) ∧ Arr w'' X5 n5 c5 (wd (⟨s1, m1, f1⟩ : Dy).m) ∧ Arr w'' Y5 n6 c6 (wd (⟨t1, m2, f2⟩ : Dy).m) ∧ (S6 w0 sa sb g1 h1 g2 h2 g3 h3 (⟨p, A, n, c, xs, e, q, A', n', c', ys, f⟩ : SVal) (⟨s, B, m, k, us, i, t, B', m', k', vs, j⟩ : SVal) P b1 b2 b3 z b5 b6 w'') ∧ ∀ A n c xs, Arr w' A n c xs → Arr w'' A n c xs)) := by
  have key : ∃ D E, takeB bad P [(⟨p, A, n, c, xs, e, q, A', n', c', ys, f⟩ : SVal), (⟨s, B, m, k, us, i, t, B', m', k', vs, j⟩ : SVal)] = false → (sumO P false (⟨p, val xs, e⟩ : Dy) (negY (⟨t, val vs, j⟩ : Dy)) = some D ∧ sumO P true (⟨q, val ys, f⟩ : Dy) (negY (⟨s, val us, i⟩ : Dy)) = some E) ∧ bothO P false (⟨p, val xs, e⟩ : Dy) (negY (⟨t, val vs, j⟩ : Dy)) = some D ∧ bothO P true (⟨q, val ys, f⟩ : Dy) (negY (⟨s, val us, i⟩ : Dy)) = some E := by
    cases hT : takeB bad P [(⟨p, A, n, c, xs, e, q, A', n', c', ys, f⟩ : SVal), (⟨s, B, m, k, us, i, t, B', m', k', vs, j⟩ : SVal)]
    · obtain ⟨l1, l2, l3, l4, q1, q2⟩ := take_all hx hy hu hv hP hT
      obtain ⟨D, d1, d2⟩ := sum_both (up := false) l1 l4.neg (pl_len (p := p) (e := e) hx hn) (pl_len (p := t) (e := j) hv hm') e0.1 e0.2 j0.1 j0.2 q1 q2
      obtain ⟨E, d3, d4⟩ := sum_both (up := true) l2 l3.neg (pl_len (p := q) (e := f) hy hn') (pl_len (p := s) (e := i) hu hm) f0.1 f0.2 i0.1 i0.2 q1 q2
      exact ⟨D, E, fun _ => ⟨⟨d1, d3⟩, d2, d4⟩⟩
    · exact ⟨Dy.zero, Dy.zero, fun h => by cases h⟩
  obtain ⟨D, E, hDE⟩ := key
  have ho : twoO (takeB bad P [(⟨p, A, n, c, xs, e, q, A', n', c', ys, f⟩ : SVal), (⟨s, B, m, k, us, i, t, B', m', k', vs, j⟩ : SVal)]) (bothO P false (⟨p, val xs, e⟩ : Dy) (negY (⟨t, val vs, j⟩ : Dy))) (bothO P true (⟨q, val ys, f⟩ : Dy) (negY (⟨s, val us, i⟩ : Dy))) = if takeB bad P [(⟨p, A, n, c, xs, e, q, A', n', c', ys, f⟩ : SVal), (⟨s, B, m, k, us, i, t, B', m', k', vs, j⟩ : SVal)] = false then some (D, E) else none := by
    cases hT : takeB bad P [(⟨p, A, n, c, xs, e, q, A', n', c', ys, f⟩ : SVal), (⟨s, B, m, k, us, i, t, B', m', k', vs, j⟩ : SVal)]
    · obtain ⟨-, d2, d4⟩ := hDE hT
      rw [d2, d4, if_pos rfl]; rfl
    · rw [if_neg (by decide)]; rfl
  refine pair6_2 (o := if takeB bad P [(⟨p, A, n, c, xs, e, q, A', n', c', ys, f⟩ : SVal), (⟨s, B, m, k, us, i, t, B', m', k', vs, j⟩ : SVal)] = false then some (D, E) else none) (fun b1 b2 b4 b5 b6 w' s6 => ?_) (fun b1 b2 b3 b5 b6 w' s6 => ?_)
  · exact spsub p q s t A A' B B' n c n' c' m k m' k' xs ys us vs e f i j P g2 bad w' D E s6.oa.1 s6.oa.2 s6.ob.1 s6.ob.2 s6.tz s6.x (fun h => (hDE h).1)
  · have a1 : Arr w' A n c xs := s6.oa.1
    have a2 : Arr w' A' n' c' ys := s6.oa.2
    have a3 : Arr w' B m k us := s6.ob.1
    have a4 : Arr w' B' m' k' vs := s6.ob.2
    rw [← ho]
    exact rsub03 p q s t A A' B B' n c n' c' m k m' k' xs ys us vs e f i j P h2 bad w' a1 a2 a3 a4 s6.y (by have := a1.len; omega) (by have := a2.len; omega) (by have := a3.len; omega) (by have := a4.len; omega) ⟨by omega, by omega⟩ ⟨by omega, by omega⟩ ⟨by omega, by omega⟩ ⟨by omega, by omega⟩
theorem case_mul (hx : Wf xs) (hy : Wf ys) (hu : Wf us) (hv : Wf vs) (hn : xs.length ≤ 20) (hn' : ys.length ≤ 20) (hm : us.length ≤ 20) (hm' : vs.length ≤ 20) (e0 : -20000 ≤ e ∧ e ≤ 20000) (f0 : -20000 ≤ f ∧ f ≤ 20000) (i0 : -20000 ≤ i ∧ i ≤ 20000) (j0 : -20000 ≤ j ∧ j ≤ 20000) (hP : P ≤ 500 ∨ 8192 < P) : ∃ (s1 t1 z : Bool) (m1 f1 m2 f2 : Int), (∀ b1 b2 b3 b4 b6 w', S6 w0 sa sb g1 h1 g2 h2 g3 h3 (⟨p, A, n, c, xs, e, q, A', n', c', ys, f⟩ : SVal) (⟨s, B, m, k, us, i, t, B', m', k', vs, j⟩ : SVal) P b1 b2 b3 b4 bad b6 w' → Calls Tryz.prog 16 #[.pointer (some ⟨g3, 0, none⟩), (.agg #[.bool p, .slice A n c, .int .i64 e, .bool q, .slice A' n' c', .int .i64 f]), (.agg #[.bool s, .slice B m k, .int .i64 i, .bool t, .slice B' m' k', .int .i64 j])] w' fun r w'' => (∃ X5 n5 c5 Y5 n6 c6, r = .returned (.agg #[.bool (⟨s1, m1, f1⟩ : Dy).neg, .slice X5 n5 c5, .int .i64 (⟨s1, m1, f1⟩ : Dy).e, .bool (⟨t1, m2, f2⟩ : Dy).neg, .slice Y5 n6 c6, .int .i64 (⟨t1, m2, f2⟩ : Dy).e]) ∧ Arr w'' X5 n5 c5 (wd (⟨s1, m1, f1⟩ : Dy).m) ∧ Arr w'' Y5 n6 c6 (wd (⟨t1, m2, f2⟩ : Dy).m) ∧ (S6 w0 sa sb g1 h1 g2 h2 g3 h3 (⟨p, A, n, c, xs, e, q, A', n', c', ys, f⟩ : SVal) (⟨s, B, m, k, us, i, t, B', m', k', vs, j⟩ : SVal) P b1 b2 b3 b4 z b6 w'') ∧ ∀ A n c xs, Arr w' A n c xs → Arr w'' A n c xs)) ∧ (∀ b1 b2 b3 b4 b5 w', S6 w0 sa sb g1 h1 g2 h2 g3 h3 (⟨p, A, n, c, xs, e, q, A', n', c', ys, f⟩ : SVal) (⟨s, B, m, k, us, i, t, B', m', k', vs, j⟩ : SVal) P b1 b2 b3 b4 b5 bad w' → Calls Tryz.prog 17 #[.pointer (some ⟨h3, 0, none⟩), (.agg #[.bool p, .slice A n c, .int .i64 e, .bool q, .slice A' n' c', .int .i64 f]), (.agg #[.bool s, .slice B m k, .int .i64 i, .bool t, .slice B' m' k', .int .i64 j])] w' fun r w'' => (∃ X5 n5 c5 Y5 n6 c6, r = .returned (.agg #[.bool (⟨s1, m1, f1⟩ : Dy).neg, .slice X5 n5 c5, .int .i64 (⟨s1, m1, f1⟩ : Dy).e, .bool (⟨t1, m2, f2⟩ : Dy).neg, .slice Y5 n6 c6, .int .i64 (⟨t1, m2, f2⟩ : Dy).e]) ∧ Arr w'' X5 n5 c5 (wd (⟨s1, m1, f1⟩ : Dy).m) ∧ Arr w'' Y5 n6 c6 (wd (⟨t1, m2, f2⟩ : Dy).m) ∧ (S6 w0 sa sb g1 h1 g2 h2 g3 h3 (⟨p, A, n, c, xs, e, q, A', n', c', ys, f⟩ : SVal) (⟨s, B, m, k, us, i, t, B', m', k', vs, j⟩ : SVal) P b1 b2 b3 b4 b5 z w'') ∧ ∀ A n c xs, Arr w' A n c xs → Arr w'' A n c xs)) := by
  have key : ∃ D1 D2 D3 D4, takeB bad P [(⟨p, A, n, c, xs, e, q, A', n', c', ys, f⟩ : SVal), (⟨s, B, m, k, us, i, t, B', m', k', vs, j⟩ : SVal)] = false → mulD p s xs us e i = some D1 ∧ mulD p t xs vs e j = some D2 ∧ mulD q s ys us f i = some D3 ∧ mulD q t ys vs f j = some D4 := by
    cases hT : takeB bad P [(⟨p, A, n, c, xs, e, q, A', n', c', ys, f⟩ : SVal), (⟨s, B, m, k, us, i, t, B', m', k', vs, j⟩ : SVal)]
    · obtain ⟨p1, p2, p3, p4⟩ := take_plain hT
      obtain ⟨D1, d1⟩ := mul_some hx hu p1 p3 hn hm e0.1 e0.2 i0.1 i0.2
      obtain ⟨D2, d2⟩ := mul_some hx hv p1 p4 hn hm' e0.1 e0.2 j0.1 j0.2
      obtain ⟨D3, d3⟩ := mul_some hy hu p2 p3 hn' hm f0.1 f0.2 i0.1 i0.2
      obtain ⟨D4, d4⟩ := mul_some hy hv p2 p4 hn' hm' f0.1 f0.2 j0.1 j0.2
      exact ⟨D1, D2, D3, D4, fun _ => ⟨d1, d2, d3, d4⟩⟩
    · exact ⟨Dy.zero, Dy.zero, Dy.zero, Dy.zero, fun h => by cases h⟩
  obtain ⟨D1, D2, D3, D4, hD⟩ := key
  refine pair6_3 (o := if takeB bad P [(⟨p, A, n, c, xs, e, q, A', n', c', ys, f⟩ : SVal), (⟨s, B, m, k, us, i, t, B', m', k', vs, j⟩ : SVal)] = false then mulO P D1 D2 D3 D4 else none) (fun b1 b2 b3 b4 b6 w' s6 => ?_) (fun b1 b2 b3 b4 b5 w' s6 => ?_)
  · exact spmul p q s t A A' B B' n c n' c' m k m' k' xs ys us vs e f i j P g3 bad D1 D2 D3 D4 w' s6.oa.1 s6.oa.2 s6.ob.1 s6.ob.2 s6.tz s6.p hD
  · have a1 : Arr w' A n c xs := s6.oa.1
    have a2 : Arr w' A' n' c' ys := s6.oa.2
    have a3 : Arr w' B m k us := s6.ob.1
    have a4 : Arr w' B' m' k' vs := s6.ob.2
    exact rmul03 p q s t A A' B B' n c n' c' m k m' k' xs ys us vs e f i j P h3 bad D1 D2 D3 D4 w' a1 a2 a3 a4 s6.q (by have := a1.len; omega) (by have := a2.len; omega) (by have := a3.len; omega) (by have := a4.len; omega) hD
end
end Go.Proofs.YteffemhapnbaeaaGreatDoor
