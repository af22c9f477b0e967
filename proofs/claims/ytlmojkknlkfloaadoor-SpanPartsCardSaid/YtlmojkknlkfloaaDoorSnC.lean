/- A work: give, Fail, take. -/
import Derived.Test.YtlmojkknlkfloaaDoorSnB
namespace Go.Proofs.YtlmojkknlkfloaaDoor
open Go.RowKit Num
set_option linter.unusedSimpArgs false
set_option linter.unusedVariables false
set_option maxRecDepth 100000

theorem wp_put6 {ops : Array Oper} {rest : List Oper} {o : Oper} {a : Act} {w : World} {Q : Exit → Act → World → Prop} (hgd : o.guard = none) (x y : Operand) (ho : o.op = .store 41 x y)
    (hd : o.dst = none) (g : Nat) (p : Bool) (A : Option Addr) (n c : Nat) (e : Int) (q : Bool) (A' : Option Addr) (n' c' : Nat) (f : Int) {v0 v1 v2 v3 v4 v5 : Value} {t : TypeId} (hb : Box w g #[v0, v1, v2, v3, v4, v5] t) (hx : a.eval x = .pointer (some ⟨g, 0, none⟩)) (hy : a.eval y = (.agg #[.bool p, .slice A n c, .int .i64 e, .bool q, .slice A' n' c', .int .i64 f]))
    (h : ∀ W', Box W' g #[.bool p, .slice A n c, .int .i64 e, .bool q, .slice A' n' c', .int .i64 f] t → w.grownBy W' (some g) → wpList Tryd.prog ops Q rest a W') : wpList Tryd.prog ops Q (o :: rest) a w :=
  wp_put hgd _ x y ho hd g _ hb hx hy (by kernel_rfl) rfl (by simp [Value.oneCell']) h
theorem no6 {a b c d e f : Value} (ha : ∀ x, a ≠ Value.int .u64 x) (hb : ∀ x, b ≠ Value.int .u64 x) (hc : ∀ x, c ≠ Value.int .u64 x) (hd : ∀ x, d ≠ Value.int .u64 x) (he : ∀ x, e ≠ Value.int .u64 x) (hf : ∀ x, f ≠ Value.int .u64 x) : ∀ (i : Nat) (x : Int), (#[a, b, c, d, e, f] : Array Value)[i]? ≠ some (Value.int .u64 x)
  | 0, x => by simpa using ha x
  | 1, x => by simpa using hb x
  | 2, x => by simpa using hc x
  | 3, x => by simpa using hd x
  | 4, x => by simpa using he x
  | 5, x => by simpa using hf x
  | i + 6, x => by simp
theorem give_ok (g : Nat) (P : Int) (p q : Bool) (A A' : Option Addr) (n c n' c' : Nat) (e f : Int) (w : World) (hk : Wk w g P false 64) :
    Calls Tryd.prog 88 #[.pointer (some ⟨g, 0, none⟩), .agg #[.bool p, .slice A n c, .int .i64 e], .agg #[.bool q, .slice A' n' c', .int .i64 f]] w fun r w' => r = .returned (.agg #[.bool p, .slice A n c, .int .i64 e, .bool q, .slice A' n' c', .int .i64 f]) ∧ Below w.heap.size w w' := by
  have b1 := below_alloc (below_self w) (.cells #[.bool p, .slice A n c, .int .i64 e] 24)
  have b2 := below_alloc b1 (.cells #[.bool q, .slice A' n' c', .int .i64 f] 24)
  have b0 : Below w.heap.size w (((w.alloc (.cells #[.bool p, .slice A n c, .int .i64 e] 24)).alloc (.cells #[.bool q, .slice A' n' c', .int .i64 f] 24)).alloc (.cells #[.bool false, .slice none 0 0, .int .i64 0, .bool false, .slice none 0 0, .int .i64 0] 41)) := below_alloc b2 _
  have xa := (box_new w #[.bool p, .slice A n c, .int .i64 e] 24).later (below_alloc (below_alloc (below_self _) (.cells #[.bool q, .slice A' n' c', .int .i64 f] 24)) (.cells #[.bool false, .slice none 0 0, .int .i64 0, .bool false, .slice none 0 0, .int .i64 0] 41))
  have xb := (box_new (w.alloc (.cells #[.bool p, .slice A n c, .int .i64 e] 24)) #[.bool q, .slice A' n' c', .int .i64 f] 24).later (below_alloc (below_self _) (.cells #[.bool false, .slice none 0 0, .int .i64 0, .bool false, .slice none 0 0, .int .i64 0] 41))
  rw [show (w.alloc (.cells #[.bool p, .slice A n c, .int .i64 e] 24)).heap.size = w.heap.size + 1 by simp] at xb
  have xr := box_new ((w.alloc (.cells #[.bool p, .slice A n c, .int .i64 e] 24)).alloc (.cells #[.bool q, .slice A' n' c', .int .i64 f] 24)) #[.bool false, .slice none 0 0, .int .i64 0, .bool false, .slice none 0 0, .int .i64 0] 41
  rw [show ((w.alloc (.cells #[.bool p, .slice A n c, .int .i64 e] 24)).alloc (.cells #[.bool q, .slice A' n' c', .int .i64 f] 24)).heap.size = w.heap.size + 1 + 1 by simp] at xr
  obtain ⟨z0, z1, y0, y1⟩ := (hk.later b0).cells
  obtain ⟨k0, k1, k2, f0, f1, f2⟩ := xa.cell3
  obtain ⟨j0, j1, j2, g0, g1, g2⟩ := xb.cell3
  go_enter Tryd.func88, Tryd.ntmps88
  go_wp2_with (refine wp_put6 rfl _ _ rfl rfl (w.heap.size + 1 + 1) p A n c e q A' n' c' f xr rfl rfl (fun W1 y1 gW1 => ?_); have b0 := below_grownBy b0 gW1 (show w.heap.size ≤ w.heap.size + 1 + 1 by omega); obtain ⟨u0, u1, u2, u3, u4, u5, -⟩ := y1.cell6)
  refine bodyPost_ret (v := (.agg #[.bool p, .slice A n c, .int .i64 e, .bool q, .slice A' n' c', .int .i64 f])) ?_ rfl ⟨rfl, b0⟩
  simp [results, Tryd.results88, go_sem, u0, u1, u2, u3, u4, u5]
theorem give_no (g : Nat) (P : Int) (p q : Bool) (A A' : Option Addr) (n c n' c' : Nat) (e f : Int) (w : World) (hk : Wk w g P true 64) :
    Calls Tryd.prog 88 #[.pointer (some ⟨g, 0, none⟩), .agg #[.bool p, .slice A n c, .int .i64 e], .agg #[.bool q, .slice A' n' c', .int .i64 f]] w fun r w' => r = .returned (.agg #[.bool false, .slice none 0 0, .int .i64 0, .bool false, .slice none 0 0, .int .i64 0]) ∧ Below w.heap.size w w' := by
  have b1 := below_alloc (below_self w) (.cells #[.bool p, .slice A n c, .int .i64 e] 24)
  have b2 := below_alloc b1 (.cells #[.bool q, .slice A' n' c', .int .i64 f] 24)
  have b0 : Below w.heap.size w (((w.alloc (.cells #[.bool p, .slice A n c, .int .i64 e] 24)).alloc (.cells #[.bool q, .slice A' n' c', .int .i64 f] 24)).alloc (.cells #[.bool false, .slice none 0 0, .int .i64 0, .bool false, .slice none 0 0, .int .i64 0] 41)) := below_alloc b2 _
  have xr := box_new ((w.alloc (.cells #[.bool p, .slice A n c, .int .i64 e] 24)).alloc (.cells #[.bool q, .slice A' n' c', .int .i64 f] 24)) #[.bool false, .slice none 0 0, .int .i64 0, .bool false, .slice none 0 0, .int .i64 0] 41
  rw [show ((w.alloc (.cells #[.bool p, .slice A n c, .int .i64 e] 24)).alloc (.cells #[.bool q, .slice A' n' c', .int .i64 f] 24)).heap.size = w.heap.size + 1 + 1 by simp] at xr
  obtain ⟨z0, z1, y0, y1⟩ := (hk.later b0).cells
  go_enter Tryd.func88, Tryd.ntmps88
  go_wp2_with (refine wp_put6 rfl _ _ rfl rfl (w.heap.size + 1 + 1) false none 0 0 0 false none 0 0 0 xr rfl rfl (fun W1 y1 gW1 => ?_); have b0 := below_grownBy b0 gW1 (show w.heap.size ≤ w.heap.size + 1 + 1 by omega); obtain ⟨u0, u1, u2, u3, u4, u5, -⟩ := y1.cell6)
  refine bodyPost_ret (v := .agg #[.bool false, .slice none 0 0, .int .i64 0, .bool false, .slice none 0 0, .int .i64 0]) ?_ rfl ⟨rfl, b0⟩
  simp [results, Tryd.results88, go_sem, u0, u1, u2, u3, u4, u5]
theorem spfail (g : Nat) (P : Int) (bad : Bool) (w : World) (hk : Wk w g P bad 64) :
    Calls Tryd.prog 47 #[.pointer (some ⟨g, 0, none⟩)] w fun r w' => r = .returned (.tuple #[]) ∧ Wk w' g P true 64 ∧ w.grownBy w' (some g) := by
  obtain ⟨k0, k1, f0, f1⟩ := hk.cells
  go_enter Tryd.func47, Tryd.ntmps47
  go_wp2_with fail
  go_end0
  exact ⟨rfl, hk.set true, grown_set w g 1 _⟩
theorem spfail_nil (w : World) : Calls Tryd.prog 47 #[.pointer none] w fun r w' => r = .returned (.tuple #[]) ∧ w = w' := by
  go_enter Tryd.func47, Tryd.ntmps47
  go_wp2_with fail
  go_end0
  exact ⟨rfl, rfl⟩
/-- A span as it lies in memory. -/
structure SVal where
  p : Bool
  A : Option Addr
  n : Nat
  c : Nat
  xs : List Int
  e : Int
  q : Bool
  A' : Option Addr
  n' : Nat
  c' : Nat
  ys : List Int
  f : Int
def SVal.ok (s : SVal) (w : World) : Prop := Arr w s.A s.n s.c s.xs ∧ Arr w s.A' s.n' s.c' s.ys
def SVal.right (s : SVal) : Bool := rightS s.p s.q s.xs s.ys s.e s.f
/-- Spans side by side in block h. -/
structure SVs (w : World) (h : Nat) (l : List SVal) : Prop where
  lt : h < w.heap.size
  ok : ∀ j (hj : j < l.length), (l[j]).ok w
  c0 : ∀ j (hj : j < l.length), w.cell? ⟨h, j * 6, none⟩ = some (.bool (l[j]).p)
  c1 : ∀ j (hj : j < l.length), w.cell? ⟨h, j * 6 + 1, none⟩ = some (.slice (l[j]).A (l[j]).n (l[j]).c)
  c2 : ∀ j (hj : j < l.length), w.cell? ⟨h, j * 6 + 2, none⟩ = some (.int .i64 (l[j]).e)
  c3 : ∀ j (hj : j < l.length), w.cell? ⟨h, j * 6 + 3, none⟩ = some (.bool (l[j]).q)
  c4 : ∀ j (hj : j < l.length), w.cell? ⟨h, j * 6 + 4, none⟩ = some (.slice (l[j]).A' (l[j]).n' (l[j]).c')
  c5 : ∀ j (hj : j < l.length), w.cell? ⟨h, j * 6 + 5, none⟩ = some (.int .i64 (l[j]).f)
theorem SVs.grown {w w' : World} {h : Nat} {l : List SVal} {g : Nat} {P : Int} {bad : Bool} {t : TypeId} (s : SVs w h l) (hk : Wk w g P bad t) (hg : w.grownBy w' (some g)) (hne : h ≠ g) : SVs w' h l := by
  have hc : ∀ i, w'.cell? ⟨h, i, none⟩ = w.cell? ⟨h, i, none⟩ := fun i => World.cell?_of_block (hg.block h s.lt (by simpa using hne))
  exact ⟨Nat.lt_of_lt_of_le s.lt hg.size, fun j hj => ⟨hk.arr (s.ok j hj).1 hg, hk.arr (s.ok j hj).2 hg⟩, fun j hj => (hc _).trans (s.c0 j hj), fun j hj => (hc _).trans (s.c1 j hj), fun j hj => (hc _).trans (s.c2 j hj), fun j hj => (hc _).trans (s.c3 j hj), fun j hj => (hc _).trans (s.c4 j hj), fun j hj => (hc _).trans (s.c5 j hj)⟩
def takeB (bad : Bool) (P : Int) (l : List SVal) : Bool := bad || decide (P < 1) || decide (8192 < P) || !(l.all SVal.right)
theorem take_next {b1 T T' rr : Bool} (h : false = (b1 || !T)) (ha : T' = (T && rr)) : (!rr) = (b1 || !T') := by
  subst ha; revert h; cases b1 <;> cases T <;> cases rr <;> decide
theorem take_stay {b1 T T' rr : Bool} (h : true = (b1 || !T)) (ha : T' = (T && rr)) : true = (b1 || !T') := by
  subst ha; revert h; cases b1 <;> cases T <;> cases rr <;> decide
theorem sptake_nil (S : Option Addr) (m cap : Nat) (w : World) : Calls Tryd.prog 87 #[.pointer none, .slice S m cap] w fun r w' => r = .returned (.bool false) ∧ w = w' := by
  go_enter Tryd.func87, Tryd.ntmps87
  go_wp2_with fail
  go_ret
  exact ⟨rfl, rfl⟩
set_option maxHeartbeats 4000000 in
theorem sptake (g h m : Nat) (P : Int) (bad : Bool) (l : List SVal) (hm : l.length = m) (w : World) (hk : Wk w g P bad 64) (hs : SVs w h l) (hne : h ≠ g) (hl : m ≤ 1000000) :
    Calls Tryd.prog 87 #[.pointer (some ⟨g, 0, none⟩), .slice (some ⟨h, 0, none⟩) m m] w fun r w' => r = .returned (.bool (!takeB bad P l)) ∧ Wk w' g P (takeB bad P l) 64 ∧ w.grownBy w' (some g) := by
  subst hm
  obtain ⟨k0, k1, f0, f1⟩ := hk.cells
  obtain ⟨b1, hb1⟩ : ∃ b1, b1 = (bad || decide (P < 1) || decide (8192 < P)) := ⟨_, rfl⟩
  have ht : takeB bad P l = (b1 || !(l.all SVal.right)) := by rw [hb1]; rfl
  rw [ht]
  have hk1 := hk.set b1
  have g1 := grown_set w g 1 (.bool b1)
  have hs1 := hs.grown hk g1 hne
  have HB1 := Lib.hid hb1
  clear ht hb1
  have HA : ∀ i (h : i < l.length), (l.take (i + 1)).all SVal.right = ((l.take i).all SVal.right && (l[i]).right) := fun i h => by
    rw [List.take_add_one, List.getElem?_eq_getElem h, List.all_append]
    simp
  have HA := Lib.hid HA
  have HZ : l.take l.length = l := List.take_length
  have HZ := Lib.hid HZ
  cases bad
  · by_cases p1 : P < 1
    · have d1 : decide (P < 1) = true := decide_eq_true p1
      obtain rfl : b1 = true := by rw [HB1.out, d1]; rfl
      go_enter Tryd.func87, Tryd.ntmps87
      go_wp2_with fail
      (go_loopw [32] (fun v wr => ∃ (i : Nat) (bi : Bool), i ≤ l.length ∧ v = .int .i64 i ∧ Hid (bi = (true || !((l.take i).all SVal.right))) ∧ Wk wr g P bi 64 ∧ w.grownBy wr (some g)) (fun v _ => l.length - (intOf v).toNat); (case atStart => exact ⟨0, true, Nat.zero_le _, rfl, by show true = _; simp, hk1, g1⟩); (case round => obtain ⟨i, bi, hi, rfl, hB, hkr, hW⟩ := hrel; have hkc := hkr; obtain ⟨k0, k1, f0, f1⟩ := hkc.cells; by_cases h0 : i < l.length; (have hsr := hs.grown hk hW hne; have q0 := hsr.c0 i h0; have q1 := hsr.c1 i h0; have q2 := hsr.c2 i h0; have q3 := hsr.c3 i h0; have q4 := hsr.c4 i h0; have q5 := hsr.c5 i h0; obtain ⟨hA, hA'⟩ := hsr.ok i h0; have ha := HA.out i h0; generalize hx : l[i] = x at *; obtain ⟨p, A, n, c, xs, e, q, A', n', c', ys, f⟩ := x; simp only at q0 q1 q2 q3 q4 q5 hA hA'; have hb0 := below_alloc (below_self wr) (.cells #[.bool p, .slice A n c, .int .i64 e, .bool q, .slice A' n' c', .int .i64 f] 41); have bx := box_new wr #[.bool p, .slice A n c, .int .i64 e, .bool q, .slice A' n' c', .int .i64 f] 41; have hr : (SVal.mk p A n c xs e q A' n' c' ys f).right = rightS p q xs ys e f := rfl; rw [hr] at ha; obtain ⟨v0, v1, t0, t1⟩ := (hkr.later hb0).cells; have RT := Lib.hid (spright p q A A' n c n' c' xs ys e f _ (hA.below hb0) (hA'.below hb0)); generalize rightS p q xs ys e f = rr at *; have HA1 := Lib.hid ha; clear ha hr hx hsr; cases bi; (go_wp2_with fail; refine RT.out.mono ?_; rintro r w4 ⟨rfl, hb4⟩; have hk4 := (hkr.later hb0).later hb4; have g4 := grown_on (grown_on hW hb0) hb4; obtain ⟨z0, z1, y0, y1⟩ := hk4.cells; clear k0 k1 f0 f1 v0 v1 t0 t1; go_wp2_with fail; exact ⟨⟨i + 1, !rr, by omega, by go_num, (take_next hB.out HA1.out), hk4.set _, grown_trans g4 (grown_set _ g 1 _)⟩, by simp only [intOf]; omega⟩); (go_wp2_with fail; exact ⟨⟨i + 1, true, by omega, by go_num, (take_stay hB.out HA1.out), (by first | exact (hkr.set true).later (below_alloc (below_self _) _) | exact (hkr.later hb0).set true), (by first | exact grown_on (grown_trans hW (grown_set _ g 1 _)) (below_alloc (below_self _) _) | exact grown_trans (grown_on hW hb0) (grown_set _ g 1 _))⟩, by simp only [intOf]; omega⟩)); (obtain rfl : i = l.length := (by omega); have e1 := hB.out; rw [HZ.out] at e1; have E1 := Lib.hid e1; clear e1; go_wp2_with fail; go_ret; rw [← E1.out]; exact ⟨rfl, hkr, hW⟩)))
    · have d1 : decide (P < 1) = false := decide_eq_false p1
      by_cases p2 : 8192 < P
      · have d2 : decide (P > 8192) = true := decide_eq_true p2
        have d3 : decide (8192 < P) = true := decide_eq_true p2
        obtain rfl : b1 = true := by rw [HB1.out, d1, d3]; rfl
        go_enter Tryd.func87, Tryd.ntmps87
        go_wp2_with fail
        (go_loopw [32] (fun v wr => ∃ (i : Nat) (bi : Bool), i ≤ l.length ∧ v = .int .i64 i ∧ Hid (bi = (true || !((l.take i).all SVal.right))) ∧ Wk wr g P bi 64 ∧ w.grownBy wr (some g)) (fun v _ => l.length - (intOf v).toNat); (case atStart => exact ⟨0, true, Nat.zero_le _, rfl, by show true = _; simp, hk1, g1⟩); (case round => obtain ⟨i, bi, hi, rfl, hB, hkr, hW⟩ := hrel; have hkc := hkr; obtain ⟨k0, k1, f0, f1⟩ := hkc.cells; by_cases h0 : i < l.length; (have hsr := hs.grown hk hW hne; have q0 := hsr.c0 i h0; have q1 := hsr.c1 i h0; have q2 := hsr.c2 i h0; have q3 := hsr.c3 i h0; have q4 := hsr.c4 i h0; have q5 := hsr.c5 i h0; obtain ⟨hA, hA'⟩ := hsr.ok i h0; have ha := HA.out i h0; generalize hx : l[i] = x at *; obtain ⟨p, A, n, c, xs, e, q, A', n', c', ys, f⟩ := x; simp only at q0 q1 q2 q3 q4 q5 hA hA'; have hb0 := below_alloc (below_self wr) (.cells #[.bool p, .slice A n c, .int .i64 e, .bool q, .slice A' n' c', .int .i64 f] 41); have bx := box_new wr #[.bool p, .slice A n c, .int .i64 e, .bool q, .slice A' n' c', .int .i64 f] 41; have hr : (SVal.mk p A n c xs e q A' n' c' ys f).right = rightS p q xs ys e f := rfl; rw [hr] at ha; obtain ⟨v0, v1, t0, t1⟩ := (hkr.later hb0).cells; have RT := Lib.hid (spright p q A A' n c n' c' xs ys e f _ (hA.below hb0) (hA'.below hb0)); generalize rightS p q xs ys e f = rr at *; have HA1 := Lib.hid ha; clear ha hr hx hsr; cases bi; (go_wp2_with fail; refine RT.out.mono ?_; rintro r w4 ⟨rfl, hb4⟩; have hk4 := (hkr.later hb0).later hb4; have g4 := grown_on (grown_on hW hb0) hb4; obtain ⟨z0, z1, y0, y1⟩ := hk4.cells; clear k0 k1 f0 f1 v0 v1 t0 t1; go_wp2_with fail; exact ⟨⟨i + 1, !rr, by omega, by go_num, (take_next hB.out HA1.out), hk4.set _, grown_trans g4 (grown_set _ g 1 _)⟩, by simp only [intOf]; omega⟩); (go_wp2_with fail; exact ⟨⟨i + 1, true, by omega, by go_num, (take_stay hB.out HA1.out), (by first | exact (hkr.set true).later (below_alloc (below_self _) _) | exact (hkr.later hb0).set true), (by first | exact grown_on (grown_trans hW (grown_set _ g 1 _)) (below_alloc (below_self _) _) | exact grown_trans (grown_on hW hb0) (grown_set _ g 1 _))⟩, by simp only [intOf]; omega⟩)); (obtain rfl : i = l.length := (by omega); have e1 := hB.out; rw [HZ.out] at e1; have E1 := Lib.hid e1; clear e1; go_wp2_with fail; go_ret; rw [← E1.out]; exact ⟨rfl, hkr, hW⟩)))
      · have d2 : decide (P > 8192) = false := decide_eq_false p2
        have d3 : decide (8192 < P) = false := decide_eq_false p2
        obtain rfl : b1 = false := by rw [HB1.out, d1, d3]; rfl
        go_enter Tryd.func87, Tryd.ntmps87
        go_wp2_with fail
        (go_loopw [32] (fun v wr => ∃ (i : Nat) (bi : Bool), i ≤ l.length ∧ v = .int .i64 i ∧ Hid (bi = (false || !((l.take i).all SVal.right))) ∧ Wk wr g P bi 64 ∧ w.grownBy wr (some g)) (fun v _ => l.length - (intOf v).toNat); (case atStart => exact ⟨0, false, Nat.zero_le _, rfl, by show false = _; simp, hk1, g1⟩); (case round => obtain ⟨i, bi, hi, rfl, hB, hkr, hW⟩ := hrel; have hkc := hkr; obtain ⟨k0, k1, f0, f1⟩ := hkc.cells; by_cases h0 : i < l.length; (have hsr := hs.grown hk hW hne; have q0 := hsr.c0 i h0; have q1 := hsr.c1 i h0; have q2 := hsr.c2 i h0; have q3 := hsr.c3 i h0; have q4 := hsr.c4 i h0; have q5 := hsr.c5 i h0; obtain ⟨hA, hA'⟩ := hsr.ok i h0; have ha := HA.out i h0; generalize hx : l[i] = x at *; obtain ⟨p, A, n, c, xs, e, q, A', n', c', ys, f⟩ := x; simp only at q0 q1 q2 q3 q4 q5 hA hA'; have hb0 := below_alloc (below_self wr) (.cells #[.bool p, .slice A n c, .int .i64 e, .bool q, .slice A' n' c', .int .i64 f] 41); have bx := box_new wr #[.bool p, .slice A n c, .int .i64 e, .bool q, .slice A' n' c', .int .i64 f] 41; have hr : (SVal.mk p A n c xs e q A' n' c' ys f).right = rightS p q xs ys e f := rfl; rw [hr] at ha; obtain ⟨v0, v1, t0, t1⟩ := (hkr.later hb0).cells; have RT := Lib.hid (spright p q A A' n c n' c' xs ys e f _ (hA.below hb0) (hA'.below hb0)); generalize rightS p q xs ys e f = rr at *; have HA1 := Lib.hid ha; clear ha hr hx hsr; cases bi; (go_wp2_with fail; refine RT.out.mono ?_; rintro r w4 ⟨rfl, hb4⟩; have hk4 := (hkr.later hb0).later hb4; have g4 := grown_on (grown_on hW hb0) hb4; obtain ⟨z0, z1, y0, y1⟩ := hk4.cells; clear k0 k1 f0 f1 v0 v1 t0 t1; go_wp2_with fail; exact ⟨⟨i + 1, !rr, by omega, by go_num, (take_next hB.out HA1.out), hk4.set _, grown_trans g4 (grown_set _ g 1 _)⟩, by simp only [intOf]; omega⟩); (go_wp2_with fail; exact ⟨⟨i + 1, true, by omega, by go_num, (take_stay hB.out HA1.out), (by first | exact (hkr.set true).later (below_alloc (below_self _) _) | exact (hkr.later hb0).set true), (by first | exact grown_on (grown_trans hW (grown_set _ g 1 _)) (below_alloc (below_self _) _) | exact grown_trans (grown_on hW hb0) (grown_set _ g 1 _))⟩, by simp only [intOf]; omega⟩)); (obtain rfl : i = l.length := (by omega); have e1 := hB.out; rw [HZ.out] at e1; have E1 := Lib.hid e1; clear e1; go_wp2_with fail; go_ret; rw [← E1.out]; exact ⟨rfl, hkr, hW⟩)))
  · obtain rfl : b1 = true := by rw [HB1.out]; rfl
    go_enter Tryd.func87, Tryd.ntmps87
    go_wp2_with fail
    (go_loopw [32] (fun v wr => ∃ (i : Nat) (bi : Bool), i ≤ l.length ∧ v = .int .i64 i ∧ Hid (bi = (true || !((l.take i).all SVal.right))) ∧ Wk wr g P bi 64 ∧ w.grownBy wr (some g)) (fun v _ => l.length - (intOf v).toNat); (case atStart => exact ⟨0, true, Nat.zero_le _, rfl, by show true = _; simp, hk1, g1⟩); (case round => obtain ⟨i, bi, hi, rfl, hB, hkr, hW⟩ := hrel; have hkc := hkr; obtain ⟨k0, k1, f0, f1⟩ := hkc.cells; by_cases h0 : i < l.length; (have hsr := hs.grown hk hW hne; have q0 := hsr.c0 i h0; have q1 := hsr.c1 i h0; have q2 := hsr.c2 i h0; have q3 := hsr.c3 i h0; have q4 := hsr.c4 i h0; have q5 := hsr.c5 i h0; obtain ⟨hA, hA'⟩ := hsr.ok i h0; have ha := HA.out i h0; generalize hx : l[i] = x at *; obtain ⟨p, A, n, c, xs, e, q, A', n', c', ys, f⟩ := x; simp only at q0 q1 q2 q3 q4 q5 hA hA'; have hb0 := below_alloc (below_self wr) (.cells #[.bool p, .slice A n c, .int .i64 e, .bool q, .slice A' n' c', .int .i64 f] 41); have bx := box_new wr #[.bool p, .slice A n c, .int .i64 e, .bool q, .slice A' n' c', .int .i64 f] 41; have hr : (SVal.mk p A n c xs e q A' n' c' ys f).right = rightS p q xs ys e f := rfl; rw [hr] at ha; obtain ⟨v0, v1, t0, t1⟩ := (hkr.later hb0).cells; have RT := Lib.hid (spright p q A A' n c n' c' xs ys e f _ (hA.below hb0) (hA'.below hb0)); generalize rightS p q xs ys e f = rr at *; have HA1 := Lib.hid ha; clear ha hr hx hsr; cases bi; (go_wp2_with fail; refine RT.out.mono ?_; rintro r w4 ⟨rfl, hb4⟩; have hk4 := (hkr.later hb0).later hb4; have g4 := grown_on (grown_on hW hb0) hb4; obtain ⟨z0, z1, y0, y1⟩ := hk4.cells; clear k0 k1 f0 f1 v0 v1 t0 t1; go_wp2_with fail; exact ⟨⟨i + 1, !rr, by omega, by go_num, (take_next hB.out HA1.out), hk4.set _, grown_trans g4 (grown_set _ g 1 _)⟩, by simp only [intOf]; omega⟩); (go_wp2_with fail; exact ⟨⟨i + 1, true, by omega, by go_num, (take_stay hB.out HA1.out), (by first | exact (hkr.set true).later (below_alloc (below_self _) _) | exact (hkr.later hb0).set true), (by first | exact grown_on (grown_trans hW (grown_set _ g 1 _)) (below_alloc (below_self _) _) | exact grown_trans (grown_on hW hb0) (grown_set _ g 1 _))⟩, by simp only [intOf]; omega⟩)); (obtain rfl : i = l.length := (by omega); have e1 := hB.out; rw [HZ.out] at e1; have E1 := Lib.hid e1; clear e1; go_wp2_with fail; go_ret; rw [← E1.out]; exact ⟨rfl, hkr, hW⟩)))
end Go.Proofs.YtlmojkknlkfloaaDoor
