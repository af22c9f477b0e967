/- A text of ours, with only what the claim's row needs (wip/tools/shake.py). -/
import Derived.Deep.RegionHeld3
import Derived.Test.YteffemhapnbaeaaGreatDoorMU
import Derived.Test.YteffemhapnbaeaaGreatDoorMZ
import Derived.Test.YteffemhapnbaeaaGreatDoorMQ
import Derived.Test.YteffemhapnbaeaaGreatDoorMS
import Derived.Test.YteffemhapnbaeaaGreatDoorNI
namespace Go.Proofs.YteffemhapnbaeaaGreatDoor
open Go.RowKit Num
set_option linter.unusedSimpArgs false
set_option linter.unusedVariables false
set_option maxRecDepth 100000

/-- A struct stored whole, in a region that draws its order: the world behind it stays a letter. -/
theorem wp_putR {o : Oper} {a : Act} {w : World} {K : Act → World → Prop} {Q : Exit → Act → World → Prop} {yy : Nat → Option Bool} (hgd : o.guard = none) (ty : TypeId) (x y : Operand) (ho : o.op = .store ty x y)
    (hd : o.dst = none) (g : Nat) (cells : Array Value) {old : Array Value} {t : TypeId} (hb : Box w g old t) (hx : a.eval x = .pointer (some ⟨g, 0, none⟩)) (hy : a.eval y = .agg cells)
    (hi : (Tryz.prog.info? ty).map (·.size) = some cells.size) (hold : old.size = cells.size) (h1 : cells.all (·.oneCell') = true)
    (h : ∀ W', Box W' g cells t → w.grownBy W' (some g) → K a W') : if Region.wanted o yy = true then Oper.wp Tryz.prog o a w K Q else K (a.put o.dst undef) w := by
  rw [if_pos (by simp only [Region.wanted, hgd])]
  refine wp_store_row ty x y ho g cells hx hy t old hb.heap hi hold h1 ?_
  rw [hd]
  refine h _ ⟨setRow_heap w g old cells t (0, 0) hb.heap⟩ ?_
  exact ⟨rfl, rfl, rfl, by simp [World.setRow], fun i hi hne => setRow_other w g i cells (fun hh => hne (by rw [hh]))⟩
theorem wp_put6R {o : Oper} {a : Act} {w : World} {K : Act → World → Prop} {Q : Exit → Act → World → Prop} {yy : Nat → Option Bool} (hgd : o.guard = none) (x y : Operand) (ho : o.op = .store 28 x y)
    (hd : o.dst = none) (g : Nat) (p : Bool) (A : Option Addr) (n c : Nat) (e : Int) (q : Bool) (A' : Option Addr) (n' c' : Nat) (f : Int) {v0 v1 v2 v3 v4 v5 : Value} {t : TypeId} (hb : Box w g #[v0, v1, v2, v3, v4, v5] t) (hx : a.eval x = .pointer (some ⟨g, 0, none⟩)) (hy : a.eval y = (.agg #[.bool p, .slice A n c, .int .i64 e, .bool q, .slice A' n' c', .int .i64 f]))
    (h : ∀ W', Box W' g #[.bool p, .slice A n c, .int .i64 e, .bool q, .slice A' n' c', .int .i64 f] t → w.grownBy W' (some g) → K a W') : if Region.wanted o yy = true then Oper.wp Tryz.prog o a w K Q else K (a.put o.dst undef) w :=
  wp_putR hgd _ x y ho hd g _ hb hx hy (by kernel_rfl) rfl (by simp [Value.oneCell']) h
theorem wp_put3R {o : Oper} {a : Act} {w : World} {K : Act → World → Prop} {Q : Exit → Act → World → Prop} {yy : Nat → Option Bool} (hgd : o.guard = none) (x y : Operand) (ho : o.op = .store 26 x y)
    (hd : o.dst = none) (g : Nat) (p : Bool) (A : Option Addr) (n c : Nat) (e : Int) {v0 v1 v2 : Value} {t : TypeId} (hb : Box w g #[v0, v1, v2] t) (hx : a.eval x = .pointer (some ⟨g, 0, none⟩)) (hy : a.eval y = .agg #[.bool p, .slice A n c, .int .i64 e])
    (h : ∀ W', Box W' g #[.bool p, .slice A n c, .int .i64 e] t → w.grownBy W' (some g) → K a W') : if Region.wanted o yy = true then Oper.wp Tryz.prog o a w K Q else K (a.put o.dst undef) w :=
  wp_putR hgd _ x y ho hd g _ hb hx hy (by kernel_rfl) rfl (by simp [Value.oneCell']) h
/-- The place of a number's highest bit; far below all, of 0. -/
def topD (d : Dy) : Int := if d.m = 0 then -1048576 else bl d.m + d.e
theorem sptop (neg : Bool) (A : Option Addr) (n c : Nat) (m e : Int) (w : World) (h : Arr w A n c (wd m)) (hm : 0 ≤ m) (hn : n ≤ 1000000) (he0 : -1000000 ≤ e) (he1 : e ≤ 1000000) :
    Calls Tryz.prog 74 #[.agg #[.bool neg, .slice A n c, .int .i64 e]] w fun r w' => r = .returned (.int .i64 (topD ⟨neg, m, e⟩)) ∧ Below w.heap.size w w' := by
  have bx := box_new w #[.bool neg, .slice A n c, .int .i64 e] 26
  obtain ⟨k0, k1, k2, f0, f1, f2⟩ := bx.cell3
  have b0 := below_alloc (below_self w) (.cells #[.bool neg, .slice A n c, .int .i64 e] 26)
  have hl := h.len
  by_cases h0 : n = 0
  · subst h0
    have hz : m = 0 := by
      have h1 := wd_eq_nil.1 (List.length_eq_zero_iff.1 hl)
      omega
    have ht : topD ⟨neg, m, e⟩ = -1048576 := if_pos hz
    rw [ht]
    clear hz ht hl
    go_enter Tryz.func74, Tryz.ntmps74
    go_wp2_with fail
    go_ret
    exact ⟨rfl, b0⟩
  · have hz : m ≠ 0 := by
      intro h1
      subst h1
      rw [wd_zero (Int.le_refl _)] at hl
      exact h0 hl.symm
    have ht : topD ⟨neg, m, e⟩ = bl m + e := if_neg hz
    rw [ht]
    have NB := Lib.hid (fun w' (hb : Below w.heap.size w w') => nbits A n c (wd m) w' (h.below hb) (by omega))
    have NB := NB.out
    rw [val_wd m hm] at NB
    have NB := Lib.hid NB
    have hb0 := bl_nonneg m
    have hb1 := bl_lt (v := m) (a := 64 * n) hm (by rw [← B_pow_pw, ← hl]; have := val_lt h.wf; rwa [val_wd m hm] at this)
    have hqq : IntKind.i64.wrap (bl m + e) = bl m + e := by rw [IntKind.wrap_i64]; omega
    have hn0 : ((n : Int) == 0) = false := by simp; omega
    clear ht hz hl hb1
    generalize bl m = q at *
    go_enter Tryz.func74, Tryz.ntmps74
    go_wp2_with fail
    go_region_with (first | (go_at_call 98; refine (NB.out _ ((by repeat (first | with_reducible assumption | with_reducible exact below_self _ | with_reducible refine below_drewN ?_ _ | with_reducible apply Below.drew | with_reducible refine below_alloc ?_ _)))).mono ?_; rintro r w' ⟨rfl, rfl⟩))
    all_goals
      go_wp2
      go_ret
      exact ⟨rfl, (by repeat (first | with_reducible assumption | with_reducible exact below_self _ | with_reducible refine below_drewN ?_ _ | with_reducible apply Below.drew | with_reducible refine below_alloc ?_ _))⟩
def DVof (d : Dy) : DV := ⟨d.neg, none, (wd d.m).length, 0, wd d.m, d.e⟩
def sum2 (a b : Dy) : Option Dy := sumD [DVof a, DVof b]
theorem sum2_eq (a b : Dy) (A A' : Option Addr) (n c n' c' : Nat) (hn : n = (wd a.m).length) (hn' : n' = (wd b.m).length) : sumD [⟨a.neg, A, n, c, wd a.m, a.e⟩, ⟨b.neg, A', n', c', wd b.m, b.e⟩] = sum2 a b := by
  subst hn hn'
  rfl
def sumG (a b : Dy) : Dy := if topD a < topD b then b else a
def sumS (a b : Dy) : Dy := if topD a < topD b then a else b
def sumL (P : Int) (a b : Dy) : Int := min (sumG a b).e (topD (sumG a b) - P) - 3
def sumT (P : Int) (a b : Dy) : Option Dy := if (sumS a b).m ≠ 0 ∧ topD (sumS a b) < sumL P a b then mkD (sumS a b).neg 1 (sumL P a b) else some (sumS a b)
def cutY (d : Dy) (P : Int) (up : Bool) : Option Dy := cutO d.neg (wd d.m) d.e P up
/-- The sum of two, cut to P bits, as the program reckons it. -/
def sumO (P : Int) (up : Bool) (a b : Dy) : Option Dy := (sumT P a b).bind fun t => (sum2 (sumG a b) t).bind fun s => cutY s P up
theorem PlD.bounds {D : Dy} (h : PlD D) : (wd D.m).length ≤ 256 ∧ -262144 ≤ D.e ∧ D.e ≤ 262144 ∧ 0 ≤ D.m ∧ (D.m = 0 → D = Dy.zero) := by
  obtain ⟨p, m, e⟩ := D
  obtain ⟨h1, h2⟩ := h
  have h1 : plainB p (wd m) e = true := h1
  have h2 : 0 ≤ m := h2
  have q := plainB_parts (wf_wd m h2) h1
  rw [val_wd _ h2] at q
  refine ⟨q.2.1, q.1.lo, q.1.hi, h2, fun hz => ?_⟩
  have hz : m = 0 := hz
  obtain ⟨e1, e2⟩ := q.1.z hz
  have e1 : e = 0 := e1
  have e2 : p = false := e2
  subst hz e1 e2
  rfl
theorem topD_bounds {D : Dy} (h : PlD D) : -1048576 ≤ topD D ∧ topD D ≤ 16384 + 262144 := by
  obtain ⟨h1, h2, h3, h4, -⟩ := h.bounds
  unfold topD
  have b0 := bl_nonneg D.m
  have b1 := bl_lt (v := D.m) (a := 16384) h4 (by
    have := lt_pow_of_wd_length h4 h1
    rw [B_pow_pw] at this
    exact this)
  split <;> omega
end Go.Proofs.YteffemhapnbaeaaGreatDoor
namespace Go.Proofs.YteffemhapnbaeaaGreatDoor
open Go.RowKit Num
variable {tw : TypeId}
set_option linter.unusedSimpArgs false
set_option linter.unusedVariables false
set_option maxRecDepth 100000

/-- What sum keeps: both numbers, the result's box, great and small, the work. -/
structure Sm (w : World) (g kg ks : Nat) (P : Int) (bad : Bool) (t : TypeId) (p q pg ps : Bool) (A A' Ag As : Option Addr) (n c n' c' ng cg ns cs : Nat) (x y xg xs e f eg es : Int) (W : World) : Prop where
  a : Box W w.heap.size #[.bool p, .slice A n c, .int .i64 e] 26
  b : Box W (w.heap.size + 1) #[.bool q, .slice A' n' c', .int .i64 f] 26
  r : Box W (w.heap.size + 2) #[.bool false, .slice none 0 0, .int .i64 0] 26
  G : Box W kg #[.bool pg, .slice Ag ng cg, .int .i64 eg] 26
  S : Box W ks #[.bool ps, .slice As ns cs, .int .i64 es] 26
  k : Wk W g P bad t
  aa : Arr W A n c (wd x)
  ab : Arr W A' n' c' (wd y)
  aG : Arr W Ag ng cg (wd xg)
  aS : Arr W As ns cs (wd xs)
  tz : Tz W
  below : Below w.heap.size w W
  ne : kg ≠ ks ∧ w.heap.size + 2 < kg ∧ w.heap.size + 2 < ks ∧ g < w.heap.size
section
variable {w W W' : World} {g kg ks : Nat} {P : Int} {bad : Bool} {t : TypeId} {p q pg ps : Bool} {A A' Ag As : Option Addr} {n c n' c' ng cg ns cs : Nat} {x y xg xs e f eg es : Int}
theorem Sm.later (s : Sm w g kg ks P bad t p q pg ps A A' Ag As n c n' c' ng cg ns cs x y xg xs e f eg es W) (hb : Below W.heap.size W W') : Sm w g kg ks P bad t p q pg ps A A' Ag As n c n' c' ng cg ns cs x y xg xs e f eg es W' :=
  ⟨s.a.later hb, s.b.later hb, s.r.later hb, s.G.later hb, s.S.later hb, s.k.later hb, s.aa.below hb, s.ab.below hb, s.aG.below hb, s.aS.below hb, s.tz.below hb, below_on s.below hb, s.ne⟩
theorem tz_put3 {w w' : World} {k : Nat} {s : Bool} {A : Option Addr} {n c : Nat} {e : Int} {t : TypeId} (hT : Tz w) (hb : Box w k #[.bool s, .slice A n c, .int .i64 e] t) (hg : w.grownBy w' (some k)) : Tz w' := by
  have hne : 2 ≠ k := by
    intro hh
    subst hh
    have h0 := hT.tab 0 (by decide)
    rw [hb.cell 0] at h0
    simp at h0
  refine ⟨fun j hj => ?_⟩
  have h1 := hT.tab j hj
  have hlt := World.block_lt_of_cell? (w := w) (a := ⟨2, j, none⟩) h1
  rw [World.cell?_of_block (w := w) (w' := w') (hg.block _ hlt (by simpa using hne))]
  exact h1
theorem no3r {s : Bool} {A : Option Addr} {n c : Nat} {e : Int} : ∀ (i : Nat) (x : Int), (#[.bool s, .slice A n c, .int .i64 e] : Array Value)[i]? ≠ some (Value.int .u64 x) := no3 (by simp) (by simp) (by simp)
theorem grown_belowR {w0 w w' : World} {g : Nat} (h : Below w0.heap.size w0 w) (hg : w.grownBy w' (some g)) (hge : w0.heap.size ≤ g) : Below w0.heap.size w0 w' :=
  h.trans (grown_below hg h.size (fun k hk => by cases hk; exact hge))
/-- Another number is kept as the great one. -/
theorem Sm.putG {p2 : Bool} {A2 : Option Addr} {n2 c2 : Nat} {x2 e2 : Int} (s : Sm w g kg ks P bad t p q pg ps A A' Ag As n c n' c' ng cg ns cs x y xg xs e f eg es W) (hb : Box W' kg #[.bool p2, .slice A2 n2 c2, .int .i64 e2] 26) (hg : W.grownBy W' (some kg)) (h2 : Arr W A2 n2 c2 (wd x2)) :
    Sm w g kg ks P bad t p q p2 ps A A' A2 As n c n' c' n2 c2 ns cs x y x2 xs e f e2 es W' := by
  obtain ⟨n1, n3, n4, n5⟩ := s.ne
  exact ⟨s.a.grown hg (by omega), s.b.grown hg (by omega), s.r.grown hg (by omega), hb, s.S.grown hg (by omega), s.k.other hg (by omega), s.aa.grown s.G no3r hg, s.ab.grown s.G no3r hg, h2.grown s.G no3r hg, s.aS.grown s.G no3r hg, tz_put3 s.tz s.G hg, grown_belowR s.below hg (by omega), s.ne⟩
theorem Sm.putS {p2 : Bool} {A2 : Option Addr} {n2 c2 : Nat} {x2 e2 : Int} (s : Sm w g kg ks P bad t p q pg ps A A' Ag As n c n' c' ng cg ns cs x y xg xs e f eg es W) (hb : Box W' ks #[.bool p2, .slice A2 n2 c2, .int .i64 e2] 26) (hg : W.grownBy W' (some ks)) (h2 : Arr W A2 n2 c2 (wd x2)) :
    Sm w g kg ks P bad t p q pg p2 A A' Ag A2 n c n' c' ng cg n2 c2 x y xg x2 e f eg e2 W' := by
  obtain ⟨n1, n3, n4, n5⟩ := s.ne
  exact ⟨s.a.grown hg (by omega), s.b.grown hg (by omega), s.r.grown hg (by omega), s.G.grown hg (by omega), hb, s.k.other hg (by omega), s.aa.grown s.S no3r hg, s.ab.grown s.S no3r hg, s.aG.grown s.S no3r hg, h2.grown s.S no3r hg, tz_put3 s.tz s.S hg, grown_belowR s.below hg (by omega), s.ne⟩
theorem Sm.cells (s : Sm w g kg ks P bad t p q pg ps A A' Ag As n c n' c' ng cg ns cs x y xg xs e f eg es W) : ((W.cell? ⟨w.heap.size, 0, none⟩ = some (.bool p) ∧ W.cell? ⟨w.heap.size, 1, none⟩ = some (.slice A n c) ∧ W.cell? ⟨w.heap.size, 2, none⟩ = some (.int .i64 e)) ∧ W.cell? ⟨w.heap.size + 1, 0, none⟩ = some (.bool q) ∧ W.cell? ⟨w.heap.size + 1, 1, none⟩ = some (.slice A' n' c') ∧ W.cell? ⟨w.heap.size + 1, 2, none⟩ = some (.int .i64 f)) := ⟨⟨s.a.cell 0, s.a.cell 1, s.a.cell 2⟩, s.b.cell 0, s.b.cell 1, s.b.cell 2⟩
end
theorem arr_zeroR (w : World) : Arr w none 0 0 (wd 0) := by rw [wd_zero (Int.le_refl _)]; exact Arr.nothing _
theorem sumO_parts {P : Int} {up : Bool} {a b D : Dy} (h : sumO P up a b = some D) : ∃ t s, sumT P a b = some t ∧ sum2 (sumG a b) t = some s ∧ cutY s P up = some D := by
  unfold sumO at h
  obtain ⟨t, ht, h⟩ := Option.bind_eq_some_iff.1 h
  obtain ⟨s, hs, h⟩ := Option.bind_eq_some_iff.1 h
  exact ⟨t, s, ht, hs, h⟩
end Go.Proofs.YteffemhapnbaeaaGreatDoor
namespace Go.Proofs.YteffemhapnbaeaaGreatDoor
open Go.RowKit Num
variable {tw : TypeId}
set_option linter.unusedSimpArgs false
set_option linter.unusedVariables false
set_option maxRecDepth 100000

set_option maxHeartbeats 16000000 in
theorem spsum (p q : Bool) (A A' : Option Addr) (n c n' c' : Nat) (x y e f P : Int) (up : Bool) (g : Nat) (bad : Bool) (D : Dy) (w : World) (h : Arr w A n c (wd x)) (h' : Arr w A' n' c' (wd y)) (hT : Tz w) (hk : Wk w g P bad tw) (ha : PlD ⟨p, x, e⟩) (hb : PlD ⟨q, y, f⟩) (hP1 : 1 ≤ P) (hP2 : P ≤ 8192)
    (hD : sumO P up ⟨p, x, e⟩ ⟨q, y, f⟩ = some D) :
    Calls Tryz.prog 35 #[.pointer (some ⟨g, 0, none⟩), .agg #[.bool p, .slice A n c, .int .i64 e], .agg #[.bool q, .slice A' n' c', .int .i64 f], .bool up] w (RetA D w) := by
  have lg := hk.lt
  have b1 := below_alloc (below_self w) (.cells #[.bool p, .slice A n c, .int .i64 e] 26)
  have b2 := below_alloc b1 (.cells #[.bool q, .slice A' n' c', .int .i64 f] 26)
  have b3 : Below w.heap.size w (((w.alloc (.cells #[.bool p, .slice A n c, .int .i64 e] 26)).alloc (.cells #[.bool q, .slice A' n' c', .int .i64 f] 26)).alloc (.cells #[.bool false, .slice none 0 0, .int .i64 0] 26)) := below_alloc b2 _
  have xa := (box_new w #[.bool p, .slice A n c, .int .i64 e] 26).later (below_alloc (below_alloc (below_self _) (.cells #[.bool q, .slice A' n' c', .int .i64 f] 26)) (.cells #[.bool false, .slice none 0 0, .int .i64 0] 26))
  have xb := (box_new (w.alloc (.cells #[.bool p, .slice A n c, .int .i64 e] 26)) #[.bool q, .slice A' n' c', .int .i64 f] 26).later (below_alloc (below_self _) (.cells #[.bool false, .slice none 0 0, .int .i64 0] 26))
  rw [show (w.alloc (.cells #[.bool p, .slice A n c, .int .i64 e] 26)).heap.size = w.heap.size + 1 by simp] at xb
  have xr := box_new ((w.alloc (.cells #[.bool p, .slice A n c, .int .i64 e] 26)).alloc (.cells #[.bool q, .slice A' n' c', .int .i64 f] 26)) #[.bool false, .slice none 0 0, .int .i64 0] 26
  rw [show ((w.alloc (.cells #[.bool p, .slice A n c, .int .i64 e] 26)).alloc (.cells #[.bool q, .slice A' n' c', .int .i64 f] 26)).heap.size = w.heap.size + 2 by simp] at xr
  have hsz : (((w.alloc (.cells #[.bool p, .slice A n c, .int .i64 e] 26)).alloc (.cells #[.bool q, .slice A' n' c', .int .i64 f] 26)).alloc (.cells #[.bool false, .slice none 0 0, .int .i64 0] 26)).heap.size = w.heap.size + 3 := by simp
  have hA := h.below b3
  have hA' := h'.below b3
  have hT3 := hT.below b3
  have hk3 := hk.later b3
  generalize hW : (((w.alloc (.cells #[.bool p, .slice A n c, .int .i64 e] 26)).alloc (.cells #[.bool q, .slice A' n' c', .int .i64 f] 26)).alloc (.cells #[.bool false, .slice none 0 0, .int .i64 0] 26)) = W at *
  have KC : ∀ w', Below W.heap.size W w' → ((w'.cell? ⟨w.heap.size, 0, none⟩ = some (.bool p) ∧ w'.cell? ⟨w.heap.size, 1, none⟩ = some (.slice A n c) ∧ w'.cell? ⟨w.heap.size, 2, none⟩ = some (.int .i64 e)) ∧ w'.cell? ⟨w.heap.size + 1, 0, none⟩ = some (.bool q) ∧ w'.cell? ⟨w.heap.size + 1, 1, none⟩ = some (.slice A' n' c') ∧ w'.cell? ⟨w.heap.size + 1, 2, none⟩ = some (.int .i64 f)) := fun w' hb => ⟨⟨(xa.later hb).cell 0, (xa.later hb).cell 1, (xa.later hb).cell 2⟩, (xb.later hb).cell 0, (xb.later hb).cell 1, (xb.later hb).cell 2⟩
  obtain ⟨⟨j0, j1, j2⟩, j3, j4, j5⟩ := KC W (below_self _)
  have KC := Lib.hid KC
  have HW := Lib.hid hW
  have HD := Lib.hid hD
  have HSZ := Lib.hid hsz
  clear hW b1 b2 h h' hT hk hD hsz
  have S0 : ∀ kg ks, (kg = W.heap.size ∧ ks = W.heap.size + 1 ∨ kg = W.heap.size + 1 ∧ ks = W.heap.size) → Sm w g kg ks P bad tw p q false false A A' none none n c n' c' 0 0 0 0 x y 0 0 e f 0 0 ((W.alloc (.cells #[.bool false, .slice none 0 0, .int .i64 0] 26)).alloc (.cells #[.bool false, .slice none 0 0, .int .i64 0] 26)).drew := by
    intro kg ks hh
    have bb := Below.drew (below_alloc (below_alloc (below_self W) (.cells #[.bool false, .slice none 0 0, .int .i64 0] 26)) (.cells #[.bool false, .slice none 0 0, .int .i64 0] 26))
    have b1 := (box_new W #[.bool false, .slice none 0 0, .int .i64 0] 26).later (Below.drew (below_alloc (below_self _) (.cells #[.bool false, .slice none 0 0, .int .i64 0] 26)))
    have b2 := (box_new (W.alloc (.cells #[.bool false, .slice none 0 0, .int .i64 0] 26)) #[.bool false, .slice none 0 0, .int .i64 0] 26).later (Below.drew (below_self _))
    rw [show (W.alloc (.cells #[.bool false, .slice none 0 0, .int .i64 0] 26)).heap.size = W.heap.size + 1 by simp] at b2
    have hz := HSZ.out
    have A0 := arr_zeroR ((W.alloc (.cells #[.bool false, .slice none 0 0, .int .i64 0] 26)).alloc (.cells #[.bool false, .slice none 0 0, .int .i64 0] 26)).drew
    rcases hh with ⟨rfl, rfl⟩ | ⟨rfl, rfl⟩
    · exact ⟨xa.later bb, xb.later bb, xr.later bb, b1, b2, hk3.later bb, hA.below bb, hA'.below bb, A0, A0, hT3.below bb, below_on b3 bb, ⟨by omega, by omega, by omega, lg⟩⟩
    · exact ⟨xa.later bb, xb.later bb, xr.later bb, b2, b1, hk3.later bb, hA.below bb, hA'.below bb, A0, A0, hT3.below bb, below_on b3 bb, ⟨by omega, by omega, by omega, lg⟩⟩
  have S0 := Lib.hid S0
  obtain ⟨an, ae0, ae1, am, -⟩ := ha.bounds
  obtain ⟨bn, be0, be1, bm, -⟩ := hb.bounds
  simp only at an ae0 ae1 am bn be0 be1 bm
  have hn := hA.len
  have hn' := hA'.len
  have ta := topD_bounds ha
  have tb := topD_bounds hb
  have TA := fun w' (hh : Arr w' A n c (wd x)) => sptop p A n c x e w' hh am (by omega) (by omega) (by omega)
  have TB := fun w' (hh : Arr w' A' n' c' (wd y)) => sptop q A' n' c' y f w' hh bm (by omega) (by omega) (by omega)
  obtain ⟨t, s, h1, h2, h3⟩ := sumO_parts HD.out
  obtain ⟨ss, sx, se⟩ := s
  obtain ⟨ds, dm, de⟩ := D
  have dA : decide (topD ⟨p, x, e⟩ < topD ⟨q, y, f⟩) = true ∨ decide (topD ⟨p, x, e⟩ < topD ⟨q, y, f⟩) = false := by cases decide (topD ⟨p, x, e⟩ < topD ⟨q, y, f⟩) <;> simp
  by_cases hlt : topD ⟨p, x, e⟩ < topD ⟨q, y, f⟩
  · have eG : sumG ⟨p, x, e⟩ ⟨q, y, f⟩ = ⟨q, y, f⟩ := if_pos hlt
    have eS : sumS ⟨p, x, e⟩ ⟨q, y, f⟩ = ⟨p, x, e⟩ := if_pos hlt
    have dlt : decide (topD ⟨p, x, e⟩ < topD ⟨q, y, f⟩) = true := decide_eq_true hlt
    clear dA
    unfold sumT sumL at h1
    rw [eG, eS] at h1
    rw [eG] at h2
    simp only at h1
    clear eG eS HD hlt
    generalize topD ⟨p, x, e⟩ = Ta at *
    generalize topD ⟨q, y, f⟩ = Tb at *
    have TB := Lib.hid TB
    have TA := Lib.hid TA
    have w1 : IntKind.i64.wrap (Tb - P) = Tb - P := by rw [IntKind.wrap_i64]; omega
    obtain ⟨L, hL⟩ : ∃ L, L = min f (Tb - P) - 3 := ⟨_, rfl⟩
    have wL : IntKind.i64.wrap (min f (Tb - P) - 3) = L := by rw [IntKind.wrap_i64]; omega
    rw [← hL] at h1
    have l0 : -1100000 ≤ L := by omega
    have l1 : L ≤ 1000000 := by omega
    have HA : (x = 0 ∨ ¬ Ta < L) → Hid (sum2 ⟨q, y, f⟩ ⟨p, x, e⟩ = some ⟨ss, sx, se⟩) := by
      intro hh
      rw [if_neg (by rcases hh with h | h <;> simp [h])] at h1
      cases h1
      exact h2
    have HA := Lib.hid HA
    have HC : x ≠ 0 → Ta < L → ∃ t, Hid (mkD p 1 L = some t) ∧ Hid (sum2 ⟨q, y, f⟩ t = some ⟨ss, sx, se⟩) := by
      intro hy hL
      rw [if_pos ⟨hy, hL⟩] at h1
      exact ⟨_, h1, h2⟩
    have HC := Lib.hid HC
    have H1 := Lib.hid h1
    have H2 := Lib.hid h2
    have H3 := Lib.hid h3
    clear h1 h2 h3 hL xa xb xr hk3 hA hA' hT3 HSZ b3
    go_enter Tryz.func35, Tryz.ntmps35
    go_wp2_with fail
    rw [HW.out]
    refine wp_region_noPanic ?_
    refine wp_region_held_drew (S := fun w' => ((w'.cell? ⟨w.heap.size, 0, none⟩ = some (.bool p) ∧ w'.cell? ⟨w.heap.size, 1, none⟩ = some (.slice A n c) ∧ w'.cell? ⟨w.heap.size, 2, none⟩ = some (.int .i64 e)) ∧ w'.cell? ⟨w.heap.size + 1, 0, none⟩ = some (.bool q) ∧ w'.cell? ⟨w.heap.size + 1, 1, none⟩ = some (.slice A' n' c') ∧ w'.cell? ⟨w.heap.size + 1, 2, none⟩ = some (.int .i64 f))) (by kernel_rfl) (KC.out _ (Below.drew (below_self _))) (fun hHeld => ?_)
    (refine wpAnyH_take (i := 0) (oi := ⟨some 13, _, _, _, _, _⟩) (v := ?_) rfl (by kernel_rfl) (by kernel_rfl) (by kernel_rfl) (fun _ _ _ h => h) (Or.inl ⟨by rfl, ?_⟩) (by assumption) ?_; rotate_left; (focus (intro w hSw; (try dsimp only at hSw); go_simp; (try with_reducible rfl))); (try simp only [Act.put, List.setIfInBounds_toArray, List.set_cons_zero, List.set_cons_succ]))
    (refine wpAnyH_take (i := 1) (oi := ⟨some 14, _, _, _, _, _⟩) (v := ?_) rfl (by kernel_rfl) (by kernel_rfl) (by kernel_rfl) (fun _ _ _ h => h) (Or.inl ⟨by rfl, ?_⟩) (by assumption) ?_; rotate_left; (focus (intro w hSw; (try dsimp only at hSw); go_simp; (try with_reducible rfl))); (try simp only [Act.put, List.setIfInBounds_toArray, List.set_cons_zero, List.set_cons_succ]))
    refine wpAnyH_ready (rs := [2, 3]) (by kernel_rfl) (by simp) ?_
    refine AllReadyH.cons rfl (fun K hK => ?_) (AllReadyH.cons rfl (fun K hK => ?_) AllReadyH.nil)
    focus
      go_simp
      (refine hK.out _ _ (KC.out _ (by repeat (first | with_reducible assumption | with_reducible exact below_self _ | with_reducible refine below_drewN ?_ _ | with_reducible apply Below.drew | with_reducible refine below_alloc ?_ _))) (fun hHeld2 => ?_); clear hHeld hK K; have hHeld := hHeld2; clear hHeld2; (try simp only [Act.put, List.setIfInBounds_toArray, List.set_cons_zero, List.set_cons_succ]))
      (refine wpAnyH_ready (rs := [3]) (by kernel_rfl) (by simp) ?_; refine AllReadyH.cons rfl (fun K hK => ?_) AllReadyH.nil)
      go_simp
      (refine hK.out _ _ (KC.out _ (by repeat (first | with_reducible assumption | with_reducible exact below_self _ | with_reducible refine below_drewN ?_ _ | with_reducible apply Below.drew | with_reducible refine below_alloc ?_ _))) (fun hHeld2 => ?_); clear hHeld hK K; have hHeld := hHeld2; clear hHeld2; (try simp only [Act.put, List.setIfInBounds_toArray, List.set_cons_zero, List.set_cons_succ]))
      have sm := S0.out W.heap.size (W.heap.size + 1) (.inl ⟨rfl, rfl⟩)
      generalize hk2 : W.heap.size + 1 = ks at *
      generalize hk1 : W.heap.size = kg at *
      generalize ((W.alloc (.cells #[.bool false, .slice none 0 0, .int .i64 0] 26)).alloc (.cells #[.bool false, .slice none 0 0, .int .i64 0] 26)).drew = W5 at *
      clear hk1 hk2
      ((refine wpAnyH_ready (rs := [4]) (by kernel_rfl) (by simp) ?_; refine AllReadyH.cons rfl (fun K hK => ?_) AllReadyH.nil); refine wp_put3R rfl _ _ rfl rfl kg p A n c e sm.G rfl rfl (fun W6 bG6 g6 => ?_); have sm := sm.putG bG6 g6 sm.aa; (refine hK.out _ _ (sm.cells) (fun hHeld2 => ?_); clear hHeld hK K; have hHeld := hHeld2; clear hHeld2; (try simp only [Act.put, List.setIfInBounds_toArray, List.set_cons_zero, List.set_cons_succ])); (refine wpAnyH_ready (rs := [5]) (by kernel_rfl) (by simp) ?_; refine AllReadyH.cons rfl (fun K hK => ?_) AllReadyH.nil); refine wp_put3R rfl _ _ rfl rfl ks q A' n' c' f sm.S rfl rfl (fun W7 bS7 g7 => ?_); have sm := sm.putS bS7 g7 sm.ab; (refine hK.out _ _ (sm.cells) (fun hHeld2 => ?_); clear hHeld hK K; have hHeld := hHeld2; clear hHeld2; (try simp only [Act.put, List.setIfInBounds_toArray, List.set_cons_zero, List.set_cons_succ])); refine wpAnyH_done (by kernel_rfl) ?_ _)
    rotate_left
    focus
      go_simp
      (refine hK.out _ _ (KC.out _ (by repeat (first | with_reducible assumption | with_reducible exact below_self _ | with_reducible refine below_drewN ?_ _ | with_reducible apply Below.drew | with_reducible refine below_alloc ?_ _))) (fun hHeld2 => ?_); clear hHeld hK K; have hHeld := hHeld2; clear hHeld2; (try simp only [Act.put, List.setIfInBounds_toArray, List.set_cons_zero, List.set_cons_succ]))
      (refine wpAnyH_ready (rs := [2]) (by kernel_rfl) (by simp) ?_; refine AllReadyH.cons rfl (fun K hK => ?_) AllReadyH.nil)
      go_simp
      (refine hK.out _ _ (KC.out _ (by repeat (first | with_reducible assumption | with_reducible exact below_self _ | with_reducible refine below_drewN ?_ _ | with_reducible apply Below.drew | with_reducible refine below_alloc ?_ _))) (fun hHeld2 => ?_); clear hHeld hK K; have hHeld := hHeld2; clear hHeld2; (try simp only [Act.put, List.setIfInBounds_toArray, List.set_cons_zero, List.set_cons_succ]))
      have sm := S0.out (W.heap.size + 1) W.heap.size (.inr ⟨rfl, rfl⟩)
      generalize hk2 : W.heap.size + 1 = kg at *
      generalize hk1 : W.heap.size = ks at *
      generalize ((W.alloc (.cells #[.bool false, .slice none 0 0, .int .i64 0] 26)).alloc (.cells #[.bool false, .slice none 0 0, .int .i64 0] 26)).drew = W5 at *
      clear hk1 hk2
      ((refine wpAnyH_ready (rs := [4]) (by kernel_rfl) (by simp) ?_; refine AllReadyH.cons rfl (fun K hK => ?_) AllReadyH.nil); refine wp_put3R rfl _ _ rfl rfl kg p A n c e sm.G rfl rfl (fun W6 bG6 g6 => ?_); have sm := sm.putG bG6 g6 sm.aa; (refine hK.out _ _ (sm.cells) (fun hHeld2 => ?_); clear hHeld hK K; have hHeld := hHeld2; clear hHeld2; (try simp only [Act.put, List.setIfInBounds_toArray, List.set_cons_zero, List.set_cons_succ])); (refine wpAnyH_ready (rs := [5]) (by kernel_rfl) (by simp) ?_; refine AllReadyH.cons rfl (fun K hK => ?_) AllReadyH.nil); refine wp_put3R rfl _ _ rfl rfl ks q A' n' c' f sm.S rfl rfl (fun W7 bS7 g7 => ?_); have sm := sm.putS bS7 g7 sm.ab; (refine hK.out _ _ (sm.cells) (fun hHeld2 => ?_); clear hHeld hK K; have hHeld := hHeld2; clear hHeld2; (try simp only [Act.put, List.setIfInBounds_toArray, List.set_cons_zero, List.set_cons_succ])); refine wpAnyH_done (by kernel_rfl) ?_ _)
    all_goals
      refine NoPanic.normal ?_
      have gl := sm.G.lt
      obtain ⟨⟨q0, q1, q2⟩, q3, q4, q5⟩ := sm.cells
      clear hHeld KC S0 j0 j1 j2 j3 j4 j5 bG6 bS7 g6 g7
      go_wp2_with fail
      go_region_held3 (fun w' => ((w'.cell? ⟨w.heap.size, 0, none⟩ = some (.bool p) ∧ w'.cell? ⟨w.heap.size, 1, none⟩ = some (.slice A n c) ∧ w'.cell? ⟨w.heap.size, 2, none⟩ = some (.int .i64 e)) ∧ w'.cell? ⟨w.heap.size + 1, 0, none⟩ = some (.bool q) ∧ w'.cell? ⟨w.heap.size + 1, 1, none⟩ = some (.slice A' n' c') ∧ w'.cell? ⟨w.heap.size + 1, 2, none⟩ = some (.int .i64 f))) (first | (exact Sm.cells (sm.later (by repeat (first | with_reducible assumption | with_reducible exact below_self _ | with_reducible refine below_drewN ?_ _ | with_reducible apply Below.drew | with_reducible refine below_alloc ?_ _)))) | go_keep) (first | (go_at_call_of 74 (Value.agg #[Value.bool p, Value.slice A n c, Value.int IntKind.i64 e]); refine (TA.out _ (Arr.below sm.aa (by repeat (first | with_reducible assumption | with_reducible exact below_self _ | with_reducible refine below_drewN ?_ _ | with_reducible apply Below.drew | with_reducible refine below_alloc ?_ _)))).mono ?_; rintro r w8 ⟨rfl, hb8⟩; have sm := sm.later (below_on (by repeat (first | with_reducible assumption | with_reducible exact below_self _ | with_reducible refine below_drewN ?_ _ | with_reducible apply Below.drew | with_reducible refine below_alloc ?_ _)) hb8)) | (go_at_call_of 74 (Value.agg #[Value.bool q, Value.slice A' n' c', Value.int IntKind.i64 f]); refine (TB.out _ (Arr.below sm.ab (by repeat (first | with_reducible assumption | with_reducible exact below_self _ | with_reducible refine below_drewN ?_ _ | with_reducible apply Below.drew | with_reducible refine below_alloc ?_ _)))).mono ?_; rintro r w9 ⟨rfl, hb9⟩; have sm := sm.later (below_on (by repeat (first | with_reducible assumption | with_reducible exact below_self _ | with_reducible refine below_drewN ?_ _ | with_reducible apply Below.drew | with_reducible refine below_alloc ?_ _)) hb9)))
      go_wp2_with fail
      refine wp_region_noPanic ?_
      refine wp_region_held_drew (S := fun w' => ((w'.cell? ⟨w.heap.size, 0, none⟩ = some (.bool p) ∧ w'.cell? ⟨w.heap.size, 1, none⟩ = some (.slice A n c) ∧ w'.cell? ⟨w.heap.size, 2, none⟩ = some (.int .i64 e)) ∧ w'.cell? ⟨w.heap.size + 1, 0, none⟩ = some (.bool q) ∧ w'.cell? ⟨w.heap.size + 1, 1, none⟩ = some (.slice A' n' c') ∧ w'.cell? ⟨w.heap.size + 1, 2, none⟩ = some (.int .i64 f))) (by kernel_rfl) (sm.later (Below.drew (below_self _))).cells (fun hHeld => ?_)
      have sm := sm.later (Below.drew (below_self _))
      (refine wpAnyH_take (i := 0) (oi := ⟨some 20, _, _, _, _, _⟩) (v := ?_) rfl (by kernel_rfl) (by kernel_rfl) (by kernel_rfl) (fun _ _ _ h => h) (Or.inl ⟨by rfl, ?_⟩) (by assumption) ?_; rotate_left; (focus (intro w hSw; (try dsimp only at hSw); go_simp; (try with_reducible rfl))); (try simp only [Act.put, List.setIfInBounds_toArray, List.set_cons_zero, List.set_cons_succ]))
      (refine wpAnyH_take (i := 1) (oi := ⟨some 21, _, _, _, _, _⟩) (v := ?_) rfl (by kernel_rfl) (by kernel_rfl) (by kernel_rfl) (fun _ _ _ h => h) (Or.inl ⟨by rfl, ?_⟩) (by assumption) ?_; rotate_left; (focus (intro w hSw; (try dsimp only at hSw); go_simp; (try with_reducible rfl))); (try simp only [Act.put, List.setIfInBounds_toArray, List.set_cons_zero, List.set_cons_succ]))
      (refine wpAnyH_ready (rs := [2]) (by kernel_rfl) (by simp) ?_; refine AllReadyH.cons rfl (fun K hK => ?_) AllReadyH.nil)
      refine wp_put3R rfl _ _ rfl rfl kg q A' n' c' f sm.G rfl rfl (fun W16 bG6 g6 => ?_)
      have sm := sm.putG bG6 g6 sm.ab
      (refine hK.out _ _ (sm.cells) (fun hHeld2 => ?_); clear hHeld hK K; have hHeld := hHeld2; clear hHeld2; (try simp only [Act.put, List.setIfInBounds_toArray, List.set_cons_zero, List.set_cons_succ]))
      (refine wpAnyH_ready (rs := [3]) (by kernel_rfl) (by simp) ?_; refine AllReadyH.cons rfl (fun K hK => ?_) AllReadyH.nil)
      refine wp_put3R rfl _ _ rfl rfl ks p A n c e sm.S rfl rfl (fun W17 bS7 g7 => ?_)
      have sm := sm.putS bS7 g7 sm.aa
      (refine hK.out _ _ (sm.cells) (fun hHeld2 => ?_); clear hHeld hK K; have hHeld := hHeld2; clear hHeld2; (try simp only [Act.put, List.setIfInBounds_toArray, List.set_cons_zero, List.set_cons_succ]))
      refine wpAnyH_done (by kernel_rfl) ?_ _
      refine NoPanic.normal ?_
      clear hHeld bG6 bS7 g6 g7
      obtain ⟨u0, u1, u2, -⟩ := sm.G.cell3
      obtain ⟨v0, v1, v2, -⟩ := sm.S.cell3
      have kP := sm.k.cells.1
      go_wp2_with fail
      go_region_held3 (fun w' => ((w'.cell? ⟨kg, 0, none⟩ = some (.bool q) ∧ w'.cell? ⟨kg, 1, none⟩ = some (.slice A' n' c') ∧ w'.cell? ⟨kg, 2, none⟩ = some (.int .i64 f)) ∧ w'.cell? ⟨g, 0, none⟩ = some (.int .i64 P))) (first | (exact ⟨⟨(sm.later (by repeat (first | with_reducible assumption | with_reducible exact below_self _ | with_reducible refine below_drewN ?_ _ | with_reducible apply Below.drew | with_reducible refine below_alloc ?_ _))).G.cell 0, (sm.later (by repeat (first | with_reducible assumption | with_reducible exact below_self _ | with_reducible refine below_drewN ?_ _ | with_reducible apply Below.drew | with_reducible refine below_alloc ?_ _))).G.cell 1, (sm.later (by repeat (first | with_reducible assumption | with_reducible exact below_self _ | with_reducible refine below_drewN ?_ _ | with_reducible apply Below.drew | with_reducible refine below_alloc ?_ _))).G.cell 2⟩, (sm.later (by repeat (first | with_reducible assumption | with_reducible exact below_self _ | with_reducible refine below_drewN ?_ _ | with_reducible apply Below.drew | with_reducible refine below_alloc ?_ _))).k.cells.1⟩) | go_keep) (first | (go_at_call 74; refine (TB.out _ (Arr.below sm.aG (by repeat (first | with_reducible assumption | with_reducible exact below_self _ | with_reducible refine below_drewN ?_ _ | with_reducible apply Below.drew | with_reducible refine below_alloc ?_ _)))).mono ?_; rintro r w10 ⟨rfl, hb10⟩; have sm := sm.later (below_on (by repeat (first | with_reducible assumption | with_reducible exact below_self _ | with_reducible refine below_drewN ?_ _ | with_reducible apply Below.drew | with_reducible refine below_alloc ?_ _)) hb10)))
      obtain ⟨v0, v1, v2, -⟩ := sm.S.cell3
      clear u0 u1 u2
      by_cases h0 : n = 0
      · have d0 : decide ((n : Int) > 0) = false := by simp; omega
        have d0' : decide (0 < n) = false := by simp; omega
        have H2 : Hid (sum2 ⟨q, y, f⟩ ⟨p, x, e⟩ = some ⟨ss, sx, se⟩) := HA.out (.inl (by
          have h1 := wd_eq_nil.1 (List.length_eq_zero_iff.1 (hn.trans h0))
          omega))
        subst h0
        obtain ⟨wX, rfl⟩ : ∃ wX, wX = w10 := ⟨_, rfl⟩
        (obtain ⟨u0, u1, u2, -⟩ := sm.G.cell3; obtain ⟨v0, v1, v2, -⟩ := sm.S.cell3)
        go_wp2_with fail
        (have bq := below_alloc (below_self wX) (.cells #[.bool q, .slice A' n' c', .int .i64 f, .bool p, .slice A 0 c, .int .i64 e] 26); have dv := dvs_two q p A' A n' c' 0 c _ _ f e sm.aG sm.aS 26; have DS := dsum wX.heap.size 2 _ rfl _ dv (by decide) (sm.tz.below bq); rw [sum2_eq ⟨q, y, f⟩ ⟨p, x, e⟩ A' A n' c' 0 c sm.aG.len.symm sm.aS.len.symm, H2.out] at DS; have DS := Lib.hid DS; have sm := sm.later bq; clear dv; refine DS.out.mono ?_; rintro r w20 hr; obtain ⟨A5, n5, c5, rfl, a5, hb20⟩ := retD_some2 hr; clear hr; have sm := sm.later hb20; go_wp2_with fail; refine (must_ok g _ A5 n5 c5 _ w20).mono ?_; rintro r w21 ⟨rfl, hb21⟩; have sm := sm.later hb21; have a5 := a5.below hb21; have lq := sm.r.lt; go_wp2_with fail; obtain ⟨W9, k9, e1, e2, x9, a9, b9, l9⟩ := made_after (w := w21) (s := ss) (f := se) a5 (below_self _); rw [← e1, ← e2]; have sm := sm.later b9; clear e1 e2 u0 u1 u2 v0 v1 v2; have lr := sm.r.lt; have CU := fun w' (hb : Below W9.heap.size W9 w') => dCut ss A5 n5 c5 (wd sx) se P up w' (a9.below hb) (sm.tz.below hb); have hcut : cutO ss (wd sx) se P up = some ⟨ds, dm, de⟩ := H3.out; rw [hcut] at CU; clear hcut; have CU2 : ∀ w', Below W9.heap.size W9 w' → Calls Tryz.prog 76 #[.agg #[.bool ss, .slice A5 n5 c5, .int .i64 se], .int .i64 P, .bool up] w' fun r w'' => ∃ A6 n6 c6, r = .returned (.tuple #[.agg #[.bool ds, .slice A6 n6 c6, .int .i64 de], .bool true]) ∧ Arr w'' A6 n6 c6 (wd dm) ∧ Below W9.heap.size W9 w'' := (by intro w' hb; refine (CU w' hb).mono ?_; rintro r w'' hr; obtain ⟨A6, n6, c6, rfl, h6, hb6⟩ := retD_some2 hr; exact ⟨A6, n6, c6, rfl, h6, below_on hb hb6⟩); have MU : ∀ A6 n6 c6 w', Below W9.heap.size W9 w' → Calls Tryz.prog 43 #[.pointer (some ⟨g, 0, none⟩), .agg #[.bool ds, .slice A6 n6 c6, .int .i64 de], .bool true] w' fun r w'' => r = .returned (.agg #[.bool ds, .slice A6 n6 c6, .int .i64 de]) ∧ Below w'.heap.size w' w'' ∧ Below W9.heap.size W9 w'' := (by intro A6 n6 c6 w' hb; refine (must_ok g ds A6 n6 c6 de w').mono ?_; rintro r w'' ⟨rfl, h2⟩; exact ⟨rfl, h2, below_on hb h2⟩); have K8 : ∀ w', Below W9.heap.size W9 w' → ((w'.cell? ⟨k9, 0, none⟩ = some (.bool ss) ∧ w'.cell? ⟨k9, 1, none⟩ = some (.slice A5 n5 c5) ∧ w'.cell? ⟨k9, 2, none⟩ = some (.int .i64 se)) ∧ w'.cell? ⟨g, 0, none⟩ = some (.int .i64 P)) := (fun w' hb => ⟨⟨(x9.later hb).cell 0, (x9.later hb).cell 1, (x9.later hb).cell 2⟩, (sm.k.later hb).cells.1⟩); have K9 : ∀ w', Below W9.heap.size W9 w' → ∀ v0 v1 v2 W2, W2 = (((w'.setCell ⟨w.heap.size + 2, 0, none⟩ v0).setCell ⟨w.heap.size + 2, 1, none⟩ v1).setCell ⟨w.heap.size + 2, 2, none⟩ v2) → ((W2.cell? ⟨k9, 0, none⟩ = some (.bool ss) ∧ W2.cell? ⟨k9, 1, none⟩ = some (.slice A5 n5 c5) ∧ W2.cell? ⟨k9, 2, none⟩ = some (.int .i64 se)) ∧ W2.cell? ⟨g, 0, none⟩ = some (.int .i64 P)) := (by rintro w' hb v0 v1 v2 _ rfl; have lk := sm.ne; have lm := sm.below.size; have y9 := (((x9.later hb).apart (show k9 ≠ w.heap.size + 2 by omega) 0 v0).apart (show k9 ≠ w.heap.size + 2 by omega) 1 v1).apart (show k9 ≠ w.heap.size + 2 by omega) 2 v2; have yg := ((Box.apart (sm.k.later hb) (show g ≠ w.heap.size + 2 by omega) 0 v0).apart (show g ≠ w.heap.size + 2 by omega) 1 v1).apart (show g ≠ w.heap.size + 2 by omega) 2 v2; exact ⟨⟨y9.cell 0, y9.cell 1, y9.cell 2⟩, yg.cell 0⟩); have RA := (fun w' A6 n6 c6 (h6 : Arr w' A6 n6 c6 (wd dm)) (hb : Below W9.heap.size W9 w') => retA_set (w := w) (d := ⟨ds, dm, de⟩) h6 (sm.r.later hb) (below_on sm.below hb) (show w.heap.size ≤ w.heap.size + 2 by omega)); have XR := (fun w' (hb : Below W9.heap.size W9 w') => (sm.r.later hb).cell3); obtain ⟨⟨z0, z1, z2⟩, z3⟩ := K8 W9 (below_self _); have K8 := Lib.hid K8; have K9 := Lib.hid K9; have CU2 := Lib.hid CU2; have MU := Lib.hid MU; have RA := Lib.hid RA; have XR := Lib.hid XR; clear CU; go_wp2_with fail; go_region_held3 (fun w' => ((w'.cell? ⟨k9, 0, none⟩ = some (.bool ss) ∧ w'.cell? ⟨k9, 1, none⟩ = some (.slice A5 n5 c5) ∧ w'.cell? ⟨k9, 2, none⟩ = some (.int .i64 se)) ∧ w'.cell? ⟨g, 0, none⟩ = some (.int .i64 P))) (first | (refine K8.out _ ?_; (repeat (first | with_reducible assumption | with_reducible exact below_self _ | with_reducible refine below_drewN ?_ _ | with_reducible apply Below.drew | with_reducible refine below_alloc ?_ _)); done) | (refine K9.out _ ?_ _ _ _ _ rfl; (repeat (first | with_reducible assumption | with_reducible exact below_self _ | with_reducible refine below_drewN ?_ _ | with_reducible apply Below.drew | with_reducible refine below_alloc ?_ _)); done) | go_keep) (first | (go_at_call 76; refine (CU2.out _ ?_).mono ?_; (repeat (first | with_reducible assumption | with_reducible exact below_self _ | with_reducible refine below_drewN ?_ _ | with_reducible apply Below.drew | with_reducible refine below_alloc ?_ _)); rintro r w31 ⟨A6, n6, c6, rfl, h6, hb31⟩) | (go_at_call 43; refine (MU.out _ _ _ _ ?_).mono ?_; (repeat (first | with_reducible assumption | with_reducible exact below_self _ | with_reducible refine below_drewN ?_ _ | with_reducible apply Below.drew | with_reducible refine below_alloc ?_ _)); rintro r w32 ⟨rfl, hb312, hb32⟩; obtain ⟨i0, i1, i2, i3, i4, i5⟩ := XR.out _ hb32)); go_wp2_with fail; refine bodyPost_ret (v := .agg #[.bool ds, .slice A6 n6 c6, .int .i64 de]) ?_ rfl (RA.out _ _ _ _ (h6.below hb312) hb32); (simp [results, Tryz.results35, go_sem, i0, i1, i2]))
      · have d0 : decide ((n : Int) > 0) = true := by simp; omega
        have d0' : decide (0 < n) = true := by simp; omega
        by_cases hL : Ta < L
        · have dL : decide (Ta < L) = true := decide_eq_true hL
          obtain ⟨⟨ts, tm, te⟩, hmk, H2⟩ := HC.out (by
            intro hy
            subst hy
            rw [wd_zero (Int.le_refl _)] at hn
            exact h0 hn.symm) hL
          go_wp2_with fail
          refine (TA.out _ sm.aS).mono ?_
          rintro r w11 ⟨rfl, hb11⟩
          have sm := sm.later hb11
          clear v0 v1 v2
          obtain ⟨v0, v1, v2, vf0, vf1, vf2⟩ := sm.S.cell3
          have bu := below_alloc (below_self w11) (.cells #[.int .u64 1] 51)
          have MK := make p _ 1 1 [1] L _ (arr_one (w := w11) (g := w11.heap.size) rfl 1 (by decide) (by decide)) (by decide) (by omega) (by omega) (sm.tz.below bu)
          rw [val_one, hmk.out] at MK
          have MK := Lib.hid MK
          have sm := sm.later bu
          go_wp2_with fail
          refine MK.out.mono ?_
          rintro r w12 hr
          obtain ⟨A8, n8, c8, rfl, a8, hb12⟩ := retD_some2 hr
          clear hr
          have sm := sm.later hb12
          go_wp2_with fail
          refine (must_ok g _ A8 n8 c8 _ w12).mono ?_
          rintro r w13 ⟨rfl, hb13⟩
          have sm := sm.later hb13
          have a8 := a8.below hb13
          clear v0 v1 v2 vf0 vf1 vf2
          go_wp2_with (refine wp_put3 rfl _ _ rfl rfl ks ts A8 n8 c8 te sm.S rfl rfl (fun wX bS8 gS8 => ?_); have sm := sm.putS bS8 gS8 a8; (obtain ⟨u0, u1, u2, -⟩ := sm.G.cell3; obtain ⟨v0, v1, v2, -⟩ := sm.S.cell3))
          (have bq := below_alloc (below_self wX) (.cells #[.bool q, .slice A' n' c', .int .i64 f, .bool ts, .slice A8 n8 c8, .int .i64 te] 26); have dv := dvs_two q ts A' A8 n' c' n8 c8 _ _ f te sm.aG sm.aS 26; have DS := dsum wX.heap.size 2 _ rfl _ dv (by decide) (sm.tz.below bq); rw [sum2_eq ⟨q, y, f⟩ ⟨ts, tm, te⟩ A' A8 n' c' n8 c8 sm.aG.len.symm sm.aS.len.symm, H2.out] at DS; have DS := Lib.hid DS; have sm := sm.later bq; clear dv; refine DS.out.mono ?_; rintro r w20 hr; obtain ⟨A5, n5, c5, rfl, a5, hb20⟩ := retD_some2 hr; clear hr; have sm := sm.later hb20; go_wp2_with fail; refine (must_ok g _ A5 n5 c5 _ w20).mono ?_; rintro r w21 ⟨rfl, hb21⟩; have sm := sm.later hb21; have a5 := a5.below hb21; have lq := sm.r.lt; go_wp2_with fail; obtain ⟨W9, k9, e1, e2, x9, a9, b9, l9⟩ := made_after (w := w21) (s := ss) (f := se) a5 (below_self _); rw [← e1, ← e2]; have sm := sm.later b9; clear e1 e2 u0 u1 u2 v0 v1 v2; have lr := sm.r.lt; have CU := fun w' (hb : Below W9.heap.size W9 w') => dCut ss A5 n5 c5 (wd sx) se P up w' (a9.below hb) (sm.tz.below hb); have hcut : cutO ss (wd sx) se P up = some ⟨ds, dm, de⟩ := H3.out; rw [hcut] at CU; clear hcut; have CU2 : ∀ w', Below W9.heap.size W9 w' → Calls Tryz.prog 76 #[.agg #[.bool ss, .slice A5 n5 c5, .int .i64 se], .int .i64 P, .bool up] w' fun r w'' => ∃ A6 n6 c6, r = .returned (.tuple #[.agg #[.bool ds, .slice A6 n6 c6, .int .i64 de], .bool true]) ∧ Arr w'' A6 n6 c6 (wd dm) ∧ Below W9.heap.size W9 w'' := (by intro w' hb; refine (CU w' hb).mono ?_; rintro r w'' hr; obtain ⟨A6, n6, c6, rfl, h6, hb6⟩ := retD_some2 hr; exact ⟨A6, n6, c6, rfl, h6, below_on hb hb6⟩); have MU : ∀ A6 n6 c6 w', Below W9.heap.size W9 w' → Calls Tryz.prog 43 #[.pointer (some ⟨g, 0, none⟩), .agg #[.bool ds, .slice A6 n6 c6, .int .i64 de], .bool true] w' fun r w'' => r = .returned (.agg #[.bool ds, .slice A6 n6 c6, .int .i64 de]) ∧ Below w'.heap.size w' w'' ∧ Below W9.heap.size W9 w'' := (by intro A6 n6 c6 w' hb; refine (must_ok g ds A6 n6 c6 de w').mono ?_; rintro r w'' ⟨rfl, h2⟩; exact ⟨rfl, h2, below_on hb h2⟩); have K8 : ∀ w', Below W9.heap.size W9 w' → ((w'.cell? ⟨k9, 0, none⟩ = some (.bool ss) ∧ w'.cell? ⟨k9, 1, none⟩ = some (.slice A5 n5 c5) ∧ w'.cell? ⟨k9, 2, none⟩ = some (.int .i64 se)) ∧ w'.cell? ⟨g, 0, none⟩ = some (.int .i64 P)) := (fun w' hb => ⟨⟨(x9.later hb).cell 0, (x9.later hb).cell 1, (x9.later hb).cell 2⟩, (sm.k.later hb).cells.1⟩); have K9 : ∀ w', Below W9.heap.size W9 w' → ∀ v0 v1 v2 W2, W2 = (((w'.setCell ⟨w.heap.size + 2, 0, none⟩ v0).setCell ⟨w.heap.size + 2, 1, none⟩ v1).setCell ⟨w.heap.size + 2, 2, none⟩ v2) → ((W2.cell? ⟨k9, 0, none⟩ = some (.bool ss) ∧ W2.cell? ⟨k9, 1, none⟩ = some (.slice A5 n5 c5) ∧ W2.cell? ⟨k9, 2, none⟩ = some (.int .i64 se)) ∧ W2.cell? ⟨g, 0, none⟩ = some (.int .i64 P)) := (by rintro w' hb v0 v1 v2 _ rfl; have lk := sm.ne; have lm := sm.below.size; have y9 := (((x9.later hb).apart (show k9 ≠ w.heap.size + 2 by omega) 0 v0).apart (show k9 ≠ w.heap.size + 2 by omega) 1 v1).apart (show k9 ≠ w.heap.size + 2 by omega) 2 v2; have yg := ((Box.apart (sm.k.later hb) (show g ≠ w.heap.size + 2 by omega) 0 v0).apart (show g ≠ w.heap.size + 2 by omega) 1 v1).apart (show g ≠ w.heap.size + 2 by omega) 2 v2; exact ⟨⟨y9.cell 0, y9.cell 1, y9.cell 2⟩, yg.cell 0⟩); have RA := (fun w' A6 n6 c6 (h6 : Arr w' A6 n6 c6 (wd dm)) (hb : Below W9.heap.size W9 w') => retA_set (w := w) (d := ⟨ds, dm, de⟩) h6 (sm.r.later hb) (below_on sm.below hb) (show w.heap.size ≤ w.heap.size + 2 by omega)); have XR := (fun w' (hb : Below W9.heap.size W9 w') => (sm.r.later hb).cell3); obtain ⟨⟨z0, z1, z2⟩, z3⟩ := K8 W9 (below_self _); have K8 := Lib.hid K8; have K9 := Lib.hid K9; have CU2 := Lib.hid CU2; have MU := Lib.hid MU; have RA := Lib.hid RA; have XR := Lib.hid XR; clear CU; go_wp2_with fail; go_region_held3 (fun w' => ((w'.cell? ⟨k9, 0, none⟩ = some (.bool ss) ∧ w'.cell? ⟨k9, 1, none⟩ = some (.slice A5 n5 c5) ∧ w'.cell? ⟨k9, 2, none⟩ = some (.int .i64 se)) ∧ w'.cell? ⟨g, 0, none⟩ = some (.int .i64 P))) (first | (refine K8.out _ ?_; (repeat (first | with_reducible assumption | with_reducible exact below_self _ | with_reducible refine below_drewN ?_ _ | with_reducible apply Below.drew | with_reducible refine below_alloc ?_ _)); done) | (refine K9.out _ ?_ _ _ _ _ rfl; (repeat (first | with_reducible assumption | with_reducible exact below_self _ | with_reducible refine below_drewN ?_ _ | with_reducible apply Below.drew | with_reducible refine below_alloc ?_ _)); done) | go_keep) (first | (go_at_call 76; refine (CU2.out _ ?_).mono ?_; (repeat (first | with_reducible assumption | with_reducible exact below_self _ | with_reducible refine below_drewN ?_ _ | with_reducible apply Below.drew | with_reducible refine below_alloc ?_ _)); rintro r w31 ⟨A6, n6, c6, rfl, h6, hb31⟩) | (go_at_call 43; refine (MU.out _ _ _ _ ?_).mono ?_; (repeat (first | with_reducible assumption | with_reducible exact below_self _ | with_reducible refine below_drewN ?_ _ | with_reducible apply Below.drew | with_reducible refine below_alloc ?_ _)); rintro r w32 ⟨rfl, hb312, hb32⟩; obtain ⟨i0, i1, i2, i3, i4, i5⟩ := XR.out _ hb32)); go_wp2_with fail; refine bodyPost_ret (v := .agg #[.bool ds, .slice A6 n6 c6, .int .i64 de]) ?_ rfl (RA.out _ _ _ _ (h6.below hb312) hb32); (simp [results, Tryz.results35, go_sem, i0, i1, i2]))
        · have dL : decide (Ta < L) = false := decide_eq_false hL
          have H2 := HA.out (.inr (by omega))
          go_wp2_with fail
          refine (TA.out _ sm.aS).mono ?_
          rintro r wX ⟨rfl, hb11⟩
          have sm := sm.later hb11
          clear v0 v1 v2
          (obtain ⟨u0, u1, u2, -⟩ := sm.G.cell3; obtain ⟨v0, v1, v2, -⟩ := sm.S.cell3)
          go_wp2_with fail
          (have bq := below_alloc (below_self wX) (.cells #[.bool q, .slice A' n' c', .int .i64 f, .bool p, .slice A n c, .int .i64 e] 26); have dv := dvs_two q p A' A n' c' n c _ _ f e sm.aG sm.aS 26; have DS := dsum wX.heap.size 2 _ rfl _ dv (by decide) (sm.tz.below bq); rw [sum2_eq ⟨q, y, f⟩ ⟨p, x, e⟩ A' A n' c' n c sm.aG.len.symm sm.aS.len.symm, H2.out] at DS; have DS := Lib.hid DS; have sm := sm.later bq; clear dv; refine DS.out.mono ?_; rintro r w20 hr; obtain ⟨A5, n5, c5, rfl, a5, hb20⟩ := retD_some2 hr; clear hr; have sm := sm.later hb20; go_wp2_with fail; refine (must_ok g _ A5 n5 c5 _ w20).mono ?_; rintro r w21 ⟨rfl, hb21⟩; have sm := sm.later hb21; have a5 := a5.below hb21; have lq := sm.r.lt; go_wp2_with fail; obtain ⟨W9, k9, e1, e2, x9, a9, b9, l9⟩ := made_after (w := w21) (s := ss) (f := se) a5 (below_self _); rw [← e1, ← e2]; have sm := sm.later b9; clear e1 e2 u0 u1 u2 v0 v1 v2; have lr := sm.r.lt; have CU := fun w' (hb : Below W9.heap.size W9 w') => dCut ss A5 n5 c5 (wd sx) se P up w' (a9.below hb) (sm.tz.below hb); have hcut : cutO ss (wd sx) se P up = some ⟨ds, dm, de⟩ := H3.out; rw [hcut] at CU; clear hcut; have CU2 : ∀ w', Below W9.heap.size W9 w' → Calls Tryz.prog 76 #[.agg #[.bool ss, .slice A5 n5 c5, .int .i64 se], .int .i64 P, .bool up] w' fun r w'' => ∃ A6 n6 c6, r = .returned (.tuple #[.agg #[.bool ds, .slice A6 n6 c6, .int .i64 de], .bool true]) ∧ Arr w'' A6 n6 c6 (wd dm) ∧ Below W9.heap.size W9 w'' := (by intro w' hb; refine (CU w' hb).mono ?_; rintro r w'' hr; obtain ⟨A6, n6, c6, rfl, h6, hb6⟩ := retD_some2 hr; exact ⟨A6, n6, c6, rfl, h6, below_on hb hb6⟩); have MU : ∀ A6 n6 c6 w', Below W9.heap.size W9 w' → Calls Tryz.prog 43 #[.pointer (some ⟨g, 0, none⟩), .agg #[.bool ds, .slice A6 n6 c6, .int .i64 de], .bool true] w' fun r w'' => r = .returned (.agg #[.bool ds, .slice A6 n6 c6, .int .i64 de]) ∧ Below w'.heap.size w' w'' ∧ Below W9.heap.size W9 w'' := (by intro A6 n6 c6 w' hb; refine (must_ok g ds A6 n6 c6 de w').mono ?_; rintro r w'' ⟨rfl, h2⟩; exact ⟨rfl, h2, below_on hb h2⟩); have K8 : ∀ w', Below W9.heap.size W9 w' → ((w'.cell? ⟨k9, 0, none⟩ = some (.bool ss) ∧ w'.cell? ⟨k9, 1, none⟩ = some (.slice A5 n5 c5) ∧ w'.cell? ⟨k9, 2, none⟩ = some (.int .i64 se)) ∧ w'.cell? ⟨g, 0, none⟩ = some (.int .i64 P)) := (fun w' hb => ⟨⟨(x9.later hb).cell 0, (x9.later hb).cell 1, (x9.later hb).cell 2⟩, (sm.k.later hb).cells.1⟩); have K9 : ∀ w', Below W9.heap.size W9 w' → ∀ v0 v1 v2 W2, W2 = (((w'.setCell ⟨w.heap.size + 2, 0, none⟩ v0).setCell ⟨w.heap.size + 2, 1, none⟩ v1).setCell ⟨w.heap.size + 2, 2, none⟩ v2) → ((W2.cell? ⟨k9, 0, none⟩ = some (.bool ss) ∧ W2.cell? ⟨k9, 1, none⟩ = some (.slice A5 n5 c5) ∧ W2.cell? ⟨k9, 2, none⟩ = some (.int .i64 se)) ∧ W2.cell? ⟨g, 0, none⟩ = some (.int .i64 P)) := (by rintro w' hb v0 v1 v2 _ rfl; have lk := sm.ne; have lm := sm.below.size; have y9 := (((x9.later hb).apart (show k9 ≠ w.heap.size + 2 by omega) 0 v0).apart (show k9 ≠ w.heap.size + 2 by omega) 1 v1).apart (show k9 ≠ w.heap.size + 2 by omega) 2 v2; have yg := ((Box.apart (sm.k.later hb) (show g ≠ w.heap.size + 2 by omega) 0 v0).apart (show g ≠ w.heap.size + 2 by omega) 1 v1).apart (show g ≠ w.heap.size + 2 by omega) 2 v2; exact ⟨⟨y9.cell 0, y9.cell 1, y9.cell 2⟩, yg.cell 0⟩); have RA := (fun w' A6 n6 c6 (h6 : Arr w' A6 n6 c6 (wd dm)) (hb : Below W9.heap.size W9 w') => retA_set (w := w) (d := ⟨ds, dm, de⟩) h6 (sm.r.later hb) (below_on sm.below hb) (show w.heap.size ≤ w.heap.size + 2 by omega)); have XR := (fun w' (hb : Below W9.heap.size W9 w') => (sm.r.later hb).cell3); obtain ⟨⟨z0, z1, z2⟩, z3⟩ := K8 W9 (below_self _); have K8 := Lib.hid K8; have K9 := Lib.hid K9; have CU2 := Lib.hid CU2; have MU := Lib.hid MU; have RA := Lib.hid RA; have XR := Lib.hid XR; clear CU; go_wp2_with fail; go_region_held3 (fun w' => ((w'.cell? ⟨k9, 0, none⟩ = some (.bool ss) ∧ w'.cell? ⟨k9, 1, none⟩ = some (.slice A5 n5 c5) ∧ w'.cell? ⟨k9, 2, none⟩ = some (.int .i64 se)) ∧ w'.cell? ⟨g, 0, none⟩ = some (.int .i64 P))) (first | (refine K8.out _ ?_; (repeat (first | with_reducible assumption | with_reducible exact below_self _ | with_reducible refine below_drewN ?_ _ | with_reducible apply Below.drew | with_reducible refine below_alloc ?_ _)); done) | (refine K9.out _ ?_ _ _ _ _ rfl; (repeat (first | with_reducible assumption | with_reducible exact below_self _ | with_reducible refine below_drewN ?_ _ | with_reducible apply Below.drew | with_reducible refine below_alloc ?_ _)); done) | go_keep) (first | (go_at_call 76; refine (CU2.out _ ?_).mono ?_; (repeat (first | with_reducible assumption | with_reducible exact below_self _ | with_reducible refine below_drewN ?_ _ | with_reducible apply Below.drew | with_reducible refine below_alloc ?_ _)); rintro r w31 ⟨A6, n6, c6, rfl, h6, hb31⟩) | (go_at_call 43; refine (MU.out _ _ _ _ ?_).mono ?_; (repeat (first | with_reducible assumption | with_reducible exact below_self _ | with_reducible refine below_drewN ?_ _ | with_reducible apply Below.drew | with_reducible refine below_alloc ?_ _)); rintro r w32 ⟨rfl, hb312, hb32⟩; obtain ⟨i0, i1, i2, i3, i4, i5⟩ := XR.out _ hb32)); go_wp2_with fail; refine bodyPost_ret (v := .agg #[.bool ds, .slice A6 n6 c6, .int .i64 de]) ?_ rfl (RA.out _ _ _ _ (h6.below hb312) hb32); (simp [results, Tryz.results35, go_sem, i0, i1, i2]))
  · have eG : sumG ⟨p, x, e⟩ ⟨q, y, f⟩ = ⟨p, x, e⟩ := if_neg hlt
    have eS : sumS ⟨p, x, e⟩ ⟨q, y, f⟩ = ⟨q, y, f⟩ := if_neg hlt
    have dlt : decide (topD ⟨p, x, e⟩ < topD ⟨q, y, f⟩) = false := decide_eq_false hlt
    clear dA
    unfold sumT sumL at h1
    rw [eG, eS] at h1
    rw [eG] at h2
    simp only at h1
    clear eG eS HD hlt
    generalize topD ⟨p, x, e⟩ = Ta at *
    generalize topD ⟨q, y, f⟩ = Tb at *
    have TA := Lib.hid TA
    have TB := Lib.hid TB
    have w1 : IntKind.i64.wrap (Ta - P) = Ta - P := by rw [IntKind.wrap_i64]; omega
    obtain ⟨L, hL⟩ : ∃ L, L = min e (Ta - P) - 3 := ⟨_, rfl⟩
    have wL : IntKind.i64.wrap (min e (Ta - P) - 3) = L := by rw [IntKind.wrap_i64]; omega
    rw [← hL] at h1
    have l0 : -1100000 ≤ L := by omega
    have l1 : L ≤ 1000000 := by omega
    have HA : (y = 0 ∨ ¬ Tb < L) → Hid (sum2 ⟨p, x, e⟩ ⟨q, y, f⟩ = some ⟨ss, sx, se⟩) := by
      intro hh
      rw [if_neg (by rcases hh with h | h <;> simp [h])] at h1
      cases h1
      exact h2
    have HA := Lib.hid HA
    have HC : y ≠ 0 → Tb < L → ∃ t, Hid (mkD q 1 L = some t) ∧ Hid (sum2 ⟨p, x, e⟩ t = some ⟨ss, sx, se⟩) := by
      intro hy hL
      rw [if_pos ⟨hy, hL⟩] at h1
      exact ⟨_, h1, h2⟩
    have HC := Lib.hid HC
    have H1 := Lib.hid h1
    have H2 := Lib.hid h2
    have H3 := Lib.hid h3
    clear h1 h2 h3 hL xa xb xr hk3 hA hA' hT3 HSZ b3
    go_enter Tryz.func35, Tryz.ntmps35
    go_wp2_with fail
    rw [HW.out]
    refine wp_region_noPanic ?_
    refine wp_region_held_drew (S := fun w' => ((w'.cell? ⟨w.heap.size, 0, none⟩ = some (.bool p) ∧ w'.cell? ⟨w.heap.size, 1, none⟩ = some (.slice A n c) ∧ w'.cell? ⟨w.heap.size, 2, none⟩ = some (.int .i64 e)) ∧ w'.cell? ⟨w.heap.size + 1, 0, none⟩ = some (.bool q) ∧ w'.cell? ⟨w.heap.size + 1, 1, none⟩ = some (.slice A' n' c') ∧ w'.cell? ⟨w.heap.size + 1, 2, none⟩ = some (.int .i64 f))) (by kernel_rfl) (KC.out _ (Below.drew (below_self _))) (fun hHeld => ?_)
    (refine wpAnyH_take (i := 0) (oi := ⟨some 13, _, _, _, _, _⟩) (v := ?_) rfl (by kernel_rfl) (by kernel_rfl) (by kernel_rfl) (fun _ _ _ h => h) (Or.inl ⟨by rfl, ?_⟩) (by assumption) ?_; rotate_left; (focus (intro w hSw; (try dsimp only at hSw); go_simp; (try with_reducible rfl))); (try simp only [Act.put, List.setIfInBounds_toArray, List.set_cons_zero, List.set_cons_succ]))
    (refine wpAnyH_take (i := 1) (oi := ⟨some 14, _, _, _, _, _⟩) (v := ?_) rfl (by kernel_rfl) (by kernel_rfl) (by kernel_rfl) (fun _ _ _ h => h) (Or.inl ⟨by rfl, ?_⟩) (by assumption) ?_; rotate_left; (focus (intro w hSw; (try dsimp only at hSw); go_simp; (try with_reducible rfl))); (try simp only [Act.put, List.setIfInBounds_toArray, List.set_cons_zero, List.set_cons_succ]))
    refine wpAnyH_ready (rs := [2, 3]) (by kernel_rfl) (by simp) ?_
    refine AllReadyH.cons rfl (fun K hK => ?_) (AllReadyH.cons rfl (fun K hK => ?_) AllReadyH.nil)
    focus
      go_simp
      (refine hK.out _ _ (KC.out _ (by repeat (first | with_reducible assumption | with_reducible exact below_self _ | with_reducible refine below_drewN ?_ _ | with_reducible apply Below.drew | with_reducible refine below_alloc ?_ _))) (fun hHeld2 => ?_); clear hHeld hK K; have hHeld := hHeld2; clear hHeld2; (try simp only [Act.put, List.setIfInBounds_toArray, List.set_cons_zero, List.set_cons_succ]))
      (refine wpAnyH_ready (rs := [3]) (by kernel_rfl) (by simp) ?_; refine AllReadyH.cons rfl (fun K hK => ?_) AllReadyH.nil)
      go_simp
      (refine hK.out _ _ (KC.out _ (by repeat (first | with_reducible assumption | with_reducible exact below_self _ | with_reducible refine below_drewN ?_ _ | with_reducible apply Below.drew | with_reducible refine below_alloc ?_ _))) (fun hHeld2 => ?_); clear hHeld hK K; have hHeld := hHeld2; clear hHeld2; (try simp only [Act.put, List.setIfInBounds_toArray, List.set_cons_zero, List.set_cons_succ]))
      have sm := S0.out W.heap.size (W.heap.size + 1) (.inl ⟨rfl, rfl⟩)
      generalize hk2 : W.heap.size + 1 = ks at *
      generalize hk1 : W.heap.size = kg at *
      generalize ((W.alloc (.cells #[.bool false, .slice none 0 0, .int .i64 0] 26)).alloc (.cells #[.bool false, .slice none 0 0, .int .i64 0] 26)).drew = W5 at *
      clear hk1 hk2
      ((refine wpAnyH_ready (rs := [4]) (by kernel_rfl) (by simp) ?_; refine AllReadyH.cons rfl (fun K hK => ?_) AllReadyH.nil); refine wp_put3R rfl _ _ rfl rfl kg p A n c e sm.G rfl rfl (fun W6 bG6 g6 => ?_); have sm := sm.putG bG6 g6 sm.aa; (refine hK.out _ _ (sm.cells) (fun hHeld2 => ?_); clear hHeld hK K; have hHeld := hHeld2; clear hHeld2; (try simp only [Act.put, List.setIfInBounds_toArray, List.set_cons_zero, List.set_cons_succ])); (refine wpAnyH_ready (rs := [5]) (by kernel_rfl) (by simp) ?_; refine AllReadyH.cons rfl (fun K hK => ?_) AllReadyH.nil); refine wp_put3R rfl _ _ rfl rfl ks q A' n' c' f sm.S rfl rfl (fun W7 bS7 g7 => ?_); have sm := sm.putS bS7 g7 sm.ab; (refine hK.out _ _ (sm.cells) (fun hHeld2 => ?_); clear hHeld hK K; have hHeld := hHeld2; clear hHeld2; (try simp only [Act.put, List.setIfInBounds_toArray, List.set_cons_zero, List.set_cons_succ])); refine wpAnyH_done (by kernel_rfl) ?_ _)
    rotate_left
    focus
      go_simp
      (refine hK.out _ _ (KC.out _ (by repeat (first | with_reducible assumption | with_reducible exact below_self _ | with_reducible refine below_drewN ?_ _ | with_reducible apply Below.drew | with_reducible refine below_alloc ?_ _))) (fun hHeld2 => ?_); clear hHeld hK K; have hHeld := hHeld2; clear hHeld2; (try simp only [Act.put, List.setIfInBounds_toArray, List.set_cons_zero, List.set_cons_succ]))
      (refine wpAnyH_ready (rs := [2]) (by kernel_rfl) (by simp) ?_; refine AllReadyH.cons rfl (fun K hK => ?_) AllReadyH.nil)
      go_simp
      (refine hK.out _ _ (KC.out _ (by repeat (first | with_reducible assumption | with_reducible exact below_self _ | with_reducible refine below_drewN ?_ _ | with_reducible apply Below.drew | with_reducible refine below_alloc ?_ _))) (fun hHeld2 => ?_); clear hHeld hK K; have hHeld := hHeld2; clear hHeld2; (try simp only [Act.put, List.setIfInBounds_toArray, List.set_cons_zero, List.set_cons_succ]))
      have sm := S0.out (W.heap.size + 1) W.heap.size (.inr ⟨rfl, rfl⟩)
      generalize hk2 : W.heap.size + 1 = kg at *
      generalize hk1 : W.heap.size = ks at *
      generalize ((W.alloc (.cells #[.bool false, .slice none 0 0, .int .i64 0] 26)).alloc (.cells #[.bool false, .slice none 0 0, .int .i64 0] 26)).drew = W5 at *
      clear hk1 hk2
      ((refine wpAnyH_ready (rs := [4]) (by kernel_rfl) (by simp) ?_; refine AllReadyH.cons rfl (fun K hK => ?_) AllReadyH.nil); refine wp_put3R rfl _ _ rfl rfl kg p A n c e sm.G rfl rfl (fun W6 bG6 g6 => ?_); have sm := sm.putG bG6 g6 sm.aa; (refine hK.out _ _ (sm.cells) (fun hHeld2 => ?_); clear hHeld hK K; have hHeld := hHeld2; clear hHeld2; (try simp only [Act.put, List.setIfInBounds_toArray, List.set_cons_zero, List.set_cons_succ])); (refine wpAnyH_ready (rs := [5]) (by kernel_rfl) (by simp) ?_; refine AllReadyH.cons rfl (fun K hK => ?_) AllReadyH.nil); refine wp_put3R rfl _ _ rfl rfl ks q A' n' c' f sm.S rfl rfl (fun W7 bS7 g7 => ?_); have sm := sm.putS bS7 g7 sm.ab; (refine hK.out _ _ (sm.cells) (fun hHeld2 => ?_); clear hHeld hK K; have hHeld := hHeld2; clear hHeld2; (try simp only [Act.put, List.setIfInBounds_toArray, List.set_cons_zero, List.set_cons_succ])); refine wpAnyH_done (by kernel_rfl) ?_ _)
    all_goals
      refine NoPanic.normal ?_
      have gl := sm.G.lt
      obtain ⟨⟨q0, q1, q2⟩, q3, q4, q5⟩ := sm.cells
      clear hHeld KC S0 j0 j1 j2 j3 j4 j5 bG6 bS7 g6 g7
      go_wp2_with fail
      go_region_held3 (fun w' => ((w'.cell? ⟨w.heap.size, 0, none⟩ = some (.bool p) ∧ w'.cell? ⟨w.heap.size, 1, none⟩ = some (.slice A n c) ∧ w'.cell? ⟨w.heap.size, 2, none⟩ = some (.int .i64 e)) ∧ w'.cell? ⟨w.heap.size + 1, 0, none⟩ = some (.bool q) ∧ w'.cell? ⟨w.heap.size + 1, 1, none⟩ = some (.slice A' n' c') ∧ w'.cell? ⟨w.heap.size + 1, 2, none⟩ = some (.int .i64 f))) (first | (exact Sm.cells (sm.later (by repeat (first | with_reducible assumption | with_reducible exact below_self _ | with_reducible refine below_drewN ?_ _ | with_reducible apply Below.drew | with_reducible refine below_alloc ?_ _)))) | go_keep) (first | (go_at_call_of 74 (Value.agg #[Value.bool p, Value.slice A n c, Value.int IntKind.i64 e]); refine (TA.out _ (Arr.below sm.aa (by repeat (first | with_reducible assumption | with_reducible exact below_self _ | with_reducible refine below_drewN ?_ _ | with_reducible apply Below.drew | with_reducible refine below_alloc ?_ _)))).mono ?_; rintro r w8 ⟨rfl, hb8⟩; have sm := sm.later (below_on (by repeat (first | with_reducible assumption | with_reducible exact below_self _ | with_reducible refine below_drewN ?_ _ | with_reducible apply Below.drew | with_reducible refine below_alloc ?_ _)) hb8)) | (go_at_call_of 74 (Value.agg #[Value.bool q, Value.slice A' n' c', Value.int IntKind.i64 f]); refine (TB.out _ (Arr.below sm.ab (by repeat (first | with_reducible assumption | with_reducible exact below_self _ | with_reducible refine below_drewN ?_ _ | with_reducible apply Below.drew | with_reducible refine below_alloc ?_ _)))).mono ?_; rintro r w9 ⟨rfl, hb9⟩; have sm := sm.later (below_on (by repeat (first | with_reducible assumption | with_reducible exact below_self _ | with_reducible refine below_drewN ?_ _ | with_reducible apply Below.drew | with_reducible refine below_alloc ?_ _)) hb9)))
      obtain ⟨u0, u1, u2, -⟩ := sm.G.cell3
      obtain ⟨v0, v1, v2, -⟩ := sm.S.cell3
      have kP := sm.k.cells.1
      go_wp2_with fail
      go_region_held3 (fun w' => ((w'.cell? ⟨kg, 0, none⟩ = some (.bool p) ∧ w'.cell? ⟨kg, 1, none⟩ = some (.slice A n c) ∧ w'.cell? ⟨kg, 2, none⟩ = some (.int .i64 e)) ∧ w'.cell? ⟨g, 0, none⟩ = some (.int .i64 P))) (first | (exact ⟨⟨(sm.later (by repeat (first | with_reducible assumption | with_reducible exact below_self _ | with_reducible refine below_drewN ?_ _ | with_reducible apply Below.drew | with_reducible refine below_alloc ?_ _))).G.cell 0, (sm.later (by repeat (first | with_reducible assumption | with_reducible exact below_self _ | with_reducible refine below_drewN ?_ _ | with_reducible apply Below.drew | with_reducible refine below_alloc ?_ _))).G.cell 1, (sm.later (by repeat (first | with_reducible assumption | with_reducible exact below_self _ | with_reducible refine below_drewN ?_ _ | with_reducible apply Below.drew | with_reducible refine below_alloc ?_ _))).G.cell 2⟩, (sm.later (by repeat (first | with_reducible assumption | with_reducible exact below_self _ | with_reducible refine below_drewN ?_ _ | with_reducible apply Below.drew | with_reducible refine below_alloc ?_ _))).k.cells.1⟩) | go_keep) (first | (go_at_call 74; refine (TA.out _ (Arr.below sm.aG (by repeat (first | with_reducible assumption | with_reducible exact below_self _ | with_reducible refine below_drewN ?_ _ | with_reducible apply Below.drew | with_reducible refine below_alloc ?_ _)))).mono ?_; rintro r w10 ⟨rfl, hb10⟩; have sm := sm.later (below_on (by repeat (first | with_reducible assumption | with_reducible exact below_self _ | with_reducible refine below_drewN ?_ _ | with_reducible apply Below.drew | with_reducible refine below_alloc ?_ _)) hb10)))
      obtain ⟨v0, v1, v2, -⟩ := sm.S.cell3
      clear u0 u1 u2
      by_cases h0 : n' = 0
      · have d0 : decide ((n' : Int) > 0) = false := by simp; omega
        have d0' : decide (0 < n') = false := by simp; omega
        have H2 : Hid (sum2 ⟨p, x, e⟩ ⟨q, y, f⟩ = some ⟨ss, sx, se⟩) := HA.out (.inl (by
          have h1 := wd_eq_nil.1 (List.length_eq_zero_iff.1 (hn'.trans h0))
          omega))
        subst h0
        obtain ⟨wX, rfl⟩ : ∃ wX, wX = w10 := ⟨_, rfl⟩
        (obtain ⟨u0, u1, u2, -⟩ := sm.G.cell3; obtain ⟨v0, v1, v2, -⟩ := sm.S.cell3)
        go_wp2_with fail
        (have bq := below_alloc (below_self wX) (.cells #[.bool p, .slice A n c, .int .i64 e, .bool q, .slice A' 0 c', .int .i64 f] 26); have dv := dvs_two p q A A' n c 0 c' _ _ e f sm.aG sm.aS 26; have DS := dsum wX.heap.size 2 _ rfl _ dv (by decide) (sm.tz.below bq); rw [sum2_eq ⟨p, x, e⟩ ⟨q, y, f⟩ A A' n c 0 c' sm.aG.len.symm sm.aS.len.symm, H2.out] at DS; have DS := Lib.hid DS; have sm := sm.later bq; clear dv; refine DS.out.mono ?_; rintro r w20 hr; obtain ⟨A5, n5, c5, rfl, a5, hb20⟩ := retD_some2 hr; clear hr; have sm := sm.later hb20; go_wp2_with fail; refine (must_ok g _ A5 n5 c5 _ w20).mono ?_; rintro r w21 ⟨rfl, hb21⟩; have sm := sm.later hb21; have a5 := a5.below hb21; have lq := sm.r.lt; go_wp2_with fail; obtain ⟨W9, k9, e1, e2, x9, a9, b9, l9⟩ := made_after (w := w21) (s := ss) (f := se) a5 (below_self _); rw [← e1, ← e2]; have sm := sm.later b9; clear e1 e2 u0 u1 u2 v0 v1 v2; have lr := sm.r.lt; have CU := fun w' (hb : Below W9.heap.size W9 w') => dCut ss A5 n5 c5 (wd sx) se P up w' (a9.below hb) (sm.tz.below hb); have hcut : cutO ss (wd sx) se P up = some ⟨ds, dm, de⟩ := H3.out; rw [hcut] at CU; clear hcut; have CU2 : ∀ w', Below W9.heap.size W9 w' → Calls Tryz.prog 76 #[.agg #[.bool ss, .slice A5 n5 c5, .int .i64 se], .int .i64 P, .bool up] w' fun r w'' => ∃ A6 n6 c6, r = .returned (.tuple #[.agg #[.bool ds, .slice A6 n6 c6, .int .i64 de], .bool true]) ∧ Arr w'' A6 n6 c6 (wd dm) ∧ Below W9.heap.size W9 w'' := (by intro w' hb; refine (CU w' hb).mono ?_; rintro r w'' hr; obtain ⟨A6, n6, c6, rfl, h6, hb6⟩ := retD_some2 hr; exact ⟨A6, n6, c6, rfl, h6, below_on hb hb6⟩); have MU : ∀ A6 n6 c6 w', Below W9.heap.size W9 w' → Calls Tryz.prog 43 #[.pointer (some ⟨g, 0, none⟩), .agg #[.bool ds, .slice A6 n6 c6, .int .i64 de], .bool true] w' fun r w'' => r = .returned (.agg #[.bool ds, .slice A6 n6 c6, .int .i64 de]) ∧ Below w'.heap.size w' w'' ∧ Below W9.heap.size W9 w'' := (by intro A6 n6 c6 w' hb; refine (must_ok g ds A6 n6 c6 de w').mono ?_; rintro r w'' ⟨rfl, h2⟩; exact ⟨rfl, h2, below_on hb h2⟩); have K8 : ∀ w', Below W9.heap.size W9 w' → ((w'.cell? ⟨k9, 0, none⟩ = some (.bool ss) ∧ w'.cell? ⟨k9, 1, none⟩ = some (.slice A5 n5 c5) ∧ w'.cell? ⟨k9, 2, none⟩ = some (.int .i64 se)) ∧ w'.cell? ⟨g, 0, none⟩ = some (.int .i64 P)) := (fun w' hb => ⟨⟨(x9.later hb).cell 0, (x9.later hb).cell 1, (x9.later hb).cell 2⟩, (sm.k.later hb).cells.1⟩); have K9 : ∀ w', Below W9.heap.size W9 w' → ∀ v0 v1 v2 W2, W2 = (((w'.setCell ⟨w.heap.size + 2, 0, none⟩ v0).setCell ⟨w.heap.size + 2, 1, none⟩ v1).setCell ⟨w.heap.size + 2, 2, none⟩ v2) → ((W2.cell? ⟨k9, 0, none⟩ = some (.bool ss) ∧ W2.cell? ⟨k9, 1, none⟩ = some (.slice A5 n5 c5) ∧ W2.cell? ⟨k9, 2, none⟩ = some (.int .i64 se)) ∧ W2.cell? ⟨g, 0, none⟩ = some (.int .i64 P)) := (by rintro w' hb v0 v1 v2 _ rfl; have lk := sm.ne; have lm := sm.below.size; have y9 := (((x9.later hb).apart (show k9 ≠ w.heap.size + 2 by omega) 0 v0).apart (show k9 ≠ w.heap.size + 2 by omega) 1 v1).apart (show k9 ≠ w.heap.size + 2 by omega) 2 v2; have yg := ((Box.apart (sm.k.later hb) (show g ≠ w.heap.size + 2 by omega) 0 v0).apart (show g ≠ w.heap.size + 2 by omega) 1 v1).apart (show g ≠ w.heap.size + 2 by omega) 2 v2; exact ⟨⟨y9.cell 0, y9.cell 1, y9.cell 2⟩, yg.cell 0⟩); have RA := (fun w' A6 n6 c6 (h6 : Arr w' A6 n6 c6 (wd dm)) (hb : Below W9.heap.size W9 w') => retA_set (w := w) (d := ⟨ds, dm, de⟩) h6 (sm.r.later hb) (below_on sm.below hb) (show w.heap.size ≤ w.heap.size + 2 by omega)); have XR := (fun w' (hb : Below W9.heap.size W9 w') => (sm.r.later hb).cell3); obtain ⟨⟨z0, z1, z2⟩, z3⟩ := K8 W9 (below_self _); have K8 := Lib.hid K8; have K9 := Lib.hid K9; have CU2 := Lib.hid CU2; have MU := Lib.hid MU; have RA := Lib.hid RA; have XR := Lib.hid XR; clear CU; go_wp2_with fail; go_region_held3 (fun w' => ((w'.cell? ⟨k9, 0, none⟩ = some (.bool ss) ∧ w'.cell? ⟨k9, 1, none⟩ = some (.slice A5 n5 c5) ∧ w'.cell? ⟨k9, 2, none⟩ = some (.int .i64 se)) ∧ w'.cell? ⟨g, 0, none⟩ = some (.int .i64 P))) (first | (refine K8.out _ ?_; (repeat (first | with_reducible assumption | with_reducible exact below_self _ | with_reducible refine below_drewN ?_ _ | with_reducible apply Below.drew | with_reducible refine below_alloc ?_ _)); done) | (refine K9.out _ ?_ _ _ _ _ rfl; (repeat (first | with_reducible assumption | with_reducible exact below_self _ | with_reducible refine below_drewN ?_ _ | with_reducible apply Below.drew | with_reducible refine below_alloc ?_ _)); done) | go_keep) (first | (go_at_call 76; refine (CU2.out _ ?_).mono ?_; (repeat (first | with_reducible assumption | with_reducible exact below_self _ | with_reducible refine below_drewN ?_ _ | with_reducible apply Below.drew | with_reducible refine below_alloc ?_ _)); rintro r w31 ⟨A6, n6, c6, rfl, h6, hb31⟩) | (go_at_call 43; refine (MU.out _ _ _ _ ?_).mono ?_; (repeat (first | with_reducible assumption | with_reducible exact below_self _ | with_reducible refine below_drewN ?_ _ | with_reducible apply Below.drew | with_reducible refine below_alloc ?_ _)); rintro r w32 ⟨rfl, hb312, hb32⟩; obtain ⟨i0, i1, i2, i3, i4, i5⟩ := XR.out _ hb32)); go_wp2_with fail; refine bodyPost_ret (v := .agg #[.bool ds, .slice A6 n6 c6, .int .i64 de]) ?_ rfl (RA.out _ _ _ _ (h6.below hb312) hb32); (simp [results, Tryz.results35, go_sem, i0, i1, i2]))
      · have d0 : decide ((n' : Int) > 0) = true := by simp; omega
        have d0' : decide (0 < n') = true := by simp; omega
        by_cases hL : Tb < L
        · have dL : decide (Tb < L) = true := decide_eq_true hL
          obtain ⟨⟨ts, tm, te⟩, hmk, H2⟩ := HC.out (by
            intro hy
            subst hy
            rw [wd_zero (Int.le_refl _)] at hn'
            exact h0 hn'.symm) hL
          go_wp2_with fail
          refine (TB.out _ sm.aS).mono ?_
          rintro r w11 ⟨rfl, hb11⟩
          have sm := sm.later hb11
          clear v0 v1 v2
          obtain ⟨v0, v1, v2, vf0, vf1, vf2⟩ := sm.S.cell3
          have bu := below_alloc (below_self w11) (.cells #[.int .u64 1] 51)
          have MK := make q _ 1 1 [1] L _ (arr_one (w := w11) (g := w11.heap.size) rfl 1 (by decide) (by decide)) (by decide) (by omega) (by omega) (sm.tz.below bu)
          rw [val_one, hmk.out] at MK
          have MK := Lib.hid MK
          have sm := sm.later bu
          go_wp2_with fail
          refine MK.out.mono ?_
          rintro r w12 hr
          obtain ⟨A8, n8, c8, rfl, a8, hb12⟩ := retD_some2 hr
          clear hr
          have sm := sm.later hb12
          go_wp2_with fail
          refine (must_ok g _ A8 n8 c8 _ w12).mono ?_
          rintro r w13 ⟨rfl, hb13⟩
          have sm := sm.later hb13
          have a8 := a8.below hb13
          clear v0 v1 v2 vf0 vf1 vf2
          go_wp2_with (refine wp_put3 rfl _ _ rfl rfl ks ts A8 n8 c8 te sm.S rfl rfl (fun wX bS8 gS8 => ?_); have sm := sm.putS bS8 gS8 a8; (obtain ⟨u0, u1, u2, -⟩ := sm.G.cell3; obtain ⟨v0, v1, v2, -⟩ := sm.S.cell3))
          (have bq := below_alloc (below_self wX) (.cells #[.bool p, .slice A n c, .int .i64 e, .bool ts, .slice A8 n8 c8, .int .i64 te] 26); have dv := dvs_two p ts A A8 n c n8 c8 _ _ e te sm.aG sm.aS 26; have DS := dsum wX.heap.size 2 _ rfl _ dv (by decide) (sm.tz.below bq); rw [sum2_eq ⟨p, x, e⟩ ⟨ts, tm, te⟩ A A8 n c n8 c8 sm.aG.len.symm sm.aS.len.symm, H2.out] at DS; have DS := Lib.hid DS; have sm := sm.later bq; clear dv; refine DS.out.mono ?_; rintro r w20 hr; obtain ⟨A5, n5, c5, rfl, a5, hb20⟩ := retD_some2 hr; clear hr; have sm := sm.later hb20; go_wp2_with fail; refine (must_ok g _ A5 n5 c5 _ w20).mono ?_; rintro r w21 ⟨rfl, hb21⟩; have sm := sm.later hb21; have a5 := a5.below hb21; have lq := sm.r.lt; go_wp2_with fail; obtain ⟨W9, k9, e1, e2, x9, a9, b9, l9⟩ := made_after (w := w21) (s := ss) (f := se) a5 (below_self _); rw [← e1, ← e2]; have sm := sm.later b9; clear e1 e2 u0 u1 u2 v0 v1 v2; have lr := sm.r.lt; have CU := fun w' (hb : Below W9.heap.size W9 w') => dCut ss A5 n5 c5 (wd sx) se P up w' (a9.below hb) (sm.tz.below hb); have hcut : cutO ss (wd sx) se P up = some ⟨ds, dm, de⟩ := H3.out; rw [hcut] at CU; clear hcut; have CU2 : ∀ w', Below W9.heap.size W9 w' → Calls Tryz.prog 76 #[.agg #[.bool ss, .slice A5 n5 c5, .int .i64 se], .int .i64 P, .bool up] w' fun r w'' => ∃ A6 n6 c6, r = .returned (.tuple #[.agg #[.bool ds, .slice A6 n6 c6, .int .i64 de], .bool true]) ∧ Arr w'' A6 n6 c6 (wd dm) ∧ Below W9.heap.size W9 w'' := (by intro w' hb; refine (CU w' hb).mono ?_; rintro r w'' hr; obtain ⟨A6, n6, c6, rfl, h6, hb6⟩ := retD_some2 hr; exact ⟨A6, n6, c6, rfl, h6, below_on hb hb6⟩); have MU : ∀ A6 n6 c6 w', Below W9.heap.size W9 w' → Calls Tryz.prog 43 #[.pointer (some ⟨g, 0, none⟩), .agg #[.bool ds, .slice A6 n6 c6, .int .i64 de], .bool true] w' fun r w'' => r = .returned (.agg #[.bool ds, .slice A6 n6 c6, .int .i64 de]) ∧ Below w'.heap.size w' w'' ∧ Below W9.heap.size W9 w'' := (by intro A6 n6 c6 w' hb; refine (must_ok g ds A6 n6 c6 de w').mono ?_; rintro r w'' ⟨rfl, h2⟩; exact ⟨rfl, h2, below_on hb h2⟩); have K8 : ∀ w', Below W9.heap.size W9 w' → ((w'.cell? ⟨k9, 0, none⟩ = some (.bool ss) ∧ w'.cell? ⟨k9, 1, none⟩ = some (.slice A5 n5 c5) ∧ w'.cell? ⟨k9, 2, none⟩ = some (.int .i64 se)) ∧ w'.cell? ⟨g, 0, none⟩ = some (.int .i64 P)) := (fun w' hb => ⟨⟨(x9.later hb).cell 0, (x9.later hb).cell 1, (x9.later hb).cell 2⟩, (sm.k.later hb).cells.1⟩); have K9 : ∀ w', Below W9.heap.size W9 w' → ∀ v0 v1 v2 W2, W2 = (((w'.setCell ⟨w.heap.size + 2, 0, none⟩ v0).setCell ⟨w.heap.size + 2, 1, none⟩ v1).setCell ⟨w.heap.size + 2, 2, none⟩ v2) → ((W2.cell? ⟨k9, 0, none⟩ = some (.bool ss) ∧ W2.cell? ⟨k9, 1, none⟩ = some (.slice A5 n5 c5) ∧ W2.cell? ⟨k9, 2, none⟩ = some (.int .i64 se)) ∧ W2.cell? ⟨g, 0, none⟩ = some (.int .i64 P)) := (by rintro w' hb v0 v1 v2 _ rfl; have lk := sm.ne; have lm := sm.below.size; have y9 := (((x9.later hb).apart (show k9 ≠ w.heap.size + 2 by omega) 0 v0).apart (show k9 ≠ w.heap.size + 2 by omega) 1 v1).apart (show k9 ≠ w.heap.size + 2 by omega) 2 v2; have yg := ((Box.apart (sm.k.later hb) (show g ≠ w.heap.size + 2 by omega) 0 v0).apart (show g ≠ w.heap.size + 2 by omega) 1 v1).apart (show g ≠ w.heap.size + 2 by omega) 2 v2; exact ⟨⟨y9.cell 0, y9.cell 1, y9.cell 2⟩, yg.cell 0⟩); have RA := (fun w' A6 n6 c6 (h6 : Arr w' A6 n6 c6 (wd dm)) (hb : Below W9.heap.size W9 w') => retA_set (w := w) (d := ⟨ds, dm, de⟩) h6 (sm.r.later hb) (below_on sm.below hb) (show w.heap.size ≤ w.heap.size + 2 by omega)); have XR := (fun w' (hb : Below W9.heap.size W9 w') => (sm.r.later hb).cell3); obtain ⟨⟨z0, z1, z2⟩, z3⟩ := K8 W9 (below_self _); have K8 := Lib.hid K8; have K9 := Lib.hid K9; have CU2 := Lib.hid CU2; have MU := Lib.hid MU; have RA := Lib.hid RA; have XR := Lib.hid XR; clear CU; go_wp2_with fail; go_region_held3 (fun w' => ((w'.cell? ⟨k9, 0, none⟩ = some (.bool ss) ∧ w'.cell? ⟨k9, 1, none⟩ = some (.slice A5 n5 c5) ∧ w'.cell? ⟨k9, 2, none⟩ = some (.int .i64 se)) ∧ w'.cell? ⟨g, 0, none⟩ = some (.int .i64 P))) (first | (refine K8.out _ ?_; (repeat (first | with_reducible assumption | with_reducible exact below_self _ | with_reducible refine below_drewN ?_ _ | with_reducible apply Below.drew | with_reducible refine below_alloc ?_ _)); done) | (refine K9.out _ ?_ _ _ _ _ rfl; (repeat (first | with_reducible assumption | with_reducible exact below_self _ | with_reducible refine below_drewN ?_ _ | with_reducible apply Below.drew | with_reducible refine below_alloc ?_ _)); done) | go_keep) (first | (go_at_call 76; refine (CU2.out _ ?_).mono ?_; (repeat (first | with_reducible assumption | with_reducible exact below_self _ | with_reducible refine below_drewN ?_ _ | with_reducible apply Below.drew | with_reducible refine below_alloc ?_ _)); rintro r w31 ⟨A6, n6, c6, rfl, h6, hb31⟩) | (go_at_call 43; refine (MU.out _ _ _ _ ?_).mono ?_; (repeat (first | with_reducible assumption | with_reducible exact below_self _ | with_reducible refine below_drewN ?_ _ | with_reducible apply Below.drew | with_reducible refine below_alloc ?_ _)); rintro r w32 ⟨rfl, hb312, hb32⟩; obtain ⟨i0, i1, i2, i3, i4, i5⟩ := XR.out _ hb32)); go_wp2_with fail; refine bodyPost_ret (v := .agg #[.bool ds, .slice A6 n6 c6, .int .i64 de]) ?_ rfl (RA.out _ _ _ _ (h6.below hb312) hb32); (simp [results, Tryz.results35, go_sem, i0, i1, i2]))
        · have dL : decide (Tb < L) = false := decide_eq_false hL
          have H2 := HA.out (.inr (by omega))
          go_wp2_with fail
          refine (TB.out _ sm.aS).mono ?_
          rintro r wX ⟨rfl, hb11⟩
          have sm := sm.later hb11
          clear v0 v1 v2
          (obtain ⟨u0, u1, u2, -⟩ := sm.G.cell3; obtain ⟨v0, v1, v2, -⟩ := sm.S.cell3)
          go_wp2_with fail
          (have bq := below_alloc (below_self wX) (.cells #[.bool p, .slice A n c, .int .i64 e, .bool q, .slice A' n' c', .int .i64 f] 26); have dv := dvs_two p q A A' n c n' c' _ _ e f sm.aG sm.aS 26; have DS := dsum wX.heap.size 2 _ rfl _ dv (by decide) (sm.tz.below bq); rw [sum2_eq ⟨p, x, e⟩ ⟨q, y, f⟩ A A' n c n' c' sm.aG.len.symm sm.aS.len.symm, H2.out] at DS; have DS := Lib.hid DS; have sm := sm.later bq; clear dv; refine DS.out.mono ?_; rintro r w20 hr; obtain ⟨A5, n5, c5, rfl, a5, hb20⟩ := retD_some2 hr; clear hr; have sm := sm.later hb20; go_wp2_with fail; refine (must_ok g _ A5 n5 c5 _ w20).mono ?_; rintro r w21 ⟨rfl, hb21⟩; have sm := sm.later hb21; have a5 := a5.below hb21; have lq := sm.r.lt; go_wp2_with fail; obtain ⟨W9, k9, e1, e2, x9, a9, b9, l9⟩ := made_after (w := w21) (s := ss) (f := se) a5 (below_self _); rw [← e1, ← e2]; have sm := sm.later b9; clear e1 e2 u0 u1 u2 v0 v1 v2; have lr := sm.r.lt; have CU := fun w' (hb : Below W9.heap.size W9 w') => dCut ss A5 n5 c5 (wd sx) se P up w' (a9.below hb) (sm.tz.below hb); have hcut : cutO ss (wd sx) se P up = some ⟨ds, dm, de⟩ := H3.out; rw [hcut] at CU; clear hcut; have CU2 : ∀ w', Below W9.heap.size W9 w' → Calls Tryz.prog 76 #[.agg #[.bool ss, .slice A5 n5 c5, .int .i64 se], .int .i64 P, .bool up] w' fun r w'' => ∃ A6 n6 c6, r = .returned (.tuple #[.agg #[.bool ds, .slice A6 n6 c6, .int .i64 de], .bool true]) ∧ Arr w'' A6 n6 c6 (wd dm) ∧ Below W9.heap.size W9 w'' := (by intro w' hb; refine (CU w' hb).mono ?_; rintro r w'' hr; obtain ⟨A6, n6, c6, rfl, h6, hb6⟩ := retD_some2 hr; exact ⟨A6, n6, c6, rfl, h6, below_on hb hb6⟩); have MU : ∀ A6 n6 c6 w', Below W9.heap.size W9 w' → Calls Tryz.prog 43 #[.pointer (some ⟨g, 0, none⟩), .agg #[.bool ds, .slice A6 n6 c6, .int .i64 de], .bool true] w' fun r w'' => r = .returned (.agg #[.bool ds, .slice A6 n6 c6, .int .i64 de]) ∧ Below w'.heap.size w' w'' ∧ Below W9.heap.size W9 w'' := (by intro A6 n6 c6 w' hb; refine (must_ok g ds A6 n6 c6 de w').mono ?_; rintro r w'' ⟨rfl, h2⟩; exact ⟨rfl, h2, below_on hb h2⟩); have K8 : ∀ w', Below W9.heap.size W9 w' → ((w'.cell? ⟨k9, 0, none⟩ = some (.bool ss) ∧ w'.cell? ⟨k9, 1, none⟩ = some (.slice A5 n5 c5) ∧ w'.cell? ⟨k9, 2, none⟩ = some (.int .i64 se)) ∧ w'.cell? ⟨g, 0, none⟩ = some (.int .i64 P)) := (fun w' hb => ⟨⟨(x9.later hb).cell 0, (x9.later hb).cell 1, (x9.later hb).cell 2⟩, (sm.k.later hb).cells.1⟩); have K9 : ∀ w', Below W9.heap.size W9 w' → ∀ v0 v1 v2 W2, W2 = (((w'.setCell ⟨w.heap.size + 2, 0, none⟩ v0).setCell ⟨w.heap.size + 2, 1, none⟩ v1).setCell ⟨w.heap.size + 2, 2, none⟩ v2) → ((W2.cell? ⟨k9, 0, none⟩ = some (.bool ss) ∧ W2.cell? ⟨k9, 1, none⟩ = some (.slice A5 n5 c5) ∧ W2.cell? ⟨k9, 2, none⟩ = some (.int .i64 se)) ∧ W2.cell? ⟨g, 0, none⟩ = some (.int .i64 P)) := (by rintro w' hb v0 v1 v2 _ rfl; have lk := sm.ne; have lm := sm.below.size; have y9 := (((x9.later hb).apart (show k9 ≠ w.heap.size + 2 by omega) 0 v0).apart (show k9 ≠ w.heap.size + 2 by omega) 1 v1).apart (show k9 ≠ w.heap.size + 2 by omega) 2 v2; have yg := ((Box.apart (sm.k.later hb) (show g ≠ w.heap.size + 2 by omega) 0 v0).apart (show g ≠ w.heap.size + 2 by omega) 1 v1).apart (show g ≠ w.heap.size + 2 by omega) 2 v2; exact ⟨⟨y9.cell 0, y9.cell 1, y9.cell 2⟩, yg.cell 0⟩); have RA := (fun w' A6 n6 c6 (h6 : Arr w' A6 n6 c6 (wd dm)) (hb : Below W9.heap.size W9 w') => retA_set (w := w) (d := ⟨ds, dm, de⟩) h6 (sm.r.later hb) (below_on sm.below hb) (show w.heap.size ≤ w.heap.size + 2 by omega)); have XR := (fun w' (hb : Below W9.heap.size W9 w') => (sm.r.later hb).cell3); obtain ⟨⟨z0, z1, z2⟩, z3⟩ := K8 W9 (below_self _); have K8 := Lib.hid K8; have K9 := Lib.hid K9; have CU2 := Lib.hid CU2; have MU := Lib.hid MU; have RA := Lib.hid RA; have XR := Lib.hid XR; clear CU; go_wp2_with fail; go_region_held3 (fun w' => ((w'.cell? ⟨k9, 0, none⟩ = some (.bool ss) ∧ w'.cell? ⟨k9, 1, none⟩ = some (.slice A5 n5 c5) ∧ w'.cell? ⟨k9, 2, none⟩ = some (.int .i64 se)) ∧ w'.cell? ⟨g, 0, none⟩ = some (.int .i64 P))) (first | (refine K8.out _ ?_; (repeat (first | with_reducible assumption | with_reducible exact below_self _ | with_reducible refine below_drewN ?_ _ | with_reducible apply Below.drew | with_reducible refine below_alloc ?_ _)); done) | (refine K9.out _ ?_ _ _ _ _ rfl; (repeat (first | with_reducible assumption | with_reducible exact below_self _ | with_reducible refine below_drewN ?_ _ | with_reducible apply Below.drew | with_reducible refine below_alloc ?_ _)); done) | go_keep) (first | (go_at_call 76; refine (CU2.out _ ?_).mono ?_; (repeat (first | with_reducible assumption | with_reducible exact below_self _ | with_reducible refine below_drewN ?_ _ | with_reducible apply Below.drew | with_reducible refine below_alloc ?_ _)); rintro r w31 ⟨A6, n6, c6, rfl, h6, hb31⟩) | (go_at_call 43; refine (MU.out _ _ _ _ ?_).mono ?_; (repeat (first | with_reducible assumption | with_reducible exact below_self _ | with_reducible refine below_drewN ?_ _ | with_reducible apply Below.drew | with_reducible refine below_alloc ?_ _)); rintro r w32 ⟨rfl, hb312, hb32⟩; obtain ⟨i0, i1, i2, i3, i4, i5⟩ := XR.out _ hb32)); go_wp2_with fail; refine bodyPost_ret (v := .agg #[.bool ds, .slice A6 n6 c6, .int .i64 de]) ?_ rfl (RA.out _ _ _ _ (h6.below hb312) hb32); (simp [results, Tryz.results35, go_sem, i0, i1, i2]))
end Go.Proofs.YteffemhapnbaeaaGreatDoor
