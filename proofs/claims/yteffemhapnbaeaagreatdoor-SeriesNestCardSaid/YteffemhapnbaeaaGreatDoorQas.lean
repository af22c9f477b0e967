/- Walks and laws that the claim's row needs. No conditions. -/
import Derived.Deep.RegionHeld3
import Derived.Test.YteffemhapnbaeaaGreatDoorQam
import Derived.Test.YteffemhapnbaeaaGreatDoorQar
import Derived.Test.YteffemhapnbaeaaGreatDoorQaj
import Derived.Test.YteffemhapnbaeaaGreatDoorQak
import Derived.Test.YteffemhapnbaeaaGreatDoorQao
set_option maxHeartbeats 16000000
set_option linter.unusedSimpArgs false
set_option linter.unusedVariables false
namespace Go.Proofs.YteffemhapnbaeaaGreatDoor
open Go.RowKit
theorem Bj {P : Program} {ops : Array Oper} {Q : Exit → Act → World → Prop} {md : Region.Mode} {S : World → Prop} {v : Value} {fuel : Nat} {listed : Array Bool} {a : Act} {w : World} (i d : Nat) {op ty po af gu} (hi : ops[i]? = some ⟨some d, op, ty, po, af, gu⟩)
(h : wpAnyH P md ops (NoPanic Q) S fuel (listed.setIfInBounds i true) (a.put (some d) v) w)
(hs : Region.noSelect ops = true := by kernel_rfl) (hf : Region.free md ops listed i = true := by kernel_rfl) (hr : (Region.ready md ops listed).contains i = true := by kernel_rfl) (hw : Region.wanted ⟨some d, op, ty, po, af, gu⟩ (yielded ops a.tmps) = true := by rfl)
(hy : ∀ w, S w → (execOp a.eval ⟨some d, op, ty, po, af, gu⟩).run P w = .ok (.value v) w := by intro w hSw; (try dsimp only at hSw); go_simp; (try with_reducible rfl)) (hS : S w := by assumption) : wpAnyH P md ops (NoPanic Q) S (fuel + 1) listed a w :=
wpAnyH_take hi hs hf hr (fun _ _ _ h => h) (Or.inl ⟨hw, hy⟩) hS h
theorem Bw {P : Program} {ops : Array Oper} {Q : Exit → Act → World → Prop} {md : Region.Mode} {S : World → Prop} {fuel : Nat} {listed : Array Bool} {a : Act} {w : World} (i : Nat) {o : Oper} (ho : ops[i]? = some o)
(h : ∀ K' : Act → World → Prop, Shut (∀ a w, S w → (S w → wpAnyH P md ops Q S fuel (listed.setIfInBounds i true) a w) → K' a w) → if Region.wanted o (yielded ops a.tmps) = true then Oper.wp P o a w K' Q else K' (a.put o.dst undef) w)
(hr : Region.ready md ops listed = [i] := by kernel_rfl) : wpAnyH P md ops Q S (fuel + 1) listed a w :=
wpAnyH_ready hr (by simp) (AllReadyH.cons ho h AllReadyH.nil)
theorem Cn {P : Program} {ops : Array Oper} {Q : Exit → Act → World → Prop} {md : Region.Mode} {S : World → Prop} {fuel : Nat} {listed : Array Bool} {a : Act} {w : World} (h : Q .normal a w) (hr : Region.ready md ops listed = [] := by kernel_rfl) : wpAnyH P md ops (NoPanic Q) S fuel listed a w :=
wpAnyH_done hr (NoPanic.normal h) _
open Go.RowKit Num
set_option maxRecDepth 100000
theorem Bb1 {o : Oper} {a : Act} {w : World} {K : Act → World → Prop} {Q : Exit → Act → World → Prop} {yy : Nat → Option Bool} (hgd : o.guard = none) (ty : TypeId) (x y : Operand) (ho : o.op = .store ty x y)
  (hd : o.dst = none) (g : Nat) (cells : Array Value) {old : Array Value} {t : TypeId} (hb : Box w g old t) (hx : a.eval x = .pointer (some ⟨g, 0, none⟩)) (hy : a.eval y = .agg cells)
  (hi : (Tryz.prog.info? ty).map (·.size) = some cells.size) (hold : old.size = cells.size) (h1 : cells.all (·.oneCell') = true)
  (h : ∀ W', Box W' g cells t → w.grownBy W' (some g) → K a W') : if Region.wanted o yy = true then Oper.wp Tryz.prog o a w K Q else K (a.put o.dst undef) w := by
 rw [if_pos (by simp only [Region.wanted, hgd])]
 refine wp_store_row ty x y ho g cells hx hy t old hb.heap hi hold h1 ?_
 rw [hd]
 refine h _ ⟨setRow_heap w g old cells t (0, 0) hb.heap⟩ ?_
 exact ⟨rfl, rfl, rfl, by simp [World.setRow], fun i hi hne => setRow_other w g i cells (fun hh => hne (by rw [hh]))⟩
theorem Bz {o : Oper} {a : Act} {w : World} {K : Act → World → Prop} {Q : Exit → Act → World → Prop} {yy : Nat → Option Bool} (hgd : o.guard = none) (x y : Operand) (ho : o.op = .store 28 x y)
  (hd : o.dst = none) (g : Nat) (p : Bool) (A : Option Addr) (n c : Nat) (e : Int) (q : Bool) (A' : Option Addr) (n' c' : Nat) (f : Int) {v0 v1 v2 v3 v4 v5 : Value} {t : TypeId} (hb : Box w g #[v0, v1, v2, v3, v4, v5] t) (hx : a.eval x = .pointer (some ⟨g, 0, none⟩)) (hy : a.eval y = (.agg #[.bool p, .slice A n c, .int .i64 e, .bool q, .slice A' n' c', .int .i64 f]))
  (h : ∀ W', Box W' g #[.bool p, .slice A n c, .int .i64 e, .bool q, .slice A' n' c', .int .i64 f] t → w.grownBy W' (some g) → K a W') : if Region.wanted o yy = true then Oper.wp Tryz.prog o a w K Q else K (a.put o.dst undef) w :=
 Bb1 hgd _ x y ho hd g _ hb hx hy (by kernel_rfl) rfl (by simp [Value.oneCell']) h
theorem Fz {o : Oper} {a : Act} {w : World} {K : Act → World → Prop} {Q : Exit → Act → World → Prop} {yy : Nat → Option Bool} (hgd : o.guard = none) (x y : Operand) (ho : o.op = .store 26 x y)
  (hd : o.dst = none) (g : Nat) (p : Bool) (A : Option Addr) (n c : Nat) (e : Int) {v0 v1 v2 : Value} {t : TypeId} (hb : Box w g #[v0, v1, v2] t) (hx : a.eval x = .pointer (some ⟨g, 0, none⟩)) (hy : a.eval y = .agg #[.bool p, .slice A n c, .int .i64 e])
  (h : ∀ W', Box W' g #[.bool p, .slice A n c, .int .i64 e] t → w.grownBy W' (some g) → K a W') : if Region.wanted o yy = true then Oper.wp Tryz.prog o a w K Q else K (a.put o.dst undef) w :=
 Bb1 hgd _ x y ho hd g _ hb hx hy (by kernel_rfl) rfl (by simp [Value.oneCell']) h
def Fj (d : Dy) : Int := if d.m = 0 then -1048576 else bl d.m + d.e
theorem Bgh (neg : Bool) (A : Option Addr) (n c : Nat) (m e : Int) (w : World) (h : Arr w A n c (wd m)) (hm : 0 ≤ m) (hn : n ≤ 1000000) (he0 : -1000000 ≤ e) (he1 : e ≤ 1000000) :
  Calls Tryz.prog 74 #[.agg #[.bool neg, .slice A n c, .int .i64 e]] w fun r w' => r = .returned (.int .i64 (Fj ⟨neg, m, e⟩)) ∧ Below w.heap.size w w' := by
 have bx := Bg w #[.bool neg, .slice A n c, .int .i64 e] 26
 obtain ⟨k0, k1, k2, f0, f1, f2⟩ := bx.cell3
 have b0 := Ba (Bb w) (.cells #[.bool neg, .slice A n c, .int .i64 e] 26)
 have hl := h.len
 by_cases h0 : n = 0
 ·subst h0
  have hz : m = 0 := by
   have h1 := wd_eq_nil.1 (List.length_eq_zero_iff.1 hl)
   omega
  have ht : Fj ⟨neg, m, e⟩ = -1048576 := if_pos hz
  rw [ht]
  clear hz ht hl
  go_enter Tryz.func74, Tryz.ntmps74
  go_wp2_with fail
  go_ret
  exact ⟨rfl, b0⟩
 ·have hz : m ≠ 0 := by
   intro h1
   subst h1
   rw [wd_zero (Int.le_refl _)] at hl
   exact h0 hl.symm
  have ht : Fj ⟨neg, m, e⟩ = bl m + e := if_neg hz
  rw [ht]
  have NB := Be (fun w' (hb : Below w.heap.size w w') => Ui A n c (wd m) w' (h.below hb) (by omega))
  have NB := NB.out
  rw [val_wd m hm] at NB
  have NB := Be NB
  have hb0 := Df m
  have hb1 := Gc (v := m) (a := 64 * n) hm (by rw [← B_pow_pw, ← hl]; have := val_lt h.wf; rwa [val_wd m hm] at this)
  have hqq : IntKind.i64.wrap (bl m + e) = bl m + e := by rw [IntKind.wrap_i64]; omega
  have hn0 : ((n : Int) == 0) = false := by simp; omega
  clear ht hz hl hb1
  generalize bl m = q at *
  go_enter Tryz.func74, Tryz.ntmps74
  go_wp2_with fail
  go_region_with (first | (go_at_call 98; refine (NB.out _ ((by repeat with_reducible (first | assumption | exact Bb _ | refine Bd ?_ _ | apply Below.drew | refine Ba ?_ _)))).mono ?_; rintro r w' ⟨rfl, rfl⟩))
  all_goals
   go_wp2
   go_ret
   exact ⟨rfl, (by repeat with_reducible (first | assumption | exact Bb _ | refine Bd ?_ _ | apply Below.drew | refine Ba ?_ _))⟩
def Fd (d : Dy) : DV := ⟨d.neg, none, (wd d.m).length, 0, wd d.m, d.e⟩
def Qi (a b : Dy) : Option Dy := To [Fd a, Fd b]
theorem Lm (a b : Dy) (A A' : Option Addr) (n c n' c' : Nat) (hn : n = (wd a.m).length) (hn' : n' = (wd b.m).length) : To [⟨a.neg, A, n, c, wd a.m, a.e⟩, ⟨b.neg, A', n', c', wd b.m, b.e⟩] = Qi a b := by
 subst hn hn'
 rfl
def Zo (a b : Dy) : Dy := if Fj a < Fj b then b else a
def Zq (a b : Dy) : Dy := if Fj a < Fj b then a else b
def Bey (P : Int) (a b : Dy) : Int := min (Zo a b).e (Fj (Zo a b) - P) - 3
def Bez (P : Int) (a b : Dy) : Option Dy := if (Zq a b).m ≠ 0 ∧ Fj (Zq a b) < Bey P a b then mkD (Zq a b).neg 1 (Bey P a b) else some (Zq a b)
def Kq (d : Dy) (P : Int) (up : Bool) : Option Dy := Du d.neg (wd d.m) d.e P up
def Le (P : Int) (up : Bool) (a b : Dy) : Option Dy := (Bez P a b).bind fun t => (Qi (Zo a b) t).bind fun s => Kq s P up
theorem PlD.bounds {D : Dy} (h : PlD D) : (wd D.m).length ≤ 256 ∧ -262144 ≤ D.e ∧ D.e ≤ 262144 ∧ 0 ≤ D.m ∧ (D.m = 0 → D = Dy.zero) := by
 obtain ⟨p, m, e⟩ := D
 obtain ⟨h1, h2⟩ := h
 have h1 : Bq p (wd m) e = true := h1
 have h2 : 0 ≤ m := h2
 have q := Bm (wf_wd m h2) h1
 rw [val_wd _ h2] at q
 refine ⟨q.2.1, q.1.lo, q.1.hi, h2, fun hz => ?_⟩
 have hz : m = 0 := hz
 obtain ⟨e1, e2⟩ := q.1.z hz
 have e1 : e = 0 := e1
 have e2 : p = false := e2
 subst hz e1 e2
 rfl
theorem Rk {D : Dy} (h : PlD D) : -1048576 ≤ Fj D ∧ Fj D ≤ 16384 + 262144 := by
 obtain ⟨h1, h2, h3, h4, -⟩ := h.bounds
 unfold Fj
 have b0 := Df D.m
 have b1 := Gc (v := D.m) (a := 16384) h4 (by
  have := lt_pow_of_wd_length h4 h1
  rw [B_pow_pw] at this
  exact this)
 split <;> omega
variable {tw : TypeId}
structure Sm (w : World) (g kg ks : Nat) (P : Int) (bad : Bool) (t : TypeId) (p q pg ps : Bool) (A A' Ag As : Option Addr) (n c n' c' ng cg ns cs : Nat) (x y xg xs e f eg es : Int) (W : World) : Prop where
 a : Box W w.heap.size #[.bool p, .slice A n c, .int .i64 e] 26
 b : Box W (w.heap.size + 1) #[.bool q, .slice A' n' c', .int .i64 f] 26
 r : Box W (w.heap.size + 2) #[.bool false, .slice none 0 0, .int .i64 0] 26
 G : Box W kg #[.bool pg, .slice Ag ng cg, .int .i64 eg] 26
 S : Box W ks #[.bool ps, .slice As ns cs, .int .i64 es] 26
 k : Wk W g P bad t
 aa : Arr W A n c (wd x)
 ab : Arr W A' n' c' (wd y)
 aG : Arr W Ag ng cg (wd xg)
 aS : Arr W As ns cs (wd xs)
 tz : Tz W
 below : Below w.heap.size w W
 ne : kg ≠ ks ∧ w.heap.size + 2 < kg ∧ w.heap.size + 2 < ks ∧ g < w.heap.size
section
variable {w W W' : World} {g kg ks : Nat} {P : Int} {bad : Bool} {t : TypeId} {p q pg ps : Bool} {A A' Ag As : Option Addr} {n c n' c' ng cg ns cs : Nat} {x y xg xs e f eg es : Int}
theorem Sm.later (s : Sm w g kg ks P bad t p q pg ps A A' Ag As n c n' c' ng cg ns cs x y xg xs e f eg es W) (hb : Below W.heap.size W W') : Sm w g kg ks P bad t p q pg ps A A' Ag As n c n' c' ng cg ns cs x y xg xs e f eg es W' :=
 ⟨s.a.later hb, s.b.later hb, s.r.later hb, s.G.later hb, s.S.later hb, s.k.later hb, s.aa.below hb, s.ab.below hb, s.aG.below hb, s.aS.below hb, s.tz.below hb, Bc s.below hb, s.ne⟩
theorem Bax {w w' : World} {k : Nat} {s : Bool} {A : Option Addr} {n c : Nat} {e : Int} {t : TypeId} (hT : Tz w) (hb : Box w k #[.bool s, .slice A n c, .int .i64 e] t) (hg : w.grownBy w' (some k)) : Tz w' := by
 have hne : 2 ≠ k := by
  intro hh
  subst hh
  have h0 := hT.tab 0 (by decide)
  rw [hb.cell 0] at h0
  simp at h0
 refine ⟨fun j hj => ?_⟩
 have h1 := hT.tab j hj
 have hlt := World.block_lt_of_cell? (w := w) (a := ⟨2, j, none⟩) h1
 rw [World.cell?_of_block (w := w) (w' := w') (hg.block _ hlt (by simpa using hne))]
 exact h1
theorem Xc {s : Bool} {A : Option Addr} {n c : Nat} {e : Int} : ∀ (i : Nat) (x : Int), (#[.bool s, .slice A n c, .int .i64 e] : Array Value)[i]? ≠ some (Value.int .u64 x) := no3 (by simp) (by simp) (by simp)
theorem Mt {w0 w w' : World} {g : Nat} (h : Below w0.heap.size w0 w) (hg : w.grownBy w' (some g)) (hge : w0.heap.size ≤ g) : Below w0.heap.size w0 w' :=
 h.trans (Cf hg h.size (fun k hk => by cases hk; exact hge))
theorem Sm.putG {p2 : Bool} {A2 : Option Addr} {n2 c2 : Nat} {x2 e2 : Int} (s : Sm w g kg ks P bad t p q pg ps A A' Ag As n c n' c' ng cg ns cs x y xg xs e f eg es W) (hb : Box W' kg #[.bool p2, .slice A2 n2 c2, .int .i64 e2] 26) (hg : W.grownBy W' (some kg)) (h2 : Arr W A2 n2 c2 (wd x2)) :
  Sm w g kg ks P bad t p q p2 ps A A' A2 As n c n' c' n2 c2 ns cs x y x2 xs e f e2 es W' := by
 obtain ⟨n1, n3, n4, n5⟩ := s.ne
 exact ⟨s.a.grown hg (by omega), s.b.grown hg (by omega), s.r.grown hg (by omega), hb, s.S.grown hg (by omega), s.k.other hg (by omega), s.aa.grown s.G Xc hg, s.ab.grown s.G Xc hg, h2.grown s.G Xc hg, s.aS.grown s.G Xc hg, Bax s.tz s.G hg, Mt s.below hg (by omega), s.ne⟩
theorem Sm.putS {p2 : Bool} {A2 : Option Addr} {n2 c2 : Nat} {x2 e2 : Int} (s : Sm w g kg ks P bad t p q pg ps A A' Ag As n c n' c' ng cg ns cs x y xg xs e f eg es W) (hb : Box W' ks #[.bool p2, .slice A2 n2 c2, .int .i64 e2] 26) (hg : W.grownBy W' (some ks)) (h2 : Arr W A2 n2 c2 (wd x2)) :
  Sm w g kg ks P bad t p q pg p2 A A' Ag A2 n c n' c' ng cg n2 c2 x y xg x2 e f eg e2 W' := by
 obtain ⟨n1, n3, n4, n5⟩ := s.ne
 exact ⟨s.a.grown hg (by omega), s.b.grown hg (by omega), s.r.grown hg (by omega), s.G.grown hg (by omega), hb, s.k.other hg (by omega), s.aa.grown s.S Xc hg, s.ab.grown s.S Xc hg, s.aG.grown s.S Xc hg, h2.grown s.S Xc hg, Bax s.tz s.S hg, Mt s.below hg (by omega), s.ne⟩
theorem Sm.cells (s : Sm w g kg ks P bad t p q pg ps A A' Ag As n c n' c' ng cg ns cs x y xg xs e f eg es W) : ((W.cell? ⟨w.heap.size, 0, none⟩ = some (.bool p) ∧ W.cell? ⟨w.heap.size, 1, none⟩ = some (.slice A n c) ∧ W.cell? ⟨w.heap.size, 2, none⟩ = some (.int .i64 e)) ∧ W.cell? ⟨w.heap.size + 1, 0, none⟩ = some (.bool q) ∧ W.cell? ⟨w.heap.size + 1, 1, none⟩ = some (.slice A' n' c') ∧ W.cell? ⟨w.heap.size + 1, 2, none⟩ = some (.int .i64 f)) := ⟨⟨s.a.cell 0, s.a.cell 1, s.a.cell 2⟩, s.b.cell 0, s.b.cell 1, s.b.cell 2⟩
end
theorem Bb7 (w : World) : Arr w none 0 0 (wd 0) := by rw [wd_zero (Int.le_refl _)]; exact Arr.nothing _
theorem Zp {P : Int} {up : Bool} {a b D : Dy} (h : Le P up a b = some D) : ∃ t s, Bez P a b = some t ∧ Qi (Zo a b) t = some s ∧ Kq s P up = some D := by
 unfold Le at h
 obtain ⟨t, ht, h⟩ := Option.bind_eq_some_iff.1 h
 obtain ⟨s, hs, h⟩ := Option.bind_eq_some_iff.1 h
 exact ⟨t, s, ht, hs, h⟩
theorem Bgg (p q : Bool) (A A' : Option Addr) (n c n' c' : Nat) (x y e f P : Int) (up : Bool) (g : Nat) (bad : Bool) (D : Dy) (w : World) (h : Arr w A n c (wd x)) (h' : Arr w A' n' c' (wd y)) (hT : Tz w) (hk : Wk w g P bad tw) (ha : PlD ⟨p, x, e⟩) (hb : PlD ⟨q, y, f⟩) (hP1 : 1 ≤ P) (hP2 : P ≤ 8192)
  (hD : Le P up ⟨p, x, e⟩ ⟨q, y, f⟩ = some D) :
  Calls Tryz.prog 35 #[.pointer (some ⟨g, 0, none⟩), .agg #[.bool p, .slice A n c, .int .i64 e], .agg #[.bool q, .slice A' n' c', .int .i64 f], .bool up] w (Us D w) := by
 have lg := hk.lt
 have b1 := Ba (Bb w) (.cells #[.bool p, .slice A n c, .int .i64 e] 26)
 have b2 := Ba b1 (.cells #[.bool q, .slice A' n' c', .int .i64 f] 26)
 have b3 : Below w.heap.size w (((w.alloc (.cells #[.bool p, .slice A n c, .int .i64 e] 26)).alloc (.cells #[.bool q, .slice A' n' c', .int .i64 f] 26)).alloc (.cells #[.bool false, .slice none 0 0, .int .i64 0] 26)) := Ba b2 _
 have xa := (Bg w #[.bool p, .slice A n c, .int .i64 e] 26).later (Ba (Ba (Bb _) (.cells #[.bool q, .slice A' n' c', .int .i64 f] 26)) (.cells #[.bool false, .slice none 0 0, .int .i64 0] 26))
 have xb := (Bg (w.alloc (.cells #[.bool p, .slice A n c, .int .i64 e] 26)) #[.bool q, .slice A' n' c', .int .i64 f] 26).later (Ba (Bb _) (.cells #[.bool false, .slice none 0 0, .int .i64 0] 26))
 rw [show (w.alloc (.cells #[.bool p, .slice A n c, .int .i64 e] 26)).heap.size = w.heap.size + 1 by simp] at xb
 have xr := Bg ((w.alloc (.cells #[.bool p, .slice A n c, .int .i64 e] 26)).alloc (.cells #[.bool q, .slice A' n' c', .int .i64 f] 26)) #[.bool false, .slice none 0 0, .int .i64 0] 26
 rw [show ((w.alloc (.cells #[.bool p, .slice A n c, .int .i64 e] 26)).alloc (.cells #[.bool q, .slice A' n' c', .int .i64 f] 26)).heap.size = w.heap.size + 2 by simp] at xr
 have hsz : (((w.alloc (.cells #[.bool p, .slice A n c, .int .i64 e] 26)).alloc (.cells #[.bool q, .slice A' n' c', .int .i64 f] 26)).alloc (.cells #[.bool false, .slice none 0 0, .int .i64 0] 26)).heap.size = w.heap.size + 3 := by simp
 have hA := h.below b3
 have hA' := h'.below b3
 have hT3 := hT.below b3
 have hk3 := hk.later b3
 generalize hW : (((w.alloc (.cells #[.bool p, .slice A n c, .int .i64 e] 26)).alloc (.cells #[.bool q, .slice A' n' c', .int .i64 f] 26)).alloc (.cells #[.bool false, .slice none 0 0, .int .i64 0] 26)) = W at *
 have KC : ∀ w', Below W.heap.size W w' → ((w'.cell? ⟨w.heap.size, 0, none⟩ = some (.bool p) ∧ w'.cell? ⟨w.heap.size, 1, none⟩ = some (.slice A n c) ∧ w'.cell? ⟨w.heap.size, 2, none⟩ = some (.int .i64 e)) ∧ w'.cell? ⟨w.heap.size + 1, 0, none⟩ = some (.bool q) ∧ w'.cell? ⟨w.heap.size + 1, 1, none⟩ = some (.slice A' n' c') ∧ w'.cell? ⟨w.heap.size + 1, 2, none⟩ = some (.int .i64 f)) := fun w' hb => ⟨⟨(xa.later hb).cell 0, (xa.later hb).cell 1, (xa.later hb).cell 2⟩, (xb.later hb).cell 0, (xb.later hb).cell 1, (xb.later hb).cell 2⟩
 obtain ⟨⟨j0, j1, j2⟩, j3, j4, j5⟩ := KC W (Bb _)
 have KC := Be KC
 have HW := Be hW
 have HD := Be hD
 have HSZ := Be hsz
 clear hW b1 b2 h h' hT hk hD hsz
 have S0 : ∀ kg ks, (kg = W.heap.size ∧ ks = W.heap.size + 1 ∨ kg = W.heap.size + 1 ∧ ks = W.heap.size) → Sm w g kg ks P bad tw p q false false A A' none none n c n' c' 0 0 0 0 x y 0 0 e f 0 0 ((W.alloc (.cells #[.bool false, .slice none 0 0, .int .i64 0] 26)).alloc (.cells #[.bool false, .slice none 0 0, .int .i64 0] 26)).drew := by
  intro kg ks hh
  have bb := Below.drew (Ba (Ba (Bb W) (.cells #[.bool false, .slice none 0 0, .int .i64 0] 26)) (.cells #[.bool false, .slice none 0 0, .int .i64 0] 26))
  have b1 := (Bg W #[.bool false, .slice none 0 0, .int .i64 0] 26).later (Below.drew (Ba (Bb _) (.cells #[.bool false, .slice none 0 0, .int .i64 0] 26)))
  have b2 := (Bg (W.alloc (.cells #[.bool false, .slice none 0 0, .int .i64 0] 26)) #[.bool false, .slice none 0 0, .int .i64 0] 26).later (Below.drew (Bb _))
  rw [show (W.alloc (.cells #[.bool false, .slice none 0 0, .int .i64 0] 26)).heap.size = W.heap.size + 1 by simp] at b2
  have hz := HSZ.out
  have A0 := Bb7 ((W.alloc (.cells #[.bool false, .slice none 0 0, .int .i64 0] 26)).alloc (.cells #[.bool false, .slice none 0 0, .int .i64 0] 26)).drew
  rcases hh with ⟨rfl, rfl⟩ | ⟨rfl, rfl⟩
  ·exact ⟨xa.later bb, xb.later bb, xr.later bb, b1, b2, hk3.later bb, hA.below bb, hA'.below bb, A0, A0, hT3.below bb, Bc b3 bb, ⟨by omega, by omega, by omega, lg⟩⟩
  ·exact ⟨xa.later bb, xb.later bb, xr.later bb, b2, b1, hk3.later bb, hA.below bb, hA'.below bb, A0, A0, hT3.below bb, Bc b3 bb, ⟨by omega, by omega, by omega, lg⟩⟩
 have S0 := Be S0
 obtain ⟨an, ae0, ae1, am, -⟩ := ha.bounds
 obtain ⟨bn, be0, be1, bm, -⟩ := hb.bounds
 simp only at an ae0 ae1 am bn be0 be1 bm
 have hn := hA.len
 have hn' := hA'.len
 have ta := Rk ha
 have tb := Rk hb
 have TA := fun w' (hh : Arr w' A n c (wd x)) => Bgh p A n c x e w' hh am (by omega) (by omega) (by omega)
 have TB := fun w' (hh : Arr w' A' n' c' (wd y)) => Bgh q A' n' c' y f w' hh bm (by omega) (by omega) (by omega)
 obtain ⟨t, s, h1, h2, h3⟩ := Zp HD.out
 obtain ⟨ss, sx, se⟩ := s
 obtain ⟨ds, dm, de⟩ := D
 have dA : decide (Fj ⟨p, x, e⟩ < Fj ⟨q, y, f⟩) = true ∨ decide (Fj ⟨p, x, e⟩ < Fj ⟨q, y, f⟩) = false := by cases decide (Fj ⟨p, x, e⟩ < Fj ⟨q, y, f⟩) <;> simp
 by_cases hlt : Fj ⟨p, x, e⟩ < Fj ⟨q, y, f⟩
 ·have eG : Zo ⟨p, x, e⟩ ⟨q, y, f⟩ = ⟨q, y, f⟩ := if_pos hlt
  have eS : Zq ⟨p, x, e⟩ ⟨q, y, f⟩ = ⟨p, x, e⟩ := if_pos hlt
  have dlt : decide (Fj ⟨p, x, e⟩ < Fj ⟨q, y, f⟩) = true := decide_eq_true hlt
  clear dA
  unfold Bez Bey at h1
  rw [eG, eS] at h1
  rw [eG] at h2
  simp only at h1
  clear eG eS HD hlt
  generalize Fj ⟨p, x, e⟩ = Ta at *
  generalize Fj ⟨q, y, f⟩ = Tb at *
  have TB := Be TB
  have TA := Be TA
  have w1 : IntKind.i64.wrap (Tb - P) = Tb - P := by rw [IntKind.wrap_i64]; omega
  obtain ⟨L, hL⟩ : ∃ L, L = min f (Tb - P) - 3 := ⟨_, rfl⟩
  have wL : IntKind.i64.wrap (min f (Tb - P) - 3) = L := by rw [IntKind.wrap_i64]; omega
  rw [← hL] at h1
  have l0 : -1100000 ≤ L := by omega
  have l1 : L ≤ 1000000 := by omega
  have HA : (x = 0 ∨ ¬ Ta < L) → Hid (Qi ⟨q, y, f⟩ ⟨p, x, e⟩ = some ⟨ss, sx, se⟩) := by
   intro hh
   rw [if_neg (by rcases hh with h | h <;> simp [h])] at h1
   cases h1
   exact h2
  have HA := Be HA
  have HC : x ≠ 0 → Ta < L → ∃ t, Hid (mkD p 1 L = some t) ∧ Hid (Qi ⟨q, y, f⟩ t = some ⟨ss, sx, se⟩) := by
   intro hy hL
   rw [if_pos ⟨hy, hL⟩] at h1
   exact ⟨_, h1, h2⟩
  have HC := Be HC
  have H1 := Be h1
  have H2 := Be h2
  have H3 := Be h3
  clear h1 h2 h3 hL xa xb xr hk3 hA hA' hT3 HSZ b3
  go_enter Tryz.func35, Tryz.ntmps35
  go_wp2_with fail
  rw [HW.out]
  refine wp_region_noPanic ?_
  refine wp_region_held_drew (S := fun w' => ((w'.cell? ⟨w.heap.size, 0, none⟩ = some (.bool p) ∧ w'.cell? ⟨w.heap.size, 1, none⟩ = some (.slice A n c) ∧ w'.cell? ⟨w.heap.size, 2, none⟩ = some (.int .i64 e)) ∧ w'.cell? ⟨w.heap.size + 1, 0, none⟩ = some (.bool q) ∧ w'.cell? ⟨w.heap.size + 1, 1, none⟩ = some (.slice A' n' c') ∧ w'.cell? ⟨w.heap.size + 1, 2, none⟩ = some (.int .i64 f))) (by kernel_rfl) (KC.out _ (Below.drew (Bb _))) (fun hHeld => ?_)
  (refine Bj 0 13 rfl ?_; (try simp only [Act.put, Bf]))
  (refine Bj 1 14 rfl ?_; (try simp only [Act.put, Bf]))
  refine wpAnyH_ready (rs := [2, 3]) (by kernel_rfl) (by simp) ?_
  refine AllReadyH.cons rfl (fun K hK => ?_) (AllReadyH.cons rfl (fun K hK => ?_) AllReadyH.nil)
  focus
   go_simp
   (refine hK.out _ _ (KC.out _ (by repeat with_reducible (first | assumption | exact Bb _ | refine Bd ?_ _ | apply Below.drew | refine Ba ?_ _))) (fun _ => ?_); clear hHeld hK K; rename_i hHeld; (try simp only [Act.put, Bf]))
   refine Bw 3 rfl (fun K hK => ?_)
   go_simp
   (refine hK.out _ _ (KC.out _ (by repeat with_reducible (first | assumption | exact Bb _ | refine Bd ?_ _ | apply Below.drew | refine Ba ?_ _))) (fun _ => ?_); clear hHeld hK K; rename_i hHeld; (try simp only [Act.put, Bf]))
   have sm := S0.out W.heap.size (W.heap.size + 1) (.inl ⟨rfl, rfl⟩)
   generalize hk2 : W.heap.size + 1 = ks at *
   generalize hk1 : W.heap.size = kg at *
   generalize ((W.alloc (.cells #[.bool false, .slice none 0 0, .int .i64 0] 26)).alloc (.cells #[.bool false, .slice none 0 0, .int .i64 0] 26)).drew = W5 at *
   clear hk1 hk2
   (refine Bw 4 rfl (fun K hK => ?_); refine Fz rfl _ _ rfl rfl kg p A n c e sm.G rfl rfl (fun W6 bG6 g6 => ?_); have sm := sm.putG bG6 g6 sm.aa; (refine hK.out _ _ (sm.cells) (fun _ => ?_); clear hHeld hK K; rename_i hHeld; (try simp only [Act.put, Bf])); refine Bw 5 rfl (fun K hK => ?_); refine Fz rfl _ _ rfl rfl ks q A' n' c' f sm.S rfl rfl (fun W7 bS7 g7 => ?_); have sm := sm.putS bS7 g7 sm.ab; (refine hK.out _ _ (sm.cells) (fun _ => ?_); clear hHeld hK K; rename_i hHeld; (try simp only [Act.put, Bf])); refine wpAnyH_done (by kernel_rfl) ?_ _)
  rotate_left
  focus
   go_simp
   (refine hK.out _ _ (KC.out _ (by repeat with_reducible (first | assumption | exact Bb _ | refine Bd ?_ _ | apply Below.drew | refine Ba ?_ _))) (fun _ => ?_); clear hHeld hK K; rename_i hHeld; (try simp only [Act.put, Bf]))
   refine Bw 2 rfl (fun K hK => ?_)
   go_simp
   (refine hK.out _ _ (KC.out _ (by repeat with_reducible (first | assumption | exact Bb _ | refine Bd ?_ _ | apply Below.drew | refine Ba ?_ _))) (fun _ => ?_); clear hHeld hK K; rename_i hHeld; (try simp only [Act.put, Bf]))
   have sm := S0.out (W.heap.size + 1) W.heap.size (.inr ⟨rfl, rfl⟩)
   generalize hk2 : W.heap.size + 1 = kg at *
   generalize hk1 : W.heap.size = ks at *
   generalize ((W.alloc (.cells #[.bool false, .slice none 0 0, .int .i64 0] 26)).alloc (.cells #[.bool false, .slice none 0 0, .int .i64 0] 26)).drew = W5 at *
   clear hk1 hk2
   (refine Bw 4 rfl (fun K hK => ?_); refine Fz rfl _ _ rfl rfl kg p A n c e sm.G rfl rfl (fun W6 bG6 g6 => ?_); have sm := sm.putG bG6 g6 sm.aa; (refine hK.out _ _ (sm.cells) (fun _ => ?_); clear hHeld hK K; rename_i hHeld; (try simp only [Act.put, Bf])); refine Bw 5 rfl (fun K hK => ?_); refine Fz rfl _ _ rfl rfl ks q A' n' c' f sm.S rfl rfl (fun W7 bS7 g7 => ?_); have sm := sm.putS bS7 g7 sm.ab; (refine hK.out _ _ (sm.cells) (fun _ => ?_); clear hHeld hK K; rename_i hHeld; (try simp only [Act.put, Bf])); refine wpAnyH_done (by kernel_rfl) ?_ _)
  all_goals
   refine NoPanic.normal ?_
   have gl := sm.G.lt
   obtain ⟨⟨q0, q1, q2⟩, q3, q4, q5⟩ := sm.cells
   clear hHeld KC S0 j0 j1 j2 j3 j4 j5 bG6 bS7 g6 g7
   go_wp2_with fail
   go_region_held3 (fun w' => ((w'.cell? ⟨w.heap.size, 0, none⟩ = some (.bool p) ∧ w'.cell? ⟨w.heap.size, 1, none⟩ = some (.slice A n c) ∧ w'.cell? ⟨w.heap.size, 2, none⟩ = some (.int .i64 e)) ∧ w'.cell? ⟨w.heap.size + 1, 0, none⟩ = some (.bool q) ∧ w'.cell? ⟨w.heap.size + 1, 1, none⟩ = some (.slice A' n' c') ∧ w'.cell? ⟨w.heap.size + 1, 2, none⟩ = some (.int .i64 f))) (first | (exact Sm.cells (sm.later (by repeat with_reducible (first | assumption | exact Bb _ | refine Bd ?_ _ | apply Below.drew | refine Ba ?_ _)))) | go_keep) (first | (go_at_call_of 74 (Value.agg #[Value.bool p, Value.slice A n c, Value.int IntKind.i64 e]); refine (TA.out _ (Arr.below sm.aa (by repeat with_reducible (first | assumption | exact Bb _ | refine Bd ?_ _ | apply Below.drew | refine Ba ?_ _)))).mono ?_; rintro r w8 ⟨rfl, hb8⟩; have sm := sm.later (Bc (by repeat with_reducible (first | assumption | exact Bb _ | refine Bd ?_ _ | apply Below.drew | refine Ba ?_ _)) hb8)) | (go_at_call_of 74 (Value.agg #[Value.bool q, Value.slice A' n' c', Value.int IntKind.i64 f]); refine (TB.out _ (Arr.below sm.ab (by repeat with_reducible (first | assumption | exact Bb _ | refine Bd ?_ _ | apply Below.drew | refine Ba ?_ _)))).mono ?_; rintro r w9 ⟨rfl, hb9⟩; have sm := sm.later (Bc (by repeat with_reducible (first | assumption | exact Bb _ | refine Bd ?_ _ | apply Below.drew | refine Ba ?_ _)) hb9)))
   go_wp2_with fail
   refine wp_region_noPanic ?_
   refine wp_region_held_drew (S := fun w' => ((w'.cell? ⟨w.heap.size, 0, none⟩ = some (.bool p) ∧ w'.cell? ⟨w.heap.size, 1, none⟩ = some (.slice A n c) ∧ w'.cell? ⟨w.heap.size, 2, none⟩ = some (.int .i64 e)) ∧ w'.cell? ⟨w.heap.size + 1, 0, none⟩ = some (.bool q) ∧ w'.cell? ⟨w.heap.size + 1, 1, none⟩ = some (.slice A' n' c') ∧ w'.cell? ⟨w.heap.size + 1, 2, none⟩ = some (.int .i64 f))) (by kernel_rfl) (sm.later (Below.drew (Bb _))).cells (fun hHeld => ?_)
   have sm := sm.later (Below.drew (Bb _))
   (refine Bj 0 20 rfl ?_; (try simp only [Act.put, Bf]))
   (refine Bj 1 21 rfl ?_; (try simp only [Act.put, Bf]))
   refine Bw 2 rfl (fun K hK => ?_)
   refine Fz rfl _ _ rfl rfl kg q A' n' c' f sm.G rfl rfl (fun W16 bG6 g6 => ?_)
   have sm := sm.putG bG6 g6 sm.ab
   (refine hK.out _ _ (sm.cells) (fun _ => ?_); clear hHeld hK K; rename_i hHeld; (try simp only [Act.put, Bf]))
   refine Bw 3 rfl (fun K hK => ?_)
   refine Fz rfl _ _ rfl rfl ks p A n c e sm.S rfl rfl (fun W17 bS7 g7 => ?_)
   have sm := sm.putS bS7 g7 sm.aa
   (refine hK.out _ _ (sm.cells) (fun _ => ?_); clear hHeld hK K; rename_i hHeld; (try simp only [Act.put, Bf]))
   refine Cn ?_
   clear hHeld bG6 bS7 g6 g7
   obtain ⟨u0, u1, u2, -⟩ := sm.G.cell3
   obtain ⟨v0, v1, v2, -⟩ := sm.S.cell3
   have kP := sm.k.cells.1
   go_wp2_with fail
   go_region_held3 (fun w' => ((w'.cell? ⟨kg, 0, none⟩ = some (.bool q) ∧ w'.cell? ⟨kg, 1, none⟩ = some (.slice A' n' c') ∧ w'.cell? ⟨kg, 2, none⟩ = some (.int .i64 f)) ∧ w'.cell? ⟨g, 0, none⟩ = some (.int .i64 P))) (first | (exact ⟨⟨(sm.later (by repeat with_reducible (first | assumption | exact Bb _ | refine Bd ?_ _ | apply Below.drew | refine Ba ?_ _))).G.cell 0, (sm.later (by repeat with_reducible (first | assumption | exact Bb _ | refine Bd ?_ _ | apply Below.drew | refine Ba ?_ _))).G.cell 1, (sm.later (by repeat with_reducible (first | assumption | exact Bb _ | refine Bd ?_ _ | apply Below.drew | refine Ba ?_ _))).G.cell 2⟩, (sm.later (by repeat with_reducible (first | assumption | exact Bb _ | refine Bd ?_ _ | apply Below.drew | refine Ba ?_ _))).k.cells.1⟩) | go_keep) (first | (go_at_call 74; refine (TB.out _ (Arr.below sm.aG (by repeat with_reducible (first | assumption | exact Bb _ | refine Bd ?_ _ | apply Below.drew | refine Ba ?_ _)))).mono ?_; rintro r w10 ⟨rfl, hb10⟩; have sm := sm.later (Bc (by repeat with_reducible (first | assumption | exact Bb _ | refine Bd ?_ _ | apply Below.drew | refine Ba ?_ _)) hb10)))
   obtain ⟨v0, v1, v2, -⟩ := sm.S.cell3
   clear u0 u1 u2
   by_cases h0 : n = 0
   ·have d0 : decide ((n : Int) > 0) = false := by simp; omega
    have d0' : decide (0 < n) = false := by simp; omega
    have H2 : Hid (Qi ⟨q, y, f⟩ ⟨p, x, e⟩ = some ⟨ss, sx, se⟩) := HA.out (.inl (by
     have h1 := wd_eq_nil.1 (List.length_eq_zero_iff.1 (hn.trans h0))
     omega))
    subst h0
    obtain ⟨wX, rfl⟩ : ∃ wX, wX = w10 := ⟨_, rfl⟩
    (obtain ⟨u0, u1, u2, -⟩ := sm.G.cell3; obtain ⟨v0, v1, v2, -⟩ := sm.S.cell3)
    go_wp2_with fail
    (have bq := Ba (Bb wX) (.cells #[.bool q, .slice A' n' c', .int .i64 f, .bool p, .slice A 0 c, .int .i64 e] 26); have dv := Ha q p A' A n' c' 0 c _ _ f e sm.aG sm.aS 26; have DS := Bbi wX.heap.size 2 _ rfl _ dv (by decide) (sm.tz.below bq); rw [Lm ⟨q, y, f⟩ ⟨p, x, e⟩ A' A n' c' 0 c sm.aG.len.symm sm.aS.len.symm, H2.out] at DS; have DS := Be DS; have sm := sm.later bq; clear dv; refine DS.out.mono ?_; rintro r w20 hr; obtain ⟨A5, n5, c5, rfl, a5, hb20⟩ := Cx hr; clear hr; have sm := sm.later hb20; go_wp2_with fail; refine (Fb g _ A5 n5 c5 _ w20).mono ?_; rintro r w21 ⟨rfl, hb21⟩; have sm := sm.later hb21; have a5 := a5.below hb21; have lq := sm.r.lt; go_wp2_with fail; obtain ⟨W9, k9, e1, e2, x9, a9, b9, l9⟩ := Da (w := w21) (s := ss) (f := se) a5 (Bb _); rw [← e1, ← e2]; have sm := sm.later b9; clear e1 e2 u0 u1 u2 v0 v1 v2; have lr := sm.r.lt; have CU := fun w' (hb : Below W9.heap.size W9 w') => Wl ss A5 n5 c5 (wd sx) se P up w' (a9.below hb) (sm.tz.below hb); have hcut : Du ss (wd sx) se P up = some ⟨ds, dm, de⟩ := H3.out; rw [hcut] at CU; clear hcut; have CU2 : ∀ w', Below W9.heap.size W9 w' → Calls Tryz.prog 76 #[.agg #[.bool ss, .slice A5 n5 c5, .int .i64 se], .int .i64 P, .bool up] w' fun r w'' => ∃ A6 n6 c6, r = .returned (.tuple #[.agg #[.bool ds, .slice A6 n6 c6, .int .i64 de], .bool true]) ∧ Arr w'' A6 n6 c6 (wd dm) ∧ Below W9.heap.size W9 w'' := (by intro w' hb; refine (CU w' hb).mono ?_; rintro r w'' hr; obtain ⟨A6, n6, c6, rfl, h6, hb6⟩ := Cx hr; exact ⟨A6, n6, c6, rfl, h6, Bc hb hb6⟩); have MU : ∀ A6 n6 c6 w', Below W9.heap.size W9 w' → Calls Tryz.prog 43 #[.pointer (some ⟨g, 0, none⟩), .agg #[.bool ds, .slice A6 n6 c6, .int .i64 de], .bool true] w' fun r w'' => r = .returned (.agg #[.bool ds, .slice A6 n6 c6, .int .i64 de]) ∧ Below w'.heap.size w' w'' ∧ Below W9.heap.size W9 w'' := (by intro A6 n6 c6 w' hb; refine (Fb g ds A6 n6 c6 de w').mono ?_; rintro r w'' ⟨rfl, h2⟩; exact ⟨rfl, h2, Bc hb h2⟩); have K8 : ∀ w', Below W9.heap.size W9 w' → ((w'.cell? ⟨k9, 0, none⟩ = some (.bool ss) ∧ w'.cell? ⟨k9, 1, none⟩ = some (.slice A5 n5 c5) ∧ w'.cell? ⟨k9, 2, none⟩ = some (.int .i64 se)) ∧ w'.cell? ⟨g, 0, none⟩ = some (.int .i64 P)) := (fun w' hb => ⟨⟨(x9.later hb).cell 0, (x9.later hb).cell 1, (x9.later hb).cell 2⟩, (sm.k.later hb).cells.1⟩); have K9 : ∀ w', Below W9.heap.size W9 w' → ∀ v0 v1 v2 W2, W2 = (((w'.setCell ⟨w.heap.size + 2, 0, none⟩ v0).setCell ⟨w.heap.size + 2, 1, none⟩ v1).setCell ⟨w.heap.size + 2, 2, none⟩ v2) → ((W2.cell? ⟨k9, 0, none⟩ = some (.bool ss) ∧ W2.cell? ⟨k9, 1, none⟩ = some (.slice A5 n5 c5) ∧ W2.cell? ⟨k9, 2, none⟩ = some (.int .i64 se)) ∧ W2.cell? ⟨g, 0, none⟩ = some (.int .i64 P)) := (by rintro w' hb v0 v1 v2 _ rfl; have lk := sm.ne; have lm := sm.below.size; have y9 := (((x9.later hb).apart (show k9 ≠ w.heap.size + 2 by omega) 0 v0).apart (show k9 ≠ w.heap.size + 2 by omega) 1 v1).apart (show k9 ≠ w.heap.size + 2 by omega) 2 v2; have yg := ((Box.apart (sm.k.later hb) (show g ≠ w.heap.size + 2 by omega) 0 v0).apart (show g ≠ w.heap.size + 2 by omega) 1 v1).apart (show g ≠ w.heap.size + 2 by omega) 2 v2; exact ⟨⟨y9.cell 0, y9.cell 1, y9.cell 2⟩, yg.cell 0⟩); have RA := (fun w' A6 n6 c6 (h6 : Arr w' A6 n6 c6 (wd dm)) (hb : Below W9.heap.size W9 w') => Hs (w := w) (d := ⟨ds, dm, de⟩) h6 (sm.r.later hb) (Bc sm.below hb) (show w.heap.size ≤ w.heap.size + 2 by omega)); have XR := (fun w' (hb : Below W9.heap.size W9 w') => (sm.r.later hb).cell3); obtain ⟨⟨z0, z1, z2⟩, z3⟩ := K8 W9 (Bb _); have K8 := Be K8; have K9 := Be K9; have CU2 := Be CU2; have MU := Be MU; have RA := Be RA; have XR := Be XR; clear CU; go_wp2_with fail; go_region_held3 (fun w' => ((w'.cell? ⟨k9, 0, none⟩ = some (.bool ss) ∧ w'.cell? ⟨k9, 1, none⟩ = some (.slice A5 n5 c5) ∧ w'.cell? ⟨k9, 2, none⟩ = some (.int .i64 se)) ∧ w'.cell? ⟨g, 0, none⟩ = some (.int .i64 P))) (first | (refine K8.out _ ?_; (repeat with_reducible (first | assumption | exact Bb _ | refine Bd ?_ _ | apply Below.drew | refine Ba ?_ _)); done) | (refine K9.out _ ?_ _ _ _ _ rfl; (repeat with_reducible (first | assumption | exact Bb _ | refine Bd ?_ _ | apply Below.drew | refine Ba ?_ _)); done) | go_keep) (first | (go_at_call 76; refine (CU2.out _ ?_).mono ?_; (repeat with_reducible (first | assumption | exact Bb _ | refine Bd ?_ _ | apply Below.drew | refine Ba ?_ _)); rintro r w31 ⟨A6, n6, c6, rfl, h6, hb31⟩) | (go_at_call 43; refine (MU.out _ _ _ _ ?_).mono ?_; (repeat with_reducible (first | assumption | exact Bb _ | refine Bd ?_ _ | apply Below.drew | refine Ba ?_ _)); rintro r w32 ⟨rfl, hb312, hb32⟩; obtain ⟨i0, i1, i2, i3, i4, i5⟩ := XR.out _ hb32)); go_wp2_with fail; refine bodyPost_ret (v := .agg #[.bool ds, .slice A6 n6 c6, .int .i64 de]) ?_ rfl (RA.out _ _ _ _ (h6.below hb312) hb32); (simp [results, Tryz.results35, go_sem, i0, i1, i2]))
   ·have d0 : decide ((n : Int) > 0) = true := by simp; omega
    have d0' : decide (0 < n) = true := by simp; omega
    by_cases hL : Ta < L
    ·have dL : decide (Ta < L) = true := decide_eq_true hL
     obtain ⟨⟨ts, tm, te⟩, hmk, H2⟩ := HC.out (by
      intro hy
      subst hy
      rw [wd_zero (Int.le_refl _)] at hn
      exact h0 hn.symm) hL
     go_wp2_with fail
     refine (TA.out _ sm.aS).mono ?_
     rintro r w11 ⟨rfl, hb11⟩
     have sm := sm.later hb11
     clear v0 v1 v2
     obtain ⟨v0, v1, v2, vf0, vf1, vf2⟩ := sm.S.cell3
     have bu := Ba (Bb w11) (.cells #[.int .u64 1] 51)
     have MK := Hv p _ 1 1 [1] L _ (Db (w := w11) (g := w11.heap.size) rfl 1 (by decide) (by decide)) (by decide) (by omega) (by omega) (sm.tz.below bu)
     rw [Ds, hmk.out] at MK
     have MK := Be MK
     have sm := sm.later bu
     go_wp2_with fail
     refine MK.out.mono ?_
     rintro r w12 hr
     obtain ⟨A8, n8, c8, rfl, a8, hb12⟩ := Cx hr
     clear hr
     have sm := sm.later hb12
     go_wp2_with fail
     refine (Fb g _ A8 n8 c8 _ w12).mono ?_
     rintro r w13 ⟨rfl, hb13⟩
     have sm := sm.later hb13
     have a8 := a8.below hb13
     clear v0 v1 v2 vf0 vf1 vf2
     go_wp2_with (refine Fk rfl _ _ rfl rfl ks ts A8 n8 c8 te sm.S rfl rfl (fun wX bS8 gS8 => ?_); have sm := sm.putS bS8 gS8 a8; (obtain ⟨u0, u1, u2, -⟩ := sm.G.cell3; obtain ⟨v0, v1, v2, -⟩ := sm.S.cell3))
     (have bq := Ba (Bb wX) (.cells #[.bool q, .slice A' n' c', .int .i64 f, .bool ts, .slice A8 n8 c8, .int .i64 te] 26); have dv := Ha q ts A' A8 n' c' n8 c8 _ _ f te sm.aG sm.aS 26; have DS := Bbi wX.heap.size 2 _ rfl _ dv (by decide) (sm.tz.below bq); rw [Lm ⟨q, y, f⟩ ⟨ts, tm, te⟩ A' A8 n' c' n8 c8 sm.aG.len.symm sm.aS.len.symm, H2.out] at DS; have DS := Be DS; have sm := sm.later bq; clear dv; refine DS.out.mono ?_; rintro r w20 hr; obtain ⟨A5, n5, c5, rfl, a5, hb20⟩ := Cx hr; clear hr; have sm := sm.later hb20; go_wp2_with fail; refine (Fb g _ A5 n5 c5 _ w20).mono ?_; rintro r w21 ⟨rfl, hb21⟩; have sm := sm.later hb21; have a5 := a5.below hb21; have lq := sm.r.lt; go_wp2_with fail; obtain ⟨W9, k9, e1, e2, x9, a9, b9, l9⟩ := Da (w := w21) (s := ss) (f := se) a5 (Bb _); rw [← e1, ← e2]; have sm := sm.later b9; clear e1 e2 u0 u1 u2 v0 v1 v2; have lr := sm.r.lt; have CU := fun w' (hb : Below W9.heap.size W9 w') => Wl ss A5 n5 c5 (wd sx) se P up w' (a9.below hb) (sm.tz.below hb); have hcut : Du ss (wd sx) se P up = some ⟨ds, dm, de⟩ := H3.out; rw [hcut] at CU; clear hcut; have CU2 : ∀ w', Below W9.heap.size W9 w' → Calls Tryz.prog 76 #[.agg #[.bool ss, .slice A5 n5 c5, .int .i64 se], .int .i64 P, .bool up] w' fun r w'' => ∃ A6 n6 c6, r = .returned (.tuple #[.agg #[.bool ds, .slice A6 n6 c6, .int .i64 de], .bool true]) ∧ Arr w'' A6 n6 c6 (wd dm) ∧ Below W9.heap.size W9 w'' := (by intro w' hb; refine (CU w' hb).mono ?_; rintro r w'' hr; obtain ⟨A6, n6, c6, rfl, h6, hb6⟩ := Cx hr; exact ⟨A6, n6, c6, rfl, h6, Bc hb hb6⟩); have MU : ∀ A6 n6 c6 w', Below W9.heap.size W9 w' → Calls Tryz.prog 43 #[.pointer (some ⟨g, 0, none⟩), .agg #[.bool ds, .slice A6 n6 c6, .int .i64 de], .bool true] w' fun r w'' => r = .returned (.agg #[.bool ds, .slice A6 n6 c6, .int .i64 de]) ∧ Below w'.heap.size w' w'' ∧ Below W9.heap.size W9 w'' := (by intro A6 n6 c6 w' hb; refine (Fb g ds A6 n6 c6 de w').mono ?_; rintro r w'' ⟨rfl, h2⟩; exact ⟨rfl, h2, Bc hb h2⟩); have K8 : ∀ w', Below W9.heap.size W9 w' → ((w'.cell? ⟨k9, 0, none⟩ = some (.bool ss) ∧ w'.cell? ⟨k9, 1, none⟩ = some (.slice A5 n5 c5) ∧ w'.cell? ⟨k9, 2, none⟩ = some (.int .i64 se)) ∧ w'.cell? ⟨g, 0, none⟩ = some (.int .i64 P)) := (fun w' hb => ⟨⟨(x9.later hb).cell 0, (x9.later hb).cell 1, (x9.later hb).cell 2⟩, (sm.k.later hb).cells.1⟩); have K9 : ∀ w', Below W9.heap.size W9 w' → ∀ v0 v1 v2 W2, W2 = (((w'.setCell ⟨w.heap.size + 2, 0, none⟩ v0).setCell ⟨w.heap.size + 2, 1, none⟩ v1).setCell ⟨w.heap.size + 2, 2, none⟩ v2) → ((W2.cell? ⟨k9, 0, none⟩ = some (.bool ss) ∧ W2.cell? ⟨k9, 1, none⟩ = some (.slice A5 n5 c5) ∧ W2.cell? ⟨k9, 2, none⟩ = some (.int .i64 se)) ∧ W2.cell? ⟨g, 0, none⟩ = some (.int .i64 P)) := (by rintro w' hb v0 v1 v2 _ rfl; have lk := sm.ne; have lm := sm.below.size; have y9 := (((x9.later hb).apart (show k9 ≠ w.heap.size + 2 by omega) 0 v0).apart (show k9 ≠ w.heap.size + 2 by omega) 1 v1).apart (show k9 ≠ w.heap.size + 2 by omega) 2 v2; have yg := ((Box.apart (sm.k.later hb) (show g ≠ w.heap.size + 2 by omega) 0 v0).apart (show g ≠ w.heap.size + 2 by omega) 1 v1).apart (show g ≠ w.heap.size + 2 by omega) 2 v2; exact ⟨⟨y9.cell 0, y9.cell 1, y9.cell 2⟩, yg.cell 0⟩); have RA := (fun w' A6 n6 c6 (h6 : Arr w' A6 n6 c6 (wd dm)) (hb : Below W9.heap.size W9 w') => Hs (w := w) (d := ⟨ds, dm, de⟩) h6 (sm.r.later hb) (Bc sm.below hb) (show w.heap.size ≤ w.heap.size + 2 by omega)); have XR := (fun w' (hb : Below W9.heap.size W9 w') => (sm.r.later hb).cell3); obtain ⟨⟨z0, z1, z2⟩, z3⟩ := K8 W9 (Bb _); have K8 := Be K8; have K9 := Be K9; have CU2 := Be CU2; have MU := Be MU; have RA := Be RA; have XR := Be XR; clear CU; go_wp2_with fail; go_region_held3 (fun w' => ((w'.cell? ⟨k9, 0, none⟩ = some (.bool ss) ∧ w'.cell? ⟨k9, 1, none⟩ = some (.slice A5 n5 c5) ∧ w'.cell? ⟨k9, 2, none⟩ = some (.int .i64 se)) ∧ w'.cell? ⟨g, 0, none⟩ = some (.int .i64 P))) (first | (refine K8.out _ ?_; (repeat with_reducible (first | assumption | exact Bb _ | refine Bd ?_ _ | apply Below.drew | refine Ba ?_ _)); done) | (refine K9.out _ ?_ _ _ _ _ rfl; (repeat with_reducible (first | assumption | exact Bb _ | refine Bd ?_ _ | apply Below.drew | refine Ba ?_ _)); done) | go_keep) (first | (go_at_call 76; refine (CU2.out _ ?_).mono ?_; (repeat with_reducible (first | assumption | exact Bb _ | refine Bd ?_ _ | apply Below.drew | refine Ba ?_ _)); rintro r w31 ⟨A6, n6, c6, rfl, h6, hb31⟩) | (go_at_call 43; refine (MU.out _ _ _ _ ?_).mono ?_; (repeat with_reducible (first | assumption | exact Bb _ | refine Bd ?_ _ | apply Below.drew | refine Ba ?_ _)); rintro r w32 ⟨rfl, hb312, hb32⟩; obtain ⟨i0, i1, i2, i3, i4, i5⟩ := XR.out _ hb32)); go_wp2_with fail; refine bodyPost_ret (v := .agg #[.bool ds, .slice A6 n6 c6, .int .i64 de]) ?_ rfl (RA.out _ _ _ _ (h6.below hb312) hb32); (simp [results, Tryz.results35, go_sem, i0, i1, i2]))
    ·have dL : decide (Ta < L) = false := decide_eq_false hL
     have H2 := HA.out (.inr (by omega))
     go_wp2_with fail
     refine (TA.out _ sm.aS).mono ?_
     rintro r wX ⟨rfl, hb11⟩
     have sm := sm.later hb11
     clear v0 v1 v2
     (obtain ⟨u0, u1, u2, -⟩ := sm.G.cell3; obtain ⟨v0, v1, v2, -⟩ := sm.S.cell3)
     go_wp2_with fail
     (have bq := Ba (Bb wX) (.cells #[.bool q, .slice A' n' c', .int .i64 f, .bool p, .slice A n c, .int .i64 e] 26); have dv := Ha q p A' A n' c' n c _ _ f e sm.aG sm.aS 26; have DS := Bbi wX.heap.size 2 _ rfl _ dv (by decide) (sm.tz.below bq); rw [Lm ⟨q, y, f⟩ ⟨p, x, e⟩ A' A n' c' n c sm.aG.len.symm sm.aS.len.symm, H2.out] at DS; have DS := Be DS; have sm := sm.later bq; clear dv; refine DS.out.mono ?_; rintro r w20 hr; obtain ⟨A5, n5, c5, rfl, a5, hb20⟩ := Cx hr; clear hr; have sm := sm.later hb20; go_wp2_with fail; refine (Fb g _ A5 n5 c5 _ w20).mono ?_; rintro r w21 ⟨rfl, hb21⟩; have sm := sm.later hb21; have a5 := a5.below hb21; have lq := sm.r.lt; go_wp2_with fail; obtain ⟨W9, k9, e1, e2, x9, a9, b9, l9⟩ := Da (w := w21) (s := ss) (f := se) a5 (Bb _); rw [← e1, ← e2]; have sm := sm.later b9; clear e1 e2 u0 u1 u2 v0 v1 v2; have lr := sm.r.lt; have CU := fun w' (hb : Below W9.heap.size W9 w') => Wl ss A5 n5 c5 (wd sx) se P up w' (a9.below hb) (sm.tz.below hb); have hcut : Du ss (wd sx) se P up = some ⟨ds, dm, de⟩ := H3.out; rw [hcut] at CU; clear hcut; have CU2 : ∀ w', Below W9.heap.size W9 w' → Calls Tryz.prog 76 #[.agg #[.bool ss, .slice A5 n5 c5, .int .i64 se], .int .i64 P, .bool up] w' fun r w'' => ∃ A6 n6 c6, r = .returned (.tuple #[.agg #[.bool ds, .slice A6 n6 c6, .int .i64 de], .bool true]) ∧ Arr w'' A6 n6 c6 (wd dm) ∧ Below W9.heap.size W9 w'' := (by intro w' hb; refine (CU w' hb).mono ?_; rintro r w'' hr; obtain ⟨A6, n6, c6, rfl, h6, hb6⟩ := Cx hr; exact ⟨A6, n6, c6, rfl, h6, Bc hb hb6⟩); have MU : ∀ A6 n6 c6 w', Below W9.heap.size W9 w' → Calls Tryz.prog 43 #[.pointer (some ⟨g, 0, none⟩), .agg #[.bool ds, .slice A6 n6 c6, .int .i64 de], .bool true] w' fun r w'' => r = .returned (.agg #[.bool ds, .slice A6 n6 c6, .int .i64 de]) ∧ Below w'.heap.size w' w'' ∧ Below W9.heap.size W9 w'' := (by intro A6 n6 c6 w' hb; refine (Fb g ds A6 n6 c6 de w').mono ?_; rintro r w'' ⟨rfl, h2⟩; exact ⟨rfl, h2, Bc hb h2⟩); have K8 : ∀ w', Below W9.heap.size W9 w' → ((w'.cell? ⟨k9, 0, none⟩ = some (.bool ss) ∧ w'.cell? ⟨k9, 1, none⟩ = some (.slice A5 n5 c5) ∧ w'.cell? ⟨k9, 2, none⟩ = some (.int .i64 se)) ∧ w'.cell? ⟨g, 0, none⟩ = some (.int .i64 P)) := (fun w' hb => ⟨⟨(x9.later hb).cell 0, (x9.later hb).cell 1, (x9.later hb).cell 2⟩, (sm.k.later hb).cells.1⟩); have K9 : ∀ w', Below W9.heap.size W9 w' → ∀ v0 v1 v2 W2, W2 = (((w'.setCell ⟨w.heap.size + 2, 0, none⟩ v0).setCell ⟨w.heap.size + 2, 1, none⟩ v1).setCell ⟨w.heap.size + 2, 2, none⟩ v2) → ((W2.cell? ⟨k9, 0, none⟩ = some (.bool ss) ∧ W2.cell? ⟨k9, 1, none⟩ = some (.slice A5 n5 c5) ∧ W2.cell? ⟨k9, 2, none⟩ = some (.int .i64 se)) ∧ W2.cell? ⟨g, 0, none⟩ = some (.int .i64 P)) := (by rintro w' hb v0 v1 v2 _ rfl; have lk := sm.ne; have lm := sm.below.size; have y9 := (((x9.later hb).apart (show k9 ≠ w.heap.size + 2 by omega) 0 v0).apart (show k9 ≠ w.heap.size + 2 by omega) 1 v1).apart (show k9 ≠ w.heap.size + 2 by omega) 2 v2; have yg := ((Box.apart (sm.k.later hb) (show g ≠ w.heap.size + 2 by omega) 0 v0).apart (show g ≠ w.heap.size + 2 by omega) 1 v1).apart (show g ≠ w.heap.size + 2 by omega) 2 v2; exact ⟨⟨y9.cell 0, y9.cell 1, y9.cell 2⟩, yg.cell 0⟩); have RA := (fun w' A6 n6 c6 (h6 : Arr w' A6 n6 c6 (wd dm)) (hb : Below W9.heap.size W9 w') => Hs (w := w) (d := ⟨ds, dm, de⟩) h6 (sm.r.later hb) (Bc sm.below hb) (show w.heap.size ≤ w.heap.size + 2 by omega)); have XR := (fun w' (hb : Below W9.heap.size W9 w') => (sm.r.later hb).cell3); obtain ⟨⟨z0, z1, z2⟩, z3⟩ := K8 W9 (Bb _); have K8 := Be K8; have K9 := Be K9; have CU2 := Be CU2; have MU := Be MU; have RA := Be RA; have XR := Be XR; clear CU; go_wp2_with fail; go_region_held3 (fun w' => ((w'.cell? ⟨k9, 0, none⟩ = some (.bool ss) ∧ w'.cell? ⟨k9, 1, none⟩ = some (.slice A5 n5 c5) ∧ w'.cell? ⟨k9, 2, none⟩ = some (.int .i64 se)) ∧ w'.cell? ⟨g, 0, none⟩ = some (.int .i64 P))) (first | (refine K8.out _ ?_; (repeat with_reducible (first | assumption | exact Bb _ | refine Bd ?_ _ | apply Below.drew | refine Ba ?_ _)); done) | (refine K9.out _ ?_ _ _ _ _ rfl; (repeat with_reducible (first | assumption | exact Bb _ | refine Bd ?_ _ | apply Below.drew | refine Ba ?_ _)); done) | go_keep) (first | (go_at_call 76; refine (CU2.out _ ?_).mono ?_; (repeat with_reducible (first | assumption | exact Bb _ | refine Bd ?_ _ | apply Below.drew | refine Ba ?_ _)); rintro r w31 ⟨A6, n6, c6, rfl, h6, hb31⟩) | (go_at_call 43; refine (MU.out _ _ _ _ ?_).mono ?_; (repeat with_reducible (first | assumption | exact Bb _ | refine Bd ?_ _ | apply Below.drew | refine Ba ?_ _)); rintro r w32 ⟨rfl, hb312, hb32⟩; obtain ⟨i0, i1, i2, i3, i4, i5⟩ := XR.out _ hb32)); go_wp2_with fail; refine bodyPost_ret (v := .agg #[.bool ds, .slice A6 n6 c6, .int .i64 de]) ?_ rfl (RA.out _ _ _ _ (h6.below hb312) hb32); (simp [results, Tryz.results35, go_sem, i0, i1, i2]))
 ·have eG : Zo ⟨p, x, e⟩ ⟨q, y, f⟩ = ⟨p, x, e⟩ := if_neg hlt
  have eS : Zq ⟨p, x, e⟩ ⟨q, y, f⟩ = ⟨q, y, f⟩ := if_neg hlt
  have dlt : decide (Fj ⟨p, x, e⟩ < Fj ⟨q, y, f⟩) = false := decide_eq_false hlt
  clear dA
  unfold Bez Bey at h1
  rw [eG, eS] at h1
  rw [eG] at h2
  simp only at h1
  clear eG eS HD hlt
  generalize Fj ⟨p, x, e⟩ = Ta at *
  generalize Fj ⟨q, y, f⟩ = Tb at *
  have TA := Be TA
  have TB := Be TB
  have w1 : IntKind.i64.wrap (Ta - P) = Ta - P := by rw [IntKind.wrap_i64]; omega
  obtain ⟨L, hL⟩ : ∃ L, L = min e (Ta - P) - 3 := ⟨_, rfl⟩
  have wL : IntKind.i64.wrap (min e (Ta - P) - 3) = L := by rw [IntKind.wrap_i64]; omega
  rw [← hL] at h1
  have l0 : -1100000 ≤ L := by omega
  have l1 : L ≤ 1000000 := by omega
  have HA : (y = 0 ∨ ¬ Tb < L) → Hid (Qi ⟨p, x, e⟩ ⟨q, y, f⟩ = some ⟨ss, sx, se⟩) := by
   intro hh
   rw [if_neg (by rcases hh with h | h <;> simp [h])] at h1
   cases h1
   exact h2
  have HA := Be HA
  have HC : y ≠ 0 → Tb < L → ∃ t, Hid (mkD q 1 L = some t) ∧ Hid (Qi ⟨p, x, e⟩ t = some ⟨ss, sx, se⟩) := by
   intro hy hL
   rw [if_pos ⟨hy, hL⟩] at h1
   exact ⟨_, h1, h2⟩
  have HC := Be HC
  have H1 := Be h1
  have H2 := Be h2
  have H3 := Be h3
  clear h1 h2 h3 hL xa xb xr hk3 hA hA' hT3 HSZ b3
  go_enter Tryz.func35, Tryz.ntmps35
  go_wp2_with fail
  rw [HW.out]
  refine wp_region_noPanic ?_
  refine wp_region_held_drew (S := fun w' => ((w'.cell? ⟨w.heap.size, 0, none⟩ = some (.bool p) ∧ w'.cell? ⟨w.heap.size, 1, none⟩ = some (.slice A n c) ∧ w'.cell? ⟨w.heap.size, 2, none⟩ = some (.int .i64 e)) ∧ w'.cell? ⟨w.heap.size + 1, 0, none⟩ = some (.bool q) ∧ w'.cell? ⟨w.heap.size + 1, 1, none⟩ = some (.slice A' n' c') ∧ w'.cell? ⟨w.heap.size + 1, 2, none⟩ = some (.int .i64 f))) (by kernel_rfl) (KC.out _ (Below.drew (Bb _))) (fun hHeld => ?_)
  (refine Bj 0 13 rfl ?_; (try simp only [Act.put, Bf]))
  (refine Bj 1 14 rfl ?_; (try simp only [Act.put, Bf]))
  refine wpAnyH_ready (rs := [2, 3]) (by kernel_rfl) (by simp) ?_
  refine AllReadyH.cons rfl (fun K hK => ?_) (AllReadyH.cons rfl (fun K hK => ?_) AllReadyH.nil)
  focus
   go_simp
   (refine hK.out _ _ (KC.out _ (by repeat with_reducible (first | assumption | exact Bb _ | refine Bd ?_ _ | apply Below.drew | refine Ba ?_ _))) (fun _ => ?_); clear hHeld hK K; rename_i hHeld; (try simp only [Act.put, Bf]))
   refine Bw 3 rfl (fun K hK => ?_)
   go_simp
   (refine hK.out _ _ (KC.out _ (by repeat with_reducible (first | assumption | exact Bb _ | refine Bd ?_ _ | apply Below.drew | refine Ba ?_ _))) (fun _ => ?_); clear hHeld hK K; rename_i hHeld; (try simp only [Act.put, Bf]))
   have sm := S0.out W.heap.size (W.heap.size + 1) (.inl ⟨rfl, rfl⟩)
   generalize hk2 : W.heap.size + 1 = ks at *
   generalize hk1 : W.heap.size = kg at *
   generalize ((W.alloc (.cells #[.bool false, .slice none 0 0, .int .i64 0] 26)).alloc (.cells #[.bool false, .slice none 0 0, .int .i64 0] 26)).drew = W5 at *
   clear hk1 hk2
   (refine Bw 4 rfl (fun K hK => ?_); refine Fz rfl _ _ rfl rfl kg p A n c e sm.G rfl rfl (fun W6 bG6 g6 => ?_); have sm := sm.putG bG6 g6 sm.aa; (refine hK.out _ _ (sm.cells) (fun _ => ?_); clear hHeld hK K; rename_i hHeld; (try simp only [Act.put, Bf])); refine Bw 5 rfl (fun K hK => ?_); refine Fz rfl _ _ rfl rfl ks q A' n' c' f sm.S rfl rfl (fun W7 bS7 g7 => ?_); have sm := sm.putS bS7 g7 sm.ab; (refine hK.out _ _ (sm.cells) (fun _ => ?_); clear hHeld hK K; rename_i hHeld; (try simp only [Act.put, Bf])); refine wpAnyH_done (by kernel_rfl) ?_ _)
  rotate_left
  focus
   go_simp
   (refine hK.out _ _ (KC.out _ (by repeat with_reducible (first | assumption | exact Bb _ | refine Bd ?_ _ | apply Below.drew | refine Ba ?_ _))) (fun _ => ?_); clear hHeld hK K; rename_i hHeld; (try simp only [Act.put, Bf]))
   refine Bw 2 rfl (fun K hK => ?_)
   go_simp
   (refine hK.out _ _ (KC.out _ (by repeat with_reducible (first | assumption | exact Bb _ | refine Bd ?_ _ | apply Below.drew | refine Ba ?_ _))) (fun _ => ?_); clear hHeld hK K; rename_i hHeld; (try simp only [Act.put, Bf]))
   have sm := S0.out (W.heap.size + 1) W.heap.size (.inr ⟨rfl, rfl⟩)
   generalize hk2 : W.heap.size + 1 = kg at *
   generalize hk1 : W.heap.size = ks at *
   generalize ((W.alloc (.cells #[.bool false, .slice none 0 0, .int .i64 0] 26)).alloc (.cells #[.bool false, .slice none 0 0, .int .i64 0] 26)).drew = W5 at *
   clear hk1 hk2
   (refine Bw 4 rfl (fun K hK => ?_); refine Fz rfl _ _ rfl rfl kg p A n c e sm.G rfl rfl (fun W6 bG6 g6 => ?_); have sm := sm.putG bG6 g6 sm.aa; (refine hK.out _ _ (sm.cells) (fun _ => ?_); clear hHeld hK K; rename_i hHeld; (try simp only [Act.put, Bf])); refine Bw 5 rfl (fun K hK => ?_); refine Fz rfl _ _ rfl rfl ks q A' n' c' f sm.S rfl rfl (fun W7 bS7 g7 => ?_); have sm := sm.putS bS7 g7 sm.ab; (refine hK.out _ _ (sm.cells) (fun _ => ?_); clear hHeld hK K; rename_i hHeld; (try simp only [Act.put, Bf])); refine wpAnyH_done (by kernel_rfl) ?_ _)
  all_goals
   refine NoPanic.normal ?_
   have gl := sm.G.lt
   obtain ⟨⟨q0, q1, q2⟩, q3, q4, q5⟩ := sm.cells
   clear hHeld KC S0 j0 j1 j2 j3 j4 j5 bG6 bS7 g6 g7
   go_wp2_with fail
   go_region_held3 (fun w' => ((w'.cell? ⟨w.heap.size, 0, none⟩ = some (.bool p) ∧ w'.cell? ⟨w.heap.size, 1, none⟩ = some (.slice A n c) ∧ w'.cell? ⟨w.heap.size, 2, none⟩ = some (.int .i64 e)) ∧ w'.cell? ⟨w.heap.size + 1, 0, none⟩ = some (.bool q) ∧ w'.cell? ⟨w.heap.size + 1, 1, none⟩ = some (.slice A' n' c') ∧ w'.cell? ⟨w.heap.size + 1, 2, none⟩ = some (.int .i64 f))) (first | (exact Sm.cells (sm.later (by repeat with_reducible (first | assumption | exact Bb _ | refine Bd ?_ _ | apply Below.drew | refine Ba ?_ _)))) | go_keep) (first | (go_at_call_of 74 (Value.agg #[Value.bool p, Value.slice A n c, Value.int IntKind.i64 e]); refine (TA.out _ (Arr.below sm.aa (by repeat with_reducible (first | assumption | exact Bb _ | refine Bd ?_ _ | apply Below.drew | refine Ba ?_ _)))).mono ?_; rintro r w8 ⟨rfl, hb8⟩; have sm := sm.later (Bc (by repeat with_reducible (first | assumption | exact Bb _ | refine Bd ?_ _ | apply Below.drew | refine Ba ?_ _)) hb8)) | (go_at_call_of 74 (Value.agg #[Value.bool q, Value.slice A' n' c', Value.int IntKind.i64 f]); refine (TB.out _ (Arr.below sm.ab (by repeat with_reducible (first | assumption | exact Bb _ | refine Bd ?_ _ | apply Below.drew | refine Ba ?_ _)))).mono ?_; rintro r w9 ⟨rfl, hb9⟩; have sm := sm.later (Bc (by repeat with_reducible (first | assumption | exact Bb _ | refine Bd ?_ _ | apply Below.drew | refine Ba ?_ _)) hb9)))
   obtain ⟨u0, u1, u2, -⟩ := sm.G.cell3
   obtain ⟨v0, v1, v2, -⟩ := sm.S.cell3
   have kP := sm.k.cells.1
   go_wp2_with fail
   go_region_held3 (fun w' => ((w'.cell? ⟨kg, 0, none⟩ = some (.bool p) ∧ w'.cell? ⟨kg, 1, none⟩ = some (.slice A n c) ∧ w'.cell? ⟨kg, 2, none⟩ = some (.int .i64 e)) ∧ w'.cell? ⟨g, 0, none⟩ = some (.int .i64 P))) (first | (exact ⟨⟨(sm.later (by repeat with_reducible (first | assumption | exact Bb _ | refine Bd ?_ _ | apply Below.drew | refine Ba ?_ _))).G.cell 0, (sm.later (by repeat with_reducible (first | assumption | exact Bb _ | refine Bd ?_ _ | apply Below.drew | refine Ba ?_ _))).G.cell 1, (sm.later (by repeat with_reducible (first | assumption | exact Bb _ | refine Bd ?_ _ | apply Below.drew | refine Ba ?_ _))).G.cell 2⟩, (sm.later (by repeat with_reducible (first | assumption | exact Bb _ | refine Bd ?_ _ | apply Below.drew | refine Ba ?_ _))).k.cells.1⟩) | go_keep) (first | (go_at_call 74; refine (TA.out _ (Arr.below sm.aG (by repeat with_reducible (first | assumption | exact Bb _ | refine Bd ?_ _ | apply Below.drew | refine Ba ?_ _)))).mono ?_; rintro r w10 ⟨rfl, hb10⟩; have sm := sm.later (Bc (by repeat with_reducible (first | assumption | exact Bb _ | refine Bd ?_ _ | apply Below.drew | refine Ba ?_ _)) hb10)))
   obtain ⟨v0, v1, v2, -⟩ := sm.S.cell3
   clear u0 u1 u2
   by_cases h0 : n' = 0
   ·have d0 : decide ((n' : Int) > 0) = false := by simp; omega
    have d0' : decide (0 < n') = false := by simp; omega
    have H2 : Hid (Qi ⟨p, x, e⟩ ⟨q, y, f⟩ = some ⟨ss, sx, se⟩) := HA.out (.inl (by
     have h1 := wd_eq_nil.1 (List.length_eq_zero_iff.1 (hn'.trans h0))
     omega))
    subst h0
    obtain ⟨wX, rfl⟩ : ∃ wX, wX = w10 := ⟨_, rfl⟩
    (obtain ⟨u0, u1, u2, -⟩ := sm.G.cell3; obtain ⟨v0, v1, v2, -⟩ := sm.S.cell3)
    go_wp2_with fail
    (have bq := Ba (Bb wX) (.cells #[.bool p, .slice A n c, .int .i64 e, .bool q, .slice A' 0 c', .int .i64 f] 26); have dv := Ha p q A A' n c 0 c' _ _ e f sm.aG sm.aS 26; have DS := Bbi wX.heap.size 2 _ rfl _ dv (by decide) (sm.tz.below bq); rw [Lm ⟨p, x, e⟩ ⟨q, y, f⟩ A A' n c 0 c' sm.aG.len.symm sm.aS.len.symm, H2.out] at DS; have DS := Be DS; have sm := sm.later bq; clear dv; refine DS.out.mono ?_; rintro r w20 hr; obtain ⟨A5, n5, c5, rfl, a5, hb20⟩ := Cx hr; clear hr; have sm := sm.later hb20; go_wp2_with fail; refine (Fb g _ A5 n5 c5 _ w20).mono ?_; rintro r w21 ⟨rfl, hb21⟩; have sm := sm.later hb21; have a5 := a5.below hb21; have lq := sm.r.lt; go_wp2_with fail; obtain ⟨W9, k9, e1, e2, x9, a9, b9, l9⟩ := Da (w := w21) (s := ss) (f := se) a5 (Bb _); rw [← e1, ← e2]; have sm := sm.later b9; clear e1 e2 u0 u1 u2 v0 v1 v2; have lr := sm.r.lt; have CU := fun w' (hb : Below W9.heap.size W9 w') => Wl ss A5 n5 c5 (wd sx) se P up w' (a9.below hb) (sm.tz.below hb); have hcut : Du ss (wd sx) se P up = some ⟨ds, dm, de⟩ := H3.out; rw [hcut] at CU; clear hcut; have CU2 : ∀ w', Below W9.heap.size W9 w' → Calls Tryz.prog 76 #[.agg #[.bool ss, .slice A5 n5 c5, .int .i64 se], .int .i64 P, .bool up] w' fun r w'' => ∃ A6 n6 c6, r = .returned (.tuple #[.agg #[.bool ds, .slice A6 n6 c6, .int .i64 de], .bool true]) ∧ Arr w'' A6 n6 c6 (wd dm) ∧ Below W9.heap.size W9 w'' := (by intro w' hb; refine (CU w' hb).mono ?_; rintro r w'' hr; obtain ⟨A6, n6, c6, rfl, h6, hb6⟩ := Cx hr; exact ⟨A6, n6, c6, rfl, h6, Bc hb hb6⟩); have MU : ∀ A6 n6 c6 w', Below W9.heap.size W9 w' → Calls Tryz.prog 43 #[.pointer (some ⟨g, 0, none⟩), .agg #[.bool ds, .slice A6 n6 c6, .int .i64 de], .bool true] w' fun r w'' => r = .returned (.agg #[.bool ds, .slice A6 n6 c6, .int .i64 de]) ∧ Below w'.heap.size w' w'' ∧ Below W9.heap.size W9 w'' := (by intro A6 n6 c6 w' hb; refine (Fb g ds A6 n6 c6 de w').mono ?_; rintro r w'' ⟨rfl, h2⟩; exact ⟨rfl, h2, Bc hb h2⟩); have K8 : ∀ w', Below W9.heap.size W9 w' → ((w'.cell? ⟨k9, 0, none⟩ = some (.bool ss) ∧ w'.cell? ⟨k9, 1, none⟩ = some (.slice A5 n5 c5) ∧ w'.cell? ⟨k9, 2, none⟩ = some (.int .i64 se)) ∧ w'.cell? ⟨g, 0, none⟩ = some (.int .i64 P)) := (fun w' hb => ⟨⟨(x9.later hb).cell 0, (x9.later hb).cell 1, (x9.later hb).cell 2⟩, (sm.k.later hb).cells.1⟩); have K9 : ∀ w', Below W9.heap.size W9 w' → ∀ v0 v1 v2 W2, W2 = (((w'.setCell ⟨w.heap.size + 2, 0, none⟩ v0).setCell ⟨w.heap.size + 2, 1, none⟩ v1).setCell ⟨w.heap.size + 2, 2, none⟩ v2) → ((W2.cell? ⟨k9, 0, none⟩ = some (.bool ss) ∧ W2.cell? ⟨k9, 1, none⟩ = some (.slice A5 n5 c5) ∧ W2.cell? ⟨k9, 2, none⟩ = some (.int .i64 se)) ∧ W2.cell? ⟨g, 0, none⟩ = some (.int .i64 P)) := (by rintro w' hb v0 v1 v2 _ rfl; have lk := sm.ne; have lm := sm.below.size; have y9 := (((x9.later hb).apart (show k9 ≠ w.heap.size + 2 by omega) 0 v0).apart (show k9 ≠ w.heap.size + 2 by omega) 1 v1).apart (show k9 ≠ w.heap.size + 2 by omega) 2 v2; have yg := ((Box.apart (sm.k.later hb) (show g ≠ w.heap.size + 2 by omega) 0 v0).apart (show g ≠ w.heap.size + 2 by omega) 1 v1).apart (show g ≠ w.heap.size + 2 by omega) 2 v2; exact ⟨⟨y9.cell 0, y9.cell 1, y9.cell 2⟩, yg.cell 0⟩); have RA := (fun w' A6 n6 c6 (h6 : Arr w' A6 n6 c6 (wd dm)) (hb : Below W9.heap.size W9 w') => Hs (w := w) (d := ⟨ds, dm, de⟩) h6 (sm.r.later hb) (Bc sm.below hb) (show w.heap.size ≤ w.heap.size + 2 by omega)); have XR := (fun w' (hb : Below W9.heap.size W9 w') => (sm.r.later hb).cell3); obtain ⟨⟨z0, z1, z2⟩, z3⟩ := K8 W9 (Bb _); have K8 := Be K8; have K9 := Be K9; have CU2 := Be CU2; have MU := Be MU; have RA := Be RA; have XR := Be XR; clear CU; go_wp2_with fail; go_region_held3 (fun w' => ((w'.cell? ⟨k9, 0, none⟩ = some (.bool ss) ∧ w'.cell? ⟨k9, 1, none⟩ = some (.slice A5 n5 c5) ∧ w'.cell? ⟨k9, 2, none⟩ = some (.int .i64 se)) ∧ w'.cell? ⟨g, 0, none⟩ = some (.int .i64 P))) (first | (refine K8.out _ ?_; (repeat with_reducible (first | assumption | exact Bb _ | refine Bd ?_ _ | apply Below.drew | refine Ba ?_ _)); done) | (refine K9.out _ ?_ _ _ _ _ rfl; (repeat with_reducible (first | assumption | exact Bb _ | refine Bd ?_ _ | apply Below.drew | refine Ba ?_ _)); done) | go_keep) (first | (go_at_call 76; refine (CU2.out _ ?_).mono ?_; (repeat with_reducible (first | assumption | exact Bb _ | refine Bd ?_ _ | apply Below.drew | refine Ba ?_ _)); rintro r w31 ⟨A6, n6, c6, rfl, h6, hb31⟩) | (go_at_call 43; refine (MU.out _ _ _ _ ?_).mono ?_; (repeat with_reducible (first | assumption | exact Bb _ | refine Bd ?_ _ | apply Below.drew | refine Ba ?_ _)); rintro r w32 ⟨rfl, hb312, hb32⟩; obtain ⟨i0, i1, i2, i3, i4, i5⟩ := XR.out _ hb32)); go_wp2_with fail; refine bodyPost_ret (v := .agg #[.bool ds, .slice A6 n6 c6, .int .i64 de]) ?_ rfl (RA.out _ _ _ _ (h6.below hb312) hb32); (simp [results, Tryz.results35, go_sem, i0, i1, i2]))
   ·have d0 : decide ((n' : Int) > 0) = true := by simp; omega
    have d0' : decide (0 < n') = true := by simp; omega
    by_cases hL : Tb < L
    ·have dL : decide (Tb < L) = true := decide_eq_true hL
     obtain ⟨⟨ts, tm, te⟩, hmk, H2⟩ := HC.out (by
      intro hy
      subst hy
      rw [wd_zero (Int.le_refl _)] at hn'
      exact h0 hn'.symm) hL
     go_wp2_with fail
     refine (TB.out _ sm.aS).mono ?_
     rintro r w11 ⟨rfl, hb11⟩
     have sm := sm.later hb11
     clear v0 v1 v2
     obtain ⟨v0, v1, v2, vf0, vf1, vf2⟩ := sm.S.cell3
     have bu := Ba (Bb w11) (.cells #[.int .u64 1] 51)
     have MK := Hv q _ 1 1 [1] L _ (Db (w := w11) (g := w11.heap.size) rfl 1 (by decide) (by decide)) (by decide) (by omega) (by omega) (sm.tz.below bu)
     rw [Ds, hmk.out] at MK
     have MK := Be MK
     have sm := sm.later bu
     go_wp2_with fail
     refine MK.out.mono ?_
     rintro r w12 hr
     obtain ⟨A8, n8, c8, rfl, a8, hb12⟩ := Cx hr
     clear hr
     have sm := sm.later hb12
     go_wp2_with fail
     refine (Fb g _ A8 n8 c8 _ w12).mono ?_
     rintro r w13 ⟨rfl, hb13⟩
     have sm := sm.later hb13
     have a8 := a8.below hb13
     clear v0 v1 v2 vf0 vf1 vf2
     go_wp2_with (refine Fk rfl _ _ rfl rfl ks ts A8 n8 c8 te sm.S rfl rfl (fun wX bS8 gS8 => ?_); have sm := sm.putS bS8 gS8 a8; (obtain ⟨u0, u1, u2, -⟩ := sm.G.cell3; obtain ⟨v0, v1, v2, -⟩ := sm.S.cell3))
     (have bq := Ba (Bb wX) (.cells #[.bool p, .slice A n c, .int .i64 e, .bool ts, .slice A8 n8 c8, .int .i64 te] 26); have dv := Ha p ts A A8 n c n8 c8 _ _ e te sm.aG sm.aS 26; have DS := Bbi wX.heap.size 2 _ rfl _ dv (by decide) (sm.tz.below bq); rw [Lm ⟨p, x, e⟩ ⟨ts, tm, te⟩ A A8 n c n8 c8 sm.aG.len.symm sm.aS.len.symm, H2.out] at DS; have DS := Be DS; have sm := sm.later bq; clear dv; refine DS.out.mono ?_; rintro r w20 hr; obtain ⟨A5, n5, c5, rfl, a5, hb20⟩ := Cx hr; clear hr; have sm := sm.later hb20; go_wp2_with fail; refine (Fb g _ A5 n5 c5 _ w20).mono ?_; rintro r w21 ⟨rfl, hb21⟩; have sm := sm.later hb21; have a5 := a5.below hb21; have lq := sm.r.lt; go_wp2_with fail; obtain ⟨W9, k9, e1, e2, x9, a9, b9, l9⟩ := Da (w := w21) (s := ss) (f := se) a5 (Bb _); rw [← e1, ← e2]; have sm := sm.later b9; clear e1 e2 u0 u1 u2 v0 v1 v2; have lr := sm.r.lt; have CU := fun w' (hb : Below W9.heap.size W9 w') => Wl ss A5 n5 c5 (wd sx) se P up w' (a9.below hb) (sm.tz.below hb); have hcut : Du ss (wd sx) se P up = some ⟨ds, dm, de⟩ := H3.out; rw [hcut] at CU; clear hcut; have CU2 : ∀ w', Below W9.heap.size W9 w' → Calls Tryz.prog 76 #[.agg #[.bool ss, .slice A5 n5 c5, .int .i64 se], .int .i64 P, .bool up] w' fun r w'' => ∃ A6 n6 c6, r = .returned (.tuple #[.agg #[.bool ds, .slice A6 n6 c6, .int .i64 de], .bool true]) ∧ Arr w'' A6 n6 c6 (wd dm) ∧ Below W9.heap.size W9 w'' := (by intro w' hb; refine (CU w' hb).mono ?_; rintro r w'' hr; obtain ⟨A6, n6, c6, rfl, h6, hb6⟩ := Cx hr; exact ⟨A6, n6, c6, rfl, h6, Bc hb hb6⟩); have MU : ∀ A6 n6 c6 w', Below W9.heap.size W9 w' → Calls Tryz.prog 43 #[.pointer (some ⟨g, 0, none⟩), .agg #[.bool ds, .slice A6 n6 c6, .int .i64 de], .bool true] w' fun r w'' => r = .returned (.agg #[.bool ds, .slice A6 n6 c6, .int .i64 de]) ∧ Below w'.heap.size w' w'' ∧ Below W9.heap.size W9 w'' := (by intro A6 n6 c6 w' hb; refine (Fb g ds A6 n6 c6 de w').mono ?_; rintro r w'' ⟨rfl, h2⟩; exact ⟨rfl, h2, Bc hb h2⟩); have K8 : ∀ w', Below W9.heap.size W9 w' → ((w'.cell? ⟨k9, 0, none⟩ = some (.bool ss) ∧ w'.cell? ⟨k9, 1, none⟩ = some (.slice A5 n5 c5) ∧ w'.cell? ⟨k9, 2, none⟩ = some (.int .i64 se)) ∧ w'.cell? ⟨g, 0, none⟩ = some (.int .i64 P)) := (fun w' hb => ⟨⟨(x9.later hb).cell 0, (x9.later hb).cell 1, (x9.later hb).cell 2⟩, (sm.k.later hb).cells.1⟩); have K9 : ∀ w', Below W9.heap.size W9 w' → ∀ v0 v1 v2 W2, W2 = (((w'.setCell ⟨w.heap.size + 2, 0, none⟩ v0).setCell ⟨w.heap.size + 2, 1, none⟩ v1).setCell ⟨w.heap.size + 2, 2, none⟩ v2) → ((W2.cell? ⟨k9, 0, none⟩ = some (.bool ss) ∧ W2.cell? ⟨k9, 1, none⟩ = some (.slice A5 n5 c5) ∧ W2.cell? ⟨k9, 2, none⟩ = some (.int .i64 se)) ∧ W2.cell? ⟨g, 0, none⟩ = some (.int .i64 P)) := (by rintro w' hb v0 v1 v2 _ rfl; have lk := sm.ne; have lm := sm.below.size; have y9 := (((x9.later hb).apart (show k9 ≠ w.heap.size + 2 by omega) 0 v0).apart (show k9 ≠ w.heap.size + 2 by omega) 1 v1).apart (show k9 ≠ w.heap.size + 2 by omega) 2 v2; have yg := ((Box.apart (sm.k.later hb) (show g ≠ w.heap.size + 2 by omega) 0 v0).apart (show g ≠ w.heap.size + 2 by omega) 1 v1).apart (show g ≠ w.heap.size + 2 by omega) 2 v2; exact ⟨⟨y9.cell 0, y9.cell 1, y9.cell 2⟩, yg.cell 0⟩); have RA := (fun w' A6 n6 c6 (h6 : Arr w' A6 n6 c6 (wd dm)) (hb : Below W9.heap.size W9 w') => Hs (w := w) (d := ⟨ds, dm, de⟩) h6 (sm.r.later hb) (Bc sm.below hb) (show w.heap.size ≤ w.heap.size + 2 by omega)); have XR := (fun w' (hb : Below W9.heap.size W9 w') => (sm.r.later hb).cell3); obtain ⟨⟨z0, z1, z2⟩, z3⟩ := K8 W9 (Bb _); have K8 := Be K8; have K9 := Be K9; have CU2 := Be CU2; have MU := Be MU; have RA := Be RA; have XR := Be XR; clear CU; go_wp2_with fail; go_region_held3 (fun w' => ((w'.cell? ⟨k9, 0, none⟩ = some (.bool ss) ∧ w'.cell? ⟨k9, 1, none⟩ = some (.slice A5 n5 c5) ∧ w'.cell? ⟨k9, 2, none⟩ = some (.int .i64 se)) ∧ w'.cell? ⟨g, 0, none⟩ = some (.int .i64 P))) (first | (refine K8.out _ ?_; (repeat with_reducible (first | assumption | exact Bb _ | refine Bd ?_ _ | apply Below.drew | refine Ba ?_ _)); done) | (refine K9.out _ ?_ _ _ _ _ rfl; (repeat with_reducible (first | assumption | exact Bb _ | refine Bd ?_ _ | apply Below.drew | refine Ba ?_ _)); done) | go_keep) (first | (go_at_call 76; refine (CU2.out _ ?_).mono ?_; (repeat with_reducible (first | assumption | exact Bb _ | refine Bd ?_ _ | apply Below.drew | refine Ba ?_ _)); rintro r w31 ⟨A6, n6, c6, rfl, h6, hb31⟩) | (go_at_call 43; refine (MU.out _ _ _ _ ?_).mono ?_; (repeat with_reducible (first | assumption | exact Bb _ | refine Bd ?_ _ | apply Below.drew | refine Ba ?_ _)); rintro r w32 ⟨rfl, hb312, hb32⟩; obtain ⟨i0, i1, i2, i3, i4, i5⟩ := XR.out _ hb32)); go_wp2_with fail; refine bodyPost_ret (v := .agg #[.bool ds, .slice A6 n6 c6, .int .i64 de]) ?_ rfl (RA.out _ _ _ _ (h6.below hb312) hb32); (simp [results, Tryz.results35, go_sem, i0, i1, i2]))
    ·have dL : decide (Tb < L) = false := decide_eq_false hL
     have H2 := HA.out (.inr (by omega))
     go_wp2_with fail
     refine (TB.out _ sm.aS).mono ?_
     rintro r wX ⟨rfl, hb11⟩
     have sm := sm.later hb11
     clear v0 v1 v2
     (obtain ⟨u0, u1, u2, -⟩ := sm.G.cell3; obtain ⟨v0, v1, v2, -⟩ := sm.S.cell3)
     go_wp2_with fail
     (have bq := Ba (Bb wX) (.cells #[.bool p, .slice A n c, .int .i64 e, .bool q, .slice A' n' c', .int .i64 f] 26); have dv := Ha p q A A' n c n' c' _ _ e f sm.aG sm.aS 26; have DS := Bbi wX.heap.size 2 _ rfl _ dv (by decide) (sm.tz.below bq); rw [Lm ⟨p, x, e⟩ ⟨q, y, f⟩ A A' n c n' c' sm.aG.len.symm sm.aS.len.symm, H2.out] at DS; have DS := Be DS; have sm := sm.later bq; clear dv; refine DS.out.mono ?_; rintro r w20 hr; obtain ⟨A5, n5, c5, rfl, a5, hb20⟩ := Cx hr; clear hr; have sm := sm.later hb20; go_wp2_with fail; refine (Fb g _ A5 n5 c5 _ w20).mono ?_; rintro r w21 ⟨rfl, hb21⟩; have sm := sm.later hb21; have a5 := a5.below hb21; have lq := sm.r.lt; go_wp2_with fail; obtain ⟨W9, k9, e1, e2, x9, a9, b9, l9⟩ := Da (w := w21) (s := ss) (f := se) a5 (Bb _); rw [← e1, ← e2]; have sm := sm.later b9; clear e1 e2 u0 u1 u2 v0 v1 v2; have lr := sm.r.lt; have CU := fun w' (hb : Below W9.heap.size W9 w') => Wl ss A5 n5 c5 (wd sx) se P up w' (a9.below hb) (sm.tz.below hb); have hcut : Du ss (wd sx) se P up = some ⟨ds, dm, de⟩ := H3.out; rw [hcut] at CU; clear hcut; have CU2 : ∀ w', Below W9.heap.size W9 w' → Calls Tryz.prog 76 #[.agg #[.bool ss, .slice A5 n5 c5, .int .i64 se], .int .i64 P, .bool up] w' fun r w'' => ∃ A6 n6 c6, r = .returned (.tuple #[.agg #[.bool ds, .slice A6 n6 c6, .int .i64 de], .bool true]) ∧ Arr w'' A6 n6 c6 (wd dm) ∧ Below W9.heap.size W9 w'' := (by intro w' hb; refine (CU w' hb).mono ?_; rintro r w'' hr; obtain ⟨A6, n6, c6, rfl, h6, hb6⟩ := Cx hr; exact ⟨A6, n6, c6, rfl, h6, Bc hb hb6⟩); have MU : ∀ A6 n6 c6 w', Below W9.heap.size W9 w' → Calls Tryz.prog 43 #[.pointer (some ⟨g, 0, none⟩), .agg #[.bool ds, .slice A6 n6 c6, .int .i64 de], .bool true] w' fun r w'' => r = .returned (.agg #[.bool ds, .slice A6 n6 c6, .int .i64 de]) ∧ Below w'.heap.size w' w'' ∧ Below W9.heap.size W9 w'' := (by intro A6 n6 c6 w' hb; refine (Fb g ds A6 n6 c6 de w').mono ?_; rintro r w'' ⟨rfl, h2⟩; exact ⟨rfl, h2, Bc hb h2⟩); have K8 : ∀ w', Below W9.heap.size W9 w' → ((w'.cell? ⟨k9, 0, none⟩ = some (.bool ss) ∧ w'.cell? ⟨k9, 1, none⟩ = some (.slice A5 n5 c5) ∧ w'.cell? ⟨k9, 2, none⟩ = some (.int .i64 se)) ∧ w'.cell? ⟨g, 0, none⟩ = some (.int .i64 P)) := (fun w' hb => ⟨⟨(x9.later hb).cell 0, (x9.later hb).cell 1, (x9.later hb).cell 2⟩, (sm.k.later hb).cells.1⟩); have K9 : ∀ w', Below W9.heap.size W9 w' → ∀ v0 v1 v2 W2, W2 = (((w'.setCell ⟨w.heap.size + 2, 0, none⟩ v0).setCell ⟨w.heap.size + 2, 1, none⟩ v1).setCell ⟨w.heap.size + 2, 2, none⟩ v2) → ((W2.cell? ⟨k9, 0, none⟩ = some (.bool ss) ∧ W2.cell? ⟨k9, 1, none⟩ = some (.slice A5 n5 c5) ∧ W2.cell? ⟨k9, 2, none⟩ = some (.int .i64 se)) ∧ W2.cell? ⟨g, 0, none⟩ = some (.int .i64 P)) := (by rintro w' hb v0 v1 v2 _ rfl; have lk := sm.ne; have lm := sm.below.size; have y9 := (((x9.later hb).apart (show k9 ≠ w.heap.size + 2 by omega) 0 v0).apart (show k9 ≠ w.heap.size + 2 by omega) 1 v1).apart (show k9 ≠ w.heap.size + 2 by omega) 2 v2; have yg := ((Box.apart (sm.k.later hb) (show g ≠ w.heap.size + 2 by omega) 0 v0).apart (show g ≠ w.heap.size + 2 by omega) 1 v1).apart (show g ≠ w.heap.size + 2 by omega) 2 v2; exact ⟨⟨y9.cell 0, y9.cell 1, y9.cell 2⟩, yg.cell 0⟩); have RA := (fun w' A6 n6 c6 (h6 : Arr w' A6 n6 c6 (wd dm)) (hb : Below W9.heap.size W9 w') => Hs (w := w) (d := ⟨ds, dm, de⟩) h6 (sm.r.later hb) (Bc sm.below hb) (show w.heap.size ≤ w.heap.size + 2 by omega)); have XR := (fun w' (hb : Below W9.heap.size W9 w') => (sm.r.later hb).cell3); obtain ⟨⟨z0, z1, z2⟩, z3⟩ := K8 W9 (Bb _); have K8 := Be K8; have K9 := Be K9; have CU2 := Be CU2; have MU := Be MU; have RA := Be RA; have XR := Be XR; clear CU; go_wp2_with fail; go_region_held3 (fun w' => ((w'.cell? ⟨k9, 0, none⟩ = some (.bool ss) ∧ w'.cell? ⟨k9, 1, none⟩ = some (.slice A5 n5 c5) ∧ w'.cell? ⟨k9, 2, none⟩ = some (.int .i64 se)) ∧ w'.cell? ⟨g, 0, none⟩ = some (.int .i64 P))) (first | (refine K8.out _ ?_; (repeat with_reducible (first | assumption | exact Bb _ | refine Bd ?_ _ | apply Below.drew | refine Ba ?_ _)); done) | (refine K9.out _ ?_ _ _ _ _ rfl; (repeat with_reducible (first | assumption | exact Bb _ | refine Bd ?_ _ | apply Below.drew | refine Ba ?_ _)); done) | go_keep) (first | (go_at_call 76; refine (CU2.out _ ?_).mono ?_; (repeat with_reducible (first | assumption | exact Bb _ | refine Bd ?_ _ | apply Below.drew | refine Ba ?_ _)); rintro r w31 ⟨A6, n6, c6, rfl, h6, hb31⟩) | (go_at_call 43; refine (MU.out _ _ _ _ ?_).mono ?_; (repeat with_reducible (first | assumption | exact Bb _ | refine Bd ?_ _ | apply Below.drew | refine Ba ?_ _)); rintro r w32 ⟨rfl, hb312, hb32⟩; obtain ⟨i0, i1, i2, i3, i4, i5⟩ := XR.out _ hb32)); go_wp2_with fail; refine bodyPost_ret (v := .agg #[.bool ds, .slice A6 n6 c6, .int .i64 de]) ?_ rfl (RA.out _ _ _ _ (h6.below hb312) hb32); (simp [results, Tryz.results35, go_sem, i0, i1, i2]))
end Go.Proofs.YteffemhapnbaeaaGreatDoor
