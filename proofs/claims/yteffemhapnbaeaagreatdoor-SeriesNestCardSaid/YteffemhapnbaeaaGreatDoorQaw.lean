/- Walks and laws that the claim's row needs. No conditions. -/
import Derived.Test.YteffemhapnbaeaaGreatDoorQav
import Derived.Deep.RegionHeld3
import Derived.Test.YteffemhapnbaeaaGreatDoorQas
set_option maxHeartbeats 16000000
set_option linter.unusedSimpArgs false
set_option linter.unusedVariables false
namespace Go.Proofs.YteffemhapnbaeaaGreatDoor
open Go.RowKit Num
variable {tw : TypeId}
set_option maxRecDepth 100000
theorem Hd (D E : Dy) : Fn false (some D) (some E) = some (D, E) := by simp [Fn, Cr, Ci]
theorem bind_some {α β : Type} {o : Option α} {f : α → Option β} {c : β} (h : o.bind f = some c) : ∃ x, o = some x ∧ f x = some c := by
 cases o
 ·cases h
 ·exact ⟨_, rfl, h⟩
theorem Baz {P : Int} (h : okP P = true) : Yk false P = false := by
 obtain ⟨h1, h2⟩ := Gd h
 unfold Yk
 simp
 omega
theorem Xb {d : Dy} (h : PlD d) : Ga d.neg (wd d.m) d.e = some (Cm d) := by
 unfold Ga Cm
 rw [if_pos h.1, val_wd _ h.2]
theorem Uj {d : Dy} (h : PlD d) : Ho d.neg (wd d.m) d.e = some (Cm d) := by
 unfold Ho Cm
 rw [if_pos h.1, val_wd _ h.2]
theorem Dl {w : World} {A : Option Addr} {n k : Nat} {d : Dy} (h : Arr w A n k (wd d.m)) (hf : Dq d = true) : n ≤ 100000 := by
 have := h.len
 have := Gl hf
 omega
theorem Wc (g : Nat) (P : Int) (c : Dy × Dy) (v : Int) (w : World) (v0 : -9223372036854775808 ≤ v) (v1 : v ≤ 9223372036854775807) (hk : Wk w g P false tw) (hT : Tz w) (h : Je P v = some c) :
  Calls Tryz.prog 28 #[.pointer (some ⟨g, 0, none⟩), .int .i64 v] w (Gf c w) := by
 obtain ⟨hc, e⟩ := Cw h
 cases e
 refine (spnum g P false v w hk hT v0 v1).mono fun r w' hr => Fc hk ?_
 unfold Tx at hr
 rwa [if_neg (by rw [Baz hc]; simp)] at hr
theorem yNeg (g : Nat) (P : Int) (c : Dy × Dy) (a : Dy × Dy) (A A' : Option Addr) (n k n' k' : Nat) (w : World) (h1 : Arr w A n k (wd a.1.m)) (h2 : Arr w A' n' k' (wd a.2.m)) (hk : Wk w g P false tw) (hT : Tz w) (h : Tw P a = some c) :
  Calls Tryz.prog 39 #[.pointer (some ⟨g, 0, none⟩), (.agg #[.bool (a).1.neg, .slice A n k, .int .i64 (a).1.e, .bool (a).2.neg, .slice A' n' k', .int .i64 (a).2.e])] w (Gf c w) := by
 obtain ⟨hc, e⟩ := Cw h
 rw [Bool.and_eq_true] at hc
 obtain ⟨hp, ra⟩ := hc
 cases e
 obtain ⟨_, f1, f2⟩ := Bn ra
 refine (Bgf a.1.neg a.2.neg A A' n k n' k' _ _ a.1.e a.2.e P g false w h1 h2 hT hk).mono fun r w' hr => Fc hk ?_
 rwa [Tr hp ra, Xb (Gr ra).1, Xb (Gr ra).2, Hd] at hr
theorem Tu (g : Nat) (P : Int) (c : Dy × Dy) (a : Dy × Dy) (s : Int) (A A' : Option Addr) (n k n' k' : Nat) (w : World) (h1 : Arr w A n k (wd a.1.m)) (h2 : Arr w A' n' k' (wd a.2.m)) (hk : Wk w g P false tw) (hT : Tz w) (h : Fx P a s = some c) :
  Calls Tryz.prog 56 #[.pointer (some ⟨g, 0, none⟩), (.agg #[.bool (a).1.neg, .slice A n k, .int .i64 (a).1.e, .bool (a).2.neg, .slice A' n' k', .int .i64 (a).2.e]), .int .i64 s] w (Gf c w) := by
 obtain ⟨hc, e⟩ := Cw h
 simp only [Bool.and_eq_true, Bool.not_eq_true'] at hc
 obtain ⟨⟨hp, ra⟩, hf⟩ := hc
 obtain ⟨D, hD, e⟩ := bind_some e
 obtain ⟨E, hE, e⟩ := bind_some e
 cases e
 obtain ⟨hr0, f1, f2⟩ := Bn ra
 obtain ⟨p1, p2⟩ := Gd hp
 refine (Bfx a.1.neg a.2.neg A A' n k n' k' _ _ a.1.e a.2.e s P g false w h1 h2 hT hk).mono fun r w' hr => Fc hk ?_
 unfold Qw at hr
 rwa [val_wd _ (Cg f1).1, val_wd _ (Cg f2).1, hD, hE, hr0, hf, decide_eq_false (show ¬ P < 1 by omega), decide_eq_false (show ¬ 8192 < P by omega), show (false || false || false || !true || false) = false from rfl, Hd] at hr
theorem yOut (g : Nat) (P : Int) (c : Dy × Dy) (a : Dy × Dy) (A A' : Option Addr) (n k n' k' : Nat) (w : World) (h1 : Arr w A n k (wd a.1.m)) (h2 : Arr w A' n' k' (wd a.2.m)) (hk : Wk w g P false tw) (hT : Tz w) (h : Bbt P a = some c) :
  Calls Tryz.prog 90 #[.pointer (some ⟨g, 0, none⟩), (.agg #[.bool (a).1.neg, .slice A n k, .int .i64 (a).1.e, .bool (a).2.neg, .slice A' n' k', .int .i64 (a).2.e])] w (Gf c w) := by
 obtain ⟨hc, e⟩ := Cw h
 rw [Bool.and_eq_true] at hc
 obtain ⟨hp, ra⟩ := hc
 obtain ⟨D, hD, e⟩ := bind_some e
 obtain ⟨E, hE, e⟩ := bind_some e
 cases e
 obtain ⟨_, f1, f2⟩ := Bn ra
 refine (spout a.1.neg a.2.neg A A' n k n' k' _ _ a.1.e a.2.e P g false w h1 h2 hT hk).mono fun r w' hr => Fc hk ?_
 unfold Kq at hD hE
 rwa [Tr hp ra, hD, hE, Hd] at hr
theorem yAdd (g : Nat) (P : Int) (c : Dy × Dy) (a b : Dy × Dy) (A A' : Option Addr) (n k n' k' : Nat) (B B' : Option Addr) (m l m' l' : Nat) (w : World) (h1 : Arr w A n k (wd a.1.m)) (h2 : Arr w A' n' k' (wd a.2.m)) (h3 : Arr w B m l (wd b.1.m)) (h4 : Arr w B' m' l' (wd b.2.m)) (hk : Wk w g P false tw) (hT : Tz w) (h : Bcl P a b = some c) :
  Calls Tryz.prog 12 #[.pointer (some ⟨g, 0, none⟩), (.agg #[.bool (a).1.neg, .slice A n k, .int .i64 (a).1.e, .bool (a).2.neg, .slice A' n' k', .int .i64 (a).2.e]), (.agg #[.bool (b).1.neg, .slice B m l, .int .i64 (b).1.e, .bool (b).2.neg, .slice B' m' l', .int .i64 (b).2.e])] w (Gf c w) := by
 obtain ⟨hc, e⟩ := Cw h
 simp only [Bool.and_eq_true] at hc
 obtain ⟨hp, ra, rb⟩ := hc
 obtain ⟨_, f1, f2⟩ := Bn ra
 obtain ⟨_, f3, f4⟩ := Bn rb
 obtain ⟨D, hD, e⟩ := bind_some e
 obtain ⟨E, hE, e⟩ := bind_some e
 cases e
 refine (Ber a.1.neg a.2.neg b.1.neg b.2.neg A A' B B' n k n' k' m l m' l' _ _ _ _ a.1.e a.2.e b.1.e b.2.e P g false w D E h1 h2 h3 h4 hT hk (fun _ => by rw [Di f1, Di f2, Di f3, Di f4]; exact ⟨hD, hE⟩)).mono fun r w' hr => Fc hk ?_
 rwa [if_pos (Gt hp ra rb)] at hr
theorem ySub (g : Nat) (P : Int) (c : Dy × Dy) (a b : Dy × Dy) (A A' : Option Addr) (n k n' k' : Nat) (B B' : Option Addr) (m l m' l' : Nat) (w : World) (h1 : Arr w A n k (wd a.1.m)) (h2 : Arr w A' n' k' (wd a.2.m)) (h3 : Arr w B m l (wd b.1.m)) (h4 : Arr w B' m' l' (wd b.2.m)) (hk : Wk w g P false tw) (hT : Tz w) (h : Bev P a b = some c) :
  Calls Tryz.prog 14 #[.pointer (some ⟨g, 0, none⟩), (.agg #[.bool (a).1.neg, .slice A n k, .int .i64 (a).1.e, .bool (a).2.neg, .slice A' n' k', .int .i64 (a).2.e]), (.agg #[.bool (b).1.neg, .slice B m l, .int .i64 (b).1.e, .bool (b).2.neg, .slice B' m' l', .int .i64 (b).2.e])] w (Gf c w) := by
 obtain ⟨hc, e⟩ := Cw h
 simp only [Bool.and_eq_true] at hc
 obtain ⟨hp, ra, rb⟩ := hc
 obtain ⟨_, f1, f2⟩ := Bn ra
 obtain ⟨_, f3, f4⟩ := Bn rb
 obtain ⟨D, hD, e⟩ := bind_some e
 obtain ⟨E, hE, e⟩ := bind_some e
 cases e
 refine (spsub a.1.neg a.2.neg b.1.neg b.2.neg A A' B B' n k n' k' m l m' l' _ _ _ _ a.1.e a.2.e b.1.e b.2.e P g false w D E h1 h2 h3 h4 hT hk (fun _ => by rw [Di f1, Di f2, Di f3, Di f4]; exact ⟨hD, hE⟩)).mono fun r w' hr => Fc hk ?_
 rwa [if_pos (Gt hp ra rb)] at hr
theorem yDiv (g : Nat) (P : Int) (c : Dy × Dy) (a b : Dy × Dy) (A A' : Option Addr) (n k n' k' : Nat) (B B' : Option Addr) (m l m' l' : Nat) (w : World) (h1 : Arr w A n k (wd a.1.m)) (h2 : Arr w A' n' k' (wd a.2.m)) (h3 : Arr w B m l (wd b.1.m)) (h4 : Arr w B' m' l' (wd b.2.m)) (hk : Wk w g P false tw) (hT : Tz w) (h : Qm P a b = some c) :
  Calls Tryz.prog 27 #[.pointer (some ⟨g, 0, none⟩), (.agg #[.bool (a).1.neg, .slice A n k, .int .i64 (a).1.e, .bool (a).2.neg, .slice A' n' k', .int .i64 (a).2.e]), (.agg #[.bool (b).1.neg, .slice B m l, .int .i64 (b).1.e, .bool (b).2.neg, .slice B' m' l', .int .i64 (b).2.e])] w (Gf c w) := by
 obtain ⟨hc, e⟩ := Cw h
 simp only [Bool.and_eq_true, decide_eq_true_eq] at hc
 obtain ⟨⟨hp, ra, rb⟩, hs⟩ := hc
 obtain ⟨_, f1, f2⟩ := Bn ra
 obtain ⟨_, f3, f4⟩ := Bn rb
 obtain ⟨D1, hD1, e⟩ := bind_some e
 obtain ⟨D2, hD2, e⟩ := bind_some e
 obtain ⟨D3, hD3, e⟩ := bind_some e
 obtain ⟨D4, hD4, e⟩ := bind_some e
 obtain ⟨E1, hE1, e⟩ := bind_some e
 obtain ⟨E2, hE2, e⟩ := bind_some e
 obtain ⟨E3, hE3, e⟩ := bind_some e
 obtain ⟨E4, hE4, e⟩ := bind_some e
 obtain ⟨hf, e⟩ := Cw e
 simp only [Bool.and_eq_true] at hf
 obtain ⟨⟨⟨⟨g1, g2⟩, g3⟩, g4⟩, ⟨⟨g5, g6⟩, g7⟩, g8⟩ := hf
 cases e
 refine (spdiv a.1.neg a.2.neg b.1.neg b.2.neg A A' B B' n k n' k' m l m' l' _ _ _ _ a.1.e a.2.e b.1.e b.2.e P g false D1 D2 D3 D4 E1 E2 E3 E4 w h1 h2 h3 h4 hT hk (fun _ _ => ⟨⟨hD1, hD2, hD3, hD4⟩, hE1, hE2, hE3, hE4⟩)).mono fun r w' hr => Fc hk ?_
 rwa [if_pos ⟨Gt hp ra rb, hs⟩] at hr
theorem yHull (g : Nat) (P : Int) (c : Dy × Dy) (a b : Dy × Dy) (A A' : Option Addr) (n k n' k' : Nat) (B B' : Option Addr) (m l m' l' : Nat) (w : World) (h1 : Arr w A n k (wd a.1.m)) (h2 : Arr w A' n' k' (wd a.2.m)) (h3 : Arr w B m l (wd b.1.m)) (h4 : Arr w B' m' l' (wd b.2.m)) (hk : Wk w g P false tw) (h : Bd6 P a b = some c) :
  Calls Tryz.prog 148 #[.pointer (some ⟨g, 0, none⟩), (.agg #[.bool (a).1.neg, .slice A n k, .int .i64 (a).1.e, .bool (a).2.neg, .slice A' n' k', .int .i64 (a).2.e]), (.agg #[.bool (b).1.neg, .slice B m l, .int .i64 (b).1.e, .bool (b).2.neg, .slice B' m' l', .int .i64 (b).2.e])] w (Gf c w) := by
 obtain ⟨hc, e⟩ := Cw h
 simp only [Bool.and_eq_true] at hc
 obtain ⟨hp, ra, rb⟩ := hc
 obtain ⟨_, f1, f2⟩ := Bn ra
 obtain ⟨_, f3, f4⟩ := Bn rb
 cases e
 refine (Bji a.1.neg a.2.neg b.1.neg b.2.neg A A' B B' n k n' k' m l m' l' _ _ _ _ a.1.e a.2.e b.1.e b.2.e P g false w h1 h2 h3 h4 hk).mono fun r w' hr => Fc hk ?_
 rwa [if_pos (Gt hp ra rb), Di f1, Di f2, Di f3, Di f4] at hr
theorem Bd3 {D1 D2 D3 D4 E1 E2 E3 E4 : Dy} (g1 : Dq D1 = true) (g2 : Dq D2 = true) (g3 : Dq D3 = true) (g4 : Dq D4 = true) (g5 : Dq E1 = true) (g6 : Dq E2 = true) (g7 : Dq E3 = true) (g8 : Dq E4 = true) :
  ∀ i, (wd (Fg D1 D2 D3 D4 i).m).length ≤ 1000000 ∧ (wd (Fg E1 E2 E3 E4 i).m).length ≤ 1000000 := by
 have u1 := Gl g1; have u2 := Gl g2; have u3 := Gl g3; have u4 := Gl g4
 have u5 := Gl g5; have u6 := Gl g6; have u7 := Gl g7; have u8 := Gl g8
 intro i
 unfold Fg
 constructor <;> (repeat' split) <;> omega
theorem Ql (g : Nat) (P : Int) (c : Dy × Dy) (v : Int) (w : World) (v0 : -9223372036854775808 ≤ v) (v1 : v ≤ 9223372036854775807) (hk : Wk w g P false 38) (h : Je P v = some c) :
  Calls Tryz.prog 30 #[.pointer (some ⟨g, 0, none⟩), .int .i64 v] w (Gf c w) := by
 obtain ⟨hc, e⟩ := Cw h
 cases e
 refine (Bj7 g P false v w hk v0 v1).mono fun r w' hr => Fc hk ?_
 unfold Tx at hr
 rwa [if_neg (by rw [Baz hc]; simp)] at hr
theorem zNeg (g : Nat) (P : Int) (c : Dy × Dy) (a : Dy × Dy) (A A' : Option Addr) (n k n' k' : Nat) (w : World) (h1 : Arr w A n k (wd a.1.m)) (h2 : Arr w A' n' k' (wd a.2.m)) (hk : Wk w g P false 38) (h : Tw P a = some c) :
  Calls Tryz.prog 40 #[.pointer (some ⟨g, 0, none⟩), (.agg #[.bool (a).1.neg, .slice A n k, .int .i64 (a).1.e, .bool (a).2.neg, .slice A' n' k', .int .i64 (a).2.e])] w (Gf c w) := by
 obtain ⟨hc, e⟩ := Cw h
 rw [Bool.and_eq_true] at hc
 obtain ⟨hp, ra⟩ := hc
 cases e
 obtain ⟨_, f1, f2⟩ := Bn ra
 refine (Bam a.1.neg a.2.neg A A' n k n' k' _ _ a.1.e a.2.e P g false w h1 h2 hk (Dl h1 f1) (Dl h2 f2)).mono fun r w' hr => Fc hk ?_
 rwa [Tr hp ra, Uj (Gr ra).1, Uj (Gr ra).2, Hd] at hr
theorem Bjm (g : Nat) (P : Int) (c : Dy × Dy) (a : Dy × Dy) (s : Int) (A A' : Option Addr) (n k n' k' : Nat) (w : World) (h1 : Arr w A n k (wd a.1.m)) (h2 : Arr w A' n' k' (wd a.2.m)) (hk : Wk w g P false 38) (h : Fx P a s = some c) :
  Calls Tryz.prog 126 #[.pointer (some ⟨g, 0, none⟩), (.agg #[.bool (a).1.neg, .slice A n k, .int .i64 (a).1.e, .bool (a).2.neg, .slice A' n' k', .int .i64 (a).2.e]), .int .i64 s] w (Gf c w) := by
 obtain ⟨hc, e⟩ := Cw h
 simp only [Bool.and_eq_true, Bool.not_eq_true'] at hc
 obtain ⟨⟨hp, ra⟩, hf⟩ := hc
 obtain ⟨D, hD, e⟩ := bind_some e
 obtain ⟨E, hE, e⟩ := bind_some e
 cases e
 obtain ⟨hr0, f1, f2⟩ := Bn ra
 obtain ⟨p1, p2⟩ := Gd hp
 refine (Beg a.1.neg a.2.neg A A' n k n' k' _ _ a.1.e a.2.e s P g false w h1 h2 hk (Dl h1 f1) (Dl h2 f2)).mono fun r w' hr => Fc hk ?_
 unfold Qw at hr
 rwa [val_wd _ (Cg f1).1, val_wd _ (Cg f2).1, hD, hE, hr0, hf, decide_eq_false (show ¬ P < 1 by omega), decide_eq_false (show ¬ 8192 < P by omega), show (false || false || false || !true || false) = false from rfl, Hd] at hr
theorem Bcg (g : Nat) (P : Int) (c : Dy × Dy) (a b : Dy × Dy) (A A' : Option Addr) (n k n' k' : Nat) (B B' : Option Addr) (m l m' l' : Nat) (w : World) (h1 : Arr w A n k (wd a.1.m)) (h2 : Arr w A' n' k' (wd a.2.m)) (h3 : Arr w B m l (wd b.1.m)) (h4 : Arr w B' m' l' (wd b.2.m)) (hk : Wk w g P false 38) (h : Yl P a b = some c) :
  Calls Tryz.prog 13 #[.pointer (some ⟨g, 0, none⟩), (.agg #[.bool (a).1.neg, .slice A n k, .int .i64 (a).1.e, .bool (a).2.neg, .slice A' n' k', .int .i64 (a).2.e]), (.agg #[.bool (b).1.neg, .slice B m l, .int .i64 (b).1.e, .bool (b).2.neg, .slice B' m' l', .int .i64 (b).2.e])] w (Gf c w) := by
 obtain ⟨hc, e⟩ := Cw h
 simp only [Bool.and_eq_true] at hc
 obtain ⟨hp, ra, rb⟩ := hc
 obtain ⟨_, f1, f2⟩ := Bn ra
 obtain ⟨_, f3, f4⟩ := Bn rb
 obtain ⟨D, hD, e⟩ := bind_some e
 obtain ⟨E, hE, e⟩ := bind_some e
 cases e
 refine (Be9 a.1.neg a.2.neg b.1.neg b.2.neg A A' B B' n k n' k' m l m' l' _ _ _ _ a.1.e a.2.e b.1.e b.2.e P g false w h1 h2 h3 h4 hk (Dl h1 f1) (Dl h2 f2) (Dl h3 f3) (Dl h4 f4) (Cg f1).2.2 (Cg f2).2.2 (Cg f3).2.2 (Cg f4).2.2).mono fun r w' hr => Fc hk ?_
 rwa [Gt hp ra rb, Di f1, Di f2, Di f3, Di f4, hD, hE, Hd] at hr
theorem zSub (g : Nat) (P : Int) (c : Dy × Dy) (a b : Dy × Dy) (A A' : Option Addr) (n k n' k' : Nat) (B B' : Option Addr) (m l m' l' : Nat) (w : World) (h1 : Arr w A n k (wd a.1.m)) (h2 : Arr w A' n' k' (wd a.2.m)) (h3 : Arr w B m l (wd b.1.m)) (h4 : Arr w B' m' l' (wd b.2.m)) (hk : Wk w g P false 38) (h : Beu P a b = some c) :
  Calls Tryz.prog 15 #[.pointer (some ⟨g, 0, none⟩), (.agg #[.bool (a).1.neg, .slice A n k, .int .i64 (a).1.e, .bool (a).2.neg, .slice A' n' k', .int .i64 (a).2.e]), (.agg #[.bool (b).1.neg, .slice B m l, .int .i64 (b).1.e, .bool (b).2.neg, .slice B' m' l', .int .i64 (b).2.e])] w (Gf c w) := by
 obtain ⟨hc, e⟩ := Cw h
 simp only [Bool.and_eq_true] at hc
 obtain ⟨hp, ra, rb⟩ := hc
 obtain ⟨_, f1, f2⟩ := Bn ra
 obtain ⟨_, f3, f4⟩ := Bn rb
 obtain ⟨D, hD, e⟩ := bind_some e
 obtain ⟨E, hE, e⟩ := bind_some e
 cases e
 refine (Bj9 a.1.neg a.2.neg b.1.neg b.2.neg A A' B B' n k n' k' m l m' l' _ _ _ _ a.1.e a.2.e b.1.e b.2.e P g false w h1 h2 h3 h4 hk (Dl h1 f1) (Dl h2 f2) (Dl h3 f3) (Dl h4 f4) (Cg f1).2.2 (Cg f2).2.2 (Cg f3).2.2 (Cg f4).2.2).mono fun r w' hr => Fc hk ?_
 rwa [Gt hp ra rb, Di f1, Di f2, Di f3, Di f4, hD, hE, Hd] at hr
theorem Bci (g : Nat) (P : Int) (c : Dy × Dy) (a b : Dy × Dy) (A A' : Option Addr) (n k n' k' : Nat) (B B' : Option Addr) (m l m' l' : Nat) (w : World) (h1 : Arr w A n k (wd a.1.m)) (h2 : Arr w A' n' k' (wd a.2.m)) (h3 : Arr w B m l (wd b.1.m)) (h4 : Arr w B' m' l' (wd b.2.m)) (hk : Wk w g P false 38) (h : mulS P a b = some c) :
  Calls Tryz.prog 17 #[.pointer (some ⟨g, 0, none⟩), (.agg #[.bool (a).1.neg, .slice A n k, .int .i64 (a).1.e, .bool (a).2.neg, .slice A' n' k', .int .i64 (a).2.e]), (.agg #[.bool (b).1.neg, .slice B m l, .int .i64 (b).1.e, .bool (b).2.neg, .slice B' m' l', .int .i64 (b).2.e])] w (Gf c w) := by
 obtain ⟨hc, e⟩ := Cw h
 simp only [Bool.and_eq_true] at hc
 obtain ⟨hp, ra, rb⟩ := hc
 obtain ⟨_, f1, f2⟩ := Bn ra
 obtain ⟨_, f3, f4⟩ := Bn rb
 obtain ⟨D1, hD1, e⟩ := bind_some e
 obtain ⟨D2, hD2, e⟩ := bind_some e
 obtain ⟨D3, hD3, e⟩ := bind_some e
 obtain ⟨D4, hD4, e⟩ := bind_some e
 refine (Bj6 a.1.neg a.2.neg b.1.neg b.2.neg A A' B B' n k n' k' m l m' l' _ _ _ _ a.1.e a.2.e b.1.e b.2.e P g false D1 D2 D3 D4 w h1 h2 h3 h4 hk (Dl h1 f1) (Dl h2 f2) (Dl h3 f3) (Dl h4 f4) (fun _ => ⟨hD1, hD2, hD3, hD4⟩)).mono fun r w' hr => Fc hk ?_
 rwa [if_pos (Gt hp ra rb), e] at hr
theorem Bch (g : Nat) (P : Int) (c : Dy × Dy) (a b : Dy × Dy) (A A' : Option Addr) (n k n' k' : Nat) (B B' : Option Addr) (m l m' l' : Nat) (w : World) (h1 : Arr w A n k (wd a.1.m)) (h2 : Arr w A' n' k' (wd a.2.m)) (h3 : Arr w B m l (wd b.1.m)) (h4 : Arr w B' m' l' (wd b.2.m)) (hk : Wk w g P false 38) (h : Qm P a b = some c) :
  Calls Tryz.prog 29 #[.pointer (some ⟨g, 0, none⟩), (.agg #[.bool (a).1.neg, .slice A n k, .int .i64 (a).1.e, .bool (a).2.neg, .slice A' n' k', .int .i64 (a).2.e]), (.agg #[.bool (b).1.neg, .slice B m l, .int .i64 (b).1.e, .bool (b).2.neg, .slice B' m' l', .int .i64 (b).2.e])] w (Gf c w) := by
 obtain ⟨hc, e⟩ := Cw h
 simp only [Bool.and_eq_true, decide_eq_true_eq] at hc
 obtain ⟨⟨hp, ra, rb⟩, hs⟩ := hc
 obtain ⟨_, f1, f2⟩ := Bn ra
 obtain ⟨_, f3, f4⟩ := Bn rb
 obtain ⟨D1, hD1, e⟩ := bind_some e
 obtain ⟨D2, hD2, e⟩ := bind_some e
 obtain ⟨D3, hD3, e⟩ := bind_some e
 obtain ⟨D4, hD4, e⟩ := bind_some e
 obtain ⟨E1, hE1, e⟩ := bind_some e
 obtain ⟨E2, hE2, e⟩ := bind_some e
 obtain ⟨E3, hE3, e⟩ := bind_some e
 obtain ⟨E4, hE4, e⟩ := bind_some e
 obtain ⟨hf, e⟩ := Cw e
 simp only [Bool.and_eq_true] at hf
 obtain ⟨⟨⟨⟨g1, g2⟩, g3⟩, g4⟩, ⟨⟨g5, g6⟩, g7⟩, g8⟩ := hf
 cases e
 refine (Bj4 a.1.neg a.2.neg b.1.neg b.2.neg A A' B B' n k n' k' m l m' l' _ _ _ _ a.1.e a.2.e b.1.e b.2.e P g false D1 D2 D3 D4 E1 E2 E3 E4 w h1 h2 h3 h4 hk (Dl h1 f1) (Dl h2 f2) (Dl h3 f3) (Dl h4 f4) (fun _ _ => ⟨⟨⟨hD1, hD2, hD3, hD4⟩, hE1, hE2, hE3, hE4⟩, Bd3 g1 g2 g3 g4 g5 g6 g7 g8⟩)).mono fun r w' hr => Fc hk ?_
 rwa [if_pos ⟨Gt hp ra rb, hs⟩] at hr
theorem zHull (g : Nat) (P : Int) (c : Dy × Dy) (a b : Dy × Dy) (A A' : Option Addr) (n k n' k' : Nat) (B B' : Option Addr) (m l m' l' : Nat) (w : World) (h1 : Arr w A n k (wd a.1.m)) (h2 : Arr w A' n' k' (wd a.2.m)) (h3 : Arr w B m l (wd b.1.m)) (h4 : Arr w B' m' l' (wd b.2.m)) (hk : Wk w g P false 38) (h : Bd5 P a b = some c) :
  Calls Tryz.prog 127 #[.pointer (some ⟨g, 0, none⟩), (.agg #[.bool (a).1.neg, .slice A n k, .int .i64 (a).1.e, .bool (a).2.neg, .slice A' n' k', .int .i64 (a).2.e]), (.agg #[.bool (b).1.neg, .slice B m l, .int .i64 (b).1.e, .bool (b).2.neg, .slice B' m' l', .int .i64 (b).2.e])] w (Gf c w) := by
 obtain ⟨hc, e⟩ := Cw h
 simp only [Bool.and_eq_true] at hc
 obtain ⟨hp, ra, rb⟩ := hc
 obtain ⟨_, f1, f2⟩ := Bn ra
 obtain ⟨_, f3, f4⟩ := Bn rb
 cases e
 refine (Bfq a.1.neg a.2.neg b.1.neg b.2.neg A A' B B' n k n' k' m l m' l' _ _ _ _ a.1.e a.2.e b.1.e b.2.e P g false w h1 h2 h3 h4 hk (Dl h1 f1) (Dl h2 f2) (Dl h3 f3) (Dl h4 f4)).mono fun r w' hr => Fc hk ?_
 rwa [if_pos (Gt hp ra rb), Di f1, Di f2, Di f3, Di f4] at hr
def Ml (d : Dy) : Int := if d.m = 0 then -524288 else bl d.m + d.e
def Fv (X : Dy × Dy) : Int := max (Ml X.1) (Ml X.2)
def Ye (d : Dy) : Int := if d.m = 0 then -1000000 else bl d.m + d.e
def Gw (X : Dy × Dy) : Int := max (Ye X.1) (Ye X.2)
theorem Ku {d : Dy} (h : Dq d = true) : 0 ≤ bl d.m ∧ bl d.m ≤ 1600 := by
 obtain ⟨h0, h1, _, _⟩ := Cg h
 refine ⟨Df _, ?_⟩
 have := Gc (v := d.m) (a := 1600) h0 (by unfold pw; exact h1)
 omega
theorem Sf {d : Dy} (h : Dq d = true) : -600000 ≤ Ml d ∧ Ml d ≤ 101600 := by
 obtain ⟨h0, h1, h2, h3⟩ := Cg h
 obtain ⟨h4, h5⟩ := Ku h
 unfold Ml
 split <;> omega
theorem Jt {w : World} {A : Option Addr} {n c : Nat} {d : Dy} (h : Arr w A n c (wd d.m)) (hf : Dq d = true) : (n = 0 ↔ d.m = 0) := by
 have hl := h.len
 constructor
 ·intro h0
  subst h0
  have h1 := wd_eq_nil.1 (List.length_eq_zero_iff.1 hl)
  have := (Cg hf).1
  omega
 ·intro h0
  rw [h0, wd_zero (Int.le_refl _)] at hl
  exact hl.symm
theorem Bge (d : Dy) (A : Option Addr) (n c : Nat) (w : World) (h : Arr w A n c (wd d.m)) (hf : Dq d = true) :
  Calls Tryz.prog 147 #[.agg #[.bool d.neg, .slice A n c, .int .i64 d.e]] w fun r w' => r = .returned (.int .i64 (Ml d)) ∧ Below w.heap.size w w' := by
 obtain ⟨hm, _, he0, he1⟩ := Cg hf
 obtain ⟨hb0, hb1⟩ := Ku hf
 have hn := Dl h hf
 have hzz := Jt h hf
 obtain ⟨neg, m, e⟩ := d
 simp only at hm he0 he1 hb0 hb1 hzz h ⊢
 have bx := Bg w #[.bool neg, .slice A n c, .int .i64 e] 26
 obtain ⟨k0, k1, k2, f0, f1, f2⟩ := bx.cell3
 have b0 := Ba (Bb w) (.cells #[.bool neg, .slice A n c, .int .i64 e] 26)
 by_cases h0 : n = 0
 ·have ht : Ml ⟨neg, m, e⟩ = -524288 := if_pos (hzz.1 h0)
  subst h0
  rw [ht]
  clear hzz ht
  go_enter Tryz.func147, Tryz.ntmps147
  go_wp2_with fail
  go_ret
  exact ⟨rfl, b0⟩
 ·have ht : Ml ⟨neg, m, e⟩ = bl m + e := if_neg (fun h1 => h0 (hzz.2 h1))
  rw [ht]
  have NB := fun w' (hb : Below w.heap.size w w') => Ui A n c (wd m) w' (h.below hb) (by omega)
  rw [val_wd m hm] at NB
  have NB := Be NB
  have hqq : IntKind.i64.wrap (bl m + e) = bl m + e := by rw [IntKind.wrap_i64]; omega
  have hn0 : ((n : Int) == 0) = false := by simp; omega
  clear ht hzz
  generalize bl m = q at *
  go_enter Tryz.func147, Tryz.ntmps147
  go_wp2_with fail
  go_region_with (first | (go_at_call 98; refine (NB.out _ ((by repeat with_reducible (first | assumption | exact Bb _ | refine Bd ?_ _ | apply Below.drew | refine Ba ?_ _)))).mono ?_; rintro r w' ⟨rfl, rfl⟩))
  all_goals
   go_wp2
   go_ret
   exact ⟨rfl, (by repeat with_reducible (first | assumption | exact Bb _ | refine Bd ?_ _ | apply Below.drew | refine Ba ?_ _))⟩
theorem Zn (X : Dy × Dy) (A A' : Option Addr) (n k n' k' : Nat) (w : World) (h1 : Arr w A n k (wd X.1.m)) (h2 : Arr w A' n' k' (wd X.2.m)) (f1 : Dq X.1 = true) (f2 : Dq X.2 = true) :
  Calls Tryz.prog 144 #[(.agg #[.bool (X).1.neg, .slice A n k, .int .i64 (X).1.e, .bool (X).2.neg, .slice A' n' k', .int .i64 (X).2.e])] w fun r w' => r = .returned (.int .i64 (Fv X)) ∧ Below w.heap.size w w' := by
 obtain ⟨⟨p, x, e⟩, q, y, f⟩ := X
 simp only at h1 h2 f1 f2 ⊢
 have bx := Bg w #[.bool p, .slice A n k, .int .i64 e, .bool q, .slice A' n' k', .int .i64 f] 28
 have b0 := Ba (Bb w) (.cells #[.bool p, .slice A n k, .int .i64 e, .bool q, .slice A' n' k', .int .i64 f] 28)
 have T1 : ∀ w1, Below (w.alloc (.cells #[.bool p, .slice A n k, .int .i64 e, .bool q, .slice A' n' k', .int .i64 f] 28)).heap.size (w.alloc (.cells #[.bool p, .slice A n k, .int .i64 e, .bool q, .slice A' n' k', .int .i64 f] 28)) w1 → Calls Tryz.prog 147 #[.agg #[.bool p, .slice A n k, .int .i64 e]] w1 fun r w5 => r = .returned (.int .i64 (Ml ⟨p, x, e⟩)) ∧ Below (w.alloc (.cells #[.bool p, .slice A n k, .int .i64 e, .bool q, .slice A' n' k', .int .i64 f] 28)).heap.size (w.alloc (.cells #[.bool p, .slice A n k, .int .i64 e, .bool q, .slice A' n' k', .int .i64 f] 28)) w5 := fun w1 hb => (Bge ⟨p, x, e⟩ A n k w1 (h1.below (Bc b0 hb)) f1).mono fun r w5 ⟨hr, h5⟩ => ⟨hr, Bc hb h5⟩
 have T2 : ∀ w1, Below (w.alloc (.cells #[.bool p, .slice A n k, .int .i64 e, .bool q, .slice A' n' k', .int .i64 f] 28)).heap.size (w.alloc (.cells #[.bool p, .slice A n k, .int .i64 e, .bool q, .slice A' n' k', .int .i64 f] 28)) w1 → Calls Tryz.prog 147 #[.agg #[.bool q, .slice A' n' k', .int .i64 f]] w1 fun r w5 => r = .returned (.int .i64 (Ml ⟨q, y, f⟩)) ∧ Below (w.alloc (.cells #[.bool p, .slice A n k, .int .i64 e, .bool q, .slice A' n' k', .int .i64 f] 28)).heap.size (w.alloc (.cells #[.bool p, .slice A n k, .int .i64 e, .bool q, .slice A' n' k', .int .i64 f] 28)) w5 := fun w1 hb => (Bge ⟨q, y, f⟩ A' n' k' w1 (h2.below (Bc b0 hb)) f2).mono fun r w5 ⟨hr, h5⟩ => ⟨hr, Bc hb h5⟩
 obtain ⟨k0, k1, k2, k3, k4, k5, g0, g1, g2, g3, g4, g5⟩ := bx.cell6
 have KS : ∀ w', Below (w.alloc (.cells #[.bool p, .slice A n k, .int .i64 e, .bool q, .slice A' n' k', .int .i64 f] 28)).heap.size (w.alloc (.cells #[.bool p, .slice A n k, .int .i64 e, .bool q, .slice A' n' k', .int .i64 f] 28)) w' → (fun w' => w'.cell? ⟨w.heap.size, 0, none⟩ = some (.bool p) ∧ w'.cell? ⟨w.heap.size, 1, none⟩ = some (.slice A n k) ∧ w'.cell? ⟨w.heap.size, 2, none⟩ = some (.int .i64 e) ∧ w'.cell? ⟨w.heap.size, 3, none⟩ = some (.bool q) ∧ w'.cell? ⟨w.heap.size, 4, none⟩ = some (.slice A' n' k') ∧ w'.cell? ⟨w.heap.size, 5, none⟩ = some (.int .i64 f)) w' := by
  intro w' hb
  obtain ⟨z0, z1, z2, z3, z4, z5, -⟩ := (bx.later hb).cell6
  exact ⟨z0, z1, z2, z3, z4, z5⟩
 have FI : ∀ w', Below (w.alloc (.cells #[.bool p, .slice A n k, .int .i64 e, .bool q, .slice A' n' k', .int .i64 f] 28)).heap.size (w.alloc (.cells #[.bool p, .slice A n k, .int .i64 e, .bool q, .slice A' n' k', .int .i64 f] 28)) w' → Below w.heap.size w w' := fun w' hb => Bc b0 hb
 have FI := Be FI
 have KS := Be KS
 unfold Fv
 simp only
 obtain ⟨a0, a1⟩ := Sf f1
 obtain ⟨c0, c1⟩ := Sf f2
 generalize Ml ⟨p, x, e⟩ = u at *
 generalize Ml ⟨q, y, f⟩ = v at *
 have T1 := Be T1
 have T2 := Be T2
 go_enter Tryz.func144, Tryz.ntmps144
 go_wp2_with fail
 go_region_held3 (fun w' => w'.cell? ⟨w.heap.size, 0, none⟩ = some (.bool p) ∧ w'.cell? ⟨w.heap.size, 1, none⟩ = some (.slice A n k) ∧ w'.cell? ⟨w.heap.size, 2, none⟩ = some (.int .i64 e) ∧ w'.cell? ⟨w.heap.size, 3, none⟩ = some (.bool q) ∧ w'.cell? ⟨w.heap.size, 4, none⟩ = some (.slice A' n' k') ∧ w'.cell? ⟨w.heap.size, 5, none⟩ = some (.int .i64 f)) (first | (refine KS.out _ ?_; (repeat with_reducible (first | assumption | exact Bb _ | refine Bd ?_ _ | apply Below.drew | refine Ba ?_ _)))) (first | (go_at_call_of 147 (Value.agg #[.bool p, .slice A n k, .int .i64 e]); refine (T1.out _ ?_).mono ?_; (repeat with_reducible (first | assumption | exact Bb _ | refine Bd ?_ _ | apply Below.drew | refine Ba ?_ _)); rintro r w5 ⟨rfl, hb5⟩) | (go_at_call_of 147 (Value.agg #[.bool q, .slice A' n' k', .int .i64 f]); refine (T2.out _ ?_).mono ?_; (repeat with_reducible (first | assumption | exact Bb _ | refine Bd ?_ _ | apply Below.drew | refine Ba ?_ _)); rintro r w5 ⟨rfl, hb5⟩))
 all_goals
  go_wp2
  go_ret
  exact ⟨rfl, FI.out _ ((by repeat with_reducible (first | assumption | exact Bb _ | refine Bd ?_ _ | apply Below.drew | refine Ba ?_ _)))⟩
theorem Bgc (d : Dy) (A : Option Addr) (n k : Nat) (w : World) (h : Arr w A n k (wd d.m)) (hf : Dq d = true) :
  Calls Tryz.prog 125 #[.agg #[.bool d.neg, .slice A n k, .int .i64 d.e]] w fun r w' => r = .returned (.int .i64 (bl d.m + d.e)) ∧ Below w.heap.size w w' := by
 obtain ⟨hm, _, he0, he1⟩ := Cg hf
 obtain ⟨hb0, hb1⟩ := Ku hf
 have hn := Dl h hf
 obtain ⟨p, m, e⟩ := d
 simp only at hm he0 he1 hb0 hb1 h ⊢
 have bx := Bg w #[.bool p, .slice A n k, .int .i64 e] 26
 obtain ⟨k0, k1, k2, f0, f1, f2⟩ := bx.cell3
 have b0 := Ba (Bb w) (.cells #[.bool p, .slice A n k, .int .i64 e] 26)
 have NB : ∀ w1, Below (w.alloc (.cells #[.bool p, .slice A n k, .int .i64 e] 26)).heap.size (w.alloc (.cells #[.bool p, .slice A n k, .int .i64 e] 26)) w1 → Calls Tryz.prog 89 #[.slice A n k] w1 fun r w5 => r = .returned (.int .i64 (bl m)) ∧ Below (w.alloc (.cells #[.bool p, .slice A n k, .int .i64 e] 26)).heap.size (w.alloc (.cells #[.bool p, .slice A n k, .int .i64 e] 26)) w5 := fun w1 hb => by
  have H := Th A n k (wd m) w1 (h.below (Bc b0 hb)) (by omega)
  rw [val_wd m hm] at H
  exact H.mono fun r w5 ⟨hr, h5⟩ => ⟨hr, Bc hb h5⟩
 have hqq : IntKind.i64.wrap (bl m + e) = bl m + e := by rw [IntKind.wrap_i64]; omega
 have KS : ∀ w', Below (w.alloc (.cells #[.bool p, .slice A n k, .int .i64 e] 26)).heap.size (w.alloc (.cells #[.bool p, .slice A n k, .int .i64 e] 26)) w' → (fun w' => w'.cell? ⟨w.heap.size, 0, none⟩ = some (.bool p) ∧ w'.cell? ⟨w.heap.size, 1, none⟩ = some (.slice A n k) ∧ w'.cell? ⟨w.heap.size, 2, none⟩ = some (.int .i64 e)) w' := by
  intro w' hb
  obtain ⟨z0, z1, z2, -⟩ := (bx.later hb).cell3
  exact ⟨z0, z1, z2⟩
 have KS := Be KS
 have FI : ∀ w', Below (w.alloc (.cells #[.bool p, .slice A n k, .int .i64 e] 26)).heap.size (w.alloc (.cells #[.bool p, .slice A n k, .int .i64 e] 26)) w' → Below w.heap.size w w' := fun w' hb => Bc b0 hb
 have FI := Be FI
 have NB := Be NB
 generalize bl m = q at *
 go_enter Tryz.func125, Tryz.ntmps125
 go_wp2_with fail
 go_region_held3 (fun w' => w'.cell? ⟨w.heap.size, 0, none⟩ = some (.bool p) ∧ w'.cell? ⟨w.heap.size, 1, none⟩ = some (.slice A n k) ∧ w'.cell? ⟨w.heap.size, 2, none⟩ = some (.int .i64 e)) (first | (refine KS.out _ ?_; (repeat with_reducible (first | assumption | exact Bb _ | refine Bd ?_ _ | apply Below.drew | refine Ba ?_ _)))) (first | (go_at_call 89; refine (NB.out _ ?_).mono ?_; (repeat with_reducible (first | assumption | exact Bb _ | refine Bd ?_ _ | apply Below.drew | refine Ba ?_ _)); rintro r w5 ⟨rfl, hb5⟩))
 all_goals
  go_wp2
  go_ret
  exact ⟨rfl, FI.out _ ((by repeat with_reducible (first | assumption | exact Bb _ | refine Bd ?_ _ | apply Below.drew | refine Ba ?_ _)))⟩
theorem Baw {d : Dy} (h : Dq d = true) : -1000000 ≤ Ye d ∧ Ye d ≤ 101600 := by
 obtain ⟨h0, h1, h2, h3⟩ := Cg h
 obtain ⟨h4, h5⟩ := Ku h
 unfold Ye
 split <;> omega
theorem Bei (X : Dy × Dy) (A A' : Option Addr) (n k n' k' : Nat) (w : World) (h1 : Arr w A n k (wd X.1.m)) (h2 : Arr w A' n' k' (wd X.2.m)) (f1 : Dq X.1 = true) (f2 : Dq X.2 = true) :
  Calls Tryz.prog 93 #[(.agg #[.bool (X).1.neg, .slice A n k, .int .i64 (X).1.e, .bool (X).2.neg, .slice A' n' k', .int .i64 (X).2.e])] w fun r w' => r = .returned (.int .i64 (Gw X)) ∧ Below w.heap.size w w' := by
 obtain ⟨⟨p, x, e⟩, q, y, f⟩ := X
 simp only at h1 h2 f1 f2 ⊢
 have bx := Bg w #[.bool p, .slice A n k, .int .i64 e, .bool q, .slice A' n' k', .int .i64 f] 28
 have b0 := Ba (Bb w) (.cells #[.bool p, .slice A n k, .int .i64 e, .bool q, .slice A' n' k', .int .i64 f] 28)
 have T1 : ∀ w1, Below (w.alloc (.cells #[.bool p, .slice A n k, .int .i64 e, .bool q, .slice A' n' k', .int .i64 f] 28)).heap.size (w.alloc (.cells #[.bool p, .slice A n k, .int .i64 e, .bool q, .slice A' n' k', .int .i64 f] 28)) w1 → Calls Tryz.prog 125 #[.agg #[.bool p, .slice A n k, .int .i64 e]] w1 fun r w5 => r = .returned (.int .i64 (bl x + e)) ∧ Below (w.alloc (.cells #[.bool p, .slice A n k, .int .i64 e, .bool q, .slice A' n' k', .int .i64 f] 28)).heap.size (w.alloc (.cells #[.bool p, .slice A n k, .int .i64 e, .bool q, .slice A' n' k', .int .i64 f] 28)) w5 := fun w1 hb => (Bgc ⟨p, x, e⟩ A n k w1 (h1.below (Bc b0 hb)) f1).mono fun r w5 ⟨hr, h5⟩ => ⟨hr, Bc hb h5⟩
 have T2 : ∀ w1, Below (w.alloc (.cells #[.bool p, .slice A n k, .int .i64 e, .bool q, .slice A' n' k', .int .i64 f] 28)).heap.size (w.alloc (.cells #[.bool p, .slice A n k, .int .i64 e, .bool q, .slice A' n' k', .int .i64 f] 28)) w1 → Calls Tryz.prog 125 #[.agg #[.bool q, .slice A' n' k', .int .i64 f]] w1 fun r w5 => r = .returned (.int .i64 (bl y + f)) ∧ Below (w.alloc (.cells #[.bool p, .slice A n k, .int .i64 e, .bool q, .slice A' n' k', .int .i64 f] 28)).heap.size (w.alloc (.cells #[.bool p, .slice A n k, .int .i64 e, .bool q, .slice A' n' k', .int .i64 f] 28)) w5 := fun w1 hb => (Bgc ⟨q, y, f⟩ A' n' k' w1 (h2.below (Bc b0 hb)) f2).mono fun r w5 ⟨hr, h5⟩ => ⟨hr, Bc hb h5⟩
 have z1 := Jt h1 f1
 have z2 := Jt h2 f2
 obtain ⟨a0, a1⟩ := Baw f1
 obtain ⟨c0, c1⟩ := Baw f2
 have s1 := Dl h1 f1
 have s2 := Dl h2 f2
 have FI : ∀ w', Below (w.alloc (.cells #[.bool p, .slice A n k, .int .i64 e, .bool q, .slice A' n' k', .int .i64 f] 28)).heap.size (w.alloc (.cells #[.bool p, .slice A n k, .int .i64 e, .bool q, .slice A' n' k', .int .i64 f] 28)) w' → Below w.heap.size w w' := fun w' hb => Bc b0 hb
 have FI := Be FI
 have T1 := Be T1
 have T2 := Be T2
 obtain ⟨k0, k1, k2, k3, k4, k5, -⟩ := bx.cell6
 have KS : ∀ w', Below (w.alloc (.cells #[.bool p, .slice A n k, .int .i64 e, .bool q, .slice A' n' k', .int .i64 f] 28)).heap.size (w.alloc (.cells #[.bool p, .slice A n k, .int .i64 e, .bool q, .slice A' n' k', .int .i64 f] 28)) w' → Box w' w.heap.size #[.bool p, .slice A n k, .int .i64 e, .bool q, .slice A' n' k', .int .i64 f] 28 := fun w' hb => bx.later hb
 have KS := Be KS
 unfold Gw
 unfold Ye at *
 simp only at *
 by_cases g1 : n = 0
 ·rw [if_pos (z1.1 g1)] at *
  have hn1 : decide (0 < n) = false := by simp; omega
  by_cases g2 : n' = 0
  ·rw [if_pos (z2.1 g2)] at *
   have hn2 : decide (0 < n') = false := by simp; omega
   clear z1 z2 g1 g2
   go_enter Tryz.func93, Tryz.ntmps93
   go_wp2_with fail
   go_ret
   refine ⟨?_, FI.out _ (Bb _)⟩
   simp []
  ·rw [if_neg (fun h => g2 (z2.2 h))] at *
   have hn2 : decide (0 < n') = true := by simp; omega
   clear z1 z2 g1 g2
   generalize bl y + f = v at *
   have m1 : max (-1000000) v = v := by omega
   go_enter Tryz.func93, Tryz.ntmps93
   go_wp2_with fail
   refine (T2.out _ (Bb _)).mono ?_
   rintro r w6 ⟨rfl, hb6⟩
   obtain ⟨k0, k1, k2, k3, k4, k5, -⟩ := (KS.out _ hb6).cell6
   go_wp2_with fail
   go_ret
   refine ⟨?_, FI.out _ (hb6)⟩
   simp [m1]
 ·rw [if_neg (fun h => g1 (z1.2 h))] at *
  have hn1 : decide (0 < n) = true := by simp; omega
  by_cases g2 : n' = 0
  ·rw [if_pos (z2.1 g2)] at *
   have hn2 : decide (0 < n') = false := by simp; omega
   clear z1 z2 g1 g2
   generalize bl x + e = u at *
   have m1 : max (-1000000) u = u := by omega
   have m2 : max u (-1000000) = u := by omega
   go_enter Tryz.func93, Tryz.ntmps93
   go_wp2_with fail
   refine (T1.out _ (Bb _)).mono ?_
   rintro r w5 ⟨rfl, hb5⟩
   obtain ⟨k0, k1, k2, k3, k4, k5, -⟩ := (KS.out _ hb5).cell6
   go_wp2_with fail
   go_ret
   refine ⟨?_, FI.out _ (hb5)⟩
   simp [m1, m2]
  ·rw [if_neg (fun h => g2 (z2.2 h))] at *
   have hn2 : decide (0 < n') = true := by simp; omega
   clear z1 z2 g1 g2
   generalize bl x + e = u at *
   generalize bl y + f = v at *
   have m1 : max (-1000000) u = u := by omega
   go_enter Tryz.func93, Tryz.ntmps93
   go_wp2_with fail
   refine (T1.out _ (Bb _)).mono ?_
   rintro r w5 ⟨rfl, hb5⟩
   obtain ⟨k0, k1, k2, k3, k4, k5, -⟩ := (KS.out _ hb5).cell6
   go_wp2_with fail
   refine (T2.out _ hb5).mono ?_
   rintro r w6 ⟨rfl, hb6⟩
   obtain ⟨k0, k1, k2, k3, k4, k5, -⟩ := (KS.out _ hb6).cell6
   go_wp2_with fail
   go_ret
   refine ⟨?_, FI.out _ (hb6)⟩
   simp [m1]
theorem Bhz (p : Bool) (A : Option Addr) (n c : Nat) (e : Int) (q : Bool) (A' : Option Addr) (n' c' : Nat) (f : Int) : ∀ (i : Nat) (x : Int), (#[.bool p, .slice A n c, .int .i64 e, .bool q, .slice A' n' c', .int .i64 f] : Array Value)[i]? ≠ some (Value.int .u64 x) :=
 no6 (by simp) (by simp) (by simp) (by simp) (by simp) (by simp)
theorem Bh {p : Bool} {A : Option Addr} {n c : Nat} {e : Int} {q : Bool} {A' : Option Addr} {n' c' : Nat} {f : Int} : ∀ (i : Nat) (x : Int), (#[.bool p, .slice A n c, .int .i64 e, .bool q, .slice A' n' c', .int .i64 f] : Array Value)[i]? ≠ some (Value.int .u64 x) := Bhz _ _ _ _ _ _ _ _ _ _
theorem Box.six {w w' : World} {h : Nat} {v0 v1 v2 v3 v4 v5 : Value} {t : TypeId} (hb : Box w h #[v0, v1, v2, v3, v4, v5] t) (hw : Below w.heap.size w w') :
  w'.cell? ⟨h, 0, none⟩ = some v0 ∧ w'.cell? ⟨h, 1, none⟩ = some v1 ∧ w'.cell? ⟨h, 2, none⟩ = some v2 ∧ w'.cell? ⟨h, 3, none⟩ = some v3 ∧ w'.cell? ⟨h, 4, none⟩ = some v4 ∧ w'.cell? ⟨h, 5, none⟩ = some v5 := by
 obtain ⟨z0, z1, z2, z3, z4, z5, -⟩ := (hb.later hw).cell6
 exact ⟨z0, z1, z2, z3, z4, z5⟩
def Uv (P n : Int) : Option (Dy × Dy) := (Je P 1).bind fun u => (Fx P u n).bind fun x => (Tw P x).bind fun y => Bd6 P y x
theorem Bfu (g : Nat) (P n : Int) (c : Dy × Dy) (w : World) (hk : Wk w g P false tw) (hT : Tz w) (hn : -300000 ≤ n ∧ n ≤ 300000) (h : Uv P n = some c) :
  Calls Tryz.prog 145 #[.pointer (some ⟨g, 0, none⟩), .int .i64 n] w (Gf c w) := by
 obtain ⟨u, hu, h⟩ := bind_some h
 obtain ⟨x, hx, h⟩ := bind_some h
 obtain ⟨y, hy, h⟩ := bind_some h
 have b0 : Below w.heap.size w (w.alloc (.cells #[.bool false, .slice none 0 0, .int .i64 0, .bool false, .slice none 0 0, .int .i64 0] 28)) := Ba (Bb w) _
 have xr := Bg w #[.bool false, .slice none 0 0, .int .i64 0, .bool false, .slice none 0 0, .int .i64 0] 28
 have hk0 := hk.later b0
 have hT0 := hT.below b0
 have vs : (w.alloc (.cells #[.bool false, .slice none 0 0, .int .i64 0, .bool false, .slice none 0 0, .int .i64 0] 28)).heap.size = w.heap.size + 1 := by simp
 have hgl := hk.lt
 generalize hW : w.alloc (.cells #[.bool false, .slice none 0 0, .int .i64 0, .bool false, .slice none 0 0, .int .i64 0] 28) = V at *
 have NU := fun w1 (hb : Below V.heap.size V w1) => Wc g P u 1 w1 (by omega) (by omega) (hk0.later hb) (hT0.below hb) hu
 have SC := fun w1 A k l A' k' l' (hb : Below V.heap.size V w1) h1 h2 => Tu g P x u n A k l A' k' l' w1 h1 h2 (hk0.later hb) (hT0.below hb) hx
 have NG := fun w1 A k l A' k' l' (hb : Below V.heap.size V w1) h1 h2 => yNeg g P y x A k l A' k' l' w1 h1 h2 (hk0.later hb) (hT0.below hb) hy
 have HU := fun w1 A k l A' k' l' B m j B' m' j' (hb : Below V.heap.size V w1) h1 h2 h3 h4 => yHull g P c y x A k l A' k' l' B m j B' m' j' w1 h1 h2 h3 h4 (hk0.later hb) h
 have XR := fun w1 (hb : Below V.heap.size V w1) => xr.later hb
 have FI := fun w1 (hb : Below V.heap.size V w1) => Bc b0 hb
 have NU := Be NU
 have SC := Be SC
 have NG := Be NG
 have HU := Be HU
 have XR := Be XR
 have FI := Be FI
 have HW := Be hW
 have VS := Be vs
 clear vs
 clear hW hu hx hy h xr b0 hk0 hT0 hk hT
 go_enter Tryz.func145, Tryz.ntmps145
 go_wp2_with fail
 rw [HW.out]
 refine wp_region_noPanic ?_
 refine wp_region_held_drew (S := fun w' => True) (by kernel_rfl) trivial (fun hHeld => ?_)
 (refine Bj 0 6 rfl ?_; (try simp only [Act.put, Bf]))
 (refine Bj 1 7 rfl ?_; (try simp only [Act.put, Bf]))
 (refine Bj 2 8 rfl ?_; (try simp only [Act.put, Bf]))
 (refine Bj 3 9 rfl ?_; (try simp only [Act.put, Bf]))
 (refine Bj 4 10 rfl ?_; (try simp only [Act.put, Bf]))
 (refine Bj 5 11 rfl ?_; (try simp only [Act.put, Bf]))
 (refine Bj 7 13 rfl ?_; (try simp only [Act.put, Bf]))
 have bw : Below V.heap.size V V.drew := Below.drew (Bb _)
 (refine wpAnyH_ready (rs := [6, 9]) (by kernel_rfl) (by simp) ?_; refine AllReadyH.cons rfl (fun K hK => ?_) (AllReadyH.cons rfl (fun K hK => ?_) AllReadyH.nil))
 focus
  (go_simp; go_at_call 28; refine (NU.out _ bw).mono ?_; rintro r w6 ⟨A1, n1, c1, A2, n2, c2, rfl, a1, a2, hb6⟩; have bw := Bc bw hb6; (refine hK.out _ _ (trivial) (fun _ => ?_); clear hHeld hK K; rename_i hHeld; (try simp only [Act.put, Bf])))
  (refine wpAnyH_ready (rs := [8, 9]) (by kernel_rfl) (by simp) ?_; refine AllReadyH.cons rfl (fun K hK => ?_) (AllReadyH.cons rfl (fun K hK => ?_) AllReadyH.nil))
  focus
   (go_simp; go_at_call 56; refine (SC.out _ _ _ _ _ _ _ bw a1 a2).mono ?_; rintro r w7 ⟨A3, n3, c3, A4, n4, c4, rfl, a3, a4, hb7⟩; have bw := Bc bw hb7; (refine hK.out _ _ (trivial) (fun _ => ?_); clear hHeld hK K; rename_i hHeld; (try simp only [Act.put, Bf])))
   refine Bw 9 rfl (fun K hK => ?_)
   (go_simp; (refine hK.out _ _ (trivial) (fun _ => ?_); clear hHeld hK K; rename_i hHeld; (try simp only [Act.put, Bf])))
   (have bw0 := bw; have xb := Bg (w7) #[.bool false, .slice none 0 0, .int .i64 0, .bool false, .slice none 0 0, .int .i64 0] 28; have bw := Ba bw (.cells #[.bool false, .slice none 0 0, .int .i64 0, .bool false, .slice none 0 0, .int .i64 0] 28); have kle := bw0.size; clear bw0; generalize (w7).heap.size = kx at *)
   have a3 := a3.below (Ba (Bb w7) (.cells #[.bool false, .slice none 0 0, .int .i64 0, .bool false, .slice none 0 0, .int .i64 0] 28))
   have a4 := a4.below (Ba (Bb w7) (.cells #[.bool false, .slice none 0 0, .int .i64 0, .bool false, .slice none 0 0, .int .i64 0] 28))
   generalize w7.alloc (.cells #[.bool false, .slice none 0 0, .int .i64 0, .bool false, .slice none 0 0, .int .i64 0] 28) = w9 at *
   (refine Bw 10 rfl (fun K hK => ?_); refine Bz rfl _ _ rfl rfl kx _ A3 n3 c3 _ _ A4 n4 c4 _ xb rfl rfl (fun W1 y1 gW1 => ?_); have a3 := a3.grown xb Bh gW1; have a4 := a4.grown xb Bh gW1; have bw := Bl bw gW1 kle; (refine hK.out _ _ (trivial) (fun _ => ?_); clear hHeld hK K; rename_i hHeld; (try simp only [Act.put, Bf])); refine Cn ?_)
  rotate_left
  focus
   (go_simp; (refine hK.out _ _ (trivial) (fun _ => ?_); clear hHeld hK K; rename_i hHeld; (try simp only [Act.put, Bf])))
   (have bw0 := bw; have xb := Bg (w6) #[.bool false, .slice none 0 0, .int .i64 0, .bool false, .slice none 0 0, .int .i64 0] 28; have bw := Ba bw (.cells #[.bool false, .slice none 0 0, .int .i64 0, .bool false, .slice none 0 0, .int .i64 0] 28); have kle := bw0.size; clear bw0; generalize (w6).heap.size = kx at *)
   have a1 := a1.below (Ba (Bb w6) (.cells #[.bool false, .slice none 0 0, .int .i64 0, .bool false, .slice none 0 0, .int .i64 0] 28))
   have a2 := a2.below (Ba (Bb w6) (.cells #[.bool false, .slice none 0 0, .int .i64 0, .bool false, .slice none 0 0, .int .i64 0] 28))
   generalize w6.alloc (.cells #[.bool false, .slice none 0 0, .int .i64 0, .bool false, .slice none 0 0, .int .i64 0] 28) = w9 at *
   refine Bw 8 rfl (fun K hK => ?_)
   (go_simp; go_at_call 56; refine (SC.out _ _ _ _ _ _ _ bw a1 a2).mono ?_; rintro r w7 ⟨A3, n3, c3, A4, n4, c4, rfl, a3, a4, hb7⟩; have bw := Bc bw hb7; (refine hK.out _ _ (trivial) (fun _ => ?_); clear hHeld hK K; rename_i hHeld; (try simp only [Act.put, Bf])))
   have xb := xb.later hb7
   (refine Bw 10 rfl (fun K hK => ?_); refine Bz rfl _ _ rfl rfl kx _ A3 n3 c3 _ _ A4 n4 c4 _ xb rfl rfl (fun W1 y1 gW1 => ?_); have a3 := a3.grown xb Bh gW1; have a4 := a4.grown xb Bh gW1; have bw := Bl bw gW1 kle; (refine hK.out _ _ (trivial) (fun _ => ?_); clear hHeld hK K; rename_i hHeld; (try simp only [Act.put, Bf])); refine Cn ?_)
 rotate_left 2
 focus
  (go_simp; (refine hK.out _ _ (trivial) (fun _ => ?_); clear hHeld hK K; rename_i hHeld; (try simp only [Act.put, Bf])))
  have xb := (Bg V #[.bool false, .slice none 0 0, .int .i64 0, .bool false, .slice none 0 0, .int .i64 0] 28).later (Below.drew (Bb (V.alloc (.cells #[.bool false, .slice none 0 0, .int .i64 0, .bool false, .slice none 0 0, .int .i64 0] 28))))
  have kle := Nat.le_refl V.heap.size
  have bw : Below V.heap.size V (V.alloc (.cells #[.bool false, .slice none 0 0, .int .i64 0, .bool false, .slice none 0 0, .int .i64 0] 28)).drew := Below.drew (Ba (Bb _) _)
  generalize (V.alloc (.cells #[.bool false, .slice none 0 0, .int .i64 0, .bool false, .slice none 0 0, .int .i64 0] 28)).drew = w9 at *
  generalize hkx : V.heap.size = kx at xb ⊢
  rw [hkx] at kle
  refine Bw 6 rfl (fun K hK => ?_)
  (go_simp; go_at_call 28; refine (NU.out _ bw).mono ?_; rintro r w6 ⟨A1, n1, c1, A2, n2, c2, rfl, a1, a2, hb6⟩; have bw := Bc bw hb6; (refine hK.out _ _ (trivial) (fun _ => ?_); clear hHeld hK K; rename_i hHeld; (try simp only [Act.put, Bf])))
  refine Bw 8 rfl (fun K hK => ?_)
  (go_simp; go_at_call 56; refine (SC.out _ _ _ _ _ _ _ bw a1 a2).mono ?_; rintro r w7 ⟨A3, n3, c3, A4, n4, c4, rfl, a3, a4, hb7⟩; have bw := Bc bw hb7; (refine hK.out _ _ (trivial) (fun _ => ?_); clear hHeld hK K; rename_i hHeld; (try simp only [Act.put, Bf])))
  have xb := (xb.later hb6).later hb7
  have kle : V.heap.size ≤ kx := by omega
  (refine Bw 10 rfl (fun K hK => ?_); refine Bz rfl _ _ rfl rfl kx _ A3 n3 c3 _ _ A4 n4 c4 _ xb rfl rfl (fun W1 y1 gW1 => ?_); have a3 := a3.grown xb Bh gW1; have a4 := a4.grown xb Bh gW1; have bw := Bl bw gW1 kle; (refine hK.out _ _ (trivial) (fun _ => ?_); clear hHeld hK K; rename_i hHeld; (try simp only [Act.put, Bf])); refine Cn ?_)
 all_goals
  have cx := y1.six (Below.drew (Bb _))
  have bw := Below.drew bw
  obtain ⟨v0, v1, v2, v3, v4, v5, -⟩ := y1.cell6
  go_wp2_with fail
  refine wp_region_noPanic ?_
  refine wp_region_held_drew (S := fun w' => (w'.cell? ⟨kx, 0, none⟩ = some (.bool x.1.neg) ∧ w'.cell? ⟨kx, 1, none⟩ = some (.slice A3 n3 c3) ∧ w'.cell? ⟨kx, 2, none⟩ = some (.int .i64 x.1.e) ∧ w'.cell? ⟨kx, 3, none⟩ = some (.bool x.2.neg) ∧ w'.cell? ⟨kx, 4, none⟩ = some (.slice A4 n4 c4) ∧ w'.cell? ⟨kx, 5, none⟩ = some (.int .i64 x.2.e))) (by kernel_rfl) cx (fun hHeld => ?_)
  (refine Bj 0 15 rfl ?_; (try simp only [Act.put, Bf]))
  (refine Bj 1 16 rfl ?_; (try simp only [Act.put, Bf]))
  (refine Bj 2 17 rfl ?_; (try simp only [Act.put, Bf]))
  (refine Bj 3 18 rfl ?_; (try simp only [Act.put, Bf]))
  (refine Bj 4 19 rfl ?_; (try simp only [Act.put, Bf]))
  (refine Bj 5 20 rfl ?_; (try simp only [Act.put, Bf]))
  (refine Bj 6 21 rfl ?_; (try simp only [Act.put, Bf]))
  (refine Bj 8 23 rfl ?_; (try simp only [Act.put, Bf]))
  refine Bw 7 rfl (fun K hK => ?_)
  go_simp
  go_at_call 39
  have a3 := a3.below (Below.drew (Bb _))
  have a4 := a4.below (Below.drew (Bb _))
  refine (NG.out _ _ _ _ _ _ _ bw a3 a4).mono ?_
  rintro r w8 ⟨A5, n5, c5, A6, n6, c6, rfl, a5, a6, hb8⟩
  have bw := Bc bw hb8
  have y8 := (y1.later (Below.drew (Bb _))).later hb8
  have a3 := a3.below hb8
  have a4 := a4.below hb8
  (refine hK.out _ _ (y8.six (Bb _)) (fun _ => ?_); clear hHeld hK K; rename_i hHeld; (try simp only [Act.put, Bf]))
  refine Bw 9 rfl (fun K hK => ?_)
  go_simp
  go_at_call 148
  refine (HU.out _ _ _ _ _ _ _ _ _ _ _ _ _ bw a5 a6 a3 a4).mono ?_
  rintro r w10 ⟨A7, n7, c7, A8, n8, c8, rfl, a7, a8, hb10⟩
  have bw := Bc bw hb10
  have y9 := y8.later hb10
  (refine hK.out _ _ (y9.six (Bb _)) (fun _ => ?_); clear hHeld hK K; rename_i hHeld; (try simp only [Act.put, Bf]))
  refine Bw 10 rfl (fun K hK => ?_)
  have xr := XR.out _ bw
  refine Bz rfl _ _ rfl rfl w.heap.size _ A7 n7 c7 _ _ A8 n8 c8 _ xr rfl rfl (fun W2 y2 gW2 => ?_)
  have hne : w.heap.size ≠ kx := by have := VS.out; omega
  have y10 := y9.grown gW2 (Ne.symm hne)
  (refine hK.out _ _ (y10.six (Bb _)) (fun _ => ?_); clear hHeld hK K; rename_i hHeld; (try simp only [Act.put, Bf]))
  refine Cn ?_
  have a7 := a7.grown xr Bh gW2
  have a8 := a8.grown xr Bh gW2
  have bf := Bl (FI.out _ bw) gW2 (Nat.le_refl _)
  obtain ⟨u0, u1, u2, u3, u4, u5, -⟩ := y2.cell6
  go_wp2_with fail
  refine bodyPost_ret (v := _) ?_ rfl ⟨A7, n7, c7, A8, n8, c8, rfl, a7, a8, bf⟩
  simp [results, Tryz.results145, go_sem, u0, u1, u2, u3, u4, u5]
end Go.Proofs.YteffemhapnbaeaaGreatDoor
