/- Walks and laws that the claim's row needs. No conditions. -/
import Derived.Test.YteffemhapnbaeaaGreatDoorQax
import Derived.Test.YteffemhapnbaeaaGreatDoorQau
set_option maxHeartbeats 16000000
set_option linter.unusedSimpArgs false
set_option linter.unusedVariables false
namespace Go.Proofs.YteffemhapnbaeaaGreatDoor
open Go.RowKit Num
set_option exponentiation.threshold 2000
set_option maxRecDepth 100000
structure Qy where
 l : Qn
 h : Qn
def Qy.d (a : Qy) : Dy × Dy := (a.l.d, a.h.d)
def Cp (a : Qy) : Bool := and (and (Fe a.l) (Fe a.h)) (not (qlt a.h a.l))
structure Ry (a : Qy) : Prop where
 l : Good a.l
 h : Good a.h
 r : Cj a.d = true
theorem Cv {a : Qy} (h : Cp a = true) : Ry a := by
 unfold Cp at h
 simp only [Bool.and_eq_true, Bool.not_eq_true'] at h
 obtain ⟨⟨h1, h2⟩, h3⟩ := h
 have g1 := Dc h1
 have g2 := Dc h2
 refine ⟨g1, g2, ?_⟩
 unfold Cj Cb Gj
 have e := (Sz g1 g2).2
 rw [h3] at e
 have e2 : ¬ 0 < cDy a.l.d a.h.d := of_decide_eq_false e
 have e3 : Dw a.d.1.neg a.d.2.neg (wd a.d.1.m) (wd a.d.2.m) a.d.1.e a.d.2.e ≤ 0 := by
  have : cDy a.l.d a.h.d = Dw a.d.1.neg a.d.2.neg (wd a.d.1.m) (wd a.d.2.m) a.d.1.e a.d.2.e := rfl
  omega
 have p1 : Bq a.d.1.neg (wd a.d.1.m) a.d.1.e = true := g1.pl.1
 have p2 : Bq a.d.2.neg (wd a.d.2.m) a.d.2.e = true := g2.pl.1
 have f1 : Dq a.d.1 = true := g1.fit
 have f2 : Dq a.d.2 = true := g2.fit
 rw [p1, p2, f1, f2, decide_eq_true e3]
 rfl
theorem Bdw (d : Qn) : qlt d d = false := by
 unfold qlt
 rw [Hz]
 cases d.s <;> simp
theorem Hb {d : Qn} (h : Good d) : Ry ⟨d, d⟩ := by
 refine ⟨h, h, ?_⟩
 unfold Cj Cb Gj
 have e := (Sz h h).2
 rw [Bdw] at e
 have e2 : ¬ 0 < cDy d.d d.d := of_decide_eq_false e
 have e3 : Dw d.d.neg d.d.neg (wd d.d.m) (wd d.d.m) d.d.e d.d.e ≤ 0 := by
  have : cDy d.d d.d = Dw d.d.neg d.d.neg (wd d.d.m) (wd d.d.m) d.d.e d.d.e := rfl
  omega
 show ((Bq d.d.neg (wd d.d.m) d.d.e && Bq d.d.neg (wd d.d.m) d.d.e && decide (Dw d.d.neg d.d.neg (wd d.d.m) (wd d.d.m) d.d.e d.d.e ≤ 0)) && (Dq d.d && Dq d.d)) = true
 rw [h.pl.1, h.fit, decide_eq_true e3]
 rfl
theorem Fw {P : Nat} (p0 : 1 ≤ P) (p1 : P ≤ 8192) : okP (P : Int) = true := by
 unfold okP
 simp
 omega
theorem Co {c : Bool} {x : Option (Dy × Dy)} (h : c = true) : Gp c x = x := by unfold Gp; rw [h]; rfl
def qlo (a b : Qn) : Qn := cond (qlt b a) b a
def qhi (a b : Qn) : Qn := cond (qlt a b) b a
theorem Qh {a b : Qn} (ha : Good a) (hb : Good b) : Dn false a.d b.d = (qlo a b).d := by
 unfold Dn qlo
 rw [← (Sz hb ha).1]
 by_cases h : cDy b.d a.d < 0
 ·rw [decide_eq_true h]; rfl
 ·rw [decide_eq_false h]; rfl
theorem Qg {a b : Qn} (ha : Good a) (hb : Good b) : Dn true a.d b.d = (qhi a b).d := by
 unfold Dn qhi
 rw [← (Sz hb ha).2]
 by_cases h : 0 < cDy b.d a.d
 ·rw [decide_eq_true h]; rfl
 ·rw [decide_eq_false h]; rfl
theorem Up (m : Bool) (a : Dy) : Dn m a a = a := by unfold Dn; exact ite_self _
theorem Bc9 (m : Bool) (a b : Dy) : Dn m (Dn m a b) b = Dn m a b := by
 have key : Dn m a b = b ∨ Dn m a b = a := by
  unfold Dn
  generalize (if m = true then decide (0 < cDy b a) else decide (cDy b a < 0)) = z
  cases z
  ·exact .inr rfl
  ·exact .inl rfl
 rcases key with h | h
 ·rw [h, Up]
 ·rw [h, h]
theorem Sk (m : Bool) (a b : Dy) : Cy m a a b b = Dn m a b := by
 unfold Cy
 rw [Up, Bc9]
theorem Ru {a b : Qn} (ha : Good a) (hb : Good b) : Good (qlo a b) := by unfold qlo; cases qlt b a <;> assumption
theorem Rt {a b : Qn} (ha : Good a) (hb : Good b) : Good (qhi a b) := by unfold qhi; cases qlt a b <;> assumption
def Jg (k : Nat) : Qn := Dh false k 1000000
theorem Be2 (k : Nat) : (Jg k).d = Ca k 0 := by
 unfold Jg
 rw [Fs, Dr _ (by omega)]
 congr 1
theorem Kc {P : Nat} (p0 : 1 ≤ P) (p1 : P ≤ 8192) (k : Nat) : Je P k = some ((Jg k).d, (Jg k).d) := by
 unfold Je
 rw [Co (Fw p0 p1), Be2]
def Bby (P : Nat) (a : Qy) (d : Qn) (k : Qy → Bool) : Bool :=
 and (and (not d.s) (not (Nat.beq d.m 0))) (fQ (Te P false a.l d) fun D => fQ (Te P false a.h d) fun D' => fQ (Te P true a.l d) fun E => fQ (Te P true a.h d) fun E' =>
  and (and (and (Fe D) (Fe D')) (and (Fe E) (Fe E'))) (fQ (qlo D D') fun L => fQ (qhi E E') fun H => k ⟨L, H⟩))
theorem Xy {d : Qn} (h : Good d) (hs : d.s = false) (hm : d.m ≠ 0) : decide (Beq (d.d, d.d) ≠ 0) = true := by
 have hr : Cb d.d.neg d.d.neg (wd d.d.m) (wd d.d.m) d.d.e d.d.e = true := (Bn (Hb h).r).1
 have hl : (wd d.d.m).length ≠ 0 := by
  intro h0
  have h1 := wd_eq_nil.1 (List.length_eq_zero_iff.1 h0)
  have : d.d.m = (d.m : Int) := rfl
  omega
 have hn : d.d.neg = false := hs
 show decide ((if Cb d.d.neg d.d.neg (wd d.d.m) (wd d.d.m) d.d.e d.d.e = true then (if (wd d.d.m).length ≠ 0 ∧ d.d.neg = false then 1 else if d.d.neg = true then -1 else 0) else 0) ≠ (0 : Int)) = true
 rw [if_pos hr, if_pos ⟨hl, hn⟩]
 rfl
theorem Hm {d : Qn} (h : Good d) : Cj (d.d, d.d) = true := (Hb h).r
theorem Sr {P : Int} {a : Dy × Dy} {d D1 D2 E1 E2 : Dy} (hp : okP P = true) (ra : Cj a = true) (rd : Cj (d, d) = true) (hs : decide (Beq (d, d) ≠ 0) = true)
  (h1 : Hg P false a.1 d = some D1) (h2 : Hg P false a.2 d = some D2) (h3 : Hg P true a.1 d = some E1) (h4 : Hg P true a.2 d = some E2) (f1 : Dq D1 = true) (f2 : Dq D2 = true) (f3 : Dq E1 = true) (f4 : Dq E2 = true) :
  Qm P a (d, d) = some (Dn false D1 D2, Dn true E1 E2) := by
 unfold Qm
 rw [Co (by rw [hp, ra, rd, hs]; rfl)]
 simp only [h1, h2, h3, h4, Option.bind_some]
 unfold Bco
 rw [Co (by rw [f1, f2, f3, f4]; rfl), Sk, Sk]
theorem Rz {P : Nat} {a : Qy} {d : Qn} {k : Qy → Bool} (p0 : 1 ≤ P) (p1 : P ≤ 8192) (ha : Ry a) (hd : Good d) (hk : Bby P a d k = true) :
  ∃ c : Qy, Good c.l ∧ Good c.h ∧ Qm P a.d (d.d, d.d) = some c.d ∧ k c = true := by
 unfold Bby at hk
 simp only [Hy, Bool.and_eq_true, Bool.not_eq_true', Fm, decide_eq_false_iff_not] at hk
 obtain ⟨⟨hs, hm⟩, ⟨⟨h1, h2⟩, h3, h4⟩, hk⟩ := hk
 have g1 := Dc h1
 have g2 := Dc h2
 have g3 := Dc h3
 have g4 := Dc h4
 have e := Sr (P := P) (a := a.d) (d := d.d) (Fw p0 p1) ha.r (Hm hd) (Xy hd hs hm) (Qc ha.l hd hm p0 p1 g1) (Qc ha.h hd hm p0 p1 g2) (Qc ha.l hd hm p0 p1 g3) (Qc ha.h hd hm p0 p1 g4) g1.fit g2.fit g3.fit g4.fit
 rw [Qh g1 g2, Qg g3 g4] at e
 exact ⟨⟨_, _⟩, Ru g1 g2, Rt g3 g4, e, hk⟩
def Hr (q : Qn) : Qn := ⟨and (not q.s) (not (Nat.beq q.m 0)), q.m, q.x⟩
def qneg (a : Qy) : Qy := ⟨Hr a.h, Hr a.l⟩
theorem Lk (q : Qn) : (Hr q).d = Cm q.d := by
 unfold Cm Hr
 show (⟨_, _, _⟩ : Dy) = ⟨_, _, _⟩
 congr 1
 show (!q.s && !(Nat.beq q.m 0)) = (!q.s && decide (0 < (wd (q.m : Int)).length))
 congr 1
 rw [Fm]
 by_cases h : q.m = 0
 ·rw [decide_eq_true h, h]
  show false = decide (0 < (wd 0).length)
  rw [wd_zero (Int.le_refl _)]; rfl
 ·rw [decide_eq_false h]
  have : 0 < (wd (q.m : Int)).length := by
   rcases Nat.eq_zero_or_pos (wd (q.m : Int)).length with h0 | h0
   ·have := wd_eq_nil.1 (List.length_eq_zero_iff.1 h0)
    omega
   ·exact h0
  rw [decide_eq_true this]; rfl
theorem Wt {q : Qn} (h : Good q) : Good (Hr q) := by
 refine ⟨h.lt, h.lo, h.hi, fun hz => ?_, h.odd⟩
 have hz : q.m = 0 := hz
 refine ⟨?_, (h.z hz).2⟩
 show (!q.s && !(Nat.beq q.m 0)) = false
 rw [Fm, decide_eq_true hz]
 simp
theorem Bfm {P : Nat} {a : Qy} (p0 : 1 ≤ P) (p1 : P ≤ 8192) (ha : Ry a) : Tw P a.d = some (qneg a).d := by
 unfold Tw
 rw [Co (by rw [Fw p0 p1, ha.r]; rfl)]
 show some (Cm a.h.d, Cm a.l.d) = some ((Hr a.h).d, (Hr a.l).d)
 rw [Lk, Lk]
def Um (P : Nat) (turn : Bool) (sq : Qn) (i : Nat) (t : Qy) (k : Qy → Qy → Bool) : Bool :=
 Bby P t sq fun t' => and (Cp t') (fQ (Jg (Nat.succ (Nat.mul 2 i))) fun m => and (Fe m) (Bby P t' m fun q => and (Cp q) (cond (and turn (Nat.beq (Nat.mod i 2) 1)) (k t' (qneg q)) (k t' q))))
theorem Xj {P : Nat} {turn : Bool} {sq : Qn} {i : Nat} {t : Qy} {k : Qy → Qy → Bool} (p0 : 1 ≤ P) (p1 : P ≤ 8192) (ht : Ry t) (hs : Good sq) (hk : Um P turn sq i t k = true) :
  ∃ t' p : Qy, Lw P turn (sq.d, sq.d) i t.d = some (t'.d, p.d) ∧ k t' p = true := by
 unfold Um at hk
 obtain ⟨t', -, -, e1, hk⟩ := Rz p0 p1 ht hs hk
 rw [Hy] at hk
 simp only [Bool.and_eq_true] at hk
 obtain ⟨r1, g2, hk⟩ := hk
 have r1 := Cv r1
 have g2 := Dc g2
 obtain ⟨q, -, -, e2, hk⟩ := Rz p0 p1 r1 g2 hk
 rw [Bool.and_eq_true] at hk
 obtain ⟨r2, hk⟩ := hk
 have r2 := Cv r2
 have e3 : (2 * (i : Int) + 1) = ((Nat.succ (Nat.mul 2 i) : Nat) : Int) := by show _ = ((2 * i + 1 : Nat) : Int); omega
 have e4 : decide ((i : Int) % 2 = 1) = Nat.beq (Nat.mod i 2) 1 := by
  rw [Fm]
  show _ = decide (i % 2 = 1)
  rw [Bool.eq_iff_iff, decide_eq_true_eq, decide_eq_true_eq]
  omega
 unfold Lw
 rw [e1, e3, Kc p0 p1]
 show ∃ t' p : Qy, ((Qm P _ ((Jg (Nat.succ (Nat.mul 2 i))).d, (Jg (Nat.succ (Nat.mul 2 i))).d)).bind fun q => _) = _ ∧ _
 rw [e2, e4]
 show ∃ t'' p : Qy, ((if (turn && Nat.beq (Nat.mod i 2) 1) = true then Tw P q.d else some q.d).bind fun r => some (t'.d, r)) = _ ∧ _
 have hk : (cond (turn && Nat.beq (Nat.mod i 2) 1) (k t' (qneg q)) (k t' q)) = true := hk
 cases hc : turn && Nat.beq (Nat.mod i 2) 1
 ·rw [hc] at hk
  exact ⟨t', q, rfl, hk⟩
 ·rw [hc] at hk
  rw [if_pos rfl, Bfm p0 p1 r2]
  exact ⟨t', qneg q, rfl, hk⟩
def Ul (P : Nat) (a b : Qy) (k : Qy → Bool) : Bool := Bc0 P false a.l b.l fun D => Bc0 P true a.h b.h fun E => k ⟨D, E⟩
theorem Xg {P : Nat} {a b : Qy} {k : Qy → Bool} (p0 : 1 ≤ P) (p1 : P ≤ 8192) (ha : Ry a) (hb : Ry b) (hk : Ul P a b k = true) : ∃ c : Qy, Good c.l ∧ Good c.h ∧ Bcl P a.d b.d = some c.d ∧ k c = true := by
 unfold Ul at hk
 obtain ⟨D, gD, eD, hk⟩ := Sc ha.l hb.l p0 p1 hk
 obtain ⟨E, gE, eE, hk⟩ := Sc ha.h hb.h p0 p1 hk
 refine ⟨⟨D, E⟩, gD, gE, ?_, hk⟩
 unfold Bcl
 rw [Co (by rw [Fw p0 p1, ha.r, hb.r]; rfl)]
 show ((Le P false a.l.d b.l.d).bind fun D => (Le P true a.h.d b.h.d).bind fun E => some (D, E)) = _
 rw [eD, eE]
 simp only [Option.bind_some]
 rfl
def Bah (P : Nat) (a b : Qy) (k : Qy → Bool) : Bool := Bc0 P false a.l (Hr b.h) fun D => Bc0 P true a.h (Hr b.l) fun E => k ⟨D, E⟩
theorem Xk {P : Nat} {a b : Qy} {k : Qy → Bool} (p0 : 1 ≤ P) (p1 : P ≤ 8192) (ha : Ry a) (hb : Ry b) (hk : Bah P a b k = true) : ∃ c : Qy, Good c.l ∧ Good c.h ∧ Bev P a.d b.d = some c.d ∧ k c = true := by
 unfold Bah at hk
 obtain ⟨D, gD, eD, hk⟩ := Sc ha.l (Wt hb.h) p0 p1 hk
 obtain ⟨E, gE, eE, hk⟩ := Sc ha.h (Wt hb.l) p0 p1 hk
 refine ⟨⟨D, E⟩, gD, gE, ?_, hk⟩
 unfold Bev
 rw [Co (by rw [Fw p0 p1, ha.r, hb.r]; rfl)]
 rw [Lk] at eD eE
 show ((Le P false a.l.d (Cm b.h.d)).bind fun D => (Le P true a.h.d (Cm b.l.d)).bind fun E => some (D, E)) = _
 rw [eD, eE]
 simp only [Option.bind_some]
 rfl
def qhint (P : Nat) (a b : Qn) : Nat := Nat.sub (Nat.succ (cond (Nat.ble (Fl 0 P a) (Fl 0 P b)) (Fl 0 P b) (Fl 0 P a))) (Nat.sub a.x (Nat.sub a.x b.x))
def Bab (P : Nat) (up : Bool) (a b : Qn) (k : Qn → Bool) : Bool := Tf P up a b (qhint P a b) k
def Sy (P : Nat) (a b : Qy) (k : Qy → Bool) : Bool := Bab P false a.l b.l fun D => Bab P true a.h b.h fun E => k ⟨D, E⟩
theorem Mz {P : Nat} {a b : Qy} {k : Qy → Bool} (p0 : 1 ≤ P) (p1 : P ≤ 8192) (ha : Ry a) (hb : Ry b) (hk : Sy P a b k = true) : ∃ c : Qy, Good c.l ∧ Good c.h ∧ Yl P a.d b.d = some c.d ∧ k c = true := by
 unfold Sy at hk
 obtain ⟨D, gD, eD, hk⟩ := Qa hk
 obtain ⟨E, gE, eE, hk⟩ := Qa hk
 refine ⟨⟨D, E⟩, gD, gE, ?_, hk⟩
 unfold Yl
 rw [Co (by rw [Fw p0 p1, ha.r, hb.r]; rfl)]
 show ((Dt P false a.l.d b.l.d).bind fun D => (Dt P true a.h.d b.h.d).bind fun E => some (D, E)) = _
 rw [eD, eE]
 simp only [Option.bind_some]
 rfl
def Bai (P : Nat) (a b : Qy) (k : Qy → Bool) : Bool := Bab P false a.l (Hr b.h) fun D => Bab P true a.h (Hr b.l) fun E => k ⟨D, E⟩
theorem Xl {P : Nat} {a b : Qy} {k : Qy → Bool} (p0 : 1 ≤ P) (p1 : P ≤ 8192) (ha : Ry a) (hb : Ry b) (hk : Bai P a b k = true) : ∃ c : Qy, Good c.l ∧ Good c.h ∧ Beu P a.d b.d = some c.d ∧ k c = true := by
 unfold Bai at hk
 obtain ⟨D, gD, eD, hk⟩ := Qa hk
 obtain ⟨E, gE, eE, hk⟩ := Qa hk
 refine ⟨⟨D, E⟩, gD, gE, ?_, hk⟩
 unfold Beu
 rw [Co (by rw [Fw p0 p1, ha.r, hb.r]; rfl)]
 rw [Lk] at eD eE
 show ((Dt P false a.l.d (Cm b.h.d)).bind fun D => (Dt P true a.h.d (Cm b.l.d)).bind fun E => some (D, E)) = _
 rw [eD, eE]
 simp only [Option.bind_some]
 rfl
def Bdz (a b : Qn) : Qn := Dh (Zi a.s b.s) (Nat.mul a.m b.m) (Nat.sub (Nat.add a.x b.x) 1000000)
theorem Bad {a b : Qn} (ha : Good a) (hb : Good b) (hg : Good (Bdz a b)) : Tv a.d b.d = some (Bdz a b).d := by
 unfold Tv Lr
 rw [ha.pl.1, hb.pl.1, val_wd _ ha.pl.2, val_wd _ hb.pl.2]
 unfold Bdz at hg ⊢
 rw [← Rv hg, Vo]
 have h1 := ha.lo
 have h2 := hb.lo
 have e1 : a.d.m * b.d.m = ((Nat.mul a.m b.m : Nat) : Int) := by show (a.m : Int) * (b.m : Int) = ((a.m * b.m : Nat) : Int); simp
 have key : ∀ z : Nat, Nat.sub (Nat.add a.x b.x) z = a.x + b.x - z := fun _ => rfl
 have e2 : a.d.e + b.d.e = ((Nat.sub (Nat.add a.x b.x) 1000000 : Nat) : Int) - 1000000 := by rw [key]; show (a.x : Int) - 1000000 + ((b.x : Int) - 1000000) = _; omega
 rw [e1, e2, if_pos (by rfl)]
 rfl
def Bac (P : Nat) (up : Bool) (a : Qn) : Qn := Xh (Nat.add P 30) a.s a.m a.x false P up
theorem Xi {P : Nat} {up : Bool} {a : Qn} (p0 : 1 ≤ P) (p1 : P ≤ 8192) (ha : Good a) (hg : Good (Bac P up a)) : Kq a.d P up = some (Bac P up a).d := by
 rw [Mr ha.pl (by omega) (by omega)]
 exact Qb hg
def Be0 (P : Nat) (d : Qn) (b : Qy) (k : Qy → Bool) : Bool :=
 fQ (Bdz d b.l) fun D => fQ (Bdz d b.h) fun E => and (and (Fe D) (Fe E)) (fQ (Bac P false (qlo (qlo (qlo D E) D) E)) fun L => fQ (Bac P true (qhi (qhi (qhi D E) D) E)) fun H => and (and (Fe L) (Fe H)) (k ⟨L, H⟩))
theorem Be1 {P : Nat} {d : Qn} {b : Qy} {k : Qy → Bool} (p0 : 1 ≤ P) (p1 : P ≤ 8192) (hd : Good d) (hb : Ry b) (hk : Be0 P d b k = true) : ∃ c : Qy, Good c.l ∧ Good c.h ∧ mulS P (d.d, d.d) b.d = some c.d ∧ k c = true := by
 unfold Be0 at hk
 simp only [Hy, Bool.and_eq_true] at hk
 obtain ⟨⟨g1, g2⟩, ⟨g3, g4⟩, hk⟩ := hk
 have g1 := Dc g1
 have g2 := Dc g2
 have g3 := Dc g3
 have g4 := Dc g4
 refine ⟨_, g3, g4, ?_, hk⟩
 unfold mulS
 rw [Co (by rw [Fw p0 p1, Hm hd, hb.r]; rfl)]
 show ((Tv d.d b.l.d).bind fun D1 => (Tv d.d b.h.d).bind fun D2 => (Tv d.d b.l.d).bind fun D3 => (Tv d.d b.h.d).bind fun D4 => Bbr P D1 D2 D3 D4) = _
 rw [Bad hd hb.l g1, Bad hd hb.h g2]
 simp only [Option.bind_some]
 unfold Bbr Cy
 have l1 := Ru g1 g2
 have l2 := Ru l1 g1
 have l3 := Ru l2 g2
 have h1 := Rt g1 g2
 have h2 := Rt h1 g1
 have h3 := Rt h2 g2
 rw [Qh g1 g2, Qh l1 g1, Qh l2 g2, Qg g1 g2, Qg h1 g1, Qg h2 g2, Xi p0 p1 l3 g3, Xi p0 p1 h3 g4, Hd]
 rfl
def Sb (q : Qn) (k : Nat) : Qn := Dh q.s q.m (Nat.add q.x k)
def Qu (a : Qy) (k : Nat) (c : Qy → Bool) : Bool := fQ (Sb a.l k) fun L => fQ (Sb a.h k) fun H => and (and (Fe L) (Fe H)) (c ⟨L, H⟩)
theorem Ll {P : Nat} {a : Qy} {n : Nat} {k : Qy → Bool} (p0 : 1 ≤ P) (p1 : P ≤ 8192) (hn : n ≤ 100) (ha : Ry a) (hk : Qu a n k = true) : ∃ c : Qy, Good c.l ∧ Good c.h ∧ Fx P a.d n = some c.d ∧ k c = true := by
 unfold Qu at hk
 simp only [Hy, Bool.and_eq_true] at hk
 obtain ⟨⟨g1, g2⟩, hk⟩ := hk
 have g1 := Dc g1
 have g2 := Dc g2
 refine ⟨_, g1, g2, ?_, hk⟩
 unfold Fx
 have hf : Kh (n : Int) = false := by unfold Kh; simp; omega
 rw [Co (by rw [Fw p0 p1, ha.r, hf]; rfl)]
 have e : ∀ q : Qn, q.d.e + (n : Int) = ((Nat.add q.x n : Nat) : Int) - 1000000 := fun q => by show (q.x : Int) - 1000000 + (n : Int) = ((q.x + n : Nat) : Int) - 1000000; omega
 show ((mkD a.l.d.neg a.l.d.m (a.l.d.e + (n : Int))).bind fun D => (mkD a.h.d.neg a.h.d.m (a.h.d.e + (n : Int))).bind fun E => some (D, E)) = _
 rw [e, e]
 have m1 : mkD a.l.d.neg a.l.d.m (((Nat.add a.l.x n : Nat) : Int) - 1000000) = some (Sb a.l n).d := Rv g1
 have m2 : mkD a.h.d.neg a.h.d.m (((Nat.add a.h.x n : Nat) : Int) - 1000000) = some (Sb a.h n).d := Rv g2
 rw [m1, m2]
 simp only [Option.bind_some]
 rfl
def qout (P : Nat) (a : Qy) (k : Qy → Bool) : Bool := fQ (Xh (Nat.add P 70) a.l.s a.l.m a.l.x false P false) fun L => fQ (Xh (Nat.add P 70) a.h.s a.h.m a.h.x false P true) fun H => and (and (Fe L) (Fe H)) (k ⟨L, H⟩)
theorem Bae {P : Nat} {a : Qy} {k : Qy → Bool} (p0 : 1 ≤ P) (p1 : P ≤ 8192) (ha : Ry a) (hk : qout P a k = true) : ∃ c : Qy, Good c.l ∧ Good c.h ∧ Bbt P a.d = some c.d ∧ k c = true := by
 unfold qout at hk
 simp only [Hy, Bool.and_eq_true] at hk
 obtain ⟨⟨g1, g2⟩, hk⟩ := hk
 have g1 := Dc g1
 have g2 := Dc g2
 refine ⟨_, g1, g2, ?_, hk⟩
 unfold Bbt
 rw [Co (by rw [Fw p0 p1, ha.r]; rfl)]
 show ((Kq a.l.d P false).bind fun D => (Kq a.h.d P true).bind fun E => some (D, E)) = _
 rw [Mr ha.l.pl (by omega) (by omega), Mr ha.h.pl (by omega) (by omega)]
 have m1 : Ji a.l.d.neg a.l.d.m a.l.d.e false P false = _ := Qb g1
 have m2 : Ji a.h.d.neg a.h.d.m a.h.d.e false P true = _ := Qb g2
 rw [m1, m2]
 simp only [Option.bind_some]
 rfl
set_option exponentiation.threshold 2000
def Zg (a b : Nat) : Nat := cond (Nat.ble a b) b a
def Dv (z P : Nat) (a : Qy) : Nat := Zg (Fl z P a.l) (Fl z P a.h)
theorem Vl (a b : Nat) : Zg a b = max a b := by
 unfold Zg
 rw [Me]
 by_cases h : a ≤ b
 ·rw [decide_eq_true h]; show b = max a b; omega
 ·rw [decide_eq_false h]; show a = max a b; omega
theorem Vn (P : Nat) (a : Qy) : ((Dv 475712 P a : Nat) : Int) - 1000000 = Fv a.d := by
 have e1 := Qd 475712 P a.l
 have e2 := Qd 475712 P a.h
 have t1 : Ml a.d.1 = ((Fl 475712 P a.l : Nat) : Int) - 1000000 := by
  rw [e1]
  rfl
 have t2 : Ml a.d.2 = ((Fl 475712 P a.h : Nat) : Int) - 1000000 := by
  rw [e2]
  rfl
 unfold Fv Dv
 rw [Vl, t1, t2]
 generalize Fl 475712 P a.l = x
 generalize Fl 475712 P a.h = y
 omega
theorem Bag (P : Nat) (a : Qy) : ((Dv 0 P a : Nat) : Int) - 1000000 = Gw a.d := by
 have e1 := Qd 0 P a.l
 have e2 := Qd 0 P a.h
 have t1 : Ye a.d.1 = ((Fl 0 P a.l : Nat) : Int) - 1000000 := by
  rw [e1]
  rfl
 have t2 : Ye a.d.2 = ((Fl 0 P a.h : Nat) : Int) - 1000000 := by
  rw [e2]
  rfl
 unfold Gw Dv
 rw [Vl, t1, t2]
 generalize Fl 0 P a.l = x
 generalize Fl 0 P a.h = y
 omega
def qab (x : Nat) : Qy := ⟨⟨true, 1, x⟩, ⟨false, 1, x⟩⟩
theorem Ba7 (s : Bool) (x : Nat) : (⟨s, 1, x⟩ : Qn).d = ⟨s, 1, (x : Int) - 1000000⟩ := rfl
theorem qone : Jg 1 = ⟨false, 1, 1000000⟩ := by
 have h : qtr 1 1 = 0 := rfl
 unfold Jg Dh
 rw [h]
 rfl
theorem Rx {P : Int} (h : okP P = true) : Je P 1 = some (⟨false, 1, 0⟩, ⟨false, 1, 0⟩) := by
 unfold Je
 rw [Co h]
 have e := Be2 1
 rw [qone, Ba7] at e
 have e0 : ((1000000 : Nat) : Int) - 1000000 = 0 := by omega
 rw [e0] at e
 rw [show ((1 : Nat) : Int) = 1 from rfl] at e
 rw [← e]
theorem Ju {n : Int} (gx : Good ⟨false, 1, (n + 1000000).toNat⟩) (gn : Good ⟨true, 1, (n + 1000000).toNat⟩) (h0 : -1000000 ≤ n) :
  Cj (⟨false, 1, n⟩, ⟨false, 1, n⟩) = true ∧ Cj (⟨true, 1, n⟩, ⟨true, 1, n⟩) = true ∧ Cm ⟨false, 1, n⟩ = ⟨true, 1, n⟩ ∧ Dn false ⟨true, 1, n⟩ ⟨false, 1, n⟩ = ⟨true, 1, n⟩ ∧ Dn true ⟨true, 1, n⟩ ⟨false, 1, n⟩ = ⟨false, 1, n⟩ := by
 have r1 := Hm gx
 have r2 := Hm gn
 have e1 := Lk ⟨false, 1, (n + 1000000).toNat⟩
 have s1 := Qh gn gx
 have s2 := Qg gn gx
 have ex : (⟨false, 1, (n + 1000000).toNat⟩ : Qn).d = ⟨false, 1, n⟩ := by rw [Ba7]; congr 1; omega
 have en : (⟨true, 1, (n + 1000000).toNat⟩ : Qn).d = ⟨true, 1, n⟩ := by rw [Ba7]; congr 1; omega
 rw [ex] at r1 e1 s1 s2
 rw [en] at r2 s1 s2
 refine ⟨r1, r2, ?_, ?_, ?_⟩
 ·rw [← e1, ← en]
  rfl
 ·rw [s1, ← en]
  rfl
 ·rw [s2, ← ex]
  rfl
theorem Un {n : Int} (h0 : -200000 ≤ n) (h1 : n ≤ 200000) : mkD false 1 (0 + n) = some ⟨false, 1, n⟩ := by
 rw [Int.zero_add]
 exact Za false h0 h1
theorem Gm {s : Bool} {x : Nat} (h0 : 950000 ≤ x) (h1 : x ≤ 1050000) : Good ⟨s, 1, x⟩ := by
 refine ⟨?_, h0, h1, fun h => ?_, fun _ => rfl⟩
 ·show 1 < 2 ^ 1600
  exact Nat.one_lt_two_pow (by decide)
 ·cases h
theorem Bck {P n : Int} (hp : okP P = true) (h0 : -50000 ≤ n) (h1 : n ≤ 50000) : Uv P n = some (⟨true, 1, n⟩, ⟨false, 1, n⟩) := by
 have gx : Good ⟨false, 1, (n + 1000000).toNat⟩ := Gm (by omega) (by omega)
 have gn : Good ⟨true, 1, (n + 1000000).toNat⟩ := Gm (by omega) (by omega)
 obtain ⟨r1, r2, e1, s1, s2⟩ := Ju gx gn (by omega)
 have r0 := (Ju (n := 0) (Gm (by omega) (by omega)) (Gm (by omega) (by omega)) (by omega)).1
 have hf : Kh n = false := by unfold Kh; simp; omega
 unfold Uv
 rw [Rx hp]
 simp only [Option.bind_some]
 unfold Fx
 rw [Co (by rw [hp, r0, hf]; rfl)]
 simp only [Un (show -200000 ≤ n by omega) (show n ≤ 200000 by omega), Option.bind_some]
 unfold Tw
 rw [Co (by rw [hp, r1]; rfl)]
 simp only [Option.bind_some, e1]
 unfold Bd6
 rw [Co (by rw [hp, r1, r2]; rfl)]
 simp only [Sk, s1, s2]
theorem Bb6 {P n : Int} (hp : okP P = true) (h0 : -50000 ≤ max n (-P - 64)) (h1 : max n (-P - 64) ≤ 50000) : Ro P n = some (⟨true, 1, max n (-P - 64)⟩, ⟨false, 1, max n (-P - 64)⟩) := by
 unfold Ro
 generalize max n (-P - 64) = n at *
 have gx : Good ⟨false, 1, (n + 1000000).toNat⟩ := Gm (by omega) (by omega)
 have gn : Good ⟨true, 1, (n + 1000000).toNat⟩ := Gm (by omega) (by omega)
 obtain ⟨r1, r2, e1, s1, s2⟩ := Ju gx gn (by omega)
 have r0 := (Ju (n := 0) (Gm (by omega) (by omega)) (Gm (by omega) (by omega)) (by omega)).1
 have hf : Kh n = false := by unfold Kh; simp; omega
 rw [Rx hp]
 simp only [Option.bind_some]
 unfold Fx
 rw [Co (by rw [hp, r0, hf]; rfl)]
 simp only [Un (show -200000 ≤ n by omega) (show n ≤ 200000 by omega), Option.bind_some]
 unfold Tw
 rw [Co (by rw [hp, r1]; rfl)]
 simp only [Option.bind_some, e1]
 unfold Bd5
 rw [Co (by rw [hp, r1, r2]; rfl)]
 simp only [s1, s2]
theorem Bg7 (x : Nat) : (qab x).d = (⟨true, 1, (x : Int) - 1000000⟩, ⟨false, 1, (x : Int) - 1000000⟩) := rfl
def Baf (P : Nat) (s t : Qy) (k : Qy → Bool) : Bool :=
 cond (and (Nat.beq t.l.m 0) (Nat.beq t.h.m 0)) (k s) (fN (Nat.add (Dv 475712 P t) 1) fun x => and (Cp (qab x)) (Ul P s (qab x) k))
theorem Be5 {P : Nat} {s t : Qy} {k : Qy → Bool} (p0 : 1 ≤ P) (p1 : P ≤ 8192) (hs : Ry s) (hk : Baf P s t k = true) : ∃ c : Qy, Xp P s.d t.d = some c.d ∧ k c = true := by
 unfold Baf at hk
 rw [Fm, Fm, Jk] at hk
 have m1 : t.d.1.m = (t.l.m : Int) := rfl
 have m2 : t.d.2.m = (t.h.m : Int) := rfl
 unfold Xp
 by_cases h : t.l.m = 0 ∧ t.h.m = 0
 ·rw [decide_eq_true h.1, decide_eq_true h.2] at hk
  rw [if_pos ⟨by omega, by omega⟩]
  exact ⟨s, rfl, hk⟩
 ·have hb : (decide (t.l.m = 0) && decide (t.h.m = 0)) = false := by
   rw [Bool.and_eq_false_iff, decide_eq_false_iff_not, decide_eq_false_iff_not]
   omega
  rw [hb] at hk
  rw [if_neg (by omega)]
  have hk : (and (Cp (qab (Nat.add (Dv 475712 P t) 1))) (Ul P s (qab (Nat.add (Dv 475712 P t) 1)) k)) = true := hk
  rw [Bool.and_eq_true] at hk
  have hr := Cv hk.1
  obtain ⟨c, -, -, e, hkc⟩ := Xg p0 p1 hs hr hk.2
  have l1 : 950000 ≤ Nat.add (Dv 475712 P t) 1 := hr.l.lo
  have l2 : Nat.add (Dv 475712 P t) 1 ≤ 1050000 := hr.l.hi
  have es : ((Nat.add (Dv 475712 P t) 1 : Nat) : Int) - 1000000 = Fv t.d + 1 := by
   rw [← Vn P t]
   show ((Dv 475712 P t + 1 : Nat) : Int) - 1000000 = _
   omega
  rw [Bg7, es] at e
  rw [Bck (Fw p0 p1) (by omega) (by omega)]
  simp only [Option.bind_some]
  exact ⟨c, e, hkc⟩
def Vm (P : Nat) (s t : Qy) (k : Qy → Bool) : Bool :=
 fN (Zg (Nat.add (Dv 0 P t) 1) (Nat.sub 1000000 (Nat.add P 64))) fun x => and (Nat.ble 800000 (Dv 0 P t)) (and (Cp (qab x)) (Sy P s (qab x) k))
theorem Bbz {P : Nat} {s t : Qy} {k : Qy → Bool} (p0 : 1 ≤ P) (p1 : P ≤ 8192) (hs : Ry s) (hk : Vm P s t k = true) : ∃ c : Qy, Bak P s.d t.d = some c.d ∧ k c = true := by
 unfold Vm at hk
 rw [Jk, Bool.and_eq_true, Bool.and_eq_true, Me, decide_eq_true_eq] at hk
 obtain ⟨h8, h1, h2⟩ := hk
 have hr := Cv h1
 obtain ⟨c, -, -, e, hkc⟩ := Mz p0 p1 hs hr h2
 have l1 := hr.l.lo
 have l2 := hr.l.hi
 have eb := Bag P t
 have k1 : ∀ z : Nat, Nat.sub z (Nat.add P 64) = z - (P + 64) := fun _ => rfl
 have k2 : Nat.add (Dv 0 P t) 1 = Dv 0 P t + 1 := rfl
 have es : ((Zg (Nat.add (Dv 0 P t) 1) (Nat.sub 1000000 (Nat.add P 64)) : Nat) : Int) - 1000000 = max (Gw t.d + 1) (-(P : Int) - 64) := by
  rw [Vl, ← eb, k1, k2]
  omega
 have l1 : 950000 ≤ Zg (Nat.add (Dv 0 P t) 1) (Nat.sub 1000000 (Nat.add P 64)) := l1
 have l2 : Zg (Nat.add (Dv 0 P t) 1) (Nat.sub 1000000 (Nat.add P 64)) ≤ 1050000 := l2
 rw [Bg7, es] at e
 unfold Bak
 rw [if_neg (by omega), Bb6 (Fw p0 p1) (by omega) (by omega)]
 simp only [Option.bind_some]
 exact ⟨c, e, hkc⟩
def Be6 (P : Nat) (turn : Bool) (sq : Qn) (k : Qy → Bool) (f : Nat) : Nat → Qy → Qy → Bool :=
 Nat.rec (fun _ _ _ => false) (fun _ r i s t => and (and (Cp s) (Cp t)) (cond (Tc (Dv 475712 P s) (Nat.add (Dv 475712 P t) P)) (Um P turn sq i t fun t' p => and (Cp p) (Ul P s p fun s' => fN (Nat.add i 1) fun i' => r i' s' t')) (Baf P s t k))) f
theorem Be7 {P : Nat} {turn : Bool} {sq : Qn} {k : Qy → Bool} (p0 : 1 ≤ P) (p1 : P ≤ 8192) (hq : Good sq) (f : Nat) : ∀ {i : Nat} {s t : Qy}, Be6 P turn sq k f i s t = true → ∃ c : Qy, Rj P (Lw P turn (sq.d, sq.d)) f i s.d t.d = some c.d ∧ k c = true := by
 induction f with
 | zero => intro i s t hk; cases hk
 | succ f ih =>
  intro i s t hk
  have hk : (and (and (Cp s) (Cp t)) (cond (Tc (Dv 475712 P s) (Nat.add (Dv 475712 P t) P)) (Um P turn sq i t fun t' p => and (Cp p) (Ul P s p fun s' => fN (Nat.add i 1) fun i' => Be6 P turn sq k f i' s' t')) (Baf P s t k))) = true := hk
  rw [Bool.and_eq_true, Bool.and_eq_true, Hz] at hk
  obtain ⟨⟨rs, rt⟩, hk⟩ := hk
  have rs := Cv rs
  have rt := Cv rt
  have es := Vn P s
  have et := Vn P t
  have ea : Nat.add (Dv 475712 P t) P = Dv 475712 P t + P := rfl
  unfold Rj
  rw [Co (by rw [Fw p0 p1, rs.r, rt.r]; rfl)]
  by_cases h : Dv 475712 P s < Dv 475712 P t + P
  ·rw [ea, decide_eq_true h, cond_true] at hk
   rw [if_pos (by omega)]
   obtain ⟨t', p, e1, hk⟩ := Xj p0 p1 rt hq hk
   rw [Bool.and_eq_true] at hk
   obtain ⟨s', -, -, e2, hk2⟩ := Xg p0 p1 rs (Cv hk.1) hk.2
   rw [Jk] at hk2
   obtain ⟨c, e3, hkc⟩ := ih hk2
   refine ⟨c, ?_, hkc⟩
   rw [e1]
   simp only [Option.bind_some]
   rw [e2]
   simp only [Option.bind_some]
   exact e3
  ·rw [ea, decide_eq_false h, cond_false] at hk
   rw [if_neg (by omega)]
   exact Be5 p0 p1 rs hk
def Zh (P : Nat) (turn : Bool) (sq : Qn) (k : Qy → Bool) (f : Nat) : Nat → Qy → Qy → Bool :=
 Nat.rec (fun _ _ _ => false) (fun _ r i s t => and (and (Cp s) (Cp t)) (cond (Tc 1000000 (Nat.add (Nat.add (Dv 0 P t) P) 4)) (Um P turn sq i t fun t' p => and (Cp p) (Sy P s p fun s' => fN (Nat.add i 1) fun i' => r i' s' t')) (Vm P s t k))) f
theorem Bc1 {P : Nat} {turn : Bool} {sq : Qn} {k : Qy → Bool} (p0 : 1 ≤ P) (p1 : P ≤ 8192) (hq : Good sq) (f : Nat) : ∀ {i : Nat} {s t : Qy}, Zh P turn sq k f i s t = true → ∃ c : Qy, Tp P (Lw P turn (sq.d, sq.d)) f i s.d t.d = some c.d ∧ k c = true := by
 induction f with
 | zero => intro i s t hk; cases hk
 | succ f ih =>
  intro i s t hk
  have hk : (and (and (Cp s) (Cp t)) (cond (Tc 1000000 (Nat.add (Nat.add (Dv 0 P t) P) 4)) (Um P turn sq i t fun t' p => and (Cp p) (Sy P s p fun s' => fN (Nat.add i 1) fun i' => Zh P turn sq k f i' s' t')) (Vm P s t k))) = true := hk
  rw [Bool.and_eq_true, Bool.and_eq_true, Hz] at hk
  obtain ⟨⟨rs, rt⟩, hk⟩ := hk
  have rs := Cv rs
  have rt := Cv rt
  have et := Bag P t
  have ea : Nat.add (Nat.add (Dv 0 P t) P) 4 = Dv 0 P t + P + 4 := rfl
  unfold Tp
  rw [Co (by rw [Fw p0 p1, rs.r, rt.r]; rfl)]
  by_cases h : 1000000 < Dv 0 P t + P + 4
  ·rw [ea, decide_eq_true h, cond_true] at hk
   rw [if_pos (by omega)]
   obtain ⟨t', p, e1, hk⟩ := Xj p0 p1 rt hq hk
   rw [Bool.and_eq_true] at hk
   obtain ⟨s', -, -, e2, hk2⟩ := Mz p0 p1 rs (Cv hk.1) hk.2
   rw [Jk] at hk2
   obtain ⟨c, e3, hkc⟩ := ih hk2
   refine ⟨c, ?_, hkc⟩
   rw [e1]
   simp only [Option.bind_some]
   rw [e2]
   simp only [Option.bind_some]
   exact e3
  ·rw [ea, decide_eq_false h, cond_false] at hk
   rw [if_neg (by omega)]
   exact Bbz p0 p1 rs hk
set_option exponentiation.threshold 2000
def q1 : Qn := ⟨false, 1, 1000000⟩
theorem Ba9 : Good q1 := Gm (by decide) (by decide)
theorem q1_d : q1.d = ⟨false, 1, 0⟩ := by
 unfold q1
 rw [Ba7]
 congr 1
def Bdt (P : Nat) (turn : Bool) (n : Nat) (k : Qy → Bool) : Bool :=
 fQ (Jg (Nat.mul n n)) fun sq => fQ (Jg n) fun v => and (and (Fe sq) (Fe v)) (Bby P ⟨q1, q1⟩ v fun t => Be6 P turn sq k 2000 1 t t)
theorem Vj {P : Nat} {turn : Bool} {n : Nat} {k : Qy → Bool} (p0 : 1 ≤ P) (p1 : P ≤ 8192) (hk : Bdt P turn n k = true) : ∃ c : Qy, Gn P n turn = some c.d ∧ k c = true := by
 unfold Bdt at hk
 rw [Hy, Hy, Bool.and_eq_true, Bool.and_eq_true] at hk
 obtain ⟨⟨g1, g2⟩, hk⟩ := hk
 have g1 := Dc g1
 have g2 := Dc g2
 obtain ⟨t, -, -, e1, hk⟩ := Rz p0 p1 (Hb Ba9) g2 hk
 obtain ⟨c, e2, hkc⟩ := Be7 p0 p1 g1 2000 hk
 refine ⟨c, ?_, hkc⟩
 unfold Gn
 have en : (n : Int) * (n : Int) = ((Nat.mul n n : Nat) : Int) := by
  have : Nat.mul n n = n * n := rfl
  rw [this]
  simp
 have e1 : Qm P (q1.d, q1.d) ((Jg n).d, (Jg n).d) = some t.d := e1
 rw [q1_d] at e1
 rw [en, Kc p0 p1]
 simp only [Option.bind_some]
 rw [Rx (Fw p0 p1)]
 simp only [Option.bind_some]
 rw [Kc p0 p1]
 simp only [Option.bind_some]
 rw [e1]
 simp only [Option.bind_some]
 exact e2
def Bdu (P : Nat) (turn : Bool) (n : Nat) (k : Qy → Bool) : Bool :=
 fQ (Jg (Nat.mul n n)) fun sq => fQ (Jg n) fun v => and (and (Fe sq) (Fe v)) (Bby P ⟨q1, q1⟩ v fun t => Zh P turn sq k 2000 1 t t)
theorem Bdv {P : Nat} {turn : Bool} {n : Nat} {k : Qy → Bool} (p0 : 1 ≤ P) (p1 : P ≤ 8192) (hk : Bdu P turn n k = true) : ∃ c : Qy, Mu P n turn = some c.d ∧ k c = true := by
 unfold Bdu at hk
 rw [Hy, Hy, Bool.and_eq_true, Bool.and_eq_true] at hk
 obtain ⟨⟨g1, g2⟩, hk⟩ := hk
 have g1 := Dc g1
 have g2 := Dc g2
 obtain ⟨t, -, -, e1, hk⟩ := Rz p0 p1 (Hb Ba9) g2 hk
 obtain ⟨c, e2, hkc⟩ := Bc1 p0 p1 g1 2000 hk
 refine ⟨c, ?_, hkc⟩
 unfold Mu
 have en : (n : Int) * (n : Int) = ((Nat.mul n n : Nat) : Int) := by
  have : Nat.mul n n = n * n := rfl
  rw [this]
  simp
 have e1 : Qm P (q1.d, q1.d) ((Jg n).d, (Jg n).d) = some t.d := e1
 rw [q1_d] at e1
 rw [Rx (Fw p0 p1)]
 simp only [Option.bind_some]
 rw [Kc p0 p1]
 simp only [Option.bind_some]
 rw [e1]
 simp only [Option.bind_some]
 rw [en, Kc p0 p1]
 simp only [Option.bind_some]
 exact e2
def qpi (p : Nat) (k : Qy → Bool) : Bool :=
 fN (Nat.add p 64) fun P => Bdt P true 5 fun a => and (Cp a) (Qu a 3 fun b => Bdt P true 239 fun c => and (Cp c) (Qu c 1 fun d => and (and (Cp b) (Cp d)) (Bah P b d fun e => and (Cp e) (Qu e 1 fun f => and (Cp f) (qout p f k)))))
theorem Be4 {p : Nat} {k : Qy → Bool} (p0 : 1 ≤ p) (p1 : p ≤ 8000) (hk : qpi p k = true) : ∃ c : Qy, piS p = some c.d ∧ k c = true := by
 unfold qpi at hk
 rw [Jk] at hk
 have e : (p : Int) + 64 = ((Nat.add p 64 : Nat) : Int) := by show _ = ((p + 64 : Nat) : Int); omega
 have q0 : 1 ≤ Nat.add p 64 := by show 1 ≤ p + 64; omega
 have q2 : Nat.add p 64 ≤ 8192 := by show p + 64 ≤ 8192; omega
 generalize Nat.add p 64 = P at *
 obtain ⟨a, e1, hk⟩ := Vj q0 q2 hk
 rw [Bool.and_eq_true] at hk
 obtain ⟨b, -, -, e2, hk⟩ := Ll (P := P) q0 q2 (by decide) (Cv hk.1) hk.2
 obtain ⟨c, e3, hk⟩ := Vj q0 q2 hk
 rw [Bool.and_eq_true] at hk
 obtain ⟨d, -, -, e4, hk⟩ := Ll (P := P) q0 q2 (by decide) (Cv hk.1) hk.2
 rw [Bool.and_eq_true, Bool.and_eq_true] at hk
 obtain ⟨f, -, -, e5, hk⟩ := Xk q0 q2 (Cv hk.1.1) (Cv hk.1.2) hk.2
 rw [Bool.and_eq_true] at hk
 obtain ⟨h, -, -, e6, hk⟩ := Ll (P := P) q0 q2 (by decide) (Cv hk.1) hk.2
 rw [Bool.and_eq_true] at hk
 obtain ⟨r, -, -, e7, hk⟩ := Bae p0 (by omega) (Cv hk.1) hk.2
 refine ⟨r, ?_, hk⟩
 have e1 : Gn P 5 true = some a.d := e1
 have e2 : Fx P a.d 3 = some b.d := e2
 have e3 : Gn P 239 true = some c.d := e3
 have e4 : Fx P c.d 1 = some d.d := e4
 have e6 : Fx P f.d 1 = some h.d := e6
 unfold piS Vc
 rw [e]
 simp only [e1, e2, e3, e4, e5, e6, e7, Option.bind_some]
def qln2 (p : Nat) (k : Qy → Bool) : Bool := fN (Nat.add p 64) fun P => Bdt P false 3 fun a => and (Cp a) (Qu a 1 fun b => and (Cp b) (qout p b k))
theorem Bfk {p : Nat} {k : Qy → Bool} (p0 : 1 ≤ p) (p1 : p ≤ 8000) (hk : qln2 p k = true) : ∃ c : Qy, Bde p = some c.d ∧ k c = true := by
 unfold qln2 at hk
 rw [Jk] at hk
 have e : (p : Int) + 64 = ((Nat.add p 64 : Nat) : Int) := by show _ = ((p + 64 : Nat) : Int); omega
 have q0 : 1 ≤ Nat.add p 64 := by show 1 ≤ p + 64; omega
 have q2 : Nat.add p 64 ≤ 8192 := by show p + 64 ≤ 8192; omega
 generalize Nat.add p 64 = P at *
 obtain ⟨a, e1, hk⟩ := Vj q0 q2 hk
 rw [Bool.and_eq_true] at hk
 obtain ⟨b, -, -, e2, hk⟩ := Ll (P := P) q0 q2 (by decide) (Cv hk.1) hk.2
 rw [Bool.and_eq_true] at hk
 obtain ⟨r, -, -, e7, hk⟩ := Bae p0 (by omega) (Cv hk.1) hk.2
 refine ⟨r, ?_, hk⟩
 have e1 : Gn P 3 false = some a.d := e1
 have e2 : Fx P a.d 1 = some b.d := e2
 unfold Bde Ve
 rw [e]
 simp only [e1, e2, e7, Option.bind_some]
def Kz (P n m : Nat) (turn : Bool) (k : Qy → Bool) : Bool := fQ (Jg n) fun u => and (Fe u) (Bdu P turn m fun v => and (Cp v) (Be0 P u v k))
theorem Hl {P n m : Nat} {turn : Bool} {k : Qy → Bool} (p0 : 1 ≤ P) (p1 : P ≤ 8192) (hk : Kz P n m turn k = true) : ∃ c : Qy, Gu P n m turn = some c.d ∧ k c = true := by
 unfold Kz at hk
 rw [Hy, Bool.and_eq_true] at hk
 obtain ⟨g, hk⟩ := hk
 obtain ⟨v, e1, hk⟩ := Bdv p0 p1 hk
 rw [Bool.and_eq_true] at hk
 obtain ⟨c, -, -, e2, hk⟩ := Be1 p0 p1 (Dc g) (Cv hk.1) hk.2
 refine ⟨c, ?_, hk⟩
 unfold Gu
 rw [Kc p0 p1]
 simp only [e1, e2, Option.bind_some]
def qpi4 (P : Nat) (k : Qy → Bool) : Bool :=
 Kz P 48 18 true fun a => Kz P 32 57 true fun b => Kz P 20 239 true fun c => and (and (Cp a) (Cp b)) (Sy P a b fun d => and (and (Cp d) (Cp c)) (Bai P d c k))
theorem Bfn {P : Nat} {k : Qy → Bool} (p0 : 1 ≤ P) (p1 : P ≤ 8192) (hk : qpi4 P k = true) : ∃ c : Qy, piR P = some c.d ∧ k c = true := by
 unfold qpi4 at hk
 obtain ⟨a, e1, hk⟩ := Hl p0 p1 hk
 obtain ⟨b, e2, hk⟩ := Hl p0 p1 hk
 obtain ⟨c, e3, hk⟩ := Hl p0 p1 hk
 rw [Bool.and_eq_true, Bool.and_eq_true] at hk
 obtain ⟨d, -, -, e4, hk⟩ := Mz p0 p1 (Cv hk.1.1) (Cv hk.1.2) hk.2
 rw [Bool.and_eq_true, Bool.and_eq_true] at hk
 obtain ⟨r, -, -, e5, hk⟩ := Xl p0 p1 (Cv hk.1.1) (Cv hk.1.2) hk.2
 refine ⟨r, ?_, hk⟩
 have e1 : Gu P 48 18 true = some a.d := e1
 have e2 : Gu P 32 57 true = some b.d := e2
 have e3 : Gu P 20 239 true = some c.d := e3
 unfold piR
 simp only [e1, e2, e3, e4, e5, Option.bind_some]
def qln4 (P : Nat) (k : Qy → Bool) : Bool :=
 Kz P 18 26 false fun a => Kz P 2 4801 false fun b => Kz P 8 8749 false fun c => and (and (Cp a) (Cp b)) (Bai P a b fun d => and (and (Cp d) (Cp c)) (Sy P d c k))
theorem Bfl {P : Nat} {k : Qy → Bool} (p0 : 1 ≤ P) (p1 : P ≤ 8192) (hk : qln4 P k = true) : ∃ c : Qy, Bdd P = some c.d ∧ k c = true := by
 unfold qln4 at hk
 obtain ⟨a, e1, hk⟩ := Hl p0 p1 hk
 obtain ⟨b, e2, hk⟩ := Hl p0 p1 hk
 obtain ⟨c, e3, hk⟩ := Hl p0 p1 hk
 rw [Bool.and_eq_true, Bool.and_eq_true] at hk
 obtain ⟨d, -, -, e4, hk⟩ := Xl p0 p1 (Cv hk.1.1) (Cv hk.1.2) hk.2
 rw [Bool.and_eq_true, Bool.and_eq_true] at hk
 obtain ⟨r, -, -, e5, hk⟩ := Mz p0 p1 (Cv hk.1.1) (Cv hk.1.2) hk.2
 refine ⟨r, ?_, hk⟩
 have e1 : Gu P 18 26 false = some a.d := e1
 have e2 : Gu P 2 4801 false = some b.d := e2
 have e3 : Gu P 8 8749 false = some c.d := e3
 unfold Bdd
 simp only [e1, e2, e3, e4, e5, Option.bind_some]
def Rf (a b : Dy × Dy) : Bool := decide (cDy a.1 b.2 ≤ 0) && decide (cDy b.1 a.2 ≤ 0)
def Vh (d : Dy) (n : Int) : Bool := decide (bl d.m = 0) || (decide (bl d.m + d.e ≤ n) || (decide (bl d.m = 1) && decide (d.e = n)))
def Ka (a : Dy × Dy) (n : Int) : Bool := Vh (Hh a.2 (Cm a.1)) n
def Bdx (a b : Qy) : Bool := and (not (qlt b.h a.l)) (not (qlt a.h b.l))
theorem Vk {a b : Qn} (ha : Good a) (hb : Good b) (h : qlt b a = false) : cDy a.d b.d ≤ 0 := by
 have e := (Sz ha hb).2
 rw [h] at e
 have := of_decide_eq_false e
 omega
theorem Bdy {a b : Qy} (ha : Ry a) (hb : Ry b) (h : Bdx a b = true) : Rf a.d b.d = true := by
 unfold Bdx at h
 simp only [Bool.and_eq_true, Bool.not_eq_true'] at h
 unfold Rf
 have h1 : cDy a.d.1 b.d.2 ≤ 0 := Vk ha.l hb.h h.1
 have h2 : cDy b.d.1 a.d.2 ≤ 0 := Vk hb.l ha.h h.2
 rw [decide_eq_true h1, decide_eq_true h2]
 rfl
def Sa (P : Nat) (a : Qy) (x : Nat) : Bool := fQ (Zf a.h (Hr a.l)) fun d => fN (qbl P d.m) fun b => or (Nat.beq b 0) (or (Nat.ble (Nat.add b d.x) x) (and (Nat.beq b 1) (Nat.beq d.x x)))
theorem Td {P : Nat} {a : Qy} {x : Nat} (h : Sa P a x = true) : Ka a.d ((x : Int) - 1000000) = true := by
 unfold Sa at h
 rw [Hy, Jk] at h
 have e := Bdq a.h (Hr a.l)
 rw [Lk] at e
 unfold Ka
 have e2 : Hh a.d.2 (Cm a.d.1) = (Zf a.h (Hr a.l)).d := e.symm
 rw [e2]
 generalize Zf a.h (Hr a.l) = d at *
 have hb := Qt P d.m
 generalize qbl P d.m = b at *
 unfold Vh
 have m1 : bl d.d.m = (b : Int) := hb.symm
 have m2 : d.d.e = (d.x : Int) - 1000000 := rfl
 rw [m1, m2]
 rw [Fm, Fm, Fm, Me] at h
 simp only [Bool.or_eq_true, Bool.and_eq_true, decide_eq_true_eq] at h ⊢
 have h3 : Nat.add b d.x = b + d.x := rfl
 rw [h3] at h
 omega
def qin (j : Qn) (a : Qy) : Bool := and (not (qlt j a.l)) (not (qlt a.h j))
theorem Bj2 {j : Qn} {a : Qy} (hj : Good j) (ha : Ry a) (h : qin j a = true) : cDy a.d.1 j.d ≤ 0 ∧ cDy j.d a.d.2 ≤ 0 := by
 unfold qin at h
 simp only [Bool.and_eq_true, Bool.not_eq_true'] at h
 exact ⟨Vk ha.l hj h.1, Vk hj ha.h h.2⟩
structure Ask (j : Dy) (p : Nat) (o r : Option (Dy × Dy)) : Prop where
 all : ∃ a b, o = some a ∧ r = some b ∧ Cj a = true ∧ Cj b = true ∧ Rf a b = true ∧ Ka a (4 - p) = true ∧ cDy a.1 j ≤ 0 ∧ cDy j a.2 ≤ 0
def qask (j : Qn) (p : Nat) (a b : Qy) : Bool := and (and (Cp a) (Cp b)) (and (and (Bdx a b) (Sa 20 a (Nat.sub 1000004 p))) (qin j a))
theorem Baa {j : Qn} {p : Nat} {a b : Qy} {o r : Option (Dy × Dy)} (hj : Good j) (hp : p ≤ 1000) (ho : o = some a.d) (hr : r = some b.d) (h : qask j p a b = true) : Ask j.d p o r := by
 unfold qask at h
 simp only [Bool.and_eq_true] at h
 obtain ⟨⟨r1, r2⟩, ⟨h1, h2⟩, h3⟩ := h
 have r1 := Cv r1
 have r2 := Cv r2
 have h3 := Bj2 hj r1 h3
 have h2 := Td h2
 have key : ∀ z : Nat, Nat.sub z p = z - p := fun _ => rfl
 have e : ((Nat.sub 1000004 p : Nat) : Int) - 1000000 = 4 - (p : Int) := by rw [key]; omega
 rw [e] at h2
 exact ⟨a.d, b.d, ho, hr, r1.r, r2.r, Bdy r1 r2 h1, h2, h3.1, h3.2⟩
def Cu (j : Qn) (p : Nat) : Bool := qpi p fun a => fN (Nat.add p 100) fun P => qpi4 P fun b => qask j p a b
def Ct (j : Qn) (p : Nat) : Bool := qln2 p fun a => fN (Nat.add p 100) fun P => qln4 P fun b => qask j p a b
theorem Bbw {j : Qn} {p : Nat} (hj : Good j) (p0 : 1 ≤ p) (p1 : p ≤ 1000) (h : Cu j p = true) : Ask j.d p (piS p) (piR (p + 100)) := by
 unfold Cu at h
 obtain ⟨a, e1, h⟩ := Be4 p0 (by omega) h
 rw [Jk] at h
 have k : Nat.add p 100 = p + 100 := rfl
 rw [k] at h
 obtain ⟨b, e2, h⟩ := Bfn (by omega) (by omega) h
 have e3 : ((p + 100 : Nat) : Int) = (p : Int) + 100 := by omega
 rw [e3] at e2
 exact Baa hj p1 e1 e2 h
theorem Bbv {j : Qn} {p : Nat} (hj : Good j) (p0 : 1 ≤ p) (p1 : p ≤ 1000) (h : Ct j p = true) : Ask j.d p (Bde p) (Bdd (p + 100)) := by
 unfold Ct at h
 obtain ⟨a, e1, h⟩ := Bfk p0 (by omega) h
 rw [Jk] at h
 have k : Nat.add p 100 = p + 100 := rfl
 rw [k] at h
 obtain ⟨b, e2, h⟩ := Bfl (by omega) (by omega) h
 have e3 : ((p + 100 : Nat) : Int) = (p : Int) + 100 := by omega
 rw [e3] at e2
 exact Baa hj p1 e1 e2 h
def Cz (f : Nat → Bool) (p n : Nat) : Bool := Nat.rec true (fun i r => and (fN (Nat.add p i) f) r) n
theorem Bs {f : Nat → Bool} {p n : Nat} (h : Cz f p n = true) {q : Nat} (h0 : p ≤ q) (h1 : q < p + n) : f q = true := by
 induction n with
 | zero => omega
 | succ n ih =>
  have h : (and (fN (Nat.add p n) f) (Cz f p n)) = true := h
  rw [Bool.and_eq_true, Jk] at h
  by_cases e : q = p + n
  ·subst e; exact h.1
  ·exact ih h.2 (by omega)
theorem rgap (p q : Bool) (A A' : Option Addr) (n c n' c' : Nat) (x y e f : Int) (w : World) (h : Arr w A n c (wd x)) (h' : Arr w A' n' c' (wd y)) (ha : PlD ⟨p, x, e⟩) (hb : PlD ⟨q, y, f⟩) (e0 : -100000 ≤ e) (e1 : e ≤ 100000) (f0 : -100000 ≤ f) (f1 : f ≤ 100000) (hn : n ≤ 1000) (hn' : n' ≤ 1000) :
  Calls Tryz.prog 88 #[(.agg #[.bool p, .slice A n c, .int .i64 e]), (.agg #[.bool q, .slice A' n' c', .int .i64 f])] w (Bcj (Hh ⟨p, x, e⟩ (Cm ⟨q, y, f⟩)) w) := by
 have hq : Cm ⟨q, y, f⟩ = ⟨!q && decide (0 < n'), y, f⟩ := by unfold Cm; simp only; rw [h'.len]
 obtain ⟨s1, s2, s3, s4, s5, s6⟩ := Mc ha hb.neg ⟨e0, e1⟩ ⟨f0, f1⟩
 have hx : 0 ≤ x := ha.2
 have hy : 0 ≤ y := hb.2
 have hp : x = 0 → p = false := fun hz => by
  have := (ha.bounds).2.2.2.2 hz
  have e2 : (⟨p, x, e⟩ : Dy).neg = Dy.zero.neg := by rw [this]
  exact e2
 have s5 : (wd (lev x e (Ch x y e f))).length ≤ 3400 := s5
 have s6 : (wd (lev y f (Ch x y e f))).length ≤ 3400 := s6
 have RA := Be (fun (s : Bool) (w1 : World) (H1 : Arr w1 A n c (wd x)) (H2 : Arr w1 A' n' c' (wd y)) => Be8 p s A A' n c n' c' x y e f w1 H1 H2 hx hy (by omega) (by omega) (by omega) (by omega) (by omega) (by omega) (.inr (.inr (by omega))) hp (by omega) (by omega))
 have b3 : Below w.heap.size w (((w.alloc (.cells #[.bool p, .slice A n c, .int .i64 e] 26)).alloc (.cells #[.bool q, .slice A' n' c', .int .i64 f] 26)).alloc (.cells #[.bool false, .slice none 0 0, .int .i64 0] 26)) := Ba (Ba (Ba (Bb w) _) _) _
 have xb := (Bg (w.alloc (.cells #[.bool p, .slice A n c, .int .i64 e] 26)) #[.bool q, .slice A' n' c', .int .i64 f] 26).later (Ba (Bb _) (.cells #[.bool false, .slice none 0 0, .int .i64 0] 26))
 rw [show (w.alloc (.cells #[.bool p, .slice A n c, .int .i64 e] 26)).heap.size = w.heap.size + 1 by simp] at xb
 have xr := Bg ((w.alloc (.cells #[.bool p, .slice A n c, .int .i64 e] 26)).alloc (.cells #[.bool q, .slice A' n' c', .int .i64 f] 26)) #[.bool false, .slice none 0 0, .int .i64 0] 26
 rw [show ((w.alloc (.cells #[.bool p, .slice A n c, .int .i64 e] 26)).alloc (.cells #[.bool q, .slice A' n' c', .int .i64 f] 26)).heap.size = w.heap.size + 1 + 1 by simp] at xr
 have xa := ((Bg w #[.bool p, .slice A n c, .int .i64 e] 26).later (Ba (Bb _) (.cells #[.bool q, .slice A' n' c', .int .i64 f] 26))).later (Ba (Bb _) (.cells #[.bool false, .slice none 0 0, .int .i64 0] 26))
 have H := h.below b3
 have H' := h'.below b3
 obtain ⟨k0, k1, k2, f0', f1', f2'⟩ := xb.cell3
 obtain ⟨j0, j1, j2, -, -, -⟩ := xa.cell3
 rw [hq]
 clear hq s1 s2 s3 s4 s5 s6 hp
 by_cases h0 : n' = 0
 ·have hd : decide (0 < n') = false := by simp; omega
  have hq0 : q = false := by
   have hy0 : y = 0 := by
    have := h'.len
    have h1 := wd_eq_nil.1 (List.length_eq_zero_iff.1 (this.trans h0))
    omega
   have := (hb.bounds).2.2.2.2 hy0
   have e2 : (⟨q, y, f⟩ : Dy).neg = Dy.zero.neg := by rw [this]
   exact e2
  subst hq0
  rw [hd]
  have RA := Be (RA.out false _ H H')
  have hdi : decide ((n' : Int) > 0) = false := by simp; omega
  have hdj : decide ((0 : Int) < (n' : Int)) = false := by simp; omega
  clear h h' ha hb hx hy h0
  go_enter Tryz.func88, Tryz.ntmps88
  go_wp2_with fail
  refine RA.out.mono ?_
  rintro r w5 ⟨A5, n5, c5, rfl, a5, hb5⟩
  have xr := xr.later hb5
  have bw := Bc b3 hb5
  go_wp2_with (refine Fk rfl _ _ rfl rfl (w.heap.size + 1 + 1) _ A5 n5 c5 _ xr rfl rfl (fun W5 y5 g5 => ?_); have a5 := a5.grown xr Bbs g5; have bw := Bl bw g5 (by omega); obtain ⟨u0, u1, u2, -, -, -⟩ := y5.cell3)
  refine bodyPost_ret (v := _) ?_ rfl ⟨A5, n5, c5, rfl, a5, bw⟩
  simp [results, Tryz.results88, go_sem, u0, u1, u2]
 ·have hd : decide (0 < n') = true := by simp; omega
  rw [hd, Bool.and_true]
  have b4 : Below w.heap.size w (((w.alloc (.cells #[.bool p, .slice A n c, .int .i64 e] 26)).alloc (.cells #[.bool (!q), .slice A' n' c', .int .i64 f] 26)).alloc (.cells #[.bool false, .slice none 0 0, .int .i64 0] 26)) := Ba (Ba (Ba (Bb w) _) _) _
  have RA := Be (RA.out (!q) _ (h.below b4) (h'.below b4))
  have hdi : decide ((n' : Int) > 0) = true := by simp; omega
  have hdj : decide ((0 : Int) < (n' : Int)) = true := by simp; omega
  have xr2 := Bg ((w.alloc (.cells #[.bool p, .slice A n c, .int .i64 e] 26)).alloc (.cells #[.bool (!q), .slice A' n' c', .int .i64 f] 26)) #[.bool false, .slice none 0 0, .int .i64 0] 26
  rw [show ((w.alloc (.cells #[.bool p, .slice A n c, .int .i64 e] 26)).alloc (.cells #[.bool (!q), .slice A' n' c', .int .i64 f] 26)).heap.size = w.heap.size + 1 + 1 by simp] at xr2
  clear h h' ha hb hx hy h0
  go_enter Tryz.func88, Tryz.ntmps88
  go_wp2_with fail
  refine RA.out.mono ?_
  rintro r w5 ⟨A5, n5, c5, rfl, a5, hb5⟩
  have xr := xr2.later hb5
  have bw := Bc b4 hb5
  go_wp2_with (refine Fk rfl _ _ rfl rfl (w.heap.size + 1 + 1) _ A5 n5 c5 _ xr rfl rfl (fun W5 y5 g5 => ?_); have a5 := a5.grown xr Bbs g5; have bw := Bl bw g5 (by omega); obtain ⟨u0, u1, u2, -, -, -⟩ := y5.cell3)
  refine bodyPost_ret (v := _) ?_ rfl ⟨A5, n5, c5, rfl, a5, bw⟩
  simp [results, Tryz.results88, go_sem, u0, u1, u2]
theorem Bea (P : Int) (w : World) : Calls Tryz.prog 21 #[.int .i64 P] w fun r w' => ∃ g, r = .returned (.pointer (some ⟨g, 0, none⟩)) ∧ Wk w' g P false 38 ∧ Below w.heap.size w w' := by
 go_enter Tryz.func21, Tryz.ntmps21
 go_wp2_with fail
 go_ret
 exact ⟨_, rfl, Bg w #[.int .i64 P, .bool false] 38, Ba (Bb w) _⟩
theorem Bcw {a b : Dy} (ha : PlD a) (hb : PlD b) : Mq a.neg b.neg (wd a.m) (wd b.m) a.e b.e = .tuple #[.int .i64 (cDy a b), .bool true] := by
 rw [Rq]
 unfold Gj
 rw [ha.1, hb.1]
 rfl
theorem Bee (a b : Dy × Dy) (A A' B B' : Option Addr) (n i n' i' m j m' j' : Nat) (w : World) (a1 : Arr w A n i (wd a.1.m)) (a2 : Arr w A' n' i' (wd a.2.m)) (b1 : Arr w B m j (wd b.1.m)) (b2 : Arr w B' m' j' (wd b.2.m))
  (ra : Cj a = true) (rb : Cj b = true) (h : Rf a b = true) :
  Calls Tryz.prog 26 #[(.agg #[.bool (a).1.neg, .slice A n i, .int .i64 (a).1.e, .bool (a).2.neg, .slice A' n' i', .int .i64 (a).2.e]), (.agg #[.bool (b).1.neg, .slice B m j, .int .i64 (b).1.e, .bool (b).2.neg, .slice B' m' j', .int .i64 (b).2.e])] w fun r w' => r = .returned (.bool true) ∧ Below w.heap.size w w' := by
 obtain ⟨pa1, pa2⟩ := Gr ra
 obtain ⟨pb1, pb2⟩ := Gr rb
 obtain ⟨-, f1, f2⟩ := Bn ra
 obtain ⟨-, f3, f4⟩ := Bn rb
 have bw : Below w.heap.size w ((w.alloc (.cells #[.bool (a).1.neg, .slice A n i, .int .i64 (a).1.e, .bool (a).2.neg, .slice A' n' i', .int .i64 (a).2.e] 28)).alloc (.cells #[.bool (b).1.neg, .slice B m j, .int .i64 (b).1.e, .bool (b).2.neg, .slice B' m' j', .int .i64 (b).2.e] 28)) := Ba (Ba (Bb w) _) _
 have C1 := Be (fun w1 (hb : Below w.heap.size w w1) => Xo a.1.neg b.2.neg A B' n i m' j' _ _ a.1.e b.2.e w1 (a1.below hb) (b2.below hb) (by have := Dl a1 f1; omega) (by have := Dl b2 f4; omega))
 have C2 := Be (fun w1 (hb : Below w.heap.size w w1) => Xo b.1.neg a.2.neg B A' m j n' i' _ _ b.1.e a.2.e w1 (b1.below hb) (a2.below hb) (by have := Dl b1 f3; omega) (by have := Dl a2 f2; omega))
 have c1 := C1.out
 have c2 := C2.out
 rw [Bcw pa1 pb2] at c1
 rw [Bcw pb1 pa2] at c2
 have C1 := Be c1
 have C2 := Be c2
 unfold Rf at h
 rw [Bool.and_eq_true] at h
 obtain ⟨d1, d2⟩ := h
 have xa := (Bg w #[.bool (a).1.neg, .slice A n i, .int .i64 (a).1.e, .bool (a).2.neg, .slice A' n' i', .int .i64 (a).2.e] 28).later (Ba (Bb _) (.cells #[.bool (b).1.neg, .slice B m j, .int .i64 (b).1.e, .bool (b).2.neg, .slice B' m' j', .int .i64 (b).2.e] 28))
 have xb := Bg (w.alloc (.cells #[.bool (a).1.neg, .slice A n i, .int .i64 (a).1.e, .bool (a).2.neg, .slice A' n' i', .int .i64 (a).2.e] 28)) #[.bool (b).1.neg, .slice B m j, .int .i64 (b).1.e, .bool (b).2.neg, .slice B' m' j', .int .i64 (b).2.e] 28
 rw [show (w.alloc (.cells #[.bool (a).1.neg, .slice A n i, .int .i64 (a).1.e, .bool (a).2.neg, .slice A' n' i', .int .i64 (a).2.e] 28)).heap.size = w.heap.size + 1 by simp] at xb
 obtain ⟨k0, k1, k2, k3, k4, k5, -⟩ := xa.cell6
 obtain ⟨l0, l1, l2, l3, l4, l5, -⟩ := xb.cell6
 clear c1 c2 a1 a2 b1 b2 ra rb pa1 pa2 pb1 pb2 f1 f2 f3 f4
 go_enter Tryz.func26, Tryz.ntmps26
 go_wp2_with fail
 refine (C1.out _ bw).mono ?_
 rintro r w5 ⟨rfl, hb5⟩
 have xa := xa.later hb5
 have xb := xb.later hb5
 have bw := Bc bw hb5
 clear k0 k1 k2 k3 k4 k5 l0 l1 l2 l3 l4 l5
 obtain ⟨k0, k1, k2, k3, k4, k5, -⟩ := xa.cell6
 obtain ⟨l0, l1, l2, l3, l4, l5, -⟩ := xb.cell6
 go_wp2_with fail
 refine (C2.out _ bw).mono ?_
 rintro r w6 ⟨rfl, hb6⟩
 have bw := Bc bw hb6
 generalize cDy a.1 b.2 = z1 at *
 generalize cDy b.1 a.2 = z2 at *
 go_wp2_with fail
 go_ret
 exact ⟨rfl, bw⟩
theorem Bal (a : Dy × Dy) (N : Int) (A A' : Option Addr) (n i n' i' : Nat) (w : World) (a1 : Arr w A n i (wd a.1.m)) (a2 : Arr w A' n' i' (wd a.2.m)) (ra : Cj a = true) (hN : -1000000 ≤ N ∧ N ≤ 1000000) (h : Ka a N = true) :
  Calls Tryz.prog 52 #[(.agg #[.bool (a).1.neg, .slice A n i, .int .i64 (a).1.e, .bool (a).2.neg, .slice A' n' i', .int .i64 (a).2.e]), .int .i64 N] w fun r w' => r = .returned (.bool true) ∧ Below w.heap.size w w' := by
 obtain ⟨p1, p2⟩ := Gr ra
 obtain ⟨hr, f1, f2⟩ := Bn ra
 obtain ⟨t0, t1, t2, t3⟩ := Cg f1
 obtain ⟨u0, u1, u2, u3⟩ := Cg f2
 have bw : Below w.heap.size w (w.alloc (.cells #[.bool (a).1.neg, .slice A n i, .int .i64 (a).1.e, .bool (a).2.neg, .slice A' n' i', .int .i64 (a).2.e] 28)) := Ba (Bb w) _
 have RT := Be (Lb a.1.neg a.2.neg A A' n i n' i' _ _ a.1.e a.2.e _ (a1.below bw) (a2.below bw) (by have := Dl a1 f1; omega) (by have := Dl a2 f2; omega))
 have l1 := Gl f1
 have l2 := Gl f2
 have GP := Be (fun w1 (hb : Below w.heap.size w w1) => rgap a.2.neg a.1.neg A' A n' i' n i a.2.m a.1.m a.2.e a.1.e w1 (a2.below hb) (a1.below hb) p2 p1 u2 u3 t2 t3 (by have := a2.len; omega) (by have := a1.len; omega))
 have gp := GP.out
 have rt := RT.out
 rw [hr] at rt
 have RT := Be rt
 have xa := Bg w #[.bool (a).1.neg, .slice A n i, .int .i64 (a).1.e, .bool (a).2.neg, .slice A' n' i', .int .i64 (a).2.e] 28
 obtain ⟨s1, s2, s3, s4, -, -⟩ := Mc p2 p1.neg ⟨u2, u3⟩ ⟨t2, t3⟩
 unfold Ka at h
 have gp : ∀ w1, Below w.heap.size w w1 → Calls Tryz.prog 88 #[(.agg #[.bool a.2.neg, .slice A' n' i', .int .i64 a.2.e]), (.agg #[.bool a.1.neg, .slice A n i, .int .i64 a.1.e])] w1 (Bcj (Hh a.2 (Cm a.1)) w1) := gp
 generalize Hh a.2 (Cm a.1) = d at *
 have GP := Be gp
 have hbl := Gc (v := d.m) (a := 64 * 3400) s2 (by rw [← B_pow_pw]; have := val_lt (wf_wd d.m s2); rw [val_wd _ s2] at this; exact Int.lt_of_lt_of_le this (B_pow_le s1))
 have hb0 := Df d.m
 have we : IntKind.i64.wrap (bl d.m + d.e) = bl d.m + d.e := by rw [IntKind.wrap_i64]; omega
 have RB := Be (fun w1 A n c (hA : Arr w1 A n c (wd d.m)) => Th A n c (wd d.m) w1 hA (by have := hA.len; omega))
 have rb := RB.out
 rw [val_wd _ s2] at rb
 have RB := Be rb
 obtain ⟨k0, k1, k2, k3, k4, k5, -⟩ := xa.cell6
 unfold Vh at h
 clear a1 a2 ra p1 p2 hr f1 f2 t0 t1 t2 t3 u0 u1 u2 u3 l1 l2 gp rt rb s1 s2 s3 s4 hbl hb0
 obtain ⟨neg, dm, de⟩ := d
 simp only at *
 generalize bl dm = b at *
 go_enter Tryz.func52, Tryz.ntmps52
 go_wp2_with fail
 refine RT.out.mono ?_
 rintro r w5 ⟨rfl, hb5⟩
 have xa := xa.later hb5
 have bw := Bc bw hb5
 clear k0 k1 k2 k3 k4 k5
 obtain ⟨k0, k1, k2, k3, k4, k5, -⟩ := xa.cell6
 go_wp2_with fail
 refine (GP.out _ bw).mono ?_
 rintro r w6 ⟨A5, n5, c5, rfl, a5, hb6⟩
 have bw := Bc bw hb6
 have a5 := a5.below (Ba (Bb w6) (.cells #[.bool false, .slice none 0 0, .int .i64 0] 26))
 have xn := Bg w6 #[.bool false, .slice none 0 0, .int .i64 0] 26
 have bw := Ba bw (.cells #[.bool false, .slice none 0 0, .int .i64 0] 26)
 have hle := hb6.size
 clear k0 k1 k2 k3 k4 k5
 go_wp2_with (refine Fk rfl _ _ rfl rfl w6.heap.size _ A5 n5 c5 _ xn rfl rfl (fun W5 y5 g5 => ?_); have a5 := a5.grown xn Bbs g5; have bw := Bl bw g5 (by have := xa.lt; omega); obtain ⟨u0, u1, u2, -, -, -⟩ := y5.cell3)
 refine (RB.out _ _ _ _ a5).mono ?_
 rintro r w7 ⟨rfl, hb7⟩
 have bw := Bc bw hb7
 have y5 := y5.later hb7
 clear u0 u1 u2
 obtain ⟨u0, u1, u2, -, -, -⟩ := y5.cell3
 by_cases c0 : b = 0
 ·have e0 : (b == 0) = true := by simp [c0]
  clear h c0
  go_wp2_with fail
  go_ret
  exact ⟨rfl, bw⟩
 ·have e0 : (b == 0) = false := by simp [c0]
  rw [decide_eq_false c0, Bool.false_or] at h
  clear c0
  by_cases c1 : b + de ≤ N
  ·have e1 : decide (b + de ≤ N) = true := by simp [c1]
   clear h c1
   go_wp2_with fail
   go_ret
   exact ⟨rfl, bw⟩
  ·have e1 : decide (b + de ≤ N) = false := by simp; omega
   rw [e1, Bool.false_or, Bool.and_eq_true, decide_eq_true_eq, decide_eq_true_eq] at h
   obtain ⟨h1, h2⟩ := h
   have e2 : (b == 1) = true := by simp [h1]
   have e3 : (de == N) = true := by simp [h2]
   clear h1 h2 c1
   go_wp2_with fail
   go_ret
   exact ⟨rfl, bw⟩
end Go.Proofs.YteffemhapnbaeaaGreatDoor
