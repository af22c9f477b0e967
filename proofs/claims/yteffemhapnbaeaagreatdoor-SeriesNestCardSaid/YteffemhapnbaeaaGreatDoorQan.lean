/- Walks and laws that the claim's row needs. No conditions. -/
import Derived.Deep.RegionHeld3
import Derived.Test.YteffemhapnbaeaaGreatDoorQam
import Derived.Test.YteffemhapnbaeaaGreatDoorQah
set_option maxHeartbeats 16000000
set_option linter.unusedSimpArgs false
set_option linter.unusedVariables false
namespace Go.Proofs.YteffemhapnbaeaaGreatDoor
open Go.RowKit Num
set_option maxRecDepth 100000
theorem Bat (p q : Bool) (A A' : Option Addr) (n c n' c' : Nat) (xs ys : List Int) (e f : Int) (w : World) (h : Arr w A n c xs) (h' : Arr w A' n' c' ys) :
  Calls Tryz.prog 47 #[.agg #[.bool p, .slice A n c, .int .i64 e], .agg #[.bool q, .slice A' n' c', .int .i64 f]] w fun r w' => r = .returned (.int .i64 (Dw p q xs ys e f)) ∧ Below w.heap.size w w' := by
 have b0 : Below w.heap.size w ((w.alloc (.cells #[.bool p, .slice A n c, .int .i64 e] 26)).alloc (.cells #[.bool q, .slice A' n' c', .int .i64 f] 26)) := Ba (Ba (Bb w) _) _
 have xa := (Bg w #[.bool p, .slice A n c, .int .i64 e] 26).later (Ba (Bb _) (.cells #[.bool q, .slice A' n' c', .int .i64 f] 26))
 have xb := Bg (w.alloc (.cells #[.bool p, .slice A n c, .int .i64 e] 26)) #[.bool q, .slice A' n' c', .int .i64 f] 26
 rw [show (w.alloc (.cells #[.bool p, .slice A n c, .int .i64 e] 26)).heap.size = w.heap.size + 1 by simp] at xb
 obtain ⟨k0, k1, k2, f0, f1, f2⟩ := xa.cell3
 obtain ⟨j0, j1, j2, g0, g1, g2⟩ := xb.cell3
 have C := dcmp p q A A' n c n' c' xs ys e f _ (h.below b0) (h'.below b0)
 rw [Rq] at C
 generalize Dw p q xs ys e f = cc at *
 generalize Gj p q xs ys e f = bb at *
 have C := Be C
 go_enter Tryz.func47, Tryz.ntmps47
 go_wp2_with fail
 refine C.out.mono ?_
 rintro r w2 ⟨rfl, hb2⟩
 go_wp2_with fail
 go_ret
 exact ⟨rfl, Bc b0 hb2⟩
def cDV (a b : DV) : Int := Dw a.neg b.neg a.xs b.xs a.e b.e
def Kg (most : Bool) (b d : DV) : DV := if (if most then decide (0 < cDV d b) else decide (cDV d b < 0)) then d else b
def Cc (most : Bool) : List DV → DV
 | [] => ⟨false, none, 0, 0, [], 0⟩
 | d :: r => r.foldl (Kg most) d
theorem Jv (most : Bool) {l : List DV} {d : DV} (h : l[0]? = some d) : Cc most (l.take 1) = d := by
 cases l with
 | nil => cases h
 | cons a r => simp at h; subst h; rfl
theorem Lf (most : Bool) {l : List DV} {i : Nat} (h : i < l.length) (h1 : 1 ≤ i) : Cc most (l.take (i + 1)) = Kg most (Cc most (l.take i)) (l[i]) := by
 obtain ⟨k, rfl⟩ : ∃ k, i = k + 1 := ⟨i - 1, by omega⟩
 cases l with
 | nil => simp at h
 | cons a r =>
  have hk : k < r.length := by simpa using h
  simp only [List.take_succ_cons, Cc, List.getElem_cons_succ]
  rw [List.take_add_one, List.getElem?_eq_getElem hk, List.foldl_append]
  rfl
theorem spmin (h m cap : Nat) (l : List DV) (hm : l.length = m) (w : World) (hs : DVs w h l) (hpos : 0 < l.length) (hl : m ≤ 1000000) :
  Calls Tryz.prog 46 #[.slice (some ⟨h, 0, none⟩) m cap, .func (.func 47) #[] #[]] w fun r w' => r = .returned (.agg #[.bool (Cc false l).neg, .slice (Cc false l).A (Cc false l).n (Cc false l).c, .int .i64 (Cc false l).e]) ∧ Arr w (Cc false l).A (Cc false l).n (Cc false l).c (Cc false l).xs ∧ Below w.heap.size w w' := by
 (subst hm; obtain ⟨d0, hd0⟩ : ∃ d0, l[0]? = some d0 := ⟨l[0], List.getElem?_eq_getElem hpos⟩; have hfirst : Cc false (l.take 1) = d0 := Jv false hd0; have hz := hd0; obtain ⟨p0, A0, n0, c0, xs0, e0⟩ := d0; have hl0 : l[0] = ⟨p0, A0, n0, c0, xs0, e0⟩ := (by have := List.getElem?_eq_getElem hpos; rw [this] at hz; exact Option.some.inj hz); have y0 := hs.c0 0 hpos; have y1 := hs.c1 0 hpos; have y2 := hs.c2 0 hpos; rw [hl0] at y0 y1 y2; simp only [Nat.zero_mul, Nat.zero_add] at y0 y1 y2; have z0 := (Ba (Bb w) (.cells #[.bool false, .slice none 0 0, .int .i64 0] 26)).cell (p := ⟨h, 0, none⟩) hs.lt; have z1 := (Ba (Bb w) (.cells #[.bool false, .slice none 0 0, .int .i64 0] 26)).cell (p := ⟨h, 1, none⟩) hs.lt; have z2 := (Ba (Bb w) (.cells #[.bool false, .slice none 0 0, .int .i64 0] 26)).cell (p := ⟨h, 2, none⟩) hs.lt; rw [y0] at z0; rw [y1] at z1; rw [y2] at z2; have d1 : decide ((l.length : Int) < 1) = false := decide_eq_false (by omega); have hlast : Cc false (l.take l.length) = Cc false l := (by rw [List.take_length]); have HL := Be hlast; have HF := Be hfirst; have hnext : ∀ i (h : i < l.length), 1 ≤ i → Cc false (l.take (i + 1)) = Kg false (Cc false (l.take i)) (l[i]) := fun i h h1 => Lf false h h1; have HN := Be hnext; have hok : ∀ i (h : i < l.length), Arr w (l[i]).A (l[i]).n (l[i]).c (l[i]).xs := fun i h => hs.ok i h; have xr := Bg w #[.bool false, .slice none 0 0, .int .i64 0] 26; have xb := Bg (w.alloc (.cells #[.bool false, .slice none 0 0, .int .i64 0] 26)) #[.bool p0, .slice A0 n0 c0, .int .i64 e0] 26; rw [show (w.alloc (.cells #[.bool false, .slice none 0 0, .int .i64 0] 26)).heap.size = w.heap.size + 1 by simp] at xb; have xr := xr.later (Ba (Bb _) (.cells #[.bool p0, .slice A0 n0 c0, .int .i64 e0] 26)); have b0 : Below w.heap.size w ((w.alloc (.cells #[.bool false, .slice none 0 0, .int .i64 0] 26)).alloc (.cells #[.bool p0, .slice A0 n0 c0, .int .i64 e0] 26)) := Ba (Ba (Bb w) _) _; have hbest0 : Arr w A0 n0 c0 xs0 := (by have := hok 0 hpos; rw [hl0] at this; exact this); generalize hbd : Cc false l = R at *; clear hlast hfirst hnext hd0 hz hl0 y0 y1 y2 hbd; go_enter Tryz.func46, Tryz.ntmps46; go_wp2_with fail; go_loopw [6] (fun v wr => ∃ (i : Nat) (b : DV), 1 ≤ i ∧ i ≤ l.length ∧ v = .int .i64 i ∧ Hid (Cc false (l.take i) = b) ∧ Arr w b.A b.n b.c b.xs ∧ Box wr (w.heap.size + 1) #[.bool b.neg, .slice b.A b.n b.c, .int .i64 b.e] 26 ∧ Box wr w.heap.size #[.bool false, .slice none 0 0, .int .i64 0] 26 ∧ Below w.heap.size w wr) (fun v _ => l.length - (intOf v).toNat); (case atStart => exact ⟨1, _, Nat.le_refl _, hpos, rfl, HF.out, hbest0, xb, xr, b0⟩); (case round => obtain ⟨i, b, h1i, hi, rfl, hB, hbA, xbr, xrr, hW⟩ := hrel; obtain ⟨q, A', n', c', ys, f⟩ := b; simp only at hbA xbr; by_cases h0 : i < l.length; (focus (have k0 := (hW.cell (p := ⟨h, i * 3, none⟩) hs.lt).trans (hs.c0 i h0); have k1 := (hW.cell (p := ⟨h, i * 3 + 1, none⟩) hs.lt).trans (hs.c1 i h0); have k2 := (hW.cell (p := ⟨h, i * 3 + 2, none⟩) hs.lt).trans (hs.c2 i h0); have ha := hok i h0; have hn1 := HN.out i h0 h1i; rw [hB.out] at hn1; generalize hx : l[i] = x at *; obtain ⟨p, A, n, c, xs, e⟩ := x; simp only at k0 k1 k2 ha; obtain ⟨j0, j1, j2, g0, g1, g2⟩ := xbr.cell3; have hKS : ∀ w', Below wr.heap.size wr w' → ((w'.cell? ⟨h, i * 3, none⟩ = some (.bool p) ∧ w'.cell? ⟨h, i * 3 + 1, none⟩ = some (.slice A n c) ∧ w'.cell? ⟨h, i * 3 + 2, none⟩ = some (.int .i64 e)) ∧ (w'.cell? ⟨w.heap.size + 1, 0, none⟩ = some (.bool q) ∧ w'.cell? ⟨w.heap.size + 1, 1, none⟩ = some (.slice A' n' c') ∧ w'.cell? ⟨w.heap.size + 1, 2, none⟩ = some (.int .i64 f))) := fun w' hb => ⟨⟨(hb.cell (p := ⟨h, i * 3, none⟩) (Nat.lt_of_lt_of_le hs.lt hW.size)).trans k0, (hb.cell (p := ⟨h, i * 3 + 1, none⟩) (Nat.lt_of_lt_of_le hs.lt hW.size)).trans k1, (hb.cell (p := ⟨h, i * 3 + 2, none⟩) (Nat.lt_of_lt_of_le hs.lt hW.size)).trans k2⟩, ⟨(xbr.later hb).cell 0, (xbr.later hb).cell 1, (xbr.later hb).cell 2⟩⟩; have KS := Be hKS; have hO : ∀ w', Below wr.heap.size wr w' → Calls Tryz.prog 47 #[.agg #[.bool p, .slice A n c, .int .i64 e], .agg #[.bool q, .slice A' n' c', .int .i64 f]] w' fun r w'' => r = .returned (.int .i64 (Dw p q xs ys e f)) ∧ Below wr.heap.size wr w'' := (fun w' hb => (Bat p q A A' n c n' c' xs ys e f w' ((ha.below hW).below hb) ((hbA.below hW).below hb)).mono (by rintro r w'' ⟨rfl, h2⟩; exact ⟨rfl, Bc hb h2⟩)); have hst : Kg false ⟨q, A', n', c', ys, f⟩ ⟨p, A, n, c, xs, e⟩ = if decide (Dw p q xs ys e f < 0) then ⟨p, A, n, c, xs, e⟩ else ⟨q, A', n', c', ys, f⟩ := rfl; rw [hst] at hn1; generalize Dw p q xs ys e f = cc at *; have O := Be hO; have HN1 := Be hn1; have l1 : (i : Int) < l.length := (by omega); have d3 : decide ((i : Int) < l.length) = true := decide_eq_true l1; clear hKS hO hst hn1 hx; by_cases hc : cc < 0; (focus (have dc1 : decide (cc < 0) = true := decide_eq_true hc; have hn2 := HN1.out; rw [if_pos dc1] at hn2; have HN2 := Be hn2; clear hn2 hc; go_wp2_with fail; go_region_held3 (fun w' => ((w'.cell? ⟨h, i * 3, none⟩ = some (.bool p) ∧ w'.cell? ⟨h, i * 3 + 1, none⟩ = some (.slice A n c) ∧ w'.cell? ⟨h, i * 3 + 2, none⟩ = some (.int .i64 e)) ∧ (w'.cell? ⟨w.heap.size + 1, 0, none⟩ = some (.bool q) ∧ w'.cell? ⟨w.heap.size + 1, 1, none⟩ = some (.slice A' n' c') ∧ w'.cell? ⟨w.heap.size + 1, 2, none⟩ = some (.int .i64 f)))) (first | exact KS.out _ ((by repeat with_reducible (first | assumption | exact Bb _ | refine Bd ?_ _ | apply Below.drew | refine Ba ?_ _)))) (first | (go_at_call 47; refine (O.out _ ?_).mono ?_; (repeat with_reducible (first | assumption | exact Bb _ | refine Bd ?_ _ | apply Below.drew | refine Ba ?_ _)); rintro r w5 ⟨rfl, hb5⟩)); have xb5 := xbr.later hb5; have xr5 := xrr.later hb5; have hW5 := Bc hW hb5; obtain ⟨⟨k0', k1', k2'⟩, -⟩ := KS.out _ hb5; clear k0 k1 k2 j0 j1 j2 g0 g1 g2; go_wp2_with (refine Fk rfl _ _ rfl rfl (w.heap.size + 1) p A n c e xb5 rfl rfl (fun W1 v1 gW1 => ?_); have xr6 := xr5.grown gW1 (show w.heap.size ≠ w.heap.size + 1 by omega); have hW6 := Bl hW5 gW1 (by omega)); exact ⟨⟨i + 1, ⟨p, A, n, c, xs, e⟩, by omega, by omega, by go_num, HN2.out, ha, v1, xr6, hW6⟩, by simp only [intOf]; omega⟩)); (focus (have dc1 : decide (cc < 0) = false := decide_eq_false hc; have hn2 := HN1.out; rw [if_neg (by rw [dc1]; decide)] at hn2; have HN2 := Be hn2; clear hn2 hc; go_wp2_with fail; go_region_held3 (fun w' => ((w'.cell? ⟨h, i * 3, none⟩ = some (.bool p) ∧ w'.cell? ⟨h, i * 3 + 1, none⟩ = some (.slice A n c) ∧ w'.cell? ⟨h, i * 3 + 2, none⟩ = some (.int .i64 e)) ∧ (w'.cell? ⟨w.heap.size + 1, 0, none⟩ = some (.bool q) ∧ w'.cell? ⟨w.heap.size + 1, 1, none⟩ = some (.slice A' n' c') ∧ w'.cell? ⟨w.heap.size + 1, 2, none⟩ = some (.int .i64 f)))) (first | exact KS.out _ ((by repeat with_reducible (first | assumption | exact Bb _ | refine Bd ?_ _ | apply Below.drew | refine Ba ?_ _)))) (first | (go_at_call 47; refine (O.out _ ?_).mono ?_; (repeat with_reducible (first | assumption | exact Bb _ | refine Bd ?_ _ | apply Below.drew | refine Ba ?_ _)); rintro r w5 ⟨rfl, hb5⟩)); have xb5 := xbr.later hb5; have xr5 := xrr.later hb5; have hW5 := Bc hW hb5; clear k0 k1 k2 j0 j1 j2 g0 g1 g2; go_wp2_with fail; exact ⟨⟨i + 1, ⟨q, A', n', c', ys, f⟩, by omega, by omega, by go_num, HN2.out, hbA, xb5, xr5, hW5⟩, by simp only [intOf]; omega⟩)))); (obtain rfl : i = l.length := (by omega); have hR := hB.out; rw [HL.out] at hR; subst hR; obtain ⟨j0, j1, j2, g0, g1, g2⟩ := xbr.cell3; go_wp2_with (refine Fk rfl _ _ rfl rfl w.heap.size q A' n' c' f xrr rfl rfl (fun W1 v1 gW1 => ?_); have hW6 := Bl hW gW1 (Nat.le_refl _); obtain ⟨u0, u1, u2, -⟩ := v1.cell3); refine bodyPost_ret (v := .agg #[.bool q, .slice A' n' c', .int .i64 f]) ?_ rfl (by first | exact ⟨rfl, hbA, hW6⟩ | exact ⟨rfl, hW6⟩); simp [results, Tryz.results46, go_sem, u0, u1, u2])))
theorem spmax (h m cap : Nat) (l : List DV) (hm : l.length = m) (w : World) (hs : DVs w h l) (hpos : 0 < l.length) (hl : m ≤ 1000000) :
  Calls Tryz.prog 48 #[.slice (some ⟨h, 0, none⟩) m cap, .func (.func 47) #[] #[]] w fun r w' => r = .returned (.agg #[.bool (Cc true l).neg, .slice (Cc true l).A (Cc true l).n (Cc true l).c, .int .i64 (Cc true l).e]) ∧ Arr w (Cc true l).A (Cc true l).n (Cc true l).c (Cc true l).xs ∧ Below w.heap.size w w' := by
 (subst hm; obtain ⟨d0, hd0⟩ : ∃ d0, l[0]? = some d0 := ⟨l[0], List.getElem?_eq_getElem hpos⟩; have hfirst : Cc true (l.take 1) = d0 := Jv true hd0; have hz := hd0; obtain ⟨p0, A0, n0, c0, xs0, e0⟩ := d0; have hl0 : l[0] = ⟨p0, A0, n0, c0, xs0, e0⟩ := (by have := List.getElem?_eq_getElem hpos; rw [this] at hz; exact Option.some.inj hz); have y0 := hs.c0 0 hpos; have y1 := hs.c1 0 hpos; have y2 := hs.c2 0 hpos; rw [hl0] at y0 y1 y2; simp only [Nat.zero_mul, Nat.zero_add] at y0 y1 y2; have z0 := (Ba (Bb w) (.cells #[.bool false, .slice none 0 0, .int .i64 0] 26)).cell (p := ⟨h, 0, none⟩) hs.lt; have z1 := (Ba (Bb w) (.cells #[.bool false, .slice none 0 0, .int .i64 0] 26)).cell (p := ⟨h, 1, none⟩) hs.lt; have z2 := (Ba (Bb w) (.cells #[.bool false, .slice none 0 0, .int .i64 0] 26)).cell (p := ⟨h, 2, none⟩) hs.lt; rw [y0] at z0; rw [y1] at z1; rw [y2] at z2; have d1 : decide ((l.length : Int) < 1) = false := decide_eq_false (by omega); have hlast : Cc true (l.take l.length) = Cc true l := (by rw [List.take_length]); have HL := Be hlast; have HF := Be hfirst; have hnext : ∀ i (h : i < l.length), 1 ≤ i → Cc true (l.take (i + 1)) = Kg true (Cc true (l.take i)) (l[i]) := fun i h h1 => Lf true h h1; have HN := Be hnext; have hok : ∀ i (h : i < l.length), Arr w (l[i]).A (l[i]).n (l[i]).c (l[i]).xs := fun i h => hs.ok i h; have xr := Bg w #[.bool false, .slice none 0 0, .int .i64 0] 26; have xb := Bg (w.alloc (.cells #[.bool false, .slice none 0 0, .int .i64 0] 26)) #[.bool p0, .slice A0 n0 c0, .int .i64 e0] 26; rw [show (w.alloc (.cells #[.bool false, .slice none 0 0, .int .i64 0] 26)).heap.size = w.heap.size + 1 by simp] at xb; have xr := xr.later (Ba (Bb _) (.cells #[.bool p0, .slice A0 n0 c0, .int .i64 e0] 26)); have b0 : Below w.heap.size w ((w.alloc (.cells #[.bool false, .slice none 0 0, .int .i64 0] 26)).alloc (.cells #[.bool p0, .slice A0 n0 c0, .int .i64 e0] 26)) := Ba (Ba (Bb w) _) _; have hbest0 : Arr w A0 n0 c0 xs0 := (by have := hok 0 hpos; rw [hl0] at this; exact this); generalize hbd : Cc true l = R at *; clear hlast hfirst hnext hd0 hz hl0 y0 y1 y2 hbd; go_enter Tryz.func48, Tryz.ntmps48; go_wp2_with fail; go_loopw [6] (fun v wr => ∃ (i : Nat) (b : DV), 1 ≤ i ∧ i ≤ l.length ∧ v = .int .i64 i ∧ Hid (Cc true (l.take i) = b) ∧ Arr w b.A b.n b.c b.xs ∧ Box wr (w.heap.size + 1) #[.bool b.neg, .slice b.A b.n b.c, .int .i64 b.e] 26 ∧ Box wr w.heap.size #[.bool false, .slice none 0 0, .int .i64 0] 26 ∧ Below w.heap.size w wr) (fun v _ => l.length - (intOf v).toNat); (case atStart => exact ⟨1, _, Nat.le_refl _, hpos, rfl, HF.out, hbest0, xb, xr, b0⟩); (case round => obtain ⟨i, b, h1i, hi, rfl, hB, hbA, xbr, xrr, hW⟩ := hrel; obtain ⟨q, A', n', c', ys, f⟩ := b; simp only at hbA xbr; by_cases h0 : i < l.length; (focus (have k0 := (hW.cell (p := ⟨h, i * 3, none⟩) hs.lt).trans (hs.c0 i h0); have k1 := (hW.cell (p := ⟨h, i * 3 + 1, none⟩) hs.lt).trans (hs.c1 i h0); have k2 := (hW.cell (p := ⟨h, i * 3 + 2, none⟩) hs.lt).trans (hs.c2 i h0); have ha := hok i h0; have hn1 := HN.out i h0 h1i; rw [hB.out] at hn1; generalize hx : l[i] = x at *; obtain ⟨p, A, n, c, xs, e⟩ := x; simp only at k0 k1 k2 ha; obtain ⟨j0, j1, j2, g0, g1, g2⟩ := xbr.cell3; have hKS : ∀ w', Below wr.heap.size wr w' → ((w'.cell? ⟨h, i * 3, none⟩ = some (.bool p) ∧ w'.cell? ⟨h, i * 3 + 1, none⟩ = some (.slice A n c) ∧ w'.cell? ⟨h, i * 3 + 2, none⟩ = some (.int .i64 e)) ∧ (w'.cell? ⟨w.heap.size + 1, 0, none⟩ = some (.bool q) ∧ w'.cell? ⟨w.heap.size + 1, 1, none⟩ = some (.slice A' n' c') ∧ w'.cell? ⟨w.heap.size + 1, 2, none⟩ = some (.int .i64 f))) := fun w' hb => ⟨⟨(hb.cell (p := ⟨h, i * 3, none⟩) (Nat.lt_of_lt_of_le hs.lt hW.size)).trans k0, (hb.cell (p := ⟨h, i * 3 + 1, none⟩) (Nat.lt_of_lt_of_le hs.lt hW.size)).trans k1, (hb.cell (p := ⟨h, i * 3 + 2, none⟩) (Nat.lt_of_lt_of_le hs.lt hW.size)).trans k2⟩, ⟨(xbr.later hb).cell 0, (xbr.later hb).cell 1, (xbr.later hb).cell 2⟩⟩; have KS := Be hKS; have hO : ∀ w', Below wr.heap.size wr w' → Calls Tryz.prog 47 #[.agg #[.bool p, .slice A n c, .int .i64 e], .agg #[.bool q, .slice A' n' c', .int .i64 f]] w' fun r w'' => r = .returned (.int .i64 (Dw p q xs ys e f)) ∧ Below wr.heap.size wr w'' := (fun w' hb => (Bat p q A A' n c n' c' xs ys e f w' ((ha.below hW).below hb) ((hbA.below hW).below hb)).mono (by rintro r w'' ⟨rfl, h2⟩; exact ⟨rfl, Bc hb h2⟩)); have hst : Kg true ⟨q, A', n', c', ys, f⟩ ⟨p, A, n, c, xs, e⟩ = if decide (0 < Dw p q xs ys e f) then ⟨p, A, n, c, xs, e⟩ else ⟨q, A', n', c', ys, f⟩ := rfl; rw [hst] at hn1; generalize Dw p q xs ys e f = cc at *; have O := Be hO; have HN1 := Be hn1; have l1 : (i : Int) < l.length := (by omega); have d3 : decide ((i : Int) < l.length) = true := decide_eq_true l1; clear hKS hO hst hn1 hx; by_cases hc : 0 < cc; (focus (have dc1 : decide (0 < cc) = true := decide_eq_true hc; have hn2 := HN1.out; rw [if_pos dc1] at hn2; have HN2 := Be hn2; clear hn2 hc; go_wp2_with fail; go_region_held3 (fun w' => ((w'.cell? ⟨h, i * 3, none⟩ = some (.bool p) ∧ w'.cell? ⟨h, i * 3 + 1, none⟩ = some (.slice A n c) ∧ w'.cell? ⟨h, i * 3 + 2, none⟩ = some (.int .i64 e)) ∧ (w'.cell? ⟨w.heap.size + 1, 0, none⟩ = some (.bool q) ∧ w'.cell? ⟨w.heap.size + 1, 1, none⟩ = some (.slice A' n' c') ∧ w'.cell? ⟨w.heap.size + 1, 2, none⟩ = some (.int .i64 f)))) (first | exact KS.out _ ((by repeat with_reducible (first | assumption | exact Bb _ | refine Bd ?_ _ | apply Below.drew | refine Ba ?_ _)))) (first | (go_at_call 47; refine (O.out _ ?_).mono ?_; (repeat with_reducible (first | assumption | exact Bb _ | refine Bd ?_ _ | apply Below.drew | refine Ba ?_ _)); rintro r w5 ⟨rfl, hb5⟩)); have xb5 := xbr.later hb5; have xr5 := xrr.later hb5; have hW5 := Bc hW hb5; obtain ⟨⟨k0', k1', k2'⟩, -⟩ := KS.out _ hb5; clear k0 k1 k2 j0 j1 j2 g0 g1 g2; go_wp2_with (refine Fk rfl _ _ rfl rfl (w.heap.size + 1) p A n c e xb5 rfl rfl (fun W1 v1 gW1 => ?_); have xr6 := xr5.grown gW1 (show w.heap.size ≠ w.heap.size + 1 by omega); have hW6 := Bl hW5 gW1 (by omega)); exact ⟨⟨i + 1, ⟨p, A, n, c, xs, e⟩, by omega, by omega, by go_num, HN2.out, ha, v1, xr6, hW6⟩, by simp only [intOf]; omega⟩)); (focus (have dc1 : decide (0 < cc) = false := decide_eq_false hc; have hn2 := HN1.out; rw [if_neg (by rw [dc1]; decide)] at hn2; have HN2 := Be hn2; clear hn2 hc; go_wp2_with fail; go_region_held3 (fun w' => ((w'.cell? ⟨h, i * 3, none⟩ = some (.bool p) ∧ w'.cell? ⟨h, i * 3 + 1, none⟩ = some (.slice A n c) ∧ w'.cell? ⟨h, i * 3 + 2, none⟩ = some (.int .i64 e)) ∧ (w'.cell? ⟨w.heap.size + 1, 0, none⟩ = some (.bool q) ∧ w'.cell? ⟨w.heap.size + 1, 1, none⟩ = some (.slice A' n' c') ∧ w'.cell? ⟨w.heap.size + 1, 2, none⟩ = some (.int .i64 f)))) (first | exact KS.out _ ((by repeat with_reducible (first | assumption | exact Bb _ | refine Bd ?_ _ | apply Below.drew | refine Ba ?_ _)))) (first | (go_at_call 47; refine (O.out _ ?_).mono ?_; (repeat with_reducible (first | assumption | exact Bb _ | refine Bd ?_ _ | apply Below.drew | refine Ba ?_ _)); rintro r w5 ⟨rfl, hb5⟩)); have xb5 := xbr.later hb5; have xr5 := xrr.later hb5; have hW5 := Bc hW hb5; clear k0 k1 k2 j0 j1 j2 g0 g1 g2; go_wp2_with fail; exact ⟨⟨i + 1, ⟨q, A', n', c', ys, f⟩, by omega, by omega, by go_num, HN2.out, hbA, xb5, xr5, hW5⟩, by simp only [intOf]; omega⟩)))); (obtain rfl : i = l.length := (by omega); have hR := hB.out; rw [HL.out] at hR; subst hR; obtain ⟨j0, j1, j2, g0, g1, g2⟩ := xbr.cell3; go_wp2_with (refine Fk rfl _ _ rfl rfl w.heap.size q A' n' c' f xrr rfl rfl (fun W1 v1 gW1 => ?_); have hW6 := Bl hW gW1 (Nat.le_refl _); obtain ⟨u0, u1, u2, -⟩ := v1.cell3); refine bodyPost_ret (v := .agg #[.bool q, .slice A' n' c', .int .i64 f]) ?_ rfl (by first | exact ⟨rfl, hbA, hW6⟩ | exact ⟨rfl, hW6⟩); simp [results, Tryz.results48, go_sem, u0, u1, u2])))
variable {tw : TypeId}
def Us (d : Dy) (w : World) (r : Ending) (w' : World) : Prop := ∃ A n c, r = .returned (.agg #[.bool d.neg, .slice A n c, .int .i64 d.e]) ∧ Arr w' A n c (wd d.m) ∧ Below w.heap.size w w'
theorem Hs {w w4 : World} {d : Dy} {A : Option Addr} {n c k : Nat} {t : TypeId} {p : Bool} {A' : Option Addr} {n' c' : Nat} {e : Int} (h : Arr w4 A n c (wd d.m)) (hb : Box w4 k #[.bool p, .slice A' n' c', .int .i64 e] t) (hw : Below w.heap.size w w4) (hk : w.heap.size ≤ k) :
  Us d w (.returned (.agg #[.bool d.neg, .slice A n c, .int .i64 d.e])) (((w4.setCell ⟨k, 0, none⟩ (.bool d.neg)).setCell ⟨k, 1, none⟩ (.slice A n c)).setCell ⟨k, 2, none⟩ (.int .i64 d.e)) :=
 ⟨A, n, c, rfl, h.set3 hb _ _ _ (by simp) (by simp), Bo (Bo (Bo hw k 0 hk _) k 1 hk _) k 2 hk _⟩
theorem Bfw (p q : Bool) (A A' : Option Addr) (n c n' c' : Nat) (xs ys : List Int) (e f P : Int) (up : Bool) (a u g : Nat) (bad : Bool) (d : Dy) (w : World) (h : Arr w A n c xs) (h' : Arr w A' n' c' ys) (hT : Tz w)
  (hk : Wk w g P bad tw) (ta tu : TypeId) (ha : Box w a #[.pointer (some ⟨g, 0, none⟩)] ta) (hu : Box w u #[.bool up] tu) (hd : Cq p q xs ys e f P up = some d) :
  Calls Tryz.prog 64 #[.agg #[.bool p, .slice A n c, .int .i64 e], .agg #[.bool q, .slice A' n' c', .int .i64 f], .pointer (some ⟨a, 0, none⟩), .pointer (some ⟨u, 0, none⟩)] w (Us d w) := by
 have b1 := Ba (Bb w) (.cells #[.bool p, .slice A n c, .int .i64 e] 26)
 have b2 := Ba b1 (.cells #[.bool q, .slice A' n' c', .int .i64 f] 26)
 have b0 : Below w.heap.size w (((w.alloc (.cells #[.bool p, .slice A n c, .int .i64 e] 26)).alloc (.cells #[.bool q, .slice A' n' c', .int .i64 f] 26)).alloc (.cells #[.bool false, .slice none 0 0, .int .i64 0] 26)) := Ba b2 _
 have xa := (Bg w #[.bool p, .slice A n c, .int .i64 e] 26).later (Ba (Ba (Bb _) (.cells #[.bool q, .slice A' n' c', .int .i64 f] 26)) (.cells #[.bool false, .slice none 0 0, .int .i64 0] 26))
 have xb := (Bg (w.alloc (.cells #[.bool p, .slice A n c, .int .i64 e] 26)) #[.bool q, .slice A' n' c', .int .i64 f] 26).later (Ba (Bb _) (.cells #[.bool false, .slice none 0 0, .int .i64 0] 26))
 rw [show (w.alloc (.cells #[.bool p, .slice A n c, .int .i64 e] 26)).heap.size = w.heap.size + 1 by simp] at xb
 have xr := Bg ((w.alloc (.cells #[.bool p, .slice A n c, .int .i64 e] 26)).alloc (.cells #[.bool q, .slice A' n' c', .int .i64 f] 26)) #[.bool false, .slice none 0 0, .int .i64 0] 26
 rw [show ((w.alloc (.cells #[.bool p, .slice A n c, .int .i64 e] 26)).alloc (.cells #[.bool q, .slice A' n' c', .int .i64 f] 26)).heap.size = w.heap.size + 1 + 1 by simp] at xr
 have hk0 := hk.later b0
 have ha0 := ha.later b0
 have hu0 := hu.later b0
 have H := h.below b0
 have H' := h'.below b0
 have hT0 := hT.below b0
 generalize hW : (((w.alloc (.cells #[.bool p, .slice A n c, .int .i64 e] 26)).alloc (.cells #[.bool q, .slice A' n' c', .int .i64 f] 26)).alloc (.cells #[.bool false, .slice none 0 0, .int .i64 0] 26)) = W at *
 have KC : ∀ w', Below W.heap.size W w' → ((w'.cell? ⟨w.heap.size, 0, none⟩ = some (.bool p) ∧ w'.cell? ⟨w.heap.size, 1, none⟩ = some (.slice A n c) ∧ w'.cell? ⟨w.heap.size, 2, none⟩ = some (.int .i64 e)) ∧ (w'.cell? ⟨w.heap.size + 1, 0, none⟩ = some (.bool q) ∧ w'.cell? ⟨w.heap.size + 1, 1, none⟩ = some (.slice A' n' c') ∧ w'.cell? ⟨w.heap.size + 1, 2, none⟩ = some (.int .i64 f)) ∧ w'.cell? ⟨a, 0, none⟩ = some (.pointer (some ⟨g, 0, none⟩)) ∧ w'.cell? ⟨g, 0, none⟩ = some (.int .i64 P) ∧ w'.cell? ⟨u, 0, none⟩ = some (.bool up)) := fun w' hb => ⟨⟨(xa.later hb).cell 0, (xa.later hb).cell 1, (xa.later hb).cell 2⟩, ⟨(xb.later hb).cell 0, (xb.later hb).cell 1, (xb.later hb).cell 2⟩, (ha0.later hb).cell 0, (hk0.later hb).cells.1, (hu0.later hb).cell 0⟩
 have OV : ∀ w', Below W.heap.size W w' → Calls Tryz.prog 65 #[.agg #[.bool p, .slice A n c, .int .i64 e], .agg #[.bool q, .slice A' n' c', .int .i64 f], .int .i64 P, .bool up] w' fun r w'' => ∃ A5 n5 c5, r = .returned (.tuple #[.agg #[.bool d.neg, .slice A5 n5 c5, .int .i64 d.e], .bool true]) ∧ Arr w'' A5 n5 c5 (wd d.m) ∧ Below W.heap.size W w'' := by
  intro w' hb
  have D := dover p q A A' n c n' c' xs ys e f P up w' (H.below hb) (H'.below hb) (hT0.below hb)
  rw [hd] at D
  refine D.mono ?_
  rintro r w'' hr
  obtain ⟨A5, n5, c5, e5, h5, hb5⟩ := hr
  exact ⟨A5, n5, c5, e5, h5, Bc hb hb5⟩
 have MU : ∀ A5 n5 c5 w', Below W.heap.size W w' → Calls Tryz.prog 43 #[.pointer (some ⟨g, 0, none⟩), .agg #[.bool d.neg, .slice A5 n5 c5, .int .i64 d.e], .bool true] w' fun r w'' => r = .returned (.agg #[.bool d.neg, .slice A5 n5 c5, .int .i64 d.e]) ∧ Below w'.heap.size w' w'' ∧ Below W.heap.size W w'' := by
  intro A5 n5 c5 w' hb
  refine (Fb g d.neg A5 n5 c5 d.e w').mono ?_
  rintro r w'' ⟨rfl, h2⟩
  exact ⟨rfl, h2, Bc hb h2⟩
 have RA := fun w' A5 n5 c5 (h5 : Arr w' A5 n5 c5 (wd d.m)) (hb : Below W.heap.size W w') => Hs (w := w) (d := d) h5 (xr.later hb) (Bc b0 hb) (show w.heap.size ≤ w.heap.size + 1 + 1 by omega)
 have XR := fun w' (hb : Below W.heap.size W w') => (xr.later hb).cell3
 have la := ha.lt
 have lu := hu.lt
 have lg := hk.lt
 have KC2 : ∀ w', Below W.heap.size W w' → ∀ v0 v1 v2 W2, W2 = (((w'.setCell ⟨w.heap.size + 1 + 1, 0, none⟩ v0).setCell ⟨w.heap.size + 1 + 1, 1, none⟩ v1).setCell ⟨w.heap.size + 1 + 1, 2, none⟩ v2) → ((W2.cell? ⟨w.heap.size, 0, none⟩ = some (.bool p) ∧ W2.cell? ⟨w.heap.size, 1, none⟩ = some (.slice A n c) ∧ W2.cell? ⟨w.heap.size, 2, none⟩ = some (.int .i64 e)) ∧ (W2.cell? ⟨w.heap.size + 1, 0, none⟩ = some (.bool q) ∧ W2.cell? ⟨w.heap.size + 1, 1, none⟩ = some (.slice A' n' c') ∧ W2.cell? ⟨w.heap.size + 1, 2, none⟩ = some (.int .i64 f)) ∧ W2.cell? ⟨a, 0, none⟩ = some (.pointer (some ⟨g, 0, none⟩)) ∧ W2.cell? ⟨g, 0, none⟩ = some (.int .i64 P) ∧ W2.cell? ⟨u, 0, none⟩ = some (.bool up)) := by
  rintro w' hb v0 v1 v2 _ rfl
  have xa' := (((xa.later hb).apart (show w.heap.size ≠ w.heap.size + 1 + 1 by omega) 0 v0).apart (show w.heap.size ≠ w.heap.size + 1 + 1 by omega) 1 v1).apart (show w.heap.size ≠ w.heap.size + 1 + 1 by omega) 2 v2
  have xb' := (((xb.later hb).apart (show w.heap.size + 1 ≠ w.heap.size + 1 + 1 by omega) 0 v0).apart (show w.heap.size + 1 ≠ w.heap.size + 1 + 1 by omega) 1 v1).apart (show w.heap.size + 1 ≠ w.heap.size + 1 + 1 by omega) 2 v2
  have ya := (((ha0.later hb).apart (show a ≠ w.heap.size + 1 + 1 by omega) 0 v0).apart (show a ≠ w.heap.size + 1 + 1 by omega) 1 v1).apart (show a ≠ w.heap.size + 1 + 1 by omega) 2 v2
  have yu := (((hu0.later hb).apart (show u ≠ w.heap.size + 1 + 1 by omega) 0 v0).apart (show u ≠ w.heap.size + 1 + 1 by omega) 1 v1).apart (show u ≠ w.heap.size + 1 + 1 by omega) 2 v2
  have yg := ((Box.apart (hk0.later hb) (show g ≠ w.heap.size + 1 + 1 by omega) 0 v0).apart (show g ≠ w.heap.size + 1 + 1 by omega) 1 v1).apart (show g ≠ w.heap.size + 1 + 1 by omega) 2 v2
  exact ⟨⟨xa'.cell 0, xa'.cell 1, xa'.cell 2⟩, ⟨xb'.cell 0, xb'.cell 1, xb'.cell 2⟩, ya.cell 0, yg.cell 0, yu.cell 0⟩
 have KC2 := Be KC2
 obtain ⟨⟨k0, k1, k2⟩, ⟨j0, j1, j2⟩, z0, z1, z2⟩ := KC W (Bb W)
 obtain ⟨dn, dm, de⟩ := d
 have KC := Be KC
 have OV := Be OV
 have MU := Be MU
 have RA := Be RA
 have XR := Be XR
 have HW := Be hW
 clear hW h h' hT hk ha hu hd b1 b2 xa xb xr hk0 ha0 hu0 H H' hT0
 simp only at OV MU RA
 go_enter Tryz.func64, Tryz.ntmps64
 go_wp2_with fail
 rw [HW.out]
 go_region_held3 (fun w' => ((w'.cell? ⟨w.heap.size, 0, none⟩ = some (.bool p) ∧ w'.cell? ⟨w.heap.size, 1, none⟩ = some (.slice A n c) ∧ w'.cell? ⟨w.heap.size, 2, none⟩ = some (.int .i64 e)) ∧ (w'.cell? ⟨w.heap.size + 1, 0, none⟩ = some (.bool q) ∧ w'.cell? ⟨w.heap.size + 1, 1, none⟩ = some (.slice A' n' c') ∧ w'.cell? ⟨w.heap.size + 1, 2, none⟩ = some (.int .i64 f)) ∧ w'.cell? ⟨a, 0, none⟩ = some (.pointer (some ⟨g, 0, none⟩)) ∧ w'.cell? ⟨g, 0, none⟩ = some (.int .i64 P) ∧ w'.cell? ⟨u, 0, none⟩ = some (.bool up))) (first | (refine KC.out _ ?_; (repeat with_reducible (first | assumption | exact Bb _ | refine Bd ?_ _ | apply Below.drew | refine Ba ?_ _)); done) | (refine KC2.out _ ?_ _ _ _ _ rfl; (repeat with_reducible (first | assumption | exact Bb _ | refine Bd ?_ _ | apply Below.drew | refine Ba ?_ _)); done) | go_keep) (first | (go_at_call 65; refine (OV.out _ ?_).mono ?_; (repeat with_reducible (first | assumption | exact Bb _ | refine Bd ?_ _ | apply Below.drew | refine Ba ?_ _)); rintro r w5 ⟨A5, n5, c5, rfl, h5, hb5⟩) | (go_at_call 43; refine (MU.out _ _ _ _ ?_).mono ?_; (repeat with_reducible (first | assumption | exact Bb _ | refine Bd ?_ _ | apply Below.drew | refine Ba ?_ _)); rintro r w6 ⟨rfl, hb56, hb6⟩; obtain ⟨u0, u1, u2, u3, u4, u5⟩ := XR.out _ hb6))
 go_wp2_with fail
 refine bodyPost_ret (v := .agg #[.bool dn, .slice A5 n5 c5, .int .i64 de]) ?_ rfl (RA.out _ _ _ _ (h5.below hb56) hb6)
 simp [results, Tryz.results64, go_sem, u0, u1, u2]
theorem Wr {w : World} {h : Nat} {t : TypeId} (a b c d : DV) (hb : Box w h #[.bool a.neg, .slice a.A a.n a.c, .int .i64 a.e, .bool b.neg, .slice b.A b.n b.c, .int .i64 b.e, .bool c.neg, .slice c.A c.n c.c, .int .i64 c.e, .bool d.neg, .slice d.A d.n d.c, .int .i64 d.e] t)
  (ha : a.ok w) (hb' : b.ok w) (hc : c.ok w) (hd : d.ok w) : DVs w h [a, b, c, d] := by
 have Fg : ∀ j, j < [a, b, c, d].length → j = 0 ∨ j = 1 ∨ j = 2 ∨ j = 3 := fun j hj => by simp at hj; omega
 refine ⟨hb.lt, fun j hj => ?_, fun j hj => ?_, fun j hj => ?_, fun j hj => ?_⟩ <;> rcases Fg j hj with rfl | rfl | rfl | rfl
 all_goals first | exact ha | exact hb' | exact hc | exact hd | exact hb.cell _
def RetF (D1 D2 D3 D4 : Dy) (w : World) (r : Ending) (w' : World) : Prop :=
 ∃ h A1 n1 c1 A2 n2 c2 A3 n3 c3 A4 n4 c4, r = .returned (.slice (some ⟨h, 0, none⟩) 4 4) ∧ DVs w' h [⟨D1.neg, A1, n1, c1, wd D1.m, D1.e⟩, ⟨D2.neg, A2, n2, c2, wd D2.m, D2.e⟩, ⟨D3.neg, A3, n3, c3, wd D3.m, D3.e⟩, ⟨D4.neg, A4, n4, c4, wd D4.m, D4.e⟩] ∧ Below w.heap.size w w'
theorem Bjh (p q s t : Bool) (A A' B B' : Option Addr) (n c n' c' m k m' k' : Nat) (xs ys us vs : List Int) (e f i j P : Int) (up : Bool) (a u g : Nat) (bad : Bool) (D1 D2 D3 D4 : Dy) (w : World)
  (h : Arr w A n c xs) (h' : Arr w A' n' c' ys) (hB : Arr w B m k us) (hB' : Arr w B' m' k' vs) (hT : Tz w)
  (hk : Wk w g P bad tw) (ta tu : TypeId) (ha : Box w a #[.pointer (some ⟨g, 0, none⟩)] ta) (hu : Box w u #[.bool up] tu)
  (o1 : Cq p s xs us e i P up = some D1) (o2 : Cq p t xs vs e j P up = some D2) (o3 : Cq q s ys us f i P up = some D3) (o4 : Cq q t ys vs f j P up = some D4) :
  Calls Tryz.prog 41 #[.agg #[.bool p, .slice A n c, .int .i64 e, .bool q, .slice A' n' c', .int .i64 f], .agg #[.bool s, .slice B m k, .int .i64 i, .bool t, .slice B' m' k', .int .i64 j], .func (.func 64) #[] #[.pointer (some ⟨a, 0, none⟩), .pointer (some ⟨u, 0, none⟩)]] w (RetF D1 D2 D3 D4 w) := by
 have b1 := Ba (Bb w) (.cells #[.bool p, .slice A n c, .int .i64 e, .bool q, .slice A' n' c', .int .i64 f] 28)
 have b0 : Below w.heap.size w ((w.alloc (.cells #[.bool p, .slice A n c, .int .i64 e, .bool q, .slice A' n' c', .int .i64 f] 28)).alloc (.cells #[.bool s, .slice B m k, .int .i64 i, .bool t, .slice B' m' k', .int .i64 j] 28)) := Ba b1 _
 have xa := (Bg w #[.bool p, .slice A n c, .int .i64 e, .bool q, .slice A' n' c', .int .i64 f] 28).later (Ba (Bb _) (.cells #[.bool s, .slice B m k, .int .i64 i, .bool t, .slice B' m' k', .int .i64 j] 28))
 have xb := Bg (w.alloc (.cells #[.bool p, .slice A n c, .int .i64 e, .bool q, .slice A' n' c', .int .i64 f] 28)) #[.bool s, .slice B m k, .int .i64 i, .bool t, .slice B' m' k', .int .i64 j] 28
 rw [show (w.alloc (.cells #[.bool p, .slice A n c, .int .i64 e, .bool q, .slice A' n' c', .int .i64 f] 28)).heap.size = w.heap.size + 1 by simp] at xb
 generalize hW : ((w.alloc (.cells #[.bool p, .slice A n c, .int .i64 e, .bool q, .slice A' n' c', .int .i64 f] 28)).alloc (.cells #[.bool s, .slice B m k, .int .i64 i, .bool t, .slice B' m' k', .int .i64 j] 28)) = W at *
 have KC : ∀ w', Below W.heap.size W w' → ((w'.cell? ⟨w.heap.size, 0, none⟩ = some (.bool p) ∧ w'.cell? ⟨w.heap.size, 1, none⟩ = some (.slice A n c) ∧ w'.cell? ⟨w.heap.size, 2, none⟩ = some (.int .i64 e) ∧ w'.cell? ⟨w.heap.size, 3, none⟩ = some (.bool q) ∧ w'.cell? ⟨w.heap.size, 4, none⟩ = some (.slice A' n' c') ∧ w'.cell? ⟨w.heap.size, 5, none⟩ = some (.int .i64 f)) ∧ (w'.cell? ⟨w.heap.size + 1, 0, none⟩ = some (.bool s) ∧ w'.cell? ⟨w.heap.size + 1, 1, none⟩ = some (.slice B m k) ∧ w'.cell? ⟨w.heap.size + 1, 2, none⟩ = some (.int .i64 i) ∧ w'.cell? ⟨w.heap.size + 1, 3, none⟩ = some (.bool t) ∧ w'.cell? ⟨w.heap.size + 1, 4, none⟩ = some (.slice B' m' k') ∧ w'.cell? ⟨w.heap.size + 1, 5, none⟩ = some (.int .i64 j))) := fun w' hb => (by obtain ⟨z0, z1, z2, z3, z4, z5, -⟩ := (xa.later hb).cell6; obtain ⟨y0, y1, y2, y3, y4, y5, -⟩ := (xb.later hb).cell6; exact ⟨⟨z0, z1, z2, z3, z4, z5⟩, ⟨y0, y1, y2, y3, y4, y5⟩⟩)
 have OV : ∀ (p1 q1 : Bool) (A1 A2 : Option Addr) (n1 c1 n2 c2 : Nat) (x1 x2 : List Int) (e1 e2 : Int) (D : Dy), Arr w A1 n1 c1 x1 → Arr w A2 n2 c2 x2 → Cq p1 q1 x1 x2 e1 e2 P up = some D → (∀ w', Below W.heap.size W w' → Calls Tryz.prog 64 #[(.agg #[.bool p1, .slice A1 n1 c1, .int .i64 e1]), (.agg #[.bool q1, .slice A2 n2 c2, .int .i64 e2]), .pointer (some ⟨a, 0, none⟩), .pointer (some ⟨u, 0, none⟩)] w' fun r w'' => ∃ A5 n5 c5, r = .returned (.agg #[.bool (D).neg, .slice A5 n5 c5, .int .i64 (D).e]) ∧ Arr w'' A5 n5 c5 (wd (D).m) ∧ Below w'.heap.size w' w'' ∧ Below W.heap.size W w'') := by
  intro p1 q1 A1 A2 n1 c1 n2 c2 x1 x2 e1 e2 D ha1 ha2 ho w' hb
  refine (Bfw p1 q1 A1 A2 n1 c1 n2 c2 x1 x2 e1 e2 P up a u g bad D w' ((ha1.below b0).below hb) ((ha2.below b0).below hb) ((hT.below b0).below hb) ((hk.later b0).later hb) ta tu ((ha.later b0).later hb) ((hu.later b0).later hb) ho).mono ?_
  rintro r w'' ⟨A5, n5, c5, rfl, h5, hb5⟩
  exact ⟨A5, n5, c5, rfl, h5, hb5, Bc hb hb5⟩
 have C1 := Be (OV p s A B n c m k xs us e i D1 h hB o1)
 have C2 := Be (OV p t A B' n c m' k' xs vs e j D2 h hB' o2)
 have C3 := Be (OV q s A' B n' c' m k ys us f i D3 h' hB o3)
 have C4 := Be (OV q t A' B' n' c' m' k' ys vs f j D4 h' hB' o4)
 obtain ⟨⟨k0, k1, k2, k3, k4, k5⟩, ⟨j0, j1, j2, j3, j4, j5⟩⟩ := KC W (Bb W)
 have KC := Be KC
 have HW := Be hW
 clear OV hW h h' hB hB' hT hk ha hu o1 o2 o3 o4 b1 xa xb
 obtain ⟨s1, m1, f1⟩ := D1
 obtain ⟨s2, m2, f2⟩ := D2
 obtain ⟨s3, m3, f3⟩ := D3
 obtain ⟨s4, m4, f4⟩ := D4
 simp only at C1 C2 C3 C4
 go_enter Tryz.func41, Tryz.ntmps41
 go_wp2_with fail
 rw [HW.out]
 go_region_held3 (fun w' => ((w'.cell? ⟨w.heap.size, 0, none⟩ = some (.bool p) ∧ w'.cell? ⟨w.heap.size, 1, none⟩ = some (.slice A n c) ∧ w'.cell? ⟨w.heap.size, 2, none⟩ = some (.int .i64 e) ∧ w'.cell? ⟨w.heap.size, 3, none⟩ = some (.bool q) ∧ w'.cell? ⟨w.heap.size, 4, none⟩ = some (.slice A' n' c') ∧ w'.cell? ⟨w.heap.size, 5, none⟩ = some (.int .i64 f)) ∧ (w'.cell? ⟨w.heap.size + 1, 0, none⟩ = some (.bool s) ∧ w'.cell? ⟨w.heap.size + 1, 1, none⟩ = some (.slice B m k) ∧ w'.cell? ⟨w.heap.size + 1, 2, none⟩ = some (.int .i64 i) ∧ w'.cell? ⟨w.heap.size + 1, 3, none⟩ = some (.bool t) ∧ w'.cell? ⟨w.heap.size + 1, 4, none⟩ = some (.slice B' m' k') ∧ w'.cell? ⟨w.heap.size + 1, 5, none⟩ = some (.int .i64 j)))) (first | (refine KC.out _ ?_; (repeat with_reducible (first | assumption | exact Bb _ | refine Bd ?_ _ | apply Below.drew | refine Ba ?_ _)); done) | go_keep) (first | (go_at_call_of 64 (Value.agg #[Value.bool p, Value.slice A n c, Value.int IntKind.i64 e]); go_at_call_of 64 (Value.agg #[Value.bool s, Value.slice B m k, Value.int IntKind.i64 i]); refine (C1.out _ ?_).mono ?_; (repeat with_reducible (first | assumption | exact Bb _ | refine Bd ?_ _ | apply Below.drew | refine Ba ?_ _)); rintro r w1 ⟨A1, n1, c1, rfl, h1, hc1, hb1⟩; (try have h2 := Arr.below (Arr.below h2 ((by repeat with_reducible (first | assumption | exact Bb _ | refine Bd ?_ _ | apply Below.drew | refine Ba ?_ _)))) hc1); (try have h3 := Arr.below (Arr.below h3 ((by repeat with_reducible (first | assumption | exact Bb _ | refine Bd ?_ _ | apply Below.drew | refine Ba ?_ _)))) hc1); (try have h4 := Arr.below (Arr.below h4 ((by repeat with_reducible (first | assumption | exact Bb _ | refine Bd ?_ _ | apply Below.drew | refine Ba ?_ _)))) hc1)) | (go_at_call_of 64 (Value.agg #[Value.bool p, Value.slice A n c, Value.int IntKind.i64 e]); go_at_call_of 64 (Value.agg #[Value.bool t, Value.slice B' m' k', Value.int IntKind.i64 j]); refine (C2.out _ ?_).mono ?_; (repeat with_reducible (first | assumption | exact Bb _ | refine Bd ?_ _ | apply Below.drew | refine Ba ?_ _)); rintro r w2 ⟨A2, n2, c2, rfl, h2, hc2, hb2⟩; (try have h1 := Arr.below (Arr.below h1 ((by repeat with_reducible (first | assumption | exact Bb _ | refine Bd ?_ _ | apply Below.drew | refine Ba ?_ _)))) hc2); (try have h3 := Arr.below (Arr.below h3 ((by repeat with_reducible (first | assumption | exact Bb _ | refine Bd ?_ _ | apply Below.drew | refine Ba ?_ _)))) hc2); (try have h4 := Arr.below (Arr.below h4 ((by repeat with_reducible (first | assumption | exact Bb _ | refine Bd ?_ _ | apply Below.drew | refine Ba ?_ _)))) hc2)) | (go_at_call_of 64 (Value.agg #[Value.bool q, Value.slice A' n' c', Value.int IntKind.i64 f]); go_at_call_of 64 (Value.agg #[Value.bool s, Value.slice B m k, Value.int IntKind.i64 i]); refine (C3.out _ ?_).mono ?_; (repeat with_reducible (first | assumption | exact Bb _ | refine Bd ?_ _ | apply Below.drew | refine Ba ?_ _)); rintro r w3 ⟨A3, n3, c3, rfl, h3, hc3, hb3⟩; (try have h1 := Arr.below (Arr.below h1 ((by repeat with_reducible (first | assumption | exact Bb _ | refine Bd ?_ _ | apply Below.drew | refine Ba ?_ _)))) hc3); (try have h2 := Arr.below (Arr.below h2 ((by repeat with_reducible (first | assumption | exact Bb _ | refine Bd ?_ _ | apply Below.drew | refine Ba ?_ _)))) hc3); (try have h4 := Arr.below (Arr.below h4 ((by repeat with_reducible (first | assumption | exact Bb _ | refine Bd ?_ _ | apply Below.drew | refine Ba ?_ _)))) hc3)) | (go_at_call_of 64 (Value.agg #[Value.bool q, Value.slice A' n' c', Value.int IntKind.i64 f]); go_at_call_of 64 (Value.agg #[Value.bool t, Value.slice B' m' k', Value.int IntKind.i64 j]); refine (C4.out _ ?_).mono ?_; (repeat with_reducible (first | assumption | exact Bb _ | refine Bd ?_ _ | apply Below.drew | refine Ba ?_ _)); rintro r w4 ⟨A4, n4, c4, rfl, h4, hc4, hb4⟩; (try have h1 := Arr.below (Arr.below h1 ((by repeat with_reducible (first | assumption | exact Bb _ | refine Bd ?_ _ | apply Below.drew | refine Ba ?_ _)))) hc4); (try have h2 := Arr.below (Arr.below h2 ((by repeat with_reducible (first | assumption | exact Bb _ | refine Bd ?_ _ | apply Below.drew | refine Ba ?_ _)))) hc4); (try have h3 := Arr.below (Arr.below h3 ((by repeat with_reducible (first | assumption | exact Bb _ | refine Bd ?_ _ | apply Below.drew | refine Ba ?_ _)))) hc4)))
 all_goals
  go_wp2_with fail
  go_ret
  refine ⟨_, A1, n1, c1, A2, n2, c2, A3, n3, c3, A4, n4, c4, rfl, Wr _ _ _ _ (Bg _ _ _) ?_ ?_ ?_ ?_, ?_⟩
  ·exact Arr.below h1 ((by repeat with_reducible (first | assumption | exact Bb _ | refine Bd ?_ _ | apply Below.drew | refine Ba ?_ _)))
  ·exact Arr.below h2 ((by repeat with_reducible (first | assumption | exact Bb _ | refine Bd ?_ _ | apply Below.drew | refine Ba ?_ _)))
  ·exact Arr.below h3 ((by repeat with_reducible (first | assumption | exact Bb _ | refine Bd ?_ _ | apply Below.drew | refine Ba ?_ _)))
  ·exact Arr.below h4 ((by repeat with_reducible (first | assumption | exact Bb _ | refine Bd ?_ _ | apply Below.drew | refine Ba ?_ _)))
  ·exact Bc b0 ((by repeat with_reducible (first | assumption | exact Bb _ | refine Bd ?_ _ | apply Below.drew | refine Ba ?_ _)))
def cDy (a b : Dy) : Int := Dw a.neg b.neg (wd a.m) (wd b.m) a.e b.e
def Dn (most : Bool) (b d : Dy) : Dy := if (if most then decide (0 < cDy d b) else decide (cDy d b < 0)) then d else b
def Cy (most : Bool) (a b c d : Dy) : Dy := Dn most (Dn most (Dn most a b) c) d
structure Rep (d : DV) (D : Dy) : Prop where
 neg : d.neg = D.neg
 xs : d.xs = wd D.m
 e : d.e = D.e
theorem Ld {most : Bool} {b d : DV} {B D : Dy} (hb : Rep b B) (hd : Rep d D) : Rep (Kg most b d) (Dn most B D) := by
 have hc : cDV d b = cDy D B := by unfold cDV cDy; rw [hb.neg, hb.xs, hb.e, hd.neg, hd.xs, hd.e]
 unfold Kg Dn
 rw [hc]
 have key : ∀ z : Bool, Rep (if z then d else b) (if z then D else B) := by
  intro z
  cases z
  ·exact hb
  ·exact hd
 exact key _
theorem Mp (most : Bool) {a b c d : DV} {D1 D2 D3 D4 : Dy} (h1 : Rep a D1) (h2 : Rep b D2) (h3 : Rep c D3) (h4 : Rep d D4) : Rep (Cc most [a, b, c, d]) (Cy most D1 D2 D3 D4) :=
 Ld (Ld (Ld h1 h2) h3) h4
theorem Bes (p q s t : Bool) (A A' B B' : Option Addr) (n c n' c' m k m' k' : Nat) (xs ys us vs : List Int) (e f i j P : Int) (up : Bool) (sa sb a g : Nat) (bad : Bool) (D1 D2 D3 D4 : Dy) (w : World)
  (h : Arr w A n c xs) (h' : Arr w A' n' c' ys) (hB : Arr w B m k us) (hB' : Arr w B' m' k' vs) (hT : Tz w)
  (hk : Wk w g P bad tw) (ta t1 t2 : TypeId) (ha : Box w a #[.pointer (some ⟨g, 0, none⟩)] ta) (hsa : Box w sa (#[.bool p, .slice A n c, .int .i64 e, .bool q, .slice A' n' c', .int .i64 f]) t1) (hsb : Box w sb (#[.bool s, .slice B m k, .int .i64 i, .bool t, .slice B' m' k', .int .i64 j]) t2)
  (o1 : Cq p s xs us e i P up = some D1) (o2 : Cq p t xs vs e j P up = some D2) (o3 : Cq q s ys us f i P up = some D3) (o4 : Cq q t ys vs f j P up = some D4) :
  Calls Tryz.prog 63 #[.bool up, .pointer (some ⟨sa, 0, none⟩), .pointer (some ⟨sb, 0, none⟩), .pointer (some ⟨a, 0, none⟩)] w (RetF D1 D2 D3 D4 w) := by
 have b0 := Ba (Bb w) (.cells #[.bool up] 4)
 have xu := Bg w #[.bool up] 4
 obtain ⟨z0, z1, z2, z3, z4, z5, -⟩ := (hsa.later b0).cell6
 obtain ⟨y0, y1, y2, y3, y4, y5, -⟩ := (hsb.later b0).cell6
 have EN := Bjh p q s t A A' B B' n c n' c' m k m' k' xs ys us vs e f i j P up a w.heap.size g bad D1 D2 D3 D4 _ (h.below b0) (h'.below b0) (hB.below b0) (hB'.below b0) (hT.below b0) (hk.later b0) ta 4 (ha.later b0) xu o1 o2 o3 o4
 have EN := Be EN
 clear o1 o2 o3 o4
 go_enter Tryz.func63, Tryz.ntmps63
 go_wp2_with fail
 refine EN.out.mono ?_
 rintro r w2 ⟨hh, A1, n1, c1, A2, n2, c2, A3, n3, c3, A4, n4, c4, rfl, hd, hb2⟩
 go_wp2_with fail
 go_ret
 exact ⟨hh, A1, n1, c1, A2, n2, c2, A3, n3, c3, A4, n4, c4, rfl, hd, Bc b0 hb2⟩
theorem Jb {w : World} {h : Nat} (a b : SVal) {ty : TypeId} (hb : Box w h #[.bool a.p, .slice a.A a.n a.c, .int .i64 a.e, .bool a.q, .slice a.A' a.n' a.c', .int .i64 a.f, .bool b.p, .slice b.A b.n b.c, .int .i64 b.e, .bool b.q, .slice b.A' b.n' b.c', .int .i64 b.f] ty)
  (ha : a.ok w) (hb' : b.ok w) : SVs w h [a, b] := by
 have two : ∀ j, j < [a, b].length → j = 0 ∨ j = 1 := fun j hj => by simp at hj; omega
 refine ⟨hb.lt, fun j hj => ?_, fun j hj => ?_, fun j hj => ?_, fun j hj => ?_, fun j hj => ?_, fun j hj => ?_, fun j hj => ?_⟩ <;> rcases two j hj with rfl | rfl
 all_goals first | exact ha | exact hb' | exact hb.cell _
theorem Tm {D1 D2 D3 D4 : Dy} {h : Nat} {A1 A2 A3 A4 : Option Addr} {n1 c1 n2 c2 n3 c3 n4 c4 : Nat} (w : World) (hd : DVs w h [⟨D1.neg, A1, n1, c1, wd D1.m, D1.e⟩, ⟨D2.neg, A2, n2, c2, wd D2.m, D2.e⟩, ⟨D3.neg, A3, n3, c3, wd D3.m, D3.e⟩, ⟨D4.neg, A4, n4, c4, wd D4.m, D4.e⟩]) :
  Calls Tryz.prog 46 #[.slice (some ⟨h, 0, none⟩) 4 4, .func (.func 47) #[] #[]] w (Us (Cy false D1 D2 D3 D4) w) := by
 refine (spmin h 4 4 _ rfl w hd (Nat.zero_lt_succ _) (by decide)).mono ?_
 rintro r w' ⟨rfl, ha, hb⟩
 have hr := Mp false (a := ⟨D1.neg, A1, n1, c1, wd D1.m, D1.e⟩) (b := ⟨D2.neg, A2, n2, c2, wd D2.m, D2.e⟩) (c := ⟨D3.neg, A3, n3, c3, wd D3.m, D3.e⟩) (d := ⟨D4.neg, A4, n4, c4, wd D4.m, D4.e⟩) ⟨rfl, rfl, rfl⟩ ⟨rfl, rfl, rfl⟩ ⟨rfl, rfl, rfl⟩ ⟨rfl, rfl, rfl⟩
 rw [hr.xs] at ha
 exact ⟨_, _, _, by rw [hr.neg, hr.e], ha.below hb, hb⟩
theorem Tl {D1 D2 D3 D4 : Dy} {h : Nat} {A1 A2 A3 A4 : Option Addr} {n1 c1 n2 c2 n3 c3 n4 c4 : Nat} (w : World) (hd : DVs w h [⟨D1.neg, A1, n1, c1, wd D1.m, D1.e⟩, ⟨D2.neg, A2, n2, c2, wd D2.m, D2.e⟩, ⟨D3.neg, A3, n3, c3, wd D3.m, D3.e⟩, ⟨D4.neg, A4, n4, c4, wd D4.m, D4.e⟩]) :
  Calls Tryz.prog 48 #[.slice (some ⟨h, 0, none⟩) 4 4, .func (.func 47) #[] #[]] w (Us (Cy true D1 D2 D3 D4) w) := by
 refine (spmax h 4 4 _ rfl w hd (Nat.zero_lt_succ _) (by decide)).mono ?_
 rintro r w' ⟨rfl, ha, hb⟩
 have hr := Mp true (a := ⟨D1.neg, A1, n1, c1, wd D1.m, D1.e⟩) (b := ⟨D2.neg, A2, n2, c2, wd D2.m, D2.e⟩) (c := ⟨D3.neg, A3, n3, c3, wd D3.m, D3.e⟩) (d := ⟨D4.neg, A4, n4, c4, wd D4.m, D4.e⟩) ⟨rfl, rfl, rfl⟩ ⟨rfl, rfl, rfl⟩ ⟨rfl, rfl, rfl⟩ ⟨rfl, rfl, rfl⟩
 rw [hr.xs] at ha
 exact ⟨_, _, _, by rw [hr.neg, hr.e], ha.below hb, hb⟩
def Xu (w : World) (k : Nat) (p : Bool) (A : Option Addr) (n c : Nat) (e : Int) (q : Bool) (A' : Option Addr) (n' c' : Nat) (f : Int) : World :=
 (((((w.setCell ⟨k, 0, none⟩ (.bool p)).setCell ⟨k, 1, none⟩ (.slice A n c)).setCell ⟨k, 2, none⟩ (.int .i64 e)).setCell ⟨k, 3, none⟩ (.bool q)).setCell ⟨k, 4, none⟩ (.slice A' n' c')).setCell ⟨k, 5, none⟩ (.int .i64 f)
theorem Gb (w : World) (k : Nat) (p : Bool) (A : Option Addr) (n c : Nat) (e : Int) (q : Bool) (A' : Option Addr) (n' c' : Nat) (f : Int) : w.grownBy (Xu w k p A n c e q A' n' c' f) (some k) :=
 Bi (Bi (Bi (Bi (Bi (Br w k 0 _) (Br _ k 1 _)) (Br _ k 2 _)) (Br _ k 3 _)) (Br _ k 4 _)) (Br _ k 5 _)
theorem Ti {w w4 : World} {L U : Dy} {A A' : Option Addr} {n c n' c' g k : Nat} {P : Int} {tw t : TypeId} (h1 : Arr w4 A n c (wd L.m)) (h2 : Arr w4 A' n' c' (wd U.m)) (hb : Box w4 k #[.bool false, .slice none 0 0, .int .i64 0, .bool false, .slice none 0 0, .int .i64 0] t)
  (hk : Wk w4 g P false tw) (hg : w.grownBy w4 (some g)) (hne : g ≠ k) (hkk : w.heap.size ≤ k) :
  Dx (some (L, U)) g P tw w (.returned (.agg #[.bool L.neg, .slice A n c, .int .i64 L.e, .bool U.neg, .slice A' n' c', .int .i64 U.e])) (Xu w4 k L.neg A n c L.e U.neg A' n' c' U.e) := by
 have g6 := Gb w4 k L.neg A n c L.e U.neg A' n' c' U.e
 have no := no6 (a := .bool false) (b := .slice none 0 0) (c := .int .i64 0) (d := .bool false) (e := .slice none 0 0) (f := .int .i64 0) (by simp) (by simp) (by simp) (by simp) (by simp) (by simp)
 exact ⟨A, n, c, A', n', c', rfl, h1.grown hb no g6, h2.grown hb no g6, hk.other g6 hne, Cd hg g6 hkk⟩
theorem spdiv (p q s t : Bool) (A A' B B' : Option Addr) (n c n' c' m k m' k' : Nat) (xs ys us vs : List Int) (e f i j P : Int) (g : Nat) (bad : Bool) (D1 D2 D3 D4 E1 E2 E3 E4 : Dy) (w : World)
  (h : Arr w A n c xs) (h' : Arr w A' n' c' ys) (hB : Arr w B m k us) (hB' : Arr w B' m' k' vs) (hT : Tz w) (hk : Wk w g P bad tw)
  (ho : Bx bad P [(⟨p, A, n, c, xs, e, q, A', n', c', ys, f⟩ : SVal), (⟨s, B, m, k, us, i, t, B', m', k', vs, j⟩ : SVal)] = false → Hc s t us vs i j ≠ 0 →
   (Cq p s xs us e i P false = some D1 ∧ Cq p t xs vs e j P false = some D2 ∧ Cq q s ys us f i P false = some D3 ∧ Cq q t ys vs f j P false = some D4) ∧
   (Cq p s xs us e i P true = some E1 ∧ Cq p t xs vs e j P true = some E2 ∧ Cq q s ys us f i P true = some E3 ∧ Cq q t ys vs f j P true = some E4)) :
  Calls Tryz.prog 27 #[.pointer (some ⟨g, 0, none⟩), .agg #[.bool p, .slice A n c, .int .i64 e, .bool q, .slice A' n' c', .int .i64 f], .agg #[.bool s, .slice B m k, .int .i64 i, .bool t, .slice B' m' k', .int .i64 j]] w
   (Dx (if Bx bad P [(⟨p, A, n, c, xs, e, q, A', n', c', ys, f⟩ : SVal), (⟨s, B, m, k, us, i, t, B', m', k', vs, j⟩ : SVal)] = false ∧ Hc s t us vs i j ≠ 0 then some (Cy false D1 D2 D3 D4, Cy true E1 E2 E3 E4) else none) g P tw w) := by
 have hg := hk.lt
 have b1 : Below w.heap.size w (w.alloc (.cells #[.pointer (some ⟨g, 0, none⟩)] 31)) := Ba (Bb w) _
 have b2 : Below w.heap.size w ((w.alloc (.cells #[.pointer (some ⟨g, 0, none⟩)] 31)).alloc (.cells #[.bool p, .slice A n c, .int .i64 e, .bool q, .slice A' n' c', .int .i64 f] 28)) := Ba b1 _
 have b3 : Below w.heap.size w (((w.alloc (.cells #[.pointer (some ⟨g, 0, none⟩)] 31)).alloc (.cells #[.bool p, .slice A n c, .int .i64 e, .bool q, .slice A' n' c', .int .i64 f] 28)).alloc (.cells #[.bool s, .slice B m k, .int .i64 i, .bool t, .slice B' m' k', .int .i64 j] 28)) := Ba b2 _
 have b4 : Below w.heap.size w ((((w.alloc (.cells #[.pointer (some ⟨g, 0, none⟩)] 31)).alloc (.cells #[.bool p, .slice A n c, .int .i64 e, .bool q, .slice A' n' c', .int .i64 f] 28)).alloc (.cells #[.bool s, .slice B m k, .int .i64 i, .bool t, .slice B' m' k', .int .i64 j] 28)).alloc (.cells #[.bool false, .slice none 0 0, .int .i64 0, .bool false, .slice none 0 0, .int .i64 0] 28)) := Ba b3 _
 have b5 : Below w.heap.size w (((((w.alloc (.cells #[.pointer (some ⟨g, 0, none⟩)] 31)).alloc (.cells #[.bool p, .slice A n c, .int .i64 e, .bool q, .slice A' n' c', .int .i64 f] 28)).alloc (.cells #[.bool s, .slice B m k, .int .i64 i, .bool t, .slice B' m' k', .int .i64 j] 28)).alloc (.cells #[.bool false, .slice none 0 0, .int .i64 0, .bool false, .slice none 0 0, .int .i64 0] 28)).alloc (.cells #[.bool p, .slice A n c, .int .i64 e, .bool q, .slice A' n' c', .int .i64 f, .bool s, .slice B m k, .int .i64 i, .bool t, .slice B' m' k', .int .i64 j] 28)) := Ba b4 _
 have s1 : (w.alloc (.cells #[.pointer (some ⟨g, 0, none⟩)] 31)).heap.size = w.heap.size + 1 := by simp
 have s2 : ((w.alloc (.cells #[.pointer (some ⟨g, 0, none⟩)] 31)).alloc (.cells #[.bool p, .slice A n c, .int .i64 e, .bool q, .slice A' n' c', .int .i64 f] 28)).heap.size = w.heap.size + 1 + 1 := by simp
 have s3 : (((w.alloc (.cells #[.pointer (some ⟨g, 0, none⟩)] 31)).alloc (.cells #[.bool p, .slice A n c, .int .i64 e, .bool q, .slice A' n' c', .int .i64 f] 28)).alloc (.cells #[.bool s, .slice B m k, .int .i64 i, .bool t, .slice B' m' k', .int .i64 j] 28)).heap.size = w.heap.size + 1 + 1 + 1 := by simp
 have s4 : ((((w.alloc (.cells #[.pointer (some ⟨g, 0, none⟩)] 31)).alloc (.cells #[.bool p, .slice A n c, .int .i64 e, .bool q, .slice A' n' c', .int .i64 f] 28)).alloc (.cells #[.bool s, .slice B m k, .int .i64 i, .bool t, .slice B' m' k', .int .i64 j] 28)).alloc (.cells #[.bool false, .slice none 0 0, .int .i64 0, .bool false, .slice none 0 0, .int .i64 0] 28)).heap.size = w.heap.size + 1 + 1 + 1 + 1 := by simp
 have xa := (Bg w #[.pointer (some ⟨g, 0, none⟩)] 31).later (Ba (Ba (Ba (Ba (Bb _) (.cells #[.bool p, .slice A n c, .int .i64 e, .bool q, .slice A' n' c', .int .i64 f] 28)) (.cells #[.bool s, .slice B m k, .int .i64 i, .bool t, .slice B' m' k', .int .i64 j] 28)) (.cells #[.bool false, .slice none 0 0, .int .i64 0, .bool false, .slice none 0 0, .int .i64 0] 28)) (.cells #[.bool p, .slice A n c, .int .i64 e, .bool q, .slice A' n' c', .int .i64 f, .bool s, .slice B m k, .int .i64 i, .bool t, .slice B' m' k', .int .i64 j] 28))
 have xsa := (Bg (w.alloc (.cells #[.pointer (some ⟨g, 0, none⟩)] 31)) #[.bool p, .slice A n c, .int .i64 e, .bool q, .slice A' n' c', .int .i64 f] 28).later (Ba (Ba (Ba (Bb _) (.cells #[.bool s, .slice B m k, .int .i64 i, .bool t, .slice B' m' k', .int .i64 j] 28)) (.cells #[.bool false, .slice none 0 0, .int .i64 0, .bool false, .slice none 0 0, .int .i64 0] 28)) (.cells #[.bool p, .slice A n c, .int .i64 e, .bool q, .slice A' n' c', .int .i64 f, .bool s, .slice B m k, .int .i64 i, .bool t, .slice B' m' k', .int .i64 j] 28))
 have xsb := (Bg ((w.alloc (.cells #[.pointer (some ⟨g, 0, none⟩)] 31)).alloc (.cells #[.bool p, .slice A n c, .int .i64 e, .bool q, .slice A' n' c', .int .i64 f] 28)) #[.bool s, .slice B m k, .int .i64 i, .bool t, .slice B' m' k', .int .i64 j] 28).later (Ba (Ba (Bb _) (.cells #[.bool false, .slice none 0 0, .int .i64 0, .bool false, .slice none 0 0, .int .i64 0] 28)) (.cells #[.bool p, .slice A n c, .int .i64 e, .bool q, .slice A' n' c', .int .i64 f, .bool s, .slice B m k, .int .i64 i, .bool t, .slice B' m' k', .int .i64 j] 28))
 have xr := (Bg (((w.alloc (.cells #[.pointer (some ⟨g, 0, none⟩)] 31)).alloc (.cells #[.bool p, .slice A n c, .int .i64 e, .bool q, .slice A' n' c', .int .i64 f] 28)).alloc (.cells #[.bool s, .slice B m k, .int .i64 i, .bool t, .slice B' m' k', .int .i64 j] 28)) #[.bool false, .slice none 0 0, .int .i64 0, .bool false, .slice none 0 0, .int .i64 0] 28).later (Ba (Bb _) (.cells #[.bool p, .slice A n c, .int .i64 e, .bool q, .slice A' n' c', .int .i64 f, .bool s, .slice B m k, .int .i64 i, .bool t, .slice B' m' k', .int .i64 j] 28))
 have xl := Bg ((((w.alloc (.cells #[.pointer (some ⟨g, 0, none⟩)] 31)).alloc (.cells #[.bool p, .slice A n c, .int .i64 e, .bool q, .slice A' n' c', .int .i64 f] 28)).alloc (.cells #[.bool s, .slice B m k, .int .i64 i, .bool t, .slice B' m' k', .int .i64 j] 28)).alloc (.cells #[.bool false, .slice none 0 0, .int .i64 0, .bool false, .slice none 0 0, .int .i64 0] 28)) #[.bool p, .slice A n c, .int .i64 e, .bool q, .slice A' n' c', .int .i64 f, .bool s, .slice B m k, .int .i64 i, .bool t, .slice B' m' k', .int .i64 j] 28
 rw [s1] at xsa
 rw [s2] at xsb
 rw [s3] at xr
 rw [s4] at xl
 have hk5 := hk.later b5
 have TK := Mk g (w.heap.size + 1 + 1 + 1 + 1) 2 P bad [(⟨p, A, n, c, xs, e, q, A', n', c', ys, f⟩ : SVal), (⟨s, B, m, k, us, i, t, B', m', k', vs, j⟩ : SVal)] rfl _ hk5 (Jb (⟨p, A, n, c, xs, e, q, A', n', c', ys, f⟩ : SVal) (⟨s, B, m, k, us, i, t, B', m', k', vs, j⟩ : SVal) xl ⟨h.below b5, h'.below b5⟩ ⟨hB.below b5, hB'.below b5⟩) (by omega) (by decide)
 have m0 := (Bg w #[.pointer (some ⟨g, 0, none⟩)] 31).later (Ba (Ba (Ba (Bb _) (.cells #[.bool p, .slice A n c, .int .i64 e, .bool q, .slice A' n' c', .int .i64 f] 28)) (.cells #[.bool s, .slice B m k, .int .i64 i, .bool t, .slice B' m' k', .int .i64 j] 28)) (.cells #[.bool false, .slice none 0 0, .int .i64 0, .bool false, .slice none 0 0, .int .i64 0] 28)) |>.cell 0
 obtain ⟨k0, k1, k2, k3, k4, k5, -⟩ := (Bg (w.alloc (.cells #[.pointer (some ⟨g, 0, none⟩)] 31)) #[.bool p, .slice A n c, .int .i64 e, .bool q, .slice A' n' c', .int .i64 f] 28).later (Ba (Ba (Bb _) (.cells #[.bool s, .slice B m k, .int .i64 i, .bool t, .slice B' m' k', .int .i64 j] 28)) (.cells #[.bool false, .slice none 0 0, .int .i64 0, .bool false, .slice none 0 0, .int .i64 0] 28)) |>.cell6
 obtain ⟨j0, j1, j2, j3, j4, j5, -⟩ := (Bg ((w.alloc (.cells #[.pointer (some ⟨g, 0, none⟩)] 31)).alloc (.cells #[.bool p, .slice A n c, .int .i64 e, .bool q, .slice A' n' c', .int .i64 f] 28)) #[.bool s, .slice B m k, .int .i64 i, .bool t, .slice B' m' k', .int .i64 j] 28).later (Ba (Bb _) (.cells #[.bool false, .slice none 0 0, .int .i64 0, .bool false, .slice none 0 0, .int .i64 0] 28)) |>.cell6
 rw [s1] at k0 k1 k2 k3 k4 k5
 rw [s2] at j0 j1 j2 j3 j4 j5
 generalize Bx bad P [(⟨p, A, n, c, xs, e, q, A', n', c', ys, f⟩ : SVal), (⟨s, B, m, k, us, i, t, B', m', k', vs, j⟩ : SVal)] = tb at *
 have TK := Be TK
 have HO := Be ho
 clear ho s1 s2 s3 s4 b1 b2 b3 b4 xl
 cases tb
 ·by_cases hsg : Hc s t us vs i j = 0
  ·rw [if_neg (fun hh => hh.2 hsg)]
   go_enter Tryz.func27, Tryz.ntmps27
   go_wp2_with fail
   refine TK.out.mono ?_
   rintro r w6 ⟨rfl, hk6, g6⟩
   have xa6 := xa.grown g6 (show w.heap.size ≠ g by omega)
   have xsb6 := xsb.grown g6 (show w.heap.size + 1 + 1 ≠ g by omega)
   have xr6 := xr.grown g6 (show w.heap.size + 1 + 1 + 1 ≠ g by omega)
   have gw := Bi (Bv b5 (some g)) g6
   have SG := Bet s t B B' m k m' k' us vs i j w6 (hk.arr hB gw) (hk.arr hB' gw)
   rw [hsg] at SG
   have SG := Be SG
   clear k0 k1 k2 k3 k4 k5 j0 j1 j2 j3 j4 j5 m0 hsg
   obtain ⟨j0, j1, j2, j3, j4, j5, -⟩ := xsb6.cell6
   go_wp2_with fail
   refine SG.out.mono ?_
   rintro r w7 ⟨rfl, hb7⟩
   have m7 := (xa6.later hb7).cell 0
   have hk7 := hk6.later hb7
   have xr7 := xr6.later hb7
   have gw7 := Bp gw hb7
   have FL := Be (Vu g P false w7 hk7)
   clear j0 j1 j2 j3 j4 j5
   go_wp2_with fail
   refine FL.out.mono ?_
   rintro r w8 ⟨rfl, hk8, g8⟩
   have xr8 := xr7.grown g8 (show w.heap.size + 1 + 1 + 1 ≠ g by omega)
   have gw8 := Bi gw7 g8
   (go_wp2_with (refine Bt rfl _ _ rfl rfl (w.heap.size + 1 + 1 + 1) false none 0 0 0 false none 0 0 0 xr8 rfl rfl (fun W1 y1 gW1 => ?_); have hk9 := (hk8).other gW1 (show g ≠ w.heap.size + 1 + 1 + 1 by omega); obtain ⟨u0, u1, u2, u3, u4, u5, -⟩ := y1.cell6); refine bodyPost_ret (v := .agg #[.bool false, .slice none 0 0, .int .i64 0, .bool false, .slice none 0 0, .int .i64 0]) ?_ rfl (Cl hk9 (Cd gw8 gW1 (by omega))); simp [results, Tryz.results27, go_sem, u0, u1, u2, u3, u4, u5])
  ·rw [if_pos ⟨rfl, hsg⟩]
   obtain ⟨⟨o1, o2, o3, o4⟩, q1, q2, q3, q4⟩ := HO.out rfl hsg
   go_enter Tryz.func27, Tryz.ntmps27
   go_wp2_with fail
   refine TK.out.mono ?_
   rintro r w6 ⟨rfl, hk6, g6⟩
   have xa6 := xa.grown g6 (show w.heap.size ≠ g by omega)
   have xsa6 := xsa.grown g6 (show w.heap.size + 1 ≠ g by omega)
   have xsb6 := xsb.grown g6 (show w.heap.size + 1 + 1 ≠ g by omega)
   have xr6 := xr.grown g6 (show w.heap.size + 1 + 1 + 1 ≠ g by omega)
   have gw := Bi (Bv b5 (some g)) g6
   have SG := Be (Bet s t B B' m k m' k' us vs i j w6 (hk.arr hB gw) (hk.arr hB' gw))
   have dsg : (Hc s t us vs i j == 0) = false := by simp [hsg]
   generalize Hc s t us vs i j = ss at *
   clear k0 k1 k2 k3 k4 k5 j0 j1 j2 j3 j4 j5 m0 hsg
   obtain ⟨j0, j1, j2, j3, j4, j5, -⟩ := xsb6.cell6
   go_wp2_with fail
   refine SG.out.mono ?_
   rintro r w7 ⟨rfl, hb7⟩
   have xa7 := xa6.later hb7
   have hk7 := hk6.later hb7
   have xr7 := xr6.later hb7
   have gw7 := Bp gw hb7
   have hA7 := hk.arr h gw7
   have hA7' := hk.arr h' gw7
   have hB7 := hk.arr hB gw7
   have hB7' := hk.arr hB' gw7
   have hT7 := hk.tz hT gw7
   have xsa7 := xsa6.later hb7
   have xsb7 := xsb6.later hb7
   have OF : ∀ w', Below w7.heap.size w7 w' → Calls Tryz.prog 63 #[.bool false, .pointer (some ⟨w.heap.size + 1, 0, none⟩), .pointer (some ⟨w.heap.size + 1 + 1, 0, none⟩), .pointer (some ⟨w.heap.size, 0, none⟩)] w' fun r w'' => ∃ h A1 n1 c1 A2 n2 c2 A3 n3 c3 A4 n4 c4, r = .returned (.slice (some ⟨h, 0, none⟩) 4 4) ∧ DVs w'' h [⟨D1.neg, A1, n1, c1, wd D1.m, D1.e⟩, ⟨D2.neg, A2, n2, c2, wd D2.m, D2.e⟩, ⟨D3.neg, A3, n3, c3, wd D3.m, D3.e⟩, ⟨D4.neg, A4, n4, c4, wd D4.m, D4.e⟩] ∧ Below w'.heap.size w' w'' ∧ Below w7.heap.size w7 w'' := by
    intro w' hb
    refine (Bes p q s t A A' B B' n c n' c' m k m' k' xs ys us vs e f i j P false _ _ _ g false D1 D2 D3 D4 w' (hA7.below hb) (hA7'.below hb) (hB7.below hb) (hB7'.below hb) (hT7.below hb) (hk7.later hb) _ _ _ (xa7.later hb) (xsa7.later hb) (xsb7.later hb) o1 o2 o3 o4).mono ?_
    rintro r w'' ⟨h, A1, n1, c1, A2, n2, c2, A3, n3, c3, A4, n4, c4, rfl, hd, hb2⟩
    exact ⟨h, A1, n1, c1, A2, n2, c2, A3, n3, c3, A4, n4, c4, rfl, hd, hb2, Bc hb hb2⟩
   have OT : ∀ w', Below w7.heap.size w7 w' → Calls Tryz.prog 63 #[.bool true, .pointer (some ⟨w.heap.size + 1, 0, none⟩), .pointer (some ⟨w.heap.size + 1 + 1, 0, none⟩), .pointer (some ⟨w.heap.size, 0, none⟩)] w' fun r w'' => ∃ h A1 n1 c1 A2 n2 c2 A3 n3 c3 A4 n4 c4, r = .returned (.slice (some ⟨h, 0, none⟩) 4 4) ∧ DVs w'' h [⟨E1.neg, A1, n1, c1, wd E1.m, E1.e⟩, ⟨E2.neg, A2, n2, c2, wd E2.m, E2.e⟩, ⟨E3.neg, A3, n3, c3, wd E3.m, E3.e⟩, ⟨E4.neg, A4, n4, c4, wd E4.m, E4.e⟩] ∧ Below w'.heap.size w' w'' ∧ Below w7.heap.size w7 w'' := by
    intro w' hb
    refine (Bes p q s t A A' B B' n c n' c' m k m' k' xs ys us vs e f i j P true _ _ _ g false E1 E2 E3 E4 w' (hA7.below hb) (hA7'.below hb) (hB7.below hb) (hB7'.below hb) (hT7.below hb) (hk7.later hb) _ _ _ (xa7.later hb) (xsa7.later hb) (xsb7.later hb) q1 q2 q3 q4).mono ?_
    rintro r w'' ⟨h, A1, n1, c1, A2, n2, c2, A3, n3, c3, A4, n4, c4, rfl, hd, hb2⟩
    exact ⟨h, A1, n1, c1, A2, n2, c2, A3, n3, c3, A4, n4, c4, rfl, hd, hb2, Bc hb hb2⟩
   have MN : ∀ h A1 n1 c1 A2 n2 c2 A3 n3 c3 A4 n4 c4 w', DVs w' h [⟨D1.neg, A1, n1, c1, wd D1.m, D1.e⟩, ⟨D2.neg, A2, n2, c2, wd D2.m, D2.e⟩, ⟨D3.neg, A3, n3, c3, wd D3.m, D3.e⟩, ⟨D4.neg, A4, n4, c4, wd D4.m, D4.e⟩] → Below w7.heap.size w7 w' → Calls Tryz.prog 46 #[.slice (some ⟨h, 0, none⟩) 4 4, .func (.func 47) #[] #[]] w' fun r w'' => ∃ A n c, r = .returned (.agg #[.bool (Cy false D1 D2 D3 D4).neg, .slice A n c, .int .i64 (Cy false D1 D2 D3 D4).e]) ∧ Arr w'' A n c (wd (Cy false D1 D2 D3 D4).m) ∧ Below w'.heap.size w' w'' ∧ Below w7.heap.size w7 w'' := by
    intro h A1 n1 c1 A2 n2 c2 A3 n3 c3 A4 n4 c4 w' hd hb
    refine (Tm w' hd).mono ?_
    rintro r w'' ⟨A, n, c, rfl, ha, hb2⟩
    exact ⟨A, n, c, rfl, ha, hb2, Bc hb hb2⟩
   have MX : ∀ h A1 n1 c1 A2 n2 c2 A3 n3 c3 A4 n4 c4 w', DVs w' h [⟨E1.neg, A1, n1, c1, wd E1.m, E1.e⟩, ⟨E2.neg, A2, n2, c2, wd E2.m, E2.e⟩, ⟨E3.neg, A3, n3, c3, wd E3.m, E3.e⟩, ⟨E4.neg, A4, n4, c4, wd E4.m, E4.e⟩] → Below w7.heap.size w7 w' → Calls Tryz.prog 48 #[.slice (some ⟨h, 0, none⟩) 4 4, .func (.func 47) #[] #[]] w' fun r w'' => ∃ A n c, r = .returned (.agg #[.bool (Cy true E1 E2 E3 E4).neg, .slice A n c, .int .i64 (Cy true E1 E2 E3 E4).e]) ∧ Arr w'' A n c (wd (Cy true E1 E2 E3 E4).m) ∧ Below w'.heap.size w' w'' ∧ Below w7.heap.size w7 w'' := by
    intro h A1 n1 c1 A2 n2 c2 A3 n3 c3 A4 n4 c4 w' hd hb
    refine (Tl w' hd).mono ?_
    rintro r w'' ⟨A, n, c, rfl, ha, hb2⟩
    exact ⟨A, n, c, rfl, ha, hb2, Bc hb hb2⟩
   generalize Cy false D1 D2 D3 D4 = L at *
   generalize Cy true E1 E2 E3 E4 = U at *
   obtain ⟨ln, lm, le⟩ := L
   obtain ⟨un, um, ue⟩ := U
   simp only at MN MX
   have GV : ∀ A n c A' n' c' w', Below w7.heap.size w7 w' → Calls Tryz.prog 34 #[.pointer (some ⟨g, 0, none⟩), .agg #[.bool ln, .slice A n c, .int .i64 le], .agg #[.bool un, .slice A' n' c', .int .i64 ue]] w' fun r w'' => r = .returned (.agg #[.bool ln, .slice A n c, .int .i64 le, .bool un, .slice A' n' c', .int .i64 ue]) ∧ Below w'.heap.size w' w'' ∧ Below w7.heap.size w7 w'' := by
    intro A n c A' n' c' w' hb
    refine (Rs g P ln un A A' n c n' c' le ue w' (hk7.later hb)).mono ?_
    rintro r w'' ⟨rfl, hb2⟩
    exact ⟨rfl, hb2, Bc hb hb2⟩
   have KC : ∀ w', Below w7.heap.size w7 w' → w'.cell? ⟨w.heap.size, 0, none⟩ = some (.pointer (some ⟨g, 0, none⟩)) := fun w' hb => (xa7.later hb).cell 0
   have m7 := KC w7 (Bb _)
   have KC2 : ∀ w', Below w7.heap.size w7 w' → ∀ p A n c e q A' n' c' f W2, W2 = Xu w' (w.heap.size + 1 + 1 + 1) p A n c e q A' n' c' f → W2.cell? ⟨w.heap.size, 0, none⟩ = some (.pointer (some ⟨g, 0, none⟩)) := by
    rintro w' hb p A n c e q A' n' c' f _ rfl
    exact ((xa7.later hb).grown (Gb _ _ _ _ _ _ _ _ _ _ _ _) (show w.heap.size ≠ w.heap.size + 1 + 1 + 1 by omega)).cell 0
   have XR := fun w' (hb : Below w7.heap.size w7 w') => (xr7.later hb).cell6
   have FIN := fun w' A n c A' n' c' (h1 : Arr w' A n c (wd lm)) (h2 : Arr w' A' n' c' (wd um)) (hb : Below w7.heap.size w7 w') => Ti (w := w) (L := ⟨ln, lm, le⟩) (U := ⟨un, um, ue⟩) (P := P) h1 h2 (xr7.later hb) (hk7.later hb) (Bp gw7 hb) (show g ≠ w.heap.size + 1 + 1 + 1 by omega) (by omega)
   have KC2 := Be KC2
   have XR := Be XR
   have FIN := Be FIN
   have OF := Be OF
   have OT := Be OT
   have MN := Be MN
   have MX := Be MX
   have GV := Be GV
   have KC := Be KC
   clear j0 j1 j2 j3 j4 j5 o1 o2 o3 o4 q1 q2 q3 q4 HO TK SG
   clear xa xsa xsb xr xa6 xsa6 xsb6 xr6 xa7 xsa7 xsb7 xr7 hA7 hA7' hB7 hB7' hT7 hk7 hk6 g6 gw gw7 hk5 h h' hB hB' hT hk hb7 b5
   go_wp2_with fail
   go_region_held3 (fun w' => w'.cell? ⟨w.heap.size, 0, none⟩ = some (.pointer (some ⟨g, 0, none⟩))) (first | (refine KC.out _ ?_; (repeat with_reducible (first | assumption | exact Bb _ | refine Bd ?_ _ | apply Below.drew | refine Ba ?_ _)); done) | (refine KC2.out _ ?_ _ _ _ _ _ _ _ _ _ _ _ rfl; (repeat with_reducible (first | assumption | exact Bb _ | refine Bd ?_ _ | apply Below.drew | refine Ba ?_ _)); done) | go_keep) (first | (go_at_call_of 63 (Value.bool false); refine (OF.out _ ?_).mono ?_; (repeat with_reducible (first | assumption | exact Bb _ | refine Bd ?_ _ | apply Below.drew | refine Ba ?_ _)); rintro r w8 ⟨h1, A1, n1, c1, A2, n2, c2, A3, n3, c3, A4, n4, c4, rfl, hd1, hc8, hb8⟩; (try have hd2 := DVs.later (DVs.later hd2 ((by repeat with_reducible (first | assumption | exact Bb _ | refine Bd ?_ _ | apply Below.drew | refine Ba ?_ _)))) hc8); (try have ha1 := Arr.below (Arr.below ha1 ((by repeat with_reducible (first | assumption | exact Bb _ | refine Bd ?_ _ | apply Below.drew | refine Ba ?_ _)))) hc8); (try have ha2 := Arr.below (Arr.below ha2 ((by repeat with_reducible (first | assumption | exact Bb _ | refine Bd ?_ _ | apply Below.drew | refine Ba ?_ _)))) hc8)) | (go_at_call_of 63 (Value.bool true); refine (OT.out _ ?_).mono ?_; (repeat with_reducible (first | assumption | exact Bb _ | refine Bd ?_ _ | apply Below.drew | refine Ba ?_ _)); rintro r w9 ⟨h2, B1, m1, k1, B2, m2, k2, B3, m3, k3, B4, m4, k4, rfl, hd2, hc9, hb9⟩; (try have hd1 := DVs.later (DVs.later hd1 ((by repeat with_reducible (first | assumption | exact Bb _ | refine Bd ?_ _ | apply Below.drew | refine Ba ?_ _)))) hc9); (try have ha1 := Arr.below (Arr.below ha1 ((by repeat with_reducible (first | assumption | exact Bb _ | refine Bd ?_ _ | apply Below.drew | refine Ba ?_ _)))) hc9); (try have ha2 := Arr.below (Arr.below ha2 ((by repeat with_reducible (first | assumption | exact Bb _ | refine Bd ?_ _ | apply Below.drew | refine Ba ?_ _)))) hc9)) | (go_at_call 46; refine (MN.out _ _ _ _ _ _ _ _ _ _ _ _ _ _ (DVs.later hd1 ((by repeat with_reducible (first | assumption | exact Bb _ | refine Bd ?_ _ | apply Below.drew | refine Ba ?_ _)))) ?_).mono ?_; (repeat with_reducible (first | assumption | exact Bb _ | refine Bd ?_ _ | apply Below.drew | refine Ba ?_ _)); rintro r w10 ⟨X1, x1, y1, rfl, ha1, hc10, hb10⟩; (try have hd2 := DVs.later (DVs.later hd2 ((by repeat with_reducible (first | assumption | exact Bb _ | refine Bd ?_ _ | apply Below.drew | refine Ba ?_ _)))) hc10); (try have ha2 := Arr.below (Arr.below ha2 ((by repeat with_reducible (first | assumption | exact Bb _ | refine Bd ?_ _ | apply Below.drew | refine Ba ?_ _)))) hc10)) | (go_at_call 48; refine (MX.out _ _ _ _ _ _ _ _ _ _ _ _ _ _ (DVs.later hd2 ((by repeat with_reducible (first | assumption | exact Bb _ | refine Bd ?_ _ | apply Below.drew | refine Ba ?_ _)))) ?_).mono ?_; (repeat with_reducible (first | assumption | exact Bb _ | refine Bd ?_ _ | apply Below.drew | refine Ba ?_ _)); rintro r w11 ⟨X2, x2, y2, rfl, ha2, hc11, hb11⟩; (try have hd1 := DVs.later (DVs.later hd1 ((by repeat with_reducible (first | assumption | exact Bb _ | refine Bd ?_ _ | apply Below.drew | refine Ba ?_ _)))) hc11); (try have ha1 := Arr.below (Arr.below ha1 ((by repeat with_reducible (first | assumption | exact Bb _ | refine Bd ?_ _ | apply Below.drew | refine Ba ?_ _)))) hc11)) | (go_at_call 34; refine (GV.out _ _ _ _ _ _ _ ?_).mono ?_; (repeat with_reducible (first | assumption | exact Bb _ | refine Bd ?_ _ | apply Below.drew | refine Ba ?_ _)); rintro r w12 ⟨rfl, hc12, hb12⟩; (try have ha1 := Arr.below (Arr.below ha1 ((by repeat with_reducible (first | assumption | exact Bb _ | refine Bd ?_ _ | apply Below.drew | refine Ba ?_ _)))) hc12); (try have ha2 := Arr.below (Arr.below ha2 ((by repeat with_reducible (first | assumption | exact Bb _ | refine Bd ?_ _ | apply Below.drew | refine Ba ?_ _)))) hc12); obtain ⟨u0, u1, u2, u3, u4, u5, u6, u7, u8, u9, u10, u11⟩ := XR.out _ hb12))
   all_goals
    go_wp2_with fail
    refine bodyPost_ret (v := .agg #[.bool ln, .slice X1 x1 y1, .int .i64 le, .bool un, .slice X2 x2 y2, .int .i64 ue]) ?_ rfl (FIN.out _ _ _ _ _ _ _ ha1 ha2 hb12)
    simp [results, Tryz.results27, go_sem, u0, u1, u2, u3, u4, u5]
 ·rw [if_neg (fun hh => by simp at hh)]
  go_enter Tryz.func27, Tryz.ntmps27
  go_wp2_with fail
  refine TK.out.mono ?_
  rintro r w6 ⟨rfl, hk6, g6⟩
  have m6 := (xa.grown g6 (show w.heap.size ≠ g by omega)).cell 0
  have xr6 := xr.grown g6 (show w.heap.size + 1 + 1 + 1 ≠ g by omega)
  have gw := Bi (Bv b5 (some g)) g6
  have FL := Be (Vu g P true w6 hk6)
  clear k0 k1 k2 k3 k4 k5 j0 j1 j2 j3 j4 j5 m0
  go_wp2_with fail
  refine FL.out.mono ?_
  rintro r w8 ⟨rfl, hk8, g8⟩
  have xr8 := xr6.grown g8 (show w.heap.size + 1 + 1 + 1 ≠ g by omega)
  have gw8 := Bi gw g8
  (go_wp2_with (refine Bt rfl _ _ rfl rfl (w.heap.size + 1 + 1 + 1) false none 0 0 0 false none 0 0 0 xr8 rfl rfl (fun W1 y1 gW1 => ?_); have hk9 := (hk8).other gW1 (show g ≠ w.heap.size + 1 + 1 + 1 by omega); obtain ⟨u0, u1, u2, u3, u4, u5, -⟩ := y1.cell6); refine bodyPost_ret (v := .agg #[.bool false, .slice none 0 0, .int .i64 0, .bool false, .slice none 0 0, .int .i64 0]) ?_ rfl (Cl hk9 (Cd gw8 gW1 (by omega))); simp [results, Tryz.results27, go_sem, u0, u1, u2, u3, u4, u5])
end Go.Proofs.YteffemhapnbaeaaGreatDoor
