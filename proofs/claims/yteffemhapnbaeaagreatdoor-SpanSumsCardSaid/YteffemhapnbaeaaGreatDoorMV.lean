/- A text of ours, with only what the claim's row needs (wip/tools/shake.py). -/
import Derived.Deep.RegionHeld3
import Derived.Test.YteffemhapnbaeaaGreatDoorMU
import Derived.Test.YteffemhapnbaeaaGreatDoorMO
namespace Go.Proofs.YteffemhapnbaeaaGreatDoor
open Go.RowKit Num
set_option linter.unusedSimpArgs false
set_option linter.unusedVariables false
set_option maxRecDepth 100000

theorem sporder (p q : Bool) (A A' : Option Addr) (n c n' c' : Nat) (xs ys : List Int) (e f : Int) (w : World) (h : Arr w A n c xs) (h' : Arr w A' n' c' ys) :
    Calls Tryz.prog 47 #[.agg #[.bool p, .slice A n c, .int .i64 e], .agg #[.bool q, .slice A' n' c', .int .i64 f]] w fun r w' => r = .returned (.int .i64 (endsI p q xs ys e f)) ∧ Below w.heap.size w w' := by
  have b0 : Below w.heap.size w ((w.alloc (.cells #[.bool p, .slice A n c, .int .i64 e] 26)).alloc (.cells #[.bool q, .slice A' n' c', .int .i64 f] 26)) := below_alloc (below_alloc (below_self w) _) _
  have xa := (box_new w #[.bool p, .slice A n c, .int .i64 e] 26).later (below_alloc (below_self _) (.cells #[.bool q, .slice A' n' c', .int .i64 f] 26))
  have xb := box_new (w.alloc (.cells #[.bool p, .slice A n c, .int .i64 e] 26)) #[.bool q, .slice A' n' c', .int .i64 f] 26
  rw [show (w.alloc (.cells #[.bool p, .slice A n c, .int .i64 e] 26)).heap.size = w.heap.size + 1 by simp] at xb
  obtain ⟨k0, k1, k2, f0, f1, f2⟩ := xa.cell3
  obtain ⟨j0, j1, j2, g0, g1, g2⟩ := xb.cell3
  have C := dcmp p q A A' n c n' c' xs ys e f _ (h.below b0) (h'.below b0)
  rw [cmpR_is] at C
  generalize endsI p q xs ys e f = cc at *
  generalize bothB p q xs ys e f = bb at *
  have C := Lib.hid C
  go_enter Tryz.func47, Tryz.ntmps47
  go_wp2_with fail
  refine C.out.mono ?_
  rintro r w2 ⟨rfl, hb2⟩
  go_wp2_with fail
  go_ret
  exact ⟨rfl, below_on b0 hb2⟩
def cDV (a b : DV) : Int := endsI a.neg b.neg a.xs b.xs a.e b.e
def stepD (most : Bool) (b d : DV) : DV := if (if most then decide (0 < cDV d b) else decide (cDV d b < 0)) then d else b
def bestD (most : Bool) : List DV → DV
  | [] => ⟨false, none, 0, 0, [], 0⟩
  | d :: r => r.foldl (stepD most) d
theorem best_first (most : Bool) {l : List DV} {d : DV} (h : l[0]? = some d) : bestD most (l.take 1) = d := by
  cases l with
  | nil => cases h
  | cons a r => simp at h; subst h; rfl
theorem best_next (most : Bool) {l : List DV} {i : Nat} (h : i < l.length) (h1 : 1 ≤ i) : bestD most (l.take (i + 1)) = stepD most (bestD most (l.take i)) (l[i]) := by
  obtain ⟨k, rfl⟩ : ∃ k, i = k + 1 := ⟨i - 1, by omega⟩
  cases l with
  | nil => simp at h
  | cons a r =>
    have hk : k < r.length := by simpa using h
    simp only [List.take_succ_cons, bestD, List.getElem_cons_succ]
    rw [List.take_add_one, List.getElem?_eq_getElem hk, List.foldl_append]
    rfl
set_option maxHeartbeats 4000000 in
theorem spmin (h m cap : Nat) (l : List DV) (hm : l.length = m) (w : World) (hs : DVs w h l) (hpos : 0 < l.length) (hl : m ≤ 1000000) :
    Calls Tryz.prog 46 #[.slice (some ⟨h, 0, none⟩) m cap, .func (.func 47) #[] #[]] w fun r w' => r = .returned (.agg #[.bool (bestD false l).neg, .slice (bestD false l).A (bestD false l).n (bestD false l).c, .int .i64 (bestD false l).e]) ∧ Arr w (bestD false l).A (bestD false l).n (bestD false l).c (bestD false l).xs ∧ Below w.heap.size w w' := by
  (subst hm; obtain ⟨d0, hd0⟩ : ∃ d0, l[0]? = some d0 := ⟨l[0], List.getElem?_eq_getElem hpos⟩; have hfirst : bestD false (l.take 1) = d0 := best_first false hd0; have hz := hd0; obtain ⟨p0, A0, n0, c0, xs0, e0⟩ := d0; have hl0 : l[0] = ⟨p0, A0, n0, c0, xs0, e0⟩ := (by have := List.getElem?_eq_getElem hpos; rw [this] at hz; exact Option.some.inj hz); have y0 := hs.c0 0 hpos; have y1 := hs.c1 0 hpos; have y2 := hs.c2 0 hpos; rw [hl0] at y0 y1 y2; simp only [Nat.zero_mul, Nat.zero_add] at y0 y1 y2; have z0 := (below_alloc (below_self w) (.cells #[.bool false, .slice none 0 0, .int .i64 0] 26)).cell (p := ⟨h, 0, none⟩) hs.lt; have z1 := (below_alloc (below_self w) (.cells #[.bool false, .slice none 0 0, .int .i64 0] 26)).cell (p := ⟨h, 1, none⟩) hs.lt; have z2 := (below_alloc (below_self w) (.cells #[.bool false, .slice none 0 0, .int .i64 0] 26)).cell (p := ⟨h, 2, none⟩) hs.lt; rw [y0] at z0; rw [y1] at z1; rw [y2] at z2; have d1 : decide ((l.length : Int) < 1) = false := decide_eq_false (by omega); have hlast : bestD false (l.take l.length) = bestD false l := (by rw [List.take_length]); have HL := Lib.hid hlast; have HF := Lib.hid hfirst; have hnext : ∀ i (h : i < l.length), 1 ≤ i → bestD false (l.take (i + 1)) = stepD false (bestD false (l.take i)) (l[i]) := fun i h h1 => best_next false h h1; have HN := Lib.hid hnext; have hok : ∀ i (h : i < l.length), Arr w (l[i]).A (l[i]).n (l[i]).c (l[i]).xs := fun i h => hs.ok i h; have xr := box_new w #[.bool false, .slice none 0 0, .int .i64 0] 26; have xb := box_new (w.alloc (.cells #[.bool false, .slice none 0 0, .int .i64 0] 26)) #[.bool p0, .slice A0 n0 c0, .int .i64 e0] 26; rw [show (w.alloc (.cells #[.bool false, .slice none 0 0, .int .i64 0] 26)).heap.size = w.heap.size + 1 by simp] at xb; have xr := xr.later (below_alloc (below_self _) (.cells #[.bool p0, .slice A0 n0 c0, .int .i64 e0] 26)); have b0 : Below w.heap.size w ((w.alloc (.cells #[.bool false, .slice none 0 0, .int .i64 0] 26)).alloc (.cells #[.bool p0, .slice A0 n0 c0, .int .i64 e0] 26)) := below_alloc (below_alloc (below_self w) _) _; have hbest0 : Arr w A0 n0 c0 xs0 := (by have := hok 0 hpos; rw [hl0] at this; exact this); generalize hbd : bestD false l = R at *; clear hlast hfirst hnext hd0 hz hl0 y0 y1 y2 hbd; go_enter Tryz.func46, Tryz.ntmps46; go_wp2_with fail; go_loopw [6] (fun v wr => ∃ (i : Nat) (b : DV), 1 ≤ i ∧ i ≤ l.length ∧ v = .int .i64 i ∧ Hid (bestD false (l.take i) = b) ∧ Arr w b.A b.n b.c b.xs ∧ Box wr (w.heap.size + 1) #[.bool b.neg, .slice b.A b.n b.c, .int .i64 b.e] 26 ∧ Box wr w.heap.size #[.bool false, .slice none 0 0, .int .i64 0] 26 ∧ Below w.heap.size w wr) (fun v _ => l.length - (intOf v).toNat); (case atStart => exact ⟨1, _, Nat.le_refl _, hpos, rfl, HF.out, hbest0, xb, xr, b0⟩); (case round => obtain ⟨i, b, h1i, hi, rfl, hB, hbA, xbr, xrr, hW⟩ := hrel; obtain ⟨q, A', n', c', ys, f⟩ := b; simp only at hbA xbr; by_cases h0 : i < l.length; (focus (have k0 := (hW.cell (p := ⟨h, i * 3, none⟩) hs.lt).trans (hs.c0 i h0); have k1 := (hW.cell (p := ⟨h, i * 3 + 1, none⟩) hs.lt).trans (hs.c1 i h0); have k2 := (hW.cell (p := ⟨h, i * 3 + 2, none⟩) hs.lt).trans (hs.c2 i h0); have ha := hok i h0; have hn1 := HN.out i h0 h1i; rw [hB.out] at hn1; generalize hx : l[i] = x at *; obtain ⟨p, A, n, c, xs, e⟩ := x; simp only at k0 k1 k2 ha; obtain ⟨j0, j1, j2, g0, g1, g2⟩ := xbr.cell3; have hKS : ∀ w', Below wr.heap.size wr w' → ((w'.cell? ⟨h, i * 3, none⟩ = some (.bool p) ∧ w'.cell? ⟨h, i * 3 + 1, none⟩ = some (.slice A n c) ∧ w'.cell? ⟨h, i * 3 + 2, none⟩ = some (.int .i64 e)) ∧ (w'.cell? ⟨w.heap.size + 1, 0, none⟩ = some (.bool q) ∧ w'.cell? ⟨w.heap.size + 1, 1, none⟩ = some (.slice A' n' c') ∧ w'.cell? ⟨w.heap.size + 1, 2, none⟩ = some (.int .i64 f))) := fun w' hb => ⟨⟨(hb.cell (p := ⟨h, i * 3, none⟩) (Nat.lt_of_lt_of_le hs.lt hW.size)).trans k0, (hb.cell (p := ⟨h, i * 3 + 1, none⟩) (Nat.lt_of_lt_of_le hs.lt hW.size)).trans k1, (hb.cell (p := ⟨h, i * 3 + 2, none⟩) (Nat.lt_of_lt_of_le hs.lt hW.size)).trans k2⟩, ⟨(xbr.later hb).cell 0, (xbr.later hb).cell 1, (xbr.later hb).cell 2⟩⟩; have KS := Lib.hid hKS; have hO : ∀ w', Below wr.heap.size wr w' → Calls Tryz.prog 47 #[.agg #[.bool p, .slice A n c, .int .i64 e], .agg #[.bool q, .slice A' n' c', .int .i64 f]] w' fun r w'' => r = .returned (.int .i64 (endsI p q xs ys e f)) ∧ Below wr.heap.size wr w'' := (fun w' hb => (sporder p q A A' n c n' c' xs ys e f w' ((ha.below hW).below hb) ((hbA.below hW).below hb)).mono (by rintro r w'' ⟨rfl, h2⟩; exact ⟨rfl, below_on hb h2⟩)); have hst : stepD false ⟨q, A', n', c', ys, f⟩ ⟨p, A, n, c, xs, e⟩ = if decide (endsI p q xs ys e f < 0) then ⟨p, A, n, c, xs, e⟩ else ⟨q, A', n', c', ys, f⟩ := rfl; rw [hst] at hn1; generalize endsI p q xs ys e f = cc at *; have O := Lib.hid hO; have HN1 := Lib.hid hn1; have l1 : (i : Int) < l.length := (by omega); have d3 : decide ((i : Int) < l.length) = true := decide_eq_true l1; clear hKS hO hst hn1 hx; by_cases hc : cc < 0; (focus (have dc1 : decide (cc < 0) = true := decide_eq_true hc; have hn2 := HN1.out; rw [if_pos dc1] at hn2; have HN2 := Lib.hid hn2; clear hn2 hc; go_wp2_with fail; go_region_held3 (fun w' => ((w'.cell? ⟨h, i * 3, none⟩ = some (.bool p) ∧ w'.cell? ⟨h, i * 3 + 1, none⟩ = some (.slice A n c) ∧ w'.cell? ⟨h, i * 3 + 2, none⟩ = some (.int .i64 e)) ∧ (w'.cell? ⟨w.heap.size + 1, 0, none⟩ = some (.bool q) ∧ w'.cell? ⟨w.heap.size + 1, 1, none⟩ = some (.slice A' n' c') ∧ w'.cell? ⟨w.heap.size + 1, 2, none⟩ = some (.int .i64 f)))) (first | exact KS.out _ ((by repeat (first | with_reducible assumption | with_reducible exact below_self _ | with_reducible refine below_drewN ?_ _ | with_reducible apply Below.drew | with_reducible refine below_alloc ?_ _)))) (first | (go_at_call 47; refine (O.out _ ?_).mono ?_; (repeat (first | with_reducible assumption | with_reducible exact below_self _ | with_reducible refine below_drewN ?_ _ | with_reducible apply Below.drew | with_reducible refine below_alloc ?_ _)); rintro r w5 ⟨rfl, hb5⟩)); have xb5 := xbr.later hb5; have xr5 := xrr.later hb5; have hW5 := below_on hW hb5; obtain ⟨⟨k0', k1', k2'⟩, -⟩ := KS.out _ hb5; clear k0 k1 k2 j0 j1 j2 g0 g1 g2; go_wp2_with (refine wp_put3 rfl _ _ rfl rfl (w.heap.size + 1) p A n c e xb5 rfl rfl (fun W1 v1 gW1 => ?_); have xr6 := xr5.grown gW1 (show w.heap.size ≠ w.heap.size + 1 by omega); have hW6 := below_grownBy hW5 gW1 (by omega)); exact ⟨⟨i + 1, ⟨p, A, n, c, xs, e⟩, by omega, by omega, by go_num, HN2.out, ha, v1, xr6, hW6⟩, by simp only [intOf]; omega⟩)); (focus (have dc1 : decide (cc < 0) = false := decide_eq_false hc; have hn2 := HN1.out; rw [if_neg (by rw [dc1]; decide)] at hn2; have HN2 := Lib.hid hn2; clear hn2 hc; go_wp2_with fail; go_region_held3 (fun w' => ((w'.cell? ⟨h, i * 3, none⟩ = some (.bool p) ∧ w'.cell? ⟨h, i * 3 + 1, none⟩ = some (.slice A n c) ∧ w'.cell? ⟨h, i * 3 + 2, none⟩ = some (.int .i64 e)) ∧ (w'.cell? ⟨w.heap.size + 1, 0, none⟩ = some (.bool q) ∧ w'.cell? ⟨w.heap.size + 1, 1, none⟩ = some (.slice A' n' c') ∧ w'.cell? ⟨w.heap.size + 1, 2, none⟩ = some (.int .i64 f)))) (first | exact KS.out _ ((by repeat (first | with_reducible assumption | with_reducible exact below_self _ | with_reducible refine below_drewN ?_ _ | with_reducible apply Below.drew | with_reducible refine below_alloc ?_ _)))) (first | (go_at_call 47; refine (O.out _ ?_).mono ?_; (repeat (first | with_reducible assumption | with_reducible exact below_self _ | with_reducible refine below_drewN ?_ _ | with_reducible apply Below.drew | with_reducible refine below_alloc ?_ _)); rintro r w5 ⟨rfl, hb5⟩)); have xb5 := xbr.later hb5; have xr5 := xrr.later hb5; have hW5 := below_on hW hb5; clear k0 k1 k2 j0 j1 j2 g0 g1 g2; go_wp2_with fail; exact ⟨⟨i + 1, ⟨q, A', n', c', ys, f⟩, by omega, by omega, by go_num, HN2.out, hbA, xb5, xr5, hW5⟩, by simp only [intOf]; omega⟩)))); (obtain rfl : i = l.length := (by omega); have hR := hB.out; rw [HL.out] at hR; subst hR; obtain ⟨j0, j1, j2, g0, g1, g2⟩ := xbr.cell3; go_wp2_with (refine wp_put3 rfl _ _ rfl rfl w.heap.size q A' n' c' f xrr rfl rfl (fun W1 v1 gW1 => ?_); have hW6 := below_grownBy hW gW1 (Nat.le_refl _); obtain ⟨u0, u1, u2, -⟩ := v1.cell3); refine bodyPost_ret (v := .agg #[.bool q, .slice A' n' c', .int .i64 f]) ?_ rfl (by first | exact ⟨rfl, hbA, hW6⟩ | exact ⟨rfl, hW6⟩); simp [results, Tryz.results46, go_sem, u0, u1, u2])))
set_option maxHeartbeats 4000000 in
theorem spmax (h m cap : Nat) (l : List DV) (hm : l.length = m) (w : World) (hs : DVs w h l) (hpos : 0 < l.length) (hl : m ≤ 1000000) :
    Calls Tryz.prog 48 #[.slice (some ⟨h, 0, none⟩) m cap, .func (.func 47) #[] #[]] w fun r w' => r = .returned (.agg #[.bool (bestD true l).neg, .slice (bestD true l).A (bestD true l).n (bestD true l).c, .int .i64 (bestD true l).e]) ∧ Arr w (bestD true l).A (bestD true l).n (bestD true l).c (bestD true l).xs ∧ Below w.heap.size w w' := by
  (subst hm; obtain ⟨d0, hd0⟩ : ∃ d0, l[0]? = some d0 := ⟨l[0], List.getElem?_eq_getElem hpos⟩; have hfirst : bestD true (l.take 1) = d0 := best_first true hd0; have hz := hd0; obtain ⟨p0, A0, n0, c0, xs0, e0⟩ := d0; have hl0 : l[0] = ⟨p0, A0, n0, c0, xs0, e0⟩ := (by have := List.getElem?_eq_getElem hpos; rw [this] at hz; exact Option.some.inj hz); have y0 := hs.c0 0 hpos; have y1 := hs.c1 0 hpos; have y2 := hs.c2 0 hpos; rw [hl0] at y0 y1 y2; simp only [Nat.zero_mul, Nat.zero_add] at y0 y1 y2; have z0 := (below_alloc (below_self w) (.cells #[.bool false, .slice none 0 0, .int .i64 0] 26)).cell (p := ⟨h, 0, none⟩) hs.lt; have z1 := (below_alloc (below_self w) (.cells #[.bool false, .slice none 0 0, .int .i64 0] 26)).cell (p := ⟨h, 1, none⟩) hs.lt; have z2 := (below_alloc (below_self w) (.cells #[.bool false, .slice none 0 0, .int .i64 0] 26)).cell (p := ⟨h, 2, none⟩) hs.lt; rw [y0] at z0; rw [y1] at z1; rw [y2] at z2; have d1 : decide ((l.length : Int) < 1) = false := decide_eq_false (by omega); have hlast : bestD true (l.take l.length) = bestD true l := (by rw [List.take_length]); have HL := Lib.hid hlast; have HF := Lib.hid hfirst; have hnext : ∀ i (h : i < l.length), 1 ≤ i → bestD true (l.take (i + 1)) = stepD true (bestD true (l.take i)) (l[i]) := fun i h h1 => best_next true h h1; have HN := Lib.hid hnext; have hok : ∀ i (h : i < l.length), Arr w (l[i]).A (l[i]).n (l[i]).c (l[i]).xs := fun i h => hs.ok i h; have xr := box_new w #[.bool false, .slice none 0 0, .int .i64 0] 26; have xb := box_new (w.alloc (.cells #[.bool false, .slice none 0 0, .int .i64 0] 26)) #[.bool p0, .slice A0 n0 c0, .int .i64 e0] 26; rw [show (w.alloc (.cells #[.bool false, .slice none 0 0, .int .i64 0] 26)).heap.size = w.heap.size + 1 by simp] at xb; have xr := xr.later (below_alloc (below_self _) (.cells #[.bool p0, .slice A0 n0 c0, .int .i64 e0] 26)); have b0 : Below w.heap.size w ((w.alloc (.cells #[.bool false, .slice none 0 0, .int .i64 0] 26)).alloc (.cells #[.bool p0, .slice A0 n0 c0, .int .i64 e0] 26)) := below_alloc (below_alloc (below_self w) _) _; have hbest0 : Arr w A0 n0 c0 xs0 := (by have := hok 0 hpos; rw [hl0] at this; exact this); generalize hbd : bestD true l = R at *; clear hlast hfirst hnext hd0 hz hl0 y0 y1 y2 hbd; go_enter Tryz.func48, Tryz.ntmps48; go_wp2_with fail; go_loopw [6] (fun v wr => ∃ (i : Nat) (b : DV), 1 ≤ i ∧ i ≤ l.length ∧ v = .int .i64 i ∧ Hid (bestD true (l.take i) = b) ∧ Arr w b.A b.n b.c b.xs ∧ Box wr (w.heap.size + 1) #[.bool b.neg, .slice b.A b.n b.c, .int .i64 b.e] 26 ∧ Box wr w.heap.size #[.bool false, .slice none 0 0, .int .i64 0] 26 ∧ Below w.heap.size w wr) (fun v _ => l.length - (intOf v).toNat); (case atStart => exact ⟨1, _, Nat.le_refl _, hpos, rfl, HF.out, hbest0, xb, xr, b0⟩); (case round => obtain ⟨i, b, h1i, hi, rfl, hB, hbA, xbr, xrr, hW⟩ := hrel; obtain ⟨q, A', n', c', ys, f⟩ := b; simp only at hbA xbr; by_cases h0 : i < l.length; (focus (have k0 := (hW.cell (p := ⟨h, i * 3, none⟩) hs.lt).trans (hs.c0 i h0); have k1 := (hW.cell (p := ⟨h, i * 3 + 1, none⟩) hs.lt).trans (hs.c1 i h0); have k2 := (hW.cell (p := ⟨h, i * 3 + 2, none⟩) hs.lt).trans (hs.c2 i h0); have ha := hok i h0; have hn1 := HN.out i h0 h1i; rw [hB.out] at hn1; generalize hx : l[i] = x at *; obtain ⟨p, A, n, c, xs, e⟩ := x; simp only at k0 k1 k2 ha; obtain ⟨j0, j1, j2, g0, g1, g2⟩ := xbr.cell3; have hKS : ∀ w', Below wr.heap.size wr w' → ((w'.cell? ⟨h, i * 3, none⟩ = some (.bool p) ∧ w'.cell? ⟨h, i * 3 + 1, none⟩ = some (.slice A n c) ∧ w'.cell? ⟨h, i * 3 + 2, none⟩ = some (.int .i64 e)) ∧ (w'.cell? ⟨w.heap.size + 1, 0, none⟩ = some (.bool q) ∧ w'.cell? ⟨w.heap.size + 1, 1, none⟩ = some (.slice A' n' c') ∧ w'.cell? ⟨w.heap.size + 1, 2, none⟩ = some (.int .i64 f))) := fun w' hb => ⟨⟨(hb.cell (p := ⟨h, i * 3, none⟩) (Nat.lt_of_lt_of_le hs.lt hW.size)).trans k0, (hb.cell (p := ⟨h, i * 3 + 1, none⟩) (Nat.lt_of_lt_of_le hs.lt hW.size)).trans k1, (hb.cell (p := ⟨h, i * 3 + 2, none⟩) (Nat.lt_of_lt_of_le hs.lt hW.size)).trans k2⟩, ⟨(xbr.later hb).cell 0, (xbr.later hb).cell 1, (xbr.later hb).cell 2⟩⟩; have KS := Lib.hid hKS; have hO : ∀ w', Below wr.heap.size wr w' → Calls Tryz.prog 47 #[.agg #[.bool p, .slice A n c, .int .i64 e], .agg #[.bool q, .slice A' n' c', .int .i64 f]] w' fun r w'' => r = .returned (.int .i64 (endsI p q xs ys e f)) ∧ Below wr.heap.size wr w'' := (fun w' hb => (sporder p q A A' n c n' c' xs ys e f w' ((ha.below hW).below hb) ((hbA.below hW).below hb)).mono (by rintro r w'' ⟨rfl, h2⟩; exact ⟨rfl, below_on hb h2⟩)); have hst : stepD true ⟨q, A', n', c', ys, f⟩ ⟨p, A, n, c, xs, e⟩ = if decide (0 < endsI p q xs ys e f) then ⟨p, A, n, c, xs, e⟩ else ⟨q, A', n', c', ys, f⟩ := rfl; rw [hst] at hn1; generalize endsI p q xs ys e f = cc at *; have O := Lib.hid hO; have HN1 := Lib.hid hn1; have l1 : (i : Int) < l.length := (by omega); have d3 : decide ((i : Int) < l.length) = true := decide_eq_true l1; clear hKS hO hst hn1 hx; by_cases hc : 0 < cc; (focus (have dc1 : decide (0 < cc) = true := decide_eq_true hc; have hn2 := HN1.out; rw [if_pos dc1] at hn2; have HN2 := Lib.hid hn2; clear hn2 hc; go_wp2_with fail; go_region_held3 (fun w' => ((w'.cell? ⟨h, i * 3, none⟩ = some (.bool p) ∧ w'.cell? ⟨h, i * 3 + 1, none⟩ = some (.slice A n c) ∧ w'.cell? ⟨h, i * 3 + 2, none⟩ = some (.int .i64 e)) ∧ (w'.cell? ⟨w.heap.size + 1, 0, none⟩ = some (.bool q) ∧ w'.cell? ⟨w.heap.size + 1, 1, none⟩ = some (.slice A' n' c') ∧ w'.cell? ⟨w.heap.size + 1, 2, none⟩ = some (.int .i64 f)))) (first | exact KS.out _ ((by repeat (first | with_reducible assumption | with_reducible exact below_self _ | with_reducible refine below_drewN ?_ _ | with_reducible apply Below.drew | with_reducible refine below_alloc ?_ _)))) (first | (go_at_call 47; refine (O.out _ ?_).mono ?_; (repeat (first | with_reducible assumption | with_reducible exact below_self _ | with_reducible refine below_drewN ?_ _ | with_reducible apply Below.drew | with_reducible refine below_alloc ?_ _)); rintro r w5 ⟨rfl, hb5⟩)); have xb5 := xbr.later hb5; have xr5 := xrr.later hb5; have hW5 := below_on hW hb5; obtain ⟨⟨k0', k1', k2'⟩, -⟩ := KS.out _ hb5; clear k0 k1 k2 j0 j1 j2 g0 g1 g2; go_wp2_with (refine wp_put3 rfl _ _ rfl rfl (w.heap.size + 1) p A n c e xb5 rfl rfl (fun W1 v1 gW1 => ?_); have xr6 := xr5.grown gW1 (show w.heap.size ≠ w.heap.size + 1 by omega); have hW6 := below_grownBy hW5 gW1 (by omega)); exact ⟨⟨i + 1, ⟨p, A, n, c, xs, e⟩, by omega, by omega, by go_num, HN2.out, ha, v1, xr6, hW6⟩, by simp only [intOf]; omega⟩)); (focus (have dc1 : decide (0 < cc) = false := decide_eq_false hc; have hn2 := HN1.out; rw [if_neg (by rw [dc1]; decide)] at hn2; have HN2 := Lib.hid hn2; clear hn2 hc; go_wp2_with fail; go_region_held3 (fun w' => ((w'.cell? ⟨h, i * 3, none⟩ = some (.bool p) ∧ w'.cell? ⟨h, i * 3 + 1, none⟩ = some (.slice A n c) ∧ w'.cell? ⟨h, i * 3 + 2, none⟩ = some (.int .i64 e)) ∧ (w'.cell? ⟨w.heap.size + 1, 0, none⟩ = some (.bool q) ∧ w'.cell? ⟨w.heap.size + 1, 1, none⟩ = some (.slice A' n' c') ∧ w'.cell? ⟨w.heap.size + 1, 2, none⟩ = some (.int .i64 f)))) (first | exact KS.out _ ((by repeat (first | with_reducible assumption | with_reducible exact below_self _ | with_reducible refine below_drewN ?_ _ | with_reducible apply Below.drew | with_reducible refine below_alloc ?_ _)))) (first | (go_at_call 47; refine (O.out _ ?_).mono ?_; (repeat (first | with_reducible assumption | with_reducible exact below_self _ | with_reducible refine below_drewN ?_ _ | with_reducible apply Below.drew | with_reducible refine below_alloc ?_ _)); rintro r w5 ⟨rfl, hb5⟩)); have xb5 := xbr.later hb5; have xr5 := xrr.later hb5; have hW5 := below_on hW hb5; clear k0 k1 k2 j0 j1 j2 g0 g1 g2; go_wp2_with fail; exact ⟨⟨i + 1, ⟨q, A', n', c', ys, f⟩, by omega, by omega, by go_num, HN2.out, hbA, xb5, xr5, hW5⟩, by simp only [intOf]; omega⟩)))); (obtain rfl : i = l.length := (by omega); have hR := hB.out; rw [HL.out] at hR; subst hR; obtain ⟨j0, j1, j2, g0, g1, g2⟩ := xbr.cell3; go_wp2_with (refine wp_put3 rfl _ _ rfl rfl w.heap.size q A' n' c' f xrr rfl rfl (fun W1 v1 gW1 => ?_); have hW6 := below_grownBy hW gW1 (Nat.le_refl _); obtain ⟨u0, u1, u2, -⟩ := v1.cell3); refine bodyPost_ret (v := .agg #[.bool q, .slice A' n' c', .int .i64 f]) ?_ rfl (by first | exact ⟨rfl, hbA, hW6⟩ | exact ⟨rfl, hW6⟩); simp [results, Tryz.results48, go_sem, u0, u1, u2])))
end Go.Proofs.YteffemhapnbaeaaGreatDoor
namespace Go.Proofs.YteffemhapnbaeaaGreatDoor
open Go.RowKit Num
variable {tw : TypeId}
set_option linter.unusedSimpArgs false
set_option linter.unusedVariables false
set_option maxRecDepth 100000

/-- A number, in memory of one's own. -/
def RetA (d : Dy) (w : World) (r : Ending) (w' : World) : Prop := ∃ A n c, r = .returned (.agg #[.bool d.neg, .slice A n c, .int .i64 d.e]) ∧ Arr w' A n c (wd d.m) ∧ Below w.heap.size w w'
theorem retA_set {w w4 : World} {d : Dy} {A : Option Addr} {n c k : Nat} {t : TypeId} {p : Bool} {A' : Option Addr} {n' c' : Nat} {e : Int} (h : Arr w4 A n c (wd d.m)) (hb : Box w4 k #[.bool p, .slice A' n' c', .int .i64 e] t) (hw : Below w.heap.size w w4) (hk : w.heap.size ≤ k) :
    RetA d w (.returned (.agg #[.bool d.neg, .slice A n c, .int .i64 d.e])) (((w4.setCell ⟨k, 0, none⟩ (.bool d.neg)).setCell ⟨k, 1, none⟩ (.slice A n c)).setCell ⟨k, 2, none⟩ (.int .i64 d.e)) :=
  ⟨A, n, c, rfl, h.set3 hb _ _ _ (by simp) (by simp), below_set (below_set (below_set hw k 0 hk _) k 1 hk _) k 2 hk _⟩
set_option maxHeartbeats 4000000 in
theorem spover2 (p q : Bool) (A A' : Option Addr) (n c n' c' : Nat) (xs ys : List Int) (e f P : Int) (up : Bool) (a u g : Nat) (bad : Bool) (d : Dy) (w : World) (h : Arr w A n c xs) (h' : Arr w A' n' c' ys) (hT : Tz w)
    (hk : Wk w g P bad tw) (ta tu : TypeId) (ha : Box w a #[.pointer (some ⟨g, 0, none⟩)] ta) (hu : Box w u #[.bool up] tu) (hd : overD p q xs ys e f P up = some d) :
    Calls Tryz.prog 64 #[.agg #[.bool p, .slice A n c, .int .i64 e], .agg #[.bool q, .slice A' n' c', .int .i64 f], .pointer (some ⟨a, 0, none⟩), .pointer (some ⟨u, 0, none⟩)] w (RetA d w) := by
  have b1 := below_alloc (below_self w) (.cells #[.bool p, .slice A n c, .int .i64 e] 26)
  have b2 := below_alloc b1 (.cells #[.bool q, .slice A' n' c', .int .i64 f] 26)
  have b0 : Below w.heap.size w (((w.alloc (.cells #[.bool p, .slice A n c, .int .i64 e] 26)).alloc (.cells #[.bool q, .slice A' n' c', .int .i64 f] 26)).alloc (.cells #[.bool false, .slice none 0 0, .int .i64 0] 26)) := below_alloc b2 _
  have xa := (box_new w #[.bool p, .slice A n c, .int .i64 e] 26).later (below_alloc (below_alloc (below_self _) (.cells #[.bool q, .slice A' n' c', .int .i64 f] 26)) (.cells #[.bool false, .slice none 0 0, .int .i64 0] 26))
  have xb := (box_new (w.alloc (.cells #[.bool p, .slice A n c, .int .i64 e] 26)) #[.bool q, .slice A' n' c', .int .i64 f] 26).later (below_alloc (below_self _) (.cells #[.bool false, .slice none 0 0, .int .i64 0] 26))
  rw [show (w.alloc (.cells #[.bool p, .slice A n c, .int .i64 e] 26)).heap.size = w.heap.size + 1 by simp] at xb
  have xr := box_new ((w.alloc (.cells #[.bool p, .slice A n c, .int .i64 e] 26)).alloc (.cells #[.bool q, .slice A' n' c', .int .i64 f] 26)) #[.bool false, .slice none 0 0, .int .i64 0] 26
  rw [show ((w.alloc (.cells #[.bool p, .slice A n c, .int .i64 e] 26)).alloc (.cells #[.bool q, .slice A' n' c', .int .i64 f] 26)).heap.size = w.heap.size + 1 + 1 by simp] at xr
  have hk0 := hk.later b0
  have ha0 := ha.later b0
  have hu0 := hu.later b0
  have H := h.below b0
  have H' := h'.below b0
  have hT0 := hT.below b0
  generalize hW : (((w.alloc (.cells #[.bool p, .slice A n c, .int .i64 e] 26)).alloc (.cells #[.bool q, .slice A' n' c', .int .i64 f] 26)).alloc (.cells #[.bool false, .slice none 0 0, .int .i64 0] 26)) = W at *
  have KC : ∀ w', Below W.heap.size W w' → ((w'.cell? ⟨w.heap.size, 0, none⟩ = some (.bool p) ∧ w'.cell? ⟨w.heap.size, 1, none⟩ = some (.slice A n c) ∧ w'.cell? ⟨w.heap.size, 2, none⟩ = some (.int .i64 e)) ∧ (w'.cell? ⟨w.heap.size + 1, 0, none⟩ = some (.bool q) ∧ w'.cell? ⟨w.heap.size + 1, 1, none⟩ = some (.slice A' n' c') ∧ w'.cell? ⟨w.heap.size + 1, 2, none⟩ = some (.int .i64 f)) ∧ w'.cell? ⟨a, 0, none⟩ = some (.pointer (some ⟨g, 0, none⟩)) ∧ w'.cell? ⟨g, 0, none⟩ = some (.int .i64 P) ∧ w'.cell? ⟨u, 0, none⟩ = some (.bool up)) := fun w' hb => ⟨⟨(xa.later hb).cell 0, (xa.later hb).cell 1, (xa.later hb).cell 2⟩, ⟨(xb.later hb).cell 0, (xb.later hb).cell 1, (xb.later hb).cell 2⟩, (ha0.later hb).cell 0, (hk0.later hb).cells.1, (hu0.later hb).cell 0⟩
  have OV : ∀ w', Below W.heap.size W w' → Calls Tryz.prog 65 #[.agg #[.bool p, .slice A n c, .int .i64 e], .agg #[.bool q, .slice A' n' c', .int .i64 f], .int .i64 P, .bool up] w' fun r w'' => ∃ A5 n5 c5, r = .returned (.tuple #[.agg #[.bool d.neg, .slice A5 n5 c5, .int .i64 d.e], .bool true]) ∧ Arr w'' A5 n5 c5 (wd d.m) ∧ Below W.heap.size W w'' := by
    intro w' hb
    have D := dover p q A A' n c n' c' xs ys e f P up w' (H.below hb) (H'.below hb) (hT0.below hb)
    rw [hd] at D
    refine D.mono ?_
    rintro r w'' hr
    obtain ⟨A5, n5, c5, e5, h5, hb5⟩ := hr
    exact ⟨A5, n5, c5, e5, h5, below_on hb hb5⟩
  have MU : ∀ A5 n5 c5 w', Below W.heap.size W w' → Calls Tryz.prog 43 #[.pointer (some ⟨g, 0, none⟩), .agg #[.bool d.neg, .slice A5 n5 c5, .int .i64 d.e], .bool true] w' fun r w'' => r = .returned (.agg #[.bool d.neg, .slice A5 n5 c5, .int .i64 d.e]) ∧ Below w'.heap.size w' w'' ∧ Below W.heap.size W w'' := by
    intro A5 n5 c5 w' hb
    refine (must_ok g d.neg A5 n5 c5 d.e w').mono ?_
    rintro r w'' ⟨rfl, h2⟩
    exact ⟨rfl, h2, below_on hb h2⟩
  have RA := fun w' A5 n5 c5 (h5 : Arr w' A5 n5 c5 (wd d.m)) (hb : Below W.heap.size W w') => retA_set (w := w) (d := d) h5 (xr.later hb) (below_on b0 hb) (show w.heap.size ≤ w.heap.size + 1 + 1 by omega)
  have XR := fun w' (hb : Below W.heap.size W w') => (xr.later hb).cell3
  have la := ha.lt
  have lu := hu.lt
  have lg := hk.lt
  have KC2 : ∀ w', Below W.heap.size W w' → ∀ v0 v1 v2 W2, W2 = (((w'.setCell ⟨w.heap.size + 1 + 1, 0, none⟩ v0).setCell ⟨w.heap.size + 1 + 1, 1, none⟩ v1).setCell ⟨w.heap.size + 1 + 1, 2, none⟩ v2) → ((W2.cell? ⟨w.heap.size, 0, none⟩ = some (.bool p) ∧ W2.cell? ⟨w.heap.size, 1, none⟩ = some (.slice A n c) ∧ W2.cell? ⟨w.heap.size, 2, none⟩ = some (.int .i64 e)) ∧ (W2.cell? ⟨w.heap.size + 1, 0, none⟩ = some (.bool q) ∧ W2.cell? ⟨w.heap.size + 1, 1, none⟩ = some (.slice A' n' c') ∧ W2.cell? ⟨w.heap.size + 1, 2, none⟩ = some (.int .i64 f)) ∧ W2.cell? ⟨a, 0, none⟩ = some (.pointer (some ⟨g, 0, none⟩)) ∧ W2.cell? ⟨g, 0, none⟩ = some (.int .i64 P) ∧ W2.cell? ⟨u, 0, none⟩ = some (.bool up)) := by
    rintro w' hb v0 v1 v2 _ rfl
    have xa' := (((xa.later hb).apart (show w.heap.size ≠ w.heap.size + 1 + 1 by omega) 0 v0).apart (show w.heap.size ≠ w.heap.size + 1 + 1 by omega) 1 v1).apart (show w.heap.size ≠ w.heap.size + 1 + 1 by omega) 2 v2
    have xb' := (((xb.later hb).apart (show w.heap.size + 1 ≠ w.heap.size + 1 + 1 by omega) 0 v0).apart (show w.heap.size + 1 ≠ w.heap.size + 1 + 1 by omega) 1 v1).apart (show w.heap.size + 1 ≠ w.heap.size + 1 + 1 by omega) 2 v2
    have ya := (((ha0.later hb).apart (show a ≠ w.heap.size + 1 + 1 by omega) 0 v0).apart (show a ≠ w.heap.size + 1 + 1 by omega) 1 v1).apart (show a ≠ w.heap.size + 1 + 1 by omega) 2 v2
    have yu := (((hu0.later hb).apart (show u ≠ w.heap.size + 1 + 1 by omega) 0 v0).apart (show u ≠ w.heap.size + 1 + 1 by omega) 1 v1).apart (show u ≠ w.heap.size + 1 + 1 by omega) 2 v2
    have yg := ((Box.apart (hk0.later hb) (show g ≠ w.heap.size + 1 + 1 by omega) 0 v0).apart (show g ≠ w.heap.size + 1 + 1 by omega) 1 v1).apart (show g ≠ w.heap.size + 1 + 1 by omega) 2 v2
    exact ⟨⟨xa'.cell 0, xa'.cell 1, xa'.cell 2⟩, ⟨xb'.cell 0, xb'.cell 1, xb'.cell 2⟩, ya.cell 0, yg.cell 0, yu.cell 0⟩
  have KC2 := Lib.hid KC2
  obtain ⟨⟨k0, k1, k2⟩, ⟨j0, j1, j2⟩, z0, z1, z2⟩ := KC W (below_self W)
  obtain ⟨dn, dm, de⟩ := d
  have KC := Lib.hid KC
  have OV := Lib.hid OV
  have MU := Lib.hid MU
  have RA := Lib.hid RA
  have XR := Lib.hid XR
  have HW := Lib.hid hW
  clear hW h h' hT hk ha hu hd b1 b2 xa xb xr hk0 ha0 hu0 H H' hT0
  simp only at OV MU RA
  go_enter Tryz.func64, Tryz.ntmps64
  go_wp2_with fail
  rw [HW.out]
  go_region_held3 (fun w' => ((w'.cell? ⟨w.heap.size, 0, none⟩ = some (.bool p) ∧ w'.cell? ⟨w.heap.size, 1, none⟩ = some (.slice A n c) ∧ w'.cell? ⟨w.heap.size, 2, none⟩ = some (.int .i64 e)) ∧ (w'.cell? ⟨w.heap.size + 1, 0, none⟩ = some (.bool q) ∧ w'.cell? ⟨w.heap.size + 1, 1, none⟩ = some (.slice A' n' c') ∧ w'.cell? ⟨w.heap.size + 1, 2, none⟩ = some (.int .i64 f)) ∧ w'.cell? ⟨a, 0, none⟩ = some (.pointer (some ⟨g, 0, none⟩)) ∧ w'.cell? ⟨g, 0, none⟩ = some (.int .i64 P) ∧ w'.cell? ⟨u, 0, none⟩ = some (.bool up))) (first | (refine KC.out _ ?_; (repeat (first | with_reducible assumption | with_reducible exact below_self _ | with_reducible refine below_drewN ?_ _ | with_reducible apply Below.drew | with_reducible refine below_alloc ?_ _)); done) | (refine KC2.out _ ?_ _ _ _ _ rfl; (repeat (first | with_reducible assumption | with_reducible exact below_self _ | with_reducible refine below_drewN ?_ _ | with_reducible apply Below.drew | with_reducible refine below_alloc ?_ _)); done) | go_keep) (first | (go_at_call 65; refine (OV.out _ ?_).mono ?_; (repeat (first | with_reducible assumption | with_reducible exact below_self _ | with_reducible refine below_drewN ?_ _ | with_reducible apply Below.drew | with_reducible refine below_alloc ?_ _)); rintro r w5 ⟨A5, n5, c5, rfl, h5, hb5⟩) | (go_at_call 43; refine (MU.out _ _ _ _ ?_).mono ?_; (repeat (first | with_reducible assumption | with_reducible exact below_self _ | with_reducible refine below_drewN ?_ _ | with_reducible apply Below.drew | with_reducible refine below_alloc ?_ _)); rintro r w6 ⟨rfl, hb56, hb6⟩; obtain ⟨u0, u1, u2, u3, u4, u5⟩ := XR.out _ hb6))
  go_wp2_with fail
  refine bodyPost_ret (v := .agg #[.bool dn, .slice A5 n5 c5, .int .i64 de]) ?_ rfl (RA.out _ _ _ _ (h5.below hb56) hb6)
  simp [results, Tryz.results64, go_sem, u0, u1, u2]
end Go.Proofs.YteffemhapnbaeaaGreatDoor
namespace Go.Proofs.YteffemhapnbaeaaGreatDoor
open Go.RowKit Num
variable {tw : TypeId}
set_option linter.unusedSimpArgs false
set_option linter.unusedVariables false
set_option maxRecDepth 100000

theorem dvs_four {w : World} {h : Nat} {t : TypeId} (a b c d : DV) (hb : Box w h #[.bool a.neg, .slice a.A a.n a.c, .int .i64 a.e, .bool b.neg, .slice b.A b.n b.c, .int .i64 b.e, .bool c.neg, .slice c.A c.n c.c, .int .i64 c.e, .bool d.neg, .slice d.A d.n d.c, .int .i64 d.e] t)
    (ha : a.ok w) (hb' : b.ok w) (hc : c.ok w) (hd : d.ok w) : DVs w h [a, b, c, d] := by
  have four : ∀ j, j < [a, b, c, d].length → j = 0 ∨ j = 1 ∨ j = 2 ∨ j = 3 := fun j hj => by simp at hj; omega
  refine ⟨hb.lt, fun j hj => ?_, fun j hj => ?_, fun j hj => ?_, fun j hj => ?_⟩ <;> rcases four j hj with rfl | rfl | rfl | rfl
  all_goals first | exact ha | exact hb' | exact hc | exact hd | exact hb.cell _
/-- Four quotients side by side. -/
def RetF (D1 D2 D3 D4 : Dy) (w : World) (r : Ending) (w' : World) : Prop :=
  ∃ h A1 n1 c1 A2 n2 c2 A3 n3 c3 A4 n4 c4, r = .returned (.slice (some ⟨h, 0, none⟩) 4 4) ∧ DVs w' h [⟨D1.neg, A1, n1, c1, wd D1.m, D1.e⟩, ⟨D2.neg, A2, n2, c2, wd D2.m, D2.e⟩, ⟨D3.neg, A3, n3, c3, wd D3.m, D3.e⟩, ⟨D4.neg, A4, n4, c4, wd D4.m, D4.e⟩] ∧ Below w.heap.size w w'
set_option maxHeartbeats 16000000 in
theorem spends (p q s t : Bool) (A A' B B' : Option Addr) (n c n' c' m k m' k' : Nat) (xs ys us vs : List Int) (e f i j P : Int) (up : Bool) (a u g : Nat) (bad : Bool) (D1 D2 D3 D4 : Dy) (w : World)
    (h : Arr w A n c xs) (h' : Arr w A' n' c' ys) (hB : Arr w B m k us) (hB' : Arr w B' m' k' vs) (hT : Tz w)
    (hk : Wk w g P bad tw) (ta tu : TypeId) (ha : Box w a #[.pointer (some ⟨g, 0, none⟩)] ta) (hu : Box w u #[.bool up] tu)
    (o1 : overD p s xs us e i P up = some D1) (o2 : overD p t xs vs e j P up = some D2) (o3 : overD q s ys us f i P up = some D3) (o4 : overD q t ys vs f j P up = some D4) :
    Calls Tryz.prog 41 #[.agg #[.bool p, .slice A n c, .int .i64 e, .bool q, .slice A' n' c', .int .i64 f], .agg #[.bool s, .slice B m k, .int .i64 i, .bool t, .slice B' m' k', .int .i64 j], .func (.func 64) #[] #[.pointer (some ⟨a, 0, none⟩), .pointer (some ⟨u, 0, none⟩)]] w (RetF D1 D2 D3 D4 w) := by
  have b1 := below_alloc (below_self w) (.cells #[.bool p, .slice A n c, .int .i64 e, .bool q, .slice A' n' c', .int .i64 f] 28)
  have b0 : Below w.heap.size w ((w.alloc (.cells #[.bool p, .slice A n c, .int .i64 e, .bool q, .slice A' n' c', .int .i64 f] 28)).alloc (.cells #[.bool s, .slice B m k, .int .i64 i, .bool t, .slice B' m' k', .int .i64 j] 28)) := below_alloc b1 _
  have xa := (box_new w #[.bool p, .slice A n c, .int .i64 e, .bool q, .slice A' n' c', .int .i64 f] 28).later (below_alloc (below_self _) (.cells #[.bool s, .slice B m k, .int .i64 i, .bool t, .slice B' m' k', .int .i64 j] 28))
  have xb := box_new (w.alloc (.cells #[.bool p, .slice A n c, .int .i64 e, .bool q, .slice A' n' c', .int .i64 f] 28)) #[.bool s, .slice B m k, .int .i64 i, .bool t, .slice B' m' k', .int .i64 j] 28
  rw [show (w.alloc (.cells #[.bool p, .slice A n c, .int .i64 e, .bool q, .slice A' n' c', .int .i64 f] 28)).heap.size = w.heap.size + 1 by simp] at xb
  generalize hW : ((w.alloc (.cells #[.bool p, .slice A n c, .int .i64 e, .bool q, .slice A' n' c', .int .i64 f] 28)).alloc (.cells #[.bool s, .slice B m k, .int .i64 i, .bool t, .slice B' m' k', .int .i64 j] 28)) = W at *
  have KC : ∀ w', Below W.heap.size W w' → ((w'.cell? ⟨w.heap.size, 0, none⟩ = some (.bool p) ∧ w'.cell? ⟨w.heap.size, 1, none⟩ = some (.slice A n c) ∧ w'.cell? ⟨w.heap.size, 2, none⟩ = some (.int .i64 e) ∧ w'.cell? ⟨w.heap.size, 3, none⟩ = some (.bool q) ∧ w'.cell? ⟨w.heap.size, 4, none⟩ = some (.slice A' n' c') ∧ w'.cell? ⟨w.heap.size, 5, none⟩ = some (.int .i64 f)) ∧ (w'.cell? ⟨w.heap.size + 1, 0, none⟩ = some (.bool s) ∧ w'.cell? ⟨w.heap.size + 1, 1, none⟩ = some (.slice B m k) ∧ w'.cell? ⟨w.heap.size + 1, 2, none⟩ = some (.int .i64 i) ∧ w'.cell? ⟨w.heap.size + 1, 3, none⟩ = some (.bool t) ∧ w'.cell? ⟨w.heap.size + 1, 4, none⟩ = some (.slice B' m' k') ∧ w'.cell? ⟨w.heap.size + 1, 5, none⟩ = some (.int .i64 j))) := fun w' hb => (by obtain ⟨z0, z1, z2, z3, z4, z5, -⟩ := (xa.later hb).cell6; obtain ⟨y0, y1, y2, y3, y4, y5, -⟩ := (xb.later hb).cell6; exact ⟨⟨z0, z1, z2, z3, z4, z5⟩, ⟨y0, y1, y2, y3, y4, y5⟩⟩)
  have OV : ∀ (p1 q1 : Bool) (A1 A2 : Option Addr) (n1 c1 n2 c2 : Nat) (x1 x2 : List Int) (e1 e2 : Int) (D : Dy), Arr w A1 n1 c1 x1 → Arr w A2 n2 c2 x2 → overD p1 q1 x1 x2 e1 e2 P up = some D → (∀ w', Below W.heap.size W w' → Calls Tryz.prog 64 #[(.agg #[.bool p1, .slice A1 n1 c1, .int .i64 e1]), (.agg #[.bool q1, .slice A2 n2 c2, .int .i64 e2]), .pointer (some ⟨a, 0, none⟩), .pointer (some ⟨u, 0, none⟩)] w' fun r w'' => ∃ A5 n5 c5, r = .returned (.agg #[.bool (D).neg, .slice A5 n5 c5, .int .i64 (D).e]) ∧ Arr w'' A5 n5 c5 (wd (D).m) ∧ Below w'.heap.size w' w'' ∧ Below W.heap.size W w'') := by
    intro p1 q1 A1 A2 n1 c1 n2 c2 x1 x2 e1 e2 D ha1 ha2 ho w' hb
    refine (spover2 p1 q1 A1 A2 n1 c1 n2 c2 x1 x2 e1 e2 P up a u g bad D w' ((ha1.below b0).below hb) ((ha2.below b0).below hb) ((hT.below b0).below hb) ((hk.later b0).later hb) ta tu ((ha.later b0).later hb) ((hu.later b0).later hb) ho).mono ?_
    rintro r w'' ⟨A5, n5, c5, rfl, h5, hb5⟩
    exact ⟨A5, n5, c5, rfl, h5, hb5, below_on hb hb5⟩
  have C1 := Lib.hid (OV p s A B n c m k xs us e i D1 h hB o1)
  have C2 := Lib.hid (OV p t A B' n c m' k' xs vs e j D2 h hB' o2)
  have C3 := Lib.hid (OV q s A' B n' c' m k ys us f i D3 h' hB o3)
  have C4 := Lib.hid (OV q t A' B' n' c' m' k' ys vs f j D4 h' hB' o4)
  obtain ⟨⟨k0, k1, k2, k3, k4, k5⟩, ⟨j0, j1, j2, j3, j4, j5⟩⟩ := KC W (below_self W)
  have KC := Lib.hid KC
  have HW := Lib.hid hW
  clear OV hW h h' hB hB' hT hk ha hu o1 o2 o3 o4 b1 xa xb
  obtain ⟨s1, m1, f1⟩ := D1
  obtain ⟨s2, m2, f2⟩ := D2
  obtain ⟨s3, m3, f3⟩ := D3
  obtain ⟨s4, m4, f4⟩ := D4
  simp only at C1 C2 C3 C4
  go_enter Tryz.func41, Tryz.ntmps41
  go_wp2_with fail
  rw [HW.out]
  go_region_held3 (fun w' => ((w'.cell? ⟨w.heap.size, 0, none⟩ = some (.bool p) ∧ w'.cell? ⟨w.heap.size, 1, none⟩ = some (.slice A n c) ∧ w'.cell? ⟨w.heap.size, 2, none⟩ = some (.int .i64 e) ∧ w'.cell? ⟨w.heap.size, 3, none⟩ = some (.bool q) ∧ w'.cell? ⟨w.heap.size, 4, none⟩ = some (.slice A' n' c') ∧ w'.cell? ⟨w.heap.size, 5, none⟩ = some (.int .i64 f)) ∧ (w'.cell? ⟨w.heap.size + 1, 0, none⟩ = some (.bool s) ∧ w'.cell? ⟨w.heap.size + 1, 1, none⟩ = some (.slice B m k) ∧ w'.cell? ⟨w.heap.size + 1, 2, none⟩ = some (.int .i64 i) ∧ w'.cell? ⟨w.heap.size + 1, 3, none⟩ = some (.bool t) ∧ w'.cell? ⟨w.heap.size + 1, 4, none⟩ = some (.slice B' m' k') ∧ w'.cell? ⟨w.heap.size + 1, 5, none⟩ = some (.int .i64 j)))) (first | (refine KC.out _ ?_; (repeat (first | with_reducible assumption | with_reducible exact below_self _ | with_reducible refine below_drewN ?_ _ | with_reducible apply Below.drew | with_reducible refine below_alloc ?_ _)); done) | go_keep) (first | (go_at_call_of 64 (Value.agg #[Value.bool p, Value.slice A n c, Value.int IntKind.i64 e]); go_at_call_of 64 (Value.agg #[Value.bool s, Value.slice B m k, Value.int IntKind.i64 i]); refine (C1.out _ ?_).mono ?_; (repeat (first | with_reducible assumption | with_reducible exact below_self _ | with_reducible refine below_drewN ?_ _ | with_reducible apply Below.drew | with_reducible refine below_alloc ?_ _)); rintro r w1 ⟨A1, n1, c1, rfl, h1, hc1, hb1⟩; (try have h2 := Arr.below (Arr.below h2 ((by repeat (first | with_reducible assumption | with_reducible exact below_self _ | with_reducible refine below_drewN ?_ _ | with_reducible apply Below.drew | with_reducible refine below_alloc ?_ _)))) hc1); (try have h3 := Arr.below (Arr.below h3 ((by repeat (first | with_reducible assumption | with_reducible exact below_self _ | with_reducible refine below_drewN ?_ _ | with_reducible apply Below.drew | with_reducible refine below_alloc ?_ _)))) hc1); (try have h4 := Arr.below (Arr.below h4 ((by repeat (first | with_reducible assumption | with_reducible exact below_self _ | with_reducible refine below_drewN ?_ _ | with_reducible apply Below.drew | with_reducible refine below_alloc ?_ _)))) hc1)) | (go_at_call_of 64 (Value.agg #[Value.bool p, Value.slice A n c, Value.int IntKind.i64 e]); go_at_call_of 64 (Value.agg #[Value.bool t, Value.slice B' m' k', Value.int IntKind.i64 j]); refine (C2.out _ ?_).mono ?_; (repeat (first | with_reducible assumption | with_reducible exact below_self _ | with_reducible refine below_drewN ?_ _ | with_reducible apply Below.drew | with_reducible refine below_alloc ?_ _)); rintro r w2 ⟨A2, n2, c2, rfl, h2, hc2, hb2⟩; (try have h1 := Arr.below (Arr.below h1 ((by repeat (first | with_reducible assumption | with_reducible exact below_self _ | with_reducible refine below_drewN ?_ _ | with_reducible apply Below.drew | with_reducible refine below_alloc ?_ _)))) hc2); (try have h3 := Arr.below (Arr.below h3 ((by repeat (first | with_reducible assumption | with_reducible exact below_self _ | with_reducible refine below_drewN ?_ _ | with_reducible apply Below.drew | with_reducible refine below_alloc ?_ _)))) hc2); (try have h4 := Arr.below (Arr.below h4 ((by repeat (first | with_reducible assumption | with_reducible exact below_self _ | with_reducible refine below_drewN ?_ _ | with_reducible apply Below.drew | with_reducible refine below_alloc ?_ _)))) hc2)) | (go_at_call_of 64 (Value.agg #[Value.bool q, Value.slice A' n' c', Value.int IntKind.i64 f]); go_at_call_of 64 (Value.agg #[Value.bool s, Value.slice B m k, Value.int IntKind.i64 i]); refine (C3.out _ ?_).mono ?_; (repeat (first | with_reducible assumption | with_reducible exact below_self _ | with_reducible refine below_drewN ?_ _ | with_reducible apply Below.drew | with_reducible refine below_alloc ?_ _)); rintro r w3 ⟨A3, n3, c3, rfl, h3, hc3, hb3⟩; (try have h1 := Arr.below (Arr.below h1 ((by repeat (first | with_reducible assumption | with_reducible exact below_self _ | with_reducible refine below_drewN ?_ _ | with_reducible apply Below.drew | with_reducible refine below_alloc ?_ _)))) hc3); (try have h2 := Arr.below (Arr.below h2 ((by repeat (first | with_reducible assumption | with_reducible exact below_self _ | with_reducible refine below_drewN ?_ _ | with_reducible apply Below.drew | with_reducible refine below_alloc ?_ _)))) hc3); (try have h4 := Arr.below (Arr.below h4 ((by repeat (first | with_reducible assumption | with_reducible exact below_self _ | with_reducible refine below_drewN ?_ _ | with_reducible apply Below.drew | with_reducible refine below_alloc ?_ _)))) hc3)) | (go_at_call_of 64 (Value.agg #[Value.bool q, Value.slice A' n' c', Value.int IntKind.i64 f]); go_at_call_of 64 (Value.agg #[Value.bool t, Value.slice B' m' k', Value.int IntKind.i64 j]); refine (C4.out _ ?_).mono ?_; (repeat (first | with_reducible assumption | with_reducible exact below_self _ | with_reducible refine below_drewN ?_ _ | with_reducible apply Below.drew | with_reducible refine below_alloc ?_ _)); rintro r w4 ⟨A4, n4, c4, rfl, h4, hc4, hb4⟩; (try have h1 := Arr.below (Arr.below h1 ((by repeat (first | with_reducible assumption | with_reducible exact below_self _ | with_reducible refine below_drewN ?_ _ | with_reducible apply Below.drew | with_reducible refine below_alloc ?_ _)))) hc4); (try have h2 := Arr.below (Arr.below h2 ((by repeat (first | with_reducible assumption | with_reducible exact below_self _ | with_reducible refine below_drewN ?_ _ | with_reducible apply Below.drew | with_reducible refine below_alloc ?_ _)))) hc4); (try have h3 := Arr.below (Arr.below h3 ((by repeat (first | with_reducible assumption | with_reducible exact below_self _ | with_reducible refine below_drewN ?_ _ | with_reducible apply Below.drew | with_reducible refine below_alloc ?_ _)))) hc4)))
  all_goals
    go_wp2_with fail
    go_ret
    refine ⟨_, A1, n1, c1, A2, n2, c2, A3, n3, c3, A4, n4, c4, rfl, dvs_four _ _ _ _ (box_new _ _ _) ?_ ?_ ?_ ?_, ?_⟩
    · exact Arr.below h1 ((by repeat (first | with_reducible assumption | with_reducible exact below_self _ | with_reducible refine below_drewN ?_ _ | with_reducible apply Below.drew | with_reducible refine below_alloc ?_ _)))
    · exact Arr.below h2 ((by repeat (first | with_reducible assumption | with_reducible exact below_self _ | with_reducible refine below_drewN ?_ _ | with_reducible apply Below.drew | with_reducible refine below_alloc ?_ _)))
    · exact Arr.below h3 ((by repeat (first | with_reducible assumption | with_reducible exact below_self _ | with_reducible refine below_drewN ?_ _ | with_reducible apply Below.drew | with_reducible refine below_alloc ?_ _)))
    · exact Arr.below h4 ((by repeat (first | with_reducible assumption | with_reducible exact below_self _ | with_reducible refine below_drewN ?_ _ | with_reducible apply Below.drew | with_reducible refine below_alloc ?_ _)))
    · exact below_on b0 ((by repeat (first | with_reducible assumption | with_reducible exact below_self _ | with_reducible refine below_drewN ?_ _ | with_reducible apply Below.drew | with_reducible refine below_alloc ?_ _)))
end Go.Proofs.YteffemhapnbaeaaGreatDoor
namespace Go.Proofs.YteffemhapnbaeaaGreatDoor
open Go.RowKit Num
variable {tw : TypeId}
set_option linter.unusedSimpArgs false
set_option linter.unusedVariables false
set_option maxRecDepth 100000

def cDy (a b : Dy) : Int := endsI a.neg b.neg (wd a.m) (wd b.m) a.e b.e
def stepY (most : Bool) (b d : Dy) : Dy := if (if most then decide (0 < cDy d b) else decide (cDy d b < 0)) then d else b
def bestY (most : Bool) (a b c d : Dy) : Dy := stepY most (stepY most (stepY most a b) c) d
structure Rep (d : DV) (D : Dy) : Prop where
  neg : d.neg = D.neg
  xs : d.xs = wd D.m
  e : d.e = D.e
theorem step_rep {most : Bool} {b d : DV} {B D : Dy} (hb : Rep b B) (hd : Rep d D) : Rep (stepD most b d) (stepY most B D) := by
  have hc : cDV d b = cDy D B := by unfold cDV cDy; rw [hb.neg, hb.xs, hb.e, hd.neg, hd.xs, hd.e]
  unfold stepD stepY
  rw [hc]
  have key : ∀ z : Bool, Rep (if z then d else b) (if z then D else B) := by
    intro z
    cases z
    · exact hb
    · exact hd
  exact key _
theorem best_rep (most : Bool) {a b c d : DV} {D1 D2 D3 D4 : Dy} (h1 : Rep a D1) (h2 : Rep b D2) (h3 : Rep c D3) (h4 : Rep d D4) : Rep (bestD most [a, b, c, d]) (bestY most D1 D2 D3 D4) :=
  step_rep (step_rep (step_rep h1 h2) h3) h4
set_option maxHeartbeats 4000000 in
theorem spdiv1 (p q s t : Bool) (A A' B B' : Option Addr) (n c n' c' m k m' k' : Nat) (xs ys us vs : List Int) (e f i j P : Int) (up : Bool) (sa sb a g : Nat) (bad : Bool) (D1 D2 D3 D4 : Dy) (w : World)
    (h : Arr w A n c xs) (h' : Arr w A' n' c' ys) (hB : Arr w B m k us) (hB' : Arr w B' m' k' vs) (hT : Tz w)
    (hk : Wk w g P bad tw) (ta t1 t2 : TypeId) (ha : Box w a #[.pointer (some ⟨g, 0, none⟩)] ta) (hsa : Box w sa (#[.bool p, .slice A n c, .int .i64 e, .bool q, .slice A' n' c', .int .i64 f]) t1) (hsb : Box w sb (#[.bool s, .slice B m k, .int .i64 i, .bool t, .slice B' m' k', .int .i64 j]) t2)
    (o1 : overD p s xs us e i P up = some D1) (o2 : overD p t xs vs e j P up = some D2) (o3 : overD q s ys us f i P up = some D3) (o4 : overD q t ys vs f j P up = some D4) :
    Calls Tryz.prog 63 #[.bool up, .pointer (some ⟨sa, 0, none⟩), .pointer (some ⟨sb, 0, none⟩), .pointer (some ⟨a, 0, none⟩)] w (RetF D1 D2 D3 D4 w) := by
  have b0 := below_alloc (below_self w) (.cells #[.bool up] 4)
  have xu := box_new w #[.bool up] 4
  obtain ⟨z0, z1, z2, z3, z4, z5, -⟩ := (hsa.later b0).cell6
  obtain ⟨y0, y1, y2, y3, y4, y5, -⟩ := (hsb.later b0).cell6
  have EN := spends p q s t A A' B B' n c n' c' m k m' k' xs ys us vs e f i j P up a w.heap.size g bad D1 D2 D3 D4 _ (h.below b0) (h'.below b0) (hB.below b0) (hB'.below b0) (hT.below b0) (hk.later b0) ta 4 (ha.later b0) xu o1 o2 o3 o4
  have EN := Lib.hid EN
  clear o1 o2 o3 o4
  go_enter Tryz.func63, Tryz.ntmps63
  go_wp2_with fail
  refine EN.out.mono ?_
  rintro r w2 ⟨hh, A1, n1, c1, A2, n2, c2, A3, n3, c3, A4, n4, c4, rfl, hd, hb2⟩
  go_wp2_with fail
  go_ret
  exact ⟨hh, A1, n1, c1, A2, n2, c2, A3, n3, c3, A4, n4, c4, rfl, hd, below_on b0 hb2⟩
end Go.Proofs.YteffemhapnbaeaaGreatDoor
