/- Div's closures: a quotient of two ends. -/
import Derived.Deep.RegionHeld3
import Derived.Test.YtlmojkknlkfloaaDoorSnF
import Derived.Test.YtlmojkknlkfloaaDoorMO
namespace Go.Proofs.YtlmojkknlkfloaaDoor
open Go.RowKit Num
set_option linter.unusedSimpArgs false
set_option linter.unusedVariables false
set_option maxRecDepth 100000

/-- A number, in memory of one's own. -/
def RetA (d : Dy) (w : World) (r : Ending) (w' : World) : Prop := ∃ A n c, r = .returned (.agg #[.bool d.neg, .slice A n c, .int .i64 d.e]) ∧ Arr w' A n c (wd d.m) ∧ Below w.heap.size w w'
theorem retA_set {w w4 : World} {d : Dy} {A : Option Addr} {n c k : Nat} {t : TypeId} {p : Bool} {A' : Option Addr} {n' c' : Nat} {e : Int} (h : Arr w4 A n c (wd d.m)) (hb : Box w4 k #[.bool p, .slice A' n' c', .int .i64 e] t) (hw : Below w.heap.size w w4) (hk : w.heap.size ≤ k) :
    RetA d w (.returned (.agg #[.bool d.neg, .slice A n c, .int .i64 d.e])) (((w4.setCell ⟨k, 0, none⟩ (.bool d.neg)).setCell ⟨k, 1, none⟩ (.slice A n c)).setCell ⟨k, 2, none⟩ (.int .i64 d.e)) :=
  ⟨A, n, c, rfl, h.set3 hb _ _ _ (by simp) (by simp), below_set (below_set (below_set hw k 0 hk _) k 1 hk _) k 2 hk _⟩
set_option maxHeartbeats 4000000 in
theorem spover2 (p q : Bool) (A A' : Option Addr) (n c n' c' : Nat) (xs ys : List Int) (e f P : Int) (up : Bool) (a u g : Nat) (bad : Bool) (d : Dy) (w : World) (h : Arr w A n c xs) (h' : Arr w A' n' c' ys) (hT : Tz w)
    (hk : Wk w g P bad 64) (ta tu : TypeId) (ha : Box w a #[.pointer (some ⟨g, 0, none⟩)] ta) (hu : Box w u #[.bool up] tu) (hd : overD p q xs ys e f P up = some d) :
    Calls Tryd.prog 104 #[.agg #[.bool p, .slice A n c, .int .i64 e], .agg #[.bool q, .slice A' n' c', .int .i64 f], .pointer (some ⟨a, 0, none⟩), .pointer (some ⟨u, 0, none⟩)] w (RetA d w) := by
  have b1 := below_alloc (below_self w) (.cells #[.bool p, .slice A n c, .int .i64 e] 24)
  have b2 := below_alloc b1 (.cells #[.bool q, .slice A' n' c', .int .i64 f] 24)
  have b0 : Below w.heap.size w (((w.alloc (.cells #[.bool p, .slice A n c, .int .i64 e] 24)).alloc (.cells #[.bool q, .slice A' n' c', .int .i64 f] 24)).alloc (.cells #[.bool false, .slice none 0 0, .int .i64 0] 24)) := below_alloc b2 _
  have xa := (box_new w #[.bool p, .slice A n c, .int .i64 e] 24).later (below_alloc (below_alloc (below_self _) (.cells #[.bool q, .slice A' n' c', .int .i64 f] 24)) (.cells #[.bool false, .slice none 0 0, .int .i64 0] 24))
  have xb := (box_new (w.alloc (.cells #[.bool p, .slice A n c, .int .i64 e] 24)) #[.bool q, .slice A' n' c', .int .i64 f] 24).later (below_alloc (below_self _) (.cells #[.bool false, .slice none 0 0, .int .i64 0] 24))
  rw [show (w.alloc (.cells #[.bool p, .slice A n c, .int .i64 e] 24)).heap.size = w.heap.size + 1 by simp] at xb
  have xr := box_new ((w.alloc (.cells #[.bool p, .slice A n c, .int .i64 e] 24)).alloc (.cells #[.bool q, .slice A' n' c', .int .i64 f] 24)) #[.bool false, .slice none 0 0, .int .i64 0] 24
  rw [show ((w.alloc (.cells #[.bool p, .slice A n c, .int .i64 e] 24)).alloc (.cells #[.bool q, .slice A' n' c', .int .i64 f] 24)).heap.size = w.heap.size + 1 + 1 by simp] at xr
  have hk0 := hk.later b0
  have ha0 := ha.later b0
  have hu0 := hu.later b0
  have H := h.below b0
  have H' := h'.below b0
  have hT0 := hT.below b0
  generalize hW : (((w.alloc (.cells #[.bool p, .slice A n c, .int .i64 e] 24)).alloc (.cells #[.bool q, .slice A' n' c', .int .i64 f] 24)).alloc (.cells #[.bool false, .slice none 0 0, .int .i64 0] 24)) = W at *
  have KC : ∀ w', Below W.heap.size W w' → ((w'.cell? ⟨w.heap.size, 0, none⟩ = some (.bool p) ∧ w'.cell? ⟨w.heap.size, 1, none⟩ = some (.slice A n c) ∧ w'.cell? ⟨w.heap.size, 2, none⟩ = some (.int .i64 e)) ∧ (w'.cell? ⟨w.heap.size + 1, 0, none⟩ = some (.bool q) ∧ w'.cell? ⟨w.heap.size + 1, 1, none⟩ = some (.slice A' n' c') ∧ w'.cell? ⟨w.heap.size + 1, 2, none⟩ = some (.int .i64 f)) ∧ w'.cell? ⟨a, 0, none⟩ = some (.pointer (some ⟨g, 0, none⟩)) ∧ w'.cell? ⟨g, 0, none⟩ = some (.int .i64 P) ∧ w'.cell? ⟨u, 0, none⟩ = some (.bool up)) := fun w' hb => ⟨⟨(xa.later hb).cell 0, (xa.later hb).cell 1, (xa.later hb).cell 2⟩, ⟨(xb.later hb).cell 0, (xb.later hb).cell 1, (xb.later hb).cell 2⟩, (ha0.later hb).cell 0, (hk0.later hb).cells.1, (hu0.later hb).cell 0⟩
  have OV : ∀ w', Below W.heap.size W w' → Calls Tryd.prog 27 #[.agg #[.bool p, .slice A n c, .int .i64 e], .agg #[.bool q, .slice A' n' c', .int .i64 f], .int .i64 P, .bool up] w' fun r w'' => ∃ A5 n5 c5, r = .returned (.tuple #[.agg #[.bool d.neg, .slice A5 n5 c5, .int .i64 d.e], .bool true]) ∧ Arr w'' A5 n5 c5 (wd d.m) ∧ Below W.heap.size W w'' := by
    intro w' hb
    have D := dover p q A A' n c n' c' xs ys e f P up w' (H.below hb) (H'.below hb) (hT0.below hb)
    rw [hd] at D
    refine D.mono ?_
    rintro r w'' hr
    obtain ⟨A5, n5, c5, e5, h5, hb5⟩ := hr
    exact ⟨A5, n5, c5, e5, h5, below_on hb hb5⟩
  have MU : ∀ A5 n5 c5 w', Below W.heap.size W w' → Calls Tryd.prog 89 #[.pointer (some ⟨g, 0, none⟩), .agg #[.bool d.neg, .slice A5 n5 c5, .int .i64 d.e], .bool true] w' fun r w'' => r = .returned (.agg #[.bool d.neg, .slice A5 n5 c5, .int .i64 d.e]) ∧ Below w'.heap.size w' w'' ∧ Below W.heap.size W w'' := by
    intro A5 n5 c5 w' hb
    refine (must_ok g d.neg A5 n5 c5 d.e w').mono ?_
    rintro r w'' ⟨rfl, h2⟩
    exact ⟨rfl, h2, below_on hb h2⟩
  have RA := fun w' A5 n5 c5 (h5 : Arr w' A5 n5 c5 (wd d.m)) (hb : Below W.heap.size W w') => retA_set (w := w) (d := d) h5 (xr.later hb) (below_on b0 hb) (show w.heap.size ≤ w.heap.size + 1 + 1 by omega)
  have XR := fun w' (hb : Below W.heap.size W w') => (xr.later hb).cell3
  have la := ha.lt
  have lu := hu.lt
  have lg := hk.lt
  have KC2 : ∀ w', Below W.heap.size W w' → ∀ v0 v1 v2 W2, W2 = (((w'.setCell ⟨w.heap.size + 1 + 1, 0, none⟩ v0).setCell ⟨w.heap.size + 1 + 1, 1, none⟩ v1).setCell ⟨w.heap.size + 1 + 1, 2, none⟩ v2) → ((W2.cell? ⟨w.heap.size, 0, none⟩ = some (.bool p) ∧ W2.cell? ⟨w.heap.size, 1, none⟩ = some (.slice A n c) ∧ W2.cell? ⟨w.heap.size, 2, none⟩ = some (.int .i64 e)) ∧ (W2.cell? ⟨w.heap.size + 1, 0, none⟩ = some (.bool q) ∧ W2.cell? ⟨w.heap.size + 1, 1, none⟩ = some (.slice A' n' c') ∧ W2.cell? ⟨w.heap.size + 1, 2, none⟩ = some (.int .i64 f)) ∧ W2.cell? ⟨a, 0, none⟩ = some (.pointer (some ⟨g, 0, none⟩)) ∧ W2.cell? ⟨g, 0, none⟩ = some (.int .i64 P) ∧ W2.cell? ⟨u, 0, none⟩ = some (.bool up)) := by
    rintro w' hb v0 v1 v2 _ rfl
    have xa' := (((xa.later hb).apart (show w.heap.size ≠ w.heap.size + 1 + 1 by omega) 0 v0).apart (show w.heap.size ≠ w.heap.size + 1 + 1 by omega) 1 v1).apart (show w.heap.size ≠ w.heap.size + 1 + 1 by omega) 2 v2
    have xb' := (((xb.later hb).apart (show w.heap.size + 1 ≠ w.heap.size + 1 + 1 by omega) 0 v0).apart (show w.heap.size + 1 ≠ w.heap.size + 1 + 1 by omega) 1 v1).apart (show w.heap.size + 1 ≠ w.heap.size + 1 + 1 by omega) 2 v2
    have ya := (((ha0.later hb).apart (show a ≠ w.heap.size + 1 + 1 by omega) 0 v0).apart (show a ≠ w.heap.size + 1 + 1 by omega) 1 v1).apart (show a ≠ w.heap.size + 1 + 1 by omega) 2 v2
    have yu := (((hu0.later hb).apart (show u ≠ w.heap.size + 1 + 1 by omega) 0 v0).apart (show u ≠ w.heap.size + 1 + 1 by omega) 1 v1).apart (show u ≠ w.heap.size + 1 + 1 by omega) 2 v2
    have yg := ((Box.apart (hk0.later hb) (show g ≠ w.heap.size + 1 + 1 by omega) 0 v0).apart (show g ≠ w.heap.size + 1 + 1 by omega) 1 v1).apart (show g ≠ w.heap.size + 1 + 1 by omega) 2 v2
    exact ⟨⟨xa'.cell 0, xa'.cell 1, xa'.cell 2⟩, ⟨xb'.cell 0, xb'.cell 1, xb'.cell 2⟩, ya.cell 0, yg.cell 0, yu.cell 0⟩
  have KC2 := Lib.hid KC2
  obtain ⟨⟨k0, k1, k2⟩, ⟨j0, j1, j2⟩, z0, z1, z2⟩ := KC W (below_self W)
  obtain ⟨dn, dm, de⟩ := d
  have KC := Lib.hid KC
  have OV := Lib.hid OV
  have MU := Lib.hid MU
  have RA := Lib.hid RA
  have XR := Lib.hid XR
  have HW := Lib.hid hW
  clear hW h h' hT hk ha hu hd b1 b2 xa xb xr hk0 ha0 hu0 H H' hT0
  simp only at OV MU RA
  go_enter Tryd.func104, Tryd.ntmps104
  go_wp2_with fail
  rw [HW.out]
  go_region_held3 (fun w' => ((w'.cell? ⟨w.heap.size, 0, none⟩ = some (.bool p) ∧ w'.cell? ⟨w.heap.size, 1, none⟩ = some (.slice A n c) ∧ w'.cell? ⟨w.heap.size, 2, none⟩ = some (.int .i64 e)) ∧ (w'.cell? ⟨w.heap.size + 1, 0, none⟩ = some (.bool q) ∧ w'.cell? ⟨w.heap.size + 1, 1, none⟩ = some (.slice A' n' c') ∧ w'.cell? ⟨w.heap.size + 1, 2, none⟩ = some (.int .i64 f)) ∧ w'.cell? ⟨a, 0, none⟩ = some (.pointer (some ⟨g, 0, none⟩)) ∧ w'.cell? ⟨g, 0, none⟩ = some (.int .i64 P) ∧ w'.cell? ⟨u, 0, none⟩ = some (.bool up))) (first | (refine KC.out _ ?_; (repeat (first | with_reducible assumption | with_reducible exact below_self _ | with_reducible refine below_drewN ?_ _ | with_reducible apply Below.drew | with_reducible refine below_alloc ?_ _)); done) | (refine KC2.out _ ?_ _ _ _ _ rfl; (repeat (first | with_reducible assumption | with_reducible exact below_self _ | with_reducible refine below_drewN ?_ _ | with_reducible apply Below.drew | with_reducible refine below_alloc ?_ _)); done) | go_keep) (first | (go_at_call 27; refine (OV.out _ ?_).mono ?_; (repeat (first | with_reducible assumption | with_reducible exact below_self _ | with_reducible refine below_drewN ?_ _ | with_reducible apply Below.drew | with_reducible refine below_alloc ?_ _)); rintro r w5 ⟨A5, n5, c5, rfl, h5, hb5⟩) | (go_at_call 89; refine (MU.out _ _ _ _ ?_).mono ?_; (repeat (first | with_reducible assumption | with_reducible exact below_self _ | with_reducible refine below_drewN ?_ _ | with_reducible apply Below.drew | with_reducible refine below_alloc ?_ _)); rintro r w6 ⟨rfl, hb56, hb6⟩; obtain ⟨u0, u1, u2, u3, u4, u5⟩ := XR.out _ hb6))
  go_wp2_with fail
  refine bodyPost_ret (v := .agg #[.bool dn, .slice A5 n5 c5, .int .i64 de]) ?_ rfl (RA.out _ _ _ _ (h5.below hb56) hb6)
  simp [results, Tryd.results104, go_sem, u0, u1, u2]
end Go.Proofs.YtlmojkknlkfloaaDoor
