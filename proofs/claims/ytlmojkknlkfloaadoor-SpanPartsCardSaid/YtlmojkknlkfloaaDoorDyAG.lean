/- The law DyadEnclose: order. -/
import Derived.Test.YtlmojkknlkfloaaDoorDyAB
import Derived.Test.YtlmojkknlkfloaaDoorDyAC
import Derived.Test.YtlmojkknlkfloaaDoorMS
namespace Go.Proofs.YtlmojkknlkfloaaDoor
open Go.RowKit Num
set_option linter.unusedSimpArgs false
set_option linter.unusedVariables false
set_option maxRecDepth 100000

theorem dorder_true (p q : Bool) (A A' : Option Addr) (n c n' c' : Nat) (xs ys : List Int) (e f : Int) (w : World) (h : Arr w A n c xs) (h' : Arr w A' n' c' ys)
    (hp : plainB p xs e = true) (hq : plainB q ys f = true) (hc : cmpD ⟨p, val xs, e⟩ ⟨q, val ys, f⟩ ≤ 0) :
    Calls Tryd.prog 26 #[.agg #[.bool p, .slice A n c, .int .i64 e], .agg #[.bool q, .slice A' n' c', .int .i64 f]] w fun r w' => r = .returned (.bool true) ∧ Below w.heap.size w w' := by
  have b1 : Below w.heap.size w ((w.alloc (.cells #[.bool p, .slice A n c, .int .i64 e] 24)).alloc (.cells #[.bool q, .slice A' n' c', .int .i64 f] 24)) := below_alloc (below_alloc (below_self w) _) _
  have bx := (box_new w #[.bool p, .slice A n c, .int .i64 e] 24).later (below_alloc (below_self _) (.cells #[.bool q, .slice A' n' c', .int .i64 f] 24))
  have bz := box_new (w.alloc (.cells #[.bool p, .slice A n c, .int .i64 e] 24)) #[.bool q, .slice A' n' c', .int .i64 f] 24
  rw [show (w.alloc (.cells #[.bool p, .slice A n c, .int .i64 e] 24)).heap.size = w.heap.size + 1 by simp] at bz
  obtain ⟨k0, k1, k2, f0, f1, f2⟩ := bx.cell3
  obtain ⟨j0, j1, j2, g0, g1, g2⟩ := bz.cell3
  have DC := dcmp p q A A' n c n' c' xs ys e f ((w.alloc (.cells #[.bool p, .slice A n c, .int .i64 e] 24)).alloc (.cells #[.bool q, .slice A' n' c', .int .i64 f] 24)) (h.below b1) (h'.below b1)
  have hcr : cmpR p q xs ys e f = .tuple #[.int .i64 (cmpD ⟨p, val xs, e⟩ ⟨q, val ys, f⟩), .bool true] := by
    unfold cmpR; rw [hp, hq]; rfl
  rw [hcr] at DC
  generalize cmpD ⟨p, val xs, e⟩ ⟨q, val ys, f⟩ = cc at *
  have hd : decide (cc ≤ 0) = true := decide_eq_true hc
  clear hcr hc hp hq
  have DC := Lib.hid DC
  go_enter Tryd.func26, Tryd.ntmps26
  go_wp2_with fail
  refine DC.out.mono ?_; rintro r w5 ⟨rfl, hb5⟩
  go_wp2_with fail
  go_ret
  exact ⟨by simp, below_on b1 hb5⟩
theorem Box.apart {w : World} {g g' : Nat} {cs : Array Value} {t : TypeId} (h : Box w g cs t) (hne : g ≠ g') (i : Nat) (v : Value) : Box (w.setCell ⟨g', i, none⟩ v) g cs t := ⟨by rw [heap_setCell_other w _ g v hne]; exact h.heap⟩
/-- A number stored whole. -/
def put3 (W : World) (g : Nat) (s : Bool) (B : Option Addr) (m d : Nat) (e : Int) : World := ((W.setCell ⟨g, 0, none⟩ (.bool s)).setCell ⟨g, 1, none⟩ (.slice B m d)).setCell ⟨g, 2, none⟩ (.int .i64 e)
theorem Box.put3 {W : World} {g : Nat} {a b c : Value} {t : TypeId} (h : Box W g #[a, b, c] t) (s : Bool) (B : Option Addr) (m d : Nat) (e : Int) : Box (put3 W g s B m d e) g #[.bool s, .slice B m d, .int .i64 e] t := ((h.set 0 (.bool s)).set 1 (.slice B m d)).set 2 (.int .i64 e)
theorem Box.put3_apart {W : World} {g g' : Nat} {cs : Array Value} {t : TypeId} (h : Box W g cs t) (hne : g ≠ g') (s : Bool) (B : Option Addr) (m d : Nat) (e : Int) : Box (Proofs.YtlmojkknlkfloaaDoor.put3 W g' s B m d e) g cs t := ((h.apart hne 0 _).apart hne 1 _).apart hne 2 _
theorem Arr.put3 {W : World} {A : Option Addr} {n c : Nat} {xs : List Int} (h : Arr W A n c xs) {g : Nat} {s0 : Bool} {B0 : Option Addr} {m0 d0 : Nat} {e0 : Int} {t : TypeId} (hb : Box W g #[.bool s0, .slice B0 m0 d0, .int .i64 e0] t) (s : Bool) (B : Option Addr) (m d : Nat) (e : Int) :
    Arr (Proofs.YtlmojkknlkfloaaDoor.put3 W g s B m d e) A n c xs := h.set3 hb _ _ _ (by simp) (by simp)
theorem below_put3 {w W : World} (h : Below w.heap.size w W) {g : Nat} (hg : w.heap.size ≤ g) (s : Bool) (B : Option Addr) (m d : Nat) (e : Int) : Below w.heap.size w (put3 W g s B m d e) := below_set (below_set (below_set h g 0 hg _) g 1 hg _) g 2 hg _
end Go.Proofs.YtlmojkknlkfloaaDoor
