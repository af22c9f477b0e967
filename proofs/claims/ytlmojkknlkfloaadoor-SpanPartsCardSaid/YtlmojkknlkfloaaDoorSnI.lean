/- Which quotient is least or greatest; Div's outer closure. -/
import Derived.Test.YtlmojkknlkfloaaDoorSnH
namespace Go.Proofs.YtlmojkknlkfloaaDoor
open Go.RowKit Num
set_option linter.unusedSimpArgs false
set_option linter.unusedVariables false
set_option maxRecDepth 100000

def cDy (a b : Dy) : Int := endsI a.neg b.neg (wd a.m) (wd b.m) a.e b.e
def stepY (most : Bool) (b d : Dy) : Dy := if (if most then decide (0 < cDy d b) else decide (cDy d b < 0)) then d else b
def bestY (most : Bool) (a b c d : Dy) : Dy := stepY most (stepY most (stepY most a b) c) d
structure Rep (d : DV) (D : Dy) : Prop where
  neg : d.neg = D.neg
  xs : d.xs = wd D.m
  e : d.e = D.e
theorem step_rep {most : Bool} {b d : DV} {B D : Dy} (hb : Rep b B) (hd : Rep d D) : Rep (stepD most b d) (stepY most B D) := by
  have hc : cDV d b = cDy D B := by unfold cDV cDy; rw [hb.neg, hb.xs, hb.e, hd.neg, hd.xs, hd.e]
  unfold stepD stepY
  rw [hc]
  have key : ∀ z : Bool, Rep (if z then d else b) (if z then D else B) := by
    intro z
    cases z
    · exact hb
    · exact hd
  exact key _
theorem best_rep (most : Bool) {a b c d : DV} {D1 D2 D3 D4 : Dy} (h1 : Rep a D1) (h2 : Rep b D2) (h3 : Rep c D3) (h4 : Rep d D4) : Rep (bestD most [a, b, c, d]) (bestY most D1 D2 D3 D4) :=
  step_rep (step_rep (step_rep h1 h2) h3) h4
set_option maxHeartbeats 4000000 in
theorem spdiv1 (p q s t : Bool) (A A' B B' : Option Addr) (n c n' c' m k m' k' : Nat) (xs ys us vs : List Int) (e f i j P : Int) (up : Bool) (sa sb a g : Nat) (bad : Bool) (D1 D2 D3 D4 : Dy) (w : World)
    (h : Arr w A n c xs) (h' : Arr w A' n' c' ys) (hB : Arr w B m k us) (hB' : Arr w B' m' k' vs) (hT : Tz w)
    (hk : Wk w g P bad 64) (ta t1 t2 : TypeId) (ha : Box w a #[.pointer (some ⟨g, 0, none⟩)] ta) (hsa : Box w sa (#[.bool p, .slice A n c, .int .i64 e, .bool q, .slice A' n' c', .int .i64 f]) t1) (hsb : Box w sb (#[.bool s, .slice B m k, .int .i64 i, .bool t, .slice B' m' k', .int .i64 j]) t2)
    (o1 : overD p s xs us e i P up = some D1) (o2 : overD p t xs vs e j P up = some D2) (o3 : overD q s ys us f i P up = some D3) (o4 : overD q t ys vs f j P up = some D4) :
    Calls Tryd.prog 102 #[.bool up, .pointer (some ⟨sa, 0, none⟩), .pointer (some ⟨sb, 0, none⟩), .pointer (some ⟨a, 0, none⟩)] w (RetF D1 D2 D3 D4 w) := by
  have b0 := below_alloc (below_self w) (.cells #[.bool up] 4)
  have xu := box_new w #[.bool up] 4
  obtain ⟨z0, z1, z2, z3, z4, z5, -⟩ := (hsa.later b0).cell6
  obtain ⟨y0, y1, y2, y3, y4, y5, -⟩ := (hsb.later b0).cell6
  have EN := spends p q s t A A' B B' n c n' c' m k m' k' xs ys us vs e f i j P up a w.heap.size g bad D1 D2 D3 D4 _ (h.below b0) (h'.below b0) (hB.below b0) (hB'.below b0) (hT.below b0) (hk.later b0) ta 4 (ha.later b0) xu o1 o2 o3 o4
  have EN := Lib.hid EN
  clear o1 o2 o3 o4
  go_enter Tryd.func102, Tryd.ntmps102
  go_wp2_with fail
  refine EN.out.mono ?_
  rintro r w2 ⟨hh, A1, n1, c1, A2, n2, c2, A3, n3, c3, A4, n4, c4, rfl, hd, hb2⟩
  go_wp2_with fail
  go_ret
  exact ⟨hh, A1, n1, c1, A2, n2, c2, A3, n3, c3, A4, n4, c4, rfl, hd, below_on b0 hb2⟩
end Go.Proofs.YtlmojkknlkfloaaDoor
