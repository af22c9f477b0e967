/- What every row of this place wants: the listed table as the walks read it; a world for the witness; ranges. -/
import Derived.Test.YteffemhapnbaeaaDoorCards
import Derived.Test.YteffemhapnbaeaaDoorTie
import Derived.WalkKit
import Derived.ProofKit
import Derived.OpenShut
import Derived.Deep.DeepHandedRow
import Derived.Lib.LaidTab
import Derived.Test.YteffemhapnbaeaaDoorMA
namespace Go.Proofs.YteffemhapnbaeaaDoor
open Go.ChangeShapes Go.WideShapes Go.ChangeAt Go.RowKit

theorem own : ownKnob Tryd.prog.godebug = none := by kernel_rfl
theorem gTab : Tryd.prog.globalNamed "math/bits.deBruijn64tab" = some 0 := by kernel_rfl
theorem gTabType : (Tryd.prog.globals[0]?).map (·.type) = some 92 := by kernel_rfl
theorem cellsTab : Tryd.prog.cellsOf 92 = 64 := by kernel_rfl
theorem cells8 : Tryd.prog.cellsOf 5 = 1 := by kernel_rfl
def laidTab : List (String × DataW Unit) := [("math/bits.deBruijn64tab", Rows.laid_math_bits_deBruijn64tab)]
theorem tabIs {W : World} (h : laidMetH Tryd.prog laidTab W) : Lib.TabIs Tryd.prog W "math/bits.deBruijn64tab" .u8 (Lib.deBruijn64tab.map fun (x : Nat) => (x : Int)) :=
  Lib.tabIs_of_head (rest := []) gTab gTabType Tryd.underlying92 Tryd.underlying5 cells8 cellsTab h
theorem table {W : World} (h : laidMetH Tryd.prog laidTab W) : Tz W :=
  ⟨fun j hj => by
    have := (tabIs h).cell gTab j (by simpa using hj)
    rw [this]
    simp only [List.getD_eq_getElem?_getD, List.getElem?_map]
    rw [List.getElem?_eq_getElem hj]; rfl⟩
theorem range_u64 {a : Int} (h : (Lit.int .u64 a).wf = true) : 0 ≤ a ∧ a < 18446744073709551616 := by
  simp [Lit.wf, IntKind.min, IntKind.max, IntKind.bits, IntKind.signed] at h; omega
theorem range_i64 {a : Int} (h : (Lit.int .i64 a).wf = true) : -9223372036854775808 ≤ a ∧ a ≤ 9223372036854775807 := by
  simp [Lit.wf, IntKind.min, IntKind.max, IntKind.bits, IntKind.signed] at h; omega
/-- A world for the witness: the settled one, the table holding what its initialiser lays. -/
noncomputable def laidWorld (os : Os) : World :=
  { World.holding Tryd.prog os ⟨#[], #[], []⟩ with heap := (World.holding Tryd.prog os ⟨#[], #[], []⟩).heap.modify 0 fun
      | .cells _ t frozen => .cells (Lib.deBruijn64tab.map fun (x : Nat) => Value.int .u8 x).toArray t frozen
      | o => o }
set_option maxRecDepth 100000 in
/-- The end of a law: true is returned; what was there stands. -/
theorem post_below {H : Type} {enc : TypeId × Value → H} {f : Func} {s : ChangeSpec} {W W' : World} {args : Array Value} {ds gs : List (DataW H)} {before : List MemPlace} {tb : TypeId}
    (hW : DataW.Whole enc Tryd.prog f.params.toList s.vars false W args.toList ds gs before) (hb : Below W.heap.size W W') (hr : f.resultTypes = #[tb]) (ht : Tryd.prog.underlying tb = some .bool)
    (hv : s.vars = []) (hs : (s.fn H (ds ++ gs)).results = [.lit (.bool true)])
    (hargs : ∀ sp : Nat → Bool, DataW.TrodAll enc Tryd.prog W' 0 sp true f.params.toList args.toList (s.fn H (ds ++ gs)).args before)
    (hvars : (s.fn H (ds ++ gs)).vars = []) :
    s.post enc Tryd.prog f false true false false W args (.bool true) W' := by
  have hrl : ((Value.bool true).resultList f.resultTypes.size) = [.bool true] := by rw [hr]; rfl
  have hvr : ∀ sp, DataW.TrodVars enc Tryd.prog W' sp s.vars (s.fn H (ds ++ gs)).vars [] := by intro sp; rw [hv, hvars]; exact rfl
  have hres : ∀ (b : Nat) (sp : Nat → Bool) (hd : Bool), DataW.TrodAll enc Tryd.prog W' b sp hd f.resultTypes.toList ((Value.bool true).resultList f.resultTypes.size) (s.fn H (ds ++ gs)).results [] := by
    intro b sp hd; rw [hrl, hr, hs]; exact trodAll_cons_mk (shut_bool ht _) trodAll_mk0
  have hlt : ∀ p ∈ before, p.block < W.heap.size := fun p hp => by simpa using hW.lt p hp
  refine ⟨ds, gs, before, [], before, [], hW, hres _ _ _, hargs _, hvr _, World.keptBut_mono (fun p hp => ⟨hp, by simpa using hp⟩) (hb.frame (· ∈ before)), fun _ => ?_⟩
  obtain ⟨_, _, _, _, _, hz, hn⟩ := hW
  refine ⟨fun j t r h1 h2 => ?_, _, _, ([] ++ before) ++ [], ⟨[] ++ before, [], trodAll_append (hargs _) (hres _ _ _), hvr _, rfl, ?_, ?_⟩, ?_⟩
  · rw [hrl] at h2
    rw [hr] at h1
    match j, h1, h2 with
    | 0, h1, h2 =>
      obtain rfl : tb = t := by simpa using h1
      obtain rfl : Value.bool true = r := by simpa using h2
      exact okWide_bool_mk ht _
    | j + 1, h1, h2 => simp at h1
  · intro b off hp
    have hp' : MemPlace.cell b off ∈ before := by simpa using hp
    rw [hb.frozen (p := ⟨b, off, none⟩) (hlt _ hp')]
    exact hz b off hp'
  · intro ha
    have := hn ha
    simpa using this
  · intro p hp _
    simpa using hp
end Go.Proofs.YteffemhapnbaeaaDoor
