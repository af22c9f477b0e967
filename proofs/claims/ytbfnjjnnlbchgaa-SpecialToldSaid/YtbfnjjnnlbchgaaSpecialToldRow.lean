/-
  SpecialTold: for every tag and every four words what is special, its words and its flags are the document's: the law returns true. No conditions.
-/
import Derived.Test.YtbfnjjnnlbchgaaTabP
import Derived.Test.YtbfnjjnnlbchgaaSpK
import Derived.Test.YtbfnjjnnlbchgaaArgsF
namespace Go.Proofs.Ytbfnjjnnlbchgaa.specialToldRow
open Go.ChangeShapes Go.WideShapes Go.ChangeAt Go.RowKit
set_option linter.unusedVariables false

set_option maxRecDepth 100000 in
theorem contract (H : Type) (enc : TypeId × Value → H) (W : World) (base : Nat) (args : Array Value) (ds gs : List (DataW H)) (before : List MemPlace)
    (hval : ∀ (j : Nat) t v, Try.f3.params[j]? = some t → args[j]? = some v → Value.okWide Try.prog W .any base t v)
    (hW : DataW.Whole enc Try.prog Try.f3.params.toList Rows.specialToldSpec.vars false W args.toList ds gs before) :
    Calls Try.prog 3 args W fun e W' => ∃ v, e = .returned v ∧ Rows.specialToldSpec.post enc Try.prog Try.f3 false true false false W args v W' := by
  have hW' := hW
  obtain ⟨p, q, hA0, hV, rfl, hfz, hnd⟩ := hW
  have hA : DataW.TrodAll enc Try.prog W 0 (fun _ => true) true Try.f3.params.toList args.toList ds p := hA0
  rw [Try.params3] at hA hval
  obtain ⟨v0, vs0, d0, ds0, p0, q0, hargs, rfl, rfl, h0, r0⟩ := trodAll_cons hA
  obtain ⟨v1, vs1, d1, ds1, p1, q1, rfl, rfl, rfl, h1, r1⟩ := trodAll_cons r0
  obtain ⟨rfl, rfl, rfl⟩ := trodAll_nil r1
  obtain rfl : args = #[v0, v1] := by cases args; simp_all
  obtain ⟨rfl, rfl⟩ := trodVars_none hV
  obtain ⟨a0, rfl, rfl, rfl, w0⟩ := open_int Try.underlying3 (hval 0 3 v0 rfl rfl) h0
  have g0 := range_i64 w0
  have k1 := h1
  obtain ⟨x1, y1, u1, z1, rfl, gx1, gy1, gu1, gz1⟩ := open_four (hval 1 _ v1 rfl rfl) h1
  clear hA0
  simp only [List.append_nil] at hW'
  try simp only [List.nil_append] at hW'
  have hlt := hW'.lt
  refine (specialTold a0 x1 y1 u1 z1 W gx1 gy1 gu1 gz1).mono fun e W' ⟨he, hb⟩ => ?_
  subst he
  refine ⟨_, rfl, post_belowS hW' hb rfl Try.underlying4 rfl rfl (fun sp hsp => ?_) rfl⟩
  have t := (trodAll_cons_mk (shut_int Try.underlying3 w0) (trodAll_cons_mk (stays rowsFour k1 hb (fun x hx => hlt x (by simp [hx])) (fun x hx => hsp x (by simp [hx]))) (trodAll_mk0 (enc := enc) (P := Try.prog) (w := W') (base := 0) (spare := sp) (held := true))))
  simp only [List.append_nil] at t
  try simp only [List.nil_append] at t
  exact t

set_option maxRecDepth 100000 in
theorem lifted (os : Os) (started : os.Started) (H : Type) (enc : TypeId × Value → H) :
    ReturnsInHanded {} Try.checked os 3 .any (Rows.specialToldSpec.pre6 enc Try.prog Try.f3 Rows.specialToldRow.domain false) (Rows.specialToldSpec.post enc Try.prog Try.f3 false true false false) := by
  refine returnsInHanded_of_change (C := Try.checked) own started (by kernel_rfl) Try.func3
    (ChangeSpec.witness6 (enc := enc) (C := Try.checked) false ⟨#[], #[.int .i64 0, .agg #[.int .u64 0, .int .u64 0, .int .u64 0, .int .u64 0]], []⟩ 8 (by kernel_rfl) (by kernel_rfl) (by kernel_rfl) (by kernel_rfl)) ?_
  intro W base args ds gs before hval hW _ _
  exact contract H enc W base args ds gs before hval hW

theorem said : Rows.SpecialToldSaid :=
  OpenClaim.holds_of_wide 3 Try.f3 rfl rfl rfl rfl rfl rfl rfl ⟨rfl, rfl, rfl, rfl, rfl⟩ rfl rfl rfl rfl rfl (by kernel_rfl) Try.func3 (by kernel_rfl)
    (of_decide_eq_true (by kernel_rfl)) (by unfold Func.isWrapper; first | (rw [if_pos (by decide +kernel)]; kernel_rfl) | (rw [if_neg (by decide +kernel)]; exact ⟨rfl, rfl⟩))
    (fun os started H enc _ => lifted os started H enc)
end Go.Proofs.Ytbfnjjnnlbchgaa.specialToldRow
namespace Go.Proofs.Ytbfnjjnnlbchgaa
theorem specialTold_holds : Rows.SpecialToldSaid := specialToldRow.said
#print axioms specialTold_holds
end Go.Proofs.Ytbfnjjnnlbchgaa
