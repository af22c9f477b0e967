/-
  SpanOthers: for every span of numbers of up to 20 words, up to 500 bits or too many, and every integer, what is negated, cut outward, made of an integer, hulled, made of a number and scaled is the document's, and so are the signs: the law returns true. Conditions: the library's table math/bits.deBruijn64tab holds what the program's text lays (the card ties it).
-/
import Derived.Test.YteffemhapnbaeaaDoorTabS
import Derived.Test.YteffemhapnbaeaaDoorSoN
import Derived.Test.YteffemhapnbaeaaDoorArgsS
import Derived.Test.YteffemhapnbaeaaDoorArgsK
namespace Go.Proofs.YteffemhapnbaeaaDoor.spanOthersRow
open Go.ChangeShapes Go.WideShapes Go.ChangeAt Go.RowKit
set_option linter.unusedVariables false

set_option maxRecDepth 100000 in
theorem contract (H : Type) (enc : TypeId × Value → H) (W : World) (base : Nat) (args : Array Value) (ds gs : List (DataW H)) (before : List MemPlace)
    (hval : ∀ (j : Nat) t v, Tryd.f3.params[j]? = some t → args[j]? = some v → Value.okWide Tryd.prog W .any base t v)
    (hW : DataW.Whole enc Tryd.prog Tryd.f3.params.toList Rows.spanOthersSpec.vars false W args.toList ds gs before) (hL : laidMetH Tryd.prog Rows.spanOthersRow.laid W) :
    Calls Tryd.prog 3 args W fun e W' => ∃ v, e = .returned v ∧ Rows.spanOthersSpec.post enc Tryd.prog Tryd.f3 false true false false W args v W' := by
  have hW' := hW
  obtain ⟨p, q, hA0, hV, rfl, hfz, hnd⟩ := hW
  have hA : DataW.TrodAll enc Tryd.prog W 0 (fun _ => true) true Tryd.f3.params.toList args.toList ds p := hA0
  rw [Tryd.params3] at hA hval
  obtain ⟨v0, vs0, d0, ds0, p0, q0, hargs, rfl, rfl, h0, r0⟩ := trodAll_cons hA
  obtain ⟨v1, vs1, d1, ds1, p1, q1, rfl, rfl, rfl, h1, r1⟩ := trodAll_cons r0
  obtain ⟨v2, vs2, d2, ds2, p2, q2, rfl, rfl, rfl, h2, r2⟩ := trodAll_cons r1
  obtain ⟨rfl, rfl, rfl⟩ := trodAll_nil r2
  obtain rfl : args = #[v0, v1, v2] := by cases args; simp_all
  obtain ⟨rfl, rfl⟩ := trodVars_none hV
  have k0 := h0
  obtain ⟨P0, up0, rfl, jE0, jF0⟩ := open_kit (hval 0 _ v0 rfl rfl) h0
  have k1 := h1
  obtain ⟨s1, t1, A1, B1, n1, c1, m1, kk1, xs1, ys1, e1, f1, rfl, a1, b1⟩ := open_span (hval 1 _ v1 rfl rfl) h1
  obtain ⟨a2, rfl, rfl, rfl, w2⟩ := open_int Tryd.underlying2 (hval 2 2 v2 rfl rfl) h2
  have g2 := range_i64 w2
  clear hA0
  simp only [List.append_nil] at hW'
  try simp only [List.nil_append] at hW'
  have hlt := hW'.lt
  refine (spanOthers P0 up0 s1 t1 A1 B1 n1 c1 m1 kk1 xs1 ys1 e1 f1 a2 W a1 b1 (table hL) g2.1 g2.2).mono fun e W' ⟨he, hb⟩ => ?_
  subst he
  refine ⟨_, rfl, post_belowS hW' hb rfl Tryd.underlying4 rfl rfl (fun sp hsp => ?_) rfl⟩
  have t := (trodAll_cons_mk (stays rowsKit k0 hb (fun x hx => hlt x (by simp [hx])) (fun x hx => hsp x (by simp [hx]))) (trodAll_cons_mk (stays rowsSpan k1 hb (fun x hx => hlt x (by simp [hx])) (fun x hx => hsp x (by simp [hx]))) (trodAll_cons_mk (shut_int Tryd.underlying2 w2) (trodAll_mk0 (enc := enc) (P := Tryd.prog) (w := W') (base := 0) (spare := sp) (held := true)))))
  simp only [List.append_nil] at t
  try simp only [List.nil_append] at t
  exact t

theorem laid_met (os : Os) : laidMet Tryd.prog Rows.spanOthersRow.laid ((laidWorld os).forCall (fun _ _ => 0) ⟨#[], #[.agg #[.int .i64 0, .bool false], .agg #[.bool false, .slice none 0 0, .int .i64 0, .bool false, .slice none 0 0, .int .i64 0], .int .i64 0], []⟩).memory :=
  laidMet_of_run' 80 (by kernel_rfl) (by kernel_rfl)
theorem reads (os : Os) {H : Type} (enc : TypeId × Value → H) : ∃ places, DataW.whole enc Tryd.prog ((laidWorld os).forCall (fun _ _ => 0) ⟨#[], #[.agg #[.int .i64 0, .bool false], .agg #[.bool false, .slice none 0 0, .int .i64 0, .bool false, .slice none 0 0, .int .i64 0], .int .i64 0], []⟩).memory Tryd.f3.params.toList Rows.spanOthersSpec.vars false (#[Value.agg #[.int .i64 0, .bool false], Value.agg #[.bool false, .slice none 0 0, .int .i64 0, .bool false, .slice none 0 0, .int .i64 0], Value.int .i64 0] : Array Value).toList 8 = some ([.agg [.lit (.int .i64 0), .lit (.bool false)], .agg [.agg [.lit (.bool false), .nil, .lit (.int .i64 0)], .agg [.lit (.bool false), .nil, .lit (.int .i64 0)]], .lit (.int .i64 0)], [], places) :=
  ⟨[], by kernel_rfl⟩

set_option maxRecDepth 100000 in
theorem lifted (os : Os) (started : os.Started) (H : Type) (enc : TypeId × Value → H) (F : Stop.Interp) :
    ReturnsInHanded {} Tryd.checked os 3 .any ((OpenSpec.ofChange Rows.spanOthersSpec).preRow enc Tryd.prog Tryd.f3 Rows.spanOthersRow.domain false Rows.spanOthersRow.laid) (((OpenSpec.ofChange Rows.spanOthersSpec).at F).post enc Tryd.prog Tryd.f3 false true false false) := by
  obtain ⟨places, hx⟩ := reads os enc
  refine returnsInHanded_of_row (C := Tryd.checked) (s := OpenSpec.ofChange Rows.spanOthersSpec) own started (by kernel_rfl) Tryd.func3
    (witness_row_at (enc := enc) (C := Tryd.checked) false (laidWorld os) #[.agg #[.int .i64 0, .bool false], .agg #[.bool false, .slice none 0 0, .int .i64 0, .bool false, .slice none 0 0, .int .i64 0], .int .i64 0] rfl (by kernel_rfl) (by kernel_rfl) (by kernel_rfl)
      (OpenSpec.preRow_of_cond 8 hx (by kernel_rfl) (fun k hk => by cases hk) (by kernel_rfl) (laid_met os))) ?_
  intro W base args ds gs before hval hW _ _ _ hL _ _
  exact contract H enc W base args ds gs before hval hW hL

theorem said : Rows.SpanOthersSaid :=
  OpenClaim.holds_of_cond 3 Tryd.f3 rfl rfl rfl rfl rfl rfl rfl ⟨rfl, rfl, rfl, rfl, rfl⟩ rfl rfl rfl rfl rfl (by kernel_rfl) Tryd.func3 (by kernel_rfl)
    (of_decide_eq_true (by kernel_rfl)) (by unfold Func.isWrapper; first | (rw [if_pos (by decide +kernel)]; kernel_rfl) | (rw [if_neg (by decide +kernel)]; exact ⟨rfl, rfl⟩))
    (fun os started H enc _ F => by rw [OpenClaim.pre_eq_preRow]; exact lifted os started H enc F)

theorem plain (f : FuncId) (fn : Func) (hf : Tryd.pinned.checked.prog.funcNamed "volvelle/volvellelaw03.SpanOthers" = some f) (hfn : Tryd.pinned.checked.prog.funcs[f]? = some fn) :
    false = Tryd.pinned.checked.prog.looks [] ∧ ∀ (j : Nat) t, fn.params[j]? = some t → Tryd.pinned.checked.prog.wantsStandIn t = false := by
  obtain rfl : f = 3 := Option.some.inj ((show Tryd.prog.funcNamed "volvelle/volvellelaw03.SpanOthers" = some 3 by kernel_rfl).symm.trans hf) |>.symm
  obtain rfl : fn = Tryd.f3 := (Option.some.inj (Tryd.func3.symm.trans hfn)).symm
  refine ⟨by kernel_rfl, fun j t ht => ?_⟩
  rw [Tryd.params3] at ht
  have hm := Array.mem_of_getElem? ht
  simp only [List.mem_toArray, List.mem_cons, List.not_mem_nil, or_false] at hm
  rcases hm with rfl | rfl | rfl
  · exact (show Tryd.prog.wantsStandIn 23 = false by kernel_rfl)
  · exact (show Tryd.prog.wantsStandIn 28 = false by kernel_rfl)
  · exact (show Tryd.prog.wantsStandIn 2 = false by kernel_rfl)

/-- The card. -/
theorem card : Rows.SpanOthersCardSaid :=
  Claim7.holds_tied_plain_at .later [] _ _ _ _ said (fun _ h => by cases h) (by kernel_rfl) (fun _ h => by cases h) spanOthers_row_tie rfl ⟨rfl, rfl⟩ (by kernel_rfl) rfl plain (by kernel_rfl)
end Go.Proofs.YteffemhapnbaeaaDoor.spanOthersRow
namespace Go.Proofs.YteffemhapnbaeaaDoor
theorem spanOthers_holds : Rows.SpanOthersCardSaid := spanOthersRow.card
#print axioms spanOthers_holds
end Go.Proofs.YteffemhapnbaeaaDoor
