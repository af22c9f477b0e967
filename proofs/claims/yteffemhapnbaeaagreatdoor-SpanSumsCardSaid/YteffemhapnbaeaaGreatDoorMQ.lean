/- A text of ours, with only what the claim's row needs (wip/tools/shake.py). -/
import Derived.Test.YteffemhapnbaeaaGreatDoorMN
import Derived.Test.YteffemhapnbaeaaGreatDoorME
import Derived.Test.YteffemhapnbaeaaGreatDoorML
namespace Go.Proofs.YteffemhapnbaeaaGreatDoor
open Go.RowKit Num
set_option maxRecDepth 100000

def loF (a : Int) (d : DV) : Int := if d.n = 0 then a else min a d.e
def hiF (a : Int) (d : DV) : Int := if d.n = 0 then a else max a d.e
def smF (neg : Bool) (L : Int) (a : Int) (d : DV) : Int := if d.n = 0 then a else if d.neg = neg then a + val d.xs * 2 ^ (d.e - L).toNat else a
def lo (l : List DV) : Int := l.foldl loF 262144
def hi (l : List DV) : Int := l.foldl hiF (-262144)
def sm (neg : Bool) (L : Int) (l : List DV) : Int := l.foldl (smF neg L) 0
def sumD (l : List DV) : Option Dy :=
  if l.all DV.plain then
    if hi l - lo l > 262144 then none
    else if sm true (lo l) l ≤ sm false (lo l) l then mkD false (sm false (lo l) l - sm true (lo l) l) (lo l)
    else mkD true (sm true (lo l) l - sm false (lo l) l) (lo l)
  else none
theorem no2 {A0 A1 : Option Addr} {n0 c0 n1 c1 : Nat} : ∀ (i : Nat) (x : Int), (#[Value.slice A0 n0 c0, .slice A1 n1 c1] : Array Value)[i]? ≠ some (Value.int .u64 x)
  | 0, _ => by simp
  | 1, _ => by simp
  | i + 2, _ => by simp
theorem fold_take {α : Type} (f : α → DV → α) (a : α) (l : List DV) (i : Nat) (h : i < l.length) : (l.take (i + 1)).foldl f a = f ((l.take i).foldl f a) l[i] := by
  rw [List.take_add_one, List.getElem?_eq_getElem h]
  simp only [Option.toList_some, List.foldl_append, List.foldl_cons, List.foldl_nil]
theorem lo_le (l : List DV) : ∀ a, l.foldl loF a ≤ a := by
  induction l with
  | nil => intro a; exact Int.le_refl _
  | cons d l ih =>
    intro a
    have := ih (loF a d)
    have h2 : loF a d ≤ a := by unfold loF; split <;> omega
    simp only [List.foldl_cons]
    omega
theorem lo_mem (l : List DV) : ∀ a, ∀ d ∈ l, d.n ≠ 0 → l.foldl loF a ≤ d.e := by
  induction l with
  | nil => intro a d hd; cases hd
  | cons x l ih =>
    intro a d hd hn
    simp only [List.foldl_cons]
    rcases List.mem_cons.1 hd with rfl | hd
    · have := lo_le l (loF a d)
      have h2 : loF a d ≤ d.e := by unfold loF; rw [if_neg hn]; omega
      omega
    · exact ih _ d hd hn
theorem lo_ge (l : List DV) (h : ∀ d ∈ l, -262144 ≤ d.e) : ∀ a, -262144 ≤ a → -262144 ≤ l.foldl loF a := by
  induction l with
  | nil => intro a ha; exact ha
  | cons x l ih =>
    intro a ha
    simp only [List.foldl_cons]
    have hx := h x (List.mem_cons_self)
    exact ih (fun d hd => h d (List.mem_cons_of_mem _ hd)) _ (by unfold loF; split <;> omega)
theorem hi_ge (l : List DV) : ∀ a, a ≤ l.foldl hiF a := by
  induction l with
  | nil => intro a; exact Int.le_refl _
  | cons d l ih =>
    intro a
    have := ih (hiF a d)
    have h2 : a ≤ hiF a d := by unfold hiF; split <;> omega
    simp only [List.foldl_cons]
    omega
theorem hi_mem (l : List DV) : ∀ a, ∀ d ∈ l, d.n ≠ 0 → d.e ≤ l.foldl hiF a := by
  induction l with
  | nil => intro a d hd; cases hd
  | cons x l ih =>
    intro a d hd hn
    simp only [List.foldl_cons]
    rcases List.mem_cons.1 hd with rfl | hd
    · have := hi_ge l (hiF a d)
      have h2 : d.e ≤ hiF a d := by unfold hiF; rw [if_neg hn]; omega
      omega
    · exact ih _ d hd hn
theorem hi_le (l : List DV) (h : ∀ d ∈ l, d.e ≤ 262144) : ∀ a, a ≤ 262144 → l.foldl hiF a ≤ 262144 := by
  induction l with
  | nil => intro a ha; exact ha
  | cons x l ih =>
    intro a ha
    simp only [List.foldl_cons]
    have hx := h x (List.mem_cons_self)
    exact ih (fun d hd => h d (List.mem_cons_of_mem _ hd)) _ (by unfold hiF; split <;> omega)
theorem sm_nonneg (neg : Bool) (L : Int) (l : List DV) (h : ∀ d ∈ l, 0 ≤ val d.xs) : ∀ a, 0 ≤ a → 0 ≤ l.foldl (smF neg L) a := by
  induction l with
  | nil => intro a ha; exact ha
  | cons x l ih =>
    intro a ha
    simp only [List.foldl_cons]
    have hx := h x (List.mem_cons_self)
    have := Int.mul_nonneg hx (Int.le_of_lt (pw_pos (x.e - L).toNat))
    refine ih (fun d hd => h d (List.mem_cons_of_mem _ hd)) _ ?_
    unfold smF
    split
    · exact ha
    · split
      · show 0 ≤ a + val x.xs * pw (x.e - L).toNat
        omega
      · exact ha
set_option maxHeartbeats 4000000 in
theorem dsumA (SA : Option Addr) (m cap : Nat) (l : List DV) (hm : l.length = m) (w : World) (h : DVA w SA l) (hl : m ≤ 100000) (hT : Tz w) :
    Calls Tryz.prog 75 #[.slice SA m cap] w (RetD (sumD l) w) := by
  subst hm
  have b1 := below_alloc (below_self w) (.cells #[.bool false, .slice none 0 0, .int .i64 0] 26)
  have br := box_new w #[.bool false, .slice none 0 0, .int .i64 0] 26
  have D1 := h.later b1
  have PL := Lib.hid (dplainA SA l.length cap l rfl _ D1 (by omega))
  cases hpl : l.all DV.plain
  · rw [hpl] at PL
    have er : sumD l = none := by unfold sumD; rw [hpl]; rfl
    rw [er]
    clear er
    go_enter Tryz.func75, Tryz.ntmps75
    go_wp2_with fail
    refine PL.out.mono ?_; rintro r w3 ⟨rfl, hb3⟩
    have br3 := br.later hb3
    have hw3 := below_on b1 hb3
    obtain ⟨z0, z1, z2, y0, y1, y2⟩ := br3.cell3
    go_wp2_with fail
    refine bodyPost_ret (v := .tuple #[.agg #[.bool false, .slice none 0 0, .int .i64 0], .bool false]) (by simp [results, Tryz.results75, go_sem, z0, z1, z2]) rfl ?_
    exact retD_set (o := none) (arr_no _) br3 hw3 (by omega)
  · rw [hpl] at PL
    have hall : ∀ d ∈ l, d.plain = true := fun d hd => List.all_eq_true.1 hpl d hd
    have hD : ∀ j (hj : j < l.length), PD ⟨(l[j]).neg, val (l[j]).xs, (l[j]).e⟩ ∧ (l[j]).xs.length ≤ 256 := fun j hj => by
      have hp := plainB_parts (h.ok j hj).wf (hall _ (List.getElem_mem hj))
      exact ⟨hp.1, hp.2.1⟩
    have hDm : ∀ d ∈ l, PD ⟨d.neg, val d.xs, d.e⟩ ∧ d.xs.length ≤ 256 := fun d hd => by
      obtain ⟨j, hj, rfl⟩ := List.mem_iff_getElem.1 hd
      exact hD j hj
    have L0 := lo_le l 262144
    have L1 := lo_ge l (fun d hd => (hDm d hd).1.lo) 262144 (by omega)
    have M0 := hi_ge l (-262144)
    have M1 := hi_le l (fun d hd => (hDm d hd).1.hi) (-262144) (by omega)
    have LM := lo_mem l 262144
    have MM := hi_mem l (-262144)
    have er : sumD l = if hi l - lo l > 262144 then none
        else if sm true (lo l) l ≤ sm false (lo l) l then mkD false (sm false (lo l) l - sm true (lo l) l) (lo l)
        else mkD true (sm true (lo l) l - sm false (lo l) l) (lo l) := by unfold sumD; rw [hpl]; rfl
    generalize hso : sumD l = so at *
    have ER := Lib.hid er
    clear hso hall hDm er
    have FL := Lib.hid (fun i hi' => fold_take loF 262144 l i hi')
    have FH := Lib.hid (fun i hi' => fold_take hiF (-262144) l i hi')
    have HD := Lib.hid hD
    have HLM := Lib.hid LM
    have HMM := Lib.hid MM
    clear hD hpl LM MM
    go_enter Tryz.func75, Tryz.ntmps75
    go_wp2_with fail
    refine PL.out.mono ?_; rintro r w3 ⟨rfl, hb3⟩
    clear PL
    go_wp2_with fail
    go_loopw [4, 5, 22] (fun vl vm vi wr => ∃ i : Nat, i ≤ l.length ∧ vi = .int .i64 i ∧ vl = .int .i64 ((l.take i).foldl loF 262144) ∧ vm = .int .i64 ((l.take i).foldl hiF (-262144)) ∧ Below (w.alloc (.cells #[.bool false, .slice none 0 0, .int .i64 0] 26)).heap.size (w.alloc (.cells #[.bool false, .slice none 0 0, .int .i64 0] 26)) wr) (fun _ _ vi _ => l.length - (intOf vi).toNat)
    case atStart => exact ⟨0, Nat.zero_le _, rfl, rfl, rfl, hb3⟩
    case round =>
      clear hb3
      obtain ⟨i, hi', rfl, rfl, rfl, hW⟩ := hrel
      by_cases h0 : i < l.length
      · have hD3 := D1.later hW
        obtain ⟨g, o, rfl, -, hd0, hd1, hd2⟩ := hD3.mem (by omega)
        have k0 := hd0 i h0
        have k1 := hd1 i h0
        have k2 := hd2 i h0
        clear hd0 hd1 hd2
        have ho := hD3.ok i h0
        have fl := FL.out i h0
        have fh := FH.out i h0
        have hd := HD.out i h0
        have he0 := hd.1.lo
        have he1 := hd.1.hi
        simp only at he0 he1
        generalize l[i] = x at *
        obtain ⟨neg, A, n, c, xs, e⟩ := x
        have bx := box_new wr #[.bool neg, .slice A n c, .int .i64 e] 26
        have bW := below_alloc hW (.cells #[.bool neg, .slice A n c, .int .i64 e] 26)
        have FLi := Lib.hid fl
        have FHi := Lib.hid fh
        simp only at k0 k1 k2 he0 he1
        obtain ⟨z0, z1, z2, y0, y1, y2⟩ := bx.cell3
        clear fl fh ho hd
        generalize (l.take i).foldl loF 262144 = a at *
        generalize (l.take i).foldl hiF (-262144) = b at *
        by_cases hn : n = 0
        · subst hn
          go_wp2_with fail
          exact ⟨⟨i + 1, by omega, by go_num, by rw [FLi.out]; rfl, by rw [FHi.out]; rfl, bW⟩, by simp only [intOf]; omega⟩
        · have dn : decide ((n : Int) > 0) = true := by simp; omega
          go_wp2_with fail
          go_region_held3 (fun w' => w'.cell? ⟨wr.heap.size, 2, none⟩ = some (.int .i64 e)) (go_keep) (first | fail)
          all_goals
            go_wp2_with fail
            exact ⟨⟨i + 1, by omega, by go_num, by rw [FLi.out]; unfold loF; simp only; rw [if_neg hn], by rw [FHi.out]; unfold hiF; simp only; rw [if_neg hn], (by repeat (first | with_reducible assumption | with_reducible exact below_self _ | with_reducible refine below_drewN ?_ _ | with_reducible apply Below.drew | with_reducible refine below_alloc ?_ _))⟩, by simp only [intOf]; omega⟩
      · obtain rfl : i = l.length := by omega
        have el : (l.take l.length).foldl loF 262144 = lo l := by rw [List.take_length]; rfl
        have eh : (l.take l.length).foldl hiF (-262144) = hi l := by rw [List.take_length]; rfl
        rw [el, eh]
        have L0' : lo l ≤ 262144 := L0
        have L1' : -262144 ≤ lo l := L1
        have M0' : -262144 ≤ hi l := M0
        have M1' : hi l ≤ 262144 := M1
        have hLM : ∀ d ∈ l, d.n ≠ 0 → lo l ≤ d.e := HLM.out
        have hMM : ∀ d ∈ l, d.n ≠ 0 → d.e ≤ hi l := HMM.out
        have HLM := Lib.hid hLM
        have HMM := Lib.hid hMM
        clear el eh L0 L1 M0 M1 hLM hMM FL FH
        have hw3 := below_on b1 hW
        have br3 := br.later hW
        obtain ⟨z0, z1, z2, y0, y1, y2⟩ := br3.cell3
        by_cases hwide : hi l - lo l > 262144
        · have eo := ER.out
          rw [if_pos hwide] at eo
          subst eo
          generalize lo l = L at *
          generalize hi l = M at *
          have dW : decide (M - L > 262144) = true := by simp; omega
          go_wp2_with fail
          refine bodyPost_ret (v := .tuple #[.agg #[.bool false, .slice none 0 0, .int .i64 0], .bool false]) (by simp [results, Tryz.results75, go_sem, z0, z1, z2]) rfl ?_
          exact retD_set (o := none) (arr_no _) br3 hw3 (by omega)
        · have eo := ER.out
          rw [if_neg hwide] at eo
          have SM := Lib.hid (fun (ng : Bool) i hi' => fold_take (smF ng (lo l)) 0 l i hi')
          have EO := Lib.hid eo
          clear eo ER z0 z1 z2 y0 y1 y2
          generalize hLe : lo l = L at *
          generalize hi l = M at *
          have dW : decide (M - L > 262144) = false := by simp; omega
          have hW0 := hW
          have gsl : wr.heap.size = wr.heap.size := rfl
          have bs := box_new wr #[.slice none 0 0, .slice none 0 0] 105
          have bW := below_alloc hW (.cells #[.slice none 0 0, .slice none 0 0] 105)
          have hgs : (w.alloc (.cells #[.bool false, .slice none 0 0, .int .i64 0] 26)).heap.size ≤ wr.heap.size := hW.size
          clear hW hW0 gsl hw3 br3
          have hsn : ∀ (ng : Bool) i, 0 ≤ (l.take i).foldl (smF ng L) 0 := fun ng i => sm_nonneg ng L (l.take i) (fun d hd => by
            obtain ⟨j, hj, rfl⟩ := List.mem_iff_getElem.1 (List.mem_of_mem_take hd)
            exact (HD.out j hj).1.nn) 0 (Int.le_refl _)
          have HSN := Lib.hid hsn
          clear hsn
          go_wp2_with fail
          generalize wr.heap.size = gs at *
          go_loopw [46] (fun vi w2 => ∃ (i : Nat) (A0 : Option Addr) (n0 c0 : Nat) (A1 : Option Addr) (n1 c1 : Nat), i ≤ l.length ∧ vi = .int .i64 i ∧ Box w2 gs #[.slice A0 n0 c0, .slice A1 n1 c1] 105 ∧ Arr w2 A0 n0 c0 (wd ((l.take i).foldl (smF false L) 0)) ∧ Arr w2 A1 n1 c1 (wd ((l.take i).foldl (smF true L) 0)) ∧ n0 ≤ 5000 + i ∧ n1 ≤ 5000 + i ∧ Below (w.alloc (.cells #[.bool false, .slice none 0 0, .int .i64 0] 26)).heap.size (w.alloc (.cells #[.bool false, .slice none 0 0, .int .i64 0] 26)) w2) (fun vi _ => l.length - (intOf vi).toNat)
          case atStart => exact ⟨0, none, 0, 0, none, 0, 0, Nat.zero_le _, rfl, bs, by rw [show (l.take 0).foldl (smF false L) 0 = 0 from rfl, wd_zero (Int.le_refl _)]; exact Arr.nothing _, by rw [show (l.take 0).foldl (smF true L) 0 = 0 from rfl, wd_zero (Int.le_refl _)]; exact Arr.nothing _, by omega, by omega, bW⟩
          case round =>
            clear bs bW
            obtain ⟨i, A0, n0, c0, A1, n1, c1, hi', rfl, bs, a0, a1, hn0, hn1, hW⟩ := hrel
            have s0 := HSN.out false i
            have s1 := HSN.out true i
            by_cases h0 : i < l.length
            · have hD3 := D1.later hW
              obtain ⟨g, o, rfl, -, hd0, hd1, hd2⟩ := hD3.mem (by omega)
              have k0 := hd0 i h0
              have k1 := hd1 i h0
              have k2 := hd2 i h0
              clear hd0 hd1 hd2
              have ho := hD3.ok i h0
              have sm0 := SM.out false i h0
              have sm1 := SM.out true i h0
              have hd := HD.out i h0
              have hmem := List.getElem_mem h0
              have hlm := HLM.out _ hmem
              have hmm := HMM.out _ hmem
              generalize l[i] = x at *
              obtain ⟨neg, A, n, c, xs, e⟩ := x
              simp only at k0 k1 k2 hlm hmm hd
              obtain ⟨pd, hx256⟩ := hd
              have he0 := pd.lo
              have he1 := pd.hi
              have hv := pd.nn
              simp only at he0 he1 hv
              have hxl := ho.len
              simp only at hxl
              have HS0 := Lib.hid sm0
              have HS1 := Lib.hid sm1
              clear sm0 sm1 hmem pd HD
              generalize hf0 : (l.take i).foldl (smF false L) 0 = t0 at *
              generalize hf1 : (l.take i).foldl (smF true L) 0 = t1 at *
              clear hf0 hf1
              by_cases hn : n = 0
              · subst hn
                cases neg
                all_goals
                  go_wp2_with fail
                  exact ⟨⟨i + 1, A0, n0, c0, A1, n1, c1, by omega, by go_num, bs.later (below_alloc (below_self _) _), by rw [HS0.out]; exact a0.below (below_alloc (below_self _) _), by rw [HS1.out]; exact a1.below (below_alloc (below_self _) _), by omega, by omega, (by repeat (first | with_reducible assumption | with_reducible exact below_self _ | with_reducible refine below_drewN ?_ _ | with_reducible apply Below.drew | with_reducible refine below_alloc ?_ _))⟩, by simp only [intOf]; omega⟩
              · have dn : decide ((n : Int) > 0) = true := by simp; omega
                have hlo := hlm hn
                have hhi := hmm hn
                have bx := box_new wr #[.bool neg, .slice A n c, .int .i64 e] 26
                have bW2 := below_alloc (below_self wr) (.cells #[.bool neg, .slice A n c, .int .i64 e] 26)
                have bs2 := bs.later bW2
                have hW2 := hW.trans (bW2.mono hW.size)
                have KS : ∀ w', Below (wr.alloc (.cells #[.bool neg, .slice A n c, .int .i64 e] 26)).heap.size (wr.alloc (.cells #[.bool neg, .slice A n c, .int .i64 e] 26)) w' → Box w' gs #[.slice A0 n0 c0, .slice A1 n1 c1] 105 ∧ Box w' wr.heap.size #[.bool neg, .slice A n c, .int .i64 e] 26 ∧ Arr w' A0 n0 c0 (wd t0) ∧ Arr w' A1 n1 c1 (wd t1) := fun w' hb => ⟨bs2.later hb, bx.later hb, (a0.below bW2).below hb, (a1.below bW2).below hb⟩
                have KC : ∀ w', Below (wr.alloc (.cells #[.bool neg, .slice A n c, .int .i64 e] 26)).heap.size (wr.alloc (.cells #[.bool neg, .slice A n c, .int .i64 e] 26)) w' → (w'.cell? ⟨gs, 0, none⟩ = some (.slice A0 n0 c0) ∧ w'.cell? ⟨gs, 1, none⟩ = some (.slice A1 n1 c1) ∧ w'.cell? ⟨wr.heap.size, 1, none⟩ = some (.slice A n c) ∧ w'.cell? ⟨wr.heap.size, 2, none⟩ = some (.int .i64 e) ∧ w'.frozen? ⟨gs, 0, none⟩ = false ∧ w'.frozen? ⟨gs, 1, none⟩ = false) := fun w' hb => ⟨(bs2.later hb).cell 0, (bs2.later hb).cell 1, (bx.later hb).cell 1, (bx.later hb).cell 2, (bs2.later hb).free 0, (bs2.later hb).free 1⟩
                have hY0 : 0 ≤ val xs * 2 ^ (e - L).toNat := Int.mul_nonneg hv (Int.le_of_lt (pw_pos _))
                have hYl : (wd (val xs * 2 ^ (e - L).toNat)).length ≤ 5000 := by
                  refine wd_length_le hY0 ?_
                  have z1 : val xs < pw (64 * 256) := by
                    rw [← B_pow_pw]
                    exact Int.lt_of_lt_of_le (val_lt ho.wf) (B_pow_le hx256)
                  have z2 : val xs * pw (e - L).toNat < pw (64 * 256) * pw (e - L).toNat := Int.mul_lt_mul_of_pos_right z1 (pw_pos _)
                  rw [← pw_add] at z2
                  rw [B_pow_pw]
                  exact Int.lt_of_lt_of_le z2 (pw_le (by omega))
                have vY := val_wd _ hY0
                have SX : ∀ (w1 : World) (hb : Below (wr.alloc (.cells #[.bool neg, .slice A n c, .int .i64 e] 26)).heap.size (wr.alloc (.cells #[.bool neg, .slice A n c, .int .i64 e] 26)) w1), Calls Tryz.prog 100 #[.slice A n c, .int .i64 (e - L)] w1 fun r w5 => ∃ A5 n5 c5, r = .returned (.slice A5 n5 c5) ∧ Arr w5 A5 n5 c5 (wd (val xs * 2 ^ (e - L).toNat)) ∧ Below (wr.alloc (.cells #[.bool neg, .slice A n c, .int .i64 e] 26)).heap.size (wr.alloc (.cells #[.bool neg, .slice A n c, .int .i64 e] 26)) w5 := by
                  intro w1 hb
                  have S := shl A n c xs (e - L) w1 ((ho.below bW2).below hb) (by omega) (by omega) (by omega)
                  rw [shlI_eq (by omega) (by omega)] at S
                  refine S.mono ?_
                  rintro r w5 ⟨A5, n5, c5, rfl, ha, hb5⟩
                  exact ⟨A5, n5, c5, rfl, ha, below_on hb hb5⟩
                have AD : ∀ (B0 : Option Addr) (m0 d0 : Nat) (tt : Int) (_ : 0 ≤ tt) (_ : m0 ≤ 5000 + i) (A5 : Option Addr) (n5 c5 : Nat) (w1 : World) (_ : Arr w1 A5 n5 c5 (wd (val xs * 2 ^ (e - L).toNat))) (hb : Below (wr.alloc (.cells #[.bool neg, .slice A n c, .int .i64 e] 26)).heap.size (wr.alloc (.cells #[.bool neg, .slice A n c, .int .i64 e] 26)) w1) (_ : Arr w1 B0 m0 d0 (wd tt)), Calls Tryz.prog 108 #[.slice B0 m0 d0, .slice A5 n5 c5] w1 fun r w6 => ∃ A6 n6 c6, r = .returned (.slice A6 n6 c6) ∧ Arr w6 A6 n6 c6 (wd (tt + val xs * 2 ^ (e - L).toNat)) ∧ n6 ≤ 5000 + (i + 1) ∧ Below (wr.alloc (.cells #[.bool neg, .slice A n c, .int .i64 e] 26)).heap.size (wr.alloc (.cells #[.bool neg, .slice A n c, .int .i64 e] 26)) w6 := by
                  intro B0 m0 d0 tt ht0 hm0 A5 n5 c5 w1 ha hb hB
                  have q1 := ha.len
                  have q2 := hB.len
                  have q3 := wd_sum_len hB.wf ha.wf (k := 5000 + i) (by omega) (by omega)
                  have S := add B0 A5 m0 d0 n5 c5 _ _ w1 hB ha (by omega) (by omega)
                  have vt := val_wd tt ht0
                  rw [vt, vY] at S q3
                  refine S.mono ?_
                  rintro r w6 ⟨A6, n6, c6, rfl, h6, hb6⟩
                  have q4 := h6.len
                  exact ⟨A6, n6, c6, rfl, h6.arr, by omega, below_on hb hb6⟩
                have KS := Lib.hid KS
                have KC := Lib.hid KC
                have SX := Lib.hid SX
                have AD0 := Lib.hid (fun A5 n5 c5 w1 a b => AD A0 n0 c0 t0 s0 hn0 A5 n5 c5 w1 a b (KS.out w1 b).2.2.1)
                have AD1 := Lib.hid (fun A5 n5 c5 w1 a b => AD A1 n1 c1 t1 s1 hn1 A5 n5 c5 w1 a b (KS.out w1 b).2.2.2)
                have W1f : IntKind.i64.wrap (e - L) = e - L := by rw [IntKind.wrap_i64]; omega
                have e0 : smF false L t0 ⟨neg, A, n, c, xs, e⟩ = if neg = false then t0 + val xs * 2 ^ (e - L).toNat else t0 := by unfold smF; simp only; rw [if_neg hn]
                have e1 : smF true L t1 ⟨neg, A, n, c, xs, e⟩ = if neg = true then t1 + val xs * 2 ^ (e - L).toNat else t1 := by unfold smF; simp only; rw [if_neg hn]
                have E0 := Lib.hid e0
                have E1 := Lib.hid e1
                clear AD e0 e1 vY hY0 hYl ho hv bx bs2 bW2 a0 a1 bs hW hlm hmm
                generalize val xs * 2 ^ (e - L).toNat = Y at *
                cases neg
                · go_wp2_with fail
                  obtain ⟨y0, y1, y2, y3, y4, y5⟩ := KC.out _ (below_self _)
                  generalize (wr.alloc (.cells #[.bool false, .slice A n c, .int .i64 e] 26)) = V at *
                  generalize wr.heap.size = ds at *
                  go_region_with (first | (go_at_call 100; refine (SX.out _ ?_).mono ?_; (repeat (first | with_reducible assumption | with_reducible exact below_self _ | with_reducible refine below_drewN ?_ _ | with_reducible apply Below.drew | with_reducible refine below_alloc ?_ _)); rintro r w5 ⟨A5, n5, c5, rfl, hA5, hb5⟩; obtain ⟨x0, x1, x2, x3, x4, x5⟩ := KC.out w5 hb5) | (go_at_call 108; refine (AD0.out _ _ _ _ hA5 ?_).mono ?_; (repeat (first | with_reducible assumption | with_reducible exact below_self _ | with_reducible refine below_drewN ?_ _ | with_reducible apply Below.drew | with_reducible refine below_alloc ?_ _)); rintro r w6 ⟨A6, n6, c6, rfl, h6, hn6, hb6⟩; obtain ⟨u0, u1, u2, u3, u4, u5⟩ := KC.out w6 hb6))
                  all_goals
                    obtain ⟨r1, r2, r3, r4⟩ := KS.out w6 hb6
                    have hW6 := hW2.trans (hb6.mono hW2.size)
                    clear u0 u1 u2 u3 u4 u5 x0 x1 x2 x3 x4 x5 y0 y1 y2 y3 y4 y5 SX AD0 AD1 KC KS
                    go_wp2_with fail
                    exact ⟨⟨i + 1, A6, n6, c6, A1, n1, c1, by omega, by go_num, r1.set 0 _, by (rw [HS0.out, E0.out]; first | rw [if_pos rfl] | rw [if_pos trivial]); exact h6.set_box r1 no2 0 _, by rw [HS1.out, E1.out, if_neg (by simp)]; exact r4.set_box r1 no2 0 _, hn6, by omega, hW6.setCell hgs _⟩, by simp only [intOf]; omega⟩
                · go_wp2_with fail
                  obtain ⟨y0, y1, y2, y3, y4, y5⟩ := KC.out _ (below_self _)
                  generalize (wr.alloc (.cells #[.bool true, .slice A n c, .int .i64 e] 26)) = V at *
                  generalize wr.heap.size = ds at *
                  go_region_with (first | (go_at_call 100; refine (SX.out _ ?_).mono ?_; (repeat (first | with_reducible assumption | with_reducible exact below_self _ | with_reducible refine below_drewN ?_ _ | with_reducible apply Below.drew | with_reducible refine below_alloc ?_ _)); rintro r w5 ⟨A5, n5, c5, rfl, hA5, hb5⟩; obtain ⟨x0, x1, x2, x3, x4, x5⟩ := KC.out w5 hb5) | (go_at_call 108; refine (AD1.out _ _ _ _ hA5 ?_).mono ?_; (repeat (first | with_reducible assumption | with_reducible exact below_self _ | with_reducible refine below_drewN ?_ _ | with_reducible apply Below.drew | with_reducible refine below_alloc ?_ _)); rintro r w6 ⟨A6, n6, c6, rfl, h6, hn6, hb6⟩; obtain ⟨u0, u1, u2, u3, u4, u5⟩ := KC.out w6 hb6))
                  all_goals
                    obtain ⟨r1, r2, r3, r4⟩ := KS.out w6 hb6
                    have hW6 := hW2.trans (hb6.mono hW2.size)
                    clear u0 u1 u2 u3 u4 u5 x0 x1 x2 x3 x4 x5 y0 y1 y2 y3 y4 y5 SX AD0 AD1 KC KS
                    go_wp2_with fail
                    exact ⟨⟨i + 1, A0, n0, c0, A6, n6, c6, by omega, by go_num, r1.set 1 _, by rw [HS0.out, E0.out, if_neg (by simp)]; exact r3.set_box r1 no2 1 _, by (rw [HS1.out, E1.out]; first | rw [if_pos rfl] | rw [if_pos trivial]); exact h6.set_box r1 no2 1 _, by omega, hn6, hW6.setCell hgs _⟩, by simp only [intOf]; omega⟩
            · obtain rfl : i = l.length := by omega
              have f0 : (l.take l.length).foldl (smF false L) 0 = sm false L l := by rw [List.take_length]; rfl
              have f1 : (l.take l.length).foldl (smF true L) 0 = sm true L l := by rw [List.take_length]; rfl
              rw [f0] at a0 s0
              rw [f1] at a1 s1
              clear f0 f1 SM HSN
              generalize sm false L l = t0 at *
              generalize sm true L l = t1 at *
              have br4 := br.later hW
              have hw4 := below_on b1 hW
              have q0 := bs.cell 0
              have q1 := bs.cell 1
              have v0 := val_wd t0 s0
              have v1 := val_wd t1 s1
              have eo := EO.out
              by_cases hle : t1 ≤ t0
              · rw [if_pos hle] at eo
                have HO := Lib.hid eo
                have S := sub A0 A1 n0 c0 n1 c1 _ _ wr a0 a1 (by omega) (by omega)
                unfold RetS at S
                rw [v0, v1, if_pos hle, decide_eq_true hle] at S
                have S := Lib.hid S
                have vd := val_wd (t0 - t1) (by omega)
                have ld : (wd (t0 - t1)).length ≤ n0 := by
                  rw [← a0.len]
                  exact wd_length_le (by omega) (Int.lt_of_le_of_lt (by omega : t0 - t1 ≤ t0) (lt_pow_of_wd_length s0 (Nat.le_refl _)))
                clear eo EO hle
                go_wp2_with fail
                refine S.out.mono ?_; rintro r w5 ⟨A5, n5, c5, rfl, h5, hb5⟩
                have l5 := h5.len
                have hw5 := below_on hw4 hb5
                have br5 := br4.later hb5
                have MK := make false A5 n5 c5 _ L w5 h5.arr (by omega) (by omega) (by omega) (hT.below hw5)
                rw [vd, ← HO.out] at MK
                have MK := Lib.hid MK
                clear S q0 q1
                go_wp2_with fail
                refine MK.out.mono ?_; rintro r w6 ⟨A6, n6, c6, rfl, h6, hb6⟩
                have hw6 := below_on hw5 hb6
                have br6 := br5.later hb6
                obtain ⟨z0, z1, z2, y0, y1, y2⟩ := br6.cell3
                go_wp2_with fail
                refine bodyPost_ret (v := _) ?_ rfl (retD_set h6 br6 hw6 (Nat.le_refl _))
                simp [results, Tryz.results75, go_sem, z0, z1, z2]
              · rw [if_neg hle] at eo
                have HO := Lib.hid eo
                have S := sub A0 A1 n0 c0 n1 c1 _ _ wr a0 a1 (by omega) (by omega)
                unfold RetS at S
                rw [v0, v1, if_neg hle, decide_eq_false hle] at S
                have S := Lib.hid S
                have S2 := fun w' (hb : Below wr.heap.size wr w') => sub A1 A0 n1 c1 n0 c0 _ _ w' (a1.below hb) (a0.below hb) (by omega) (by omega)
                unfold RetS at S2
                rw [v0, v1, if_pos (by omega), decide_eq_true (by omega)] at S2
                have S2 := Lib.hid S2
                have vd := val_wd (t1 - t0) (by omega)
                have ld : (wd (t1 - t0)).length ≤ n1 := by
                  rw [← a1.len]
                  exact wd_length_le (by omega) (Int.lt_of_le_of_lt (by omega : t1 - t0 ≤ t1) (lt_pow_of_wd_length s1 (Nat.le_refl _)))
                clear eo EO hle
                go_wp2_with fail
                refine S.out.mono ?_; rintro r w5 ⟨A5, n5, c5, rfl, h5, hb5⟩
                have hw5 := below_on hw4 hb5
                have br5 := br4.later hb5
                have bs5 := bs.later hb5
                have q0' := bs5.cell 0
                have q1' := bs5.cell 1
                clear S q0 q1
                go_wp2_with fail
                refine (S2.out _ hb5).mono ?_; rintro r w7 ⟨A7, n7, c7, rfl, h7, hb7⟩
                have l7 := h7.len
                have hw7 := below_on hw5 hb7
                have br7 := br5.later hb7
                have MK := make true A7 n7 c7 _ L w7 h7.arr (by omega) (by omega) (by omega) (hT.below hw7)
                rw [vd, ← HO.out] at MK
                have MK := Lib.hid MK
                clear S2 q0' q1'
                go_wp2_with fail
                refine MK.out.mono ?_; rintro r w6 ⟨A6, n6, c6, rfl, h6, hb6⟩
                have hw6 := below_on hw7 hb6
                have br6 := br7.later hb6
                obtain ⟨z0, z1, z2, y0, y1, y2⟩ := br6.cell3
                go_wp2_with fail
                refine bodyPost_ret (v := _) ?_ rfl (retD_set h6 br6 hw6 (Nat.le_refl _))
                simp [results, Tryz.results75, go_sem, z0, z1, z2]
theorem dsum (g m : Nat) (l : List DV) (hm : l.length = m) (w : World) (h : DVs w g l) (hl : m ≤ 100000) (hT : Tz w) :
    Calls Tryz.prog 75 #[.slice (some ⟨g, 0, none⟩) m m] w (RetD (sumD l) w) := dsumA _ m m l hm w h.any hl hT
end Go.Proofs.YteffemhapnbaeaaGreatDoor
