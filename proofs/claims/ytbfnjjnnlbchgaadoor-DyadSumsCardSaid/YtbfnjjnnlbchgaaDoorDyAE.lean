/- The document's Sum. -/
import Derived.Test.YtbfnjjnnlbchgaaDoorDyAD
import Derived.Test.YtbfnjjnnlbchgaaDoorMQ
namespace Go.Proofs.YtbfnjjnnlbchgaaDoor
open Go.RowKit Num
set_option linter.unusedSimpArgs false
set_option linter.unusedVariables false
set_option maxRecDepth 100000

def DV.dy (d : DV) : Dy := ⟨d.neg, val d.xs, d.e⟩
def tot (L : Int) (l : List DV) : Int := l.foldl (fun a d => a + sval d.dy L) 0
/-- Least, most, and whether there is one that isn't 0. -/
def extF (s : Int × Int × Bool) (d : DV) : Int × Int × Bool := if d.n = 0 then s else if s.2.2 then (min s.1 d.e, max s.2.1 d.e, true) else (d.e, d.e, true)
def ext (l : List DV) : Int × Int × Bool := l.foldl extF (0, 0, false)
theorem ext_on (l : List DV) : ∀ a b, l.foldl extF (a, b, true) = (l.foldl loF a, l.foldl hiF b, true) := by
  induction l with
  | nil => intro a b; rfl
  | cons d l ih =>
    intro a b
    simp only [List.foldl_cons]
    unfold extF loF hiF
    by_cases h : d.n = 0
    · simp only [h, if_true]; exact ih a b
    · simp only [h, if_false, if_true]; exact ih _ _
theorem ext_lo (l : List DV) (h : ∀ d ∈ l, d.e ≤ 262144 ∧ -262144 ≤ d.e) : (ext l = (lo l, hi l, true)) ∨ (ext l = (0, 0, false) ∧ lo l = 262144 ∧ hi l = -262144) := by
  unfold ext lo hi
  induction l with
  | nil => exact .inr ⟨rfl, rfl, rfl⟩
  | cons d l ih =>
    simp only [List.foldl_cons]
    have hd := h d List.mem_cons_self
    by_cases hn : d.n = 0
    · have e1 : extF (0, 0, false) d = (0, 0, false) := by unfold extF; rw [if_pos hn]
      have e2 : loF 262144 d = 262144 := by unfold loF; rw [if_pos hn]
      have e3 : hiF (-262144) d = -262144 := by unfold hiF; rw [if_pos hn]
      rw [e1, e2, e3]
      exact ih (fun x hx => h x (List.mem_cons_of_mem _ hx))
    · have e1 : extF (0, 0, false) d = (d.e, d.e, true) := by unfold extF; rw [if_neg hn]; rfl
      have e2 : loF 262144 d = d.e := by unfold loF; rw [if_neg hn]; omega
      have e3 : hiF (-262144) d = d.e := by unfold hiF; rw [if_neg hn]; omega
      rw [e1, e2, e3, ext_on]
      exact .inl rfl
theorem tot_sm (L : Int) (l : List DV) (h : ∀ d ∈ l, d.n = 0 → val d.xs = 0) : ∀ a b, l.foldl (fun a d => a + sval d.dy L) (a - b) = l.foldl (smF false L) a - l.foldl (smF true L) b := by
  induction l with
  | nil => intro a b; rfl
  | cons d l ih =>
    intro a b
    simp only [List.foldl_cons]
    have ih' := ih (fun x hx => h x (List.mem_cons_of_mem _ hx))
    have hz := h d List.mem_cons_self
    have hs : sval d.dy L = sgn d.neg (val d.xs * 2 ^ (d.e - L).toNat) := rfl
    have u1 : smF false L a d = if d.n = 0 then a else if d.neg = false then a + val d.xs * 2 ^ (d.e - L).toNat else a := rfl
    have u2 : smF true L b d = if d.n = 0 then b else if d.neg = true then b + val d.xs * 2 ^ (d.e - L).toNat else b := rfl
    rw [u1, u2]
    by_cases hn : d.n = 0
    · rw [if_pos hn, if_pos hn, hs, hz hn, Int.zero_mul, sgn_zero, Int.add_zero]
      exact ih' a b
    · rw [if_neg hn, if_neg hn, hs]
      cases d.neg
      · simp only [sgn, Bool.false_eq_true, if_false, if_true]
        have := ih' (a + val d.xs * 2 ^ (d.e - L).toNat) b
        rw [← this]
        congr 1
        omega
      · simp only [sgn, Bool.false_eq_true, if_false, if_true, reduceCtorEq]
        have := ih' a (b + val d.xs * 2 ^ (d.e - L).toNat)
        rw [← this]
        congr 1
        omega
theorem sum_can {l : List DV} (hp : l.all DV.plain = true) (h : ∀ d ∈ l, d.n = 0 → val d.xs = 0) (h0 : -262144 ≤ lo l) (h1 : lo l ≤ 262144) :
    sumD l = if hi l - lo l > 262144 then none else if plainB (canD (tot (lo l) l) (lo l)).neg (wd (canD (tot (lo l) l) (lo l)).m) (canD (tot (lo l) l) (lo l)).e then some (canD (tot (lo l) l) (lo l)) else none := by
  unfold sumD
  rw [hp]
  simp only [if_true]
  congr 1
  rw [← mkD_can _ h0 h1]
  have ht : tot (lo l) l = sm false (lo l) l - sm true (lo l) l := by
    have := tot_sm (lo l) l h 0 0
    rw [Int.sub_self] at this
    exact this
  rw [ht]
  by_cases hle : sm true (lo l) l ≤ sm false (lo l) l
  · rw [if_pos hle, decide_eq_false (by omega)]
    congr 1
    omega
  · rw [if_neg hle, decide_eq_true (by omega)]
    congr 1
    omega
theorem lev_mono {m e L g : Int} (hm : 0 ≤ m) (h : L ≤ g) (hd : m = 0 ∨ g ≤ e) : lev m e g ≤ lev m e L := by
  rcases hd with rfl | hd
  · rw [lev_zero, lev_zero]; exact Int.le_refl _
  · rw [lev_down h hd]
    have h1 := lev_nonneg hm e g
    have h2 := pw_pos (g - L).toNat
    have := Int.mul_le_mul_of_nonneg_left (show 1 ≤ pw (g - L).toNat by omega) h1
    omega
theorem lev_abs (S L : Int) : lev (canD S L).m (canD S L).e L = (S.natAbs : Int) := by
  have h := canD_val S L
  have hn := lev_nonneg (canD_m S L) (canD S L).e L
  unfold sval sgn at h
  split at h <;> omega
theorem tot_bound {L : Int} {l : List DV} (h : ∀ d ∈ l, 0 ≤ val d.xs ∧ lev (val d.xs) d.e L ≤ pw 278528) : ∀ i : Nat, i ≤ l.length → ((tot L (l.take i)).natAbs : Int) ≤ i * pw 278528 := by
  intro i
  induction i with
  | zero => intro _; show ((0 : Int).natAbs : Int) ≤ _; simp
  | succ i ih =>
    intro hi
    have := ih (by omega)
    unfold tot at *
    rw [fold_take _ _ l i (by omega)]
    have hd := h l[i] (List.getElem_mem (by omega))
    have hv : ((sval (l[i]).dy L).natAbs : Int) ≤ pw 278528 := by
      have hn := lev_nonneg hd.1 (l[i]).e L
      have e : sval (l[i]).dy L = sgn (l[i]).neg (lev (val (l[i]).xs) (l[i]).e L) := rfl
      rw [e]
      unfold sgn
      split <;> omega
    have e2 : ((i + 1 : Nat) : Int) * pw 278528 = i * pw 278528 + pw 278528 := by
      rw [Int.natCast_add, Int.add_mul]
      show _ + 1 * pw 278528 = _
      rw [Int.one_mul]
    rw [e2]
    generalize pw 278528 = B0 at *
    generalize (l.take i).foldl (fun a d => a + sval d.dy L) 0 = t at *
    omega
/-- What each step of a sum wants. -/
structure SumStep (T L : Int) (d : DV) : Prop where
  e0 : -1000000 ≤ (canD T L).e
  e1 : (canD T L).e ≤ 1000000
  hd : (canD T L).m = 0 ∨ val d.xs = 0 ∨ ((canD T L).e - d.e ≤ 1048576 ∧ d.e - (canD T L).e ≤ 1048576)
  hp : (canD T L).m = 0 → (canD T L).neg = false
  lx : (wd (lev (canD T L).m (canD T L).e (sideE (canD T L).m (val d.xs) (canD T L).e d.e))).length ≤ 14000
  ly : (wd (lev (val d.xs) d.e (sideE (canD T L).m (val d.xs) (canD T L).e d.e))).length ≤ 14000
  lm : (wd (canD T L).m).length ≤ 5000
theorem wd_pw {x : Int} (h0 : 0 ≤ x) {k j : Nat} (h : x < pw k) (hk : k ≤ 64 * j) : (wd x).length ≤ j := by
  refine wd_length_le h0 ?_
  rw [B_pow_pw]
  exact Int.lt_of_lt_of_le h (pw_le hk)
theorem sum_step {T L : Int} {d : DV} (hT : (T.natAbs : Int) < pw 278540) (hL0 : -262144 ≤ L) (hL1 : L ≤ 262144) (hv : 0 ≤ val d.xs) (hd : val d.xs = 0 ∨ L ≤ d.e) (hle : lev (val d.xs) d.e L ≤ pw 278528) (he0 : -262144 ≤ d.e) (he1 : d.e ≤ 262144) : SumStep T L d := by
  have hm := canD_m T L
  have hmT : (canD T L).m ≤ (T.natAbs : Int) := by
    by_cases h0 : T = 0
    · subst h0; exact Int.le_refl _
    · rw [(canD_e (L := L) h0).2.2]; exact oddI_le (by omega)
  have he : -262144 ≤ (canD T L).e ∧ (canD T L).e ≤ 600000 := by
    by_cases h0 : T = 0
    · subst h0
      exact ⟨by show (-262144 : Int) ≤ 0; omega, by show (0 : Int) ≤ 600000; omega⟩
    · obtain ⟨a, b, c⟩ := canD_e (L := L) h0
      have ht := tz_lt (wf_wd (T.natAbs : Int) (by omega)) (by rw [val_wd _ (by omega)]; omega)
      rw [val_wd _ (by omega)] at ht
      have hw := wd_pw (x := (T.natAbs : Int)) (by omega) (j := 4353) hT (by omega)
      omega
  have hlow := canD_low T L (Int.le_refl L)
  obtain ⟨s1, s2⟩ := sideE_le (canD T L) d.dy
  have e1 : d.dy.m = val d.xs := rfl
  have e2 : d.dy.e = d.e := rfl
  rw [e1, e2] at s1 s2
  have hg : (canD T L).m = 0 ∧ val d.xs = 0 ∨ L ≤ sideE (canD T L).m (val d.xs) (canD T L).e d.e := by
    unfold sideE
    by_cases h1 : (canD T L).m = 0
    · rw [if_pos h1]
      rcases hd with h | h
      · exact .inl ⟨h1, h⟩
      · exact .inr h
    · rw [if_neg h1]
      have hl := hlow.resolve_left h1
      by_cases h2 : val d.xs = 0
      · rw [if_pos h2]; exact .inr hl
      · rw [if_neg h2]
        have := hd.resolve_left h2
        exact .inr (by omega)
  refine ⟨by omega, by omega, ?_, fun hz => by rw [(canD_z hz).1]; rfl, ?_, ?_, ?_⟩
  · by_cases h2 : val d.xs = 0
    · exact .inr (.inl h2)
    · have := hd.resolve_left h2
      exact .inr (.inr ⟨by omega, by omega⟩)
  · rcases hg with ⟨h1, h2⟩ | hg
    · rw [h1, lev_zero, wd_zero (Int.le_refl _)]; simp
    · have a := lev_mono hm hg s1
      rw [lev_abs] at a
      exact wd_pw (lev_nonneg hm _ _) (Int.lt_of_le_of_lt a hT) (by omega)
  · rcases hg with ⟨h1, h2⟩ | hg
    · rw [h2, lev_zero, wd_zero (Int.le_refl _)]; simp
    · have a := lev_mono hv hg s2
      exact wd_pw (k := 278529) (lev_nonneg hv _ _) (Int.lt_of_le_of_lt (Int.le_trans a hle) (pw_lt_iff.2 (by omega))) (by omega)
  · exact wd_pw hm (Int.lt_of_le_of_lt hmT hT) (by omega)
theorem lev_plain {xs : List Int} (hw : Wf xs) (hl : xs.length ≤ 256) {e L : Int} (h : val xs = 0 ∨ L ≤ e) (hle : e - L ≤ 262144) : lev (val xs) e L ≤ pw 278528 := by
  rcases h with h | h
  · rw [h, lev_zero]; exact Int.le_of_lt (pw_pos _)
  · unfold lev
    have a1 : val xs < pw (64 * 256) := by
      rw [← B_pow_pw]
      exact Int.lt_of_lt_of_le (val_lt hw) (B_pow_le hl)
    have a2 : val xs * pw (e - L).toNat ≤ pw (64 * 256) * pw (e - L).toNat := Int.mul_le_mul_of_nonneg_right (Int.le_of_lt a1) (Int.le_of_lt (pw_pos _))
    rw [← pw_add] at a2
    exact Int.le_trans a2 (pw_le (by omega))
set_option maxHeartbeats 4000000 in
theorem rsum (SA : Option Addr) (m cap : Nat) (l : List DV) (hm : l.length = m) (w : World) (h : DVA w SA l) (hl : m ≤ 50) (hn : ∀ d ∈ l, d.n ≤ 100000) :
    Calls Tryd.prog 42 #[.slice SA m cap] w (RetD (sumD l) w) := by
  subst hm
  have b1 : Below w.heap.size w ((w.alloc (.cells #[.bool false, .slice none 0 0, .int .i64 0] 24)).alloc (.cells #[.bool false, .slice none 0 0, .int .i64 0] 24)) := below_alloc (below_alloc (below_self w) _) _
  have D1 := h.later b1
  have br := (box_new w #[.bool false, .slice none 0 0, .int .i64 0] 24).later (below_alloc (below_self _) (.cells #[.bool false, .slice none 0 0, .int .i64 0] 24))
  have bs := box_new (w.alloc (.cells #[.bool false, .slice none 0 0, .int .i64 0] 24)) #[.bool false, .slice none 0 0, .int .i64 0] 24
  rw [show (w.alloc (.cells #[.bool false, .slice none 0 0, .int .i64 0] 24)).heap.size = w.heap.size + 1 by simp] at bs
  have hsz : ((w.alloc (.cells #[.bool false, .slice none 0 0, .int .i64 0] 24)).alloc (.cells #[.bool false, .slice none 0 0, .int .i64 0] 24)).heap.size = w.heap.size + 1 + 1 := by simp
  have HSZ := Lib.hid hsz
  clear hsz
  have FE := Lib.hid (fun i hi' => fold_take extF (0, 0, false) l i hi')
  have HN := Lib.hid (fun i (h : i < l.length) => hn l[i] (List.getElem_mem h))
  have HA : ∀ i (h : i < l.length), (l[i]).plain = false → sumD l = none := fun i h hh => by
    unfold sumD
    rw [if_neg]
    intro hc
    have := List.all_eq_true.1 hc l[i] (List.getElem_mem h)
    rw [hh] at this
    cases this
  have HA := Lib.hid HA
  clear hn
  go_enter Tryd.func42, Tryd.ntmps42
  go_wp2_with fail
  go_loopw [5, 6, 7, 8] (fun vl vm vt vi wr => ∃ i : Nat, i ≤ l.length ∧ vi = .int .i64 i ∧ vl = .int .i64 ((l.take i).foldl extF (0, 0, false)).1 ∧ vm = .int .i64 ((l.take i).foldl extF (0, 0, false)).2.1 ∧ vt = .bool ((l.take i).foldl extF (0, 0, false)).2.2 ∧ Hid (∀ j (h : j < l.length), j < i → (l[j]).plain = true) ∧ Below ((w.alloc (.cells #[.bool false, .slice none 0 0, .int .i64 0] 24)).alloc (.cells #[.bool false, .slice none 0 0, .int .i64 0] 24)).heap.size ((w.alloc (.cells #[.bool false, .slice none 0 0, .int .i64 0] 24)).alloc (.cells #[.bool false, .slice none 0 0, .int .i64 0] 24)) wr) (fun _ _ _ vi _ => l.length - (intOf vi).toNat)
  case atStart => exact ⟨0, Nat.zero_le _, rfl, rfl, rfl, rfl, fun j _ h => absurd h (by omega), below_self _⟩
  case round =>
    obtain ⟨i, hi', rfl, rfl, rfl, rfl, hI, hW⟩ := hrel
    by_cases h0 : i < l.length
    · have hD := D1.later hW
      obtain ⟨g, o, rfl, hglt, hd0, hd1, hd2⟩ := hD.mem (by omega)
      have k0 := hd0 i h0
      have k1 := hd1 i h0
      have k2 := hd2 i h0
      clear hd0 hd1 hd2
      have ho := hD.ok i h0
      have fe := FE.out i h0
      have hni := HN.out i h0
      have a1 := HA.out i h0
      have i1 := hI.out
      have HP : (l[i]).plain = true → ∀ j (h : j < l.length), j < i + 1 → (l[j]).plain = true := fun hp j h hj => by
        by_cases hji : j = i
        · subst hji; exact hp
        · exact i1 j h (by omega)
      generalize hx : l[i] = x at *
      obtain ⟨neg, A, n, c, xs, e⟩ := x
      have HP := Lib.hid HP
      have HF := Lib.hid a1
      have FEi := Lib.hid fe
      simp only at k0 k1 k2 hni
      have PL := rplain neg A n c xs e wr ho (by omega)
      have hw3 := below_on b1 hW
      generalize (l.take i).foldl extF (0, 0, false) = st at *
      obtain ⟨a, b, t⟩ := st
      clear a1 i1 hI fe ho hx
      cases hp : plainB neg xs e
      · rw [hp] at PL
        have PL := Lib.hid PL
        have HQ := Lib.hid (HF.out hp)
        clear hp
        go_wp2_with fail
        refine PL.out.mono ?_; rintro r w4 ⟨rfl, hb4⟩
        have br3 := (br.later hW).later hb4
        have hw3 := below_on hw3 hb4
        obtain ⟨z0, z1, z2, y0, y1, y2⟩ := br3.cell3
        go_wp2_with fail
        refine bodyPost_ret (v := .tuple #[.agg #[.bool false, .slice none 0 0, .int .i64 0], .bool false]) (by simp [results, Tryd.results42, go_sem, z0, z1, z2]) rfl ?_
        rw [HQ.out]
        exact retD_set (o := none) (arr_no _) br3 hw3 (by omega)
      · rw [hp] at PL
        have PL := Lib.hid PL
        have HN1 := Lib.hid (HP.out hp)
        clear hp
        by_cases hn0 : n = 0
        · subst hn0
          go_wp2_with fail
          refine PL.out.mono ?_; rintro r w4 ⟨rfl, hb4⟩
          have k0 := (hb4.cell (p := ⟨g, _, none⟩) hglt).trans k0
          have k1 := (hb4.cell (p := ⟨g, _, none⟩) hglt).trans k1
          have k2 := (hb4.cell (p := ⟨g, _, none⟩) hglt).trans k2
          have hW4 := hW.trans (hb4.mono hW.size)
          go_wp2_with fail
          exact ⟨⟨i + 1, by omega, by go_num, by rw [FEi.out]; rfl, by rw [FEi.out]; rfl, by rw [FEi.out]; rfl, HN1.out, hW4⟩, by simp only [intOf]; omega⟩
        · have dn : decide ((n : Int) > 0) = true := by simp; omega
          have e1 : extF (a, b, t) ⟨neg, A, n, c, xs, e⟩ = if t then (min a e, max b e, true) else (e, e, true) := by unfold extF; simp only; rw [if_neg hn0]
          rw [e1] at FEi
          clear e1
          cases t
          · go_wp2_with fail
            refine PL.out.mono ?_; rintro r w4 ⟨rfl, hb4⟩
            have k0 := (hb4.cell (p := ⟨g, _, none⟩) hglt).trans k0
            have k1 := (hb4.cell (p := ⟨g, _, none⟩) hglt).trans k1
            have k2 := (hb4.cell (p := ⟨g, _, none⟩) hglt).trans k2
            have hW4 := hW.trans (hb4.mono hW.size)
            have hil : (i : Int) < (l.length : Int) := by omega
            have hi0 : (0 : Int) ≤ (i : Int) := by omega
            go_wp2_with fail
            go_quiet (fail)
            go_wp2_with fail
            have emn : min e e = e := by omega
            have emx : max e e = e := by omega
            exact ⟨⟨i + 1, by omega, by go_num, by rw [FEi.out]; simp, by rw [FEi.out]; simp, by rw [FEi.out]; rfl, HN1.out, (by repeat (first | with_reducible assumption | with_reducible exact below_self _ | with_reducible refine below_drewN ?_ _ | with_reducible apply Below.drew | with_reducible refine below_alloc ?_ _))⟩, by simp only [intOf]; omega⟩
          · go_wp2_with fail
            refine PL.out.mono ?_; rintro r w4 ⟨rfl, hb4⟩
            have k0 := (hb4.cell (p := ⟨g, _, none⟩) hglt).trans k0
            have k1 := (hb4.cell (p := ⟨g, _, none⟩) hglt).trans k1
            have k2 := (hb4.cell (p := ⟨g, _, none⟩) hglt).trans k2
            have hW4 := hW.trans (hb4.mono hW.size)
            go_wp2_with fail
            exact ⟨⟨i + 1, by omega, by go_num, by rw [FEi.out]; rfl, by rw [FEi.out]; rfl, by rw [FEi.out]; rfl, HN1.out, hW4⟩, by simp only [intOf]; omega⟩
    · obtain rfl : i = l.length := by omega
      have hall : l.all DV.plain = true := by
        rw [List.all_eq_true]
        intro t ht
        obtain ⟨j, hj, rfl⟩ := List.mem_iff_getElem.1 ht
        exact hI.out j hj hj
      have hDm : ∀ d ∈ l, PD d.dy ∧ d.xs.length ≤ 256 ∧ Wf d.xs ∧ (d.n = 0 → val d.xs = 0) ∧ (d.n ≠ 0 → val d.xs ≠ 0) := fun d hd => by
        obtain ⟨j, hj, rfl⟩ := List.mem_iff_getElem.1 hd
        have hok : Arr w (l[j]).A (l[j]).n (l[j]).c (l[j]).xs := h.ok j hj
        have hp := plainB_parts hok.wf (hI.out j hj hj)
        refine ⟨hp.1, hp.2.1, hok.wf, fun hz => ?_, fun hz => ?_⟩
        · rw [List.length_eq_zero_iff.1 (hok.len.trans hz)]; rfl
        · have := (hp.2.2.2 (by have := hok.len; omega)).1
          omega
      have L0 := lo_le l 262144
      have L1 := lo_ge l (fun d hd => (hDm d hd).1.lo) 262144 (by omega)
      have hLo0 : -262144 ≤ lo l := L1
      have hLo1 : lo l ≤ 262144 := L0
      have hM1 : hi l ≤ 262144 := hi_le l (fun d hd => (hDm d hd).1.hi) (-262144) (by omega)
      have hM0 : -262144 ≤ hi l := hi_ge l (-262144)
      have sc := sum_can hall (fun d hd => (hDm d hd).2.2.2.1) hLo0 hLo1
      have xl := ext_lo l (fun d hd => ⟨(hDm d hd).1.hi, (hDm d hd).1.lo⟩)
      have et : (l.take l.length).foldl extF (0, 0, false) = ext l := by rw [List.take_length]; rfl
      have hel : ∃ ea eb et', ext l = (ea, eb, et') ∧ -262144 ≤ ea ∧ ea ≤ 262144 ∧ -262144 ≤ eb ∧ eb ≤ 262144 ∧ (eb - ea > 262144 ↔ hi l - lo l > 262144) := by
        rcases xl with xl | ⟨xl, x1, x2⟩
        · exact ⟨_, _, _, xl, hLo0, hLo1, hM0, hM1, Iff.rfl⟩
        · exact ⟨_, _, _, xl, by omega, by omega, by omega, by omega, by omega⟩
      obtain ⟨ea, eb, et', hext, p1, p2, p3, p4, hiff⟩ := hel
      rw [et, hext]
      have hLM : ∀ d ∈ l, d.n ≠ 0 → lo l ≤ d.e := lo_mem l 262144
      have hMM : ∀ d ∈ l, d.n ≠ 0 → d.e ≤ hi l := hi_mem l (-262144)
      clear xl et hext FE HN HA hI L0 L1
      have W1 : IntKind.i64.wrap (eb - ea) = eb - ea := by rw [IntKind.wrap_i64]; omega
      have hw3 := below_on b1 hW
      have br3 := br.later hW
      obtain ⟨z0, z1, z2, y0, y1, y2⟩ := br3.cell3
      by_cases hwide : hi l - lo l > 262144
      · have dW : decide (eb - ea > 262144) = true := decide_eq_true (hiff.2 hwide)
        rw [if_pos hwide] at sc
        have SC := Lib.hid sc
        clear sc hiff hwide hLM hMM hDm
        go_wp2_with fail
        (refine bodyPost_ret (v := .tuple #[.agg #[.bool false, .slice none 0 0, .int .i64 0], .bool false]) (by simp [results, Tryd.results42, go_sem, z0, z1, z2]) rfl ?_; rw [SC.out]; exact retD_set (o := none) (arr_no _) br3 hw3 (by omega))
      · have dW : decide (eb - ea > 262144) = false := decide_eq_false (fun hh => hwide (hiff.1 hh))
        rw [if_neg hwide] at sc
        have hstep : ∀ i (hi' : i < l.length), SumStep (tot (lo l) (l.take i)) (lo l) l[i] ∧ addC (canD (tot (lo l) (l.take i)) (lo l)) (l[i]).dy = canD (tot (lo l) (l.take (i + 1))) (lo l) ∧ wd (val (l[i]).xs) = (l[i]).xs ∧ (l[i]).xs.length ≤ 256 ∧ -262144 ≤ (l[i]).e ∧ (l[i]).e ≤ 262144 ∧ (wd (canD (tot (lo l) (l.take (i + 1))) (lo l)).m).length ≤ 5000 := by
          intro i hi2
          have hd := hDm l[i] (List.getElem_mem hi2)
          have hle : ∀ d ∈ l, val d.xs = 0 ∨ lo l ≤ d.e := fun d hd => by
            by_cases hz : d.n = 0
            · exact .inl ((hDm d hd).2.2.2.1 hz)
            · exact .inr (hLM d hd hz)
          have hlv : ∀ d ∈ l, lev (val d.xs) d.e (lo l) ≤ pw 278528 := fun d hd => by
            have hh := hDm d hd
            by_cases hz : d.n = 0
            · exact lev_plain hh.2.2.1 hh.2.1 (.inl (hh.2.2.2.1 hz)) (by
                have := hh.1.hi
                have e3 : d.dy.e = d.e := rfl
                rw [e3] at this
                by_cases hlo : d.e - lo l ≤ 262144
                · exact hlo
                · have hz2 := hh.2.2.2.1 hz
                  have h4 := (hh.1.z (show d.dy.m = 0 from hz2)).1
                  have e4 : d.dy.e = d.e := rfl
                  rw [e4] at h4
                  omega)
            · exact lev_plain hh.2.2.1 hh.2.1 (.inr (hLM d hd hz)) (by have := hMM d hd hz; omega)
          have hb := tot_bound (L := lo l) (l := l) (fun d hd => ⟨val_nonneg (hDm d hd).2.2.1, hlv d hd⟩) i (by omega)
          have hb' := tot_bound (L := lo l) (l := l) (fun d hd => ⟨val_nonneg (hDm d hd).2.2.1, hlv d hd⟩) (i + 1) (by omega)
          have hTT : ∀ (t : Int) (j : Nat), j ≤ 50 → (t.natAbs : Int) ≤ j * pw 278528 → (t.natAbs : Int) < pw 278540 := by
            intro t j hj hb
            refine Int.lt_of_le_of_lt hb ?_
            have e5 : pw 278540 = 4096 * pw 278528 := by
              rw [show (278540 : Nat) = 12 + 278528 from rfl, pw_add]; rfl
            rw [e5]
            have hpp := pw_pos 278528
            generalize pw 278528 = B0 at *
            have : (j : Int) * B0 ≤ 50 * B0 := Int.mul_le_mul_of_nonneg_right (by omega) (by omega)
            omega
          have hT := hTT _ i (by omega) hb
          have hT' := hTT _ (i + 1) (by omega) hb'
          have hmm : (wd (canD (tot (lo l) (l.take (i + 1))) (lo l)).m).length ≤ 5000 := by
            have hm1 := canD_m (tot (lo l) (l.take (i + 1))) (lo l)
            refine wd_pw (k := 278540) hm1 (Int.lt_of_le_of_lt ?_ hT') (by omega)
            by_cases h0 : tot (lo l) (l.take (i + 1)) = 0
            · rw [h0]; exact Int.le_refl _
            · rw [(canD_e (L := lo l) h0).2.2]; exact oddI_le (by omega)
          refine ⟨sum_step hT hLo0 hLo1 (val_nonneg hd.2.2.1) (hle _ (List.getElem_mem hi2)) (hlv _ (List.getElem_mem hi2)) hd.1.lo hd.1.hi, ?_, ?_, hd.2.1, hd.1.lo, hd.1.hi, hmm⟩
          · rw [addC_fold _ _ _ (hle _ (List.getElem_mem hi2))]
            unfold tot
            rw [fold_take _ _ l i hi2]
          · obtain ⟨j, hj, hjj⟩ := List.mem_iff_getElem.1 (List.getElem_mem hi2)
            have hp := List.all_eq_true.1 hall l[i] (List.getElem_mem hi2)
            exact (plainB_parts hd.2.2.1 hp).2.2.1
        have hlast := fun (hm0 : l.length = 0) => hm0
        clear hlast
        have HST := Lib.hid hstep
        have SC := Lib.hid sc
        have hfin : ∀ (s : Dy), s = canD (tot (lo l) l) (lo l) → True := fun _ _ => trivial
        clear hfin hstep sc hiff hwide hLM hMM hDm hall z0 z1 z2 y0 y1 y2 hw3 br3
        generalize hLe : lo l = L at *
        clear hLe
        have bs2 := bs.later hW
        go_wp2_with fail
        go_loopw [9] (fun vi w2 => ∃ (i : Nat) (A0 : Option Addr) (n0 c0 : Nat), i ≤ l.length ∧ n0 ≤ 5000 ∧ vi = .int .i64 i ∧ Box w2 (w.heap.size + 1) #[.bool (canD (tot L (l.take i)) L).neg, .slice A0 n0 c0, .int .i64 (canD (tot L (l.take i)) L).e] 24 ∧ Arr w2 A0 n0 c0 (wd (canD (tot L (l.take i)) L).m) ∧ Below w.heap.size w w2 ∧ Box w2 w.heap.size #[.bool false, .slice none 0 0, .int .i64 0] 24) (fun vi _ => l.length - (intOf vi).toNat)
        case atStart => exact ⟨0, none, 0, 0, Nat.zero_le _, Nat.zero_le _, rfl, bs2, by rw [show (canD (tot L (l.take 0)) L).m = 0 from rfl, wd_zero (Int.le_refl _)]; exact Arr.nothing _, below_on b1 hW, br.later hW⟩
        case round =>
          clear bs bs2
          obtain ⟨i, A0, n0, c0, hi', hn0, rfl, bs, a0, hW2, br2⟩ := hrel
          by_cases h0 : i < l.length
          · have hD := h.later hW2
            obtain ⟨g, o, hSA, hglt, hd0, hd1, hd2⟩ := h.mem (by omega)
            subst hSA
            have k0 := (hW2.cell (p := ⟨g, _, none⟩) hglt).trans (hd0 i h0)
            have k1 := (hW2.cell (p := ⟨g, _, none⟩) hglt).trans (hd1 i h0)
            have k2 := (hW2.cell (p := ⟨g, _, none⟩) hglt).trans (hd2 i h0)
            clear hd0 hd1 hd2
            have ho := hD.ok i h0
            obtain ⟨ss, hadd, hwx, hx256, hxe0, hxe1, hmm⟩ := HST.out i h0
            generalize hx : l[i] = x at *
            obtain ⟨neg, A, n, c, xs, e⟩ := x
            simp only at k0 k1 k2 hwx hx256 hxe0 hxe1
            have ho2 : Arr wr A n c xs := ho
            have hn256 := ho2.len
            have hs0 := ss.e0
            have hs1 := ss.e1
            have hsd := ss.hd
            have hsp := ss.hp
            have hlx := ss.lx
            have hly := ss.ly
            have hlm := ss.lm
            simp only at hsd hlx hly
            have hT0 := canD_m (tot L (l.take i)) L
            have hadd2 : addC ⟨(canD (tot L (l.take i)) L).neg, (canD (tot L (l.take i)) L).m, (canD (tot L (l.take i)) L).e⟩ ⟨neg, val xs, e⟩ = canD (tot L (l.take (i + 1))) L := hadd
            clear hadd ss ho hx
            generalize canD (tot L (l.take i)) L = s at *
            generalize hs' : canD (tot L (l.take (i + 1))) L = s' at *
            obtain ⟨sn, sm', se⟩ := s
            simp only at bs a0 hs0 hs1 hsd hsp hlx hly hlm hT0 hadd2
            have la0 := a0.len
            have RA : ∀ w1 : World, Below wr.heap.size wr w1 → Calls Tryd.prog 112 #[.agg #[.bool sn, .slice A0 n0 c0, .int .i64 se], .agg #[.bool neg, .slice A n c, .int .i64 e]] w1 fun r w5 => ∃ A5 n5 c5, r = .returned (.agg #[.bool s'.neg, .slice A5 n5 c5, .int .i64 s'.e]) ∧ Arr w5 A5 n5 c5 (wd s'.m) ∧ n5 ≤ 5000 ∧ Below wr.heap.size wr w5 := by
              intro w1 hb
              have R := radd02 sn neg A0 A n0 c0 n c sm' (val xs) se e w1 (a0.below hb) (by rw [hwx]; exact ho2.below hb) hT0 ho2.val_nonneg (by omega) (by omega) (by omega) (by omega) (by omega) (by omega) hsd hsp hlx hly
              rw [hadd2] at R
              refine R.mono ?_
              rintro r w5 ⟨A5, n5, c5, rfl, h5, hb5⟩
              exact ⟨A5, n5, c5, rfl, h5, by rw [← h5.len]; exact hmm, below_on hb hb5⟩
            have RA := Lib.hid RA
            have KC : ∀ w', Below wr.heap.size wr w' → Box w' (w.heap.size + 1) #[.bool sn, .slice A0 n0 c0, .int .i64 se] 24 ∧ Box w' w.heap.size #[.bool false, .slice none 0 0, .int .i64 0] 24 := fun w' hb => ⟨bs.later hb, br2.later hb⟩
            have KC := Lib.hid KC
            obtain ⟨x0, x1, x2, t0, t1, t2⟩ := bs.cell3
            have hil : (i : Int) < (l.length : Int) := by omega
            have hi0 : (0 : Int) ≤ (i : Int) := by omega
            clear hsd hsp hlx hly hlm hT0 hadd2 a0 la0 hwx hD ho2 bs br2
            go_wp2_with fail
            go_region_with (first | (go_at_call 112; refine (RA.out _ ?_).mono ?_; (repeat (first | with_reducible assumption | with_reducible exact below_self _ | with_reducible refine below_drewN ?_ _ | with_reducible apply Below.drew | with_reducible refine below_alloc ?_ _)); rintro r w5 ⟨A5, n5, c5, rfl, h5, hn5, hb5⟩; obtain ⟨v0, v1, v2, v3, v4, v5⟩ := (KC.out w5 hb5).1.cell3))
            all_goals
              obtain ⟨r1, r2⟩ := KC.out w5 hb5
              go_wp2_with fail
              exact ⟨⟨i + 1, A5, n5, c5, by omega, hn5, by go_num, by rw [hs']; exact ((r1.set 0 _).set 1 _).set 2 _, by rw [hs']; exact h5.set3 r1 _ _ _ (by simp) (by simp), below_set3 (hW2.trans (hb5.mono hW2.size)) (by omega), ((r2.otherR (grown_set _ _ _ _) (by simp)).otherR (grown_set _ _ _ _) (by simp)).otherR (grown_set _ _ _ _) (by simp)⟩, by simp only [intOf]; omega⟩
          · obtain rfl : i = l.length := by omega
            rw [List.take_length] at bs a0
            have sc := SC.out
            have hm0 := canD_m (tot L l) L
            generalize canD (tot L l) L = s at *
            clear HST SC
            obtain ⟨sn, sm', se⟩ := s
            simp only at bs a0 sc hm0
            have PL := rplain sn A0 n0 c0 _ se wr a0 (by omega)
            obtain ⟨x0, x1, x2, t0, t1, t2⟩ := bs.cell3
            cases hp : plainB sn (wd sm') se
            · rw [hp] at PL sc
              rw [if_neg (by simp)] at sc
              have SC := Lib.hid sc
              clear sc
              have PL := Lib.hid PL
              clear hp
              go_wp2_with fail
              refine PL.out.mono ?_; rintro r w4 ⟨rfl, hb4⟩
              have br3 := br2.later hb4
              have hw3 := below_on hW2 hb4
              obtain ⟨z0, z1, z2, y0, y1, y2⟩ := br3.cell3
              go_wp2_with fail
              (refine bodyPost_ret (v := .tuple #[.agg #[.bool false, .slice none 0 0, .int .i64 0], .bool false]) (by simp [results, Tryd.results42, go_sem, z0, z1, z2]) rfl ?_; rw [SC.out]; exact retD_set (o := none) (arr_no _) br3 hw3 (by omega))
            · rw [hp] at PL sc
              rw [if_pos rfl] at sc
              have SC := Lib.hid sc
              clear sc
              have PL := Lib.hid PL
              clear hp
              go_wp2_with fail
              refine PL.out.mono ?_; rintro r w4 ⟨rfl, hb4⟩
              have br3 := br2.later hb4
              have hw3 := below_on hW2 hb4
              clear x0 x1 x2 t0 t1 t2
              obtain ⟨x0, x1, x2, t0, t1, t2⟩ := (bs.later hb4).cell3
              obtain ⟨z0, z1, z2, y0, y1, y2⟩ := br3.cell3
              have hne : ¬ w.heap.size = w.heap.size + 1 := by omega
              go_wp2_with fail
              refine bodyPost_ret (v := .tuple #[.agg #[.bool sn, .slice A0 n0 c0, .int .i64 se], .bool true]) ?_ rfl (by rw [SC.out]; exact retD_set (o := some ⟨sn, sm', se⟩) (a0.below hb4) br3 hw3 (Nat.le_refl _))
              simp [results, Tryd.results42, go_sem, z0, z1, z2]
              try exact ⟨rfl, rfl⟩
end Go.Proofs.YtbfnjjnnlbchgaaDoor
