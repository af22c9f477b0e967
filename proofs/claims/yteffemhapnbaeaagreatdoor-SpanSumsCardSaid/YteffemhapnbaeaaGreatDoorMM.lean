/- A text of ours, with only what the claim's row needs (wip/tools/shake.py). -/
import Derived.Test.YteffemhapnbaeaaGreatDoorMK
import Derived.Test.YteffemhapnbaeaaGreatDoorMD
import Derived.Test.YteffemhapnbaeaaGreatDoorML
namespace Go.Proofs.YteffemhapnbaeaaGreatDoor
open Go.RowKit Num
set_option maxRecDepth 100000

theorem rplain (neg : Bool) (A : Option Addr) (n c : Nat) (xs : List Int) (e : Int) (w : World) (h : Arr w A n c xs) (hn : n ≤ 100000000) :
    Calls Tryz.prog 85 #[.agg #[.bool neg, .slice A n c, .int .i64 e]] w fun r w' => r = .returned (.bool (plainB neg xs e)) ∧ Below w.heap.size w w' := by
  have hl := h.len
  have hcap := h.cap
  have hbig := h.big
  have HL := Lib.hid hl
  clear hl
  by_cases h0 : n = 0
  · subst h0
    have hp : plainB neg xs e = (decide (e = 0) && !neg) := by unfold plainB; rw [if_pos HL.out]
    have HP := Lib.hid hp
    clear hp
    go_enter Tryz.func85, Tryz.ntmps85
    go_wp2_with fail
    all_goals go_ret
    · have he : e = 0 := by assumption
      exact ⟨by rw [HP.out]; subst he; simp, below_alloc (below_self w) _⟩
    · have he : ¬ e = 0 := by assumption
      exact ⟨by rw [HP.out]; simp [he], below_alloc (below_self w) _⟩
  · have hp : plainB neg xs e = (decide (xs[n - 1]?.getD 0 ≠ 0) && decide (xs[0]?.getD 0 % 2 = 1) && decide (n ≤ 256) && decide (-262144 ≤ e) && decide (e ≤ 262144)) := by
      unfold plainB; rw [if_neg (by rw [HL.out]; exact h0), HL.out, List.getD_eq_getElem?_getD, List.getD_eq_getElem?_getD]
    have HP := Lib.hid hp
    clear hp
    have hbl := bl_lt (v := val xs) (a := 64 * n) h.val_nonneg (by rw [← B_pow_pw, ← HL.out]; exact val_lt h.wf)
    have RB := Lib.hid (fun w' (hb : Below w.heap.size w w') => rbits A n c xs w' (h.below hb) (by omega))
    obtain ⟨b, o, rfl, hlt, hc⟩ := h.mem (by omega)
    have k1 := hc (n - 1) (by omega)
    have k2 := hc 0 (by omega)
    rw [Nat.add_zero] at k2
    have l1 : 0 < n := by omega
    clear hc
    have a1 := h.words 0
    rw [List.getD_eq_getElem?_getD] at a1
    have b0 := below_alloc (below_self w) (.cells #[.bool neg, .slice (some ⟨b, o, none⟩) n c, .int .i64 e] 26)
    generalize bl (val xs) = q at *
    go_enter Tryz.func85, Tryz.ntmps85
    go_wp2_with fail
    · go_ret
      have z : xs[n - 1]?.getD 0 = 0 := by assumption
      exact ⟨by rw [HP.out]; refine ret_bool ?_; simp [z], b0⟩
    · have z : ¬ xs[n - 1]?.getD 0 = 0 := by assumption
      have z1 : xs[0]?.getD 0 % 2 = 1 := by assumption
      have z2 : (n : Int) ≤ 256 := by assumption
      have hq : q ≤ 16384 := by omega
      refine (RB.out _ b0).mono ?_
      rintro r w2 ⟨rfl, hb2⟩
      obtain ⟨j0, j1, j2, _, _, _⟩ := ((box_new w _ _).later hb2).cell3
      have b2 := below_on b0 hb2
      go_wp2_with fail
      all_goals go_ret
      · have z3 : -262144 ≤ e := by assumption
        have z2' : n ≤ 256 := by omega
        exact ⟨by rw [HP.out]; refine ret_bool ?_; simp [z, z1, z2', z3], b2⟩
      · have z3 : e < -262144 := by assumption
        exact ⟨by rw [HP.out]; refine ret_bool ?_; simp; omega, b2⟩
    · go_ret
      have z1 : 256 < (n : Int) := by assumption
      exact ⟨by rw [HP.out]; refine ret_bool ?_; simp; omega, b0⟩
    · go_ret
      have z1 : ¬ xs[0]?.getD 0 % 2 = 1 := by assumption
      exact ⟨by rw [HP.out]; refine ret_bool ?_; simp [z1], b0⟩
theorem word_bit {X : List Int} (hw : Wf X) {q r : Nat} (hq : q < X.length) (hr : r < 64) : (X[q]?.getD 0 / 2 ^ r) % 2 = (val X / pw (64 * q + r)) % 2 := by
  have h1 := val_drop hw q
  rw [List.drop_eq_getElem_cons hq, val_cons, B_pow_pw] at h1
  rw [List.getElem?_eq_getElem hq, pw_add, ← Int.ediv_ediv_of_nonneg (by have := pw_pos (64 * q); omega), ← h1]
  have e : B = pw r * (2 * pw (63 - r)) := by
    rw [B_split (Nat.le_of_lt hr), show 64 - r = 1 + (63 - r) from by omega, pw_add]; rfl
  have hp := pw_pos r
  show X[q] / pw r % 2 = _
  rw [e, Int.mul_assoc, Int.add_mul_ediv_left _ _ (by omega), Int.mul_assoc, Int.add_mul_emod_self_left]
theorem even_below {v : Int} {z : Nat} (h : 0 < v) (hz : z < tz v) : (v / pw z) % 2 = 0 := by
  obtain ⟨h1, _, _⟩ := odd_split h
  have e : v = pw z * (2 * (pw (tz v - z - 1) * oddI v)) := by
    conv => lhs; rw [h1]
    rw [show tz v = z + (1 + (tz v - z - 1)) from by omega, pw_add, pw_add]
    have : pw 1 = 2 := rfl
    rw [this, show z + (1 + (tz v - z - 1)) - z - 1 = tz v - z - 1 from by omega]; grind
  rw [e, Int.mul_ediv_cancel_left _ (by have := pw_pos z; omega)]
  omega
theorem odd_at {v : Int} (h : 0 < v) : (v / pw (tz v)) % 2 = 1 := (odd_split h).2.1
theorem pw_div {v : Int} (a b : Nat) : v / pw a / pw b = v / pw (a + b) := by
  rw [Int.ediv_ediv_of_nonneg (by have := pw_pos a; omega), pw_add]
theorem wd_length_mono {x y : Int} (h0 : 0 ≤ x) (h : x ≤ y) : (wd x).length ≤ (wd y).length :=
  wd_length_le h0 (Int.lt_of_le_of_lt h (lt_pow_of_wd_length (by omega) (Nat.le_refl _)))
theorem wd_length_div {v : Int} (h0 : 0 ≤ v) (a : Nat) : (wd (v / pw a)).length ≤ (wd v).length :=
  wd_length_mono (Int.ediv_nonneg h0 (by have := pw_pos a; omega)) (Int.ediv_le_self _ h0)
theorem rmake (neg : Bool) (A : Option Addr) (n c : Nat) (xs : List Int) (e : Int) (w : World) (h : Arr w A n c xs) (hn : n ≤ 1000000) (he0 : -9223372036854775808 ≤ e) (he1 : e ≤ 9223372036854775807) :
    Calls Tryz.prog 70 #[.bool neg, .slice A n c, .int .i64 e] w (RetD (mkD neg (val xs) e) w) := by
  have b0 : Below w.heap.size w (w.alloc (.cells #[.bool false, .slice none 0 0, .int .i64 0] 26)) := below_alloc (below_self w) _
  have T := Lib.hid (rtrim A n c xs _ (h.below b0) (by omega))
  by_cases hv : val xs = 0
  · have em : mkD neg (val xs) e = some Dy.zero := by unfold mkD; rw [if_pos hv]
    rw [em]
    have HZ := Lib.hid (show wd (val xs) = [] by rw [hv]; exact wd_zero (Int.le_refl _))
    clear hv em
    go_enter Tryz.func70, Tryz.ntmps70
    go_wp2_with fail
    refine T.out.mono ?_
    rintro r w2 ⟨A2, n2, c2, rfl, hA2, hb2⟩
    have bw2 := below_on b0 hb2
    obtain ⟨k0, k1, k2, f0, f1, f2⟩ := ((box_new w _ _).later hb2).cell3
    rw [HZ.out] at hA2
    obtain rfl : n2 = 0 := hA2.len.symm
    go_wp2_with fail
    refine bodyPost_ret (v := .tuple #[.agg #[.bool false, .slice none 0 0, .int .i64 0], .bool true]) (by simp [results, Tryz.results70, go_sem, k0, k1, k2]) rfl ⟨none, 0, 0, rfl, ?_, (by repeat (first | with_reducible assumption | exact below_self _ | refine below_set ?_ _ _ (by first | exact Nat.le_refl _ | omega | (simp; done) | (simp; omega)) _ | refine below_alloc ?_ _ | apply Below.drew | apply below_drewN))⟩
    have : wd (optD (some Dy.zero)).m = [] := wd_zero (Int.le_refl _)
    rw [this]; exact Arr.nothing _
  · have hp : 0 < val xs := by have := h.val_nonneg; omega
    have hpos : 0 < (wd (val xs)).length := List.length_pos_iff.2 (wd_ne_nil hp)
    have hlen := wd_len h.wf
    rw [h.len] at hlen
    have hvX := val_wd (val xs) (by omega)
    go_enter Tryz.func70, Tryz.ntmps70
    go_wp2_with fail
    refine T.out.mono ?_
    rintro r w2 ⟨A2, n2, c2, rfl, hA2, hb2⟩
    have bw2 := below_on b0 hb2
    have bx2 := (box_new w _ _).later hb2
    have hx2 := hA2.arr
    have hn2 : n2 = (wd (val xs)).length := hA2.len.symm
    have hn2b : n2 ≤ 1000000 := by omega
    have hle := fun a => wd_length_div (v := val xs) (by omega) a
    rw [← hn2] at hle
    have HLE := Lib.hid hle
    clear hle
    have d0 : ((n2 : Int) == 0) = false := beq_eq_false_iff_ne.2 (by omega)
    have htz : tz (val xs) < 64 * n2 := by
      have := tz_lt hx2.wf (by rw [hvX]; exact hp)
      rw [hvX, ← hn2] at this; exact this
    have hbit := fun (q r : Nat) (hq : q < n2) (hr : r < 64) => word_bit hx2.wf (q := q) (by rw [← hn2]; exact hq) hr
    rw [hvX] at hbit
    have hev := fun z => even_below (v := val xs) (z := z) hp
    have hod := odd_at hp
    have hfin : oddI (val xs) = val xs / pw (tz (val xs)) := rfl
    have hou := oddI_pos hp
    have hodd := (odd_split hp).2.1
    have hpl := plainB_words hou
    have hM2 : mkD neg (val xs) e = if 262144 < e ∨ e < -262144 - (tz (val xs) : Int) then none else if (wd (oddI (val xs))).length ≤ 256 ∧ e + (tz (val xs) : Int) ≤ 262144 then some ⟨neg, oddI (val xs), e + tz (val xs)⟩ else none := by
      unfold mkD; rw [if_neg hv]
    generalize hX : wd (val xs) = X at *
    generalize tz (val xs) = z at *
    generalize oddI (val xs) = u at *
    have HX := Lib.hid hX
    have HB := Lib.hid hbit
    have HE := Lib.hid hev
    have HO := Lib.hid hod
    have HF := Lib.hid hfin
    have HM := Lib.hid hM2
    have HP := Lib.hid hpl
    have HN := Lib.hid hn2
    have HU := Lib.hid hodd
    have hz' : z < 64000000 := by omega
    clear hX hbit hev hod hfin hM2 hpl hn2 hodd hv hvX T
    go_wp2_with fail
    go_loop [9] (fun v => ∃ k : Nat, k ≤ z ∧ v = .int .i64 k) (fun v => z - (intOf v).toNat)
    case atStart => exact ⟨0, Nat.zero_le _, rfl⟩
    case round =>
      obtain ⟨k, hk, rfl⟩ := hrel
      obtain ⟨q, r, hr, rfl⟩ : ∃ q r : Nat, r < 64 ∧ k = 64 * q + r := ⟨k / 64, k % 64, by omega, by omega⟩
      have hq : q < n2 := by omega
      obtain ⟨b, o, rfl, hlt, hc⟩ := hx2.mem (by omega)
      have k1 := hc q hq
      have hb := HB.out q r hq hr
      have q1 : ((64 * q + r : Nat) : Int) / 64 = q := by omega
      have q2 : ((64 * q + r : Nat) : Int) % 64 = r := by omega
      have x1 := hx2.words q
      rw [List.getD_eq_getElem?_getD] at x1
      have hnn : 0 ≤ X[q]?.getD 0 / 2 ^ r := Int.ediv_nonneg x1.1 (Int.le_of_lt (Int.pow_pos (by decide)))
      have hlast : 64 * q + r < z ∨ 64 * q + r = z := by omega
      clear hc
      generalize hK : 64 * q + r = K at *
      have HK := Lib.hid hK
      clear hK
      by_cases hkz : K < z
      · have he := HE.out K hkz
        rw [← hb] at he
        have hbb : (X[q]?.getD 0 / 2 ^ r % 2 == 0) = true := beq_iff_eq.2 he
        clear hb he
        go_wp2_with fail
        exact ⟨⟨K + 1, by omega, by go_num⟩, by simp only [intOf]; omega⟩
      · obtain rfl : K = z := by omega
        have he := HO.out
        rw [← hb] at he
        have hbb : (X[q]?.getD 0 / 2 ^ r % 2 == 0) = false := beq_eq_false_iff_ne.2 (by omega)
        clear hb he
        by_cases t1 : 262144 < e
        · have d1 : decide (262144 < e) = true := by simp [t1]
          have em := HM.out
          rw [if_pos (.inl t1)] at em
          have EM := Lib.hid em
          clear em
          obtain ⟨k0, k1', k2, f0, f1, f2⟩ := bx2.cell3
          go_wp2_with fail
          refine bodyPost_ret (v := .tuple #[.agg #[.bool false, .slice none 0 0, .int .i64 0], .bool false]) (by simp [results, Tryz.results70, go_sem, k0, k1', k2]) rfl (by rw [EM.out]; exact ⟨none, 0, 0, rfl, arr_no _, (by repeat (first | with_reducible assumption | exact below_self _ | refine below_set ?_ _ _ (by first | exact Nat.le_refl _ | omega | (simp; done) | (simp; omega)) _ | refine below_alloc ?_ _ | apply Below.drew | apply below_drewN))⟩)
        · have d1 : decide (262144 < e) = false := by simp [t1]
          by_cases t2 : e < -1000000000
          · have d2 : decide (e < -1000000000) = true := by simp [t2]
            have em := HM.out
            rw [if_pos (.inr (by omega))] at em
            have EM := Lib.hid em
            clear em
            obtain ⟨k0, k1', k2, f0, f1, f2⟩ := bx2.cell3
            go_wp2_with fail
            refine bodyPost_ret (v := .tuple #[.agg #[.bool false, .slice none 0 0, .int .i64 0], .bool false]) (by simp [results, Tryz.results70, go_sem, k0, k1', k2]) rfl (by rw [EM.out]; exact ⟨none, 0, 0, rfl, arr_no _, (by repeat (first | with_reducible assumption | exact below_self _ | refine below_set ?_ _ _ (by first | exact Nat.le_refl _ | omega | (simp; done) | (simp; omega)) _ | refine below_alloc ?_ _ | apply Below.drew | apply below_drewN))⟩)
          · have d2 : decide (e < -1000000000) = false := by simp [t2]
            go_wp2_with fail
            go_loopw [8, 10, 11] (fun va vk _ wr => ∃ (j : Nat) (A3 : Option Addr) (n3 c3 : Nat), j ≤ K ∧ vk = .int .i64 j ∧ va = .slice A3 n3 c3 ∧ Arr wr A3 n3 c3 (wd (val xs / pw (K - j))) ∧ n3 ≤ n2 ∧ Below w2.heap.size w2 wr) (fun _ vk _ _ => (intOf vk).toNat)
            case atStart => exact ⟨K, _, _, _, Nat.le_refl _, rfl, rfl, by rw [Nat.sub_self, show pw 0 = 1 from rfl, Int.ediv_one, HX.out]; exact hx2, Nat.le_refl _, below_self _⟩
            case round =>
              obtain ⟨j, A3, n3, c3, hj, rfl, rfl, hA3, hn3, hW⟩ := hrel
              by_cases hj0 : 0 < j
              · go_wp2_with fail
                have hn3' : n3 ≤ 17592186044416 := by omega
                refine (rshr A3 n3 c3 _ (min (j : Int) 1048576) wr hA3 hn3' (by omega) (by omega)).mono ?_
                rintro r' w5 ⟨A5, n5, c5, rfl, hA5, hb5⟩
                have hvd : 0 ≤ val xs / pw (K - j) := Int.ediv_nonneg (by omega) (by have := pw_pos (K - j); omega)
                rw [val_wd _ hvd, shrI_eq (by omega) (by omega)] at hA5
                have e5 : val xs / pw (K - j) / 2 ^ (min (j : Int) 1048576).toNat = val xs / pw (K - (j - min j 1048576)) := by
                  have : (min (j : Int) 1048576).toNat = min j 1048576 := by omega
                  rw [this]
                  show val xs / pw (K - j) / pw (min j 1048576) = _
                  rw [pw_div]; congr 2; omega
                rw [e5] at hA5
                have hn5 : n5 ≤ n2 := by rw [← hA5.len]; exact HLE.out _
                have e6 : (j : Int) - min (j : Int) 1048576 = ((j - min j 1048576 : Nat) : Int) := by omega
                have E6 := Lib.hid e6
                clear e5 e6
                go_wp2_with fail
                exact ⟨⟨j - min j 1048576, A5, n5, c5, by omega, by rw [E6.out], rfl, hA5, hn5, below_on hW hb5⟩, by simp only [intOf]; omega⟩
              · obtain rfl : j = 0 := by omega
                rw [Nat.sub_zero, ← HF.out] at hA3
                have bw3 := bw2.trans (hW.mono bw2.size)
                have bx3 := bx2.later hW
                go_wp2_with fail
                have bw4 : Below wr.heap.size wr (wr.alloc (.cells #[.bool neg, .slice A3 n3 c3, .int .i64 (e + (K : Int))] 26)) := below_alloc (below_self wr) _
                have bd := box_new wr #[.bool neg, .slice A3 n3 c3, .int .i64 (e + (K : Int))] 26
                refine (rplain neg A3 n3 c3 _ (e + K) _ (hA3.below bw4) (by omega)).mono ?_
                rintro r' w5 ⟨rfl, hb5⟩
                rw [HP.out]
                have bg5 := ((bx3.below bw4 bx3.lt).later hb5)
                have bd5 := bd.later hb5
                have bw5 := below_on (below_on bw3 bw4) hb5
                have hA5 := (hA3.below bw4).below hb5
                obtain ⟨k0, k1', k2, f0, f1, f2⟩ := bg5.cell3
                obtain ⟨j0, j1, j2, _, _, _⟩ := bd5.cell3
                have hne : w.heap.size ≠ wr.heap.size := by have := bx3.lt; omega
                by_cases t3 : (wd u).length ≤ 256 ∧ e + (K : Int) ≤ 262144 ∧ -262144 ≤ e + (K : Int)
                · have d3 : (decide (u % 2 = 1) && decide ((wd u).length ≤ 256) && decide (-262144 ≤ e + (K : Int)) && decide (e + (K : Int) ≤ 262144)) = true := by
                    have := HU.out
                    simp [this, t3.1, t3.2.1, t3.2.2]
                  rw [d3]
                  have em := HM.out
                  rw [if_neg (by omega), if_pos ⟨t3.1, t3.2.1⟩] at em
                  have EM := Lib.hid em
                  clear em
                  go_wp2_with fail
                  refine bodyPost_ret (v := .tuple #[.agg #[.bool neg, .slice A3 n3 c3, .int .i64 (e + (K : Int))], .bool true]) (by simp [results, Tryz.results70, go_sem, k0, k1', k2]) rfl ?_
                  rw [EM.out]
                  exact ⟨A3, n3, c3, rfl, hA5.set3 bg5 _ _ _ (by simp) (by simp), (by repeat (first | with_reducible assumption | exact below_self _ | refine below_set ?_ _ _ (by first | exact Nat.le_refl _ | omega | (simp; done) | (simp; omega)) _ | refine below_alloc ?_ _ | apply Below.drew | apply below_drewN))⟩
                · have d3 : (decide (u % 2 = 1) && decide ((wd u).length ≤ 256) && decide (-262144 ≤ e + (K : Int)) && decide (e + (K : Int) ≤ 262144)) = false := by
                    simp; omega
                  rw [d3]
                  have em : mkD neg (val xs) e = none := by
                    rw [HM.out]
                    by_cases t4 : e < -262144 - (K : Int)
                    · rw [if_pos (.inr t4)]
                    · rw [if_neg (by omega), if_neg (by omega)]
                  have EM := Lib.hid em
                  clear em
                  go_wp2_with fail
                  refine bodyPost_ret (v := .tuple #[.agg #[.bool false, .slice none 0 0, .int .i64 0], .bool false]) (by simp [results, Tryz.results70, go_sem, k0, k1', k2]) rfl ?_
                  rw [EM.out]
                  exact ⟨none, 0, 0, rfl, arr_no _, (by repeat (first | with_reducible assumption | exact below_self _ | refine below_set ?_ _ _ (by first | exact Nat.le_refl _ | omega | (simp; done) | (simp; omega)) _ | refine below_alloc ?_ _ | apply Below.drew | apply below_drewN))⟩
end Go.Proofs.YteffemhapnbaeaaGreatDoor
namespace Go.Proofs.YteffemhapnbaeaaGreatDoor
open Go.RowKit Num
set_option maxRecDepth 100000

theorem Box.otherR {w w' : World} {g : Nat} {cs : Array Value} {t : TypeId} {r : Option Nat} (h : Box w g cs t) (hg : w.grownBy w' r) (hne : some g ≠ r) : Box w' g cs t := ⟨(hg.block g h.lt hne).trans h.heap⟩
theorem no3d {p : Bool} {A0 : Option Addr} {n0 c0 : Nat} {e : Int} : ∀ (i : Nat) (x : Int), (#[Value.bool p, .slice A0 n0 c0, .int .i64 e] : Array Value)[i]? ≠ some (Value.int .u64 x)
  | 0, _ => by simp
  | 1, _ => by simp
  | 2, _ => by simp
  | i + 3, _ => by simp
/-- The other sign. (As dyad.Neg's negD.) -/
def negR (p : Bool) (xs : List Int) (e : Int) : Option Dy := if plainB p xs e then some ⟨!p && decide (0 < xs.length), val xs, e⟩ else none
set_option maxHeartbeats 2000000 in
theorem rneg02 (p : Bool) (A : Option Addr) (n c : Nat) (xs : List Int) (e : Int) (w : World) (h : Arr w A n c xs) (hn : n ≤ 100000000) :
    Calls Tryz.prog 81 #[.agg #[.bool p, .slice A n c, .int .i64 e]] w (RetD (negR p xs e) w) := by
  have b1 : Below w.heap.size w ((w.alloc (.cells #[.bool p, .slice A n c, .int .i64 e] 26)).alloc (.cells #[.bool false, .slice none 0 0, .int .i64 0] 26)) := below_alloc (below_alloc (below_self w) _) _
  have H := h.below b1
  have PL := Lib.hid (rplain p A n c xs e _ H hn)
  have bx := (box_new w #[.bool p, .slice A n c, .int .i64 e] 26).later (below_alloc (below_self _) (.cells #[.bool false, .slice none 0 0, .int .i64 0] 26))
  have br := box_new (w.alloc (.cells #[.bool p, .slice A n c, .int .i64 e] 26)) #[.bool false, .slice none 0 0, .int .i64 0] 26
  rw [show (w.alloc (.cells #[.bool p, .slice A n c, .int .i64 e] 26)).heap.size = w.heap.size + 1 by simp] at br
  obtain ⟨k0, k1, k2, f0, f1, f2⟩ := bx.cell3
  cases hpl : plainB p xs e
  · have er : negR p xs e = none := by unfold negR; rw [hpl]; rfl
    rw [er]
    rw [hpl] at PL
    go_enter Tryz.func81, Tryz.ntmps81
    go_wp2_with fail
    refine PL.out.mono ?_; rintro r w3 ⟨rfl, hb3⟩
    have hw3 := below_on b1 hb3
    have br3 := br.later hb3
    obtain ⟨z0, z1, z2, y0, y1, y2⟩ := br3.cell3
    go_wp2_with fail
    refine bodyPost_ret (v := .tuple #[.agg #[.bool false, .slice none 0 0, .int .i64 0], .bool false]) (by simp [results, Tryz.results81, go_sem, z0, z1, z2]) rfl ?_
    exact retD_set (o := none) (arr_no _) br3 hw3 (by omega)
  · obtain ⟨pd, l256, wx, vp⟩ := plainB_parts h.wf hpl
    have er : negR p xs e = some ⟨!p && decide (0 < n), val xs, e⟩ := by unfold negR; rw [hpl, h.len]; rfl
    rw [er]
    rw [hpl] at PL
    have TR := Lib.hid (fun w1 (hb : Below ((w.alloc (.cells #[.bool p, .slice A n c, .int .i64 e] 26)).alloc (.cells #[.bool false, .slice none 0 0, .int .i64 0] 26)).heap.size ((w.alloc (.cells #[.bool p, .slice A n c, .int .i64 e] 26)).alloc (.cells #[.bool false, .slice none 0 0, .int .i64 0] 26)) w1) => rtrim A n c xs w1 (H.below hb) (by omega))
    have H3 := Lib.hid (fun w3 (hb : Below ((w.alloc (.cells #[.bool p, .slice A n c, .int .i64 e] 26)).alloc (.cells #[.bool false, .slice none 0 0, .int .i64 0] 26)).heap.size ((w.alloc (.cells #[.bool p, .slice A n c, .int .i64 e] 26)).alloc (.cells #[.bool false, .slice none 0 0, .int .i64 0] 26)) w3) (v : Value) => rtrim A n c xs (w3.setCell ⟨w.heap.size, 0, none⟩ v) ((H.below hb).set_box (bx.later hb) no3d 0 v) (by omega))
    have hz : n = 0 → p = false := fun hh => (pd.z (by rw [List.length_eq_zero_iff.1 (h.len.trans hh)]; rfl)).2
    clear pd vp h H er hpl wx
    generalize val xs = m at *
    by_cases h0 : n = 0
    · obtain rfl := hz h0
      subst h0
      go_enter Tryz.func81, Tryz.ntmps81
      go_wp2_with fail
      refine PL.out.mono ?_; rintro r w3 ⟨rfl, hb3⟩
      have hw3 := below_on b1 hb3
      have bx3 := bx.later hb3
      obtain ⟨x0, x1, x2, t0, t1, t2⟩ := bx3.cell3
      clear k0 k1 k2 f0 f1 f2
      go_wp2_with fail
      refine (TR.out w3 hb3).mono ?_; rintro r w5 ⟨A5, n5, c5, rfl, h5, hb5⟩
      have hw5 := below_on hw3 hb5
      have bx5 := bx3.later hb5
      have br5 := (br.later hb3).later hb5
      obtain ⟨u0, u1, u2, v0, v1, v2⟩ := bx5.cell3
      obtain ⟨z0, z1, z2, y0, y1, y2⟩ := br5.cell3
      clear x0 x1 x2 t0 t1 t2 TR
      go_wp2_with fail
      refine bodyPost_ret (v := _) ?_ rfl (retD_set (o := some ⟨!false && decide (0 < 0), m, e⟩) (h5.arr.set_box bx5 no3d 1 _) (br5.otherR (grown_set _ _ _ _) (by simp)) (below_set hw5 _ _ (Nat.le_refl _) _) (by omega))
      simp [results, Tryz.results81, go_sem, z0, z1, z2]
      try exact ⟨rfl, rfl⟩
    · have hd : decide ((n : Int) > 0) = true := by simp; omega
      have hd2 : decide (0 < n) = true := by simp; omega
      rw [hd2, Bool.and_true]
      go_enter Tryz.func81, Tryz.ntmps81
      go_wp2_with fail
      refine PL.out.mono ?_; rintro r w3 ⟨rfl, hb3⟩
      have hw3 := below_on b1 hb3
      have bx3 := bx.later hb3
      obtain ⟨x0, x1, x2, t0, t1, t2⟩ := bx3.cell3
      clear k0 k1 k2 f0 f1 f2
      go_wp2_with fail
      refine (H3.out w3 hb3 _).mono ?_; rintro r w5 ⟨A5, n5, c5, rfl, h5, hb5⟩
      have hw4 := below_set hw3 w.heap.size 0 (Nat.le_refl _) (.bool !p)
      have hw5 := below_on hw4 hb5
      have bx4 := bx3.set 0 (.bool !p)
      have br4 := (br.later hb3).otherR (grown_set w3 w.heap.size 0 (.bool !p)) (by simp)
      have bx5 := bx4.later hb5
      have br5 := br4.later hb5
      have bx5 : Box w5 w.heap.size #[.bool !p, .slice A n c, .int .i64 e] 26 := bx5
      obtain ⟨u0, u1, u2, v0, v1, v2⟩ := bx5.cell3
      obtain ⟨z0, z1, z2, y0, y1, y2⟩ := br5.cell3
      clear x0 x1 x2 t0 t1 t2 TR H3
      go_wp2_with fail
      refine bodyPost_ret (v := _) ?_ rfl (retD_set (o := some ⟨!p, m, e⟩) (h5.arr.set_box bx5 no3d 1 _) (br5.otherR (grown_set _ _ _ _) (by simp)) (below_set hw5 _ _ (Nat.le_refl _) _) (by omega))
      simp [results, Tryz.results81, go_sem, z0, z1, z2]
      exact ⟨by cases p <;> rfl, rfl⟩
end Go.Proofs.YteffemhapnbaeaaGreatDoor
