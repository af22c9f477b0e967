/- The document's numbers: digits of 16 bits, and back. -/
import Derived.Test.YtbfnjjnnlbchgaaDoorDig
import Derived.Test.YtbfnjjnnlbchgaaDoorNatE
import Derived.Test.YtbfnjjnnlbchgaaDoorNatH
namespace Go.Proofs.YtbfnjjnnlbchgaaDoor
open Go.RowKit Num
set_option maxRecDepth 100000

theorem cut (A : Option Addr) (n c : Nat) (xs : List Int) (w : World) (h : Arr w A n c xs) (hD : Dig.Wf xs) :
    Calls Tryd.prog 146 #[.slice A n c] w fun e w' => e = .returned (.slice A (Dig.wd (Dig.val xs)).length c) ∧ w = w' := by
  have hl := h.len
  have hcap := h.cap
  have hbig := h.big
  go_enter Tryd.func146, Tryd.ntmps146
  go_wp2
  go_loop [0] (fun v => ∃ k : Nat, k ≤ n ∧ v = .slice A k c ∧ Dig.val (xs.take k) = Dig.val xs) (fun v => match v with | .slice _ k _ => k | _ => 0)
  case atStart => exact ⟨n, Nat.le_refl _, rfl, by rw [← hl, List.take_length]⟩
  case round =>
    obtain ⟨k, hk, rfl, hv⟩ := hrel
    have HV := Lib.hid hv
    have HL := Lib.hid hl
    clear hv hl
    by_cases h0 : 0 < k
    · obtain ⟨b, o, rfl, hlt, hc⟩ := h.mem (by omega)
      have hcell := hc (k - 1) (by omega)
      clear hc
      go_wp2
      · have hz : (xs[k - 1]?.getD 0 == 0) = true := by assumption
        have hz' : xs[k - 1]?.getD 0 = 0 := by simpa using hz
        exact ⟨⟨k - 1, by omega, rfl, Dig.trim_go h0 (by rw [HL.out]; exact hk) hz' HV.out⟩, by simp; omega⟩
      · have hz : (xs[k - 1]?.getD 0 == 0) = false := by assumption
        have hz' : xs[k - 1]?.getD 0 ≠ 0 := by simpa using hz
        have e := Dig.trim_end hD h0 (by rw [HL.out]; exact hk) hz' HV.out
        go_ret
        refine ⟨?_, rfl⟩
        rw [e, List.length_take, HL.out, Nat.min_eq_left hk]
        rfl
    · obtain rfl : k = 0 := by omega
      have e : Dig.wd (Dig.val xs) = [] := by rw [← HV.out]; exact Dig.wd_zero (Int.le_refl _)
      go_wp2
      go_ret
      exact ⟨by first | rfl | (rw [e]; rfl), rfl⟩

def shd : Nat → Int → Int
  | 0, x => x
  | k + 1, x => shd k x / 65536
def digs : Nat → Int → List Int
  | 0, _ => []
  | k + 1, x => digs k x ++ [shd k x % 65536]
theorem digs_length : ∀ (k : Nat) (x : Int), (digs k x).length = k
  | 0, _ => rfl
  | k + 1, x => by rw [digs, List.length_append, digs_length k x]; rfl
theorem digs_wf : ∀ (k : Nat) (x : Int), Dig.Wf (digs k x)
  | 0, _ => Dig.wf_nil
  | k + 1, x => Dig.wf_append.2 ⟨digs_wf k x, Dig.wf_cons.2 ⟨by omega, Dig.wf_nil⟩⟩
theorem shd_range {x : Int} (h0 : 0 ≤ x) (h1 : x < 18446744073709551616) : ∀ k, 0 ≤ shd k x ∧ shd k x < 18446744073709551616
  | 0 => ⟨h0, h1⟩
  | k + 1 => by have := shd_range h0 h1 k; rw [shd]; omega
theorem digs_val {x : Int} (h0 : 0 ≤ x) (h1 : x < 18446744073709551616) : Dig.val (digs 4 x) = x := by
  simp only [digs, shd, List.nil_append, List.cons_append, Dig.val_cons, Dig.val_nil, Dig.B_eq]
  omega
def allD (xs : List Int) : List Int := xs.flatMap (digs 4)
theorem allD_length : ∀ xs, (allD xs).length = 4 * xs.length
  | [] => rfl
  | x :: xs => by have := allD_length xs; unfold allD at *; rw [List.flatMap_cons, List.length_append, digs_length, this, List.length_cons]; omega
theorem allD_wf : ∀ xs, Dig.Wf (allD xs)
  | [] => Dig.wf_nil
  | x :: xs => by have := allD_wf xs; unfold allD at *; rw [List.flatMap_cons]; exact Dig.wf_append.2 ⟨digs_wf 4 x, this⟩
theorem allD_val : ∀ {xs : List Int}, Wf xs → Dig.val (allD xs) = val xs
  | [], _ => rfl
  | x :: xs, h => by
    have ih := allD_val (wf_cons.1 h).2
    have hx := (wf_cons.1 h).1
    unfold allD at *
    rw [List.flatMap_cons, Dig.val_append, digs_val hx.1 hx.2, digs_length, ih, val_cons]
    have : Dig.B ^ 4 = B := by decide
    rw [this]
theorem allD_snoc (xs : List Int) (i : Nat) (hi : i < xs.length) : allD (xs.take (i + 1)) = allD (xs.take i) ++ digs 4 (xs[i]?.getD 0) := by
  rw [take_last (xs := xs) (k := i + 1) (by omega) (by omega), Nat.add_sub_cancel]
  unfold allD
  rw [List.flatMap_append]; simp
theorem dig_wf {xs : List Int} (h : Dig.Wf xs) : Wf xs := fun x hx => by have := h x hx; omega
theorem own_push {w wr w4 : World} {v : Value} {m : Nat} {ys : List Int} {o : Obj} (ho : wr.ownsRow w.heap.size 27 1 v m (cellsOf ys)) (hb : Below w.heap.size w wr) (hg : (wr.alloc o).grownBy w4 v.ownBlock) : Below w.heap.size w w4 :=
  (below_alloc hb o).trans (grown_below (B := w.heap.size) hg (by have := hb.size; simp; omega) (fun k hk => (ho.lt k hk).1))
theorem digits (A : Option Addr) (n c : Nat) (xs : List Int) (w : World) (h : Arr w A n c xs) (hn : n ≤ 100000000) :
    Calls Tryd.prog 138 #[.slice A n c] w fun e w' => ∃ A' n' c', e = .returned (.slice A' n' c') ∧ Own w' w.heap.size A' n' c' (Dig.wd (val xs)) ∧ Below w.heap.size w w' := by
  have hl := h.len
  have hcap := h.cap
  have hbig := h.big
  subst hl
  go_enter Tryd.func138, Tryd.ntmps138
  go_wp2
  go_loopw [3, 4] (fun vd vi wr => ∃ (i : Nat), i ≤ xs.length ∧ vi = .int .i64 i ∧ wr.ownsRow w.heap.size 27 1 vd (4 * i) (cellsOf (allD (xs.take i))) ∧ Below w.heap.size w wr) (fun _ vi _ => xs.length + 1 - (intOf vi).toNat)
  case atStart => exact ⟨0, Nat.zero_le _, rfl, owns_nil w _, below_self w⟩
  case round =>
    obtain ⟨i, hi, rfl, ho, hW⟩ := hrel
    by_cases h0 : i < xs.length
    · obtain ⟨b, o, rfl, hlt, hc⟩ := (h.below hW).mem (by omega)
      have k1 := hc i h0
      have x1 := h.words i
      have hs := allD_snoc xs i h0
      rw [List.getD_eq_getElem?_getD] at k1 x1
      generalize xs[i]?.getD 0 = x at *
      have hr := shd_range x1.1 x1.2
      clear hc
      have HR := Lib.hid hr
      have HS := Lib.hid hs
      clear hs hr
      go_wp2
      go_loopw [3, 5, 6] (fun vd vw vk wr => ∃ (k : Nat), k ≤ 4 ∧ vk = .int .i64 k ∧ vw = .int .u64 (shd k x) ∧ wr.ownsRow w.heap.size 27 1 vd (4 * i + k) (cellsOf (allD (xs.take i) ++ digs k x)) ∧ Below w.heap.size w wr) (fun _ _ vk _ => 5 - (intOf vk).toNat)
      case atStart => exact ⟨0, by omega, rfl, rfl, by simpa [digs] using ho, hW⟩
      case round =>
        obtain ⟨k, hk, rfl, rfl, ho2, hW2⟩ := hrel
        by_cases hk4 : k < 4
        · have sr := HR.out k
          have e1 : shd (k + 1) x = shd k x / 65536 := rfl
          have e2 : digs (k + 1) x = digs k x ++ [shd k x % 65536] := rfl
          generalize shd k x = s at *
          have t1 : s.tmod 65536 = s % 65536 := Int.tmod_eq_emod_of_nonneg sr.1
          have t2 : s.tdiv 65536 = s / 65536 := Int.tdiv_eq_ediv_of_nonneg sr.1
          have E1 := Lib.hid e1
          have E2 := Lib.hid e2
          clear e1 e2
          go_wp2_with (at_builtin; refine wp_append rfl _ _ rfl w.heap.size _ (4 * i + k) (allD (xs.take i) ++ digs k x) rfl (ho2.alloc _) _ 1 1 [s % 65536] rfl (arr_one rfl (s % 65536) (by omega) (by omega)) (4 * i + k + 1) rfl (by omega) (by have := hW2.size; simp; omega) ?_)
          intro v4 w4 ho4 hg4
          have hb4 := own_push ho2 hW2 hg4
          have HO : Hid (w4.ownsRow w.heap.size 27 1 v4 (4 * i + (k + 1)) (cellsOf (allD (xs.take i) ++ digs (k + 1) x))) := by rw [E2.out, ← Nat.add_assoc]; exact ho4
          clear ho4
          go_wp2
          exact ⟨⟨k + 1, by omega, by go_num, by rw [E1.out], HO.out, hb4⟩, by simp only [intOf]; omega⟩
        · obtain rfl : k = 4 := by omega
          have HO : Hid (wr.ownsRow w.heap.size 27 1 u3 (4 * (i + 1)) (cellsOf (allD (xs.take (i + 1))))) := by rw [HS.out, Nat.mul_add]; exact ho2
          clear ho2
          go_wp2
          exact ⟨⟨i + 1, by omega, by go_num, HO.out, hW2⟩, by simp only [intOf]; omega⟩
    · obtain rfl : i = xs.length := by omega
      rw [List.take_length] at ho
      have hw := dig_wf (allD_wf xs)
      obtain ⟨A2, c2, rfl, hO⟩ := own_of_owns ho hw
      have C := Lib.hid (cut A2 _ c2 _ wr hO.arr (allD_wf xs))
      have hv := allD_val h.wf
      have hD := allD_wf xs
      have hT := hO.take (Dig.wd (Dig.val (allD xs))).length (by have := Dig.wd_len hD; rw [hO.len] at this; exact this)
      rw [Dig.wd_take hD, hv] at hT
      rw [hv] at C
      clear ho hv hD
      go_wp2_with fail
      refine C.out.mono ?_; rintro r w' ⟨rfl, rfl⟩
      go_wp2
      go_ret
      exact ⟨A2, _, c2, rfl, hT, hW⟩
end Go.Proofs.YtbfnjjnnlbchgaaDoor
