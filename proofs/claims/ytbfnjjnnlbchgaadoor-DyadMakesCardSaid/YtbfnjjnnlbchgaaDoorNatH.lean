/- nat.Add and nat.Sub. -/
import Derived.Laws.CopyOwn
import Derived.Test.YtbfnjjnnlbchgaaDoorNatD
import Derived.Test.YtbfnjjnnlbchgaaDoorNatE
namespace Go.Proofs.YtbfnjjnnlbchgaaDoor
open Go.RowKit Num
set_option maxRecDepth 100000

/-- 'copy' to a row of one's own, from its head. -/
theorem wp_copy {w w0 : World} {ops : Array Oper} {rest : List Oper} {o : Oper} {a : Act} {Q : Exit → Act → World → Prop} (hgd : o.guard = none) (d s : Operand)
    (ho : o.op = .call { callee := .builtin .copy, args := #[d, s], argTypes := #[22, 22] }) (g n c : Nat) (S : List Int) (A : Option Addr) (m c' : Nat) (xs : List Int)
    (hd : a.eval d = .slice (some ⟨g, 0, none⟩) n c) (hs : a.eval s = .slice A m c') (hr : Row w g S) (hn : S.length = n) (hA : Arr w A m c' xs) (hm : m ≤ n) (Bk : Nat) (hb : Below Bk w0 w) (hB : Bk ≤ g)
    (h : ∀ w', Row w' g (xs ++ S.drop m) → Below Bk w0 w' → wpList Tryd.prog ops Q rest (a.put o.dst (goInt m)) w') : wpList Tryd.prog ops Q (o :: rest) a w := by
  obtain ⟨i0, hi, hz0, hz1, hz2⟩ := info_parts info64
  obtain ⟨rest', hh⟩ := hr.heap
  have hl := hA.len
  have e : (cellsOf xs).length = m := by simp [cellsOf, hl]
  refine wpList_copy_splice hgd d s 22 22 ho 27 Tryd.underlying22 (by rw [hi]; simp [hz1]) _ _ n c m c' hd hs g 0 _ _ hh (cellsOf xs) (by rw [e]; exact (Nat.min_eq_left hm).symm) ?_ ?_ ?_ Bk w0 hb hB ?_
  · intro hp
    refine ⟨rfl, ?_⟩
    obtain ⟨b, o, rfl, _, hc⟩ := hA.mem (by omega)
    refine ⟨_, rfl, fun j v hv => ?_⟩
    have hj : j < m := by
      have := (List.getElem?_eq_some_iff.1 hv).1
      omega
    have e2 : (⟨b, o, none⟩ : Addr).add j = ⟨b, o + j, none⟩ := by unfold Addr.add; split <;> simp_all
    have := cellsOf_get xs j (by omega) []
    rw [List.append_nil] at this
    rw [e2, hc j hj, ← this, hv]
  · rw [List.length_append, e]; simp [cellsOf]; omega
  · intro v hv
    obtain ⟨x, _, rfl⟩ := List.mem_map.1 hv
    rfl
  · intro w' hw hb'
    rw [e]
    refine h w' ⟨wf_append.2 ⟨hA.wf, hr.wf.drop m⟩, rest', ?_⟩ hb'
    have := hw.out
    rw [this]
    unfold splice
    rw [e, cellsOf_append]
    have e3 : (cellsOf S ++ rest').drop m = cellsOf (S.drop m) ++ rest' := by
      rw [List.drop_append_of_le_length (by simp [cellsOf]; omega)]
      simp [cellsOf, List.map_drop]
    simp [e3]
theorem Arr.blk_lt {w : World} {A : Option Addr} {n c : Nat} {xs : List Int} (h : Arr w A n c xs) : blk A n = none ∨ ∃ b, blk A n = some b ∧ b < w.heap.size := by
  by_cases h0 : 0 < n
  · obtain ⟨b, o, rfl, hlt, _⟩ := h.mem h0
    exact .inr ⟨b, by unfold blk; rw [if_neg (by omega)]; rfl, hlt⟩
  · exact .inl (by unfold blk; rw [if_pos (by omega)])
theorem Arr.apart {w : World} {A : Option Addr} {n c : Nat} {xs : List Int} (h : Arr w A n c xs) {g : Nat} (hg : w.heap.size ≤ g) : blk A n = none ∨ blk A n ≠ some g := by
  rcases h.blk_lt with h | ⟨b, e, hlt⟩
  · exact .inl h
  · refine .inr ?_; rw [e]; simp; omega
theorem val_zeros (xs : List Int) (k : Nat) : val (xs ++ List.replicate k (0 : Int)) = val xs := by
  rw [val_append, val_replicate, Int.mul_zero, Int.add_zero]
theorem val_lt_max {xs ys : List Int} (h : Wf xs) (h' : Wf ys) : val xs + val ys < B ^ (max xs.length ys.length + 1) := by
  have h1 := val_lt h
  have h2 := val_lt h'
  have h3 := B_pow_le (a := xs.length) (b := max xs.length ys.length) (by omega)
  have h4 := B_pow_le (a := ys.length) (b := max xs.length ys.length) (by omega)
  have h5 := B_pow_pos (max xs.length ys.length)
  rw [Int.pow_succ]
  generalize B ^ (max xs.length ys.length) = p at *
  rw [B_eq]; omega
theorem add (A A' : Option Addr) (n c n' c' : Nat) (xs ys : List Int) (w : World) (h : Arr w A n c xs) (h' : Arr w A' n' c' ys) (hn : n ≤ 100000000) (hn' : n' ≤ 100000000) :
    Calls Tryd.prog 110 #[.slice A n c, .slice A' n' c'] w fun e w' => ∃ A2 n2 c2, e = .returned (.slice A2 n2 c2) ∧ Own w' w.heap.size A2 n2 c2 (wd (val xs + val ys)) ∧ Below w.heap.size w w' := by
  have hlt := val_lt_max h.wf h'.wf
  rw [h.len, h'.len] at hlt
  have hnn : 0 ≤ val xs + val ys := by have := h.val_nonneg; have := h'.val_nonneg; omega
  have HV := Lib.hid (Int.emod_eq_of_lt hnn hlt)
  have e2 : max (n : Int) n' + 1 = ((max n n' + 1 : Nat) : Int) := by omega
  have hap := h'.apart (Nat.le_refl _)
  have hl := h.len
  clear hlt hnn
  go_enter Tryd.func110, Tryd.ntmps110
  go_wp2_with (at_make; refine wp_make rfl _ _ rfl _ _ (max n n' + 1) rfl rfl ?m1 ?m2 ?m3 ?_)
  case m1 => omega
  case m2 => omega
  case m3 => omega
  intro g w1 hg hrow hb
  subst hg
  have hb' : Below w.heap.size w w1 := hb
  clear e2
  go_wp2_with (refine wp_copy rfl _ _ rfl w.heap.size (max n n' + 1) (max n n' + 1) _ A n c xs rfl rfl hrow ?m1 (h.below hb') ?m2 w.heap.size hb' (Nat.le_refl _) ?_)
  case m1 => simp
  case m2 => omega
  intro w2 hrow2 hb2
  have hz := val_zeros xs (max n n' + 1 - n)
  have hlen : (xs ++ List.replicate (max n n' + 1 - n) (0 : Int)).length = max n n' + 1 := by simp; omega
  generalize xs ++ List.replicate (max n n' + 1 - n) (0 : Int) = zs at *
  have HZ := Lib.hid hz
  clear hz hrow
  have hO := hrow2.own (n := max n n' + 1) (c := max n n' + 1) (Bk := w.heap.size) hlen (Nat.le_refl _) (by omega) (Nat.le_refl _)
  have hbk : blk (some ⟨w.heap.size, 0, none⟩) (max n n' + 1) = some w.heap.size := blk_pos (by omega)
  go_wp2_with fail
  refine (into _ A' _ _ n' c' _ ys 0 w2 w.heap.size hO (h'.below hb2) (by rw [hbk]; exact hap) (by omega) (by omega) (by omega)).mono ?_
  rintro r w3 ⟨rfl, zs', hO3, hv3, hg3⟩
  rw [hbk] at hg3
  have hb3 : Below w.heap.size w w3 := hb2.trans (grown_below hg3 hb2.size (fun k hk => by cases hk; exact Nat.le_refl _))
  rw [HZ.out, Int.pow_zero, Int.one_mul, HV.out] at hv3
  have HV3 := Lib.hid hv3
  clear hv3
  go_wp2_with fail
  refine (trim _ _ _ _ _ hO3.arr).mono ?_
  rintro r w4 ⟨rfl, rfl⟩
  have hT := hO3.trim
  rw [HV3.out] at hT ⊢
  go_wp2
  go_ret
  exact ⟨_, _, _, rfl, hT, hb3⟩
/-- A difference, if there is one. -/
def RetS (x y : Int) (w : World) (e : Ending) (w' : World) : Prop :=
  ∃ A n c, e = .returned (.tuple #[.slice A n c, .bool (decide (y ≤ x))]) ∧ Own w' w.heap.size A n c (wd (if y ≤ x then x - y else 0)) ∧ Below w.heap.size w w'
theorem sub (A A' : Option Addr) (n c n' c' : Nat) (xs ys : List Int) (w : World) (h : Arr w A n c xs) (h' : Arr w A' n' c' ys) (hn : n ≤ 100000000) (hn' : n' ≤ 100000000) :
    Calls Tryd.prog 111 #[.slice A n c, .slice A' n' c'] w (RetS (val xs) (val ys) w) := by
  have C := Lib.hid (ncmp A A' n c n' c' xs ys w h h')
  by_cases hv : val ys ≤ val xs
  · have hlt : val xs - val ys < B ^ n := by
      have h1 := val_lt h.wf
      have h2 := h'.val_nonneg
      rw [h.len] at h1; omega
    have HV := Lib.hid (Int.emod_eq_of_lt (show 0 ≤ val xs - val ys by omega) hlt)
    have hc : cmpI (val xs) (val ys) = 0 ∨ cmpI (val xs) (val ys) = 1 := by unfold cmpI; rw [if_neg (by omega)]; split <;> simp
    have hd : decide (val ys ≤ val xs) = true := decide_eq_true hv
    have hap := h'.trim.apart (Nat.le_refl _)
    have T := Lib.hid (fun w' (hb : Below w.heap.size w w') => trim A' n' c' ys w' (h'.below hb))
    unfold RetS
    rw [if_pos hv, hd]
    clear hd
    generalize cmpI (val xs) (val ys) = q at *
    have hq : decide (q < 0) = false := by simp; omega
    clear hlt hv
    have hwb := wd_len h'.wf
    rw [h'.len] at hwb
    have h'T := h'.trim
    generalize hY : wd (val ys) = Y at *
    have HY := Lib.hid hY
    clear hY
    go_enter Tryd.func111, Tryd.ntmps111
    go_wp2_with fail
    refine C.out.mono ?_; rintro r w0 ⟨rfl, hst⟩
    have hb0 := hst.below w.heap.size
    clear hst
    go_wp2_with (at_builtin; refine wp_append rfl _ _ rfl w.heap.size _ 0 [] rfl (owns_nil w0 _) A n c xs rfl (h.below hb0) n ?m1 ?m2 hb0.size ?_)
    case m1 => omega
    case m2 => omega
    intro v' w1 hown hg
    obtain ⟨A1, c1, rfl, hO⟩ := own_of_owns hown h.wf
    have hb1 : Below w.heap.size w w1 := hb0.trans (grown_below hg hb0.size (by intro k hk; cases hk))
    go_wp2_with fail
    refine (T.out w1 hb1).mono ?_; rintro r w' ⟨rfl, rfl⟩
    have hd : blk A' Y.length = none ∨ blk A' Y.length ≠ blk A1 n := by
      rcases Nat.eq_zero_or_pos n with h0 | h0
      · subst h0
        rcases h'T.blk_lt with hh | ⟨b, hh, _⟩
        · exact .inl hh
        · exact .inr (by rw [hh, blk_zero]; simp)
      · obtain ⟨g, S, rfl, hB, _⟩ := hO.row h0
        rw [blk_pos h0]
        exact h'T.apart hB
    have hgr : ∀ k, blk A1 n = some k → w.heap.size ≤ k := by
      intro k hk
      rcases Nat.eq_zero_or_pos n with h0 | h0
      · subst h0; cases hk
      · obtain ⟨g, S, rfl, hB, _⟩ := hO.row h0
        rw [blk_pos h0] at hk; cases hk; exact hB
    go_wp2_with fail
    refine (off A1 A' n c1 _ c' _ Y 0 w1 w.heap.size hO (h'T.below hb1) hd (by omega) (by omega) (by omega)).mono ?_
    rintro r w3 ⟨rfl, zs', hO3, hv3, hg3⟩
    have hb3 : Below w.heap.size w w3 := hb1.trans (grown_below hg3 hb1.size hgr)
    rw [← HY.out, val_wd _ h'.val_nonneg, Int.pow_zero, Int.one_mul, HV.out] at hv3
    have HV3 := Lib.hid hv3
    clear hv3 hd hgr
    go_wp2_with fail
    refine (trim _ _ _ _ _ hO3.arr).mono ?_
    rintro r w4 ⟨rfl, rfl⟩
    have hT := hO3.trim
    rw [HV3.out] at hT ⊢
    go_wp2
    go_ret2
    exact ⟨_, _, _, rfl, hT, hb3⟩
  · have hd : decide (val ys ≤ val xs) = false := decide_eq_false hv
    have hc : cmpI (val xs) (val ys) = -1 := by unfold cmpI; rw [if_pos (by omega)]
    unfold RetS
    rw [if_neg hv, hd]
    rw [hc] at C
    clear hc hd hv
    go_enter Tryd.func111, Tryd.ntmps111
    go_wp2_with fail
    refine C.out.mono ?_; rintro r w0 ⟨rfl, hst⟩
    have hb0 := hst.below w.heap.size
    clear hst
    go_wp2_with fail
    go_ret2
    exact ⟨_, _, _, rfl, by rw [wd_zero (Int.le_refl _)]; exact Own.nil _ _ _ _ (by omega), hb0⟩
end Go.Proofs.YtbfnjjnnlbchgaaDoor
