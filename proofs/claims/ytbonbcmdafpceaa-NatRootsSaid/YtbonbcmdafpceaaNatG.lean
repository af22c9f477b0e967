/- The document's Shl. -/
import Derived.Test.YtbonbcmdafpceaaNatF
namespace Go.Proofs.Ytbonbcmdafpceaa
open Go.RowKit Num
set_option maxRecDepth 100000

/-- 'make([]uint64, n)', as a row to append to. -/
theorem wp_make_owns {w : World} {ops : Array Oper} {rest : List Oper} {o : Oper} {a : Act} {Q : Exit → Act → World → Prop} (hg : o.guard = none) (l c : Operand) (hop : o.op = Op.makeSlice 31 l c)
    (L C : Int) (n : Nat) (hl : a.eval l = .int .i64 L) (hc : a.eval c = .int .i64 C) (hL : L = (n : Int)) (hC : C = (n : Int)) (hn : n ≤ 35184372088832) (base : Nat) (hB : base ≤ w.heap.size)
    (hK : ∀ w' A, w'.ownsRow base 22 1 (.slice A n n) n (cellsOf (List.replicate n 0)) → Below w.heap.size w w' → (∀ k, (Value.slice A n n).ownBlock = some k → base ≤ k) → wpList Try.prog ops Q rest (a.put o.dst (.slice A n n)) w') :
    wpList Try.prog ops Q (o :: rest) a w := by
  obtain ⟨i0, hi, hz0, hz1, hz2⟩ := info_parts info64
  refine wpList_make_full w hg l c 31 hop base 22 i0 (.int .u64 0) 1 Try.underlying31 hi hz0 hz1 .i64 .i64 L C n hl hc hL hC (by rw [hz2]; omega) (by unfold maxLen; omega) hB ?_
  intro w' hown hgrow
  have e : (Value.int IntKind.u64 0).cells = #[Value.int .u64 0] := rfl
  rw [e, cellsOf_replicate] at hown
  exact hK w' _ hown (below_grown hgrow) (fun k hk => (hown.lt k hk).1)
/-- Words shifted up by r < 64, c coming in; what goes out at the high end is lost. -/
def shlZ (r : Nat) (c : Int) : List Int → List Int
  | [] => []
  | x :: xs => (x * pw r % B + c) :: shlZ r (x / pw (64 - r)) xs
theorem shlZ_length (r : Nat) : ∀ (c : Int) (xs : List Int), (shlZ r c xs).length = xs.length
  | _, [] => rfl
  | c, x :: xs => by simp [shlZ, shlZ_length r _ xs]
theorem shlZ_get (r : Nat) : ∀ (xs : List Int) (c : Int) (i : Nat), i < xs.length → (shlZ r c xs).getD i 0 = xs.getD i 0 * pw r % B + (if i = 0 then c else xs.getD (i - 1) 0 / pw (64 - r))
  | [], c, i, h => by simp at h
  | x :: xs, c, 0, _ => by simp [shlZ]
  | x :: xs, c, i + 1, h => by
    have := shlZ_get r xs (x / pw (64 - r)) i (by simpa using h)
    simp only [shlZ, List.getD_cons_succ, this]
    cases i with
    | zero => simp
    | succ i => simp
theorem wf_shlZ {r : Nat} (hr : r < 64) : ∀ {xs : List Int} {c : Int}, Wf xs → 0 ≤ c → c < pw r → Wf (shlZ r c xs)
  | [], _, _, _, _ => wf_nil
  | x :: xs, c, h, h0, h1 => by
    have h' := wf_cons.1 h
    have hq := pw_pos (64 - r)
    rw [shlZ, wf_cons]
    have := shl_sum (x := x) hr h0 h1
    refine ⟨by omega, wf_shlZ hr h'.2 (Int.ediv_nonneg h'.1.1 (by omega)) ?_⟩
    exact Int.ediv_lt_of_lt_mul hq (by rw [← B_split (by omega), B_eq]; exact h'.1.2)
theorem val_shlZ {r : Nat} (hr : r < 64) : ∀ (xs : List Int) (c : Int), val (shlZ r c xs ++ [(if xs = [] then c else (xs.getLast?.getD 0) / pw (64 - r))]) = val xs * pw r + c
  | [], c => by simp [shlZ, val]
  | x :: xs, c => by
    have ih := val_shlZ hr xs (x / pw (64 - r))
    have e := shl_word (x := x) (Nat.le_of_lt hr)
    have e2 : (if x :: xs = [] then c else ((x :: xs).getLast?.getD 0) / pw (64 - r)) = (if xs = [] then x / pw (64 - r) else (xs.getLast?.getD 0) / pw (64 - r)) := by
      rw [if_neg (by simp)]
      by_cases hx : xs = []
      · subst hx; simp
      · rw [if_neg hx, List.getLast?_cons]
        cases hl : xs.getLast? with
        | none => exact absurd (List.getLast?_eq_none_iff.1 hl) hx
        | some y => simp
    rw [e2, shlZ, List.cons_append, val_cons, ih, val_cons, Int.add_mul, e]
    grind
theorem val_shlZ_zero {r : Nat} (hr : r < 64) (xs : List Int) : val (shlZ r 0 (xs ++ [0])) = val xs * pw r := by
  have h := val_shlZ hr (xs ++ [0]) 0
  rw [if_neg (by simp)] at h
  simp only [List.getLast?_append, List.getLast?_singleton, Option.some_or, Option.getD_some, Int.zero_ediv] at h
  rw [val_snoc_zero, val_snoc_zero, Int.add_zero] at h
  exact h
theorem mix_down (O T : List Int) (h : O.length = T.length) (i : Nat) (hi : i < O.length) : (mix O T (i + 1)).set i (T.getD i 0) = mix O T i := by
  unfold mix
  have hl : (O.take i).length = i := by simp; omega
  rw [List.take_add_one, List.getElem?_eq_getElem hi, List.append_assoc, List.set_append_right _ _ (by omega), hl, Nat.sub_self, List.drop_eq_getElem_cons (by omega : i < T.length)]
  simp [List.getD_eq_getElem?_getD, List.getElem?_eq_getElem (by omega : i < T.length)]
theorem mix_get_low (O T : List Int) (k j : Nat) (hj : j < k) (hk : k ≤ O.length) : (mix O T k).getD j 0 = O.getD j 0 := by
  unfold mix
  rw [List.getD_eq_getElem?_getD, List.getElem?_append_left (by simp; omega), ← List.getD_eq_getElem?_getD, getD_take hj]
theorem or_back {x y : Int} {r : Nat} (hr : r < 64) (hx0 : 0 ≤ x) (hy0 : 0 ≤ y) (hy : y < 18446744073709551616) :
    bits .or .u64 (IntKind.u64.wrap (x * 2 ^ r)) (y / 2 ^ (64 - r)) = x * pw r % B + y / pw (64 - r) := by
  have hq := pw_pos (64 - r)
  have h1 : 0 ≤ y / pw (64 - r) := Int.ediv_nonneg hy0 (by omega)
  have h2 : y / pw (64 - r) < pw r := Int.ediv_lt_of_lt_mul hq (by rw [← B_split (by omega), B_eq]; exact hy)
  have h3 := or_shl (x := x) (c := y / pw (64 - r)) hr hx0 h1 h2
  have h4 : y / pw (64 - r) < 18446744073709551616 := Int.lt_of_le_of_lt (Int.ediv_le_self _ hy0) hy
  have h5 : 0 ≤ IntKind.u64.wrap (x * 2 ^ r) ∧ IntKind.u64.wrap (x * 2 ^ r) < 18446744073709551616 := by rw [IntKind.wrap_u64]; omega
  have hc : bits .or .u64 (IntKind.u64.wrap (x * 2 ^ r)) (y / pw (64 - r)) = bits .or .u64 (y / pw (64 - r)) (IntKind.u64.wrap (x * 2 ^ r)) := by
    generalize y / pw (64 - r) = p at *
    generalize IntKind.u64.wrap (x * 2 ^ r) = q at *
    obtain ⟨a, rfl⟩ := Int.eq_ofNat_of_zero_le h1
    obtain ⟨b, rfl⟩ := Int.eq_ofNat_of_zero_le h5.1
    rw [bits_or_u64_nat _ _ (by omega) (by omega), bits_or_u64_nat _ _ (by omega) (by omega), Nat.or_comm]
  show bits .or .u64 (IntKind.u64.wrap (x * 2 ^ r)) (y / pw (64 - r)) = _
  rw [hc, h3]; omega
end Go.Proofs.Ytbonbcmdafpceaa
