/- The library's bit functions at this translation: Len64, LeadingZeros64, Mul64 off the shelf's layings; TrailingZeros64 under its table. -/
import Derived.Shelf.Small.Bits
import Derived.Shelf.Strconv.Itoa0
import Derived.Shelf.Bits.Mul64
import Derived.Shelf.Spec.TrailingZeros
import Derived.Lib.TrailingZeros
import Derived.Test.YtbfnjjnnlbchgaaDoorMem
namespace Go.Proofs.YtbfnjjnnlbchgaaDoor
open Go.Shelf Go.RowKit

def lay129r : Go.Shelf.Ren := ⟨fun | 129 => 140 | n => n, fun | 53 => 27 | 3 => 3 | 4 => 4 | 46 => 122 | 5 => 5 | 9 => 9 | n => n, fun | n => n⟩
theorem lay129 : Go.Proofs.Lays.n129 Tryd.prog lay129r := {
  mixed := by kernel_rfl
  f129 := Tryd.func140.trans (congrArg some (by kernel_rfl))
  t3 := Tryd.underlying3
  a3 := Tryd.isAgg3
  z3 := Tryd.sizeOf3
  v3 := Tryd.zeroValue3
  t4 := Tryd.underlying4
  a4 := Tryd.isAgg4
  z4 := Tryd.sizeOf4
  v4 := Tryd.zeroValue4
  t5 := Tryd.underlying5
  a5 := Tryd.isAgg5
  z5 := Tryd.sizeOf5
  v5 := Tryd.zeroValue5
  t9 := Tryd.underlying9
  a9 := Tryd.isAgg9
  z9 := Tryd.sizeOf9
  v9 := Tryd.zeroValue9
  t46 := Tryd.underlying122
  a46 := Tryd.isAgg122
  z46 := Tryd.sizeOf122
  v46 := Tryd.zeroValue122
  t53 := Tryd.underlying27
  a53 := Tryd.isAgg27
  z53 := Tryd.sizeOf27
  v53 := Tryd.zeroValue27 }
theorem len64 (x : Int) (w : World) (h0 : 0 ≤ x) (h1 : x < 18446744073709551616) :
    Calls Tryd.prog 140 #[.int .u64 x] w fun e w' => e = .returned (.int .i64 (Lib.bitLen x.toNat)) ∧ w = w' := (Any.bits_Len64 lay129 x w h0 (by omega)).mono fun _ _ ⟨a, b⟩ => ⟨a, b.symm⟩
def lay134r : Go.Shelf.Ren := ⟨fun | 134 => 142 | 129 => 140 | n => n, fun | 53 => 27 | 3 => 3 | 4 => 4 | 46 => 122 | 5 => 5 | 9 => 9 | n => n, fun | n => n⟩
theorem lay134 : Go.Proofs.Lays.n134 Tryd.prog lay134r := {
  mixed := by kernel_rfl
  f129 := Tryd.func140.trans (congrArg some (by kernel_rfl))
  f134 := Tryd.func142.trans (congrArg some (by kernel_rfl))
  t3 := Tryd.underlying3
  a3 := Tryd.isAgg3
  z3 := Tryd.sizeOf3
  v3 := Tryd.zeroValue3
  t4 := Tryd.underlying4
  a4 := Tryd.isAgg4
  z4 := Tryd.sizeOf4
  v4 := Tryd.zeroValue4
  t5 := Tryd.underlying5
  a5 := Tryd.isAgg5
  z5 := Tryd.sizeOf5
  v5 := Tryd.zeroValue5
  t9 := Tryd.underlying9
  a9 := Tryd.isAgg9
  z9 := Tryd.sizeOf9
  v9 := Tryd.zeroValue9
  t46 := Tryd.underlying122
  a46 := Tryd.isAgg122
  z46 := Tryd.sizeOf122
  v46 := Tryd.zeroValue122
  t53 := Tryd.underlying27
  a53 := Tryd.isAgg27
  z53 := Tryd.sizeOf27
  v53 := Tryd.zeroValue27 }
theorem lead64 (x : Int) (w : World) (h0 : 0 ≤ x) (h1 : x < 18446744073709551616) :
    Calls Tryd.prog 142 #[.int .u64 x] w fun e w' => e = .returned (.int .i64 (64 - (Lib.bitLen x.toNat : Int))) ∧ w = w' := (Any.bits_LeadingZeros64 lay134 x w h0 (by omega)).mono fun _ _ ⟨a, b⟩ => ⟨a, b.symm⟩
def lay264r : Go.Shelf.Ren := ⟨fun | 264 => 143 | n => n, fun | 53 => 27 | 46 => 122 | n => n, fun | n => n⟩
theorem lay264 : Go.Proofs.Lays.n264 Tryd.prog lay264r := {
  mixed := by kernel_rfl
  f264 := Tryd.func143.trans (congrArg some (by kernel_rfl))
  t46 := Tryd.underlying122
  a46 := Tryd.isAgg122
  z46 := Tryd.sizeOf122
  v46 := Tryd.zeroValue122
  t53 := Tryd.underlying27
  a53 := Tryd.isAgg27
  z53 := Tryd.sizeOf27
  v53 := Tryd.zeroValue27 }
theorem mul64 (x y : Int) (w : World) (hx0 : 0 ≤ x) (hx : x < 18446744073709551616) (hy0 : 0 ≤ y) (hy : y < 18446744073709551616) :
    Calls Tryd.prog 143 #[.int .u64 x, .int .u64 y] w fun e w' => e = .returned (.tuple #[.int .u64 (x * y / 18446744073709551616), .int .u64 (x * y % 18446744073709551616)]) ∧ w = w' := by
  obtain ⟨a, rfl⟩ := Int.eq_ofNat_of_zero_le hx0
  obtain ⟨b, rfl⟩ := Int.eq_ofNat_of_zero_le hy0
  have h := Any.bits_Mul64 lay264 a b (by omega) (by omega) w
  have e1 : ((a * b / 18446744073709551616 : Nat) : Int) = (a : Int) * b / 18446744073709551616 := by simp
  have e2 : ((a * b % 18446744073709551616 : Nat) : Int) = (a : Int) * b % 18446744073709551616 := by simp
  rw [e1, e2] at h
  exact h.mono fun _ _ ⟨a, b⟩ => ⟨a, b.symm⟩
/-- The table that TrailingZeros64 reads lies in its variable. -/
structure Tz (w : World) : Prop where
  tab : TabAt 0 Lib.deBruijn64tab w
theorem Tz.below {w w' : World} (h : Tz w) (hb : Below w.heap.size w w') : Tz w' :=
  ⟨fun j hj => (hb.cell (World.block_lt_of_cell? (w := w) (a := ⟨0, j, none⟩) (h.tab j hj))).trans (h.tab j hj)⟩
set_option maxHeartbeats 1000000 in
theorem tz64_core (x k idx : Nat) (w : World) (hx0 : ((x : Int) == 0) = false)
    (key : IntKind.u64.wrap (bits BinOp.and IntKind.u64 (x : Int) (IntKind.u64.wrap (-(x : Int))) * 285870213051353865) / 288230376151711744 = (idx : Int))
    (hi : idx < 64) (hk : k < 64) (hcell : w.cell? ⟨0, idx, none⟩ = some (.int .u8 k)) :
    Calls Tryd.prog 137 #[.int .u64 x] w fun e w' => e = .returned (.int .i64 k) ∧ w' = w := by
  go_enter Tryd.func137, Tryd.ntmps137
  go_wp2_with (simp only [key])
  go_ret
  exact ⟨rfl, rfl⟩
theorem tz64 (x : Int) (w : World) (h0 : 0 < x) (h1 : x < 18446744073709551616) (hT : Tz w) :
    Calls Tryd.prog 137 #[.int .u64 x] w fun e w' => e = .returned (.int .i64 (Lib.ctz 64 x.toNat)) ∧ w = w' := by
  obtain ⟨n, rfl⟩ := Int.eq_ofNat_of_zero_le (by omega : 0 ≤ x)
  obtain ⟨hlow, hk⟩ := Lib.lowest_bit 64 n (by omega) (by omega)
  obtain ⟨hi, htab⟩ := Lib.deBruijn64_at _ hk
  have hcell := hT.tab _ hi
  rw [htab] at hcell
  exact (tz64_core n _ _ w (by simp; omega) (tz64_key n _ (by omega) (by omega) hlow) hi hk hcell).mono fun _ _ ⟨a, b⟩ => ⟨a, b.symm⟩
end Go.Proofs.YtbfnjjnnlbchgaaDoor
