/- The library's bit functions at this translation: Len64, LeadingZeros64, Mul64 off the shelf's layings; TrailingZeros64 under its table. -/
import Derived.Shelf.Small.Bits
import Derived.Shelf.Strconv.Itoa0
import Derived.Shelf.Bits.Mul64
import Derived.Shelf.Spec.TrailingZeros
import Derived.Lib.TrailingZeros
import Derived.Test.YtbonbcmdafpceaaMem
namespace Go.Proofs.Ytbonbcmdafpceaa
open Go.Shelf Go.RowKit

def lay129r : Go.Shelf.Ren := ⟨fun | 129 => 59 | n => n, fun | 53 => 22 | 3 => 3 | 4 => 4 | 46 => 70 | 5 => 5 | 9 => 9 | n => n, fun | n => n⟩
theorem lay129 : Go.Proofs.Lays.n129 Try.prog lay129r := {
  mixed := by kernel_rfl
  f129 := Try.func59.trans (congrArg some (by kernel_rfl))
  t3 := Try.underlying3
  a3 := Try.isAgg3
  z3 := Try.sizeOf3
  v3 := Try.zeroValue3
  t4 := Try.underlying4
  a4 := Try.isAgg4
  z4 := Try.sizeOf4
  v4 := Try.zeroValue4
  t5 := Try.underlying5
  a5 := Try.isAgg5
  z5 := Try.sizeOf5
  v5 := Try.zeroValue5
  t9 := Try.underlying9
  a9 := Try.isAgg9
  z9 := Try.sizeOf9
  v9 := Try.zeroValue9
  t46 := Try.underlying70
  a46 := Try.isAgg70
  z46 := Try.sizeOf70
  v46 := Try.zeroValue70
  t53 := Try.underlying22
  a53 := Try.isAgg22
  z53 := Try.sizeOf22
  v53 := Try.zeroValue22 }
theorem len64 (x : Int) (w : World) (h0 : 0 ≤ x) (h1 : x < 18446744073709551616) :
    Calls Try.prog 59 #[.int .u64 x] w fun e w' => e = .returned (.int .i64 (Lib.bitLen x.toNat)) ∧ w = w' := (Any.bits_Len64 lay129 x w h0 (by omega)).mono fun _ _ ⟨a, b⟩ => ⟨a, b.symm⟩
def lay134r : Go.Shelf.Ren := ⟨fun | 134 => 43 | 129 => 59 | n => n, fun | 53 => 22 | 3 => 3 | 4 => 4 | 46 => 70 | 5 => 5 | 9 => 9 | n => n, fun | n => n⟩
theorem lay134 : Go.Proofs.Lays.n134 Try.prog lay134r := {
  mixed := by kernel_rfl
  f129 := Try.func59.trans (congrArg some (by kernel_rfl))
  f134 := Try.func43.trans (congrArg some (by kernel_rfl))
  t3 := Try.underlying3
  a3 := Try.isAgg3
  z3 := Try.sizeOf3
  v3 := Try.zeroValue3
  t4 := Try.underlying4
  a4 := Try.isAgg4
  z4 := Try.sizeOf4
  v4 := Try.zeroValue4
  t5 := Try.underlying5
  a5 := Try.isAgg5
  z5 := Try.sizeOf5
  v5 := Try.zeroValue5
  t9 := Try.underlying9
  a9 := Try.isAgg9
  z9 := Try.sizeOf9
  v9 := Try.zeroValue9
  t46 := Try.underlying70
  a46 := Try.isAgg70
  z46 := Try.sizeOf70
  v46 := Try.zeroValue70
  t53 := Try.underlying22
  a53 := Try.isAgg22
  z53 := Try.sizeOf22
  v53 := Try.zeroValue22 }
theorem lead64 (x : Int) (w : World) (h0 : 0 ≤ x) (h1 : x < 18446744073709551616) :
    Calls Try.prog 43 #[.int .u64 x] w fun e w' => e = .returned (.int .i64 (64 - (Lib.bitLen x.toNat : Int))) ∧ w = w' := (Any.bits_LeadingZeros64 lay134 x w h0 (by omega)).mono fun _ _ ⟨a, b⟩ => ⟨a, b.symm⟩
def lay264r : Go.Shelf.Ren := ⟨fun | 264 => 45 | n => n, fun | 53 => 22 | 46 => 70 | n => n, fun | n => n⟩
theorem lay264 : Go.Proofs.Lays.n264 Try.prog lay264r := {
  mixed := by kernel_rfl
  f264 := Try.func45.trans (congrArg some (by kernel_rfl))
  t46 := Try.underlying70
  a46 := Try.isAgg70
  z46 := Try.sizeOf70
  v46 := Try.zeroValue70
  t53 := Try.underlying22
  a53 := Try.isAgg22
  z53 := Try.sizeOf22
  v53 := Try.zeroValue22 }
theorem mul64 (x y : Int) (w : World) (hx0 : 0 ≤ x) (hx : x < 18446744073709551616) (hy0 : 0 ≤ y) (hy : y < 18446744073709551616) :
    Calls Try.prog 45 #[.int .u64 x, .int .u64 y] w fun e w' => e = .returned (.tuple #[.int .u64 (x * y / 18446744073709551616), .int .u64 (x * y % 18446744073709551616)]) ∧ w = w' := by
  obtain ⟨a, rfl⟩ := Int.eq_ofNat_of_zero_le hx0
  obtain ⟨b, rfl⟩ := Int.eq_ofNat_of_zero_le hy0
  have h := Any.bits_Mul64 lay264 a b (by omega) (by omega) w
  have e1 : ((a * b / 18446744073709551616 : Nat) : Int) = (a : Int) * b / 18446744073709551616 := by simp
  have e2 : ((a * b % 18446744073709551616 : Nat) : Int) = (a : Int) * b % 18446744073709551616 := by simp
  rw [e1, e2] at h
  exact h.mono fun _ _ ⟨a, b⟩ => ⟨a, b.symm⟩
end Go.Proofs.Ytbonbcmdafpceaa
