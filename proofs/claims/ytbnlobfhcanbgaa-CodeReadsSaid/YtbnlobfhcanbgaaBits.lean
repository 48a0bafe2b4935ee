/- The bits of a number that is read. -/
import Derived.Test.YtbnlobfhcanbgaaRr
import Derived.Laws.DeepNot64
namespace Go.Proofs.Ytbnlobfhcanbgaa
open Go Go.RowKit
/-- The number with a sign. -/
def unzz (u : Nat) : Int := if u % 2 = 0 then ((u / 2 : Nat) : Int) else -((u / 2 : Nat) : Int) - 1
theorem or_step {u x : Nat} (hu : u < 144115188075855872) (hx : x < 256) : bits BinOp.or IntKind.u64 ((u : Int) * 128) (IntKind.u64.wrap (bits BinOp.and IntKind.u8 (x : Int) 127)) = ((u * 128 + x % 128 : Nat) : Int) := by
  rw [show (127 : Int) = ((127 : Nat) : Int) from rfl, u8_and_nat _ _ hx (by omega), wrap_u64]
  have h1 : x &&& 127 = x % 128 := Nat.and_two_pow_sub_one_eq_mod x 7
  rw [h1, show ((x % 128 : Nat) : Int) % 18446744073709551616 = ((x % 128 : Nat) : Int) from by omega, show (u : Int) * 128 = ((u * 128 : Nat) : Int) from by omega, u64_or_nat _ _ (by omega) (by omega), nat_join7 _ _ (by omega) (by omega)]
theorem i64_xor_zero (a : Nat) (ha : a < 9223372036854775808) : bits .xor .i64 (a : Int) 0 = (a : Int) := by
  show IntKind.i64.wrap ((BitVec.ofInt 64 (a : Int) ^^^ BitVec.ofInt 64 0).toNat : Int) = _
  have h1 : BitVec.ofInt 64 0 = 0#64 := by decide
  rw [h1, BitVec.xor_zero, ofInt_u64 a (by omega)]
  simp [IntKind.wrap, IntKind.bits, IntKind.signed]
  omega
theorem i64_xor_ones (a : Nat) (ha : a < 9223372036854775808) : bits .xor .i64 (a : Int) (-1) = -(a : Int) - 1 := by
  show IntKind.i64.wrap ((BitVec.ofInt 64 (a : Int) ^^^ BitVec.ofInt 64 (-1)).toNat : Int) = _
  have h1 : BitVec.ofInt 64 (-1) = BitVec.allOnes 64 := by decide
  rw [h1, BitVec.xor_allOnes, BitVec.toNat_not, ofInt_u64 a (by omega)]
  simp [IntKind.wrap, IntKind.bits, IntKind.signed]
  omega
theorem xor_unzz {u : Nat} (hu : u < 18446744073709551616) : bits BinOp.xor IntKind.i64 (wrap64 ((u : Int) / 2)) (wrap64 (-wrap64 (bits BinOp.and IntKind.u64 (u : Int) 1))) = unzz u := by
  rw [show (1 : Int) = ((1 : Nat) : Int) from rfl, u64_and_nat _ _ hu (by omega), Nat.and_one_is_mod]
  have h2 : wrap64 ((u : Int) / 2) = ((u / 2 : Nat) : Int) := by unfold wrap64; omega
  rw [h2]
  unfold unzz
  by_cases h : u % 2 = 0
  · rw [if_pos h, h, show wrap64 (-wrap64 ((0 : Nat) : Int)) = 0 from by unfold wrap64; omega, i64_xor_zero _ (by omega)]
  · rw [if_neg h, show u % 2 = 1 from by omega, show wrap64 (-wrap64 ((1 : Nat) : Int)) = -1 from by unfold wrap64; omega, i64_xor_ones _ (by omega)]
theorem unzz_zz {n : Int} : unzz (zz n) = n := by
  unfold unzz zz; split <;> split <;> omega
theorem zz_unzz {u : Nat} : zz (unzz u) = u := by
  unfold unzz zz; split <;> split <;> omega
theorem unzz_fit {u : Nat} (hu : u < 18446744073709551616) : Fit (unzz u) := by
  unfold unzz Fit; split <;> omega
end Go.Proofs.Ytbnlobfhcanbgaa
