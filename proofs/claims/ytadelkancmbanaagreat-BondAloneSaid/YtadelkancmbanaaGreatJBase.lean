/-
  Plain lemmas: bits of packed words.
-/
import Derived.Test.YtadelkancmbanaaGreatRows
import Derived.WalkKit
import Derived.WalkSpells
import Derived.WalkLawsBesides
import Derived.Lib.Builder
namespace Go.Proofs.YtadelkancmbanaaGreat
open Go.RowKit

theorem ofInt64_toNat (a : Nat) (ha : a < 18446744073709551616) : (BitVec.ofInt 64 (a : Int)).toNat = a := ofInt_u64 a ha

theorem bits_and_i64_nat (a b : Nat) (ha : a < 9223372036854775808) (hb : b < 9223372036854775808) : bits .and .i64 (a : Int) (b : Int) = ((a &&& b : Nat) : Int) := by
  have e1 : (BitVec.ofInt 64 (a : Int)).toNat = a := ofInt64_toNat a (by omega)
  have e2 : (BitVec.ofInt 64 (b : Int)).toNat = b := ofInt64_toNat b (by omega)
  have hlt : a &&& b < 9223372036854775808 := Nat.lt_of_le_of_lt Nat.and_le_left ha
  have e3 : (BitVec.ofInt 64 (a : Int) &&& BitVec.ofInt 64 (b : Int)).toNat = a &&& b := by rw [BitVec.toNat_and, e1, e2]
  show IntKind.i64.wrap ((BitVec.ofInt 64 (a : Int) &&& BitVec.ofInt 64 (b : Int)).toNat : Int) = _
  rw [e3, IntKind.wrap_i64]
  omega

theorem bits_or_i64_nat (a b : Nat) (ha : a < 9223372036854775808) (hb : b < 9223372036854775808) : bits .or .i64 (a : Int) (b : Int) = ((a ||| b : Nat) : Int) := by
  have e1 : (BitVec.ofInt 64 (a : Int)).toNat = a := ofInt64_toNat a (by omega)
  have e2 : (BitVec.ofInt 64 (b : Int)).toNat = b := ofInt64_toNat b (by omega)
  have hlt : a ||| b < 2 ^ 63 := Nat.or_lt_two_pow (by omega) (by omega)
  have e3 : (BitVec.ofInt 64 (a : Int) ||| BitVec.ofInt 64 (b : Int)).toNat = a ||| b := by rw [BitVec.toNat_or, e1, e2]
  show IntKind.i64.wrap ((BitVec.ofInt 64 (a : Int) ||| BitVec.ofInt 64 (b : Int)).toNat : Int) = _
  rw [e3, IntKind.wrap_i64]
  omega

theorem and_mask40 (x : Int) (h0 : 0 ≤ x) (h1 : x < 9223372036854775808) : bits .and .i64 x 1099511627775 = x % 1099511627776 := by
  obtain ⟨n, rfl⟩ := Int.eq_ofNat_of_zero_le h0
  have := bits_and_i64_nat n 1099511627775 (by omega) (by omega)
  have e := Nat.and_two_pow_sub_one_eq_mod n 40
  simp only [Nat.reducePow, Nat.reduceSub] at e
  rw [e] at this
  simpa using this

theorem or_join40 (v t : Int) (h0 : 0 ≤ v) (h1 : v ≤ 1048575) (h2 : 0 ≤ t) (h3 : t < 1099511627776) : bits .or .i64 (v * 1099511627776) t = v * 1099511627776 + t := by
  obtain ⟨n, rfl⟩ := Int.eq_ofNat_of_zero_le h0
  obtain ⟨m, rfl⟩ := Int.eq_ofNat_of_zero_le h2
  have := bits_or_i64_nat (n * 1099511627776) m (by omega) (by omega)
  have e := nat_join 40 (n * 1099511627776) m (by simp) (by simp; omega)
  rw [e] at this
  simpa using this
end Go.Proofs.YtadelkancmbanaaGreat
