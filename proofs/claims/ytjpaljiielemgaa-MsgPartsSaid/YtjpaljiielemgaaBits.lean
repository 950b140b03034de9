/- Bit operations on numbers, as plain arithmetic. -/
import Derived.Test.YtjpaljiielemgaaBase
namespace Go.Proofs.Ytjpaljiielemgaa
open Go.RowKit

theorem and127 (c : Nat) (h : c < 18446744073709551616) : bits .and .u64 (c : Int) 127 = ((c % 128 : Nat) : Int) := by
  have h1 := bits_and_u64_nat c 127 h (by omega)
  have h2 : c &&& 127 = c % 128 := Nat.and_two_pow_sub_one_eq_mod c 7
  rw [h2] at h1
  exact h1

theorem pow_128 (k : Nat) : (128 : Nat) ^ k = 2 ^ (7 * k) := by rw [Nat.pow_mul]

theorem or_shift (M c k : Nat) (hc : c < 18446744073709551616) (hM : M < 128 ^ k) (hs : M + c % 128 * 128 ^ k < 18446744073709551616) :
    bits .or .u64 (M : Int) (IntKind.u64.wrap (bits .and .u64 (c : Int) 127 * 2 ^ (7 * k))) = ((M + c % 128 * 128 ^ k : Nat) : Int) := by
  rw [and127 c hc, IntKind.wrap_u64]
  have e1 : (((c % 128 : Nat) : Int) * 2 ^ (7 * k)) = ((c % 128 * 128 ^ k : Nat) : Int) := by rw [pow_128]; simp
  rw [e1]
  have e2 : ((c % 128 * 128 ^ k : Nat) : Int) % 18446744073709551616 = ((c % 128 * 128 ^ k : Nat) : Int) := by omega
  rw [e2, bits_or_u64_nat M _ (by omega) (by omega)]
  congr 1
  rw [pow_128] at hM ⊢
  rw [Nat.mul_comm, Nat.or_comm, ← Nat.two_pow_add_eq_or_of_lt hM]
  omega

end Go.Proofs.Ytjpaljiielemgaa
