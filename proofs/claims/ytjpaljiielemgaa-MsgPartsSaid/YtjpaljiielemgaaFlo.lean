/- Whole numbers from 0 to 2^40 as floats: they are read back as they were. -/
import Derived.Test.YtjpaljiielemgaaBase
namespace Go.Proofs.Ytjpaljiielemgaa.Flo
open Ieee

/-- The float's bits of a whole number. -/
def flo (n : Nat) : Nat := Ieee.double.nearest false n 0

theorem cut_zero (n : Nat) : Toward.even.cut false n 0 = n := by
  unfold Toward.cut
  simp [Nat.mod_one]

theorem nearest_eq (m L : Nat) (h0 : m ≠ 0) (hL : m.log2 = L) (h : L ≤ 52) : Ieee.double.nearest false m 0 = min ((L + 1022) * 4503599627370496 + m * 2 ^ (52 - L)) (2047 * 4503599627370496) := by
  unfold Format.nearest
  rw [if_neg h0, hL]
  have hl : max ((0 : Int) + (L : Nat) - (double.fractionBits : Nat)) double.leastPlace = (L : Int) - 52 := by
    have e1 : (double.fractionBits : Nat) = 52 := rfl
    have e2 : double.leastPlace = -1074 := by decide
    rw [e1, e2]; omega
  simp only [hl]
  have e1 : ((0 : Int) - ((L : Int) - 52)).toNat = 52 - L := by omega
  have e2 : ((L : Int) - 52 - 0).toNat = 0 := by omega
  have e3 : ((L : Int) - 52 - double.leastPlace).toNat = L + 1022 := by
    have e : double.leastPlace = -1074 := by decide
    rw [e]; omega
  rw [e1, e2, e3, cut_zero]
  have e4 : double.binade = 4503599627370496 := by decide
  have e5 : double.infRung = 2047 * 4503599627370496 := by decide
  rw [e4, e5, Nat.shiftLeft_eq]
  simp [Format.word]

theorem read_flo (m L : Nat) (h0 : m ≠ 0) (hL : m.log2 = L) (h : L ≤ 40) : Ieee.double.read (flo m) = .number false (m * 2 ^ (52 - L)) ((L : Int) - 52) := by
  have hlo : 2 ^ L ≤ m := by rw [← hL]; exact Nat.log2_self_le h0
  have hhi : m < 2 ^ (L + 1) := by rw [← hL]; exact Nat.lt_log2_self
  have hk1 : 4503599627370496 ≤ m * 2 ^ (52 - L) := by
    have : 2 ^ L * 2 ^ (52 - L) ≤ m * 2 ^ (52 - L) := Nat.mul_le_mul_right _ hlo
    rw [← Nat.pow_add, show L + (52 - L) = 52 by omega] at this
    exact this
  have hk2 : m * 2 ^ (52 - L) < 2 * 4503599627370496 := by
    have : m * 2 ^ (52 - L) < 2 ^ (L + 1) * 2 ^ (52 - L) := Nat.mul_lt_mul_of_pos_right hhi (Nat.pow_pos (by omega))
    rw [← Nat.pow_add, show L + 1 + (52 - L) = 53 by omega] at this
    exact this
  have hn : flo m = (L + 1022) * 4503599627370496 + m * 2 ^ (52 - L) := by
    unfold flo
    rw [nearest_eq m L h0 hL (by omega)]
    apply Nat.min_eq_left
    omega
  generalize hK : m * 2 ^ (52 - L) = K at *
  rw [hn]
  unfold Format.read
  have e1 : double.signWeight = 9223372036854775808 := by decide
  have e2 : double.binade = 4503599627370496 := by decide
  have e3 : double.infRung = 2047 * 4503599627370496 := by decide
  have e4 : double.leastPlace = -1074 := by decide
  have hs : ((L + 1022) * 4503599627370496 + K) / 9223372036854775808 = 0 := by omega
  have hr : ((L + 1022) * 4503599627370496 + K) % 9223372036854775808 = (L + 1022) * 4503599627370496 + K := by omega
  simp only [e1, e2, e3, e4, hs, hr]
  rw [if_neg (by omega), if_pos (by omega)]
  have hd : ((L + 1022) * 4503599627370496 + K) / 4503599627370496 = L + 1023 := by omega
  have hm : ((L + 1022) * 4503599627370496 + K) % 4503599627370496 = K - 4503599627370496 := by omega
  have h1 : 4503599627370496 + (K - 4503599627370496) = K := by omega
  have h2 : ((-1074 : Int) + ((L + 1023 - 1 : Nat) : Int)) = (L : Int) - 52 := by omega
  rw [hd, hm, h1, h2]
  rfl

theorem log2_le (n : Nat) (h0 : n ≠ 0) (h : n ≤ 1099511627776) : n.log2 ≤ 40 := by
  have : n.log2 < 41 := (Nat.log2_lt h0).2 (by omega)
  omega

/-- What was put is read back. -/
theorem toInt_flo (n : Nat) (h : n ≤ 1099511627776) : (Ieee.double.read (flo n)).toInt .zero = some (n : Int) := by
  by_cases h0 : n = 0
  · subst h0; decide
  · obtain ⟨L, hL⟩ : ∃ L, n.log2 = L := ⟨_, rfl⟩
    have hL40 : L ≤ 40 := by rw [← hL]; exact log2_le n h0 h
    rw [read_flo n L h0 hL hL40]
    unfold Datum.toInt Datum.integral
    have e1 : ((L : Int) - 52).toNat = 0 := by omega
    have e2 : (-((L : Int) - 52)).toNat = 52 - L := by omega
    simp only [e1, e2, Nat.shiftLeft_zero]
    have hlo : 2 ^ L ≤ n := by rw [← hL]; exact Nat.log2_self_le h0
    have hc : Toward.zero.cut false (n * 2 ^ (52 - L)) (52 - L) = n := by
      unfold Toward.cut
      have hlog : 52 - L ≤ (n * 2 ^ (52 - L)).log2 := by
        rw [Nat.le_log2 (by have := Nat.pow_pos (n := 52 - L) (show 0 < 2 by omega); exact Nat.mul_ne_zero h0 (by omega))]
        exact Nat.le_mul_of_pos_left _ (by omega)
      rw [Nat.min_eq_left (by omega)]
      simp only [Nat.shiftLeft_eq, Nat.one_mul]
      rw [Nat.mul_div_cancel _ (Nat.pow_pos (by omega))]
      simp
    rw [hc]
    simp [signed]

theorem order_flo (n : Nat) (h : n ≤ 1099511627776) : Ieee.double.order (flo n) (flo n) = some .eq := by
  unfold Format.order
  by_cases h0 : n = 0
  · subst h0; decide
  · rw [read_flo n n.log2 h0 rfl (log2_le n h0 h)]
    simp [Datum.order, compare, compareOfLessAndEq]

end Go.Proofs.Ytjpaljiielemgaa.Flo
