/- The plain law of the document's way to read a number: from its last byte back. -/
import Derived.Test.YtjpaljiielemgaaPure
namespace Go.Proofs.Ytjpaljiielemgaa.Pure

def val : List UInt8 → Nat
  | [] => 0
  | c :: l => c.toNat % 128 + 128 * val l

theorem val_snoc (s : List UInt8) (c : UInt8) : val (s ++ [c]) = val s + c.toNat % 128 * 128 ^ s.length := by
  induction s with
  | nil => simp [val]
  | cons d s ih =>
    simp only [List.cons_append, val, ih, List.length_cons, Nat.pow_succ, Nat.mul_add]
    rw [← Nat.add_assoc]
    congr 1
    rw [Nat.mul_comm 128, Nat.mul_assoc]

theorem val_lt (s : List UInt8) : val s < 128 ^ s.length := by
  induction s with
  | nil => simp [val]
  | cons c s ih =>
    simp only [val, List.length_cons, Nat.pow_succ]
    omega

/-- V: the number of the bytes from j on, up to byte k. -/
def V (l : List UInt8) (k j : Nat) : Nat := val ((l.take (k + 1)).drop j)

theorem V_end (l : List UInt8) (k : Nat) : V l k (k + 1) = 0 := by
  unfold V
  rw [List.drop_of_length_le (by rw [List.length_take]; omega)]; rfl

theorem V_step (l : List UInt8) (k j : Nat) (hk : k < l.length) (hj : j ≤ k) : V l k j = V l k (j + 1) * 128 + l[j].toNat % 128 := by
  unfold V
  have hlen : j < (l.take (k + 1)).length := by rw [List.length_take]; omega
  rw [List.drop_eq_getElem_cons hlen, val, List.getElem_take]
  omega

theorem V_lt (l : List UInt8) (k j : Nat) : V l k j < 128 ^ (k + 1 - j) := by
  unfold V
  have h := val_lt ((l.take (k + 1)).drop j)
  rw [List.length_drop, List.length_take] at h
  exact Nat.lt_of_lt_of_le h (Nat.pow_le_pow_right (by omega) (by omega))

theorem V_zero (l : List UInt8) (k : Nat) (hk : k < l.length) : V l k 0 = val (l.take k) + l[k].toNat % 128 * 128 ^ k := by
  unfold V
  rw [List.drop_zero, List.take_succ_eq_append_getElem hk, val_snoc, List.length_take, Nat.min_eq_left (by omega)]

/-- The first k bytes go on. -/
def Runs (l : List UInt8) (k : Nat) : Prop := Inv l k (val (l.take k))

theorem runs_zero (l : List UInt8) : Runs l 0 := inv_zero l
theorem runs_more {l : List UInt8} {k : Nat} (h : Runs l k) (hk : k < 10) (hl : k < l.length) (hc : ¬ l[k].toNat < 128) : Runs l (k + 1) := by
  have := inv_more h hk hl hc
  unfold Runs
  rw [List.take_succ_eq_append_getElem hl, val_snoc, List.length_take, Nat.min_eq_left (by omega)]
  exact this

/-- Where the number is too great, the last byte says so. -/
theorem V_great {l : List UInt8} {k j : Nat} (h : Runs l k) (hk : k < 10) (hl : k < l.length) (_hc : l[k].toNat < 128) (hj : 1 ≤ j) (hg : 144115188075855871 < V l k j) : get l = none := by
  have h1 := V_lt l k j
  have h2 : 128 ^ (k + 1 - j) ≤ 128 ^ (k + 1 - 1) := Nat.pow_le_pow_right (by omega) (by omega)
  have hk9 : k = 9 := by
    rcases Nat.lt_or_ge k 9 with h | h
    · have h3 : 128 ^ (k + 1 - 1) ≤ 128 ^ 8 := Nat.pow_le_pow_right (by omega) (by omega)
      omega
    · omega
  subst hk9
  have hj1 : j = 1 := by
    rcases Nat.lt_or_ge 1 j with h | h
    · have h3 : 128 ^ (9 + 1 - j) ≤ 128 ^ 8 := Nat.pow_le_pow_right (by omega) (by omega)
      omega
    · omega
  subst hj1
  refine inv_top h hl ?_
  rcases Nat.lt_or_ge 1 l[9].toNat with h | h
  · exact h
  · exfalso
    have e : V l 9 1 = val (((l.take 9).drop 1)) + l[9].toNat % 128 * 128 ^ 8 := by
      unfold V
      rw [List.take_succ_eq_append_getElem hl, List.drop_append_of_le_length (by rw [List.length_take]; omega), val_snoc, List.length_drop, List.length_take, Nat.min_eq_left (by omega)]
    have h4 := val_lt ((l.take 9).drop 1)
    rw [List.length_drop, List.length_take, Nat.min_eq_left (by omega)] at h4
    have h5 : l[9].toNat % 128 * 128 ^ 8 ≤ 1 * 128 ^ 8 := Nat.mul_le_mul_right _ (by omega)
    rw [e] at hg
    omega

/-- All is well where it is not too great. -/
theorem V_good {l : List UInt8} {k : Nat} (h : Runs l k) (hk : k < 10) (hl : k < l.length) (hc : l[k].toNat < 128) (hs : V l k 1 ≤ 144115188075855871) (h0 : ¬ (l[k].toNat = 0 ∧ k ≠ 0)) :
    get l = some (zag (V l k 0), k + 1) := by
  rw [V_zero l k hl]
  refine inv_done h hk hl hc h0 ?_
  rintro ⟨rfl, h1⟩
  have e : V l 9 1 = val (((l.take 9).drop 1)) + l[9].toNat % 128 * 128 ^ 8 := by
    unfold V
    rw [List.take_succ_eq_append_getElem hl, List.drop_append_of_le_length (by rw [List.length_take]; omega), val_snoc, List.length_drop, List.length_take, Nat.min_eq_left (by omega)]
  have h5 : 2 * 128 ^ 8 ≤ l[9].toNat % 128 * 128 ^ 8 := Nat.mul_le_mul_right _ (by omega)
  rw [e] at hs
  omega

end Go.Proofs.Ytjpaljiielemgaa.Pure
