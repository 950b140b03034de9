/- The plain laws of a number's bytes: seven bits a byte, the lowest first. No program in sight. -/
namespace Go.Proofs.Ytjpaljiielemgaa.Pure

/-- A natural number's bytes. -/
def var (m : Nat) : List UInt8 := if m < 128 then [UInt8.ofNat m] else UInt8.ofNat (m % 128 + 128) :: var (m / 128)
termination_by m

/-- The number that stands for an int: 2 n, or -2 n - 1. -/
def zig (n : Int) : Nat := if n < 0 then (-2 * n - 1).toNat else (2 * n).toNat
def zag (m : Nat) : Int := if m % 2 = 1 then -((m / 2 : Nat) : Int) - 1 else ((m / 2 : Nat) : Int)

/-- An int's bytes. -/
def enc (n : Int) : List UInt8 := var (zig n)

/-- Reading: at most f bytes; first: none has been read ahead. The value, and how many bytes it has. -/
def dec : Nat → Bool → List UInt8 → Option (Nat × Nat)
  | 0, _, _ => none
  | _ + 1, _, [] => none
  | f + 1, first, c :: l =>
    if c.toNat < 128 then (if (c.toNat = 0 ∧ first = false) ∨ (f = 0 ∧ 1 < c.toNat) then none else some (c.toNat, 1))
    else match dec f false l with
      | some (v, u) => some (c.toNat % 128 + 128 * v, u + 1)
      | none => none

theorem zag_zig (n : Int) : zag (zig n) = n := by unfold zag zig; split <;> split <;> omega
theorem zig_zag (m : Nat) : zig (zag m) = m := by unfold zag zig; split <;> split <;> omega
theorem zig_lt (n : Int) (h1 : -9223372036854775808 ≤ n) (h2 : n ≤ 9223372036854775807) : zig n < 18446744073709551616 := by unfold zig; split <;> omega
theorem zag_rng (m : Nat) (h : m < 18446744073709551616) : -9223372036854775808 ≤ zag m ∧ zag m ≤ 9223372036854775807 := by unfold zag; split <;> omega

theorem var_lo (m : Nat) (h : m < 128) : var m = [UInt8.ofNat m] := by rw [var, if_pos h]
theorem var_hi (m : Nat) (h : ¬ m < 128) : var m = UInt8.ofNat (m % 128 + 128) :: var (m / 128) := by rw [var, if_neg h]

theorem toNat_ofNat (m : Nat) (h : m < 256) : (UInt8.ofNat m).toNat = m := by simp; omega

theorem var_pos (m : Nat) : 0 < (var m).length := by
  unfold var; split <;> simp

theorem var_len (f : Nat) : ∀ m, m < 128 ^ f → 0 < f → (var m).length ≤ f := by
  induction f with
  | zero => intro m _ h; omega
  | succ f ih =>
    intro m hm _
    by_cases h : m < 128
    · rw [var_lo m h]; simp
    · rw [var_hi m h]
      simp only [List.length_cons]
      have hf : 0 < f := by
        rcases Nat.eq_zero_or_pos f with rfl | h0
        · simp at hm; omega
        · exact h0
      have := ih (m / 128) (by rw [Nat.pow_succ] at hm; omega) hf
      omega

/-- What was written is read, whatever stands behind: f bytes may be read, and the number has at most 7 (f - 1) + 1 bits. -/
theorem dec_var (f : Nat) : ∀ (m : Nat) (first : Bool) (l : List UInt8), m < 2 * 128 ^ f → (first = false → 0 < m) → dec (f + 1) first (var m ++ l) = some (m, (var m).length) := by
  induction f with
  | zero =>
    intro m first l hm h0
    have hlt : m < 128 := by simp at hm; omega
    rw [var_lo m hlt]
    simp only [List.cons_append, List.nil_append, dec, toNat_ofNat m (by omega), List.length_cons, List.length_nil]
    rw [if_pos hlt, if_neg]
    rintro (⟨rfl, hf⟩ | ⟨_, h1⟩)
    · exact absurd (h0 hf) (by omega)
    · simp at hm; omega
  | succ f ih =>
    intro m first l hm h0
    by_cases h : m < 128
    · rw [var_lo m h]
      simp only [List.cons_append, List.nil_append, dec, toNat_ofNat m (by omega), List.length_cons, List.length_nil]
      rw [if_pos h, if_neg]
      rintro (⟨rfl, hf⟩ | ⟨hh, _⟩)
      · exact absurd (h0 hf) (by omega)
      · omega
    · rw [var_hi m h]
      have hih := ih (m / 128) false l (by rw [Nat.pow_succ] at hm; omega) (fun _ => by omega)
      simp only [List.cons_append, List.length_cons]
      rw [dec, toNat_ofNat (m % 128 + 128) (by omega), if_neg (by omega), hih]
      simp only [Option.some.injEq, Prod.mk.injEq, and_true]
      omega

/-- What is read was written in the one way there is. -/
theorem dec_sound (f : Nat) : ∀ (first : Bool) (l : List UInt8) (v u : Nat), dec (f + 1) first l = some (v, u) →
    u ≤ l.length ∧ l.take u = var v ∧ v < 2 * 128 ^ f ∧ (first = false → 0 < v) ∧ u ≤ f + 1 ∧ 0 < u := by
  induction f with
  | zero =>
    intro first l v u h
    cases l with
    | nil => simp [dec] at h
    | cons c l =>
      rw [dec] at h
      by_cases hc : c.toNat < 128
      · rw [if_pos hc] at h
        by_cases hb : (c.toNat = 0 ∧ first = false) ∨ (0 = 0 ∧ 1 < c.toNat)
        · rw [if_pos hb] at h; cases h
        · rw [if_neg hb] at h
          simp only [Option.some.injEq, Prod.mk.injEq] at h
          obtain ⟨rfl, rfl⟩ := h
          refine ⟨by simp, ?_, ?_, ?_, by omega, by omega⟩
          · rw [var_lo _ hc]; simp
          · have : ¬ 1 < c.toNat := fun hh => hb (.inr ⟨rfl, hh⟩)
            simp; omega
          · intro hf
            rcases Nat.eq_zero_or_pos c.toNat with h0 | h0
            · exact absurd (.inl ⟨h0, hf⟩) hb
            · exact h0
      · rw [if_neg hc] at h
        simp [dec] at h
  | succ f ih =>
    intro first l v u h
    cases l with
    | nil => simp [dec] at h
    | cons c l =>
      rw [dec] at h
      by_cases hc : c.toNat < 128
      · rw [if_pos hc] at h
        by_cases hb : (c.toNat = 0 ∧ first = false) ∨ (f + 1 = 0 ∧ 1 < c.toNat)
        · rw [if_pos hb] at h; cases h
        · rw [if_neg hb] at h
          simp only [Option.some.injEq, Prod.mk.injEq] at h
          obtain ⟨rfl, rfl⟩ := h
          refine ⟨by simp, ?_, ?_, ?_, by omega, by omega⟩
          · rw [var_lo _ hc]; simp
          · have : 0 < 128 ^ f := Nat.pow_pos (by omega)
            rw [Nat.pow_succ]; omega
          · intro hf
            rcases Nat.eq_zero_or_pos c.toNat with h0 | h0
            · exact absurd (.inl ⟨h0, hf⟩) hb
            · exact h0
      · rw [if_neg hc] at h
        cases hd : dec (f + 1) false l with
        | none => rw [hd] at h; cases h
        | some p =>
          obtain ⟨v', u'⟩ := p
          rw [hd] at h
          simp only [Option.some.injEq, Prod.mk.injEq] at h
          obtain ⟨rfl, rfl⟩ := h
          obtain ⟨h1, h2, h3, h4, h5, h6⟩ := ih false l v' u' hd
          have hp := h4 rfl
          have hcl := c.toNat_lt
          refine ⟨by simp; omega, ?_, by rw [Nat.pow_succ]; omega, fun _ => by omega, by omega, by omega⟩
          rw [var_hi _ (by omega), List.take_succ_cons, h2]
          have e1 : (c.toNat % 128 + 128 * v') % 128 + 128 = c.toNat := by omega
          have e2 : (c.toNat % 128 + 128 * v') / 128 = v' := by omega
          rw [e1, e2]
          simp

/-- An int that stands at the beginning of bytes, and how many bytes it has. -/
def get (l : List UInt8) : Option (Int × Nat) := (dec 10 true l).map fun p => (zag p.1, p.2)

theorem get_enc (n : Int) (l : List UInt8) (h1 : -9223372036854775808 ≤ n) (h2 : n ≤ 9223372036854775807) : get (enc n ++ l) = some (n, (enc n).length) := by
  unfold get enc
  rw [dec_var 9 (zig n) true l (by have := zig_lt n h1 h2; omega) (by simp)]
  simp [zag_zig]

theorem get_sound (l : List UInt8) (n : Int) (u : Nat) (h : get l = some (n, u)) :
    u ≤ l.length ∧ l.take u = enc n ∧ -9223372036854775808 ≤ n ∧ n ≤ 9223372036854775807 ∧ 0 < u ∧ u ≤ 10 := by
  unfold get at h
  cases hd : dec 10 true l with
  | none => rw [hd] at h; cases h
  | some p =>
    obtain ⟨v, w⟩ := p
    rw [hd] at h
    simp only [Option.map_some, Option.some.injEq, Prod.mk.injEq] at h
    obtain ⟨rfl, rfl⟩ := h
    obtain ⟨a, b, c, _, d, e⟩ := dec_sound 9 true l v w hd
    have hv : v < 18446744073709551616 := by omega
    exact ⟨a, by rw [enc, zig_zag]; exact b, (zag_rng v hv).1, (zag_rng v hv).2, e, d⟩

theorem enc_len (n : Int) (h1 : -9223372036854775808 ≤ n) (h2 : n ≤ 9223372036854775807) : (enc n).length ≤ 10 :=
  var_len 10 _ (by have := zig_lt n h1 h2; omega) (by omega)
theorem enc_pos (n : Int) : 0 < (enc n).length := var_pos _

/-- k bytes have been read, of which M comes. -/
def Inv (l : List UInt8) (k M : Nat) : Prop :=
  M < 128 ^ k ∧ k ≤ 10 ∧ dec 10 true l = match dec (10 - k) (decide (k = 0)) (l.drop k) with | some (v, u) => some (M + 128 ^ k * v, u + k) | none => none

theorem inv_zero (l : List UInt8) : Inv l 0 0 := by
  refine ⟨by simp, by omega, ?_⟩
  simp only [Nat.sub_zero, List.drop_zero, decide_true, Nat.pow_zero, Nat.one_mul, Nat.zero_add, Nat.add_zero]
  split <;> rename_i h <;> exact h

theorem inv_ten {l : List UInt8} {M : Nat} (h : Inv l 10 M) : get l = none := by
  have h := h.2.2
  simp only [Nat.sub_self, dec] at h
  simp [get, h]

theorem inv_end {l : List UInt8} {k M : Nat} (h : Inv l k M) (hl : l.length ≤ k) : get l = none := by
  have h2 := h.2.2
  rw [List.drop_of_length_le hl] at h2
  have hd : ∀ f b, dec f b [] = none := by intro f b; cases f <;> rfl
  rw [hd] at h2
  simp [get, h2]

theorem inv_step {l : List UInt8} {k M : Nat} (h : Inv l k M) (hk : k < 10) (hl : k < l.length) :
    dec 10 true l = if l[k].toNat < 128 then (if (l[k].toNat = 0 ∧ k ≠ 0) ∨ (k = 9 ∧ 1 < l[k].toNat) then none else some (M + 128 ^ k * l[k].toNat, k + 1))
      else match dec (9 - k) false (l.drop (k + 1)) with | some (v, u) => some (M + l[k].toNat % 128 * 128 ^ k + 128 ^ (k + 1) * v, u + (k + 1)) | none => none := by
  rw [h.2.2, List.drop_eq_getElem_cons hl]
  obtain ⟨f, hf⟩ : ∃ f, 10 - k = f + 1 := ⟨9 - k, by omega⟩
  rw [hf, dec]
  have hf9 : 9 - k = f := by omega
  rw [hf9]
  by_cases hc : l[k].toNat < 128
  · rw [if_pos hc, if_pos hc]
    by_cases hb : (l[k].toNat = 0 ∧ k ≠ 0) ∨ (k = 9 ∧ 1 < l[k].toNat)
    · rw [if_pos hb, if_pos]
      rcases hb with ⟨a, b⟩ | ⟨a, b⟩
      · exact .inl ⟨a, by simp [b]⟩
      · exact .inr ⟨by omega, b⟩
    · rw [if_neg hb, if_neg]
      · simp [Nat.add_comm]
      · rintro (⟨a, b⟩ | ⟨a, b⟩)
        · exact hb (.inl ⟨a, by simpa using b⟩)
        · exact hb (.inr ⟨by omega, b⟩)
  · rw [if_neg hc, if_neg hc]
    cases hd : dec f false (List.drop (k + 1) l) with
    | none => simp
    | some p =>
      obtain ⟨v, u⟩ := p
      simp only [Option.some.injEq, Prod.mk.injEq]
      refine ⟨?_, by omega⟩
      rw [Nat.pow_succ, Nat.mul_add, Nat.mul_comm (128 ^ k) (l[k].toNat % 128), Nat.mul_assoc, Nat.add_assoc]

theorem inv_more {l : List UInt8} {k M : Nat} (h : Inv l k M) (hk : k < 10) (hl : k < l.length) (hc : ¬ l[k].toNat < 128) :
    Inv l (k + 1) (M + l[k].toNat % 128 * 128 ^ k) := by
  have hs := inv_step h hk hl
  rw [if_neg hc] at hs
  refine ⟨?_, by omega, ?_⟩
  · have h1 := h.1
    have h2 : l[k].toNat % 128 * 128 ^ k ≤ 127 * 128 ^ k := Nat.mul_le_mul_right _ (by omega)
    rw [Nat.pow_succ]; omega
  · rw [hs]
    have e : 10 - (k + 1) = 9 - k := by omega
    rw [e]
    simp

theorem inv_top {l : List UInt8} {M : Nat} (h : Inv l 9 M) (hl : 9 < l.length) (hc : 1 < l[9].toNat) : get l = none := by
  have hs := inv_step h (by omega) hl
  unfold get
  rw [hs]
  by_cases h1 : l[9].toNat < 128
  · rw [if_pos h1, if_pos (.inr ⟨rfl, hc⟩)]; rfl
  · rw [if_neg h1]; simp [dec]

theorem inv_null {l : List UInt8} {k M : Nat} (h : Inv l k M) (hk : k < 10) (hl : k < l.length) (hc : l[k].toNat = 0) (h0 : k ≠ 0) : get l = none := by
  have hs := inv_step h hk hl
  unfold get
  rw [hs, if_pos (by omega), if_pos (.inl ⟨hc, h0⟩)]; rfl

theorem inv_done {l : List UInt8} {k M : Nat} (h : Inv l k M) (hk : k < 10) (hl : k < l.length) (hc : l[k].toNat < 128) (h0 : ¬ (l[k].toNat = 0 ∧ k ≠ 0)) (h9 : ¬ (k = 9 ∧ 1 < l[k].toNat)) :
    get l = some (zag (M + l[k].toNat % 128 * 128 ^ k), k + 1) := by
  have hs := inv_step h hk hl
  unfold get
  rw [hs, if_pos hc, if_neg (by rintro (a | a) <;> contradiction)]
  rw [Nat.mod_eq_of_lt hc, Nat.mul_comm]
  rfl

theorem inv_fits {l : List UInt8} {k M : Nat} (h : Inv l k M) (hk : k < 10) (hl : k < l.length) (h9 : ¬ (k = 9 ∧ 1 < l[k].toNat)) : M + l[k].toNat % 128 * 128 ^ k < 18446744073709551616 := by
  have h1 := h.1
  by_cases h : k = 9
  · subst h
    have h2 : l[9].toNat % 128 * 128 ^ 9 ≤ 1 * 128 ^ 9 := Nat.mul_le_mul_right _ (by omega)
    omega
  · have h2 : l[k].toNat % 128 * 128 ^ k ≤ 127 * 128 ^ k := Nat.mul_le_mul_right _ (by omega)
    have h3 : 128 ^ k ≤ 128 ^ 8 := Nat.pow_le_pow_right (by omega) (by omega)
    omega

end Go.Proofs.Ytjpaljiielemgaa.Pure
