/- What the reader of entries has read: its cells, and the bytes that it has passed over. -/
import Derived.Test.YtjpaljiielemgaaGetEnt
import Derived.Test.YtjpaljiielemgaaArgs
namespace Go.Proofs.Ytjpaljiielemgaa
open Go.RowKit

theorem get_bytes {l : List UInt8} {n : Int} {u : Nat} (h : Pure.get l = some (n, u)) : ∃ r, l = Pure.enc n ++ r ∧ u = (Pure.enc n).length ∧ -9223372036854775808 ≤ n ∧ n ≤ 9223372036854775807 := by
  obtain ⟨a, b, c, d, _⟩ := Pure.get_sound _ _ _ h
  refine ⟨l.drop u, ?_, ?_, c, d⟩
  · rw [← b, List.take_append_drop]
  · rw [← b, List.length_take]; omega

theorem pInt_inv {l : List UInt8} {v : Value} {u : Nat} (h : pInt l = some (v, u)) : ∃ n r, v = .int .i64 n ∧ l = Pure.enc n ++ r ∧ u = (Pure.enc n).length ∧ -9223372036854775808 ≤ n ∧ n ≤ 9223372036854775807 := by
  unfold pInt at h
  cases hg : Pure.get l with
  | none => rw [hg] at h; cases h
  | some p =>
    obtain ⟨n, k⟩ := p
    rw [hg] at h
    simp only [Option.some.injEq, Prod.mk.injEq] at h
    obtain ⟨rfl, rfl⟩ := h
    obtain ⟨r, a, b, c, d⟩ := get_bytes hg
    exact ⟨n, r, rfl, a, b, c, d⟩

theorem pTxt_inv {l : List UInt8} {v : Value} {u : Nat} (h : pTxt l = some (v, u)) : ∃ (s : ByteArray) (r : List UInt8), v = .string s ∧ l = txt s.data.toList ++ r ∧ u = (txt s.data.toList).length ∧ s.size ≤ 65536 := by
  unfold pTxt at h
  cases hg : getTxt l with
  | none => rw [hg] at h; cases h
  | some p =>
    obtain ⟨t, k⟩ := p
    rw [hg] at h
    simp only [Option.some.injEq, Prod.mk.injEq] at h
    obtain ⟨rfl, rfl⟩ := h
    unfold getTxt at hg
    cases hg2 : Pure.get l with
    | none => rw [hg2] at hg; cases hg
    | some q =>
      obtain ⟨n, j⟩ := q
      rw [hg2] at hg
      simp only at hg
      split at hg
      · rename_i hc
        simp only [Option.some.injEq, Prod.mk.injEq] at hg
        obtain ⟨rfl, rfl⟩ := hg
        obtain ⟨r, a, b, c, d⟩ := get_bytes hg2
        have hd : l.drop j = r := by rw [a, b, List.drop_left]
        have hr : r.length = l.length - j := by rw [← hd, List.length_drop]
        have hn : ((r.take n.toNat).length : Int) = n := by rw [List.length_take, hr]; omega
        refine ⟨⟨(r.take n.toNat).toArray⟩, r.drop n.toNat, by rw [hd], ?_, ?_, ?_⟩
        · show l = txt (r.take n.toNat) ++ r.drop n.toNat
          unfold txt
          rw [hn, List.append_assoc, List.take_append_drop]
          exact a
        · show j + n.toNat = (txt (r.take n.toNat)).length
          unfold txt
          rw [hn, List.length_append, ← b, List.length_take, hr]
          omega
        · show (r.take n.toNat).length ≤ 65536
          omega
      · cases hg

theorem pBit_inv {l : List UInt8} {v : Value} {u : Nat} (h : pBit l = some (v, u)) : ∃ (b : Bool) (r : List UInt8), v = .bool b ∧ l = bit b ++ r ∧ u = (bit b).length := by
  unfold pBit at h
  cases hg : getBit l with
  | none => rw [hg] at h; cases h
  | some p =>
    obtain ⟨b, k⟩ := p
    rw [hg] at h
    simp only [Option.some.injEq, Prod.mk.injEq] at h
    obtain ⟨rfl, rfl⟩ := h
    unfold getBit at hg
    match l, hg with
    | c :: r, hg =>
      simp only at hg
      split at hg
      · rename_i hc
        simp only [Option.some.injEq, Prod.mk.injEq] at hg
        obtain ⟨rfl, rfl⟩ := hg
        refine ⟨_, r, rfl, ?_, rfl⟩
        unfold bit
        have : c = if decide (c.toNat = 1) = true then 1 else 0 := by
          apply UInt8.toNat_inj.1
          by_cases h1 : c.toNat = 1
          · simp [h1]
          · have : c.toNat = 0 := by omega
            simp [this]
        rw [← this]; rfl
      · cases hg

theorem pVer_inv {l : List UInt8} {v : Value} {u : Nat} (h : pVer l = some (v, u)) : ∃ (x y : Nat) (r : List UInt8), v = verV x y ∧ l = verB x y ++ r ∧ u = (verB x y).length ∧ x ≤ 1099511627776 ∧ y ≤ 1099511627776 := by
  unfold pVer at h
  cases hg : getVer l with
  | none => rw [hg] at h; cases h
  | some p =>
    obtain ⟨⟨x, y⟩, k⟩ := p
    rw [hg] at h
    simp only [Option.some.injEq, Prod.mk.injEq] at h
    obtain ⟨rfl, rfl⟩ := h
    unfold getVer at hg
    cases hg1 : Pure.get l with
    | none => rw [hg1] at hg; cases hg
    | some q =>
      obtain ⟨n, j⟩ := q
      rw [hg1] at hg
      simp only at hg
      split at hg
      · rename_i hc
        cases hg2 : Pure.get (l.drop j) with
        | none => rw [hg2] at hg; cases hg
        | some q2 =>
          obtain ⟨n2, j2⟩ := q2
          rw [hg2] at hg
          simp only at hg
          split at hg
          · rename_i hc2
            simp only [Option.some.injEq, Prod.mk.injEq] at hg
            obtain ⟨⟨rfl, rfl⟩, rfl⟩ := hg
            obtain ⟨r, a, b, _, _⟩ := get_bytes hg1
            obtain ⟨r2, a2, b2, _, _⟩ := get_bytes hg2
            have hd : l.drop j = r := by rw [a, b, List.drop_left]
            rw [hd] at a2
            refine ⟨n.toNat, n2.toNat, r2, rfl, ?_, ?_, by omega, by omega⟩
            · unfold verB
              rw [Int.toNat_of_nonneg hc.1, Int.toNat_of_nonneg hc2.1, List.append_assoc, ← a2]
              exact a
            · unfold verB
              rw [Int.toNat_of_nonneg hc.1, Int.toNat_of_nonneg hc2.1, List.length_append]
              omega
          · cases hg
      · cases hg

/-- The reader at s, not bad, has passed over E. -/
def Past (xs : List UInt8) (at0 : Nat) (s : St) (E : List UInt8) : Prop := ∃ r, xs.drop at0 = E ++ r ∧ xs.drop s.at0 = r ∧ s.at0 = at0 + E.length

theorem Past.nil (xs : List UInt8) (at0 : Nat) (cs : Array Value) : Past xs at0 ⟨at0, false, cs⟩ [] := ⟨_, rfl, rfl, rfl⟩

theorem Past.step {xs : List UInt8} {at0 : Nat} {s : St} {E F r : List UInt8} {u j : Nat} {v : Value} (h : Past xs at0 s E) (hl : xs.drop s.at0 = F ++ r) (hu : u = F.length) : Past xs at0 ⟨s.at0 + u, false, s.cs.setIfInBounds j v⟩ (E ++ F) := by
  obtain ⟨r0, a, b, c⟩ := h
  refine ⟨r, ?_, ?_, ?_⟩
  · rw [a, List.append_assoc, ← hl, b]
  · show xs.drop (s.at0 + u) = r
    rw [← List.drop_drop, hl, hu, List.drop_left]
  · show s.at0 + u = _
    rw [List.length_append]; omega

theorem Past.piece {xs : List UInt8} {at0 : Nat} {s : St} {E : List UInt8} (h : Past xs at0 s E) : (xs.drop at0).take (s.at0 - at0) = E ∧ at0 ≤ s.at0 := by
  obtain ⟨r, a, b, c⟩ := h
  refine ⟨?_, by omega⟩
  rw [a, c, Nat.add_sub_cancel_left, List.take_left]

theorem Past.within {xs : List UInt8} {at0 : Nat} {s : St} {E : List UInt8} (h : Past xs at0 s E) (hE : 0 < E.length) : s.at0 ≤ xs.length := by
  obtain ⟨r, a, b, c⟩ := h
  have := congrArg List.length a
  rw [List.length_drop, List.length_append] at this
  omega

theorem one_inv {p : Parser} {xs : List UInt8} {j : Nat} {s : St} (h : (one p xs j s).bad = false) : s.bad = false ∧ ∃ v u, p (xs.drop s.at0) = some (v, u) ∧ one p xs j s = ⟨s.at0 + u, false, s.cs.setIfInBounds j v⟩ := by
  cases hb : s.bad with
  | true => rw [one_bad hb, hb] at h; cases h
  | false =>
    refine ⟨rfl, ?_⟩
    cases hp : p (xs.drop s.at0) with
    | none => rw [one_no hb hp] at h; cases h
    | some q => exact ⟨q.1, q.2, rfl, one_yes hb hp⟩

/-- One thing read: what lies behind. -/
theorem read_int {xs : List UInt8} {at0 j : Nat} {s : St} (h : (one pInt xs j s).bad = false) : s.bad = false ∧ ∃ n, -9223372036854775808 ≤ n ∧ n ≤ 9223372036854775807 ∧ (one pInt xs j s).cs = s.cs.setIfInBounds j (.int .i64 n) ∧ ∀ E, Past xs at0 s E → Past xs at0 (one pInt xs j s) (E ++ Pure.enc n) := by
  obtain ⟨hb, v, u, hp, he⟩ := one_inv h
  obtain ⟨n, r, rfl, a, b, c, d⟩ := pInt_inv hp
  refine ⟨hb, n, c, d, by rw [he], fun E hE => ?_⟩
  rw [he]; exact hE.step a b
theorem read_txt {xs : List UInt8} {at0 j : Nat} {s : St} (h : (one pTxt xs j s).bad = false) : s.bad = false ∧ ∃ t : ByteArray, t.size ≤ 65536 ∧ (one pTxt xs j s).cs = s.cs.setIfInBounds j (.string t) ∧ ∀ E, Past xs at0 s E → Past xs at0 (one pTxt xs j s) (E ++ txt t.data.toList) := by
  obtain ⟨hb, v, u, hp, he⟩ := one_inv h
  obtain ⟨n, r, rfl, a, b, c⟩ := pTxt_inv hp
  refine ⟨hb, n, c, by rw [he], fun E hE => ?_⟩
  rw [he]; exact hE.step a b
theorem read_bit {xs : List UInt8} {at0 j : Nat} {s : St} (h : (one pBit xs j s).bad = false) : s.bad = false ∧ ∃ t : Bool, (one pBit xs j s).cs = s.cs.setIfInBounds j (.bool t) ∧ ∀ E, Past xs at0 s E → Past xs at0 (one pBit xs j s) (E ++ bit t) := by
  obtain ⟨hb, v, u, hp, he⟩ := one_inv h
  obtain ⟨n, r, rfl, a, b⟩ := pBit_inv hp
  refine ⟨hb, n, by rw [he], fun E hE => ?_⟩
  rw [he]; exact hE.step a b
theorem read_ver {xs : List UInt8} {at0 j : Nat} {s : St} (h : (one pVer xs j s).bad = false) : s.bad = false ∧ ∃ x y, x ≤ 1099511627776 ∧ y ≤ 1099511627776 ∧ (one pVer xs j s).cs = s.cs.setIfInBounds j (verV x y) ∧ ∀ E, Past xs at0 s E → Past xs at0 (one pVer xs j s) (E ++ verB x y) := by
  obtain ⟨hb, v, u, hp, he⟩ := one_inv h
  obtain ⟨x, y, r, rfl, a, b, c, d⟩ := pVer_inv hp
  refine ⟨hb, x, y, c, d, by rw [he], fun E hE => ?_⟩
  rw [he]; exact hE.step a b

def opB (k : Int) (a b c : ByteArray) (t : Bool) : List UInt8 := Pure.enc k ++ txt a.data.toList ++ txt b.data.toList ++ txt c.data.toList ++ bit t
def opC (k : Int) (a b c : ByteArray) (t : Bool) : Array Value := #[.int .i64 k, .string a, .string b, .string c, .bool t]

theorem opS_eq (xs : List UInt8) (at0 : Nat) : opS xs at0 = one pBit xs 4 (one pTxt xs 3 (one pTxt xs 2 (one pTxt xs 1 (one pInt xs 0 ⟨at0, false, opZero⟩)))) := by
  unfold opS; simp only [many, Nat.reduceAdd]

/-- What GetOp has read: the cells, and that they are written as what was passed over. -/
theorem opS_read {xs : List UInt8} {at0 : Nat} (h : (opS xs at0).bad = false) : ∃ k a b c t, -9223372036854775808 ≤ k ∧ k ≤ 9223372036854775807 ∧ a.size ≤ 65536 ∧ b.size ≤ 65536 ∧ c.size ≤ 65536 ∧ (opS xs at0).cs = opC k a b c t ∧ Past xs at0 (opS xs at0) (opB k a b c t) := by
  rw [opS_eq] at h ⊢
  obtain ⟨h4, t, e5, p5⟩ := read_bit (at0 := at0) (xs := xs) (j := 4) (s := one pTxt xs 3 (one pTxt xs 2 (one pTxt xs 1 (one pInt xs 0 ⟨at0, false, opZero⟩)))) h
  obtain ⟨h3, c, z4, e4, p4⟩ := read_txt (at0 := at0) (xs := xs) (j := 3) h4
  obtain ⟨h2, b, z3, e3, p3⟩ := read_txt (at0 := at0) (xs := xs) (j := 2) h3
  obtain ⟨h1, a, z2, e2, p2⟩ := read_txt (at0 := at0) (xs := xs) (j := 1) h2
  obtain ⟨h0, k, y1, y2, e1, p1⟩ := read_int (at0 := at0) (xs := xs) (j := 0) h1
  refine ⟨k, a, b, c, t, y1, y2, z2, z3, z4, ?_, ?_⟩
  · rw [e5, e4, e3, e2, e1]; simp only [opZero, opC, List.setIfInBounds_toArray, List.set_cons_succ, List.set_cons_zero]
  · have := p5 _ (p4 _ (p3 _ (p2 _ (p1 _ (Past.nil xs at0 opZero)))))
    rw [List.nil_append] at this
    exact this

def entB (x y : Nat) (k : Int) (a b : ByteArray) (s t : Bool) (l m n : Int) (c : ByteArray) (u : Bool) : List UInt8 :=
  verB x y ++ Pure.enc k ++ txt a.data.toList ++ txt b.data.toList ++ bit s ++ bit t ++ Pure.enc l ++ Pure.enc m ++ Pure.enc n ++ txt c.data.toList ++ bit u
def entC (x y : Nat) (k : Int) (a b : ByteArray) (s t : Bool) (l m n : Int) (c : ByteArray) (u : Bool) : Array Value :=
  #[verV x y, .int .i64 k, .string a, .string b, .bool s, .bool t, .int .i64 l, .int .i64 m, .int .i64 n, .string c, .bool u]

theorem entS_eq (xs : List UInt8) (at0 : Nat) : entS xs at0 = one pBit xs 10 (one pTxt xs 9 (one pInt xs 8 (one pInt xs 7 (one pInt xs 6 (one pBit xs 5 (one pBit xs 4 (one pTxt xs 3 (one pTxt xs 2 (one pInt xs 1 (one pVer xs 0 ⟨at0, false, entZero⟩)))))))))) := by
  unfold entS; simp only [many, Nat.reduceAdd]

theorem entS_read {xs : List UInt8} {at0 : Nat} (h : (entS xs at0).bad = false) : ∃ x y k a b s t l m n c u, x ≤ 1099511627776 ∧ y ≤ 1099511627776 ∧ (-9223372036854775808 ≤ k ∧ k ≤ 9223372036854775807) ∧ (-9223372036854775808 ≤ l ∧ l ≤ 9223372036854775807) ∧ (-9223372036854775808 ≤ m ∧ m ≤ 9223372036854775807) ∧ (-9223372036854775808 ≤ n ∧ n ≤ 9223372036854775807) ∧
    a.size ≤ 65536 ∧ b.size ≤ 65536 ∧ c.size ≤ 65536 ∧ (entS xs at0).cs = entC x y k a b s t l m n c u ∧ Past xs at0 (entS xs at0) (entB x y k a b s t l m n c u) := by
  rw [entS_eq] at h ⊢
  obtain ⟨h10, u, e11, p11⟩ := read_bit (at0 := at0) (xs := xs) (j := 10) (s := one pTxt xs 9 (one pInt xs 8 (one pInt xs 7 (one pInt xs 6 (one pBit xs 5 (one pBit xs 4 (one pTxt xs 3 (one pTxt xs 2 (one pInt xs 1 (one pVer xs 0 ⟨at0, false, entZero⟩)))))))))) h
  obtain ⟨h9, c, z10, e10, p10⟩ := read_txt (at0 := at0) (xs := xs) (j := 9) h10
  obtain ⟨h8, n, n1, n2, e9, p9⟩ := read_int (at0 := at0) (xs := xs) (j := 8) h9
  obtain ⟨h7, m, m1, m2, e8, p8⟩ := read_int (at0 := at0) (xs := xs) (j := 7) h8
  obtain ⟨h6, l, l1, l2, e7, p7⟩ := read_int (at0 := at0) (xs := xs) (j := 6) h7
  obtain ⟨h5, t, e6, p6⟩ := read_bit (at0 := at0) (xs := xs) (j := 5) h6
  obtain ⟨h4, s, e5, p5⟩ := read_bit (at0 := at0) (xs := xs) (j := 4) h5
  obtain ⟨h3, b, z4, e4, p4⟩ := read_txt (at0 := at0) (xs := xs) (j := 3) h4
  obtain ⟨h2, a, z3, e3, p3⟩ := read_txt (at0 := at0) (xs := xs) (j := 2) h3
  obtain ⟨h1, k, k1, k2, e2, p2⟩ := read_int (at0 := at0) (xs := xs) (j := 1) h2
  obtain ⟨h0, x, y, x1, y1, e1, p1⟩ := read_ver (at0 := at0) (xs := xs) (j := 0) h1
  refine ⟨x, y, k, a, b, s, t, l, m, n, c, u, x1, y1, ⟨k1, k2⟩, ⟨l1, l2⟩, ⟨m1, m2⟩, ⟨n1, n2⟩, z3, z4, z10, ?_, ?_⟩
  · rw [e11, e10, e9, e8, e7, e6, e5, e4, e3, e2, e1]; simp only [entZero, entC, List.setIfInBounds_toArray, List.set_cons_succ, List.set_cons_zero]
  · have := p11 _ (p10 _ (p9 _ (p8 _ (p7 _ (p6 _ (p5 _ (p4 _ (p3 _ (p2 _ (p1 _ (Past.nil xs at0 entZero)))))))))))
    rw [List.nil_append] at this
    exact this

theorem opB_pos (k : Int) (a b c : ByteArray) (t : Bool) : 0 < (opB k a b c t).length := by
  unfold opB; simp only [List.length_append]; have := Pure.enc_pos k; omega
theorem entB_pos (x y : Nat) (k : Int) (a b : ByteArray) (s t : Bool) (l m n : Int) (c : ByteArray) (u : Bool) : 0 < (entB x y k a b s t l m n c u).length := by
  unfold entB; simp only [List.length_append]; have := Pure.enc_pos k; omega
end Go.Proofs.Ytjpaljiielemgaa
