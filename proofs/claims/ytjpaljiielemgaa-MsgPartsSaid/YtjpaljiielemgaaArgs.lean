/- How an argument that is a slice of bytes reads, and what is read of bytes that were written. -/
import Derived.Test.YtjpaljiielemgaaAwake3
import Derived.OpenShut
namespace Go.Proofs.Ytjpaljiielemgaa
open Go.RowKit

/-- What is known of a slice of bytes that came in: it is nil; or it leads to a row of 'cap' cells, the numbers zs. -/
def IsRow (w : World) (a : Option Addr) (len cap : Nat) (zs : List Int) : Prop :=
  (a = none ∧ len = 0 ∧ cap = 0 ∧ zs = []) ∨
  ∃ x, a = some x ∧ len ≤ cap ∧ cap ≤ maxLen ∧ zs.length = cap ∧ (∀ i, i < zs.length → w.cell? (x.add i) = some (.int .u8 (zs.getD i 0))) ∧ ∀ n ∈ zs, (Lit.int .u8 n).wf = true

theorem IsRow.bytes {w : World} {a : Option Addr} {len cap : Nat} {zs : List Int} (h : IsRow w a len cap zs) : ∃ xs : List UInt8, xs.length = len ∧ Bytes w (.slice a len cap) xs := by
  rcases h with ⟨rfl, rfl, rfl, rfl⟩ | ⟨x, rfl, h1, h2, h3, h4, h5⟩
  · exact ⟨[], rfl, none, 0, rfl, Nat.le_refl _, by unfold maxLen; omega, fun h => absurd h (by simp)⟩
  · refine ⟨(zs.take len).map fun n => UInt8.ofNat n.toNat, by simp; omega, some x, cap, by simp; omega, by simp; omega, h2, fun h0 => ?_⟩
    have hlen : 0 < zs.length := by simp at h0; omega
    have hspot : x.spot = none := by
      have h := h4 0 hlen
      have e : x.add 0 = x := by simp [Addr.add]
      rw [e] at h
      unfold World.cell? at h
      split at h
      · cases hs : x.spot with
        | none => rfl
        | some _ => simp [hs] at h
      · cases h
    obtain ⟨g, off, sp⟩ := x
    simp only at hspot
    subst hspot
    refine ⟨g, off, rfl, fun j hj => ?_⟩
    have hj' : j < zs.length := by simp at hj; omega
    have h := h4 j hj'
    have hadd : (⟨g, off, none⟩ : Addr).add j = ⟨g, off + j, none⟩ := by unfold Addr.add; split <;> simp_all
    rw [hadd] at h
    rw [h]
    have hb := bounds_u8 (h5 _ (List.getElem_mem hj'))
    simp only [List.getElem_map, List.getElem_take]
    rw [Pure.toNat_ofNat _ (by omega)]
    simp only [List.getD_eq_getElem?_getD, List.getElem?_eq_getElem hj', Option.getD_some]
    congr 2; omega

/-- A slice of bytes in its parts, its length a number of its own. -/
theorem Buf.parts {w : World} {v : Value} {xs : List UInt8} (h : Buf w v xs) : ∃ a n c, v = .slice a n c ∧ Hid (n = xs.length) ∧ n ≤ 9223372036854775807 ∧ n ≤ c ∧ c ≤ 9223372036854775807 := by
  obtain ⟨a, c, rfl, h1, h2, _⟩ := h
  unfold maxLen at h2
  exact ⟨a, _, c, rfl, Lib.hid rfl, by omega, h1, by omega⟩
theorem Bytes.parts {w : World} {v : Value} {xs : List UInt8} (h : Bytes w v xs) : ∃ a n c, v = .slice a n c ∧ Hid (n = xs.length) ∧ n ≤ 9223372036854775807 ∧ n ≤ c ∧ c ≤ 9223372036854775807 := by
  obtain ⟨a, c, rfl, h1, h2, _⟩ := h
  unfold maxLen at h2
  exact ⟨a, _, c, rfl, Lib.hid rfl, by omega, h1, by omega⟩

theorem Buf.keep {w w' : World} {v : Value} {xs : List UInt8} (h : Buf w v xs) (hb : Below w.heap.size w w') : Buf w' v xs := by
  obtain ⟨a, cap, rfl, h1, h2, h3⟩ := h
  refine ⟨a, cap, rfl, h1, h2, fun h0 => ?_⟩
  obtain ⟨g, cur, rfl, hg, hc, hx⟩ := h3 h0
  exact ⟨g, cur, rfl, (hb.block g (Array.getElem?_eq_some_iff.1 hg).1).trans hg, hc, hx⟩

theorem Wrote.first {w w' : World} {v v' : Value} (h : Wrote w v w' v') {B : Nat} (hB : B ≤ w.heap.size) (hv : ∀ k, blk v = some k → B ≤ k) {W : World} (hW : Below B W w) : Below B W w' ∧ ∀ k, blk v' = some k → B ≤ k :=
  ⟨hW.trans (h.below hB hv).1, (h.below hB hv).2⟩

theorem txt_len (s : List UInt8) (hs : s.length ≤ 1099511627776) : (txt s).length ≤ s.length + 10 := by
  have := Pure.enc_len (s.length : Int) (by omega) (by omega)
  simp [txt]; omega

/-- A text that was written is read, whatever stands behind. -/
theorem getTxt_txt (s l : List UInt8) (hs : s.length ≤ 65536) : getTxt (txt s ++ l) = some (s, (txt s).length) := by
  unfold getTxt txt
  have h := Pure.get_enc (s.length : Int) (s ++ l) (by omega) (by omega)
  rw [← List.append_assoc] at h
  rw [h]
  simp only
  rw [if_pos (by simp only [List.length_append]; omega)]
  simp

theorem str_eta (s : ByteArray) : (⟨s.data.toList.toArray⟩ : ByteArray) = s := by cases s; simp

end Go.Proofs.Ytjpaljiielemgaa
