/- Pieces of a slice of bytes, and texts made of them. -/
import Derived.Test.YtjpaljiielemgaaBuf
namespace Go.Proofs.Ytjpaljiielemgaa
open Go.RowKit

theorem strOf_toList (l : List UInt8) : (⟨l.toArray⟩ : ByteArray).data.toList = l := rfl

theorem Bytes.piece {w : World} {a : Option Addr} {cap : Nat} {xs : List UInt8} (h : Bytes w (.slice a xs.length cap) xs) (lo hi : Nat) (h1 : lo ≤ hi) (h2 : hi ≤ xs.length) (c' : Nat) (hc : hi - lo ≤ c') (hcm : c' ≤ cap) :
    Bytes w (.slice (if c' + lo = lo then a else a.map (·.add (lo * 1))) (hi - lo) c') ((xs.drop lo).take (hi - lo)) := by
  obtain ⟨a0, cap0, he, hl, hm, h3⟩ := h
  injection he with e1 e2 e3
  subst e1 e3
  have hlen : ((xs.drop lo).take (hi - lo)).length = hi - lo := by rw [List.length_take, List.length_drop]; omega
  refine ⟨_, c', by rw [hlen], by rw [hlen]; exact hc, by omega, fun h0 => ?_⟩
  rw [hlen] at h0
  obtain ⟨g, off, rfl, hx⟩ := h3 (by omega)
  rw [if_neg (by omega)]
  refine ⟨g, off + lo, ?_, fun j hj => ?_⟩
  · simp only [Option.map_some, Nat.mul_one]
    unfold Addr.add
    split
    · rename_i h; subst h; rfl
    · rfl
  · have hj' : j < hi - lo := by rw [hlen] at hj; exact hj
    have := hx (lo + j) (by omega)
    rw [Nat.add_assoc, this]
    simp

theorem Try.size5 : (Try.prog.info? 5).map (·.size) = some 1 := by kernel_rfl

theorem run_bound (w : World) (i : Int) (y : Nat) (code : BoundsCode) (h0 : 0 ≤ i) (h1 : i ≤ (y : Int)) : (Instr.sliceBound (.int .i64 i) y code).run Try.prog w = .ok i.toNat w := by
  simp [Instr.sliceBound, asIntOf, h0, h1]

/-- 'v[lo:hi]'. -/
theorem run_piece {w : World} {v : Value} {xs : List UInt8} (h : Bytes w v xs) (lo hi : Int) (h0 : 0 ≤ lo) (h1 : lo ≤ hi) (h2 : hi ≤ xs.length) :
    ∃ v', (∀ w', (Instr.slice 24 v (some (.int .i64 lo)) (some (.int .i64 hi)) none).run Try.prog w' = .ok v' w') ∧ Bytes w v' ((xs.drop lo.toNat).take (hi.toNat - lo.toNat)) := by
  have hb := h
  obtain ⟨a, cap, rfl, hl, hm, h3⟩ := h
  obtain ⟨i, hi5, hs5⟩ : ∃ i, Try.prog.info? 5 = some i ∧ i.size = 1 := by
    have h := Try.size5
    cases hx : Try.prog.info? 5 with
    | none => rw [hx] at h; cases h
    | some i => rw [hx] at h; exact ⟨i, rfl, by simpa using h⟩
  have hp := hb.piece lo.toNat hi.toNat (by omega) (by omega) (cap - lo.toNat) (by omega) (by omega)
  refine ⟨_, fun w' => ?_, hp⟩
  have b1 : 0 ≤ hi ∧ hi ≤ (cap : Int) := by omega
  have b2 : 0 ≤ lo ∧ lo ≤ (hi.toNat : Int) := by omega
  have e1 : cap - lo.toNat + lo.toNat = cap := by omega
  simp [Instr.slice, run_underlying Try.underlying24, Instr.sliceBounds, run_bound w' hi cap _ b1.1 b1.2, run_bound w' lo hi.toNat _ b2.1 b2.2, sizeOf, typeInfo, hi5, hs5, e1]

/-- 'v[:hi]'. -/
theorem run_piece_to {w : World} {v : Value} {xs : List UInt8} (h : Bytes w v xs) (hi : Int) (h1 : 0 ≤ hi) (h2 : hi ≤ xs.length) :
    ∃ v', (∀ w', (Instr.slice 24 v none (some (.int .i64 hi)) none).run Try.prog w' = .ok v' w') ∧ Bytes w v' (xs.take hi.toNat) := by
  have hb := h
  obtain ⟨a, cap, rfl, hl, hm, h3⟩ := h
  obtain ⟨i, hi5, _⟩ : ∃ i, Try.prog.info? 5 = some i ∧ i.size = 1 := by
    have h := Try.size5
    cases hx : Try.prog.info? 5 with
    | none => rw [hx] at h; cases h
    | some i => rw [hx] at h; exact ⟨i, rfl, by simpa using h⟩
  have hp := hb.piece 0 hi.toNat (by omega) (by omega) cap (by omega) (by omega)
  simp only [List.drop_zero, Nat.sub_zero] at hp
  refine ⟨_, fun w' => ?_, hp⟩
  have b1 : 0 ≤ hi ∧ hi ≤ (cap : Int) := by omega
  simp [Instr.slice, run_underlying Try.underlying24, Instr.sliceBounds, run_bound w' hi cap _ b1.1 b1.2, sizeOf, typeInfo, hi5]

/-- 'v[:len(v):len(v)]': no room behind. -/
theorem run_full {w : World} {v : Value} {xs : List UInt8} (h : Buf w v xs) :
    ∃ v', (∀ w', (Instr.slice 24 v none (some (.int .i64 (xs.length : Int))) (some (.int .i64 (xs.length : Int)))).run Try.prog w' = .ok v' w') ∧ Buf w v' xs ∧ blk v' = none := by
  obtain ⟨a, cap, rfl, hl, hm, h3⟩ := h
  obtain ⟨i, hi5, _⟩ : ∃ i, Try.prog.info? 5 = some i ∧ i.size = 1 := by
    have h := Try.size5
    cases hx : Try.prog.info? 5 with
    | none => rw [hx] at h; cases h
    | some i => rw [hx] at h; exact ⟨i, rfl, by simpa using h⟩
  refine ⟨.slice a xs.length xs.length, fun w' => ?_, ⟨a, xs.length, rfl, Nat.le_refl _, by omega, fun h0 => ?_⟩, ?_⟩
  · have r1 := run_bound w' (xs.length : Int) cap .slice3Acap (by omega) (by omega)
    have r2 := run_bound w' (xs.length : Int) xs.length .slice3B (by omega) (by omega)
    simp only [Int.toNat_natCast] at r1 r2
    cases a with
    | none => simp [Instr.slice, run_underlying Try.underlying24, Instr.sliceBounds, r1, r2, sizeOf, typeInfo, hi5]
    | some a => simp [Instr.slice, run_underlying Try.underlying24, Instr.sliceBounds, r1, r2, sizeOf, typeInfo, hi5, Addr.add]
  · obtain ⟨g, cur, rfl, hg, hc, hx⟩ := h3 (by omega)
    exact ⟨g, cur, rfl, hg, by omega, hx⟩
  · cases a <;> simp [blk]

theorem run_string {w : World} {v : Value} {xs : List UInt8} (h : Bytes w v xs) : (convert 24 9 v).run Try.prog w = .ok (.string ⟨xs.toArray⟩) w := by
  obtain ⟨a, cap, rfl, hl, hm, h3⟩ := h
  rw [run_convert_bytes_string w 24 9 5 a xs.length cap Try.underlying24 Try.underlying5 Try.underlying9]
  by_cases h0 : 0 < xs.length
  · obtain ⟨g, off, rfl, hx⟩ := h3 h0
    have hf : (loadCells ⟨g, off, none⟩ xs.length).run Try.prog w = .ok ((xs.map fun b => (b.toNat : Int)).map (Value.int .u8)).toArray w := by
      have := (src_bytes (P := Try.prog) (w := w) (u := .slice (some ⟨g, off, none⟩) xs.length cap) (ys := xs) ⟨_, cap, rfl, hl, hm, fun _ => ⟨g, off, rfl, hx⟩⟩).first w rfl
      simp only [Builtin.firstCells, Nat.mul_one] at this
      rw [this]
      simp [cellsOf, Function.comp_def]
    rw [run_bytesToString w ⟨g, off, none⟩ xs.length cap _ hf, foldl_push_bytes]
    simp only [List.map_map]
    have e : (ByteArray.empty.data ++ (List.map ((fun n : Int => UInt8.ofNat n.toNat) ∘ fun b : UInt8 => (b.toNat : Int)) xs).toArray) = xs.toArray := by
      show ((#[] : Array UInt8) ++ _) = _
      simp [Function.comp_def]
    rw [e]
  · have hx0 : xs = [] := List.eq_nil_of_length_eq_zero (by omega)
    subst hx0
    cases a with
    | none => simp [Conv.bytesToString]; rfl
    | some a => simp [Conv.bytesToString, loadCells, loadCellsFrom]; rfl
end Go.Proofs.Ytjpaljiielemgaa
