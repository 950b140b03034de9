/- 'entry.PutOp', 'entry.Size'. -/
import Derived.Test.YtjpaljiielemgaaEntPure
import Derived.Test.YtjpaljiielemgaaWPuts
namespace Go.Proofs.Ytjpaljiielemgaa
open Go.RowKit

/-- A block of another type is kept by an append. -/
theorem Whole.wrote {w w' : World} {g : Nat} {t : TypeId} {cs : Array Value} {v v' : Value} {xs : List UInt8} (h : Whole w g t cs) (hb : Buf w v xs) (hw : Wrote w v w' v') (ht : t ≠ 5) : Whole w' g t cs := by
  refine (hw.other g h.lt fun e => ?_).trans h
  obtain ⟨a, cap, rfl, h1, h2, h3⟩ := hb
  cases a with
  | none => simp [blk] at e
  | some a =>
    simp only [blk] at e
    split at e
    · rename_i hlt
      obtain ⟨g', cur, ha, hg, hc, hx⟩ := h3 (by omega)
      injection ha with ha
      subst ha
      injection e with e
      subst e
      unfold Whole at h
      rw [hg] at h
      injection h with h
      injection h with _ h
      exact ht h.symm
    · cases e

def txts (L : List ByteArray) : List UInt8 := (L.map fun s => txt s.data.toList).flatten
theorem txts_take (L : List ByteArray) (k : Nat) (h : k < L.length) : txts (L.take (k + 1)) = txts (L.take k) ++ txt L[k].data.toList := by
  unfold txts
  rw [List.take_succ_eq_append_getElem h, List.map_append, List.flatten_append]; simp
theorem txts_len (L : List ByteArray) (h : ∀ s ∈ L, s.size ≤ 65536) : (txts L).length ≤ L.length * 65546 := by
  induction L with
  | nil => simp [txts]
  | cons s L ih =>
    have h1 := txt_len s.data.toList (by have := h s (by simp); show s.size ≤ _; omega)
    have h2 : s.data.toList.length = s.size := by simp
    have h3 := h s (by simp)
    have h4 := ih (fun x hx => h x (by simp [hx]))
    have e : txts (s :: L) = txt s.data.toList ++ txts L := by simp [txts]
    rw [e, List.length_append, List.length_cons]
    omega

set_option maxRecDepth 100000 in
set_option maxHeartbeats 1000000 in
theorem putOp_core (w : World) (v : Value) (xs : List UInt8) (k : Int) (a b c : ByteArray) (t : Bool) (hb : Buf w v xs) (hl : xs.length ≤ 1000000)
    (hk : -9223372036854775808 ≤ k ∧ k ≤ 9223372036854775807) (ha : a.size ≤ 65536) (hb' : b.size ≤ 65536) (hc : c.size ≤ 65536) :
    Calls Try.prog 47 #[v, .agg #[.int .i64 k, .string a, .string b, .string c, .bool t]] w (Puts w v (xs ++ opB k a b c t)) := by
  have s0 := Whole.new w 52 #[.int .i64 k, .string a, .string b, .string c, .bool t]
  have hb0 := hb.alloc (.cells #[.int .i64 k, .string a, .string b, .string c, .bool t] 52)
  have w0 := Wrote.alloc w v (.cells #[.int .i64 k, .string a, .string b, .string c, .bool t] 52) hb.slice
  replace s0 := Lib.hid s0; replace hb0 := Lib.hid hb0; replace w0 := Lib.hid w0
  go_enter Try.func47, Try.ntmps47
  go_wp2_with fail
  refine (int_core _ v xs k hk.1 hk.2 hb0.out (by omega)).mono ?_
  rintro e w1 ⟨v1, rfl, hb1, hw1⟩
  have s1 := s0.out.wrote hb0.out hw1 (by decide)
  have e1 := s1.cell 1
  have e2 := s1.cell 2
  have e3 := s1.cell 3
  simp only [List.getElem?_toArray, List.getElem?_cons_succ, List.getElem?_cons_zero] at e1 e2 e3
  have w1' := w0.out.trans hw1
  replace s1 := Lib.hid s1; replace hb1 := Lib.hid hb1; replace w1' := Lib.hid w1'
  clear hw1
  go_wp2
  have g1 := Whole.new w1 9 #[.string a, .string b, .string c]
  replace g1 := Lib.hid g1
  go_loopw [0, 19] (fun v' i wr => ∃ (j : Nat), j ≤ 3 ∧ i = .int .i64 j ∧ Buf wr v' (xs ++ Pure.enc k ++ txts ([a, b, c].take j)) ∧ Wrote w v wr v' ∧ Whole wr w.heap.size 52 #[.int .i64 k, .string a, .string b, .string c, .bool t] ∧ Whole wr w1.heap.size 9 #[.string a, .string b, .string c]) (fun _ i _ => 3 - (intOf i).toNat)
  case atStart => exact ⟨0, by omega, rfl, by simpa [txts] using hb1.out.alloc _, w1'.out.trans (Wrote.alloc _ _ _ hb1.out.slice), s1.out.alloc _, g1.out⟩
  case round =>
    obtain ⟨j, hj, rfl, hbr, hwr, hs, hg⟩ := hrel
    by_cases hlt : j < 3
    · have hjl : j < [a, b, c].length := hlt
      have hcell : wr.cell? ⟨w1.heap.size, j, none⟩ = some (.string [a, b, c][j]) := by
        rw [hg.cell]
        rcases j with _ | _ | _ | j <;> first | omega | rfl
      have hsz : [a, b, c][j].size ≤ 65536 := by
        rcases j with _ | _ | _ | j <;> first | omega | assumption
      have hlen : (xs ++ Pure.enc k ++ txts ([a, b, c].take j)).length ≤ 1099511627776 := by
        have h1 := Pure.enc_len k hk.1 hk.2
        have h2 := txts_len ([a, b, c].take j) (by intro s hs; have := List.mem_of_mem_take hs; simp at this; rcases this with rfl | rfl | rfl <;> assumption)
        rw [List.length_take] at h2
        simp only [List.length_append]
        have : min j [a, b, c].length ≤ 3 := Nat.le_trans (Nat.min_le_right _ _) (by simp)
        omega
      replace hsz := Lib.hid hsz; replace hlen := Lib.hid hlen
      replace hbr := Lib.hid hbr; replace hwr := Lib.hid hwr; replace hs := Lib.hid hs; replace hg := Lib.hid hg
      generalize hq : [a, b, c][j] = q at *
      replace hq := Lib.hid hq
      go_wp2_with fail
      refine (text_core _ _ _ q (by have := hsz.out; omega) hbr.out hlen.out).mono ?_
      rintro e w2 ⟨v2, rfl, hb2, hw2⟩
      have hb2 := Lib.hid hb2
      have hw2 := Lib.hid hw2
      go_wp2
      go_roundw
      case rel =>
        refine ⟨j + 1, by omega, by go_num, ?_, hwr.out.trans hw2.out, hs.out.wrote hbr.out hw2.out (by decide), hg.out.wrote hbr.out hw2.out (by decide)⟩
        rw [txts_take _ _ hjl, hq.out, ← List.append_assoc]
        exact hb2.out
      case measure => simp [intOf]; omega
    · have ej : j = 3 := by omega
      subst ej
      have e4 := hs.cell 4
      simp only [List.getElem?_toArray, List.getElem?_cons_succ, List.getElem?_cons_zero] at e4
      have hlen : (xs ++ Pure.enc k ++ txts ([a, b, c].take 3)).length ≤ 1099511627776 := by
        have h1 := Pure.enc_len k hk.1 hk.2
        have h2 := txts_len [a, b, c] (by intro s hs; simp at hs; rcases hs with rfl | rfl | rfl <;> assumption)
        simp only [List.length_append, List.take_succ_cons, List.take_zero, List.length_cons, List.length_nil] at h2 ⊢
        omega
      replace hlen := Lib.hid hlen
      replace hbr := Lib.hid hbr; replace hwr := Lib.hid hwr; replace hs := Lib.hid hs; replace hg := Lib.hid hg
      go_wp2_with fail
      refine (bool_core _ _ _ t hbr.out hlen.out).mono ?_
      rintro e w2 ⟨v2, rfl, hb2, hw2⟩
      replace hb2 := Lib.hid hb2
      replace hw2 := Lib.hid hw2
      go_wp2
      go_ret
      refine ⟨_, rfl, ?_, hwr.out.trans hw2.out⟩
      have := hb2.out
      simpa [opB, txts, List.append_assoc] using this

set_option maxRecDepth 100000 in
set_option maxHeartbeats 400000 in
theorem size_core (w : World) (x y : Nat) (k : Int) (a b : ByteArray) (s t : Bool) (l m n : Int) (c : ByteArray) (u : Bool) (ha : a.size ≤ 65536) (hb : b.size ≤ 65536) :
    Calls Try.prog 48 #[.agg #[verV x y, .int .i64 k, .string a, .string b, .bool s, .bool t, .int .i64 l, .int .i64 m, .int .i64 n, .string c, .bool u]] w fun e w' => e = .returned (.int .i64 (a.size + b.size + 1 : Nat)) ∧ Below w.heap.size w w' := by
  go_enter Try.func48, Try.ntmps48
  go_wp2
  go_ret
  refine ⟨?_, (Below.refl _ _).alloc (Nat.le_refl _) _⟩
  simp
end Go.Proofs.Ytjpaljiielemgaa
