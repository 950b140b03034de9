/- A slice of bytes that is appended to: what it holds, and what an append leaves of the memory that was there. -/
import Derived.Test.YtjpaljiielemgaaBase
namespace Go.Proofs.Ytjpaljiielemgaa
open Go.RowKit

def cellsOf (xs : List UInt8) : List Value := xs.map fun b => .int .u8 (b.toNat : Int)

/-- The slice value v holds the bytes xs; where it has room, it begins at the head of a block that may be written. -/
def Buf (w : World) (v : Value) (xs : List UInt8) : Prop :=
  ∃ a cap, v = .slice a xs.length cap ∧ xs.length ≤ cap ∧ cap ≤ maxLen ∧
    (0 < cap → ∃ g cur, a = some ⟨g, 0, none⟩ ∧ w.heap[g]? = some (.cells cur 5 (0, 0)) ∧ cap ≤ cur.size ∧ ∀ j (h : j < xs.length), cur[j]? = some (.int .u8 (xs[j].toNat : Int)))

theorem Buf.bytes {w : World} {v : Value} {xs : List UInt8} (h : Buf w v xs) : Bytes w v xs := by
  obtain ⟨a, cap, rfl, h1, h2, h3⟩ := h
  refine ⟨a, cap, rfl, h1, h2, fun h0 => ?_⟩
  obtain ⟨g, cur, rfl, hg, hc, hx⟩ := h3 (by omega)
  refine ⟨g, 0, rfl, fun j hj => ?_⟩
  simp only [World.cell?, hg, Nat.zero_add]
  simpa using hx j hj

/-- The block that an append to v may write. -/
def blk : Value → Option Nat
  | .slice (some a) n c => if n < c then some a.block else none
  | _ => none

/-- From w to w' bytes were written behind v, which became v': of what was there nothing else has turned. -/
structure Wrote (w : World) (v : Value) (w' : World) (v' : Value) : Prop where
  os : w'.os = w.os
  tape : w'.tape = w.tape
  output : w'.output = w.output
  size : w.heap.size ≤ w'.heap.size
  other : ∀ k, k < w.heap.size → some k ≠ blk v → w'.heap[k]? = w.heap[k]?
  same : ∀ a n c cur, v = .slice (some a) n c → w.heap[a.block]? = some (.cells cur 5 (0, 0)) → ∃ cur', w'.heap[a.block]? = some (.cells cur' 5 (0, 0)) ∧ cur'.size = cur.size ∧ ∀ j, j < n → cur'[j]? = cur[j]?
  became : (∃ a n n' c, v = .slice a n c ∧ v' = .slice a n' c ∧ n ≤ n') ∨ (∃ g n' c', v' = .slice (some ⟨g, 0, none⟩) n' c' ∧ w.heap.size ≤ g)

theorem Wrote.trans {w w1 w2 : World} {v v1 v2 : Value} (h : Wrote w v w1 v1) (k : Wrote w1 v1 w2 v2) : Wrote w v w2 v2 := by
  have hb : ∀ j, j < w.heap.size → some j ≠ blk v → some j ≠ blk v1 := by
    intro j hj hne
    rcases h.became with ⟨a, n, n', c, rfl, rfl, hn⟩ | ⟨g, n', c', rfl, hg⟩
    · cases a with
      | none => simp [blk]
      | some a =>
        simp only [blk] at hne ⊢
        split
        · rw [if_pos (by omega)] at hne; exact hne
        · simp
    · simp only [blk]
      split
      · intro e; simp at e; omega
      · simp
  refine ⟨k.os.trans h.os, k.tape.trans h.tape, k.output.trans h.output, Nat.le_trans h.size k.size, ?_, ?_, ?_⟩
  · intro j hj hne
    rw [k.other j (Nat.lt_of_lt_of_le hj h.size) (hb j hj hne), h.other j hj hne]
  · intro a n c cur hv hcur
    obtain ⟨cur1, h1, h2, h3⟩ := h.same a n c cur hv hcur
    have hlt : a.block < w.heap.size := (Array.getElem?_eq_some_iff.1 hcur).1
    rcases h.became with ⟨a', n0, n', c0, hv0, hv1, hn⟩ | ⟨g, n', c', hv1, hg⟩
    · rw [hv] at hv0
      injection hv0 with e1 e2 e3
      subst e1 e2 e3
      obtain ⟨cur2, k1, k2, k3⟩ := k.same a n' c cur1 hv1 h1
      exact ⟨cur2, k1, k2.trans h2, fun j hj => (k3 j (by omega)).trans (h3 j hj)⟩
    · refine ⟨cur1, ?_, h2, h3⟩
      rw [k.other a.block (Nat.lt_of_lt_of_le hlt h.size) ?_]
      · exact h1
      · rw [hv1]; simp only [blk]; split
        · intro e; simp at e; omega
        · simp
  · rcases k.became with ⟨a, n, n', c, hv1, hv2, hn⟩ | ⟨g, n', c', hv2, hg⟩
    · rcases h.became with ⟨a0, n0, n0', c0, hv, hv1', hn0⟩ | ⟨g, n0', c', hv1', hg⟩
      · rw [hv1'] at hv1
        injection hv1 with e1 e2 e3
        subst e1 e2 e3
        exact .inl ⟨_, n0, n', _, hv, hv2, by omega⟩
      · rw [hv1'] at hv1
        injection hv1 with e1 e2 e3
        subst e1 e2 e3
        exact .inr ⟨g, n', _, hv2, hg⟩
    · exact .inr ⟨g, n', c', hv2, Nat.le_trans h.size hg⟩

/-- Where v's block is none of those below B, nothing below B has turned. -/
theorem Wrote.below {w w' : World} {v v' : Value} (h : Wrote w v w' v') {B : Nat} (hB : B ≤ w.heap.size) (hv : ∀ k, blk v = some k → B ≤ k) : Below B w w' ∧ ∀ k, blk v' = some k → B ≤ k := by
  refine ⟨⟨h.os, h.tape, h.output, h.size, fun k hk => h.other k (by omega) fun e => by have := hv k e.symm; omega⟩, ?_⟩
  intro k hk
  rcases h.became with ⟨a, n, n', c, rfl, rfl, hn⟩ | ⟨g, n', c', rfl, hg⟩
  · cases a with
    | none => simp [blk] at hk
    | some a =>
      simp only [blk] at hk hv
      split at hk
      · rw [if_pos (by omega)] at hv; exact hv k hk
      · cases hk
  · simp only [blk] at hk
    split at hk
    · simp at hk; omega
    · cases hk

theorem Wrote.bytes {w w' : World} {v v' : Value} {xs : List UInt8} (h : Wrote w v w' v') (hb : Buf w v xs) : Buf w' v xs := by
  obtain ⟨a, cap, rfl, h1, h2, h3⟩ := hb
  refine ⟨a, cap, rfl, h1, h2, fun h0 => ?_⟩
  obtain ⟨g, cur, rfl, hg, hc, hx⟩ := h3 h0
  obtain ⟨cur', k1, k2, k3⟩ := h.same ⟨g, 0, none⟩ _ _ cur rfl hg
  exact ⟨g, cur', rfl, k1, by omega, fun j hj => (k3 j hj).trans (hx j hj)⟩

/-- What is appended: how many bytes, and which, in every world with this memory. -/
structure Src (P : Program) (w : World) (u : Value) (ys : List UInt8) : Prop where
  len : ∀ W : World, W.heap = w.heap → (Builtin.lenOf u).run P W = .ok ys.length W
  first : ∀ W : World, W.heap = w.heap → (Builtin.firstCells 1 ys.length u).run P W = .ok (cellsOf ys).toArray W

theorem length_cellsOf (xs : List UInt8) : (cellsOf xs).length = xs.length := by simp [cellsOf]
theorem getElem?_cellsOf (xs : List UInt8) (j : Nat) : (cellsOf xs)[j]? = (xs[j]?).map fun b => .int .u8 (b.toNat : Int) := by simp [cellsOf]
theorem oneCell_cellsOf (xs : List UInt8) : ∀ v ∈ cellsOf xs, v.oneCell' = true := by
  intro v hv; simp only [cellsOf, List.mem_map] at hv; obtain ⟨b, _, rfl⟩ := hv; rfl

theorem src_bytes {P : Program} {w : World} {u : Value} {ys : List UInt8} (h : Bytes w u ys) : Src P w u ys := by
  obtain ⟨a, cap, rfl, h1, h2, h3⟩ := h
  refine ⟨fun W _ => by simp [Builtin.lenOf], fun W hW => ?_⟩
  by_cases h0 : 0 < ys.length
  · obtain ⟨g, off, rfl, hc⟩ := h3 h0
    refine run_firstCells_some W 1 ys.length ⟨g, off, none⟩ _ _ (cellsOf ys) (by simp [length_cellsOf]) ?_
    intro j v hj
    rw [getElem?_cellsOf] at hj
    have hlt : j < ys.length := by
      rcases Nat.lt_or_ge j ys.length with h | h
      · exact h
      · rw [List.getElem?_eq_none h] at hj; cases hj
    rw [List.getElem?_eq_getElem hlt] at hj
    simp only [Option.map_some, Option.some.injEq] at hj
    subst hj
    have hadd : (⟨g, off, none⟩ : Addr).add j = ⟨g, off + j, none⟩ := by unfold Addr.add; split <;> simp_all
    rw [hadd, ← hc j hlt]
    simp [World.cell?, hW]
  · have hy : ys = [] := List.eq_nil_of_length_eq_zero (by omega)
    subst hy
    cases a with
    | none => simp [Builtin.firstCells, cellsOf]
    | some a => exact run_firstCells_some W 1 0 a _ _ [] rfl (by simp)

theorem src_string {P : Program} {w : World} (s : ByteArray) : Src P w (.string s) s.data.toList := by
  have hs : s.data.toList.length = s.size := by simp
  refine ⟨fun W _ => by simp [Builtin.lenOf], fun W _ => ?_⟩
  simp only [Builtin.firstCells, hs, Sem.run_pure]
  congr 1
  have hx : (s.extract 0 s.size).data = s.data := by rw [ByteArray.data_extract, show s.size = s.data.size from rfl, Array.extract_size]
  rw [hx]
  apply Array.ext'
  simp [cellsOf]

theorem World.heap_old (w : World) (o : Obj) (k : Nat) (h : k < w.heap.size) : (w.drew.alloc o).heap[k]? = w.heap[k]? := by
  show (w.heap.push o)[k]? = _
  rw [Array.getElem?_push_lt h, Array.getElem?_eq_getElem h]

theorem grown_same (w : World) (xs ys : List Value) (z : Array Value) : w.alloc (.cells (xs.toArray ++ (ys.toArray ++ z)) 5) = w.alloc (.cells ((xs ++ ys).toArray ++ z) 5) := by
  congr 2
  apply Array.ext'
  simp [List.append_assoc]

theorem hold_get {cur : Array Value} {xs ys : List UInt8} {cap : Nat} (hcs : cap ≤ cur.size) (h1 : xs.length ≤ cap) (hx : ∀ j (h : j < xs.length), cur[j]? = some (.int .u8 (xs[j].toNat : Int)))
    (_hroom : xs.length + ys.length ≤ cap) (j : Nat) (hj : j < (xs ++ ys).length) :
    ((cur.toList.take xs.length ++ cellsOf ys ++ cur.toList.drop (xs.length + ys.length)).toArray)[j]? = some (.int .u8 ((xs ++ ys)[j].toNat : Int)) := by
  simp only [List.getElem?_toArray, List.append_assoc]
  by_cases h : j < xs.length
  · rw [List.getElem?_append_left (by simp; omega), List.getElem?_take, if_pos h]
    have := hx j h
    simp only [Array.getElem?_toList]
    rw [this, List.getElem_append_left h]
  · rw [List.getElem?_append_right (by simp; omega)]
    have e : (cur.toList.take xs.length).length = xs.length := by simp; omega
    rw [e, List.getElem?_append_left (by rw [length_cellsOf]; simp at hj; omega), getElem?_cellsOf, List.getElem?_eq_getElem (by simp at hj; omega), List.getElem_append_right (by omega)]
    rfl

section
variable {P : Program} (w : World)

theorem run_append_buf (t u ty : TypeId) (i : TypeInfo) (ht : P.underlying t = some (.slice 5)) (hu : P.underlying u = some (.slice 5) ∨ P.underlying u = some .string) (hi : P.info? 5 = some i)
    (hz : i.zero = some (.int .u8 0)) (hsize : i.size = 1) (hby : i.bytes = 1)
    (v x : Value) (xs ys : List UInt8) (hb : Buf w v xs) (hs : Src P w x ys) (hlen : xs.length + ys.length ≤ 70368744177664) :
    ∃ v' w', (Builtin.append_ #[t, u] ty #[v, x]).run P w = .ok v' w' ∧ Buf w' v' (xs ++ ys) ∧ Wrote w v w' v' := by
  have hb0 := hb
  obtain ⟨a, cap, rfl, h1, h2, h3⟩ := hb
  have hlen1 := hs.len w rfl
  have hfst := hs.first w rfl
  by_cases hroom : xs.length + ys.length ≤ cap
  · by_cases hc0 : 0 < cap
    · obtain ⟨g, cur, rfl, hg, hcs, hx⟩ := h3 hc0
      have hst := run_storeCells_at P g xs.length 5 (cellsOf ys) 0 cur w hg (by rw [length_cellsOf]; omega) (oneCell_cellsOf ys)
      simp only [Nat.add_zero, length_cellsOf] at hst
      refine ⟨.slice (some ⟨g, 0, none⟩) (xs.length + ys.length) cap, w.setRow g (cur.toList.take xs.length ++ cellsOf ys ++ cur.toList.drop (xs.length + ys.length)).toArray, ?_, ?_, ?_⟩
      · rcases hu with hu | hu
        · simp [Builtin.append_, run_underlying ht, run_underlying hu, sizeOf, typeInfo, hi, hsize, hlen1, hroom, hfst, Addr.add_lit, hst]
        · simp [Builtin.append_, run_underlying ht, run_underlying hu, sizeOf, typeInfo, hi, hsize, hlen1, hroom, hfst, Addr.add_lit, hst]
      · refine ⟨_, cap, by simp, by simpa using hroom, h2, fun _ => ⟨g, _, rfl, setRow_heap w g cur _ 5 _ hg, ?_, ?_⟩⟩
        · simp [length_cellsOf]; omega
        · intro j hj
          have hget := hold_get hcs h1 hx hroom j hj
          simpa using hget
      · refine ⟨rfl, rfl, rfl, by simp, ?_, ?_, .inl ⟨some ⟨g, 0, none⟩, xs.length, xs.length + ys.length, cap, rfl, rfl, by omega⟩⟩
        · intro k hk hne
          by_cases hkg : k = g
          · subst hkg
            have hfull : ¬ xs.length < cap := by
              intro hlt; apply hne; simp [blk, hlt]
            have hy : ys = [] := List.eq_nil_of_length_eq_zero (by omega)
            subst hy
            have hcur : (cur.toList.take xs.length ++ cellsOf [] ++ cur.toList.drop (xs.length + ([] : List UInt8).length)).toArray = cur := by
              apply Array.ext'
              simp [cellsOf]
            rw [hcur, setRow_self w k cur 5 _ hg]
          · exact setRow_other w g k _ hkg
        · intro a n c cur0 hv hcur
          injection hv with e1 e2 e3
          injection e1 with e1
          subst e1 e2 e3
          simp only at hcur ⊢
          rw [hg] at hcur
          injection hcur with hcur
          injection hcur with hcur
          subst hcur
          refine ⟨_, setRow_heap w g cur _ 5 _ hg, ?_, ?_⟩
          · simp [length_cellsOf]; omega
          · intro j hj
            simp only [List.getElem?_toArray, List.append_assoc]
            rw [List.getElem?_append_left (by simp; omega), List.getElem?_take, if_pos hj]
            simp
    · have hc : cap = 0 := by omega
      subst hc
      have hx0 : xs = [] := List.eq_nil_of_length_eq_zero (by omega)
      have hy0 : ys = [] := List.eq_nil_of_length_eq_zero (by omega)
      subst hx0 hy0
      refine ⟨.slice a 0 0, w, ?_, by simpa using hb0, ⟨rfl, rfl, rfl, Nat.le_refl _, fun _ _ _ => rfl, fun _ _ _ cur _ hc => ⟨cur, hc, rfl, fun _ _ => rfl⟩, .inl ⟨a, 0, 0, 0, rfl, rfl, Nat.le_refl _⟩⟩⟩
      simp only [List.length_nil] at hlen1 hfst
      have hfst' : Sem.run P (Builtin.firstCells 1 0 x) w = Result.ok #[] w := hfst
      cases a with
      | none => rcases hu with hu | hu <;> simp [Builtin.append_, run_underlying ht, run_underlying hu, sizeOf, typeInfo, hi, hsize, hlen1, hfst']
      | some a => rcases hu with hu | hu <;> simp [Builtin.append_, run_underlying ht, run_underlying hu, sizeOf, typeInfo, hi, hsize, hlen1, hfst', storeCells]
  · have hfit : Builtin.nextslicecap (xs.length + ys.length) cap * 1 ≤ 281474976710656 := growslice_fits (by omega) (by omega)
    have h48 : ¬ (281474976710656 < Builtin.nextslicecap (xs.length + ys.length) cap) := by omega
    have hold := (src_bytes (P := P) hb0.bytes).first w.drew rfl
    have hfst := hs.first w.drew rfl
    refine ⟨.slice (some ⟨w.heap.size, 0, none⟩) (xs.length + ys.length) (grownCap w (xs.length + ys.length) cap 5), w.drew.alloc (.cells ((cellsOf xs).toArray ++ (cellsOf ys).toArray ++ Builtin.zeroCells (Value.int .u8 0).cells (grownCap w (xs.length + ys.length) cap 5 - (xs.length + ys.length))) 5), ?_, ?_, ?_⟩
    · rcases hu with hu | hu
      · simp [Builtin.append_, run_underlying ht, run_underlying hu, sizeOf, typeInfo, zeroValue, hi, hz, hsize, hby, hlen1, hroom, h48, Question.forced, hold, hfst, newRow, grownCap]
        exact grown_same _ _ _ _
      · simp [Builtin.append_, run_underlying ht, run_underlying hu, sizeOf, typeInfo, zeroValue, hi, hz, hsize, hby, hlen1, hroom, h48, Question.forced, hold, hfst, newRow, grownCap]
        exact grown_same _ _ _ _
    · refine ⟨_, grownCap w (xs.length + ys.length) cap 5, by simp, by simpa using grownCap_ge _ _ _ _, grownCap_le_maxLen _ _ _ _ (by unfold maxLen; omega), fun _ => ⟨w.heap.size, _, rfl, heap_alloc_new w.drew _, ?_, ?_⟩⟩
      · have := grownCap_ge w (xs.length + ys.length) cap 5
        simp [length_cellsOf, size_zeroCells, Value.cells]; omega
      · intro j hj
        rw [Array.getElem?_append_left (by simpa [length_cellsOf] using hj)]
        simp only [List.append_toArray, List.getElem?_toArray]
        have e : cellsOf xs ++ cellsOf ys = cellsOf (xs ++ ys) := by simp [cellsOf]
        rw [e, getElem?_cellsOf, List.getElem?_eq_getElem hj]; rfl
    · exact ⟨rfl, rfl, rfl, by simp, fun k hk _ => World.heap_old w _ k hk, fun a n c cur hv hcur => ⟨cur, (World.heap_old w _ _ (Array.getElem?_eq_some_iff.1 hcur).1).trans hcur, rfl, fun _ _ => rfl⟩, .inr ⟨w.heap.size, _, _, rfl, Nat.le_refl _⟩⟩
end

theorem Buf.alloc {w : World} {v : Value} {xs : List UInt8} (h : Buf w v xs) (o : Obj) : Buf (w.alloc o) v xs := by
  obtain ⟨a, cap, rfl, h1, h2, h3⟩ := h
  refine ⟨a, cap, rfl, h1, h2, fun h0 => ?_⟩
  obtain ⟨g, cur, rfl, hg, hc, hx⟩ := h3 h0
  exact ⟨g, cur, rfl, (heap_alloc_old w o (Array.getElem?_eq_some_iff.1 hg).1).trans hg, hc, hx⟩

theorem Buf.nil (w : World) : Buf w (.slice none 0 0) [] := ⟨none, 0, rfl, Nat.le_refl _, by unfold maxLen; omega, fun h => absurd h (by omega)⟩

theorem Wrote.refl (w : World) (v : Value) (h : ∃ a n c, v = .slice a n c) : Wrote w v w v := by
  obtain ⟨a, n, c, rfl⟩ := h
  exact ⟨rfl, rfl, rfl, Nat.le_refl _, fun _ _ _ => rfl, fun _ _ _ cur _ hc => ⟨cur, hc, rfl, fun _ _ => rfl⟩, .inl ⟨a, n, n, c, rfl, rfl, Nat.le_refl _⟩⟩

theorem Wrote.alloc (w : World) (v : Value) (o : Obj) (h : ∃ a n c, v = .slice a n c) : Wrote w v (w.alloc o) v := by
  obtain ⟨a, n, c, rfl⟩ := h
  refine ⟨rfl, rfl, rfl, by simp, fun k hk _ => heap_alloc_old w o hk, fun a' n' c' cur _ hc => ⟨cur, (heap_alloc_old w o (Array.getElem?_eq_some_iff.1 hc).1).trans hc, rfl, fun _ _ => rfl⟩, .inl ⟨a, n, n, c, rfl, rfl, Nat.le_refl _⟩⟩

theorem Buf.slice {w : World} {v : Value} {xs : List UInt8} (h : Buf w v xs) : ∃ a n c, v = .slice a n c := by
  obtain ⟨a, cap, rfl, _⟩ := h; exact ⟨_, _, _, rfl⟩

/-- Behind one new block that the source lies in. -/
theorem src_one {P : Program} (w : World) (b : UInt8) : Src P (w.alloc (.cells #[.int .u8 (b.toNat : Int)] 5)) (.slice (some ⟨w.heap.size, 0, none⟩) 1 1) [b] := by
  refine src_bytes ⟨some ⟨w.heap.size, 0, none⟩, 1, rfl, by simp, by unfold maxLen; omega, fun _ => ⟨w.heap.size, 0, rfl, fun j hj => ?_⟩⟩
  have h0 : j = 0 := by simp at hj; omega
  subst h0
  simp

theorem Try.info5 : (Try.prog.info? 5).map (fun i => (i.zero, i.size, i.bytes)) = some (some (.int .u8 0), 1, 1) := by kernel_rfl

section
variable {ops : Array Oper} {rest : List Oper} {o : Oper} {a : Act} {Q : Exit → Act → World → Prop} {w : World}

theorem wpList_app (hgd : o.guard = none) (s x : Operand) (u : TypeId) (ho : o.op = .call { callee := .builtin .append, args := #[s, x], argTypes := #[24, u] })
    (hu : Try.prog.underlying u = some (.slice 5) ∨ Try.prog.underlying u = some .string)
    (v y : Value) (xs ys : List UInt8) (hs : a.eval s = v) (hx : a.eval x = y) (hb : Buf w v xs) (hsrc : Src Try.prog w y ys) (hlen : xs.length + ys.length ≤ 70368744177664)
    (h : ∀ v' w', Buf w' v' (xs ++ ys) → Wrote w v w' v' → wpList Try.prog ops Q rest (a.put o.dst v') w') : wpList Try.prog ops Q (o :: rest) a w := by
  obtain ⟨i, hi, hz0, hz1, hz2⟩ := info_parts Try.info5
  obtain ⟨v', w', hr, h1, h2⟩ := run_append_buf (P := Try.prog) w 24 u o.type i Try.underlying24 hu hi hz0 hz1 hz2 v y xs ys hb hsrc hlen
  refine wpList_plain hgd fun K hK => ?_
  unfold Oper.wp execOp
  simp only [ho, resolve, invoke, builtin, Sem.run_bind, Sem.run_pure, Result.andThen_ok, List.map_toArray, List.map_cons, List.map_nil, hs, hx, hr]
  exact hK _ _ (h v' w' h1 h2)

/-- 'append(s, b)': the byte lies in a block of its own. -/
theorem wpList_app1 (hgd : o.guard = none) (s x : Operand) (ho : o.op = .call { callee := .builtin .append, args := #[s, x], argTypes := #[24, 24] })
    (v : Value) (xs : List UInt8) (b : UInt8) (n : Int) (hn : n = (b.toNat : Int)) (hs : a.eval s = v) (hx : a.eval x = .slice (some ⟨w.heap.size, 0, none⟩) 1 1) (hb : Buf w v xs) (hlen : xs.length + 1 ≤ 70368744177664)
    (h : ∀ v' w', Buf w' v' (xs ++ [b]) → Wrote w v w' v' → wpList Try.prog ops Q rest (a.put o.dst v') w') : wpList Try.prog ops Q (o :: rest) a (w.alloc (.cells #[.int .u8 n] 5)) := by
  subst hn
  exact wpList_app hgd s x 24 ho (.inl Try.underlying24) v _ xs [b] hs hx (hb.alloc _) (src_one w b) hlen fun v' w' h1 h2 => h v' w' h1 ((Wrote.alloc w v _ hb.slice).trans h2)
end
end Go.Proofs.Ytjpaljiielemgaa
