/- The reader of entries: blocks that are known whole, two of which turn; 'step'. -/
import Derived.Test.YtjpaljiielemgaaGets
import Derived.Test.YtjpaljiielemgaaOrd
namespace Go.Proofs.Ytjpaljiielemgaa
open Go.RowKit

/-- Block g is these cells, of which none is frozen. -/
def Whole (w : World) (g : Nat) (t : TypeId) (cs : Array Value) : Prop := w.heap[g]? = some (.cells cs t (0, 0))

/-- All but the blocks p and q is as it was. -/
structure Two (p q : Nat) (w w' : World) : Prop where
  os : w'.os = w.os
  tape : w'.tape = w.tape
  output : w'.output = w.output
  size : w'.heap.size = w.heap.size
  block : ∀ k, k ≠ p → k ≠ q → w'.heap[k]? = w.heap[k]?

section
variable {w w' w'' : World} {g p q : Nat} {t : TypeId} {cs : Array Value}
theorem Whole.lt (h : Whole w g t cs) : g < w.heap.size := by
  unfold Whole at h
  by_cases hl : g < w.heap.size
  · exact hl
  · rw [Array.getElem?_eq_none (by omega)] at h; cases h
theorem Whole.cell (h : Whole w g t cs) (i : Nat) : w.cell? ⟨g, i, none⟩ = cs[i]? := by unfold Whole at h; simp [World.cell?, h]
theorem Whole.free (h : Whole w g t cs) (i : Nat) : w.frozen? ⟨g, i, none⟩ = false := by unfold Whole at h; simp [World.frozen?, h]
theorem Whole.put (h : Whole w g t cs) (i : Nat) (u : Value) : Whole (w.setCell ⟨g, i, none⟩ u) g t (cs.setIfInBounds i u) := by
  unfold Whole at h ⊢; simp [World.setCell, Array.getElem?_modify, h]
theorem Whole.far (h : Whole w g t cs) {a : Addr} (ha : g ≠ a.block) (u : Value) : Whole (w.setCell a u) g t cs := (Below.heap_setCell w a u g ha).trans h
theorem Whole.two (h : Whole w g t cs) (k : Two p q w w') (hp : g ≠ p) (hq : g ≠ q) : Whole w' g t cs := (k.block g hp hq).trans h
theorem Whole.below {B : Nat} (h : Whole w g t cs) (k : Below B w w') (hg : g < B) : Whole w' g t cs := (k.block g hg).trans h
theorem Whole.alloc (h : Whole w g t cs) (o : Obj) : Whole (w.alloc o) g t cs := (Below.heap_alloc w o g h.lt).trans h

theorem Two.refl (p q : Nat) (w : World) : Two p q w w := ⟨rfl, rfl, rfl, rfl, fun _ _ _ => rfl⟩
theorem Two.trans (h : Two p q w w') (k : Two p q w' w'') : Two p q w w'' :=
  ⟨k.os.trans h.os, k.tape.trans h.tape, k.output.trans h.output, k.size.trans h.size, fun i a b => (k.block i a b).trans (h.block i a b)⟩
theorem Two.drew (h : Two p q w w') : Two p q w w'.drew := ⟨h.os, h.tape, h.output, h.size, h.block⟩
theorem Two.undrew (h : Two p q w.drew w') : Two p q w w' := ⟨h.os, h.tape, h.output, h.size, h.block⟩
theorem Two.setL (h : Two p q w w') (i : Nat) (u : Value) : Two p q w (w'.setCell ⟨p, i, none⟩ u) :=
  h.trans ⟨rfl, rfl, rfl, by simp [World.setCell], fun k a _ => Below.heap_setCell _ _ _ _ a⟩
theorem Two.setR (h : Two p q w w') (i : Nat) (u : Value) : Two p q w (w'.setCell ⟨q, i, none⟩ u) :=
  h.trans ⟨rfl, rfl, rfl, by simp [World.setCell], fun k _ b => Below.heap_setCell _ _ _ _ b⟩
theorem Two.below {B : Nat} (h : Two p q w w') (hp : B ≤ p) (hq : B ≤ q) : Below B w w' :=
  ⟨h.os, h.tape, h.output, by rw [h.size]; exact Nat.le_refl _, fun k hk => h.block k (by omega) (by omega)⟩
theorem Two.cell (h : Two p q w w') {a : Addr} (hp : a.block ≠ p) (hq : a.block ≠ q) : w'.cell? a = w.cell? a := World.cell?_of_block (w := w) (h.block a.block hp hq)
end

/-- No cell of the slice lies in block g. -/
def Apart (v : Value) (g : Nat) : Prop := ∀ a n c, v = .slice (some a) n c → 0 < n → a.block ≠ g

theorem Bytes.two {w w' : World} {p q : Nat} {v : Value} {xs : List UInt8} (h : Bytes w v xs) (k : Two p q w w') (hp : Apart v p) (hq : Apart v q) : Bytes w' v xs := by
  obtain ⟨a, cap, rfl, h1, h2, h3⟩ := h
  refine ⟨a, cap, rfl, h1, h2, fun h0 => ?_⟩
  obtain ⟨g, off, rfl, hc⟩ := h3 h0
  refine ⟨g, off, rfl, fun j hj => ?_⟩
  rw [k.cell (a := ⟨g, off + j, none⟩) (hp ⟨g, off, none⟩ _ _ rfl h0) (hq ⟨g, off, none⟩ _ _ rfl h0)]
  exact hc j hj

theorem Bytes.apart {w : World} {v : Value} {xs : List UInt8} {g : Nat} (h : Bytes w v xs) (hg : w.heap.size ≤ g) : Apart v g := by
  obtain ⟨a0, cap, rfl, h1, h2, h3⟩ := h
  intro a n c he h0
  injection he with e1 e2 e3
  subst e1 e2
  obtain ⟨b, off, e, hc⟩ := h3 h0
  injection e with e
  subst e
  have := World.block_lt_of_cell? w _ (hc 0 h0)
  simp only at this ⊢
  omega

/-- The reader's block. -/
abbrev Rd (w : World) (gr : Nat) (v : Value) (at0 : Nat) (bad : Bool) : Prop := Whole w gr 85 #[v, .int .i64 at0, .bool bad]

set_option maxRecDepth 100000 in
set_option maxHeartbeats 400000 in
theorem step_yes {w : World} {gr : Nat} {v : Value} {at0 : Nat} (n : Int) (hr : Rd w gr v at0 false) :
    Calls Try.prog 76 #[.pointer (some ⟨gr, 0, none⟩), .int .i64 n, .bool true] w fun e w' => e = .returned (.bool true) ∧ w.setCell ⟨gr, 1, none⟩ (.int .i64 n) = w' := by
  have h1 := hr.cell 1
  have h2 := hr.cell 2
  have f1 := hr.free 1
  simp only [List.getElem?_toArray, List.getElem?_cons_succ, List.getElem?_cons_zero] at h1 h2
  clear hr
  go_enter Try.func76, Try.ntmps76
  go_wp2
  go_ret
  exact ⟨rfl, rfl⟩

set_option maxRecDepth 100000 in
set_option maxHeartbeats 400000 in
theorem step_no {w : World} {gr : Nat} {v : Value} {at0 : Nat} {bad : Bool} (n : Int) (hr : Rd w gr v at0 bad) :
    Calls Try.prog 76 #[.pointer (some ⟨gr, 0, none⟩), .int .i64 n, .bool false] w fun e w' => e = .returned (.bool false) ∧ w.setCell ⟨gr, 2, none⟩ (.bool true) = w' := by
  have h1 := hr.cell 1
  have h2 := hr.cell 2
  have f1 := hr.free 2
  simp only [List.getElem?_toArray, List.getElem?_cons_succ, List.getElem?_cons_zero] at h1 h2
  clear hr
  go_enter Try.func76, Try.ntmps76
  go_wp2
  go_ret
  exact ⟨rfl, rfl⟩
end Go.Proofs.Ytjpaljiielemgaa
