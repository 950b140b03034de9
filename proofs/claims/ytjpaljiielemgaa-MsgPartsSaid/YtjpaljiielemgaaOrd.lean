/- A region that draws its order, walked in one order: what only reads, and reads the same in every world that meets S, is taken when its turn comes; of all else just one may come up at a time. -/
import Derived.Test.YtjpaljiielemgaaBase
import Derived.OrdersHeld
namespace Go.Proofs.Ytjpaljiielemgaa
open Go.RowKit

theorem below_undrew {B : Nat} {w w' : World} (h : Below B w.drew w') : Below B w w' := ⟨h.os, h.tape, h.output, h.size, h.block⟩

/-- May the region be walked in this order? (true: the operation is taken; false: it is the only one that may come up.) -/
def chk (ops : Array Oper) : List (Bool × Nat) → Array Bool → Bool
  | [], listed => (Region.ready .any ops listed).isEmpty
  | (true, i) :: r, listed => Region.free .any ops listed i && (Region.ready .any ops listed).contains i && chk ops r (listed.setIfInBounds i true)
  | (false, i) :: r, listed => decide (Region.ready .any ops listed = [i]) && chk ops r (listed.setIfInBounds i true)

def chkAll (ops : Array Oper) (ord : List (Bool × Nat)) : Bool := Region.noSelect ops && decide (ord.length = ops.size) && chk ops ord (Array.replicate ops.size false)

/-- What is left to be walked. -/
def Chain (P : Program) (ops : Array Oper) (Q : Exit → Act → World → Prop) (S : World → Prop) : List (Bool × Nat) → Act → World → Prop
  | [], a, w => Q .normal a w
  | (true, i) :: r, a, w => ∃ o v, ops[i]? = some o ∧ YieldsIf P ops S o v a ∧ Chain P ops Q S r (a.put o.dst v) w
  | (false, i) :: r, a, w => wpOp P ops Q i (fun a' w' => S w' ∧ Chain P ops Q S r a' w') a w

section
variable {P : Program} {ops : Array Oper} {Q : Exit → Act → World → Prop} {S : World → Prop}

theorem chain_held (hns : Region.noSelect ops = true) (hQ : ∀ c a d v w, Q (.panic c) (Act.put a d v) w → Q (.panic c) a w) : ∀ (ord : List (Bool × Nat)) (listed : Array Bool) (a : Act) (w : World),
    chk ops ord listed = true → S w → Chain P ops Q S ord a w → wpAnyH P .any ops Q S ord.length listed a w
  | [], listed, a, w, hc, hS, h => ⟨by simpa [chk] using hc, h⟩
  | (true, i) :: r, listed, a, w, hc, hS, h => by
    obtain ⟨o, v, ho, hy, h⟩ := h
    simp only [chk, Bool.and_eq_true] at hc
    exact wpAnyH_take ho hns hc.1.1 hc.1.2 (fun c a w => hQ c a o.dst v w) hy hS (chain_held hns hQ r _ _ w hc.2 hS h)
  | (false, i) :: r, listed, a, w, hc, hS, h => by
    simp only [chk, Bool.and_eq_true, decide_eq_true_eq] at hc
    refine wpAnyH_all hc.1 (by simp) fun j hj => ?_
    simp only [List.mem_singleton] at hj
    subst hj
    exact wpOp_mono (fun a' w' ⟨hS', h'⟩ => ⟨hS', chain_held hns hQ r _ a' w' hc.2 hS' h'⟩) h

theorem wp_region_chain {id : Nat} {a : Act} {w : World} (S : World → Prop) (ord : List (Bool × Nat)) (hm : P.follows .mixedOrders = true) (hc : chkAll ops ord = true)
    (hQ : ∀ c a d v w, Q (.panic c) (Act.put a d v) w → Q (.panic c) a w) (hS : S w.drew) (h : Chain P ops Q S ord a w.drew) : (Code.region id ops true).wp P Q a w := by
  simp only [chkAll, Bool.and_eq_true, decide_eq_true_eq] at hc
  refine wp_region_held (S := S) hm ?_
  rw [← hc.1.2]
  exact chain_held hc.1.1 hQ ord _ a _ (by rw [hc.1.2]; exact hc.2) hS h

/-- The next one is taken. -/
theorem chain_take {i : Nat} {r : List (Bool × Nat)} {a : Act} {w : World} {o : Oper} {v : Value} (ho : ops[i]? = some o) (hw : Region.wanted o (yielded ops a.tmps) = true)
    (hy : ∀ w', S w' → (execOp a.eval o).run P w' = .ok (.value v) w') (h : Chain P ops Q S r (a.put o.dst v) w) : Chain P ops Q S ((true, i) :: r) a w :=
  ⟨o, v, ho, .inl ⟨hw, hy⟩, h⟩

/-- The next one, whose guard says no, is passed over. -/
theorem chain_skipT {i : Nat} {r : List (Bool × Nat)} {a : Act} {w : World} {o : Oper} (ho : ops[i]? = some o) (hw : Region.wanted o (yielded ops a.tmps) = false)
    (h : Chain P ops Q S r (a.put o.dst undef) w) : Chain P ops Q S ((true, i) :: r) a w := ⟨o, undef, ho, .inr ⟨hw, rfl⟩, h⟩

theorem chain_skipF {i : Nat} {r : List (Bool × Nat)} {a : Act} {w : World} {o : Oper} (ho : ops[i]? = some o) (hw : Region.wanted o (yielded ops a.tmps) = false) (hS : S w)
    (h : Chain P ops Q S r (a.put o.dst undef) w) : Chain P ops Q S ((false, i) :: r) a w := by
  show wpOp P ops Q i _ a w
  unfold wpOp
  rw [ho]
  simp only [hw, Bool.false_eq_true, if_false]
  exact ⟨hS, h⟩

/-- The next one is carried out, as the walk does it. -/
theorem chain_go {i : Nat} {r : List (Bool × Nat)} {a : Act} {w : World} {o : Oper} (ho : ops[i]? = some o)
    (h : wpList P ops (Exit.then (fun a' w' => S w' ∧ Chain P ops Q S r a' w') Q) [o] a w) : Chain P ops Q S ((false, i) :: r) a w := by
  show wpOp P ops Q i _ a w
  unfold wpOp
  rw [ho]
  simp only [wpList] at h
  show if Region.wanted o (yielded ops a.tmps) = true then _ else _
  by_cases hw : Region.wanted o (yielded ops a.tmps) = true
  · rw [if_pos hw] at h ⊢
    rcases h with h | ⟨ha, hl⟩
    · left
      unfold Oper.wp at *
      generalize (execOp a.eval o).run P w = x at *
      cases x with
      | ok n w' =>
        cases n <;> simp only [Oper.upon] at h ⊢ <;> first
          | exact h
          | exact Calls.mono h (fun e w'' he => by cases e <;> first | exact he | exact he)
      | halt x w' => cases x <;> simp only [Oper.upon] at h ⊢ <;> exact h
    · exact .inr ⟨ha, hl⟩
  · rw [if_neg hw] at h ⊢
    exact h

theorem chain_end {a : Act} {w : World} (h : Q .normal a w) : Chain P ops Q S [] a w := h
end
end Go.Proofs.Ytjpaljiielemgaa
