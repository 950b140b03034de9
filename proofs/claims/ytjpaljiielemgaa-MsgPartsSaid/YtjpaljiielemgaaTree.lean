/- A region that draws its order, walked in a tree of orders: as in Ord, but where two operations may come up, either is followed. And a struct that is stored among other cells. -/
import Derived.Test.YtjpaljiielemgaaOrd
import Derived.Test.YtjpaljiielemgaaGetOp
namespace Go.Proofs.Ytjpaljiielemgaa
open Go.RowKit

inductive Tr where
  | done
  | take (i : Nat) (r : Tr)
  | go (i : Nat) (r : Tr)
  | fork (i j : Nat) (r1 r2 : Tr)

def Tr.len : Tr → Nat
  | .done => 0
  | .take _ r => r.len + 1
  | .go _ r => r.len + 1
  | .fork _ _ r _ => r.len + 1

def chkT (ops : Array Oper) : Tr → Array Bool → Bool
  | .done, listed => (Region.ready .any ops listed).isEmpty
  | .take i r, listed => Region.free .any ops listed i && (Region.ready .any ops listed).contains i && chkT ops r (listed.setIfInBounds i true)
  | .go i r, listed => decide (Region.ready .any ops listed = [i]) && chkT ops r (listed.setIfInBounds i true)
  | .fork i j r1 r2, listed => decide (Region.ready .any ops listed = [i, j]) && (decide (r1.len = r2.len) && (chkT ops r1 (listed.setIfInBounds i true) && chkT ops r2 (listed.setIfInBounds j true)))

def chkTree (ops : Array Oper) (ord : Tr) : Bool := Region.noSelect ops && decide (ord.len = ops.size) && chkT ops ord (Array.replicate ops.size false)

def Walk (P : Program) (ops : Array Oper) (Q : Exit → Act → World → Prop) (S : World → Prop) : Tr → Act → World → Prop
  | .done, a, w => Q .normal a w
  | .take i r, a, w => ∃ o v, ops[i]? = some o ∧ YieldsIf P ops S o v a ∧ Walk P ops Q S r (a.put o.dst v) w
  | .go i r, a, w => wpOp P ops Q i (fun a' w' => S w' ∧ Walk P ops Q S r a' w') a w
  | .fork i j r1 r2, a, w => wpOp P ops Q i (fun a' w' => S w' ∧ Walk P ops Q S r1 a' w') a w ∧ wpOp P ops Q j (fun a' w' => S w' ∧ Walk P ops Q S r2 a' w') a w

section
variable {P : Program} {ops : Array Oper} {Q : Exit → Act → World → Prop} {S : World → Prop}

theorem walk_held (hns : Region.noSelect ops = true) (hQ : ∀ c a d v w, Q (.panic c) (Act.put a d v) w → Q (.panic c) a w) : ∀ (ord : Tr) (listed : Array Bool) (a : Act) (w : World),
    chkT ops ord listed = true → S w → Walk P ops Q S ord a w → wpAnyH P .any ops Q S ord.len listed a w
  | .done, listed, a, w, hc, hS, h => ⟨by simpa [chkT] using hc, h⟩
  | .take i r, listed, a, w, hc, hS, h => by
    obtain ⟨o, v, ho, hy, h⟩ := h
    simp only [chkT, Bool.and_eq_true] at hc
    exact wpAnyH_take ho hns hc.1.1 hc.1.2 (fun c a w => hQ c a o.dst v w) hy hS (walk_held hns hQ r _ _ w hc.2 hS h)
  | .go i r, listed, a, w, hc, hS, h => by
    simp only [chkT, Bool.and_eq_true, decide_eq_true_eq] at hc
    refine wpAnyH_all hc.1 (by simp) fun j hj => ?_
    simp only [List.mem_singleton] at hj
    subst hj
    exact wpOp_mono (fun a' w' ⟨hS', h'⟩ => ⟨hS', walk_held hns hQ r _ a' w' hc.2 hS' h'⟩) h
  | .fork i j r1 r2, listed, a, w, hc, hS, h => by
    simp only [chkT, Bool.and_eq_true, decide_eq_true_eq] at hc
    obtain ⟨h0, h1, h2, h3⟩ := hc
    refine wpAnyH_all h0 (by simp) fun k hk => ?_
    simp only [List.mem_cons, List.not_mem_nil, or_false] at hk
    rcases hk with rfl | rfl
    · exact wpOp_mono (fun a' w' ⟨hS', h'⟩ => ⟨hS', walk_held hns hQ r1 _ a' w' h2 hS' h'⟩) h.1
    · rw [h1]
      exact wpOp_mono (fun a' w' ⟨hS', h'⟩ => ⟨hS', walk_held hns hQ r2 _ a' w' h3 hS' h'⟩) h.2

theorem wp_region_tree {id : Nat} {a : Act} {w : World} (S : World → Prop) (ord : Tr) (hm : P.follows .mixedOrders = true) (hc : chkTree ops ord = true)
    (hQ : ∀ c a d v w, Q (.panic c) (Act.put a d v) w → Q (.panic c) a w) (hS : S w.drew) (h : Walk P ops Q S ord a w.drew) : (Code.region id ops true).wp P Q a w := by
  simp only [chkTree, Bool.and_eq_true, decide_eq_true_eq] at hc
  refine wp_region_held (S := S) hm ?_
  rw [← hc.1.2]
  exact walk_held hc.1.1 hQ ord _ a _ (by rw [hc.1.2]; exact hc.2) hS h

theorem walk_take {i : Nat} {r : Tr} {a : Act} {w : World} {o : Oper} {v : Value} (ho : ops[i]? = some o) (hw : Region.wanted o (yielded ops a.tmps) = true)
    (hy : ∀ w', S w' → (execOp a.eval o).run P w' = .ok (.value v) w') (h : Walk P ops Q S r (a.put o.dst v) w) : Walk P ops Q S (.take i r) a w :=
  ⟨o, v, ho, .inl ⟨hw, hy⟩, h⟩

theorem wpOp_go {i : Nat} {a : Act} {w : World} {o : Oper} {K : Act → World → Prop} (ho : ops[i]? = some o)
    (h : wpList P ops (Exit.then K Q) [o] a w) : wpOp P ops Q i K a w := by
  unfold wpOp
  rw [ho]
  simp only [wpList] at h
  show if Region.wanted o (yielded ops a.tmps) = true then _ else _
  by_cases hw : Region.wanted o (yielded ops a.tmps) = true
  · rw [if_pos hw] at h ⊢
    rcases h with h | ⟨ha, hl⟩
    · left
      unfold Oper.wp at *
      generalize (execOp a.eval o).run P w = x at *
      cases x with
      | ok n w' =>
        cases n <;> simp only [Oper.upon] at h ⊢ <;> first
          | exact h
          | exact Calls.mono h (fun e w'' he => by cases e <;> first | exact he | exact he)
      | halt x w' => cases x <;> simp only [Oper.upon] at h ⊢ <;> exact h
    · exact .inr ⟨ha, hl⟩
  · rw [if_neg hw] at h ⊢
    exact h

theorem tree_go {i : Nat} {r : Tr} {a : Act} {w : World} {o : Oper} (ho : ops[i]? = some o)
    (h : wpList P ops (Exit.then (fun a' w' => S w' ∧ Walk P ops Q S r a' w') Q) [o] a w) : Walk P ops Q S (.go i r) a w := wpOp_go ho h
theorem walk_fork {i j : Nat} {r1 r2 : Tr} {a : Act} {w : World} {o o' : Oper} (ho : ops[i]? = some o) (ho' : ops[j]? = some o')
    (h : wpList P ops (Exit.then (fun a' w' => S w' ∧ Walk P ops Q S r1 a' w') Q) [o] a w) (h' : wpList P ops (Exit.then (fun a' w' => S w' ∧ Walk P ops Q S r2 a' w') Q) [o'] a w) : Walk P ops Q S (.fork i j r1 r2) a w := ⟨wpOp_go ho h, wpOp_go ho' h'⟩
theorem walk_end {a : Act} {w : World} (h : Q .normal a w) : Walk P ops Q S .done a w := h
end

/-- These cells, from place j on. -/
def putC (cs : Array Value) (j : Nat) (news : List Value) : Array Value := (cs.toList.take j ++ news ++ cs.toList.drop (j + news.length)).toArray
theorem putC_size (cs : Array Value) (j : Nat) (news : List Value) (h : j + news.length ≤ cs.size) : (putC cs j news).size = cs.size := by simp [putC]; omega

theorem run_storeVar_at {P : Program} (w : World) (g j : Nat) (t ty : TypeId) (old cells : Array Value) (hg : w.heap[g]? = some (.cells old t (0, 0))) (hi : (P.info? ty).map (·.size) = some cells.size)
    (hj : j + cells.size ≤ old.size) (h1 : cells.all (·.oneCell') = true) :
    (storeVar ty ⟨g, j, none⟩ (.agg cells)).run P w = .ok () (w.setRow g (putC old j cells.toList)) := by
  have := run_storeCells_at P g j t cells.toList 0 old w hg (by simp; omega) (fun v hv => (Array.all_eq_true_iff_forall_mem.1 h1) v (by simpa using hv))
  cases hq : P.info? ty with
  | none => simp [hq] at hi
  | some i =>
    have hs : cells.size = i.size := by simp [hq] at hi; omega
    simp only [Nat.add_zero] at this
    simp [storeVar, sizeOf, typeInfo, hq, Value.cells, hs, this, putC]

/-- A whole struct is stored, from place j of a block on. -/
theorem walk_store {ops : Array Oper} {Q : Exit → Act → World → Prop} {S : World → Prop} {i : Nat} {r : Tr} {a : Act} {w : World} {o : Oper} {x y : Operand} {ty t : TypeId} {g j : Nat} {old cs : Array Value} (ho : ops[i]? = some o) (hgd : o.guard = none) (hop : o.op = .store ty x y) (hd : o.dst = none)
    (hx : a.eval x = .pointer (some ⟨g, j, none⟩)) (hy : a.eval y = .agg cs) (hw : Whole w g t old) (hi : (Try.prog.info? ty).map (·.size) = some cs.size) (hj : j + cs.size ≤ old.size) (h1 : cs.all (·.oneCell') = true)
    (hS : S (w.setRow g (putC old j cs.toList))) (h : Walk Try.prog ops Q S r a (w.setRow g (putC old j cs.toList))) : Walk Try.prog ops Q S (.go i r) a w := by
  refine tree_go ho ?_
  refine wpList_plain hgd fun K hK => ?_
  unfold Oper.wp execOp
  simp only [hop, hx, hy, Instr.storeAt, Instr.sureAddr, Sem.run_bind, Sem.run_pure, Result.andThen_ok, run_storeVar_at w g j t ty old cs hw hi hj h1]
  refine hK _ _ ?_
  rw [hd]
  exact ⟨hS, h⟩
theorem wpList_store_at {ops : Array Oper} {rest : List Oper} {o : Oper} {a : Act} {w : World} {Q : Exit → Act → World → Prop} (hgd : o.guard = none) (ty : TypeId) (x y : Operand) (hop : o.op = .store ty x y)
    (g j : Nat) (cs : Array Value) (hx : a.eval x = .pointer (some ⟨g, j, none⟩)) (hy : a.eval y = .agg cs) (t : TypeId) (old : Array Value) (hw : Whole w g t old) (hi : (Try.prog.info? ty).map (·.size) = some cs.size) (hj : j + cs.size ≤ old.size) (h1 : cs.all (·.oneCell') = true)
    (h : wpList Try.prog ops Q rest (a.put o.dst undef) (w.setRow g (putC old j cs.toList))) : wpList Try.prog ops Q (o :: rest) a w := by
  refine wpList_plain hgd fun K hK => ?_
  unfold Oper.wp execOp
  simp only [hop, hx, hy, Instr.storeAt, Instr.sureAddr, Sem.run_bind, Sem.run_pure, Result.andThen_ok, run_storeVar_at w g j t ty old cs hw hi hj h1]
  exact hK _ _ h
end Go.Proofs.Ytjpaljiielemgaa
