/- A list that is read, one thing behind the other: what the loop keeps. -/
import Derived.Test.YtjpaljiielemgaaMStep
namespace Go.Proofs.Ytjpaljiielemgaa
open Go.RowKit

/-- k things were read, from place a to place s; they lie in the slice V. -/
structure ItemsSt (p : Len) (t : TypeId) (size : Nat) (R : Rel) (xs : List UInt8) (w0 w : World) (a k s : Nat) (V : Value) (Vs : List Value) (Es : List (List UInt8)) : Prop where
  below : Below w0.heap.size w0 w
  pos : advs p xs k ⟨a, false⟩ = ⟨s, false⟩
  near : s ≤ far
  lenV : Vs.length = k
  lenE : Es.length = k
  row : w.ownsRow w0.heap.size t size V k (Vs.flatMap (·.cells.toList))
  each : ∀ i (h1 : i < Vs.length) (h2 : i < Es.length), R w0.heap.size w Vs[i] Es[i]
  went : Went xs a s Es.flatten

section
variable {p : Len} {t : TypeId} {size : Nat} {R : Rel} {xs : List UInt8} {w0 w w1 : World} {a k s : Nat} {V : Value} {Vs : List Value} {Es : List (List UInt8)}

theorem ItemsSt.nil (p : Len) (t : TypeId) (size : Nat) (R : Rel) (xs : List UInt8) (w : World) (a : Nat) (ha : a ≤ far) : ItemsSt p t size R xs w w a 0 a (.slice none 0 0) [] [] :=
  ⟨Below.refl _ _, rfl, ha, rfl, rfl, World.ownsRow_nil _ _ _ _, fun i h => absurd h (by simp), Went.nil _ _⟩

theorem ItemsSt.keep (hR : Fair R) (h : ItemsSt p t size R xs w0 w a k s V Vs Es) (hb : Below w.heap.size w w1) : ItemsSt p t size R xs w0 w1 a k s V Vs Es := by
  obtain ⟨h1, h2, h3, h4, h5, h6, h7, h8⟩ := h
  refine ⟨h1.trans (hb.mono h1.size), h2, h3, h4, h5, owns_keep h6 (below_above hb), fun i a b => hR.keep (h7 i a b) (below_above hb), h8⟩

/-- One more. -/
theorem ItemsSt.more (hR : Fair R) (hF : Firm t R) {w2 w3 : World} {u : Nat} {X V' : Value} {E : List UInt8} (h : ItemsSt p t size R xs w0 w a k s V Vs Es) (hb : Below w.heap.size w w1) (hp : p (xs.drop s) = some u) (hu : s + u ≤ far) (hw : Went xs s (s + u) E)
    (hX : R w.heap.size w1 X E) (hb2 : Below w1.heap.size w1 w2) (hown : w3.ownsRow w0.heap.size t size V' (k + 1) (Vs.flatMap (·.cells.toList) ++ X.cells.toList)) (hg : w2.grownBy w3 V.ownBlock) :
    ItemsSt p t size R xs w0 w3 a (k + 1) (s + u) V' (Vs ++ [X]) (Es ++ [E]) := by
  have hk2 : Below w.heap.size w w2 := hb.trans (hb2.mono hb.size)
  obtain ⟨g1, g2, g3, g4, g5⟩ := hg
  have hd : w0.heap.size ≤ w.heap.size := h.below.size
  obtain ⟨_, _, _, h4, h5, h6, h7, h8⟩ := id h
  have hrow : w2.ownsRow w0.heap.size t size V k (Vs.flatMap (·.cells.toList)) := owns_keep h6 (below_above hk2)
  have hkeep : ∀ i, i < w2.heap.size → (∀ cur m, w2.heap[i]? ≠ some (.cells cur t m)) → w3.heap[i]? = w2.heap[i]? := by
    intro i hi hne
    refine g5 i hi fun he => ?_
    rcases hrow.2 with ⟨rfl, _⟩ | ⟨g, cap, cur, rfl, _, hgg, _⟩
    · simp [Value.ownBlock] at he
    · simp [Value.ownBlock] at he
      subst he
      exact hne _ _ hgg
  refine ⟨?_, ?_, hu, by simp [h4], by simp [h5], by simpa using hown, ?_, ?_⟩
  · refine (h.below.trans (hk2.mono hd)).trans ⟨g1, g2, g3, g4, fun i hi => g5 i (by have := hk2.size; omega) fun he => ?_⟩
    have hlt := hrow.lt i he.symm
    omega
  · show adv p xs (advs p xs k ⟨a, false⟩) = _
    rw [h.pos, adv_yes rfl hp]
  · intro i hi1 hi2
    refine hF _ _ _ _ _ ?_ hkeep
    by_cases hi : i < k
    · rw [List.getElem_append_left (by omega), List.getElem_append_left (by omega)]
      exact hR.keep (h7 i (by omega) (by omega)) (below_above hk2)
    · have e : i = k := by simp at hi1; omega
      subst e
      rw [List.getElem_append_right (by omega), List.getElem_append_right (by omega)]
      simp only [h4, h5, Nat.sub_self, List.getElem_cons_zero]
      exact hR.down (hR.keep hX (below_above hb2)) hd
  · simpa using h8.trans hw

theorem ItemsSt.bad (h : ItemsSt p t size R xs w0 w a k s V Vs Es) (hp : p (xs.drop s) = none) (d : Nat) : (advs p xs (k + 1 + d) ⟨a, false⟩).bad = true := by
  have h1 : (advs p xs (k + 1) ⟨a, false⟩).bad = true := by
    show (adv p xs (advs p xs k ⟨a, false⟩)).bad = true
    rw [h.pos, adv_no rfl hp]
  rw [advs_stay h1 d]; exact h1

theorem lItems_yes {n : Int} {u at0 : Nat} (hg : Pure.get (xs.drop at0) = some (n, u)) (h0 : 0 ≤ n) (h1 : n ≤ 4096) {s : Nat} (hs : advs p xs n.toNat ⟨at0 + u, false⟩ = ⟨s, false⟩) : lItems p (xs.drop at0) = some (s - at0) ∧ at0 ≤ s := by
  have e : advs p xs n.toNat ⟨at0 + u, false⟩ = (advs p (xs.drop at0) n.toNat ⟨u, false⟩).on at0 := advs_on p xs at0 n.toNat ⟨u, false⟩
  rw [hs] at e
  unfold lItems
  rw [hg]
  simp only [h0, h1, and_self, if_true, Sp.len]
  cases hb : (advs p (xs.drop at0) n.toNat ⟨u, false⟩) with
  | mk q b =>
    rw [hb] at e
    simp only [Sp.on, Sp.mk.injEq] at e
    obtain ⟨e1, rfl⟩ := e
    simp only [Bool.false_eq_true, if_false, Option.some.injEq]
    omega
theorem lItems_no {n : Int} {u at0 : Nat} (hg : Pure.get (xs.drop at0) = some (n, u)) (hs : (advs p xs n.toNat ⟨at0 + u, false⟩).bad = true) : lItems p (xs.drop at0) = none := by
  have e : advs p xs n.toNat ⟨at0 + u, false⟩ = (advs p (xs.drop at0) n.toNat ⟨u, false⟩).on at0 := advs_on p xs at0 n.toNat ⟨u, false⟩
  rw [e] at hs
  unfold lItems
  rw [hg]
  have hs : (advs p (xs.drop at0) n.toNat ⟨u, false⟩).bad = true := hs
  simp [Sp.len, hs]
theorem lItems_far {n : Int} {u at0 : Nat} (hg : Pure.get (xs.drop at0) = some (n, u)) (hn : ¬ (0 ≤ n ∧ n ≤ 4096)) : lItems p (xs.drop at0) = none := by
  unfold lItems
  rw [hg]
  simp [hn]
theorem lItems_none {at0 : Nat} (hg : Pure.get (xs.drop at0) = none) : lItems p (xs.drop at0) = none := by
  unfold lItems; rw [hg]

/-- The whole list. -/
theorem ItemsSt.whole {n : Int} {u at0 : Nat} (hg : Pure.get (xs.drop at0) = some (n, u)) (h0 : 0 ≤ n) (h1 : n ≤ 4096) (h : ItemsSt p t size R xs w0 w (at0 + u) k s V Vs Es) (hk : (k : Int) = n) (hw : Went xs at0 (at0 + u) (Pure.enc n)) :
    ∃ e F, lItems p (xs.drop at0) = some e ∧ at0 + e = s ∧ Went xs at0 (at0 + e) F ∧ lstV t size R w0.heap.size w V F := by
  have hk' : n.toNat = k := by omega
  obtain ⟨h2, h3⟩ := lItems_yes (p := p) hg h0 h1 (s := s) (by rw [hk']; exact h.pos)
  obtain ⟨_, _, _, h4, h5, h6, h7, h8⟩ := id h
  refine ⟨s - at0, Pure.enc n ++ Es.flatten, h2, by omega, ?_, ?_⟩
  · have e : at0 + (s - at0) = s := by omega
    rw [e]
    exact hw.trans h8
  · exact ⟨k, Vs, Es, by omega, h4, h5, h6, h7, by rw [hk]⟩
end
end Go.Proofs.Ytjpaljiielemgaa
