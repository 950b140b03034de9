/- The reader of messages: two blocks of the old ones turn, new ones may be made. -/
import Derived.Test.YtjpaljiielemgaaMsgPure
namespace Go.Proofs.Ytjpaljiielemgaa
open Go.RowKit

/-- Of the blocks that were there only p and q have turned. -/
structure Turn (p q : Nat) (w w' : World) : Prop where
  os : w'.os = w.os
  tape : w'.tape = w.tape
  output : w'.output = w.output
  size : w.heap.size ≤ w'.heap.size
  block : ∀ k, k < w.heap.size → k ≠ p → k ≠ q → w'.heap[k]? = w.heap[k]?

section
variable {w w' w'' : World} {g p q : Nat} {t : TypeId} {cs : Array Value}
theorem Turn.refl (p q : Nat) (w : World) : Turn p q w w := ⟨rfl, rfl, rfl, Nat.le_refl _, fun _ _ _ _ => rfl⟩
theorem Turn.trans (h : Turn p q w w') (k : Turn p q w' w'') : Turn p q w w'' :=
  ⟨k.os.trans h.os, k.tape.trans h.tape, k.output.trans h.output, Nat.le_trans h.size k.size, fun i a b c => (k.block i (Nat.lt_of_lt_of_le a h.size) b c).trans (h.block i a b c)⟩
theorem Turn.drew (h : Turn p q w w') : Turn p q w w'.drew := ⟨h.os, h.tape, h.output, h.size, h.block⟩
theorem Turn.of_below (p q : Nat) (h : Below w.heap.size w w') : Turn p q w w' := ⟨h.os, h.tape, h.output, h.size, fun k a _ _ => h.block k a⟩
theorem Turn.setL (h : Turn p q w w') (i : Nat) (u : Value) : Turn p q w (w'.setCell ⟨p, i, none⟩ u) :=
  h.trans ⟨rfl, rfl, rfl, by simp [World.setCell], fun k _ a _ => Below.heap_setCell _ _ _ _ a⟩
theorem Turn.setR (h : Turn p q w w') (i : Nat) (u : Value) : Turn p q w (w'.setCell ⟨q, i, none⟩ u) :=
  h.trans ⟨rfl, rfl, rfl, by simp [World.setCell], fun k _ _ b => Below.heap_setCell _ _ _ _ b⟩
theorem Turn.below {B : Nat} (h : Turn p q w w') (hp : B ≤ p) (hq : B ≤ q) (hB : B ≤ w.heap.size) : Below B w w' :=
  ⟨h.os, h.tape, h.output, h.size, fun k hk => h.block k (by omega) (by omega) (by omega)⟩
theorem Turn.above {B : Nat} (h : Turn p q w w') (hp : p < B) (hq : q < B) : Above B w w' := fun k hB hk => h.block k hk (by omega) (by omega)
theorem Turn.cell (h : Turn p q w w') {a : Addr} (hl : a.block < w.heap.size) (hp : a.block ≠ p) (hq : a.block ≠ q) : w'.cell? a = w.cell? a := World.cell?_of_block (w := w) (h.block a.block hl hp hq)
theorem Whole.turn (h : Whole w g t cs) (k : Turn p q w w') (hp : g ≠ p) (hq : g ≠ q) : Whole w' g t cs := (k.block g h.lt hp hq).trans h
end

theorem Bytes.turn {w w' : World} {p q : Nat} {v : Value} {xs : List UInt8} (h : Bytes w v xs) (k : Turn p q w w') (hp : Apart v p) (hq : Apart v q) : Bytes w' v xs := by
  obtain ⟨a, cap, rfl, h1, h2, h3⟩ := h
  refine ⟨a, cap, rfl, h1, h2, fun h0 => ?_⟩
  obtain ⟨g, off, rfl, hc⟩ := h3 h0
  refine ⟨g, off, rfl, fun j hj => ?_⟩
  rw [k.cell (a := ⟨g, off + j, none⟩) (World.block_lt_of_cell? w _ (hc j hj)) (hp ⟨g, off, none⟩ _ _ rfl h0) (hq ⟨g, off, none⟩ _ _ rfl h0)]
  exact hc j hj

/-- The reader stands at s, what it reads into holds cs; of the rest that was there in w0 nothing has turned. -/
structure MSt (w0 w : World) (gr ge : Nat) (t : TypeId) (v : Value) (s : Sp) (cs : Array Value) : Prop where
  rd : Whole w gr 100 #[v, .int .i64 s.at0, .bool s.bad]
  en : Whole w ge t cs
  turn : Turn gr ge w0 w
  near : s.at0 ≤ far

section
variable {w0 w w' : World} {gr ge : Nat} {t : TypeId} {v : Value} {s : Sp} {cs : Array Value}
theorem MSt.drew (h : MSt w0 w gr ge t v s cs) : MSt w0 w.drew gr ge t v s cs := ⟨h.rd, h.en, h.turn.drew, h.near⟩
theorem MSt.below (h : MSt w0 w gr ge t v s cs) (k : Below w.heap.size w w') : MSt w0 w' gr ge t v s cs :=
  ⟨h.rd.below k h.rd.lt, h.en.below k h.en.lt, h.turn.trans (Turn.of_below _ _ k), h.near⟩
theorem MSt.fresh (h : MSt w0 w gr ge t v s cs) (o : Obj) : MSt (w.alloc o) (w.alloc o) gr ge t v s cs := ⟨h.rd.alloc o, h.en.alloc o, Turn.refl _ _ _, h.near⟩
theorem MSt.here (h : MSt w0 w gr ge t v s cs) : MSt w w gr ge t v s cs := ⟨h.rd, h.en, Turn.refl _ _ _, h.near⟩
end

theorem MSt.no {w0 w : World} {gr ge : Nat} {t : TypeId} {v : Value} {s : Sp} {cs : Array Value} {p : Len} {xs : List UInt8} (h : MSt w0 w gr ge t v s cs) (hne : gr ≠ ge) (hb : s.bad = false) (hp : p (xs.drop s.at0) = none) :
    MSt w0 (w.setCell ⟨gr, 2, none⟩ (.bool true)) gr ge t v (adv p xs s) cs := by
  rw [adv_no hb hp]
  exact ⟨h.rd.put 2 (.bool true), h.en.far (a := ⟨gr, 2, none⟩) (fun e => hne e.symm) _, h.turn.setL _ _, h.near⟩

theorem MSt.yes {w0 w : World} {gr ge : Nat} {t : TypeId} {v : Value} {s : Sp} {cs : Array Value} {p : Len} {xs : List UInt8} {j u : Nat} {X : Value} (h : MSt w0 w gr ge t v s cs) (hne : gr ≠ ge) (hb : s.bad = false) (hp : p (xs.drop s.at0) = some u) (hu : s.at0 + u ≤ far) :
    MSt w0 ((w.setCell ⟨ge, j, none⟩ X).setCell ⟨gr, 1, none⟩ (.int .i64 ((s.at0 : Int) + (u : Int)))) gr ge t v (adv p xs s) (cs.setIfInBounds j X) := by
  rw [adv_yes hb hp]
  refine ⟨?_, ?_, (h.turn.setR _ _).setL _ _, hu⟩
  · have h1 := (h.rd.far (a := ⟨ge, j, none⟩) hne X).put 1 (.int .i64 ((s.at0 : Int) + (u : Int)))
    rw [hb] at h1
    exact h1
  · exact (h.en.put j X).far (a := ⟨gr, 1, none⟩) (fun e => hne e.symm) _

/-- What a reader of one thing leaves: bad, and nothing was written; or it was, and the place is behind. -/
structure Read1 (R : Rel) (p : Len) (xs : List UInt8) (w w' : World) (gr ge : Nat) (t : TypeId) (v : Value) (s : Sp) (j : Nat) (cs cs' : Array Value) : Prop where
  st : MSt w w' gr ge t v (adv p xs s) cs'
  size : cs'.size = cs.size
  what : ((adv p xs s).bad = true ∧ cs' = cs) ∨ ((adv p xs s).bad = false ∧ ∃ V E, R w.heap.size w' V E ∧ cs' = cs.setIfInBounds j V ∧ Went xs s.at0 (adv p xs s).at0 E)

/-- The same, told of the world ahead of a block that was made. -/
theorem Read1.wider {R : Rel} {p : Len} {xs : List UInt8} {w w' : World} {gr ge : Nat} {t t0 : TypeId} {v : Value} {s : Sp} {j : Nat} {cs cs' cs0 : Array Value} {o : Obj} (h : Read1 R p xs (w.alloc o) w' gr ge t v s j cs cs') (_k : MSt w w gr ge t0 v s cs0) (hR : Fair R) : Read1 R p xs w w' gr ge t v s j cs cs' := by
  refine ⟨⟨h.st.rd, h.st.en, (Turn.of_below gr ge ((Below.refl _ _).alloc (Nat.le_refl _) o)).trans h.st.turn, h.st.near⟩, h.size, ?_⟩
  rcases h.what with h | ⟨h1, V, E, h2, h3, h4⟩
  · exact .inl h
  · exact .inr ⟨h1, V, E, hR.down h2 (by simp), h3, h4⟩

def intV : Rel := fun _ _ V E => ∃ n, rng n ∧ V = .int .i64 n ∧ E = Pure.enc n
def txtV : Rel := fun _ _ V E => ∃ s, lit s ∧ V = .string s ∧ E = txt s.data.toList
def bitV : Rel := fun _ _ V E => ∃ b, V = .bool b ∧ E = bit b
def vrV : Rel := fun _ _ V E => ∃ x y, cnt x ∧ cnt y ∧ V = .complex .f64 (Flo.flo x) (Flo.flo y) ∧ E = verB x y
theorem fair_int : Fair intV := ⟨fun h _ => h, fun h _ => h⟩
theorem fair_txt : Fair txtV := ⟨fun h _ => h, fun h _ => h⟩
theorem fair_bit : Fair bitV := ⟨fun h _ => h, fun h _ => h⟩
theorem fair_vr : Fair vrV := ⟨fun h _ => h, fun h _ => h⟩

/-- What a function that reads something at a place answers. (Z: the value, and the place, where nothing stands.) -/
def GotAt (p : Len) (R : Rel) (Z : Value → Int → Prop) (xs : List UInt8) (at0 : Nat) (w : World) (e : Ending) (w' : World) : Prop :=
  Below w.heap.size w w' ∧ ((∃ u V E, p (xs.drop at0) = some u ∧ at0 + u ≤ far ∧ Went xs at0 (at0 + u) E ∧ R w.heap.size w' V E ∧ e = .returned (.tuple #[V, .int .i64 ((at0 : Int) + (u : Int)), .bool true])) ∨
    (p (xs.drop at0) = none ∧ ∃ V n, Z V n ∧ e = .returned (.tuple #[V, .int .i64 n, .bool false])))
def Getter (f : Nat) (p : Len) (R : Rel) (Z : Value → Int → Prop) : Prop := ∀ (w : World) (v : Value) (xs : List UInt8) (at0 : Nat), at0 ≤ far → xs.length ≤ far → Bytes w v xs →
  Calls Try.prog f #[v, .int .i64 at0] w (GotAt p R Z xs at0 w)

theorem get_int : Getter 16 lInt intV (fun V _ => ∃ n, V = .int .i64 n) := by
  intro w v xs at0 hat hx hv
  refine (callInt hat hv).mono fun e w' ⟨hw, he⟩ => ⟨by rw [← hw]; exact Below.refl _ _, ?_⟩
  rcases he with ⟨x, u, hp, hu, he⟩ | ⟨hp, x, n, he⟩
  · left
    obtain ⟨n, r, hv, hl, hul, h1, h2⟩ := pInt_inv hp
    refine ⟨u, _, Pure.enc n, ?_, by omega, ⟨r, hl, ?_, by rw [hul]⟩, ⟨n, ⟨h1, h2⟩, hv, rfl⟩, he⟩
    · unfold pInt at hp; unfold lInt
      cases hg : Pure.get (xs.drop at0) with
      | none => rw [hg] at hp; cases hp
      | some q => rw [hg] at hp; simp only [Option.some.injEq, Prod.mk.injEq] at hp; simp [hp.2]
    · rw [← List.drop_drop, hl, hul, List.drop_left]
  · right
    refine ⟨?_, _, _, ⟨_, rfl⟩, he⟩
    unfold pInt at hp; unfold lInt
    cases hg : Pure.get (xs.drop at0) with
    | none => rfl
    | some q => rw [hg] at hp; cases hp

theorem get_txt : Getter 17 lTxt txtV (fun V _ => ∃ s, V = .string s) := by
  intro w v xs at0 hat hx hv
  refine (callTxt hat hv).mono fun e w' ⟨hw, he⟩ => ⟨by rw [← hw]; exact Below.refl _ _, ?_⟩
  rcases he with ⟨x, u, hp, hu, he⟩ | ⟨hp, x, n, he⟩
  · left
    obtain ⟨n, r, hv, hl, hul, h1⟩ := pTxt_inv hp
    refine ⟨u, _, txt n.data.toList, ?_, by omega, ⟨r, hl, ?_, by rw [hul]⟩, ⟨n, h1, hv, rfl⟩, he⟩
    · unfold pTxt at hp; unfold lTxt
      cases hg : getTxt (xs.drop at0) with
      | none => rw [hg] at hp; cases hp
      | some q => rw [hg] at hp; simp only [Option.some.injEq, Prod.mk.injEq] at hp; simp [hp.2]
    · rw [← List.drop_drop, hl, hul, List.drop_left]
  · right
    refine ⟨?_, _, _, ⟨_, rfl⟩, he⟩
    unfold pTxt at hp; unfold lTxt
    cases hg : getTxt (xs.drop at0) with
    | none => rfl
    | some q => rw [hg] at hp; cases hp

theorem get_bit : Getter 29 lBit bitV (fun V _ => ∃ s, V = .bool s) := by
  intro w v xs at0 hat hx hv
  refine (callBit hat hv).mono fun e w' ⟨hw, he⟩ => ⟨by rw [← hw]; exact Below.refl _ _, ?_⟩
  rcases he with ⟨x, u, hp, hu, he⟩ | ⟨hp, x, n, he⟩
  · left
    obtain ⟨n, r, hv, hl, hul⟩ := pBit_inv hp
    refine ⟨u, _, bit n, ?_, by omega, ⟨r, hl, ?_, by rw [hul]⟩, ⟨n, hv, rfl⟩, he⟩
    · unfold pBit at hp; unfold lBit
      cases hg : getBit (xs.drop at0) with
      | none => rw [hg] at hp; cases hp
      | some q => rw [hg] at hp; simp only [Option.some.injEq, Prod.mk.injEq] at hp; simp [hp.2]
    · rw [← List.drop_drop, hl, hul, List.drop_left]
  · right
    refine ⟨?_, _, _, ⟨_, rfl⟩, he⟩
    unfold pBit at hp; unfold lBit
    cases hg : getBit (xs.drop at0) with
    | none => rfl
    | some q => rw [hg] at hp; cases hp

theorem get_vr : Getter 27 lVer vrV (fun V _ => ∃ x y, V = .complex .f64 x y) := by
  intro w v xs at0 hat hx hv
  refine (callVer hat hv).mono fun e w' ⟨hw, he⟩ => ⟨by rw [← hw]; exact Below.refl _ _, ?_⟩
  rcases he with ⟨x, y, u, hp, hu, he⟩ | ⟨hp, x, y, n, he⟩
  · left
    obtain ⟨a, b, r, hv, hl, hul, h1, h2⟩ := pVer_inv hp
    refine ⟨u, _, verB a b, ?_, by omega, ⟨r, hl, ?_, by rw [hul]⟩, ⟨a, b, h1, h2, hv, rfl⟩, he⟩
    · unfold pVer at hp; unfold lVer
      cases hg : getVer (xs.drop at0) with
      | none => rw [hg] at hp; cases hp
      | some q => obtain ⟨⟨q1, q2⟩, q3⟩ := q; rw [hg] at hp; simp only [Option.some.injEq, Prod.mk.injEq] at hp; simp [hp.2]
    · rw [← List.drop_drop, hl, hul, List.drop_left]
  · right
    refine ⟨?_, _, _, ⟨_, _, rfl⟩, he⟩
    unfold pVer at hp; unfold lVer
    cases hg : getVer (xs.drop at0) with
    | none => rfl
    | some q => obtain ⟨⟨q1, q2⟩, q3⟩ := q; rw [hg] at hp; cases hp
end Go.Proofs.Ytjpaljiielemgaa
