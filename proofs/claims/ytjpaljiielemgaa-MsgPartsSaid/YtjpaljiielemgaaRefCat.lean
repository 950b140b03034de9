/- The document's answer's 'bit', 'cat', 'Ver': bytes behind bytes. -/
import Derived.Test.YtjpaljiielemgaaRefPuts
import Derived.Test.YtjpaljiielemgaaArgs
import Derived.Test.YtjpaljiielemgaaAwake3
import Derived.Test.YtjpaljiielemgaaStep
namespace Go.Proofs.Ytjpaljiielemgaa
open Go.RowKit

/-- These bytes are answered, and nothing old has turned. -/
def Gives (w : World) (xs : List UInt8) (e : Ending) (w' : World) : Prop := ∃ a n c, e = .returned (.slice a n c) ∧ Bytes w' (.slice a n c) xs ∧ Below w.heap.size w w'

theorem Puts.gives {w w' : World} {xs : List UInt8} {e : Ending} (h : Puts w (.slice none 0 0) xs e w') : Gives w xs e w' := by
  obtain ⟨v, rfl, hb, hw⟩ := h
  obtain ⟨a, n, c, rfl, _⟩ := hb.parts
  exact ⟨a, n, c, rfl, hb.bytes, hw.new rfl⟩

theorem Whole.fresh (w : World) (t : TypeId) (cs : Array Value) : Whole (w.alloc (.cells cs t)) w.heap.size t cs := heap_alloc_new w _

set_option maxRecDepth 100000 in
set_option maxHeartbeats 400000 in
theorem refBit_core (w : World) (b : Bool) : Calls Try.prog 55 #[.bool b] w (Gives w (bit b)) := by
  cases b
  · go_enter Try.func55, Try.ntmps55
    go_wp2
    go_ret
    exact ⟨_, _, _, rfl, (buf_at w _ _ rfl [0] (by decide) rfl).bytes, (Below.refl _ _).alloc (Nat.le_refl _) _⟩
  · go_enter Try.func55, Try.ntmps55
    go_wp2
    go_ret
    exact ⟨_, _, _, rfl, (buf_at w _ _ rfl [1] (by decide) rfl).bytes, (Below.refl _ _).alloc (Nat.le_refl _) _⟩

/-- A row of slices, each of which reads as its bytes. -/
def Parts (w : World) (gs : Nat) (L : List (List UInt8)) : Prop := ∀ i (h : i < L.length), ∃ a n c, w.cell? ⟨gs, i, none⟩ = some (.slice a n c) ∧ Bytes w (.slice a n c) L[i]

theorem Parts.keep {w w' : World} {gs : Nat} {L : List (List UInt8)} (h : Parts w gs L) (hb : Below w.heap.size w w') : Parts w' gs L := by
  intro i hi
  obtain ⟨a, n, c, hc, hy⟩ := h i hi
  refine ⟨a, n, c, ?_, hy.keep hb⟩
  rw [hb.cell (p := ⟨gs, i, none⟩) (World.block_lt_of_cell? w _ hc)]
  exact hc

theorem flat_take (L : List (List UInt8)) (k : Nat) (h : k < L.length) : (L.take (k + 1)).flatten = (L.take k).flatten ++ L[k] := by
  rw [List.take_succ_eq_append_getElem h, List.flatten_append]; simp

theorem flat_le (L : List (List UInt8)) (k : Nat) (h : k < L.length) : (L.take k).flatten.length + L[k].length ≤ L.flatten.length := by
  have h1 := flat_take L k h
  have h2 : L.flatten = (L.take (k + 1)).flatten ++ (L.drop (k + 1)).flatten := by rw [← List.flatten_append, List.take_append_drop]
  rw [h2, h1]; simp only [List.length_append]; omega

set_option maxRecDepth 100000 in
set_option maxHeartbeats 400000 in
theorem cat_core (w : World) (gs K : Nat) (L : List (List UInt8)) (hK : L.length = K) (hK1 : K ≤ 1000) (hp : Parts w gs L) (hl : L.flatten.length ≤ 35184372088832) :
    Calls Try.prog 53 #[.slice (some ⟨gs, 0, none⟩) K K] w (Gives w L.flatten) := by
  have HP := Lib.hid hp
  have HK := Lib.hid hK
  clear hp hK
  go_enter Try.func53, Try.ntmps53
  go_wp2
  go_loopw [3, 4] (fun v' i wr => ∃ (k : Nat), k ≤ K ∧ i = .int .i64 k ∧ Buf wr v' (L.take k).flatten ∧ Wrote w (.slice none 0 0) wr v') (fun _ i _ => K - (intOf i).toNat)
  case atStart => exact ⟨0, by omega, rfl, by simpa using Buf.nil w, Wrote.refl _ _ ⟨_, _, _, rfl⟩⟩
  case round =>
    obtain ⟨k, hk, rfl, hbr, hwr⟩ := hrel
    by_cases hlt : k < K
    · have hkl : k < L.length := by rw [HK.out]; exact hlt
      obtain ⟨a, n, c, hc, hy⟩ := (HP.out.keep (hwr.new rfl)) k hkl
      have hfl := flat_le L k hkl
      have HY := Lib.hid hy
      have HF := Lib.hid hfl
      clear hy hfl
      go_wp2_with (at_builtin; refine wpList_app rfl (.tmp 11) (.tmp 15) 24 rfl (.inl Try.underlying24) _ (.slice a n c) _ L[k] rfl rfl hbr (src_bytes HY.out) (by have := HF.out; omega) ?_; intro v2 w2 hb2 hw2)
      go_roundw
      case rel =>
        refine ⟨k + 1, by omega, by go_num, ?_, hwr.trans hw2⟩
        rw [flat_take L k hkl]
        exact hb2
      case measure => simp [intOf]; omega
    · go_wp2
      go_ret
      have e : k = K := by omega
      subst e
      rw [List.take_of_length_le (by rw [HK.out]; exact Nat.le_refl _)] at hbr
      exact Puts.gives ⟨_, rfl, hbr, hwr⟩

theorem Parts.one {w : World} {gs : Nat} {cs : Array Value} {t : TypeId} {L : List (List UInt8)} (h : Whole w gs t cs) (hL : ∀ i (hi : i < L.length), ∃ a n c, cs[i]? = some (.slice a n c) ∧ Bytes w (.slice a n c) L[i]) : Parts w gs L := by
  intro i hi
  obtain ⟨a, n, c, hc, hb⟩ := hL i hi
  exact ⟨a, n, c, by rw [h.cell]; exact hc, hb⟩

set_option maxRecDepth 100000 in
set_option maxHeartbeats 400000 in
theorem refVer_core (w : World) (x y : Nat) (hx : x ≤ 1099511627776) (hy : y ≤ 1099511627776) : Calls Try.prog 54 #[verV x y] w (Gives w (verB x y)) := by
  go_enter Try.func54, Try.ntmps54
  go_wp2_with fail
  refine (refEpoch_core w x y hx).mono ?_
  rintro e w1 ⟨rfl, rfl⟩
  go_wp2_with fail
  refine (refInt_core w x (by omega) (by omega)).mono ?_
  intro e w1 h1
  obtain ⟨a1, n1, c1, rfl, y1, b1⟩ := h1.gives
  have HB1 := Lib.hid b1
  have HY1 := Lib.hid y1
  clear b1 y1 h1
  go_wp2_with fail
  refine (refNum_core w1 x y hy).mono ?_
  rintro e w2 ⟨rfl, rfl⟩
  go_wp2_with fail
  refine (refInt_core w1 y (by omega) (by omega)).mono ?_
  intro e w2 h2
  obtain ⟨a2, n2, c2, rfl, y2, b2⟩ := h2.gives
  have HB2 := Lib.hid b2
  have HY2 := Lib.hid y2
  clear b2 y2 h2
  go_wp2_with fail
  have bn : Below w2.heap.size w2 (w2.alloc (.cells #[.slice a1 n1 c1, .slice a2 n2 c2] 24)) := (Below.refl _ _).alloc (Nat.le_refl _) _
  have l1 := Pure.enc_len (x : Int) (by omega) (by omega)
  have l2 := Pure.enc_len (y : Int) (by omega) (by omega)
  refine (cat_core _ w2.heap.size 2 [Pure.enc x, Pure.enc y] rfl (by omega) (Parts.one (Whole.fresh w2 24 _) ?_) (by simp; omega)).mono ?_
  · intro i hi
    rcases i with _ | _ | i
    · exact ⟨_, _, _, rfl, (HY1.out.keep HB2.out).keep bn⟩
    · exact ⟨_, _, _, rfl, HY2.out.keep bn⟩
    · simp at hi; omega
  intro e w3 h3
  obtain ⟨a3, n3, c3, rfl, y3, b3⟩ := h3
  go_wp2
  go_ret
  refine ⟨_, _, _, rfl, ?_, ((HB1.out.trans (HB2.out.mono HB1.out.size)).trans ((bn.trans (b3.mono bn.size)).mono (Nat.le_trans HB1.out.size HB2.out.size)))⟩
  simpa [verB] using y3
end Go.Proofs.Ytjpaljiielemgaa
