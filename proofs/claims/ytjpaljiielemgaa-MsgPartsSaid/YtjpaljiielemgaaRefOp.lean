/- The document's answer's 'Op'. -/
import Derived.Test.YtjpaljiielemgaaRefCat
import Derived.Test.YtjpaljiielemgaaEntPure
import Derived.Test.YtjpaljiielemgaaOrd
namespace Go.Proofs.Ytjpaljiielemgaa
open Go.RowKit

set_option maxRecDepth 100000 in
set_option maxHeartbeats 4000000 in
theorem refOp_core (w : World) (k : Int) (a b c : ByteArray) (t : Bool) (hk : -9223372036854775808 ≤ k ∧ k ≤ 9223372036854775807) (ha : a.size ≤ 65536) (hb : b.size ≤ 65536) (hc : c.size ≤ 65536) :
    Calls Try.prog 34 #[.agg #[.int .i64 k, .string a, .string b, .string c, .bool t]] w (Gives w (opB k a b c t)) := by
  go_enter Try.func34, Try.ntmps34
  go_wp2_with fail
  have s0 : Whole (w.alloc (.cells #[.int .i64 k, .string a, .string b, .string c, .bool t] 52)) w.heap.size 52 #[.int .i64 k, .string a, .string b, .string c, .bool t] := Whole.fresh w 52 _
  have d0 : Below w.heap.size w (w.alloc (.cells #[.int .i64 k, .string a, .string b, .string c, .bool t] 52)) := (Below.refl _ _).alloc (Nat.le_refl _) _
  replace s0 := Lib.hid s0; replace d0 := Lib.hid d0
  refine wp_region_chain (fun w' => Whole w' w.heap.size 52 #[.int .i64 k, .string a, .string b, .string c, .bool t]) [(true, 0), (true, 1), (true, 3), (true, 4), (true, 6), (true, 7), (true, 9), (true, 10), (true, 12), (true, 13), (false, 2), (false, 5), (false, 8), (false, 11), (false, 14), (false, 15), (false, 16), (true, 17)] (by kernel_rfl) (by kernel_rfl) (fun _ _ d _ _ h => by cases d <;> exact h) s0.out ?_
  apply chain_take rfl rfl
  · intro w' hS
    go_simp
    with_reducible rfl
  simp only [List.getElem_toArray, List.getElem_cons_zero, Act.put, List.setIfInBounds_toArray, List.set_cons_zero, List.set_cons_succ]
  apply chain_take rfl rfl
  · intro w' hS
    have c0 := hS.cell 0
    simp only [List.getElem?_toArray, List.getElem?_cons_zero] at c0
    go_simp
    with_reducible rfl
  simp only [List.getElem_toArray, List.getElem_cons_succ, List.getElem_cons_zero, Act.put, List.setIfInBounds_toArray, List.set_cons_zero, List.set_cons_succ]
  apply chain_take rfl rfl
  · intro w' hS
    go_simp
    with_reducible rfl
  simp only [List.getElem_toArray, List.getElem_cons_succ, List.getElem_cons_zero, Act.put, List.setIfInBounds_toArray, List.set_cons_zero, List.set_cons_succ]
  apply chain_take rfl rfl
  · intro w' hS
    have c0 := hS.cell 1
    simp only [List.getElem?_toArray, List.getElem?_cons_succ, List.getElem?_cons_zero] at c0
    go_simp
    with_reducible rfl
  simp only [List.getElem_toArray, List.getElem_cons_succ, List.getElem_cons_zero, Act.put, List.setIfInBounds_toArray, List.set_cons_zero, List.set_cons_succ]
  apply chain_take rfl rfl
  · intro w' hS
    go_simp
    with_reducible rfl
  simp only [List.getElem_toArray, List.getElem_cons_succ, List.getElem_cons_zero, Act.put, List.setIfInBounds_toArray, List.set_cons_zero, List.set_cons_succ]
  apply chain_take rfl rfl
  · intro w' hS
    have c0 := hS.cell 2
    simp only [List.getElem?_toArray, List.getElem?_cons_succ, List.getElem?_cons_zero] at c0
    go_simp
    with_reducible rfl
  simp only [List.getElem_toArray, List.getElem_cons_succ, List.getElem_cons_zero, Act.put, List.setIfInBounds_toArray, List.set_cons_zero, List.set_cons_succ]
  apply chain_take rfl rfl
  · intro w' hS
    go_simp
    with_reducible rfl
  simp only [List.getElem_toArray, List.getElem_cons_succ, List.getElem_cons_zero, Act.put, List.setIfInBounds_toArray, List.set_cons_zero, List.set_cons_succ]
  apply chain_take rfl rfl
  · intro w' hS
    have c0 := hS.cell 3
    simp only [List.getElem?_toArray, List.getElem?_cons_succ, List.getElem?_cons_zero] at c0
    go_simp
    with_reducible rfl
  simp only [List.getElem_toArray, List.getElem_cons_succ, List.getElem_cons_zero, Act.put, List.setIfInBounds_toArray, List.set_cons_zero, List.set_cons_succ]
  apply chain_take rfl rfl
  · intro w' hS
    go_simp
    with_reducible rfl
  simp only [List.getElem_toArray, List.getElem_cons_succ, List.getElem_cons_zero, Act.put, List.setIfInBounds_toArray, List.set_cons_zero, List.set_cons_succ]
  apply chain_take rfl rfl
  · intro w' hS
    have c0 := hS.cell 4
    simp only [List.getElem?_toArray, List.getElem?_cons_succ, List.getElem?_cons_zero] at c0
    go_simp
    with_reducible rfl
  simp only [List.getElem_toArray, List.getElem_cons_succ, List.getElem_cons_zero, Act.put, List.setIfInBounds_toArray, List.set_cons_zero, List.set_cons_succ]
  refine chain_go rfl ?_
  go_wp2_with fail
  refine (refInt_core _ k (by omega) (by omega)).mono ?_
  intro e w1 h1
  obtain ⟨a1, n1, c1, rfl, y1, b1⟩ := h1.gives
  clear h1
  replace b1 : Below (w.alloc (.cells #[.int .i64 k, .string a, .string b, .string c, .bool t] 52)).heap.size (w.alloc (.cells #[.int .i64 k, .string a, .string b, .string c, .bool t] 52)) w1 := ⟨b1.os, b1.tape, b1.output, b1.size, b1.block⟩
  have s1 := s0.out.below b1 s0.out.lt
  have d1 := d0.out.trans (b1.mono d0.out.size)
  replace s1 := Lib.hid s1
  replace d1 := Lib.hid d1
  replace b1 := Lib.hid b1
  replace y1 := Lib.hid y1
  go_wp2_with fail
  refine ⟨s1.out, ?_⟩
  refine chain_go rfl ?_
  go_wp2_with fail
  refine (refText_core _ a (by omega)).mono ?_
  intro e w2 h2
  obtain ⟨a2, n2, c2, rfl, y2, b2⟩ := h2.gives
  clear h2
  have s2 := s1.out.below b2 s1.out.lt
  have d2 := d1.out.trans (b2.mono d1.out.size)
  replace s2 := Lib.hid s2
  replace d2 := Lib.hid d2
  replace b2 := Lib.hid b2
  replace y2 := Lib.hid y2
  go_wp2_with fail
  refine ⟨s2.out, ?_⟩
  refine chain_go rfl ?_
  go_wp2_with fail
  refine (refText_core _ b (by omega)).mono ?_
  intro e w3 h3
  obtain ⟨a3, n3, c3, rfl, y3, b3⟩ := h3.gives
  clear h3
  have s3 := s2.out.below b3 s2.out.lt
  have d3 := d2.out.trans (b3.mono d2.out.size)
  replace s3 := Lib.hid s3
  replace d3 := Lib.hid d3
  replace b3 := Lib.hid b3
  replace y3 := Lib.hid y3
  go_wp2_with fail
  refine ⟨s3.out, ?_⟩
  refine chain_go rfl ?_
  go_wp2_with fail
  refine (refText_core _ c (by omega)).mono ?_
  intro e w4 h4
  obtain ⟨a4, n4, c4, rfl, y4, b4⟩ := h4.gives
  clear h4
  have s4 := s3.out.below b4 s3.out.lt
  have d4 := d3.out.trans (b4.mono d3.out.size)
  replace s4 := Lib.hid s4
  replace d4 := Lib.hid d4
  replace b4 := Lib.hid b4
  replace y4 := Lib.hid y4
  go_wp2_with fail
  refine ⟨s4.out, ?_⟩
  refine chain_go rfl ?_
  go_wp2_with fail
  refine (refBit_core _ t).mono ?_
  rintro e w5 ⟨a5, n5, c5, rfl, y5, b5⟩
  have s5 := s4.out.below b5 s4.out.lt
  have d5 := d4.out.trans (b5.mono d4.out.size)
  replace s5 := Lib.hid s5
  replace d5 := Lib.hid d5
  replace b5 := Lib.hid b5
  replace y5 := Lib.hid y5
  go_wp2_with fail
  refine ⟨s5.out, ?_⟩
  have bn : Below w5.heap.size w5 (w5.alloc (.cells #[.slice a1 n1 c1, .slice a2 n2 c2, .slice a3 n3 c3, .slice a4 n4 c4, .slice a5 n5 c5] 24)) := (Below.refl _ _).alloc (Nat.le_refl _) _
  have sn := s5.out.alloc (.cells #[.slice a1 n1 c1, .slice a2 n2 c2, .slice a3 n3 c3, .slice a4 n4 c4, .slice a5 n5 c5] 24)
  replace bn := Lib.hid bn; replace sn := Lib.hid sn
  refine chain_go rfl ?_
  go_wp2_with fail
  refine ⟨sn.out, ?_⟩
  refine chain_go rfl ?_
  go_wp2_with fail
  have l1 := Pure.enc_len k (by omega) (by omega)
  have l2 := txt_len a.data.toList (by show a.size ≤ _; omega)
  have m2 : a.data.toList.length = a.size := by simp
  have l3 := txt_len b.data.toList (by show b.size ≤ _; omega)
  have m3 : b.data.toList.length = b.size := by simp
  have l4 := txt_len c.data.toList (by show c.size ≤ _; omega)
  have m4 : c.data.toList.length = c.size := by simp
  refine (cat_core _ w5.heap.size 5 [Pure.enc k, txt a.data.toList, txt b.data.toList, txt c.data.toList, bit t] rfl (by omega) (Parts.one (Whole.fresh w5 24 _) ?_) (by simp only [List.flatten_cons, List.flatten_nil, List.append_nil, List.length_append, bit, List.length_cons, List.length_nil]; omega)).mono ?_
  · intro i hi
    rcases i with _ | _ | _ | _ | _ | i
    · exact ⟨_, _, _, rfl, ((((y1.out.keep b2.out).keep b3.out).keep b4.out).keep b5.out).keep bn.out⟩
    · exact ⟨_, _, _, rfl, (((y2.out.keep b3.out).keep b4.out).keep b5.out).keep bn.out⟩
    · exact ⟨_, _, _, rfl, ((y3.out.keep b4.out).keep b5.out).keep bn.out⟩
    · exact ⟨_, _, _, rfl, (y4.out.keep b5.out).keep bn.out⟩
    · exact ⟨_, _, _, rfl, y5.out.keep bn.out⟩
    · simp at hi; omega
  rintro e we ⟨ae, ne, ce, rfl, ye, be⟩
  have se := sn.out.below be sn.out.lt
  have de := d5.out.trans ((bn.out.trans (be.mono bn.out.size)).mono d5.out.size)
  replace se := Lib.hid se; replace de := Lib.hid de; replace ye := Lib.hid ye; clear be
  go_wp2_with fail
  refine ⟨se.out, ?_⟩
  apply chain_take rfl rfl
  · intro w' hS
    go_simp
    with_reducible rfl
  simp only [List.getElem_toArray, List.getElem_cons_succ, List.getElem_cons_zero, Act.put, List.setIfInBounds_toArray, List.set_cons_zero, List.set_cons_succ]
  apply chain_end
  go_wp2
  go_ret
  refine ⟨_, _, _, rfl, ?_, de.out⟩
  simpa [opB, List.append_assoc] using ye.out
end Go.Proofs.Ytjpaljiielemgaa
