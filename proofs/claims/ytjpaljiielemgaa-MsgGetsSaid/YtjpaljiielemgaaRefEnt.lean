/- The document's answer's 'Entry'. -/
import Derived.Test.YtjpaljiielemgaaRefCat
import Derived.Test.YtjpaljiielemgaaEntPure
import Derived.Test.YtjpaljiielemgaaOrd
namespace Go.Proofs.Ytjpaljiielemgaa
open Go.RowKit

set_option maxRecDepth 100000 in
set_option maxHeartbeats 4000000 in
theorem refEnt_core (w : World) (x y : Nat) (k : Int) (a b : ByteArray) (s t : Bool) (l m n : Int) (c : ByteArray) (u : Bool) (hx : x ≤ 1099511627776) (hy : y ≤ 1099511627776) (hk : -9223372036854775808 ≤ k ∧ k ≤ 9223372036854775807) (hl : -9223372036854775808 ≤ l ∧ l ≤ 9223372036854775807) (hm : -9223372036854775808 ≤ m ∧ m ≤ 9223372036854775807) (hn : -9223372036854775808 ≤ n ∧ n ≤ 9223372036854775807) (ha : a.size ≤ 65536) (hb : b.size ≤ 65536) (hc : c.size ≤ 65536) :
    Calls Try.prog 33 #[.agg #[verV x y, .int .i64 k, .string a, .string b, .bool s, .bool t, .int .i64 l, .int .i64 m, .int .i64 n, .string c, .bool u]] w (Gives w (entB x y k a b s t l m n c u)) := by
  go_enter Try.func33, Try.ntmps33
  go_wp2_with fail
  have s0 : Whole (w.alloc (.cells #[verV x y, .int .i64 k, .string a, .string b, .bool s, .bool t, .int .i64 l, .int .i64 m, .int .i64 n, .string c, .bool u] 48)) w.heap.size 48 #[verV x y, .int .i64 k, .string a, .string b, .bool s, .bool t, .int .i64 l, .int .i64 m, .int .i64 n, .string c, .bool u] := Whole.fresh w 48 _
  have d0 : Below w.heap.size w (w.alloc (.cells #[verV x y, .int .i64 k, .string a, .string b, .bool s, .bool t, .int .i64 l, .int .i64 m, .int .i64 n, .string c, .bool u] 48)) := (Below.refl _ _).alloc (Nat.le_refl _) _
  replace s0 := Lib.hid s0; replace d0 := Lib.hid d0
  refine wp_region_chain (fun w' => Whole w' w.heap.size 48 #[verV x y, .int .i64 k, .string a, .string b, .bool s, .bool t, .int .i64 l, .int .i64 m, .int .i64 n, .string c, .bool u]) [(true, 0), (true, 1), (true, 3), (true, 4), (true, 6), (true, 7), (true, 9), (true, 10), (true, 12), (true, 13), (true, 15), (true, 16), (true, 18), (true, 19), (true, 21), (true, 22), (true, 24), (true, 25), (true, 27), (true, 28), (true, 30), (true, 31), (false, 2), (false, 5), (false, 8), (false, 11), (false, 14), (false, 17), (false, 20), (false, 23), (false, 26), (false, 29), (false, 32), (false, 33), (false, 34), (true, 35)] (by kernel_rfl) (by kernel_rfl) (fun _ _ d _ _ h => by cases d <;> exact h) s0.out ?_
  apply chain_take rfl rfl
  · intro w' hS
    go_simp
    with_reducible rfl
  simp only [List.getElem_toArray, List.getElem_cons_zero, Act.put, List.setIfInBounds_toArray, List.set_cons_zero, List.set_cons_succ]
  apply chain_take rfl rfl
  · intro w' hS
    have c0 := hS.cell 0
    simp only [List.getElem?_toArray, List.getElem?_cons_zero] at c0
    go_simp
    with_reducible rfl
  simp only [List.getElem_toArray, List.getElem_cons_succ, List.getElem_cons_zero, Act.put, List.setIfInBounds_toArray, List.set_cons_zero, List.set_cons_succ]
  apply chain_take rfl rfl
  · intro w' hS
    go_simp
    with_reducible rfl
  simp only [List.getElem_toArray, List.getElem_cons_succ, List.getElem_cons_zero, Act.put, List.setIfInBounds_toArray, List.set_cons_zero, List.set_cons_succ]
  apply chain_take rfl rfl
  · intro w' hS
    have c0 := hS.cell 1
    simp only [List.getElem?_toArray, List.getElem?_cons_succ, List.getElem?_cons_zero] at c0
    go_simp
    with_reducible rfl
  simp only [List.getElem_toArray, List.getElem_cons_succ, List.getElem_cons_zero, Act.put, List.setIfInBounds_toArray, List.set_cons_zero, List.set_cons_succ]
  apply chain_take rfl rfl
  · intro w' hS
    go_simp
    with_reducible rfl
  simp only [List.getElem_toArray, List.getElem_cons_succ, List.getElem_cons_zero, Act.put, List.setIfInBounds_toArray, List.set_cons_zero, List.set_cons_succ]
  apply chain_take rfl rfl
  · intro w' hS
    have c0 := hS.cell 2
    simp only [List.getElem?_toArray, List.getElem?_cons_succ, List.getElem?_cons_zero] at c0
    go_simp
    with_reducible rfl
  simp only [List.getElem_toArray, List.getElem_cons_succ, List.getElem_cons_zero, Act.put, List.setIfInBounds_toArray, List.set_cons_zero, List.set_cons_succ]
  apply chain_take rfl rfl
  · intro w' hS
    go_simp
    with_reducible rfl
  simp only [List.getElem_toArray, List.getElem_cons_succ, List.getElem_cons_zero, Act.put, List.setIfInBounds_toArray, List.set_cons_zero, List.set_cons_succ]
  apply chain_take rfl rfl
  · intro w' hS
    have c0 := hS.cell 3
    simp only [List.getElem?_toArray, List.getElem?_cons_succ, List.getElem?_cons_zero] at c0
    go_simp
    with_reducible rfl
  simp only [List.getElem_toArray, List.getElem_cons_succ, List.getElem_cons_zero, Act.put, List.setIfInBounds_toArray, List.set_cons_zero, List.set_cons_succ]
  apply chain_take rfl rfl
  · intro w' hS
    go_simp
    with_reducible rfl
  simp only [List.getElem_toArray, List.getElem_cons_succ, List.getElem_cons_zero, Act.put, List.setIfInBounds_toArray, List.set_cons_zero, List.set_cons_succ]
  apply chain_take rfl rfl
  · intro w' hS
    have c0 := hS.cell 4
    simp only [List.getElem?_toArray, List.getElem?_cons_succ, List.getElem?_cons_zero] at c0
    go_simp
    with_reducible rfl
  simp only [List.getElem_toArray, List.getElem_cons_succ, List.getElem_cons_zero, Act.put, List.setIfInBounds_toArray, List.set_cons_zero, List.set_cons_succ]
  apply chain_take rfl rfl
  · intro w' hS
    go_simp
    with_reducible rfl
  simp only [List.getElem_toArray, List.getElem_cons_succ, List.getElem_cons_zero, Act.put, List.setIfInBounds_toArray, List.set_cons_zero, List.set_cons_succ]
  apply chain_take rfl rfl
  · intro w' hS
    have c0 := hS.cell 5
    simp only [List.getElem?_toArray, List.getElem?_cons_succ, List.getElem?_cons_zero] at c0
    go_simp
    with_reducible rfl
  simp only [List.getElem_toArray, List.getElem_cons_succ, List.getElem_cons_zero, Act.put, List.setIfInBounds_toArray, List.set_cons_zero, List.set_cons_succ]
  apply chain_take rfl rfl
  · intro w' hS
    go_simp
    with_reducible rfl
  simp only [List.getElem_toArray, List.getElem_cons_succ, List.getElem_cons_zero, Act.put, List.setIfInBounds_toArray, List.set_cons_zero, List.set_cons_succ]
  apply chain_take rfl rfl
  · intro w' hS
    have c0 := hS.cell 6
    simp only [List.getElem?_toArray, List.getElem?_cons_succ, List.getElem?_cons_zero] at c0
    go_simp
    with_reducible rfl
  simp only [List.getElem_toArray, List.getElem_cons_succ, List.getElem_cons_zero, Act.put, List.setIfInBounds_toArray, List.set_cons_zero, List.set_cons_succ]
  apply chain_take rfl rfl
  · intro w' hS
    go_simp
    with_reducible rfl
  simp only [List.getElem_toArray, List.getElem_cons_succ, List.getElem_cons_zero, Act.put, List.setIfInBounds_toArray, List.set_cons_zero, List.set_cons_succ]
  apply chain_take rfl rfl
  · intro w' hS
    have c0 := hS.cell 7
    simp only [List.getElem?_toArray, List.getElem?_cons_succ, List.getElem?_cons_zero] at c0
    go_simp
    with_reducible rfl
  simp only [List.getElem_toArray, List.getElem_cons_succ, List.getElem_cons_zero, Act.put, List.setIfInBounds_toArray, List.set_cons_zero, List.set_cons_succ]
  apply chain_take rfl rfl
  · intro w' hS
    go_simp
    with_reducible rfl
  simp only [List.getElem_toArray, List.getElem_cons_succ, List.getElem_cons_zero, Act.put, List.setIfInBounds_toArray, List.set_cons_zero, List.set_cons_succ]
  apply chain_take rfl rfl
  · intro w' hS
    have c0 := hS.cell 8
    simp only [List.getElem?_toArray, List.getElem?_cons_succ, List.getElem?_cons_zero] at c0
    go_simp
    with_reducible rfl
  simp only [List.getElem_toArray, List.getElem_cons_succ, List.getElem_cons_zero, Act.put, List.setIfInBounds_toArray, List.set_cons_zero, List.set_cons_succ]
  apply chain_take rfl rfl
  · intro w' hS
    go_simp
    with_reducible rfl
  simp only [List.getElem_toArray, List.getElem_cons_succ, List.getElem_cons_zero, Act.put, List.setIfInBounds_toArray, List.set_cons_zero, List.set_cons_succ]
  apply chain_take rfl rfl
  · intro w' hS
    have c0 := hS.cell 9
    simp only [List.getElem?_toArray, List.getElem?_cons_succ, List.getElem?_cons_zero] at c0
    go_simp
    with_reducible rfl
  simp only [List.getElem_toArray, List.getElem_cons_succ, List.getElem_cons_zero, Act.put, List.setIfInBounds_toArray, List.set_cons_zero, List.set_cons_succ]
  apply chain_take rfl rfl
  · intro w' hS
    go_simp
    with_reducible rfl
  simp only [List.getElem_toArray, List.getElem_cons_succ, List.getElem_cons_zero, Act.put, List.setIfInBounds_toArray, List.set_cons_zero, List.set_cons_succ]
  apply chain_take rfl rfl
  · intro w' hS
    have c0 := hS.cell 10
    simp only [List.getElem?_toArray, List.getElem?_cons_succ, List.getElem?_cons_zero] at c0
    go_simp
    with_reducible rfl
  simp only [List.getElem_toArray, List.getElem_cons_succ, List.getElem_cons_zero, Act.put, List.setIfInBounds_toArray, List.set_cons_zero, List.set_cons_succ]
  refine chain_go rfl ?_
  go_wp2_with fail
  refine (refVer_core _ x y (by omega) (by omega)).mono ?_
  rintro e w1 ⟨a1, n1, c1, rfl, y1, b1⟩
  replace b1 : Below (w.alloc (.cells #[verV x y, .int .i64 k, .string a, .string b, .bool s, .bool t, .int .i64 l, .int .i64 m, .int .i64 n, .string c, .bool u] 48)).heap.size (w.alloc (.cells #[verV x y, .int .i64 k, .string a, .string b, .bool s, .bool t, .int .i64 l, .int .i64 m, .int .i64 n, .string c, .bool u] 48)) w1 := ⟨b1.os, b1.tape, b1.output, b1.size, b1.block⟩
  have s1 := s0.out.below b1 s0.out.lt
  have d1 := d0.out.trans (b1.mono d0.out.size)
  replace s1 := Lib.hid s1
  replace d1 := Lib.hid d1
  replace b1 := Lib.hid b1
  replace y1 := Lib.hid y1
  go_wp2_with fail
  refine ⟨s1.out, ?_⟩
  refine chain_go rfl ?_
  go_wp2_with fail
  refine (refInt_core _ k (by omega) (by omega)).mono ?_
  intro e w2 h2
  obtain ⟨a2, n2, c2, rfl, y2, b2⟩ := h2.gives
  clear h2
  have s2 := s1.out.below b2 s1.out.lt
  have d2 := d1.out.trans (b2.mono d1.out.size)
  replace s2 := Lib.hid s2
  replace d2 := Lib.hid d2
  replace b2 := Lib.hid b2
  replace y2 := Lib.hid y2
  go_wp2_with fail
  refine ⟨s2.out, ?_⟩
  refine chain_go rfl ?_
  go_wp2_with fail
  refine (refText_core _ a (by omega)).mono ?_
  intro e w3 h3
  obtain ⟨a3, n3, c3, rfl, y3, b3⟩ := h3.gives
  clear h3
  have s3 := s2.out.below b3 s2.out.lt
  have d3 := d2.out.trans (b3.mono d2.out.size)
  replace s3 := Lib.hid s3
  replace d3 := Lib.hid d3
  replace b3 := Lib.hid b3
  replace y3 := Lib.hid y3
  go_wp2_with fail
  refine ⟨s3.out, ?_⟩
  refine chain_go rfl ?_
  go_wp2_with fail
  refine (refText_core _ b (by omega)).mono ?_
  intro e w4 h4
  obtain ⟨a4, n4, c4, rfl, y4, b4⟩ := h4.gives
  clear h4
  have s4 := s3.out.below b4 s3.out.lt
  have d4 := d3.out.trans (b4.mono d3.out.size)
  replace s4 := Lib.hid s4
  replace d4 := Lib.hid d4
  replace b4 := Lib.hid b4
  replace y4 := Lib.hid y4
  go_wp2_with fail
  refine ⟨s4.out, ?_⟩
  refine chain_go rfl ?_
  go_wp2_with fail
  refine (refBit_core _ s).mono ?_
  rintro e w5 ⟨a5, n5, c5, rfl, y5, b5⟩
  have s5 := s4.out.below b5 s4.out.lt
  have d5 := d4.out.trans (b5.mono d4.out.size)
  replace s5 := Lib.hid s5
  replace d5 := Lib.hid d5
  replace b5 := Lib.hid b5
  replace y5 := Lib.hid y5
  go_wp2_with fail
  refine ⟨s5.out, ?_⟩
  refine chain_go rfl ?_
  go_wp2_with fail
  refine (refBit_core _ t).mono ?_
  rintro e w6 ⟨a6, n6, c6, rfl, y6, b6⟩
  have s6 := s5.out.below b6 s5.out.lt
  have d6 := d5.out.trans (b6.mono d5.out.size)
  replace s6 := Lib.hid s6
  replace d6 := Lib.hid d6
  replace b6 := Lib.hid b6
  replace y6 := Lib.hid y6
  go_wp2_with fail
  refine ⟨s6.out, ?_⟩
  refine chain_go rfl ?_
  go_wp2_with fail
  refine (refInt_core _ l (by omega) (by omega)).mono ?_
  intro e w7 h7
  obtain ⟨a7, n7, c7, rfl, y7, b7⟩ := h7.gives
  clear h7
  have s7 := s6.out.below b7 s6.out.lt
  have d7 := d6.out.trans (b7.mono d6.out.size)
  replace s7 := Lib.hid s7
  replace d7 := Lib.hid d7
  replace b7 := Lib.hid b7
  replace y7 := Lib.hid y7
  go_wp2_with fail
  refine ⟨s7.out, ?_⟩
  refine chain_go rfl ?_
  go_wp2_with fail
  refine (refInt_core _ m (by omega) (by omega)).mono ?_
  intro e w8 h8
  obtain ⟨a8, n8, c8, rfl, y8, b8⟩ := h8.gives
  clear h8
  have s8 := s7.out.below b8 s7.out.lt
  have d8 := d7.out.trans (b8.mono d7.out.size)
  replace s8 := Lib.hid s8
  replace d8 := Lib.hid d8
  replace b8 := Lib.hid b8
  replace y8 := Lib.hid y8
  go_wp2_with fail
  refine ⟨s8.out, ?_⟩
  refine chain_go rfl ?_
  go_wp2_with fail
  refine (refInt_core _ n (by omega) (by omega)).mono ?_
  intro e w9 h9
  obtain ⟨a9, n9, c9, rfl, y9, b9⟩ := h9.gives
  clear h9
  have s9 := s8.out.below b9 s8.out.lt
  have d9 := d8.out.trans (b9.mono d8.out.size)
  replace s9 := Lib.hid s9
  replace d9 := Lib.hid d9
  replace b9 := Lib.hid b9
  replace y9 := Lib.hid y9
  go_wp2_with fail
  refine ⟨s9.out, ?_⟩
  refine chain_go rfl ?_
  go_wp2_with fail
  refine (refText_core _ c (by omega)).mono ?_
  intro e w10 h10
  obtain ⟨a10, n10, c10, rfl, y10, b10⟩ := h10.gives
  clear h10
  have s10 := s9.out.below b10 s9.out.lt
  have d10 := d9.out.trans (b10.mono d9.out.size)
  replace s10 := Lib.hid s10
  replace d10 := Lib.hid d10
  replace b10 := Lib.hid b10
  replace y10 := Lib.hid y10
  go_wp2_with fail
  refine ⟨s10.out, ?_⟩
  refine chain_go rfl ?_
  go_wp2_with fail
  refine (refBit_core _ u).mono ?_
  rintro e w11 ⟨a11, n11, c11, rfl, y11, b11⟩
  have s11 := s10.out.below b11 s10.out.lt
  have d11 := d10.out.trans (b11.mono d10.out.size)
  replace s11 := Lib.hid s11
  replace d11 := Lib.hid d11
  replace b11 := Lib.hid b11
  replace y11 := Lib.hid y11
  go_wp2_with fail
  refine ⟨s11.out, ?_⟩
  have bn : Below w11.heap.size w11 (w11.alloc (.cells #[.slice a1 n1 c1, .slice a2 n2 c2, .slice a3 n3 c3, .slice a4 n4 c4, .slice a5 n5 c5, .slice a6 n6 c6, .slice a7 n7 c7, .slice a8 n8 c8, .slice a9 n9 c9, .slice a10 n10 c10, .slice a11 n11 c11] 24)) := (Below.refl _ _).alloc (Nat.le_refl _) _
  have sn := s11.out.alloc (.cells #[.slice a1 n1 c1, .slice a2 n2 c2, .slice a3 n3 c3, .slice a4 n4 c4, .slice a5 n5 c5, .slice a6 n6 c6, .slice a7 n7 c7, .slice a8 n8 c8, .slice a9 n9 c9, .slice a10 n10 c10, .slice a11 n11 c11] 24)
  replace bn := Lib.hid bn; replace sn := Lib.hid sn
  refine chain_go rfl ?_
  go_wp2_with fail
  refine ⟨sn.out, ?_⟩
  refine chain_go rfl ?_
  go_wp2_with fail
  have l1 := Pure.enc_len (x : Int) (by omega) (by omega)
  have m1 := Pure.enc_len (y : Int) (by omega) (by omega)
  have l2 := Pure.enc_len k (by omega) (by omega)
  have l3 := txt_len a.data.toList (by show a.size ≤ _; omega)
  have m3 : a.data.toList.length = a.size := by simp
  have l4 := txt_len b.data.toList (by show b.size ≤ _; omega)
  have m4 : b.data.toList.length = b.size := by simp
  have l7 := Pure.enc_len l (by omega) (by omega)
  have l8 := Pure.enc_len m (by omega) (by omega)
  have l9 := Pure.enc_len n (by omega) (by omega)
  have l10 := txt_len c.data.toList (by show c.size ≤ _; omega)
  have m10 : c.data.toList.length = c.size := by simp
  refine (cat_core _ w11.heap.size 11 [verB x y, Pure.enc k, txt a.data.toList, txt b.data.toList, bit s, bit t, Pure.enc l, Pure.enc m, Pure.enc n, txt c.data.toList, bit u] rfl (by omega) (Parts.one (Whole.fresh w11 24 _) ?_) (by simp only [List.flatten_cons, List.flatten_nil, List.append_nil, List.length_append, verB, bit, List.length_cons, List.length_nil]; omega)).mono ?_
  · intro i hi
    rcases i with _ | _ | _ | _ | _ | _ | _ | _ | _ | _ | _ | i
    · exact ⟨_, _, _, rfl, ((((((((((y1.out.keep b2.out).keep b3.out).keep b4.out).keep b5.out).keep b6.out).keep b7.out).keep b8.out).keep b9.out).keep b10.out).keep b11.out).keep bn.out⟩
    · exact ⟨_, _, _, rfl, (((((((((y2.out.keep b3.out).keep b4.out).keep b5.out).keep b6.out).keep b7.out).keep b8.out).keep b9.out).keep b10.out).keep b11.out).keep bn.out⟩
    · exact ⟨_, _, _, rfl, ((((((((y3.out.keep b4.out).keep b5.out).keep b6.out).keep b7.out).keep b8.out).keep b9.out).keep b10.out).keep b11.out).keep bn.out⟩
    · exact ⟨_, _, _, rfl, (((((((y4.out.keep b5.out).keep b6.out).keep b7.out).keep b8.out).keep b9.out).keep b10.out).keep b11.out).keep bn.out⟩
    · exact ⟨_, _, _, rfl, ((((((y5.out.keep b6.out).keep b7.out).keep b8.out).keep b9.out).keep b10.out).keep b11.out).keep bn.out⟩
    · exact ⟨_, _, _, rfl, (((((y6.out.keep b7.out).keep b8.out).keep b9.out).keep b10.out).keep b11.out).keep bn.out⟩
    · exact ⟨_, _, _, rfl, ((((y7.out.keep b8.out).keep b9.out).keep b10.out).keep b11.out).keep bn.out⟩
    · exact ⟨_, _, _, rfl, (((y8.out.keep b9.out).keep b10.out).keep b11.out).keep bn.out⟩
    · exact ⟨_, _, _, rfl, ((y9.out.keep b10.out).keep b11.out).keep bn.out⟩
    · exact ⟨_, _, _, rfl, (y10.out.keep b11.out).keep bn.out⟩
    · exact ⟨_, _, _, rfl, y11.out.keep bn.out⟩
    · simp at hi; omega
  rintro e we ⟨ae, ne, ce, rfl, ye, be⟩
  have se := sn.out.below be sn.out.lt
  have de := d11.out.trans ((bn.out.trans (be.mono bn.out.size)).mono d11.out.size)
  replace se := Lib.hid se; replace de := Lib.hid de; replace ye := Lib.hid ye; clear be
  go_wp2_with fail
  refine ⟨se.out, ?_⟩
  apply chain_take rfl rfl
  · intro w' hS
    go_simp
    with_reducible rfl
  simp only [List.getElem_toArray, List.getElem_cons_succ, List.getElem_cons_zero, Act.put, List.setIfInBounds_toArray, List.set_cons_zero, List.set_cons_succ]
  apply chain_end
  go_wp2
  go_ret
  refine ⟨_, _, _, rfl, ?_, de.out⟩
  simpa [entB, List.append_assoc] using ye.out
end Go.Proofs.Ytjpaljiielemgaa
