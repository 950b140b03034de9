/- The document's answer's image and message. -/
import Derived.Test.YtjpaljiielemgaaMRefLst
namespace Go.Proofs.Ytjpaljiielemgaa
open Go.RowKit
attribute [local go_sem] store_cplx

set_option maxRecDepth 100000 in
set_option maxHeartbeats 400000 in
theorem catP_core (w : World) (gs K : Nat) (L : List (List UInt8)) (hK : L.length = K) (hK1 : K ≤ 1000) (hp : Parts w gs L) (hl : L.flatten.length ≤ 35184372088832) :
    Calls Try.prog 53 #[.slice (some ⟨gs, 0, none⟩) K K] w (Puts w (.slice none 0 0) L.flatten) := by
  have HP := Lib.hid hp
  have HK := Lib.hid hK
  clear hp hK
  go_enter Try.func53, Try.ntmps53
  go_wp2
  go_loopw [3, 4] (fun v' i wr => ∃ (k : Nat), k ≤ K ∧ i = .int .i64 k ∧ Buf wr v' (L.take k).flatten ∧ Wrote w (.slice none 0 0) wr v') (fun _ i _ => K - (intOf i).toNat)
  case atStart => exact ⟨0, by omega, rfl, by simpa using Buf.nil w, Wrote.refl _ _ ⟨_, _, _, rfl⟩⟩
  case round =>
    obtain ⟨k, hk, rfl, hbr, hwr⟩ := hrel
    by_cases hlt : k < K
    · have hkl : k < L.length := by rw [HK.out]; exact hlt
      obtain ⟨a, n, c, hc, hy⟩ := (HP.out.keep (hwr.new rfl)) k hkl
      have hfl := flat_le L k hkl
      have HY := Lib.hid hy
      have HF := Lib.hid hfl
      clear hy hfl
      go_wp2_with (at_builtin; refine wpList_app rfl (.tmp 11) (.tmp 15) 24 rfl (.inl Try.underlying24) _ (.slice a n c) _ L[k] rfl rfl hbr (src_bytes HY.out) (by have := HF.out; omega) ?_; intro v2 w2 hb2 hw2)
      go_roundw
      case rel =>
        refine ⟨k + 1, by omega, by go_num, ?_, hwr.trans hw2⟩
        rw [flat_take L k hkl]
        exact hb2
      case measure => simp [intOf]; omega
    · go_wp2
      go_ret
      have e : k = K := by omega
      subst e
      rw [List.take_of_length_le (by rw [HK.out]; exact Nat.le_refl _)] at hbr
      exact ⟨_, rfl, hbr, hwr⟩

set_option maxRecDepth 100000 in
set_option maxHeartbeats 400000 in
theorem refVerP_core (w : World) (x y : Nat) (hx : x ≤ 1099511627776) (hy : y ≤ 1099511627776) : Calls Try.prog 54 #[verV x y] w (Puts w (.slice none 0 0) (verB x y)) := by
  go_enter Try.func54, Try.ntmps54
  go_wp2_with fail
  refine (refEpoch_core w x y hx).mono ?_
  rintro e w1 ⟨rfl, rfl⟩
  go_wp2_with fail
  refine (refInt_core w x (by omega) (by omega)).mono ?_
  intro e w1 h1
  obtain ⟨a1, n1, c1, rfl, y1, b1⟩ := h1.gives
  have HB1 := Lib.hid b1
  have HY1 := Lib.hid y1
  clear b1 y1 h1
  go_wp2_with fail
  refine (refNum_core w1 x y hy).mono ?_
  rintro e w2 ⟨rfl, rfl⟩
  go_wp2_with fail
  refine (refInt_core w1 y (by omega) (by omega)).mono ?_
  intro e w2 h2
  obtain ⟨a2, n2, c2, rfl, y2, b2⟩ := h2.gives
  have HB2 := Lib.hid b2
  have HY2 := Lib.hid y2
  clear b2 y2 h2
  go_wp2_with fail
  have bn : Below w2.heap.size w2 (w2.alloc (.cells #[.slice a1 n1 c1, .slice a2 n2 c2] 24)) := (Below.refl _ _).alloc (Nat.le_refl _) _
  have l1 := Pure.enc_len (x : Int) (by omega) (by omega)
  have l2 := Pure.enc_len (y : Int) (by omega) (by omega)
  refine (catP_core _ w2.heap.size 2 [Pure.enc x, Pure.enc y] rfl (by omega) (Parts.one (Whole.fresh w2 24 _) ?_) (by simp; omega)).mono ?_
  · intro i hi
    rcases i with _ | _ | i
    · exact ⟨_, _, _, rfl, (HY1.out.keep HB2.out).keep bn⟩
    · exact ⟨_, _, _, rfl, HY2.out.keep bn⟩
    · simp at hi; omega
  rintro e w3 ⟨v3, rfl, y3, b3⟩
  obtain ⟨a3, n3, c3, rfl, _⟩ := y3.parts
  have HY3 := Lib.hid y3
  have HB3 := Lib.hid b3
  have HBN := Lib.hid bn
  clear y3 b3 bn
  go_wp2
  go_ret
  refine ⟨_, rfl, ?_, ?_⟩
  · have y3 := HY3.out
    simpa [verB] using y3
  · exact (Wrote.of_below ⟨_, _, _, rfl⟩ (HB1.out.trans ((HB2.out.trans (HBN.out.mono HB2.out.size)).mono HB1.out.size))).trans HB3.out

set_option maxRecDepth 100000 in
set_option maxHeartbeats 2000000 in
theorem ref_img (w : World) (V : Value) (B : Nat) (E : List UInt8) (h : imgV B w V E) (hl : E.length ≤ 1099511627776) : Calls Try.prog 41 #[V] w (Puts w (.slice none 0 0) E) := by
  obtain ⟨x, y, x', y', g1, L, F, M, G, q1, q2, q3, q4, q5, ql, qm, rfl, q6⟩ := h
  have HK := Lib.hid hl
  have h0 := Whole.new w 62 #[.complex .f64 (Flo.flo x) (Flo.flo y), .complex .f64 (Flo.flo x') (Flo.flo y'), .int .i64 g1, L, M]
  have m0 := h0.cell 0
  have m1 := h0.cell 1
  have m2 := h0.cell 2
  have m3 := h0.cell 3
  have m4 := h0.cell 4
  simp only [List.getElem?_toArray, List.getElem?_cons_succ, List.getElem?_cons_zero] at m0 m1 m2 m3 m4
  have hbl : Below w.heap.size w (w.alloc (.cells #[.complex .f64 (Flo.flo x) (Flo.flo y), .complex .f64 (Flo.flo x') (Flo.flo y'), .int .i64 g1, L, M] 62)) := (Below.refl _ _).alloc (Nat.le_refl _) _
  have HBL := Lib.hid hbl
  have QL := Lib.hid ((fair_lst fair_ent).keep ql (below_above hbl))
  have QM := Lib.hid ((fair_lst fair_seen).keep qm (below_above hbl))
  clear hl h0 ql qm hbl
  go_enter Try.func41, Try.ntmps41
  go_wp2_with fail
  generalize w.alloc (.cells #[.complex .f64 (Flo.flo x) (Flo.flo y), .complex .f64 (Flo.flo x') (Flo.flo y'), .int .i64 g1, L, M] 62) = W0 at m0 m1 m2 m3 m4 HBL QL QM ⊢
  refine wp_region_tree (fun w' => Below W0.heap.size W0 w') (Tr.take 0 (Tr.take 1 (Tr.take 3 (Tr.take 4 (Tr.go 2 (Tr.go 5 (Tr.go 6 (Tr.take 7 Tr.done)))))))) (by kernel_rfl) (by kernel_rfl) (fun _ _ d _ _ h => by cases d <;> exact h) ((Below.refl _ _).drew) ?_
  iterate 4
    apply walk_take rfl rfl
    · intro w' hS
      have c0 := cell_in hS m0
      have c1 := cell_in hS m1
      go_simp
      with_reducible rfl
    simp only [List.getElem_toArray, List.getElem_cons_succ, List.getElem_cons_zero, Act.put, List.setIfInBounds_toArray, List.set_cons_zero, List.set_cons_succ]
  refine tree_go rfl ?_
  go_wp2_with fail
  refine (refVerP_core W0.drew x y q1 q2).mono ?_
  rintro e X1 ⟨u1, rfl, hb1, hw1⟩
  obtain ⟨a1, n1, c1, rfl, _⟩ := hb1.parts
  have HB1 := Lib.hid hb1
  have HW1 := Lib.hid ((Wrote.of_below ⟨_, _, _, rfl⟩ ((Below.refl W0.heap.size W0).drew)).trans hw1)
  clear hb1 hw1
  go_wp2_with fail
  refine ⟨HW1.out.new rfl, ?_⟩
  refine tree_go rfl ?_
  go_wp2_with fail
  refine (refVer_core X1 x' y' q3 q4).mono ?_
  rintro e X2 ⟨a2, n2, c2, rfl, hy2, hb2⟩
  have H3 := Lib.hid (HB1.out.below hb2)
  have H4 := Lib.hid (HW1.out.trans (Wrote.of_below HB1.out.slice hb2))
  have H5 := Lib.hid hy2
  clear hb2 hy2
  go_wp2_with fail
  refine ⟨H4.out.new rfl, ?_⟩
  refine walk_app rfl rfl (.tmp 6) (.tmp 9) rfl (.slice a1 n1 c1) (.slice a2 n2 c2) _ (verB x' y') rfl rfl H3.out H5.out (by have := HK.out; rw [q6] at this; simp only [List.length_append] at this; omega) ?_
  intro v w1 hb3 hw3
  have HW := Lib.hid (H4.out.trans hw3)
  have HB := Lib.hid hb3
  clear hb3 hw3 H3 H4 H5 HB1 HW1
  refine ⟨HW.out.new rfl, ?_⟩
  simp only [List.getElem_toArray, List.getElem_cons_succ, List.getElem_cons_zero, Act.put, List.setIfInBounds_toArray, List.set_cons_zero, List.set_cons_succ]
  apply walk_take rfl rfl
  · intro w' hS
    go_simp
    with_reducible rfl
  simp only [List.getElem_toArray, List.getElem_cons_succ, List.getElem_cons_zero, Act.put, List.setIfInBounds_toArray, List.set_cons_zero, List.set_cons_succ]
  refine walk_end ?_
  have g2 := cell_in (HW.out.new rfl) m2
  go_wp2_with fail
  refine (refInt_core w1 g1 q5.1 q5.2).mono ?_
  rintro e W2 ⟨v', rfl, hb2, hw2⟩
  obtain ⟨a2, n2, c2, rfl, _⟩ := hb2.parts
  have hnew : Below w1.heap.size w1 W2 := hw2.new rfl
  have hy := hb2.bytes
  clear hb2 hw2
  have H3 := Lib.hid (HB.out.below hnew)
  have H4 := Lib.hid (HW.out.trans (Wrote.of_below HB.out.slice hnew))
  have H5 := Lib.hid hy
  clear hnew hy g2
  go_wp2_with (at_builtin; refine wpList_app rfl (.tmp 11) (.tmp 14) 24 rfl (.inl Try.underlying24) v (.slice a2 n2 c2) _ (Pure.enc g1) rfl rfl H3.out (src_bytes H5.out) (by have := HK.out; rw [q6] at this; simp only [List.length_append] at this ⊢; omega) ?_; intro v2 w2 hb3 hw3; have HW2 := Lib.hid (H4.out.trans hw3); have HB2 := Lib.hid hb3; clear hb3 hw3 H3 H4 H5; have g3 := cell_in (HW2.out.new rfl) m3)
  go_wp2_with fail
  refine (ref_ent w2 L B F ((fair_lst fair_ent).keep QL.out (below_above (HW2.out.new rfl))) (by have := HK.out; rw [q6] at this; simp only [List.length_append] at this; omega)).mono ?_
  rintro e W3 ⟨v', rfl, hb2, hw2⟩
  obtain ⟨a3, n3, c3, rfl, _⟩ := hb2.parts
  have hnew : Below w2.heap.size w2 W3 := hw2.new rfl
  have hy := hb2.bytes
  clear hb2 hw2
  have H3 := Lib.hid (HB2.out.below hnew)
  have H4 := Lib.hid (HW2.out.trans (Wrote.of_below HB2.out.slice hnew))
  have H5 := Lib.hid hy
  clear hnew hy
  go_wp2_with (at_builtin; refine wpList_app rfl (.tmp 16) (.tmp 19) 24 rfl (.inl Try.underlying24) v2 (.slice a3 n3 c3) _ (F) rfl rfl H3.out (src_bytes H5.out) (by have := HK.out; rw [q6] at this; simp only [List.length_append] at this ⊢; omega) ?_; intro v3 w3 hb3 hw3; have HW3 := Lib.hid (H4.out.trans hw3); have HB3 := Lib.hid hb3; clear hb3 hw3 H3 H4 H5; have g4 := cell_in (HW3.out.new rfl) m4)
  go_wp2_with fail
  refine (ref_seen w3 M B G ((fair_lst fair_seen).keep QM.out (below_above (HW3.out.new rfl))) (by have := HK.out; rw [q6] at this; simp only [List.length_append] at this; omega)).mono ?_
  rintro e W4 ⟨v', rfl, hb2, hw2⟩
  obtain ⟨a4, n4, c4, rfl, _⟩ := hb2.parts
  have hnew : Below w3.heap.size w3 W4 := hw2.new rfl
  have hy := hb2.bytes
  clear hb2 hw2
  have H3 := Lib.hid (HB3.out.below hnew)
  have H4 := Lib.hid (HW3.out.trans (Wrote.of_below HB3.out.slice hnew))
  have H5 := Lib.hid hy
  clear hnew hy
  go_wp2_with (at_builtin; refine wpList_app rfl (.tmp 21) (.tmp 24) 24 rfl (.inl Try.underlying24) v3 (.slice a4 n4 c4) _ (G) rfl rfl H3.out (src_bytes H5.out) (by have := HK.out; rw [q6] at this; simp only [List.length_append] at this ⊢; omega) ?_; intro v4 w4 hb3 hw3; have HW4 := Lib.hid (H4.out.trans hw3); have HB4 := Lib.hid hb3; clear hb3 hw3 H3 H4 H5)
  go_ret
  refine ⟨_, rfl, ?_, ?_⟩
  · have h7 := HB4.out
    rw [q6]
    simpa [List.append_assoc] using h7
  · exact (Wrote.of_below ⟨_, _, _, rfl⟩ HBL.out).trans HW4.out

end Go.Proofs.Ytjpaljiielemgaa
