/- The document's answer's message; 'Same'. -/
import Derived.Test.YtjpaljiielemgaaMRefImg
namespace Go.Proofs.Ytjpaljiielemgaa
open Go.RowKit
attribute [local go_sem] store_cplx

theorem bnd {acc e rest : List UInt8} {N : Nat} (h : acc.length + (e ++ rest).length ≤ N) : (acc ++ e).length + rest.length ≤ N := by rw [List.length_append] at *; omega
theorem bnd1 {acc e rest : List UInt8} (h : acc.length + (e ++ rest).length ≤ 1099511627776) : acc.length + e.length ≤ 70368744177664 := by rw [List.length_append] at h; omega
theorem bnd2 {acc e rest : List UInt8} (h : acc.length + (e ++ rest).length ≤ 1099511627776) : e.length ≤ 1099511627776 := by rw [List.length_append] at h; omega
def bitN (b : Bool) : Int := ((if b then 1 else 0 : Nat) : Int)
theorem bit6N_core (w : World) (b : Bool) : Calls Try.prog 69 #[.bool b] w fun e w' => e = .returned (.int .u8 (bitN b)) ∧ w = w' := bit6_core w b
theorem bytes_bit2 (w : World) (b c : Bool) : Bytes (w.alloc (.cells #[.int .u8 (bitN b), .int .u8 (bitN c)] 5)) (.slice (some ⟨w.heap.size, 0, none⟩) 2 2) (bit b ++ bit c) := by
  cases b <;> cases c
  · exact (buf_at w _ _ rfl [0, 0] (by decide) rfl).bytes
  · exact (buf_at w _ _ rfl [0, 1] (by decide) rfl).bytes
  · exact (buf_at w _ _ rfl [1, 0] (by decide) rfl).bytes
  · exact (buf_at w _ _ rfl [1, 1] (by decide) rfl).bytes

set_option maxRecDepth 200000 in
set_option maxHeartbeats 8000000 in
theorem ref_msg (w : World) (cs : Array Value) (B : Nat) (E : List UInt8) (hs : cs.size = 31) (h : Row B w cs 0 MF E) (hl : E.length ≤ 1099511627776) : Calls Try.prog 38 #[.agg cs] w (Puts w (.slice none 0 0) E) := by
  obtain ⟨l⟩ := cs
  match l, hs with
  | [c0, c1, c2, c3, c4, c5, c6, c7, c8, c9, c10, c11, c12, c13, c14, c15, c16, c17, c18, c19, c20, c21, c22, c23, c24, c25, c26, c27, c28, c29, c30], _ =>
  obtain ⟨_, _, ⟨n0, p0, d0, rfl⟩, ⟨_, _, ⟨n1, p1, d1, rfl⟩, ⟨_, _, ⟨n2, p2, d2, rfl⟩, ⟨_, _, ⟨n3, p3, d3, rfl⟩, ⟨_, _, ⟨n4, p4, d4, rfl⟩, ⟨_, _, ⟨n5, p5, d5, rfl⟩, ⟨_, _, ⟨n6, p6, d6, rfl⟩, ⟨_, _, ⟨n7, p7, d7, rfl⟩, ⟨_, _, ⟨n8, p8, d8, rfl⟩, ⟨_, _, ⟨n9, p9, d9, rfl⟩, ⟨_, _, ⟨n10, p10, d10, rfl⟩, ⟨_, _, ⟨n11, p11, d11, rfl⟩,
      ⟨_, _, ⟨n12, d12, rfl⟩, ⟨_, _, ⟨n13, d13, rfl⟩, ⟨_, _, ⟨n14, p14, d14, rfl⟩, ⟨_, _, ⟨n15, p15, d15, rfl⟩, ⟨_, _, ⟨n16, m16, p16, r16, d16, rfl⟩, ⟨_, _, ⟨n17, m17, p17, r17, d17, rfl⟩, ⟨_, _, ⟨o1, o2, o3, o4, o5, p18, p19, p20, p21, d18, rfl⟩, ⟨E23, _, h23, ⟨E24, _, h24, ⟨E25, _, h25, ⟨E26, _, h26, rfl, rfl⟩, rfl⟩, rfl⟩, rfl⟩, rfl⟩, rfl⟩, rfl⟩, rfl⟩, rfl⟩, rfl⟩, rfl⟩, rfl⟩, rfl⟩, rfl⟩, rfl⟩, rfl⟩, rfl⟩, rfl⟩, rfl⟩, rfl⟩, rfl⟩, rfl⟩, hE⟩ := h
  replace d0 : c0 = _ := d0
  replace d1 : c1 = _ := d1
  replace d2 : c2 = _ := d2
  replace d3 : c3 = _ := d3
  replace d4 : c4 = _ := d4
  replace d5 : c5 = _ := d5
  replace d6 : c6 = _ := d6
  replace d7 : c7 = _ := d7
  replace d8 : c8 = _ := d8
  replace d9 : c9 = _ := d9
  replace d10 : c10 = _ := d10
  replace d11 : c11 = _ := d11
  replace d12 : c12 = _ := d12
  replace d13 : c13 = _ := d13
  replace d14 : c14 = _ := d14
  replace d15 : c15 = _ := d15
  replace d16 : c16 = _ := d16
  replace d17 : c17 = _ := d17
  replace d18 : Value.agg #[c18, c19, c20, c21, c22] = _ := d18
  simp only [Value.agg.injEq, Array.mk.injEq, List.cons.injEq, and_true] at d18
  obtain ⟨d18, d19, d20, d21, d22⟩ := d18
  replace h23 : lstV 48 11 entV B w c23 E23 := h23
  replace h24 : lstV 110 2 memV B w c24 E24 := h24
  replace h25 : lstV 115 5 viewV B w c25 E25 := h25
  replace h26 : imgV B w (.agg #[c26, c27, c28, c29, c30]) E26 := h26
  have h26' := h26
  obtain ⟨ix, iy, ix', iy', ig, iL, iF, iM, iG, _, _, _, _, _, _, _, d26, _⟩ := h26'
  simp only [Value.agg.injEq, Array.mk.injEq, List.cons.injEq, and_true] at d26
  obtain ⟨d26, d27, d28, d29, d30⟩ := d26
  subst d0 d1 d2 d3 d4 d5 d6 d7 d8 d9 d10 d11 d12 d13 d14 d15 d16 d17 d18 d19 d20 d21 d22 d26 d27 d28 d29 d30
  have HK := Lib.hid hl
  have h0 := Whole.new w 64 #[.int .i64 n0, .int .i64 n1, .int .i64 n2, .int .i64 n3, .int .i64 n4, .int .i64 n5, .int .i64 n6, .int .i64 n7, .int .i64 n8, .int .i64 n9, .int .i64 n10, .int .i64 n11, .bool n12, .bool n13, .string n14, .string n15, .complex .f64 (Flo.flo n16) (Flo.flo m16), .complex .f64 (Flo.flo n17) (Flo.flo m17), .int .i64 o1, .string o2, .string o3, .string o4, .bool o5, c23, c24, c25, .complex .f64 (Flo.flo ix) (Flo.flo iy), .complex .f64 (Flo.flo ix') (Flo.flo iy'), .int .i64 ig, c29, c30]
  have m0 := h0.cell 0
  have m1 := h0.cell 1
  have m2 := h0.cell 2
  have m3 := h0.cell 3
  have m4 := h0.cell 4
  have m5 := h0.cell 5
  have m6 := h0.cell 6
  have m7 := h0.cell 7
  have m8 := h0.cell 8
  have m9 := h0.cell 9
  have m10 := h0.cell 10
  have m11 := h0.cell 11
  have m12 := h0.cell 12
  have m13 := h0.cell 13
  have m14 := h0.cell 14
  have m15 := h0.cell 15
  have k16 := h0.cell 16
  have k17 := h0.cell 17
  have m18 := h0.cell 18
  have m19 := h0.cell 19
  have m20 := h0.cell 20
  have m21 := h0.cell 21
  have m22 := h0.cell 22
  have m23 := h0.cell 23
  have m24 := h0.cell 24
  have m25 := h0.cell 25
  have m26 := h0.cell 26
  have m27 := h0.cell 27
  have m28 := h0.cell 28
  have m29 := h0.cell 29
  have m30 := h0.cell 30
  simp only [List.getElem?_toArray, List.getElem?_cons_succ, List.getElem?_cons_zero] at m0 m1 m2 m3 m4 m5 m6 m7 m8 m9 m10 m11 m12 m13 m14 m15 k16 k17 m18 m19 m20 m21 m22 m23 m24 m25 m26 m27 m28 m29 m30
  have hbl : Below w.heap.size w (w.alloc (.cells #[.int .i64 n0, .int .i64 n1, .int .i64 n2, .int .i64 n3, .int .i64 n4, .int .i64 n5, .int .i64 n6, .int .i64 n7, .int .i64 n8, .int .i64 n9, .int .i64 n10, .int .i64 n11, .bool n12, .bool n13, .string n14, .string n15, .complex .f64 (Flo.flo n16) (Flo.flo m16), .complex .f64 (Flo.flo n17) (Flo.flo m17), .int .i64 o1, .string o2, .string o3, .string o4, .bool o5, c23, c24, c25, .complex .f64 (Flo.flo ix) (Flo.flo iy), .complex .f64 (Flo.flo ix') (Flo.flo iy'), .int .i64 ig, c29, c30] 64)) := (Below.refl _ _).alloc (Nat.le_refl _) _
  have HBL := Lib.hid hbl
  have Q23 := Lib.hid ((fair_lst fair_ent).keep h23 (below_above hbl))
  have Q24 := Lib.hid ((fair_lst fair_mem).keep h24 (below_above hbl))
  have Q25 := Lib.hid ((fair_lst fair_view).keep h25 (below_above hbl))
  have Q26 := Lib.hid (fair_img.keep h26 (below_above hbl))
  clear hl h0 h23 h24 h25 h26 hbl
  have QE := Lib.hid hE
  have k0 : (ecs [n0, n1, n2, n3, n4, n5, n6, n7, n8, n9, n10, n11]).length + ((bit n12 ++ bit n13) ++ (txt n14.data.toList ++ (txt n15.data.toList ++ (verB n16 m16 ++ (verB n17 m17 ++ (opB o1 o2 o3 o4 o5 ++ (E23 ++ (E24 ++ (E25 ++ (E26 ++ [])))))))))).length ≤ 1099511627776 := by
    have h := HK.out
    rw [hE] at h
    simp only [ecs, List.map_cons, List.map_nil, List.flatten_cons, List.flatten_nil, List.append_nil, List.length_append] at h ⊢
    omega
  have K0 := Lib.hid k0
  have K1 := Lib.hid (bnd k0)
  clear hE k0
  have hz : (w.alloc (.cells #[.int .i64 n0, .int .i64 n1, .int .i64 n2, .int .i64 n3, .int .i64 n4, .int .i64 n5, .int .i64 n6, .int .i64 n7, .int .i64 n8, .int .i64 n9, .int .i64 n10, .int .i64 n11, .bool n12, .bool n13, .string n14, .string n15, .complex .f64 (Flo.flo n16) (Flo.flo m16), .complex .f64 (Flo.flo n17) (Flo.flo m17), .int .i64 o1, .string o2, .string o3, .string o4, .bool o5, c23, c24, c25, .complex .f64 (Flo.flo ix) (Flo.flo iy), .complex .f64 (Flo.flo ix') (Flo.flo iy'), .int .i64 ig, c29, c30] 64)).heap.size = w.heap.size + 1 := by simp
  have HZ := Lib.hid hz
  clear hz
  go_enter Try.func38, Try.ntmps38
  go_wp2_with fail
  generalize w.alloc (.cells #[.int .i64 n0, .int .i64 n1, .int .i64 n2, .int .i64 n3, .int .i64 n4, .int .i64 n5, .int .i64 n6, .int .i64 n7, .int .i64 n8, .int .i64 n9, .int .i64 n10, .int .i64 n11, .bool n12, .bool n13, .string n14, .string n15, .complex .f64 (Flo.flo n16) (Flo.flo m16), .complex .f64 (Flo.flo n17) (Flo.flo m17), .int .i64 o1, .string o2, .string o3, .string o4, .bool o5, c23, c24, c25, .complex .f64 (Flo.flo ix) (Flo.flo iy), .complex .f64 (Flo.flo ix') (Flo.flo iy'), .int .i64 ig, c29, c30] 64) = W0 at m0 m1 m2 m3 m4 m5 m6 m7 m8 m9 m10 m11 m12 m13 m14 m15 k16 k17 m18 m19 m20 m21 m22 m23 m24 m25 m26 m27 m28 m29 m30 HBL HZ Q23 Q24 Q25 Q26 ⊢
  have p0 : ∀ i (h : i < [n0, n1, n2, n3, n4, n5, n6, n7, n8, n9, n10, n11].length), (W0.alloc (.cells #[.int .i64 n0, .int .i64 n1, .int .i64 n2, .int .i64 n3, .int .i64 n4, .int .i64 n5, .int .i64 n6, .int .i64 n7, .int .i64 n8, .int .i64 n9, .int .i64 n10, .int .i64 n11] 3)).cell? ⟨w.heap.size + 1, i, none⟩ = some (.int .i64 [n0, n1, n2, n3, n4, n5, n6, n7, n8, n9, n10, n11][i]) := by
    rw [← HZ.out]
    intro i hi; rcases i with _ | _ | _ | _ | _ | _ | _ | _ | _ | _ | _ | _ | i <;> first | (simp at hi; omega) | exact (Whole.new W0 3 _).cell _
  refine (numbers_core _ (w.heap.size + 1) 12 [n0, n1, n2, n3, n4, n5, n6, n7, n8, n9, n10, n11] rfl (by omega) p0 (by intro n hn; simp only [List.mem_cons, List.not_mem_nil, or_false] at hn; rcases hn with rfl | rfl | rfl | rfl | rfl | rfl | rfl | rfl | rfl | rfl | rfl | rfl <;> assumption)).mono ?_
  rintro e w1 ⟨v', rfl, hb2, hw2⟩
  obtain ⟨a1, q1, e1, rfl, _⟩ := hb2.parts
  have HB1 := Lib.hid hb2
  have HW1 := Lib.hid ((Wrote.alloc W0 (.slice none 0 0) (.cells #[.int .i64 n0, .int .i64 n1, .int .i64 n2, .int .i64 n3, .int .i64 n4, .int .i64 n5, .int .i64 n6, .int .i64 n7, .int .i64 n8, .int .i64 n9, .int .i64 n10, .int .i64 n11] 3) ⟨_, _, _, rfl⟩).trans hw2)
  clear hb2 hw2 p0
  go_wp2_with fail
  refine wp_region_tree (fun w' => Below W0.heap.size W0 w') (Tr.take 0 (Tr.take 1 (Tr.take 2 (Tr.take 4 (Tr.take 5 (Tr.go 3 (Tr.go 6 (Tr.go 7 (Tr.go 8 (Tr.take 9 Tr.done)))))))))) (by kernel_rfl) (by kernel_rfl) (fun _ _ d _ _ h => by cases d <;> exact h) (HW1.out.new rfl).drew ?_
  iterate 5
    apply walk_take rfl rfl
    · intro w' hS
      have c12 := cell_in hS m12
      have c13 := cell_in hS m13
      go_simp
      with_reducible rfl
    simp only [List.getElem_toArray, List.getElem_cons_succ, List.getElem_cons_zero, Act.put, List.setIfInBounds_toArray, List.set_cons_zero, List.set_cons_succ]
  refine tree_go rfl ?_
  go_wp2_with fail
  refine (bit6N_core w1.drew n12).mono ?_
  rintro e w' ⟨rfl, rfl⟩
  go_wp2_with fail
  refine ⟨(HW1.out.new rfl).drew, ?_⟩
  refine tree_go rfl ?_
  go_wp2_with fail
  refine (bit6N_core w1.drew n13).mono ?_
  rintro e w' ⟨rfl, rfl⟩
  go_wp2_with fail
  refine ⟨(HW1.out.new rfl).drew, ?_⟩
  refine tree_go rfl ?_
  go_wp2_with fail
  refine ⟨(HW1.out.new rfl).drew.alloc (by have := HW1.out.size; exact this) _, ?_⟩
  have hbl : Below w1.heap.size w1 (w1.drew.alloc (.cells #[.int .u8 (bitN n12), .int .u8 (bitN n13)] 5)) := ((Below.refl _ _).drew).alloc (Nat.le_refl _) _
  refine walk_app rfl rfl (.tmp 30) (.tmp 37) rfl (.slice a1 q1 e1) (.slice (some ⟨w1.heap.size, 0, none⟩) 2 2) _ (bit n12 ++ bit n13) rfl rfl (HB1.out.below hbl) (bytes_bit2 w1.drew n12 n13) (bnd1 K0.out) ?_
  intro v2 w2 hb3 hw3
  have HW2 := Lib.hid ((HW1.out.trans (Wrote.of_below HB1.out.slice hbl)).trans hw3)
  have HB2 := Lib.hid hb3
  clear hb3 hw3 hbl HB1 HW1
  refine ⟨HW2.out.new rfl, ?_⟩
  simp only [List.getElem_toArray, List.getElem_cons_succ, List.getElem_cons_zero, Act.put, List.setIfInBounds_toArray, List.set_cons_zero, List.set_cons_succ]
  apply walk_take rfl rfl
  · intro w' hS
    go_simp
    with_reducible rfl
  simp only [List.getElem_toArray, List.getElem_cons_succ, List.getElem_cons_zero, Act.put, List.setIfInBounds_toArray, List.set_cons_zero, List.set_cons_succ]
  refine walk_end ?_
  have g14 := cell_in (HW2.out.new rfl) m14
  go_wp2_with fail
  refine (refText_core w2 n14 (by have p14 : n14.size ≤ 65536 := p14; omega)).mono ?_
  rintro e W3 ⟨v', rfl, hb2, hw2⟩
  obtain ⟨a3, n3, c3, rfl, _⟩ := hb2.parts
  have hnew : Below w2.heap.size w2 W3 := hw2.new rfl
  have hy := hb2.bytes
  clear hb2 hw2
  have H3 := Lib.hid (HB2.out.below hnew)
  have H4 := Lib.hid (HW2.out.trans (Wrote.of_below HB2.out.slice hnew))
  have H5 := Lib.hid hy
  clear hnew hy g14
  have K3 := Lib.hid (bnd K1.out)
  go_wp2_with (at_builtin; refine wpList_app rfl (.tmp 39) (.tmp 42) 24 rfl (.inl Try.underlying24) v2 (.slice a3 n3 c3) _ (txt n14.data.toList) rfl rfl H3.out (src_bytes H5.out) (bnd1 K1.out) ?_; intro v3 w3 hb3 hw3; have HW3 := Lib.hid (H4.out.trans hw3); have HB3 := Lib.hid hb3; clear hb3 hw3 H3 H4 H5; have g15 := cell_in (HW3.out.new rfl) m15)
  go_wp2_with fail
  refine (refText_core w3 n15 (by have p15 : n15.size ≤ 65536 := p15; omega)).mono ?_
  rintro e W4 ⟨v', rfl, hb2, hw2⟩
  obtain ⟨a4, n4, c4, rfl, _⟩ := hb2.parts
  have hnew : Below w3.heap.size w3 W4 := hw2.new rfl
  have hy := hb2.bytes
  clear hb2 hw2
  have H3 := Lib.hid (HB3.out.below hnew)
  have H4 := Lib.hid (HW3.out.trans (Wrote.of_below HB3.out.slice hnew))
  have H5 := Lib.hid hy
  clear hnew hy
  have K4 := Lib.hid (bnd K3.out)
  go_wp2_with (at_builtin; refine wpList_app rfl (.tmp 44) (.tmp 47) 24 rfl (.inl Try.underlying24) v3 (.slice a4 n4 c4) _ (txt n15.data.toList) rfl rfl H3.out (src_bytes H5.out) (bnd1 K3.out) ?_; intro v4 w4 hb3 hw3; have HW4 := Lib.hid (H4.out.trans hw3); have HB4 := Lib.hid hb3; clear hb3 hw3 H3 H4 H5; have g16 := cell_in (HW4.out.new rfl) k16)
  go_wp2_with fail
  refine (refVer_core w4 n16 m16 p16 r16).mono ?_
  rintro e W5 ⟨a5, n5, c5, rfl, hy, hnew⟩
  have H3 := Lib.hid (HB4.out.below hnew)
  have H4 := Lib.hid (HW4.out.trans (Wrote.of_below HB4.out.slice hnew))
  have H5 := Lib.hid hy
  clear hnew hy
  have K5 := Lib.hid (bnd K4.out)
  go_wp2_with (at_builtin; refine wpList_app rfl (.tmp 49) (.tmp 52) 24 rfl (.inl Try.underlying24) v4 (.slice a5 n5 c5) _ (verB n16 m16) rfl rfl H3.out (src_bytes H5.out) (bnd1 K4.out) ?_; intro v5 w5 hb3 hw3; have HW5 := Lib.hid (H4.out.trans hw3); have HB5 := Lib.hid hb3; clear hb3 hw3 H3 H4 H5; have g17 := cell_in (HW5.out.new rfl) k17)
  go_wp2_with fail
  refine (refVer_core w5 n17 m17 p17 r17).mono ?_
  rintro e W6 ⟨a6, n6, c6, rfl, hy, hnew⟩
  have H3 := Lib.hid (HB5.out.below hnew)
  have H4 := Lib.hid (HW5.out.trans (Wrote.of_below HB5.out.slice hnew))
  have H5 := Lib.hid hy
  clear hnew hy
  have K6 := Lib.hid (bnd K5.out)
  go_wp2_with (at_builtin; refine wpList_app rfl (.tmp 54) (.tmp 57) 24 rfl (.inl Try.underlying24) v5 (.slice a6 n6 c6) _ (verB n17 m17) rfl rfl H3.out (src_bytes H5.out) (bnd1 K5.out) ?_; intro v6 w6 hb3 hw3; have HW6 := Lib.hid (H4.out.trans hw3); have HB6 := Lib.hid hb3; clear hb3 hw3 H3 H4 H5; have g18 := cell_in (HW6.out.new rfl) m18; have g19 := cell_in (HW6.out.new rfl) m19; have g20 := cell_in (HW6.out.new rfl) m20; have g21 := cell_in (HW6.out.new rfl) m21; have g22 := cell_in (HW6.out.new rfl) m22)
  go_wp2_with fail
  refine (refOp_core w6 o1 o2 o3 o4 o5 p18 p19 p20 p21).mono ?_
  rintro e W7 ⟨a7, n7, c7, rfl, hy, hnew⟩
  have H3 := Lib.hid (HB6.out.below hnew)
  have H4 := Lib.hid (HW6.out.trans (Wrote.of_below HB6.out.slice hnew))
  have H5 := Lib.hid hy
  clear hnew hy
  have K7 := Lib.hid (bnd K6.out)
  go_wp2_with (at_builtin; refine wpList_app rfl (.tmp 59) (.tmp 62) 24 rfl (.inl Try.underlying24) v6 (.slice a7 n7 c7) _ (opB o1 o2 o3 o4 o5) rfl rfl H3.out (src_bytes H5.out) (bnd1 K6.out) ?_; intro v7 w7 hb3 hw3; have HW7 := Lib.hid (H4.out.trans hw3); have HB7 := Lib.hid hb3; clear hb3 hw3 H3 H4 H5; have g23 := cell_in (HW7.out.new rfl) m23)
  go_wp2_with fail
  refine (ref_ent w7 c23 B E23 ((fair_lst fair_ent).keep Q23.out (below_above (HW7.out.new rfl))) (bnd2 K7.out)).mono ?_
  rintro e W8 ⟨v', rfl, hb2, hw2⟩
  obtain ⟨a8, n8, c8, rfl, _⟩ := hb2.parts
  have hnew : Below w7.heap.size w7 W8 := hw2.new rfl
  have hy := hb2.bytes
  clear hb2 hw2
  have H3 := Lib.hid (HB7.out.below hnew)
  have H4 := Lib.hid (HW7.out.trans (Wrote.of_below HB7.out.slice hnew))
  have H5 := Lib.hid hy
  clear hnew hy
  have K8 := Lib.hid (bnd K7.out)
  go_wp2_with (at_builtin; refine wpList_app rfl (.tmp 64) (.tmp 67) 24 rfl (.inl Try.underlying24) v7 (.slice a8 n8 c8) _ (E23) rfl rfl H3.out (src_bytes H5.out) (bnd1 K7.out) ?_; intro v8 w8 hb3 hw3; have HW8 := Lib.hid (H4.out.trans hw3); have HB8 := Lib.hid hb3; clear hb3 hw3 H3 H4 H5; have g24 := cell_in (HW8.out.new rfl) m24)
  go_wp2_with fail
  refine (ref_mem w8 c24 B E24 ((fair_lst fair_mem).keep Q24.out (below_above (HW8.out.new rfl))) (bnd2 K8.out)).mono ?_
  rintro e W9 ⟨v', rfl, hb2, hw2⟩
  obtain ⟨a9, n9, c9, rfl, _⟩ := hb2.parts
  have hnew : Below w8.heap.size w8 W9 := hw2.new rfl
  have hy := hb2.bytes
  clear hb2 hw2
  have H3 := Lib.hid (HB8.out.below hnew)
  have H4 := Lib.hid (HW8.out.trans (Wrote.of_below HB8.out.slice hnew))
  have H5 := Lib.hid hy
  clear hnew hy
  have K9 := Lib.hid (bnd K8.out)
  go_wp2_with (at_builtin; refine wpList_app rfl (.tmp 69) (.tmp 72) 24 rfl (.inl Try.underlying24) v8 (.slice a9 n9 c9) _ (E24) rfl rfl H3.out (src_bytes H5.out) (bnd1 K8.out) ?_; intro v9 w9 hb3 hw3; have HW9 := Lib.hid (H4.out.trans hw3); have HB9 := Lib.hid hb3; clear hb3 hw3 H3 H4 H5; have g25 := cell_in (HW9.out.new rfl) m25)
  go_wp2_with fail
  refine (ref_view w9 c25 B E25 ((fair_lst fair_view).keep Q25.out (below_above (HW9.out.new rfl))) (bnd2 K9.out)).mono ?_
  rintro e W10 ⟨v', rfl, hb2, hw2⟩
  obtain ⟨a10, n10, c10, rfl, _⟩ := hb2.parts
  have hnew : Below w9.heap.size w9 W10 := hw2.new rfl
  have hy := hb2.bytes
  clear hb2 hw2
  have H3 := Lib.hid (HB9.out.below hnew)
  have H4 := Lib.hid (HW9.out.trans (Wrote.of_below HB9.out.slice hnew))
  have H5 := Lib.hid hy
  clear hnew hy
  have K10 := Lib.hid (bnd K9.out)
  go_wp2_with (at_builtin; refine wpList_app rfl (.tmp 74) (.tmp 77) 24 rfl (.inl Try.underlying24) v9 (.slice a10 n10 c10) _ (E25) rfl rfl H3.out (src_bytes H5.out) (bnd1 K9.out) ?_; intro v10 w10 hb3 hw3; have HW10 := Lib.hid (H4.out.trans hw3); have HB10 := Lib.hid hb3; clear hb3 hw3 H3 H4 H5; have g26 := cell_in (HW10.out.new rfl) m26; have g27 := cell_in (HW10.out.new rfl) m27; have g28 := cell_in (HW10.out.new rfl) m28; have g29 := cell_in (HW10.out.new rfl) m29; have g30 := cell_in (HW10.out.new rfl) m30)
  go_wp2_with fail
  refine (ref_img w10 _ B E26 (fair_img.keep Q26.out (below_above (HW10.out.new rfl))) (bnd2 K10.out)).mono ?_
  rintro e W11 ⟨v', rfl, hb2, hw2⟩
  obtain ⟨a11, n11, c11, rfl, _⟩ := hb2.parts
  have hnew : Below w10.heap.size w10 W11 := hw2.new rfl
  have hy := hb2.bytes
  clear hb2 hw2
  have H3 := Lib.hid (HB10.out.below hnew)
  have H4 := Lib.hid (HW10.out.trans (Wrote.of_below HB10.out.slice hnew))
  have H5 := Lib.hid hy
  clear hnew hy
  have K11 := Lib.hid (bnd K10.out)
  go_wp2_with (at_builtin; refine wpList_app rfl (.tmp 79) (.tmp 82) 24 rfl (.inl Try.underlying24) v10 (.slice a11 n11 c11) _ (E26) rfl rfl H3.out (src_bytes H5.out) (bnd1 K10.out) ?_; intro v11 w11 hb3 hw3; have HW11 := Lib.hid (H4.out.trans hw3); have HB11 := Lib.hid hb3; clear hb3 hw3 H3 H4 H5)
  go_ret
  refine ⟨_, rfl, ?_, ?_⟩
  · have h7 := HB11.out
    rw [QE.out]
    simpa [ecs, List.append_assoc] using h7
  · exact (Wrote.of_below ⟨_, _, _, rfl⟩ HBL.out).trans HW11.out

end Go.Proofs.Ytjpaljiielemgaa
