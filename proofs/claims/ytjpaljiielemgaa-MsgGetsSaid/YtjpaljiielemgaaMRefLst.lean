/- The document's answer's lists. -/
import Derived.Test.YtjpaljiielemgaaMRefSt
import Derived.Test.YtjpaljiielemgaaTree
namespace Go.Proofs.Ytjpaljiielemgaa
open Go.RowKit
attribute [local go_sem] store_cplx
theorem cell_in {w w' : World} {a : Addr} {x : Value} (hS : Below w.heap.size w w') (m : w.cell? a = some x) : w'.cell? a = some x := (hS.cell (World.block_lt_of_cell? w a m)).trans m

set_option maxRecDepth 100000 in
set_option maxHeartbeats 2000000 in
theorem ref_mem (w : World) (V : Value) (B : Nat) (E : List UInt8) (h : lstV 110 2 memV B w V E) (hl : E.length ≤ 1099511627776) : Calls Try.prog 71 #[V] w (Puts w (.slice none 0 0) E) := by
  obtain ⟨n, Es, hL, rfl⟩ := lst_open sized_mem h
  clear h
  obtain ⟨a, c, rfl⟩ := hL.sl
  have hn := hL.few
  have HL := Lib.hid hL
  have HE := Lib.hid hl
  have HLEN := Lib.hid hL.len
  clear hL hl
  go_enter Try.func71, Try.ntmps71
  go_wp2_with fail
  refine (refInt_core w n (by omega) (by omega)).mono ?_
  rintro e w1 ⟨v1, rfl, hb1, hw1⟩
  obtain ⟨a1, n1, c1, rfl, _⟩ := hb1.parts
  have HB1 := Lib.hid hb1
  have HW1 := Lib.hid hw1
  clear hb1 hw1
  go_wp2
  go_loopw [3, 4] (fun v' i wr => ∃ (k : Nat) (v : Value), k ≤ n ∧ v = v' ∧ i = .int .i64 k ∧ Buf wr v (Pure.enc n ++ (Es.take k).flatten) ∧ Wrote w (.slice none 0 0) wr v) (fun _ i _ => n - (intOf i).toNat)
  case atStart => exact ⟨0, _, by omega, rfl, rfl, by simpa using HB1.out, HW1.out⟩
  case round =>
    obtain ⟨k, v, hk, rfl, rfl, hbr, hwr⟩ := hrel
    by_cases hlt : k < n
    · have hkl : k < Es.length := by rw [HLEN.out]; exact hlt
      obtain ⟨g, c', X, hV, hX, hc⟩ := HL.out.at' k hkl
      simp only [Value.slice.injEq, true_and] at hV
      obtain ⟨rfl, rfl⟩ := hV
      have hfl := flat_le Es k hkl
      have HT := Lib.hid (flat_snoc Es k hkl)
      generalize Es[k] = Ek at hX HT hfl
      obtain ⟨x, y, q1, q2, rfl, q3⟩ := hX
      have m0 := hc 0 _ rfl
      have m1 := hc 1 _ rfl
      clear hc
      simp only [Nat.add_zero] at m0
      have hlen : (Pure.enc n ++ (Es.take k).flatten).length + Ek.length ≤ 1099511627776 := by
        have := HE.out; simp only [List.length_append] at this ⊢; omega
      clear hfl
      have HK := Lib.hid hlen
      have HB := Lib.hid hbr
      have HW := Lib.hid hwr
      clear hbr hwr hlen hkl
      go_wp2_with fail
      refine wp_region_tree (fun w' => Below w.heap.size w w') (Tr.take 0 (Tr.take 1 (Tr.take 2 (Tr.take 3 (Tr.take 4 (Tr.take 5 (Tr.take 6 (Tr.take 7 (Tr.take 8 (Tr.take 9 (Tr.take 10 (Tr.go 11 (Tr.go 12 (Tr.go 13 (Tr.take 14 Tr.done))))))))))))))) (by kernel_rfl) (by kernel_rfl) (fun _ _ d _ _ h => by cases d <;> exact h) (HW.out.new rfl).drew ?_
      iterate 11
        apply walk_take rfl rfl
        · intro w' hS
          have c0 := cell_in hS m0
          have c1 := cell_in hS m1
          go_simp
          with_reducible rfl
        simp only [List.getElem_toArray, List.getElem_cons_succ, List.getElem_cons_zero, Act.put, List.setIfInBounds_toArray, List.set_cons_zero, List.set_cons_succ]
      refine tree_go rfl ?_
      go_wp2_with fail
      refine ⟨(HW.out.new rfl).drew.alloc (by have := HW.out.size; exact this) _, ?_⟩
      refine tree_go rfl ?_
      go_wp2_with fail
      have p0 : ∀ i (h : i < [x, y].length), (wr.drew.alloc (.cells #[.int .i64 x, .int .i64 y] 3)).cell? ⟨wr.heap.size, i, none⟩ = some (.int .i64 [x, y][i]) := by
        intro i hi; rcases i with _ | _ | i <;> first | (simp at hi; omega) | exact (Whole.new wr.drew 3 _).cell _
      refine (numbers_core _ wr.heap.size 2 [x, y] rfl (by omega) p0 (by intro n hn; simp only [List.mem_cons, List.not_mem_nil, or_false] at hn; rcases hn with rfl | rfl <;> assumption)).mono ?_
      rintro e W1 ⟨v', rfl, hb2, hw2⟩
      obtain ⟨a1, n1, c1, rfl, _⟩ := hb2.parts
      have hnew : Below wr.heap.size wr W1 := (((Below.refl _ _).drew).alloc (Nat.le_refl _) _).trans ((hw2.new rfl).mono (by simp))
      have H3 := Lib.hid (HB.out.below hnew)
      have H4 := Lib.hid (HW.out.trans (Wrote.of_below HB.out.slice hnew))
      have H5 := Lib.hid hb2.bytes
      clear hb2 hw2 hnew p0
      go_wp2_with fail
      refine ⟨H4.out.new rfl, ?_⟩
      refine walk_app rfl rfl (.tmp 14) (.tmp 26) rfl v (.slice a1 n1 c1) _ (ecs [x, y]) rfl rfl H3.out H5.out (by have := HK.out; rw [q3] at this; simp only [ecs, List.map_cons, List.map_nil, List.flatten_cons, List.flatten_nil, List.append_nil, List.length_append] at this ⊢; omega) ?_
      intro v1 w1 hb3 hw3
      have HW1 := Lib.hid (H4.out.trans hw3)
      have HB1 := Lib.hid hb3
      clear hb3 hw3 H3 H4 H5
      refine ⟨HW1.out.new rfl, ?_⟩
      simp only [List.getElem_toArray, List.getElem_cons_succ, List.getElem_cons_zero, Act.put, List.setIfInBounds_toArray, List.set_cons_zero, List.set_cons_succ]
      apply walk_take rfl rfl
      · intro w' hS
        go_simp
        with_reducible rfl
      simp only [List.getElem_toArray, List.getElem_cons_succ, List.getElem_cons_zero, Act.put, List.setIfInBounds_toArray, List.set_cons_zero, List.set_cons_succ]
      refine walk_end ?_
      go_wp2
      go_roundw
      case rel =>
        refine ⟨k + 1, _, by omega, rfl, by go_num, ?_, HW1.out⟩
        rw [HT.out, ← List.append_assoc, q3]
        have h7 := HB1.out
        simpa [ecs, List.append_assoc] using h7
      case measure => simp [intOf]; omega
    · go_wp2
      go_ret
      have e : k = n := by omega
      subst e
      rw [List.take_of_length_le (by rw [HLEN.out]; exact Nat.le_refl _)] at hbr
      exact ⟨_, rfl, hbr, hwr⟩

set_option maxRecDepth 100000 in
set_option maxHeartbeats 2000000 in
theorem ref_ent (w : World) (V : Value) (B : Nat) (E : List UInt8) (h : lstV 48 11 entV B w V E) (hl : E.length ≤ 1099511627776) : Calls Try.prog 70 #[V] w (Puts w (.slice none 0 0) E) := by
  obtain ⟨n, Es, hL, rfl⟩ := lst_open sized_ent h
  clear h
  obtain ⟨a, c, rfl⟩ := hL.sl
  have hn := hL.few
  have HL := Lib.hid hL
  have HE := Lib.hid hl
  have HLEN := Lib.hid hL.len
  clear hL hl
  go_enter Try.func70, Try.ntmps70
  go_wp2_with fail
  refine (refInt_core w n (by omega) (by omega)).mono ?_
  rintro e w1 ⟨v1, rfl, hb1, hw1⟩
  obtain ⟨a1, n1, c1, rfl, _⟩ := hb1.parts
  have HB1 := Lib.hid hb1
  have HW1 := Lib.hid hw1
  clear hb1 hw1
  go_wp2
  go_loopw [3, 4] (fun v' i wr => ∃ (k : Nat) (v : Value), k ≤ n ∧ v = v' ∧ i = .int .i64 k ∧ Buf wr v (Pure.enc n ++ (Es.take k).flatten) ∧ Wrote w (.slice none 0 0) wr v) (fun _ i _ => n - (intOf i).toNat)
  case atStart => exact ⟨0, _, by omega, rfl, rfl, by simpa using HB1.out, HW1.out⟩
  case round =>
    obtain ⟨k, v, hk, rfl, rfl, hbr, hwr⟩ := hrel
    by_cases hlt : k < n
    · have hkl : k < Es.length := by rw [HLEN.out]; exact hlt
      obtain ⟨g, c', X, hV, hX, hc⟩ := HL.out.at' k hkl
      simp only [Value.slice.injEq, true_and] at hV
      obtain ⟨rfl, rfl⟩ := hV
      have hfl := flat_le Es k hkl
      have HT := Lib.hid (flat_snoc Es k hkl)
      generalize Es[k] = Ek at hX HT hfl
      obtain ⟨x, y, k1, a0, b, s1, t1, l, m, n0, c0, u1, q1, q2, q3, q4, q5, q6, q7, q8, q9, rfl, q10⟩ := hX
      have m0 := hc 0 _ rfl
      have m1 := hc 1 _ rfl
      have m2 := hc 2 _ rfl
      have m3 := hc 3 _ rfl
      have m4 := hc 4 _ rfl
      have m5 := hc 5 _ rfl
      have m6 := hc 6 _ rfl
      have m7 := hc 7 _ rfl
      have m8 := hc 8 _ rfl
      have m9 := hc 9 _ rfl
      have m10 := hc 10 _ rfl
      clear hc
      simp only [Nat.add_zero] at m0
      have hlen : (Pure.enc n ++ (Es.take k).flatten).length + Ek.length ≤ 1099511627776 := by
        have := HE.out; simp only [List.length_append] at this ⊢; omega
      clear hfl
      have HK := Lib.hid hlen
      have HB := Lib.hid hbr
      have HW := Lib.hid hwr
      clear hbr hwr hlen hkl
      have g0 := cell_in (HW.out.new rfl) m0
      have g1 := cell_in (HW.out.new rfl) m1
      have g2 := cell_in (HW.out.new rfl) m2
      have g3 := cell_in (HW.out.new rfl) m3
      have g4 := cell_in (HW.out.new rfl) m4
      have g5 := cell_in (HW.out.new rfl) m5
      have g6 := cell_in (HW.out.new rfl) m6
      have g7 := cell_in (HW.out.new rfl) m7
      have g8 := cell_in (HW.out.new rfl) m8
      have g9 := cell_in (HW.out.new rfl) m9
      have g10 := cell_in (HW.out.new rfl) m10
      go_wp2_with fail
      refine (refEnt_core wr x y k1 a0 b s1 t1 l m n0 c0 u1 q1 q2 q3 q4 q5 q6 q7 q8 q9).mono ?_
      rintro e W1 ⟨a1, n1, c1, rfl, hy, hnew⟩
      have H3 := Lib.hid (HB.out.below hnew)
      have H4 := Lib.hid (HW.out.trans (Wrote.of_below HB.out.slice hnew))
      have H5 := Lib.hid hy
      clear hnew hy g0 g1 g2 g3 g4 g5 g6 g7 g8 g9 g10
      go_wp2_with (at_builtin; refine wpList_app rfl (.tmp 14) (.tmp 19) 24 rfl (.inl Try.underlying24) v (.slice a1 n1 c1) _ (entB x y k1 a0 b s1 t1 l m n0 c0 u1) rfl rfl H3.out (src_bytes H5.out) (by have := HK.out; rw [q10] at this; simp only [List.length_append] at this ⊢; omega) ?_; intro v1 w1 hb3 hw3; have HW1 := Lib.hid (H4.out.trans hw3); have HB1 := Lib.hid hb3; clear hb3 hw3 H3 H4 H5)
      go_roundw
      case rel =>
        refine ⟨k + 1, _, by omega, rfl, by go_num, ?_, HW1.out⟩
        rw [HT.out, ← List.append_assoc, q10]
        have h7 := HB1.out
        simpa [ecs, List.append_assoc] using h7
      case measure => simp [intOf]; omega
    · go_wp2
      go_ret
      have e : k = n := by omega
      subst e
      rw [List.take_of_length_le (by rw [HLEN.out]; exact Nat.le_refl _)] at hbr
      exact ⟨_, rfl, hbr, hwr⟩

set_option maxRecDepth 100000 in
set_option maxHeartbeats 2000000 in
theorem ref_seen (w : World) (V : Value) (B : Nat) (E : List UInt8) (h : lstV 127 7 seenV B w V E) (hl : E.length ≤ 1099511627776) : Calls Try.prog 75 #[V] w (Puts w (.slice none 0 0) E) := by
  obtain ⟨n, Es, hL, rfl⟩ := lst_open sized_seen h
  clear h
  obtain ⟨a, c, rfl⟩ := hL.sl
  have hn := hL.few
  have HL := Lib.hid hL
  have HE := Lib.hid hl
  have HLEN := Lib.hid hL.len
  clear hL hl
  go_enter Try.func75, Try.ntmps75
  go_wp2_with fail
  refine (refInt_core w n (by omega) (by omega)).mono ?_
  rintro e w1 ⟨v1, rfl, hb1, hw1⟩
  obtain ⟨a1, n1, c1, rfl, _⟩ := hb1.parts
  have HB1 := Lib.hid hb1
  have HW1 := Lib.hid hw1
  clear hb1 hw1
  go_wp2
  go_loopw [3, 4] (fun v' i wr => ∃ (k : Nat) (v : Value), k ≤ n ∧ v = v' ∧ i = .int .i64 k ∧ Buf wr v (Pure.enc n ++ (Es.take k).flatten) ∧ Wrote w (.slice none 0 0) wr v) (fun _ i _ => n - (intOf i).toNat)
  case atStart => exact ⟨0, _, by omega, rfl, rfl, by simpa using HB1.out, HW1.out⟩
  case round =>
    obtain ⟨k, v, hk, rfl, rfl, hbr, hwr⟩ := hrel
    by_cases hlt : k < n
    · have hkl : k < Es.length := by rw [HLEN.out]; exact hlt
      obtain ⟨g, c', X, hV, hX, hc⟩ := HL.out.at' k hkl
      simp only [Value.slice.injEq, true_and] at hV
      obtain ⟨rfl, rfl⟩ := hV
      have hfl := flat_le Es k hkl
      have HT := Lib.hid (flat_snoc Es k hkl)
      generalize Es[k] = Ek at hX HT hfl
      obtain ⟨x1, y1, x, y, k1, l1, s1, t1, q1, q2, q3, q4, q5, q6, q7, rfl, q8⟩ := hX
      have m0 := hc 0 _ rfl
      have m1 := hc 1 _ rfl
      have m2 := hc 2 _ rfl
      have m3 := hc 3 _ rfl
      have m4 := hc 4 _ rfl
      have m5 := hc 5 _ rfl
      have m6 := hc 6 _ rfl
      clear hc
      simp only [Nat.add_zero] at m0
      have hlen : (Pure.enc n ++ (Es.take k).flatten).length + Ek.length ≤ 1099511627776 := by
        have := HE.out; simp only [List.length_append] at this ⊢; omega
      clear hfl
      have HK := Lib.hid hlen
      have HB := Lib.hid hbr
      have HW := Lib.hid hwr
      clear hbr hwr hlen hkl
      go_wp2_with fail
      refine wp_region_tree (fun w' => Below w.heap.size w w') (Tr.take 0 (Tr.take 1 (Tr.take 2 (Tr.take 3 (Tr.take 4 (Tr.take 5 (Tr.take 6 (Tr.take 7 (Tr.take 8 (Tr.take 9 (Tr.take 10 (Tr.go 11 (Tr.go 12 (Tr.go 13 (Tr.take 14 Tr.done))))))))))))))) (by kernel_rfl) (by kernel_rfl) (fun _ _ d _ _ h => by cases d <;> exact h) (HW.out.new rfl).drew ?_
      iterate 11
        apply walk_take rfl rfl
        · intro w' hS
          have c0 := cell_in hS m0
          have c1 := cell_in hS m1
          go_simp
          with_reducible rfl
        simp only [List.getElem_toArray, List.getElem_cons_succ, List.getElem_cons_zero, Act.put, List.setIfInBounds_toArray, List.set_cons_zero, List.set_cons_succ]
      refine tree_go rfl ?_
      go_wp2_with fail
      refine ⟨(HW.out.new rfl).drew.alloc (by have := HW.out.size; exact this) _, ?_⟩
      refine tree_go rfl ?_
      go_wp2_with fail
      have p0 : ∀ i (h : i < [x1, y1].length), (wr.drew.alloc (.cells #[.int .i64 x1, .int .i64 y1] 3)).cell? ⟨wr.heap.size, i, none⟩ = some (.int .i64 [x1, y1][i]) := by
        intro i hi; rcases i with _ | _ | i <;> first | (simp at hi; omega) | exact (Whole.new wr.drew 3 _).cell _
      refine (numbers_core _ wr.heap.size 2 [x1, y1] rfl (by omega) p0 (by intro n hn; simp only [List.mem_cons, List.not_mem_nil, or_false] at hn; rcases hn with rfl | rfl <;> assumption)).mono ?_
      rintro e W1 ⟨v', rfl, hb2, hw2⟩
      obtain ⟨a1, n1, c1, rfl, _⟩ := hb2.parts
      have hnew : Below wr.heap.size wr W1 := (((Below.refl _ _).drew).alloc (Nat.le_refl _) _).trans ((hw2.new rfl).mono (by simp))
      have H3 := Lib.hid (HB.out.below hnew)
      have H4 := Lib.hid (HW.out.trans (Wrote.of_below HB.out.slice hnew))
      have H5 := Lib.hid hb2.bytes
      clear hb2 hw2 hnew p0
      go_wp2_with fail
      refine ⟨H4.out.new rfl, ?_⟩
      refine walk_app rfl rfl (.tmp 14) (.tmp 26) rfl v (.slice a1 n1 c1) _ (ecs [x1, y1]) rfl rfl H3.out H5.out (by have := HK.out; rw [q8] at this; simp only [ecs, List.map_cons, List.map_nil, List.flatten_cons, List.flatten_nil, List.append_nil, List.length_append] at this ⊢; omega) ?_
      intro v1 w1 hb3 hw3
      have HW1 := Lib.hid (H4.out.trans hw3)
      have HB1 := Lib.hid hb3
      clear hb3 hw3 H3 H4 H5
      refine ⟨HW1.out.new rfl, ?_⟩
      simp only [List.getElem_toArray, List.getElem_cons_succ, List.getElem_cons_zero, Act.put, List.setIfInBounds_toArray, List.set_cons_zero, List.set_cons_succ]
      apply walk_take rfl rfl
      · intro w' hS
        go_simp
        with_reducible rfl
      simp only [List.getElem_toArray, List.getElem_cons_succ, List.getElem_cons_zero, Act.put, List.setIfInBounds_toArray, List.set_cons_zero, List.set_cons_succ]
      refine walk_end ?_
      have g2 := cell_in (HW1.out.new rfl) m2
      go_wp2_with fail
      refine (refVer_core w1 x y q3 q4).mono ?_
      rintro e W2 ⟨a2, n2, c2, rfl, hy, hnew⟩
      have H3 := Lib.hid (HB1.out.below hnew)
      have H4 := Lib.hid (HW1.out.trans (Wrote.of_below HB1.out.slice hnew))
      have H5 := Lib.hid hy
      clear hnew hy g2
      go_wp2_with (at_builtin; refine wpList_app rfl (.tmp 28) (.tmp 34) 24 rfl (.inl Try.underlying24) v1 (.slice a2 n2 c2) _ (verB x y) rfl rfl H3.out (src_bytes H5.out) (by have := HK.out; rw [q8] at this; simp only [ecs, List.map_cons, List.map_nil, List.flatten_cons, List.flatten_nil, List.append_nil, List.length_append] at this ⊢; omega) ?_; intro v2 w2 hb3 hw3; have HW2 := Lib.hid (H4.out.trans hw3); have HB2 := Lib.hid hb3; clear hb3 hw3 H3 H4 H5)
      go_wp2_with fail
      refine wp_region_tree (fun w' => Below w.heap.size w w') (Tr.take 0 (Tr.take 1 (Tr.take 2 (Tr.take 3 (Tr.take 4 (Tr.take 5 (Tr.take 6 (Tr.take 7 (Tr.take 8 (Tr.take 9 (Tr.take 10 (Tr.go 11 (Tr.go 12 (Tr.go 13 (Tr.take 14 Tr.done))))))))))))))) (by kernel_rfl) (by kernel_rfl) (fun _ _ d _ _ h => by cases d <;> exact h) (HW2.out.new rfl).drew ?_
      iterate 11
        apply walk_take rfl rfl
        · intro w' hS
          have c3 := cell_in hS m3
          have c4 := cell_in hS m4
          go_simp
          with_reducible rfl
        simp only [List.getElem_toArray, List.getElem_cons_succ, List.getElem_cons_zero, Act.put, List.setIfInBounds_toArray, List.set_cons_zero, List.set_cons_succ]
      refine tree_go rfl ?_
      go_wp2_with fail
      refine ⟨(HW2.out.new rfl).drew.alloc (by have := HW2.out.size; exact this) _, ?_⟩
      refine tree_go rfl ?_
      go_wp2_with fail
      have p0 : ∀ i (h : i < [k1, l1].length), (w2.drew.alloc (.cells #[.int .i64 k1, .int .i64 l1] 3)).cell? ⟨w2.heap.size, i, none⟩ = some (.int .i64 [k1, l1][i]) := by
        intro i hi; rcases i with _ | _ | i <;> first | (simp at hi; omega) | exact (Whole.new w2.drew 3 _).cell _
      refine (numbers_core _ w2.heap.size 2 [k1, l1] rfl (by omega) p0 (by intro n hn; simp only [List.mem_cons, List.not_mem_nil, or_false] at hn; rcases hn with rfl | rfl <;> assumption)).mono ?_
      rintro e W3 ⟨v', rfl, hb2, hw2⟩
      obtain ⟨a3, n3, c3, rfl, _⟩ := hb2.parts
      have hnew : Below w2.heap.size w2 W3 := (((Below.refl _ _).drew).alloc (Nat.le_refl _) _).trans ((hw2.new rfl).mono (by simp))
      have H3 := Lib.hid (HB2.out.below hnew)
      have H4 := Lib.hid (HW2.out.trans (Wrote.of_below HB2.out.slice hnew))
      have H5 := Lib.hid hb2.bytes
      clear hb2 hw2 hnew p0
      go_wp2_with fail
      refine ⟨H4.out.new rfl, ?_⟩
      refine walk_app rfl rfl (.tmp 36) (.tmp 48) rfl v2 (.slice a3 n3 c3) _ (ecs [k1, l1]) rfl rfl H3.out H5.out (by have := HK.out; rw [q8] at this; simp only [ecs, List.map_cons, List.map_nil, List.flatten_cons, List.flatten_nil, List.append_nil, List.length_append] at this ⊢; omega) ?_
      intro v3 w3 hb3 hw3
      have HW3 := Lib.hid (H4.out.trans hw3)
      have HB3 := Lib.hid hb3
      clear hb3 hw3 H3 H4 H5
      refine ⟨HW3.out.new rfl, ?_⟩
      simp only [List.getElem_toArray, List.getElem_cons_succ, List.getElem_cons_zero, Act.put, List.setIfInBounds_toArray, List.set_cons_zero, List.set_cons_succ]
      apply walk_take rfl rfl
      · intro w' hS
        go_simp
        with_reducible rfl
      simp only [List.getElem_toArray, List.getElem_cons_succ, List.getElem_cons_zero, Act.put, List.setIfInBounds_toArray, List.set_cons_zero, List.set_cons_succ]
      refine walk_end ?_
      have g5 := cell_in (HW3.out.new rfl) m5
      go_wp2_with fail
      refine (refText_core w3 s1 (by have q7 : s1.size ≤ 65536 := q7; omega)).mono ?_
      rintro e W4 ⟨v', rfl, hb2, hw2⟩
      obtain ⟨a4, n4, c4, rfl, _⟩ := hb2.parts
      have hnew : Below w3.heap.size w3 W4 := hw2.new rfl
      have hy := hb2.bytes
      clear hb2 hw2
      have H3 := Lib.hid (HB3.out.below hnew)
      have H4 := Lib.hid (HW3.out.trans (Wrote.of_below HB3.out.slice hnew))
      have H5 := Lib.hid hy
      clear hnew hy g5
      go_wp2_with (at_builtin; refine wpList_app rfl (.tmp 50) (.tmp 56) 24 rfl (.inl Try.underlying24) v3 (.slice a4 n4 c4) _ (txt s1.data.toList) rfl rfl H3.out (src_bytes H5.out) (by have := HK.out; rw [q8] at this; simp only [ecs, List.map_cons, List.map_nil, List.flatten_cons, List.flatten_nil, List.append_nil, List.length_append] at this ⊢; omega) ?_; intro v4 w4 hb3 hw3; have HW4 := Lib.hid (H4.out.trans hw3); have HB4 := Lib.hid hb3; clear hb3 hw3 H3 H4 H5; have g6 := cell_in (HW4.out.new rfl) m6)
      refine (bit6_core w4 t1).mono ?_
      rintro e w' ⟨rfl, rfl⟩
      clear g6
      have H3 := Lib.hid (HB4.out.alloc (.cells #[.int .u8 ((if t1 then 1 else 0 : Nat) : Int)] 5))
      have H4 := Lib.hid (HW4.out.trans (Wrote.alloc _ _ (.cells #[.int .u8 ((if t1 then 1 else 0 : Nat) : Int)] 5) HB4.out.slice))
      have H5 := Lib.hid (bytes_bit w4 t1)
      go_wp2_with (at_builtin; refine wpList_app rfl (.tmp 58) (.tmp 65) 24 rfl (.inl Try.underlying24) v4 (.slice (some ⟨w4.heap.size, 0, none⟩) 1 1) _ (bit t1) rfl rfl H3.out (src_bytes H5.out) (by have := HK.out; rw [q8] at this; simp only [ecs, List.map_cons, List.map_nil, List.flatten_cons, List.flatten_nil, List.append_nil, List.length_append] at this ⊢; omega) ?_; intro v5 w5 hb3 hw3; have HW5 := Lib.hid (H4.out.trans hw3); have HB5 := Lib.hid hb3; clear hb3 hw3 H3 H4 H5)
      go_roundw
      case rel =>
        refine ⟨k + 1, _, by omega, rfl, by go_num, ?_, HW5.out⟩
        rw [HT.out, ← List.append_assoc, q8]
        have h7 := HB5.out
        simpa [ecs, List.append_assoc] using h7
      case measure => simp [intOf]; omega
    · go_wp2
      go_ret
      have e : k = n := by omega
      subst e
      rw [List.take_of_length_le (by rw [HLEN.out]; exact Nat.le_refl _)] at hbr
      exact ⟨_, rfl, hbr, hwr⟩

set_option maxRecDepth 100000 in
set_option maxHeartbeats 2000000 in
theorem ref_view (w : World) (V : Value) (B : Nat) (E : List UInt8) (h : lstV 115 5 viewV B w V E) (hl : E.length ≤ 1099511627776) : Calls Try.prog 42 #[V] w (Puts w (.slice none 0 0) E) := by
  obtain ⟨n, Es, hL, rfl⟩ := lst_open sized_view h
  clear h
  obtain ⟨a, c, rfl⟩ := hL.sl
  have hn := hL.few
  have HL := Lib.hid hL
  have HE := Lib.hid hl
  have HLEN := Lib.hid hL.len
  clear hL hl
  go_enter Try.func42, Try.ntmps42
  go_wp2_with fail
  refine (refInt_core w n (by omega) (by omega)).mono ?_
  rintro e w1 ⟨v1, rfl, hb1, hw1⟩
  obtain ⟨a1, n1, c1, rfl, _⟩ := hb1.parts
  have HB1 := Lib.hid hb1
  have HW1 := Lib.hid hw1
  clear hb1 hw1
  go_wp2
  go_loopw [3, 4] (fun v' i wr => ∃ (k : Nat) (v : Value), k ≤ n ∧ v = v' ∧ i = .int .i64 k ∧ Buf wr v (Pure.enc n ++ (Es.take k).flatten) ∧ Wrote w (.slice none 0 0) wr v) (fun _ i _ => n - (intOf i).toNat)
  case atStart => exact ⟨0, _, by omega, rfl, rfl, by simpa using HB1.out, HW1.out⟩
  case round =>
    obtain ⟨k, v, hk, rfl, rfl, hbr, hwr⟩ := hrel
    by_cases hlt : k < n
    · have hkl : k < Es.length := by rw [HLEN.out]; exact hlt
      obtain ⟨g, c', X, hV, hX, hc⟩ := HL.out.at' k hkl
      simp only [Value.slice.injEq, true_and] at hV
      obtain ⟨rfl, rfl⟩ := hV
      have hfl := flat_le Es k hkl
      have HT := Lib.hid (flat_snoc Es k hkl)
      generalize Es[k] = Ek at hX HT hfl
      obtain ⟨x1, y1, k1, l1, L, F, q1, q2, q3, q4, ql, rfl, q5⟩ := hX
      have m0 := hc 0 _ rfl
      have m1 := hc 1 _ rfl
      have m2 := hc 2 _ rfl
      have m3 := hc 3 _ rfl
      have m4 := hc 4 _ rfl
      clear hc
      simp only [Nat.add_zero] at m0
      have hlen : (Pure.enc n ++ (Es.take k).flatten).length + Ek.length ≤ 1099511627776 := by
        have := HE.out; simp only [List.length_append] at this ⊢; omega
      clear hfl
      have HK := Lib.hid hlen
      have HB := Lib.hid hbr
      have HW := Lib.hid hwr
      clear hbr hwr hlen hkl
      have QL := Lib.hid ql
      clear ql
      go_wp2_with fail
      refine wp_region_tree (fun w' => Below w.heap.size w w') (Tr.take 0 (Tr.take 1 (Tr.take 2 (Tr.take 3 (Tr.take 4 (Tr.take 5 (Tr.take 6 (Tr.take 7 (Tr.take 8 (Tr.take 9 (Tr.take 10 (Tr.take 11 (Tr.take 12 (Tr.take 13 (Tr.take 14 (Tr.take 15 (Tr.take 16 (Tr.take 17 (Tr.take 18 (Tr.take 19 (Tr.take 20 (Tr.go 21 (Tr.go 22 (Tr.go 23 (Tr.take 24 Tr.done))))))))))))))))))))))))) (by kernel_rfl) (by kernel_rfl) (fun _ _ d _ _ h => by cases d <;> exact h) (HW.out.new rfl).drew ?_
      iterate 21
        apply walk_take rfl rfl
        · intro w' hS
          have c0 := cell_in hS m0
          have c1 := cell_in hS m1
          have c2 := cell_in hS m2
          have c3 := cell_in hS m3
          go_simp
          with_reducible rfl
        simp only [List.getElem_toArray, List.getElem_cons_succ, List.getElem_cons_zero, Act.put, List.setIfInBounds_toArray, List.set_cons_zero, List.set_cons_succ]
      refine tree_go rfl ?_
      go_wp2_with fail
      refine ⟨(HW.out.new rfl).drew.alloc (by have := HW.out.size; exact this) _, ?_⟩
      refine tree_go rfl ?_
      go_wp2_with fail
      have p0 : ∀ i (h : i < [x1, y1, k1, l1].length), (wr.drew.alloc (.cells #[.int .i64 x1, .int .i64 y1, .int .i64 k1, .int .i64 l1] 3)).cell? ⟨wr.heap.size, i, none⟩ = some (.int .i64 [x1, y1, k1, l1][i]) := by
        intro i hi; rcases i with _ | _ | _ | _ | i <;> first | (simp at hi; omega) | exact (Whole.new wr.drew 3 _).cell _
      refine (numbers_core _ wr.heap.size 4 [x1, y1, k1, l1] rfl (by omega) p0 (by intro n hn; simp only [List.mem_cons, List.not_mem_nil, or_false] at hn; rcases hn with rfl | rfl | rfl | rfl <;> assumption)).mono ?_
      rintro e W1 ⟨v', rfl, hb2, hw2⟩
      obtain ⟨a1, n1, c1, rfl, _⟩ := hb2.parts
      have hnew : Below wr.heap.size wr W1 := (((Below.refl _ _).drew).alloc (Nat.le_refl _) _).trans ((hw2.new rfl).mono (by simp))
      have H3 := Lib.hid (HB.out.below hnew)
      have H4 := Lib.hid (HW.out.trans (Wrote.of_below HB.out.slice hnew))
      have H5 := Lib.hid hb2.bytes
      clear hb2 hw2 hnew p0
      go_wp2_with fail
      refine ⟨H4.out.new rfl, ?_⟩
      refine walk_app rfl rfl (.tmp 14) (.tmp 36) rfl v (.slice a1 n1 c1) _ (ecs [x1, y1, k1, l1]) rfl rfl H3.out H5.out (by have := HK.out; rw [q5] at this; simp only [ecs, List.map_cons, List.map_nil, List.flatten_cons, List.flatten_nil, List.append_nil, List.length_append] at this ⊢; omega) ?_
      intro v1 w1 hb3 hw3
      have HW1 := Lib.hid (H4.out.trans hw3)
      have HB1 := Lib.hid hb3
      clear hb3 hw3 H3 H4 H5
      refine ⟨HW1.out.new rfl, ?_⟩
      simp only [List.getElem_toArray, List.getElem_cons_succ, List.getElem_cons_zero, Act.put, List.setIfInBounds_toArray, List.set_cons_zero, List.set_cons_succ]
      apply walk_take rfl rfl
      · intro w' hS
        go_simp
        with_reducible rfl
      simp only [List.getElem_toArray, List.getElem_cons_succ, List.getElem_cons_zero, Act.put, List.setIfInBounds_toArray, List.set_cons_zero, List.set_cons_succ]
      refine walk_end ?_
      have g4 := cell_in (HW1.out.new rfl) m4
      go_wp2_with fail
      refine (ref_mem w1 L B F ((fair_lst fair_mem).keep QL.out (below_above (HW1.out.new rfl))) (by have := HK.out; rw [q5] at this; simp only [List.length_append] at this; omega)).mono ?_
      rintro e W2 ⟨v', rfl, hb2, hw2⟩
      obtain ⟨a2, n2, c2, rfl, _⟩ := hb2.parts
      have hnew : Below w1.heap.size w1 W2 := hw2.new rfl
      have hy := hb2.bytes
      clear hb2 hw2
      have H3 := Lib.hid (HB1.out.below hnew)
      have H4 := Lib.hid (HW1.out.trans (Wrote.of_below HB1.out.slice hnew))
      have H5 := Lib.hid hy
      clear hnew hy g4
      go_wp2_with (at_builtin; refine wpList_app rfl (.tmp 38) (.tmp 44) 24 rfl (.inl Try.underlying24) v1 (.slice a2 n2 c2) _ (F) rfl rfl H3.out (src_bytes H5.out) (by have := HK.out; rw [q5] at this; simp only [ecs, List.map_cons, List.map_nil, List.flatten_cons, List.flatten_nil, List.append_nil, List.length_append] at this ⊢; omega) ?_; intro v2 w2 hb3 hw3; have HW2 := Lib.hid (H4.out.trans hw3); have HB2 := Lib.hid hb3; clear hb3 hw3 H3 H4 H5)
      go_roundw
      case rel =>
        refine ⟨k + 1, _, by omega, rfl, by go_num, ?_, HW2.out⟩
        rw [HT.out, ← List.append_assoc, q5]
        have h7 := HB2.out
        simpa [ecs, List.append_assoc] using h7
      case measure => simp [intOf]; omega
    · go_wp2
      go_ret
      have e : k = n := by omega
      subst e
      rw [List.take_of_length_le (by rw [HLEN.out]; exact Nat.le_refl _)] at hbr
      exact ⟨_, rfl, hbr, hwr⟩

end Go.Proofs.Ytjpaljiielemgaa
