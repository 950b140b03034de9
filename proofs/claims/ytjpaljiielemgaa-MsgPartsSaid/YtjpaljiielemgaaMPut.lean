/- msg.Put of the message that lockgatelaw06's awake writes. -/
import Derived.Test.YtjpaljiielemgaaMRefLst
import Derived.Test.YtjpaljiielemgaaAwake5
namespace Go.Proofs.Ytjpaljiielemgaa
open Go.RowKit
attribute [local go_sem] store_cplx

set_option maxRecDepth 100000 in
set_option maxHeartbeats 1000000 in
theorem putInts_core (w : World) (gs K : Nat) (L : List Int) (hK : L.length = K) (hK1 : K ≤ 1000) (hp : ∀ i (h : i < L.length), w.cell? ⟨gs, i, none⟩ = some (.int .i64 L[i])) (hr : ∀ n ∈ L, rng n) :
    Calls Try.prog 79 #[.slice none 0 0, .slice (some ⟨gs, 0, none⟩) K K] w (Puts w (.slice none 0 0) (ecs L)) := by
  have HP := Lib.hid hp
  have HK := Lib.hid hK
  have HR := Lib.hid hr
  clear hp hK hr
  go_enter Try.func79, Try.ntmps79
  go_wp2
  go_loopw [0, 9] (fun v' i wr => ∃ (k : Nat), k ≤ K ∧ i = .int .i64 k ∧ Buf wr v' (ecs (L.take k)) ∧ Wrote w (.slice none 0 0) wr v') (fun _ i _ => K - (intOf i).toNat)
  case atStart => exact ⟨0, by omega, rfl, Buf.nil w, Wrote.refl _ _ ⟨_, _, _, rfl⟩⟩
  case round =>
    obtain ⟨k, hk, rfl, hbr, hwr⟩ := hrel
    by_cases hlt : k < K
    · have hkl : k < L.length := by rw [HK.out]; exact hlt
      obtain ⟨hr1, hr2⟩ := HR.out L[k] (List.getElem_mem hkl)
      have hel := ecs_len (L.take k) (fun n hn => HR.out n (List.mem_of_mem_take hn))
      rw [List.length_take] at hel
      have hel2 : (ecs (L.take k)).length ≤ 10000 := by omega
      have hc := HP.out k hkl
      have HT := Lib.hid (ecs_take L k hkl)
      generalize L[k] = m at hr1 hr2 hc HT
      have hc2 : (wr).cell? ⟨gs, k, none⟩ = some (.int .i64 m) := by
        rw [(hwr.new rfl).cell (p := ⟨gs, k, none⟩) (World.block_lt_of_cell? w _ hc)]
        exact hc
      have HB := Lib.hid hbr
      have HW := Lib.hid hwr
      have HE := Lib.hid hel2
      clear hbr hwr hel hel2 hc hkl
      go_wp2_with fail
      refine (int_core wr _ _ m hr1 hr2 HB.out (by have := HE.out; omega)).mono ?_
      rintro e w2 ⟨v2, rfl, hb2, hw2⟩
      have H3 := Lib.hid hb2
      have H4 := Lib.hid (HW.out.trans hw2)
      clear hb2 hw2
      go_wp2
      go_roundw
      case rel =>
        refine ⟨k + 1, by omega, by go_num, ?_, H4.out⟩
        rw [HT.out]
        exact H3.out
      case measure => simp [intOf]; omega
    · go_wp2
      go_ret
      have e : k = K := by omega
      subst e
      rw [List.take_of_length_le (by rw [HK.out]; exact Nat.le_refl _)] at hbr
      exact ⟨_, rfl, hbr, hwr⟩

set_option maxRecDepth 100000 in
set_option maxHeartbeats 1000000 in
theorem listNil_80 (w : World) (v : Value) (xs : List UInt8) (hb : Buf w v xs) (hl : xs.length ≤ 1000) : Calls Try.prog 80 #[v, .slice none 0 0, .func (.func 46) #[] #[]] w (Puts w v (xs ++ [0])) := by
  have HB := Lib.hid hb
  clear hb
  go_enter Try.func80, Try.ntmps80
  go_wp2_with fail
  refine (int_core w v xs 0 (by decide) (by decide) HB.out (by omega)).mono ?_
  rintro e w2 ⟨v2, rfl, hb2, hw2⟩
  have H3 := Lib.hid hb2
  have H4 := Lib.hid hw2
  clear hb2 hw2
  go_wp2
  go_loopw [0, 15] (fun v' i wr => v2 = v' ∧ i = .int .i64 0 ∧ w2 = wr) (fun _ _ _ => 0)
  case atStart => exact ⟨rfl, rfl, rfl⟩
  case round =>
    obtain ⟨rfl, rfl, rfl⟩ := hrel
    go_wp2
    go_ret
    have h3 := H3.out
    rw [enc_0] at h3
    exact ⟨_, rfl, h3, H4.out⟩

set_option maxRecDepth 100000 in
set_option maxHeartbeats 1000000 in
theorem listNil_81 (w : World) (v : Value) (xs : List UInt8) (hb : Buf w v xs) (hl : xs.length ≤ 1000) : Calls Try.prog 81 #[v, .slice none 0 0, .func (.func 82) #[] #[]] w (Puts w v (xs ++ [0])) := by
  have HB := Lib.hid hb
  clear hb
  go_enter Try.func81, Try.ntmps81
  go_wp2_with fail
  refine (int_core w v xs 0 (by decide) (by decide) HB.out (by omega)).mono ?_
  rintro e w2 ⟨v2, rfl, hb2, hw2⟩
  have H3 := Lib.hid hb2
  have H4 := Lib.hid hw2
  clear hb2 hw2
  go_wp2
  go_loopw [0, 15] (fun v' i wr => v2 = v' ∧ i = .int .i64 0 ∧ w2 = wr) (fun _ _ _ => 0)
  case atStart => exact ⟨rfl, rfl, rfl⟩
  case round =>
    obtain ⟨rfl, rfl, rfl⟩ := hrel
    go_wp2
    go_ret
    have h3 := H3.out
    rw [enc_0] at h3
    exact ⟨_, rfl, h3, H4.out⟩

set_option maxRecDepth 100000 in
set_option maxHeartbeats 1000000 in
theorem listNil_83 (w : World) (v : Value) (xs : List UInt8) (hb : Buf w v xs) (hl : xs.length ≤ 1000) : Calls Try.prog 83 #[v, .slice none 0 0, .func (.func 84) #[] #[]] w (Puts w v (xs ++ [0])) := by
  have HB := Lib.hid hb
  clear hb
  go_enter Try.func83, Try.ntmps83
  go_wp2_with fail
  refine (int_core w v xs 0 (by decide) (by decide) HB.out (by omega)).mono ?_
  rintro e w2 ⟨v2, rfl, hb2, hw2⟩
  have H3 := Lib.hid hb2
  have H4 := Lib.hid hw2
  clear hb2 hw2
  go_wp2
  go_loopw [0, 15] (fun v' i wr => v2 = v' ∧ i = .int .i64 0 ∧ w2 = wr) (fun _ _ _ => 0)
  case atStart => exact ⟨rfl, rfl, rfl⟩
  case round =>
    obtain ⟨rfl, rfl, rfl⟩ := hrel
    go_wp2
    go_ret
    have h3 := H3.out
    rw [enc_0] at h3
    exact ⟨_, rfl, h3, H4.out⟩

set_option maxRecDepth 100000 in
set_option maxHeartbeats 1000000 in
theorem listNil_98 (w : World) (v : Value) (xs : List UInt8) (hb : Buf w v xs) (hl : xs.length ≤ 1000) : Calls Try.prog 98 #[v, .slice none 0 0, .func (.func 99) #[] #[]] w (Puts w v (xs ++ [0])) := by
  have HB := Lib.hid hb
  clear hb
  go_enter Try.func98, Try.ntmps98
  go_wp2_with fail
  refine (int_core w v xs 0 (by decide) (by decide) HB.out (by omega)).mono ?_
  rintro e w2 ⟨v2, rfl, hb2, hw2⟩
  have H3 := Lib.hid hb2
  have H4 := Lib.hid hw2
  clear hb2 hw2
  go_wp2
  go_loopw [0, 15] (fun v' i wr => v2 = v' ∧ i = .int .i64 0 ∧ w2 = wr) (fun _ _ _ => 0)
  case atStart => exact ⟨rfl, rfl, rfl⟩
  case round =>
    obtain ⟨rfl, rfl, rfl⟩ := hrel
    go_wp2
    go_ret
    have h3 := H3.out
    rw [enc_0] at h3
    exact ⟨_, rfl, h3, H4.out⟩

theorem enc_3 : Pure.enc 3 = [6] := by simp [Pure.enc, Pure.zig, Pure.var_lo]
theorem enc_100 : Pure.enc 100 = [200, 1] := by
  have h : Pure.zig 100 = 200 := rfl
  unfold Pure.enc
  rw [h, Pure.var_hi _ (by decide)]
  simp [Pure.var_lo]
theorem ver0_core (w : World) (v : Value) (xs : List UInt8) (hb : Buf w v xs) (hl : xs.length ≤ 1000) : Calls Try.prog 23 #[v, .complex .f64 0 0] w (Puts w v (xs ++ [0, 0])) := by
  have h := ver_core w v xs 0 0 (by decide) (by decide) hb (by omega)
  unfold verV verB at h
  rw [flo_0] at h
  simpa [enc_0] using h
theorem int0_core (w : World) (v : Value) (xs : List UInt8) (hb : Buf w v xs) (hl : xs.length ≤ 1000) : Calls Try.prog 14 #[v, .int .i64 0] w (Puts w v (xs ++ [0])) := by
  have h := int_core w v xs 0 (by decide) (by decide) hb (by omega)
  rwa [enc_0] at h
theorem bool0_core (w : World) (v : Value) (xs : List UInt8) (hb : Buf w v xs) (hl : xs.length ≤ 1000) : Calls Try.prog 22 #[v, .bool false] w (Puts w v (xs ++ [0])) := bool_core w v xs false hb (by omega)
theorem text0_core (w : World) (v : Value) (xs : List UInt8) (hb : Buf w v xs) (hl : xs.length ≤ 1000) : Calls Try.prog 15 #[v, .string ⟨#[]⟩] w (Puts w v (xs ++ [0])) := by
  have h := text_core w v xs ⟨#[]⟩ (by decide) hb (by omega)
  simpa [txt, enc_0] using h
theorem putOp0_core (w : World) (v : Value) (xs : List UInt8) (hb : Buf w v xs) (hl : xs.length ≤ 1000) : Calls Try.prog 47 #[v, .agg #[.int .i64 0, .string ⟨#[]⟩, .string ⟨#[]⟩, .string ⟨#[]⟩, .bool false]] w (Puts w v (xs ++ [0, 0, 0, 0, 0])) := by
  have h := putOp_core w v xs 0 ⟨#[]⟩ ⟨#[]⟩ ⟨#[]⟩ false hb (by omega) (by decide) (by decide) (by decide) (by decide)
  simpa [opB, txt, bit, enc_0] using h

set_option maxRecDepth 100000 in
set_option maxHeartbeats 2000000 in
theorem putImg0 (w : World) (v : Value) (xs : List UInt8) (hb : Buf w v xs) (hl : xs.length ≤ 900) : Calls Try.prog 85 #[v, .agg #[.complex .f64 0 0, .complex .f64 0 0, .int .i64 0, .slice none 0 0, .slice none 0 0]] w (Puts w v (xs ++ [0, 0, 0, 0, 0, 0, 0])) := by
  have HS0 := Lib.hid (Whole.new w 62 #[.complex .f64 0 0, .complex .f64 0 0, .int .i64 0, .slice none 0 0, .slice none 0 0])
  have HW0 := Lib.hid (Wrote.alloc w v (.cells #[.complex .f64 0 0, .complex .f64 0 0, .int .i64 0, .slice none 0 0, .slice none 0 0] 62) hb.slice)
  have HB0 := Lib.hid (hb.alloc (.cells #[.complex .f64 0 0, .complex .f64 0 0, .int .i64 0, .slice none 0 0, .slice none 0 0] 62))
  clear hb
  go_enter Try.func85, Try.ntmps85
  go_wp2_with fail
  generalize w.alloc (.cells #[.complex .f64 0 0, .complex .f64 0 0, .int .i64 0, .slice none 0 0, .slice none 0 0] 62) = w0 at HS0 HW0 HB0 ⊢
  go_wp2_with fail
  refine wp_region_tree (fun w' => Whole w' w.heap.size 62 #[.complex .f64 0 0, .complex .f64 0 0, .int .i64 0, .slice none 0 0, .slice none 0 0]) (Tr.take 0 (Tr.take 1 (Tr.take 2 (Tr.take 4 (Tr.take 5 (Tr.take 7 (Tr.take 8 (Tr.go 3 (Tr.go 6 (Tr.go 9 (Tr.take 10 Tr.done))))))))))) (by kernel_rfl) (by kernel_rfl) (fun _ _ d _ _ h => by cases d <;> exact h) (HS0.out.below ((Below.refl _ _).drew) HS0.out.lt) ?_
  iterate 7
    apply walk_take rfl rfl
    · intro w' hS
      have c0 := hS.cell 0
      have c1 := hS.cell 1
      have c2 := hS.cell 2
      simp only [List.getElem?_toArray, List.getElem?_cons_succ, List.getElem?_cons_zero] at c0 c1 c2
      go_simp
      with_reducible rfl
    simp only [List.getElem_toArray, List.getElem_cons_succ, List.getElem_cons_zero, Act.put, List.setIfInBounds_toArray, List.set_cons_zero, List.set_cons_succ]
  refine tree_go rfl ?_
  go_wp2_with fail
  refine (ver0_core w0.drew v _ (HB0.out.below ((Below.refl _ _).drew)) (by first | omega | (simp only [List.length_append, List.length_cons, List.length_nil]; omega))).mono ?_
  rintro e w1 ⟨v1, rfl, hb2, hw2⟩
  have HB1 := Lib.hid hb2
  have HS1 := Lib.hid ((HS0.out.below ((Below.refl _ _).drew) HS0.out.lt).wrote (HB0.out.below ((Below.refl _ _).drew)) hw2 (by decide))
  have HW1 := Lib.hid ((HW0.out.trans (Wrote.of_below HB0.out.slice ((Below.refl _ _).drew))).trans hw2)
  clear hb2 hw2
  go_wp2_with fail
  refine ⟨HS1.out, ?_⟩
  refine tree_go rfl ?_
  go_wp2_with fail
  refine (ver0_core w1 v1 _ (HB1.out.below (Below.refl _ _)) (by first | omega | (simp only [List.length_append, List.length_cons, List.length_nil]; omega))).mono ?_
  rintro e w2 ⟨v2, rfl, hb2, hw2⟩
  have HB2 := Lib.hid hb2
  have HS2 := Lib.hid ((HS1.out.below (Below.refl _ _) HS1.out.lt).wrote (HB1.out.below (Below.refl _ _)) hw2 (by decide))
  have HW2 := Lib.hid ((HW1.out.trans (Wrote.of_below HB1.out.slice (Below.refl _ _))).trans hw2)
  clear hb2 hw2
  go_wp2_with fail
  refine ⟨HS2.out, ?_⟩
  refine tree_go rfl ?_
  go_wp2_with fail
  refine (int0_core w2 v2 _ (HB2.out.below (Below.refl _ _)) (by first | omega | (simp only [List.length_append, List.length_cons, List.length_nil]; omega))).mono ?_
  rintro e w3 ⟨v3, rfl, hb2, hw2⟩
  have HB3 := Lib.hid hb2
  have HS3 := Lib.hid ((HS2.out.below (Below.refl _ _) HS2.out.lt).wrote (HB2.out.below (Below.refl _ _)) hw2 (by decide))
  have HW3 := Lib.hid ((HW2.out.trans (Wrote.of_below HB2.out.slice (Below.refl _ _))).trans hw2)
  clear hb2 hw2
  go_wp2_with fail
  refine ⟨HS3.out, ?_⟩
  apply walk_take rfl rfl
  · intro w' hS
    have c0 := hS.cell 0
    have c1 := hS.cell 1
    have c2 := hS.cell 2
    simp only [List.getElem?_toArray, List.getElem?_cons_succ, List.getElem?_cons_zero] at c0 c1 c2
    go_simp
    with_reducible rfl
  simp only [List.getElem_toArray, List.getElem_cons_succ, List.getElem_cons_zero, Act.put, List.setIfInBounds_toArray, List.set_cons_zero]
  refine walk_end ?_
  go_wp2_with fail
  refine wp_region_tree (fun w' => Whole w' w.heap.size 62 #[.complex .f64 0 0, .complex .f64 0 0, .int .i64 0, .slice none 0 0, .slice none 0 0]) (Tr.take 0 (Tr.take 1 (Tr.take 2 (Tr.take 4 (Tr.take 5 (Tr.go 3 (Tr.go 6 (Tr.take 7 Tr.done)))))))) (by kernel_rfl) (by kernel_rfl) (fun _ _ d _ _ h => by cases d <;> exact h) (HS3.out.below ((Below.refl _ _).drew) HS3.out.lt) ?_
  iterate 5
    apply walk_take rfl rfl
    · intro w' hS
      have c3 := hS.cell 3
      have c4 := hS.cell 4
      simp only [List.getElem?_toArray, List.getElem?_cons_succ, List.getElem?_cons_zero] at c3 c4
      go_simp
      with_reducible rfl
    simp only [List.getElem_toArray, List.getElem_cons_succ, List.getElem_cons_zero, Act.put, List.setIfInBounds_toArray, List.set_cons_zero, List.set_cons_succ]
  refine tree_go rfl ?_
  go_wp2_with fail
  refine (listNil_80 w3.drew v3 _ (HB3.out.below ((Below.refl _ _).drew)) (by first | omega | (simp only [List.length_append, List.length_cons, List.length_nil]; omega))).mono ?_
  rintro e w4 ⟨v4, rfl, hb2, hw2⟩
  have HB4 := Lib.hid hb2
  have HS4 := Lib.hid ((HS3.out.below ((Below.refl _ _).drew) HS3.out.lt).wrote (HB3.out.below ((Below.refl _ _).drew)) hw2 (by decide))
  have HW4 := Lib.hid ((HW3.out.trans (Wrote.of_below HB3.out.slice ((Below.refl _ _).drew))).trans hw2)
  clear hb2 hw2
  go_wp2_with fail
  refine ⟨HS4.out, ?_⟩
  refine tree_go rfl ?_
  go_wp2_with fail
  refine (listNil_98 w4 v4 _ (HB4.out.below (Below.refl _ _)) (by first | omega | (simp only [List.length_append, List.length_cons, List.length_nil]; omega))).mono ?_
  rintro e w5 ⟨v5, rfl, hb2, hw2⟩
  have HB5 := Lib.hid hb2
  have HS5 := Lib.hid ((HS4.out.below (Below.refl _ _) HS4.out.lt).wrote (HB4.out.below (Below.refl _ _)) hw2 (by decide))
  have HW5 := Lib.hid ((HW4.out.trans (Wrote.of_below HB4.out.slice (Below.refl _ _))).trans hw2)
  clear hb2 hw2
  go_wp2_with fail
  refine ⟨HS5.out, ?_⟩
  apply walk_take rfl rfl
  · intro w' hS
    have c3 := hS.cell 3
    have c4 := hS.cell 4
    simp only [List.getElem?_toArray, List.getElem?_cons_succ, List.getElem?_cons_zero] at c3 c4
    go_simp
    with_reducible rfl
  simp only [List.getElem_toArray, List.getElem_cons_succ, List.getElem_cons_zero, Act.put, List.setIfInBounds_toArray, List.set_cons_zero, List.set_cons_succ]
  refine walk_end ?_
  go_wp2
  go_ret
  refine ⟨_, rfl, ?_, HW5.out⟩
  have h7 := HB5.out
  simpa [List.append_assoc] using h7

def awakeB : List UInt8 := [6, 200, 1, 2, 0, 0, 0, 0, 0, 0, 0, 0, 0, 0, 0, 0, 0, 0, 0, 0, 0, 0, 0, 0, 0, 0, 0, 0, 0, 0, 0, 0, 0, 0, 0, 0]
set_option maxRecDepth 200000 in
set_option maxHeartbeats 4000000 in
theorem putMsg0 (w : World) : Calls Try.prog 56 #[.agg #[.int .i64 3, .int .i64 100, .int .i64 1, .int .i64 0, .int .i64 0, .int .i64 0, .int .i64 0, .int .i64 0, .int .i64 0, .int .i64 0, .int .i64 0, .int .i64 0, .bool false, .bool false, .string ⟨#[]⟩, .string ⟨#[]⟩, .complex .f64 0 0, .complex .f64 0 0, .int .i64 0, .string ⟨#[]⟩, .string ⟨#[]⟩, .string ⟨#[]⟩, .bool false, .slice none 0 0, .slice none 0 0, .slice none 0 0, .complex .f64 0 0, .complex .f64 0 0, .int .i64 0, .slice none 0 0, .slice none 0 0]] w (Puts w (.slice none 0 0) awakeB) := by
  have hs0 : Whole (w.alloc (.cells #[.int .i64 3, .int .i64 100, .int .i64 1, .int .i64 0, .int .i64 0, .int .i64 0, .int .i64 0, .int .i64 0, .int .i64 0, .int .i64 0, .int .i64 0, .int .i64 0, .bool false, .bool false, .string ⟨#[]⟩, .string ⟨#[]⟩, .complex .f64 0 0, .complex .f64 0 0, .int .i64 0, .string ⟨#[]⟩, .string ⟨#[]⟩, .string ⟨#[]⟩, .bool false, .slice none 0 0, .slice none 0 0, .slice none 0 0, .complex .f64 0 0, .complex .f64 0 0, .int .i64 0, .slice none 0 0, .slice none 0 0] 64)) w.heap.size 64 #[.int .i64 3, .int .i64 100, .int .i64 1, .int .i64 0, .int .i64 0, .int .i64 0, .int .i64 0, .int .i64 0, .int .i64 0, .int .i64 0, .int .i64 0, .int .i64 0, .bool false, .bool false, .string ⟨#[]⟩, .string ⟨#[]⟩, .complex .f64 0 0, .complex .f64 0 0, .int .i64 0, .string ⟨#[]⟩, .string ⟨#[]⟩, .string ⟨#[]⟩, .bool false, .slice none 0 0, .slice none 0 0, .slice none 0 0, .complex .f64 0 0, .complex .f64 0 0, .int .i64 0, .slice none 0 0, .slice none 0 0] := Whole.new w 64 #[.int .i64 3, .int .i64 100, .int .i64 1, .int .i64 0, .int .i64 0, .int .i64 0, .int .i64 0, .int .i64 0, .int .i64 0, .int .i64 0, .int .i64 0, .int .i64 0, .bool false, .bool false, .string ⟨#[]⟩, .string ⟨#[]⟩, .complex .f64 0 0, .complex .f64 0 0, .int .i64 0, .string ⟨#[]⟩, .string ⟨#[]⟩, .string ⟨#[]⟩, .bool false, .slice none 0 0, .slice none 0 0, .slice none 0 0, .complex .f64 0 0, .complex .f64 0 0, .int .i64 0, .slice none 0 0, .slice none 0 0]
  have HW0 := Lib.hid (Wrote.alloc w (.slice none 0 0) (.cells #[.int .i64 3, .int .i64 100, .int .i64 1, .int .i64 0, .int .i64 0, .int .i64 0, .int .i64 0, .int .i64 0, .int .i64 0, .int .i64 0, .int .i64 0, .int .i64 0, .bool false, .bool false, .string ⟨#[]⟩, .string ⟨#[]⟩, .complex .f64 0 0, .complex .f64 0 0, .int .i64 0, .string ⟨#[]⟩, .string ⟨#[]⟩, .string ⟨#[]⟩, .bool false, .slice none 0 0, .slice none 0 0, .slice none 0 0, .complex .f64 0 0, .complex .f64 0 0, .int .i64 0, .slice none 0 0, .slice none 0 0] 64) ⟨_, _, _, rfl⟩)
  have hz : (w.alloc (.cells #[.int .i64 3, .int .i64 100, .int .i64 1, .int .i64 0, .int .i64 0, .int .i64 0, .int .i64 0, .int .i64 0, .int .i64 0, .int .i64 0, .int .i64 0, .int .i64 0, .bool false, .bool false, .string ⟨#[]⟩, .string ⟨#[]⟩, .complex .f64 0 0, .complex .f64 0 0, .int .i64 0, .string ⟨#[]⟩, .string ⟨#[]⟩, .string ⟨#[]⟩, .bool false, .slice none 0 0, .slice none 0 0, .slice none 0 0, .complex .f64 0 0, .complex .f64 0 0, .int .i64 0, .slice none 0 0, .slice none 0 0] 64)).heap.size = w.heap.size + 1 := by simp
  have g0 := hs0.cell 0
  have g1 := hs0.cell 1
  have g2 := hs0.cell 2
  have g3 := hs0.cell 3
  have g4 := hs0.cell 4
  have g5 := hs0.cell 5
  have g6 := hs0.cell 6
  have g7 := hs0.cell 7
  have g8 := hs0.cell 8
  have g9 := hs0.cell 9
  have g10 := hs0.cell 10
  have g11 := hs0.cell 11
  simp only [List.getElem?_toArray, List.getElem?_cons_succ, List.getElem?_cons_zero] at g0 g1 g2 g3 g4 g5 g6 g7 g8 g9 g10 g11
  have HS0 := Lib.hid hs0
  have HZ := Lib.hid hz
  clear hs0 hz
  go_enter Try.func56, Try.ntmps56
  go_wp2_with fail
  generalize w.alloc (.cells #[.int .i64 3, .int .i64 100, .int .i64 1, .int .i64 0, .int .i64 0, .int .i64 0, .int .i64 0, .int .i64 0, .int .i64 0, .int .i64 0, .int .i64 0, .int .i64 0, .bool false, .bool false, .string ⟨#[]⟩, .string ⟨#[]⟩, .complex .f64 0 0, .complex .f64 0 0, .int .i64 0, .string ⟨#[]⟩, .string ⟨#[]⟩, .string ⟨#[]⟩, .bool false, .slice none 0 0, .slice none 0 0, .slice none 0 0, .complex .f64 0 0, .complex .f64 0 0, .int .i64 0, .slice none 0 0, .slice none 0 0] 64) = W0 at HS0 HW0 HZ g0 g1 g2 g3 g4 g5 g6 g7 g8 g9 g10 g11 ⊢
  have p0 : ∀ i (h : i < ([3, 100, 1, 0, 0, 0, 0, 0, 0, 0, 0, 0] : List Int).length), (W0.alloc (.cells #[.int .i64 3, .int .i64 100, .int .i64 1, .int .i64 0, .int .i64 0, .int .i64 0, .int .i64 0, .int .i64 0, .int .i64 0, .int .i64 0, .int .i64 0, .int .i64 0] 3)).cell? ⟨w.heap.size + 1, i, none⟩ = some (.int .i64 (([3, 100, 1, 0, 0, 0, 0, 0, 0, 0, 0, 0] : List Int)[i])) := by
    rw [← HZ.out]
    intro i hi; rcases i with _ | _ | _ | _ | _ | _ | _ | _ | _ | _ | _ | _ | i <;> first | (simp at hi; omega) | exact (Whole.new W0 3 _).cell _
  refine (putInts_core _ (w.heap.size + 1) 12 [3, 100, 1, 0, 0, 0, 0, 0, 0, 0, 0, 0] rfl (by omega) p0 (by intro n hn; simp only [List.mem_cons, List.not_mem_nil, or_false] at hn; rcases hn with rfl | rfl | rfl | rfl | rfl | rfl | rfl | rfl | rfl | rfl | rfl | rfl <;> exact ⟨by decide, by decide⟩)).mono ?_
  rintro e w1 ⟨v1, rfl, hb2, hw2⟩
  have HB1 := Lib.hid hb2
  have HS1 := Lib.hid (HS0.out.below (((Below.refl _ _).alloc (Nat.le_refl _) (.cells #[.int .i64 3, .int .i64 100, .int .i64 1, .int .i64 0, .int .i64 0, .int .i64 0, .int .i64 0, .int .i64 0, .int .i64 0, .int .i64 0, .int .i64 0, .int .i64 0] 3)).trans ((hw2.new rfl).mono (by simp))) HS0.out.lt)
  have HW1 := Lib.hid ((HW0.out.trans (Wrote.alloc W0 (.slice none 0 0) (.cells #[.int .i64 3, .int .i64 100, .int .i64 1, .int .i64 0, .int .i64 0, .int .i64 0, .int .i64 0, .int .i64 0, .int .i64 0, .int .i64 0, .int .i64 0, .int .i64 0] 3) ⟨_, _, _, rfl⟩)).trans hw2)
  clear hb2 hw2 p0 g0 g1 g2 g3 g4 g5 g6 g7 g8 g9 g10 g11
  go_wp2_with fail
  refine wp_region_tree (fun w' => Whole w' w.heap.size 64 #[.int .i64 3, .int .i64 100, .int .i64 1, .int .i64 0, .int .i64 0, .int .i64 0, .int .i64 0, .int .i64 0, .int .i64 0, .int .i64 0, .int .i64 0, .int .i64 0, .bool false, .bool false, .string ⟨#[]⟩, .string ⟨#[]⟩, .complex .f64 0 0, .complex .f64 0 0, .int .i64 0, .string ⟨#[]⟩, .string ⟨#[]⟩, .string ⟨#[]⟩, .bool false, .slice none 0 0, .slice none 0 0, .slice none 0 0, .complex .f64 0 0, .complex .f64 0 0, .int .i64 0, .slice none 0 0, .slice none 0 0]) (Tr.take 0 (Tr.take 1 (Tr.take 2 (Tr.take 4 (Tr.take 5 (Tr.go 3 (Tr.go 6 (Tr.take 7 Tr.done)))))))) (by kernel_rfl) (by kernel_rfl) (fun _ _ d _ _ h => by cases d <;> exact h) (HS1.out.below ((Below.refl _ _).drew) HS1.out.lt) ?_
  iterate 5
    apply walk_take rfl rfl
    · intro w' hS
      have c12 := hS.cell 12
      have c13 := hS.cell 13
      simp only [List.getElem?_toArray, List.getElem?_cons_succ, List.getElem?_cons_zero] at c12 c13
      go_simp
      with_reducible rfl
    simp only [List.getElem_toArray, List.getElem_cons_succ, List.getElem_cons_zero, Act.put, List.setIfInBounds_toArray, List.set_cons_zero, List.set_cons_succ]
  refine tree_go rfl ?_
  go_wp2_with fail
  refine (bool0_core w1.drew v1 _ (HB1.out.below ((Below.refl _ _).drew)) (by simp only [ecs, List.map_cons, List.map_nil, List.flatten_cons, List.flatten_nil, enc_0, enc_1, enc_3, enc_100, List.length_append, List.length_cons, List.length_nil]; omega)).mono ?_
  rintro e w2 ⟨v2, rfl, hb2, hw2⟩
  have HB2 := Lib.hid hb2
  have HS2 := Lib.hid ((HS1.out.below ((Below.refl _ _).drew) HS1.out.lt).wrote (HB1.out.below ((Below.refl _ _).drew)) hw2 (by decide))
  have HW2 := Lib.hid ((HW1.out.trans (Wrote.of_below HB1.out.slice ((Below.refl _ _).drew))).trans hw2)
  clear hb2 hw2
  go_wp2_with fail
  refine ⟨HS2.out, ?_⟩
  refine tree_go rfl ?_
  go_wp2_with fail
  refine (bool0_core w2 v2 _ (HB2.out.below (Below.refl _ _)) (by simp only [ecs, List.map_cons, List.map_nil, List.flatten_cons, List.flatten_nil, enc_0, enc_1, enc_3, enc_100, List.length_append, List.length_cons, List.length_nil]; omega)).mono ?_
  rintro e w3 ⟨v3, rfl, hb2, hw2⟩
  have HB3 := Lib.hid hb2
  have HS3 := Lib.hid ((HS2.out.below (Below.refl _ _) HS2.out.lt).wrote (HB2.out.below (Below.refl _ _)) hw2 (by decide))
  have HW3 := Lib.hid ((HW2.out.trans (Wrote.of_below HB2.out.slice (Below.refl _ _))).trans hw2)
  clear hb2 hw2
  go_wp2_with fail
  refine ⟨HS3.out, ?_⟩
  apply walk_take rfl rfl
  · intro w' hS
    have c12 := hS.cell 12
    have c13 := hS.cell 13
    simp only [List.getElem?_toArray, List.getElem?_cons_succ, List.getElem?_cons_zero] at c12 c13
    go_simp
    with_reducible rfl
  simp only [List.getElem_toArray, List.getElem_cons_succ, List.getElem_cons_zero, Act.put, List.setIfInBounds_toArray, List.set_cons_zero, List.set_cons_succ]
  refine walk_end ?_
  go_wp2_with fail
  refine wp_region_tree (fun w' => Whole w' w.heap.size 64 #[.int .i64 3, .int .i64 100, .int .i64 1, .int .i64 0, .int .i64 0, .int .i64 0, .int .i64 0, .int .i64 0, .int .i64 0, .int .i64 0, .int .i64 0, .int .i64 0, .bool false, .bool false, .string ⟨#[]⟩, .string ⟨#[]⟩, .complex .f64 0 0, .complex .f64 0 0, .int .i64 0, .string ⟨#[]⟩, .string ⟨#[]⟩, .string ⟨#[]⟩, .bool false, .slice none 0 0, .slice none 0 0, .slice none 0 0, .complex .f64 0 0, .complex .f64 0 0, .int .i64 0, .slice none 0 0, .slice none 0 0]) (Tr.take 0 (Tr.take 1 (Tr.take 2 (Tr.take 4 (Tr.take 5 (Tr.go 3 (Tr.go 6 (Tr.take 7 Tr.done)))))))) (by kernel_rfl) (by kernel_rfl) (fun _ _ d _ _ h => by cases d <;> exact h) (HS3.out.below ((Below.refl _ _).drew) HS3.out.lt) ?_
  iterate 5
    apply walk_take rfl rfl
    · intro w' hS
      have c14 := hS.cell 14
      have c15 := hS.cell 15
      simp only [List.getElem?_toArray, List.getElem?_cons_succ, List.getElem?_cons_zero] at c14 c15
      go_simp
      with_reducible rfl
    simp only [List.getElem_toArray, List.getElem_cons_succ, List.getElem_cons_zero, Act.put, List.setIfInBounds_toArray, List.set_cons_zero, List.set_cons_succ]
  refine tree_go rfl ?_
  go_wp2_with fail
  refine (text0_core w3.drew v3 _ (HB3.out.below ((Below.refl _ _).drew)) (by simp only [ecs, List.map_cons, List.map_nil, List.flatten_cons, List.flatten_nil, enc_0, enc_1, enc_3, enc_100, List.length_append, List.length_cons, List.length_nil]; omega)).mono ?_
  rintro e w4 ⟨v4, rfl, hb2, hw2⟩
  have HB4 := Lib.hid hb2
  have HS4 := Lib.hid ((HS3.out.below ((Below.refl _ _).drew) HS3.out.lt).wrote (HB3.out.below ((Below.refl _ _).drew)) hw2 (by decide))
  have HW4 := Lib.hid ((HW3.out.trans (Wrote.of_below HB3.out.slice ((Below.refl _ _).drew))).trans hw2)
  clear hb2 hw2
  go_wp2_with fail
  refine ⟨HS4.out, ?_⟩
  refine tree_go rfl ?_
  go_wp2_with fail
  refine (text0_core w4 v4 _ (HB4.out.below (Below.refl _ _)) (by simp only [ecs, List.map_cons, List.map_nil, List.flatten_cons, List.flatten_nil, enc_0, enc_1, enc_3, enc_100, List.length_append, List.length_cons, List.length_nil]; omega)).mono ?_
  rintro e w5 ⟨v5, rfl, hb2, hw2⟩
  have HB5 := Lib.hid hb2
  have HS5 := Lib.hid ((HS4.out.below (Below.refl _ _) HS4.out.lt).wrote (HB4.out.below (Below.refl _ _)) hw2 (by decide))
  have HW5 := Lib.hid ((HW4.out.trans (Wrote.of_below HB4.out.slice (Below.refl _ _))).trans hw2)
  clear hb2 hw2
  go_wp2_with fail
  refine ⟨HS5.out, ?_⟩
  apply walk_take rfl rfl
  · intro w' hS
    have c14 := hS.cell 14
    have c15 := hS.cell 15
    simp only [List.getElem?_toArray, List.getElem?_cons_succ, List.getElem?_cons_zero] at c14 c15
    go_simp
    with_reducible rfl
  simp only [List.getElem_toArray, List.getElem_cons_succ, List.getElem_cons_zero, Act.put, List.setIfInBounds_toArray, List.set_cons_zero, List.set_cons_succ]
  refine walk_end ?_
  go_wp2_with fail
  refine wp_region_tree (fun w' => Whole w' w.heap.size 64 #[.int .i64 3, .int .i64 100, .int .i64 1, .int .i64 0, .int .i64 0, .int .i64 0, .int .i64 0, .int .i64 0, .int .i64 0, .int .i64 0, .int .i64 0, .int .i64 0, .bool false, .bool false, .string ⟨#[]⟩, .string ⟨#[]⟩, .complex .f64 0 0, .complex .f64 0 0, .int .i64 0, .string ⟨#[]⟩, .string ⟨#[]⟩, .string ⟨#[]⟩, .bool false, .slice none 0 0, .slice none 0 0, .slice none 0 0, .complex .f64 0 0, .complex .f64 0 0, .int .i64 0, .slice none 0 0, .slice none 0 0]) (Tr.take 0 (Tr.take 1 (Tr.take 2 (Tr.take 4 (Tr.take 5 (Tr.go 3 (Tr.go 6 (Tr.take 7 Tr.done)))))))) (by kernel_rfl) (by kernel_rfl) (fun _ _ d _ _ h => by cases d <;> exact h) (HS5.out.below ((Below.refl _ _).drew) HS5.out.lt) ?_
  iterate 5
    apply walk_take rfl rfl
    · intro w' hS
      have c16 := hS.cell 16
      have c17 := hS.cell 17
      simp only [List.getElem?_toArray, List.getElem?_cons_succ, List.getElem?_cons_zero] at c16 c17
      go_simp
      with_reducible rfl
    simp only [List.getElem_toArray, List.getElem_cons_succ, List.getElem_cons_zero, Act.put, List.setIfInBounds_toArray, List.set_cons_zero, List.set_cons_succ]
  refine tree_go rfl ?_
  go_wp2_with fail
  refine (ver0_core w5.drew v5 _ (HB5.out.below ((Below.refl _ _).drew)) (by simp only [ecs, List.map_cons, List.map_nil, List.flatten_cons, List.flatten_nil, enc_0, enc_1, enc_3, enc_100, List.length_append, List.length_cons, List.length_nil]; omega)).mono ?_
  rintro e w6 ⟨v6, rfl, hb2, hw2⟩
  have HB6 := Lib.hid hb2
  have HS6 := Lib.hid ((HS5.out.below ((Below.refl _ _).drew) HS5.out.lt).wrote (HB5.out.below ((Below.refl _ _).drew)) hw2 (by decide))
  have HW6 := Lib.hid ((HW5.out.trans (Wrote.of_below HB5.out.slice ((Below.refl _ _).drew))).trans hw2)
  clear hb2 hw2
  go_wp2_with fail
  refine ⟨HS6.out, ?_⟩
  refine tree_go rfl ?_
  go_wp2_with fail
  refine (ver0_core w6 v6 _ (HB6.out.below (Below.refl _ _)) (by simp only [ecs, List.map_cons, List.map_nil, List.flatten_cons, List.flatten_nil, enc_0, enc_1, enc_3, enc_100, List.length_append, List.length_cons, List.length_nil]; omega)).mono ?_
  rintro e w7 ⟨v7, rfl, hb2, hw2⟩
  have HB7 := Lib.hid hb2
  have HS7 := Lib.hid ((HS6.out.below (Below.refl _ _) HS6.out.lt).wrote (HB6.out.below (Below.refl _ _)) hw2 (by decide))
  have HW7 := Lib.hid ((HW6.out.trans (Wrote.of_below HB6.out.slice (Below.refl _ _))).trans hw2)
  clear hb2 hw2
  go_wp2_with fail
  refine ⟨HS7.out, ?_⟩
  apply walk_take rfl rfl
  · intro w' hS
    have c16 := hS.cell 16
    have c17 := hS.cell 17
    simp only [List.getElem?_toArray, List.getElem?_cons_succ, List.getElem?_cons_zero] at c16 c17
    go_simp
    with_reducible rfl
  simp only [List.getElem_toArray, List.getElem_cons_succ, List.getElem_cons_zero, Act.put, List.setIfInBounds_toArray, List.set_cons_zero, List.set_cons_succ]
  refine walk_end ?_
  have g18 := HS7.out.cell 18
  have g19 := HS7.out.cell 19
  have g20 := HS7.out.cell 20
  have g21 := HS7.out.cell 21
  have g22 := HS7.out.cell 22
  simp only [List.getElem?_toArray, List.getElem?_cons_succ, List.getElem?_cons_zero] at g18 g19 g20 g21 g22
  go_wp2_with fail
  refine (putOp0_core w7 v7 _ HB7.out (by simp only [ecs, List.map_cons, List.map_nil, List.flatten_cons, List.flatten_nil, enc_0, enc_1, enc_3, enc_100, List.length_append, List.length_cons, List.length_nil]; omega)).mono ?_
  rintro e w8 ⟨v8, rfl, hb2, hw2⟩
  have HB8 := Lib.hid hb2
  have HS8 := Lib.hid ((HS7.out.below (Below.refl _ _) HS7.out.lt).wrote (HB7.out.below (Below.refl _ _)) hw2 (by decide))
  have HW8 := Lib.hid ((HW7.out.trans (Wrote.of_below HB7.out.slice (Below.refl _ _))).trans hw2)
  clear hb2 hw2
  clear g18 g19 g20 g21 g22
  have g23 := HS8.out.cell 23
  simp only [List.getElem?_toArray, List.getElem?_cons_succ, List.getElem?_cons_zero] at g23
  go_wp2_with fail
  refine (listNil_80 w8 v8 _ HB8.out (by simp only [ecs, List.map_cons, List.map_nil, List.flatten_cons, List.flatten_nil, enc_0, enc_1, enc_3, enc_100, List.length_append, List.length_cons, List.length_nil]; omega)).mono ?_
  rintro e w9 ⟨v9, rfl, hb2, hw2⟩
  have HB9 := Lib.hid hb2
  have HS9 := Lib.hid ((HS8.out.below (Below.refl _ _) HS8.out.lt).wrote (HB8.out.below (Below.refl _ _)) hw2 (by decide))
  have HW9 := Lib.hid ((HW8.out.trans (Wrote.of_below HB8.out.slice (Below.refl _ _))).trans hw2)
  clear hb2 hw2
  clear g23
  have g24 := HS9.out.cell 24
  simp only [List.getElem?_toArray, List.getElem?_cons_succ, List.getElem?_cons_zero] at g24
  go_wp2_with fail
  refine (listNil_81 w9 v9 _ HB9.out (by simp only [ecs, List.map_cons, List.map_nil, List.flatten_cons, List.flatten_nil, enc_0, enc_1, enc_3, enc_100, List.length_append, List.length_cons, List.length_nil]; omega)).mono ?_
  rintro e w10 ⟨v10, rfl, hb2, hw2⟩
  have HB10 := Lib.hid hb2
  have HS10 := Lib.hid ((HS9.out.below (Below.refl _ _) HS9.out.lt).wrote (HB9.out.below (Below.refl _ _)) hw2 (by decide))
  have HW10 := Lib.hid ((HW9.out.trans (Wrote.of_below HB9.out.slice (Below.refl _ _))).trans hw2)
  clear hb2 hw2
  clear g24
  have g25 := HS10.out.cell 25
  simp only [List.getElem?_toArray, List.getElem?_cons_succ, List.getElem?_cons_zero] at g25
  go_wp2_with fail
  refine (listNil_83 w10 v10 _ HB10.out (by simp only [ecs, List.map_cons, List.map_nil, List.flatten_cons, List.flatten_nil, enc_0, enc_1, enc_3, enc_100, List.length_append, List.length_cons, List.length_nil]; omega)).mono ?_
  rintro e w11 ⟨v11, rfl, hb2, hw2⟩
  have HB11 := Lib.hid hb2
  have HS11 := Lib.hid ((HS10.out.below (Below.refl _ _) HS10.out.lt).wrote (HB10.out.below (Below.refl _ _)) hw2 (by decide))
  have HW11 := Lib.hid ((HW10.out.trans (Wrote.of_below HB10.out.slice (Below.refl _ _))).trans hw2)
  clear hb2 hw2
  clear g25
  have g26 := HS11.out.cell 26
  have g27 := HS11.out.cell 27
  have g28 := HS11.out.cell 28
  have g29 := HS11.out.cell 29
  have g30 := HS11.out.cell 30
  simp only [List.getElem?_toArray, List.getElem?_cons_succ, List.getElem?_cons_zero] at g26 g27 g28 g29 g30
  go_wp2_with fail
  refine (putImg0 w11 v11 _ HB11.out (by simp only [ecs, List.map_cons, List.map_nil, List.flatten_cons, List.flatten_nil, enc_0, enc_1, enc_3, enc_100, List.length_append, List.length_cons, List.length_nil]; omega)).mono ?_
  rintro e w12 ⟨v12, rfl, hb2, hw2⟩
  have HB12 := Lib.hid hb2
  have HS12 := Lib.hid ((HS11.out.below (Below.refl _ _) HS11.out.lt).wrote (HB11.out.below (Below.refl _ _)) hw2 (by decide))
  have HW12 := Lib.hid ((HW11.out.trans (Wrote.of_below HB11.out.slice (Below.refl _ _))).trans hw2)
  clear hb2 hw2
  clear g26 g27 g28 g29 g30
  go_wp2
  go_ret
  refine ⟨_, rfl, ?_, HW12.out⟩
  have h7 := HB12.out
  have e : ecs [3, 100, 1, 0, 0, 0, 0, 0, 0, 0, 0, 0] = [6, 200, 1, 2, 0, 0, 0, 0, 0, 0, 0, 0, 0] := by simp [ecs, enc_0, enc_1, enc_3, enc_100]
  rw [e] at h7
  exact h7

end Go.Proofs.Ytjpaljiielemgaa
