/- 'entry.Put'. -/
import Derived.Test.YtjpaljiielemgaaPutOp
namespace Go.Proofs.Ytjpaljiielemgaa
open Go.RowKit

theorem Buf.drew {w : World} {v : Value} {xs : List UInt8} (h : Buf w v xs) : Buf w.drew v xs := h
theorem Wrote.undrew {w w' : World} {v v' : Value} (h : Wrote w.drew v w' v') : Wrote w v w' v' := ⟨h.os, h.tape, h.output, h.size, h.other, h.same, h.became⟩

def encs (L : List Int) : List UInt8 := (L.map Pure.enc).flatten
theorem encs_take (L : List Int) (k : Nat) (h : k < L.length) : encs (L.take (k + 1)) = encs (L.take k) ++ Pure.enc L[k] := by
  unfold encs
  rw [List.take_succ_eq_append_getElem h, List.map_append, List.flatten_append]; simp
theorem encs_len (L : List Int) (h : ∀ n ∈ L, -9223372036854775808 ≤ n ∧ n ≤ 9223372036854775807) : (encs L).length ≤ L.length * 10 := by
  induction L with
  | nil => simp [encs]
  | cons s L ih =>
    have h3 := h s (by simp)
    have h1 := Pure.enc_len s h3.1 h3.2
    have h4 := ih (fun x hx => h x (by simp [hx]))
    have e : encs (s :: L) = Pure.enc s ++ encs L := by simp [encs]
    rw [e, List.length_append, List.length_cons]
    omega

set_option maxRecDepth 100000 in
set_option maxHeartbeats 4000000 in
theorem putEnt_core (w : World) (v : Value) (xs : List UInt8) (x y : Nat) (k : Int) (a b : ByteArray) (s t : Bool) (l m n : Int) (c : ByteArray) (u : Bool) (hb : Buf w v xs) (hl : xs.length ≤ 1000000)
    (hx : x ≤ 1099511627776) (hy : y ≤ 1099511627776) (hk : -9223372036854775808 ≤ k ∧ k ≤ 9223372036854775807) (hL : -9223372036854775808 ≤ l ∧ l ≤ 9223372036854775807) (hM : -9223372036854775808 ≤ m ∧ m ≤ 9223372036854775807) (hN : -9223372036854775808 ≤ n ∧ n ≤ 9223372036854775807)
    (ha : a.size ≤ 65536) (hb' : b.size ≤ 65536) (hc : c.size ≤ 65536) :
    Calls Try.prog 46 #[v, .agg #[verV x y, .int .i64 k, .string a, .string b, .bool s, .bool t, .int .i64 l, .int .i64 m, .int .i64 n, .string c, .bool u]] w (Puts w v (xs ++ entB x y k a b s t l m n c u)) := by
  have s0 := Whole.new w 48 #[verV x y, .int .i64 k, .string a, .string b, .bool s, .bool t, .int .i64 l, .int .i64 m, .int .i64 n, .string c, .bool u]
  have hb0 := hb.alloc (.cells #[verV x y, .int .i64 k, .string a, .string b, .bool s, .bool t, .int .i64 l, .int .i64 m, .int .i64 n, .string c, .bool u] 48)
  have w0 := Wrote.alloc w v (.cells #[verV x y, .int .i64 k, .string a, .string b, .bool s, .bool t, .int .i64 l, .int .i64 m, .int .i64 n, .string c, .bool u] 48) hb.slice
  have p1 := Pure.enc_len (x : Int) (by omega) (by omega)
  have p2 := Pure.enc_len (y : Int) (by omega) (by omega)
  have p3 := Pure.enc_len k hk.1 hk.2
  have p4 := Pure.enc_len l hL.1 hL.2
  have p5 := Pure.enc_len m hM.1 hM.2
  have p6 := Pure.enc_len n hN.1 hN.2
  have q1 := txt_len a.data.toList (by show a.size ≤ _; omega)
  have q2 := txt_len b.data.toList (by show b.size ≤ _; omega)
  have q3 := txt_len c.data.toList (by show c.size ≤ _; omega)
  have r1 : a.data.toList.length = a.size := by simp
  have r2 : b.data.toList.length = b.size := by simp
  have r3 : c.data.toList.length = c.size := by simp
  have hall : ∀ q ∈ [l, m, n], -9223372036854775808 ≤ q ∧ q ≤ 9223372036854775807 := by
    intro q hq; simp at hq; rcases hq with rfl | rfl | rfl <;> assumption
  have H : xs.length ≤ 1000000 ∧ (verB x y).length ≤ 20 ∧ (Pure.enc k).length ≤ 10 ∧ (txt a.data.toList).length ≤ 65546 ∧ (txt b.data.toList).length ≤ 65546 ∧ (txt c.data.toList).length ≤ 65546 ∧ (bit s).length = 1 ∧ (bit t).length = 1 ∧ (bit u).length = 1 ∧ (∀ j, (encs ([l, m, n].take j)).length ≤ 30) := by
    refine ⟨hl, ?_, p3, by omega, by omega, by omega, rfl, rfl, rfl, fun j => ?_⟩
    · unfold verB; rw [List.length_append]; omega
    · have := encs_len ([l, m, n].take j) (fun q hq => hall q (List.mem_of_mem_take hq))
      rw [List.length_take] at this
      have : min j [l, m, n].length ≤ 3 := Nat.le_trans (Nat.min_le_right _ _) (by simp)
      omega
  clear p1 p2 p3 p4 p5 p6 q1 q2 q3 r1 r2 r3 hl
  replace H := Lib.hid H; replace hall := Lib.hid hall
  replace s0 := Lib.hid s0; replace hb0 := Lib.hid hb0; replace w0 := Lib.hid w0
  go_enter Try.func46, Try.ntmps46
  go_wp2_with fail
  refine wp_region_chain (fun w' => Whole w' w.heap.size 48 #[verV x y, .int .i64 k, .string a, .string b, .bool s, .bool t, .int .i64 l, .int .i64 m, .int .i64 n, .string c, .bool u]) [(true, 0), (true, 1), (true, 2), (true, 4), (true, 5), (false, 3), (false, 6), (true, 7)] (by kernel_rfl) (by kernel_rfl) (fun _ _ d _ _ h => by cases d <;> exact h) s0.out ?_
  iterate 2
    apply chain_take rfl rfl
    · intro w' hS
      go_simp
      with_reducible rfl
    simp only [List.getElem_toArray, List.getElem_cons_succ, List.getElem_cons_zero, Act.put, List.setIfInBounds_toArray, List.set_cons_zero, List.set_cons_succ]
  apply chain_take rfl rfl
  · intro w' hS
    have c0 := hS.cell 0
    simp only [List.getElem?_toArray, List.getElem?_cons_zero] at c0
    go_simp
    with_reducible rfl
  simp only [List.getElem_toArray, List.getElem_cons_succ, List.getElem_cons_zero, Act.put, List.setIfInBounds_toArray, List.set_cons_zero, List.set_cons_succ]
  apply chain_take rfl rfl
  · intro w' hS
    go_simp
    with_reducible rfl
  simp only [List.getElem_toArray, List.getElem_cons_succ, List.getElem_cons_zero, Act.put, List.setIfInBounds_toArray, List.set_cons_zero, List.set_cons_succ]
  apply chain_take rfl rfl
  · intro w' hS
    have c0 := hS.cell 1
    simp only [List.getElem?_toArray, List.getElem?_cons_succ, List.getElem?_cons_zero] at c0
    go_simp
    with_reducible rfl
  simp only [List.getElem_toArray, List.getElem_cons_succ, List.getElem_cons_zero, Act.put, List.setIfInBounds_toArray, List.set_cons_zero, List.set_cons_succ]
  refine chain_go rfl ?_
  go_wp2_with fail
  refine (ver_core _ _ _ x y hx hy hb0.out.drew (by obtain ⟨z1, z2, z3, z4, z5, z6, z7, z8, z9, z10⟩ := H.out; have z11 := z10 3; (try simp only [List.length_append] at *); omega)).mono ?_
  rintro e w1 ⟨v1, rfl, hb1, hw1⟩
  replace hw1 := hw1.undrew
  have s1 := s0.out.wrote hb0.out hw1 (by decide)
  have w1' := w0.out.trans hw1
  clear hw1
  replace s1 := Lib.hid s1; replace hb1 := Lib.hid hb1; replace w1' := Lib.hid w1'
  go_wp2_with fail
  refine ⟨s1.out, ?_⟩
  refine chain_go rfl ?_
  go_wp2_with fail
  refine (int_core _ _ _ k hk.1 hk.2 hb1.out (by obtain ⟨z1, z2, z3, z4, z5, z6, z7, z8, z9, z10⟩ := H.out; have z11 := z10 3; (try simp only [List.length_append] at *); omega)).mono ?_
  rintro e w2 ⟨v2, rfl, hb2, hw2⟩
  have s2 := s1.out.wrote hb1.out hw2 (by decide)
  have w2' := w1'.out.trans hw2
  clear hw2
  replace s2 := Lib.hid s2; replace hb2 := Lib.hid hb2; replace w2' := Lib.hid w2'
  go_wp2_with fail
  refine ⟨s2.out, ?_⟩
  apply chain_take rfl rfl
  · intro w' hS
    go_simp
    with_reducible rfl
  simp only [List.getElem_toArray, List.getElem_cons_succ, List.getElem_cons_zero, Act.put, List.setIfInBounds_toArray, List.set_cons_zero]
  apply chain_end
  go_wp2_with fail
  refine wp_region_chain (fun w' => Whole w' w.heap.size 48 #[verV x y, .int .i64 k, .string a, .string b, .bool s, .bool t, .int .i64 l, .int .i64 m, .int .i64 n, .string c, .bool u]) [(true, 0), (true, 1), (true, 2), (true, 4), (true, 5), (false, 3), (false, 6), (true, 7)] (by kernel_rfl) (by kernel_rfl) (fun _ _ d _ _ h => by cases d <;> exact h) s2.out ?_
  iterate 2
    apply chain_take rfl rfl
    · intro w' hS
      go_simp
      with_reducible rfl
    simp only [List.getElem_toArray, List.getElem_cons_succ, List.getElem_cons_zero, Act.put, List.setIfInBounds_toArray, List.set_cons_zero, List.set_cons_succ]
  apply chain_take rfl rfl
  · intro w' hS
    have c0 := hS.cell 2
    simp only [List.getElem?_toArray, List.getElem?_cons_succ, List.getElem?_cons_zero] at c0
    go_simp
    with_reducible rfl
  simp only [List.getElem_toArray, List.getElem_cons_succ, List.getElem_cons_zero, Act.put, List.setIfInBounds_toArray, List.set_cons_zero, List.set_cons_succ]
  apply chain_take rfl rfl
  · intro w' hS
    go_simp
    with_reducible rfl
  simp only [List.getElem_toArray, List.getElem_cons_succ, List.getElem_cons_zero, Act.put, List.setIfInBounds_toArray, List.set_cons_zero, List.set_cons_succ]
  apply chain_take rfl rfl
  · intro w' hS
    have c0 := hS.cell 3
    simp only [List.getElem?_toArray, List.getElem?_cons_succ, List.getElem?_cons_zero] at c0
    go_simp
    with_reducible rfl
  simp only [List.getElem_toArray, List.getElem_cons_succ, List.getElem_cons_zero, Act.put, List.setIfInBounds_toArray, List.set_cons_zero, List.set_cons_succ]
  refine chain_go rfl ?_
  go_wp2_with fail
  refine (text_core _ _ _ a (by omega) hb2.out.drew (by obtain ⟨z1, z2, z3, z4, z5, z6, z7, z8, z9, z10⟩ := H.out; have z11 := z10 3; (try simp only [List.length_append] at *); omega)).mono ?_
  rintro e w3 ⟨v3, rfl, hb3, hw3⟩
  replace hw3 := hw3.undrew
  have s3 := s2.out.wrote hb2.out hw3 (by decide)
  have w3' := w2'.out.trans hw3
  clear hw3
  replace s3 := Lib.hid s3; replace hb3 := Lib.hid hb3; replace w3' := Lib.hid w3'
  go_wp2_with fail
  refine ⟨s3.out, ?_⟩
  refine chain_go rfl ?_
  go_wp2_with fail
  refine (text_core _ _ _ b (by omega) hb3.out (by obtain ⟨z1, z2, z3, z4, z5, z6, z7, z8, z9, z10⟩ := H.out; have z11 := z10 3; (try simp only [List.length_append] at *); omega)).mono ?_
  rintro e w4 ⟨v4, rfl, hb4, hw4⟩
  have s4 := s3.out.wrote hb3.out hw4 (by decide)
  have w4' := w3'.out.trans hw4
  clear hw4
  replace s4 := Lib.hid s4; replace hb4 := Lib.hid hb4; replace w4' := Lib.hid w4'
  go_wp2_with fail
  refine ⟨s4.out, ?_⟩
  apply chain_take rfl rfl
  · intro w' hS
    go_simp
    with_reducible rfl
  simp only [List.getElem_toArray, List.getElem_cons_succ, List.getElem_cons_zero, Act.put, List.setIfInBounds_toArray, List.set_cons_zero]
  apply chain_end
  go_wp2_with fail
  refine wp_region_chain (fun w' => Whole w' w.heap.size 48 #[verV x y, .int .i64 k, .string a, .string b, .bool s, .bool t, .int .i64 l, .int .i64 m, .int .i64 n, .string c, .bool u]) [(true, 0), (true, 1), (true, 2), (true, 4), (true, 5), (false, 3), (false, 6), (true, 7)] (by kernel_rfl) (by kernel_rfl) (fun _ _ d _ _ h => by cases d <;> exact h) s4.out ?_
  iterate 2
    apply chain_take rfl rfl
    · intro w' hS
      go_simp
      with_reducible rfl
    simp only [List.getElem_toArray, List.getElem_cons_succ, List.getElem_cons_zero, Act.put, List.setIfInBounds_toArray, List.set_cons_zero, List.set_cons_succ]
  apply chain_take rfl rfl
  · intro w' hS
    have c0 := hS.cell 4
    simp only [List.getElem?_toArray, List.getElem?_cons_succ, List.getElem?_cons_zero] at c0
    go_simp
    with_reducible rfl
  simp only [List.getElem_toArray, List.getElem_cons_succ, List.getElem_cons_zero, Act.put, List.setIfInBounds_toArray, List.set_cons_zero, List.set_cons_succ]
  apply chain_take rfl rfl
  · intro w' hS
    go_simp
    with_reducible rfl
  simp only [List.getElem_toArray, List.getElem_cons_succ, List.getElem_cons_zero, Act.put, List.setIfInBounds_toArray, List.set_cons_zero, List.set_cons_succ]
  apply chain_take rfl rfl
  · intro w' hS
    have c0 := hS.cell 5
    simp only [List.getElem?_toArray, List.getElem?_cons_succ, List.getElem?_cons_zero] at c0
    go_simp
    with_reducible rfl
  simp only [List.getElem_toArray, List.getElem_cons_succ, List.getElem_cons_zero, Act.put, List.setIfInBounds_toArray, List.set_cons_zero, List.set_cons_succ]
  refine chain_go rfl ?_
  go_wp2_with fail
  refine (bool_core _ _ _ s hb4.out.drew (by obtain ⟨z1, z2, z3, z4, z5, z6, z7, z8, z9, z10⟩ := H.out; have z11 := z10 3; (try simp only [List.length_append] at *); omega)).mono ?_
  rintro e w5 ⟨v5, rfl, hb5, hw5⟩
  replace hw5 := hw5.undrew
  have s5 := s4.out.wrote hb4.out hw5 (by decide)
  have w5' := w4'.out.trans hw5
  clear hw5
  replace s5 := Lib.hid s5; replace hb5 := Lib.hid hb5; replace w5' := Lib.hid w5'
  go_wp2_with fail
  refine ⟨s5.out, ?_⟩
  refine chain_go rfl ?_
  go_wp2_with fail
  refine (bool_core _ _ _ t hb5.out (by obtain ⟨z1, z2, z3, z4, z5, z6, z7, z8, z9, z10⟩ := H.out; have z11 := z10 3; (try simp only [List.length_append] at *); omega)).mono ?_
  rintro e w6 ⟨v6, rfl, hb6, hw6⟩
  have s6 := s5.out.wrote hb5.out hw6 (by decide)
  have w6' := w5'.out.trans hw6
  clear hw6
  replace s6 := Lib.hid s6; replace hb6 := Lib.hid hb6; replace w6' := Lib.hid w6'
  go_wp2_with fail
  refine ⟨s6.out, ?_⟩
  apply chain_take rfl rfl
  · intro w' hS
    go_simp
    with_reducible rfl
  simp only [List.getElem_toArray, List.getElem_cons_succ, List.getElem_cons_zero, Act.put, List.setIfInBounds_toArray, List.set_cons_zero]
  apply chain_end
  have c6 := s6.out.cell 6
  have c7 := s6.out.cell 7
  have c8 := s6.out.cell 8
  simp only [List.getElem?_toArray, List.getElem?_cons_succ, List.getElem?_cons_zero] at c6 c7 c8
  go_wp2
  have g1 := Whole.new w6 3 #[.int .i64 l, .int .i64 m, .int .i64 n]
  replace g1 := Lib.hid g1
  go_loopw [0, 36] (fun v' i wr => ∃ (j : Nat), j ≤ 3 ∧ i = .int .i64 j ∧ Buf wr v' (xs ++ verB x y ++ Pure.enc k ++ txt a.data.toList ++ txt b.data.toList ++ bit s ++ bit t ++ encs ([l, m, n].take j)) ∧ Wrote w v wr v' ∧ Whole wr w.heap.size 48 #[verV x y, .int .i64 k, .string a, .string b, .bool s, .bool t, .int .i64 l, .int .i64 m, .int .i64 n, .string c, .bool u] ∧ Whole wr w6.heap.size 3 #[.int .i64 l, .int .i64 m, .int .i64 n]) (fun _ i _ => 3 - (intOf i).toNat)
  case atStart => exact ⟨0, by omega, rfl, by simpa [encs] using hb6.out.alloc _, w6'.out.trans (Wrote.alloc _ _ _ hb6.out.slice), s6.out.alloc _, g1.out⟩
  case round =>
    obtain ⟨j, hj, rfl, hbr, hwr, hs, hg⟩ := hrel
    by_cases hlt : j < 3
    · have hjl : j < [l, m, n].length := hlt
      have hcell : wr.cell? ⟨w6.heap.size, j, none⟩ = some (.int .i64 [l, m, n][j]) := by
        rw [hg.cell]
        rcases j with _ | _ | _ | j <;> first | omega | rfl
      have hsz := hall.out [l, m, n][j] (List.getElem_mem hjl)
      have hlen : (xs ++ verB x y ++ Pure.enc k ++ txt a.data.toList ++ txt b.data.toList ++ bit s ++ bit t ++ encs ([l, m, n].take j)).length ≤ 35184372088832 := by
        obtain ⟨z1, z2, z3, z4, z5, z6, z7, z8, z9, z10⟩ := H.out; have z11 := z10 j; (try simp only [List.length_append] at *); omega
      replace hsz := Lib.hid hsz; replace hlen := Lib.hid hlen
      replace hbr := Lib.hid hbr; replace hwr := Lib.hid hwr; replace hs := Lib.hid hs; replace hg := Lib.hid hg
      generalize hq : [l, m, n][j] = q at *
      replace hq := Lib.hid hq
      go_wp2_with fail
      refine (int_core _ _ _ q hsz.out.1 hsz.out.2 hbr.out hlen.out).mono ?_
      rintro e wq ⟨vq, rfl, hbq, hwq⟩
      replace hbq := Lib.hid hbq
      replace hwq := Lib.hid hwq
      go_wp2
      go_roundw
      case rel =>
        refine ⟨j + 1, by omega, by go_num, ?_, hwr.out.trans hwq.out, hs.out.wrote hbr.out hwq.out (by decide), hg.out.wrote hbr.out hwq.out (by decide)⟩
        rw [encs_take _ _ hjl, hq.out, ← List.append_assoc]
        exact hbq.out
      case measure => simp [intOf]; omega
    · have ej : j = 3 := by omega
      subst ej
      have s6 := Lib.hid hs
      have hb6 := Lib.hid hbr
      have w6' := Lib.hid hwr
      clear hs hbr hwr
      go_wp2_with fail
      refine wp_region_chain (fun w' => Whole w' w.heap.size 48 #[verV x y, .int .i64 k, .string a, .string b, .bool s, .bool t, .int .i64 l, .int .i64 m, .int .i64 n, .string c, .bool u]) [(true, 0), (true, 1), (true, 2), (true, 4), (true, 5), (false, 3), (false, 6), (true, 7)] (by kernel_rfl) (by kernel_rfl) (fun _ _ d _ _ h => by cases d <;> exact h) s6.out ?_
      iterate 2
        apply chain_take rfl rfl
        · intro w' hS
          go_simp
          with_reducible rfl
        simp only [List.getElem_toArray, List.getElem_cons_succ, List.getElem_cons_zero, Act.put, List.setIfInBounds_toArray, List.set_cons_zero, List.set_cons_succ]
      apply chain_take rfl rfl
      · intro w' hS
        have c0 := hS.cell 9
        simp only [List.getElem?_toArray, List.getElem?_cons_succ, List.getElem?_cons_zero] at c0
        go_simp
        with_reducible rfl
      simp only [List.getElem_toArray, List.getElem_cons_succ, List.getElem_cons_zero, Act.put, List.setIfInBounds_toArray, List.set_cons_zero, List.set_cons_succ]
      apply chain_take rfl rfl
      · intro w' hS
        go_simp
        with_reducible rfl
      simp only [List.getElem_toArray, List.getElem_cons_succ, List.getElem_cons_zero, Act.put, List.setIfInBounds_toArray, List.set_cons_zero, List.set_cons_succ]
      apply chain_take rfl rfl
      · intro w' hS
        have c0 := hS.cell 10
        simp only [List.getElem?_toArray, List.getElem?_cons_succ, List.getElem?_cons_zero] at c0
        go_simp
        with_reducible rfl
      simp only [List.getElem_toArray, List.getElem_cons_succ, List.getElem_cons_zero, Act.put, List.setIfInBounds_toArray, List.set_cons_zero, List.set_cons_succ]
      refine chain_go rfl ?_
      go_wp2_with fail
      refine (text_core _ _ _ c (by omega) hb6.out.drew (by obtain ⟨z1, z2, z3, z4, z5, z6, z7, z8, z9, z10⟩ := H.out; have z11 := z10 3; (try simp only [List.length_append] at *); omega)).mono ?_
      rintro e w7 ⟨v7, rfl, hb7, hw7⟩
      replace hw7 := hw7.undrew
      have s7 := s6.out.wrote hb6.out hw7 (by decide)
      have w7' := w6'.out.trans hw7
      clear hw7
      replace s7 := Lib.hid s7; replace hb7 := Lib.hid hb7; replace w7' := Lib.hid w7'
      go_wp2_with fail
      refine ⟨s7.out, ?_⟩
      refine chain_go rfl ?_
      go_wp2_with fail
      refine (bool_core _ _ _ u hb7.out (by obtain ⟨z1, z2, z3, z4, z5, z6, z7, z8, z9, z10⟩ := H.out; have z11 := z10 3; (try simp only [List.length_append] at *); omega)).mono ?_
      rintro e w8 ⟨v8, rfl, hb8, hw8⟩
      have s8 := s7.out.wrote hb7.out hw8 (by decide)
      have w8' := w7'.out.trans hw8
      clear hw8
      replace s8 := Lib.hid s8; replace hb8 := Lib.hid hb8; replace w8' := Lib.hid w8'
      go_wp2_with fail
      refine ⟨s8.out, ?_⟩
      apply chain_take rfl rfl
      · intro w' hS
        go_simp
        with_reducible rfl
      simp only [List.getElem_toArray, List.getElem_cons_succ, List.getElem_cons_zero, Act.put, List.setIfInBounds_toArray, List.set_cons_zero, List.set_cons_succ]
      apply chain_end
      go_wp2
      go_ret
      refine ⟨_, rfl, ?_, w8'.out⟩
      have := hb8.out
      simpa [entB, encs, List.append_assoc] using this
end Go.Proofs.Ytjpaljiielemgaa
