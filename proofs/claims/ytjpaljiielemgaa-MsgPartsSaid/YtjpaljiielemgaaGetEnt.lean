/- 'entry.Get': the fields, one behind the other. -/
import Derived.Test.YtjpaljiielemgaaGetOp
namespace Go.Proofs.Ytjpaljiielemgaa
open Go.RowKit
attribute [local go_sem] store_cplx

theorem sizeE48 : (Try.prog.info? 48).map (·.size) = some 11 := by kernel_rfl
def entZero : Array Value := #[.complex .f64 0 0, .int .i64 0, .string ⟨#[]⟩, .string ⟨#[]⟩, .bool false, .bool false, .int .i64 0, .int .i64 0, .int .i64 0, .string ⟨#[]⟩, .bool false]
def entS (xs : List UInt8) (at0 : Nat) : St := many pBit xs 10 1 (many pTxt xs 9 1 (many pInt xs 6 3 (many pBit xs 4 2 (many pTxt xs 2 2 (many pInt xs 1 1 (one pVer xs 0 (⟨at0, false, entZero⟩)))))))

theorem entS_ones (xs : List UInt8) (at0 : Nat) : Ones (entS xs at0).cs := by
  unfold entS
  refine many_ones celled_bit _ _ _ ?_; refine many_ones celled_txt _ _ _ ?_; refine many_ones celled_int _ _ _ ?_; refine many_ones celled_bit _ _ _ ?_; refine many_ones celled_txt _ _ _ ?_; refine many_ones celled_int _ _ _ ?_; refine one_ones celled_ver _ _ ?_
  intro i hi
  simp only [entZero, List.size_toArray, List.length_cons, List.length_nil, Nat.reduceAdd] at hi
  rcases i with _ | _ | _ | _ | _ | _ | _ | _ | _ | _ | _ | i <;> first | omega | rfl

theorem entS_size (xs : List UInt8) (at0 : Nat) : (entS xs at0).cs.size = 11 := by
  unfold entS
  simp only [many_size, one_size]
  rfl

set_option maxRecDepth 100000 in
set_option maxHeartbeats 2000000 in
theorem getEnt_with (w : World) (v : Value) (xs : List UInt8) (at0 : Nat) (S : St) (hS : entS xs at0 = S) (hat : at0 ≤ far) (hx : xs.length ≤ far) (hv : Bytes w v xs) :
    Calls Try.prog 31 #[v, .int .i64 at0] w fun e w' => GotSt entZero S e ∧ Below w.heap.size w w' := by
  have hv0 := hv
  have ha1 : Apart v (w.heap.size + 1) := hv.apart (by omega)
  have ha2 : Apart v (w.heap.size + 1 + 1) := hv.apart (by omega)
  obtain ⟨a, cap, rfl, _, _, _⟩ := hv
  go_enter Try.func31, Try.ntmps31
  go_wp2_with fail
  have q0 : Whole (((w.alloc (.cells entZero 48)).alloc (.cells #[.slice a xs.length cap, .int .i64 at0, .bool false] 85)).alloc (.cells entZero 48)) w.heap.size 48 entZero := (((Whole.new w 48 entZero).alloc _).alloc _)
  have b0 : Below w.heap.size w (((w.alloc (.cells entZero 48)).alloc (.cells #[.slice a xs.length cap, .int .i64 at0, .bool false] 85)).alloc (.cells entZero 48)) := (((Below.refl _ _).alloc (Nat.le_refl _) _).alloc (by simp) _).alloc (by simp; omega) _
  have n0 : (((w.alloc (.cells entZero 48)).alloc (.cells #[.slice a xs.length cap, .int .i64 at0, .bool false] 85)).alloc (.cells entZero 48)).heap.size = w.heap.size + 1 + 1 + 1 := by simp
  have st0 := Stands.three w entZero entZero 48 48 (.slice a xs.length cap) at0 hat
  replace ha1 := Lib.hid ha1
  replace ha2 := Lib.hid ha2
  have HX := Lib.hid hx
  refine (ver_read (gr := w.heap.size + 1) (ge := w.heap.size + 1 + 1) (t := 48) (xs := xs) 0 st0 (hv0.keep b0) (by omega) HX.out (by show 0 < (entZero).size; decide)).mono ?_
  rintro e w1 ⟨rfl, st1⟩
  have b1 : Below w.heap.size w w1 := (b0).trans (st1.two.below (by omega) (by omega))
  have n1 : w1.heap.size = w.heap.size + 1 + 1 + 1 := by rw [st1.two.size]; rw [n0]
  have q1 : Whole w1 w.heap.size 48 entZero := (q0).two st1.two (by omega) (by omega)
  clear b0 n0 q0 st0
  replace b1 := Lib.hid b1; replace st1 := Lib.hid st1; replace q1 := Lib.hid q1; replace n1 := Lib.hid n1
  go_wp2_with fail
  replace b1 := b1.out; replace st1 := st1.out; replace q1 := q1.out; replace n1 := n1.out
  have k1 := st1.fresh (.cells #[.pointer (some ⟨w.heap.size + 1 + 1, 1, none⟩)] 89)
  have k2 := hv0.keep (b1.alloc (by omega) (.cells #[.pointer (some ⟨w.heap.size + 1 + 1, 1, none⟩)] 89))
  refine (@ints_core _ _ _ (w1.heap.size) _ _ _ _ 1 1 k1 k2 (by omega) ha1.out ha2.out HX.out (by omega) (by omega) (by omega) ?_ ?_).mono ?_
  · exact ptrs_new (rfl) _ _ _ 1 1 (by intro i hi; rcases i with _ | i <;> first | omega | rfl)
  · simp only [one_size]; show _ ≤ (entZero).size; decide
  rintro e w2 ⟨rfl, st2⟩
  clear k1 k2
  have b2 : Below w.heap.size w w2 := (b1.alloc (by omega) _).trans (st2.two.below (by omega) (by omega))
  have n2 : w2.heap.size = w.heap.size + 1 + 1 + 1 + 1 := by rw [st2.two.size]; rw [World.size_alloc, n1]
  have q2 : Whole w2 w.heap.size 48 entZero := (q1.alloc _).two st2.two (by omega) (by omega)
  clear b1 n1 q1 st1
  replace b2 := Lib.hid b2; replace st2 := Lib.hid st2; replace q2 := Lib.hid q2; replace n2 := Lib.hid n2
  go_wp2_with fail
  replace b2 := b2.out; replace st2 := st2.out; replace q2 := q2.out; replace n2 := n2.out
  have k1 := st2.fresh (.cells #[.pointer (some ⟨w.heap.size + 1 + 1, 2, none⟩), .pointer (some ⟨w.heap.size + 1 + 1, 3, none⟩)] 91)
  have k2 := hv0.keep (b2.alloc (by omega) (.cells #[.pointer (some ⟨w.heap.size + 1 + 1, 2, none⟩), .pointer (some ⟨w.heap.size + 1 + 1, 3, none⟩)] 91))
  refine (@texts_core _ _ _ (w2.heap.size) _ _ _ _ 2 2 k1 k2 (by omega) ha1.out ha2.out HX.out (by omega) (by omega) (by omega) ?_ ?_).mono ?_
  · exact ptrs_new (rfl) _ _ _ 2 2 (by intro i hi; rcases i with _ | _ | i <;> first | omega | rfl)
  · simp only [many_size, one_size]; show _ ≤ (entZero).size; decide
  rintro e w3 ⟨rfl, st3⟩
  clear k1 k2
  have b3 : Below w.heap.size w w3 := (b2.alloc (by omega) _).trans (st3.two.below (by omega) (by omega))
  have n3 : w3.heap.size = w.heap.size + 1 + 1 + 1 + 1 + 1 := by rw [st3.two.size]; rw [World.size_alloc, n2]
  have q3 : Whole w3 w.heap.size 48 entZero := (q2.alloc _).two st3.two (by omega) (by omega)
  clear b2 n2 q2 st2
  replace b3 := Lib.hid b3; replace st3 := Lib.hid st3; replace q3 := Lib.hid q3; replace n3 := Lib.hid n3
  go_wp2_with fail
  replace b3 := b3.out; replace st3 := st3.out; replace q3 := q3.out; replace n3 := n3.out
  have k1 := st3.fresh (.cells #[.pointer (some ⟨w.heap.size + 1 + 1, 4, none⟩), .pointer (some ⟨w.heap.size + 1 + 1, 5, none⟩)] 93)
  have k2 := hv0.keep (b3.alloc (by omega) (.cells #[.pointer (some ⟨w.heap.size + 1 + 1, 4, none⟩), .pointer (some ⟨w.heap.size + 1 + 1, 5, none⟩)] 93))
  refine (@bools_core _ _ _ (w3.heap.size) _ _ _ _ 4 2 k1 k2 (by omega) ha1.out ha2.out HX.out (by omega) (by omega) (by omega) ?_ ?_).mono ?_
  · exact ptrs_new (rfl) _ _ _ 4 2 (by intro i hi; rcases i with _ | _ | i <;> first | omega | rfl)
  · simp only [many_size, one_size]; show _ ≤ (entZero).size; decide
  rintro e w4 ⟨rfl, st4⟩
  clear k1 k2
  have b4 : Below w.heap.size w w4 := (b3.alloc (by omega) _).trans (st4.two.below (by omega) (by omega))
  have n4 : w4.heap.size = w.heap.size + 1 + 1 + 1 + 1 + 1 + 1 := by rw [st4.two.size]; rw [World.size_alloc, n3]
  have q4 : Whole w4 w.heap.size 48 entZero := (q3.alloc _).two st4.two (by omega) (by omega)
  clear b3 n3 q3 st3
  replace b4 := Lib.hid b4; replace st4 := Lib.hid st4; replace q4 := Lib.hid q4; replace n4 := Lib.hid n4
  go_wp2_with fail
  replace b4 := b4.out; replace st4 := st4.out; replace q4 := q4.out; replace n4 := n4.out
  have k1 := st4.fresh (.cells #[.pointer (some ⟨w.heap.size + 1 + 1, 6, none⟩), .pointer (some ⟨w.heap.size + 1 + 1, 7, none⟩), .pointer (some ⟨w.heap.size + 1 + 1, 8, none⟩)] 89)
  have k2 := hv0.keep (b4.alloc (by omega) (.cells #[.pointer (some ⟨w.heap.size + 1 + 1, 6, none⟩), .pointer (some ⟨w.heap.size + 1 + 1, 7, none⟩), .pointer (some ⟨w.heap.size + 1 + 1, 8, none⟩)] 89))
  refine (@ints_core _ _ _ (w4.heap.size) _ _ _ _ 6 3 k1 k2 (by omega) ha1.out ha2.out HX.out (by omega) (by omega) (by omega) ?_ ?_).mono ?_
  · exact ptrs_new (rfl) _ _ _ 6 3 (by intro i hi; rcases i with _ | _ | _ | i <;> first | omega | rfl)
  · simp only [many_size, one_size]; show _ ≤ (entZero).size; decide
  rintro e w5 ⟨rfl, st5⟩
  clear k1 k2
  have b5 : Below w.heap.size w w5 := (b4.alloc (by omega) _).trans (st5.two.below (by omega) (by omega))
  have n5 : w5.heap.size = w.heap.size + 1 + 1 + 1 + 1 + 1 + 1 + 1 := by rw [st5.two.size]; rw [World.size_alloc, n4]
  have q5 : Whole w5 w.heap.size 48 entZero := (q4.alloc _).two st5.two (by omega) (by omega)
  clear b4 n4 q4 st4
  replace b5 := Lib.hid b5; replace st5 := Lib.hid st5; replace q5 := Lib.hid q5; replace n5 := Lib.hid n5
  go_wp2_with fail
  replace b5 := b5.out; replace st5 := st5.out; replace q5 := q5.out; replace n5 := n5.out
  have k1 := st5.fresh (.cells #[.pointer (some ⟨w.heap.size + 1 + 1, 9, none⟩)] 91)
  have k2 := hv0.keep (b5.alloc (by omega) (.cells #[.pointer (some ⟨w.heap.size + 1 + 1, 9, none⟩)] 91))
  refine (@texts_core _ _ _ (w5.heap.size) _ _ _ _ 9 1 k1 k2 (by omega) ha1.out ha2.out HX.out (by omega) (by omega) (by omega) ?_ ?_).mono ?_
  · exact ptrs_new (rfl) _ _ _ 9 1 (by intro i hi; rcases i with _ | i <;> first | omega | rfl)
  · simp only [many_size, one_size]; show _ ≤ (entZero).size; decide
  rintro e w6 ⟨rfl, st6⟩
  clear k1 k2
  have b6 : Below w.heap.size w w6 := (b5.alloc (by omega) _).trans (st6.two.below (by omega) (by omega))
  have n6 : w6.heap.size = w.heap.size + 1 + 1 + 1 + 1 + 1 + 1 + 1 + 1 := by rw [st6.two.size]; rw [World.size_alloc, n5]
  have q6 : Whole w6 w.heap.size 48 entZero := (q5.alloc _).two st6.two (by omega) (by omega)
  clear b5 n5 q5 st5
  replace b6 := Lib.hid b6; replace st6 := Lib.hid st6; replace q6 := Lib.hid q6; replace n6 := Lib.hid n6
  go_wp2_with fail
  replace b6 := b6.out; replace st6 := st6.out; replace q6 := q6.out; replace n6 := n6.out
  have k1 := st6.fresh (.cells #[.pointer (some ⟨w.heap.size + 1 + 1, 10, none⟩)] 93)
  have k2 := hv0.keep (b6.alloc (by omega) (.cells #[.pointer (some ⟨w.heap.size + 1 + 1, 10, none⟩)] 93))
  refine (@bools_core _ _ _ (w6.heap.size) _ _ _ _ 10 1 k1 k2 (by omega) ha1.out ha2.out HX.out (by omega) (by omega) (by omega) ?_ ?_).mono ?_
  · exact ptrs_new (rfl) _ _ _ 10 1 (by intro i hi; rcases i with _ | i <;> first | omega | rfl)
  · simp only [many_size, one_size]; show _ ≤ (entZero).size; decide
  rintro e w7 ⟨rfl, st7⟩
  clear k1 k2
  have b7 : Below w.heap.size w w7 := (b6.alloc (by omega) _).trans (st7.two.below (by omega) (by omega))
  have n7 : w7.heap.size = w.heap.size + 1 + 1 + 1 + 1 + 1 + 1 + 1 + 1 + 1 := by rw [st7.two.size]; rw [World.size_alloc, n6]
  have q7 : Whole w7 w.heap.size 48 entZero := (q6.alloc _).two st7.two (by omega) (by omega)
  clear b6 n6 q6 st6
  have hS1 : many pBit xs 10 1 (many pTxt xs 9 1 (many pInt xs 6 3 (many pBit xs 4 2 (many pTxt xs 2 2 (many pInt xs 1 1 (one pVer xs 0 (⟨at0, false, entZero⟩))))))) = S := hS
  rw [hS1] at st7
  clear hS1
  have h1 := entS_ones xs at0
  have h2 := entS_size xs at0
  rw [hS] at h1 h2
  clear hS
  have c2 := st7.rd.cell 2
  simp only [List.getElem?_toArray, List.getElem?_cons_succ, List.getElem?_cons_zero] at c2
  replace b7 := Lib.hid b7; replace st7 := Lib.hid st7; replace q7 := Lib.hid q7; replace n7 := Lib.hid n7
  replace h1 := Lib.hid h1
  replace h2 := Lib.hid h2
  cases hb : S.bad with
  | true =>
    rw [hb] at c2
    have HB := Lib.hid hb
    clear hb
    have z0 : w7.cell? ⟨w.heap.size, 0, none⟩ = entZero[0]? := q7.out.cell 0
    have y0 := q7.out.free 0
    have z1 : w7.cell? ⟨w.heap.size, 1, none⟩ = entZero[1]? := q7.out.cell 1
    have y1 := q7.out.free 1
    have z2 : w7.cell? ⟨w.heap.size, 2, none⟩ = entZero[2]? := q7.out.cell 2
    have y2 := q7.out.free 2
    have z3 : w7.cell? ⟨w.heap.size, 3, none⟩ = entZero[3]? := q7.out.cell 3
    have y3 := q7.out.free 3
    have z4 : w7.cell? ⟨w.heap.size, 4, none⟩ = entZero[4]? := q7.out.cell 4
    have y4 := q7.out.free 4
    have z5 : w7.cell? ⟨w.heap.size, 5, none⟩ = entZero[5]? := q7.out.cell 5
    have y5 := q7.out.free 5
    have z6 : w7.cell? ⟨w.heap.size, 6, none⟩ = entZero[6]? := q7.out.cell 6
    have y6 := q7.out.free 6
    have z7 : w7.cell? ⟨w.heap.size, 7, none⟩ = entZero[7]? := q7.out.cell 7
    have y7 := q7.out.free 7
    have z8 : w7.cell? ⟨w.heap.size, 8, none⟩ = entZero[8]? := q7.out.cell 8
    have y8 := q7.out.free 8
    have z9 : w7.cell? ⟨w.heap.size, 9, none⟩ = entZero[9]? := q7.out.cell 9
    have y9 := q7.out.free 9
    have z10 : w7.cell? ⟨w.heap.size, 10, none⟩ = entZero[10]? := q7.out.cell 10
    have y10 := q7.out.free 10
    simp only [entZero, List.getElem?_toArray, List.getElem?_cons_succ, List.getElem?_cons_zero] at z0 z1 z2 z3 z4 z5 z6 z7 z8 z9 z10
    go_wp2
    have hend := (((((((((((q7.out.put 0 (.complex .f64 0 0)).put 1 (.int .i64 0)).put 2 (.string ⟨#[]⟩)).put 3 (.string ⟨#[]⟩)).put 4 (.bool false)).put 5 (.bool false)).put 6 (.int .i64 0)).put 7 (.int .i64 0)).put 8 (.int .i64 0)).put 9 (.string ⟨#[]⟩)).put 10 (.bool false))
    refine bodyPost_ret (results_row3 rfl _ _ rfl hend Try.underlying48 sizeE48) rfl ?_
    exact ⟨.inl ⟨HB.out, rfl⟩, (((((((((((b7.out.setCell (p := ⟨w.heap.size, 0, none⟩) (Nat.le_refl _) _).setCell (p := ⟨w.heap.size, 1, none⟩) (Nat.le_refl _) _).setCell (p := ⟨w.heap.size, 2, none⟩) (Nat.le_refl _) _).setCell (p := ⟨w.heap.size, 3, none⟩) (Nat.le_refl _) _).setCell (p := ⟨w.heap.size, 4, none⟩) (Nat.le_refl _) _).setCell (p := ⟨w.heap.size, 5, none⟩) (Nat.le_refl _) _).setCell (p := ⟨w.heap.size, 6, none⟩) (Nat.le_refl _) _).setCell (p := ⟨w.heap.size, 7, none⟩) (Nat.le_refl _) _).setCell (p := ⟨w.heap.size, 8, none⟩) (Nat.le_refl _) _).setCell (p := ⟨w.heap.size, 9, none⟩) (Nat.le_refl _) _).setCell (p := ⟨w.heap.size, 10, none⟩) (Nat.le_refl _) _)⟩
  | false =>
    rw [hb] at c2
    have HB := Lib.hid hb
    clear hb
    have c1 := st7.out.rd.cell 1
    simp only [List.getElem?_toArray, List.getElem?_cons_succ, List.getElem?_cons_zero] at c1
    go_wp2_with fail
    refine wp_region_chain (fun w' => w'.cell? ⟨w.heap.size + 1, 1, none⟩ = some (.int .i64 S.at0) ∧ Whole w' (w.heap.size + 1 + 1) 48 S.cs) [(true, 0), (true, 1), (true, 2), (true, 3), (true, 4), (false, 5), (true, 6), (true, 7)] (by kernel_rfl) (by kernel_rfl) (fun _ _ d _ _ h => by cases d <;> exact h) ⟨c1, st7.out.en⟩ ?_
    apply chain_take rfl rfl
    · rintro w' ⟨c0, c1⟩
      exact load_whole c1 rfl rfl Try.underlying48 (by rw [h2.out]; exact sizeE48)
    simp only [List.getElem_toArray, List.getElem_cons_zero, Act.put, List.setIfInBounds_toArray, List.set_cons_zero, List.set_cons_succ]
    iterate 4
      apply chain_take rfl rfl
      · rintro w' ⟨c0, c1⟩
        go_simp
        with_reducible rfl
      simp only [List.getElem_toArray, List.getElem_cons_succ, List.getElem_cons_zero, Act.put, List.setIfInBounds_toArray, List.set_cons_zero, List.set_cons_succ]
    refine chain_store rfl rfl rfl rfl rfl rfl q7.out (by rw [h2.out]; exact sizeE48) (by rw [h2.out]; rfl) h1.out.all ⟨?_, ?_⟩ ?_
    · rw [cell_setRow_other _ _ _ _ (by simp only; omega)]; exact c1
    · exact st7.out.en.row_far (by omega)
    iterate 2
      apply chain_take rfl rfl
      · rintro w' ⟨c0, c1⟩
        go_simp
        with_reducible rfl
      simp only [List.getElem_toArray, List.getElem_cons_succ, List.getElem_cons_zero, Act.put, List.setIfInBounds_toArray, List.set_cons_zero, List.set_cons_succ]
    apply chain_end
    go_wp2
    refine bodyPost_ret (results_row3 rfl _ _ rfl (q7.out.row (cs' := S.cs)) Try.underlying48 (by rw [h2.out]; exact sizeE48)) rfl ?_
    exact ⟨.inr ⟨HB.out, rfl⟩, below_row b7.out.drew (Nat.le_refl _) _⟩

theorem getEnt_core (w : World) (v : Value) (xs : List UInt8) (at0 : Nat) (hat : at0 ≤ far) (hx : xs.length ≤ far) (hv : Bytes w v xs) :
    Calls Try.prog 31 #[v, .int .i64 at0] w fun e w' => GotSt entZero (entS xs at0) e ∧ Below w.heap.size w w' :=
  getEnt_with w v xs at0 _ rfl hat hx hv
end Go.Proofs.Ytjpaljiielemgaa
