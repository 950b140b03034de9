/- msg's GetImage, GetViews. -/
import Derived.Test.YtjpaljiielemgaaMGet
namespace Go.Proofs.Ytjpaljiielemgaa
open Go.RowKit
attribute [local go_sem] store_cplx

theorem row_img {B : Nat} {w : World} {cs : Array Value} {E : List UInt8} (h : Row B w cs 0 [f1 vrV, f1 vrV, f1 intV, f1 (lstV 48 11 entV), f1 (lstV 127 7 seenV)] E) (hs : cs.size = 5) : imgV B w (.agg cs) E := by
  obtain ⟨l⟩ := cs
  match l, hs with
  | [c0, c1, c2, c3, c4], _ =>
    obtain ⟨_, _, ⟨x, y, hx, hy, e1, rfl⟩, ⟨_, _, ⟨x', y', hx', hy', e2, rfl⟩, ⟨_, _, ⟨g, hg, e3, rfl⟩, ⟨F, _, hL, ⟨G, _, hM, rfl, rfl⟩, rfl⟩, rfl⟩, rfl⟩, rfl⟩ := h
    have e1 : c0 = _ := e1
    have e2 : c1 = _ := e2
    have e3 : c2 = _ := e3
    subst e1 e2 e3
    exact ⟨x, y, x', y', g, c3, F, c4, G, hx, hy, hx', hy', hg, hL, hM, rfl, by simp⟩
set_option maxRecDepth 100000 in
set_option maxHeartbeats 4000000 in
theorem get_img : Getter 39 lImg imgV imgZ := by
  intro w v xs at0 hat hx hv
  have hv0 := hv
  have ha1 : Apart v (w.heap.size + 1) := hv.apart (by omega)
  have ha2 : Apart v (w.heap.size + 1 + 1) := hv.apart (by omega)
  obtain ⟨a, cap, rfl, _, _, _⟩ := hv
  go_enter Try.func39, Try.ntmps39
  go_wp2_with fail
  have q0 : Whole (((w.alloc (.cells (#[.complex .f64 0 0, .complex .f64 0 0, .int .i64 0, .slice none 0 0, .slice none 0 0] : Array Value) 62)).alloc (.cells #[.slice a xs.length cap, .int .i64 at0, .bool false] 100)).alloc (.cells (#[.complex .f64 0 0, .complex .f64 0 0, .int .i64 0, .slice none 0 0, .slice none 0 0] : Array Value) 62)) w.heap.size 62 (#[.complex .f64 0 0, .complex .f64 0 0, .int .i64 0, .slice none 0 0, .slice none 0 0] : Array Value) := (((Whole.new w 62 (#[.complex .f64 0 0, .complex .f64 0 0, .int .i64 0, .slice none 0 0, .slice none 0 0] : Array Value)).alloc _).alloc _)
  have b0 : Below w.heap.size w (((w.alloc (.cells (#[.complex .f64 0 0, .complex .f64 0 0, .int .i64 0, .slice none 0 0, .slice none 0 0] : Array Value) 62)).alloc (.cells #[.slice a xs.length cap, .int .i64 at0, .bool false] 100)).alloc (.cells (#[.complex .f64 0 0, .complex .f64 0 0, .int .i64 0, .slice none 0 0, .slice none 0 0] : Array Value) 62)) := (((Below.refl _ _).alloc (Nat.le_refl _) _).alloc (by simp) _).alloc (by simp; omega) _
  have e0 : (((w.alloc (.cells (#[.complex .f64 0 0, .complex .f64 0 0, .int .i64 0, .slice none 0 0, .slice none 0 0] : Array Value) 62)).alloc (.cells #[.slice a xs.length cap, .int .i64 at0, .bool false] 100)).alloc (.cells (#[.complex .f64 0 0, .complex .f64 0 0, .int .i64 0, .slice none 0 0, .slice none 0 0] : Array Value) 62)).heap.size = w.heap.size + 1 + 1 + 1 := by simp
  have n0 : w.heap.size + 1 + 1 + 1 ≤ (((w.alloc (.cells (#[.complex .f64 0 0, .complex .f64 0 0, .int .i64 0, .slice none 0 0, .slice none 0 0] : Array Value) 62)).alloc (.cells #[.slice a xs.length cap, .int .i64 at0, .bool false] 100)).alloc (.cells (#[.complex .f64 0 0, .complex .f64 0 0, .int .i64 0, .slice none 0 0, .slice none 0 0] : Array Value) 62)).heap.size := by simp
  have st0 := MSt.three w (#[.complex .f64 0 0, .complex .f64 0 0, .int .i64 0, .slice none 0 0, .slice none 0 0] : Array Value) (#[.complex .f64 0 0, .complex .f64 0 0, .int .i64 0, .slice none 0 0, .slice none 0 0] : Array Value) 62 62 (.slice a xs.length cap) at0 hat
  have g0 := Sofar.nil xs (w.heap.size + 1 + 1 + 1) (((w.alloc (.cells (#[.complex .f64 0 0, .complex .f64 0 0, .int .i64 0, .slice none 0 0, .slice none 0 0] : Array Value) 62)).alloc (.cells #[.slice a xs.length cap, .int .i64 at0, .bool false] 100)).alloc (.cells (#[.complex .f64 0 0, .complex .f64 0 0, .int .i64 0, .slice none 0 0, .slice none 0 0] : Array Value) 62)) at0 (#[.complex .f64 0 0, .complex .f64 0 0, .int .i64 0, .slice none 0 0, .slice none 0 0] : Array Value)
  have z0 : ((#[.complex .f64 0 0, .complex .f64 0 0, .int .i64 0, .slice none 0 0, .slice none 0 0] : Array Value)).size = 5 := rfl
  have kd0 : Kinds [kVer, kVer, kInt, kSl, kSl] (#[.complex .f64 0 0, .complex .f64 0 0, .int .i64 0, .slice none 0 0, .slice none 0 0] : Array Value) := by
    refine ⟨rfl, fun i hi hi' => ?_⟩
    simp only [List.size_toArray, List.length_cons, List.length_nil, Nat.reduceAdd] at hi
    rcases i with _ | _ | _ | _ | _ | i <;> first | omega | exact ⟨_, rfl⟩ | exact ⟨_, _, rfl⟩ | exact ⟨_, _, _, rfl⟩
  replace ha1 := Lib.hid ha1
  replace ha2 := Lib.hid ha2
  have HX := Lib.hid hx
  clear hx
  refine (readVer (gr := w.heap.size + 1) (ge := w.heap.size + 1 + 1) (t := 62) (xs := xs) 0 st0 (hv0.keep b0) (by omega) HX.out (by show _ < ((#[.complex .f64 0 0, .complex .f64 0 0, .int .i64 0, .slice none 0 0, .slice none 0 0] : Array Value)).size; decide)).mono ?_
  rintro e w1 ⟨rfl, cs1, r1⟩
  have b1 : Below w.heap.size w w1 := b0.trans (r1.st.turn.below (by omega) (by omega) (by omega))
  have n1 : w.heap.size + 1 + 1 + 1 ≤ w1.heap.size := by have := r1.st.turn.size; omega
  have q1 : Whole w1 w.heap.size 62 (#[.complex .f64 0 0, .complex .f64 0 0, .int .i64 0, .slice none 0 0, .slice none 0 0] : Array Value) := q0.turn r1.st.turn (by omega) (by omega)
  have g1 : Sofar xs (w.heap.size + 1 + 1 + 1) w1 at0 (adv lVer xs (⟨at0, false⟩ : Sp)) cs1 [f1 vrV] := Sofar.one (fs := []) g0 (by intro f hf; cases hf) fair_vr r1 (by omega) (by omega) (by omega) (by show _ < ((#[.complex .f64 0 0, .complex .f64 0 0, .int .i64 0, .slice none 0 0, .slice none 0 0] : Array Value)).size; decide)
  have z1 : cs1.size = 5 := r1.size.trans rfl
  have kd1 := kd0.one r1 (by intro K hk; injection hk with hk; rw [← hk]; exact kind_vr)
  have st1 := r1.st.here
  clear r1
  clear b0 n0 q0 st0 g0 z0 kd0
  replace b1 := Lib.hid b1; replace st1 := Lib.hid st1; replace q1 := Lib.hid q1; replace g1 := Lib.hid g1; replace n1 := Lib.hid n1; replace z1 := Lib.hid z1; replace kd1 := Lib.hid kd1
  go_wp2_with fail
  replace b1 := b1.out; replace st1 := st1.out; replace q1 := q1.out; replace g1 := g1.out; replace n1 := n1.out; replace z1 := z1.out; replace kd1 := kd1.out
  refine (readVer (gr := w.heap.size + 1) (ge := w.heap.size + 1 + 1) (t := 62) (xs := xs) 1 st1 (hv0.keep b1) (by omega) HX.out (by rw [z1]; decide)).mono ?_
  rintro e w2 ⟨rfl, cs2, r2⟩
  have b2 : Below w.heap.size w w2 := b1.trans (r2.st.turn.below (by omega) (by omega) (by omega))
  have n2 : w.heap.size + 1 + 1 + 1 ≤ w2.heap.size := by have := r2.st.turn.size; omega
  have q2 : Whole w2 w.heap.size 62 (#[.complex .f64 0 0, .complex .f64 0 0, .int .i64 0, .slice none 0 0, .slice none 0 0] : Array Value) := q1.turn r2.st.turn (by omega) (by omega)
  have g2 : Sofar xs (w.heap.size + 1 + 1 + 1) w2 at0 (adv lVer xs (adv lVer xs (⟨at0, false⟩ : Sp))) cs2 [f1 vrV, f1 vrV] := Sofar.one (fs := [f1 vrV]) g1 (by intro f hf; simp only [List.mem_cons, List.not_mem_nil, or_false] at hf; rcases hf with rfl <;> first | exact fair_int | exact fair_vr | exact fair_txt | exact fair_bit | exact fair_op | exact fair_img | exact fair_lst fair_mem | exact fair_lst fair_ent | exact fair_lst fair_seen | exact fair_lst fair_view) fair_vr r2 (by omega) (by omega) (by omega) (by rw [z1]; decide)
  have z2 : cs2.size = 5 := r2.size.trans z1
  have kd2 := kd1.one r2 (by intro K hk; injection hk with hk; rw [← hk]; exact kind_vr)
  have st2 := r2.st.here
  clear r2
  clear b1 n1 q1 st1 g1 z1 kd1
  replace b2 := Lib.hid b2; replace st2 := Lib.hid st2; replace q2 := Lib.hid q2; replace g2 := Lib.hid g2; replace n2 := Lib.hid n2; replace z2 := Lib.hid z2; replace kd2 := Lib.hid kd2
  go_wp2_with fail
  replace b2 := b2.out; replace st2 := st2.out; replace q2 := q2.out; replace g2 := g2.out; replace n2 := n2.out; replace z2 := z2.out; replace kd2 := kd2.out
  have k1 := st2.fresh (.cells #[.pointer (some ⟨w.heap.size + 1 + 1, 2, none⟩)] 89)
  have k2 := hv0.keep (b2.alloc (by omega) (.cells #[.pointer (some ⟨w.heap.size + 1 + 1, 2, none⟩)] 89))
  refine (@mInts_core _ _ _ (w2.heap.size) _ _ _ _ _ 2 1 k1 k2 (by omega) ha1.out ha2.out HX.out (by omega) (by omega) (by omega) ?_ ?_).mono ?_
  · exact ptrs_new (rfl) _ _ _ 2 1 (by intro i hi; rcases i with _ | i <;> first | omega | rfl)
  · rw [z2]; decide
  rintro e w3 ⟨rfl, L3, r3⟩
  clear k1 k2
  have b3 : Below w.heap.size w w3 := (b2.alloc (by omega) (.cells #[.pointer (some ⟨w.heap.size + 1 + 1, 2, none⟩)] 89)).trans (r3.st.turn.below (by omega) (by omega) (by simp; omega))
  have n3 : w.heap.size + 1 + 1 + 1 ≤ w3.heap.size := by have := r3.st.turn.size; simp at this; omega
  have q3 : Whole w3 w.heap.size 62 (#[.complex .f64 0 0, .complex .f64 0 0, .int .i64 0, .slice none 0 0, .slice none 0 0] : Array Value) := (q2.alloc (.cells #[.pointer (some ⟨w.heap.size + 1 + 1, 2, none⟩)] 89)).turn r3.st.turn (by omega) (by omega)
  have g3 : Sofar xs (w.heap.size + 1 + 1 + 1) w3 at0 (advs lInt xs 1 (adv lVer xs (adv lVer xs (⟨at0, false⟩ : Sp)))) (layI cs2 2 L3) [f1 vrV, f1 vrV, f1 intV] := Sofar.ints (fs := [f1 vrV, f1 vrV]) (g2.keep (by intro f hf; simp only [List.mem_cons, List.not_mem_nil, or_false] at hf; rcases hf with rfl | rfl <;> first | exact fair_int | exact fair_vr | exact fair_txt | exact fair_bit | exact fair_op | exact fair_img | exact fair_lst fair_mem | exact fair_lst fair_ent | exact fair_lst fair_seen | exact fair_lst fair_view) (below_above ((Below.refl _ _).alloc (Nat.le_refl _) (.cells #[.pointer (some ⟨w.heap.size + 1 + 1, 2, none⟩)] 89)))) (by intro f hf; simp only [List.mem_cons, List.not_mem_nil, or_false] at hf; rcases hf with rfl | rfl <;> first | exact fair_int | exact fair_vr | exact fair_txt | exact fair_bit | exact fair_op | exact fair_img | exact fair_lst fair_mem | exact fair_lst fair_ent | exact fair_lst fair_seen | exact fair_lst fair_view) r3 (by omega) (by omega) (by rw [z2]; decide)
  have z3 : (layI cs2 2 L3).size = 5 := by rw [layI_size]; exact z2
  have kd3 := kd2.ints r3 (by intro i K hi hk; rcases i with _ | i <;> first | omega | (injection hk with hk; exact hk.symm))
  have st3 := r3.st.here
  clear r3
  generalize layI cs2 2 L3 = cs3 at g3 z3 st3 kd3
  clear b2 n2 q2 st2 g2 z2 kd2
  replace b3 := Lib.hid b3; replace st3 := Lib.hid st3; replace q3 := Lib.hid q3; replace g3 := Lib.hid g3; replace n3 := Lib.hid n3; replace z3 := Lib.hid z3; replace kd3 := Lib.hid kd3
  go_wp2_with fail
  replace b3 := b3.out; replace st3 := st3.out; replace q3 := q3.out; replace g3 := g3.out; replace n3 := n3.out; replace z3 := z3.out; replace kd3 := kd3.out
  refine (many_ent get_ent (gr := w.heap.size + 1) (ge := w.heap.size + 1 + 1) (t := 62) (xs := xs) 3 st3 (hv0.keep b3) (by omega) HX.out (by rw [z3]; decide)).mono ?_
  rintro e w4 ⟨rfl, cs4, r4⟩
  have b4 : Below w.heap.size w w4 := b3.trans (r4.st.turn.below (by omega) (by omega) (by omega))
  have n4 : w.heap.size + 1 + 1 + 1 ≤ w4.heap.size := by have := r4.st.turn.size; omega
  have q4 : Whole w4 w.heap.size 62 (#[.complex .f64 0 0, .complex .f64 0 0, .int .i64 0, .slice none 0 0, .slice none 0 0] : Array Value) := q3.turn r4.st.turn (by omega) (by omega)
  have g4 : Sofar xs (w.heap.size + 1 + 1 + 1) w4 at0 (adv (lItems lEnt) xs (advs lInt xs 1 (adv lVer xs (adv lVer xs (⟨at0, false⟩ : Sp))))) cs4 [f1 vrV, f1 vrV, f1 intV, f1 (lstV 48 11 entV)] := Sofar.one (fs := [f1 vrV, f1 vrV, f1 intV]) g3 (by intro f hf; simp only [List.mem_cons, List.not_mem_nil, or_false] at hf; rcases hf with rfl | rfl | rfl <;> first | exact fair_int | exact fair_vr | exact fair_txt | exact fair_bit | exact fair_op | exact fair_img | exact fair_lst fair_mem | exact fair_lst fair_ent | exact fair_lst fair_seen | exact fair_lst fair_view) (fair_lst fair_ent) r4 (by omega) (by omega) (by omega) (by rw [z3]; decide)
  have z4 : cs4.size = 5 := r4.size.trans z3
  have kd4 := kd3.one r4 (by intro K hk; injection hk with hk; rw [← hk]; exact kind_lst)
  have st4 := r4.st.here
  clear r4
  clear b3 n3 q3 st3 g3 z3 kd3
  replace b4 := Lib.hid b4; replace st4 := Lib.hid st4; replace q4 := Lib.hid q4; replace g4 := Lib.hid g4; replace n4 := Lib.hid n4; replace z4 := Lib.hid z4; replace kd4 := Lib.hid kd4
  go_wp2_with fail
  replace b4 := b4.out; replace st4 := st4.out; replace q4 := q4.out; replace g4 := g4.out; replace n4 := n4.out; replace z4 := z4.out; replace kd4 := kd4.out
  refine (many_seen get_seen (gr := w.heap.size + 1) (ge := w.heap.size + 1 + 1) (t := 62) (xs := xs) 4 st4 (hv0.keep b4) (by omega) HX.out (by rw [z4]; decide)).mono ?_
  rintro e w5 ⟨rfl, cs5, r5⟩
  have b5 : Below w.heap.size w w5 := b4.trans (r5.st.turn.below (by omega) (by omega) (by omega))
  have n5 : w.heap.size + 1 + 1 + 1 ≤ w5.heap.size := by have := r5.st.turn.size; omega
  have q5 : Whole w5 w.heap.size 62 (#[.complex .f64 0 0, .complex .f64 0 0, .int .i64 0, .slice none 0 0, .slice none 0 0] : Array Value) := q4.turn r5.st.turn (by omega) (by omega)
  have g5 : Sofar xs (w.heap.size + 1 + 1 + 1) w5 at0 (adv (lItems lSeen) xs (adv (lItems lEnt) xs (advs lInt xs 1 (adv lVer xs (adv lVer xs (⟨at0, false⟩ : Sp)))))) cs5 [f1 vrV, f1 vrV, f1 intV, f1 (lstV 48 11 entV), f1 (lstV 127 7 seenV)] := Sofar.one (fs := [f1 vrV, f1 vrV, f1 intV, f1 (lstV 48 11 entV)]) g4 (by intro f hf; simp only [List.mem_cons, List.not_mem_nil, or_false] at hf; rcases hf with rfl | rfl | rfl | rfl <;> first | exact fair_int | exact fair_vr | exact fair_txt | exact fair_bit | exact fair_op | exact fair_img | exact fair_lst fair_mem | exact fair_lst fair_ent | exact fair_lst fair_seen | exact fair_lst fair_view) (fair_lst fair_seen) r5 (by omega) (by omega) (by omega) (by rw [z4]; decide)
  have z5 : cs5.size = 5 := r5.size.trans z4
  have kd5 := kd4.one r5 (by intro K hk; injection hk with hk; rw [← hk]; exact kind_lst)
  have st5 := r5.st.here
  clear r5
  clear b4 n4 q4 st4 g4 z4 kd4
  replace st5 : MSt w5 w5 (w.heap.size + 1) (w.heap.size + 1 + 1) 62 (.slice a xs.length cap) (imgS xs at0) cs5 := st5
  replace g5 : Sofar xs (w.heap.size + 1 + 1 + 1) w5 at0 (imgS xs at0) cs5 [f1 vrV, f1 vrV, f1 intV, f1 (lstV 48 11 entV), f1 (lstV 127 7 seenV)] := g5
  generalize hS : imgS xs at0 = S at st5 g5
  have c1 := st5.rd.cell 1
  have c2 := st5.rd.cell 2
  simp only [List.getElem?_toArray, List.getElem?_cons_succ, List.getElem?_cons_zero] at c1 c2
  have h1 := kd5.ones (by intro K hK V hV; simp only [List.mem_cons, List.not_mem_nil, or_false] at hK; rcases hK with rfl | rfl | rfl | rfl | rfl <;> first | exact kInt.one hV | exact kTxt.one hV | exact kBit.one hV | exact kVer.one hV | exact kSl.one hV)
  clear kd5
  replace h1 := Lib.hid h1; replace hS := Lib.hid hS
  replace b5 := Lib.hid b5; replace st5 := Lib.hid st5; replace q5 := Lib.hid q5; replace g5 := Lib.hid g5; replace n5 := Lib.hid n5; replace z5 := Lib.hid z5
  cases hbad : S.bad with
  | true =>
    rw [hbad] at c2
    have HB := Lib.hid hbad
    clear hbad
    go_wp2_with (refine wpList_store_at rfl 62 (.tmp 4) (.tmp 33) rfl w.heap.size 0 (#[.complex .f64 0 0, .complex .f64 0 0, .int .i64 0, .slice none 0 0, .slice none 0 0] : Array Value) rfl rfl 62 (#[.complex .f64 0 0, .complex .f64 0 0, .int .i64 0, .slice none 0 0, .slice none 0 0] : Array Value) q5.out sizeE62 (by simp) (all_one (by intro v hv; simp only [List.mem_cons, List.not_mem_nil, or_false] at hv; rcases hv with rfl | rfl | rfl | rfl | rfl <;> rfl)) ?_)
    refine bodyPost_ret (results_row3 rfl _ _ rfl (q5.out.row (cs' := putC (#[.complex .f64 0 0, .complex .f64 0 0, .int .i64 0, .slice none 0 0, .slice none 0 0] : Array Value) 0 ((#[.complex .f64 0 0, .complex .f64 0 0, .int .i64 0, .slice none 0 0, .slice none 0 0] : Array Value)).toList)) Try.underlying62 sizeE62) rfl ?_
    exact ⟨below_row b5.out (Nat.le_refl _) _, .inr ⟨len_bad (imgS_on xs at0) hS.out HB.out, _, _, ⟨rfl, rfl⟩, rfl⟩⟩
  | false =>
    rw [hbad] at c2
    have HB := Lib.hid hbad
    clear hbad
    go_wp2_with fail
    refine wp_region_tree (fun w' => w'.cell? ⟨w.heap.size + 1, 1, none⟩ = some (.int .i64 S.at0) ∧ Whole w' (w.heap.size + 1 + 1) 62 cs5) (Tr.take 0 (Tr.take 1 (Tr.take 2 (Tr.take 3 (Tr.take 4 (Tr.go 5 (Tr.take 6 (Tr.take 7 Tr.done)))))))) (by kernel_rfl) (by kernel_rfl) (fun _ _ d _ _ h => by cases d <;> exact h) ⟨c1, st5.out.en⟩ ?_
    apply walk_take rfl rfl
    · rintro w' ⟨c1, c3⟩
      exact load_whole c3 rfl rfl Try.underlying62 (by rw [z5.out]; exact sizeE62)
    simp only [List.getElem_toArray, List.getElem_cons_zero, Act.put, List.setIfInBounds_toArray, List.set_cons_zero, List.set_cons_succ]
    iterate 4
      apply walk_take rfl rfl
      · rintro w' ⟨c1, c3⟩
        go_simp
        with_reducible rfl
      simp only [List.getElem_toArray, List.getElem_cons_succ, List.getElem_cons_zero, Act.put, List.setIfInBounds_toArray, List.set_cons_zero, List.set_cons_succ]
    refine walk_store0 rfl rfl rfl rfl rfl rfl q5.out (by rw [z5.out]; exact sizeE62) (by rw [z5.out]; rfl) h1.out.all ⟨?_, ?_⟩ ?_
    · rw [cell_setRow_other _ _ _ _ (by simp only; omega)]; exact c1
    · exact st5.out.en.row_far (by omega)
    iterate 2
      apply walk_take rfl rfl
      · rintro w' ⟨c1, c3⟩
        go_simp
        with_reducible rfl
      simp only [List.getElem_toArray, List.getElem_cons_succ, List.getElem_cons_zero, Act.put, List.setIfInBounds_toArray, List.set_cons_zero, List.set_cons_succ]
    refine walk_end ?_
    go_wp2
    refine bodyPost_ret (results_row3 rfl _ _ rfl (q5.out.row (cs' := cs5)) Try.underlying62 (by rw [z5.out]; exact sizeE62)) rfl ?_
    have hb := below_row b5.out.drew (Nat.le_refl _) cs5
    refine ⟨hb, .inl ?_⟩
    have hfit := st5.out.near
    obtain ⟨E, hrow, hwent⟩ := g5.out HB.out
    obtain ⟨e1, e2⟩ := len_good (imgS_on xs at0) hS.out HB.out
    refine ⟨S.at0 - at0, _, E, e1, by omega, by rw [e2]; exact hwent, row_img (Row.down (B := w.heap.size + 1 + 1 + 1) (B' := w.heap.size) (by omega) (by intro f hf; simp only [List.mem_cons, List.not_mem_nil, or_false] at hf; rcases hf with rfl | rfl | rfl | rfl | rfl <;> first | exact fair_int | exact fair_vr | exact fair_txt | exact fair_bit | exact fair_op | exact fair_img | exact fair_lst fair_mem | exact fair_lst fair_ent | exact fair_lst fair_seen | exact fair_lst fair_view) (Row.keep (w' := w5.drew.setRow w.heap.size cs5) (fun k hk _ => setRow_other w5.drew w.heap.size k cs5 (by omega)) (by intro f hf; simp only [List.mem_cons, List.not_mem_nil, or_false] at hf; rcases hf with rfl | rfl | rfl | rfl | rfl <;> first | exact fair_int | exact fair_vr | exact fair_txt | exact fair_bit | exact fair_op | exact fair_img | exact fair_lst fair_mem | exact fair_lst fair_ent | exact fair_lst fair_seen | exact fair_lst fair_view) hrow)) z5.out, ?_⟩
    have e3 : ((at0 : Int) + ((S.at0 - at0 : Nat) : Int)) = (S.at0 : Int) := by omega
    rw [e3]; rfl

theorem get_views : Getter 40 (lItems lView) (lstV 115 5 viewV) viewL := by
  intro w v xs at0 hat hx hv
  have HI := Lib.hid (items_view get_view w v xs at0 hat hx hv)
  clear hv hat hx
  go_enter Try.func40, Try.ntmps40
  go_wp2_with fail
  refine HI.out.mono ?_
  rintro e w' ⟨hb, ⟨u, V, E, hp, hu, hwe, hR, rfl⟩ | ⟨hp, V, n, hz, rfl⟩⟩
  · have HA := Lib.hid hb; have HB := Lib.hid hp; have HC := Lib.hid hu; have HD := Lib.hid hwe; have HE := Lib.hid hR
    clear hb hp hu hwe hR
    go_wp2
    go_ret3
    exact ⟨HA.out, .inl ⟨_, _, _, HB.out, HC.out, HD.out, HE.out, rfl⟩⟩
  · have HA := Lib.hid hb; have HB := Lib.hid hp; have HC := Lib.hid hz
    clear hb hp hz
    go_wp2
    go_ret3
    exact ⟨HA.out, .inr ⟨HB.out, _, _, HC.out, rfl⟩⟩
end Go.Proofs.Ytjpaljiielemgaa
