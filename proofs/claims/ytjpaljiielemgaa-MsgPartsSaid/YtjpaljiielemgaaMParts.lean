/- The walk of MsgParts. -/
import Derived.Test.YtjpaljiielemgaaMAwake
import Derived.Test.YtjpaljiielemgaaMRefImg
import Derived.Test.YtjpaljiielemgaaSlice
namespace Go.Proofs.Ytjpaljiielemgaa
open Go.RowKit
attribute [local go_sem] store_cplx

theorem slice_opM {w : World} {o : Oper} {a : Act} {x lo hi : Operand} {v v' l h : Value} (ho : o.op = .slice 24 x (some lo) (some hi) none) (hx : a.eval x = v) (hlo : a.eval lo = l) (hhi : a.eval hi = h)
    (hsl : ∀ w', (Instr.slice 24 v (some l) (some h) none).run Try.prog w' = .ok v' w') : (execOp a.eval o).run Try.prog w = .ok (.value v') w := by
  unfold execOp
  simp [ho, hx, hlo, hhi, Instr.sliceAt, run_underlying Try.underlying24, hsl]
theorem enc_some (n : Int) : 0 < (Pure.enc n).length := by
  unfold Pure.enc
  rw [Pure.var]
  split <;> simp
theorem img_some {B : Nat} {w : World} {V : Value} {E : List UInt8} (h : imgV B w V E) : 0 < E.length := by
  obtain ⟨x, y, x', y', g, L, F, M, G, _, _, _, _, _, _, _, _, rfl⟩ := h
  have := enc_some (g : Int)
  simp only [List.length_append]
  omega
theorem lst_some {t : TypeId} {size : Nat} {R : Rel} {B : Nat} {w : World} {V : Value} {E : List UInt8} (h : lstV t size R B w V E) : 0 < E.length := by
  obtain ⟨n, Vs, Es, _, _, _, _, _, rfl⟩ := h
  have := enc_some (n : Int)
  simp only [List.length_append]
  omega

set_option maxRecDepth 100000 in
set_option maxHeartbeats 8000000 in
theorem mparts_walk (a0 : Option Addr) (len0 cap0 : Nat) (z0 : List Int) (a1 : Int) (w : World) (w0 : IsRow w a0 len0 cap0 z0) (w1 : (Lit.int .i64 a1).wf = true) :
    Calls Try.prog 11 #[.slice a0 len0 cap0, .int .i64 a1] w fun e w' => e = .returned (.bool true) ∧ Below w.heap.size w w' := by
  have k1 := bounds_i64 w1
  obtain ⟨xs, hx, hv0⟩ := w0.bytes
  clear w0 w1
  subst hx
  have hm0 : xs.length ≤ 9223372036854775807 := by obtain ⟨_, c, he, h1, h2, _⟩ := hv0; unfold maxLen at h2; omega
  by_cases h2 : xs.length ≤ 5000 ∧ 0 ≤ a1 ∧ a1 ≤ 6000
  · obtain ⟨h0, h1, h3⟩ := h2
    obtain ⟨at0, rfl⟩ := Int.eq_ofNat_of_zero_le h1
    have d0 : decide ((5000 : Int) < (xs.length : Int)) = false := decide_eq_false (by omega)
    have d1 : decide ((at0 : Int) < 0) = false := decide_eq_false (by omega)
    have d2 : decide ((6000 : Int) < (at0 : Int)) = false := decide_eq_false (by omega)
    have hat : at0 ≤ far := by unfold far; omega
    have hxf : xs.length ≤ far := by unfold far; omega
    clear k1 h1
    replace hat := Lib.hid hat; replace hxf := Lib.hid hxf; replace hv0 := Lib.hid hv0
    go_enter Try.func11, Try.ntmps11
    go_wp2_with fail
    refine (awake6_core w).mono ?_
    rintro e wa ⟨rfl, ba⟩
    replace ba := Lib.hid ba
    go_wp2_with fail
    refine (get_img wa _ xs at0 hat.out hxf.out (hv0.out.keep ba.out)).mono ?_
    rintro e w2 ⟨b2, ⟨u, V, E, hp, hu, hwe, hR, he⟩ | ⟨hp, V, n, ⟨rfl, rfl⟩, rfl⟩⟩
    · obtain ⟨X, hX⟩ : ∃ X, at0 + u = X := ⟨_, rfl⟩
      have hcast : ((at0 : Int) + (u : Int)) = (X : Int) := by omega
      rw [hcast] at he
      subst he
      rw [hX] at hwe
      have ua : at0 ≤ X := by omega
      have ub : X ≤ xs.length := hwe.within (img_some hR)
      have ue := hwe.piece.1
      have u1 : decide ((X : Int) < (at0 : Int)) = false := decide_eq_false (by omega)
      have u3 : decide (X < at0) = false := decide_eq_false (by omega)
      have u4 : decide (xs.length < X) = false := decide_eq_false (by omega)
      have u2 : decide ((xs.length : Int) < (X : Int)) = false := decide_eq_false (by omega)
      have ul : E.length ≤ 1099511627776 := by rw [← ue, List.length_take, List.length_drop]; omega
      replace ue := Lib.hid ue; replace ul := Lib.hid ul
      clear hcast hwe hu hX
      have HI := Lib.hid hR
      obtain ⟨x, y, x', y', g1, L, F, M, G, q1, q2, q3, q4, q5, qL, qM, rfl, q6⟩ := hR
      obtain ⟨aa, na, ca, rfl⟩ := lst_slice qL
      obtain ⟨ab, nb, cb, rfl⟩ := lst_slice qM
      clear qL qM q1 q2 q3 q4 q5 q6
      have B2 := ba.out.trans (b2.mono ba.out.size)
      have z2 := Whole.new w2 62 #[.complex .f64 (Flo.flo x) (Flo.flo y), .complex .f64 (Flo.flo x') (Flo.flo y'), .int .i64 g1, .slice aa na ca, .slice ab nb cb]
      have n2 : Below w2.heap.size w2 (w2.alloc (.cells #[.complex .f64 (Flo.flo x) (Flo.flo y), .complex .f64 (Flo.flo x') (Flo.flo y'), .int .i64 g1, .slice aa na ca, .slice ab nb cb] 62)) := (Below.refl _ _).alloc (Nat.le_refl _) _
      have HI2 := Lib.hid (fair_img.keep HI.out (below_above n2))
      have B2n := B2.trans (n2.mono B2.size)
      replace z2 := Lib.hid z2; replace B2n := Lib.hid B2n; clear b2 B2 hp n2
      go_wp2_with fail
      generalize w2.alloc (.cells #[.complex .f64 (Flo.flo x) (Flo.flo y), .complex .f64 (Flo.flo x') (Flo.flo y'), .int .i64 g1, .slice aa na ca, .slice ab nb cb] 62) = x2 at z2 B2n HI2 ⊢
      refine (get_views x2 _ xs at0 hat.out hxf.out (hv0.out.keep B2n.out)).mono ?_
      rintro e w3 ⟨b3, ⟨u2, V2, E2, hp, hu2, hwe2, hR2, he⟩ | ⟨hp, V2, n2, ⟨rfl, rfl⟩, rfl⟩⟩
      · obtain ⟨Y, hY⟩ : ∃ X, at0 + u2 = X := ⟨_, rfl⟩
        have hcast : ((at0 : Int) + (u2 : Int)) = (Y : Int) := by omega
        rw [hcast] at he
        subst he
        rw [hY] at hwe2
        have va : at0 ≤ Y := by omega
        have vb : Y ≤ xs.length := hwe2.within (lst_some hR2)
        have ve := hwe2.piece.1
        have v1 : decide ((Y : Int) < (at0 : Int)) = false := decide_eq_false (by omega)
        have v3 : decide (Y < at0) = false := decide_eq_false (by omega)
        have v4 : decide (xs.length < Y) = false := decide_eq_false (by omega)
        have v2 : decide ((xs.length : Int) < (Y : Int)) = false := decide_eq_false (by omega)
        have vl : E2.length ≤ 1099511627776 := by rw [← ve, List.length_take, List.length_drop]; omega
        replace ve := Lib.hid ve; replace vl := Lib.hid vl
        clear hcast hwe2 hu2 hY
        obtain ⟨ac, nc, cc, rfl⟩ := lst_slice hR2
        have HL := Lib.hid hR2
        clear hR2
        have HZ := Lib.hid (z2.out.below b3 z2.out.lt)
        have HI3 := Lib.hid (fair_img.keep HI2.out (below_above b3))
        have BW := Lib.hid (B2n.out.trans (b3.mono B2n.out.size))
        clear b3 hp
        obtain ⟨ac0, cc0, he0, _⟩ := hv0.out
        injection he0 with e1 e2 e3
        subst e1 e3
        clear e2
        go_wp2_with fail
        obtain ⟨vs5, hsl5, hbs5⟩ := run_piece hv0.out (at0 : Int) (X : Int) (by omega) (by omega) (by omega)
        replace hbs5 := Lib.hid hbs5
        refine wp_region_chain (fun w' => Below w3.heap.size w3 w') [(true, 0), (true, 1), (true, 2), (true, 3), (true, 4), (true, 5), (true, 6), (true, 7), (true, 8), (true, 9), (true, 10), (true, 11), (true, 12), (true, 14), (true, 15), (true, 16), (true, 17), (false, 13), (false, 18), (true, 19), (true, 20), (true, 21), (true, 22), (true, 23), (true, 24), (true, 25), (true, 26), (true, 27), (true, 28), (true, 29)] (by kernel_rfl) (by kernel_rfl) (fun _ _ d _ _ h => by cases d <;> exact h) ((Below.refl _ _).drew) ?_
        iterate 12
          apply chain_take rfl rfl
          · intro w' hS
            go_simp
            try simp only [u1, u2, u3, u4]
            with_reducible rfl
          simp only [List.getElem_toArray, List.getElem_cons_succ, List.getElem_cons_zero, Act.put, List.setIfInBounds_toArray, List.set_cons_zero, List.set_cons_succ]
        apply chain_take rfl rfl
        · intro w' hS
          exact load_whole (HZ.out.below hS HZ.out.lt) rfl rfl Try.underlying62 sizeE62
        simp only [List.getElem_toArray, List.getElem_cons_succ, List.getElem_cons_zero, Act.put, List.setIfInBounds_toArray, List.set_cons_zero, List.set_cons_succ]
        iterate 3
          apply chain_take rfl rfl
          · intro w' hS
            go_simp
            try simp only [u1, u2, u3, u4]
            with_reducible rfl
          simp only [List.getElem_toArray, List.getElem_cons_succ, List.getElem_cons_zero, Act.put, List.setIfInBounds_toArray, List.set_cons_zero, List.set_cons_succ]
        apply chain_take rfl rfl
        · intro w' hS
          exact slice_opM rfl rfl rfl rfl hsl5
        simp only [List.getElem_toArray, List.getElem_cons_succ, List.getElem_cons_zero, Act.put, List.setIfInBounds_toArray, List.set_cons_zero, List.set_cons_succ]
        refine chain_go rfl ?_
        go_wp2_with fail
        refine (ref_img w3.drew _ wa.heap.size E HI3.out ul.out).mono ?_
        rintro e y5 ⟨v', rfl, hb2, hw2⟩
        obtain ⟨ae5, ne5, ce5, rfl, _⟩ := hb2.parts
        have H5 := Lib.hid (((Below.refl w3.heap.size w3).drew).trans (hw2.new rfl))
        have Y5 := Lib.hid hb2.bytes
        clear hb2 hw2
        go_wp2_with fail
        refine ⟨H5.out, ?_⟩
        refine chain_go rfl ?_
        go_wp2_with fail
        refine (same_yes _ _ _ E Y5.out (by have h := hbs5.out.keep (BW.out.trans (H5.out.mono BW.out.size)); rw [Int.toNat_natCast, Int.toNat_natCast, ue.out] at h; exact h)).mono ?_
        rintro e y' ⟨rfl, n5, rfl⟩
        go_wp2_with fail
        refine ⟨below_drewN H5.out _, ?_⟩
        iterate 7
          apply chain_take rfl rfl
          · intro w' hS
            go_simp
            with_reducible rfl
          simp only [List.getElem_toArray, List.getElem_cons_succ, List.getElem_cons_zero, Act.put, List.setIfInBounds_toArray, List.set_cons_zero, List.set_cons_succ]
        iterate 2
          refine chain_skipT rfl rfl ?_
          simp only [List.getElem_toArray, List.getElem_cons_succ, List.getElem_cons_zero, Act.put, List.setIfInBounds_toArray, List.set_cons_zero, List.set_cons_succ]
        iterate 2
          apply chain_take rfl rfl
          · intro w' hS
            go_simp
            with_reducible rfl
          simp only [List.getElem_toArray, List.getElem_cons_succ, List.getElem_cons_zero, Act.put, List.setIfInBounds_toArray, List.set_cons_zero, List.set_cons_succ]
        apply chain_end
        have BX := Lib.hid (BW.out.trans ((below_drewN H5.out n5).mono BW.out.size))
        have BW2 := BX
        have HL5 := Lib.hid ((fair_lst fair_view).keep HL.out (below_above (below_drewN H5.out n5)))
        generalize y5.drewN n5 = w5 at BX HL5 ⊢
        clear BW BW2
        have BW := BX
        clear BX
        go_wp2_with fail
        obtain ⟨vs7, hsl7, hbs7⟩ := run_piece hv0.out (at0 : Int) (Y : Int) (by omega) (by omega) (by omega)
        replace hbs7 := Lib.hid hbs7
        refine wp_region_chain (fun w' => Below w5.heap.size w5 w') [(true, 0), (true, 1), (true, 2), (true, 3), (true, 4), (true, 5), (true, 6), (true, 7), (true, 8), (true, 9), (true, 10), (true, 11), (true, 12), (true, 14), (true, 15), (true, 16), (true, 17), (false, 13), (false, 18), (true, 19), (true, 20), (true, 21), (true, 22), (true, 23), (true, 24), (true, 25), (true, 26), (true, 27), (true, 28), (true, 29), (true, 30), (true, 31), (true, 32), (true, 33), (true, 34)] (by kernel_rfl) (by kernel_rfl) (fun _ _ d _ _ h => by cases d <;> exact h) ((Below.refl _ _).drew) ?_
        iterate 16
          apply chain_take rfl rfl
          · intro w' hS
            go_simp
            try simp only [v1, v2, v3, v4]
            with_reducible rfl
          simp only [List.getElem_toArray, List.getElem_cons_succ, List.getElem_cons_zero, Act.put, List.setIfInBounds_toArray, List.set_cons_zero, List.set_cons_succ]
        apply chain_take rfl rfl
        · intro w' hS
          exact slice_opM rfl rfl rfl rfl hsl7
        simp only [List.getElem_toArray, List.getElem_cons_succ, List.getElem_cons_zero, Act.put, List.setIfInBounds_toArray, List.set_cons_zero, List.set_cons_succ]
        refine chain_go rfl ?_
        go_wp2_with fail
        refine (ref_view w5.drew _ x2.heap.size E2 HL5.out vl.out).mono ?_
        rintro e y7 ⟨v', rfl, hb2, hw2⟩
        obtain ⟨ae7, ne7, ce7, rfl, _⟩ := hb2.parts
        have H7 := Lib.hid (((Below.refl w5.heap.size w5).drew).trans (hw2.new rfl))
        have Y7 := Lib.hid hb2.bytes
        clear hb2 hw2
        go_wp2_with fail
        refine ⟨H7.out, ?_⟩
        refine chain_go rfl ?_
        go_wp2_with fail
        refine (same_yes _ _ _ E2 Y7.out (by have h := hbs7.out.keep (BW.out.trans (H7.out.mono BW.out.size)); rw [Int.toNat_natCast, Int.toNat_natCast, ve.out] at h; exact h)).mono ?_
        rintro e y' ⟨rfl, n7, rfl⟩
        go_wp2_with fail
        refine ⟨below_drewN H7.out _, ?_⟩
        iterate 7
          apply chain_take rfl rfl
          · intro w' hS
            go_simp
            with_reducible rfl
          simp only [List.getElem_toArray, List.getElem_cons_succ, List.getElem_cons_zero, Act.put, List.setIfInBounds_toArray, List.set_cons_zero, List.set_cons_succ]
        iterate 7
          refine chain_skipT rfl rfl ?_
          simp only [List.getElem_toArray, List.getElem_cons_succ, List.getElem_cons_zero, Act.put, List.setIfInBounds_toArray, List.set_cons_zero, List.set_cons_succ]
        iterate 2
          apply chain_take rfl rfl
          · intro w' hS
            go_simp
            with_reducible rfl
          simp only [List.getElem_toArray, List.getElem_cons_succ, List.getElem_cons_zero, Act.put, List.setIfInBounds_toArray, List.set_cons_zero, List.set_cons_succ]
        apply chain_end
        have BX := Lib.hid (BW.out.trans ((below_drewN H7.out n7).mono BW.out.size))
        go_wp2
        go_ret
        exact ⟨rfl, BX.out⟩
      · have HZ := Lib.hid (z2.out.below b3 z2.out.lt)
        have HI3 := Lib.hid (fair_img.keep HI2.out (below_above b3))
        have BW := Lib.hid (B2n.out.trans (b3.mono B2n.out.size))
        clear b3 hp
        obtain ⟨ac0, cc0, he0, _⟩ := hv0.out
        injection he0 with e1 e2 e3
        subst e1 e3
        clear e2
        go_wp2_with fail
        obtain ⟨vs5, hsl5, hbs5⟩ := run_piece hv0.out (at0 : Int) (X : Int) (by omega) (by omega) (by omega)
        replace hbs5 := Lib.hid hbs5
        refine wp_region_chain (fun w' => Below w3.heap.size w3 w') [(true, 0), (true, 1), (true, 2), (true, 3), (true, 4), (true, 5), (true, 6), (true, 7), (true, 8), (true, 9), (true, 10), (true, 11), (true, 12), (true, 14), (true, 15), (true, 16), (true, 17), (false, 13), (false, 18), (true, 19), (true, 20), (true, 21), (true, 22), (true, 23), (true, 24), (true, 25), (true, 26), (true, 27), (true, 28), (true, 29)] (by kernel_rfl) (by kernel_rfl) (fun _ _ d _ _ h => by cases d <;> exact h) ((Below.refl _ _).drew) ?_
        iterate 12
          apply chain_take rfl rfl
          · intro w' hS
            go_simp
            try simp only [u1, u2, u3, u4]
            with_reducible rfl
          simp only [List.getElem_toArray, List.getElem_cons_succ, List.getElem_cons_zero, Act.put, List.setIfInBounds_toArray, List.set_cons_zero, List.set_cons_succ]
        apply chain_take rfl rfl
        · intro w' hS
          exact load_whole (HZ.out.below hS HZ.out.lt) rfl rfl Try.underlying62 sizeE62
        simp only [List.getElem_toArray, List.getElem_cons_succ, List.getElem_cons_zero, Act.put, List.setIfInBounds_toArray, List.set_cons_zero, List.set_cons_succ]
        iterate 3
          apply chain_take rfl rfl
          · intro w' hS
            go_simp
            try simp only [u1, u2, u3, u4]
            with_reducible rfl
          simp only [List.getElem_toArray, List.getElem_cons_succ, List.getElem_cons_zero, Act.put, List.setIfInBounds_toArray, List.set_cons_zero, List.set_cons_succ]
        apply chain_take rfl rfl
        · intro w' hS
          exact slice_opM rfl rfl rfl rfl hsl5
        simp only [List.getElem_toArray, List.getElem_cons_succ, List.getElem_cons_zero, Act.put, List.setIfInBounds_toArray, List.set_cons_zero, List.set_cons_succ]
        refine chain_go rfl ?_
        go_wp2_with fail
        refine (ref_img w3.drew _ wa.heap.size E HI3.out ul.out).mono ?_
        rintro e y5 ⟨v', rfl, hb2, hw2⟩
        obtain ⟨ae5, ne5, ce5, rfl, _⟩ := hb2.parts
        have H5 := Lib.hid (((Below.refl w3.heap.size w3).drew).trans (hw2.new rfl))
        have Y5 := Lib.hid hb2.bytes
        clear hb2 hw2
        go_wp2_with fail
        refine ⟨H5.out, ?_⟩
        refine chain_go rfl ?_
        go_wp2_with fail
        refine (same_yes _ _ _ E Y5.out (by have h := hbs5.out.keep (BW.out.trans (H5.out.mono BW.out.size)); rw [Int.toNat_natCast, Int.toNat_natCast, ue.out] at h; exact h)).mono ?_
        rintro e y' ⟨rfl, n5, rfl⟩
        go_wp2_with fail
        refine ⟨below_drewN H5.out _, ?_⟩
        iterate 7
          apply chain_take rfl rfl
          · intro w' hS
            go_simp
            with_reducible rfl
          simp only [List.getElem_toArray, List.getElem_cons_succ, List.getElem_cons_zero, Act.put, List.setIfInBounds_toArray, List.set_cons_zero, List.set_cons_succ]
        iterate 2
          refine chain_skipT rfl rfl ?_
          simp only [List.getElem_toArray, List.getElem_cons_succ, List.getElem_cons_zero, Act.put, List.setIfInBounds_toArray, List.set_cons_zero, List.set_cons_succ]
        iterate 2
          apply chain_take rfl rfl
          · intro w' hS
            go_simp
            with_reducible rfl
          simp only [List.getElem_toArray, List.getElem_cons_succ, List.getElem_cons_zero, Act.put, List.setIfInBounds_toArray, List.set_cons_zero, List.set_cons_succ]
        apply chain_end
        have BX := Lib.hid (BW.out.trans ((below_drewN H5.out n5).mono BW.out.size))
        have BW2 := BX
        generalize y5.drewN n5 = w5 at BX ⊢
        clear BW BW2
        have BW := BX
        clear BX
        go_wp2_with fail
        refine wp_region_chain (fun w' => Below w5.heap.size w5 w') [(true, 0), (true, 1), (true, 2), (true, 3), (true, 4), (true, 5), (true, 6), (true, 7), (true, 8), (true, 9), (true, 10), (true, 11), (true, 12), (true, 14), (true, 15), (true, 16), (true, 17), (false, 13), (false, 18), (true, 19), (true, 20), (true, 21), (true, 22), (true, 23), (true, 24), (true, 25), (true, 26), (true, 27), (true, 28), (true, 29), (true, 30), (true, 31), (true, 32), (true, 33), (true, 34)] (by kernel_rfl) (by kernel_rfl) (fun _ _ d _ _ h => by cases d <;> exact h) ((Below.refl _ _).drew) ?_
        iterate 2
          apply chain_take rfl rfl
          · intro w' hS
            go_simp
            with_reducible rfl
          simp only [List.getElem_toArray, List.getElem_cons_succ, List.getElem_cons_zero, Act.put, List.setIfInBounds_toArray, List.set_cons_zero, List.set_cons_succ]
        iterate 15
          refine chain_skipT rfl rfl ?_
          simp only [List.getElem_toArray, List.getElem_cons_succ, List.getElem_cons_zero, Act.put, List.setIfInBounds_toArray, List.set_cons_zero, List.set_cons_succ]
        iterate 2
          refine chain_skipF rfl rfl ((Below.refl _ _).drew) ?_
          simp only [List.getElem_toArray, List.getElem_cons_succ, List.getElem_cons_zero, Act.put, List.setIfInBounds_toArray, List.set_cons_zero, List.set_cons_succ]
        iterate 2
          refine chain_skipT rfl rfl ?_
          simp only [List.getElem_toArray, List.getElem_cons_succ, List.getElem_cons_zero, Act.put, List.setIfInBounds_toArray, List.set_cons_zero, List.set_cons_succ]
        iterate 14
          apply chain_take rfl rfl
          · intro w' hS
            go_simp
            with_reducible rfl
          simp only [List.getElem_toArray, List.getElem_cons_succ, List.getElem_cons_zero, Act.put, List.setIfInBounds_toArray, List.set_cons_zero, List.set_cons_succ]
        apply chain_end
        have BX := Lib.hid (BW.out.drew)
        go_wp2
        go_ret
        exact ⟨rfl, BX.out⟩
    · have B2 := ba.out.trans (b2.mono ba.out.size)
      have z2 := Whole.new w2 62 #[.complex .f64 0 0, .complex .f64 0 0, .int .i64 0, .slice none 0 0, .slice none 0 0]
      have n2 : Below w2.heap.size w2 (w2.alloc (.cells #[.complex .f64 0 0, .complex .f64 0 0, .int .i64 0, .slice none 0 0, .slice none 0 0] 62)) := (Below.refl _ _).alloc (Nat.le_refl _) _
      have B2n := B2.trans (n2.mono B2.size)
      replace z2 := Lib.hid z2; replace B2n := Lib.hid B2n; clear b2 B2 hp n2
      go_wp2_with fail
      generalize w2.alloc (.cells #[.complex .f64 0 0, .complex .f64 0 0, .int .i64 0, .slice none 0 0, .slice none 0 0] 62) = x2 at z2 B2n ⊢
      refine (get_views x2 _ xs at0 hat.out hxf.out (hv0.out.keep B2n.out)).mono ?_
      rintro e w3 ⟨b3, ⟨u2, V2, E2, hp, hu2, hwe2, hR2, he⟩ | ⟨hp, V2, n2, ⟨rfl, rfl⟩, rfl⟩⟩
      · obtain ⟨Y, hY⟩ : ∃ X, at0 + u2 = X := ⟨_, rfl⟩
        have hcast : ((at0 : Int) + (u2 : Int)) = (Y : Int) := by omega
        rw [hcast] at he
        subst he
        rw [hY] at hwe2
        have va : at0 ≤ Y := by omega
        have vb : Y ≤ xs.length := hwe2.within (lst_some hR2)
        have ve := hwe2.piece.1
        have v1 : decide ((Y : Int) < (at0 : Int)) = false := decide_eq_false (by omega)
        have v3 : decide (Y < at0) = false := decide_eq_false (by omega)
        have v4 : decide (xs.length < Y) = false := decide_eq_false (by omega)
        have v2 : decide ((xs.length : Int) < (Y : Int)) = false := decide_eq_false (by omega)
        have vl : E2.length ≤ 1099511627776 := by rw [← ve, List.length_take, List.length_drop]; omega
        replace ve := Lib.hid ve; replace vl := Lib.hid vl
        clear hcast hwe2 hu2 hY
        obtain ⟨ac, nc, cc, rfl⟩ := lst_slice hR2
        have HL := Lib.hid hR2
        clear hR2
        have HZ := Lib.hid (z2.out.below b3 z2.out.lt)
        have BW := Lib.hid (B2n.out.trans (b3.mono B2n.out.size))
        clear b3 hp
        obtain ⟨ac0, cc0, he0, _⟩ := hv0.out
        injection he0 with e1 e2 e3
        subst e1 e3
        clear e2
        go_wp2_with fail
        refine wp_region_chain (fun w' => Below w3.heap.size w3 w') [(true, 0), (true, 1), (true, 2), (true, 3), (true, 4), (true, 5), (true, 6), (true, 7), (true, 8), (true, 9), (true, 10), (true, 11), (true, 12), (true, 14), (true, 15), (true, 16), (true, 17), (false, 13), (false, 18), (true, 19), (true, 20), (true, 21), (true, 22), (true, 23), (true, 24), (true, 25), (true, 26), (true, 27), (true, 28), (true, 29)] (by kernel_rfl) (by kernel_rfl) (fun _ _ d _ _ h => by cases d <;> exact h) ((Below.refl _ _).drew) ?_
        iterate 2
          apply chain_take rfl rfl
          · intro w' hS
            go_simp
            with_reducible rfl
          simp only [List.getElem_toArray, List.getElem_cons_succ, List.getElem_cons_zero, Act.put, List.setIfInBounds_toArray, List.set_cons_zero, List.set_cons_succ]
        iterate 15
          refine chain_skipT rfl rfl ?_
          simp only [List.getElem_toArray, List.getElem_cons_succ, List.getElem_cons_zero, Act.put, List.setIfInBounds_toArray, List.set_cons_zero, List.set_cons_succ]
        iterate 2
          refine chain_skipF rfl rfl ((Below.refl _ _).drew) ?_
          simp only [List.getElem_toArray, List.getElem_cons_succ, List.getElem_cons_zero, Act.put, List.setIfInBounds_toArray, List.set_cons_zero, List.set_cons_succ]
        iterate 2
          refine chain_skipT rfl rfl ?_
          simp only [List.getElem_toArray, List.getElem_cons_succ, List.getElem_cons_zero, Act.put, List.setIfInBounds_toArray, List.set_cons_zero, List.set_cons_succ]
        iterate 9
          apply chain_take rfl rfl
          · intro w' hS
            go_simp
            with_reducible rfl
          simp only [List.getElem_toArray, List.getElem_cons_succ, List.getElem_cons_zero, Act.put, List.setIfInBounds_toArray, List.set_cons_zero, List.set_cons_succ]
        apply chain_end
        have BX := Lib.hid (BW.out.drew)
        have BW2 := BX
        have HL5 := Lib.hid ((fair_lst fair_view).keep HL.out (below_above ((Below.refl w3.heap.size w3).drew)))
        generalize w3.drew = w5 at BX HL5 ⊢
        clear BW BW2
        have BW := BX
        clear BX
        go_wp2_with fail
        obtain ⟨vs7, hsl7, hbs7⟩ := run_piece hv0.out (at0 : Int) (Y : Int) (by omega) (by omega) (by omega)
        replace hbs7 := Lib.hid hbs7
        refine wp_region_chain (fun w' => Below w5.heap.size w5 w') [(true, 0), (true, 1), (true, 2), (true, 3), (true, 4), (true, 5), (true, 6), (true, 7), (true, 8), (true, 9), (true, 10), (true, 11), (true, 12), (true, 14), (true, 15), (true, 16), (true, 17), (false, 13), (false, 18), (true, 19), (true, 20), (true, 21), (true, 22), (true, 23), (true, 24), (true, 25), (true, 26), (true, 27), (true, 28), (true, 29), (true, 30), (true, 31), (true, 32), (true, 33), (true, 34)] (by kernel_rfl) (by kernel_rfl) (fun _ _ d _ _ h => by cases d <;> exact h) ((Below.refl _ _).drew) ?_
        iterate 16
          apply chain_take rfl rfl
          · intro w' hS
            go_simp
            try simp only [v1, v2, v3, v4]
            with_reducible rfl
          simp only [List.getElem_toArray, List.getElem_cons_succ, List.getElem_cons_zero, Act.put, List.setIfInBounds_toArray, List.set_cons_zero, List.set_cons_succ]
        apply chain_take rfl rfl
        · intro w' hS
          exact slice_opM rfl rfl rfl rfl hsl7
        simp only [List.getElem_toArray, List.getElem_cons_succ, List.getElem_cons_zero, Act.put, List.setIfInBounds_toArray, List.set_cons_zero, List.set_cons_succ]
        refine chain_go rfl ?_
        go_wp2_with fail
        refine (ref_view w5.drew _ x2.heap.size E2 HL5.out vl.out).mono ?_
        rintro e y7 ⟨v', rfl, hb2, hw2⟩
        obtain ⟨ae7, ne7, ce7, rfl, _⟩ := hb2.parts
        have H7 := Lib.hid (((Below.refl w5.heap.size w5).drew).trans (hw2.new rfl))
        have Y7 := Lib.hid hb2.bytes
        clear hb2 hw2
        go_wp2_with fail
        refine ⟨H7.out, ?_⟩
        refine chain_go rfl ?_
        go_wp2_with fail
        refine (same_yes _ _ _ E2 Y7.out (by have h := hbs7.out.keep (BW.out.trans (H7.out.mono BW.out.size)); rw [Int.toNat_natCast, Int.toNat_natCast, ve.out] at h; exact h)).mono ?_
        rintro e y' ⟨rfl, n7, rfl⟩
        go_wp2_with fail
        refine ⟨below_drewN H7.out _, ?_⟩
        iterate 7
          apply chain_take rfl rfl
          · intro w' hS
            go_simp
            with_reducible rfl
          simp only [List.getElem_toArray, List.getElem_cons_succ, List.getElem_cons_zero, Act.put, List.setIfInBounds_toArray, List.set_cons_zero, List.set_cons_succ]
        iterate 7
          refine chain_skipT rfl rfl ?_
          simp only [List.getElem_toArray, List.getElem_cons_succ, List.getElem_cons_zero, Act.put, List.setIfInBounds_toArray, List.set_cons_zero, List.set_cons_succ]
        iterate 2
          apply chain_take rfl rfl
          · intro w' hS
            go_simp
            with_reducible rfl
          simp only [List.getElem_toArray, List.getElem_cons_succ, List.getElem_cons_zero, Act.put, List.setIfInBounds_toArray, List.set_cons_zero, List.set_cons_succ]
        apply chain_end
        have BX := Lib.hid (BW.out.trans ((below_drewN H7.out n7).mono BW.out.size))
        go_wp2
        go_ret
        exact ⟨rfl, BX.out⟩
      · have HZ := Lib.hid (z2.out.below b3 z2.out.lt)
        have BW := Lib.hid (B2n.out.trans (b3.mono B2n.out.size))
        clear b3 hp
        obtain ⟨ac0, cc0, he0, _⟩ := hv0.out
        injection he0 with e1 e2 e3
        subst e1 e3
        clear e2
        go_wp2_with fail
        refine wp_region_chain (fun w' => Below w3.heap.size w3 w') [(true, 0), (true, 1), (true, 2), (true, 3), (true, 4), (true, 5), (true, 6), (true, 7), (true, 8), (true, 9), (true, 10), (true, 11), (true, 12), (true, 14), (true, 15), (true, 16), (true, 17), (false, 13), (false, 18), (true, 19), (true, 20), (true, 21), (true, 22), (true, 23), (true, 24), (true, 25), (true, 26), (true, 27), (true, 28), (true, 29)] (by kernel_rfl) (by kernel_rfl) (fun _ _ d _ _ h => by cases d <;> exact h) ((Below.refl _ _).drew) ?_
        iterate 2
          apply chain_take rfl rfl
          · intro w' hS
            go_simp
            with_reducible rfl
          simp only [List.getElem_toArray, List.getElem_cons_succ, List.getElem_cons_zero, Act.put, List.setIfInBounds_toArray, List.set_cons_zero, List.set_cons_succ]
        iterate 15
          refine chain_skipT rfl rfl ?_
          simp only [List.getElem_toArray, List.getElem_cons_succ, List.getElem_cons_zero, Act.put, List.setIfInBounds_toArray, List.set_cons_zero, List.set_cons_succ]
        iterate 2
          refine chain_skipF rfl rfl ((Below.refl _ _).drew) ?_
          simp only [List.getElem_toArray, List.getElem_cons_succ, List.getElem_cons_zero, Act.put, List.setIfInBounds_toArray, List.set_cons_zero, List.set_cons_succ]
        iterate 2
          refine chain_skipT rfl rfl ?_
          simp only [List.getElem_toArray, List.getElem_cons_succ, List.getElem_cons_zero, Act.put, List.setIfInBounds_toArray, List.set_cons_zero, List.set_cons_succ]
        iterate 9
          apply chain_take rfl rfl
          · intro w' hS
            go_simp
            with_reducible rfl
          simp only [List.getElem_toArray, List.getElem_cons_succ, List.getElem_cons_zero, Act.put, List.setIfInBounds_toArray, List.set_cons_zero, List.set_cons_succ]
        apply chain_end
        have BX := Lib.hid (BW.out.drew)
        have BW2 := BX
        generalize w3.drew = w5 at BX ⊢
        clear BW BW2
        have BW := BX
        clear BX
        go_wp2_with fail
        refine wp_region_chain (fun w' => Below w5.heap.size w5 w') [(true, 0), (true, 1), (true, 2), (true, 3), (true, 4), (true, 5), (true, 6), (true, 7), (true, 8), (true, 9), (true, 10), (true, 11), (true, 12), (true, 14), (true, 15), (true, 16), (true, 17), (false, 13), (false, 18), (true, 19), (true, 20), (true, 21), (true, 22), (true, 23), (true, 24), (true, 25), (true, 26), (true, 27), (true, 28), (true, 29), (true, 30), (true, 31), (true, 32), (true, 33), (true, 34)] (by kernel_rfl) (by kernel_rfl) (fun _ _ d _ _ h => by cases d <;> exact h) ((Below.refl _ _).drew) ?_
        iterate 2
          apply chain_take rfl rfl
          · intro w' hS
            go_simp
            with_reducible rfl
          simp only [List.getElem_toArray, List.getElem_cons_succ, List.getElem_cons_zero, Act.put, List.setIfInBounds_toArray, List.set_cons_zero, List.set_cons_succ]
        iterate 15
          refine chain_skipT rfl rfl ?_
          simp only [List.getElem_toArray, List.getElem_cons_succ, List.getElem_cons_zero, Act.put, List.setIfInBounds_toArray, List.set_cons_zero, List.set_cons_succ]
        iterate 2
          refine chain_skipF rfl rfl ((Below.refl _ _).drew) ?_
          simp only [List.getElem_toArray, List.getElem_cons_succ, List.getElem_cons_zero, Act.put, List.setIfInBounds_toArray, List.set_cons_zero, List.set_cons_succ]
        iterate 2
          refine chain_skipT rfl rfl ?_
          simp only [List.getElem_toArray, List.getElem_cons_succ, List.getElem_cons_zero, Act.put, List.setIfInBounds_toArray, List.set_cons_zero, List.set_cons_succ]
        iterate 14
          apply chain_take rfl rfl
          · intro w' hS
            go_simp
            with_reducible rfl
          simp only [List.getElem_toArray, List.getElem_cons_succ, List.getElem_cons_zero, Act.put, List.setIfInBounds_toArray, List.set_cons_zero, List.set_cons_succ]
        apply chain_end
        have BX := Lib.hid (BW.out.drew)
        go_wp2
        go_ret
        exact ⟨rfl, BX.out⟩
  · have hg3 : decide ((5000 : Int) < (xs.length : Int)) = true ∨ decide ((5000 : Int) < (xs.length : Int)) = false ∧ decide (a1 < 0) = true ∨
        decide ((5000 : Int) < (xs.length : Int)) = false ∧ decide (a1 < 0) = false ∧ decide (6000 < a1) = true := by
      simp only [decide_eq_true_eq, decide_eq_false_iff_not]; omega
    clear h2
    rcases hg3 with d2 | ⟨d2, d0⟩ | ⟨d2, d0, d3⟩
    all_goals
      go_enter Try.func11, Try.ntmps11
      go_wp2_with fail
      refine (awake6_core w).mono ?_
      rintro e wa ⟨rfl, ba⟩
      replace ba := Lib.hid ba
      go_wp2_with fail
      refine (awake6_core wa).mono ?_
      rintro e wb ⟨rfl, bb⟩
      go_wp2
      go_ret
      exact ⟨rfl, ba.out.trans (bb.mono ba.out.size)⟩
end Go.Proofs.Ytjpaljiielemgaa
