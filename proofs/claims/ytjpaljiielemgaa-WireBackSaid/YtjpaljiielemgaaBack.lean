/- The law WireBack: what is written is read as it was; what is read was written in the one way there is. -/
import Derived.Test.YtjpaljiielemgaaArgs
import Derived.Test.YtjpaljiielemgaaOrd
namespace Go.Proofs.Ytjpaljiielemgaa
open Go.RowKit

set_option maxRecDepth 100000 in
set_option maxHeartbeats 1000000 in
theorem back_walk (a0 : Option Addr) (len0 cap0 : Nat) (z0 : List Int) (a1 : Int) (a2 : ByteArray) (a3 : Option Addr) (len3 cap3 : Nat) (z3 : List Int) (w : World) (w0 : IsRow w a0 len0 cap0 z0) (w1 : (Lit.int .i64 a1).wf = true) (w2 : a2.size ≤ maxLen) (w3 : IsRow w a3 len3 cap3 z3) :
    Calls Try.prog 4 #[.slice a0 len0 cap0, .int .i64 a1, .string a2, .slice a3 len3 cap3] w fun e w' => e = .returned (.bool true) ∧ Below w.heap.size w w' := by
  have k1 := bounds_i64 w1
  obtain ⟨xs, hx, hv0⟩ := w0.bytes
  obtain ⟨ys, hy, hv3⟩ := w3.bytes
  clear w0 w3 w1
  subst hx hy
  unfold maxLen at w2
  have hls : a2.data.toList.length = a2.size := by simp
  have HLS := Lib.hid hls
  have hm : ys.length ≤ 9223372036854775807 := by obtain ⟨_, c, he, h1, h2, _⟩ := hv3; unfold maxLen at h2; omega
  have hm0 : xs.length ≤ 9223372036854775807 := by obtain ⟨_, c, he, h1, h2, _⟩ := hv0; unfold maxLen at h2; omega
  by_cases h2 : a2.size ≤ 5000 ∧ xs.length ≤ 5000 ∧ ys.length ≤ 5000
  · obtain ⟨h2, h0, h3⟩ := h2
    have d2 : decide ((5000 : Int) < (a2.size : Int)) = false := decide_eq_false (by omega)
    have d0 : decide ((5000 : Int) < (xs.length : Int)) = false := decide_eq_false (by omega)
    have d3 : decide ((5000 : Int) < (ys.length : Int)) = false := decide_eq_false (by omega)
    have hel := Pure.enc_len a1 k1.1 k1.2
    have htl := txt_len a2.data.toList (by omega)
    rw [hls] at htl
    clear hls
    have HX := Lib.hid (show xs.length + ys.length ≤ 70368744177664 by omega)
    have HE := Lib.hid hel
    have HT := Lib.hid htl
    clear hel htl
    go_enter Try.func4, Try.ntmps4
    go_wp2_with (at_builtin; refine wpList_app rfl (.tmp 35) (.tmp 36) 24 rfl (.inl Try.underlying24) (.slice (some ⟨w.heap.size, 0, none⟩) 0 0) _ [] xs rfl rfl (buf_at w _ _ rfl [] (by decide) rfl) (src_bytes (hv0.keep ((Below.refl _ _).alloc (Nat.le_refl _) _))) (by have := HX.out; simp; omega) ?_; intro va wa hba hwa)
    rw [List.nil_append] at hba
    have ba : Below w.heap.size w wa := ((Below.refl _ _).alloc (Nat.le_refl _) _).trans ((hwa.new (by simp [blk])).mono (by simp))
    have fa := (hwa.below (B := w.heap.size) (by simp) (by simp [blk])).2
    refine (int_core wa va xs a1 k1.1 k1.2 hba (by omega)).mono ?_
    rintro e wb ⟨vb, rfl, hbb, hwb⟩
    obtain ⟨bb, fb⟩ := hwb.first ba.size fa ba
    obtain ⟨ab, nb, cb, rfl, hnb, hnb1, hnb2, hnb3⟩ := hbb.parts
    go_wp2_with fail
    refine (text_core wb _ _ a2 (by omega) hbb (by rw [List.length_append]; have := HE.out; omega)).mono ?_
    rintro e wc ⟨vc, rfl, hbc, hwc⟩
    obtain ⟨bc, fc⟩ := hwc.first bb.size fb bb
    obtain ⟨ac, nc, cc, rfl, hnc, hnc1, hnc2, hnc3⟩ := hbc.parts
    have hlc : (xs ++ Pure.enc a1 ++ txt a2.data.toList).length + ys.length ≤ 70368744177664 := by
      have := HE.out; have := HT.out
      simp only [List.length_append]; omega
    have HLC := Lib.hid hlc
    clear hlc
    go_wp2_with (at_builtin; refine wpList_app rfl (.tmp 48) (.tmp 49) 24 rfl (.inl Try.underlying24) (.slice ac nc cc) _ _ ys rfl rfl hbc (src_bytes (hv3.keep bc)) HLC.out ?_; intro vd wd hbd hwd)
    obtain ⟨bd, _⟩ := hwd.first bc.size fc bc
    obtain ⟨ad, nd, cd, rfl, hnd, hnd1, hnd2, hnd3⟩ := hbd.parts
    have e1 : (xs ++ Pure.enc a1 ++ txt a2.data.toList ++ ys).drop xs.length = Pure.enc a1 ++ (txt a2.data.toList ++ ys) := by simp
    have e2 : (xs ++ Pure.enc a1 ++ txt a2.data.toList ++ ys).drop nb = txt a2.data.toList ++ ys := by rw [hnb.out]; simp
    have g1 := Pure.get_enc a1 (txt a2.data.toList ++ ys) k1.1 k1.2
    rw [← e1] at g1
    have g2 := getTxt_txt a2.data.toList ys (by rw [HLS.out]; omega)
    rw [← e2] at g2
    have G1 := Lib.hid g1
    have G2 := Lib.hid g2
    clear g1 g2 e1 e2
    refine (getInt_some (at0 := xs.length) G1.out (by omega) hbd.bytes).mono ?_
    rintro e w' ⟨rfl, rfl⟩
    go_wp2_with fail
    refine (getText_core _ _ _ nb (by rw [hnb.out, List.length_append]; have := HE.out; omega) hbd.bytes).mono ?_
    rintro e w' ⟨he, rfl⟩
    rw [G2.out] at he
    simp only [str_eta] at he
    subst he
    have t1 : ((xs.length : Int) + ((Pure.enc a1).length : Int) != (nb : Int)) = false := by rw [bne_eq_false_iff_eq, hnb.out, List.length_append]; omega
    have t2 : ((nb : Int) + ((txt a2.data.toList).length : Int) != (nc : Int)) = false := by rw [bne_eq_false_iff_eq, hnb.out, hnc.out]; simp only [List.length_append]; omega
    cases hg : Pure.get ys with
    | none =>
      have H := Lib.hid (show Pure.get (ys.drop 0) = none by simpa using hg)
      clear hg
      go_wp2_with fail
      refine (getInt_none (at0 := 0) H.out (by omega) (hv3.keep bd)).mono ?_
      rintro e w' ⟨rfl, rfl⟩
      go_wp2_with fail
      refine wp_region_chain (Below wd.heap.size wd) [(false, 0), (true, 1), (true, 2), (true, 3), (true, 4), (true, 5), (true, 7), (true, 8), (true, 9), (false, 6), (false, 10), (true, 11), (true, 12), (false, 13)] (by kernel_rfl) (by kernel_rfl) (fun _ _ d _ _ h => by cases d <;> exact h) (Below.refl _ _).drew ?_
      refine chain_go rfl ?_
      go_wp2_with fail
      refine (awake3_core _).mono ?_
      rintro e wf ⟨rfl, bf⟩
      go_wp2_with fail
      refine ⟨below_undrew bf, ?_⟩
      have bS := below_undrew bf
      apply chain_take rfl rfl
      · intro w' hS
        go_simp
        with_reducible rfl
      simp only [List.getElem_toArray, List.getElem_cons_succ, List.getElem_cons_zero, Act.put, List.setIfInBounds_toArray, List.set_cons_zero, List.set_cons_succ]
      apply chain_take rfl rfl
      · intro w' hS
        go_simp
        with_reducible rfl
      simp only [List.getElem_toArray, List.getElem_cons_succ, List.getElem_cons_zero, Act.put, List.setIfInBounds_toArray, List.set_cons_zero, List.set_cons_succ]
      apply chain_take rfl rfl
      · intro w' hS
        go_simp
        with_reducible rfl
      simp only [List.getElem_toArray, List.getElem_cons_succ, List.getElem_cons_zero, Act.put, List.setIfInBounds_toArray, List.set_cons_zero, List.set_cons_succ]
      apply chain_take rfl rfl
      · intro w' hS
        go_simp
        with_reducible rfl
      simp only [List.getElem_toArray, List.getElem_cons_succ, List.getElem_cons_zero, Act.put, List.setIfInBounds_toArray, List.set_cons_zero, List.set_cons_succ]
      refine chain_skipT rfl rfl ?_
      simp only [List.getElem_toArray, List.getElem_cons_succ, List.getElem_cons_zero, Act.put, List.setIfInBounds_toArray, List.set_cons_zero, List.set_cons_succ]
      refine chain_skipT rfl rfl ?_
      simp only [List.getElem_toArray, List.getElem_cons_succ, List.getElem_cons_zero, Act.put, List.setIfInBounds_toArray, List.set_cons_zero, List.set_cons_succ]
      refine chain_skipT rfl rfl ?_
      simp only [List.getElem_toArray, List.getElem_cons_succ, List.getElem_cons_zero, Act.put, List.setIfInBounds_toArray, List.set_cons_zero, List.set_cons_succ]
      refine chain_skipT rfl rfl ?_
      simp only [List.getElem_toArray, List.getElem_cons_succ, List.getElem_cons_zero, Act.put, List.setIfInBounds_toArray, List.set_cons_zero, List.set_cons_succ]
      refine chain_skipF rfl rfl (bS) ?_
      simp only [List.getElem_toArray, List.getElem_cons_succ, List.getElem_cons_zero, Act.put, List.setIfInBounds_toArray, List.set_cons_zero, List.set_cons_succ]
      refine chain_skipF rfl rfl (bS) ?_
      simp only [List.getElem_toArray, List.getElem_cons_succ, List.getElem_cons_zero, Act.put, List.setIfInBounds_toArray, List.set_cons_zero, List.set_cons_succ]
      apply chain_take rfl rfl
      · intro w' hS
        go_simp
        with_reducible rfl
      simp only [List.getElem_toArray, List.getElem_cons_succ, List.getElem_cons_zero, Act.put, List.setIfInBounds_toArray, List.set_cons_zero, List.set_cons_succ]
      apply chain_take rfl rfl
      · intro w' hS
        go_simp
        with_reducible rfl
      simp only [List.getElem_toArray, List.getElem_cons_succ, List.getElem_cons_zero, Act.put, List.setIfInBounds_toArray, List.set_cons_zero, List.set_cons_succ]
      refine chain_go rfl ?_
      go_wp2_with fail
      refine ⟨bS, ?_⟩
      refine chain_end ?_
      go_wp2
      go_ret
      exact ⟨rfl, bd.trans (bS.mono bd.size)⟩
    | some p =>
      obtain ⟨k, u⟩ := p
      have H := Lib.hid (show Pure.get (ys.drop 0) = some (k, u) by simpa using hg)
      obtain ⟨s1, s2, s3, s4, s5, s6⟩ := Pure.get_sound _ _ _ hg
      have S2 := Lib.hid s2
      clear hg s2
      go_wp2_with fail
      refine (getInt_some (at0 := 0) H.out (by omega) (hv3.keep bd)).mono ?_
      rintro e w' ⟨rfl, rfl⟩
      obtain ⟨v', hsl, hb'⟩ := run_piece_to (hv3.keep bd) (u : Int) (by omega) (by omega)
      simp only [Int.toNat_natCast] at hb'
      go_wp2_with fail
      refine wp_region_chain (Below wd.heap.size wd) [(false, 0), (true, 1), (true, 2), (true, 3), (true, 4), (true, 5), (true, 7), (true, 8), (true, 9), (false, 6), (false, 10), (true, 11), (true, 12), (false, 13)] (by kernel_rfl) (by kernel_rfl) (fun _ _ d _ _ h => by cases d <;> exact h) (Below.refl _ _).drew ?_
      refine chain_go rfl ?_
      go_wp2_with fail
      refine (awake3_core _).mono ?_
      rintro e wf ⟨rfl, bf⟩
      go_wp2_with fail
      refine ⟨below_undrew bf, ?_⟩
      have bS := below_undrew bf
      apply chain_take rfl rfl
      · intro w' hS
        go_simp
        with_reducible rfl
      simp only [List.getElem_toArray, List.getElem_cons_succ, List.getElem_cons_zero, Act.put, List.setIfInBounds_toArray, List.set_cons_zero, List.set_cons_succ]
      apply chain_take rfl rfl
      · intro w' hS
        go_simp
        with_reducible rfl
      simp only [List.getElem_toArray, List.getElem_cons_succ, List.getElem_cons_zero, Act.put, List.setIfInBounds_toArray, List.set_cons_zero, List.set_cons_succ]
      apply chain_take rfl rfl
      · intro w' hS
        go_simp
        with_reducible rfl
      simp only [List.getElem_toArray, List.getElem_cons_succ, List.getElem_cons_zero, Act.put, List.setIfInBounds_toArray, List.set_cons_zero, List.set_cons_succ]
      apply chain_take rfl rfl
      · intro w' hS
        go_simp
        with_reducible rfl
      simp only [List.getElem_toArray, List.getElem_cons_succ, List.getElem_cons_zero, Act.put, List.setIfInBounds_toArray, List.set_cons_zero, List.set_cons_succ]
      apply chain_take rfl rfl
      · intro w' hS
        go_simp
        with_reducible rfl
      simp only [List.getElem_toArray, List.getElem_cons_succ, List.getElem_cons_zero, Act.put, List.setIfInBounds_toArray, List.set_cons_zero, List.set_cons_succ]
      apply chain_take rfl rfl
      · intro w' hS
        go_simp
        with_reducible rfl
      simp only [List.getElem_toArray, List.getElem_cons_succ, List.getElem_cons_zero, Act.put, List.setIfInBounds_toArray, List.set_cons_zero, List.set_cons_succ]
      apply chain_take rfl rfl
      · intro w' hS
        go_simp
        with_reducible rfl
      simp only [List.getElem_toArray, List.getElem_cons_succ, List.getElem_cons_zero, Act.put, List.setIfInBounds_toArray, List.set_cons_zero, List.set_cons_succ]
      apply chain_take rfl rfl
      · intro w' hS
        go_simp
        with_reducible rfl
      simp only [List.getElem_toArray, List.getElem_cons_succ, List.getElem_cons_zero, Act.put, List.setIfInBounds_toArray, List.set_cons_zero, List.set_cons_succ]
      refine chain_go rfl ?_
      go_wp2_with fail
      refine (int_core _ _ [] k s3 s4 (Buf.nil _) (by decide)).mono ?_
      rintro e wg ⟨vg, rfl, hg, hwg⟩
      rw [List.nil_append, ← S2.out] at hg
      have bg : Below wf.heap.size wf wg := hwg.new rfl
      have bS2 : Below wd.heap.size wd wg := bS.trans (bg.mono bS.size)
      go_wp2_with fail
      refine ⟨bS2, ?_⟩
      refine chain_go rfl ?_
      go_wp2_with fail
      refine (same_yes _ _ _ _ hg.bytes (hb'.keep bS2)).mono ?_
      rintro e wh ⟨rfl, n, hwh⟩
      have bS3 : Below wd.heap.size wd wh := by rw [hwh]; exact below_drewN bS2 _
      clear hwh
      go_wp2_with fail
      refine ⟨bS3, ?_⟩
      apply chain_take rfl rfl
      · intro w' hS
        go_simp
        with_reducible rfl
      simp only [List.getElem_toArray, List.getElem_cons_succ, List.getElem_cons_zero, Act.put, List.setIfInBounds_toArray, List.set_cons_zero, List.set_cons_succ]
      apply chain_take rfl rfl
      · intro w' hS
        go_simp
        with_reducible rfl
      simp only [List.getElem_toArray, List.getElem_cons_succ, List.getElem_cons_zero, Act.put, List.setIfInBounds_toArray, List.set_cons_zero, List.set_cons_succ]
      refine chain_go rfl ?_
      go_wp2_with fail
      refine ⟨bS3, ?_⟩
      refine chain_end ?_
      go_wp2
      go_ret
      exact ⟨rfl, bd.trans (bS3.mono bd.size)⟩
  · have hg3 : decide ((5000 : Int) < (a2.size : Int)) = true ∨ decide ((5000 : Int) < (a2.size : Int)) = false ∧ decide ((5000 : Int) < (xs.length : Int)) = true ∨
        decide ((5000 : Int) < (a2.size : Int)) = false ∧ decide ((5000 : Int) < (xs.length : Int)) = false ∧ decide ((5000 : Int) < (ys.length : Int)) = true := by
      simp only [decide_eq_true_eq, decide_eq_false_iff_not]; omega
    clear h2
    rcases hg3 with d2 | ⟨d2, d0⟩ | ⟨d2, d0, d3⟩
    all_goals
      go_enter Try.func4, Try.ntmps4
      go_wp2_with fail
      refine (awake3_core w).mono ?_
      rintro e wa ⟨rfl, ba⟩
      go_wp2
      go_ret
      exact ⟨rfl, ba⟩
end Go.Proofs.Ytjpaljiielemgaa
