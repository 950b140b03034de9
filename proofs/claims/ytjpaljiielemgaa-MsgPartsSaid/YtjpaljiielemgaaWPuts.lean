/- The law WirePuts: numbers, truths, texts and versions are written as the document's answer has it, behind whatever there is. -/
import Derived.Test.YtjpaljiielemgaaArgs
import Derived.Test.YtjpaljiielemgaaRefPuts
import Derived.Test.YtjpaljiielemgaaKeeps
import Derived.Test.YtjpaljiielemgaaOrd
namespace Go.Proofs.Ytjpaljiielemgaa
open Go.RowKit

theorem adr_of_blk {v : Value} {k : Nat} (h : blk v = some k) : adr v = some k := by
  cases v with
  | slice a n c =>
    cases a with
    | none => cases h
    | some a => simp only [blk] at h; split at h <;> first | exact h | cases h
  | _ => cases h

/-- A slice that was made empty and appended to is new. -/
theorem new_empty {B k0 : Nat} {W w2 : World} {o : Obj} {v2 : Value} (hB : B ≤ W.heap.size) (hk0 : W.heap.size = k0) (h : Wrote (W.alloc o) (.slice (some ⟨k0, 0, none⟩) 0 0) w2 v2) : Below B W w2 ∧ ∀ k, adr v2 = some k → B ≤ k := by
  subst hk0
  refine ⟨((Below.refl _ _).alloc hB _).trans ((h.new (by simp [blk])).mono (by simp; omega)), h.adr (by simp; omega) (by intro k hk; simp [adr] at hk; omega)⟩

/-- A new slice is appended to, behind a call that leaves old memory. -/
theorem next_fresh {B : Nat} {W w2 w3 wA : World} {v2 vA : Value} (h2 : Below B W w2) (f2 : ∀ k, adr v2 = some k → B ≤ k) (hB : B ≤ W.heap.size) (b3 : Below w2.heap.size w2 w3) (hA : Wrote w3 v2 wA vA) :
    Below B W wA ∧ ∀ k, adr vA = some k → B ≤ k := by
  have h3 : B ≤ w3.heap.size := Nat.le_trans hB (Nat.le_trans h2.size b3.size)
  exact ⟨(h2.trans (b3.mono (Nat.le_trans hB h2.size))).trans (hA.below h3 (fun k hk => f2 k (adr_of_blk hk))).1, hA.adr h3 f2⟩

/-- The last byte of a row of the call's own, written over. -/
theorem Buf.set_last {w : World} {a : Option Addr} {n c : Nat} {xs : List UInt8} {x : UInt8} (y : UInt8) (m : Int) (hm : m = (y.toNat : Int)) (h : Buf w (.slice a n c) (xs ++ [x])) {B : Nat} (hB : ∀ k, adr (.slice a n c) = some k → B ≤ k) :
    ∃ g, a = some ⟨g, 0, none⟩ ∧ B ≤ g ∧ n = xs.length + 1 ∧ w.cell? ⟨g, xs.length, none⟩ = some (.int .u8 (x.toNat : Int)) ∧ w.frozen? ⟨g, xs.length, none⟩ = false ∧
      Buf (w.setCell ⟨g, xs.length, none⟩ (.int .u8 m)) (.slice a n c) (xs ++ [y]) := by
  subst hm
  obtain ⟨a', c', he, h1, h2, h3⟩ := h
  injection he with e1 e2 e3
  subst e1 e2 e3
  have hl : ∀ z : UInt8, (xs ++ [z]).length = xs.length + 1 := fun z => by simp
  obtain ⟨g, cur, rfl, hg, hc, hx⟩ := h3 (by rw [hl] at h1; omega)
  have hlast : cur[xs.length]? = some (.int .u8 (x.toNat : Int)) := by
    have := hx xs.length (by rw [hl]; omega)
    simpa using this
  rw [hl] at h1
  refine ⟨g, rfl, hB g rfl, hl x, by simp [World.cell?, hg, hlast], by simp [World.frozen?, hg], some ⟨g, 0, none⟩, c, by rw [hl, hl], by rw [hl]; exact h1, h2, fun _ => ⟨g, _, rfl, heap_setCell w g _ _ cur hg, by simpa using hc, fun j hj => ?_⟩⟩
  rw [hl] at hj
  by_cases hjl : j = xs.length
  · subst hjl
    have hlt : xs.length < cur.size := by omega
    simp [hlt]
  · have := hx j (by rw [hl]; omega)
    rw [Array.getElem?_setIfInBounds_ne (by omega), this, List.getElem_append_left (by omega), List.getElem_append_left (by omega)]

set_option maxRecDepth 100000 in
set_option maxHeartbeats 4000000 in
theorem puts_walk (a0 : Option Addr) (len0 cap0 : Nat) (z0 : List Int) (a1 : Int) (a2 : Bool) (a3 : ByteArray) (a4 a5 : Int) (w : World) (w0 : IsRow w a0 len0 cap0 z0) (w1 : (Lit.int .i64 a1).wf = true) (w3 : a3.size ≤ maxLen) (_w4 : (Lit.int .i64 a4).wf = true) (_w5 : (Lit.int .i64 a5).wf = true) :
    Calls Try.prog 6 #[.slice a0 len0 cap0, .int .i64 a1, .bool a2, .string a3, .int .i64 a4, .int .i64 a5] w fun e w' => e = .returned (.bool true) ∧ Below w.heap.size w w' := by
  have k1 := bounds_i64 w1
  obtain ⟨xs, hx, hv0⟩ := w0.bytes
  clear w0 w1 _w4 _w5
  subst hx
  unfold maxLen at w3
  have hm0 : xs.length ≤ 9223372036854775807 := by obtain ⟨_, c, he, h1, h2, _⟩ := hv0; unfold maxLen at h2; omega
  by_cases h2 : a3.size ≤ 5000 ∧ xs.length ≤ 5000 ∧ (0 ≤ a4 ∧ a4 ≤ 1099511627776) ∧ (0 ≤ a5 ∧ a5 ≤ 1099511627776)
  · obtain ⟨h3, h0, h4, h5⟩ := h2
    have d3 : decide ((5000 : Int) < (a3.size : Int)) = false := decide_eq_false (by omega)
    have d0 : decide ((5000 : Int) < (xs.length : Int)) = false := decide_eq_false (by omega)
    have d4 : decide (0 ≤ a4 ∧ a4 ≤ 1099511627776) = true := decide_eq_true h4
    have d5 : decide (0 ≤ a5 ∧ a5 ≤ 1099511627776) = true := decide_eq_true h5
    obtain ⟨en, rfl⟩ := Int.eq_ofNat_of_zero_le h4.1
    obtain ⟨nn, rfl⟩ := Int.eq_ofNat_of_zero_le h5.1
    have he := h4.2
    have hn := h5.2
    have D4 := Lib.hid d4
    have D5 := Lib.hid d5
    clear h4 h5 d4 d5
    have HE1 := Lib.hid (Pure.enc_len a1 k1.1 k1.2)
    have HE4 := Lib.hid (Pure.enc_len (en : Int) (by omega) (by omega))
    have HE5 := Lib.hid (Pure.enc_len (nn : Int) (by omega) (by omega))
    have hls : a3.data.toList.length = a3.size := by simp
    have HTT := Lib.hid (txt_len a3.data.toList (by omega))
    have HLS := Lib.hid hls
    clear hls
    cases a2
    · go_enter Try.func6, Try.ntmps6
      go_wp2_with fail
      refine (fits_core w _).mono ?_
      rintro e w' ⟨he', rfl⟩
      rw [D4.out] at he'
      subst he'
      go_wp2_with fail
      refine (fits_core w _).mono ?_
      rintro e w' ⟨he', rfl⟩
      rw [D5.out] at he'
      subst he'
      go_wp2_with (first
        | (at_builtin; refine wpList_app rfl (.tmp 37) (.tmp 38) 24 rfl (.inl Try.underlying24) (.slice none 0 0) _ [] xs rfl rfl (Buf.nil w) (src_bytes hv0) (by simp; omega) ?_; intro vw ww hbw hww; simp only [List.nil_append] at hbw)
        | (at_builtin; refine wpList_app rfl (.tmp 40) (.tmp 41) 24 rfl (.inl Try.underlying24) (.slice (some ⟨ww.heap.size, 0, none⟩) 0 0) _ [] xs rfl rfl (buf_at ww _ _ rfl [] (by decide) rfl) (src_bytes (hbw.bytes.keep ((Below.refl _ _).alloc (Nat.le_refl _) _))) (by simp; omega) ?_; intro v1 w1 hb1 hw1; simp only [List.nil_append] at hb1)
        | (at_builtin; refine wpList_app1 rfl (.tmp 42) (.tmp 43) rfl _ xs 0 0 rfl rfl rfl hb1 (by omega) ?_; intro vB wB hbit hwb; have n1 := new_empty (Nat.le_refl _) rfl hw1; have fB := hwb.adr n1.1.size n1.2; have bB : Below ww.heap.size ww wB := n1.1.trans (hwb.below n1.1.size (fun k hk => n1.2 k (adr_of_blk hk))).1)
        | (at_builtin; refine wpList_app rfl (.tmp 51) (.tmp 52) 24 rfl (.inl Try.underlying24) (.slice (some ⟨wB.heap.size, 0, none⟩) 0 0) _ [] xs rfl rfl (buf_at wB _ _ rfl [] (by decide) rfl) (src_bytes ((hbw.bytes.keep bB).keep ((Below.refl _ _).alloc (Nat.le_refl _) _))) (by simp; omega) ?_; intro v2 w2 hb2 hw2; simp only [List.nil_append] at hb2))
      have n2 := new_empty (Nat.le_refl _) rfl hw2
      refine (refInt_core w2 a1 k1.1 k1.2).mono ?_
      rintro e w3 ⟨v3, rfl, hb3, hw3⟩
      have b3 : Below w2.heap.size w2 w3 := hw3.new rfl
      go_wp2_with (first
        | (at_builtin; refine wpList_app rfl (.tmp 53) (.tmp 55) 24 rfl (.inl Try.underlying24) v2 _ xs (Pure.enc a1) rfl rfl (hb2.keep b3) (src_bytes hb3.bytes) (by have := HE1.out; omega) ?_; intro vA wA hbA hwA; have nA := next_fresh n2.1 n2.2 (Nat.le_refl _) b3 hwA; have bA := bB.trans (nA.1.mono bB.size))
        | (at_builtin; refine wpList_app rfl (.tmp 57) (.tmp 58) 24 rfl (.inl Try.underlying24) (.slice (some ⟨wA.heap.size, 0, none⟩) 0 0) _ [] xs rfl rfl (buf_at wA _ _ rfl [] (by decide) rfl) (src_bytes ((hbw.bytes.keep bA).keep ((Below.refl _ _).alloc (Nat.le_refl _) _))) (by simp; omega) ?_; intro v4 w4 hb4 hw4; simp only [List.nil_append] at hb4))
      have n4 := new_empty (Nat.le_refl _) rfl hw4
      refine (refText_core w4 a3 (by omega)).mono ?_
      rintro e w5 ⟨v5, rfl, hb5, hw5⟩
      have b5 : Below w4.heap.size w4 w5 := hw5.new rfl
      go_wp2_with (first
        | (at_builtin; refine wpList_app rfl (.tmp 59) (.tmp 61) 24 rfl (.inl Try.underlying24) v4 _ xs (txt a3.data.toList) rfl rfl (hb4.keep b5) (src_bytes hb5.bytes) (by have := HTT.out; have := HLS.out; omega) ?_; intro vT wT hbT hwT; have nT := next_fresh n4.1 n4.2 (Nat.le_refl _) b5 hwT; have bT := bA.trans (nT.1.mono bA.size))
        | (at_builtin; refine wpList_app rfl (.tmp 63) (.tmp 64) 24 rfl (.inl Try.underlying24) (.slice (some ⟨wT.heap.size, 0, none⟩) 0 0) _ [] xs rfl rfl (buf_at wT _ _ rfl [] (by decide) rfl) (src_bytes ((hbw.bytes.keep bT).keep ((Below.refl _ _).alloc (Nat.le_refl _) _))) (by simp; omega) ?_; intro v6 w6 hb6 hw6; simp only [List.nil_append] at hb6))
      have n6 := new_empty (Nat.le_refl _) rfl hw6
      refine (refInt_core w6 en (by omega) (by omega)).mono ?_
      rintro e w7 ⟨v7, rfl, hb7, hw7⟩
      have b7 : Below w6.heap.size w6 w7 := hw7.new rfl
      go_wp2_with (at_builtin; refine wpList_app rfl (.tmp 65) (.tmp 67) 24 rfl (.inl Try.underlying24) v6 _ xs (Pure.enc en) rfl rfl (hb6.keep b7) (src_bytes hb7.bytes) (by have := HE4.out; omega) ?_; intro v8 w8 hb8 hw8; have n8 := next_fresh n6.1 n6.2 (Nat.le_refl _) b7 hw8)
      refine (refInt_core w8 nn (by omega) (by omega)).mono ?_
      rintro e w9 ⟨v9, rfl, hb9, hw9⟩
      have b9 : Below w8.heap.size w8 w9 := hw9.new rfl
      go_wp2_with (at_builtin; refine wpList_app rfl (.tmp 68) (.tmp 70) 24 rfl (.inl Try.underlying24) v8 _ (xs ++ Pure.enc en) (Pure.enc nn) rfl rfl (hb8.keep b9) (src_bytes hb9.bytes) (by rw [List.length_append]; have := HE4.out; have := HE5.out; omega) ?_; intro vV wV hbV hwV; have nV := next_fresh n8.1 n8.2 (Nat.le_refl _) b9 hwV; have bV := bT.trans (nV.1.mono bT.size))
      have hbitV := ((hbit.keep nA.1).keep nT.1).keep nV.1
      have hAV := (hbA.keep nT.1).keep nV.1
      have hTV := hbT.keep nV.1
      have hWV := hbw.keep bV
      obtain ⟨aw, nw, cw, rfl, hnw, hnw1, hnw2, hnw3⟩ := hbw.parts
      have hfull := run_full hWV
      rw [← hnw.out] at hfull
      obtain ⟨vf, hsl, hbf, hkf⟩ := hfull
      go_wp2_with fail
      refine wp_region_chain (fun _ => True) [(false, 0), (true, 1), (true, 2), (true, 3), (true, 4), (true, 5), (true, 6), (true, 7), (true, 8), (true, 10), (false, 9), (false, 11), (true, 12), (true, 13), (true, 14), (true, 15), (true, 16), (true, 17), (true, 18), (true, 19), (true, 20), (true, 22), (false, 21), (false, 23), (true, 24), (true, 25), (true, 26), (true, 27), (true, 28), (true, 29), (true, 30), (true, 31), (true, 32), (true, 34), (false, 33), (false, 35), (true, 36), (true, 37), (true, 38), (true, 39), (true, 40), (true, 41), (true, 42), (true, 43), (true, 44), (true, 45), (true, 48), (false, 46), (false, 47), (false, 49), (true, 50), (false, 51)] (by kernel_rfl) (by kernel_rfl) (fun _ _ d _ _ h => by cases d <;> exact h) trivial ?_
      refine chain_go rfl ?_
      go_wp2_with fail
      refine (awake3_core _).mono ?_
      rintro e x0 ⟨rfl, y0⟩
      have y0 := below_undrew y0
      go_wp2_with fail
      refine ⟨trivial, ?_⟩
      iterate 9
        apply chain_take rfl rfl
        · intro w' hS
          go_simp
          with_reducible rfl
        simp only [List.getElem_toArray, List.getElem_cons_succ, List.getElem_cons_zero, Act.put, List.setIfInBounds_toArray, List.set_cons_zero, List.set_cons_succ]
      refine chain_go rfl ?_
      go_wp2_with fail
      refine (int_core x0 vf xs a1 k1.1 k1.2 (hbf.keep y0) (by omega)).mono ?_
      rintro e x1 ⟨u1, rfl, hu1, hz1⟩
      have y1 := y0.trans ((hz1.new hkf).mono y0.size)
      go_wp2_with fail
      refine ⟨trivial, ?_⟩
      refine chain_go rfl ?_
      go_wp2_with fail
      refine (same_yes _ _ _ _ hu1.bytes (hAV.keep y1).bytes).mono ?_
      rintro e x2 ⟨rfl, m2, hx2⟩
      have y2 : Below wV.heap.size wV x2 := by rw [hx2]; exact below_drewN y1 _
      clear hx2
      go_wp2_with fail
      refine ⟨trivial, ?_⟩
      iterate 10
        apply chain_take rfl rfl
        · intro w' hS
          go_simp
          with_reducible rfl
        simp only [List.getElem_toArray, List.getElem_cons_succ, List.getElem_cons_zero, Act.put, List.setIfInBounds_toArray, List.set_cons_zero, List.set_cons_succ]
      refine chain_go rfl ?_
      go_wp2_with fail
      refine (bool_core x2 vf xs _ (hbf.keep y2) (by omega)).mono ?_
      rintro e x3 ⟨u3, rfl, hu3, hz3⟩
      have y3 := y2.trans ((hz3.new hkf).mono y2.size)
      go_wp2_with fail
      refine ⟨trivial, ?_⟩
      refine chain_go rfl ?_
      go_wp2_with fail
      refine (same_yes _ _ _ _ hu3.bytes (hbitV.keep y3).bytes).mono ?_
      rintro e x4 ⟨rfl, m4, hx4⟩
      have y4 : Below wV.heap.size wV x4 := by rw [hx4]; exact below_drewN y3 _
      clear hx4
      go_wp2_with fail
      refine ⟨trivial, ?_⟩
      iterate 10
        apply chain_take rfl rfl
        · intro w' hS
          go_simp
          with_reducible rfl
        simp only [List.getElem_toArray, List.getElem_cons_succ, List.getElem_cons_zero, Act.put, List.setIfInBounds_toArray, List.set_cons_zero, List.set_cons_succ]
      refine chain_go rfl ?_
      go_wp2_with fail
      refine (text_core x4 vf xs a3 (by omega) (hbf.keep y4) (by omega)).mono ?_
      rintro e x5 ⟨u5, rfl, hu5, hz5⟩
      have y5 := y4.trans ((hz5.new hkf).mono y4.size)
      go_wp2_with fail
      refine ⟨trivial, ?_⟩
      refine chain_go rfl ?_
      go_wp2_with fail
      refine (same_yes _ _ _ _ hu5.bytes (hTV.keep y5).bytes).mono ?_
      rintro e x6 ⟨rfl, m6, hx6⟩
      have y6 : Below wV.heap.size wV x6 := by rw [hx6]; exact below_drewN y5 _
      clear hx6
      go_wp2_with fail
      refine ⟨trivial, ?_⟩
      iterate 11
        apply chain_take rfl rfl
        · intro w' hS
          go_simp
          with_reducible rfl
        simp only [List.getElem_toArray, List.getElem_cons_succ, List.getElem_cons_zero, Act.put, List.setIfInBounds_toArray, List.set_cons_zero, List.set_cons_succ]
      refine chain_go rfl ?_
      go_wp2_with fail
      refine (make_core x6 en nn).mono ?_
      rintro e w' ⟨rfl, rfl⟩
      go_wp2_with fail
      refine ⟨trivial, ?_⟩
      refine chain_go rfl ?_
      go_wp2_with fail
      refine (ver_core x6 vf xs en nn (by omega) (by omega) (hbf.keep y6) (by omega)).mono ?_
      rintro e x7 ⟨u7, rfl, hu7, hz7⟩
      have y7 := y6.trans ((hz7.new hkf).mono y6.size)
      go_wp2_with fail
      refine ⟨trivial, ?_⟩
      refine chain_go rfl ?_
      go_wp2_with fail
      have hbV' : Buf wV vV (xs ++ verB en nn) := by unfold verB; rw [← List.append_assoc]; exact hbV
      refine (same_yes _ _ _ _ hu7.bytes (hbV'.keep y7).bytes).mono ?_
      rintro e x8 ⟨rfl, m8, hx8⟩
      have y8 : Below wV.heap.size wV x8 := by rw [hx8]; exact below_drewN y7 _
      clear hx8
      go_wp2_with fail
      refine ⟨trivial, ?_⟩
      apply chain_take rfl rfl
      · intro w' hS
        go_simp
        with_reducible rfl
      simp only [List.getElem_toArray, List.getElem_cons_succ, List.getElem_cons_zero, Act.put, List.setIfInBounds_toArray, List.set_cons_zero, List.set_cons_succ]
      refine chain_go rfl ?_
      go_wp2_with fail
      refine ⟨trivial, ?_⟩
      refine chain_end ?_
      go_wp2
      go_ret
      exact ⟨rfl, (hww.new rfl).trans ((bV.trans (y8.mono bV.size)).mono (hww.new rfl).size)⟩
    · go_enter Try.func6, Try.ntmps6
      go_wp2_with fail
      refine (fits_core w _).mono ?_
      rintro e w' ⟨he', rfl⟩
      rw [D4.out] at he'
      subst he'
      go_wp2_with fail
      refine (fits_core w _).mono ?_
      rintro e w' ⟨he', rfl⟩
      rw [D5.out] at he'
      subst he'
      go_wp2_with (first
        | (at_builtin; refine wpList_app rfl (.tmp 37) (.tmp 38) 24 rfl (.inl Try.underlying24) (.slice none 0 0) _ [] xs rfl rfl (Buf.nil w) (src_bytes hv0) (by simp; omega) ?_; intro vw ww hbw hww; simp only [List.nil_append] at hbw)
        | (at_builtin; refine wpList_app rfl (.tmp 40) (.tmp 41) 24 rfl (.inl Try.underlying24) (.slice (some ⟨ww.heap.size, 0, none⟩) 0 0) _ [] xs rfl rfl (buf_at ww _ _ rfl [] (by decide) rfl) (src_bytes (hbw.bytes.keep ((Below.refl _ _).alloc (Nat.le_refl _) _))) (by simp; omega) ?_; intro v1 w1 hb1 hw1; simp only [List.nil_append] at hb1)
        | (at_builtin; refine wpList_app1 rfl (.tmp 42) (.tmp 43) rfl _ xs 0 0 rfl rfl rfl hb1 (by omega) ?_; intro vB0 wB0 hbit0 hwb; have n1 := new_empty (Nat.le_refl _) rfl hw1; have fB := hwb.adr n1.1.size n1.2; have bB0 : Below ww.heap.size ww wB0 := n1.1.trans (hwb.below n1.1.size (fun k hk => n1.2 k (adr_of_blk hk))).1; obtain ⟨aB, nB, cB, rfl, hnB, hnB1, hnB2, hnB3⟩ := hbit0.parts; obtain ⟨gB, rfl, hgB, rfl, hcB, hfB, hbit⟩ := hbit0.set_last 1 1 rfl fB; have bB := bB0.setCell (p := ⟨gB, xs.length, none⟩) hgB (.int .u8 1))
        | (at_builtin; refine wpList_app rfl (.tmp 51) (.tmp 52) 24 rfl (.inl Try.underlying24) (.slice (some ⟨wB0.heap.size, 0, none⟩) 0 0) _ [] xs rfl rfl (buf_at _ _ _ (by simp) [] (by decide) rfl) (src_bytes ((hbw.bytes.keep bB).keep ((Below.refl _ _).alloc (Nat.le_refl _) _))) (by simp; omega) ?_; intro v2 w2 hb2 hw2; simp only [List.nil_append] at hb2))
      obtain ⟨wB, hWB⟩ : ∃ x, x = wB0.setCell ⟨gB, xs.length, none⟩ (.int .u8 1) := ⟨_, rfl⟩
      have hsz : wB.heap.size = wB0.heap.size := by rw [hWB]; simp
      rw [← hWB] at hbit bB hw2
      rw [← hsz] at hw2
      have n2 := new_empty (Nat.le_refl _) rfl hw2
      refine (refInt_core w2 a1 k1.1 k1.2).mono ?_
      rintro e w3 ⟨v3, rfl, hb3, hw3⟩
      have b3 : Below w2.heap.size w2 w3 := hw3.new rfl
      go_wp2_with (first
        | (at_builtin; refine wpList_app rfl (.tmp 53) (.tmp 55) 24 rfl (.inl Try.underlying24) v2 _ xs (Pure.enc a1) rfl rfl (hb2.keep b3) (src_bytes hb3.bytes) (by have := HE1.out; omega) ?_; intro vA wA hbA hwA; have nA := next_fresh n2.1 n2.2 (Nat.le_refl _) b3 hwA; have bA := bB.trans (nA.1.mono bB.size))
        | (at_builtin; refine wpList_app rfl (.tmp 57) (.tmp 58) 24 rfl (.inl Try.underlying24) (.slice (some ⟨wA.heap.size, 0, none⟩) 0 0) _ [] xs rfl rfl (buf_at wA _ _ rfl [] (by decide) rfl) (src_bytes ((hbw.bytes.keep bA).keep ((Below.refl _ _).alloc (Nat.le_refl _) _))) (by simp; omega) ?_; intro v4 w4 hb4 hw4; simp only [List.nil_append] at hb4))
      have n4 := new_empty (Nat.le_refl _) rfl hw4
      refine (refText_core w4 a3 (by omega)).mono ?_
      rintro e w5 ⟨v5, rfl, hb5, hw5⟩
      have b5 : Below w4.heap.size w4 w5 := hw5.new rfl
      go_wp2_with (first
        | (at_builtin; refine wpList_app rfl (.tmp 59) (.tmp 61) 24 rfl (.inl Try.underlying24) v4 _ xs (txt a3.data.toList) rfl rfl (hb4.keep b5) (src_bytes hb5.bytes) (by have := HTT.out; have := HLS.out; omega) ?_; intro vT wT hbT hwT; have nT := next_fresh n4.1 n4.2 (Nat.le_refl _) b5 hwT; have bT := bA.trans (nT.1.mono bA.size))
        | (at_builtin; refine wpList_app rfl (.tmp 63) (.tmp 64) 24 rfl (.inl Try.underlying24) (.slice (some ⟨wT.heap.size, 0, none⟩) 0 0) _ [] xs rfl rfl (buf_at wT _ _ rfl [] (by decide) rfl) (src_bytes ((hbw.bytes.keep bT).keep ((Below.refl _ _).alloc (Nat.le_refl _) _))) (by simp; omega) ?_; intro v6 w6 hb6 hw6; simp only [List.nil_append] at hb6))
      have n6 := new_empty (Nat.le_refl _) rfl hw6
      refine (refInt_core w6 en (by omega) (by omega)).mono ?_
      rintro e w7 ⟨v7, rfl, hb7, hw7⟩
      have b7 : Below w6.heap.size w6 w7 := hw7.new rfl
      go_wp2_with (at_builtin; refine wpList_app rfl (.tmp 65) (.tmp 67) 24 rfl (.inl Try.underlying24) v6 _ xs (Pure.enc en) rfl rfl (hb6.keep b7) (src_bytes hb7.bytes) (by have := HE4.out; omega) ?_; intro v8 w8 hb8 hw8; have n8 := next_fresh n6.1 n6.2 (Nat.le_refl _) b7 hw8)
      refine (refInt_core w8 nn (by omega) (by omega)).mono ?_
      rintro e w9 ⟨v9, rfl, hb9, hw9⟩
      have b9 : Below w8.heap.size w8 w9 := hw9.new rfl
      go_wp2_with (at_builtin; refine wpList_app rfl (.tmp 68) (.tmp 70) 24 rfl (.inl Try.underlying24) v8 _ (xs ++ Pure.enc en) (Pure.enc nn) rfl rfl (hb8.keep b9) (src_bytes hb9.bytes) (by rw [List.length_append]; have := HE4.out; have := HE5.out; omega) ?_; intro vV wV hbV hwV; have nV := next_fresh n8.1 n8.2 (Nat.le_refl _) b9 hwV; have bV := bT.trans (nV.1.mono bT.size))
      have hbitV := ((hbit.keep nA.1).keep nT.1).keep nV.1
      have hAV := (hbA.keep nT.1).keep nV.1
      have hTV := hbT.keep nV.1
      have hWV := hbw.keep bV
      obtain ⟨aw, nw, cw, rfl, hnw, hnw1, hnw2, hnw3⟩ := hbw.parts
      have hfull := run_full hWV
      rw [← hnw.out] at hfull
      obtain ⟨vf, hsl, hbf, hkf⟩ := hfull
      go_wp2_with fail
      refine wp_region_chain (fun _ => True) [(false, 0), (true, 1), (true, 2), (true, 3), (true, 4), (true, 5), (true, 6), (true, 7), (true, 8), (true, 10), (false, 9), (false, 11), (true, 12), (true, 13), (true, 14), (true, 15), (true, 16), (true, 17), (true, 18), (true, 19), (true, 20), (true, 22), (false, 21), (false, 23), (true, 24), (true, 25), (true, 26), (true, 27), (true, 28), (true, 29), (true, 30), (true, 31), (true, 32), (true, 34), (false, 33), (false, 35), (true, 36), (true, 37), (true, 38), (true, 39), (true, 40), (true, 41), (true, 42), (true, 43), (true, 44), (true, 45), (true, 48), (false, 46), (false, 47), (false, 49), (true, 50), (false, 51)] (by kernel_rfl) (by kernel_rfl) (fun _ _ d _ _ h => by cases d <;> exact h) trivial ?_
      refine chain_go rfl ?_
      go_wp2_with fail
      refine (awake3_core _).mono ?_
      rintro e x0 ⟨rfl, y0⟩
      have y0 := below_undrew y0
      go_wp2_with fail
      refine ⟨trivial, ?_⟩
      iterate 9
        apply chain_take rfl rfl
        · intro w' hS
          go_simp
          with_reducible rfl
        simp only [List.getElem_toArray, List.getElem_cons_succ, List.getElem_cons_zero, Act.put, List.setIfInBounds_toArray, List.set_cons_zero, List.set_cons_succ]
      refine chain_go rfl ?_
      go_wp2_with fail
      refine (int_core x0 vf xs a1 k1.1 k1.2 (hbf.keep y0) (by omega)).mono ?_
      rintro e x1 ⟨u1, rfl, hu1, hz1⟩
      have y1 := y0.trans ((hz1.new hkf).mono y0.size)
      go_wp2_with fail
      refine ⟨trivial, ?_⟩
      refine chain_go rfl ?_
      go_wp2_with fail
      refine (same_yes _ _ _ _ hu1.bytes (hAV.keep y1).bytes).mono ?_
      rintro e x2 ⟨rfl, m2, hx2⟩
      have y2 : Below wV.heap.size wV x2 := by rw [hx2]; exact below_drewN y1 _
      clear hx2
      go_wp2_with fail
      refine ⟨trivial, ?_⟩
      iterate 10
        apply chain_take rfl rfl
        · intro w' hS
          go_simp
          with_reducible rfl
        simp only [List.getElem_toArray, List.getElem_cons_succ, List.getElem_cons_zero, Act.put, List.setIfInBounds_toArray, List.set_cons_zero, List.set_cons_succ]
      refine chain_go rfl ?_
      go_wp2_with fail
      refine (bool_core x2 vf xs _ (hbf.keep y2) (by omega)).mono ?_
      rintro e x3 ⟨u3, rfl, hu3, hz3⟩
      have y3 := y2.trans ((hz3.new hkf).mono y2.size)
      go_wp2_with fail
      refine ⟨trivial, ?_⟩
      refine chain_go rfl ?_
      go_wp2_with fail
      refine (same_yes _ _ _ _ hu3.bytes (hbitV.keep y3).bytes).mono ?_
      rintro e x4 ⟨rfl, m4, hx4⟩
      have y4 : Below wV.heap.size wV x4 := by rw [hx4]; exact below_drewN y3 _
      clear hx4
      go_wp2_with fail
      refine ⟨trivial, ?_⟩
      iterate 10
        apply chain_take rfl rfl
        · intro w' hS
          go_simp
          with_reducible rfl
        simp only [List.getElem_toArray, List.getElem_cons_succ, List.getElem_cons_zero, Act.put, List.setIfInBounds_toArray, List.set_cons_zero, List.set_cons_succ]
      refine chain_go rfl ?_
      go_wp2_with fail
      refine (text_core x4 vf xs a3 (by omega) (hbf.keep y4) (by omega)).mono ?_
      rintro e x5 ⟨u5, rfl, hu5, hz5⟩
      have y5 := y4.trans ((hz5.new hkf).mono y4.size)
      go_wp2_with fail
      refine ⟨trivial, ?_⟩
      refine chain_go rfl ?_
      go_wp2_with fail
      refine (same_yes _ _ _ _ hu5.bytes (hTV.keep y5).bytes).mono ?_
      rintro e x6 ⟨rfl, m6, hx6⟩
      have y6 : Below wV.heap.size wV x6 := by rw [hx6]; exact below_drewN y5 _
      clear hx6
      go_wp2_with fail
      refine ⟨trivial, ?_⟩
      iterate 11
        apply chain_take rfl rfl
        · intro w' hS
          go_simp
          with_reducible rfl
        simp only [List.getElem_toArray, List.getElem_cons_succ, List.getElem_cons_zero, Act.put, List.setIfInBounds_toArray, List.set_cons_zero, List.set_cons_succ]
      refine chain_go rfl ?_
      go_wp2_with fail
      refine (make_core x6 en nn).mono ?_
      rintro e w' ⟨rfl, rfl⟩
      go_wp2_with fail
      refine ⟨trivial, ?_⟩
      refine chain_go rfl ?_
      go_wp2_with fail
      refine (ver_core x6 vf xs en nn (by omega) (by omega) (hbf.keep y6) (by omega)).mono ?_
      rintro e x7 ⟨u7, rfl, hu7, hz7⟩
      have y7 := y6.trans ((hz7.new hkf).mono y6.size)
      go_wp2_with fail
      refine ⟨trivial, ?_⟩
      refine chain_go rfl ?_
      go_wp2_with fail
      have hbV' : Buf wV vV (xs ++ verB en nn) := by unfold verB; rw [← List.append_assoc]; exact hbV
      refine (same_yes _ _ _ _ hu7.bytes (hbV'.keep y7).bytes).mono ?_
      rintro e x8 ⟨rfl, m8, hx8⟩
      have y8 : Below wV.heap.size wV x8 := by rw [hx8]; exact below_drewN y7 _
      clear hx8
      go_wp2_with fail
      refine ⟨trivial, ?_⟩
      apply chain_take rfl rfl
      · intro w' hS
        go_simp
        with_reducible rfl
      simp only [List.getElem_toArray, List.getElem_cons_succ, List.getElem_cons_zero, Act.put, List.setIfInBounds_toArray, List.set_cons_zero, List.set_cons_succ]
      refine chain_go rfl ?_
      go_wp2_with fail
      refine ⟨trivial, ?_⟩
      refine chain_end ?_
      go_wp2
      go_ret
      exact ⟨rfl, (hww.new rfl).trans ((bV.trans (y8.mono bV.size)).mono (hww.new rfl).size)⟩
  · have hg3 : decide ((5000 : Int) < (a3.size : Int)) = true ∨ decide ((5000 : Int) < (a3.size : Int)) = false ∧ decide ((5000 : Int) < (xs.length : Int)) = true ∨
        decide ((5000 : Int) < (a3.size : Int)) = false ∧ decide ((5000 : Int) < (xs.length : Int)) = false := by
      simp only [decide_eq_true_eq, decide_eq_false_iff_not]; omega
    rcases hg3 with d2 | ⟨d2, d0⟩ | ⟨d2, d0⟩
    · clear h2
      go_enter Try.func6, Try.ntmps6
      go_wp2_with fail
      refine (awake3_core w).mono ?_
      rintro e wa ⟨rfl, ba⟩
      go_wp2
      go_ret
      exact ⟨rfl, ba⟩
    · clear h2
      go_enter Try.func6, Try.ntmps6
      go_wp2_with fail
      refine (awake3_core w).mono ?_
      rintro e wa ⟨rfl, ba⟩
      go_wp2
      go_ret
      exact ⟨rfl, ba⟩
    · by_cases h4 : 0 ≤ a4 ∧ a4 ≤ 1099511627776
      · have h5 : ¬ (0 ≤ a5 ∧ a5 ≤ 1099511627776) := fun h5 => h2 ⟨by simp at d2; omega, by simp at d0; omega, h4, h5⟩
        have D4 := Lib.hid (decide_eq_true h4)
        have D5 := Lib.hid (decide_eq_false h5)
        clear h2 h4 h5
        go_enter Try.func6, Try.ntmps6
        go_wp2_with fail
        refine (fits_core w _).mono ?_
        rintro e w' ⟨he', rfl⟩
        rw [D4.out] at he'
        subst he'
        go_wp2_with fail
        refine (fits_core w _).mono ?_
        rintro e w' ⟨he', rfl⟩
        rw [D5.out] at he'
        subst he'
        go_wp2_with fail
        refine (awake3_core w).mono ?_
        rintro e wa ⟨rfl, ba⟩
        go_wp2
        go_ret
        exact ⟨rfl, ba⟩
      · have D4 := Lib.hid (decide_eq_false h4)
        clear h2 h4
        go_enter Try.func6, Try.ntmps6
        go_wp2_with fail
        refine (fits_core w _).mono ?_
        rintro e w' ⟨he', rfl⟩
        rw [D4.out] at he'
        subst he'
        go_wp2_with fail
        refine (awake3_core w).mono ?_
        rintro e wa ⟨rfl, ba⟩
        go_wp2
        go_ret
        exact ⟨rfl, ba⟩
end Go.Proofs.Ytjpaljiielemgaa
