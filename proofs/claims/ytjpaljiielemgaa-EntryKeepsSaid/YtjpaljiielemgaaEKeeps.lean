/- The walk of EntryKeeps. -/
import Derived.Test.YtjpaljiielemgaaEntGot
import Derived.Test.YtjpaljiielemgaaAwake5
import Derived.Test.YtjpaljiielemgaaKeeps
namespace Go.Proofs.Ytjpaljiielemgaa
open Go.RowKit

/-- Whatever the bytes: one entry is read, whoever asks. -/
theorem ent_is (xs : List UInt8) (at0 : Nat) (hat : at0 ≤ far) (hx : xs.length ≤ far) : ∃ (x y : Nat) (kk : Int) (a b : ByteArray) (s t : Bool) (l m n : Int) (c : ByteArray) (u : Bool) (X : Int) (is : Bool), x ≤ 1099511627776 ∧ y ≤ 1099511627776 ∧
    ∀ w v, Bytes w v xs → Calls Try.prog 31 #[v, .int .i64 at0] w fun e w' => e = .returned (.tuple #[.agg #[.complex .f64 (Flo.flo x) (Flo.flo y), .int .i64 kk, .string a, .string b, .bool s, .bool t, .int .i64 l, .int .i64 m, .int .i64 n, .string c, .bool u], .int .i64 X, .bool is]) ∧ Below w.heap.size w w' := by
  cases hb : (entS xs at0).bad with
  | true =>
    refine ⟨0, 0, 0, ⟨#[]⟩, ⟨#[]⟩, false, false, 0, 0, 0, ⟨#[]⟩, false, 0, false, by decide, by decide, fun w v hv => (getEnt_core w v xs at0 hat hx hv).mono fun e w' ⟨he, hbl⟩ => ⟨?_, hbl⟩⟩
    rcases he with ⟨_, he⟩ | ⟨h, _⟩
    · rw [he, flo_0]; rfl
    · rw [hb] at h; cases h
  | false =>
    obtain ⟨x, y, k, a, b, s, t, l, m, n, c, u, h1, h2, _, _, _, _, _, _, _, hcs, _⟩ := entS_read hb
    refine ⟨x, y, k, a, b, s, t, l, m, n, c, u, (entS xs at0).at0, true, h1, h2, fun w v hv => (getEnt_core w v xs at0 hat hx hv).mono fun e w' ⟨he, hbl⟩ => ⟨?_, hbl⟩⟩
    rcases he with ⟨h, _⟩ | ⟨_, he⟩
    · rw [hb] at h; cases h
    · rw [he, hcs]; rfl

theorem op_is (xs : List UInt8) (at0 : Nat) (hat : at0 ≤ far) (hx : xs.length ≤ far) : ∃ (ok : Int) (oa ob oc : ByteArray) (ot : Bool) (X : Int) (is : Bool),
    ∀ w v, Bytes w v xs → Calls Try.prog 32 #[v, .int .i64 at0] w fun e w' => e = .returned (.tuple #[.agg #[.int .i64 ok, .string oa, .string ob, .string oc, .bool ot], .int .i64 X, .bool is]) ∧ Below w.heap.size w w' := by
  cases hb : (opS xs at0).bad with
  | true =>
    refine ⟨0, ⟨#[]⟩, ⟨#[]⟩, ⟨#[]⟩, false, 0, false, fun w v hv => (getOp_core w v xs at0 hat hx hv).mono fun e w' ⟨he, hbl⟩ => ⟨?_, hbl⟩⟩
    rcases he with ⟨_, he⟩ | ⟨h, _⟩
    · rw [he]; rfl
    · rw [hb] at h; cases h
  | false =>
    obtain ⟨k, a, b, c, t, _, _, _, _, _, hcs, _⟩ := opS_read hb
    refine ⟨k, a, b, c, t, (opS xs at0).at0, true, fun w v hv => (getOp_core w v xs at0 hat hx hv).mono fun e w' ⟨he, hbl⟩ => ⟨?_, hbl⟩⟩
    rcases he with ⟨h, _⟩ | ⟨_, he⟩
    · rw [hb] at h; cases h
    · rw [he, hcs]; rfl

theorem Over.keep {B n : Nat} {a : Option Addr} {w w' : World} (h : Over B a n w) (hb : Below w.heap.size w w') : Over B a n w' := by
  intro h0
  obtain ⟨g, cur, rfl, hB, hg, hn⟩ := h h0
  exact ⟨g, cur, rfl, hB, (hb.block g (Array.getElem?_eq_some_iff.1 hg).1).trans hg, hn⟩

theorem Whole.not_row {w : World} {g g' : Nat} {t : TypeId} {cs cur : Array Value} (h : Whole w g t cs) (hg : w.heap[g']? = some (.cells cur 5 (0, 0))) (ht : t ≠ 5) : g ≠ g' := by
  rintro rfl
  unfold Whole at h
  rw [hg] at h
  injection h with h
  injection h with _ h
  exact ht h.symm

attribute [local go_sem] store_cplx
set_option maxRecDepth 100000 in
set_option maxHeartbeats 8000000 in
theorem ekeeps_walk (a0 : Option Addr) (len0 cap0 : Nat) (z0 : List Int) (a1 : Int) (w : World) (w0 : IsRow w a0 len0 cap0 z0) (w1 : (Lit.int .i64 a1).wf = true) :
    Calls Try.prog 9 #[.slice a0 len0 cap0, .int .i64 a1] w fun e w' => e = .returned (.bool true) ∧ Below w.heap.size w w' := by
  have k1 := bounds_i64 w1
  obtain ⟨xs, hx, hv0⟩ := w0.bytes
  clear w0 w1
  subst hx
  have hm0 : xs.length ≤ 9223372036854775807 := by obtain ⟨_, c, he, h1, h2, _⟩ := hv0; unfold maxLen at h2; omega
  by_cases h2 : xs.length ≤ 3000 ∧ 0 ≤ a1 ∧ a1 ≤ 4000
  · obtain ⟨h0, h1, h3⟩ := h2
    obtain ⟨at0, rfl⟩ := Int.eq_ofNat_of_zero_le h1
    have d0 : decide ((3000 : Int) < (xs.length : Int)) = false := decide_eq_false (by omega)
    have d1 : decide ((at0 : Int) < 0) = false := decide_eq_false (by omega)
    have d2 : decide ((4000 : Int) < (at0 : Int)) = false := decide_eq_false (by omega)
    obtain ⟨x, y, kk, a, b, s, t, l, m, n, c, u, X, is, gx, gy, hE⟩ := ent_is xs at0 (by unfold far; omega) (by unfold far; omega)
    obtain ⟨ok, oa, ob, oc, ot, Y, was, hO⟩ := op_is xs at0 (by unfold far; omega) (by unfold far; omega)
    have hq := equal_ver x y gx gy
    replace hE := Lib.hid hE; replace hO := Lib.hid hO; replace hv0 := Lib.hid hv0
    clear k1 h1
    go_enter Try.func9, Try.ntmps9
    go_wp2_with fail
    refine (awake5_core w).mono ?_
    rintro e wa ⟨rfl, ba⟩
    replace ba := Lib.hid ba
    go_wp2_with (at_builtin; refine wpList_app rfl (.tmp 35) (.tmp 36) 24 rfl (.inl Try.underlying24) (.slice (some ⟨wa.heap.size, 0, none⟩) 0 0) _ [] xs rfl rfl (buf_at wa _ _ rfl [] (by decide) rfl) (src_bytes (hv0.out.keep (ba.out.alloc ba.out.size _))) (by simp; omega) ?_; intro vc wc hbc hwc)
    rw [List.nil_append] at hbc
    have bc : Below wa.heap.size wa wc := ((Below.refl _ _).alloc (Nat.le_refl _) _).trans ((hwc.new (by simp [blk])).mono (by simp))
    have fc := hwc.adr (B := wa.heap.size) (by simp) (by intro k hk; simp [adr] at hk; omega)
    obtain ⟨ac, nc, cc, rfl, hnc, hnc1, hnc2, hnc3⟩ := hbc.parts
    have hov := hbc.over fc
    have Bc := ba.out.trans (bc.mono ba.out.size)
    replace hov := Lib.hid hov; replace hbc := Lib.hid hbc; replace Bc := Lib.hid Bc
    clear bc fc hwc
    refine (hE.out wc _ hbc.out.bytes).mono ?_
    rintro e w2 ⟨rfl, b2⟩
    have z2 := Whole.new w2 48 #[.complex .f64 (Flo.flo x) (Flo.flo y), .int .i64 kk, .string a, .string b, .bool s, .bool t, .int .i64 l, .int .i64 m, .int .i64 n, .string c, .bool u]
    have B2 := Bc.out.trans (b2.mono Bc.out.size)
    have y2 := hbc.out.bytes.keep b2
    have o2 := hov.out.keep b2
    have B2n : Below w.heap.size w (w2.alloc (.cells #[.complex .f64 (Flo.flo x) (Flo.flo y), .int .i64 kk, .string a, .string b, .bool s, .bool t, .int .i64 l, .int .i64 m, .int .i64 n, .string c, .bool u] 48)) := B2.alloc B2.size _
    have y2n := y2.keep ((Below.refl _ _).alloc (Nat.le_refl _) (.cells #[.complex .f64 (Flo.flo x) (Flo.flo y), .int .i64 kk, .string a, .string b, .bool s, .bool t, .int .i64 l, .int .i64 m, .int .i64 n, .string c, .bool u] 48))
    have o2n := o2.keep ((Below.refl _ _).alloc (Nat.le_refl _) (.cells #[.complex .f64 (Flo.flo x) (Flo.flo y), .int .i64 kk, .string a, .string b, .bool s, .bool t, .int .i64 l, .int .i64 m, .int .i64 n, .string c, .bool u] 48))
    replace z2 := Lib.hid z2; replace B2n := Lib.hid B2n; replace y2n := Lib.hid y2n; replace o2n := Lib.hid o2n
    clear b2 B2 y2 o2
    go_wp2_with fail
    refine (hO.out _ _ y2n.out).mono ?_
    rintro e w3 ⟨rfl, b3⟩
    have z3 := (z2.out.below b3 z2.out.lt).alloc (.cells #[.int .i64 ok, .string oa, .string ob, .string oc, .bool ot] 52)
    have y3 := Whole.new w3 52 #[.int .i64 ok, .string oa, .string ob, .string oc, .bool ot]
    have B3 := B2n.out.trans (b3.mono B2n.out.size)
    have B3n : Below w.heap.size w (w3.alloc (.cells #[.int .i64 ok, .string oa, .string ob, .string oc, .bool ot] 52)) := B3.alloc B3.size _
    have c3 := (y2n.out.keep b3).keep ((Below.refl _ _).alloc (Nat.le_refl _) (.cells #[.int .i64 ok, .string oa, .string ob, .string oc, .bool ot] 52))
    have o3 := (o2n.out.keep b3).keep ((Below.refl _ _).alloc (Nat.le_refl _) (.cells #[.int .i64 ok, .string oa, .string ob, .string oc, .bool ot] 52))
    replace z3 := Lib.hid z3; replace y3 := Lib.hid y3; replace B3n := Lib.hid B3n; replace c3 := Lib.hid c3; replace o3 := Lib.hid o3
    clear b3 B3
    go_wp2_with fail
    refine (same_yes _ _ _ xs (hv0.out.keep B3n.out) c3.out).mono ?_
    rintro e w4 ⟨rfl, n4, hw4⟩
    have B4 : Below w.heap.size w w4 := by rw [hw4]; exact below_drewN B3n.out _
    have z4 : Whole w4 w2.heap.size 48 #[.complex .f64 (Flo.flo x) (Flo.flo y), .int .i64 kk, .string a, .string b, .bool s, .bool t, .int .i64 l, .int .i64 m, .int .i64 n, .string c, .bool u] := by rw [hw4]; exact z3.out
    have y4 : Whole w4 w3.heap.size 52 #[.int .i64 ok, .string oa, .string ob, .string oc, .bool ot] := by rw [hw4]; exact y3.out
    have o4 : Over wa.heap.size ac nc w4 := by rw [hw4]; exact o3.out
    clear hw4
    replace z4 := Lib.hid z4; replace y4 := Lib.hid y4; replace B4 := Lib.hid B4; replace o4 := Lib.hid o4
    go_wp2
    go_loopw [12] (fun i wr => ∃ k : Nat, k ≤ nc ∧ i = .int .i64 k ∧ Below w.heap.size w wr ∧ Over wa.heap.size ac nc wr ∧ Whole wr w2.heap.size 48 #[.complex .f64 (Flo.flo x) (Flo.flo y), .int .i64 kk, .string a, .string b, .bool s, .bool t, .int .i64 l, .int .i64 m, .int .i64 n, .string c, .bool u] ∧ Whole wr w3.heap.size 52 #[.int .i64 ok, .string oa, .string ob, .string oc, .bool ot]) (fun i _ => nc - (intOf i).toNat)
    case atStart => exact ⟨0, Nat.zero_le _, rfl, B4.out, o4.out, z4.out, y4.out⟩
    case round =>
      obtain ⟨k, hk, rfl, hbr, hor, hzr, hyr⟩ := hrel
      by_cases hlt : k < nc
      · obtain ⟨g, cur, rfl, hB, hg, hn⟩ := hor (by omega)
        obtain ⟨xx, c1⟩ := over_cell (k := k) hg (by omega)
        have f1 := over_free (k := k) hg
        have hst := over_step (k := k) (n := nc) hB hg hn (.int .u8 7)
        have bst : Below w.heap.size w (wr.setCell ⟨g, k, none⟩ (.int .u8 7)) := hbr.setCell (p := ⟨g, k, none⟩) (Nat.le_trans ba.out.size hB) _
        have zst := hzr.far (a := ⟨g, k, none⟩) (hzr.not_row hg (by decide)) (.int .u8 7)
        have yst := hyr.far (a := ⟨g, k, none⟩) (hyr.not_row hg (by decide)) (.int .u8 7)
        have HG := Lib.hid hg
        replace hst := Lib.hid hst; replace bst := Lib.hid bst; replace zst := Lib.hid zst; replace yst := Lib.hid yst
        clear hg hor hzr hyr
        go_wp2
        go_roundw
        case rel => exact ⟨k + 1, by omega, by go_num, bst.out, hst.out, zst.out, yst.out⟩
        case measure => simp [intOf]; omega
      · replace hbr := Lib.hid hbr; replace hzr := Lib.hid hzr; replace hyr := Lib.hid hyr
        clear hor
        go_wp2_with fail
        refine (hE.out wr _ (hv0.out.keep hbr.out)).mono ?_
        rintro e w5 ⟨rfl, b5⟩
        have z5 := (hzr.out.below b5 hzr.out.lt).alloc (.cells #[.complex .f64 (Flo.flo x) (Flo.flo y), .int .i64 kk, .string a, .string b, .bool s, .bool t, .int .i64 l, .int .i64 m, .int .i64 n, .string c, .bool u] 48)
        have y5 := (hyr.out.below b5 hyr.out.lt).alloc (.cells #[.complex .f64 (Flo.flo x) (Flo.flo y), .int .i64 kk, .string a, .string b, .bool s, .bool t, .int .i64 l, .int .i64 m, .int .i64 n, .string c, .bool u] 48)
        have e5 := Whole.new w5 48 #[.complex .f64 (Flo.flo x) (Flo.flo y), .int .i64 kk, .string a, .string b, .bool s, .bool t, .int .i64 l, .int .i64 m, .int .i64 n, .string c, .bool u]
        have B5 := hbr.out.trans (b5.mono hbr.out.size)
        have B5n : Below w.heap.size w (w5.alloc (.cells #[.complex .f64 (Flo.flo x) (Flo.flo y), .int .i64 kk, .string a, .string b, .bool s, .bool t, .int .i64 l, .int .i64 m, .int .i64 n, .string c, .bool u] 48)) := B5.alloc B5.size _
        replace z5 := Lib.hid z5; replace y5 := Lib.hid y5; replace e5 := Lib.hid e5; replace B5n := Lib.hid B5n
        clear b5 B5
        go_wp2_with fail
        refine (hO.out _ _ (hv0.out.keep B5n.out)).mono ?_
        rintro e w6 ⟨rfl, b6⟩
        have z6 := (z5.out.below b6 z5.out.lt).alloc (.cells #[.int .i64 ok, .string oa, .string ob, .string oc, .bool ot] 52)
        have y6 := (y5.out.below b6 y5.out.lt).alloc (.cells #[.int .i64 ok, .string oa, .string ob, .string oc, .bool ot] 52)
        have e6 := (e5.out.below b6 e5.out.lt).alloc (.cells #[.int .i64 ok, .string oa, .string ob, .string oc, .bool ot] 52)
        have q6 := Whole.new w6 52 #[.int .i64 ok, .string oa, .string ob, .string oc, .bool ot]
        have B6 := B5n.out.trans (b6.mono B5n.out.size)
        have B6n : Below w.heap.size w (w6.alloc (.cells #[.int .i64 ok, .string oa, .string ob, .string oc, .bool ot] 52)) := B6.alloc B6.size _
        have p0 := z6.cell 0
        have p1 := z6.cell 1
        have p2 := z6.cell 2
        have p3 := z6.cell 3
        have p4 := z6.cell 4
        have p5 := z6.cell 5
        have p6 := z6.cell 6
        have p7 := z6.cell 7
        have p8 := z6.cell 8
        have p9 := z6.cell 9
        have p10 := z6.cell 10
        have r0 := e6.cell 0
        have r1 := e6.cell 1
        have r2 := e6.cell 2
        have r3 := e6.cell 3
        have r4 := e6.cell 4
        have r5 := e6.cell 5
        have r6 := e6.cell 6
        have r7 := e6.cell 7
        have r8 := e6.cell 8
        have r9 := e6.cell 9
        have r10 := e6.cell 10
        have i0 := y6.cell 0
        have i1 := y6.cell 1
        have i2 := y6.cell 2
        have i3 := y6.cell 3
        have i4 := y6.cell 4
        have j0 := q6.cell 0
        have j1 := q6.cell 1
        have j2 := q6.cell 2
        have j3 := q6.cell 3
        have j4 := q6.cell 4
        simp only [List.getElem?_toArray, List.getElem?_cons_succ, List.getElem?_cons_zero] at p0 p1 p2 p3 p4 p5 p6 p7 p8 p9 p10 r0 r1 r2 r3 r4 r5 r6 r7 r8 r9 r10 i0 i1 i2 i3 i4 j0 j1 j2 j3 j4
        replace z6 := Lib.hid z6; replace y6 := Lib.hid y6; replace e6 := Lib.hid e6; replace q6 := Lib.hid q6; replace B6n := Lib.hid B6n
        clear b6 B6
        go_wp2
        go_ret
        exact ⟨rfl, B6n.out⟩
  · have hg3 : decide ((3000 : Int) < (xs.length : Int)) = true ∨ decide ((3000 : Int) < (xs.length : Int)) = false ∧ decide (a1 < 0) = true ∨
        decide ((3000 : Int) < (xs.length : Int)) = false ∧ decide (a1 < 0) = false ∧ decide (4000 < a1) = true := by
      simp only [decide_eq_true_eq, decide_eq_false_iff_not]; omega
    clear h2
    rcases hg3 with d2 | ⟨d2, d0⟩ | ⟨d2, d0, d3⟩
    all_goals
      go_enter Try.func9, Try.ntmps9
      go_wp2_with fail
      refine (awake5_core w).mono ?_
      rintro e wa ⟨rfl, ba⟩
      replace ba := Lib.hid ba
      go_wp2_with fail
      refine (awake5_core wa).mono ?_
      rintro e wb ⟨rfl, bb⟩
      go_wp2
      go_ret
      exact ⟨rfl, ba.out.trans (bb.mono ba.out.size)⟩
end Go.Proofs.Ytjpaljiielemgaa
