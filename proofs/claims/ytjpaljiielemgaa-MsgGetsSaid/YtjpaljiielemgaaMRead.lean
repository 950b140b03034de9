/- msg.read of one cell. -/
import Derived.Test.YtjpaljiielemgaaMStep
import Derived.Test.YtjpaljiielemgaaOrd
namespace Go.Proofs.Ytjpaljiielemgaa
open Go.RowKit
attribute [local go_sem] store_cplx

set_option maxRecDepth 100000 in
set_option maxHeartbeats 1000000 in
theorem readInt {w : World} {gr ge : Nat} {t : TypeId} {v : Value} {xs : List UInt8} {s : Sp} {cs : Array Value} (j : Nat) (hst : MSt w w gr ge t v s cs) (hv : Bytes w v xs) (hne : gr ≠ ge) (hx : xs.length ≤ far) (hj : j < cs.size) :
    Calls Try.prog 86 #[.pointer (some ⟨gr, 0, none⟩), .pointer (some ⟨ge, j, none⟩), .func (.func 16) #[] #[]] w fun e w' => e = .returned (.tuple #[]) ∧ ∃ cs', Read1 intV lInt xs w w' gr ge t v s j cs cs' := by
  have c0 := hst.rd.cell 0
  have c1 := hst.rd.cell 1
  have c2 := hst.rd.cell 2
  simp only [List.getElem?_toArray, List.getElem?_cons_succ, List.getElem?_cons_zero] at c0 c1 c2
  have HT := Lib.hid hst
  have HW := Lib.hid hv
  clear hst hv
  cases hbad : s.bad with
  | true =>
    rw [hbad] at c2
    have HB := Lib.hid hbad
    clear hbad
    go_enter Try.func86, Try.ntmps86
    go_wp2
    refine bodyPost_ret (results_none rfl _ _ _) rfl ?_
    refine ⟨rfl, cs, ?_, rfl, .inl ⟨by rw [adv_bad HB.out]; exact HB.out, rfl⟩⟩
    rw [adv_bad HB.out]
    exact HT.out
  | false =>
    rw [hbad] at c2
    have HB := Lib.hid hbad
    clear hbad
    go_enter Try.func86, Try.ntmps86
    go_wp2_with fail
    refine wp_region_chain (fun w' => w'.cell? ⟨gr, 0, none⟩ = some v ∧ w'.cell? ⟨gr, 1, none⟩ = some (.int .i64 s.at0)) [(true, 0), (true, 1), (true, 2), (true, 3), (true, 4), (true, 5), (true, 6), (true, 7), (true, 8), (false, 9), (true, 10), (true, 11), (true, 12), (true, 13), (true, 14), (true, 15), (true, 16)] (by kernel_rfl) (by kernel_rfl) (fun _ _ d _ _ h => by cases d <;> exact h) ⟨c0, c1⟩ ?_
    iterate 9
      apply chain_take rfl rfl
      · rintro w' ⟨c0, c1⟩
        go_simp
        with_reducible rfl
      simp only [List.getElem_toArray, List.getElem_cons_succ, List.getElem_cons_zero, Act.put, List.setIfInBounds_toArray, List.set_cons_zero, List.set_cons_succ]
    refine chain_go rfl ?_
    go_wp2_with fail
    refine (get_int w.drew v xs s.at0 HT.out.near hx (HW.out.keep ((Below.refl _ _).drew))).mono ?_
    rintro e w2 ⟨hb2, ⟨u, V, E, hp, hu, hwe, ⟨m, q1, rfl, q2⟩, rfl⟩ | ⟨hp, V, n, ⟨x, rfl⟩, rfl⟩⟩
    · have h2 := HT.out.drew.below hb2
      have e0 := h2.rd.cell 0
      have e1 := h2.rd.cell 1
      simp only [List.getElem?_toArray, List.getElem?_cons_succ, List.getElem?_cons_zero] at e0 e1
      have g1 := h2.en.cell j
      have g2 := h2.en.free j
      rw [Array.getElem?_eq_getElem hj] at g1
      have h3 := h2.rd.far (a := ⟨ge, j, none⟩) hne (.int .i64 m)
      have k1 := h3.cell 1
      have k2 := h3.free 1
      simp only [List.getElem?_toArray, List.getElem?_cons_succ, List.getElem?_cons_zero] at k1
      have h4 := h2.yes (j := j) (X := .int .i64 m) hne HB.out hp hu
      have H4 := Lib.hid h4
      have HP := Lib.hid hp
      have HE := Lib.hid hwe
      have HU := Lib.hid hb2
      clear h2 h3 h4 hp hwe hu hb2
      go_wp2_with fail
      refine ⟨⟨e0, e1⟩, ?_⟩
      have c0 := e0
      have c1 := e1
      iterate 7
        apply chain_take rfl rfl
        · rintro w' ⟨c0, c1⟩
          go_simp
          with_reducible rfl
        simp only [List.getElem_toArray, List.getElem_cons_succ, List.getElem_cons_zero, Act.put, List.setIfInBounds_toArray, List.set_cons_zero, List.set_cons_succ]
      apply chain_end
      go_wp2
      go_end0
      refine ⟨rfl, _, H4.out, by simp, .inr ⟨by rw [adv_yes HB.out HP.out], .int .i64 m, E, ?_, rfl, by rw [adv_yes HB.out HP.out]; exact HE.out⟩⟩
      exact ⟨m, q1, rfl, q2⟩
    · have h2 := HT.out.drew.below hb2
      have e0 := h2.rd.cell 0
      have e1 := h2.rd.cell 1
      have e2 := h2.rd.cell 2
      have f2 := h2.rd.free 2
      simp only [List.getElem?_toArray, List.getElem?_cons_succ, List.getElem?_cons_zero] at e0 e1 e2
      have h4 := h2.no (p := lInt) hne HB.out hp
      have H4 := Lib.hid h4
      have HP := Lib.hid hp
      clear h2 h4 hp hb2
      go_wp2_with fail
      refine ⟨⟨e0, e1⟩, ?_⟩
      iterate 7
        apply chain_take rfl rfl
        · rintro w' ⟨c0, c1⟩
          go_simp
          with_reducible rfl
        simp only [List.getElem_toArray, List.getElem_cons_succ, List.getElem_cons_zero, Act.put, List.setIfInBounds_toArray, List.set_cons_zero, List.set_cons_succ]
      apply chain_end
      go_wp2
      refine bodyPost_ret (results_none rfl _ _ _) rfl ?_
      exact ⟨rfl, cs, H4.out, rfl, .inl ⟨by rw [adv_no HB.out HP.out], rfl⟩⟩

set_option maxRecDepth 100000 in
set_option maxHeartbeats 1000000 in
theorem readBit {w : World} {gr ge : Nat} {t : TypeId} {v : Value} {xs : List UInt8} {s : Sp} {cs : Array Value} (j : Nat) (hst : MSt w w gr ge t v s cs) (hv : Bytes w v xs) (hne : gr ≠ ge) (hx : xs.length ≤ far) (hj : j < cs.size) :
    Calls Try.prog 58 #[.pointer (some ⟨gr, 0, none⟩), .pointer (some ⟨ge, j, none⟩), .func (.func 29) #[] #[]] w fun e w' => e = .returned (.tuple #[]) ∧ ∃ cs', Read1 bitV lBit xs w w' gr ge t v s j cs cs' := by
  have c0 := hst.rd.cell 0
  have c1 := hst.rd.cell 1
  have c2 := hst.rd.cell 2
  simp only [List.getElem?_toArray, List.getElem?_cons_succ, List.getElem?_cons_zero] at c0 c1 c2
  have HT := Lib.hid hst
  have HW := Lib.hid hv
  clear hst hv
  cases hbad : s.bad with
  | true =>
    rw [hbad] at c2
    have HB := Lib.hid hbad
    clear hbad
    go_enter Try.func58, Try.ntmps58
    go_wp2
    refine bodyPost_ret (results_none rfl _ _ _) rfl ?_
    refine ⟨rfl, cs, ?_, rfl, .inl ⟨by rw [adv_bad HB.out]; exact HB.out, rfl⟩⟩
    rw [adv_bad HB.out]
    exact HT.out
  | false =>
    rw [hbad] at c2
    have HB := Lib.hid hbad
    clear hbad
    go_enter Try.func58, Try.ntmps58
    go_wp2_with fail
    refine wp_region_chain (fun w' => w'.cell? ⟨gr, 0, none⟩ = some v ∧ w'.cell? ⟨gr, 1, none⟩ = some (.int .i64 s.at0)) [(true, 0), (true, 1), (true, 2), (true, 3), (true, 4), (true, 5), (true, 6), (true, 7), (true, 8), (false, 9), (true, 10), (true, 11), (true, 12), (true, 13), (true, 14), (true, 15), (true, 16)] (by kernel_rfl) (by kernel_rfl) (fun _ _ d _ _ h => by cases d <;> exact h) ⟨c0, c1⟩ ?_
    iterate 9
      apply chain_take rfl rfl
      · rintro w' ⟨c0, c1⟩
        go_simp
        with_reducible rfl
      simp only [List.getElem_toArray, List.getElem_cons_succ, List.getElem_cons_zero, Act.put, List.setIfInBounds_toArray, List.set_cons_zero, List.set_cons_succ]
    refine chain_go rfl ?_
    go_wp2_with fail
    refine (get_bit w.drew v xs s.at0 HT.out.near hx (HW.out.keep ((Below.refl _ _).drew))).mono ?_
    rintro e w2 ⟨hb2, ⟨u, V, E, hp, hu, hwe, ⟨m, rfl, q2⟩, rfl⟩ | ⟨hp, V, n, ⟨x, rfl⟩, rfl⟩⟩
    · have h2 := HT.out.drew.below hb2
      have e0 := h2.rd.cell 0
      have e1 := h2.rd.cell 1
      simp only [List.getElem?_toArray, List.getElem?_cons_succ, List.getElem?_cons_zero] at e0 e1
      have g1 := h2.en.cell j
      have g2 := h2.en.free j
      rw [Array.getElem?_eq_getElem hj] at g1
      have h3 := h2.rd.far (a := ⟨ge, j, none⟩) hne (.bool m)
      have k1 := h3.cell 1
      have k2 := h3.free 1
      simp only [List.getElem?_toArray, List.getElem?_cons_succ, List.getElem?_cons_zero] at k1
      have h4 := h2.yes (j := j) (X := .bool m) hne HB.out hp hu
      have H4 := Lib.hid h4
      have HP := Lib.hid hp
      have HE := Lib.hid hwe
      have HU := Lib.hid hb2
      clear h2 h3 h4 hp hwe hu hb2
      go_wp2_with fail
      refine ⟨⟨e0, e1⟩, ?_⟩
      have c0 := e0
      have c1 := e1
      iterate 7
        apply chain_take rfl rfl
        · rintro w' ⟨c0, c1⟩
          go_simp
          with_reducible rfl
        simp only [List.getElem_toArray, List.getElem_cons_succ, List.getElem_cons_zero, Act.put, List.setIfInBounds_toArray, List.set_cons_zero, List.set_cons_succ]
      apply chain_end
      go_wp2
      go_end0
      refine ⟨rfl, _, H4.out, by simp, .inr ⟨by rw [adv_yes HB.out HP.out], .bool m, E, ?_, rfl, by rw [adv_yes HB.out HP.out]; exact HE.out⟩⟩
      exact ⟨m, rfl, q2⟩
    · have h2 := HT.out.drew.below hb2
      have e0 := h2.rd.cell 0
      have e1 := h2.rd.cell 1
      have e2 := h2.rd.cell 2
      have f2 := h2.rd.free 2
      simp only [List.getElem?_toArray, List.getElem?_cons_succ, List.getElem?_cons_zero] at e0 e1 e2
      have h4 := h2.no (p := lBit) hne HB.out hp
      have H4 := Lib.hid h4
      have HP := Lib.hid hp
      clear h2 h4 hp hb2
      go_wp2_with fail
      refine ⟨⟨e0, e1⟩, ?_⟩
      iterate 7
        apply chain_take rfl rfl
        · rintro w' ⟨c0, c1⟩
          go_simp
          with_reducible rfl
        simp only [List.getElem_toArray, List.getElem_cons_succ, List.getElem_cons_zero, Act.put, List.setIfInBounds_toArray, List.set_cons_zero, List.set_cons_succ]
      apply chain_end
      go_wp2
      refine bodyPost_ret (results_none rfl _ _ _) rfl ?_
      exact ⟨rfl, cs, H4.out, rfl, .inl ⟨by rw [adv_no HB.out HP.out], rfl⟩⟩

set_option maxRecDepth 100000 in
set_option maxHeartbeats 1000000 in
theorem readTxt {w : World} {gr ge : Nat} {t : TypeId} {v : Value} {xs : List UInt8} {s : Sp} {cs : Array Value} (j : Nat) (hst : MSt w w gr ge t v s cs) (hv : Bytes w v xs) (hne : gr ≠ ge) (hx : xs.length ≤ far) (hj : j < cs.size) :
    Calls Try.prog 59 #[.pointer (some ⟨gr, 0, none⟩), .pointer (some ⟨ge, j, none⟩), .func (.func 17) #[] #[]] w fun e w' => e = .returned (.tuple #[]) ∧ ∃ cs', Read1 txtV lTxt xs w w' gr ge t v s j cs cs' := by
  have c0 := hst.rd.cell 0
  have c1 := hst.rd.cell 1
  have c2 := hst.rd.cell 2
  simp only [List.getElem?_toArray, List.getElem?_cons_succ, List.getElem?_cons_zero] at c0 c1 c2
  have HT := Lib.hid hst
  have HW := Lib.hid hv
  clear hst hv
  cases hbad : s.bad with
  | true =>
    rw [hbad] at c2
    have HB := Lib.hid hbad
    clear hbad
    go_enter Try.func59, Try.ntmps59
    go_wp2
    refine bodyPost_ret (results_none rfl _ _ _) rfl ?_
    refine ⟨rfl, cs, ?_, rfl, .inl ⟨by rw [adv_bad HB.out]; exact HB.out, rfl⟩⟩
    rw [adv_bad HB.out]
    exact HT.out
  | false =>
    rw [hbad] at c2
    have HB := Lib.hid hbad
    clear hbad
    go_enter Try.func59, Try.ntmps59
    go_wp2_with fail
    refine wp_region_chain (fun w' => w'.cell? ⟨gr, 0, none⟩ = some v ∧ w'.cell? ⟨gr, 1, none⟩ = some (.int .i64 s.at0)) [(true, 0), (true, 1), (true, 2), (true, 3), (true, 4), (true, 5), (true, 6), (true, 7), (true, 8), (false, 9), (true, 10), (true, 11), (true, 12), (true, 13), (true, 14), (true, 15), (true, 16)] (by kernel_rfl) (by kernel_rfl) (fun _ _ d _ _ h => by cases d <;> exact h) ⟨c0, c1⟩ ?_
    iterate 9
      apply chain_take rfl rfl
      · rintro w' ⟨c0, c1⟩
        go_simp
        with_reducible rfl
      simp only [List.getElem_toArray, List.getElem_cons_succ, List.getElem_cons_zero, Act.put, List.setIfInBounds_toArray, List.set_cons_zero, List.set_cons_succ]
    refine chain_go rfl ?_
    go_wp2_with fail
    refine (get_txt w.drew v xs s.at0 HT.out.near hx (HW.out.keep ((Below.refl _ _).drew))).mono ?_
    rintro e w2 ⟨hb2, ⟨u, V, E, hp, hu, hwe, ⟨m, q1, rfl, q2⟩, rfl⟩ | ⟨hp, V, n, ⟨x, rfl⟩, rfl⟩⟩
    · have h2 := HT.out.drew.below hb2
      have e0 := h2.rd.cell 0
      have e1 := h2.rd.cell 1
      simp only [List.getElem?_toArray, List.getElem?_cons_succ, List.getElem?_cons_zero] at e0 e1
      have g1 := h2.en.cell j
      have g2 := h2.en.free j
      rw [Array.getElem?_eq_getElem hj] at g1
      have h3 := h2.rd.far (a := ⟨ge, j, none⟩) hne (.string m)
      have k1 := h3.cell 1
      have k2 := h3.free 1
      simp only [List.getElem?_toArray, List.getElem?_cons_succ, List.getElem?_cons_zero] at k1
      have h4 := h2.yes (j := j) (X := .string m) hne HB.out hp hu
      have H4 := Lib.hid h4
      have HP := Lib.hid hp
      have HE := Lib.hid hwe
      have HU := Lib.hid hb2
      clear h2 h3 h4 hp hwe hu hb2
      go_wp2_with fail
      refine ⟨⟨e0, e1⟩, ?_⟩
      have c0 := e0
      have c1 := e1
      iterate 7
        apply chain_take rfl rfl
        · rintro w' ⟨c0, c1⟩
          go_simp
          with_reducible rfl
        simp only [List.getElem_toArray, List.getElem_cons_succ, List.getElem_cons_zero, Act.put, List.setIfInBounds_toArray, List.set_cons_zero, List.set_cons_succ]
      apply chain_end
      go_wp2
      go_end0
      refine ⟨rfl, _, H4.out, by simp, .inr ⟨by rw [adv_yes HB.out HP.out], .string m, E, ?_, rfl, by rw [adv_yes HB.out HP.out]; exact HE.out⟩⟩
      exact ⟨m, q1, rfl, q2⟩
    · have h2 := HT.out.drew.below hb2
      have e0 := h2.rd.cell 0
      have e1 := h2.rd.cell 1
      have e2 := h2.rd.cell 2
      have f2 := h2.rd.free 2
      simp only [List.getElem?_toArray, List.getElem?_cons_succ, List.getElem?_cons_zero] at e0 e1 e2
      have h4 := h2.no (p := lTxt) hne HB.out hp
      have H4 := Lib.hid h4
      have HP := Lib.hid hp
      clear h2 h4 hp hb2
      go_wp2_with fail
      refine ⟨⟨e0, e1⟩, ?_⟩
      iterate 7
        apply chain_take rfl rfl
        · rintro w' ⟨c0, c1⟩
          go_simp
          with_reducible rfl
        simp only [List.getElem_toArray, List.getElem_cons_succ, List.getElem_cons_zero, Act.put, List.setIfInBounds_toArray, List.set_cons_zero, List.set_cons_succ]
      apply chain_end
      go_wp2
      refine bodyPost_ret (results_none rfl _ _ _) rfl ?_
      exact ⟨rfl, cs, H4.out, rfl, .inl ⟨by rw [adv_no HB.out HP.out], rfl⟩⟩

set_option maxRecDepth 100000 in
set_option maxHeartbeats 1000000 in
theorem readVer {w : World} {gr ge : Nat} {t : TypeId} {v : Value} {xs : List UInt8} {s : Sp} {cs : Array Value} (j : Nat) (hst : MSt w w gr ge t v s cs) (hv : Bytes w v xs) (hne : gr ≠ ge) (hx : xs.length ≤ far) (hj : j < cs.size) :
    Calls Try.prog 60 #[.pointer (some ⟨gr, 0, none⟩), .pointer (some ⟨ge, j, none⟩), .func (.func 27) #[] #[]] w fun e w' => e = .returned (.tuple #[]) ∧ ∃ cs', Read1 vrV lVer xs w w' gr ge t v s j cs cs' := by
  have c0 := hst.rd.cell 0
  have c1 := hst.rd.cell 1
  have c2 := hst.rd.cell 2
  simp only [List.getElem?_toArray, List.getElem?_cons_succ, List.getElem?_cons_zero] at c0 c1 c2
  have HT := Lib.hid hst
  have HW := Lib.hid hv
  clear hst hv
  cases hbad : s.bad with
  | true =>
    rw [hbad] at c2
    have HB := Lib.hid hbad
    clear hbad
    go_enter Try.func60, Try.ntmps60
    go_wp2
    refine bodyPost_ret (results_none rfl _ _ _) rfl ?_
    refine ⟨rfl, cs, ?_, rfl, .inl ⟨by rw [adv_bad HB.out]; exact HB.out, rfl⟩⟩
    rw [adv_bad HB.out]
    exact HT.out
  | false =>
    rw [hbad] at c2
    have HB := Lib.hid hbad
    clear hbad
    go_enter Try.func60, Try.ntmps60
    go_wp2_with fail
    refine wp_region_chain (fun w' => w'.cell? ⟨gr, 0, none⟩ = some v ∧ w'.cell? ⟨gr, 1, none⟩ = some (.int .i64 s.at0)) [(true, 0), (true, 1), (true, 2), (true, 3), (true, 4), (true, 5), (true, 6), (true, 7), (true, 8), (false, 9), (true, 10), (true, 11), (true, 12), (true, 13), (true, 14), (true, 15), (true, 16)] (by kernel_rfl) (by kernel_rfl) (fun _ _ d _ _ h => by cases d <;> exact h) ⟨c0, c1⟩ ?_
    iterate 9
      apply chain_take rfl rfl
      · rintro w' ⟨c0, c1⟩
        go_simp
        with_reducible rfl
      simp only [List.getElem_toArray, List.getElem_cons_succ, List.getElem_cons_zero, Act.put, List.setIfInBounds_toArray, List.set_cons_zero, List.set_cons_succ]
    refine chain_go rfl ?_
    go_wp2_with fail
    refine (get_vr w.drew v xs s.at0 HT.out.near hx (HW.out.keep ((Below.refl _ _).drew))).mono ?_
    rintro e w2 ⟨hb2, ⟨u, V, E, hp, hu, hwe, ⟨m, m2, q1, q3, rfl, q2⟩, rfl⟩ | ⟨hp, V, n, ⟨x, y, rfl⟩, rfl⟩⟩
    · have h2 := HT.out.drew.below hb2
      have e0 := h2.rd.cell 0
      have e1 := h2.rd.cell 1
      simp only [List.getElem?_toArray, List.getElem?_cons_succ, List.getElem?_cons_zero] at e0 e1
      have g1 := h2.en.cell j
      have g2 := h2.en.free j
      rw [Array.getElem?_eq_getElem hj] at g1
      have h3 := h2.rd.far (a := ⟨ge, j, none⟩) hne (.complex .f64 (Flo.flo m) (Flo.flo m2))
      have k1 := h3.cell 1
      have k2 := h3.free 1
      simp only [List.getElem?_toArray, List.getElem?_cons_succ, List.getElem?_cons_zero] at k1
      have h4 := h2.yes (j := j) (X := .complex .f64 (Flo.flo m) (Flo.flo m2)) hne HB.out hp hu
      have H4 := Lib.hid h4
      have HP := Lib.hid hp
      have HE := Lib.hid hwe
      have HU := Lib.hid hb2
      clear h2 h3 h4 hp hwe hu hb2
      go_wp2_with fail
      refine ⟨⟨e0, e1⟩, ?_⟩
      have c0 := e0
      have c1 := e1
      iterate 7
        apply chain_take rfl rfl
        · rintro w' ⟨c0, c1⟩
          go_simp
          with_reducible rfl
        simp only [List.getElem_toArray, List.getElem_cons_succ, List.getElem_cons_zero, Act.put, List.setIfInBounds_toArray, List.set_cons_zero, List.set_cons_succ]
      apply chain_end
      go_wp2
      go_end0
      refine ⟨rfl, _, H4.out, by simp, .inr ⟨by rw [adv_yes HB.out HP.out], .complex .f64 (Flo.flo m) (Flo.flo m2), E, ?_, rfl, by rw [adv_yes HB.out HP.out]; exact HE.out⟩⟩
      exact ⟨m, m2, q1, q3, rfl, q2⟩
    · have h2 := HT.out.drew.below hb2
      have e0 := h2.rd.cell 0
      have e1 := h2.rd.cell 1
      have e2 := h2.rd.cell 2
      have f2 := h2.rd.free 2
      simp only [List.getElem?_toArray, List.getElem?_cons_succ, List.getElem?_cons_zero] at e0 e1 e2
      have h4 := h2.no (p := lVer) hne HB.out hp
      have H4 := Lib.hid h4
      have HP := Lib.hid hp
      clear h2 h4 hp hb2
      go_wp2_with fail
      refine ⟨⟨e0, e1⟩, ?_⟩
      iterate 7
        apply chain_take rfl rfl
        · rintro w' ⟨c0, c1⟩
          go_simp
          with_reducible rfl
        simp only [List.getElem_toArray, List.getElem_cons_succ, List.getElem_cons_zero, Act.put, List.setIfInBounds_toArray, List.set_cons_zero, List.set_cons_succ]
      apply chain_end
      go_wp2
      refine bodyPost_ret (results_none rfl _ _ _) rfl ?_
      exact ⟨rfl, cs, H4.out, rfl, .inl ⟨by rw [adv_no HB.out HP.out], rfl⟩⟩
end Go.Proofs.Ytjpaljiielemgaa
