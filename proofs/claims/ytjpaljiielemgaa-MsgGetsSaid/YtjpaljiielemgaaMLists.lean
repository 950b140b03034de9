/- msg.many: a list that is read into a field. -/
import Derived.Test.YtjpaljiielemgaaMItems
import Derived.Test.YtjpaljiielemgaaMRead
namespace Go.Proofs.Ytjpaljiielemgaa
open Go.RowKit
attribute [local go_sem] store_cplx

set_option maxRecDepth 100000 in
set_option maxHeartbeats 1000000 in
theorem clos_ent (hget : Getter 31 lEnt entV entZ) {gb : Nat} (w : World) (v : Value) (xs : List UInt8) (at0 : Nat) (hat : at0 ≤ far) (hx : xs.length ≤ far) (hv : Bytes w v xs) (hc : w.cell? ⟨gb, 0, none⟩ = some (.func (.func 31) #[] #[])) :
    Calls Try.prog 88 #[v, .int .i64 at0, .pointer (some ⟨gb, 0, none⟩)] w (GotAt (lItems lEnt) (lstV 48 11 entV) entL xs at0 w) := by
  have HI := Lib.hid (items_ent hget w v xs at0 hat hx hv)
  clear hv hat hx hget
  go_enter Try.func88, Try.ntmps88
  go_wp2_with fail
  refine HI.out.mono ?_
  rintro e w' ⟨hb, ⟨u, V, E, hp, hu, hwe, hR, rfl⟩ | ⟨hp, V, n, hz, rfl⟩⟩
  · have HA := Lib.hid hb; have HB := Lib.hid hp; have HC := Lib.hid hu; have HD := Lib.hid hwe; have HE := Lib.hid hR
    clear hb hp hu hwe hR
    go_wp2
    go_ret3
    exact ⟨HA.out, .inl ⟨_, _, _, HB.out, HC.out, HD.out, HE.out, rfl⟩⟩
  · have HA := Lib.hid hb; have HB := Lib.hid hp; have HC := Lib.hid hz
    clear hb hp hz
    go_wp2
    go_ret3
    exact ⟨HA.out, .inr ⟨HB.out, _, _, HC.out, rfl⟩⟩

set_option maxRecDepth 100000 in
set_option maxHeartbeats 1000000 in
theorem rd_ent (hget : Getter 31 lEnt entV entZ) {gb : Nat} {w : World} {gr ge : Nat} {t : TypeId} {v : Value} {xs : List UInt8} {s : Sp} {cs : Array Value} (j : Nat) (hst : MSt w w gr ge t v s cs) (hv : Bytes w v xs) (hne : gr ≠ ge) (hx : xs.length ≤ far) (hj : j < cs.size) (hgb : w.cell? ⟨gb, 0, none⟩ = some (.func (.func 31) #[] #[])) :
    Calls Try.prog 87 #[.pointer (some ⟨gr, 0, none⟩), .pointer (some ⟨ge, j, none⟩), .func (.func 88) #[] #[.pointer (some ⟨gb, 0, none⟩)]] w fun e w' => e = .returned (.tuple #[]) ∧ ∃ cs', Read1 (lstV 48 11 entV) (lItems lEnt) xs w w' gr ge t v s j cs cs' := by
  have c0 := hst.rd.cell 0
  have c1 := hst.rd.cell 1
  have c2 := hst.rd.cell 2
  simp only [List.getElem?_toArray, List.getElem?_cons_succ, List.getElem?_cons_zero] at c0 c1 c2
  have HT := Lib.hid hst
  have HW := Lib.hid hv
  have HGB := Lib.hid hgb
  clear hst hv hgb
  cases hbad : s.bad with
  | true =>
    rw [hbad] at c2
    have HB := Lib.hid hbad
    clear hbad
    go_enter Try.func87, Try.ntmps87
    go_wp2
    refine bodyPost_ret (results_none rfl _ _ _) rfl ?_
    refine ⟨rfl, cs, ?_, rfl, .inl ⟨by rw [adv_bad HB.out]; exact HB.out, rfl⟩⟩
    rw [adv_bad HB.out]
    exact HT.out
  | false =>
    rw [hbad] at c2
    have HB := Lib.hid hbad
    clear hbad
    go_enter Try.func87, Try.ntmps87
    go_wp2_with fail
    refine wp_region_chain (fun w' => w'.cell? ⟨gr, 0, none⟩ = some v ∧ w'.cell? ⟨gr, 1, none⟩ = some (.int .i64 s.at0)) [(true, 0), (true, 1), (true, 2), (true, 3), (true, 4), (true, 5), (true, 6), (true, 7), (true, 8), (false, 9), (true, 10), (true, 11), (true, 12), (true, 13), (true, 14), (true, 15), (true, 16)] (by kernel_rfl) (by kernel_rfl) (fun _ _ d _ _ h => by cases d <;> exact h) ⟨c0, c1⟩ ?_
    iterate 9
      apply chain_take rfl rfl
      · rintro w' ⟨c0, c1⟩
        go_simp
        with_reducible rfl
      simp only [List.getElem_toArray, List.getElem_cons_succ, List.getElem_cons_zero, Act.put, List.setIfInBounds_toArray, List.set_cons_zero, List.set_cons_succ]
    refine chain_go rfl ?_
    go_wp2_with fail
    refine (clos_ent hget (gb := gb) w.drew v xs s.at0 HT.out.near hx (HW.out.keep ((Below.refl _ _).drew)) HGB.out).mono ?_
    rintro e w2 ⟨hb2, ⟨u, V, E, hp, hu, hwe, ql, rfl⟩ | ⟨hp, V, n, ⟨rfl, rfl⟩, rfl⟩⟩
    · obtain ⟨x1, n1, m1, rfl⟩ := lst_slice ql
      have QL := Lib.hid ql
      have h2 := HT.out.drew.below hb2
      have e0 := h2.rd.cell 0
      have e1 := h2.rd.cell 1
      simp only [List.getElem?_toArray, List.getElem?_cons_succ, List.getElem?_cons_zero] at e0 e1
      have g1 := h2.en.cell j
      have g2 := h2.en.free j
      rw [Array.getElem?_eq_getElem hj] at g1
      have h3 := h2.rd.far (a := ⟨ge, j, none⟩) hne (.slice x1 n1 m1)
      have k1 := h3.cell 1
      have k2 := h3.free 1
      simp only [List.getElem?_toArray, List.getElem?_cons_succ, List.getElem?_cons_zero] at k1
      have h4 := h2.yes (j := j) (X := .slice x1 n1 m1) hne HB.out hp hu
      have H4 := Lib.hid h4
      have HP := Lib.hid hp
      have HE := Lib.hid hwe
      have HU := Lib.hid hb2
      clear h2 h3 h4 hp hwe hu hb2 ql
      go_wp2_with fail
      refine ⟨⟨e0, e1⟩, ?_⟩
      have c0 := e0
      have c1 := e1
      iterate 7
        apply chain_take rfl rfl
        · rintro w' ⟨c0, c1⟩
          go_simp
          with_reducible rfl
        simp only [List.getElem_toArray, List.getElem_cons_succ, List.getElem_cons_zero, Act.put, List.setIfInBounds_toArray, List.set_cons_zero, List.set_cons_succ]
      apply chain_end
      go_wp2
      go_end0
      refine ⟨rfl, _, H4.out, by simp, .inr ⟨by rw [adv_yes HB.out HP.out], .slice x1 n1 m1, E, ?_, rfl, by rw [adv_yes HB.out HP.out]; exact HE.out⟩⟩
      refine (fair_lst fair_ent).keep QL.out ?_
      have hl1 := HT.out.rd.lt
      have hl2 := HT.out.en.lt
      exact fun k hk _ => (Below.heap_setCell _ _ _ _ (by show k ≠ gr; have hk : w.heap.size ≤ k := hk; omega)).trans (Below.heap_setCell _ _ _ _ (by show k ≠ ge; have hk : w.heap.size ≤ k := hk; omega))
    · have h2 := HT.out.drew.below hb2
      have e0 := h2.rd.cell 0
      have e1 := h2.rd.cell 1
      have e2 := h2.rd.cell 2
      have f2 := h2.rd.free 2
      simp only [List.getElem?_toArray, List.getElem?_cons_succ, List.getElem?_cons_zero] at e0 e1 e2
      have h4 := h2.no (p := (lItems lEnt)) hne HB.out hp
      have H4 := Lib.hid h4
      have HP := Lib.hid hp
      clear h2 h4 hp hb2
      go_wp2_with fail
      refine ⟨⟨e0, e1⟩, ?_⟩
      iterate 7
        apply chain_take rfl rfl
        · rintro w' ⟨c0, c1⟩
          go_simp
          with_reducible rfl
        simp only [List.getElem_toArray, List.getElem_cons_succ, List.getElem_cons_zero, Act.put, List.setIfInBounds_toArray, List.set_cons_zero, List.set_cons_succ]
      apply chain_end
      go_wp2
      refine bodyPost_ret (results_none rfl _ _ _) rfl ?_
      exact ⟨rfl, cs, H4.out, rfl, .inl ⟨by rw [adv_no HB.out HP.out], rfl⟩⟩

set_option maxRecDepth 100000 in
set_option maxHeartbeats 1000000 in
theorem many_ent (hget : Getter 31 lEnt entV entZ) {w : World} {gr ge : Nat} {t : TypeId} {v : Value} {xs : List UInt8} {s : Sp} {cs : Array Value} (j : Nat) (hst : MSt w w gr ge t v s cs) (hv : Bytes w v xs) (hne : gr ≠ ge) (hx : xs.length ≤ far) (hj : j < cs.size) :
    Calls Try.prog 62 #[.pointer (some ⟨gr, 0, none⟩), .pointer (some ⟨ge, j, none⟩), .func (.func 31) #[] #[]] w fun e w' => e = .returned (.tuple #[]) ∧ ∃ cs', Read1 (lstV 48 11 entV) (lItems lEnt) xs w w' gr ge t v s j cs cs' := by
  have hc : (w.alloc (.cells #[.func (.func 31) #[] #[]] 50)).cell? ⟨w.heap.size, 0, none⟩ = some (.func (.func 31) #[] #[]) := (Whole.new w 50 _).cell 0
  have HR := Lib.hid (rd_ent hget j (hst.fresh (.cells #[.func (.func 31) #[] #[]] 50)) (hv.keep ((Below.refl _ _).alloc (Nat.le_refl _) _)) hne hx hj hc)
  have HS := Lib.hid hst
  clear hst hv hc
  go_enter Try.func62, Try.ntmps62
  go_wp2_with fail
  refine HR.out.mono ?_
  rintro e w' ⟨rfl, cs', hr⟩
  have HQ := Lib.hid hr
  clear hr
  go_wp2
  go_end0
  refine ⟨rfl, cs', HQ.out.wider HS.out (fair_lst fair_ent)⟩

set_option maxRecDepth 100000 in
set_option maxHeartbeats 1000000 in
theorem clos_mem (hget : Getter 64 lMem memV memZ) {gb : Nat} (w : World) (v : Value) (xs : List UInt8) (at0 : Nat) (hat : at0 ≤ far) (hx : xs.length ≤ far) (hv : Bytes w v xs) (hc : w.cell? ⟨gb, 0, none⟩ = some (.func (.func 64) #[] #[])) :
    Calls Try.prog 91 #[v, .int .i64 at0, .pointer (some ⟨gb, 0, none⟩)] w (GotAt (lItems lMem) (lstV 110 2 memV) memL xs at0 w) := by
  have HI := Lib.hid (items_mem hget w v xs at0 hat hx hv)
  clear hv hat hx hget
  go_enter Try.func91, Try.ntmps91
  go_wp2_with fail
  refine HI.out.mono ?_
  rintro e w' ⟨hb, ⟨u, V, E, hp, hu, hwe, hR, rfl⟩ | ⟨hp, V, n, hz, rfl⟩⟩
  · have HA := Lib.hid hb; have HB := Lib.hid hp; have HC := Lib.hid hu; have HD := Lib.hid hwe; have HE := Lib.hid hR
    clear hb hp hu hwe hR
    go_wp2
    go_ret3
    exact ⟨HA.out, .inl ⟨_, _, _, HB.out, HC.out, HD.out, HE.out, rfl⟩⟩
  · have HA := Lib.hid hb; have HB := Lib.hid hp; have HC := Lib.hid hz
    clear hb hp hz
    go_wp2
    go_ret3
    exact ⟨HA.out, .inr ⟨HB.out, _, _, HC.out, rfl⟩⟩

set_option maxRecDepth 100000 in
set_option maxHeartbeats 1000000 in
theorem rd_mem (hget : Getter 64 lMem memV memZ) {gb : Nat} {w : World} {gr ge : Nat} {t : TypeId} {v : Value} {xs : List UInt8} {s : Sp} {cs : Array Value} (j : Nat) (hst : MSt w w gr ge t v s cs) (hv : Bytes w v xs) (hne : gr ≠ ge) (hx : xs.length ≤ far) (hj : j < cs.size) (hgb : w.cell? ⟨gb, 0, none⟩ = some (.func (.func 64) #[] #[])) :
    Calls Try.prog 90 #[.pointer (some ⟨gr, 0, none⟩), .pointer (some ⟨ge, j, none⟩), .func (.func 91) #[] #[.pointer (some ⟨gb, 0, none⟩)]] w fun e w' => e = .returned (.tuple #[]) ∧ ∃ cs', Read1 (lstV 110 2 memV) (lItems lMem) xs w w' gr ge t v s j cs cs' := by
  have c0 := hst.rd.cell 0
  have c1 := hst.rd.cell 1
  have c2 := hst.rd.cell 2
  simp only [List.getElem?_toArray, List.getElem?_cons_succ, List.getElem?_cons_zero] at c0 c1 c2
  have HT := Lib.hid hst
  have HW := Lib.hid hv
  have HGB := Lib.hid hgb
  clear hst hv hgb
  cases hbad : s.bad with
  | true =>
    rw [hbad] at c2
    have HB := Lib.hid hbad
    clear hbad
    go_enter Try.func90, Try.ntmps90
    go_wp2
    refine bodyPost_ret (results_none rfl _ _ _) rfl ?_
    refine ⟨rfl, cs, ?_, rfl, .inl ⟨by rw [adv_bad HB.out]; exact HB.out, rfl⟩⟩
    rw [adv_bad HB.out]
    exact HT.out
  | false =>
    rw [hbad] at c2
    have HB := Lib.hid hbad
    clear hbad
    go_enter Try.func90, Try.ntmps90
    go_wp2_with fail
    refine wp_region_chain (fun w' => w'.cell? ⟨gr, 0, none⟩ = some v ∧ w'.cell? ⟨gr, 1, none⟩ = some (.int .i64 s.at0)) [(true, 0), (true, 1), (true, 2), (true, 3), (true, 4), (true, 5), (true, 6), (true, 7), (true, 8), (false, 9), (true, 10), (true, 11), (true, 12), (true, 13), (true, 14), (true, 15), (true, 16)] (by kernel_rfl) (by kernel_rfl) (fun _ _ d _ _ h => by cases d <;> exact h) ⟨c0, c1⟩ ?_
    iterate 9
      apply chain_take rfl rfl
      · rintro w' ⟨c0, c1⟩
        go_simp
        with_reducible rfl
      simp only [List.getElem_toArray, List.getElem_cons_succ, List.getElem_cons_zero, Act.put, List.setIfInBounds_toArray, List.set_cons_zero, List.set_cons_succ]
    refine chain_go rfl ?_
    go_wp2_with fail
    refine (clos_mem hget (gb := gb) w.drew v xs s.at0 HT.out.near hx (HW.out.keep ((Below.refl _ _).drew)) HGB.out).mono ?_
    rintro e w2 ⟨hb2, ⟨u, V, E, hp, hu, hwe, ql, rfl⟩ | ⟨hp, V, n, ⟨rfl, rfl⟩, rfl⟩⟩
    · obtain ⟨x1, n1, m1, rfl⟩ := lst_slice ql
      have QL := Lib.hid ql
      have h2 := HT.out.drew.below hb2
      have e0 := h2.rd.cell 0
      have e1 := h2.rd.cell 1
      simp only [List.getElem?_toArray, List.getElem?_cons_succ, List.getElem?_cons_zero] at e0 e1
      have g1 := h2.en.cell j
      have g2 := h2.en.free j
      rw [Array.getElem?_eq_getElem hj] at g1
      have h3 := h2.rd.far (a := ⟨ge, j, none⟩) hne (.slice x1 n1 m1)
      have k1 := h3.cell 1
      have k2 := h3.free 1
      simp only [List.getElem?_toArray, List.getElem?_cons_succ, List.getElem?_cons_zero] at k1
      have h4 := h2.yes (j := j) (X := .slice x1 n1 m1) hne HB.out hp hu
      have H4 := Lib.hid h4
      have HP := Lib.hid hp
      have HE := Lib.hid hwe
      have HU := Lib.hid hb2
      clear h2 h3 h4 hp hwe hu hb2 ql
      go_wp2_with fail
      refine ⟨⟨e0, e1⟩, ?_⟩
      have c0 := e0
      have c1 := e1
      iterate 7
        apply chain_take rfl rfl
        · rintro w' ⟨c0, c1⟩
          go_simp
          with_reducible rfl
        simp only [List.getElem_toArray, List.getElem_cons_succ, List.getElem_cons_zero, Act.put, List.setIfInBounds_toArray, List.set_cons_zero, List.set_cons_succ]
      apply chain_end
      go_wp2
      go_end0
      refine ⟨rfl, _, H4.out, by simp, .inr ⟨by rw [adv_yes HB.out HP.out], .slice x1 n1 m1, E, ?_, rfl, by rw [adv_yes HB.out HP.out]; exact HE.out⟩⟩
      refine (fair_lst fair_mem).keep QL.out ?_
      have hl1 := HT.out.rd.lt
      have hl2 := HT.out.en.lt
      exact fun k hk _ => (Below.heap_setCell _ _ _ _ (by show k ≠ gr; have hk : w.heap.size ≤ k := hk; omega)).trans (Below.heap_setCell _ _ _ _ (by show k ≠ ge; have hk : w.heap.size ≤ k := hk; omega))
    · have h2 := HT.out.drew.below hb2
      have e0 := h2.rd.cell 0
      have e1 := h2.rd.cell 1
      have e2 := h2.rd.cell 2
      have f2 := h2.rd.free 2
      simp only [List.getElem?_toArray, List.getElem?_cons_succ, List.getElem?_cons_zero] at e0 e1 e2
      have h4 := h2.no (p := (lItems lMem)) hne HB.out hp
      have H4 := Lib.hid h4
      have HP := Lib.hid hp
      clear h2 h4 hp hb2
      go_wp2_with fail
      refine ⟨⟨e0, e1⟩, ?_⟩
      iterate 7
        apply chain_take rfl rfl
        · rintro w' ⟨c0, c1⟩
          go_simp
          with_reducible rfl
        simp only [List.getElem_toArray, List.getElem_cons_succ, List.getElem_cons_zero, Act.put, List.setIfInBounds_toArray, List.set_cons_zero, List.set_cons_succ]
      apply chain_end
      go_wp2
      refine bodyPost_ret (results_none rfl _ _ _) rfl ?_
      exact ⟨rfl, cs, H4.out, rfl, .inl ⟨by rw [adv_no HB.out HP.out], rfl⟩⟩

set_option maxRecDepth 100000 in
set_option maxHeartbeats 1000000 in
theorem many_mem (hget : Getter 64 lMem memV memZ) {w : World} {gr ge : Nat} {t : TypeId} {v : Value} {xs : List UInt8} {s : Sp} {cs : Array Value} (j : Nat) (hst : MSt w w gr ge t v s cs) (hv : Bytes w v xs) (hne : gr ≠ ge) (hx : xs.length ≤ far) (hj : j < cs.size) :
    Calls Try.prog 63 #[.pointer (some ⟨gr, 0, none⟩), .pointer (some ⟨ge, j, none⟩), .func (.func 64) #[] #[]] w fun e w' => e = .returned (.tuple #[]) ∧ ∃ cs', Read1 (lstV 110 2 memV) (lItems lMem) xs w w' gr ge t v s j cs cs' := by
  have hc : (w.alloc (.cells #[.func (.func 64) #[] #[]] 112)).cell? ⟨w.heap.size, 0, none⟩ = some (.func (.func 64) #[] #[]) := (Whole.new w 112 _).cell 0
  have HR := Lib.hid (rd_mem hget j (hst.fresh (.cells #[.func (.func 64) #[] #[]] 112)) (hv.keep ((Below.refl _ _).alloc (Nat.le_refl _) _)) hne hx hj hc)
  have HS := Lib.hid hst
  clear hst hv hc
  go_enter Try.func63, Try.ntmps63
  go_wp2_with fail
  refine HR.out.mono ?_
  rintro e w' ⟨rfl, cs', hr⟩
  have HQ := Lib.hid hr
  clear hr
  go_wp2
  go_end0
  refine ⟨rfl, cs', HQ.out.wider HS.out (fair_lst fair_mem)⟩

set_option maxRecDepth 100000 in
set_option maxHeartbeats 1000000 in
theorem clos_view (hget : Getter 66 lView viewV viewZ) {gb : Nat} (w : World) (v : Value) (xs : List UInt8) (at0 : Nat) (hat : at0 ≤ far) (hx : xs.length ≤ far) (hv : Bytes w v xs) (hc : w.cell? ⟨gb, 0, none⟩ = some (.func (.func 66) #[] #[])) :
    Calls Try.prog 94 #[v, .int .i64 at0, .pointer (some ⟨gb, 0, none⟩)] w (GotAt (lItems lView) (lstV 115 5 viewV) viewL xs at0 w) := by
  have HI := Lib.hid (items_view hget w v xs at0 hat hx hv)
  clear hv hat hx hget
  go_enter Try.func94, Try.ntmps94
  go_wp2_with fail
  refine HI.out.mono ?_
  rintro e w' ⟨hb, ⟨u, V, E, hp, hu, hwe, hR, rfl⟩ | ⟨hp, V, n, hz, rfl⟩⟩
  · have HA := Lib.hid hb; have HB := Lib.hid hp; have HC := Lib.hid hu; have HD := Lib.hid hwe; have HE := Lib.hid hR
    clear hb hp hu hwe hR
    go_wp2
    go_ret3
    exact ⟨HA.out, .inl ⟨_, _, _, HB.out, HC.out, HD.out, HE.out, rfl⟩⟩
  · have HA := Lib.hid hb; have HB := Lib.hid hp; have HC := Lib.hid hz
    clear hb hp hz
    go_wp2
    go_ret3
    exact ⟨HA.out, .inr ⟨HB.out, _, _, HC.out, rfl⟩⟩

set_option maxRecDepth 100000 in
set_option maxHeartbeats 1000000 in
theorem rd_view (hget : Getter 66 lView viewV viewZ) {gb : Nat} {w : World} {gr ge : Nat} {t : TypeId} {v : Value} {xs : List UInt8} {s : Sp} {cs : Array Value} (j : Nat) (hst : MSt w w gr ge t v s cs) (hv : Bytes w v xs) (hne : gr ≠ ge) (hx : xs.length ≤ far) (hj : j < cs.size) (hgb : w.cell? ⟨gb, 0, none⟩ = some (.func (.func 66) #[] #[])) :
    Calls Try.prog 93 #[.pointer (some ⟨gr, 0, none⟩), .pointer (some ⟨ge, j, none⟩), .func (.func 94) #[] #[.pointer (some ⟨gb, 0, none⟩)]] w fun e w' => e = .returned (.tuple #[]) ∧ ∃ cs', Read1 (lstV 115 5 viewV) (lItems lView) xs w w' gr ge t v s j cs cs' := by
  have c0 := hst.rd.cell 0
  have c1 := hst.rd.cell 1
  have c2 := hst.rd.cell 2
  simp only [List.getElem?_toArray, List.getElem?_cons_succ, List.getElem?_cons_zero] at c0 c1 c2
  have HT := Lib.hid hst
  have HW := Lib.hid hv
  have HGB := Lib.hid hgb
  clear hst hv hgb
  cases hbad : s.bad with
  | true =>
    rw [hbad] at c2
    have HB := Lib.hid hbad
    clear hbad
    go_enter Try.func93, Try.ntmps93
    go_wp2
    refine bodyPost_ret (results_none rfl _ _ _) rfl ?_
    refine ⟨rfl, cs, ?_, rfl, .inl ⟨by rw [adv_bad HB.out]; exact HB.out, rfl⟩⟩
    rw [adv_bad HB.out]
    exact HT.out
  | false =>
    rw [hbad] at c2
    have HB := Lib.hid hbad
    clear hbad
    go_enter Try.func93, Try.ntmps93
    go_wp2_with fail
    refine wp_region_chain (fun w' => w'.cell? ⟨gr, 0, none⟩ = some v ∧ w'.cell? ⟨gr, 1, none⟩ = some (.int .i64 s.at0)) [(true, 0), (true, 1), (true, 2), (true, 3), (true, 4), (true, 5), (true, 6), (true, 7), (true, 8), (false, 9), (true, 10), (true, 11), (true, 12), (true, 13), (true, 14), (true, 15), (true, 16)] (by kernel_rfl) (by kernel_rfl) (fun _ _ d _ _ h => by cases d <;> exact h) ⟨c0, c1⟩ ?_
    iterate 9
      apply chain_take rfl rfl
      · rintro w' ⟨c0, c1⟩
        go_simp
        with_reducible rfl
      simp only [List.getElem_toArray, List.getElem_cons_succ, List.getElem_cons_zero, Act.put, List.setIfInBounds_toArray, List.set_cons_zero, List.set_cons_succ]
    refine chain_go rfl ?_
    go_wp2_with fail
    refine (clos_view hget (gb := gb) w.drew v xs s.at0 HT.out.near hx (HW.out.keep ((Below.refl _ _).drew)) HGB.out).mono ?_
    rintro e w2 ⟨hb2, ⟨u, V, E, hp, hu, hwe, ql, rfl⟩ | ⟨hp, V, n, ⟨rfl, rfl⟩, rfl⟩⟩
    · obtain ⟨x1, n1, m1, rfl⟩ := lst_slice ql
      have QL := Lib.hid ql
      have h2 := HT.out.drew.below hb2
      have e0 := h2.rd.cell 0
      have e1 := h2.rd.cell 1
      simp only [List.getElem?_toArray, List.getElem?_cons_succ, List.getElem?_cons_zero] at e0 e1
      have g1 := h2.en.cell j
      have g2 := h2.en.free j
      rw [Array.getElem?_eq_getElem hj] at g1
      have h3 := h2.rd.far (a := ⟨ge, j, none⟩) hne (.slice x1 n1 m1)
      have k1 := h3.cell 1
      have k2 := h3.free 1
      simp only [List.getElem?_toArray, List.getElem?_cons_succ, List.getElem?_cons_zero] at k1
      have h4 := h2.yes (j := j) (X := .slice x1 n1 m1) hne HB.out hp hu
      have H4 := Lib.hid h4
      have HP := Lib.hid hp
      have HE := Lib.hid hwe
      have HU := Lib.hid hb2
      clear h2 h3 h4 hp hwe hu hb2 ql
      go_wp2_with fail
      refine ⟨⟨e0, e1⟩, ?_⟩
      have c0 := e0
      have c1 := e1
      iterate 7
        apply chain_take rfl rfl
        · rintro w' ⟨c0, c1⟩
          go_simp
          with_reducible rfl
        simp only [List.getElem_toArray, List.getElem_cons_succ, List.getElem_cons_zero, Act.put, List.setIfInBounds_toArray, List.set_cons_zero, List.set_cons_succ]
      apply chain_end
      go_wp2
      go_end0
      refine ⟨rfl, _, H4.out, by simp, .inr ⟨by rw [adv_yes HB.out HP.out], .slice x1 n1 m1, E, ?_, rfl, by rw [adv_yes HB.out HP.out]; exact HE.out⟩⟩
      refine (fair_lst fair_view).keep QL.out ?_
      have hl1 := HT.out.rd.lt
      have hl2 := HT.out.en.lt
      exact fun k hk _ => (Below.heap_setCell _ _ _ _ (by show k ≠ gr; have hk : w.heap.size ≤ k := hk; omega)).trans (Below.heap_setCell _ _ _ _ (by show k ≠ ge; have hk : w.heap.size ≤ k := hk; omega))
    · have h2 := HT.out.drew.below hb2
      have e0 := h2.rd.cell 0
      have e1 := h2.rd.cell 1
      have e2 := h2.rd.cell 2
      have f2 := h2.rd.free 2
      simp only [List.getElem?_toArray, List.getElem?_cons_succ, List.getElem?_cons_zero] at e0 e1 e2
      have h4 := h2.no (p := (lItems lView)) hne HB.out hp
      have H4 := Lib.hid h4
      have HP := Lib.hid hp
      clear h2 h4 hp hb2
      go_wp2_with fail
      refine ⟨⟨e0, e1⟩, ?_⟩
      iterate 7
        apply chain_take rfl rfl
        · rintro w' ⟨c0, c1⟩
          go_simp
          with_reducible rfl
        simp only [List.getElem_toArray, List.getElem_cons_succ, List.getElem_cons_zero, Act.put, List.setIfInBounds_toArray, List.set_cons_zero, List.set_cons_succ]
      apply chain_end
      go_wp2
      refine bodyPost_ret (results_none rfl _ _ _) rfl ?_
      exact ⟨rfl, cs, H4.out, rfl, .inl ⟨by rw [adv_no HB.out HP.out], rfl⟩⟩

set_option maxRecDepth 100000 in
set_option maxHeartbeats 1000000 in
theorem many_view (hget : Getter 66 lView viewV viewZ) {w : World} {gr ge : Nat} {t : TypeId} {v : Value} {xs : List UInt8} {s : Sp} {cs : Array Value} (j : Nat) (hst : MSt w w gr ge t v s cs) (hv : Bytes w v xs) (hne : gr ≠ ge) (hx : xs.length ≤ far) (hj : j < cs.size) :
    Calls Try.prog 65 #[.pointer (some ⟨gr, 0, none⟩), .pointer (some ⟨ge, j, none⟩), .func (.func 66) #[] #[]] w fun e w' => e = .returned (.tuple #[]) ∧ ∃ cs', Read1 (lstV 115 5 viewV) (lItems lView) xs w w' gr ge t v s j cs cs' := by
  have hc : (w.alloc (.cells #[.func (.func 66) #[] #[]] 117)).cell? ⟨w.heap.size, 0, none⟩ = some (.func (.func 66) #[] #[]) := (Whole.new w 117 _).cell 0
  have HR := Lib.hid (rd_view hget j (hst.fresh (.cells #[.func (.func 66) #[] #[]] 117)) (hv.keep ((Below.refl _ _).alloc (Nat.le_refl _) _)) hne hx hj hc)
  have HS := Lib.hid hst
  clear hst hv hc
  go_enter Try.func65, Try.ntmps65
  go_wp2_with fail
  refine HR.out.mono ?_
  rintro e w' ⟨rfl, cs', hr⟩
  have HQ := Lib.hid hr
  clear hr
  go_wp2
  go_end0
  refine ⟨rfl, cs', HQ.out.wider HS.out (fair_lst fair_view)⟩

set_option maxRecDepth 100000 in
set_option maxHeartbeats 1000000 in
theorem clos_seen (hget : Getter 73 lSeen seenV seenZ) {gb : Nat} (w : World) (v : Value) (xs : List UInt8) (at0 : Nat) (hat : at0 ≤ far) (hx : xs.length ≤ far) (hv : Bytes w v xs) (hc : w.cell? ⟨gb, 0, none⟩ = some (.func (.func 73) #[] #[])) :
    Calls Try.prog 96 #[v, .int .i64 at0, .pointer (some ⟨gb, 0, none⟩)] w (GotAt (lItems lSeen) (lstV 127 7 seenV) seenL xs at0 w) := by
  have HI := Lib.hid (items_seen hget w v xs at0 hat hx hv)
  clear hv hat hx hget
  go_enter Try.func96, Try.ntmps96
  go_wp2_with fail
  refine HI.out.mono ?_
  rintro e w' ⟨hb, ⟨u, V, E, hp, hu, hwe, hR, rfl⟩ | ⟨hp, V, n, hz, rfl⟩⟩
  · have HA := Lib.hid hb; have HB := Lib.hid hp; have HC := Lib.hid hu; have HD := Lib.hid hwe; have HE := Lib.hid hR
    clear hb hp hu hwe hR
    go_wp2
    go_ret3
    exact ⟨HA.out, .inl ⟨_, _, _, HB.out, HC.out, HD.out, HE.out, rfl⟩⟩
  · have HA := Lib.hid hb; have HB := Lib.hid hp; have HC := Lib.hid hz
    clear hb hp hz
    go_wp2
    go_ret3
    exact ⟨HA.out, .inr ⟨HB.out, _, _, HC.out, rfl⟩⟩

set_option maxRecDepth 100000 in
set_option maxHeartbeats 1000000 in
theorem rd_seen (hget : Getter 73 lSeen seenV seenZ) {gb : Nat} {w : World} {gr ge : Nat} {t : TypeId} {v : Value} {xs : List UInt8} {s : Sp} {cs : Array Value} (j : Nat) (hst : MSt w w gr ge t v s cs) (hv : Bytes w v xs) (hne : gr ≠ ge) (hx : xs.length ≤ far) (hj : j < cs.size) (hgb : w.cell? ⟨gb, 0, none⟩ = some (.func (.func 73) #[] #[])) :
    Calls Try.prog 95 #[.pointer (some ⟨gr, 0, none⟩), .pointer (some ⟨ge, j, none⟩), .func (.func 96) #[] #[.pointer (some ⟨gb, 0, none⟩)]] w fun e w' => e = .returned (.tuple #[]) ∧ ∃ cs', Read1 (lstV 127 7 seenV) (lItems lSeen) xs w w' gr ge t v s j cs cs' := by
  have c0 := hst.rd.cell 0
  have c1 := hst.rd.cell 1
  have c2 := hst.rd.cell 2
  simp only [List.getElem?_toArray, List.getElem?_cons_succ, List.getElem?_cons_zero] at c0 c1 c2
  have HT := Lib.hid hst
  have HW := Lib.hid hv
  have HGB := Lib.hid hgb
  clear hst hv hgb
  cases hbad : s.bad with
  | true =>
    rw [hbad] at c2
    have HB := Lib.hid hbad
    clear hbad
    go_enter Try.func95, Try.ntmps95
    go_wp2
    refine bodyPost_ret (results_none rfl _ _ _) rfl ?_
    refine ⟨rfl, cs, ?_, rfl, .inl ⟨by rw [adv_bad HB.out]; exact HB.out, rfl⟩⟩
    rw [adv_bad HB.out]
    exact HT.out
  | false =>
    rw [hbad] at c2
    have HB := Lib.hid hbad
    clear hbad
    go_enter Try.func95, Try.ntmps95
    go_wp2_with fail
    refine wp_region_chain (fun w' => w'.cell? ⟨gr, 0, none⟩ = some v ∧ w'.cell? ⟨gr, 1, none⟩ = some (.int .i64 s.at0)) [(true, 0), (true, 1), (true, 2), (true, 3), (true, 4), (true, 5), (true, 6), (true, 7), (true, 8), (false, 9), (true, 10), (true, 11), (true, 12), (true, 13), (true, 14), (true, 15), (true, 16)] (by kernel_rfl) (by kernel_rfl) (fun _ _ d _ _ h => by cases d <;> exact h) ⟨c0, c1⟩ ?_
    iterate 9
      apply chain_take rfl rfl
      · rintro w' ⟨c0, c1⟩
        go_simp
        with_reducible rfl
      simp only [List.getElem_toArray, List.getElem_cons_succ, List.getElem_cons_zero, Act.put, List.setIfInBounds_toArray, List.set_cons_zero, List.set_cons_succ]
    refine chain_go rfl ?_
    go_wp2_with fail
    refine (clos_seen hget (gb := gb) w.drew v xs s.at0 HT.out.near hx (HW.out.keep ((Below.refl _ _).drew)) HGB.out).mono ?_
    rintro e w2 ⟨hb2, ⟨u, V, E, hp, hu, hwe, ql, rfl⟩ | ⟨hp, V, n, ⟨rfl, rfl⟩, rfl⟩⟩
    · obtain ⟨x1, n1, m1, rfl⟩ := lst_slice ql
      have QL := Lib.hid ql
      have h2 := HT.out.drew.below hb2
      have e0 := h2.rd.cell 0
      have e1 := h2.rd.cell 1
      simp only [List.getElem?_toArray, List.getElem?_cons_succ, List.getElem?_cons_zero] at e0 e1
      have g1 := h2.en.cell j
      have g2 := h2.en.free j
      rw [Array.getElem?_eq_getElem hj] at g1
      have h3 := h2.rd.far (a := ⟨ge, j, none⟩) hne (.slice x1 n1 m1)
      have k1 := h3.cell 1
      have k2 := h3.free 1
      simp only [List.getElem?_toArray, List.getElem?_cons_succ, List.getElem?_cons_zero] at k1
      have h4 := h2.yes (j := j) (X := .slice x1 n1 m1) hne HB.out hp hu
      have H4 := Lib.hid h4
      have HP := Lib.hid hp
      have HE := Lib.hid hwe
      have HU := Lib.hid hb2
      clear h2 h3 h4 hp hwe hu hb2 ql
      go_wp2_with fail
      refine ⟨⟨e0, e1⟩, ?_⟩
      have c0 := e0
      have c1 := e1
      iterate 7
        apply chain_take rfl rfl
        · rintro w' ⟨c0, c1⟩
          go_simp
          with_reducible rfl
        simp only [List.getElem_toArray, List.getElem_cons_succ, List.getElem_cons_zero, Act.put, List.setIfInBounds_toArray, List.set_cons_zero, List.set_cons_succ]
      apply chain_end
      go_wp2
      go_end0
      refine ⟨rfl, _, H4.out, by simp, .inr ⟨by rw [adv_yes HB.out HP.out], .slice x1 n1 m1, E, ?_, rfl, by rw [adv_yes HB.out HP.out]; exact HE.out⟩⟩
      refine (fair_lst fair_seen).keep QL.out ?_
      have hl1 := HT.out.rd.lt
      have hl2 := HT.out.en.lt
      exact fun k hk _ => (Below.heap_setCell _ _ _ _ (by show k ≠ gr; have hk : w.heap.size ≤ k := hk; omega)).trans (Below.heap_setCell _ _ _ _ (by show k ≠ ge; have hk : w.heap.size ≤ k := hk; omega))
    · have h2 := HT.out.drew.below hb2
      have e0 := h2.rd.cell 0
      have e1 := h2.rd.cell 1
      have e2 := h2.rd.cell 2
      have f2 := h2.rd.free 2
      simp only [List.getElem?_toArray, List.getElem?_cons_succ, List.getElem?_cons_zero] at e0 e1 e2
      have h4 := h2.no (p := (lItems lSeen)) hne HB.out hp
      have H4 := Lib.hid h4
      have HP := Lib.hid hp
      clear h2 h4 hp hb2
      go_wp2_with fail
      refine ⟨⟨e0, e1⟩, ?_⟩
      iterate 7
        apply chain_take rfl rfl
        · rintro w' ⟨c0, c1⟩
          go_simp
          with_reducible rfl
        simp only [List.getElem_toArray, List.getElem_cons_succ, List.getElem_cons_zero, Act.put, List.setIfInBounds_toArray, List.set_cons_zero, List.set_cons_succ]
      apply chain_end
      go_wp2
      refine bodyPost_ret (results_none rfl _ _ _) rfl ?_
      exact ⟨rfl, cs, H4.out, rfl, .inl ⟨by rw [adv_no HB.out HP.out], rfl⟩⟩

set_option maxRecDepth 100000 in
set_option maxHeartbeats 1000000 in
theorem many_seen (hget : Getter 73 lSeen seenV seenZ) {w : World} {gr ge : Nat} {t : TypeId} {v : Value} {xs : List UInt8} {s : Sp} {cs : Array Value} (j : Nat) (hst : MSt w w gr ge t v s cs) (hv : Bytes w v xs) (hne : gr ≠ ge) (hx : xs.length ≤ far) (hj : j < cs.size) :
    Calls Try.prog 72 #[.pointer (some ⟨gr, 0, none⟩), .pointer (some ⟨ge, j, none⟩), .func (.func 73) #[] #[]] w fun e w' => e = .returned (.tuple #[]) ∧ ∃ cs', Read1 (lstV 127 7 seenV) (lItems lSeen) xs w w' gr ge t v s j cs cs' := by
  have hc : (w.alloc (.cells #[.func (.func 73) #[] #[]] 129)).cell? ⟨w.heap.size, 0, none⟩ = some (.func (.func 73) #[] #[]) := (Whole.new w 129 _).cell 0
  have HR := Lib.hid (rd_seen hget j (hst.fresh (.cells #[.func (.func 73) #[] #[]] 129)) (hv.keep ((Below.refl _ _).alloc (Nat.le_refl _) _)) hne hx hj hc)
  have HS := Lib.hid hst
  clear hst hv hc
  go_enter Try.func72, Try.ntmps72
  go_wp2_with fail
  refine HR.out.mono ?_
  rintro e w' ⟨rfl, cs', hr⟩
  have HQ := Lib.hid hr
  clear hr
  go_wp2
  go_end0
  refine ⟨rfl, cs', HQ.out.wider HS.out (fair_lst fair_seen)⟩

end Go.Proofs.Ytjpaljiielemgaa
