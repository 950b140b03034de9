/- The reader of entries: ints, texts, bools, ver: each reads one thing behind the other. -/
import Derived.Test.YtjpaljiielemgaaStep
namespace Go.Proofs.Ytjpaljiielemgaa
open Go.RowKit

theorem store_cplx {P : Program} {w : World} {a : Addr} {m : Mode} (k : FloatKind) (x y : Nat) : (store a (.complex k x y) m).run P w = stored P w a (.complex k x y) m := run_store P w a _ m rfl
attribute [local go_sem] store_cplx

abbrev Parser := List UInt8 → Option (Value × Nat)
def pInt : Parser := fun l => match Pure.get l with | some (n, u) => some (.int .i64 n, u) | none => none
def pTxt : Parser := fun l => match getTxt l with | some (t, u) => some (.string ⟨t.toArray⟩, u) | none => none
def pBit : Parser := fun l => match getBit l with | some (b, u) => some (.bool b, u) | none => none
def pVer : Parser := fun l => match getVer l with | some ((x, y), u) => some (verV x y, u) | none => none

/-- The reader: the place, is it bad, what it has read. -/
structure St where
  at0 : Nat
  bad : Bool
  cs : Array Value

def one (p : Parser) (xs : List UInt8) (j : Nat) (s : St) : St :=
  if s.bad then s else match p (xs.drop s.at0) with
    | some (v, u) => ⟨s.at0 + u, false, s.cs.setIfInBounds j v⟩
    | none => ⟨s.at0, true, s.cs⟩

def many (p : Parser) (xs : List UInt8) (j : Nat) : Nat → St → St
  | 0, s => s
  | k + 1, s => one p xs (j + k) (many p xs j k s)

theorem one_bad {p : Parser} {xs : List UInt8} {j : Nat} {s : St} (h : s.bad = true) : one p xs j s = s := by unfold one; rw [if_pos h]
theorem one_yes {p : Parser} {xs : List UInt8} {j : Nat} {s : St} {v : Value} {u : Nat} (h : s.bad = false) (hp : p (xs.drop s.at0) = some (v, u)) : one p xs j s = ⟨s.at0 + u, false, s.cs.setIfInBounds j v⟩ := by
  unfold one; rw [h, hp]; rfl
theorem one_no {p : Parser} {xs : List UInt8} {j : Nat} {s : St} (h : s.bad = false) (hp : p (xs.drop s.at0) = none) : one p xs j s = ⟨s.at0, true, s.cs⟩ := by
  unfold one; rw [h, hp]; rfl
theorem one_size (p : Parser) (xs : List UInt8) (j : Nat) (s : St) : (one p xs j s).cs.size = s.cs.size := by
  unfold one; split
  · rfl
  · split <;> simp
theorem many_size (p : Parser) (xs : List UInt8) (j : Nat) : ∀ (k : Nat) (s : St), (many p xs j k s).cs.size = s.cs.size
  | 0, _ => rfl
  | k + 1, s => (one_size _ _ _ _).trans (many_size p xs j k s)
theorem many_stay {p : Parser} {xs : List UInt8} {j : Nat} {s : St} {k : Nat} (h : (many p xs j k s).bad = true) : ∀ d, many p xs j (k + d) s = many p xs j k s
  | 0 => rfl
  | d + 1 => by
    show one p xs (j + (k + d)) (many p xs j (k + d) s) = _
    rw [many_stay h d, one_bad h]

/-- How far a place may lie. -/
def far : Nat := 2305843009213693952

/-- The reader stands at s; else nothing has turned. -/
structure Stands (w0 w : World) (gr ge : Nat) (t : TypeId) (v : Value) (s : St) : Prop where
  rd : Rd w gr v s.at0 s.bad
  en : Whole w ge t s.cs
  two : Two gr ge w0 w
  near : s.at0 ≤ far

theorem pInt_in {xs : List UInt8} {at0 : Nat} {X : Value} {u : Nat} (h : pInt (xs.drop at0) = some (X, u)) : at0 + u ≤ xs.length := by
  unfold pInt at h
  cases hg : Pure.get (xs.drop at0) with
  | none => rw [hg] at h; cases h
  | some r => rw [hg] at h; simp only [Option.some.injEq, Prod.mk.injEq] at h; have := (get_in (n := r.1) (u := r.2) hg).1; omega

theorem callInt {w : World} {v : Value} {xs : List UInt8} {at0 : Nat} (hat : at0 ≤ far) (hv : Bytes w v xs) :
    Calls Try.prog 16 #[v, .int .i64 at0] w fun e w' => w = w' ∧ ((∃ x u, pInt (xs.drop at0) = some (.int .i64 x, u) ∧ at0 + u ≤ xs.length ∧ e = .returned (.tuple #[.int .i64 x, .int .i64 ((at0 : Int) + (u : Int)), .bool true])) ∨
      (pInt (xs.drop at0) = none ∧ ∃ x n, e = .returned (.tuple #[.int .i64 x, .int .i64 n, .bool false]))) := by
  unfold far at hat
  cases hg : Pure.get (xs.drop at0) with
  | none => exact (getInt_none hg (by omega) hv).mono fun e w' ⟨he, hw⟩ => ⟨hw, .inr ⟨by unfold pInt; rw [hg], 0, 0, he⟩⟩
  | some r =>
    obtain ⟨n, u⟩ := r
    exact (getInt_some hg (by omega) hv).mono fun e w' ⟨he, hw⟩ => ⟨hw, .inl ⟨n, u, by unfold pInt; rw [hg], (get_in hg).1, he⟩⟩

theorem getTxt_in {xs : List UInt8} {at0 : Nat} {t : List UInt8} {u : Nat} (h : getTxt (xs.drop at0) = some (t, u)) : at0 + u ≤ xs.length := by
  unfold getTxt at h
  cases hg : Pure.get (xs.drop at0) with
  | none => rw [hg] at h; cases h
  | some r =>
    obtain ⟨n, k⟩ := r
    obtain ⟨h1, _⟩ := get_in hg
    rw [hg] at h
    simp only at h
    split at h
    · rename_i hc
      simp only [Option.some.injEq, Prod.mk.injEq] at h
      rw [List.length_drop] at hc
      omega
    · cases h

theorem callTxt {w : World} {v : Value} {xs : List UInt8} {at0 : Nat} (hat : at0 ≤ far) (hv : Bytes w v xs) :
    Calls Try.prog 17 #[v, .int .i64 at0] w fun e w' => w = w' ∧ ((∃ x u, pTxt (xs.drop at0) = some (.string x, u) ∧ at0 + u ≤ xs.length ∧ e = .returned (.tuple #[.string x, .int .i64 ((at0 : Int) + (u : Int)), .bool true])) ∨
      (pTxt (xs.drop at0) = none ∧ ∃ x n, e = .returned (.tuple #[.string x, .int .i64 n, .bool false]))) := by
  unfold far at hat
  refine (getText_core w v xs at0 (by omega) hv).mono fun e w' ⟨he, hw⟩ => ⟨hw, ?_⟩
  cases hg : getTxt (xs.drop at0) with
  | none => rw [hg] at he; exact .inr ⟨by unfold pTxt; rw [hg], _, _, he⟩
  | some r =>
    obtain ⟨t, u⟩ := r
    rw [hg] at he
    exact .inl ⟨_, u, by unfold pTxt; rw [hg], getTxt_in hg, he⟩

theorem getBit_in {xs : List UInt8} {at0 : Nat} {b : Bool} {u : Nat} (h : getBit (xs.drop at0) = some (b, u)) : at0 + u ≤ xs.length := by
  unfold getBit at h
  by_cases hl : at0 < xs.length
  · rw [List.drop_eq_getElem_cons hl] at h
    simp only at h
    split at h
    · simp only [Option.some.injEq, Prod.mk.injEq] at h; omega
    · cases h
  · rw [List.drop_of_length_le (by omega)] at h; cases h

theorem callBit {w : World} {v : Value} {xs : List UInt8} {at0 : Nat} (hat : at0 ≤ far) (hv : Bytes w v xs) :
    Calls Try.prog 29 #[v, .int .i64 at0] w fun e w' => w = w' ∧ ((∃ x u, pBit (xs.drop at0) = some (.bool x, u) ∧ at0 + u ≤ xs.length ∧ e = .returned (.tuple #[.bool x, .int .i64 ((at0 : Int) + (u : Int)), .bool true])) ∨
      (pBit (xs.drop at0) = none ∧ ∃ x n, e = .returned (.tuple #[.bool x, .int .i64 n, .bool false]))) := by
  unfold far at hat
  refine (getBool_core w v xs at0 (by omega) hv).mono fun e w' ⟨he, hw⟩ => ⟨hw, ?_⟩
  cases hg : getBit (xs.drop at0) with
  | none => rw [hg] at he; exact .inr ⟨by unfold pBit; rw [hg], _, _, he⟩
  | some r =>
    obtain ⟨t, u⟩ := r
    rw [hg] at he
    exact .inl ⟨_, u, by unfold pBit; rw [hg], getBit_in hg, he⟩

theorem getVer_in {xs : List UInt8} {at0 : Nat} {b : Nat × Nat} {u : Nat} (h : getVer (xs.drop at0) = some (b, u)) : at0 + u ≤ xs.length := by
  unfold getVer at h
  cases hg : Pure.get (xs.drop at0) with
  | none => rw [hg] at h; cases h
  | some r =>
    obtain ⟨n, k⟩ := r
    have h1 := (get_in hg).1
    rw [hg] at h
    simp only at h
    split at h
    · rw [List.drop_drop] at h
      cases hg2 : Pure.get (xs.drop (at0 + k)) with
      | none => rw [hg2] at h; cases h
      | some r2 =>
        obtain ⟨n2, k2⟩ := r2
        have h2 := (get_in hg2).1
        rw [hg2] at h
        simp only at h
        split at h
        · simp only [Option.some.injEq, Prod.mk.injEq] at h; omega
        · cases h
    · cases h

theorem callVer {w : World} {v : Value} {xs : List UInt8} {at0 : Nat} (hat : at0 ≤ far) (hv : Bytes w v xs) :
    Calls Try.prog 27 #[v, .int .i64 at0] w fun e w' => w = w' ∧ ((∃ x y u, pVer (xs.drop at0) = some (.complex .f64 x y, u) ∧ at0 + u ≤ xs.length ∧ e = .returned (.tuple #[.complex .f64 x y, .int .i64 ((at0 : Int) + (u : Int)), .bool true])) ∨
      (pVer (xs.drop at0) = none ∧ ∃ x y n, e = .returned (.tuple #[.complex .f64 x y, .int .i64 n, .bool false]))) := by
  unfold far at hat
  refine (getVer_core w v xs at0 hat hv).mono fun e w' ⟨he, hw⟩ => ⟨hw, ?_⟩
  cases hg : getVer (xs.drop at0) with
  | none => rw [hg] at he; exact .inr ⟨by unfold pVer; rw [hg], _, _, _, he⟩
  | some r =>
    obtain ⟨⟨a, b⟩, u⟩ := r
    rw [hg] at he
    exact .inl ⟨_, _, u, by unfold pVer; rw [hg]; rfl, getVer_in hg, he⟩

theorem Stands.yes {w0 w : World} {gr ge : Nat} {t : TypeId} {v : Value} {s : St} {p : Parser} {xs : List UInt8} {j : Nat} {X : Value} {u : Nat} (h : Stands w0 w gr ge t v s) (hne : gr ≠ ge) (hb : s.bad = false) (hp : p (xs.drop s.at0) = some (X, u)) (hu : s.at0 + u ≤ xs.length) (hx : xs.length ≤ far) :
    Stands w0 ((w.setCell ⟨gr, 1, none⟩ (.int .i64 ((s.at0 : Int) + (u : Int)))).setCell ⟨ge, j, none⟩ X) gr ge t v (one p xs j s) := by
  rw [one_yes hb hp]
  refine ⟨?_, ?_, (h.two.setL _ _).setR _ _, by show s.at0 + u ≤ far; omega⟩
  · have h1 := (h.rd.put 1 (.int .i64 ((s.at0 : Int) + (u : Int)))).far (a := ⟨ge, j, none⟩) hne X
    rw [hb] at h1
    exact h1
  · exact (h.en.far (a := ⟨gr, 1, none⟩) (fun e => hne e.symm) _).put j X

theorem Stands.no {w0 w : World} {gr ge : Nat} {t : TypeId} {v : Value} {s : St} {p : Parser} {xs : List UInt8} {j : Nat} (h : Stands w0 w gr ge t v s) (hne : gr ≠ ge) (hb : s.bad = false) (hp : p (xs.drop s.at0) = none) :
    Stands w0 (w.setCell ⟨gr, 2, none⟩ (.bool true)) gr ge t v (one p xs j s) := by
  rw [one_no hb hp]
  exact ⟨h.rd.put 2 (.bool true), h.en.far (a := ⟨gr, 2, none⟩) (fun e => hne e.symm) _, h.two.setL _ _, h.near⟩

theorem Stands.drew {w0 w : World} {gr ge : Nat} {t : TypeId} {v : Value} {s : St} (h : Stands w0 w gr ge t v s) : Stands w0 w.drew gr ge t v s := ⟨h.rd, h.en, h.two.drew, h.near⟩

set_option maxRecDepth 100000 in
set_option maxHeartbeats 1000000 in
theorem ver_read {w : World} {gr ge : Nat} {t : TypeId} {v : Value} {xs : List UInt8} {s : St} (j : Nat) (hst : Stands w w gr ge t v s) (hv : Bytes w v xs) (hne : gr ≠ ge) (hx : xs.length ≤ far) (hj : j < s.cs.size) :
    Calls Try.prog 49 #[.pointer (some ⟨gr, 0, none⟩), .pointer (some ⟨ge, j, none⟩)] w fun e w' => e = .returned (.tuple #[]) ∧ Stands w w' gr ge t v (one pVer xs j s) := by
  have c0 := hst.rd.cell 0
  have c1 := hst.rd.cell 1
  have c2 := hst.rd.cell 2
  simp only [List.getElem?_toArray, List.getElem?_cons_succ, List.getElem?_cons_zero] at c0 c1 c2
  have HT := Lib.hid hst
  have HW := Lib.hid hv
  clear hst hv
  cases hbad : s.bad with
  | true =>
    rw [hbad] at c2
    have HB := Lib.hid hbad
    clear hbad
    go_enter Try.func49, Try.ntmps49
    go_wp2
    refine bodyPost_ret (results_none rfl _ _ _) rfl ?_
    refine ⟨rfl, ?_⟩
    rw [one_bad HB.out]
    exact HT.out
  | false =>
    rw [hbad] at c2
    have HB := Lib.hid hbad
    clear hbad
    go_enter Try.func49, Try.ntmps49
    go_wp2_with fail
    refine wp_region_chain (fun w' => w'.cell? ⟨gr, 0, none⟩ = some v ∧ w'.cell? ⟨gr, 1, none⟩ = some (.int .i64 s.at0)) [(true, 0), (true, 1), (true, 2), (true, 3), (true, 4), (true, 5), (true, 6), (true, 7), (false, 8), (true, 9), (true, 10), (true, 11), (true, 12), (true, 13), (true, 14), (true, 15)] (by kernel_rfl) (by kernel_rfl) (fun _ _ d _ _ h => by cases d <;> exact h) ⟨c0, c1⟩ ?_
    iterate 8
      apply chain_take rfl rfl
      · rintro w' ⟨c0, c1⟩
        go_simp
        with_reducible rfl
      simp only [List.getElem_toArray, List.getElem_cons_succ, List.getElem_cons_zero, Act.put, List.setIfInBounds_toArray, List.set_cons_zero, List.set_cons_succ]
    refine chain_go rfl ?_
    go_wp2_with fail
    refine (callVer HT.out.near (HW.out.keep ((Below.refl _ _).drew))).mono ?_
    rintro e w' ⟨rfl, ⟨x, y, u, hp1, hu, rfl⟩ | ⟨hp1, x, y, n, rfl⟩⟩
    · have HP1 := Lib.hid hp1
      clear hp1
      go_wp2_with fail
      refine ⟨⟨c0, c1⟩, ?_⟩
      iterate 7
        apply chain_take rfl rfl
        · rintro w' ⟨c0, c1⟩
          go_simp
          with_reducible rfl
        simp only [List.getElem_toArray, List.getElem_cons_succ, List.getElem_cons_zero, Act.put, List.setIfInBounds_toArray, List.set_cons_zero, List.set_cons_succ]
      apply chain_end
      go_wp2_with fail
      have hst := HT.out.drew
      have hrd := hst.rd
      rw [HB.out] at hrd
      refine (step_yes _ hrd).mono ?_
      rintro e w' ⟨rfl, rfl⟩
      have hen := hst.en.far (a := ⟨gr, 1, none⟩) (fun e => hne e.symm) (.int .i64 ((s.at0 : Int) + (u : Int)))
      rw [World.setCell_drew] at hen
      have e1 := hen.cell j
      have e2 := hen.free j
      rw [Array.getElem?_eq_getElem (by omega)] at e1
      have hnew := hst.yes (j := j) hne HB.out HP1.out hu hx
      have HN := Lib.hid hnew
      clear hst hrd hen hnew
      go_wp2
      go_end0
      exact ⟨rfl, HN.out⟩
    · have HP1 := Lib.hid hp1
      clear hp1
      go_wp2_with fail
      refine ⟨⟨c0, c1⟩, ?_⟩
      iterate 7
        apply chain_take rfl rfl
        · rintro w' ⟨c0, c1⟩
          go_simp
          with_reducible rfl
        simp only [List.getElem_toArray, List.getElem_cons_succ, List.getElem_cons_zero, Act.put, List.setIfInBounds_toArray, List.set_cons_zero, List.set_cons_succ]
      apply chain_end
      go_wp2_with fail
      have hst := HT.out.drew
      refine (step_no _ hst.rd).mono ?_
      rintro e w' ⟨rfl, rfl⟩
      have hnew := hst.no (j := j) hne HB.out HP1.out
      have HN := Lib.hid hnew
      clear hst hnew
      go_wp2
      go_end0
      exact ⟨rfl, HN.out⟩

set_option maxRecDepth 100000 in
set_option maxHeartbeats 1000000 in
theorem ints_core {w : World} {gr ge gs : Nat} {t : TypeId} {v : Value} {xs : List UInt8} {s0 : St} (j K : Nat) (hs : Stands w w gr ge t v s0) (hv : Bytes w v xs) (hne : gr ≠ ge) (h1 : Apart v gr) (h2 : Apart v ge) (hx : xs.length ≤ far)
    (hg1 : gs ≠ gr) (hg2 : gs ≠ ge) (hK : K ≤ 1000) (hp : ∀ i, i < K → w.cell? ⟨gs, i, none⟩ = some (.pointer (some ⟨ge, j + i, none⟩))) (hj : j + K ≤ s0.cs.size) :
    Calls Try.prog 50 #[.pointer (some ⟨gr, 0, none⟩), .slice (some ⟨gs, 0, none⟩) K K] w fun e w' => e = .returned (.tuple #[]) ∧ Stands w w' gr ge t v (many pInt xs j K s0) := by
  have HP := Lib.hid hp
  clear hp
  go_enter Try.func50, Try.ntmps50
  go_wp2
  go_loopw [11] (fun i wr => ∃ k : Nat, k ≤ K ∧ i = .int .i64 k ∧ Stands w wr gr ge t v (many pInt xs j k s0)) (fun i _ => K - (intOf i).toNat)
  case atStart => exact ⟨0, Nat.zero_le _, rfl, hs⟩
  case round =>
    obtain ⟨k, hk, rfl, hst⟩ := hrel
    by_cases hlt : k < K
    · have hc := HP.out k hlt
      rw [← hst.two.cell (a := ⟨gs, k, none⟩) hg1 hg2] at hc
      obtain ⟨s, hse⟩ : ∃ s, s = many pInt xs j k s0 := ⟨_, rfl⟩
      have hsz : s.cs.size = s0.cs.size := by rw [hse]; exact many_size _ _ _ _ _
      rw [← hse] at hst
      have c0 := hst.rd.cell 0
      have c1 := hst.rd.cell 1
      have c2 := hst.rd.cell 2
      simp only [List.getElem?_toArray, List.getElem?_cons_succ, List.getElem?_cons_zero] at c0 c1 c2
      have hw := hv.two hst.two h1 h2
      have HS := Lib.hid hse
      have HT := Lib.hid hst
      have HW := Lib.hid hw
      clear hse hst hw
      cases hbad : s.bad with
      | true =>
        rw [hbad] at c2
        have HB := Lib.hid hbad
        clear hbad
        go_wp2
        refine bodyPost_ret (results_none rfl _ _ _) rfl ?_
        refine ⟨rfl, ?_⟩
        have hst := HT.out
        have e := HS.out
        have hb := HB.out
        obtain ⟨d, rfl⟩ : ∃ d, K = k + d := ⟨K - k, by omega⟩
        rw [many_stay (by rw [← e]; exact hb) d, ← e]
        exact hst
      | false =>
        rw [hbad] at c2
        have HB := Lib.hid hbad
        clear hbad
        go_wp2_with fail
        refine wp_region_chain (fun w' => w'.cell? ⟨gr, 0, none⟩ = some v ∧ w'.cell? ⟨gr, 1, none⟩ = some (.int .i64 s.at0)) [(true, 0), (true, 1), (true, 2), (true, 3), (true, 4), (true, 5), (true, 6), (true, 7), (false, 8), (true, 9), (true, 10), (true, 11), (true, 12), (true, 13), (true, 14), (true, 15)] (by kernel_rfl) (by kernel_rfl) (fun _ _ d _ _ h => by cases d <;> exact h) ⟨c0, c1⟩ ?_
        iterate 8
          apply chain_take rfl rfl
          · rintro w' ⟨c0, c1⟩
            go_simp
            with_reducible rfl
          simp only [List.getElem_toArray, List.getElem_cons_succ, List.getElem_cons_zero, Act.put, List.setIfInBounds_toArray, List.set_cons_zero, List.set_cons_succ]
        refine chain_go rfl ?_
        go_wp2_with fail
        refine (callInt HT.out.near (HW.out.two (Two.refl gr ge _).drew h1 h2)).mono ?_
        rintro e w' ⟨rfl, ⟨x, u, hp1, hu, rfl⟩ | ⟨hp1, x, n, rfl⟩⟩
        · have HP1 := Lib.hid hp1
          clear hp1
          go_wp2_with fail
          refine ⟨⟨c0, c1⟩, ?_⟩
          iterate 7
            apply chain_take rfl rfl
            · rintro w' ⟨c0, c1⟩
              go_simp
              with_reducible rfl
            simp only [List.getElem_toArray, List.getElem_cons_succ, List.getElem_cons_zero, Act.put, List.setIfInBounds_toArray, List.set_cons_zero, List.set_cons_succ]
          apply chain_end
          go_wp2_with fail
          have hst := HT.out.drew
          have hrd := hst.rd
          rw [HB.out] at hrd
          refine (step_yes _ hrd).mono ?_
          rintro e w' ⟨rfl, rfl⟩
          have hen := hst.en.far (a := ⟨gr, 1, none⟩) (fun e => hne e.symm) (.int .i64 ((s.at0 : Int) + (u : Int)))
          rw [World.setCell_drew] at hen
          have e1 := hen.cell (j + k)
          have e2 := hen.free (j + k)
          rw [Array.getElem?_eq_getElem (by omega)] at e1
          have hnew := hst.yes (j := j + k) hne HB.out HP1.out hu hx
          have HN := Lib.hid hnew
          clear hst hrd hen hnew
          go_wp2
          go_roundw
          case rel =>
            clear e1 e2
            refine ⟨k + 1, by omega, by go_num, ?_⟩
            show Stands _ _ _ _ _ _ (one pInt xs (j + k) (many pInt xs j k s0))
            rw [← HS.out]
            exact HN.out
          case measure => simp [intOf]; omega
        · have HP1 := Lib.hid hp1
          clear hp1
          go_wp2_with fail
          refine ⟨⟨c0, c1⟩, ?_⟩
          iterate 7
            apply chain_take rfl rfl
            · rintro w' ⟨c0, c1⟩
              go_simp
              with_reducible rfl
            simp only [List.getElem_toArray, List.getElem_cons_succ, List.getElem_cons_zero, Act.put, List.setIfInBounds_toArray, List.set_cons_zero, List.set_cons_succ]
          apply chain_end
          go_wp2_with fail
          have hst := HT.out.drew
          refine (step_no _ hst.rd).mono ?_
          rintro e w' ⟨rfl, rfl⟩
          have hnew := hst.no (j := j + k) hne HB.out HP1.out
          have HN := Lib.hid hnew
          clear hst hnew
          go_wp2
          go_roundw
          case rel =>
            refine ⟨k + 1, by omega, by go_num, ?_⟩
            show Stands _ _ _ _ _ _ (one pInt xs (j + k) (many pInt xs j k s0))
            rw [← HS.out]
            exact HN.out
          case measure => simp [intOf]; omega
    · have e : k = K := by omega
      subst e
      go_wp2
      go_end0
      exact ⟨rfl, hst⟩

set_option maxRecDepth 100000 in
set_option maxHeartbeats 1000000 in
theorem texts_core {w : World} {gr ge gs : Nat} {t : TypeId} {v : Value} {xs : List UInt8} {s0 : St} (j K : Nat) (hs : Stands w w gr ge t v s0) (hv : Bytes w v xs) (hne : gr ≠ ge) (h1 : Apart v gr) (h2 : Apart v ge) (hx : xs.length ≤ far)
    (hg1 : gs ≠ gr) (hg2 : gs ≠ ge) (hK : K ≤ 1000) (hp : ∀ i, i < K → w.cell? ⟨gs, i, none⟩ = some (.pointer (some ⟨ge, j + i, none⟩))) (hj : j + K ≤ s0.cs.size) :
    Calls Try.prog 51 #[.pointer (some ⟨gr, 0, none⟩), .slice (some ⟨gs, 0, none⟩) K K] w fun e w' => e = .returned (.tuple #[]) ∧ Stands w w' gr ge t v (many pTxt xs j K s0) := by
  have HP := Lib.hid hp
  clear hp
  go_enter Try.func51, Try.ntmps51
  go_wp2
  go_loopw [11] (fun i wr => ∃ k : Nat, k ≤ K ∧ i = .int .i64 k ∧ Stands w wr gr ge t v (many pTxt xs j k s0)) (fun i _ => K - (intOf i).toNat)
  case atStart => exact ⟨0, Nat.zero_le _, rfl, hs⟩
  case round =>
    obtain ⟨k, hk, rfl, hst⟩ := hrel
    by_cases hlt : k < K
    · have hc := HP.out k hlt
      rw [← hst.two.cell (a := ⟨gs, k, none⟩) hg1 hg2] at hc
      obtain ⟨s, hse⟩ : ∃ s, s = many pTxt xs j k s0 := ⟨_, rfl⟩
      have hsz : s.cs.size = s0.cs.size := by rw [hse]; exact many_size _ _ _ _ _
      rw [← hse] at hst
      have c0 := hst.rd.cell 0
      have c1 := hst.rd.cell 1
      have c2 := hst.rd.cell 2
      simp only [List.getElem?_toArray, List.getElem?_cons_succ, List.getElem?_cons_zero] at c0 c1 c2
      have hw := hv.two hst.two h1 h2
      have HS := Lib.hid hse
      have HT := Lib.hid hst
      have HW := Lib.hid hw
      clear hse hst hw
      cases hbad : s.bad with
      | true =>
        rw [hbad] at c2
        have HB := Lib.hid hbad
        clear hbad
        go_wp2
        refine bodyPost_ret (results_none rfl _ _ _) rfl ?_
        refine ⟨rfl, ?_⟩
        have hst := HT.out
        have e := HS.out
        have hb := HB.out
        obtain ⟨d, rfl⟩ : ∃ d, K = k + d := ⟨K - k, by omega⟩
        rw [many_stay (by rw [← e]; exact hb) d, ← e]
        exact hst
      | false =>
        rw [hbad] at c2
        have HB := Lib.hid hbad
        clear hbad
        go_wp2_with fail
        refine wp_region_chain (fun w' => w'.cell? ⟨gr, 0, none⟩ = some v ∧ w'.cell? ⟨gr, 1, none⟩ = some (.int .i64 s.at0)) [(true, 0), (true, 1), (true, 2), (true, 3), (true, 4), (true, 5), (true, 6), (true, 7), (false, 8), (true, 9), (true, 10), (true, 11), (true, 12), (true, 13), (true, 14), (true, 15)] (by kernel_rfl) (by kernel_rfl) (fun _ _ d _ _ h => by cases d <;> exact h) ⟨c0, c1⟩ ?_
        iterate 8
          apply chain_take rfl rfl
          · rintro w' ⟨c0, c1⟩
            go_simp
            with_reducible rfl
          simp only [List.getElem_toArray, List.getElem_cons_succ, List.getElem_cons_zero, Act.put, List.setIfInBounds_toArray, List.set_cons_zero, List.set_cons_succ]
        refine chain_go rfl ?_
        go_wp2_with fail
        refine (callTxt HT.out.near (HW.out.two (Two.refl gr ge _).drew h1 h2)).mono ?_
        rintro e w' ⟨rfl, ⟨x, u, hp1, hu, rfl⟩ | ⟨hp1, x, n, rfl⟩⟩
        · have HP1 := Lib.hid hp1
          clear hp1
          go_wp2_with fail
          refine ⟨⟨c0, c1⟩, ?_⟩
          iterate 7
            apply chain_take rfl rfl
            · rintro w' ⟨c0, c1⟩
              go_simp
              with_reducible rfl
            simp only [List.getElem_toArray, List.getElem_cons_succ, List.getElem_cons_zero, Act.put, List.setIfInBounds_toArray, List.set_cons_zero, List.set_cons_succ]
          apply chain_end
          go_wp2_with fail
          have hst := HT.out.drew
          have hrd := hst.rd
          rw [HB.out] at hrd
          refine (step_yes _ hrd).mono ?_
          rintro e w' ⟨rfl, rfl⟩
          have hen := hst.en.far (a := ⟨gr, 1, none⟩) (fun e => hne e.symm) (.int .i64 ((s.at0 : Int) + (u : Int)))
          rw [World.setCell_drew] at hen
          have e1 := hen.cell (j + k)
          have e2 := hen.free (j + k)
          rw [Array.getElem?_eq_getElem (by omega)] at e1
          have hnew := hst.yes (j := j + k) hne HB.out HP1.out hu hx
          have HN := Lib.hid hnew
          clear hst hrd hen hnew
          go_wp2
          go_roundw
          case rel =>
            clear e1 e2
            refine ⟨k + 1, by omega, by go_num, ?_⟩
            show Stands _ _ _ _ _ _ (one pTxt xs (j + k) (many pTxt xs j k s0))
            rw [← HS.out]
            exact HN.out
          case measure => simp [intOf]; omega
        · have HP1 := Lib.hid hp1
          clear hp1
          go_wp2_with fail
          refine ⟨⟨c0, c1⟩, ?_⟩
          iterate 7
            apply chain_take rfl rfl
            · rintro w' ⟨c0, c1⟩
              go_simp
              with_reducible rfl
            simp only [List.getElem_toArray, List.getElem_cons_succ, List.getElem_cons_zero, Act.put, List.setIfInBounds_toArray, List.set_cons_zero, List.set_cons_succ]
          apply chain_end
          go_wp2_with fail
          have hst := HT.out.drew
          refine (step_no _ hst.rd).mono ?_
          rintro e w' ⟨rfl, rfl⟩
          have hnew := hst.no (j := j + k) hne HB.out HP1.out
          have HN := Lib.hid hnew
          clear hst hnew
          go_wp2
          go_roundw
          case rel =>
            refine ⟨k + 1, by omega, by go_num, ?_⟩
            show Stands _ _ _ _ _ _ (one pTxt xs (j + k) (many pTxt xs j k s0))
            rw [← HS.out]
            exact HN.out
          case measure => simp [intOf]; omega
    · have e : k = K := by omega
      subst e
      go_wp2
      go_end0
      exact ⟨rfl, hst⟩

set_option maxRecDepth 100000 in
set_option maxHeartbeats 1000000 in
theorem bools_core {w : World} {gr ge gs : Nat} {t : TypeId} {v : Value} {xs : List UInt8} {s0 : St} (j K : Nat) (hs : Stands w w gr ge t v s0) (hv : Bytes w v xs) (hne : gr ≠ ge) (h1 : Apart v gr) (h2 : Apart v ge) (hx : xs.length ≤ far)
    (hg1 : gs ≠ gr) (hg2 : gs ≠ ge) (hK : K ≤ 1000) (hp : ∀ i, i < K → w.cell? ⟨gs, i, none⟩ = some (.pointer (some ⟨ge, j + i, none⟩))) (hj : j + K ≤ s0.cs.size) :
    Calls Try.prog 52 #[.pointer (some ⟨gr, 0, none⟩), .slice (some ⟨gs, 0, none⟩) K K] w fun e w' => e = .returned (.tuple #[]) ∧ Stands w w' gr ge t v (many pBit xs j K s0) := by
  have HP := Lib.hid hp
  clear hp
  go_enter Try.func52, Try.ntmps52
  go_wp2
  go_loopw [11] (fun i wr => ∃ k : Nat, k ≤ K ∧ i = .int .i64 k ∧ Stands w wr gr ge t v (many pBit xs j k s0)) (fun i _ => K - (intOf i).toNat)
  case atStart => exact ⟨0, Nat.zero_le _, rfl, hs⟩
  case round =>
    obtain ⟨k, hk, rfl, hst⟩ := hrel
    by_cases hlt : k < K
    · have hc := HP.out k hlt
      rw [← hst.two.cell (a := ⟨gs, k, none⟩) hg1 hg2] at hc
      obtain ⟨s, hse⟩ : ∃ s, s = many pBit xs j k s0 := ⟨_, rfl⟩
      have hsz : s.cs.size = s0.cs.size := by rw [hse]; exact many_size _ _ _ _ _
      rw [← hse] at hst
      have c0 := hst.rd.cell 0
      have c1 := hst.rd.cell 1
      have c2 := hst.rd.cell 2
      simp only [List.getElem?_toArray, List.getElem?_cons_succ, List.getElem?_cons_zero] at c0 c1 c2
      have hw := hv.two hst.two h1 h2
      have HS := Lib.hid hse
      have HT := Lib.hid hst
      have HW := Lib.hid hw
      clear hse hst hw
      cases hbad : s.bad with
      | true =>
        rw [hbad] at c2
        have HB := Lib.hid hbad
        clear hbad
        go_wp2
        refine bodyPost_ret (results_none rfl _ _ _) rfl ?_
        refine ⟨rfl, ?_⟩
        have hst := HT.out
        have e := HS.out
        have hb := HB.out
        obtain ⟨d, rfl⟩ : ∃ d, K = k + d := ⟨K - k, by omega⟩
        rw [many_stay (by rw [← e]; exact hb) d, ← e]
        exact hst
      | false =>
        rw [hbad] at c2
        have HB := Lib.hid hbad
        clear hbad
        go_wp2_with fail
        refine wp_region_chain (fun w' => w'.cell? ⟨gr, 0, none⟩ = some v ∧ w'.cell? ⟨gr, 1, none⟩ = some (.int .i64 s.at0)) [(true, 0), (true, 1), (true, 2), (true, 3), (true, 4), (true, 5), (true, 6), (true, 7), (false, 8), (true, 9), (true, 10), (true, 11), (true, 12), (true, 13), (true, 14), (true, 15)] (by kernel_rfl) (by kernel_rfl) (fun _ _ d _ _ h => by cases d <;> exact h) ⟨c0, c1⟩ ?_
        iterate 8
          apply chain_take rfl rfl
          · rintro w' ⟨c0, c1⟩
            go_simp
            with_reducible rfl
          simp only [List.getElem_toArray, List.getElem_cons_succ, List.getElem_cons_zero, Act.put, List.setIfInBounds_toArray, List.set_cons_zero, List.set_cons_succ]
        refine chain_go rfl ?_
        go_wp2_with fail
        refine (callBit HT.out.near (HW.out.two (Two.refl gr ge _).drew h1 h2)).mono ?_
        rintro e w' ⟨rfl, ⟨x, u, hp1, hu, rfl⟩ | ⟨hp1, x, n, rfl⟩⟩
        · have HP1 := Lib.hid hp1
          clear hp1
          go_wp2_with fail
          refine ⟨⟨c0, c1⟩, ?_⟩
          iterate 7
            apply chain_take rfl rfl
            · rintro w' ⟨c0, c1⟩
              go_simp
              with_reducible rfl
            simp only [List.getElem_toArray, List.getElem_cons_succ, List.getElem_cons_zero, Act.put, List.setIfInBounds_toArray, List.set_cons_zero, List.set_cons_succ]
          apply chain_end
          go_wp2_with fail
          have hst := HT.out.drew
          have hrd := hst.rd
          rw [HB.out] at hrd
          refine (step_yes _ hrd).mono ?_
          rintro e w' ⟨rfl, rfl⟩
          have hen := hst.en.far (a := ⟨gr, 1, none⟩) (fun e => hne e.symm) (.int .i64 ((s.at0 : Int) + (u : Int)))
          rw [World.setCell_drew] at hen
          have e1 := hen.cell (j + k)
          have e2 := hen.free (j + k)
          rw [Array.getElem?_eq_getElem (by omega)] at e1
          have hnew := hst.yes (j := j + k) hne HB.out HP1.out hu hx
          have HN := Lib.hid hnew
          clear hst hrd hen hnew
          go_wp2
          go_roundw
          case rel =>
            clear e1 e2
            refine ⟨k + 1, by omega, by go_num, ?_⟩
            show Stands _ _ _ _ _ _ (one pBit xs (j + k) (many pBit xs j k s0))
            rw [← HS.out]
            exact HN.out
          case measure => simp [intOf]; omega
        · have HP1 := Lib.hid hp1
          clear hp1
          go_wp2_with fail
          refine ⟨⟨c0, c1⟩, ?_⟩
          iterate 7
            apply chain_take rfl rfl
            · rintro w' ⟨c0, c1⟩
              go_simp
              with_reducible rfl
            simp only [List.getElem_toArray, List.getElem_cons_succ, List.getElem_cons_zero, Act.put, List.setIfInBounds_toArray, List.set_cons_zero, List.set_cons_succ]
          apply chain_end
          go_wp2_with fail
          have hst := HT.out.drew
          refine (step_no _ hst.rd).mono ?_
          rintro e w' ⟨rfl, rfl⟩
          have hnew := hst.no (j := j + k) hne HB.out HP1.out
          have HN := Lib.hid hnew
          clear hst hnew
          go_wp2
          go_roundw
          case rel =>
            refine ⟨k + 1, by omega, by go_num, ?_⟩
            show Stands _ _ _ _ _ _ (one pBit xs (j + k) (many pBit xs j k s0))
            rw [← HS.out]
            exact HN.out
          case measure => simp [intOf]; omega
    · have e : k = K := by omega
      subst e
      go_wp2
      go_end0
      exact ⟨rfl, hst⟩
end Go.Proofs.Ytjpaljiielemgaa
