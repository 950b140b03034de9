/- The document's answer's 'GetText' and 'GetVer': they read what the program's read. -/
import Derived.Test.YtjpaljiielemgaaRefGet
namespace Go.Proofs.Ytjpaljiielemgaa
open Go.RowKit

theorem refGetInt_some {w : World} {v : Value} {xs : List UInt8} {at0 : Nat} {n : Int} {u : Nat} (h : Pure.get (xs.drop at0) = some (n, u)) (hat : at0 ≤ 4611686018427387904) (hv : Bytes w v xs) :
    Calls Try.prog 25 #[v, .int .i64 at0] w fun e w' => e = .returned (.tuple #[.int .i64 n, .int .i64 ((at0 : Int) + (u : Int)), .bool true]) ∧ w = w' :=
  (refGetInt_any w v xs at0 hat hv).mono fun e w' hg => by
    obtain ⟨he, hw⟩ := hg
    rw [h] at he
    exact ⟨he, hw.symm⟩

theorem refGetInt_none {w : World} {v : Value} {xs : List UInt8} {at0 : Nat} (h : Pure.get (xs.drop at0) = none) (hat : at0 ≤ 4611686018427387904) (hv : Bytes w v xs) :
    Calls Try.prog 25 #[v, .int .i64 at0] w fun e w' => e = .returned (.tuple #[.int .i64 0, .int .i64 0, .bool false]) ∧ w = w' :=
  (refGetInt_any w v xs at0 hat hv).mono fun e w' hg => by
    obtain ⟨he, hw⟩ := hg
    rw [h] at he
    exact ⟨he, hw.symm⟩

set_option maxRecDepth 100000 in
set_option maxHeartbeats 400000 in
theorem refGetText_core (w : World) (v : Value) (xs : List UInt8) (at0 : Nat) (hat : at0 ≤ 4611686018427387904) (hv : Bytes w v xs) :
    Calls Try.prog 26 #[v, .int .i64 at0] w (GotTxt w at0 (getTxt (xs.drop at0))) := by
  have hvx := hv
  obtain ⟨a, cap, rfl, hl, hm, h3⟩ := hv
  clear h3
  unfold maxLen at hm
  cases hg : Pure.get (xs.drop at0) with
  | none =>
    have hspec : getTxt (xs.drop at0) = none := by unfold getTxt; rw [hg]
    rw [hspec]
    have H := Lib.hid hg
    clear hg hspec
    go_enter Try.func26, Try.ntmps26
    go_wp2_with fail
    refine (refGetInt_none H.out hat hvx).mono ?_
    rintro e w' ⟨rfl, rfl⟩
    go_wp2
    go_ret3
    exact ⟨rfl, rfl⟩
  | some p =>
    obtain ⟨n, u⟩ := p
    obtain ⟨hin, hn1, hn2, hu, hu0⟩ := get_in hg
    have hlen : ((xs.drop at0).length : Int) - (u : Int) = (xs.length : Int) - ((at0 : Int) + (u : Int)) := by rw [List.length_drop]; omega
    have H := Lib.hid hg
    by_cases hok : 0 ≤ n ∧ n ≤ 65536 ∧ n ≤ (xs.length : Int) - ((at0 : Int) + (u : Int))
    · have hspec : getTxt (xs.drop at0) = some (((xs.drop (at0 + u)).take n.toNat), u + n.toNat) := by
        unfold getTxt; rw [hg]; simp only [hlen, if_pos hok, List.drop_drop]
      rw [hspec]
      obtain ⟨v', hsl, hb'⟩ := run_piece hvx ((at0 : Int) + (u : Int)) ((at0 : Int) + (u : Int) + n) (by omega) (by omega) (by omega)
      have hst := run_string hb'
      have e1 : ((at0 : Int) + (u : Int)).toNat = at0 + u := by omega
      have e2 : ((at0 : Int) + (u : Int) + n).toNat - (at0 + u) = n.toNat := by omega
      rw [e1, e2] at hst
      clear hg hspec e1 e2 hb' hlen
      obtain ⟨k0, k1, k2⟩ := hok
      have hw64 : wrap64 ((at0 : Int) + (u : Int) + n) = (at0 : Int) + (u : Int) + n := IntWalk.wrap64_in _ (by omega)
      have d0 : decide (n < 0) = false := decide_eq_false (by omega)
      have d1 : decide (65536 < n) = false := decide_eq_false (by omega)
      have d2 : decide ((xs.length : Int) < (at0 : Int) + (u : Int) + n) = false := decide_eq_false (by omega)
      go_enter Try.func26, Try.ntmps26
      go_wp2_with fail
      refine (refGetInt_some H.out hat hvx).mono ?_
      rintro e w' ⟨rfl, rfl⟩
      go_wp2
      go_ret3
      refine ⟨?_, rfl⟩
      have e3 : (at0 : Int) + (u : Int) + n = (at0 : Int) + ((u + n.toNat : Nat) : Int) := by omega
      rw [e3]
      rfl
    · have hspec : getTxt (xs.drop at0) = none := by
        unfold getTxt; rw [hg]; simp only [hlen, if_neg hok]
      rw [hspec]
      clear hg hspec hlen
      have hg3 : decide (n < 0) = true ∨ decide (n < 0) = false ∧ decide (65536 < n) = true ∨ decide (n < 0) = false ∧ decide (65536 < n) = false ∧ decide ((xs.length : Int) < (at0 : Int) + (u : Int) + n) = true := by
        simp only [decide_eq_true_eq, decide_eq_false_iff_not]; omega
      clear hok
      rcases hg3 with d0 | ⟨d0, d1⟩ | ⟨d0, d1, d2⟩
      rotate_right
      · have hw64 : wrap64 ((at0 : Int) + (u : Int) + n) = (at0 : Int) + (u : Int) + n := IntWalk.wrap64_in _ (by simp only [decide_eq_false_iff_not] at d0 d1; omega)
        go_enter Try.func26, Try.ntmps26
        go_wp2_with fail
        refine (refGetInt_some H.out hat hvx).mono ?_
        rintro e w' ⟨rfl, rfl⟩
        go_wp2
        go_ret3
        exact ⟨rfl, rfl⟩
      all_goals
        go_enter Try.func26, Try.ntmps26
        go_wp2_with fail
        refine (refGetInt_some H.out hat hvx).mono ?_
        rintro e w' ⟨rfl, rfl⟩
        go_wp2
        go_ret3
        exact ⟨rfl, rfl⟩


theorem fits_yes {w : World} {n : Int} (h : 0 ≤ n ∧ n ≤ 1099511627776) : Calls Try.prog 19 #[.int .i64 n] w fun r w' => r = .returned (.bool true) ∧ w = w' :=
  (fits_core w n).mono fun e w' ⟨he, hw⟩ => ⟨by rw [he, decide_eq_true h], hw⟩
theorem fits_no {w : World} {n : Int} (h : ¬ (0 ≤ n ∧ n ≤ 1099511627776)) : Calls Try.prog 19 #[.int .i64 n] w fun r w' => r = .returned (.bool false) ∧ w = w' :=
  (fits_core w n).mono fun e w' ⟨he, hw⟩ => ⟨by rw [he, decide_eq_false h], hw⟩

set_option maxRecDepth 100000 in
set_option maxHeartbeats 400000 in
theorem refGetVer_core (w : World) (v : Value) (xs : List UInt8) (at0 : Nat) (hat : at0 ≤ 2305843009213693952) (hv : Bytes w v xs) :
    Calls Try.prog 28 #[v, .int .i64 at0] w (GotVer w at0 (getVer (xs.drop at0))) := by
  cases hg : Pure.get (xs.drop at0) with
  | none =>
    have hspec : getVer (xs.drop at0) = none := by unfold getVer; rw [hg]
    rw [hspec]
    have H := Lib.hid hg
    clear hg hspec
    go_enter Try.func28, Try.ntmps28
    go_wp2_with fail
    refine (refGetInt_none H.out (by omega) hv).mono ?_
    rintro e w' ⟨rfl, rfl⟩
    go_wp2
    go_ret3
    exact ⟨rfl, rfl⟩
  | some p =>
    obtain ⟨e, u⟩ := p
    obtain ⟨hin, hn1, hn2, hu, hu0⟩ := get_in hg
    have H := Lib.hid hg
    have hdd : (xs.drop at0).drop u = xs.drop (at0 + u) := by rw [List.drop_drop]
    cases hg2 : Pure.get (xs.drop (at0 + u)) with
    | none =>
      have hspec : getVer (xs.drop at0) = none := by unfold getVer; rw [hg]; simp only [hdd, hg2]; split <;> rfl
      rw [hspec]
      have H2 := Lib.hid hg2
      clear hg hspec hg2 hdd
      go_enter Try.func28, Try.ntmps28
      go_wp2_with fail
      refine (refGetInt_some H.out (by omega) hv).mono ?_
      rintro e w' ⟨rfl, rfl⟩
      go_wp2_with fail
      refine (refGetInt_none (at0 := at0 + u) H2.out (by omega) hv).mono ?_
      rintro e w' ⟨rfl, rfl⟩
      go_wp2
      go_ret3
      exact ⟨rfl, rfl⟩
    | some q =>
      obtain ⟨n, k⟩ := q
      obtain ⟨hin2, hm1, hm2, hk, hk0⟩ := get_in hg2
      have H2 := Lib.hid hg2
      by_cases hok : 0 ≤ e ∧ e ≤ 1099511627776
      · have HOK := Lib.hid hok
        by_cases hok2 : 0 ≤ n ∧ n ≤ 1099511627776
        · have HOK2 := Lib.hid hok2
          have hspec : getVer (xs.drop at0) = some ((e.toNat, n.toNat), u + k) := by unfold getVer; rw [hg]; simp only [if_pos hok, hdd, hg2, if_pos hok2]
          rw [hspec]
          obtain ⟨en, rfl⟩ := Int.eq_ofNat_of_zero_le hok.1
          obtain ⟨nn, rfl⟩ := Int.eq_ofNat_of_zero_le hok2.1
          clear hg hspec hg2 hdd hok hok2
          go_enter Try.func28, Try.ntmps28
          go_wp2_with fail
          refine (refGetInt_some H.out (by omega) hv).mono ?_
          rintro e w' ⟨rfl, rfl⟩
          go_wp2_with fail
          refine (refGetInt_some (at0 := at0 + u) H2.out (by omega) hv).mono ?_
          rintro e w' ⟨rfl, rfl⟩
          go_wp2_with fail
          refine (fits_yes HOK.out).mono ?_
          rintro e w' ⟨rfl, rfl⟩
          go_wp2_with fail
          refine (fits_yes HOK2.out).mono ?_
          rintro e w' ⟨rfl, rfl⟩
          go_wp2_with fail
          refine (refMake_core w en nn).mono ?_
          rintro e w' ⟨rfl, rfl⟩
          go_wp2
          go_ret3
          refine ⟨?_, rfl⟩
          have e3 : (at0 : Int) + (u : Int) + (k : Int) = (at0 : Int) + ((u + k : Nat) : Int) := by omega
          simp only [Int.toNat_natCast, e3]
          rfl
        · have HOK2 := Lib.hid hok2
          have hspec : getVer (xs.drop at0) = none := by unfold getVer; rw [hg]; simp only [if_pos hok, hdd, hg2, if_neg hok2]
          rw [hspec]
          clear hg hspec hg2 hdd hok hok2
          go_enter Try.func28, Try.ntmps28
          go_wp2_with fail
          refine (refGetInt_some H.out (by omega) hv).mono ?_
          rintro e w' ⟨rfl, rfl⟩
          go_wp2_with fail
          refine (refGetInt_some (at0 := at0 + u) H2.out (by omega) hv).mono ?_
          rintro e w' ⟨rfl, rfl⟩
          go_wp2_with fail
          refine (fits_yes HOK.out).mono ?_
          rintro e w' ⟨rfl, rfl⟩
          go_wp2_with fail
          refine (fits_no HOK2.out).mono ?_
          rintro e w' ⟨rfl, rfl⟩
          go_wp2
          go_ret3
          exact ⟨rfl, rfl⟩
      · have HOK := Lib.hid hok
        have hspec : getVer (xs.drop at0) = none := by unfold getVer; rw [hg]; simp only [if_neg hok]
        rw [hspec]
        clear hg hspec hg2 hdd hok
        go_enter Try.func28, Try.ntmps28
        go_wp2_with fail
        refine (refGetInt_some H.out (by omega) hv).mono ?_
        rintro e w' ⟨rfl, rfl⟩
        go_wp2_with fail
        refine (refGetInt_some (at0 := at0 + u) H2.out (by omega) hv).mono ?_
        rintro e w' ⟨rfl, rfl⟩
        go_wp2_with fail
        refine (fits_no HOK.out).mono ?_
        rintro e w' ⟨rfl, rfl⟩
        go_wp2
        go_ret3
        exact ⟨rfl, rfl⟩
end Go.Proofs.Ytjpaljiielemgaa
