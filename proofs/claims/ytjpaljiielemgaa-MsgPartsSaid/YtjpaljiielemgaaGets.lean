/- 'wire.GetText', 'GetBool', 'GetVer': what they read, as plain functions of the bytes from the place on. -/
import Derived.Test.YtjpaljiielemgaaGetInt
import Derived.Test.YtjpaljiielemgaaPuts
import Derived.Test.YtjpaljiielemgaaSlice
namespace Go.Proofs.Ytjpaljiielemgaa
open Go.RowKit

def getTxt (l : List UInt8) : Option (List UInt8 × Nat) :=
  match Pure.get l with
  | some (n, u) => if 0 ≤ n ∧ n ≤ 65536 ∧ n ≤ (l.length : Int) - (u : Int) then some ((l.drop u).take n.toNat, u + n.toNat) else none
  | none => none

def getBit (l : List UInt8) : Option (Bool × Nat) :=
  match l with
  | [] => none
  | c :: _ => if c.toNat ≤ 1 then some (decide (c.toNat = 1), 1) else none

def getVer (l : List UInt8) : Option ((Nat × Nat) × Nat) :=
  match Pure.get l with
  | some (e, u) => if 0 ≤ e ∧ e ≤ 1099511627776 then
      match Pure.get (l.drop u) with
      | some (n, k) => if 0 ≤ n ∧ n ≤ 1099511627776 then some ((e.toNat, n.toNat), u + k) else none
      | none => none
    else none
  | none => none

theorem getInt_some {w : World} {v : Value} {xs : List UInt8} {at0 : Nat} {n : Int} {u : Nat} (h : Pure.get (xs.drop at0) = some (n, u)) (hat : at0 ≤ 4611686018427387904) (hv : Bytes w v xs) :
    Calls Try.prog 16 #[v, .int .i64 at0] w fun e w' => e = .returned (.tuple #[.int .i64 n, .int .i64 ((at0 : Int) + (u : Int)), .bool true]) ∧ w = w' :=
  (getInt_any w v xs at0 hat hv).mono fun e w' hg => by
    obtain ⟨he, hw⟩ := hg
    rw [h] at he
    exact ⟨he, hw.symm⟩

theorem getInt_none {w : World} {v : Value} {xs : List UInt8} {at0 : Nat} (h : Pure.get (xs.drop at0) = none) (hat : at0 ≤ 4611686018427387904) (hv : Bytes w v xs) :
    Calls Try.prog 16 #[v, .int .i64 at0] w fun e w' => e = .returned (.tuple #[.int .i64 0, .int .i64 0, .bool false]) ∧ w = w' :=
  (getInt_any w v xs at0 hat hv).mono fun e w' hg => by
    obtain ⟨he, hw⟩ := hg
    rw [h] at he
    exact ⟨he, hw.symm⟩

theorem get_in {xs : List UInt8} {at0 : Nat} {n : Int} {u : Nat} (h : Pure.get (xs.drop at0) = some (n, u)) : at0 + u ≤ xs.length ∧ -9223372036854775808 ≤ n ∧ n ≤ 9223372036854775807 ∧ u ≤ 10 ∧ 0 < u := by
  obtain ⟨a, _, b, c, d, e⟩ := Pure.get_sound _ _ _ h
  rw [List.length_drop] at a
  exact ⟨by omega, b, c, e, d⟩

/-- A text that was read: its bytes, and the place behind. -/
def GotTxt (w : World) (at0 : Nat) (r : Option (List UInt8 × Nat)) (e : Ending) (w' : World) : Prop :=
  e = .returned (match r with
    | some (t, u) => .tuple #[.string ⟨t.toArray⟩, .int .i64 ((at0 : Int) + (u : Int)), .bool true]
    | none => .tuple #[.string ⟨#[]⟩, .int .i64 0, .bool false]) ∧ w = w'

set_option maxRecDepth 100000 in
set_option maxHeartbeats 400000 in
theorem getText_core (w : World) (v : Value) (xs : List UInt8) (at0 : Nat) (hat : at0 ≤ 4611686018427387904) (hv : Bytes w v xs) :
    Calls Try.prog 17 #[v, .int .i64 at0] w (GotTxt w at0 (getTxt (xs.drop at0))) := by
  have hvx := hv
  obtain ⟨a, cap, rfl, hl, hm, h3⟩ := hv
  clear h3
  unfold maxLen at hm
  cases hg : Pure.get (xs.drop at0) with
  | none =>
    have hspec : getTxt (xs.drop at0) = none := by unfold getTxt; rw [hg]
    rw [hspec]
    have H := Lib.hid hg
    clear hg hspec
    go_enter Try.func17, Try.ntmps17
    go_wp2_with fail
    refine (getInt_none H.out hat hvx).mono ?_
    rintro e w' ⟨rfl, rfl⟩
    go_wp2
    go_ret3
    exact ⟨rfl, rfl⟩
  | some p =>
    obtain ⟨n, u⟩ := p
    obtain ⟨hin, hn1, hn2, hu, hu0⟩ := get_in hg
    have hlen : ((xs.drop at0).length : Int) - (u : Int) = (xs.length : Int) - ((at0 : Int) + (u : Int)) := by rw [List.length_drop]; omega
    have H := Lib.hid hg
    by_cases hok : 0 ≤ n ∧ n ≤ 65536 ∧ n ≤ (xs.length : Int) - ((at0 : Int) + (u : Int))
    · have hspec : getTxt (xs.drop at0) = some (((xs.drop (at0 + u)).take n.toNat), u + n.toNat) := by
        unfold getTxt; rw [hg]; simp only [hlen, if_pos hok, List.drop_drop]
      rw [hspec]
      obtain ⟨v', hsl, hb'⟩ := run_piece hvx ((at0 : Int) + (u : Int)) ((at0 : Int) + (u : Int) + n) (by omega) (by omega) (by omega)
      have hst := run_string hb'
      have e1 : ((at0 : Int) + (u : Int)).toNat = at0 + u := by omega
      have e2 : ((at0 : Int) + (u : Int) + n).toNat - (at0 + u) = n.toNat := by omega
      rw [e1, e2] at hst
      clear hg hspec e1 e2 hb' hlen
      obtain ⟨k0, k1, k2⟩ := hok
      have d0 : decide (n < 0) = false := decide_eq_false (by omega)
      have d1 : decide (65536 < n) = false := decide_eq_false (by omega)
      have d2 : decide ((xs.length : Int) - ((at0 : Int) + (u : Int)) < n) = false := decide_eq_false (by omega)
      go_enter Try.func17, Try.ntmps17
      go_wp2_with fail
      refine (getInt_some H.out hat hvx).mono ?_
      rintro e w' ⟨rfl, rfl⟩
      go_wp2
      go_ret3
      refine ⟨?_, rfl⟩
      have e3 : (at0 : Int) + (u : Int) + n = (at0 : Int) + ((u + n.toNat : Nat) : Int) := by omega
      rw [e3]
      rfl
    · have hspec : getTxt (xs.drop at0) = none := by
        unfold getTxt; rw [hg]; simp only [hlen, if_neg hok]
      rw [hspec]
      clear hg hspec hlen
      have hg3 : decide (n < 0) = true ∨ decide (n < 0) = false ∧ decide (65536 < n) = true ∨ decide (n < 0) = false ∧ decide (65536 < n) = false ∧ decide ((xs.length : Int) - ((at0 : Int) + (u : Int)) < n) = true := by
        simp only [decide_eq_true_eq, decide_eq_false_iff_not]; omega
      clear hok
      rcases hg3 with d0 | ⟨d0, d1⟩ | ⟨d0, d1, d2⟩
      all_goals
        go_enter Try.func17, Try.ntmps17
        go_wp2_with fail
        refine (getInt_some H.out hat hvx).mono ?_
        rintro e w' ⟨rfl, rfl⟩
        go_wp2
        go_ret3
        exact ⟨rfl, rfl⟩

def GotBit (w : World) (at0 : Nat) (r : Option (Bool × Nat)) (e : Ending) (w' : World) : Prop :=
  e = .returned (match r with
    | some (b, u) => .tuple #[.bool b, .int .i64 ((at0 : Int) + (u : Int)), .bool true]
    | none => .tuple #[.bool false, .int .i64 0, .bool false]) ∧ w = w'

theorem gotBit_some {w : World} {at0 : Nat} {b c : Bool} (h : c = b) : GotBit w at0 (some (b, 1)) (.returned (.tuple #[.bool c, .int .i64 ((at0 : Int) + 1), .bool true])) w := by
  subst h; exact ⟨rfl, rfl⟩

set_option maxRecDepth 100000 in
set_option maxHeartbeats 400000 in
theorem getBool_core (w : World) (v : Value) (xs : List UInt8) (at0 : Nat) (hat : at0 ≤ 4611686018427387904) (hv : Bytes w v xs) :
    Calls Try.prog 29 #[v, .int .i64 at0] w (GotBit w at0 (getBit (xs.drop at0))) := by
  obtain ⟨a, cap, rfl, hl, hm, h3⟩ := hv
  unfold maxLen at hm
  by_cases hlt : at0 < xs.length
  · obtain ⟨g, off, rfl, hx⟩ := h3 (by omega)
    obtain ⟨c, hcc⟩ : ∃ c, c = xs[at0].toNat := ⟨_, rfl⟩
    have c1 := hx at0 hlt
    rw [← hcc] at c1
    have hb : c < 256 := by rw [hcc]; exact UInt8.toNat_lt _
    have hspec : getBit (xs.drop at0) = if c ≤ 1 then some (decide (c = 1), 1) else none := by
      unfold getBit; rw [List.drop_eq_getElem_cons hlt]; simp only [hcc]
    rw [hspec]
    clear hcc hx hspec h3
    have d0 : decide ((xs.length : Int) ≤ (at0 : Int)) = false := decide_eq_false (by omega)
    by_cases h1 : c ≤ 1
    · rw [if_pos h1]
      have d1 : decide ((1 : Int) < (c : Int)) = false := decide_eq_false (by omega)
      go_enter Try.func29, Try.ntmps29
      go_wp2
      go_ret3
      refine gotBit_some ?_
      by_cases h : c = 1
      · subst h; rfl
      · have hc0 : c = 0 := by omega
        subst hc0; rfl
    · rw [if_neg h1]
      have d1 : decide ((1 : Int) < (c : Int)) = true := decide_eq_true (by omega)
      go_enter Try.func29, Try.ntmps29
      go_wp2
      go_ret3
      exact ⟨rfl, rfl⟩
  · have hspec : getBit (xs.drop at0) = none := by
      unfold getBit; rw [List.drop_of_length_le (by omega)]
    rw [hspec]
    have d0 : decide ((xs.length : Int) ≤ (at0 : Int)) = true := decide_eq_true (by omega)
    go_enter Try.func29, Try.ntmps29
    go_wp2
    go_ret3
    exact ⟨rfl, rfl⟩

def GotVer (w : World) (at0 : Nat) (r : Option ((Nat × Nat) × Nat)) (e : Ending) (w' : World) : Prop :=
  e = .returned (match r with
    | some ((x, y), u) => .tuple #[verV x y, .int .i64 ((at0 : Int) + (u : Int)), .bool true]
    | none => .tuple #[.complex .f64 0 0, .int .i64 0, .bool false]) ∧ w = w'

theorem guard2 {b : Int} : ¬ (0 ≤ b ∧ b ≤ 1099511627776) → decide (b < 0) = true ∨ decide (b < 0) = false ∧ decide (1099511627776 < b) = true := by
  simp only [decide_eq_true_eq, decide_eq_false_iff_not]; omega

set_option maxRecDepth 100000 in
set_option maxHeartbeats 400000 in
theorem getVer_core (w : World) (v : Value) (xs : List UInt8) (at0 : Nat) (hat : at0 ≤ 2305843009213693952) (hv : Bytes w v xs) :
    Calls Try.prog 27 #[v, .int .i64 at0] w (GotVer w at0 (getVer (xs.drop at0))) := by
  cases hg : Pure.get (xs.drop at0) with
  | none =>
    have hspec : getVer (xs.drop at0) = none := by unfold getVer; rw [hg]
    rw [hspec]
    have H := Lib.hid hg
    clear hg hspec
    go_enter Try.func27, Try.ntmps27
    go_wp2_with fail
    refine (getInt_none H.out (by omega) hv).mono ?_
    rintro e w' ⟨rfl, rfl⟩
    go_wp2
    go_ret3
    exact ⟨rfl, rfl⟩
  | some p =>
    obtain ⟨e, u⟩ := p
    obtain ⟨hin, hn1, hn2, hu, hu0⟩ := get_in hg
    have H := Lib.hid hg
    by_cases hok : 0 ≤ e ∧ e ≤ 1099511627776
    · obtain ⟨en, rfl⟩ := Int.eq_ofNat_of_zero_le hok.1
      have hdd : (xs.drop at0).drop u = xs.drop (at0 + u) := by rw [List.drop_drop]
      have hen := hok.2
      cases hg2 : Pure.get (xs.drop (at0 + u)) with
      | none =>
        have hspec : getVer (xs.drop at0) = none := by unfold getVer; rw [hg]; simp only [if_pos hok, hdd, hg2]
        rw [hspec]
        have H2 := Lib.hid hg2
        clear hg hspec hg2 hdd hok
        have d0 : decide ((en : Int) < 0) = false := decide_eq_false (by omega)
        have d1 : decide (1099511627776 < (en : Int)) = false := decide_eq_false (by omega)
        go_enter Try.func27, Try.ntmps27
        go_wp2_with fail
        refine (getInt_some H.out (by omega) hv).mono ?_
        rintro e w' ⟨rfl, rfl⟩
        go_wp2_with fail
        refine (getInt_none (at0 := at0 + u) H2.out (by omega) hv).mono ?_
        rintro e w' ⟨rfl, rfl⟩
        go_wp2
        go_ret3
        exact ⟨rfl, rfl⟩
      | some q =>
        obtain ⟨n, k⟩ := q
        obtain ⟨hin2, hm1, hm2, hk, hk0⟩ := get_in hg2
        have H2 := Lib.hid hg2
        by_cases hok2 : 0 ≤ n ∧ n ≤ 1099511627776
        · have hspec : getVer (xs.drop at0) = some ((en, n.toNat), u + k) := by unfold getVer; rw [hg]; simp only [if_pos hok, hdd, hg2, if_pos hok2, Int.toNat_natCast]
          rw [hspec]
          obtain ⟨nn, rfl⟩ := Int.eq_ofNat_of_zero_le hok2.1
          have hnn := hok2.2
          clear hg hspec hg2 hdd hok hok2
          have d0 : decide ((en : Int) < 0) = false := decide_eq_false (by omega)
          have d1 : decide (1099511627776 < (en : Int)) = false := decide_eq_false (by omega)
          have d2 : decide ((nn : Int) < 0) = false := decide_eq_false (by omega)
          have d3 : decide (1099511627776 < (nn : Int)) = false := decide_eq_false (by omega)
          go_enter Try.func27, Try.ntmps27
          go_wp2_with fail
          refine (getInt_some H.out (by omega) hv).mono ?_
          rintro e w' ⟨rfl, rfl⟩
          go_wp2_with fail
          refine (getInt_some (at0 := at0 + u) H2.out (by omega) hv).mono ?_
          rintro e w' ⟨rfl, rfl⟩
          go_wp2_with fail
          refine (make_core w en nn).mono ?_
          rintro e w' ⟨rfl, rfl⟩
          go_wp2
          go_ret3
          refine ⟨?_, rfl⟩
          have e3 : (at0 : Int) + (u : Int) + (k : Int) = (at0 : Int) + ((u + k : Nat) : Int) := by omega
          simp only [Int.toNat_natCast, e3]
          rfl
        · have hspec : getVer (xs.drop at0) = none := by unfold getVer; rw [hg]; simp only [if_pos hok, hdd, hg2, if_neg hok2]
          rw [hspec]
          clear hg hspec hg2 hdd hok
          have d0 : decide ((en : Int) < 0) = false := decide_eq_false (by omega)
          have d1 : decide (1099511627776 < (en : Int)) = false := decide_eq_false (by omega)
          have hg3 := guard2 hok2
          clear hok2
          rcases hg3 with d2 | ⟨d2, d3⟩
          all_goals
            go_enter Try.func27, Try.ntmps27
            go_wp2_with fail
            refine (getInt_some H.out (by omega) hv).mono ?_
            rintro e w' ⟨rfl, rfl⟩
            go_wp2_with fail
            refine (getInt_some (at0 := at0 + u) H2.out (by omega) hv).mono ?_
            rintro e w' ⟨rfl, rfl⟩
            go_wp2
            go_ret3
            exact ⟨rfl, rfl⟩
    · have hspec : getVer (xs.drop at0) = none := by unfold getVer; rw [hg]; simp only [if_neg hok]
      rw [hspec]
      clear hg hspec
      have hg3 := guard2 hok
      clear hok
      rcases hg3 with d0 | ⟨d0, d1⟩
      all_goals
        go_enter Try.func27, Try.ntmps27
        go_wp2_with fail
        refine (getInt_some H.out (by omega) hv).mono ?_
        rintro e w' ⟨rfl, rfl⟩
        go_wp2
        go_ret3
        exact ⟨rfl, rfl⟩
end Go.Proofs.Ytjpaljiielemgaa
