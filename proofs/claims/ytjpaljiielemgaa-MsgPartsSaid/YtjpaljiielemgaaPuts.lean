/- 'wire.Text', 'Bool', 'Ver', and versions' making and parts. -/
import Derived.Test.YtjpaljiielemgaaInt
import Derived.Test.YtjpaljiielemgaaFlo
namespace Go.Proofs.Ytjpaljiielemgaa
open Go.RowKit

/-- A version's value. -/
def verV (e n : Nat) : Value := .complex .f64 (Flo.flo e) (Flo.flo n)

theorem floatOf (n : Nat) : floatOfInt .f64 (n : Int) = Flo.flo n := by
  show Ieee.double.nearest (decide ((n : Int) < 0)) ((n : Int).natAbs) 0 = _
  have h : decide ((n : Int) < 0) = false := decide_eq_false (by omega)
  rw [h]; rfl

theorem fromFlo (n : Nat) (hn : n ≤ 1099511627776) : floatToIntVal .f64 (Flo.flo n) .i64 = some (n : Int) := by
  unfold floatToIntVal
  have h : Ieee.Datum.toInt Ieee.Toward.zero (FloatKind.f64.decode (Flo.flo n)) = some (n : Int) := Flo.toInt_flo n hn
  rw [h]
  have h1 : IntKind.i64.min ≤ (n : Int) ∧ (n : Int) ≤ IntKind.i64.max := by
    have e1 : IntKind.i64.min = -9223372036854775808 := by decide
    have e2 : IntKind.i64.max = 9223372036854775807 := by decide
    rw [e1, e2]; omega
  simp only [if_pos h1]

theorem make_core (w : World) (e n : Nat) : Calls Try.prog 24 #[.int .i64 (e : Int), .int .i64 (n : Int)] w fun r w' => r = .returned (verV e n) ∧ w = w' := by
  have h1 := floatOf e
  have h2 := floatOf n
  go_enter Try.func24, Try.ntmps24
  go_wp2
  go_ret
  exact ⟨rfl, rfl⟩

theorem epoch_core (w : World) (e n : Nat) (he : e ≤ 1099511627776) : Calls Try.prog 43 #[verV e n] w fun r w' => r = .returned (.int .i64 e) ∧ w = w' := by
  unfold verV
  have hc := run_convert_float_int (P := Try.prog) w 79 3 .f64 .i64 (Flo.flo e) e (by kernel_rfl) Try.underlying3 (fromFlo e he)
  go_enter Try.func43, Try.ntmps43
  go_wp2
  go_ret
  exact ⟨rfl, rfl⟩

theorem num_core (w : World) (e n : Nat) (hn : n ≤ 1099511627776) : Calls Try.prog 44 #[verV e n] w fun r w' => r = .returned (.int .i64 n) ∧ w = w' := by
  unfold verV
  have hc := run_convert_float_int (P := Try.prog) w 79 3 .f64 .i64 (Flo.flo n) n (by kernel_rfl) Try.underlying3 (fromFlo n hn)
  go_enter Try.func44, Try.ntmps44
  go_wp2
  go_ret
  exact ⟨rfl, rfl⟩

theorem refEpoch_core (w : World) (e n : Nat) (he : e ≤ 1099511627776) : Calls Try.prog 77 #[verV e n] w fun r w' => r = .returned (.int .i64 e) ∧ w = w' := by
  unfold verV
  have hc := run_convert_float_int (P := Try.prog) w 79 3 .f64 .i64 (Flo.flo e) e (by kernel_rfl) Try.underlying3 (fromFlo e he)
  go_enter Try.func77, Try.ntmps77
  go_wp2
  go_ret
  exact ⟨rfl, rfl⟩

theorem refNum_core (w : World) (e n : Nat) (hn : n ≤ 1099511627776) : Calls Try.prog 78 #[verV e n] w fun r w' => r = .returned (.int .i64 n) ∧ w = w' := by
  unfold verV
  have hc := run_convert_float_int (P := Try.prog) w 79 3 .f64 .i64 (Flo.flo n) n (by kernel_rfl) Try.underlying3 (fromFlo n hn)
  go_enter Try.func78, Try.ntmps78
  go_wp2
  go_ret
  exact ⟨rfl, rfl⟩

theorem refMake_core (w : World) (e n : Nat) : Calls Try.prog 45 #[.int .i64 (e : Int), .int .i64 (n : Int)] w fun r w' => r = .returned (verV e n) ∧ w = w' := by
  have h1 := floatOf e
  have h2 := floatOf n
  go_enter Try.func45, Try.ntmps45
  go_wp2
  go_ret
  exact ⟨rfl, rfl⟩

theorem fits_core (w : World) (n : Int) : Calls Try.prog 19 #[.int .i64 n] w fun r w' => r = .returned (.bool (decide (0 ≤ n ∧ n ≤ 1099511627776))) ∧ w = w' := by
  by_cases h0 : 0 ≤ n
  · by_cases h1 : n ≤ 1099511627776
    all_goals
      go_enter Try.func19, Try.ntmps19
      go_wp2
      go_ret
      exact ⟨by simp [h0, h1], rfl⟩
  · have hd : decide (0 ≤ n) = false := decide_eq_false h0
    go_enter Try.func19, Try.ntmps19
    go_wp2
    go_ret
    exact ⟨by simp, rfl⟩

/-- A text's bytes. -/
def txt (l : List UInt8) : List UInt8 := Pure.enc (l.length : Int) ++ l
def bit (b : Bool) : List UInt8 := [if b then 1 else 0]

theorem text_core (w : World) (v : Value) (xs : List UInt8) (s : ByteArray) (hs : s.size ≤ 1099511627776) (hb : Buf w v xs) (hl : xs.length ≤ 1099511627776) :
    Calls Try.prog 15 #[v, .string s] w (Puts w v (xs ++ txt s.data.toList)) := by
  have hse : s.data.toList.length = s.size := by simp
  have HSE := Lib.hid hse
  clear hse
  go_enter Try.func15, Try.ntmps15
  go_wp2_with fail
  refine (int_core w v xs s.size (by omega) (by omega) hb (by omega)).mono ?_
  rintro e w1 ⟨v1, rfl, hb1, hw1⟩
  have hl1 : (xs ++ Pure.enc (s.size : Int)).length + s.data.toList.length ≤ 70368744177664 := by
    have := Pure.enc_len (s.size : Int) (by omega) (by omega)
    have := HSE.out
    rw [List.length_append]; omega
  have HL1 := Lib.hid hl1
  clear hl1
  go_wp2_with (at_builtin; refine wpList_app rfl (.tmp 8) (.tmp 9) 9 rfl (.inr Try.underlying9) _ _ (xs ++ Pure.enc (s.size : Int)) s.data.toList rfl rfl hb1 (src_string s) HL1.out ?_; intro v2 w2 hb2 hw2)
  go_ret
  refine ⟨_, rfl, ?_, hw1.trans hw2⟩
  unfold txt
  rw [HSE.out, ← List.append_assoc]
  exact hb2

theorem bool_core (w : World) (v : Value) (xs : List UInt8) (b : Bool) (hb : Buf w v xs) (hl : xs.length ≤ 1099511627776) :
    Calls Try.prog 22 #[v, .bool b] w (Puts w v (xs ++ bit b)) := by
  have hl1 : xs.length + 1 ≤ 70368744177664 := by omega
  cases b
  · go_enter Try.func22, Try.ntmps22
    go_wp2_with (at_builtin; refine wpList_app1 rfl (.tmp 9) (.tmp 10) rfl _ xs 0 0 rfl rfl rfl hb hl1 ?_; intro v2 w2 hb2 hw2)
    go_ret
    exact ⟨_, rfl, hb2, hw2⟩
  · go_enter Try.func22, Try.ntmps22
    go_wp2_with (at_builtin; refine wpList_app1 rfl (.tmp 6) (.tmp 7) rfl _ xs 1 1 rfl rfl rfl hb hl1 ?_; intro v2 w2 hb2 hw2)
    go_ret
    exact ⟨_, rfl, hb2, hw2⟩

/-- A version's bytes. -/
def verB (e n : Nat) : List UInt8 := Pure.enc (e : Int) ++ Pure.enc (n : Int)

theorem ver_core (w : World) (v : Value) (xs : List UInt8) (e n : Nat) (he : e ≤ 1099511627776) (hn : n ≤ 1099511627776) (hb : Buf w v xs) (hl : xs.length ≤ 1099511627776) :
    Calls Try.prog 23 #[v, verV e n] w (Puts w v (xs ++ verB e n)) := by
  go_enter Try.func23, Try.ntmps23
  go_wp2_with fail
  refine (epoch_core w e n he).mono ?_
  rintro r w' ⟨rfl, rfl⟩
  go_wp2_with fail
  refine (int_core w v xs e (by omega) (by omega) hb (by omega)).mono ?_
  rintro r w1 ⟨v1, rfl, hb1, hw1⟩
  go_wp2_with fail
  refine (num_core w1 e n hn).mono ?_
  rintro r w' ⟨rfl, rfl⟩
  go_wp2_with fail
  refine (int_core w1 v1 _ n (by omega) (by omega) hb1 (by have := Pure.enc_len (e : Int) (by omega) (by omega); rw [List.length_append]; omega)).mono ?_
  rintro r w2 ⟨v2, rfl, hb2, hw2⟩
  go_wp2
  go_ret
  refine ⟨_, rfl, ?_, hw1.trans hw2⟩
  unfold verB
  rw [← List.append_assoc]
  exact hb2
end Go.Proofs.Ytjpaljiielemgaa
