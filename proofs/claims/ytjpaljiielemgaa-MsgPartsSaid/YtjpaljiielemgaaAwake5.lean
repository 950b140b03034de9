/- lockgatelaw05's 'awake'. -/
import Derived.Test.YtjpaljiielemgaaPutEnt
import Derived.Test.YtjpaljiielemgaaGetEnt
import Derived.Test.YtjpaljiielemgaaRefCat
import Derived.Test.YtjpaljiielemgaaAwake3
namespace Go.Proofs.Ytjpaljiielemgaa
open Go.RowKit

theorem enc_0 : Pure.enc 0 = [0] := by simp [Pure.enc, Pure.zig, Pure.var_lo]
theorem enc_1 : Pure.enc 1 = [2] := by simp [Pure.enc, Pure.zig, Pure.var_lo]
theorem flo_0 : Flo.flo 0 = 0 := by kernel_rfl

theorem entB_zero : entB 0 0 0 ⟨#[]⟩ ⟨#[]⟩ false false 0 0 0 ⟨#[]⟩ false = [0, 0, 0, 0, 0, 0, 0, 0, 0, 0, 0, 0] := by
  simp [entB, verB, txt, bit, enc_0]
theorem opB_kv : opB 2 ⟨#[107]⟩ ⟨#[118]⟩ ⟨#[]⟩ false = [4, 2, 107, 2, 118, 0, 0] := by
  simp [opB, txt, bit, enc_0, enc_1, enc_2]

theorem putZero (w : World) : Calls Try.prog 46 #[.slice none 0 0, .agg #[.complex .f64 0 0, .int .i64 0, .string ⟨#[]⟩, .string ⟨#[]⟩, .bool false, .bool false, .int .i64 0, .int .i64 0, .int .i64 0, .string ⟨#[]⟩, .bool false]] w
    (Puts w (.slice none 0 0) [0, 0, 0, 0, 0, 0, 0, 0, 0, 0, 0, 0]) := by
  have h := putEnt_core w _ [] 0 0 0 ⟨#[]⟩ ⟨#[]⟩ false false 0 0 0 ⟨#[]⟩ false (Buf.nil w) (by decide) (by decide) (by decide) (by decide) (by decide) (by decide) (by decide) (by decide) (by decide) (by decide)
  rw [List.nil_append, entB_zero] at h
  unfold verV at h
  rw [flo_0] at h
  exact h

theorem entS_zero : entS [0, 0, 0, 0, 0, 0, 0, 0, 0, 0, 0, 0] 0 = ⟨12, false, entZero⟩ := by kernel_rfl
theorem opS_kv : opS [4, 2, 107, 2, 118, 0, 0] 0 = ⟨7, false, #[.int .i64 2, .string ⟨#[107]⟩, .string ⟨#[118]⟩, .string ⟨#[]⟩, .bool false]⟩ := by kernel_rfl

theorem getZero (w : World) (v : Value) (hv : Bytes w v [0, 0, 0, 0, 0, 0, 0, 0, 0, 0, 0, 0]) : Calls Try.prog 31 #[v, .int .i64 0] w fun e w' =>
    e = .returned (.tuple #[.agg #[.complex .f64 0 0, .int .i64 0, .string ⟨#[]⟩, .string ⟨#[]⟩, .bool false, .bool false, .int .i64 0, .int .i64 0, .int .i64 0, .string ⟨#[]⟩, .bool false], .int .i64 12, .bool true]) ∧ Below w.heap.size w w' := by
  refine (getEnt_core w v _ 0 (by decide) (by decide) hv).mono fun e w' ⟨he, hb⟩ => ⟨?_, hb⟩
  rw [entS_zero] at he
  rcases he with ⟨h, _⟩ | ⟨_, h⟩
  · cases h
  · exact h

theorem getKv (w : World) (v : Value) (hv : Bytes w v [4, 2, 107, 2, 118, 0, 0]) : Calls Try.prog 32 #[v, .int .i64 0] w fun e w' =>
    e = .returned (.tuple #[.agg #[.int .i64 2, .string ⟨#[107]⟩, .string ⟨#[118]⟩, .string ⟨#[]⟩, .bool false], .int .i64 7, .bool true]) ∧ Below w.heap.size w w' := by
  refine (getOp_core w v _ 0 (by decide) (by decide) hv).mono fun e w' ⟨he, hb⟩ => ⟨?_, hb⟩
  rw [opS_kv] at he
  rcases he with ⟨h, _⟩ | ⟨_, h⟩
  · cases h
  · exact h

theorem putKv (w : World) : Calls Try.prog 47 #[.slice none 0 0, .agg #[.int .i64 2, .string ⟨#[107]⟩, .string ⟨#[118]⟩, .string ⟨#[]⟩, .bool false]] w (Puts w (.slice none 0 0) [4, 2, 107, 2, 118, 0, 0]) := by
  have h := putOp_core w _ [] 2 ⟨#[107]⟩ ⟨#[118]⟩ ⟨#[]⟩ false (Buf.nil w) (by decide) (by decide) (by decide) (by decide) (by decide)
  rw [List.nil_append, opB_kv] at h
  exact h

theorem size4 (w : World) : Calls Try.prog 48 #[.agg #[.complex .f64 0 0, .int .i64 0, .string ⟨#[97, 98]⟩, .string ⟨#[99]⟩, .bool false, .bool false, .int .i64 0, .int .i64 0, .int .i64 0, .string ⟨#[]⟩, .bool false]] w fun e w' => e = .returned (.int .i64 4) ∧ Below w.heap.size w w' := by
  have h := size_core w 0 0 0 ⟨#[97, 98]⟩ ⟨#[99]⟩ false false 0 0 0 ⟨#[]⟩ false (by decide) (by decide)
  unfold verV at h
  rw [flo_0] at h
  exact h

theorem equal_ver' (d x y : Nat) (hx : x ≤ 1099511627776) (hy : y ≤ 1099511627776) (w : World) : (Op.equalIn (d + 1) 40 (.complex .f64 (Flo.flo x) (Flo.flo y)) (.complex .f64 (Flo.flo x) (Flo.flo y))).run Try.prog w = .ok true w := by
  have h1 : (Op.floatEq .f64 (Flo.flo x) (Flo.flo x)) = true := by
    show (Ieee.double.order (Flo.flo x) (Flo.flo x) == some .eq) = true
    rw [Flo.order_flo x hx]; rfl
  have h2 : (Op.floatEq .f64 (Flo.flo y) (Flo.flo y)) = true := by
    show (Ieee.double.order (Flo.flo y) (Flo.flo y) == some .eq) = true
    rw [Flo.order_flo y hy]; rfl
  simp [Op.equalIn, run_underlying Try.underlying40, h1, h2]

theorem equal_ver (x y : Nat) (hx : x ≤ 1099511627776) (hy : y ≤ 1099511627776) (w : World) : (Op.equalIn 9999 40 (.complex .f64 (Flo.flo x) (Flo.flo y)) (.complex .f64 (Flo.flo x) (Flo.flo y))).run Try.prog w = .ok true w := equal_ver' 9998 x y hx hy w

theorem equal_zero (w : World) : (Op.equalIn 9999 40 (.complex .f64 0 0) (.complex .f64 0 0)).run Try.prog w = .ok true w := by
  have h := equal_ver 0 0 (by decide) (by decide) w
  rw [flo_0] at h
  exact h

attribute [local go_sem] store_cplx equal_zero
set_option maxRecDepth 100000 in
set_option maxHeartbeats 2000000 in
theorem awake5_core (w : World) : Calls Try.prog 30 #[] w fun e w' => e = .returned (.bool true) ∧ Below w.heap.size w w' := by
  go_enter Try.func30, Try.ntmps30
  go_wp2_with fail
  refine (putZero w).mono ?_
  rintro e w1 ⟨v1, rfl, hb1, hw1⟩
  have b1 := hw1.new rfl
  obtain ⟨a1, n1, c1, rfl, hn1, _, _, _⟩ := hb1.parts
  replace hn1 : n1 = 12 := hn1.out
  subst hn1
  replace b1 := Lib.hid b1; replace hb1 := Lib.hid hb1; clear hw1
  go_wp2_with fail
  refine (getZero w1 _ hb1.out.bytes).mono ?_
  rintro e w2 ⟨rfl, b2⟩
  have B2 := b1.out.trans (b2.mono b1.out.size)
  replace b2 := Lib.hid b2; replace B2 := Lib.hid B2
  go_wp2_with fail
  have z0 := Whole.new w2 48 #[.complex .f64 0 0, .int .i64 0, .string ⟨#[]⟩, .string ⟨#[]⟩, .bool false, .bool false, .int .i64 0, .int .i64 0, .int .i64 0, .string ⟨#[]⟩, .bool false]
  refine (putKv _).mono ?_
  rintro e w3 ⟨v3, rfl, hb3, hw3⟩
  have b3 := hw3.new rfl
  have z3 := z0.below b3 z0.lt
  have B3 := B2.out.trans ((((Below.refl _ _).alloc (Nat.le_refl _) (.cells #[.complex .f64 0 0, .int .i64 0, .string ⟨#[]⟩, .string ⟨#[]⟩, .bool false, .bool false, .int .i64 0, .int .i64 0, .int .i64 0, .string ⟨#[]⟩, .bool false] 48)).trans (b3.mono (by simp))).mono B2.out.size)
  clear b3 hw3 z0
  replace hb3 := Lib.hid hb3; replace z3 := Lib.hid z3; replace B3 := Lib.hid B3
  go_wp2_with fail
  refine (getKv w3 _ hb3.out.bytes).mono ?_
  rintro e w4 ⟨rfl, b4⟩
  have z4 := z3.out.below b4 z3.out.lt
  have B4 := B3.out.trans (b4.mono B3.out.size)
  clear b4
  have z5 := z4.alloc (.cells #[.int .i64 2, .string ⟨#[107]⟩, .string ⟨#[118]⟩, .string ⟨#[]⟩, .bool false] 52)
  have e0 := z5.cell 0
  have e1 := z5.cell 1
  have e2 := z5.cell 2
  have e3 := z5.cell 3
  have e4 := z5.cell 4
  have e5 := z5.cell 5
  have e6 := z5.cell 6
  have e7 := z5.cell 7
  have e8 := z5.cell 8
  have e9 := z5.cell 9
  have e10 := z5.cell 10
  simp only [List.getElem?_toArray, List.getElem?_cons_succ, List.getElem?_cons_zero] at e0 e1 e2 e3 e4 e5 e6 e7 e8 e9 e10
  replace z5 := Lib.hid z5; replace z4 := Lib.hid z4; replace B4 := Lib.hid B4
  go_wp2_with fail
  refine (size4 _).mono ?_
  rintro e w5 ⟨rfl, b5⟩
  go_wp2
  go_ret
  exact ⟨rfl, B4.out.trans (((((Below.refl _ _).alloc (Nat.le_refl _) (.cells #[.int .i64 2, .string ⟨#[107]⟩, .string ⟨#[118]⟩, .string ⟨#[]⟩, .bool false] 52)).trans (b5.mono (by simp)))).mono B4.out.size)⟩
end Go.Proofs.Ytjpaljiielemgaa
