/- 'wire.Int': the bytes behind out. -/
import Derived.Test.YtjpaljiielemgaaBuf
import Derived.Test.YtjpaljiielemgaaBits
import Derived.Lib.Zigzag
namespace Go.Proofs.Ytjpaljiielemgaa
open Go.RowKit

set_option maxRecDepth 100000 in
theorem or128_nat : ∀ x : Fin 256, x.val ||| 128 = x.val % 128 + 128 := by decide

theorem u8_or128 (M : Nat) : bits .or .u8 (IntKind.u8.wrap (M : Int)) 128 = ((UInt8.ofNat (M % 128 + 128)).toNat : Int) := by
  rw [Pure.toNat_ofNat _ (by omega), IntKind.wrap_u8]
  have e1 : ((M : Int) % 256) = ((M % 256 : Nat) : Int) := by omega
  rw [e1]
  have h := (bits_nat .u8 8 (by decide) wraps_u8 (M % 256) 128 (by omega) (by omega)).2
  have e2 : ((128 : Nat) : Int) = (128 : Int) := rfl
  rw [e2] at h
  rw [h]
  congr 1
  rw [or128_nat ⟨M % 256, by omega⟩]
  simp only
  omega

theorem u8_lo (M : Nat) (h : M < 128) : (M : Int) = ((UInt8.ofNat M).toNat : Int) := by rw [Pure.toNat_ofNat _ (by omega)]

/-- What a call that writes behind v leaves. -/
def Puts (w : World) (v : Value) (xs : List UInt8) (e : Ending) (w' : World) : Prop := ∃ v', e = .returned v' ∧ Buf w' v' xs ∧ Wrote w v w' v'

set_option maxRecDepth 100000 in
set_option maxHeartbeats 400000 in
theorem int_core (w : World) (v : Value) (xs : List UInt8) (n : Int) (h1 : -9223372036854775808 ≤ n) (h2 : n ≤ 9223372036854775807) (hb : Buf w v xs) (hl : xs.length ≤ 35184372088832) :
    Calls Try.prog 14 #[v, .int .i64 n] w (Puts w v (xs ++ Pure.enc n)) := by
  have hzl := Pure.zig_lt n h1 h2
  have hel := Pure.enc_len n h1 h2
  have hm : n < 0 ∧ bits .xor .u64 IntKind.u64.max (IntKind.u64.wrap (IntKind.u64.wrap n * 2)) = ((Pure.zig n : Nat) : Int) ∨ ¬ n < 0 ∧ n * 2 = ((Pure.zig n : Nat) : Int) := by
    by_cases hn : n < 0
    · left; refine ⟨hn, ?_⟩
      rw [Lib.zigzag_neg h1 hn]
      unfold Lib.zigzag Pure.zig
      rw [if_pos hn, if_neg (by omega)]
    · right; refine ⟨hn, ?_⟩
      unfold Pure.zig
      rw [if_neg hn]; omega
  have henc : Pure.enc n = Pure.var (Pure.zig n) := rfl
  obtain ⟨Z, hZ⟩ : ∃ Z, Z = Pure.zig n := ⟨_, rfl⟩
  rw [← hZ] at hzl henc hm
  rw [henc] at hel ⊢
  clear hZ henc
  have HEL := Lib.hid hel
  have HZL := Lib.hid hzl
  clear hel hzl
  rcases hm with ⟨hn, hm⟩ | ⟨hn, hm⟩
  all_goals
    go_enter Try.func14, Try.ntmps14
    go_wp2
    clear hm hn h1 h2
    go_loopw [0, 5] (fun v' m wr => ∃ (M : Nat) (ys : List UInt8), m = .int .u64 M ∧ M < 18446744073709551616 ∧ Buf wr v' (xs ++ ys) ∧ Hid (ys ++ Pure.var M = Pure.var Z) ∧ Wrote w v wr v') (fun _ m _ => (intOf m).toNat)
    case atStart => exact ⟨Z, [], rfl, HZL.out, by simpa using hb, Lib.hid rfl, Wrote.refl _ _ hb.slice⟩
    case round =>
      obtain ⟨M, ys, rfl, hM, hbr, hys, hwr⟩ := hrel
      have hyl : ys.length + (Pure.var M).length ≤ 10 := by have := HEL.out; rw [← hys.out, List.length_append] at this; exact this
      have hvp := Pure.var_pos M
      have hyl2 : (xs ++ ys).length + 1 ≤ 70368744177664 := by rw [List.length_append]; omega
      have HM := Lib.hid hM
      have HY := Lib.hid hyl2
      clear hyl hvp hyl2 hM
      by_cases hlt : M < 128
      · go_wp2_with (at_builtin; refine wpList_app1 rfl (.tmp 23) (.tmp 26) rfl _ (xs ++ ys) (UInt8.ofNat M) _ (u8_lo M hlt) rfl rfl hbr HY.out ?_; intro v1 w1 hb1 hw1)
        go_ret
        refine ⟨_, rfl, ?_, hwr.trans hw1⟩
        rw [List.append_assoc] at hb1
        rw [← hys.out, Pure.var_lo M hlt]
        exact hb1
      · go_wp2_with (at_builtin; refine wpList_app1 rfl (.tmp 15) (.tmp 19) rfl _ (xs ++ ys) (UInt8.ofNat (M % 128 + 128)) _ (u8_or128 M) rfl rfl hbr HY.out ?_; intro v1 w1 hb1 hw1)
        go_roundw
        case rel => 
          refine ⟨M / 128, ys ++ [UInt8.ofNat (M % 128 + 128)], ?_, by have := HM.out; omega, by rw [← List.append_assoc]; exact hb1, Lib.hid ?_, hwr.trans hw1⟩
          · simp
          · rw [← hys.out, Pure.var_hi M hlt]; simp
        case measure => simp [intOf]; omega
end Go.Proofs.Ytjpaljiielemgaa
