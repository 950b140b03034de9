/- The document's answer's 'Int' and 'Text': the same bytes. -/
import Derived.Test.YtjpaljiielemgaaPuts
namespace Go.Proofs.Ytjpaljiielemgaa
open Go.RowKit

theorem u8_hi (M : Nat) : 128 + (M : Int) % 128 = ((UInt8.ofNat (M % 128 + 128)).toNat : Int) := by
  rw [Pure.toNat_ofNat _ (by omega)]; omega

set_option maxRecDepth 100000 in
set_option maxHeartbeats 400000 in
theorem refInt_core (w : World) (n : Int) (h1 : -9223372036854775808 ≤ n) (h2 : n ≤ 9223372036854775807) :
    Calls Try.prog 20 #[.int .i64 n] w (Puts w (.slice none 0 0) (Pure.enc n)) := by
  have hzl := Pure.zig_lt n h1 h2
  have hel := Pure.enc_len n h1 h2
  have hm : n < 0 ∧ 2 * -(n + 1) + 1 = ((Pure.zig n : Nat) : Int) ∨ ¬ n < 0 ∧ 2 * n = ((Pure.zig n : Nat) : Int) := by
    unfold Pure.zig
    by_cases hn : n < 0
    · left; rw [if_pos hn]; omega
    · right; rw [if_neg hn]; omega
  have henc : Pure.enc n = Pure.var (Pure.zig n) := rfl
  obtain ⟨Z, hZ⟩ : ∃ Z, Z = Pure.zig n := ⟨_, rfl⟩
  rw [← hZ] at hzl henc hm
  rw [henc] at hel ⊢
  clear hZ henc
  have HEL := Lib.hid hel
  have HZL := Lib.hid hzl
  clear hel hzl
  rcases hm with ⟨hn, hm⟩ | ⟨hn, hm⟩
  all_goals
    go_enter Try.func20, Try.ntmps20
    go_wp2
    clear hm hn h1 h2
    go_loopw [4, 3] (fun v' m wr => ∃ (M : Nat) (ys : List UInt8), m = .int .u64 M ∧ M < 18446744073709551616 ∧ Buf wr v' ys ∧ Hid (ys ++ Pure.var M = Pure.var Z) ∧ Wrote w (.slice none 0 0) wr v') (fun _ m _ => (intOf m).toNat)
    case atStart => exact ⟨Z, [], rfl, HZL.out, Buf.nil w, Lib.hid rfl, Wrote.refl _ _ ⟨_, _, _, rfl⟩⟩
    case round =>
      obtain ⟨M, ys, rfl, hM, hbr, hys, hwr⟩ := hrel
      have hyl : ys.length + (Pure.var M).length ≤ 10 := by have := HEL.out; rw [← hys.out, List.length_append] at this; exact this
      have hvp := Pure.var_pos M
      have hyl2 : ys.length + 1 ≤ 70368744177664 := by omega
      have hwd : IntKind.u64.wrap ((M : Int) / 128) = (M : Int) / 128 := by rw [IntKind.wrap_u64]; omega
      have HM := Lib.hid hM
      have HY := Lib.hid hyl2
      clear hyl hvp hyl2 hM
      by_cases hlt : M < 128
      · go_wp2_with (at_builtin; refine wpList_app1 rfl (.tmp 27) (.tmp 30) rfl _ ys (UInt8.ofNat M) _ (u8_lo M hlt) rfl rfl hbr HY.out ?_; intro v1 w1 hb1 hw1)
        go_ret
        refine ⟨_, rfl, ?_, hwr.trans hw1⟩
        rw [← hys.out, Pure.var_lo M hlt]
        exact hb1
      · go_wp2_with (at_builtin; refine wpList_app1 rfl (.tmp 18) (.tmp 23) rfl _ ys (UInt8.ofNat (M % 128 + 128)) _ (u8_hi M) rfl rfl hbr HY.out ?_; intro v1 w1 hb1 hw1)
        go_roundw
        case rel =>
          refine ⟨M / 128, ys ++ [UInt8.ofNat (M % 128 + 128)], ?_, by have := HM.out; omega, hb1, Lib.hid ?_, hwr.trans hw1⟩
          · simp
          · rw [← hys.out, Pure.var_hi M hlt]; simp
        case measure => simp [intOf]; omega

set_option maxRecDepth 100000 in
set_option maxHeartbeats 400000 in
theorem refText_core (w : World) (s : ByteArray) (hs : s.size ≤ 1099511627776) :
    Calls Try.prog 21 #[.string s] w (Puts w (.slice none 0 0) (txt s.data.toList)) := by
  have HSE := Lib.hid (show s.data.toList.length = s.size by simp)
  go_enter Try.func21, Try.ntmps21
  go_wp2_with fail
  refine (refInt_core w s.size (by omega) (by omega)).mono ?_
  rintro e w1 ⟨v1, rfl, hb1, hw1⟩
  have hel := Pure.enc_len (s.size : Int) (by omega) (by omega)
  go_wp2
  go_loopw [3, 4] (fun v' i wr => ∃ (k : Nat), k ≤ s.size ∧ i = .int .i64 k ∧ Buf wr v' (Pure.enc (s.size : Int) ++ s.data.toList.take k) ∧ Wrote w (.slice none 0 0) wr v') (fun _ i _ => s.size - (intOf i).toNat)
  case atStart => exact ⟨0, by omega, rfl, by simpa using hb1, hw1⟩
  case round =>
    obtain ⟨k, hk, rfl, hbr, hwr⟩ := hrel
    by_cases hlt : k < s.size
    · have hl1 : (Pure.enc (s.size : Int) ++ s.data.toList.take k).length + 1 ≤ 70368744177664 := by
        rw [List.length_append, List.length_take]; omega
      have HL := Lib.hid hl1
      clear hl1
      go_wp2_with (at_builtin; refine wpList_app1 rfl (.tmp 14) (.tmp 18) rfl _ _ s[k] _ rfl rfl rfl hbr HL.out ?_; intro v2 w2 hb2 hw2)
      go_roundw
      case rel =>
        refine ⟨k + 1, by omega, by go_num, ?_, hwr.trans hw2⟩
        rw [List.take_succ_eq_append_getElem (by rw [HSE.out]; omega), ← List.append_assoc]
        exact hb2
      case measure => simp [intOf]; omega
    · go_wp2
      go_ret
      refine ⟨_, rfl, ?_, hwr⟩
      unfold txt
      rw [HSE.out]
      rw [List.take_of_length_le (by rw [HSE.out]; omega)] at hbr
      exact hbr
end Go.Proofs.Ytjpaljiielemgaa
