/- 'lockgateref03.Same': are two slices the same bytes: it tells. -/
import Derived.Test.YtjpaljiielemgaaBase
namespace Go.Proofs.Ytjpaljiielemgaa
open Go.RowKit

theorem World.drewN_zero' (w : World) : w = w.drewN 0 := rfl

theorem ret_bool {a b : Bool} (h : a = b) : Ending.returned (.bool a) = .returned (.bool b) := by rw [h]
theorem same_step {xs ys : List UInt8} {k : Nat} (hx : k < xs.length) (hy : k < ys.length) (h : xs.take k = ys.take k) (he : xs[k] = ys[k]) : xs.take (k + 1) = ys.take (k + 1) := by
  rw [List.take_succ_eq_append_getElem hx, List.take_succ_eq_append_getElem hy, h, he]

set_option maxHeartbeats 400000 in
theorem same_any (w : World) (v u : Value) (xs ys : List UInt8) (hv : Bytes w v xs) (hu : Bytes w u ys) :
    Calls Try.prog 18 #[v, u] w fun e w' => e = .returned (.bool (decide (xs = ys))) ∧ ∃ n, w' = w.drewN n := by
  obtain ⟨a, ca, rfl, ha1, ha2, ha3⟩ := hv
  obtain ⟨b, cb, rfl, hb1, hb2, hb3⟩ := hu
  unfold maxLen at ha2 hb2
  by_cases hl : xs.length = ys.length
  · have HL := Lib.hid hl
    have hl1 : xs.length ≤ ys.length := by omega
    have hl2 : ys.length ≤ xs.length := by omega
    have hlb : ((xs.length : Int) != (ys.length : Int)) = false := by simp [hl]
    clear hl
    go_enter Try.func18, Try.ntmps18
    go_wp2
    go_loopw [5] (fun i wr => ∃ k n : Nat, k ≤ xs.length ∧ i = .int .i64 k ∧ wr = w.drewN n ∧ xs.take k = ys.take k) (fun i _ => xs.length - (intOf i).toNat)
    case atStart => exact ⟨0, 0, Nat.zero_le _, rfl, rfl, rfl⟩
    case round =>
      obtain ⟨k, n, hk, rfl, rfl, ht⟩ := hrel
      have HT := Lib.hid ht
      clear ht
      by_cases hlt : k < xs.length
      · have hlt2 : k < ys.length := by omega
        obtain ⟨g, off, rfl, hc⟩ := ha3 (by omega)
        obtain ⟨g', off', rfl, hc'⟩ := hb3 (by omega)
        have c1 := hc k hlt
        have c2 := hc' k hlt2
        clear hc hc' ha3 hb3
        go_wp2
        go_quiet (fail)
        go_wp2
        · go_ret
          have hne : ¬ xs[k] = ys[k] := fun he => by simp_all
          refine ⟨ret_bool ?_, n + nq, by simp⟩
          rw [eq_comm]
          exact decide_eq_false fun he => hne (by simp [he])
        · go_roundw
          have heq : xs[k] = ys[k] := by
            have h : (xs[k].toNat : Int) = (ys[k].toNat : Int) := by simpa using ‹((xs[k].toNat : Int) != (ys[k].toNat : Int)) = false›
            exact UInt8.toNat_inj.1 (by omega)
          case rel => exact ⟨k + 1, _, by omega, by go_num, rfl, same_step hlt hlt2 HT.out heq⟩
          case measure => simp [intOf]; omega
      · go_wp2
        go_ret
        refine ⟨ret_bool ?_, _, rfl⟩
        rw [eq_comm]
        refine decide_eq_true ?_
        have h := HT.out
        rw [List.take_of_length_le (by omega), List.take_of_length_le (by omega)] at h
        exact h
  · have hlb : ((xs.length : Int) != (ys.length : Int)) = true := by simp; omega
    go_enter Try.func18, Try.ntmps18
    go_wp2
    go_ret
    refine ⟨ret_bool ?_, 0, rfl⟩
    rw [eq_comm]
    exact decide_eq_false fun he => hl (by rw [he])
end Go.Proofs.Ytjpaljiielemgaa
