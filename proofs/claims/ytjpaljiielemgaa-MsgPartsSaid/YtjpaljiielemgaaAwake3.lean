/- 'lockgateref03.Begins', and 'lockgatelaw03.awake': it answers true. -/
import Derived.Test.YtjpaljiielemgaaGets
import Derived.Test.YtjpaljiielemgaaSame
namespace Go.Proofs.Ytjpaljiielemgaa
open Go.RowKit

theorem Bytes.drewN {w : World} {v : Value} {xs : List UInt8} (h : Bytes w v xs) (n : Nat) : Bytes (w.drewN n) v xs := h
theorem Buf.drewN {w : World} {v : Value} {xs : List UInt8} (h : Buf w v xs) (n : Nat) : Buf (w.drewN n) v xs := h

/-- A literal of bytes, in a block of its own. -/
theorem buf_new (w : World) (l : List UInt8) (hl : l.length ≤ 1000) : Buf (w.alloc (.cells (cellsOf l).toArray 5)) (.slice (some ⟨w.heap.size, 0, none⟩) l.length l.length) l := by
  refine ⟨_, l.length, rfl, Nat.le_refl _, by unfold maxLen; omega, fun _ => ⟨w.heap.size, _, rfl, heap_alloc_new w _, by simp [length_cellsOf], fun j hj => ?_⟩⟩
  simp only [List.getElem?_toArray, getElem?_cellsOf, List.getElem?_eq_getElem hj, Option.map_some]

theorem buf_at (w : World) (o : Obj) (k : Nat) (hk : w.heap.size = k) (l : List UInt8) (hl : l.length ≤ 1000) (ho : o = .cells (cellsOf l).toArray 5) : Buf (w.alloc o) (.slice (some ⟨k, 0, none⟩) l.length l.length) l := by
  subst hk ho; exact buf_new w l hl

/-- What is written behind v leaves all old memory, where v is none of it. -/
theorem Wrote.new {w w' : World} {v v' : Value} (h : Wrote w v w' v') (hv : blk v = none) : Below w.heap.size w w' := (h.below (Nat.le_refl _) (by rw [hv]; intro k hk; cases hk)).1

theorem enc_m1 : Pure.enc (-1) = [1] := by simp [Pure.enc, Pure.zig, Pure.var_lo]
theorem enc_64 : Pure.enc 64 = [128, 1] := by
  simp only [Pure.enc, Pure.zig]
  rw [if_neg (by decide), Pure.var_hi _ (by decide), Pure.var_lo _ (by decide)]
  decide
theorem enc_2 : Pure.enc 2 = [4] := by
  simp only [Pure.enc, Pure.zig]
  rw [if_neg (by decide), Pure.var_lo _ (by decide)]
  decide

theorem same_yes (w : World) (v u : Value) (xs : List UInt8) (hv : Bytes w v xs) (hu : Bytes w u xs) :
    Calls Try.prog 18 #[v, u] w fun e w' => e = .returned (.bool true) ∧ ∃ n, w' = w.drewN n :=
  (same_any w v u xs xs hv hu).mono fun e w' ⟨he, hw⟩ => ⟨by rw [he]; simp, hw⟩

theorem below_new {B : Nat} {w w1 : World} (h : Below B w w1) (hB : B ≤ w1.heap.size) (o : Obj) : Below B w (w1.alloc o) := h.alloc hB o

theorem begins_core (w : World) (v u : Value) (xs ys : List UInt8) (hv : Bytes w v xs) (hu : Bytes w u ys) :
    Calls Try.prog 13 #[v, u] w fun e w' => e = .returned (.bool (decide (ys = xs.take ys.length))) ∧ ∃ n, w' = w.drewN n := by
  have hvx := hv
  have hux := hu
  obtain ⟨a, ca, rfl, ha1, ha2, ha3⟩ := hv
  obtain ⟨b, cb, rfl, hb1, hb2, hb3⟩ := hu
  clear ha3 hb3
  unfold maxLen at ha2 hb2
  by_cases hl : ys.length ≤ xs.length
  · obtain ⟨v', hsl, hb'⟩ := run_piece_to hvx (ys.length : Int) (by omega) (by omega)
    simp only [Int.toNat_natCast] at hb'
    have hd : decide ((ys.length : Int) ≤ (xs.length : Int)) = true := decide_eq_true (by omega)
    go_enter Try.func13, Try.ntmps13
    go_wp2_with fail
    refine (same_any w _ v' ys (xs.take ys.length) hux hb').mono ?_
    rintro e w' ⟨rfl, n, rfl⟩
    go_wp2
    go_ret
    exact ⟨rfl, n, rfl⟩
  · have hd : decide ((ys.length : Int) ≤ (xs.length : Int)) = false := decide_eq_false (by omega)
    have hne : decide (ys = xs.take ys.length) = false := by
      refine decide_eq_false fun h => hl ?_
      have := congrArg List.length h
      rw [List.length_take] at this; omega
    rw [hne]
    go_enter Try.func13, Try.ntmps13
    go_wp2
    go_ret
    exact ⟨rfl, 0, rfl⟩

set_option maxRecDepth 100000 in
set_option maxHeartbeats 400000 in
theorem awake3_core (w : World) : Calls Try.prog 12 #[] w fun e w' => e = .returned (.bool true) ∧ Below w.heap.size w w' := by
  have g1 : Pure.get (([128, 0] : List UInt8).drop 0) = none := by decide
  have g2 : Pure.get (([9, 128, 1] : List UInt8).drop 1) = some (64, 2) := by decide
  go_enter Try.func12, Try.ntmps12
  go_wp2_with fail
  refine (getInt_none (at0 := 0) g1 (by omega) (buf_at w _ _ rfl [128, 0] (by decide) rfl).bytes).mono ?_
  rintro e w1 ⟨rfl, hw⟩
  have b1 : Below w.heap.size w w1 := by rw [← hw]; exact (Below.refl _ _).alloc (Nat.le_refl _) _
  clear hw
  go_wp2_with fail
  refine (getInt_some (at0 := 1) g2 (by omega) (buf_at w1 _ _ rfl [9, 128, 1] (by decide) rfl).bytes).mono ?_
  rintro e w2 ⟨rfl, hw⟩
  have b2 : Below w.heap.size w w2 := by rw [← hw]; exact b1.alloc b1.size _
  clear hw
  go_wp2_with fail
  refine (int_core w2 _ [] (-1) (by omega) (by omega) (Buf.nil w2) (by decide)).mono ?_
  rintro e w3 ⟨v3, rfl, hb3, hw3⟩
  have b3 : Below w.heap.size w w3 := b2.trans ((hw3.new rfl).mono b2.size)
  go_wp2_with fail
  rw [List.nil_append, enc_m1] at hb3
  refine (same_yes _ _ _ [1] (hb3.alloc _).bytes (buf_at w3 _ _ rfl [1] (by decide) rfl).bytes).mono ?_
  rintro e w4 ⟨rfl, n4, hw⟩
  have b4 : Below w.heap.size w w4 := by rw [hw]; exact below_drewN (b3.alloc b3.size _) _
  clear hw
  go_wp2_with fail
  refine (int_core w4 _ [] 64 (by omega) (by omega) (Buf.nil w4) (by decide)).mono ?_
  rintro e w5 ⟨v5, rfl, hb5, hw5⟩
  have b5 : Below w.heap.size w w5 := b4.trans ((hw5.new rfl).mono b4.size)
  rw [List.nil_append, enc_64] at hb5
  go_wp2_with fail
  refine (same_yes _ _ _ [128, 1] (hb5.alloc _).bytes (buf_at w5 _ _ rfl [128, 1] (by decide) rfl).bytes).mono ?_
  rintro e w6 ⟨rfl, n6, hw⟩
  have b6 : Below w.heap.size w w6 := by rw [hw]; exact below_drewN (b5.alloc b5.size _) _
  clear hw
  go_wp2_with fail
  refine (text_core _ _ [7] _ (by decide) (buf_at w6 _ _ rfl [7] (by decide) rfl) (by decide)).mono ?_
  rintro e w7 ⟨v7, rfl, hb7, hw7⟩
  have b7 : Below w.heap.size w w7 := (b6.alloc b6.size _).trans ((hw7.new (by simp [blk])).mono (by have := b6.size; simp; omega))
  have e7 : [7] ++ txt (ByteArray.mk #[97, 98]).data.toList = [7, 4, 97, 98] := by
    show [7] ++ (Pure.enc 2 ++ [97, 98]) = _
    rw [enc_2]; rfl
  rw [e7] at hb7
  go_wp2_with fail
  refine (same_yes _ _ _ [7, 4, 97, 98] (hb7.alloc _).bytes (buf_at w7 _ _ rfl [7, 4, 97, 98] (by decide) rfl).bytes).mono ?_
  rintro e w8 ⟨rfl, n8, hw⟩
  have b8 : Below w.heap.size w w8 := by rw [hw]; exact below_drewN (b7.alloc b7.size _) _
  clear hw
  go_wp2
  go_ret
  exact ⟨rfl, b8⟩
end Go.Proofs.Ytjpaljiielemgaa
