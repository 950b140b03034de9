/- lockgatelaw06's 'awake'. -/
import Derived.Test.YtjpaljiielemgaaMPut
import Derived.Test.YtjpaljiielemgaaMMsg
namespace Go.Proofs.Ytjpaljiielemgaa
open Go.RowKit
attribute [local go_sem] store_cplx

theorem msgS_awake : msgS awakeB = ⟨36, false⟩ := by kernel_rfl
theorem msgS_more : msgS (awakeB ++ [0]) = ⟨36, false⟩ := by kernel_rfl

theorem row_two {B : Nat} {w : World} {cs : Array Value} (h : Row B w cs 0 MF awakeB) (hs : cs.size = 31) : cs[0]? = some (.int .i64 3) ∧ cs[1]? = some (.int .i64 100) := by
  obtain ⟨E0, r0, ⟨n0, p0, d0, rfl⟩, ⟨E1, r1, ⟨n1, p1, d1, rfl⟩, _, rfl⟩, hE⟩ := h
  have h1 := Pure.get_enc n0 (Pure.enc n1 ++ r1) p0.1 p0.2
  rw [← hE] at h1
  have h2 : Pure.get awakeB = some (3, 1) := by decide
  rw [h2] at h1
  simp only [Option.some.injEq, Prod.mk.injEq] at h1
  obtain ⟨rfl, hl⟩ := h1
  have h3 : awakeB.drop 1 = Pure.enc n1 ++ r1 := by rw [hE, hl, List.drop_left]
  have h4 := Pure.get_enc n1 r1 p1.1 p1.2
  rw [← h3] at h4
  have h5 : Pure.get (awakeB.drop 1) = some (100, 2) := by decide
  rw [h5] at h4
  simp only [Option.some.injEq, Prod.mk.injEq] at h4
  obtain ⟨rfl, _⟩ := h4
  have d0 : cs.getD 0 undef = _ := d0
  have d1 : cs.getD (0 + 1) undef = _ := d1
  rw [Array.getD_eq_getD_getElem?, Array.getElem?_eq_getElem (by omega)] at d0 d1
  rw [Array.getElem?_eq_getElem (by omega), Array.getElem?_eq_getElem (by omega)]
  exact ⟨by rw [← d0]; rfl, by rw [← d1]; rfl⟩

theorem get_awake (w : World) (v : Value) (hv : Bytes w v awakeB) : Calls Try.prog 36 #[v] w fun e w' => Below w.heap.size w w' ∧ ∃ cs, cs.size = 31 ∧ Ones cs ∧ cs[0]? = some (.int .i64 3) ∧ cs[1]? = some (.int .i64 100) ∧ e = .returned (.tuple #[.agg cs, .bool true]) := by
  refine (getMsg_core w v awakeB (by decide) hv).mono fun e w' ⟨hb, h⟩ => ⟨hb, ?_⟩
  rw [msgS_awake] at h
  rcases h with ⟨_, _, cs, hs, hr, he⟩ | ⟨h | h, _⟩
  · obtain ⟨h0, h1⟩ := row_two hr hs
    exact ⟨cs, hs, row_ones hr hs, h0, h1, he⟩
  · cases h
  · exact absurd rfl h
theorem get_more (w : World) (v : Value) (hv : Bytes w v (awakeB ++ [0])) : Calls Try.prog 36 #[v] w fun e w' => Below w.heap.size w w' ∧ e = .returned (.tuple #[.agg #[.int .i64 0, .int .i64 0, .int .i64 0, .int .i64 0, .int .i64 0, .int .i64 0, .int .i64 0, .int .i64 0, .int .i64 0, .int .i64 0, .int .i64 0, .int .i64 0, .bool false, .bool false, .string ⟨#[]⟩, .string ⟨#[]⟩, .complex .f64 0 0, .complex .f64 0 0, .int .i64 0, .string ⟨#[]⟩, .string ⟨#[]⟩, .string ⟨#[]⟩, .bool false, .slice none 0 0, .slice none 0 0, .slice none 0 0, .complex .f64 0 0, .complex .f64 0 0, .int .i64 0, .slice none 0 0, .slice none 0 0], .bool false]) := by
  refine (getMsg_core w v (awakeB ++ [0]) (by decide) hv).mono fun e w' ⟨hb, h⟩ => ⟨hb, ?_⟩
  rw [msgS_more] at h
  rcases h with ⟨_, h, _⟩ | ⟨_, he⟩
  · exact absurd h (by decide)
  · exact he

theorem bytes_take {w : World} {a : Option Addr} {n c : Nat} {xs : List UInt8} (h : Bytes w (.slice a n c) xs) (k : Nat) (hk : k ≤ xs.length) : Bytes w (.slice a k c) (xs.take k) := by
  obtain ⟨a', cap, hv, h1, h2, h3⟩ := h
  simp only [Value.slice.injEq] at hv
  obtain ⟨rfl, rfl, rfl⟩ := hv
  have hl : (xs.take k).length = k := by rw [List.length_take]; omega
  refine ⟨a, c, by rw [hl], by omega, h2, fun h0 => ?_⟩
  obtain ⟨g, off, ha, hc⟩ := h3 (by omega)
  refine ⟨g, off, ha, fun j hj => ?_⟩
  rw [hc j (by omega)]
  simp

set_option maxRecDepth 200000 in
set_option maxHeartbeats 4000000 in
theorem awake6_core (w : World) : Calls Try.prog 35 #[] w fun e w' => e = .returned (.bool true) ∧ Below w.heap.size w w' := by
  go_enter Try.func35, Try.ntmps35
  go_wp2_with fail
  refine (putMsg0 w).mono ?_
  rintro e w1 ⟨v1, rfl, hb1, hw1⟩
  obtain ⟨a1, n1, c1, rfl, hn1, _, _, _⟩ := hb1.parts
  have hn2 : 20 < n1 := by have h : n1 = awakeB.length := hn1.out; rw [h]; decide
  have B1 := Lib.hid (hw1.new rfl)
  have HB1 := Lib.hid hb1
  have HA1 := Lib.hid ((hw1.below (B := w.heap.size) (Nat.le_refl _) (by intro k hk; cases hk)).2)
  clear hb1 hw1
  go_wp2_with fail
  refine (get_awake w1 _ HB1.out.bytes).mono ?_
  rintro e w2 ⟨b2, cs, hs, h1, hc0, hc1, rfl⟩
  have B2 := Lib.hid (B1.out.trans (b2.mono B1.out.size))
  have HB2 := Lib.hid (HB1.out.below b2)
  have HS := Lib.hid hs
  have H1 := Lib.hid h1
  have HC0 := Lib.hid hc0
  have HC1 := Lib.hid hc1
  clear b2 hs h1 hc0 hc1
  have hp : putC #[.int .i64 0, .int .i64 0, .int .i64 0, .int .i64 0, .int .i64 0, .int .i64 0, .int .i64 0, .int .i64 0, .int .i64 0, .int .i64 0, .int .i64 0, .int .i64 0, .bool false, .bool false, .string ⟨#[]⟩, .string ⟨#[]⟩, .complex .f64 0 0, .complex .f64 0 0, .int .i64 0, .string ⟨#[]⟩, .string ⟨#[]⟩, .string ⟨#[]⟩, .bool false, .slice none 0 0, .slice none 0 0, .slice none 0 0, .complex .f64 0 0, .complex .f64 0 0, .int .i64 0, .slice none 0 0, .slice none 0 0] 0 cs.toList = cs := by rw [putC_all (by rw [Array.length_toList, HS.out]; rfl)]
  have HP := Lib.hid hp
  have HQ2 := Lib.hid ((Whole.new w2 64 #[.int .i64 0, .int .i64 0, .int .i64 0, .int .i64 0, .int .i64 0, .int .i64 0, .int .i64 0, .int .i64 0, .int .i64 0, .int .i64 0, .int .i64 0, .int .i64 0, .bool false, .bool false, .string ⟨#[]⟩, .string ⟨#[]⟩, .complex .f64 0 0, .complex .f64 0 0, .int .i64 0, .string ⟨#[]⟩, .string ⟨#[]⟩, .string ⟨#[]⟩, .bool false, .slice none 0 0, .slice none 0 0, .slice none 0 0, .complex .f64 0 0, .complex .f64 0 0, .int .i64 0, .slice none 0 0, .slice none 0 0]).row (cs' := cs))
  have HE2 := Lib.hid (below_row ((Below.refl w2.heap.size w2).alloc (Nat.le_refl _) (.cells #[.int .i64 0, .int .i64 0, .int .i64 0, .int .i64 0, .int .i64 0, .int .i64 0, .int .i64 0, .int .i64 0, .int .i64 0, .int .i64 0, .int .i64 0, .int .i64 0, .bool false, .bool false, .string ⟨#[]⟩, .string ⟨#[]⟩, .complex .f64 0 0, .complex .f64 0 0, .int .i64 0, .string ⟨#[]⟩, .string ⟨#[]⟩, .string ⟨#[]⟩, .bool false, .slice none 0 0, .slice none 0 0, .slice none 0 0, .complex .f64 0 0, .complex .f64 0 0, .int .i64 0, .slice none 0 0, .slice none 0 0] 64)) (Nat.le_refl _) cs)
  clear hp
  go_wp2_with (first
    | (refine wpList_store_at rfl 64 (.tmp 2) (.tmp 11) rfl w2.heap.size 0 cs rfl rfl 64 #[.int .i64 0, .int .i64 0, .int .i64 0, .int .i64 0, .int .i64 0, .int .i64 0, .int .i64 0, .int .i64 0, .int .i64 0, .int .i64 0, .int .i64 0, .int .i64 0, .bool false, .bool false, .string ⟨#[]⟩, .string ⟨#[]⟩, .complex .f64 0 0, .complex .f64 0 0, .int .i64 0, .string ⟨#[]⟩, .string ⟨#[]⟩, .string ⟨#[]⟩, .bool false, .slice none 0 0, .slice none 0 0, .slice none 0 0, .complex .f64 0 0, .complex .f64 0 0, .int .i64 0, .slice none 0 0, .slice none 0 0] (Whole.new w2 64 #[.int .i64 0, .int .i64 0, .int .i64 0, .int .i64 0, .int .i64 0, .int .i64 0, .int .i64 0, .int .i64 0, .int .i64 0, .int .i64 0, .int .i64 0, .int .i64 0, .bool false, .bool false, .string ⟨#[]⟩, .string ⟨#[]⟩, .complex .f64 0 0, .complex .f64 0 0, .int .i64 0, .string ⟨#[]⟩, .string ⟨#[]⟩, .string ⟨#[]⟩, .bool false, .slice none 0 0, .slice none 0 0, .slice none 0 0, .complex .f64 0 0, .complex .f64 0 0, .int .i64 0, .slice none 0 0, .slice none 0 0]) (by rw [HS.out]; exact sizeE64) (by rw [HS.out]; decide) H1.out.all ?_; rw [HP.out]; generalize (w2.alloc (.cells #[.int .i64 0, .int .i64 0, .int .i64 0, .int .i64 0, .int .i64 0, .int .i64 0, .int .i64 0, .int .i64 0, .int .i64 0, .int .i64 0, .int .i64 0, .int .i64 0, .bool false, .bool false, .string ⟨#[]⟩, .string ⟨#[]⟩, .complex .f64 0 0, .complex .f64 0 0, .int .i64 0, .string ⟨#[]⟩, .string ⟨#[]⟩, .string ⟨#[]⟩, .bool false, .slice none 0 0, .slice none 0 0, .slice none 0 0, .complex .f64 0 0, .complex .f64 0 0, .int .i64 0, .slice none 0 0, .slice none 0 0] 64)).setRow w2.heap.size cs = W2 at HQ2 HE2 ⊢)
    | (at_builtin; refine wpList_app1 rfl (.tmp 14) (.tmp 15) rfl (.slice a1 n1 c1) awakeB 0 0 rfl rfl rfl (HB2.out.below HE2.out) (by decide) ?_; intro v3 w3 hb3 hw3))
  have HB3 := Lib.hid hb3.bytes
  have HO3 := Lib.hid (hw3.bytes (HB2.out.below HE2.out)).bytes
  have HQ3 := Lib.hid (HQ2.out.wrote (HB2.out.below HE2.out) hw3 (by decide))
  have h3 := B2.out.size
  have h4 := HE2.out.size
  have B3 := Lib.hid ((B2.out.trans (HE2.out.mono h3)).trans (hw3.below (B := w.heap.size) (Nat.le_trans h3 h4) HA1.out).1)
  obtain ⟨a3, n3, c3, rfl, _⟩ := hb3.parts
  clear hb3 hw3 h3 h4 HQ2 HE2
  refine (get_more w3 _ HB3.out).mono ?_
  rintro e w4 ⟨b4, rfl⟩
  have hpz : putC #[.int .i64 0, .int .i64 0, .int .i64 0, .int .i64 0, .int .i64 0, .int .i64 0, .int .i64 0, .int .i64 0, .int .i64 0, .int .i64 0, .int .i64 0, .int .i64 0, .bool false, .bool false, .string ⟨#[]⟩, .string ⟨#[]⟩, .complex .f64 0 0, .complex .f64 0 0, .int .i64 0, .string ⟨#[]⟩, .string ⟨#[]⟩, .string ⟨#[]⟩, .bool false, .slice none 0 0, .slice none 0 0, .slice none 0 0, .complex .f64 0 0, .complex .f64 0 0, .int .i64 0, .slice none 0 0, .slice none 0 0] 0 (#[.int .i64 0, .int .i64 0, .int .i64 0, .int .i64 0, .int .i64 0, .int .i64 0, .int .i64 0, .int .i64 0, .int .i64 0, .int .i64 0, .int .i64 0, .int .i64 0, .bool false, .bool false, .string ⟨#[]⟩, .string ⟨#[]⟩, .complex .f64 0 0, .complex .f64 0 0, .int .i64 0, .string ⟨#[]⟩, .string ⟨#[]⟩, .string ⟨#[]⟩, .bool false, .slice none 0 0, .slice none 0 0, .slice none 0 0, .complex .f64 0 0, .complex .f64 0 0, .int .i64 0, .slice none 0 0, .slice none 0 0] : Array Value).toList = #[.int .i64 0, .int .i64 0, .int .i64 0, .int .i64 0, .int .i64 0, .int .i64 0, .int .i64 0, .int .i64 0, .int .i64 0, .int .i64 0, .int .i64 0, .int .i64 0, .bool false, .bool false, .string ⟨#[]⟩, .string ⟨#[]⟩, .complex .f64 0 0, .complex .f64 0 0, .int .i64 0, .string ⟨#[]⟩, .string ⟨#[]⟩, .string ⟨#[]⟩, .bool false, .slice none 0 0, .slice none 0 0, .slice none 0 0, .complex .f64 0 0, .complex .f64 0 0, .int .i64 0, .slice none 0 0, .slice none 0 0] := putC_all (by rfl)
  have HPZ := Lib.hid hpz
  have hbl : Below w3.heap.size w3 ((w4.alloc (.cells #[.int .i64 0, .int .i64 0, .int .i64 0, .int .i64 0, .int .i64 0, .int .i64 0, .int .i64 0, .int .i64 0, .int .i64 0, .int .i64 0, .int .i64 0, .int .i64 0, .bool false, .bool false, .string ⟨#[]⟩, .string ⟨#[]⟩, .complex .f64 0 0, .complex .f64 0 0, .int .i64 0, .string ⟨#[]⟩, .string ⟨#[]⟩, .string ⟨#[]⟩, .bool false, .slice none 0 0, .slice none 0 0, .slice none 0 0, .complex .f64 0 0, .complex .f64 0 0, .int .i64 0, .slice none 0 0, .slice none 0 0] 64)).setRow w4.heap.size #[.int .i64 0, .int .i64 0, .int .i64 0, .int .i64 0, .int .i64 0, .int .i64 0, .int .i64 0, .int .i64 0, .int .i64 0, .int .i64 0, .int .i64 0, .int .i64 0, .bool false, .bool false, .string ⟨#[]⟩, .string ⟨#[]⟩, .complex .f64 0 0, .complex .f64 0 0, .int .i64 0, .string ⟨#[]⟩, .string ⟨#[]⟩, .string ⟨#[]⟩, .bool false, .slice none 0 0, .slice none 0 0, .slice none 0 0, .complex .f64 0 0, .complex .f64 0 0, .int .i64 0, .slice none 0 0, .slice none 0 0]) := below_row (b4.alloc b4.size (.cells #[.int .i64 0, .int .i64 0, .int .i64 0, .int .i64 0, .int .i64 0, .int .i64 0, .int .i64 0, .int .i64 0, .int .i64 0, .int .i64 0, .int .i64 0, .int .i64 0, .bool false, .bool false, .string ⟨#[]⟩, .string ⟨#[]⟩, .complex .f64 0 0, .complex .f64 0 0, .int .i64 0, .string ⟨#[]⟩, .string ⟨#[]⟩, .string ⟨#[]⟩, .bool false, .slice none 0 0, .slice none 0 0, .slice none 0 0, .complex .f64 0 0, .complex .f64 0 0, .int .i64 0, .slice none 0 0, .slice none 0 0] 64)) b4.size #[.int .i64 0, .int .i64 0, .int .i64 0, .int .i64 0, .int .i64 0, .int .i64 0, .int .i64 0, .int .i64 0, .int .i64 0, .int .i64 0, .int .i64 0, .int .i64 0, .bool false, .bool false, .string ⟨#[]⟩, .string ⟨#[]⟩, .complex .f64 0 0, .complex .f64 0 0, .int .i64 0, .string ⟨#[]⟩, .string ⟨#[]⟩, .string ⟨#[]⟩, .bool false, .slice none 0 0, .slice none 0 0, .slice none 0 0, .complex .f64 0 0, .complex .f64 0 0, .int .i64 0, .slice none 0 0, .slice none 0 0]
  have hq5 := HQ3.out.below hbl HQ3.out.lt
  have e0 := (hq5.cell 0).trans HC0.out
  have e1 := (hq5.cell 1).trans HC1.out
  have HO5 := Lib.hid (HO3.out.keep hbl)
  have B5 := Lib.hid (B3.out.trans (hbl.mono B3.out.size))
  clear hbl hq5 b4 hpz
  go_wp2_with (refine wpList_store_at rfl 64 (.tmp 4) (.tmp 18) rfl w4.heap.size 0 #[.int .i64 0, .int .i64 0, .int .i64 0, .int .i64 0, .int .i64 0, .int .i64 0, .int .i64 0, .int .i64 0, .int .i64 0, .int .i64 0, .int .i64 0, .int .i64 0, .bool false, .bool false, .string ⟨#[]⟩, .string ⟨#[]⟩, .complex .f64 0 0, .complex .f64 0 0, .int .i64 0, .string ⟨#[]⟩, .string ⟨#[]⟩, .string ⟨#[]⟩, .bool false, .slice none 0 0, .slice none 0 0, .slice none 0 0, .complex .f64 0 0, .complex .f64 0 0, .int .i64 0, .slice none 0 0, .slice none 0 0] rfl rfl 64 #[.int .i64 0, .int .i64 0, .int .i64 0, .int .i64 0, .int .i64 0, .int .i64 0, .int .i64 0, .int .i64 0, .int .i64 0, .int .i64 0, .int .i64 0, .int .i64 0, .bool false, .bool false, .string ⟨#[]⟩, .string ⟨#[]⟩, .complex .f64 0 0, .complex .f64 0 0, .int .i64 0, .string ⟨#[]⟩, .string ⟨#[]⟩, .string ⟨#[]⟩, .bool false, .slice none 0 0, .slice none 0 0, .slice none 0 0, .complex .f64 0 0, .complex .f64 0 0, .int .i64 0, .slice none 0 0, .slice none 0 0] (Whole.new w4 64 #[.int .i64 0, .int .i64 0, .int .i64 0, .int .i64 0, .int .i64 0, .int .i64 0, .int .i64 0, .int .i64 0, .int .i64 0, .int .i64 0, .int .i64 0, .int .i64 0, .bool false, .bool false, .string ⟨#[]⟩, .string ⟨#[]⟩, .complex .f64 0 0, .complex .f64 0 0, .int .i64 0, .string ⟨#[]⟩, .string ⟨#[]⟩, .string ⟨#[]⟩, .bool false, .slice none 0 0, .slice none 0 0, .slice none 0 0, .complex .f64 0 0, .complex .f64 0 0, .int .i64 0, .slice none 0 0, .slice none 0 0]) sizeE64 (by decide) msgZero_one ?_; rw [HPZ.out]; generalize (w4.alloc (.cells #[.int .i64 0, .int .i64 0, .int .i64 0, .int .i64 0, .int .i64 0, .int .i64 0, .int .i64 0, .int .i64 0, .int .i64 0, .int .i64 0, .int .i64 0, .int .i64 0, .bool false, .bool false, .string ⟨#[]⟩, .string ⟨#[]⟩, .complex .f64 0 0, .complex .f64 0 0, .int .i64 0, .string ⟨#[]⟩, .string ⟨#[]⟩, .string ⟨#[]⟩, .bool false, .slice none 0 0, .slice none 0 0, .slice none 0 0, .complex .f64 0 0, .complex .f64 0 0, .int .i64 0, .slice none 0 0, .slice none 0 0] 64)).setRow w4.heap.size #[.int .i64 0, .int .i64 0, .int .i64 0, .int .i64 0, .int .i64 0, .int .i64 0, .int .i64 0, .int .i64 0, .int .i64 0, .int .i64 0, .int .i64 0, .int .i64 0, .bool false, .bool false, .string ⟨#[]⟩, .string ⟨#[]⟩, .complex .f64 0 0, .complex .f64 0 0, .int .i64 0, .string ⟨#[]⟩, .string ⟨#[]⟩, .string ⟨#[]⟩, .bool false, .slice none 0 0, .slice none 0 0, .slice none 0 0, .complex .f64 0 0, .complex .f64 0 0, .int .i64 0, .slice none 0 0, .slice none 0 0] = w5 at e0 e1 HO5 B5 ⊢)
  have hbl : Below w5.heap.size w5 (w5.alloc (.cells #[.int .u8 6, .int .u8 200, .int .u8 1, .int .u8 2, .int .u8 0] 5)) := (Below.refl _ _).alloc (Nat.le_refl _) _
  refine (same_yes _ _ _ [6, 200, 1, 2, 0] (bytes_take (HO5.out.keep hbl) 5 (by decide)) (buf_at _ _ _ rfl [6, 200, 1, 2, 0] (by decide) rfl).bytes).mono ?_
  rintro e w6 ⟨rfl, m6, rfl⟩
  have B6 := Lib.hid (below_drewN (B5.out.trans (hbl.mono B5.out.size)) m6)
  have f0 := cell_in (below_drewN hbl m6) e0
  have f1 := cell_in (below_drewN hbl m6) e1
  clear hbl e0 e1
  go_wp2
  go_ret
  exact ⟨rfl, B6.out⟩
end Go.Proofs.Ytjpaljiielemgaa
