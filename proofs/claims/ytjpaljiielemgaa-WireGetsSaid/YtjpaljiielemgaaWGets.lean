/- The law WireGets: of whatever bytes, at whatever place, the program reads what the document's answer reads. -/
import Derived.Test.YtjpaljiielemgaaRefGets
import Derived.Test.YtjpaljiielemgaaKeeps
namespace Go.Proofs.Ytjpaljiielemgaa
open Go.RowKit

def numAt (l : List UInt8) : Int := match Pure.get l with | some (n, _) => n | none => 0
def numEnd (at0 : Nat) (l : List UInt8) : Int := match Pure.get l with | some (_, u) => (at0 : Int) + (u : Int) | none => 0
def numOk (l : List UInt8) : Bool := (Pure.get l).isSome

theorem getting_tuple {w : World} {xs : List UInt8} {at0 : Nat} {e : Ending} {w' : World} (h : Getting w xs at0 e w') :
    e = .returned (.tuple #[.int .i64 (numAt (xs.drop at0)), .int .i64 (numEnd at0 (xs.drop at0)), .bool (numOk (xs.drop at0))]) ∧ w = w' := by
  obtain ⟨he, hw⟩ := h
  refine ⟨?_, hw.symm⟩
  rw [he]
  unfold numAt numEnd numOk
  cases h : Pure.get (xs.drop at0) with
  | none => rfl
  | some p => rfl

theorem gotTxt_tuple {w : World} {l : List UInt8} {at0 : Nat} {e : Ending} {w' : World} (h : GotTxt w at0 (getTxt l) e w') :
    e = .returned (.tuple #[.string (strAt l), .int .i64 (intAt at0 l), .bool (okAt l)]) ∧ w = w' := by
  obtain ⟨he, hw⟩ := h
  refine ⟨?_, hw⟩
  rw [he]
  unfold strAt intAt okAt
  cases h : getTxt l with
  | none => rfl
  | some p => rfl

def verRe (l : List UInt8) : Nat := match getVer l with | some ((x, _), _) => Flo.flo x | none => 0
def verIm (l : List UInt8) : Nat := match getVer l with | some ((_, y), _) => Flo.flo y | none => 0
def verEnd (at0 : Nat) (l : List UInt8) : Int := match getVer l with | some (_, u) => (at0 : Int) + (u : Int) | none => 0
def verOk (l : List UInt8) : Bool := (getVer l).isSome

theorem gotVer_tuple {w : World} {l : List UInt8} {at0 : Nat} {e : Ending} {w' : World} (h : GotVer w at0 (getVer l) e w') :
    e = .returned (.tuple #[.complex .f64 (verRe l) (verIm l), .int .i64 (verEnd at0 l), .bool (verOk l)]) ∧ w = w' := by
  obtain ⟨he, hw⟩ := h
  refine ⟨?_, hw⟩
  rw [he]
  unfold verRe verIm verEnd verOk
  cases h : getVer l with
  | none => rfl
  | some p => rfl

theorem getVer_rng {l : List UInt8} {x y u : Nat} (h : getVer l = some ((x, y), u)) : x ≤ 1099511627776 ∧ y ≤ 1099511627776 := by
  unfold getVer at h
  split at h
  · rename_i e k he
    split at h
    · rename_i hr
      split at h
      · rename_i n j hn
        split at h
        · rename_i hs
          simp only [Option.some.injEq, Prod.mk.injEq] at h
          obtain ⟨⟨rfl, rfl⟩, _⟩ := h
          omega
        · cases h
      · cases h
    · cases h
  · cases h

theorem order_self (l : List UInt8) : (FloatKind.f64.format.order (verRe l) (verRe l) == some .eq) = true ∧ (FloatKind.f64.format.order (verIm l) (verIm l) == some .eq) = true := by
  unfold verRe verIm
  cases h : getVer l with
  | none => exact ⟨by decide, by decide⟩
  | some p =>
    obtain ⟨⟨x, y⟩, u⟩ := p
    obtain ⟨hx, hy⟩ := getVer_rng h
    exact ⟨by rw [beq_iff_eq]; exact Flo.order_flo x hx, by rw [beq_iff_eq]; exact Flo.order_flo y hy⟩

set_option maxRecDepth 100000 in
set_option maxHeartbeats 1000000 in
theorem gets_walk (a0 : Option Addr) (len0 cap0 : Nat) (z0 : List Int) (a1 : Int) (w : World) (w0 : IsRow w a0 len0 cap0 z0) (w1 : (Lit.int .i64 a1).wf = true) :
    Calls Try.prog 7 #[.slice a0 len0 cap0, .int .i64 a1] w fun e w' => e = .returned (.bool true) ∧ Below w.heap.size w w' := by
  have k1 := bounds_i64 w1
  obtain ⟨xs, hx, hv0⟩ := w0.bytes
  clear w0 w1
  subst hx
  have hm0 : xs.length ≤ 9223372036854775807 := by obtain ⟨_, c, he, h1, h2, _⟩ := hv0; unfold maxLen at h2; omega
  by_cases h2 : xs.length ≤ 5000 ∧ 0 ≤ a1 ∧ a1 ≤ 6000
  · obtain ⟨h0, h1, h3⟩ := h2
    obtain ⟨at0, rfl⟩ := Int.eq_ofNat_of_zero_le h1
    have d0 : decide ((5000 : Int) < (xs.length : Int)) = false := decide_eq_false (by omega)
    have d1 : decide ((at0 : Int) < 0) = false := decide_eq_false (by omega)
    have d2 : decide ((6000 : Int) < (at0 : Int)) = false := decide_eq_false (by omega)
    have hat : at0 ≤ 4611686018427387904 := by omega
    have hat2 : at0 ≤ 2305843009213693952 := by omega
    obtain ⟨o1, o2⟩ := order_self (xs.drop at0)
    have hvx := hv0
    obtain ⟨_, _, he, _, _, hc⟩ := hv0
    injection he with e1 e2 e3
    subst e1 e3
    clear k1 h1
    by_cases hlt : at0 < xs.length
    · obtain ⟨g, off, rfl, hx⟩ := hc (by omega)
      have c1 := hx at0 hlt
      obtain ⟨c, hcc⟩ : ∃ c, c = xs[at0].toNat := ⟨_, rfl⟩
      rw [← hcc] at c1
      have hb : c < 256 := by rw [hcc]; exact UInt8.toNat_lt _
      have hspec : getBit (xs.drop at0) = if c ≤ 1 then some (decide (c = 1), 1) else none := by
        unfold getBit; rw [List.drop_eq_getElem_cons hlt]; simp only [hcc]
      have HS := Lib.hid hspec
      clear hcc hx hc hspec
      have t0 : decide ((at0 : Int) < (xs.length : Int)) = true := decide_eq_true (by omega)
      go_enter Try.func7, Try.ntmps7
      go_wp2_with fail
      refine (getInt_any w _ xs at0 hat hvx).mono ?_
      rintro e w' hg
      obtain ⟨rfl, rfl⟩ := getting_tuple hg
      clear hg
      go_wp2_with fail
      refine (refGetInt_any w _ xs at0 hat hvx).mono ?_
      rintro e w' hg
      obtain ⟨rfl, rfl⟩ := getting_tuple hg
      clear hg
      go_wp2_with fail
      refine (getText_core w _ xs at0 hat hvx).mono ?_
      rintro e w' hg
      obtain ⟨rfl, rfl⟩ := gotTxt_tuple hg
      clear hg
      go_wp2_with fail
      refine (refGetText_core w _ xs at0 hat hvx).mono ?_
      rintro e w' hg
      obtain ⟨rfl, rfl⟩ := gotTxt_tuple hg
      clear hg
      go_wp2_with fail
      refine (getVer_core w _ xs at0 hat2 hvx).mono ?_
      rintro e w' hg
      obtain ⟨rfl, rfl⟩ := gotVer_tuple hg
      clear hg
      go_wp2_with fail
      refine (refGetVer_core w _ xs at0 hat2 hvx).mono ?_
      rintro e w' hg
      obtain ⟨rfl, rfl⟩ := gotVer_tuple hg
      clear hg
      go_wp2_with fail
      refine (getBool_core w _ xs at0 hat hvx).mono ?_
      rintro e w' hg
      rw [HS.out] at hg
      by_cases hc1 : c ≤ 1
      · rw [if_pos hc1] at hg
        obtain ⟨rfl, rfl⟩ := hg
        have hc01 : c = 0 ∨ c = 1 := by omega
        rcases hc01 with rfl | rfl
        all_goals
          go_wp2_with fail
          refine (awake3_core w).mono ?_
          rintro e wa ⟨rfl, ba⟩
          go_wp2
          go_ret
          exact ⟨rfl, ba⟩
      · rw [if_neg hc1] at hg
        obtain ⟨rfl, rfl⟩ := hg
        have t1 : decide ((c : Int) ≤ 1) = false := decide_eq_false (by omega)
        go_wp2_with fail
        refine (awake3_core w).mono ?_
        rintro e wa ⟨rfl, ba⟩
        go_wp2
        go_ret
        exact ⟨rfl, ba⟩
    · have HS := Lib.hid (show getBit (xs.drop at0) = none by unfold getBit; rw [List.drop_of_length_le (by omega)])
      have t0 : decide ((at0 : Int) < (xs.length : Int)) = false := decide_eq_false (by omega)
      clear hc
      go_enter Try.func7, Try.ntmps7
      go_wp2_with fail
      refine (getInt_any w _ xs at0 hat hvx).mono ?_
      rintro e w' hg
      obtain ⟨rfl, rfl⟩ := getting_tuple hg
      clear hg
      go_wp2_with fail
      refine (refGetInt_any w _ xs at0 hat hvx).mono ?_
      rintro e w' hg
      obtain ⟨rfl, rfl⟩ := getting_tuple hg
      clear hg
      go_wp2_with fail
      refine (getText_core w _ xs at0 hat hvx).mono ?_
      rintro e w' hg
      obtain ⟨rfl, rfl⟩ := gotTxt_tuple hg
      clear hg
      go_wp2_with fail
      refine (refGetText_core w _ xs at0 hat hvx).mono ?_
      rintro e w' hg
      obtain ⟨rfl, rfl⟩ := gotTxt_tuple hg
      clear hg
      go_wp2_with fail
      refine (getVer_core w _ xs at0 hat2 hvx).mono ?_
      rintro e w' hg
      obtain ⟨rfl, rfl⟩ := gotVer_tuple hg
      clear hg
      go_wp2_with fail
      refine (refGetVer_core w _ xs at0 hat2 hvx).mono ?_
      rintro e w' hg
      obtain ⟨rfl, rfl⟩ := gotVer_tuple hg
      clear hg
      go_wp2_with fail
      refine (getBool_core w _ xs at0 hat hvx).mono ?_
      rintro e w' hg
      rw [HS.out] at hg
      obtain ⟨rfl, rfl⟩ := hg
      go_wp2_with fail
      refine (awake3_core w).mono ?_
      rintro e wa ⟨rfl, ba⟩
      go_wp2
      go_ret
      exact ⟨rfl, ba⟩
  · have hg3 : decide ((5000 : Int) < (xs.length : Int)) = true ∨ decide ((5000 : Int) < (xs.length : Int)) = false ∧ decide (a1 < 0) = true ∨
        decide ((5000 : Int) < (xs.length : Int)) = false ∧ decide (a1 < 0) = false ∧ decide (6000 < a1) = true := by
      simp only [decide_eq_true_eq, decide_eq_false_iff_not]; omega
    clear h2
    rcases hg3 with d2 | ⟨d2, d0⟩ | ⟨d2, d0, d3⟩
    all_goals
      go_enter Try.func7, Try.ntmps7
      go_wp2_with fail
      refine (awake3_core w).mono ?_
      rintro e wa ⟨rfl, ba⟩
      go_wp2
      go_ret
      exact ⟨rfl, ba⟩
end Go.Proofs.Ytjpaljiielemgaa
