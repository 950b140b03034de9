/- 'wire.GetInt': the loop of a goto, walked once: what it reads is what Pure.get reads. -/
import Derived.Test.YtjpaljiielemgaaSame
import Derived.Test.YtjpaljiielemgaaBits
import Derived.Lib.Zigzag
namespace Go.Proofs.Ytjpaljiielemgaa
open Go.RowKit

theorem jump_weaken {l : Nat} {J : Act → World → Prop} {μ : Act → World → Nat} {Q : Exit → Act → World → Prop} {m : Nat} :
    ∀ (e : Exit) (a : Act) (w : World), Exit.jump l (fun a' w' => J a' w' ∧ μ a' w' < m) Q e a w → Exit.jump l J Q e a w := by
  intro e a w h
  cases e <;> first | exact h | exact ⟨h.1, h.2.1⟩

theorem wp_scope_head {P : Program} {a : Act} {w : World} {Q : Exit → Act → World → Prop} {r1 r2 rest : Code} (l : Nat) (J : Act → World → Prop) (μ : Act → World → Nat)
    (hf : findLabel (r1.seq (r2.seq ((Code.label l).seq rest))) l = some (Code.skip.seq rest))
    (first : r1.wp P (Exit.then (r2.wp P (Exit.then J (Exit.jump l J Q))) (Exit.jump l J Q)) a w)
    (pass : ∀ a w, J a w → rest.wp P (Exit.jump l (fun a' w' => J a' w' ∧ μ a' w' < μ a w) Q) a w) : (Code.scope (r1.seq (r2.seq ((Code.label l).seq rest)))).wp P Q a w := by
  refine wp_scope_jumps l J μ hf (wp_seq (Code.wp_mono ?_ first)) (fun a w h => wp_seq (wp_skip (pass a w h)))
  intro e a w h
  cases e with
  | normal =>
    refine wp_seq (Code.wp_mono ?_ h)
    intro e a w h
    cases e with
    | normal => exact wp_seq (wp_label (Code.wp_mono jump_weaken (pass a w h)))
    | _ => exact h
  | _ => exact h

/-- The state at the label 'next'. -/
def AtNext (a : Option Addr) (xs : List UInt8) (ca at0 : Nat) (w : World) (a' : Act) (w' : World) : Prop :=
  w' = w ∧ ∃ (k M : Nat) (u9 u10 u11 u12 u13 u14 u15 u16 u17 u18 u19 u20 u21 u22 u23 u24 u25 u26 u27 u28 u29 u30 u31 u32 u33 u34 u35 u36 u37 u38 u39 u40 u41 u42 u43 u44 u45 u46 u47 u48 u49 u50 u51 u52 u53 u54 u55 u56 u57 u58 u59 u60 u61 u62 u63 u64 u65 : Value), Pure.Inv (xs.drop at0) k M ∧ a' = ⟨#[.slice a xs.length ca, .int .i64 ((at0 : Int) + (k : Int)), undef, undef, .int .i64 0, .int .i64 0, .bool false, .int .u64 M, .int .i64 at0, u9, u10, u11, u12, u13, u14, u15, u16, u17, u18, u19, u20, u21, u22, u23, u24, u25, u26, u27, u28, u29, u30, u31, u32, u33, u34, u35, u36, u37, u38, u39, u40, u41, u42, u43, u44, u45, u46, u47, u48, u49, u50, u51, u52, u53, u54, u55, u56, u57, u58, u59, u60, u61, u62, u63, u64, u65], []⟩

/-- What a call of GetInt answers, of what stands at the place. -/
def gotInt (at0 : Nat) : Option (Int × Nat) → Value
  | some (n, u) => .tuple #[.int .i64 n, .int .i64 ((at0 + u : Nat) : Int), .bool true]
  | none => .tuple #[.int .i64 0, .int .i64 0, .bool false]

def Getting (w : World) (xs : List UInt8) (at0 : Nat) (e : Ending) (w' : World) : Prop := e = .returned (gotInt at0 (Pure.get (xs.drop at0))) ∧ w' = w

theorem getting_none {w : World} {xs : List UInt8} {at0 : Nat} (h : Pure.get (xs.drop at0) = none) : Getting w xs at0 (.returned (.tuple #[.int .i64 0, .int .i64 0, .bool false])) w := by
  unfold Getting; rw [h]; exact ⟨rfl, rfl⟩
theorem getting_some {w : World} {xs : List UInt8} {at0 k : Nat} {n m : Int} (h : Pure.get (xs.drop at0) = some (n, k + 1)) (hm : m = n) : Getting w xs at0 (.returned (.tuple #[.int .i64 m, .int .i64 ((at0 : Int) + (k : Int) + 1), .bool true])) w := by
  subst hm
  unfold Getting; rw [h]; exact ⟨rfl, rfl⟩

set_option maxRecDepth 100000 in
set_option maxHeartbeats 1000000 in
theorem getInt_any (w : World) (v : Value) (xs : List UInt8) (at0 : Nat) (hat : at0 ≤ 4611686018427387904) (hv : Bytes w v xs) :
    Calls Try.prog 16 #[v, .int .i64 at0] w (Getting w xs at0) := by
  obtain ⟨a, ca, rfl, ha1, ha2, ha3⟩ := hv
  unfold maxLen at ha2
  go_enter Try.func16, Try.ntmps16
  go_wp2
  refine wp_scope_head 0 (AtNext a xs ca at0 w) (fun a' _ => 10 + at0 - (intOf (a'.tmps.getD 1 undef)).toNat) rfl ?_ ?_
  · go_wp2
    refine ⟨rfl, 0, 0, ?_⟩
    repeat apply Exists.intro
    exact ⟨Pure.inv_zero _, rfl⟩
  · rintro a' w' ⟨rfl, k, M, u9, u10, u11, u12, u13, u14, u15, u16, u17, u18, u19, u20, u21, u22, u23, u24, u25, u26, u27, u28, u29, u30, u31, u32, u33, u34, u35, u36, u37, u38, u39, u40, u41, u42, u43, u44, u45, u46, u47, u48, u49, u50, u51, u52, u53, u54, u55, u56, u57, u58, u59, u60, u61, u62, u63, u64, u65, hI, rfl⟩
    have hk := hI.2.1
    have HI := Lib.hid hI
    clear hI
    by_cases hlt : at0 + k < xs.length
    · obtain ⟨g, off, rfl, hc⟩ := ha3 (by omega)
      have hkl : k < (xs.drop at0).length := by simp; omega
      obtain ⟨c, hcc⟩ : ∃ c, c = (xs.drop at0)[k].toNat := ⟨_, rfl⟩
      have c1 := hc (at0 + k) hlt
      have hcx : xs[at0 + k].toNat = c := by rw [hcc, List.getElem_drop]
      rw [hcx] at c1
      clear hc ha3 hcx
      have hb : c < 256 := by rw [hcc]; exact UInt8.toNat_lt _
      have HC := Lib.hid hcc
      clear hcc
      have e0 : decide ((xs.length : Int) ≤ (at0 : Int) + (k : Int)) = false := decide_eq_false (by omega)
      by_cases h10 : k = 10
      · have H10 := Lib.hid h10
        have e1 : (((at0 : Int) + (k : Int) - (at0 : Int)) == 10) = true := by simp; omega
        clear h10
        go_wp2
        simp only [Exit.jump]
        go_ret3
        have h := HI.out
        rw [H10.out] at h
        exact getting_none (Pure.inv_ten h)
      · have H10 := Lib.hid h10
        have hk9 : k ≤ 9 := by omega
        have e1 : (((at0 : Int) + (k : Int) - (at0 : Int)) == 10) = false := by simp; omega
        clear h10
        by_cases h9 : k = 9 ∧ 1 < c
        · have H9 := Lib.hid h9
          have e2 : (((at0 : Int) + (k : Int) - (at0 : Int)) == 9) = true := by simp; omega
          have e3 : decide ((1 : Int) < (c : Int)) = true := decide_eq_true (by omega)
          clear h9
          go_wp2
          simp only [Exit.jump]
          go_ret3
          have h := HI.out
          have hcc := HC.out
          obtain ⟨k9, c9⟩ := H9.out
          subst k9
          rw [hcc] at c9
          exact getting_none (Pure.inv_top h hkl c9)
        · have hfit := Pure.inv_fits HI.out (by omega) hkl (by rw [← HC.out]; exact h9)
          rw [← HC.out] at hfit
          have hsh := or_shift M c k (by omega) HI.out.1 hfit
          obtain ⟨M', hM'⟩ : ∃ M', M' = M + c % 128 * 128 ^ k := ⟨_, rfl⟩
          rw [← hM'] at hsh hfit
          have HM := Lib.hid hM'
          clear hM'
          have hM2 : M' / 2 ≤ 9223372036854775807 := by omega
          have HF := Lib.hid hfit
          clear hfit
          have hpick : (((at0 : Int) + (k : Int) - (at0 : Int)) == 9) = true ∧ decide ((1 : Int) < (c : Int)) = false ∨ (((at0 : Int) + (k : Int) - (at0 : Int)) == 9) = false := by
            by_cases h : k = 9
            · left; exact ⟨by simp; omega, decide_eq_false (by omega)⟩
            · right; simp; omega
          have H9 := Lib.hid h9
          clear h9
          by_cases hc : 128 ≤ c
          · rcases hpick with ⟨e2, e3⟩ | e2
            all_goals
              go_wp2
              go_step3
              simp only [Exit.then]
              refine ⟨rfl, ⟨rfl, k + 1, M', ?_⟩, ?_⟩
              · repeat apply Exists.intro
                refine ⟨?_, rfl⟩
                have h := Pure.inv_more HI.out (by omega) hkl (by rw [← HC.out]; omega)
                rw [← HC.out, ← HM.out] at h
                exact h
              · simp [intOf]; omega
          · have e4 : decide ((128 : Int) ≤ (c : Int)) = false := decide_eq_false (by omega)
            by_cases hz : c = 0 ∧ 0 < k
            · have e5 : ((c : Int) == 0) = true := by simp; omega
              have e7 : decide ((1 : Int) < (at0 : Int) + (k : Int) + 1 - (at0 : Int)) = true := decide_eq_true (by omega)
              have H := Lib.hid hz
              clear hz hc
              rcases hpick with ⟨e2, e3⟩ | e2
              all_goals
                go_wp2
                simp only [Exit.jump]
                go_ret3
                exact getting_none (Pure.inv_null HI.out (by omega) hkl (by rw [← HC.out]; exact H.out.1) (by have := H.out.2; omega))
            · have hd := Pure.inv_done HI.out (by omega) hkl (by rw [← HC.out]; omega) (by rw [← HC.out]; omega) (by rw [← HC.out]; exact H9.out)
              rw [← HC.out, ← HM.out] at hd
              have HD := Lib.hid hd
              clear hd
              have hnot := Lib.i64_not (M' / 2) (by omega)
              have H := Lib.hid hz
              have hpz : ((c : Int) == 0) = true ∧ decide ((1 : Int) < (at0 : Int) + (k : Int) + 1 - (at0 : Int)) = false ∨ ((c : Int) == 0) = false := by
                by_cases h : c = 0
                · left; exact ⟨by simp; omega, decide_eq_false (by omega)⟩
                · right; simp; omega
              clear hz
              by_cases hp : M' % 2 = 1
              · have e6 : (bits .and .u64 (M' : Int) 1 == 1) = true := by have := HF.out; rw [Lib.u64_and1 _ (by omega) (by omega)]; simp; omega
                have H2 := Lib.hid hp
                clear hp
                rcases hpick with ⟨e2, e3⟩ | e2 <;> rcases hpz with ⟨e5, e7⟩ | e5
                all_goals
                  go_wp2
                  simp only [Exit.jump]
                  go_ret3
                  refine getting_some HD.out ?_
                  unfold Pure.zag
                  rw [if_pos H2.out]
                  simpa using hnot
              · have e6 : (bits .and .u64 (M' : Int) 1 == 1) = false := by have := HF.out; rw [Lib.u64_and1 _ (by omega) (by omega)]; simp; omega
                have H2 := Lib.hid hp
                clear hp
                rcases hpick with ⟨e2, e3⟩ | e2 <;> rcases hpz with ⟨e5, e7⟩ | e5
                all_goals
                  go_wp2
                  simp only [Exit.jump]
                  go_ret3
                  refine getting_some HD.out ?_
                  unfold Pure.zag
                  rw [if_neg H2.out]
                  simp
    · have e0 : decide ((xs.length : Int) ≤ (at0 : Int) + (k : Int)) = true := decide_eq_true (by omega)
      go_wp2
      simp only [Exit.jump]
      go_ret3
      exact getting_none (Pure.inv_end HI.out (by simp; omega))
end Go.Proofs.Ytjpaljiielemgaa
