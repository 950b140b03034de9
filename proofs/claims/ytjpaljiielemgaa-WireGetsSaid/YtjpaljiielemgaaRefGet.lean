/- The document's answer's 'GetInt': it reads what Pure.get reads. -/
import Derived.Test.YtjpaljiielemgaaGets
import Derived.Test.YtjpaljiielemgaaRefPure
namespace Go.Proofs.Ytjpaljiielemgaa
open Go.RowKit

theorem cell_at {w : World} {xs : List UInt8} {g off at0 k : Nat} (hx : ∀ j (h : j < xs.length), w.cell? ⟨g, off + j, none⟩ = some (.int .u8 (xs[j].toNat : Int))) (hk : k < (xs.drop at0).length) :
    w.cell? ⟨g, off + (at0 + k), none⟩ = some (.int .u8 ((xs.drop at0)[k].toNat : Int)) := by
  have hlt : at0 + k < xs.length := by rw [List.length_drop] at hk; omega
  rw [hx (at0 + k) hlt, List.getElem_drop]

set_option maxRecDepth 100000 in
set_option maxHeartbeats 1000000 in
theorem refGetInt_any (w : World) (v : Value) (xs : List UInt8) (at0 : Nat) (hat : at0 ≤ 4611686018427387904) (hv : Bytes w v xs) :
    Calls Try.prog 25 #[v, .int .i64 at0] w (Getting w xs at0) := by
  obtain ⟨a, ca, rfl, ha1, ha2, ha3⟩ := hv
  unfold maxLen at ha2
  go_enter Try.func25, Try.ntmps25
  go_wp2
  go_loop [7] (fun e => ∃ k : Nat, k ≤ 10 ∧ e = .int .i64 ((at0 : Int) + (k : Int)) ∧ Pure.Runs (xs.drop at0) k) (fun e => (at0 + 10) - (intOf e).toNat)
  case atStart => exact ⟨0, by omega, rfl, Pure.runs_zero _⟩
  case round =>
    obtain ⟨k, hk, rfl, hR⟩ := hrel
    have HR := Lib.hid hR
    clear hR
    by_cases hlt : at0 + k < xs.length
    · obtain ⟨g, off, rfl, hx⟩ := ha3 (by omega)
      have hkl : k < (xs.drop at0).length := by rw [List.length_drop]; omega
      have c1 := cell_at hx hkl
      obtain ⟨c, hcc⟩ : ∃ c, c = (xs.drop at0)[k].toNat := ⟨_, rfl⟩
      rw [← hcc] at c1
      have hb : c < 256 := by rw [hcc]; exact UInt8.toNat_lt _
      have HC := Lib.hid hcc
      have HX := Lib.hid hx
      clear hcc hx ha3
      have d0 : decide ((at0 : Int) + (k : Int) < (xs.length : Int)) = true := decide_eq_true (by omega)
      by_cases h10 : k < 10
      · have d1 : decide ((at0 : Int) + (k : Int) < (at0 : Int) + 10) = true := decide_eq_true (by omega)
        by_cases hc : 128 ≤ c
        · have d2 : decide ((128 : Int) ≤ (c : Int)) = true := decide_eq_true (by omega)
          have HN := Lib.hid (Pure.runs_more HR.out h10 hkl (by rw [← HC.out]; omega))
          go_wp2
          go_round
          case rel => exact ⟨k + 1, by omega, by go_num, HN.out⟩
          case measure => simp [intOf]; omega
        · have d2 : decide ((128 : Int) ≤ (c : Int)) = false := decide_eq_false (by omega)
          have d3 : decide ((xs.length : Int) ≤ (at0 : Int) + (k : Int)) = false := decide_eq_false (by omega)
          have d4 : decide ((at0 : Int) + 10 ≤ (at0 : Int) + (k : Int)) = false := decide_eq_false (by omega)
          have HC2 := Lib.hid (show (xs.drop at0)[k].toNat < 128 by rw [← HC.out]; omega)
          go_wp2
          go_loop [8, 9] (fun m i => ∃ j : Nat, j ≤ k + 1 ∧ i = .int .i64 ((at0 : Int) + (j : Int) - 1) ∧ m = .int .u64 ((Pure.V (xs.drop at0) k j : Nat) : Int) ∧ Pure.V (xs.drop at0) k j < 18446744073709551616 ∧ (j ≤ k → Pure.V (xs.drop at0) k (j + 1) ≤ 144115188075855871)) (fun _ i => (intOf i + 1 - (at0 : Int)).toNat)
          case atStart =>
            refine ⟨k + 1, by omega, ?_, ?_, ?_, fun h => absurd h (by omega)⟩
            · go_num
            · rw [Pure.V_end]; rfl
            · rw [Pure.V_end]; omega
          case round =>
            obtain ⟨j, hj, rfl, rfl, hlt2, hgood⟩ := hrel
            obtain ⟨M, hM⟩ : ∃ M, M = Pure.V (xs.drop at0) k j := ⟨_, rfl⟩
            rw [← hM] at hlt2
            have HM := Lib.hid hM
            have HG := Lib.hid hgood
            have HL := Lib.hid hlt2
            rw [← hM]
            clear hM hgood hlt2
            by_cases hj0 : j = 0
            · subst hj0
              have hV0 := HM.out
              have hs := HG.out (by omega)
              have HV := Lib.hid (show M = Pure.V (xs.drop at0) k 0 from hV0)
              have HS := Lib.hid hs
              clear hV0 hs
              have hM2 : M / 2 ≤ 9223372036854775807 := by have := HL.out; omega
              have e0 : (at0 : Int) + ((0 : Nat) : Int) - 1 = (at0 : Int) - 1 := by omega
              rw [e0]
              by_cases hz : c = 0 ∧ 0 < k
              · obtain ⟨hz, hk0⟩ := hz
                have e1 : ((c : Int) == 0) = true := by simp [hz]
                have HN := Lib.hid (Pure.inv_null HR.out h10 hkl (by rw [← HC.out]; exact hz) (by omega))
                have HZ := Lib.hid hz
                clear hz
                go_wp2
                go_ret3
                exact getting_none HN.out
              · have HN := Pure.V_good HR.out h10 hkl HC2.out HS.out (by rw [← HC.out]; omega)
                rw [← HV.out] at HN
                have HN := Lib.hid HN
                have hpz : ((c : Int) == 0) = false ∨ ((c : Int) == 0) = true ∧ k = 0 := by
                  by_cases h : c = 0
                  · right; exact ⟨by simp [h], by omega⟩
                  · left; simp; omega
                have HZ := Lib.hid hz
                clear hz
                by_cases hp : M % 2 = 1
                · have HP := Lib.hid hp
                  have e2 : ((M : Int) % 2 == 1) = true := by simp; omega
                  clear hp
                  rcases hpz with e1 | ⟨e1, hk0⟩
                  · go_wp2
                    all_goals
                      go_ret3
                      refine getting_some HN.out ?_
                      unfold Pure.zag
                      rw [if_pos HP.out]
                      simp
                  · subst hk0
                    go_wp2
                    go_ret3
                    refine getting_some (k := 0) HN.out ?_
                    unfold Pure.zag
                    rw [if_pos HP.out]
                    simp
                · have HP := Lib.hid hp
                  have e2 : ((M : Int) % 2 == 1) = false := by simp; omega
                  clear hp
                  rcases hpz with e1 | ⟨e1, hk0⟩
                  · go_wp2
                    all_goals
                      go_ret3
                      refine getting_some HN.out ?_
                      unfold Pure.zag
                      rw [if_neg HP.out]
                      simp
                  · subst hk0
                    go_wp2
                    go_ret3
                    refine getting_some (k := 0) HN.out ?_
                    unfold Pure.zag
                    rw [if_neg HP.out]
                    simp
            · obtain ⟨m, rfl⟩ : ∃ m, j = m + 1 := ⟨j - 1, by omega⟩
              have e0 : (at0 : Int) + ((m + 1 : Nat) : Int) - 1 = (at0 : Int) + (m : Int) := by omega
              rw [e0]
              have hml : m < (xs.drop at0).length := by omega
              have c2 := cell_at HX.out hml
              obtain ⟨b, hbb⟩ : ∃ b, b = (xs.drop at0)[m].toNat := ⟨_, rfl⟩
              rw [← hbb] at c2
              have hb2 : b < 256 := by rw [hbb]; exact UInt8.toNat_lt _
              have HB := Lib.hid hbb
              clear hbb
              have hmx : at0 + m < xs.length := by omega
              by_cases hg : 144115188075855871 < M
              · have HN := Lib.hid (Pure.V_great HR.out h10 hkl HC2.out (j := m + 1) (by omega) (by rw [← HM.out]; exact hg))
                have g1 : decide ((144115188075855871 : Int) < (M : Int)) = true := decide_eq_true (by omega)
                clear hg
                go_wp2
                go_ret3
                exact getting_none HN.out
              · have g1 : decide ((144115188075855871 : Int) < (M : Int)) = false := decide_eq_false (by omega)
                have hMle : M ≤ 144115188075855871 := by omega
                clear hg
                go_wp2
                go_round
                case rel =>
                  have hst := Pure.V_step (xs.drop at0) k m hkl (by omega)
                  rw [← HM.out, ← HB.out] at hst
                  refine ⟨m, by omega, by go_num, ?_, ?_, fun _ => by rw [← HM.out]; exact hMle⟩
                  · rw [hst]; go_num
                  · rw [hst]; omega
                case measure => simp [intOf]; omega
      · have h10 : k = 10 := by omega
        have HN := HR.out
        rw [h10] at HN
        have HN := Lib.hid (Pure.inv_ten HN)
        have d1 : decide ((at0 : Int) + (k : Int) < (at0 : Int) + 10) = false := decide_eq_false (by omega)
        have d3 : decide ((xs.length : Int) ≤ (at0 : Int) + (k : Int)) = false := decide_eq_false (by omega)
        have d4 : decide ((at0 : Int) + 10 ≤ (at0 : Int) + (k : Int)) = true := decide_eq_true (by omega)
        have H10 := Lib.hid h10
        clear h10
        go_wp2
        go_ret3
        exact getting_none HN.out
    · have d0 : decide ((at0 : Int) + (k : Int) < (xs.length : Int)) = false := decide_eq_false (by omega)
      have d3 : decide ((xs.length : Int) ≤ (at0 : Int) + (k : Int)) = true := decide_eq_true (by omega)
      have HN := Lib.hid (Pure.inv_end HR.out (by rw [List.length_drop]; omega))
      go_wp2
      go_ret3
      exact getting_none HN.out
end Go.Proofs.Ytjpaljiielemgaa
