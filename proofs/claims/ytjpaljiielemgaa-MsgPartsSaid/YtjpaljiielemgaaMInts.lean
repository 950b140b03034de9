/- msg's reader.ints. -/
import Derived.Test.YtjpaljiielemgaaMRead
namespace Go.Proofs.Ytjpaljiielemgaa
open Go.RowKit

def ecs (L : List Int) : List UInt8 := (L.map Pure.enc).flatten
theorem ecs_snoc (L : List Int) (n : Int) : ecs (L ++ [n]) = ecs L ++ Pure.enc n := by simp [ecs]
def layI (cs : Array Value) (j : Nat) : List Int → Array Value
  | [] => cs
  | n :: r => layI (cs.setIfInBounds j (.int .i64 n)) (j + 1) r
theorem layI_snoc (n : Int) : ∀ (L : List Int) (cs : Array Value) (j : Nat), layI cs j (L ++ [n]) = (layI cs j L).setIfInBounds (j + L.length) (.int .i64 n)
  | [], _, _ => rfl
  | m :: L, cs, j => by
    show layI (cs.setIfInBounds j (.int .i64 m)) (j + 1) (L ++ [n]) = (layI (cs.setIfInBounds j (.int .i64 m)) (j + 1) L).setIfInBounds (j + (L.length + 1)) _
    rw [layI_snoc n L, Nat.add_assoc, Nat.add_comm 1]
theorem layI_size : ∀ (L : List Int) (cs : Array Value) (j : Nat), (layI cs j L).size = cs.size
  | [], _, _ => rfl
  | m :: L, cs, j => by
    show (layI (cs.setIfInBounds j (.int .i64 m)) (j + 1) L).size = _
    rw [layI_size L]; simp

/-- What the reader of numbers leaves. -/
structure ReadN (xs : List UInt8) (w w' : World) (gr ge : Nat) (t : TypeId) (v : Value) (s : Sp) (j k : Nat) (cs : Array Value) (L : List Int) : Prop where
  st : MSt w w' gr ge t v (advs lInt xs k s) (layI cs j L)
  few : L.length ≤ k
  all : (advs lInt xs k s).bad = false → L.length = k ∧ (∀ n ∈ L, rng n) ∧ Went xs s.at0 (advs lInt xs k s).at0 (ecs L)

set_option maxRecDepth 100000 in
set_option maxHeartbeats 1000000 in
theorem mInts_core {w : World} {gr ge gs : Nat} {t : TypeId} {v : Value} {xs : List UInt8} {s : Sp} {cs : Array Value} (j K : Nat) (hs : MSt w w gr ge t v s cs) (hv : Bytes w v xs) (hne : gr ≠ ge) (h1 : Apart v gr) (h2 : Apart v ge) (hx : xs.length ≤ far)
    (hg1 : gs ≠ gr) (hg2 : gs ≠ ge) (hK : K ≤ 1000) (hp : ∀ i, i < K → w.cell? ⟨gs, i, none⟩ = some (.pointer (some ⟨ge, j + i, none⟩))) (hj : j + K ≤ cs.size) :
    Calls Try.prog 57 #[.pointer (some ⟨gr, 0, none⟩), .slice (some ⟨gs, 0, none⟩) K K] w fun e w' => e = .returned (.tuple #[]) ∧ ∃ L, ReadN xs w w' gr ge t v s j K cs L := by
  have HP := Lib.hid hp
  clear hp
  go_enter Try.func57, Try.ntmps57
  go_wp2
  go_loopw [8] (fun i wr => ∃ (k : Nat) (L : List Int), k ≤ K ∧ i = .int .i64 k ∧ ReadN xs w wr gr ge t v s j k cs L) (fun i _ => K - (intOf i).toNat)
  case atStart => exact ⟨0, [], Nat.zero_le _, rfl, ⟨hs, Nat.le_refl _, fun _ => ⟨rfl, by simp, Went.nil _ _⟩⟩⟩
  case round =>
    obtain ⟨k, L, hk, rfl, hst⟩ := hrel
    by_cases hlt : k < K
    · have hc := HP.out k hlt
      have hgl := World.block_lt_of_cell? w _ hc
      rw [← hst.st.turn.cell (a := ⟨gs, k, none⟩) hgl hg1 hg2] at hc
      have hw := hv.turn hst.st.turn h1 h2
      replace hst := Lib.hid hst; replace hw := Lib.hid hw; clear hgl
      go_wp2_with fail
      refine (readInt (j + k) hst.out.st.here hw.out hne hx (by rw [layI_size]; omega)).mono ?_
      rintro e w2 ⟨rfl, cs2, hr⟩
      have hnew : ∃ L2, ReadN xs w w2 gr ge t v s j (k + 1) cs L2 := by
        have hst := hst.out
        have hM : MSt w w2 gr ge t v (advs lInt xs (k + 1) s) cs2 := ⟨hr.st.rd, hr.st.en, hst.st.turn.trans hr.st.turn, hr.st.near⟩
        rcases hr.what with ⟨hb, he⟩ | ⟨hb, V, E, hV, he, hwe⟩
        · refine ⟨L, by rw [← he]; exact hM, by have := hst.few; omega, fun h => ?_⟩
          have h : (adv lInt xs (advs lInt xs k s)).bad = false := h
          rw [hb] at h; cases h
        · have hb0 : (advs lInt xs k s).bad = false := by
            cases h : (advs lInt xs k s).bad with
            | true => rw [adv_bad h, h] at hb; cases hb
            | false => rfl
          obtain ⟨hl, hall, hw1⟩ := hst.all hb0
          obtain ⟨n, hn, rfl, rfl⟩ := hV
          refine ⟨L ++ [n], ?_, by simp; omega, fun _ => ⟨by simp; omega, ?_, ?_⟩⟩
          · rw [layI_snoc, hl, ← he]; exact hM
          · intro m hm
            rcases List.mem_append.1 hm with hm | hm
            · exact hall m hm
            · simp at hm; rw [hm]; exact hn
          · rw [ecs_snoc]; exact hw1.trans hwe
      obtain ⟨L2, hnew⟩ := hnew
      replace hnew := Lib.hid hnew
      clear hr
      go_wp2
      go_roundw
      case rel => exact ⟨k + 1, L2, by omega, by go_num, hnew.out⟩
      case measure => simp [intOf]; omega
    · have e : k = K := by omega
      subst e
      go_wp2
      go_end0
      exact ⟨rfl, L, hst⟩
end Go.Proofs.Ytjpaljiielemgaa
