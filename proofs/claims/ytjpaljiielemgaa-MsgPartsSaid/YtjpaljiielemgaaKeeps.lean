/- The law WireKeeps: what is handed in stays; what is read is new memory. -/
import Derived.Test.YtjpaljiielemgaaArgs
namespace Go.Proofs.Ytjpaljiielemgaa
open Go.RowKit

/-- The block that a slice leads to. -/
def adr : Value → Option Nat
  | .slice (some a) _ _ => some a.block
  | _ => none

theorem Wrote.adr {w w' : World} {v v' : Value} (h : Wrote w v w' v') {B : Nat} (hB : B ≤ w.heap.size) (hv : ∀ k, adr v = some k → B ≤ k) : ∀ k, adr v' = some k → B ≤ k := by
  intro k hk
  rcases h.became with ⟨a, n, n', c, rfl, rfl, hn⟩ | ⟨g, n', c', rfl, hg⟩
  · cases a with
    | none => cases hk
    | some a => exact hv k hk
  · injection hk with hk; subst hk; exact Nat.le_trans hB hg

theorem heap_setCell (w : World) (g k : Nat) (v : Value) (cur : Array Value) (h : w.heap[g]? = some (.cells cur 5 (0, 0))) :
    (w.setCell ⟨g, k, none⟩ v).heap[g]? = some (.cells (cur.setIfInBounds k v) 5 (0, 0)) := by
  simp [World.setCell, Array.getElem?_modify, h]

/-- A row of bytes of the call's own that is written over, cell by cell. -/
def Over (B : Nat) (a : Option Addr) (n : Nat) (w : World) : Prop :=
  0 < n → ∃ g cur, a = some ⟨g, 0, none⟩ ∧ B ≤ g ∧ w.heap[g]? = some (.cells cur 5 (0, 0)) ∧ n ≤ cur.size

theorem Buf.over {w : World} {a : Option Addr} {n c : Nat} {xs : List UInt8} (h : Buf w (.slice a n c) xs) {B : Nat} (hB : ∀ k, adr (.slice a n c) = some k → B ≤ k) : Over B a n w := by
  intro h0
  obtain ⟨a', c', he, h1, h2, h3⟩ := h
  injection he with e1 e2 e3
  subst e1 e2 e3
  obtain ⟨g, cur, rfl, hg, hc, hx⟩ := h3 (by omega)
  exact ⟨g, cur, rfl, hB g rfl, hg, by omega⟩

theorem over_step {B g k n : Nat} {wr : World} {cur : Array Value} (hB : B ≤ g) (hg : wr.heap[g]? = some (.cells cur 5 (0, 0))) (hn : n ≤ cur.size) (v : Value) :
    Over B (some ⟨g, 0, none⟩) n (wr.setCell ⟨g, k, none⟩ v) := fun _ => ⟨g, _, rfl, hB, heap_setCell wr g k v cur hg, by simpa using hn⟩

theorem over_cell {g k : Nat} {wr : World} {cur : Array Value} (hg : wr.heap[g]? = some (.cells cur 5 (0, 0))) (hk : k < cur.size) : ∃ x, wr.cell? ⟨g, k, none⟩ = some x := by
  refine ⟨cur[k], ?_⟩
  simp [World.cell?, hg, hk]
theorem over_free {g k : Nat} {wr : World} {cur : Array Value} (hg : wr.heap[g]? = some (.cells cur 5 (0, 0))) : wr.frozen? ⟨g, k, none⟩ = false := by
  simp [World.frozen?, hg]

/-- The text that a place has, as Go answers it. -/
def strAt (l : List UInt8) : ByteArray := match getTxt l with | some (t, _) => ⟨t.toArray⟩ | none => ⟨#[]⟩
def intAt (at0 : Nat) (l : List UInt8) : Int := match getTxt l with | some (_, u) => (at0 : Int) + (u : Int) | none => 0
def okAt (l : List UInt8) : Bool := (getTxt l).isSome

theorem strAt_size (l : List UInt8) : (strAt l).size ≤ 65536 := by
  unfold strAt getTxt
  cases h : Pure.get l with
  | none => simp [ByteArray.size]
  | some p =>
    obtain ⟨n, u⟩ := p
    simp only
    split
    · rename_i h
      split at h
      · rename_i hc
        injection h with h
        injection h with h1 h2
        subst h1
        simp [ByteArray.size]; omega
      · cases h
    · simp [ByteArray.size]

theorem ByteArray.append_empty' (s : ByteArray) : s ++ ⟨#[]⟩ = s := by
  apply ByteArray.ext; simp [ByteArray.data_append]

theorem getText_tuple (w : World) (v : Value) (xs : List UInt8) (at0 : Nat) (hat : at0 ≤ 4611686018427387904) (hv : Bytes w v xs) :
    Calls Try.prog 17 #[v, .int .i64 at0] w fun e w' => e = .returned (.tuple #[.string (strAt (xs.drop at0)), .int .i64 (intAt at0 (xs.drop at0)), .bool (okAt (xs.drop at0))]) ∧ w = w' :=
  (getText_core w v xs at0 hat hv).mono fun e w' ⟨he, hw⟩ => by
    refine ⟨?_, hw⟩
    rw [he]
    unfold strAt intAt okAt
    cases h : getTxt (xs.drop at0) with
    | none => rfl
    | some p => rfl

set_option maxRecDepth 100000 in
set_option maxHeartbeats 1000000 in
theorem keeps_walk (a0 : Option Addr) (len0 cap0 : Nat) (z0 : List Int) (a1 : Int) (w : World) (w0 : IsRow w a0 len0 cap0 z0) (w1 : (Lit.int .i64 a1).wf = true) :
    Calls Try.prog 5 #[.slice a0 len0 cap0, .int .i64 a1] w fun e w' => e = .returned (.bool true) ∧ Below w.heap.size w w' := by
  have k1 := bounds_i64 w1
  obtain ⟨xs, hx, hv0⟩ := w0.bytes
  clear w0 w1
  subst hx
  have hm0 : xs.length ≤ 9223372036854775807 := by obtain ⟨_, c, he, h1, h2, _⟩ := hv0; unfold maxLen at h2; omega
  by_cases h2 : xs.length ≤ 5000 ∧ 0 ≤ a1 ∧ a1 ≤ 6000
  · obtain ⟨h0, h1, h3⟩ := h2
    obtain ⟨at0, rfl⟩ := Int.eq_ofNat_of_zero_le h1
    have d0 : decide ((5000 : Int) < (xs.length : Int)) = false := decide_eq_false (by omega)
    have d1 : decide ((at0 : Int) < 0) = false := decide_eq_false (by omega)
    have d2 : decide ((6000 : Int) < (at0 : Int)) = false := decide_eq_false (by omega)
    have hat : at0 ≤ 4611686018427387904 := by omega
    have hsz := strAt_size (xs.drop at0)
    have hcat : strAt (xs.drop at0) ++ ⟨#[]⟩ = strAt (xs.drop at0) := ByteArray.append_empty'  _
    clear k1 h1
    go_enter Try.func5, Try.ntmps5
    go_wp2_with (at_builtin; refine wpList_app rfl (.tmp 27) (.tmp 28) 24 rfl (.inl Try.underlying24) (.slice (some ⟨w.heap.size, 0, none⟩) 0 0) _ [] xs rfl rfl (buf_at w _ _ rfl [] (by decide) rfl) (src_bytes (hv0.keep ((Below.refl _ _).alloc (Nat.le_refl _) _))) (by simp; omega) ?_; intro va wa hba hwa)
    rw [List.nil_append] at hba
    have ba : Below w.heap.size w wa := ((Below.refl _ _).alloc (Nat.le_refl _) _).trans ((hwa.new (by simp [blk])).mono (by simp))
    have hv1 := hv0.keep ba
    refine (getText_tuple wa _ xs at0 hat hv1).mono ?_
    rintro e w' ⟨rfl, rfl⟩
    go_wp2_with (at_builtin; refine wpList_app rfl (.tmp 39) (.tmp 40) 24 rfl (.inl Try.underlying24) (.slice (some ⟨wa.heap.size, 0, none⟩) 0 0) _ [] xs rfl rfl (buf_at wa _ _ rfl [] (by decide) rfl) (src_bytes (hv1.keep ((Below.refl _ _).alloc (Nat.le_refl _) _))) (by simp; omega) ?_; intro vc wc hbc hwc)
    rw [List.nil_append] at hbc
    have bc : Below wa.heap.size wa wc := ((Below.refl _ _).alloc (Nat.le_refl _) _).trans ((hwc.new (by simp [blk])).mono (by simp))
    have fc := hwc.adr (B := wa.heap.size) (by simp) (by intro k hk; simp [adr] at hk; omega)
    obtain ⟨ac, nc, cc, rfl, hnc, hnc1, hnc2, hnc3⟩ := hbc.parts
    refine (getText_tuple wc _ xs at0 hat hbc.bytes).mono ?_
    rintro e w' ⟨rfl, rfl⟩
    have hov := hbc.over fc
    go_wp2
    go_loopw [14] (fun i wr => ∃ k : Nat, k ≤ nc ∧ i = .int .i64 k ∧ Below wa.heap.size wa wr ∧ Over wa.heap.size ac nc wr) (fun i _ => nc - (intOf i).toNat)
    case atStart => exact ⟨0, Nat.zero_le _, rfl, bc, hov⟩
    case round =>
      obtain ⟨k, hk, rfl, hbr, hor⟩ := hrel
      by_cases hlt : k < nc
      · obtain ⟨g, cur, rfl, hB, hg, hn⟩ := hor (by omega)
        obtain ⟨x, c1⟩ := over_cell (k := k) hg (by omega)
        have f1 := over_free (k := k) hg
        have hst := over_step (k := k) (n := nc) hB hg hn (.int .u8 9)
        have bst : Below wa.heap.size wa (wr.setCell ⟨g, k, none⟩ (.int .u8 9)) := hbr.setCell hB _
        have HG := Lib.hid hg
        clear hg hor
        go_wp2
        go_roundw
        case rel => exact ⟨k + 1, by omega, by go_num, bst, hst⟩
        case measure => simp [intOf]; omega
      · go_wp2_with fail
        refine (awake3_core _).mono ?_
        rintro e wf ⟨rfl, bf⟩
        have bS : Below wa.heap.size wa wf := hbr.trans (bf.mono hbr.size)
        go_wp2_with fail
        refine (same_yes _ _ _ xs (hv1.keep bS) (hba.bytes.keep bS)).mono ?_
        rintro e wh ⟨rfl, n, hwh⟩
        have bS3 : Below wa.heap.size wa wh := by rw [hwh]; exact below_drewN bS _
        clear hwh
        go_wp2
        go_ret
        exact ⟨rfl, ba.trans (bS3.mono ba.size)⟩
  · have hg3 : decide ((5000 : Int) < (xs.length : Int)) = true ∨ decide ((5000 : Int) < (xs.length : Int)) = false ∧ decide (a1 < 0) = true ∨
        decide ((5000 : Int) < (xs.length : Int)) = false ∧ decide (a1 < 0) = false ∧ decide (6000 < a1) = true := by
      simp only [decide_eq_true_eq, decide_eq_false_iff_not]; omega
    clear h2
    rcases hg3 with d2 | ⟨d2, d0⟩ | ⟨d2, d0, d3⟩
    all_goals
      go_enter Try.func5, Try.ntmps5
      go_wp2_with fail
      refine (awake3_core w).mono ?_
      rintro e wa ⟨rfl, ba⟩
      go_wp2
      go_ret
      exact ⟨rfl, ba⟩
end Go.Proofs.Ytjpaljiielemgaa
