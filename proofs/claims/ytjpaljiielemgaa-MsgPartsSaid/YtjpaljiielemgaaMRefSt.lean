/- The document's answer to messages: numbers, bit; a list's elements as they lie in memory. -/
import Derived.Test.YtjpaljiielemgaaMMsg
import Derived.Test.YtjpaljiielemgaaRefEnt
import Derived.Test.YtjpaljiielemgaaRefOp
namespace Go.Proofs.Ytjpaljiielemgaa
open Go.RowKit
attribute [local go_sem] store_cplx

theorem Buf.below {w w' : World} {v : Value} {xs : List UInt8} (h : Buf w v xs) (hb : Below w.heap.size w w') : Buf w' v xs := by
  obtain ⟨a, cap, rfl, h1, h2, h3⟩ := h
  refine ⟨a, cap, rfl, h1, h2, fun h0 => ?_⟩
  obtain ⟨g, cur, rfl, hg, rest⟩ := h3 h0
  exact ⟨g, cur, rfl, (hb.block g (Array.getElem?_eq_some_iff.1 hg).1).trans hg, rest⟩
theorem Wrote.of_below {w w' : World} {v : Value} (hs : ∃ a n c, v = .slice a n c) (hb : Below w.heap.size w w') : Wrote w v w' v := by
  refine ⟨hb.os, hb.tape, hb.output, hb.size, fun k hk _ => hb.block k hk, ?_, ?_⟩
  · intro a n c cur hv hcur
    exact ⟨cur, (hb.block a.block (Array.getElem?_eq_some_iff.1 hcur).1).trans hcur, rfl, fun _ _ => rfl⟩
  · obtain ⟨a, n, c, rfl⟩ := hs
    exact .inl ⟨a, n, n, c, rfl, rfl, Nat.le_refl _⟩

theorem ecs_take (L : List Int) (k : Nat) (h : k < L.length) : ecs (L.take (k + 1)) = ecs (L.take k) ++ Pure.enc L[k] := by
  rw [List.take_succ_eq_append_getElem h, ecs_snoc]
theorem ecs_len : ∀ (L : List Int), (∀ n ∈ L, rng n) → (ecs L).length ≤ 10 * L.length
  | [], _ => by simp [ecs]
  | n :: L, h => by
    have h1 := Pure.enc_len n (h n (by simp)).1 (h n (by simp)).2
    have h2 := ecs_len L (fun m hm => h m (by simp [hm]))
    simp only [ecs, List.map_cons, List.flatten_cons, List.length_append, List.length_cons] at h2 ⊢
    omega

set_option maxRecDepth 100000 in
set_option maxHeartbeats 1000000 in
theorem numbers_core (w : World) (gs K : Nat) (L : List Int) (hK : L.length = K) (hK1 : K ≤ 1000) (hp : ∀ i (h : i < L.length), w.cell? ⟨gs, i, none⟩ = some (.int .i64 L[i])) (hr : ∀ n ∈ L, rng n) :
    Calls Try.prog 68 #[.slice (some ⟨gs, 0, none⟩) K K] w (Puts w (.slice none 0 0) (ecs L)) := by
  have HP := Lib.hid hp
  have HK := Lib.hid hK
  have HR := Lib.hid hr
  clear hp hK hr
  go_enter Try.func68, Try.ntmps68
  go_wp2
  go_loopw [3, 4] (fun v' i wr => ∃ (k : Nat), k ≤ K ∧ i = .int .i64 k ∧ Buf wr v' (ecs (L.take k)) ∧ Wrote w (.slice none 0 0) wr v') (fun _ i _ => K - (intOf i).toNat)
  case atStart => exact ⟨0, by omega, rfl, Buf.nil w, Wrote.refl _ _ ⟨_, _, _, rfl⟩⟩
  case round =>
    obtain ⟨k, hk, rfl, hbr, hwr⟩ := hrel
    by_cases hlt : k < K
    · have hkl : k < L.length := by rw [HK.out]; exact hlt
      obtain ⟨hr1, hr2⟩ := HR.out L[k] (List.getElem_mem hkl)
      have hel := ecs_len (L.take k) (fun n hn => HR.out n (List.mem_of_mem_take hn))
      rw [List.length_take] at hel
      have hel2 : (ecs (L.take k)).length ≤ 10000 := by omega
      have hc := HP.out k hkl
      have HT := Lib.hid (ecs_take L k hkl)
      generalize L[k] = m at hr1 hr2 hc HT
      have hc2 : (wr).cell? ⟨gs, k, none⟩ = some (.int .i64 m) := by
        rw [(hwr.new rfl).cell (p := ⟨gs, k, none⟩) (World.block_lt_of_cell? w _ hc)]
        exact hc
      have HB := Lib.hid hbr
      have HW := Lib.hid hwr
      have HE := Lib.hid hel2
      clear hbr hwr hel hel2 hc hkl
      go_wp2_with fail
      refine (refInt_core wr m hr1 hr2).mono ?_
      rintro e w2 ⟨v2, rfl, hb2, hw2⟩
      obtain ⟨a2, n2, c2, rfl, _⟩ := hb2.parts
      have hnew : Below wr.heap.size wr w2 := hw2.new rfl
      have hb3 := HB.out.below hnew
      have hw3 := HW.out.trans (Wrote.of_below HB.out.slice hnew)
      have hl2 := Pure.enc_len m hr1 hr2
      have H3 := Lib.hid hb3
      have H4 := Lib.hid hw3
      have H5 := Lib.hid hb2.bytes
      clear hb2 hw2 hnew hb3 hw3
      go_wp2_with (at_builtin; refine wpList_app rfl (.tmp 11) (.tmp 16) 24 rfl (.inl Try.underlying24) _ (.slice a2 n2 c2) _ (Pure.enc m) rfl rfl H3.out (src_bytes H5.out) (by have := HE.out; omega) ?_; intro v3 w3 hb3 hw3)
      go_roundw
      case rel =>
        refine ⟨k + 1, by omega, by go_num, ?_, H4.out.trans hw3⟩
        rw [HT.out]
        exact hb3
      case measure => simp [intOf]; omega
    · go_wp2
      go_ret
      have e : k = K := by omega
      subst e
      rw [List.take_of_length_le (by rw [HK.out]; exact Nat.le_refl _)] at hbr
      exact ⟨_, rfl, hbr, hwr⟩

set_option maxRecDepth 100000 in
theorem bit6_core (w : World) (b : Bool) : Calls Try.prog 69 #[.bool b] w fun e w' => e = .returned (.int .u8 ((if b then 1 else 0 : Nat) : Int)) ∧ w = w' := by
  cases b
  · go_enter Try.func69, Try.ntmps69
    go_wp2
    go_ret
    exact ⟨rfl, rfl⟩
  · go_enter Try.func69, Try.ntmps69
    go_wp2
    go_ret
    exact ⟨rfl, rfl⟩

/-- What is written so takes so many cells. -/
def Sized (R : Rel) (size : Nat) : Prop := ∀ B w V E, R B w V E → V.cells.toList.length = size
theorem flat_get {size : Nat} : ∀ (Vs : List Value) (k q : Nat) (u : Value), (∀ V ∈ Vs, V.cells.toList.length = size) → (h : k < Vs.length) → Vs[k].cells.toList[q]? = some u → (Vs.flatMap (·.cells.toList))[k * size + q]? = some u
  | V :: Vs, 0, q, u, hs, _, hq => by
    have hq : V.cells.toList[q]? = some u := hq
    rw [List.flatMap_cons, Nat.zero_mul, Nat.zero_add, List.getElem?_append_left (List.getElem?_eq_some_iff.1 hq).1]
    exact hq
  | V :: Vs, k + 1, q, u, hs, h, hq => by
    have hV := hs V (by simp)
    rw [List.flatMap_cons, List.getElem?_append_right (by rw [hV, Nat.succ_mul]; omega), hV]
    have e : (k + 1) * size + q - size = k * size + q := by rw [Nat.succ_mul]; omega
    rw [e]
    exact flat_get Vs k q u (fun X hX => hs X (by simp [hX])) (by simpa using h) hq

/-- A list in memory: its length, its elements' bytes, and where each lies. -/
structure LstAt (t : TypeId) (size : Nat) (R : Rel) (B : Nat) (w : World) (V : Value) (n : Nat) (Es : List (List UInt8)) : Prop where
  few : n ≤ 4096
  len : Es.length = n
  sl : ∃ a c, V = .slice a n c
  at' : ∀ k (h : k < Es.length), ∃ g c X, V = .slice (some ⟨g, 0, none⟩) n c ∧ R B w X Es[k] ∧ ∀ q u, X.cells.toList[q]? = some u → w.cell? ⟨g, k * size + q, none⟩ = some u

theorem lst_open {t : TypeId} {size : Nat} {R : Rel} {B : Nat} {w : World} {V : Value} {E : List UInt8} (hs : Sized R size) (h : lstV t size R B w V E) : ∃ n Es, LstAt t size R B w V n Es ∧ E = Pure.enc n ++ Es.flatten := by
  obtain ⟨n, Vs, Es, h1, h2, h3, h4, h5, h6⟩ := h
  refine ⟨n, Es, ⟨h1, h3, ?_, ?_⟩, h6⟩
  · rcases h4.2 with ⟨rfl, rfl⟩ | ⟨g, cap, cur, rfl, _⟩
    · exact ⟨_, _, rfl⟩
    · exact ⟨_, _, rfl⟩
  · intro k hk
    have hall : ∀ V ∈ Vs, V.cells.toList.length = size := by
      intro X hX
      obtain ⟨i, hi, rfl⟩ := List.getElem_of_mem hX
      exact hs _ _ _ _ (h5 i hi (by omega))
    have h4' := h4
    rcases h4.2 with ⟨rfl, rfl⟩ | ⟨g, cap, cur, rfl, _⟩
    · omega
    · refine ⟨g, cap, Vs[k], rfl, h5 k (by omega) hk, fun q u hq => ?_⟩
      have := h4'.cells (g := g) rfl _ u (flat_get Vs k q u hall (by omega) hq)
      have hadd : (⟨g, 0, none⟩ : Addr).add (k * size + q) = ⟨g, k * size + q, none⟩ := by unfold Addr.add; split <;> simp_all
      rw [hadd] at this
      exact this

theorem LstAt.keep {t : TypeId} {size : Nat} {R : Rel} {B : Nat} {w w' : World} {V : Value} {n : Nat} {Es : List (List UInt8)} (h : LstAt t size R B w V n Es) (hR : Fair R) (hb : Below w.heap.size w w') : LstAt t size R B w' V n Es := by
  refine ⟨h.few, h.len, h.sl, fun k hk => ?_⟩
  obtain ⟨g, c, X, h1, h2, h3⟩ := h.at' k hk
  refine ⟨g, c, X, h1, hR.keep h2 (below_above hb), fun q u hq => ?_⟩
  have h4 := h3 q u hq
  rw [hb.cell (p := ⟨g, k * size + q, none⟩) (World.block_lt_of_cell? w _ h4)]
  exact h4

/-- 'append(s, x...)' in a region that draws its order. -/
theorem walk_app {ops : Array Oper} {Q : Exit → Act → World → Prop} {S : World → Prop} {i : Nat} {r : Tr} {a : Act} {w : World} {o : Oper} (ho : ops[i]? = some o) (hgd : o.guard = none) (s x : Operand) (hop : o.op = .call { callee := .builtin .append, args := #[s, x], argTypes := #[24, 24] })
    (v y : Value) (xs ys : List UInt8) (hs : a.eval s = v) (hx : a.eval x = y) (hb : Buf w v xs) (hsrc : Bytes w y ys) (hlen : xs.length + ys.length ≤ 70368744177664)
    (h : ∀ v' w', Buf w' v' (xs ++ ys) → Wrote w v w' v' → S w' ∧ Walk Try.prog ops Q S r (a.put o.dst v') w') : Walk Try.prog ops Q S (.go i r) a w :=
  tree_go ho (wpList_app hgd s x 24 hop (.inl Try.underlying24) v y xs ys hs hx hb (src_bytes hsrc) hlen fun v' w' h1 h2 => h v' w' h1 h2)

theorem bytes_bit (w : World) (b : Bool) : Bytes (w.alloc (.cells #[.int .u8 ((if b then 1 else 0 : Nat) : Int)] 5)) (.slice (some ⟨w.heap.size, 0, none⟩) 1 1) (bit b) := by
  cases b
  · exact (buf_at w _ _ rfl [0] (by decide) rfl).bytes
  · exact (buf_at w _ _ rfl [1] (by decide) rfl).bytes
theorem sized_ent : Sized entV 11 := by rintro B w V E ⟨_, _, _, _, _, _, _, _, _, _, _, _, _, _, _, _, _, _, _, _, _, rfl, _⟩; rfl
theorem sized_mem : Sized memV 2 := by rintro B w V E ⟨_, _, _, _, rfl, _⟩; rfl
theorem sized_seen : Sized seenV 7 := by rintro B w V E ⟨_, _, _, _, _, _, _, _, _, _, _, _, _, _, _, rfl, _⟩; rfl
theorem sized_view : Sized viewV 5 := by rintro B w V E ⟨_, _, _, _, _, _, _, _, _, _, _, rfl, _⟩; rfl
theorem flat_snoc (L : List (List UInt8)) (k : Nat) (h : k < L.length) : (L.take (k + 1)).flatten = (L.take k).flatten ++ L[k] := flat_take L k h
end Go.Proofs.Ytjpaljiielemgaa
