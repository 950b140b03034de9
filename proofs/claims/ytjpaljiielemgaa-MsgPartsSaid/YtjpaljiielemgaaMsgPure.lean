/- Messages, plainly: how far a thing that stands in bytes goes (Len), readers' places (Sp), and which values are written as which bytes (Rel). -/
import Derived.Test.YtjpaljiielemgaaEntPure
import Derived.Laws.AppendOwn
namespace Go.Proofs.Ytjpaljiielemgaa
open Go.RowKit

/-- How many bytes does what stands at the head of these take? -/
abbrev Len := List UInt8 → Option Nat
def lInt : Len := fun l => match Pure.get l with | some (_, u) => some u | none => none
def lTxt : Len := fun l => match getTxt l with | some (_, u) => some u | none => none
def lBit : Len := fun l => match getBit l with | some (_, u) => some u | none => none
def lVer : Len := fun l => match getVer l with | some (_, u) => some u | none => none
def lOp : Len := fun l => if (opS l 0).bad then none else some (opS l 0).at0
def lEnt : Len := fun l => if (entS l 0).bad then none else some (entS l 0).at0

structure Sp where
  at0 : Nat
  bad : Bool

def adv (p : Len) (xs : List UInt8) (s : Sp) : Sp :=
  if s.bad then s else match p (xs.drop s.at0) with
    | some u => ⟨s.at0 + u, false⟩
    | none => ⟨s.at0, true⟩
def advs (p : Len) (xs : List UInt8) : Nat → Sp → Sp
  | 0, s => s
  | k + 1, s => adv p xs (advs p xs k s)
def Sp.len (s : Sp) : Option Nat := if s.bad then none else some s.at0

def lItems (p : Len) : Len := fun l => match Pure.get l with
  | some (n, u) => if 0 ≤ n ∧ n ≤ 4096 then (advs p l n.toNat ⟨u, false⟩).len else none
  | none => none
def memS (xs : List UInt8) (at0 : Nat) : Sp := advs lInt xs 2 ⟨at0, false⟩
def lMem : Len := fun l => (memS l 0).len
def viewS (xs : List UInt8) (at0 : Nat) : Sp := adv (lItems lMem) xs (advs lInt xs 4 ⟨at0, false⟩)
def lView : Len := fun l => (viewS l 0).len
def seenS (xs : List UInt8) (at0 : Nat) : Sp := adv lBit xs (adv lTxt xs (advs lInt xs 2 (adv lVer xs (advs lInt xs 2 ⟨at0, false⟩))))
def lSeen : Len := fun l => (seenS l 0).len
def imgS (xs : List UInt8) (at0 : Nat) : Sp := adv (lItems lSeen) xs (adv (lItems lEnt) xs (advs lInt xs 1 (adv lVer xs (adv lVer xs ⟨at0, false⟩))))
def lImg : Len := fun l => (imgS l 0).len
def msgS (xs : List UInt8) : Sp :=
  adv lImg xs (adv (lItems lView) xs (adv (lItems lMem) xs (adv (lItems lEnt) xs (adv lOp xs (adv lVer xs (adv lVer xs (adv lTxt xs (adv lTxt xs (adv lBit xs (adv lBit xs (advs lInt xs 12 ⟨0, false⟩)))))))))))

theorem adv_bad {p : Len} {xs : List UInt8} {s : Sp} (h : s.bad = true) : adv p xs s = s := by unfold adv; rw [if_pos h]
theorem adv_yes {p : Len} {xs : List UInt8} {s : Sp} {u : Nat} (h : s.bad = false) (hp : p (xs.drop s.at0) = some u) : adv p xs s = ⟨s.at0 + u, false⟩ := by unfold adv; rw [h, hp]; rfl
theorem adv_no {p : Len} {xs : List UInt8} {s : Sp} (h : s.bad = false) (hp : p (xs.drop s.at0) = none) : adv p xs s = ⟨s.at0, true⟩ := by unfold adv; rw [h, hp]; rfl
theorem advs_stay {p : Len} {xs : List UInt8} {s : Sp} {k : Nat} (h : (advs p xs k s).bad = true) : ∀ d, advs p xs (k + d) s = advs p xs k s
  | 0 => rfl
  | d + 1 => by
    show adv p xs (advs p xs (k + d) s) = _
    rw [advs_stay h d, adv_bad h]

/-- The same, begun at at0. -/
def Sp.on (at0 : Nat) (s : Sp) : Sp := ⟨at0 + s.at0, s.bad⟩
theorem adv_on (p : Len) (xs : List UInt8) (at0 : Nat) (s : Sp) : adv p xs (s.on at0) = (adv p (xs.drop at0) s).on at0 := by
  unfold adv Sp.on
  cases hb : s.bad with
  | true => simp [hb]
  | false =>
    simp only [Bool.false_eq_true, if_false, List.drop_drop]
    cases p (xs.drop (at0 + s.at0)) <;> simp [Nat.add_assoc]
theorem advs_on (p : Len) (xs : List UInt8) (at0 : Nat) : ∀ (k : Nat) (s : Sp), advs p xs k (s.on at0) = (advs p (xs.drop at0) k s).on at0
  | 0, _ => rfl
  | k + 1, s => by
    show adv p xs (advs p xs k (s.on at0)) = _
    rw [advs_on p xs at0 k s, adv_on]; rfl
theorem on_zero (at0 : Nat) : (⟨at0, false⟩ : Sp) = (⟨0, false⟩ : Sp).on at0 := rfl
theorem on_len (s : Sp) (at0 : Nat) : (s.on at0).bad = s.bad ∧ (s.on at0).at0 = at0 + s.at0 := ⟨rfl, rfl⟩

theorem memS_on (xs : List UInt8) (at0 : Nat) : memS xs at0 = (memS (xs.drop at0) 0).on at0 := by unfold memS; rw [on_zero, advs_on]
theorem viewS_on (xs : List UInt8) (at0 : Nat) : viewS xs at0 = (viewS (xs.drop at0) 0).on at0 := by unfold viewS; rw [on_zero, advs_on, adv_on]
theorem seenS_on (xs : List UInt8) (at0 : Nat) : seenS xs at0 = (seenS (xs.drop at0) 0).on at0 := by unfold seenS; rw [on_zero, advs_on, adv_on, advs_on, adv_on, adv_on]
theorem imgS_on (xs : List UInt8) (at0 : Nat) : imgS xs at0 = (imgS (xs.drop at0) 0).on at0 := by unfold imgS; rw [on_zero, adv_on, adv_on, advs_on, adv_on, adv_on]

/-- The entries' reader, begun at at0. -/
def St.on (at0 : Nat) (s : St) : St := ⟨at0 + s.at0, s.bad, s.cs⟩
theorem one_on (p : Parser) (xs : List UInt8) (j at0 : Nat) (s : St) : one p xs j (s.on at0) = (one p (xs.drop at0) j s).on at0 := by
  unfold one St.on
  cases hb : s.bad with
  | true => simp [hb]
  | false =>
    simp only [Bool.false_eq_true, if_false, List.drop_drop]
    cases h : p (xs.drop (at0 + s.at0)) <;> simp [Nat.add_assoc]
theorem many_on (p : Parser) (xs : List UInt8) (j at0 : Nat) : ∀ (k : Nat) (s : St), many p xs j k (s.on at0) = (many p (xs.drop at0) j k s).on at0
  | 0, _ => rfl
  | k + 1, s => by
    show one p xs (j + k) (many p xs j k (s.on at0)) = _
    rw [many_on p xs j at0 k s, one_on]; rfl
theorem st_zero (at0 : Nat) (cs : Array Value) : (⟨at0, false, cs⟩ : St) = (⟨0, false, cs⟩ : St).on at0 := rfl
theorem opS_on (xs : List UInt8) (at0 : Nat) : opS xs at0 = (opS (xs.drop at0) 0).on at0 := by unfold opS; rw [st_zero, many_on, many_on, many_on]
theorem entS_on (xs : List UInt8) (at0 : Nat) : entS xs at0 = (entS (xs.drop at0) 0).on at0 := by unfold entS; rw [st_zero, one_on, many_on, many_on, many_on, many_on, many_on, many_on]

/-- From place a to place b stand the bytes E. -/
def Went (xs : List UInt8) (a b : Nat) (E : List UInt8) : Prop := ∃ r, xs.drop a = E ++ r ∧ xs.drop b = r ∧ b = a + E.length
theorem Went.nil (xs : List UInt8) (a : Nat) : Went xs a a [] := ⟨_, rfl, rfl, rfl⟩
theorem Went.trans {xs : List UInt8} {a b c : Nat} {E F : List UInt8} (h : Went xs a b E) (k : Went xs b c F) : Went xs a c (E ++ F) := by
  obtain ⟨r, h1, h2, h3⟩ := h
  obtain ⟨q, k1, k2, k3⟩ := k
  refine ⟨q, ?_, k2, by rw [List.length_append]; omega⟩
  rw [h1, List.append_assoc, ← k1, h2]
theorem Went.piece {xs : List UInt8} {a b : Nat} {E : List UInt8} (h : Went xs a b E) : (xs.drop a).take (b - a) = E ∧ a ≤ b := by
  obtain ⟨r, h1, h2, h3⟩ := h
  refine ⟨?_, by omega⟩
  rw [h1, h3, Nat.add_sub_cancel_left, List.take_left]
theorem Went.within {xs : List UInt8} {a b : Nat} {E : List UInt8} (h : Went xs a b E) (hE : 0 < E.length) : b ≤ xs.length := by
  obtain ⟨r, h1, h2, h3⟩ := h
  have := congrArg List.length h1
  rw [List.length_drop, List.length_append] at this
  omega
theorem Past.went {xs : List UInt8} {at0 : Nat} {s : St} {E : List UInt8} (h : Past xs at0 s E) : Went xs at0 s.at0 E := h

abbrev Rel := Nat → World → Value → List UInt8 → Prop
/-- What lay from block B on has not turned. -/
def Above (B : Nat) (w w' : World) : Prop := ∀ k, B ≤ k → k < w.heap.size → w'.heap[k]? = w.heap[k]?
structure Fair (R : Rel) : Prop where
  keep : ∀ {B w w' V E}, R B w V E → Above B w w' → R B w' V E
  down : ∀ {B B' w V E}, R B w V E → B' ≤ B → R B' w V E

def rng (n : Int) : Prop := -9223372036854775808 ≤ n ∧ n ≤ 9223372036854775807
def cnt (n : Nat) : Prop := n ≤ 1099511627776
def lit (s : ByteArray) : Prop := s.size ≤ 65536

def opV : Rel := fun _ _ V E => ∃ k a b c t, rng k ∧ lit a ∧ lit b ∧ lit c ∧ V = .agg #[.int .i64 k, .string a, .string b, .string c, .bool t] ∧ E = opB k a b c t
def entV : Rel := fun _ _ V E => ∃ x y k a b s t l m n c u, cnt x ∧ cnt y ∧ rng k ∧ rng l ∧ rng m ∧ rng n ∧ lit a ∧ lit b ∧ lit c ∧
  V = .agg #[.complex .f64 (Flo.flo x) (Flo.flo y), .int .i64 k, .string a, .string b, .bool s, .bool t, .int .i64 l, .int .i64 m, .int .i64 n, .string c, .bool u] ∧ E = entB x y k a b s t l m n c u
def memV : Rel := fun _ _ V E => ∃ a b, rng a ∧ rng b ∧ V = .agg #[.int .i64 a, .int .i64 b] ∧ E = Pure.enc a ++ Pure.enc b
def seenV : Rel := fun _ _ V E => ∃ a b x y k c s t, rng a ∧ rng b ∧ cnt x ∧ cnt y ∧ rng k ∧ rng c ∧ lit s ∧
  V = .agg #[.int .i64 a, .int .i64 b, .complex .f64 (Flo.flo x) (Flo.flo y), .int .i64 k, .int .i64 c, .string s, .bool t] ∧ E = Pure.enc a ++ Pure.enc b ++ verB x y ++ Pure.enc k ++ Pure.enc c ++ txt s.data.toList ++ bit t
def lstV (t : TypeId) (size : Nat) (R : Rel) : Rel := fun B w V E => ∃ (n : Nat) (Vs : List Value) (Es : List (List UInt8)), n ≤ 4096 ∧ Vs.length = n ∧ Es.length = n ∧ w.ownsRow B t size V n (Vs.flatMap (·.cells.toList)) ∧
  (∀ i (h1 : i < Vs.length) (h2 : i < Es.length), R B w Vs[i] Es[i]) ∧ E = Pure.enc n ++ Es.flatten
def viewV : Rel := fun B w V E => ∃ a b c d L F, rng a ∧ rng b ∧ rng c ∧ rng d ∧ lstV 110 2 memV B w L F ∧ V = .agg #[.int .i64 a, .int .i64 b, .int .i64 c, .int .i64 d, L] ∧ E = Pure.enc a ++ Pure.enc b ++ Pure.enc c ++ Pure.enc d ++ F
def imgV : Rel := fun B w V E => ∃ x y x' y' g L F M G, cnt x ∧ cnt y ∧ cnt x' ∧ cnt y' ∧ rng g ∧ lstV 48 11 entV B w L F ∧ lstV 127 7 seenV B w M G ∧
  V = .agg #[.complex .f64 (Flo.flo x) (Flo.flo y), .complex .f64 (Flo.flo x') (Flo.flo y'), .int .i64 g, L, M] ∧ E = verB x y ++ verB x' y' ++ Pure.enc g ++ F ++ G

theorem fair_op : Fair opV := ⟨fun h _ => h, fun h _ => h⟩
theorem fair_ent : Fair entV := ⟨fun h _ => h, fun h _ => h⟩
theorem fair_mem : Fair memV := ⟨fun h _ => h, fun h _ => h⟩
theorem fair_seen : Fair seenV := ⟨fun h _ => h, fun h _ => h⟩
theorem owns_keep {w w' : World} {B : Nat} {t : TypeId} {size : Nat} {V : Value} {n : Nat} {xs : List Value} (h : w.ownsRow B t size V n xs) (k : Above B w w') : w'.ownsRow B t size V n xs := by
  refine ⟨h.1, ?_⟩
  rcases h.2 with h | ⟨g, cap, cur, hv, hB, hg, rest⟩
  · exact .inl h
  · refine .inr ⟨g, cap, cur, hv, hB, ?_, rest⟩
    rw [k g hB (Array.getElem?_eq_some_iff.1 hg).1]; exact hg
theorem owns_down {w : World} {B B' : Nat} {t : TypeId} {size : Nat} {V : Value} {n : Nat} {xs : List Value} (h : w.ownsRow B t size V n xs) (k : B' ≤ B) : w.ownsRow B' t size V n xs := by
  refine ⟨h.1, ?_⟩
  rcases h.2 with h | ⟨g, cap, cur, hv, hB, rest⟩
  · exact .inl h
  · exact .inr ⟨g, cap, cur, hv, Nat.le_trans k hB, rest⟩
theorem fair_lst {t : TypeId} {size : Nat} {R : Rel} (hR : Fair R) : Fair (lstV t size R) := by
  refine ⟨?_, ?_⟩
  · rintro B w w' V E ⟨n, Vs, Es, h1, h2, h3, h4, h5, h6⟩ hk
    exact ⟨n, Vs, Es, h1, h2, h3, owns_keep h4 hk, fun i a b => hR.keep (h5 i a b) hk, h6⟩
  · rintro B B' w V E ⟨n, Vs, Es, h1, h2, h3, h4, h5, h6⟩ hk
    exact ⟨n, Vs, Es, h1, h2, h3, owns_down h4 hk, fun i a b => hR.down (h5 i a b) hk, h6⟩
theorem fair_view : Fair viewV := by
  refine ⟨?_, ?_⟩
  · rintro B w w' V E ⟨a, b, c, d, L, F, h1, h2, h3, h4, h5, h6⟩ hk
    exact ⟨a, b, c, d, L, F, h1, h2, h3, h4, (fair_lst fair_mem).keep h5 hk, h6⟩
  · rintro B B' w V E ⟨a, b, c, d, L, F, h1, h2, h3, h4, h5, h6⟩ hk
    exact ⟨a, b, c, d, L, F, h1, h2, h3, h4, (fair_lst fair_mem).down h5 hk, h6⟩
theorem fair_img : Fair imgV := by
  refine ⟨?_, ?_⟩
  · rintro B w w' V E ⟨x, y, x', y', g, L, F, M, G, h1, h2, h3, h4, h5, h6, h7, h8⟩ hk
    exact ⟨x, y, x', y', g, L, F, M, G, h1, h2, h3, h4, h5, (fair_lst fair_ent).keep h6 hk, (fair_lst fair_seen).keep h7 hk, h8⟩
  · rintro B B' w V E ⟨x, y, x', y', g, L, F, M, G, h1, h2, h3, h4, h5, h6, h7, h8⟩ hk
    exact ⟨x, y, x', y', g, L, F, M, G, h1, h2, h3, h4, h5, (fair_lst fair_ent).down h6 hk, (fair_lst fair_seen).down h7 hk, h8⟩
/-- Kept, whatever becomes of the blocks of type t. -/
def Firm (t : TypeId) (R : Rel) : Prop := ∀ (B : Nat) (w w' : World) (V : Value) (E : List UInt8), R B w V E → (∀ k, k < w.heap.size → (∀ cur m, w.heap[k]? ≠ some (.cells cur t m)) → w'.heap[k]? = w.heap[k]?) → R B w' V E
theorem firm_ent (t : TypeId) : Firm t entV := fun _ _ _ _ _ h _ => h
theorem firm_mem (t : TypeId) : Firm t memV := fun _ _ _ _ _ h _ => h
theorem firm_seen (t : TypeId) : Firm t seenV := fun _ _ _ _ _ h _ => h
theorem firm_lst {t t' : TypeId} (hne : t ≠ t') {size : Nat} {R : Rel} (hR : Firm t' R) : Firm t' (lstV t size R) := by
  rintro B w w' V E ⟨n, Vs, Es, h1, h2, h3, h4, h5, h6⟩ hk
  refine ⟨n, Vs, Es, h1, h2, h3, ⟨h4.1, ?_⟩, fun i a b => hR _ _ _ _ _ (h5 i a b) hk, h6⟩
  rcases h4.2 with h | ⟨g, cap, cur, hv, hB, hg, rest⟩
  · exact .inl h
  · refine .inr ⟨g, cap, cur, hv, hB, ?_, rest⟩
    rw [hk g (Array.getElem?_eq_some_iff.1 hg).1 (fun cur' m he => ?_)]
    · exact hg
    · rw [hg] at he
      simp only [Option.some.injEq, Obj.cells.injEq] at he
      exact hne he.2.1
theorem firm_view : Firm 115 viewV := by
  rintro B w w' V E ⟨a, b, c, d, L, F, h1, h2, h3, h4, h5, h6⟩ hk
  exact ⟨a, b, c, d, L, F, h1, h2, h3, h4, firm_lst (by decide) (firm_mem 115) _ _ _ _ _ h5 hk, h6⟩
theorem below_above {B : Nat} {w w' : World} (h : Below w.heap.size w w') : Above B w w' := fun k _ hk => h.block k hk
theorem lst_nil (t : TypeId) (size : Nat) (R : Rel) (B : Nat) (w : World) : lstV t size R B w (.slice none 0 0) [0] := by
  refine ⟨0, [], [], by omega, rfl, rfl, ⟨by simp, .inl ⟨rfl, rfl⟩⟩, fun i h => absurd h (by simp), ?_⟩
  simp [Pure.enc, Pure.zig, Pure.var_lo]
end Go.Proofs.Ytjpaljiielemgaa
