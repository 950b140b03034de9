/- 'entry.Get' and 'entry.GetOp' once more: nothing, or what stands there. -/
import Derived.Test.YtjpaljiielemgaaEntPure
namespace Go.Proofs.Ytjpaljiielemgaa
open Go.RowKit

theorem getEnt_got (w : World) (v : Value) (xs : List UInt8) (at0 : Nat) (hat : at0 ≤ far) (hx : xs.length ≤ far) (hv : Bytes w v xs) :
    Calls Try.prog 31 #[v, .int .i64 at0] w fun e w' => Below w.heap.size w w' ∧
      (((entS xs at0).bad = true ∧ e = .returned (.tuple #[.agg #[.complex .f64 0 0, .int .i64 0, .string ⟨#[]⟩, .string ⟨#[]⟩, .bool false, .bool false, .int .i64 0, .int .i64 0, .int .i64 0, .string ⟨#[]⟩, .bool false], .int .i64 0, .bool false])) ∨
      ((entS xs at0).bad = false ∧ ∃ (x y : Nat) (k : Int) (a b : ByteArray) (s t : Bool) (l m n : Int) (c : ByteArray) (u : Bool) (X : Nat), x ≤ 1099511627776 ∧ y ≤ 1099511627776 ∧ (-9223372036854775808 ≤ k ∧ k ≤ 9223372036854775807) ∧ (-9223372036854775808 ≤ l ∧ l ≤ 9223372036854775807) ∧ (-9223372036854775808 ≤ m ∧ m ≤ 9223372036854775807) ∧ (-9223372036854775808 ≤ n ∧ n ≤ 9223372036854775807) ∧
        a.size ≤ 65536 ∧ b.size ≤ 65536 ∧ c.size ≤ 65536 ∧ at0 ≤ X ∧ X ≤ xs.length ∧ (xs.drop at0).take (X - at0) = entB x y k a b s t l m n c u ∧ (entS xs at0).cs = #[.complex .f64 (Flo.flo x) (Flo.flo y), .int .i64 k, .string a, .string b, .bool s, .bool t, .int .i64 l, .int .i64 m, .int .i64 n, .string c, .bool u] ∧ (entS xs at0).at0 = X ∧
        e = .returned (.tuple #[.agg #[.complex .f64 (Flo.flo x) (Flo.flo y), .int .i64 k, .string a, .string b, .bool s, .bool t, .int .i64 l, .int .i64 m, .int .i64 n, .string c, .bool u], .int .i64 (X : Int), .bool true]))) := by
  refine (getEnt_core w v xs at0 hat hx hv).mono fun e w' ⟨he, hb⟩ => ⟨hb, ?_⟩
  rcases he with ⟨h, he⟩ | ⟨h, he⟩
  · exact .inl ⟨h, he⟩
  · obtain ⟨x, y, k, a, b, s, t, l, m, n, c, u, h1, h2, h3, h4, h5, h6, h7, h8, h9, hcs, hp⟩ := entS_read h
    refine .inr ⟨h, x, y, k, a, b, s, t, l, m, n, c, u, (entS xs at0).at0, h1, h2, h3, h4, h5, h6, h7, h8, h9, hp.piece.2, hp.within (entB_pos _ _ _ _ _ _ _ _ _ _ _ _), hp.piece.1, hcs, rfl, ?_⟩
    rw [he, hcs]; rfl

theorem getOp_got (w : World) (v : Value) (xs : List UInt8) (at0 : Nat) (hat : at0 ≤ far) (hx : xs.length ≤ far) (hv : Bytes w v xs) :
    Calls Try.prog 32 #[v, .int .i64 at0] w fun e w' => Below w.heap.size w w' ∧
      (((opS xs at0).bad = true ∧ e = .returned (.tuple #[.agg #[.int .i64 0, .string ⟨#[]⟩, .string ⟨#[]⟩, .string ⟨#[]⟩, .bool false], .int .i64 0, .bool false])) ∨
      ((opS xs at0).bad = false ∧ ∃ (k : Int) (a b c : ByteArray) (t : Bool) (X : Nat), (-9223372036854775808 ≤ k ∧ k ≤ 9223372036854775807) ∧ a.size ≤ 65536 ∧ b.size ≤ 65536 ∧ c.size ≤ 65536 ∧ at0 ≤ X ∧ X ≤ xs.length ∧ (xs.drop at0).take (X - at0) = opB k a b c t ∧ (opS xs at0).cs = #[.int .i64 k, .string a, .string b, .string c, .bool t] ∧ (opS xs at0).at0 = X ∧
        e = .returned (.tuple #[.agg #[.int .i64 k, .string a, .string b, .string c, .bool t], .int .i64 (X : Int), .bool true]))) := by
  refine (getOp_core w v xs at0 hat hx hv).mono fun e w' ⟨he, hb⟩ => ⟨hb, ?_⟩
  rcases he with ⟨h, he⟩ | ⟨h, he⟩
  · exact .inl ⟨h, he⟩
  · obtain ⟨k, a, b, c, t, h1, h2, h3, h4, h5, hcs, hp⟩ := opS_read h
    refine .inr ⟨h, k, a, b, c, t, (opS xs at0).at0, ⟨h1, h2⟩, h3, h4, h5, hp.piece.2, hp.within (opB_pos _ _ _ _ _), hp.piece.1, hcs, rfl, ?_⟩
    rw [he, hcs]; rfl
end Go.Proofs.Ytjpaljiielemgaa
