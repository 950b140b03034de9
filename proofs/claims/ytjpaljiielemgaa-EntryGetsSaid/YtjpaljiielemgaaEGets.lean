/- The walk of EntryGets. -/
import Derived.Test.YtjpaljiielemgaaEntGot
import Derived.Test.YtjpaljiielemgaaRefOp
import Derived.Test.YtjpaljiielemgaaRefEnt
import Derived.Test.YtjpaljiielemgaaAwake5
import Derived.Test.YtjpaljiielemgaaSlice
namespace Go.Proofs.Ytjpaljiielemgaa
open Go.RowKit
attribute [local go_sem] store_cplx equal_zero

theorem slice_op {w : World} {o : Oper} {a : Act} {x lo hi : Operand} {v v' l h : Value} (ho : o.op = .slice 24 x (some lo) (some hi) none) (hx : a.eval x = v) (hlo : a.eval lo = l) (hhi : a.eval hi = h)
    (hsl : ∀ w', (Instr.slice 24 v (some l) (some h) none).run Try.prog w' = .ok v' w') : (execOp a.eval o).run Try.prog w = .ok (.value v') w := by
  unfold execOp
  simp [ho, hx, hlo, hhi, Instr.sliceAt, run_underlying Try.underlying24, hsl]

theorem below_und {B : Nat} {w w' : World} (h : Below B w.drew w') : Below B w w' := ⟨h.os, h.tape, h.output, h.size, h.block⟩

set_option maxRecDepth 100000 in
set_option maxHeartbeats 8000000 in
theorem egets_walk (a0 : Option Addr) (len0 cap0 : Nat) (z0 : List Int) (a1 : Int) (w : World) (w0 : IsRow w a0 len0 cap0 z0) (w1 : (Lit.int .i64 a1).wf = true) :
    Calls Try.prog 8 #[.slice a0 len0 cap0, .int .i64 a1] w fun e w' => e = .returned (.bool true) ∧ Below w.heap.size w w' := by
  have k1 := bounds_i64 w1
  obtain ⟨xs, hx, hv0⟩ := w0.bytes
  clear w0 w1
  subst hx
  have hm0 : xs.length ≤ 9223372036854775807 := by obtain ⟨_, c, he, h1, h2, _⟩ := hv0; unfold maxLen at h2; omega
  by_cases h2 : xs.length ≤ 3000 ∧ 0 ≤ a1 ∧ a1 ≤ 4000
  · obtain ⟨h0, h1, h3⟩ := h2
    obtain ⟨at0, rfl⟩ := Int.eq_ofNat_of_zero_le h1
    have d0 : decide ((3000 : Int) < (xs.length : Int)) = false := decide_eq_false (by omega)
    have d1 : decide ((at0 : Int) < 0) = false := decide_eq_false (by omega)
    have d2 : decide ((4000 : Int) < (at0 : Int)) = false := decide_eq_false (by omega)
    have hat : at0 ≤ far := by unfold far; omega
    have hxf : xs.length ≤ far := by unfold far; omega
    clear k1 h1
    replace hat := Lib.hid hat; replace hxf := Lib.hid hxf; replace hv0 := Lib.hid hv0
    go_enter Try.func8, Try.ntmps8
    go_wp2_with fail
    refine (awake5_core w).mono ?_
    rintro e wa ⟨rfl, ba⟩
    replace ba := Lib.hid ba
    go_wp2_with fail
    refine (getEnt_got wa _ xs at0 hat.out hxf.out (hv0.out.keep ba.out)).mono ?_
    rintro e w2 ⟨b2, ⟨_, rfl⟩ | ⟨_, x, y, k, a, b, s, t, l, m, n, c, u, X, gx, gy, gk, gl, gm, gn, ga, gb, gc, gX1, gX2, gB, _, _, rfl⟩⟩
    · have B2 := ba.out.trans (b2.mono ba.out.size)
      have z2 := Whole.new w2 48 #[.complex .f64 0 0, .int .i64 0, .string ⟨#[]⟩, .string ⟨#[]⟩, .bool false, .bool false, .int .i64 0, .int .i64 0, .int .i64 0, .string ⟨#[]⟩, .bool false]
      have B2n : Below w.heap.size w (w2.alloc (.cells #[.complex .f64 0 0, .int .i64 0, .string ⟨#[]⟩, .string ⟨#[]⟩, .bool false, .bool false, .int .i64 0, .int .i64 0, .int .i64 0, .string ⟨#[]⟩, .bool false] 48)) := B2.alloc B2.size _
      replace z2 := Lib.hid z2; replace B2 := Lib.hid B2; replace B2n := Lib.hid B2n; clear b2
      go_wp2_with fail
      refine (getOp_got _ _ xs at0 hat.out hxf.out (hv0.out.keep B2n.out)).mono ?_
      rintro e w3 ⟨b3, ⟨_, rfl⟩ | ⟨_, ok, oa, ob, oc, ot, Y, pk, pa, pb, pc, gY1, gY2, pB, _, _, rfl⟩⟩
      · have z3 := (z2.out.below b3 z2.out.lt).alloc (.cells #[.int .i64 0, .string ⟨#[]⟩, .string ⟨#[]⟩, .string ⟨#[]⟩, .bool false] 52)
        have y3 := Whole.new w3 52 #[.int .i64 0, .string ⟨#[]⟩, .string ⟨#[]⟩, .string ⟨#[]⟩, .bool false]
        have B3 := B2n.out.trans (b3.mono B2n.out.size)
        have B3n : Below w.heap.size w (w3.alloc (.cells #[.int .i64 0, .string ⟨#[]⟩, .string ⟨#[]⟩, .string ⟨#[]⟩, .bool false] 52)) := B3.alloc B3.size _
        replace z3 := Lib.hid z3; replace y3 := Lib.hid y3; replace B3n := Lib.hid B3n; clear b3 B3
        obtain ⟨ac, cc, he, _⟩ := hv0.out
        injection he with e1 e2 e3
        subst e1 e3
        clear e2
        go_wp2_with fail
        refine wp_region_chain (fun w' => Whole w' w2.heap.size 48 #[.complex .f64 0 0, .int .i64 0, .string ⟨#[]⟩, .string ⟨#[]⟩, .bool false, .bool false, .int .i64 0, .int .i64 0, .int .i64 0, .string ⟨#[]⟩, .bool false]) [(true, 0), (true, 1), (true, 2), (true, 3), (true, 4), (true, 5), (true, 6), (true, 7), (true, 8), (true, 9), (true, 10), (true, 11), (true, 12), (true, 14), (true, 15), (true, 16), (true, 17), (false, 13), (false, 18), (true, 19), (true, 20), (true, 21)] (by kernel_rfl) (by kernel_rfl) (fun _ _ d _ _ h => by cases d <;> exact h) z3.out ?_
        apply chain_take rfl rfl
        · intro w' hS
          go_simp
          with_reducible rfl
        simp only [List.getElem_toArray, List.getElem_cons_succ, List.getElem_cons_zero, Act.put, List.setIfInBounds_toArray, List.set_cons_zero, List.set_cons_succ]
        apply chain_take rfl rfl
        · intro w' hS
          go_simp
          with_reducible rfl
        simp only [List.getElem_toArray, List.getElem_cons_succ, List.getElem_cons_zero, Act.put, List.setIfInBounds_toArray, List.set_cons_zero, List.set_cons_succ]
        refine chain_skipT rfl rfl ?_
        simp only [List.getElem_toArray, List.getElem_cons_succ, List.getElem_cons_zero, Act.put, List.setIfInBounds_toArray, List.set_cons_zero, List.set_cons_succ]
        refine chain_skipT rfl rfl ?_
        simp only [List.getElem_toArray, List.getElem_cons_succ, List.getElem_cons_zero, Act.put, List.setIfInBounds_toArray, List.set_cons_zero, List.set_cons_succ]
        refine chain_skipT rfl rfl ?_
        simp only [List.getElem_toArray, List.getElem_cons_succ, List.getElem_cons_zero, Act.put, List.setIfInBounds_toArray, List.set_cons_zero, List.set_cons_succ]
        refine chain_skipT rfl rfl ?_
        simp only [List.getElem_toArray, List.getElem_cons_succ, List.getElem_cons_zero, Act.put, List.setIfInBounds_toArray, List.set_cons_zero, List.set_cons_succ]
        refine chain_skipT rfl rfl ?_
        simp only [List.getElem_toArray, List.getElem_cons_succ, List.getElem_cons_zero, Act.put, List.setIfInBounds_toArray, List.set_cons_zero, List.set_cons_succ]
        refine chain_skipT rfl rfl ?_
        simp only [List.getElem_toArray, List.getElem_cons_succ, List.getElem_cons_zero, Act.put, List.setIfInBounds_toArray, List.set_cons_zero, List.set_cons_succ]
        refine chain_skipT rfl rfl ?_
        simp only [List.getElem_toArray, List.getElem_cons_succ, List.getElem_cons_zero, Act.put, List.setIfInBounds_toArray, List.set_cons_zero, List.set_cons_succ]
        refine chain_skipT rfl rfl ?_
        simp only [List.getElem_toArray, List.getElem_cons_succ, List.getElem_cons_zero, Act.put, List.setIfInBounds_toArray, List.set_cons_zero, List.set_cons_succ]
        refine chain_skipT rfl rfl ?_
        simp only [List.getElem_toArray, List.getElem_cons_succ, List.getElem_cons_zero, Act.put, List.setIfInBounds_toArray, List.set_cons_zero, List.set_cons_succ]
        refine chain_skipT rfl rfl ?_
        simp only [List.getElem_toArray, List.getElem_cons_succ, List.getElem_cons_zero, Act.put, List.setIfInBounds_toArray, List.set_cons_zero, List.set_cons_succ]
        refine chain_skipT rfl rfl ?_
        simp only [List.getElem_toArray, List.getElem_cons_succ, List.getElem_cons_zero, Act.put, List.setIfInBounds_toArray, List.set_cons_zero, List.set_cons_succ]
        refine chain_skipT rfl rfl ?_
        simp only [List.getElem_toArray, List.getElem_cons_succ, List.getElem_cons_zero, Act.put, List.setIfInBounds_toArray, List.set_cons_zero, List.set_cons_succ]
        refine chain_skipT rfl rfl ?_
        simp only [List.getElem_toArray, List.getElem_cons_succ, List.getElem_cons_zero, Act.put, List.setIfInBounds_toArray, List.set_cons_zero, List.set_cons_succ]
        refine chain_skipT rfl rfl ?_
        simp only [List.getElem_toArray, List.getElem_cons_succ, List.getElem_cons_zero, Act.put, List.setIfInBounds_toArray, List.set_cons_zero, List.set_cons_succ]
        refine chain_skipT rfl rfl ?_
        simp only [List.getElem_toArray, List.getElem_cons_succ, List.getElem_cons_zero, Act.put, List.setIfInBounds_toArray, List.set_cons_zero, List.set_cons_succ]
        refine chain_skipF rfl rfl z3.out ?_
        simp only [List.getElem_toArray, List.getElem_cons_succ, List.getElem_cons_zero, Act.put, List.setIfInBounds_toArray, List.set_cons_zero, List.set_cons_succ]
        refine chain_skipF rfl rfl z3.out ?_
        simp only [List.getElem_toArray, List.getElem_cons_succ, List.getElem_cons_zero, Act.put, List.setIfInBounds_toArray, List.set_cons_zero, List.set_cons_succ]
        refine chain_skipT rfl rfl ?_
        simp only [List.getElem_toArray, List.getElem_cons_succ, List.getElem_cons_zero, Act.put, List.setIfInBounds_toArray, List.set_cons_zero, List.set_cons_succ]
        refine chain_skipT rfl rfl ?_
        simp only [List.getElem_toArray, List.getElem_cons_succ, List.getElem_cons_zero, Act.put, List.setIfInBounds_toArray, List.set_cons_zero, List.set_cons_succ]
        apply chain_take rfl rfl
        · intro w' hS
          go_simp
          with_reducible rfl
        simp only [List.getElem_toArray, List.getElem_cons_succ, List.getElem_cons_zero, Act.put, List.setIfInBounds_toArray, List.set_cons_zero, List.set_cons_succ]
        apply chain_end
        go_wp2_with fail
        refine wp_region_chain (fun w' => Whole w' w3.heap.size 52 #[.int .i64 0, .string ⟨#[]⟩, .string ⟨#[]⟩, .string ⟨#[]⟩, .bool false]) [(true, 0), (true, 1), (true, 2), (true, 3), (true, 4), (true, 5), (true, 6), (true, 7), (true, 8), (true, 9), (true, 10), (true, 11), (true, 12), (true, 14), (true, 15), (true, 16), (true, 17), (false, 13), (false, 18), (true, 19), (true, 20), (true, 21)] (by kernel_rfl) (by kernel_rfl) (fun _ _ d _ _ h => by cases d <;> exact h) y3.out ?_
        apply chain_take rfl rfl
        · intro w' hS
          go_simp
          with_reducible rfl
        simp only [List.getElem_toArray, List.getElem_cons_succ, List.getElem_cons_zero, Act.put, List.setIfInBounds_toArray, List.set_cons_zero, List.set_cons_succ]
        apply chain_take rfl rfl
        · intro w' hS
          go_simp
          with_reducible rfl
        simp only [List.getElem_toArray, List.getElem_cons_succ, List.getElem_cons_zero, Act.put, List.setIfInBounds_toArray, List.set_cons_zero, List.set_cons_succ]
        refine chain_skipT rfl rfl ?_
        simp only [List.getElem_toArray, List.getElem_cons_succ, List.getElem_cons_zero, Act.put, List.setIfInBounds_toArray, List.set_cons_zero, List.set_cons_succ]
        refine chain_skipT rfl rfl ?_
        simp only [List.getElem_toArray, List.getElem_cons_succ, List.getElem_cons_zero, Act.put, List.setIfInBounds_toArray, List.set_cons_zero, List.set_cons_succ]
        refine chain_skipT rfl rfl ?_
        simp only [List.getElem_toArray, List.getElem_cons_succ, List.getElem_cons_zero, Act.put, List.setIfInBounds_toArray, List.set_cons_zero, List.set_cons_succ]
        refine chain_skipT rfl rfl ?_
        simp only [List.getElem_toArray, List.getElem_cons_succ, List.getElem_cons_zero, Act.put, List.setIfInBounds_toArray, List.set_cons_zero, List.set_cons_succ]
        refine chain_skipT rfl rfl ?_
        simp only [List.getElem_toArray, List.getElem_cons_succ, List.getElem_cons_zero, Act.put, List.setIfInBounds_toArray, List.set_cons_zero, List.set_cons_succ]
        refine chain_skipT rfl rfl ?_
        simp only [List.getElem_toArray, List.getElem_cons_succ, List.getElem_cons_zero, Act.put, List.setIfInBounds_toArray, List.set_cons_zero, List.set_cons_succ]
        refine chain_skipT rfl rfl ?_
        simp only [List.getElem_toArray, List.getElem_cons_succ, List.getElem_cons_zero, Act.put, List.setIfInBounds_toArray, List.set_cons_zero, List.set_cons_succ]
        refine chain_skipT rfl rfl ?_
        simp only [List.getElem_toArray, List.getElem_cons_succ, List.getElem_cons_zero, Act.put, List.setIfInBounds_toArray, List.set_cons_zero, List.set_cons_succ]
        refine chain_skipT rfl rfl ?_
        simp only [List.getElem_toArray, List.getElem_cons_succ, List.getElem_cons_zero, Act.put, List.setIfInBounds_toArray, List.set_cons_zero, List.set_cons_succ]
        refine chain_skipT rfl rfl ?_
        simp only [List.getElem_toArray, List.getElem_cons_succ, List.getElem_cons_zero, Act.put, List.setIfInBounds_toArray, List.set_cons_zero, List.set_cons_succ]
        refine chain_skipT rfl rfl ?_
        simp only [List.getElem_toArray, List.getElem_cons_succ, List.getElem_cons_zero, Act.put, List.setIfInBounds_toArray, List.set_cons_zero, List.set_cons_succ]
        refine chain_skipT rfl rfl ?_
        simp only [List.getElem_toArray, List.getElem_cons_succ, List.getElem_cons_zero, Act.put, List.setIfInBounds_toArray, List.set_cons_zero, List.set_cons_succ]
        refine chain_skipT rfl rfl ?_
        simp only [List.getElem_toArray, List.getElem_cons_succ, List.getElem_cons_zero, Act.put, List.setIfInBounds_toArray, List.set_cons_zero, List.set_cons_succ]
        refine chain_skipT rfl rfl ?_
        simp only [List.getElem_toArray, List.getElem_cons_succ, List.getElem_cons_zero, Act.put, List.setIfInBounds_toArray, List.set_cons_zero, List.set_cons_succ]
        refine chain_skipT rfl rfl ?_
        simp only [List.getElem_toArray, List.getElem_cons_succ, List.getElem_cons_zero, Act.put, List.setIfInBounds_toArray, List.set_cons_zero, List.set_cons_succ]
        refine chain_skipF rfl rfl y3.out ?_
        simp only [List.getElem_toArray, List.getElem_cons_succ, List.getElem_cons_zero, Act.put, List.setIfInBounds_toArray, List.set_cons_zero, List.set_cons_succ]
        refine chain_skipF rfl rfl y3.out ?_
        simp only [List.getElem_toArray, List.getElem_cons_succ, List.getElem_cons_zero, Act.put, List.setIfInBounds_toArray, List.set_cons_zero, List.set_cons_succ]
        refine chain_skipT rfl rfl ?_
        simp only [List.getElem_toArray, List.getElem_cons_succ, List.getElem_cons_zero, Act.put, List.setIfInBounds_toArray, List.set_cons_zero, List.set_cons_succ]
        refine chain_skipT rfl rfl ?_
        simp only [List.getElem_toArray, List.getElem_cons_succ, List.getElem_cons_zero, Act.put, List.setIfInBounds_toArray, List.set_cons_zero, List.set_cons_succ]
        apply chain_take rfl rfl
        · intro w' hS
          go_simp
          with_reducible rfl
        simp only [List.getElem_toArray, List.getElem_cons_succ, List.getElem_cons_zero, Act.put, List.setIfInBounds_toArray, List.set_cons_zero, List.set_cons_succ]
        apply chain_end
        have c0 := z3.out.cell 0
        have c1 := z3.out.cell 1
        have c2 := z3.out.cell 2
        have c3 := z3.out.cell 3
        have c4 := z3.out.cell 4
        have c5 := z3.out.cell 5
        have c6 := z3.out.cell 6
        have c7 := z3.out.cell 7
        have c8 := z3.out.cell 8
        have c9 := z3.out.cell 9
        have c10 := z3.out.cell 10
        have f0 := y3.out.cell 0
        have f1 := y3.out.cell 1
        have f2 := y3.out.cell 2
        have f3 := y3.out.cell 3
        have f4 := y3.out.cell 4
        simp only [List.getElem?_toArray, List.getElem?_cons_succ, List.getElem?_cons_zero] at c0 c1 c2 c3 c4 c5 c6 c7 c8 c9 c10 f0 f1 f2 f3 f4
        go_wp2
        go_ret
        exact ⟨rfl, by first | exact B3n.out | exact B3n.out.drew | exact B3n.out.drew.drew⟩
      · have v1 : decide ((Y : Int) < (at0 : Int)) = false := decide_eq_false (by omega)
        have v3 : decide (Y < at0) = false := decide_eq_false (by omega)
        have v4 : decide (xs.length < Y) = false := decide_eq_false (by omega)
        have v2 : decide ((xs.length : Int) < (Y : Int)) = false := decide_eq_false (by omega)
        replace pB := Lib.hid pB; replace pk := Lib.hid pk
        have z3 := (z2.out.below b3 z2.out.lt).alloc (.cells #[.int .i64 ok, .string oa, .string ob, .string oc, .bool ot] 52)
        have y3 := Whole.new w3 52 #[.int .i64 ok, .string oa, .string ob, .string oc, .bool ot]
        have B3 := B2n.out.trans (b3.mono B2n.out.size)
        have B3n : Below w.heap.size w (w3.alloc (.cells #[.int .i64 ok, .string oa, .string ob, .string oc, .bool ot] 52)) := B3.alloc B3.size _
        replace z3 := Lib.hid z3; replace y3 := Lib.hid y3; replace B3n := Lib.hid B3n; clear b3 B3
        obtain ⟨ac, cc, he, _⟩ := hv0.out
        injection he with e1 e2 e3
        subst e1 e3
        clear e2
        go_wp2_with fail
        refine wp_region_chain (fun w' => Whole w' w2.heap.size 48 #[.complex .f64 0 0, .int .i64 0, .string ⟨#[]⟩, .string ⟨#[]⟩, .bool false, .bool false, .int .i64 0, .int .i64 0, .int .i64 0, .string ⟨#[]⟩, .bool false]) [(true, 0), (true, 1), (true, 2), (true, 3), (true, 4), (true, 5), (true, 6), (true, 7), (true, 8), (true, 9), (true, 10), (true, 11), (true, 12), (true, 14), (true, 15), (true, 16), (true, 17), (false, 13), (false, 18), (true, 19), (true, 20), (true, 21)] (by kernel_rfl) (by kernel_rfl) (fun _ _ d _ _ h => by cases d <;> exact h) z3.out ?_
        apply chain_take rfl rfl
        · intro w' hS
          go_simp
          with_reducible rfl
        simp only [List.getElem_toArray, List.getElem_cons_succ, List.getElem_cons_zero, Act.put, List.setIfInBounds_toArray, List.set_cons_zero, List.set_cons_succ]
        apply chain_take rfl rfl
        · intro w' hS
          go_simp
          with_reducible rfl
        simp only [List.getElem_toArray, List.getElem_cons_succ, List.getElem_cons_zero, Act.put, List.setIfInBounds_toArray, List.set_cons_zero, List.set_cons_succ]
        refine chain_skipT rfl rfl ?_
        simp only [List.getElem_toArray, List.getElem_cons_succ, List.getElem_cons_zero, Act.put, List.setIfInBounds_toArray, List.set_cons_zero, List.set_cons_succ]
        refine chain_skipT rfl rfl ?_
        simp only [List.getElem_toArray, List.getElem_cons_succ, List.getElem_cons_zero, Act.put, List.setIfInBounds_toArray, List.set_cons_zero, List.set_cons_succ]
        refine chain_skipT rfl rfl ?_
        simp only [List.getElem_toArray, List.getElem_cons_succ, List.getElem_cons_zero, Act.put, List.setIfInBounds_toArray, List.set_cons_zero, List.set_cons_succ]
        refine chain_skipT rfl rfl ?_
        simp only [List.getElem_toArray, List.getElem_cons_succ, List.getElem_cons_zero, Act.put, List.setIfInBounds_toArray, List.set_cons_zero, List.set_cons_succ]
        refine chain_skipT rfl rfl ?_
        simp only [List.getElem_toArray, List.getElem_cons_succ, List.getElem_cons_zero, Act.put, List.setIfInBounds_toArray, List.set_cons_zero, List.set_cons_succ]
        refine chain_skipT rfl rfl ?_
        simp only [List.getElem_toArray, List.getElem_cons_succ, List.getElem_cons_zero, Act.put, List.setIfInBounds_toArray, List.set_cons_zero, List.set_cons_succ]
        refine chain_skipT rfl rfl ?_
        simp only [List.getElem_toArray, List.getElem_cons_succ, List.getElem_cons_zero, Act.put, List.setIfInBounds_toArray, List.set_cons_zero, List.set_cons_succ]
        refine chain_skipT rfl rfl ?_
        simp only [List.getElem_toArray, List.getElem_cons_succ, List.getElem_cons_zero, Act.put, List.setIfInBounds_toArray, List.set_cons_zero, List.set_cons_succ]
        refine chain_skipT rfl rfl ?_
        simp only [List.getElem_toArray, List.getElem_cons_succ, List.getElem_cons_zero, Act.put, List.setIfInBounds_toArray, List.set_cons_zero, List.set_cons_succ]
        refine chain_skipT rfl rfl ?_
        simp only [List.getElem_toArray, List.getElem_cons_succ, List.getElem_cons_zero, Act.put, List.setIfInBounds_toArray, List.set_cons_zero, List.set_cons_succ]
        refine chain_skipT rfl rfl ?_
        simp only [List.getElem_toArray, List.getElem_cons_succ, List.getElem_cons_zero, Act.put, List.setIfInBounds_toArray, List.set_cons_zero, List.set_cons_succ]
        refine chain_skipT rfl rfl ?_
        simp only [List.getElem_toArray, List.getElem_cons_succ, List.getElem_cons_zero, Act.put, List.setIfInBounds_toArray, List.set_cons_zero, List.set_cons_succ]
        refine chain_skipT rfl rfl ?_
        simp only [List.getElem_toArray, List.getElem_cons_succ, List.getElem_cons_zero, Act.put, List.setIfInBounds_toArray, List.set_cons_zero, List.set_cons_succ]
        refine chain_skipT rfl rfl ?_
        simp only [List.getElem_toArray, List.getElem_cons_succ, List.getElem_cons_zero, Act.put, List.setIfInBounds_toArray, List.set_cons_zero, List.set_cons_succ]
        refine chain_skipT rfl rfl ?_
        simp only [List.getElem_toArray, List.getElem_cons_succ, List.getElem_cons_zero, Act.put, List.setIfInBounds_toArray, List.set_cons_zero, List.set_cons_succ]
        refine chain_skipF rfl rfl z3.out ?_
        simp only [List.getElem_toArray, List.getElem_cons_succ, List.getElem_cons_zero, Act.put, List.setIfInBounds_toArray, List.set_cons_zero, List.set_cons_succ]
        refine chain_skipF rfl rfl z3.out ?_
        simp only [List.getElem_toArray, List.getElem_cons_succ, List.getElem_cons_zero, Act.put, List.setIfInBounds_toArray, List.set_cons_zero, List.set_cons_succ]
        refine chain_skipT rfl rfl ?_
        simp only [List.getElem_toArray, List.getElem_cons_succ, List.getElem_cons_zero, Act.put, List.setIfInBounds_toArray, List.set_cons_zero, List.set_cons_succ]
        refine chain_skipT rfl rfl ?_
        simp only [List.getElem_toArray, List.getElem_cons_succ, List.getElem_cons_zero, Act.put, List.setIfInBounds_toArray, List.set_cons_zero, List.set_cons_succ]
        apply chain_take rfl rfl
        · intro w' hS
          go_simp
          with_reducible rfl
        simp only [List.getElem_toArray, List.getElem_cons_succ, List.getElem_cons_zero, Act.put, List.setIfInBounds_toArray, List.set_cons_zero, List.set_cons_succ]
        apply chain_end
        go_wp2_with fail
        obtain ⟨vs1, hsl1, hbs1⟩ := run_piece hv0.out (at0 : Int) (Y : Int) (by omega) (by omega) (by omega)
        replace hbs1 := Lib.hid hbs1
        refine wp_region_chain (fun w' => Whole w' w3.heap.size 52 #[.int .i64 ok, .string oa, .string ob, .string oc, .bool ot]) [(true, 0), (true, 1), (true, 2), (true, 3), (true, 4), (true, 5), (true, 6), (true, 7), (true, 8), (true, 9), (true, 10), (true, 11), (true, 12), (true, 14), (true, 15), (true, 16), (true, 17), (false, 13), (false, 18), (true, 19), (true, 20), (true, 21)] (by kernel_rfl) (by kernel_rfl) (fun _ _ d _ _ h => by cases d <;> exact h) y3.out ?_
        apply chain_take rfl rfl
        · intro w' hS
          go_simp
          try simp only [v1, v2, v3, v4]
          with_reducible rfl
        simp only [List.getElem_toArray, List.getElem_cons_succ, List.getElem_cons_zero, Act.put, List.setIfInBounds_toArray, List.set_cons_zero, List.set_cons_succ]
        apply chain_take rfl rfl
        · intro w' hS
          go_simp
          try simp only [v1, v2, v3, v4]
          with_reducible rfl
        simp only [List.getElem_toArray, List.getElem_cons_succ, List.getElem_cons_zero, Act.put, List.setIfInBounds_toArray, List.set_cons_zero, List.set_cons_succ]
        apply chain_take rfl rfl
        · intro w' hS
          go_simp
          try simp only [v1, v2, v3, v4]
          with_reducible rfl
        simp only [List.getElem_toArray, List.getElem_cons_succ, List.getElem_cons_zero, Act.put, List.setIfInBounds_toArray, List.set_cons_zero, List.set_cons_succ]
        apply chain_take rfl rfl
        · intro w' hS
          go_simp
          try simp only [v1, v2, v3, v4]
          with_reducible rfl
        simp only [List.getElem_toArray, List.getElem_cons_succ, List.getElem_cons_zero, Act.put, List.setIfInBounds_toArray, List.set_cons_zero, List.set_cons_succ]
        apply chain_take rfl rfl
        · intro w' hS
          go_simp
          try simp only [v1, v2, v3, v4]
          with_reducible rfl
        simp only [List.getElem_toArray, List.getElem_cons_succ, List.getElem_cons_zero, Act.put, List.setIfInBounds_toArray, List.set_cons_zero, List.set_cons_succ]
        apply chain_take rfl rfl
        · intro w' hS
          go_simp
          try simp only [v1, v2, v3, v4]
          with_reducible rfl
        simp only [List.getElem_toArray, List.getElem_cons_succ, List.getElem_cons_zero, Act.put, List.setIfInBounds_toArray, List.set_cons_zero, List.set_cons_succ]
        apply chain_take rfl rfl
        · intro w' hS
          go_simp
          try simp only [v1, v2, v3, v4]
          with_reducible rfl
        simp only [List.getElem_toArray, List.getElem_cons_succ, List.getElem_cons_zero, Act.put, List.setIfInBounds_toArray, List.set_cons_zero, List.set_cons_succ]
        apply chain_take rfl rfl
        · intro w' hS
          go_simp
          try simp only [v1, v2, v3, v4]
          with_reducible rfl
        simp only [List.getElem_toArray, List.getElem_cons_succ, List.getElem_cons_zero, Act.put, List.setIfInBounds_toArray, List.set_cons_zero, List.set_cons_succ]
        apply chain_take rfl rfl
        · intro w' hS
          go_simp
          try simp only [v1, v2, v3, v4]
          with_reducible rfl
        simp only [List.getElem_toArray, List.getElem_cons_succ, List.getElem_cons_zero, Act.put, List.setIfInBounds_toArray, List.set_cons_zero, List.set_cons_succ]
        apply chain_take rfl rfl
        · intro w' hS
          go_simp
          try simp only [v1, v2, v3, v4]
          with_reducible rfl
        simp only [List.getElem_toArray, List.getElem_cons_succ, List.getElem_cons_zero, Act.put, List.setIfInBounds_toArray, List.set_cons_zero, List.set_cons_succ]
        apply chain_take rfl rfl
        · intro w' hS
          go_simp
          try simp only [v1, v2, v3, v4]
          with_reducible rfl
        simp only [List.getElem_toArray, List.getElem_cons_succ, List.getElem_cons_zero, Act.put, List.setIfInBounds_toArray, List.set_cons_zero, List.set_cons_succ]
        apply chain_take rfl rfl
        · intro w' hS
          go_simp
          try simp only [v1, v2, v3, v4]
          with_reducible rfl
        simp only [List.getElem_toArray, List.getElem_cons_succ, List.getElem_cons_zero, Act.put, List.setIfInBounds_toArray, List.set_cons_zero, List.set_cons_succ]
        apply chain_take rfl rfl
        · intro w' hS
          exact load_whole hS rfl rfl Try.underlying52 sizeE52
        simp only [List.getElem_toArray, List.getElem_cons_succ, List.getElem_cons_zero, Act.put, List.setIfInBounds_toArray, List.set_cons_zero, List.set_cons_succ]
        apply chain_take rfl rfl
        · intro w' hS
          go_simp
          try simp only [v1, v2, v3, v4]
          with_reducible rfl
        simp only [List.getElem_toArray, List.getElem_cons_succ, List.getElem_cons_zero, Act.put, List.setIfInBounds_toArray, List.set_cons_zero, List.set_cons_succ]
        apply chain_take rfl rfl
        · intro w' hS
          go_simp
          try simp only [v1, v2, v3, v4]
          with_reducible rfl
        simp only [List.getElem_toArray, List.getElem_cons_succ, List.getElem_cons_zero, Act.put, List.setIfInBounds_toArray, List.set_cons_zero, List.set_cons_succ]
        apply chain_take rfl rfl
        · intro w' hS
          go_simp
          try simp only [v1, v2, v3, v4]
          with_reducible rfl
        simp only [List.getElem_toArray, List.getElem_cons_succ, List.getElem_cons_zero, Act.put, List.setIfInBounds_toArray, List.set_cons_zero, List.set_cons_succ]
        apply chain_take rfl rfl
        · intro w' hS
          exact slice_op rfl rfl rfl rfl hsl1
        simp only [List.getElem_toArray, List.getElem_cons_succ, List.getElem_cons_zero, Act.put, List.setIfInBounds_toArray, List.set_cons_zero, List.set_cons_succ]
        refine chain_go rfl ?_
        go_wp2_with fail
        refine (refOp_core _ ok oa ob oc ot pk.out pa pb pc).mono ?_
        rintro e w8 ⟨ae1, ne1, ce1, rfl, ye1, be1⟩
        replace be1 := below_und (below_und be1)
        have z8 := z3.out.below be1 z3.out.lt
        have y8 := y3.out.below be1 y3.out.lt
        have B8 := B3n.out.trans (be1.mono B3n.out.size)
        clear be1
        replace z8 := Lib.hid z8; replace y8 := Lib.hid y8; replace B8 := Lib.hid B8; replace ye1 := Lib.hid ye1
        go_wp2_with fail
        refine ⟨y8.out, ?_⟩
        refine chain_go rfl ?_
        go_wp2_with fail
        refine (same_yes _ _ _ (opB ok oa ob oc ot) ye1.out (by have h := hbs1.out.keep B8.out; rw [Int.toNat_natCast, Int.toNat_natCast, pB.out] at h; exact h)).mono ?_
        rintro e w9 ⟨rfl, n1, hw1⟩
        have z9 := z8.out
        have y9 := y8.out
        have B9 : Below w.heap.size w w9 := by rw [hw1]; exact below_drewN B8.out _
        replace z9 : Whole w9 w2.heap.size 48 #[.complex .f64 0 0, .int .i64 0, .string ⟨#[]⟩, .string ⟨#[]⟩, .bool false, .bool false, .int .i64 0, .int .i64 0, .int .i64 0, .string ⟨#[]⟩, .bool false] := by rw [hw1]; exact z8.out
        replace y9 : Whole w9 w3.heap.size 52 #[.int .i64 ok, .string oa, .string ob, .string oc, .bool ot] := by rw [hw1]; exact y8.out
        clear hw1
        replace z9 := Lib.hid z9; replace y9 := Lib.hid y9; replace B9 := Lib.hid B9
        go_wp2_with fail
        refine ⟨y9.out, ?_⟩
        apply chain_take rfl rfl
        · intro w' hS
          go_simp
          with_reducible rfl
        simp only [List.getElem_toArray, List.getElem_cons_succ, List.getElem_cons_zero, Act.put, List.setIfInBounds_toArray, List.set_cons_zero, List.set_cons_succ]
        apply chain_take rfl rfl
        · intro w' hS
          go_simp
          with_reducible rfl
        simp only [List.getElem_toArray, List.getElem_cons_succ, List.getElem_cons_zero, Act.put, List.setIfInBounds_toArray, List.set_cons_zero, List.set_cons_succ]
        apply chain_take rfl rfl
        · intro w' hS
          go_simp
          with_reducible rfl
        simp only [List.getElem_toArray, List.getElem_cons_succ, List.getElem_cons_zero, Act.put, List.setIfInBounds_toArray, List.set_cons_zero, List.set_cons_succ]
        apply chain_end
        have c0 := z9.out.cell 0
        have c1 := z9.out.cell 1
        have c2 := z9.out.cell 2
        have c3 := z9.out.cell 3
        have c4 := z9.out.cell 4
        have c5 := z9.out.cell 5
        have c6 := z9.out.cell 6
        have c7 := z9.out.cell 7
        have c8 := z9.out.cell 8
        have c9 := z9.out.cell 9
        have c10 := z9.out.cell 10
        simp only [List.getElem?_toArray, List.getElem?_cons_succ, List.getElem?_cons_zero] at c0 c1 c2 c3 c4 c5 c6 c7 c8 c9 c10
        go_wp2
        go_ret
        exact ⟨rfl, by first | exact B9.out | exact B9.out.drew | exact B9.out.drew.drew⟩
    · have u1 : decide ((X : Int) < (at0 : Int)) = false := decide_eq_false (by omega)
      have u3 : decide (X < at0) = false := decide_eq_false (by omega)
      have u4 : decide (xs.length < X) = false := decide_eq_false (by omega)
      have u2 : decide ((xs.length : Int) < (X : Int)) = false := decide_eq_false (by omega)
      replace gB := Lib.hid gB; replace gk := Lib.hid gk; replace gl := Lib.hid gl; replace gm := Lib.hid gm; replace gn := Lib.hid gn
      have B2 := ba.out.trans (b2.mono ba.out.size)
      have z2 := Whole.new w2 48 #[.complex .f64 (Flo.flo x) (Flo.flo y), .int .i64 k, .string a, .string b, .bool s, .bool t, .int .i64 l, .int .i64 m, .int .i64 n, .string c, .bool u]
      have B2n : Below w.heap.size w (w2.alloc (.cells #[.complex .f64 (Flo.flo x) (Flo.flo y), .int .i64 k, .string a, .string b, .bool s, .bool t, .int .i64 l, .int .i64 m, .int .i64 n, .string c, .bool u] 48)) := B2.alloc B2.size _
      replace z2 := Lib.hid z2; replace B2 := Lib.hid B2; replace B2n := Lib.hid B2n; clear b2
      go_wp2_with fail
      refine (getOp_got _ _ xs at0 hat.out hxf.out (hv0.out.keep B2n.out)).mono ?_
      rintro e w3 ⟨b3, ⟨_, rfl⟩ | ⟨_, ok, oa, ob, oc, ot, Y, pk, pa, pb, pc, gY1, gY2, pB, _, _, rfl⟩⟩
      · have z3 := (z2.out.below b3 z2.out.lt).alloc (.cells #[.int .i64 0, .string ⟨#[]⟩, .string ⟨#[]⟩, .string ⟨#[]⟩, .bool false] 52)
        have y3 := Whole.new w3 52 #[.int .i64 0, .string ⟨#[]⟩, .string ⟨#[]⟩, .string ⟨#[]⟩, .bool false]
        have B3 := B2n.out.trans (b3.mono B2n.out.size)
        have B3n : Below w.heap.size w (w3.alloc (.cells #[.int .i64 0, .string ⟨#[]⟩, .string ⟨#[]⟩, .string ⟨#[]⟩, .bool false] 52)) := B3.alloc B3.size _
        replace z3 := Lib.hid z3; replace y3 := Lib.hid y3; replace B3n := Lib.hid B3n; clear b3 B3
        obtain ⟨ac, cc, he, _⟩ := hv0.out
        injection he with e1 e2 e3
        subst e1 e3
        clear e2
        go_wp2_with fail
        obtain ⟨vs0, hsl0, hbs0⟩ := run_piece hv0.out (at0 : Int) (X : Int) (by omega) (by omega) (by omega)
        replace hbs0 := Lib.hid hbs0
        refine wp_region_chain (fun w' => Whole w' w2.heap.size 48 #[.complex .f64 (Flo.flo x) (Flo.flo y), .int .i64 k, .string a, .string b, .bool s, .bool t, .int .i64 l, .int .i64 m, .int .i64 n, .string c, .bool u]) [(true, 0), (true, 1), (true, 2), (true, 3), (true, 4), (true, 5), (true, 6), (true, 7), (true, 8), (true, 9), (true, 10), (true, 11), (true, 12), (true, 14), (true, 15), (true, 16), (true, 17), (false, 13), (false, 18), (true, 19), (true, 20), (true, 21)] (by kernel_rfl) (by kernel_rfl) (fun _ _ d _ _ h => by cases d <;> exact h) z3.out ?_
        apply chain_take rfl rfl
        · intro w' hS
          go_simp
          try simp only [u1, u2, u3, u4]
          with_reducible rfl
        simp only [List.getElem_toArray, List.getElem_cons_succ, List.getElem_cons_zero, Act.put, List.setIfInBounds_toArray, List.set_cons_zero, List.set_cons_succ]
        apply chain_take rfl rfl
        · intro w' hS
          go_simp
          try simp only [u1, u2, u3, u4]
          with_reducible rfl
        simp only [List.getElem_toArray, List.getElem_cons_succ, List.getElem_cons_zero, Act.put, List.setIfInBounds_toArray, List.set_cons_zero, List.set_cons_succ]
        apply chain_take rfl rfl
        · intro w' hS
          go_simp
          try simp only [u1, u2, u3, u4]
          with_reducible rfl
        simp only [List.getElem_toArray, List.getElem_cons_succ, List.getElem_cons_zero, Act.put, List.setIfInBounds_toArray, List.set_cons_zero, List.set_cons_succ]
        apply chain_take rfl rfl
        · intro w' hS
          go_simp
          try simp only [u1, u2, u3, u4]
          with_reducible rfl
        simp only [List.getElem_toArray, List.getElem_cons_succ, List.getElem_cons_zero, Act.put, List.setIfInBounds_toArray, List.set_cons_zero, List.set_cons_succ]
        apply chain_take rfl rfl
        · intro w' hS
          go_simp
          try simp only [u1, u2, u3, u4]
          with_reducible rfl
        simp only [List.getElem_toArray, List.getElem_cons_succ, List.getElem_cons_zero, Act.put, List.setIfInBounds_toArray, List.set_cons_zero, List.set_cons_succ]
        apply chain_take rfl rfl
        · intro w' hS
          go_simp
          try simp only [u1, u2, u3, u4]
          with_reducible rfl
        simp only [List.getElem_toArray, List.getElem_cons_succ, List.getElem_cons_zero, Act.put, List.setIfInBounds_toArray, List.set_cons_zero, List.set_cons_succ]
        apply chain_take rfl rfl
        · intro w' hS
          go_simp
          try simp only [u1, u2, u3, u4]
          with_reducible rfl
        simp only [List.getElem_toArray, List.getElem_cons_succ, List.getElem_cons_zero, Act.put, List.setIfInBounds_toArray, List.set_cons_zero, List.set_cons_succ]
        apply chain_take rfl rfl
        · intro w' hS
          go_simp
          try simp only [u1, u2, u3, u4]
          with_reducible rfl
        simp only [List.getElem_toArray, List.getElem_cons_succ, List.getElem_cons_zero, Act.put, List.setIfInBounds_toArray, List.set_cons_zero, List.set_cons_succ]
        apply chain_take rfl rfl
        · intro w' hS
          go_simp
          try simp only [u1, u2, u3, u4]
          with_reducible rfl
        simp only [List.getElem_toArray, List.getElem_cons_succ, List.getElem_cons_zero, Act.put, List.setIfInBounds_toArray, List.set_cons_zero, List.set_cons_succ]
        apply chain_take rfl rfl
        · intro w' hS
          go_simp
          try simp only [u1, u2, u3, u4]
          with_reducible rfl
        simp only [List.getElem_toArray, List.getElem_cons_succ, List.getElem_cons_zero, Act.put, List.setIfInBounds_toArray, List.set_cons_zero, List.set_cons_succ]
        apply chain_take rfl rfl
        · intro w' hS
          go_simp
          try simp only [u1, u2, u3, u4]
          with_reducible rfl
        simp only [List.getElem_toArray, List.getElem_cons_succ, List.getElem_cons_zero, Act.put, List.setIfInBounds_toArray, List.set_cons_zero, List.set_cons_succ]
        apply chain_take rfl rfl
        · intro w' hS
          go_simp
          try simp only [u1, u2, u3, u4]
          with_reducible rfl
        simp only [List.getElem_toArray, List.getElem_cons_succ, List.getElem_cons_zero, Act.put, List.setIfInBounds_toArray, List.set_cons_zero, List.set_cons_succ]
        apply chain_take rfl rfl
        · intro w' hS
          exact load_whole hS rfl rfl Try.underlying48 sizeE48
        simp only [List.getElem_toArray, List.getElem_cons_succ, List.getElem_cons_zero, Act.put, List.setIfInBounds_toArray, List.set_cons_zero, List.set_cons_succ]
        apply chain_take rfl rfl
        · intro w' hS
          go_simp
          try simp only [u1, u2, u3, u4]
          with_reducible rfl
        simp only [List.getElem_toArray, List.getElem_cons_succ, List.getElem_cons_zero, Act.put, List.setIfInBounds_toArray, List.set_cons_zero, List.set_cons_succ]
        apply chain_take rfl rfl
        · intro w' hS
          go_simp
          try simp only [u1, u2, u3, u4]
          with_reducible rfl
        simp only [List.getElem_toArray, List.getElem_cons_succ, List.getElem_cons_zero, Act.put, List.setIfInBounds_toArray, List.set_cons_zero, List.set_cons_succ]
        apply chain_take rfl rfl
        · intro w' hS
          go_simp
          try simp only [u1, u2, u3, u4]
          with_reducible rfl
        simp only [List.getElem_toArray, List.getElem_cons_succ, List.getElem_cons_zero, Act.put, List.setIfInBounds_toArray, List.set_cons_zero, List.set_cons_succ]
        apply chain_take rfl rfl
        · intro w' hS
          exact slice_op rfl rfl rfl rfl hsl0
        simp only [List.getElem_toArray, List.getElem_cons_succ, List.getElem_cons_zero, Act.put, List.setIfInBounds_toArray, List.set_cons_zero, List.set_cons_succ]
        refine chain_go rfl ?_
        go_wp2_with fail
        refine (refEnt_core _ x y k a b s t l m n c u gx gy gk.out gl.out gm.out gn.out ga gb gc).mono ?_
        rintro e w6 ⟨ae0, ne0, ce0, rfl, ye0, be0⟩
        replace be0 := below_und be0
        have z6 := z3.out.below be0 z3.out.lt
        have y6 := y3.out.below be0 y3.out.lt
        have B6 := B3n.out.trans (be0.mono B3n.out.size)
        clear be0
        replace z6 := Lib.hid z6; replace y6 := Lib.hid y6; replace B6 := Lib.hid B6; replace ye0 := Lib.hid ye0
        go_wp2_with fail
        refine ⟨z6.out, ?_⟩
        refine chain_go rfl ?_
        go_wp2_with fail
        refine (same_yes _ _ _ (entB x y k a b s t l m n c u) ye0.out (by have h := hbs0.out.keep B6.out; rw [Int.toNat_natCast, Int.toNat_natCast, gB.out] at h; exact h)).mono ?_
        rintro e w7 ⟨rfl, n0, hw0⟩
        have z7 := z6.out
        have y7 := y6.out
        have B7 : Below w.heap.size w w7 := by rw [hw0]; exact below_drewN B6.out _
        replace z7 : Whole w7 w2.heap.size 48 #[.complex .f64 (Flo.flo x) (Flo.flo y), .int .i64 k, .string a, .string b, .bool s, .bool t, .int .i64 l, .int .i64 m, .int .i64 n, .string c, .bool u] := by rw [hw0]; exact z6.out
        replace y7 : Whole w7 w3.heap.size 52 #[.int .i64 0, .string ⟨#[]⟩, .string ⟨#[]⟩, .string ⟨#[]⟩, .bool false] := by rw [hw0]; exact y6.out
        clear hw0
        replace z7 := Lib.hid z7; replace y7 := Lib.hid y7; replace B7 := Lib.hid B7
        go_wp2_with fail
        refine ⟨z7.out, ?_⟩
        apply chain_take rfl rfl
        · intro w' hS
          go_simp
          with_reducible rfl
        simp only [List.getElem_toArray, List.getElem_cons_succ, List.getElem_cons_zero, Act.put, List.setIfInBounds_toArray, List.set_cons_zero, List.set_cons_succ]
        apply chain_take rfl rfl
        · intro w' hS
          go_simp
          with_reducible rfl
        simp only [List.getElem_toArray, List.getElem_cons_succ, List.getElem_cons_zero, Act.put, List.setIfInBounds_toArray, List.set_cons_zero, List.set_cons_succ]
        apply chain_take rfl rfl
        · intro w' hS
          go_simp
          with_reducible rfl
        simp only [List.getElem_toArray, List.getElem_cons_succ, List.getElem_cons_zero, Act.put, List.setIfInBounds_toArray, List.set_cons_zero, List.set_cons_succ]
        apply chain_end
        go_wp2_with fail
        refine wp_region_chain (fun w' => Whole w' w3.heap.size 52 #[.int .i64 0, .string ⟨#[]⟩, .string ⟨#[]⟩, .string ⟨#[]⟩, .bool false]) [(true, 0), (true, 1), (true, 2), (true, 3), (true, 4), (true, 5), (true, 6), (true, 7), (true, 8), (true, 9), (true, 10), (true, 11), (true, 12), (true, 14), (true, 15), (true, 16), (true, 17), (false, 13), (false, 18), (true, 19), (true, 20), (true, 21)] (by kernel_rfl) (by kernel_rfl) (fun _ _ d _ _ h => by cases d <;> exact h) y7.out ?_
        apply chain_take rfl rfl
        · intro w' hS
          go_simp
          with_reducible rfl
        simp only [List.getElem_toArray, List.getElem_cons_succ, List.getElem_cons_zero, Act.put, List.setIfInBounds_toArray, List.set_cons_zero, List.set_cons_succ]
        apply chain_take rfl rfl
        · intro w' hS
          go_simp
          with_reducible rfl
        simp only [List.getElem_toArray, List.getElem_cons_succ, List.getElem_cons_zero, Act.put, List.setIfInBounds_toArray, List.set_cons_zero, List.set_cons_succ]
        refine chain_skipT rfl rfl ?_
        simp only [List.getElem_toArray, List.getElem_cons_succ, List.getElem_cons_zero, Act.put, List.setIfInBounds_toArray, List.set_cons_zero, List.set_cons_succ]
        refine chain_skipT rfl rfl ?_
        simp only [List.getElem_toArray, List.getElem_cons_succ, List.getElem_cons_zero, Act.put, List.setIfInBounds_toArray, List.set_cons_zero, List.set_cons_succ]
        refine chain_skipT rfl rfl ?_
        simp only [List.getElem_toArray, List.getElem_cons_succ, List.getElem_cons_zero, Act.put, List.setIfInBounds_toArray, List.set_cons_zero, List.set_cons_succ]
        refine chain_skipT rfl rfl ?_
        simp only [List.getElem_toArray, List.getElem_cons_succ, List.getElem_cons_zero, Act.put, List.setIfInBounds_toArray, List.set_cons_zero, List.set_cons_succ]
        refine chain_skipT rfl rfl ?_
        simp only [List.getElem_toArray, List.getElem_cons_succ, List.getElem_cons_zero, Act.put, List.setIfInBounds_toArray, List.set_cons_zero, List.set_cons_succ]
        refine chain_skipT rfl rfl ?_
        simp only [List.getElem_toArray, List.getElem_cons_succ, List.getElem_cons_zero, Act.put, List.setIfInBounds_toArray, List.set_cons_zero, List.set_cons_succ]
        refine chain_skipT rfl rfl ?_
        simp only [List.getElem_toArray, List.getElem_cons_succ, List.getElem_cons_zero, Act.put, List.setIfInBounds_toArray, List.set_cons_zero, List.set_cons_succ]
        refine chain_skipT rfl rfl ?_
        simp only [List.getElem_toArray, List.getElem_cons_succ, List.getElem_cons_zero, Act.put, List.setIfInBounds_toArray, List.set_cons_zero, List.set_cons_succ]
        refine chain_skipT rfl rfl ?_
        simp only [List.getElem_toArray, List.getElem_cons_succ, List.getElem_cons_zero, Act.put, List.setIfInBounds_toArray, List.set_cons_zero, List.set_cons_succ]
        refine chain_skipT rfl rfl ?_
        simp only [List.getElem_toArray, List.getElem_cons_succ, List.getElem_cons_zero, Act.put, List.setIfInBounds_toArray, List.set_cons_zero, List.set_cons_succ]
        refine chain_skipT rfl rfl ?_
        simp only [List.getElem_toArray, List.getElem_cons_succ, List.getElem_cons_zero, Act.put, List.setIfInBounds_toArray, List.set_cons_zero, List.set_cons_succ]
        refine chain_skipT rfl rfl ?_
        simp only [List.getElem_toArray, List.getElem_cons_succ, List.getElem_cons_zero, Act.put, List.setIfInBounds_toArray, List.set_cons_zero, List.set_cons_succ]
        refine chain_skipT rfl rfl ?_
        simp only [List.getElem_toArray, List.getElem_cons_succ, List.getElem_cons_zero, Act.put, List.setIfInBounds_toArray, List.set_cons_zero, List.set_cons_succ]
        refine chain_skipT rfl rfl ?_
        simp only [List.getElem_toArray, List.getElem_cons_succ, List.getElem_cons_zero, Act.put, List.setIfInBounds_toArray, List.set_cons_zero, List.set_cons_succ]
        refine chain_skipT rfl rfl ?_
        simp only [List.getElem_toArray, List.getElem_cons_succ, List.getElem_cons_zero, Act.put, List.setIfInBounds_toArray, List.set_cons_zero, List.set_cons_succ]
        refine chain_skipF rfl rfl y7.out ?_
        simp only [List.getElem_toArray, List.getElem_cons_succ, List.getElem_cons_zero, Act.put, List.setIfInBounds_toArray, List.set_cons_zero, List.set_cons_succ]
        refine chain_skipF rfl rfl y7.out ?_
        simp only [List.getElem_toArray, List.getElem_cons_succ, List.getElem_cons_zero, Act.put, List.setIfInBounds_toArray, List.set_cons_zero, List.set_cons_succ]
        refine chain_skipT rfl rfl ?_
        simp only [List.getElem_toArray, List.getElem_cons_succ, List.getElem_cons_zero, Act.put, List.setIfInBounds_toArray, List.set_cons_zero, List.set_cons_succ]
        refine chain_skipT rfl rfl ?_
        simp only [List.getElem_toArray, List.getElem_cons_succ, List.getElem_cons_zero, Act.put, List.setIfInBounds_toArray, List.set_cons_zero, List.set_cons_succ]
        apply chain_take rfl rfl
        · intro w' hS
          go_simp
          with_reducible rfl
        simp only [List.getElem_toArray, List.getElem_cons_succ, List.getElem_cons_zero, Act.put, List.setIfInBounds_toArray, List.set_cons_zero, List.set_cons_succ]
        apply chain_end
        have f0 := y7.out.cell 0
        have f1 := y7.out.cell 1
        have f2 := y7.out.cell 2
        have f3 := y7.out.cell 3
        have f4 := y7.out.cell 4
        simp only [List.getElem?_toArray, List.getElem?_cons_succ, List.getElem?_cons_zero] at f0 f1 f2 f3 f4
        go_wp2
        go_ret
        exact ⟨rfl, by first | exact B7.out | exact B7.out.drew | exact B7.out.drew.drew⟩
      · have v1 : decide ((Y : Int) < (at0 : Int)) = false := decide_eq_false (by omega)
        have v3 : decide (Y < at0) = false := decide_eq_false (by omega)
        have v4 : decide (xs.length < Y) = false := decide_eq_false (by omega)
        have v2 : decide ((xs.length : Int) < (Y : Int)) = false := decide_eq_false (by omega)
        replace pB := Lib.hid pB; replace pk := Lib.hid pk
        have z3 := (z2.out.below b3 z2.out.lt).alloc (.cells #[.int .i64 ok, .string oa, .string ob, .string oc, .bool ot] 52)
        have y3 := Whole.new w3 52 #[.int .i64 ok, .string oa, .string ob, .string oc, .bool ot]
        have B3 := B2n.out.trans (b3.mono B2n.out.size)
        have B3n : Below w.heap.size w (w3.alloc (.cells #[.int .i64 ok, .string oa, .string ob, .string oc, .bool ot] 52)) := B3.alloc B3.size _
        replace z3 := Lib.hid z3; replace y3 := Lib.hid y3; replace B3n := Lib.hid B3n; clear b3 B3
        obtain ⟨ac, cc, he, _⟩ := hv0.out
        injection he with e1 e2 e3
        subst e1 e3
        clear e2
        go_wp2_with fail
        obtain ⟨vs0, hsl0, hbs0⟩ := run_piece hv0.out (at0 : Int) (X : Int) (by omega) (by omega) (by omega)
        replace hbs0 := Lib.hid hbs0
        refine wp_region_chain (fun w' => Whole w' w2.heap.size 48 #[.complex .f64 (Flo.flo x) (Flo.flo y), .int .i64 k, .string a, .string b, .bool s, .bool t, .int .i64 l, .int .i64 m, .int .i64 n, .string c, .bool u]) [(true, 0), (true, 1), (true, 2), (true, 3), (true, 4), (true, 5), (true, 6), (true, 7), (true, 8), (true, 9), (true, 10), (true, 11), (true, 12), (true, 14), (true, 15), (true, 16), (true, 17), (false, 13), (false, 18), (true, 19), (true, 20), (true, 21)] (by kernel_rfl) (by kernel_rfl) (fun _ _ d _ _ h => by cases d <;> exact h) z3.out ?_
        apply chain_take rfl rfl
        · intro w' hS
          go_simp
          try simp only [u1, u2, u3, u4]
          with_reducible rfl
        simp only [List.getElem_toArray, List.getElem_cons_succ, List.getElem_cons_zero, Act.put, List.setIfInBounds_toArray, List.set_cons_zero, List.set_cons_succ]
        apply chain_take rfl rfl
        · intro w' hS
          go_simp
          try simp only [u1, u2, u3, u4]
          with_reducible rfl
        simp only [List.getElem_toArray, List.getElem_cons_succ, List.getElem_cons_zero, Act.put, List.setIfInBounds_toArray, List.set_cons_zero, List.set_cons_succ]
        apply chain_take rfl rfl
        · intro w' hS
          go_simp
          try simp only [u1, u2, u3, u4]
          with_reducible rfl
        simp only [List.getElem_toArray, List.getElem_cons_succ, List.getElem_cons_zero, Act.put, List.setIfInBounds_toArray, List.set_cons_zero, List.set_cons_succ]
        apply chain_take rfl rfl
        · intro w' hS
          go_simp
          try simp only [u1, u2, u3, u4]
          with_reducible rfl
        simp only [List.getElem_toArray, List.getElem_cons_succ, List.getElem_cons_zero, Act.put, List.setIfInBounds_toArray, List.set_cons_zero, List.set_cons_succ]
        apply chain_take rfl rfl
        · intro w' hS
          go_simp
          try simp only [u1, u2, u3, u4]
          with_reducible rfl
        simp only [List.getElem_toArray, List.getElem_cons_succ, List.getElem_cons_zero, Act.put, List.setIfInBounds_toArray, List.set_cons_zero, List.set_cons_succ]
        apply chain_take rfl rfl
        · intro w' hS
          go_simp
          try simp only [u1, u2, u3, u4]
          with_reducible rfl
        simp only [List.getElem_toArray, List.getElem_cons_succ, List.getElem_cons_zero, Act.put, List.setIfInBounds_toArray, List.set_cons_zero, List.set_cons_succ]
        apply chain_take rfl rfl
        · intro w' hS
          go_simp
          try simp only [u1, u2, u3, u4]
          with_reducible rfl
        simp only [List.getElem_toArray, List.getElem_cons_succ, List.getElem_cons_zero, Act.put, List.setIfInBounds_toArray, List.set_cons_zero, List.set_cons_succ]
        apply chain_take rfl rfl
        · intro w' hS
          go_simp
          try simp only [u1, u2, u3, u4]
          with_reducible rfl
        simp only [List.getElem_toArray, List.getElem_cons_succ, List.getElem_cons_zero, Act.put, List.setIfInBounds_toArray, List.set_cons_zero, List.set_cons_succ]
        apply chain_take rfl rfl
        · intro w' hS
          go_simp
          try simp only [u1, u2, u3, u4]
          with_reducible rfl
        simp only [List.getElem_toArray, List.getElem_cons_succ, List.getElem_cons_zero, Act.put, List.setIfInBounds_toArray, List.set_cons_zero, List.set_cons_succ]
        apply chain_take rfl rfl
        · intro w' hS
          go_simp
          try simp only [u1, u2, u3, u4]
          with_reducible rfl
        simp only [List.getElem_toArray, List.getElem_cons_succ, List.getElem_cons_zero, Act.put, List.setIfInBounds_toArray, List.set_cons_zero, List.set_cons_succ]
        apply chain_take rfl rfl
        · intro w' hS
          go_simp
          try simp only [u1, u2, u3, u4]
          with_reducible rfl
        simp only [List.getElem_toArray, List.getElem_cons_succ, List.getElem_cons_zero, Act.put, List.setIfInBounds_toArray, List.set_cons_zero, List.set_cons_succ]
        apply chain_take rfl rfl
        · intro w' hS
          go_simp
          try simp only [u1, u2, u3, u4]
          with_reducible rfl
        simp only [List.getElem_toArray, List.getElem_cons_succ, List.getElem_cons_zero, Act.put, List.setIfInBounds_toArray, List.set_cons_zero, List.set_cons_succ]
        apply chain_take rfl rfl
        · intro w' hS
          exact load_whole hS rfl rfl Try.underlying48 sizeE48
        simp only [List.getElem_toArray, List.getElem_cons_succ, List.getElem_cons_zero, Act.put, List.setIfInBounds_toArray, List.set_cons_zero, List.set_cons_succ]
        apply chain_take rfl rfl
        · intro w' hS
          go_simp
          try simp only [u1, u2, u3, u4]
          with_reducible rfl
        simp only [List.getElem_toArray, List.getElem_cons_succ, List.getElem_cons_zero, Act.put, List.setIfInBounds_toArray, List.set_cons_zero, List.set_cons_succ]
        apply chain_take rfl rfl
        · intro w' hS
          go_simp
          try simp only [u1, u2, u3, u4]
          with_reducible rfl
        simp only [List.getElem_toArray, List.getElem_cons_succ, List.getElem_cons_zero, Act.put, List.setIfInBounds_toArray, List.set_cons_zero, List.set_cons_succ]
        apply chain_take rfl rfl
        · intro w' hS
          go_simp
          try simp only [u1, u2, u3, u4]
          with_reducible rfl
        simp only [List.getElem_toArray, List.getElem_cons_succ, List.getElem_cons_zero, Act.put, List.setIfInBounds_toArray, List.set_cons_zero, List.set_cons_succ]
        apply chain_take rfl rfl
        · intro w' hS
          exact slice_op rfl rfl rfl rfl hsl0
        simp only [List.getElem_toArray, List.getElem_cons_succ, List.getElem_cons_zero, Act.put, List.setIfInBounds_toArray, List.set_cons_zero, List.set_cons_succ]
        refine chain_go rfl ?_
        go_wp2_with fail
        refine (refEnt_core _ x y k a b s t l m n c u gx gy gk.out gl.out gm.out gn.out ga gb gc).mono ?_
        rintro e w6 ⟨ae0, ne0, ce0, rfl, ye0, be0⟩
        replace be0 := below_und be0
        have z6 := z3.out.below be0 z3.out.lt
        have y6 := y3.out.below be0 y3.out.lt
        have B6 := B3n.out.trans (be0.mono B3n.out.size)
        clear be0
        replace z6 := Lib.hid z6; replace y6 := Lib.hid y6; replace B6 := Lib.hid B6; replace ye0 := Lib.hid ye0
        go_wp2_with fail
        refine ⟨z6.out, ?_⟩
        refine chain_go rfl ?_
        go_wp2_with fail
        refine (same_yes _ _ _ (entB x y k a b s t l m n c u) ye0.out (by have h := hbs0.out.keep B6.out; rw [Int.toNat_natCast, Int.toNat_natCast, gB.out] at h; exact h)).mono ?_
        rintro e w7 ⟨rfl, n0, hw0⟩
        have z7 := z6.out
        have y7 := y6.out
        have B7 : Below w.heap.size w w7 := by rw [hw0]; exact below_drewN B6.out _
        replace z7 : Whole w7 w2.heap.size 48 #[.complex .f64 (Flo.flo x) (Flo.flo y), .int .i64 k, .string a, .string b, .bool s, .bool t, .int .i64 l, .int .i64 m, .int .i64 n, .string c, .bool u] := by rw [hw0]; exact z6.out
        replace y7 : Whole w7 w3.heap.size 52 #[.int .i64 ok, .string oa, .string ob, .string oc, .bool ot] := by rw [hw0]; exact y6.out
        clear hw0
        replace z7 := Lib.hid z7; replace y7 := Lib.hid y7; replace B7 := Lib.hid B7
        go_wp2_with fail
        refine ⟨z7.out, ?_⟩
        apply chain_take rfl rfl
        · intro w' hS
          go_simp
          with_reducible rfl
        simp only [List.getElem_toArray, List.getElem_cons_succ, List.getElem_cons_zero, Act.put, List.setIfInBounds_toArray, List.set_cons_zero, List.set_cons_succ]
        apply chain_take rfl rfl
        · intro w' hS
          go_simp
          with_reducible rfl
        simp only [List.getElem_toArray, List.getElem_cons_succ, List.getElem_cons_zero, Act.put, List.setIfInBounds_toArray, List.set_cons_zero, List.set_cons_succ]
        apply chain_take rfl rfl
        · intro w' hS
          go_simp
          with_reducible rfl
        simp only [List.getElem_toArray, List.getElem_cons_succ, List.getElem_cons_zero, Act.put, List.setIfInBounds_toArray, List.set_cons_zero, List.set_cons_succ]
        apply chain_end
        go_wp2_with fail
        obtain ⟨vs1, hsl1, hbs1⟩ := run_piece hv0.out (at0 : Int) (Y : Int) (by omega) (by omega) (by omega)
        replace hbs1 := Lib.hid hbs1
        refine wp_region_chain (fun w' => Whole w' w3.heap.size 52 #[.int .i64 ok, .string oa, .string ob, .string oc, .bool ot]) [(true, 0), (true, 1), (true, 2), (true, 3), (true, 4), (true, 5), (true, 6), (true, 7), (true, 8), (true, 9), (true, 10), (true, 11), (true, 12), (true, 14), (true, 15), (true, 16), (true, 17), (false, 13), (false, 18), (true, 19), (true, 20), (true, 21)] (by kernel_rfl) (by kernel_rfl) (fun _ _ d _ _ h => by cases d <;> exact h) y7.out ?_
        apply chain_take rfl rfl
        · intro w' hS
          go_simp
          try simp only [v1, v2, v3, v4]
          with_reducible rfl
        simp only [List.getElem_toArray, List.getElem_cons_succ, List.getElem_cons_zero, Act.put, List.setIfInBounds_toArray, List.set_cons_zero, List.set_cons_succ]
        apply chain_take rfl rfl
        · intro w' hS
          go_simp
          try simp only [v1, v2, v3, v4]
          with_reducible rfl
        simp only [List.getElem_toArray, List.getElem_cons_succ, List.getElem_cons_zero, Act.put, List.setIfInBounds_toArray, List.set_cons_zero, List.set_cons_succ]
        apply chain_take rfl rfl
        · intro w' hS
          go_simp
          try simp only [v1, v2, v3, v4]
          with_reducible rfl
        simp only [List.getElem_toArray, List.getElem_cons_succ, List.getElem_cons_zero, Act.put, List.setIfInBounds_toArray, List.set_cons_zero, List.set_cons_succ]
        apply chain_take rfl rfl
        · intro w' hS
          go_simp
          try simp only [v1, v2, v3, v4]
          with_reducible rfl
        simp only [List.getElem_toArray, List.getElem_cons_succ, List.getElem_cons_zero, Act.put, List.setIfInBounds_toArray, List.set_cons_zero, List.set_cons_succ]
        apply chain_take rfl rfl
        · intro w' hS
          go_simp
          try simp only [v1, v2, v3, v4]
          with_reducible rfl
        simp only [List.getElem_toArray, List.getElem_cons_succ, List.getElem_cons_zero, Act.put, List.setIfInBounds_toArray, List.set_cons_zero, List.set_cons_succ]
        apply chain_take rfl rfl
        · intro w' hS
          go_simp
          try simp only [v1, v2, v3, v4]
          with_reducible rfl
        simp only [List.getElem_toArray, List.getElem_cons_succ, List.getElem_cons_zero, Act.put, List.setIfInBounds_toArray, List.set_cons_zero, List.set_cons_succ]
        apply chain_take rfl rfl
        · intro w' hS
          go_simp
          try simp only [v1, v2, v3, v4]
          with_reducible rfl
        simp only [List.getElem_toArray, List.getElem_cons_succ, List.getElem_cons_zero, Act.put, List.setIfInBounds_toArray, List.set_cons_zero, List.set_cons_succ]
        apply chain_take rfl rfl
        · intro w' hS
          go_simp
          try simp only [v1, v2, v3, v4]
          with_reducible rfl
        simp only [List.getElem_toArray, List.getElem_cons_succ, List.getElem_cons_zero, Act.put, List.setIfInBounds_toArray, List.set_cons_zero, List.set_cons_succ]
        apply chain_take rfl rfl
        · intro w' hS
          go_simp
          try simp only [v1, v2, v3, v4]
          with_reducible rfl
        simp only [List.getElem_toArray, List.getElem_cons_succ, List.getElem_cons_zero, Act.put, List.setIfInBounds_toArray, List.set_cons_zero, List.set_cons_succ]
        apply chain_take rfl rfl
        · intro w' hS
          go_simp
          try simp only [v1, v2, v3, v4]
          with_reducible rfl
        simp only [List.getElem_toArray, List.getElem_cons_succ, List.getElem_cons_zero, Act.put, List.setIfInBounds_toArray, List.set_cons_zero, List.set_cons_succ]
        apply chain_take rfl rfl
        · intro w' hS
          go_simp
          try simp only [v1, v2, v3, v4]
          with_reducible rfl
        simp only [List.getElem_toArray, List.getElem_cons_succ, List.getElem_cons_zero, Act.put, List.setIfInBounds_toArray, List.set_cons_zero, List.set_cons_succ]
        apply chain_take rfl rfl
        · intro w' hS
          go_simp
          try simp only [v1, v2, v3, v4]
          with_reducible rfl
        simp only [List.getElem_toArray, List.getElem_cons_succ, List.getElem_cons_zero, Act.put, List.setIfInBounds_toArray, List.set_cons_zero, List.set_cons_succ]
        apply chain_take rfl rfl
        · intro w' hS
          exact load_whole hS rfl rfl Try.underlying52 sizeE52
        simp only [List.getElem_toArray, List.getElem_cons_succ, List.getElem_cons_zero, Act.put, List.setIfInBounds_toArray, List.set_cons_zero, List.set_cons_succ]
        apply chain_take rfl rfl
        · intro w' hS
          go_simp
          try simp only [v1, v2, v3, v4]
          with_reducible rfl
        simp only [List.getElem_toArray, List.getElem_cons_succ, List.getElem_cons_zero, Act.put, List.setIfInBounds_toArray, List.set_cons_zero, List.set_cons_succ]
        apply chain_take rfl rfl
        · intro w' hS
          go_simp
          try simp only [v1, v2, v3, v4]
          with_reducible rfl
        simp only [List.getElem_toArray, List.getElem_cons_succ, List.getElem_cons_zero, Act.put, List.setIfInBounds_toArray, List.set_cons_zero, List.set_cons_succ]
        apply chain_take rfl rfl
        · intro w' hS
          go_simp
          try simp only [v1, v2, v3, v4]
          with_reducible rfl
        simp only [List.getElem_toArray, List.getElem_cons_succ, List.getElem_cons_zero, Act.put, List.setIfInBounds_toArray, List.set_cons_zero, List.set_cons_succ]
        apply chain_take rfl rfl
        · intro w' hS
          exact slice_op rfl rfl rfl rfl hsl1
        simp only [List.getElem_toArray, List.getElem_cons_succ, List.getElem_cons_zero, Act.put, List.setIfInBounds_toArray, List.set_cons_zero, List.set_cons_succ]
        refine chain_go rfl ?_
        go_wp2_with fail
        refine (refOp_core _ ok oa ob oc ot pk.out pa pb pc).mono ?_
        rintro e w8 ⟨ae1, ne1, ce1, rfl, ye1, be1⟩
        replace be1 := below_und be1
        have z8 := z7.out.below be1 z7.out.lt
        have y8 := y7.out.below be1 y7.out.lt
        have B8 := B7.out.trans (be1.mono B7.out.size)
        clear be1
        replace z8 := Lib.hid z8; replace y8 := Lib.hid y8; replace B8 := Lib.hid B8; replace ye1 := Lib.hid ye1
        go_wp2_with fail
        refine ⟨y8.out, ?_⟩
        refine chain_go rfl ?_
        go_wp2_with fail
        refine (same_yes _ _ _ (opB ok oa ob oc ot) ye1.out (by have h := hbs1.out.keep B8.out; rw [Int.toNat_natCast, Int.toNat_natCast, pB.out] at h; exact h)).mono ?_
        rintro e w9 ⟨rfl, n1, hw1⟩
        have z9 := z8.out
        have y9 := y8.out
        have B9 : Below w.heap.size w w9 := by rw [hw1]; exact below_drewN B8.out _
        replace z9 : Whole w9 w2.heap.size 48 #[.complex .f64 (Flo.flo x) (Flo.flo y), .int .i64 k, .string a, .string b, .bool s, .bool t, .int .i64 l, .int .i64 m, .int .i64 n, .string c, .bool u] := by rw [hw1]; exact z8.out
        replace y9 : Whole w9 w3.heap.size 52 #[.int .i64 ok, .string oa, .string ob, .string oc, .bool ot] := by rw [hw1]; exact y8.out
        clear hw1
        replace z9 := Lib.hid z9; replace y9 := Lib.hid y9; replace B9 := Lib.hid B9
        go_wp2_with fail
        refine ⟨y9.out, ?_⟩
        apply chain_take rfl rfl
        · intro w' hS
          go_simp
          with_reducible rfl
        simp only [List.getElem_toArray, List.getElem_cons_succ, List.getElem_cons_zero, Act.put, List.setIfInBounds_toArray, List.set_cons_zero, List.set_cons_succ]
        apply chain_take rfl rfl
        · intro w' hS
          go_simp
          with_reducible rfl
        simp only [List.getElem_toArray, List.getElem_cons_succ, List.getElem_cons_zero, Act.put, List.setIfInBounds_toArray, List.set_cons_zero, List.set_cons_succ]
        apply chain_take rfl rfl
        · intro w' hS
          go_simp
          with_reducible rfl
        simp only [List.getElem_toArray, List.getElem_cons_succ, List.getElem_cons_zero, Act.put, List.setIfInBounds_toArray, List.set_cons_zero, List.set_cons_succ]
        apply chain_end
        go_wp2
        go_ret
        exact ⟨rfl, by first | exact B9.out | exact B9.out.drew | exact B9.out.drew.drew⟩
  · have hg3 : decide ((3000 : Int) < (xs.length : Int)) = true ∨ decide ((3000 : Int) < (xs.length : Int)) = false ∧ decide (a1 < 0) = true ∨
        decide ((3000 : Int) < (xs.length : Int)) = false ∧ decide (a1 < 0) = false ∧ decide (4000 < a1) = true := by
      simp only [decide_eq_true_eq, decide_eq_false_iff_not]; omega
    clear h2
    rcases hg3 with d2 | ⟨d2, d0⟩ | ⟨d2, d0, d3⟩
    all_goals
      go_enter Try.func8, Try.ntmps8
      go_wp2_with fail
      refine (awake5_core w).mono ?_
      rintro e wa ⟨rfl, ba⟩
      replace ba := Lib.hid ba
      go_wp2_with fail
      refine (awake5_core wa).mono ?_
      rintro e wb ⟨rfl, bb⟩
      go_wp2
      go_ret
      exact ⟨rfl, ba.out.trans (bb.mono ba.out.size)⟩
end Go.Proofs.Ytjpaljiielemgaa
