/- msg's Get. -/
import Derived.Test.YtjpaljiielemgaaMImg
namespace Go.Proofs.Ytjpaljiielemgaa
open Go.RowKit
attribute [local go_sem] store_cplx

def msgZero : Array Value := #[.int .i64 0, .int .i64 0, .int .i64 0, .int .i64 0, .int .i64 0, .int .i64 0, .int .i64 0, .int .i64 0, .int .i64 0, .int .i64 0, .int .i64 0, .int .i64 0, .bool false, .bool false, .string ⟨#[]⟩, .string ⟨#[]⟩, .complex .f64 0 0, .complex .f64 0 0, .int .i64 0, .string ⟨#[]⟩, .string ⟨#[]⟩, .string ⟨#[]⟩, .bool false, .slice none 0 0, .slice none 0 0, .slice none 0 0, .complex .f64 0 0, .complex .f64 0 0, .int .i64 0, .slice none 0 0, .slice none 0 0]
/-- A message's fields. -/
def MF : List Fd := [f1 intV, f1 intV, f1 intV, f1 intV, f1 intV, f1 intV, f1 intV, f1 intV, f1 intV, f1 intV, f1 intV, f1 intV, f1 bitV, f1 bitV, f1 txtV, f1 txtV, f1 vrV, f1 vrV, fS 5 opV, f1 (lstV 48 11 entV), f1 (lstV 110 2 memV), f1 (lstV 115 5 viewV), fS 5 imgV]
theorem sizeE64 : (Try.prog.info? 64).map (·.size) = some 31 := by kernel_rfl
theorem msgZero_one : msgZero.all (·.oneCell') = true := by kernel_rfl

theorem ones_list {L : List Value} (h : ∀ v ∈ L, v.oneCell' = true) : Ones L.toArray := fun i hi => h _ (by simp)
theorem row_ones {B : Nat} {w : World} {cs : Array Value} {E : List UInt8} (h : Row B w cs 0 MF E) (hs : cs.size = 31) : Ones cs := by
  obtain ⟨l⟩ := cs
  match l, hs with
  | [c0, c1, c2, c3, c4, c5, c6, c7, c8, c9, c10, c11, c12, c13, c14, c15, c16, c17, c18, c19, c20, c21, c22, c23, c24, c25, c26, c27, c28, c29, c30], _ =>
    obtain ⟨_, _, ⟨n0, _, d0, _⟩, ⟨_, _, ⟨n1, _, d1, _⟩, ⟨_, _, ⟨n2, _, d2, _⟩, ⟨_, _, ⟨n3, _, d3, _⟩, ⟨_, _, ⟨n4, _, d4, _⟩, ⟨_, _, ⟨n5, _, d5, _⟩, ⟨_, _, ⟨n6, _, d6, _⟩, ⟨_, _, ⟨n7, _, d7, _⟩, ⟨_, _, ⟨n8, _, d8, _⟩, ⟨_, _, ⟨n9, _, d9, _⟩, ⟨_, _, ⟨n10, _, d10, _⟩, ⟨_, _, ⟨n11, _, d11, _⟩,
      ⟨_, _, ⟨n12, d12, _⟩, ⟨_, _, ⟨n13, d13, _⟩, ⟨_, _, ⟨n14, _, d14, _⟩, ⟨_, _, ⟨n15, _, d15, _⟩, ⟨_, _, ⟨n16, m16, _, _, d16, _⟩, ⟨_, _, ⟨n17, m17, _, _, d17, _⟩, ⟨_, _, ⟨o1, o2, o3, o4, o5, _, _, _, _, d18, _⟩, ⟨_, _, h23, ⟨_, _, h24, ⟨_, _, h25, ⟨_, _, ⟨_, _, _, _, _, _, _, _, _, _, _, _, _, _, h29, h30, d26, _⟩, _⟩, _⟩, _⟩, _⟩, _⟩, _⟩, _⟩, _⟩, _⟩, _⟩, _⟩, _⟩, _⟩, _⟩, _⟩, _⟩, _⟩, _⟩, _⟩, _⟩, _⟩, _⟩, _⟩ := h
    have d0 : c0 = _ := d0
    have d1 : c1 = _ := d1
    have d2 : c2 = _ := d2
    have d3 : c3 = _ := d3
    have d4 : c4 = _ := d4
    have d5 : c5 = _ := d5
    have d6 : c6 = _ := d6
    have d7 : c7 = _ := d7
    have d8 : c8 = _ := d8
    have d9 : c9 = _ := d9
    have d10 : c10 = _ := d10
    have d11 : c11 = _ := d11
    have d12 : c12 = _ := d12
    have d13 : c13 = _ := d13
    have d14 : c14 = _ := d14
    have d15 : c15 = _ := d15
    have d16 : c16 = _ := d16
    have d17 : c17 = _ := d17
    obtain ⟨a23, b23, e23, h23⟩ : ∃ a n m, c23 = .slice a n m := lst_slice h23
    obtain ⟨a24, b24, e24, h24⟩ : ∃ a n m, c24 = .slice a n m := lst_slice h24
    obtain ⟨a25, b25, e25, h25⟩ : ∃ a n m, c25 = .slice a n m := lst_slice h25
    obtain ⟨a29, b29, e29, h29⟩ := lst_slice h29
    obtain ⟨a30, b30, e30, h30⟩ := lst_slice h30
    have d18 : Value.agg #[c18, c19, c20, c21, c22] = _ := d18
    have d26 : Value.agg #[c26, c27, c28, c29, c30] = _ := d26
    simp only [Value.agg.injEq, Array.mk.injEq, List.cons.injEq, and_true] at d18 d26
    obtain ⟨d18, d19, d20, d21, d22⟩ := d18
    obtain ⟨d26, d27, d28, d29, d30⟩ := d26
    rw [h29] at d29
    rw [h30] at d30
    rw [d0, d1, d2, d3, d4, d5, d6, d7, d8, d9, d10, d11, d12, d13, d14, d15, d16, d17, d18, d19, d20, d21, d22, h23, h24, h25, d26, d27, d28, d29, d30]
    exact ones_list (by intro v hv; simp only [List.mem_cons, List.not_mem_nil, or_false] at hv; rcases hv with rfl | rfl | rfl | rfl | rfl | rfl | rfl | rfl | rfl | rfl | rfl | rfl | rfl | rfl | rfl | rfl | rfl | rfl | rfl | rfl | rfl | rfl | rfl | rfl | rfl | rfl | rfl | rfl | rfl | rfl | rfl <;> rfl)
theorem MF_fair : ∀ f ∈ MF, Fair f.rel := (by intro f hf; unfold MF at hf; simp only [List.mem_cons, List.not_mem_nil, or_false] at hf; rcases hf with rfl | rfl | rfl | rfl | rfl | rfl | rfl | rfl | rfl | rfl | rfl | rfl | rfl | rfl | rfl | rfl | rfl | rfl | rfl | rfl | rfl | rfl | rfl <;> first | exact fair_int | exact fair_vr | exact fair_txt | exact fair_bit | exact fair_op | exact fair_img | exact fair_lst fair_mem | exact fair_lst fair_ent | exact fair_lst fair_seen | exact fair_lst fair_view)
theorem wpList_load_whole {ops : Array Oper} {rest : List Oper} {o : Oper} {a : Act} {w : World} {Q : Exit → Act → World → Prop} (hgd : o.guard = none) (ty : TypeId) (x : Operand) (ho : o.op = .load ty x) (g : Nat) (t : TypeId) (cs : Array Value)
    (hx : a.eval x = .pointer (some ⟨g, 0, none⟩)) (hw : Whole w g t cs) {fs : Array Field} (hu : Try.prog.underlying ty = some (.struct fs)) (hi : (Try.prog.info? ty).map (·.size) = some cs.size)
    (h : wpList Try.prog ops Q rest (a.put o.dst (.agg cs)) w) : wpList Try.prog ops Q (o :: rest) a w := by
  refine wpList_plain hgd fun K hK => ?_
  unfold Oper.wp
  rw [load_whole hw ho hx hu hi]
  exact hK _ _ h
/-- What Get answers. -/
def GotMsg (xs : List UInt8) (w : World) (e : Ending) (w' : World) : Prop := Below w.heap.size w w' ∧
  (((msgS xs).bad = false ∧ (msgS xs).at0 = xs.length ∧ ∃ cs, cs.size = 31 ∧ Row w.heap.size w' cs 0 MF xs ∧ e = .returned (.tuple #[.agg cs, .bool true])) ∨
    (((msgS xs).bad = true ∨ (msgS xs).at0 ≠ xs.length) ∧ e = .returned (.tuple #[.agg msgZero, .bool false])))

theorem results_row2 {fn : Func} {ty : TypeId} (h : fn.results = #[.cell 2 ty, .tmp 3]) (tmps : Array Value) (w : World) {g : Nat} {t : TypeId} {cs : Array Value} {fs : Array Field} (hp : tmps.getD 2 undef = .pointer (some ⟨g, 0, none⟩)) (hw : Whole w g t cs)
    (hu : Try.prog.underlying ty = some (.struct fs)) (hi : (Try.prog.info? ty).map (·.size) = some cs.size) : (results fn tmps).run Try.prog w = .ok (.tuple #[.agg cs, tmps.getD 3 undef]) w := by
  have hp' : tmps[2]?.getD undef = .pointer (some ⟨g, 0, none⟩) := by simpa using hp
  simp [results, h, hp', asAddr, run_loadVar_row w g t ty cs (0, 0) (.struct fs) hw hu rfl hi]

set_option maxRecDepth 200000 in
set_option maxHeartbeats 8000000 in
theorem getMsg_core (w : World) (v : Value) (xs : List UInt8) (hx : xs.length ≤ far) (hv : Bytes w v xs) : Calls Try.prog 36 #[v] w (GotMsg xs w) := by
  have hv0 := hv
  have ha1 : Apart v (w.heap.size + 1) := hv.apart (by omega)
  have ha2 : Apart v (w.heap.size + 1 + 1) := hv.apart (by omega)
  obtain ⟨a, cap, rfl, _, _, _⟩ := hv
  go_enter Try.func36, Try.ntmps36
  go_wp2_with fail
  have q0 : Whole (((w.alloc (.cells msgZero 64)).alloc (.cells #[.slice a xs.length cap, .int .i64 0, .bool false] 100)).alloc (.cells msgZero 64)) w.heap.size 64 msgZero := (((Whole.new w 64 msgZero).alloc _).alloc _)
  have b0 : Below w.heap.size w (((w.alloc (.cells msgZero 64)).alloc (.cells #[.slice a xs.length cap, .int .i64 0, .bool false] 100)).alloc (.cells msgZero 64)) := (((Below.refl _ _).alloc (Nat.le_refl _) _).alloc (by simp) _).alloc (by simp; omega) _
  have e0 : (((w.alloc (.cells msgZero 64)).alloc (.cells #[.slice a xs.length cap, .int .i64 0, .bool false] 100)).alloc (.cells msgZero 64)).heap.size = w.heap.size + 1 + 1 + 1 := by simp
  have n0 : w.heap.size + 1 + 1 + 1 ≤ (((w.alloc (.cells msgZero 64)).alloc (.cells #[.slice a xs.length cap, .int .i64 0, .bool false] 100)).alloc (.cells msgZero 64)).heap.size := by simp
  have st0 : MSt (((w.alloc (.cells msgZero 64)).alloc (.cells #[.slice a xs.length cap, .int .i64 0, .bool false] 100)).alloc (.cells msgZero 64)) (((w.alloc (.cells msgZero 64)).alloc (.cells #[.slice a xs.length cap, .int .i64 0, .bool false] 100)).alloc (.cells msgZero 64)) (w.heap.size + 1) (w.heap.size + 1 + 1) 64 (.slice a xs.length cap) ⟨0, false⟩ msgZero := MSt.three w msgZero msgZero 64 64 (.slice a xs.length cap) 0 (by unfold far; omega)
  have g0 := Sofar.nil xs (w.heap.size + 1 + 1 + 1) (((w.alloc (.cells msgZero 64)).alloc (.cells #[.slice a xs.length cap, .int .i64 0, .bool false] 100)).alloc (.cells msgZero 64)) 0 msgZero
  have z0 : (msgZero).size = 31 := rfl
  replace ha1 := Lib.hid ha1
  replace ha2 := Lib.hid ha2
  have HX := Lib.hid hx
  clear hx
  have k1 := st0.fresh (.cells #[.pointer (some ⟨w.heap.size + 1 + 1, 0, none⟩), .pointer (some ⟨w.heap.size + 1 + 1, 1, none⟩), .pointer (some ⟨w.heap.size + 1 + 1, 2, none⟩), .pointer (some ⟨w.heap.size + 1 + 1, 3, none⟩), .pointer (some ⟨w.heap.size + 1 + 1, 4, none⟩), .pointer (some ⟨w.heap.size + 1 + 1, 5, none⟩), .pointer (some ⟨w.heap.size + 1 + 1, 6, none⟩), .pointer (some ⟨w.heap.size + 1 + 1, 7, none⟩), .pointer (some ⟨w.heap.size + 1 + 1, 8, none⟩), .pointer (some ⟨w.heap.size + 1 + 1, 9, none⟩), .pointer (some ⟨w.heap.size + 1 + 1, 10, none⟩), .pointer (some ⟨w.heap.size + 1 + 1, 11, none⟩)] 89)
  have k2 := hv0.keep (b0.alloc (by omega) (.cells #[.pointer (some ⟨w.heap.size + 1 + 1, 0, none⟩), .pointer (some ⟨w.heap.size + 1 + 1, 1, none⟩), .pointer (some ⟨w.heap.size + 1 + 1, 2, none⟩), .pointer (some ⟨w.heap.size + 1 + 1, 3, none⟩), .pointer (some ⟨w.heap.size + 1 + 1, 4, none⟩), .pointer (some ⟨w.heap.size + 1 + 1, 5, none⟩), .pointer (some ⟨w.heap.size + 1 + 1, 6, none⟩), .pointer (some ⟨w.heap.size + 1 + 1, 7, none⟩), .pointer (some ⟨w.heap.size + 1 + 1, 8, none⟩), .pointer (some ⟨w.heap.size + 1 + 1, 9, none⟩), .pointer (some ⟨w.heap.size + 1 + 1, 10, none⟩), .pointer (some ⟨w.heap.size + 1 + 1, 11, none⟩)] 89))
  refine (@mInts_core _ _ _ (w.heap.size + 1 + 1 + 1) _ _ _ _ _ 0 12 k1 k2 (by omega) ha1.out ha2.out HX.out (by omega) (by omega) (by omega) ?_ ?_).mono ?_
  · exact ptrs_new (e0) _ _ _ 0 12 (by intro i hi; rcases i with _ | _ | _ | _ | _ | _ | _ | _ | _ | _ | _ | _ | i <;> first | omega | rfl)
  · show _ ≤ (msgZero).size; decide
  rintro e w1 ⟨rfl, L1, r1⟩
  clear k1 k2
  have b1 : Below w.heap.size w w1 := (b0.alloc (by omega) (.cells #[.pointer (some ⟨w.heap.size + 1 + 1, 0, none⟩), .pointer (some ⟨w.heap.size + 1 + 1, 1, none⟩), .pointer (some ⟨w.heap.size + 1 + 1, 2, none⟩), .pointer (some ⟨w.heap.size + 1 + 1, 3, none⟩), .pointer (some ⟨w.heap.size + 1 + 1, 4, none⟩), .pointer (some ⟨w.heap.size + 1 + 1, 5, none⟩), .pointer (some ⟨w.heap.size + 1 + 1, 6, none⟩), .pointer (some ⟨w.heap.size + 1 + 1, 7, none⟩), .pointer (some ⟨w.heap.size + 1 + 1, 8, none⟩), .pointer (some ⟨w.heap.size + 1 + 1, 9, none⟩), .pointer (some ⟨w.heap.size + 1 + 1, 10, none⟩), .pointer (some ⟨w.heap.size + 1 + 1, 11, none⟩)] 89)).trans (r1.st.turn.below (by omega) (by omega) (by simp; omega))
  have n1 : w.heap.size + 1 + 1 + 1 ≤ w1.heap.size := by have := r1.st.turn.size; simp at this; omega
  have q1 : Whole w1 w.heap.size 64 msgZero := (q0.alloc (.cells #[.pointer (some ⟨w.heap.size + 1 + 1, 0, none⟩), .pointer (some ⟨w.heap.size + 1 + 1, 1, none⟩), .pointer (some ⟨w.heap.size + 1 + 1, 2, none⟩), .pointer (some ⟨w.heap.size + 1 + 1, 3, none⟩), .pointer (some ⟨w.heap.size + 1 + 1, 4, none⟩), .pointer (some ⟨w.heap.size + 1 + 1, 5, none⟩), .pointer (some ⟨w.heap.size + 1 + 1, 6, none⟩), .pointer (some ⟨w.heap.size + 1 + 1, 7, none⟩), .pointer (some ⟨w.heap.size + 1 + 1, 8, none⟩), .pointer (some ⟨w.heap.size + 1 + 1, 9, none⟩), .pointer (some ⟨w.heap.size + 1 + 1, 10, none⟩), .pointer (some ⟨w.heap.size + 1 + 1, 11, none⟩)] 89)).turn r1.st.turn (by omega) (by omega)
  have g1 : Sofar xs (w.heap.size + 1 + 1 + 1) w1 0 (advs lInt xs 12 (⟨0, false⟩ : Sp)) (layI msgZero 0 L1) [f1 intV, f1 intV, f1 intV, f1 intV, f1 intV, f1 intV, f1 intV, f1 intV, f1 intV, f1 intV, f1 intV, f1 intV] := Sofar.ints (fs := []) (g0.keep (by intro f hf; cases hf) (below_above ((Below.refl _ _).alloc (Nat.le_refl _) (.cells #[.pointer (some ⟨w.heap.size + 1 + 1, 0, none⟩), .pointer (some ⟨w.heap.size + 1 + 1, 1, none⟩), .pointer (some ⟨w.heap.size + 1 + 1, 2, none⟩), .pointer (some ⟨w.heap.size + 1 + 1, 3, none⟩), .pointer (some ⟨w.heap.size + 1 + 1, 4, none⟩), .pointer (some ⟨w.heap.size + 1 + 1, 5, none⟩), .pointer (some ⟨w.heap.size + 1 + 1, 6, none⟩), .pointer (some ⟨w.heap.size + 1 + 1, 7, none⟩), .pointer (some ⟨w.heap.size + 1 + 1, 8, none⟩), .pointer (some ⟨w.heap.size + 1 + 1, 9, none⟩), .pointer (some ⟨w.heap.size + 1 + 1, 10, none⟩), .pointer (some ⟨w.heap.size + 1 + 1, 11, none⟩)] 89)))) (by intro f hf; cases hf) r1 (by omega) (by omega) (by show _ ≤ (msgZero).size; decide)
  have z1 : (layI msgZero 0 L1).size = 31 := by rw [layI_size]; rfl
  have st1 := r1.st.here
  clear r1
  generalize layI msgZero 0 L1 = cs1 at g1 z1 st1
  clear b0 n0 q0 st0 g0 z0
  replace b1 := Lib.hid b1; replace st1 := Lib.hid st1; replace q1 := Lib.hid q1; replace g1 := Lib.hid g1; replace n1 := Lib.hid n1; replace z1 := Lib.hid z1
  go_wp2_with fail
  replace b1 := b1.out; replace st1 := st1.out; replace q1 := q1.out; replace g1 := g1.out; replace n1 := n1.out; replace z1 := z1.out
  refine (readBit (gr := w.heap.size + 1) (ge := w.heap.size + 1 + 1) (t := 64) (xs := xs) 12 st1 (hv0.keep b1) (by omega) HX.out (by rw [z1]; decide)).mono ?_
  rintro e w2 ⟨rfl, cs2, r2⟩
  have b2 : Below w.heap.size w w2 := b1.trans (r2.st.turn.below (by omega) (by omega) (by omega))
  have n2 : w.heap.size + 1 + 1 + 1 ≤ w2.heap.size := by have := r2.st.turn.size; omega
  have q2 : Whole w2 w.heap.size 64 msgZero := q1.turn r2.st.turn (by omega) (by omega)
  have g2 : Sofar xs (w.heap.size + 1 + 1 + 1) w2 0 (adv lBit xs (advs lInt xs 12 (⟨0, false⟩ : Sp))) cs2 [f1 intV, f1 intV, f1 intV, f1 intV, f1 intV, f1 intV, f1 intV, f1 intV, f1 intV, f1 intV, f1 intV, f1 intV, f1 bitV] := Sofar.one (fs := [f1 intV, f1 intV, f1 intV, f1 intV, f1 intV, f1 intV, f1 intV, f1 intV, f1 intV, f1 intV, f1 intV, f1 intV]) g1 (by intro f hf; simp only [List.mem_cons, List.not_mem_nil, or_false] at hf; rcases hf with rfl | rfl | rfl | rfl | rfl | rfl | rfl | rfl | rfl | rfl | rfl | rfl <;> first | exact fair_int | exact fair_vr | exact fair_txt | exact fair_bit | exact fair_op | exact fair_img | exact fair_lst fair_mem | exact fair_lst fair_ent | exact fair_lst fair_seen | exact fair_lst fair_view) fair_bit r2 (by omega) (by omega) (by omega) (by rw [z1]; decide)
  have z2 : cs2.size = 31 := r2.size.trans z1
  have st2 := r2.st.here
  clear r2
  clear b1 n1 q1 st1 g1 z1
  replace b2 := Lib.hid b2; replace st2 := Lib.hid st2; replace q2 := Lib.hid q2; replace g2 := Lib.hid g2; replace n2 := Lib.hid n2; replace z2 := Lib.hid z2
  go_wp2_with fail
  replace b2 := b2.out; replace st2 := st2.out; replace q2 := q2.out; replace g2 := g2.out; replace n2 := n2.out; replace z2 := z2.out
  refine (readBit (gr := w.heap.size + 1) (ge := w.heap.size + 1 + 1) (t := 64) (xs := xs) 13 st2 (hv0.keep b2) (by omega) HX.out (by rw [z2]; decide)).mono ?_
  rintro e w3 ⟨rfl, cs3, r3⟩
  have b3 : Below w.heap.size w w3 := b2.trans (r3.st.turn.below (by omega) (by omega) (by omega))
  have n3 : w.heap.size + 1 + 1 + 1 ≤ w3.heap.size := by have := r3.st.turn.size; omega
  have q3 : Whole w3 w.heap.size 64 msgZero := q2.turn r3.st.turn (by omega) (by omega)
  have g3 : Sofar xs (w.heap.size + 1 + 1 + 1) w3 0 (adv lBit xs (adv lBit xs (advs lInt xs 12 (⟨0, false⟩ : Sp)))) cs3 [f1 intV, f1 intV, f1 intV, f1 intV, f1 intV, f1 intV, f1 intV, f1 intV, f1 intV, f1 intV, f1 intV, f1 intV, f1 bitV, f1 bitV] := Sofar.one (fs := [f1 intV, f1 intV, f1 intV, f1 intV, f1 intV, f1 intV, f1 intV, f1 intV, f1 intV, f1 intV, f1 intV, f1 intV, f1 bitV]) g2 (by intro f hf; simp only [List.mem_cons, List.not_mem_nil, or_false] at hf; rcases hf with rfl | rfl | rfl | rfl | rfl | rfl | rfl | rfl | rfl | rfl | rfl | rfl | rfl <;> first | exact fair_int | exact fair_vr | exact fair_txt | exact fair_bit | exact fair_op | exact fair_img | exact fair_lst fair_mem | exact fair_lst fair_ent | exact fair_lst fair_seen | exact fair_lst fair_view) fair_bit r3 (by omega) (by omega) (by omega) (by rw [z2]; decide)
  have z3 : cs3.size = 31 := r3.size.trans z2
  have st3 := r3.st.here
  clear r3
  clear b2 n2 q2 st2 g2 z2
  replace b3 := Lib.hid b3; replace st3 := Lib.hid st3; replace q3 := Lib.hid q3; replace g3 := Lib.hid g3; replace n3 := Lib.hid n3; replace z3 := Lib.hid z3
  go_wp2_with fail
  replace b3 := b3.out; replace st3 := st3.out; replace q3 := q3.out; replace g3 := g3.out; replace n3 := n3.out; replace z3 := z3.out
  refine (readTxt (gr := w.heap.size + 1) (ge := w.heap.size + 1 + 1) (t := 64) (xs := xs) 14 st3 (hv0.keep b3) (by omega) HX.out (by rw [z3]; decide)).mono ?_
  rintro e w4 ⟨rfl, cs4, r4⟩
  have b4 : Below w.heap.size w w4 := b3.trans (r4.st.turn.below (by omega) (by omega) (by omega))
  have n4 : w.heap.size + 1 + 1 + 1 ≤ w4.heap.size := by have := r4.st.turn.size; omega
  have q4 : Whole w4 w.heap.size 64 msgZero := q3.turn r4.st.turn (by omega) (by omega)
  have g4 : Sofar xs (w.heap.size + 1 + 1 + 1) w4 0 (adv lTxt xs (adv lBit xs (adv lBit xs (advs lInt xs 12 (⟨0, false⟩ : Sp))))) cs4 [f1 intV, f1 intV, f1 intV, f1 intV, f1 intV, f1 intV, f1 intV, f1 intV, f1 intV, f1 intV, f1 intV, f1 intV, f1 bitV, f1 bitV, f1 txtV] := Sofar.one (fs := [f1 intV, f1 intV, f1 intV, f1 intV, f1 intV, f1 intV, f1 intV, f1 intV, f1 intV, f1 intV, f1 intV, f1 intV, f1 bitV, f1 bitV]) g3 (by intro f hf; simp only [List.mem_cons, List.not_mem_nil, or_false] at hf; rcases hf with rfl | rfl | rfl | rfl | rfl | rfl | rfl | rfl | rfl | rfl | rfl | rfl | rfl | rfl <;> first | exact fair_int | exact fair_vr | exact fair_txt | exact fair_bit | exact fair_op | exact fair_img | exact fair_lst fair_mem | exact fair_lst fair_ent | exact fair_lst fair_seen | exact fair_lst fair_view) fair_txt r4 (by omega) (by omega) (by omega) (by rw [z3]; decide)
  have z4 : cs4.size = 31 := r4.size.trans z3
  have st4 := r4.st.here
  clear r4
  clear b3 n3 q3 st3 g3 z3
  replace b4 := Lib.hid b4; replace st4 := Lib.hid st4; replace q4 := Lib.hid q4; replace g4 := Lib.hid g4; replace n4 := Lib.hid n4; replace z4 := Lib.hid z4
  go_wp2_with fail
  replace b4 := b4.out; replace st4 := st4.out; replace q4 := q4.out; replace g4 := g4.out; replace n4 := n4.out; replace z4 := z4.out
  refine (readTxt (gr := w.heap.size + 1) (ge := w.heap.size + 1 + 1) (t := 64) (xs := xs) 15 st4 (hv0.keep b4) (by omega) HX.out (by rw [z4]; decide)).mono ?_
  rintro e w5 ⟨rfl, cs5, r5⟩
  have b5 : Below w.heap.size w w5 := b4.trans (r5.st.turn.below (by omega) (by omega) (by omega))
  have n5 : w.heap.size + 1 + 1 + 1 ≤ w5.heap.size := by have := r5.st.turn.size; omega
  have q5 : Whole w5 w.heap.size 64 msgZero := q4.turn r5.st.turn (by omega) (by omega)
  have g5 : Sofar xs (w.heap.size + 1 + 1 + 1) w5 0 (adv lTxt xs (adv lTxt xs (adv lBit xs (adv lBit xs (advs lInt xs 12 (⟨0, false⟩ : Sp)))))) cs5 [f1 intV, f1 intV, f1 intV, f1 intV, f1 intV, f1 intV, f1 intV, f1 intV, f1 intV, f1 intV, f1 intV, f1 intV, f1 bitV, f1 bitV, f1 txtV, f1 txtV] := Sofar.one (fs := [f1 intV, f1 intV, f1 intV, f1 intV, f1 intV, f1 intV, f1 intV, f1 intV, f1 intV, f1 intV, f1 intV, f1 intV, f1 bitV, f1 bitV, f1 txtV]) g4 (by intro f hf; simp only [List.mem_cons, List.not_mem_nil, or_false] at hf; rcases hf with rfl | rfl | rfl | rfl | rfl | rfl | rfl | rfl | rfl | rfl | rfl | rfl | rfl | rfl | rfl <;> first | exact fair_int | exact fair_vr | exact fair_txt | exact fair_bit | exact fair_op | exact fair_img | exact fair_lst fair_mem | exact fair_lst fair_ent | exact fair_lst fair_seen | exact fair_lst fair_view) fair_txt r5 (by omega) (by omega) (by omega) (by rw [z4]; decide)
  have z5 : cs5.size = 31 := r5.size.trans z4
  have st5 := r5.st.here
  clear r5
  clear b4 n4 q4 st4 g4 z4
  replace b5 := Lib.hid b5; replace st5 := Lib.hid st5; replace q5 := Lib.hid q5; replace g5 := Lib.hid g5; replace n5 := Lib.hid n5; replace z5 := Lib.hid z5
  go_wp2_with fail
  replace b5 := b5.out; replace st5 := st5.out; replace q5 := q5.out; replace g5 := g5.out; replace n5 := n5.out; replace z5 := z5.out
  refine (readVer (gr := w.heap.size + 1) (ge := w.heap.size + 1 + 1) (t := 64) (xs := xs) 16 st5 (hv0.keep b5) (by omega) HX.out (by rw [z5]; decide)).mono ?_
  rintro e w6 ⟨rfl, cs6, r6⟩
  have b6 : Below w.heap.size w w6 := b5.trans (r6.st.turn.below (by omega) (by omega) (by omega))
  have n6 : w.heap.size + 1 + 1 + 1 ≤ w6.heap.size := by have := r6.st.turn.size; omega
  have q6 : Whole w6 w.heap.size 64 msgZero := q5.turn r6.st.turn (by omega) (by omega)
  have g6 : Sofar xs (w.heap.size + 1 + 1 + 1) w6 0 (adv lVer xs (adv lTxt xs (adv lTxt xs (adv lBit xs (adv lBit xs (advs lInt xs 12 (⟨0, false⟩ : Sp))))))) cs6 [f1 intV, f1 intV, f1 intV, f1 intV, f1 intV, f1 intV, f1 intV, f1 intV, f1 intV, f1 intV, f1 intV, f1 intV, f1 bitV, f1 bitV, f1 txtV, f1 txtV, f1 vrV] := Sofar.one (fs := [f1 intV, f1 intV, f1 intV, f1 intV, f1 intV, f1 intV, f1 intV, f1 intV, f1 intV, f1 intV, f1 intV, f1 intV, f1 bitV, f1 bitV, f1 txtV, f1 txtV]) g5 (by intro f hf; simp only [List.mem_cons, List.not_mem_nil, or_false] at hf; rcases hf with rfl | rfl | rfl | rfl | rfl | rfl | rfl | rfl | rfl | rfl | rfl | rfl | rfl | rfl | rfl | rfl <;> first | exact fair_int | exact fair_vr | exact fair_txt | exact fair_bit | exact fair_op | exact fair_img | exact fair_lst fair_mem | exact fair_lst fair_ent | exact fair_lst fair_seen | exact fair_lst fair_view) fair_vr r6 (by omega) (by omega) (by omega) (by rw [z5]; decide)
  have z6 : cs6.size = 31 := r6.size.trans z5
  have st6 := r6.st.here
  clear r6
  clear b5 n5 q5 st5 g5 z5
  replace b6 := Lib.hid b6; replace st6 := Lib.hid st6; replace q6 := Lib.hid q6; replace g6 := Lib.hid g6; replace n6 := Lib.hid n6; replace z6 := Lib.hid z6
  go_wp2_with fail
  replace b6 := b6.out; replace st6 := st6.out; replace q6 := q6.out; replace g6 := g6.out; replace n6 := n6.out; replace z6 := z6.out
  refine (readVer (gr := w.heap.size + 1) (ge := w.heap.size + 1 + 1) (t := 64) (xs := xs) 17 st6 (hv0.keep b6) (by omega) HX.out (by rw [z6]; decide)).mono ?_
  rintro e w7 ⟨rfl, cs7, r7⟩
  have b7 : Below w.heap.size w w7 := b6.trans (r7.st.turn.below (by omega) (by omega) (by omega))
  have n7 : w.heap.size + 1 + 1 + 1 ≤ w7.heap.size := by have := r7.st.turn.size; omega
  have q7 : Whole w7 w.heap.size 64 msgZero := q6.turn r7.st.turn (by omega) (by omega)
  have g7 : Sofar xs (w.heap.size + 1 + 1 + 1) w7 0 (adv lVer xs (adv lVer xs (adv lTxt xs (adv lTxt xs (adv lBit xs (adv lBit xs (advs lInt xs 12 (⟨0, false⟩ : Sp)))))))) cs7 [f1 intV, f1 intV, f1 intV, f1 intV, f1 intV, f1 intV, f1 intV, f1 intV, f1 intV, f1 intV, f1 intV, f1 intV, f1 bitV, f1 bitV, f1 txtV, f1 txtV, f1 vrV, f1 vrV] := Sofar.one (fs := [f1 intV, f1 intV, f1 intV, f1 intV, f1 intV, f1 intV, f1 intV, f1 intV, f1 intV, f1 intV, f1 intV, f1 intV, f1 bitV, f1 bitV, f1 txtV, f1 txtV, f1 vrV]) g6 (by intro f hf; simp only [List.mem_cons, List.not_mem_nil, or_false] at hf; rcases hf with rfl | rfl | rfl | rfl | rfl | rfl | rfl | rfl | rfl | rfl | rfl | rfl | rfl | rfl | rfl | rfl | rfl <;> first | exact fair_int | exact fair_vr | exact fair_txt | exact fair_bit | exact fair_op | exact fair_img | exact fair_lst fair_mem | exact fair_lst fair_ent | exact fair_lst fair_seen | exact fair_lst fair_view) fair_vr r7 (by omega) (by omega) (by omega) (by rw [z6]; decide)
  have z7 : cs7.size = 31 := r7.size.trans z6
  have st7 := r7.st.here
  clear r7
  clear b6 n6 q6 st6 g6 z6
  replace b7 := Lib.hid b7; replace st7 := Lib.hid st7; replace q7 := Lib.hid q7; replace g7 := Lib.hid g7; replace n7 := Lib.hid n7; replace z7 := Lib.hid z7
  go_wp2_with fail
  replace b7 := b7.out; replace st7 := st7.out; replace q7 := q7.out; replace g7 := g7.out; replace n7 := n7.out; replace z7 := z7.out
  refine (readOp (gr := w.heap.size + 1) (ge := w.heap.size + 1 + 1) (t := 64) (xs := xs) 18 st7 (hv0.keep b7) (by omega) HX.out (by rw [z7]; decide)).mono ?_
  rintro e w8 ⟨rfl, cs8, r8⟩
  have b8 : Below w.heap.size w w8 := b7.trans (r8.st.turn.below (by omega) (by omega) (by omega))
  have n8 : w.heap.size + 1 + 1 + 1 ≤ w8.heap.size := by have := r8.st.turn.size; omega
  have q8 : Whole w8 w.heap.size 64 msgZero := q7.turn r8.st.turn (by omega) (by omega)
  have g8 : Sofar xs (w.heap.size + 1 + 1 + 1) w8 0 (adv lOp xs (adv lVer xs (adv lVer xs (adv lTxt xs (adv lTxt xs (adv lBit xs (adv lBit xs (advs lInt xs 12 (⟨0, false⟩ : Sp))))))))) cs8 [f1 intV, f1 intV, f1 intV, f1 intV, f1 intV, f1 intV, f1 intV, f1 intV, f1 intV, f1 intV, f1 intV, f1 intV, f1 bitV, f1 bitV, f1 txtV, f1 txtV, f1 vrV, f1 vrV, fS 5 opV] := Sofar.struct (fs := [f1 intV, f1 intV, f1 intV, f1 intV, f1 intV, f1 intV, f1 intV, f1 intV, f1 intV, f1 intV, f1 intV, f1 intV, f1 bitV, f1 bitV, f1 txtV, f1 txtV, f1 vrV, f1 vrV]) g7 (by intro f hf; simp only [List.mem_cons, List.not_mem_nil, or_false] at hf; rcases hf with rfl | rfl | rfl | rfl | rfl | rfl | rfl | rfl | rfl | rfl | rfl | rfl | rfl | rfl | rfl | rfl | rfl | rfl <;> first | exact fair_int | exact fair_vr | exact fair_txt | exact fair_bit | exact fair_op | exact fair_img | exact fair_lst fair_mem | exact fair_lst fair_ent | exact fair_lst fair_seen | exact fair_lst fair_view) fair_op (by rintro _ _ Vs _ ⟨_, _, _, _, _, _, _, _, _, h, _⟩; simp only [Value.agg.injEq] at h; rw [h]; rfl) r8 (by omega) (by omega) (by omega) (by rw [z7]; decide)
  have z8 : cs8.size = 31 := r8.size.trans z7
  have st8 := r8.st.here
  clear r8
  clear b7 n7 q7 st7 g7 z7
  replace b8 := Lib.hid b8; replace st8 := Lib.hid st8; replace q8 := Lib.hid q8; replace g8 := Lib.hid g8; replace n8 := Lib.hid n8; replace z8 := Lib.hid z8
  go_wp2_with fail
  replace b8 := b8.out; replace st8 := st8.out; replace q8 := q8.out; replace g8 := g8.out; replace n8 := n8.out; replace z8 := z8.out
  refine (many_ent get_ent (gr := w.heap.size + 1) (ge := w.heap.size + 1 + 1) (t := 64) (xs := xs) 23 st8 (hv0.keep b8) (by omega) HX.out (by rw [z8]; decide)).mono ?_
  rintro e w9 ⟨rfl, cs9, r9⟩
  have b9 : Below w.heap.size w w9 := b8.trans (r9.st.turn.below (by omega) (by omega) (by omega))
  have n9 : w.heap.size + 1 + 1 + 1 ≤ w9.heap.size := by have := r9.st.turn.size; omega
  have q9 : Whole w9 w.heap.size 64 msgZero := q8.turn r9.st.turn (by omega) (by omega)
  have g9 : Sofar xs (w.heap.size + 1 + 1 + 1) w9 0 (adv (lItems lEnt) xs (adv lOp xs (adv lVer xs (adv lVer xs (adv lTxt xs (adv lTxt xs (adv lBit xs (adv lBit xs (advs lInt xs 12 (⟨0, false⟩ : Sp)))))))))) cs9 [f1 intV, f1 intV, f1 intV, f1 intV, f1 intV, f1 intV, f1 intV, f1 intV, f1 intV, f1 intV, f1 intV, f1 intV, f1 bitV, f1 bitV, f1 txtV, f1 txtV, f1 vrV, f1 vrV, fS 5 opV, f1 (lstV 48 11 entV)] := Sofar.one (fs := [f1 intV, f1 intV, f1 intV, f1 intV, f1 intV, f1 intV, f1 intV, f1 intV, f1 intV, f1 intV, f1 intV, f1 intV, f1 bitV, f1 bitV, f1 txtV, f1 txtV, f1 vrV, f1 vrV, fS 5 opV]) g8 (by intro f hf; simp only [List.mem_cons, List.not_mem_nil, or_false] at hf; rcases hf with rfl | rfl | rfl | rfl | rfl | rfl | rfl | rfl | rfl | rfl | rfl | rfl | rfl | rfl | rfl | rfl | rfl | rfl | rfl <;> first | exact fair_int | exact fair_vr | exact fair_txt | exact fair_bit | exact fair_op | exact fair_img | exact fair_lst fair_mem | exact fair_lst fair_ent | exact fair_lst fair_seen | exact fair_lst fair_view) (fair_lst fair_ent) r9 (by omega) (by omega) (by omega) (by rw [z8]; decide)
  have z9 : cs9.size = 31 := r9.size.trans z8
  have st9 := r9.st.here
  clear r9
  clear b8 n8 q8 st8 g8 z8
  replace b9 := Lib.hid b9; replace st9 := Lib.hid st9; replace q9 := Lib.hid q9; replace g9 := Lib.hid g9; replace n9 := Lib.hid n9; replace z9 := Lib.hid z9
  go_wp2_with fail
  replace b9 := b9.out; replace st9 := st9.out; replace q9 := q9.out; replace g9 := g9.out; replace n9 := n9.out; replace z9 := z9.out
  refine (many_mem get_mem (gr := w.heap.size + 1) (ge := w.heap.size + 1 + 1) (t := 64) (xs := xs) 24 st9 (hv0.keep b9) (by omega) HX.out (by rw [z9]; decide)).mono ?_
  rintro e w10 ⟨rfl, cs10, r10⟩
  have b10 : Below w.heap.size w w10 := b9.trans (r10.st.turn.below (by omega) (by omega) (by omega))
  have n10 : w.heap.size + 1 + 1 + 1 ≤ w10.heap.size := by have := r10.st.turn.size; omega
  have q10 : Whole w10 w.heap.size 64 msgZero := q9.turn r10.st.turn (by omega) (by omega)
  have g10 : Sofar xs (w.heap.size + 1 + 1 + 1) w10 0 (adv (lItems lMem) xs (adv (lItems lEnt) xs (adv lOp xs (adv lVer xs (adv lVer xs (adv lTxt xs (adv lTxt xs (adv lBit xs (adv lBit xs (advs lInt xs 12 (⟨0, false⟩ : Sp))))))))))) cs10 [f1 intV, f1 intV, f1 intV, f1 intV, f1 intV, f1 intV, f1 intV, f1 intV, f1 intV, f1 intV, f1 intV, f1 intV, f1 bitV, f1 bitV, f1 txtV, f1 txtV, f1 vrV, f1 vrV, fS 5 opV, f1 (lstV 48 11 entV), f1 (lstV 110 2 memV)] := Sofar.one (fs := [f1 intV, f1 intV, f1 intV, f1 intV, f1 intV, f1 intV, f1 intV, f1 intV, f1 intV, f1 intV, f1 intV, f1 intV, f1 bitV, f1 bitV, f1 txtV, f1 txtV, f1 vrV, f1 vrV, fS 5 opV, f1 (lstV 48 11 entV)]) g9 (by intro f hf; simp only [List.mem_cons, List.not_mem_nil, or_false] at hf; rcases hf with rfl | rfl | rfl | rfl | rfl | rfl | rfl | rfl | rfl | rfl | rfl | rfl | rfl | rfl | rfl | rfl | rfl | rfl | rfl | rfl <;> first | exact fair_int | exact fair_vr | exact fair_txt | exact fair_bit | exact fair_op | exact fair_img | exact fair_lst fair_mem | exact fair_lst fair_ent | exact fair_lst fair_seen | exact fair_lst fair_view) (fair_lst fair_mem) r10 (by omega) (by omega) (by omega) (by rw [z9]; decide)
  have z10 : cs10.size = 31 := r10.size.trans z9
  have st10 := r10.st.here
  clear r10
  clear b9 n9 q9 st9 g9 z9
  replace b10 := Lib.hid b10; replace st10 := Lib.hid st10; replace q10 := Lib.hid q10; replace g10 := Lib.hid g10; replace n10 := Lib.hid n10; replace z10 := Lib.hid z10
  go_wp2_with fail
  replace b10 := b10.out; replace st10 := st10.out; replace q10 := q10.out; replace g10 := g10.out; replace n10 := n10.out; replace z10 := z10.out
  refine (many_view get_view (gr := w.heap.size + 1) (ge := w.heap.size + 1 + 1) (t := 64) (xs := xs) 25 st10 (hv0.keep b10) (by omega) HX.out (by rw [z10]; decide)).mono ?_
  rintro e w11 ⟨rfl, cs11, r11⟩
  have b11 : Below w.heap.size w w11 := b10.trans (r11.st.turn.below (by omega) (by omega) (by omega))
  have n11 : w.heap.size + 1 + 1 + 1 ≤ w11.heap.size := by have := r11.st.turn.size; omega
  have q11 : Whole w11 w.heap.size 64 msgZero := q10.turn r11.st.turn (by omega) (by omega)
  have g11 : Sofar xs (w.heap.size + 1 + 1 + 1) w11 0 (adv (lItems lView) xs (adv (lItems lMem) xs (adv (lItems lEnt) xs (adv lOp xs (adv lVer xs (adv lVer xs (adv lTxt xs (adv lTxt xs (adv lBit xs (adv lBit xs (advs lInt xs 12 (⟨0, false⟩ : Sp)))))))))))) cs11 [f1 intV, f1 intV, f1 intV, f1 intV, f1 intV, f1 intV, f1 intV, f1 intV, f1 intV, f1 intV, f1 intV, f1 intV, f1 bitV, f1 bitV, f1 txtV, f1 txtV, f1 vrV, f1 vrV, fS 5 opV, f1 (lstV 48 11 entV), f1 (lstV 110 2 memV), f1 (lstV 115 5 viewV)] := Sofar.one (fs := [f1 intV, f1 intV, f1 intV, f1 intV, f1 intV, f1 intV, f1 intV, f1 intV, f1 intV, f1 intV, f1 intV, f1 intV, f1 bitV, f1 bitV, f1 txtV, f1 txtV, f1 vrV, f1 vrV, fS 5 opV, f1 (lstV 48 11 entV), f1 (lstV 110 2 memV)]) g10 (by intro f hf; simp only [List.mem_cons, List.not_mem_nil, or_false] at hf; rcases hf with rfl | rfl | rfl | rfl | rfl | rfl | rfl | rfl | rfl | rfl | rfl | rfl | rfl | rfl | rfl | rfl | rfl | rfl | rfl | rfl | rfl <;> first | exact fair_int | exact fair_vr | exact fair_txt | exact fair_bit | exact fair_op | exact fair_img | exact fair_lst fair_mem | exact fair_lst fair_ent | exact fair_lst fair_seen | exact fair_lst fair_view) (fair_lst fair_view) r11 (by omega) (by omega) (by omega) (by rw [z10]; decide)
  have z11 : cs11.size = 31 := r11.size.trans z10
  have st11 := r11.st.here
  clear r11
  clear b10 n10 q10 st10 g10 z10
  replace b11 := Lib.hid b11; replace st11 := Lib.hid st11; replace q11 := Lib.hid q11; replace g11 := Lib.hid g11; replace n11 := Lib.hid n11; replace z11 := Lib.hid z11
  go_wp2_with fail
  replace b11 := b11.out; replace st11 := st11.out; replace q11 := q11.out; replace g11 := g11.out; replace n11 := n11.out; replace z11 := z11.out
  refine (readImg get_img (gr := w.heap.size + 1) (ge := w.heap.size + 1 + 1) (t := 64) (xs := xs) 26 st11 (hv0.keep b11) (by omega) HX.out (by rw [z11]; decide)).mono ?_
  rintro e w12 ⟨rfl, cs12, r12⟩
  have b12 : Below w.heap.size w w12 := b11.trans (r12.st.turn.below (by omega) (by omega) (by omega))
  have n12 : w.heap.size + 1 + 1 + 1 ≤ w12.heap.size := by have := r12.st.turn.size; omega
  have q12 : Whole w12 w.heap.size 64 msgZero := q11.turn r12.st.turn (by omega) (by omega)
  have g12 : Sofar xs (w.heap.size + 1 + 1 + 1) w12 0 (adv lImg xs (adv (lItems lView) xs (adv (lItems lMem) xs (adv (lItems lEnt) xs (adv lOp xs (adv lVer xs (adv lVer xs (adv lTxt xs (adv lTxt xs (adv lBit xs (adv lBit xs (advs lInt xs 12 (⟨0, false⟩ : Sp))))))))))))) cs12 [f1 intV, f1 intV, f1 intV, f1 intV, f1 intV, f1 intV, f1 intV, f1 intV, f1 intV, f1 intV, f1 intV, f1 intV, f1 bitV, f1 bitV, f1 txtV, f1 txtV, f1 vrV, f1 vrV, fS 5 opV, f1 (lstV 48 11 entV), f1 (lstV 110 2 memV), f1 (lstV 115 5 viewV), fS 5 imgV] := Sofar.struct (fs := [f1 intV, f1 intV, f1 intV, f1 intV, f1 intV, f1 intV, f1 intV, f1 intV, f1 intV, f1 intV, f1 intV, f1 intV, f1 bitV, f1 bitV, f1 txtV, f1 txtV, f1 vrV, f1 vrV, fS 5 opV, f1 (lstV 48 11 entV), f1 (lstV 110 2 memV), f1 (lstV 115 5 viewV)]) g11 (by intro f hf; simp only [List.mem_cons, List.not_mem_nil, or_false] at hf; rcases hf with rfl | rfl | rfl | rfl | rfl | rfl | rfl | rfl | rfl | rfl | rfl | rfl | rfl | rfl | rfl | rfl | rfl | rfl | rfl | rfl | rfl | rfl <;> first | exact fair_int | exact fair_vr | exact fair_txt | exact fair_bit | exact fair_op | exact fair_img | exact fair_lst fair_mem | exact fair_lst fair_ent | exact fair_lst fair_seen | exact fair_lst fair_view) fair_img (by rintro _ _ Vs _ ⟨_, _, _, _, _, _, _, _, _, _, _, _, _, _, _, _, h, _⟩; simp only [Value.agg.injEq] at h; rw [h]; rfl) r12 (by omega) (by omega) (by omega) (by rw [z11]; decide)
  have z12 : cs12.size = 31 := r12.size.trans z11
  have st12 := r12.st.here
  clear r12
  clear b11 n11 q11 st11 g11 z11
  replace st12 : MSt w12 w12 (w.heap.size + 1) (w.heap.size + 1 + 1) 64 (.slice a xs.length cap) (msgS xs) cs12 := st12
  replace g12 : Sofar xs (w.heap.size + 1 + 1 + 1) w12 0 (msgS xs) cs12 MF := g12
  unfold GotMsg
  generalize hS : msgS xs = S at st12 g12
  replace hS := Lib.hid hS
  have c1 := st12.rd.cell 1
  have c2 := st12.rd.cell 2
  simp only [List.getElem?_toArray, List.getElem?_cons_succ, List.getElem?_cons_zero] at c1 c2
  replace b12 := Lib.hid b12; replace st12 := Lib.hid st12; replace q12 := Lib.hid q12; replace g12 := Lib.hid g12; replace n12 := Lib.hid n12; replace z12 := Lib.hid z12
  cases hbad : S.bad with
  | true =>
    rw [hbad] at c2
    have HB := Lib.hid hbad
    clear hbad c1
    go_wp2_with (refine wpList_store_at rfl 64 (.tmp 2) (.tmp 70) rfl w.heap.size 0 msgZero rfl rfl 64 msgZero q12.out sizeE64 (by simp) msgZero_one ?_)
    refine bodyPost_ret (results_row2 rfl _ _ rfl (q12.out.row (cs' := putC msgZero 0 (msgZero).toList)) Try.underlying64 sizeE64) rfl ?_
    exact ⟨below_row b12.out (Nat.le_refl _) _, .inr ⟨.inl (by rw [hS.out]; exact HB.out), rfl⟩⟩
  | false =>
    rw [hbad] at c2
    have HB := Lib.hid hbad
    clear hbad
    by_cases hl : S.at0 = xs.length
    · have hl1 : ((S.at0 : Int) != (xs.length : Int)) = false := by simp [hl]
      have HL := Lib.hid hl
      clear hl
      have hrow : ∃ E, Row (w.heap.size + 1 + 1 + 1) w12 cs12 0 MF E ∧ Went xs 0 S.at0 E := g12.out HB.out
      have h1 : Ones cs12 := by obtain ⟨E, h, _⟩ := hrow; exact row_ones h z12.out
      have HR := Lib.hid hrow
      have H1 := Lib.hid h1
      clear hrow h1
      go_wp2_with (first
        | (refine wpList_load_whole rfl 64 (.tmp 5) rfl (w.heap.size + 1 + 1) 64 cs12 rfl st12.out.en Try.underlying64 (by rw [z12.out]; exact sizeE64) ?_)
        | (refine wpList_store_at rfl 64 (.tmp 2) (.tmp 71) rfl w.heap.size 0 cs12 rfl rfl 64 msgZero q12.out (by rw [z12.out]; exact sizeE64) (by rw [z12.out]; decide) H1.out.all ?_))
      have hp : putC msgZero 0 cs12.toList = cs12 := by rw [putC_all (by rw [Array.length_toList, z12.out]; rfl)]
      rw [hp]
      refine bodyPost_ret (results_row2 rfl _ _ rfl (q12.out.row (cs' := cs12)) Try.underlying64 (by rw [z12.out]; exact sizeE64)) rfl ?_
      refine ⟨below_row b12.out (Nat.le_refl _) _, .inl ⟨by rw [hS.out]; exact HB.out, by rw [hS.out]; exact HL.out, cs12, z12.out, ?_, rfl⟩⟩
      obtain ⟨E, hrow, hwent⟩ := HR.out
      have e : xs = E := by
        have h := hwent.piece.1
        rw [HL.out] at h
        simpa using h
      rw [← e] at hrow
      exact Row.down (B := w.heap.size + 1 + 1 + 1) (B' := w.heap.size) (by omega) MF_fair (Row.keep (w' := w12.setRow w.heap.size cs12) (fun k hk _ => setRow_other w12 w.heap.size k cs12 (by omega)) MF_fair hrow)
    · have hl1 : ((S.at0 : Int) != (xs.length : Int)) = true := by simp; omega
      have HL := Lib.hid hl
      clear hl
      go_wp2_with (refine wpList_store_at rfl 64 (.tmp 2) (.tmp 70) rfl w.heap.size 0 msgZero rfl rfl 64 msgZero q12.out sizeE64 (by simp) msgZero_one ?_)
      refine bodyPost_ret (results_row2 rfl _ _ rfl (q12.out.row (cs' := putC msgZero 0 (msgZero).toList)) Try.underlying64 sizeE64) rfl ?_
      exact ⟨below_row b12.out (Nat.le_refl _) _, .inr ⟨.inr (by rw [hS.out]; exact HL.out), rfl⟩⟩
end Go.Proofs.Ytjpaljiielemgaa
