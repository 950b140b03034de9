/- msg's getMember, getSeen, getView. -/
import Derived.Test.YtjpaljiielemgaaMSeq
namespace Go.Proofs.Ytjpaljiielemgaa
open Go.RowKit
attribute [local go_sem] store_cplx

theorem sizeE110 : (Try.prog.info? 110).map (·.size) = some 2 := by kernel_rfl
theorem sizeE127 : (Try.prog.info? 127).map (·.size) = some 7 := by kernel_rfl
theorem sizeE115 : (Try.prog.info? 115).map (·.size) = some 5 := by kernel_rfl
theorem walk_store0 {ops : Array Oper} {Q : Exit → Act → World → Prop} {S : World → Prop} {i : Nat} {r : Tr} {a : Act} {w : World} {o : Oper} {x y : Operand} {ty t : TypeId} {g : Nat} {old cs : Array Value} (ho : ops[i]? = some o) (hgd : o.guard = none) (hop : o.op = .store ty x y) (hd : o.dst = none)
    (hx : a.eval x = .pointer (some ⟨g, 0, none⟩)) (hy : a.eval y = .agg cs) (hw : Whole w g t old) (hi : (Try.prog.info? ty).map (·.size) = some cs.size) (hold : old.size = cs.size) (h1 : cs.all (·.oneCell') = true)
    (hS : S (w.setRow g cs)) (h : Walk Try.prog ops Q S r a (w.setRow g cs)) : Walk Try.prog ops Q S (.go i r) a w := by
  refine tree_go ho ?_
  refine wpList_plain hgd fun K hK => wp_store_row ty x y hop g cs hx hy t old hw hi hold h1 (hK _ _ ?_)
  rw [hd]
  exact ⟨hS, h⟩
/-- The reader's block, and that of what is read, are there, both new. -/
theorem MSt.three (w : World) (c0 cs : Array Value) (t t' : TypeId) (v : Value) (at0 : Nat) (hat : at0 ≤ far) :
    MSt (((w.alloc (.cells c0 t')).alloc (.cells #[v, .int .i64 at0, .bool false] 100)).alloc (.cells cs t)) (((w.alloc (.cells c0 t')).alloc (.cells #[v, .int .i64 at0, .bool false] 100)).alloc (.cells cs t)) (w.heap.size + 1) (w.heap.size + 1 + 1) t v ⟨at0, false⟩ cs := by
  refine ⟨?_, ?_, Turn.refl _ _ _, hat⟩
  · have h := (Whole.new (w.alloc (.cells c0 t')) 100 #[v, .int .i64 at0, .bool false]).alloc (.cells cs t)
    rw [World.size_alloc] at h
    exact h
  · have h := Whole.new ((w.alloc (.cells c0 t')).alloc (.cells #[v, .int .i64 at0, .bool false] 100)) t cs
    rw [World.size_alloc, World.size_alloc] at h
    exact h
theorem len_good {X : List UInt8 → Nat → Sp} {xs : List UInt8} {at0 : Nat} {S : Sp} (h : X xs at0 = (X (xs.drop at0) 0).on at0) (hS : X xs at0 = S) (hb : S.bad = false) : (X (xs.drop at0) 0).len = some (S.at0 - at0) ∧ at0 + (S.at0 - at0) = S.at0 := by
  rw [hS] at h
  subst h
  have hb : (X (xs.drop at0) 0).bad = false := hb
  simp [Sp.len, Sp.on, hb]
theorem len_bad {X : List UInt8 → Nat → Sp} {xs : List UInt8} {at0 : Nat} {S : Sp} (h : X xs at0 = (X (xs.drop at0) 0).on at0) (hS : X xs at0 = S) (hb : S.bad = true) : (X (xs.drop at0) 0).len = none := by
  rw [hS] at h
  subst h
  have hb : (X (xs.drop at0) 0).bad = true := hb
  simp [Sp.len, hb]

theorem row_mem {B : Nat} {w : World} {cs : Array Value} {E : List UInt8} (h : Row B w cs 0 [f1 intV, f1 intV] E) (hs : cs.size = 2) : memV B w (.agg cs) E := by
  obtain ⟨l⟩ := cs
  match l, hs with
  | [c0, c1], _ =>
    obtain ⟨E1, _, ⟨a, ha, e1, rfl⟩, ⟨E2, _, ⟨b, hb, e2, rfl⟩, rfl, rfl⟩, rfl⟩ := h
    have e1 : c0 = _ := e1
    have e2 : c1 = _ := e2
    subst e1 e2
    exact ⟨a, b, ha, hb, rfl, by simp⟩
theorem kinds_mem {cs : Array Value} {z : Int} (h : Kinds [kInt, kInt] cs) : memZ (.agg cs) z := by
  obtain ⟨l⟩ := cs
  match l, h.1 with
  | [c0, c1], _ =>
    obtain ⟨a, e1⟩ := h.2 0 (by simp) (by simp)
    obtain ⟨b, e2⟩ := h.2 1 (by simp) (by simp)
    have e1 : c0 = _ := e1
    have e2 : c1 = _ := e2
    subst e1 e2
    exact ⟨a, b, rfl⟩
set_option maxRecDepth 100000 in
set_option maxHeartbeats 4000000 in
theorem get_mem : Getter 64 lMem memV memZ := by
  intro w v xs at0 hat hx hv
  have hv0 := hv
  have ha1 : Apart v (w.heap.size + 1) := hv.apart (by omega)
  have ha2 : Apart v (w.heap.size + 1 + 1) := hv.apart (by omega)
  obtain ⟨a, cap, rfl, _, _, _⟩ := hv
  go_enter Try.func64, Try.ntmps64
  go_wp2_with fail
  have q0 : Whole (((w.alloc (.cells (#[.int .i64 0, .int .i64 0] : Array Value) 110)).alloc (.cells #[.slice a xs.length cap, .int .i64 at0, .bool false] 100)).alloc (.cells (#[.int .i64 0, .int .i64 0] : Array Value) 110)) w.heap.size 110 (#[.int .i64 0, .int .i64 0] : Array Value) := (((Whole.new w 110 (#[.int .i64 0, .int .i64 0] : Array Value)).alloc _).alloc _)
  have b0 : Below w.heap.size w (((w.alloc (.cells (#[.int .i64 0, .int .i64 0] : Array Value) 110)).alloc (.cells #[.slice a xs.length cap, .int .i64 at0, .bool false] 100)).alloc (.cells (#[.int .i64 0, .int .i64 0] : Array Value) 110)) := (((Below.refl _ _).alloc (Nat.le_refl _) _).alloc (by simp) _).alloc (by simp; omega) _
  have e0 : (((w.alloc (.cells (#[.int .i64 0, .int .i64 0] : Array Value) 110)).alloc (.cells #[.slice a xs.length cap, .int .i64 at0, .bool false] 100)).alloc (.cells (#[.int .i64 0, .int .i64 0] : Array Value) 110)).heap.size = w.heap.size + 1 + 1 + 1 := by simp
  have n0 : w.heap.size + 1 + 1 + 1 ≤ (((w.alloc (.cells (#[.int .i64 0, .int .i64 0] : Array Value) 110)).alloc (.cells #[.slice a xs.length cap, .int .i64 at0, .bool false] 100)).alloc (.cells (#[.int .i64 0, .int .i64 0] : Array Value) 110)).heap.size := by simp
  have st0 := MSt.three w (#[.int .i64 0, .int .i64 0] : Array Value) (#[.int .i64 0, .int .i64 0] : Array Value) 110 110 (.slice a xs.length cap) at0 hat
  have g0 := Sofar.nil xs (w.heap.size + 1 + 1 + 1) (((w.alloc (.cells (#[.int .i64 0, .int .i64 0] : Array Value) 110)).alloc (.cells #[.slice a xs.length cap, .int .i64 at0, .bool false] 100)).alloc (.cells (#[.int .i64 0, .int .i64 0] : Array Value) 110)) at0 (#[.int .i64 0, .int .i64 0] : Array Value)
  have z0 : ((#[.int .i64 0, .int .i64 0] : Array Value)).size = 2 := rfl
  have kd0 : Kinds [kInt, kInt] (#[.int .i64 0, .int .i64 0] : Array Value) := by
    refine ⟨rfl, fun i hi hi' => ?_⟩
    simp only [List.size_toArray, List.length_cons, List.length_nil, Nat.reduceAdd] at hi
    rcases i with _ | _ | i <;> first | omega | exact ⟨_, rfl⟩ | exact ⟨_, _, rfl⟩ | exact ⟨_, _, _, rfl⟩
  replace ha1 := Lib.hid ha1
  replace ha2 := Lib.hid ha2
  have HX := Lib.hid hx
  clear hx
  have k1 := st0.fresh (.cells #[.pointer (some ⟨w.heap.size + 1 + 1, 0, none⟩), .pointer (some ⟨w.heap.size + 1 + 1, 1, none⟩)] 89)
  have k2 := hv0.keep (b0.alloc (by omega) (.cells #[.pointer (some ⟨w.heap.size + 1 + 1, 0, none⟩), .pointer (some ⟨w.heap.size + 1 + 1, 1, none⟩)] 89))
  refine (@mInts_core _ _ _ (w.heap.size + 1 + 1 + 1) _ _ _ _ _ 0 2 k1 k2 (by omega) ha1.out ha2.out HX.out (by omega) (by omega) (by omega) ?_ ?_).mono ?_
  · exact ptrs_new (e0) _ _ _ 0 2 (by intro i hi; rcases i with _ | _ | i <;> first | omega | rfl)
  · show _ ≤ ((#[.int .i64 0, .int .i64 0] : Array Value)).size; decide
  rintro e w1 ⟨rfl, L1, r1⟩
  clear k1 k2
  have b1 : Below w.heap.size w w1 := (b0.alloc (by omega) (.cells #[.pointer (some ⟨w.heap.size + 1 + 1, 0, none⟩), .pointer (some ⟨w.heap.size + 1 + 1, 1, none⟩)] 89)).trans (r1.st.turn.below (by omega) (by omega) (by simp; omega))
  have n1 : w.heap.size + 1 + 1 + 1 ≤ w1.heap.size := by have := r1.st.turn.size; simp at this; omega
  have q1 : Whole w1 w.heap.size 110 (#[.int .i64 0, .int .i64 0] : Array Value) := (q0.alloc (.cells #[.pointer (some ⟨w.heap.size + 1 + 1, 0, none⟩), .pointer (some ⟨w.heap.size + 1 + 1, 1, none⟩)] 89)).turn r1.st.turn (by omega) (by omega)
  have g1 : Sofar xs (w.heap.size + 1 + 1 + 1) w1 at0 (advs lInt xs 2 (⟨at0, false⟩ : Sp)) (layI (#[.int .i64 0, .int .i64 0] : Array Value) 0 L1) [f1 intV, f1 intV] := Sofar.ints (fs := []) (g0.keep (by intro f hf; cases hf) (below_above ((Below.refl _ _).alloc (Nat.le_refl _) (.cells #[.pointer (some ⟨w.heap.size + 1 + 1, 0, none⟩), .pointer (some ⟨w.heap.size + 1 + 1, 1, none⟩)] 89)))) (by intro f hf; cases hf) r1 (by omega) (by omega) (by show _ ≤ ((#[.int .i64 0, .int .i64 0] : Array Value)).size; decide)
  have z1 : (layI (#[.int .i64 0, .int .i64 0] : Array Value) 0 L1).size = 2 := by rw [layI_size]; rfl
  have kd1 := kd0.ints r1 (by intro i K hi hk; rcases i with _ | _ | i <;> first | omega | (injection hk with hk; exact hk.symm))
  have st1 := r1.st.here
  clear r1
  generalize layI (#[.int .i64 0, .int .i64 0] : Array Value) 0 L1 = cs1 at g1 z1 st1 kd1
  clear b0 n0 q0 st0 g0 z0 kd0
  replace st1 : MSt w1 w1 (w.heap.size + 1) (w.heap.size + 1 + 1) 110 (.slice a xs.length cap) (memS xs at0) cs1 := st1
  replace g1 : Sofar xs (w.heap.size + 1 + 1 + 1) w1 at0 (memS xs at0) cs1 [f1 intV, f1 intV] := g1
  generalize hS : memS xs at0 = S at st1 g1
  have c1 := st1.rd.cell 1
  have c2 := st1.rd.cell 2
  simp only [List.getElem?_toArray, List.getElem?_cons_succ, List.getElem?_cons_zero] at c1 c2
  have h1 := kd1.ones (by intro K hK V hV; simp only [List.mem_cons, List.not_mem_nil, or_false] at hK; rcases hK with rfl | rfl <;> first | exact kInt.one hV | exact kTxt.one hV | exact kBit.one hV | exact kVer.one hV | exact kSl.one hV)
  replace h1 := Lib.hid h1; replace hS := Lib.hid hS
  replace b1 := Lib.hid b1; replace st1 := Lib.hid st1; replace q1 := Lib.hid q1; replace g1 := Lib.hid g1; replace n1 := Lib.hid n1; replace z1 := Lib.hid z1; replace kd1 := Lib.hid kd1
  go_wp2_with fail
  refine wp_region_tree (fun w' => w'.cell? ⟨w.heap.size + 1, 1, none⟩ = some (.int .i64 S.at0) ∧ w'.cell? ⟨w.heap.size + 1, 2, none⟩ = some (.bool S.bad) ∧ Whole w' (w.heap.size + 1 + 1) 110 cs1) (Tr.take 0 (Tr.take 1 (Tr.take 2 (Tr.take 3 (Tr.take 4 (Tr.take 5 (Tr.take 6 (Tr.take 7 (Tr.take 8 (Tr.take 9 (Tr.go 10 (Tr.take 11 (Tr.take 12 Tr.done))))))))))))) (by kernel_rfl) (by kernel_rfl) (fun _ _ d _ _ h => by cases d <;> exact h) ⟨c1, c2, st1.out.en⟩ ?_
  apply walk_take rfl rfl
  · rintro w' ⟨c1, c2, c3⟩
    exact load_whole c3 rfl rfl Try.underlying110 (by rw [z1.out]; exact sizeE110)
  simp only [List.getElem_toArray, List.getElem_cons_zero, Act.put, List.setIfInBounds_toArray, List.set_cons_zero, List.set_cons_succ]
  iterate 9
    apply walk_take rfl rfl
    · rintro w' ⟨c1, c2, c3⟩
      go_simp
      with_reducible rfl
    simp only [List.getElem_toArray, List.getElem_cons_succ, List.getElem_cons_zero, Act.put, List.setIfInBounds_toArray, List.set_cons_zero, List.set_cons_succ]
  refine walk_store0 rfl rfl rfl rfl rfl rfl q1.out (by rw [z1.out]; exact sizeE110) (by rw [z1.out]; rfl) h1.out.all ⟨?_, ?_, ?_⟩ ?_
  · rw [cell_setRow_other _ _ _ _ (by simp only; omega)]; exact c1
  · rw [cell_setRow_other _ _ _ _ (by simp only; omega)]; exact c2
  · exact st1.out.en.row_far (by omega)
  iterate 2
    apply walk_take rfl rfl
    · rintro w' ⟨c1, c2, c3⟩
      go_simp
      with_reducible rfl
    simp only [List.getElem_toArray, List.getElem_cons_succ, List.getElem_cons_zero, Act.put, List.setIfInBounds_toArray, List.set_cons_zero, List.set_cons_succ]
  refine walk_end ?_
  go_wp2
  refine bodyPost_ret (results_row3 rfl _ _ rfl (q1.out.row (cs' := cs1)) Try.underlying110 (by rw [z1.out]; exact sizeE110)) rfl ?_
  have hb := below_row b1.out.drew (Nat.le_refl _) cs1
  refine ⟨hb, ?_⟩
  have hfit := st1.out.near
  cases hbad : S.bad with
  | false =>
    obtain ⟨E, hrow, hwent⟩ := g1.out hbad
    obtain ⟨e1, e2⟩ := len_good (memS_on xs at0) hS.out hbad
    refine .inl ⟨S.at0 - at0, _, E, e1, by omega, by rw [e2]; exact hwent, row_mem (Row.down (B := w.heap.size + 1 + 1 + 1) (B' := w.heap.size) (by omega) (by intro f hf; simp only [List.mem_cons, List.not_mem_nil, or_false] at hf; rcases hf with rfl | rfl <;> first | exact fair_int | exact fair_vr | exact fair_txt | exact fair_bit | exact fair_op | exact fair_img | exact fair_lst fair_mem | exact fair_lst fair_ent | exact fair_lst fair_seen | exact fair_lst fair_view) (Row.keep (w' := w1.drew.setRow w.heap.size cs1) (fun k hk _ => setRow_other w1.drew w.heap.size k cs1 (by omega)) (by intro f hf; simp only [List.mem_cons, List.not_mem_nil, or_false] at hf; rcases hf with rfl | rfl <;> first | exact fair_int | exact fair_vr | exact fair_txt | exact fair_bit | exact fair_op | exact fair_img | exact fair_lst fair_mem | exact fair_lst fair_ent | exact fair_lst fair_seen | exact fair_lst fair_view) hrow)) z1.out, ?_⟩
    have e3 : ((at0 : Int) + ((S.at0 - at0 : Nat) : Int)) = (S.at0 : Int) := by omega
    rw [e3]; rfl
  | true => exact .inr ⟨len_bad (memS_on xs at0) hS.out hbad, _, _, kinds_mem kd1.out, rfl⟩

theorem row_seen {B : Nat} {w : World} {cs : Array Value} {E : List UInt8} (h : Row B w cs 0 [f1 intV, f1 intV, f1 vrV, f1 intV, f1 intV, f1 txtV, f1 bitV] E) (hs : cs.size = 7) : seenV B w (.agg cs) E := by
  obtain ⟨l⟩ := cs
  match l, hs with
  | [c0, c1, c2, c3, c4, c5, c6], _ =>
    obtain ⟨_, _, ⟨a, ha, e1, rfl⟩, ⟨_, _, ⟨b, hb, e2, rfl⟩, ⟨_, _, ⟨x, y, hx, hy, e3, rfl⟩, ⟨_, _, ⟨k, hk, e4, rfl⟩, ⟨_, _, ⟨c, hc, e5, rfl⟩, ⟨_, _, ⟨s, hs, e6, rfl⟩, ⟨_, _, ⟨t, e7, rfl⟩, rfl, rfl⟩, rfl⟩, rfl⟩, rfl⟩, rfl⟩, rfl⟩, rfl⟩ := h
    have e1 : c0 = _ := e1
    have e2 : c1 = _ := e2
    have e3 : c2 = _ := e3
    have e4 : c3 = _ := e4
    have e5 : c4 = _ := e5
    have e6 : c5 = _ := e6
    have e7 : c6 = _ := e7
    subst e1 e2 e3 e4 e5 e6 e7
    exact ⟨a, b, x, y, k, c, s, t, ha, hb, hx, hy, hk, hc, hs, rfl, by simp⟩
theorem kinds_seen {cs : Array Value} {z : Int} (h : Kinds [kInt, kInt, kVer, kInt, kInt, kTxt, kBit] cs) : seenZ (.agg cs) z := by
  obtain ⟨l⟩ := cs
  match l, h.1 with
  | [c0, c1, c2, c3, c4, c5, c6], _ =>
    obtain ⟨a, e1⟩ := h.2 0 (by simp) (by simp)
    obtain ⟨b, e2⟩ := h.2 1 (by simp) (by simp)
    obtain ⟨x, y, e3⟩ := h.2 2 (by simp) (by simp)
    obtain ⟨k, e4⟩ := h.2 3 (by simp) (by simp)
    obtain ⟨c, e5⟩ := h.2 4 (by simp) (by simp)
    obtain ⟨s, e6⟩ := h.2 5 (by simp) (by simp)
    obtain ⟨t, e7⟩ := h.2 6 (by simp) (by simp)
    have e1 : c0 = _ := e1
    have e2 : c1 = _ := e2
    have e3 : c2 = _ := e3
    have e4 : c3 = _ := e4
    have e5 : c4 = _ := e5
    have e6 : c5 = _ := e6
    have e7 : c6 = _ := e7
    subst e1 e2 e3 e4 e5 e6 e7
    exact ⟨a, b, x, y, k, c, s, t, rfl⟩
set_option maxRecDepth 100000 in
set_option maxHeartbeats 4000000 in
theorem get_seen : Getter 73 lSeen seenV seenZ := by
  intro w v xs at0 hat hx hv
  have hv0 := hv
  have ha1 : Apart v (w.heap.size + 1) := hv.apart (by omega)
  have ha2 : Apart v (w.heap.size + 1 + 1) := hv.apart (by omega)
  obtain ⟨a, cap, rfl, _, _, _⟩ := hv
  go_enter Try.func73, Try.ntmps73
  go_wp2_with fail
  have q0 : Whole (((w.alloc (.cells (#[.int .i64 0, .int .i64 0, .complex .f64 0 0, .int .i64 0, .int .i64 0, .string ⟨#[]⟩, .bool false] : Array Value) 127)).alloc (.cells #[.slice a xs.length cap, .int .i64 at0, .bool false] 100)).alloc (.cells (#[.int .i64 0, .int .i64 0, .complex .f64 0 0, .int .i64 0, .int .i64 0, .string ⟨#[]⟩, .bool false] : Array Value) 127)) w.heap.size 127 (#[.int .i64 0, .int .i64 0, .complex .f64 0 0, .int .i64 0, .int .i64 0, .string ⟨#[]⟩, .bool false] : Array Value) := (((Whole.new w 127 (#[.int .i64 0, .int .i64 0, .complex .f64 0 0, .int .i64 0, .int .i64 0, .string ⟨#[]⟩, .bool false] : Array Value)).alloc _).alloc _)
  have b0 : Below w.heap.size w (((w.alloc (.cells (#[.int .i64 0, .int .i64 0, .complex .f64 0 0, .int .i64 0, .int .i64 0, .string ⟨#[]⟩, .bool false] : Array Value) 127)).alloc (.cells #[.slice a xs.length cap, .int .i64 at0, .bool false] 100)).alloc (.cells (#[.int .i64 0, .int .i64 0, .complex .f64 0 0, .int .i64 0, .int .i64 0, .string ⟨#[]⟩, .bool false] : Array Value) 127)) := (((Below.refl _ _).alloc (Nat.le_refl _) _).alloc (by simp) _).alloc (by simp; omega) _
  have e0 : (((w.alloc (.cells (#[.int .i64 0, .int .i64 0, .complex .f64 0 0, .int .i64 0, .int .i64 0, .string ⟨#[]⟩, .bool false] : Array Value) 127)).alloc (.cells #[.slice a xs.length cap, .int .i64 at0, .bool false] 100)).alloc (.cells (#[.int .i64 0, .int .i64 0, .complex .f64 0 0, .int .i64 0, .int .i64 0, .string ⟨#[]⟩, .bool false] : Array Value) 127)).heap.size = w.heap.size + 1 + 1 + 1 := by simp
  have n0 : w.heap.size + 1 + 1 + 1 ≤ (((w.alloc (.cells (#[.int .i64 0, .int .i64 0, .complex .f64 0 0, .int .i64 0, .int .i64 0, .string ⟨#[]⟩, .bool false] : Array Value) 127)).alloc (.cells #[.slice a xs.length cap, .int .i64 at0, .bool false] 100)).alloc (.cells (#[.int .i64 0, .int .i64 0, .complex .f64 0 0, .int .i64 0, .int .i64 0, .string ⟨#[]⟩, .bool false] : Array Value) 127)).heap.size := by simp
  have st0 := MSt.three w (#[.int .i64 0, .int .i64 0, .complex .f64 0 0, .int .i64 0, .int .i64 0, .string ⟨#[]⟩, .bool false] : Array Value) (#[.int .i64 0, .int .i64 0, .complex .f64 0 0, .int .i64 0, .int .i64 0, .string ⟨#[]⟩, .bool false] : Array Value) 127 127 (.slice a xs.length cap) at0 hat
  have g0 := Sofar.nil xs (w.heap.size + 1 + 1 + 1) (((w.alloc (.cells (#[.int .i64 0, .int .i64 0, .complex .f64 0 0, .int .i64 0, .int .i64 0, .string ⟨#[]⟩, .bool false] : Array Value) 127)).alloc (.cells #[.slice a xs.length cap, .int .i64 at0, .bool false] 100)).alloc (.cells (#[.int .i64 0, .int .i64 0, .complex .f64 0 0, .int .i64 0, .int .i64 0, .string ⟨#[]⟩, .bool false] : Array Value) 127)) at0 (#[.int .i64 0, .int .i64 0, .complex .f64 0 0, .int .i64 0, .int .i64 0, .string ⟨#[]⟩, .bool false] : Array Value)
  have z0 : ((#[.int .i64 0, .int .i64 0, .complex .f64 0 0, .int .i64 0, .int .i64 0, .string ⟨#[]⟩, .bool false] : Array Value)).size = 7 := rfl
  have kd0 : Kinds [kInt, kInt, kVer, kInt, kInt, kTxt, kBit] (#[.int .i64 0, .int .i64 0, .complex .f64 0 0, .int .i64 0, .int .i64 0, .string ⟨#[]⟩, .bool false] : Array Value) := by
    refine ⟨rfl, fun i hi hi' => ?_⟩
    simp only [List.size_toArray, List.length_cons, List.length_nil, Nat.reduceAdd] at hi
    rcases i with _ | _ | _ | _ | _ | _ | _ | i <;> first | omega | exact ⟨_, rfl⟩ | exact ⟨_, _, rfl⟩ | exact ⟨_, _, _, rfl⟩
  replace ha1 := Lib.hid ha1
  replace ha2 := Lib.hid ha2
  have HX := Lib.hid hx
  clear hx
  have k1 := st0.fresh (.cells #[.pointer (some ⟨w.heap.size + 1 + 1, 0, none⟩), .pointer (some ⟨w.heap.size + 1 + 1, 1, none⟩)] 89)
  have k2 := hv0.keep (b0.alloc (by omega) (.cells #[.pointer (some ⟨w.heap.size + 1 + 1, 0, none⟩), .pointer (some ⟨w.heap.size + 1 + 1, 1, none⟩)] 89))
  refine (@mInts_core _ _ _ (w.heap.size + 1 + 1 + 1) _ _ _ _ _ 0 2 k1 k2 (by omega) ha1.out ha2.out HX.out (by omega) (by omega) (by omega) ?_ ?_).mono ?_
  · exact ptrs_new (e0) _ _ _ 0 2 (by intro i hi; rcases i with _ | _ | i <;> first | omega | rfl)
  · show _ ≤ ((#[.int .i64 0, .int .i64 0, .complex .f64 0 0, .int .i64 0, .int .i64 0, .string ⟨#[]⟩, .bool false] : Array Value)).size; decide
  rintro e w1 ⟨rfl, L1, r1⟩
  clear k1 k2
  have b1 : Below w.heap.size w w1 := (b0.alloc (by omega) (.cells #[.pointer (some ⟨w.heap.size + 1 + 1, 0, none⟩), .pointer (some ⟨w.heap.size + 1 + 1, 1, none⟩)] 89)).trans (r1.st.turn.below (by omega) (by omega) (by simp; omega))
  have n1 : w.heap.size + 1 + 1 + 1 ≤ w1.heap.size := by have := r1.st.turn.size; simp at this; omega
  have q1 : Whole w1 w.heap.size 127 (#[.int .i64 0, .int .i64 0, .complex .f64 0 0, .int .i64 0, .int .i64 0, .string ⟨#[]⟩, .bool false] : Array Value) := (q0.alloc (.cells #[.pointer (some ⟨w.heap.size + 1 + 1, 0, none⟩), .pointer (some ⟨w.heap.size + 1 + 1, 1, none⟩)] 89)).turn r1.st.turn (by omega) (by omega)
  have g1 : Sofar xs (w.heap.size + 1 + 1 + 1) w1 at0 (advs lInt xs 2 (⟨at0, false⟩ : Sp)) (layI (#[.int .i64 0, .int .i64 0, .complex .f64 0 0, .int .i64 0, .int .i64 0, .string ⟨#[]⟩, .bool false] : Array Value) 0 L1) [f1 intV, f1 intV] := Sofar.ints (fs := []) (g0.keep (by intro f hf; cases hf) (below_above ((Below.refl _ _).alloc (Nat.le_refl _) (.cells #[.pointer (some ⟨w.heap.size + 1 + 1, 0, none⟩), .pointer (some ⟨w.heap.size + 1 + 1, 1, none⟩)] 89)))) (by intro f hf; cases hf) r1 (by omega) (by omega) (by show _ ≤ ((#[.int .i64 0, .int .i64 0, .complex .f64 0 0, .int .i64 0, .int .i64 0, .string ⟨#[]⟩, .bool false] : Array Value)).size; decide)
  have z1 : (layI (#[.int .i64 0, .int .i64 0, .complex .f64 0 0, .int .i64 0, .int .i64 0, .string ⟨#[]⟩, .bool false] : Array Value) 0 L1).size = 7 := by rw [layI_size]; rfl
  have kd1 := kd0.ints r1 (by intro i K hi hk; rcases i with _ | _ | i <;> first | omega | (injection hk with hk; exact hk.symm))
  have st1 := r1.st.here
  clear r1
  generalize layI (#[.int .i64 0, .int .i64 0, .complex .f64 0 0, .int .i64 0, .int .i64 0, .string ⟨#[]⟩, .bool false] : Array Value) 0 L1 = cs1 at g1 z1 st1 kd1
  clear b0 n0 q0 st0 g0 z0 kd0
  replace b1 := Lib.hid b1; replace st1 := Lib.hid st1; replace q1 := Lib.hid q1; replace g1 := Lib.hid g1; replace n1 := Lib.hid n1; replace z1 := Lib.hid z1; replace kd1 := Lib.hid kd1
  go_wp2_with fail
  replace b1 := b1.out; replace st1 := st1.out; replace q1 := q1.out; replace g1 := g1.out; replace n1 := n1.out; replace z1 := z1.out; replace kd1 := kd1.out
  refine (readVer (gr := w.heap.size + 1) (ge := w.heap.size + 1 + 1) (t := 127) (xs := xs) 2 st1 (hv0.keep b1) (by omega) HX.out (by rw [z1]; decide)).mono ?_
  rintro e w2 ⟨rfl, cs2, r2⟩
  have b2 : Below w.heap.size w w2 := b1.trans (r2.st.turn.below (by omega) (by omega) (by omega))
  have n2 : w.heap.size + 1 + 1 + 1 ≤ w2.heap.size := by have := r2.st.turn.size; omega
  have q2 : Whole w2 w.heap.size 127 (#[.int .i64 0, .int .i64 0, .complex .f64 0 0, .int .i64 0, .int .i64 0, .string ⟨#[]⟩, .bool false] : Array Value) := q1.turn r2.st.turn (by omega) (by omega)
  have g2 : Sofar xs (w.heap.size + 1 + 1 + 1) w2 at0 (adv lVer xs (advs lInt xs 2 (⟨at0, false⟩ : Sp))) cs2 [f1 intV, f1 intV, f1 vrV] := Sofar.one (fs := [f1 intV, f1 intV]) g1 (by intro f hf; simp only [List.mem_cons, List.not_mem_nil, or_false] at hf; rcases hf with rfl | rfl <;> first | exact fair_int | exact fair_vr | exact fair_txt | exact fair_bit | exact fair_op | exact fair_img | exact fair_lst fair_mem | exact fair_lst fair_ent | exact fair_lst fair_seen | exact fair_lst fair_view) fair_vr r2 (by omega) (by omega) (by omega) (by rw [z1]; decide)
  have z2 : cs2.size = 7 := r2.size.trans z1
  have kd2 := kd1.one r2 (by intro K hk; injection hk with hk; rw [← hk]; exact kind_vr)
  have st2 := r2.st.here
  clear r2
  clear b1 n1 q1 st1 g1 z1 kd1
  replace b2 := Lib.hid b2; replace st2 := Lib.hid st2; replace q2 := Lib.hid q2; replace g2 := Lib.hid g2; replace n2 := Lib.hid n2; replace z2 := Lib.hid z2; replace kd2 := Lib.hid kd2
  go_wp2_with fail
  replace b2 := b2.out; replace st2 := st2.out; replace q2 := q2.out; replace g2 := g2.out; replace n2 := n2.out; replace z2 := z2.out; replace kd2 := kd2.out
  have k1 := st2.fresh (.cells #[.pointer (some ⟨w.heap.size + 1 + 1, 3, none⟩), .pointer (some ⟨w.heap.size + 1 + 1, 4, none⟩)] 89)
  have k2 := hv0.keep (b2.alloc (by omega) (.cells #[.pointer (some ⟨w.heap.size + 1 + 1, 3, none⟩), .pointer (some ⟨w.heap.size + 1 + 1, 4, none⟩)] 89))
  refine (@mInts_core _ _ _ (w2.heap.size) _ _ _ _ _ 3 2 k1 k2 (by omega) ha1.out ha2.out HX.out (by omega) (by omega) (by omega) ?_ ?_).mono ?_
  · exact ptrs_new (rfl) _ _ _ 3 2 (by intro i hi; rcases i with _ | _ | i <;> first | omega | rfl)
  · rw [z2]; decide
  rintro e w3 ⟨rfl, L3, r3⟩
  clear k1 k2
  have b3 : Below w.heap.size w w3 := (b2.alloc (by omega) (.cells #[.pointer (some ⟨w.heap.size + 1 + 1, 3, none⟩), .pointer (some ⟨w.heap.size + 1 + 1, 4, none⟩)] 89)).trans (r3.st.turn.below (by omega) (by omega) (by simp; omega))
  have n3 : w.heap.size + 1 + 1 + 1 ≤ w3.heap.size := by have := r3.st.turn.size; simp at this; omega
  have q3 : Whole w3 w.heap.size 127 (#[.int .i64 0, .int .i64 0, .complex .f64 0 0, .int .i64 0, .int .i64 0, .string ⟨#[]⟩, .bool false] : Array Value) := (q2.alloc (.cells #[.pointer (some ⟨w.heap.size + 1 + 1, 3, none⟩), .pointer (some ⟨w.heap.size + 1 + 1, 4, none⟩)] 89)).turn r3.st.turn (by omega) (by omega)
  have g3 : Sofar xs (w.heap.size + 1 + 1 + 1) w3 at0 (advs lInt xs 2 (adv lVer xs (advs lInt xs 2 (⟨at0, false⟩ : Sp)))) (layI cs2 3 L3) [f1 intV, f1 intV, f1 vrV, f1 intV, f1 intV] := Sofar.ints (fs := [f1 intV, f1 intV, f1 vrV]) (g2.keep (by intro f hf; simp only [List.mem_cons, List.not_mem_nil, or_false] at hf; rcases hf with rfl | rfl | rfl <;> first | exact fair_int | exact fair_vr | exact fair_txt | exact fair_bit | exact fair_op | exact fair_img | exact fair_lst fair_mem | exact fair_lst fair_ent | exact fair_lst fair_seen | exact fair_lst fair_view) (below_above ((Below.refl _ _).alloc (Nat.le_refl _) (.cells #[.pointer (some ⟨w.heap.size + 1 + 1, 3, none⟩), .pointer (some ⟨w.heap.size + 1 + 1, 4, none⟩)] 89)))) (by intro f hf; simp only [List.mem_cons, List.not_mem_nil, or_false] at hf; rcases hf with rfl | rfl | rfl <;> first | exact fair_int | exact fair_vr | exact fair_txt | exact fair_bit | exact fair_op | exact fair_img | exact fair_lst fair_mem | exact fair_lst fair_ent | exact fair_lst fair_seen | exact fair_lst fair_view) r3 (by omega) (by omega) (by rw [z2]; decide)
  have z3 : (layI cs2 3 L3).size = 7 := by rw [layI_size]; exact z2
  have kd3 := kd2.ints r3 (by intro i K hi hk; rcases i with _ | _ | i <;> first | omega | (injection hk with hk; exact hk.symm))
  have st3 := r3.st.here
  clear r3
  generalize layI cs2 3 L3 = cs3 at g3 z3 st3 kd3
  clear b2 n2 q2 st2 g2 z2 kd2
  replace b3 := Lib.hid b3; replace st3 := Lib.hid st3; replace q3 := Lib.hid q3; replace g3 := Lib.hid g3; replace n3 := Lib.hid n3; replace z3 := Lib.hid z3; replace kd3 := Lib.hid kd3
  go_wp2_with fail
  replace b3 := b3.out; replace st3 := st3.out; replace q3 := q3.out; replace g3 := g3.out; replace n3 := n3.out; replace z3 := z3.out; replace kd3 := kd3.out
  refine (readTxt (gr := w.heap.size + 1) (ge := w.heap.size + 1 + 1) (t := 127) (xs := xs) 5 st3 (hv0.keep b3) (by omega) HX.out (by rw [z3]; decide)).mono ?_
  rintro e w4 ⟨rfl, cs4, r4⟩
  have b4 : Below w.heap.size w w4 := b3.trans (r4.st.turn.below (by omega) (by omega) (by omega))
  have n4 : w.heap.size + 1 + 1 + 1 ≤ w4.heap.size := by have := r4.st.turn.size; omega
  have q4 : Whole w4 w.heap.size 127 (#[.int .i64 0, .int .i64 0, .complex .f64 0 0, .int .i64 0, .int .i64 0, .string ⟨#[]⟩, .bool false] : Array Value) := q3.turn r4.st.turn (by omega) (by omega)
  have g4 : Sofar xs (w.heap.size + 1 + 1 + 1) w4 at0 (adv lTxt xs (advs lInt xs 2 (adv lVer xs (advs lInt xs 2 (⟨at0, false⟩ : Sp))))) cs4 [f1 intV, f1 intV, f1 vrV, f1 intV, f1 intV, f1 txtV] := Sofar.one (fs := [f1 intV, f1 intV, f1 vrV, f1 intV, f1 intV]) g3 (by intro f hf; simp only [List.mem_cons, List.not_mem_nil, or_false] at hf; rcases hf with rfl | rfl | rfl | rfl | rfl <;> first | exact fair_int | exact fair_vr | exact fair_txt | exact fair_bit | exact fair_op | exact fair_img | exact fair_lst fair_mem | exact fair_lst fair_ent | exact fair_lst fair_seen | exact fair_lst fair_view) fair_txt r4 (by omega) (by omega) (by omega) (by rw [z3]; decide)
  have z4 : cs4.size = 7 := r4.size.trans z3
  have kd4 := kd3.one r4 (by intro K hk; injection hk with hk; rw [← hk]; exact kind_txt)
  have st4 := r4.st.here
  clear r4
  clear b3 n3 q3 st3 g3 z3 kd3
  replace b4 := Lib.hid b4; replace st4 := Lib.hid st4; replace q4 := Lib.hid q4; replace g4 := Lib.hid g4; replace n4 := Lib.hid n4; replace z4 := Lib.hid z4; replace kd4 := Lib.hid kd4
  go_wp2_with fail
  replace b4 := b4.out; replace st4 := st4.out; replace q4 := q4.out; replace g4 := g4.out; replace n4 := n4.out; replace z4 := z4.out; replace kd4 := kd4.out
  refine (readBit (gr := w.heap.size + 1) (ge := w.heap.size + 1 + 1) (t := 127) (xs := xs) 6 st4 (hv0.keep b4) (by omega) HX.out (by rw [z4]; decide)).mono ?_
  rintro e w5 ⟨rfl, cs5, r5⟩
  have b5 : Below w.heap.size w w5 := b4.trans (r5.st.turn.below (by omega) (by omega) (by omega))
  have n5 : w.heap.size + 1 + 1 + 1 ≤ w5.heap.size := by have := r5.st.turn.size; omega
  have q5 : Whole w5 w.heap.size 127 (#[.int .i64 0, .int .i64 0, .complex .f64 0 0, .int .i64 0, .int .i64 0, .string ⟨#[]⟩, .bool false] : Array Value) := q4.turn r5.st.turn (by omega) (by omega)
  have g5 : Sofar xs (w.heap.size + 1 + 1 + 1) w5 at0 (adv lBit xs (adv lTxt xs (advs lInt xs 2 (adv lVer xs (advs lInt xs 2 (⟨at0, false⟩ : Sp)))))) cs5 [f1 intV, f1 intV, f1 vrV, f1 intV, f1 intV, f1 txtV, f1 bitV] := Sofar.one (fs := [f1 intV, f1 intV, f1 vrV, f1 intV, f1 intV, f1 txtV]) g4 (by intro f hf; simp only [List.mem_cons, List.not_mem_nil, or_false] at hf; rcases hf with rfl | rfl | rfl | rfl | rfl | rfl <;> first | exact fair_int | exact fair_vr | exact fair_txt | exact fair_bit | exact fair_op | exact fair_img | exact fair_lst fair_mem | exact fair_lst fair_ent | exact fair_lst fair_seen | exact fair_lst fair_view) fair_bit r5 (by omega) (by omega) (by omega) (by rw [z4]; decide)
  have z5 : cs5.size = 7 := r5.size.trans z4
  have kd5 := kd4.one r5 (by intro K hk; injection hk with hk; rw [← hk]; exact kind_bit)
  have st5 := r5.st.here
  clear r5
  clear b4 n4 q4 st4 g4 z4 kd4
  replace st5 : MSt w5 w5 (w.heap.size + 1) (w.heap.size + 1 + 1) 127 (.slice a xs.length cap) (seenS xs at0) cs5 := st5
  replace g5 : Sofar xs (w.heap.size + 1 + 1 + 1) w5 at0 (seenS xs at0) cs5 [f1 intV, f1 intV, f1 vrV, f1 intV, f1 intV, f1 txtV, f1 bitV] := g5
  generalize hS : seenS xs at0 = S at st5 g5
  have c1 := st5.rd.cell 1
  have c2 := st5.rd.cell 2
  simp only [List.getElem?_toArray, List.getElem?_cons_succ, List.getElem?_cons_zero] at c1 c2
  have h1 := kd5.ones (by intro K hK V hV; simp only [List.mem_cons, List.not_mem_nil, or_false] at hK; rcases hK with rfl | rfl | rfl | rfl | rfl | rfl | rfl <;> first | exact kInt.one hV | exact kTxt.one hV | exact kBit.one hV | exact kVer.one hV | exact kSl.one hV)
  replace h1 := Lib.hid h1; replace hS := Lib.hid hS
  replace b5 := Lib.hid b5; replace st5 := Lib.hid st5; replace q5 := Lib.hid q5; replace g5 := Lib.hid g5; replace n5 := Lib.hid n5; replace z5 := Lib.hid z5; replace kd5 := Lib.hid kd5
  go_wp2_with fail
  refine wp_region_tree (fun w' => w'.cell? ⟨w.heap.size + 1, 1, none⟩ = some (.int .i64 S.at0) ∧ w'.cell? ⟨w.heap.size + 1, 2, none⟩ = some (.bool S.bad) ∧ Whole w' (w.heap.size + 1 + 1) 127 cs5) (Tr.take 0 (Tr.take 1 (Tr.take 2 (Tr.take 3 (Tr.take 4 (Tr.take 5 (Tr.take 6 (Tr.take 7 (Tr.take 8 (Tr.take 9 (Tr.go 10 (Tr.take 11 (Tr.take 12 Tr.done))))))))))))) (by kernel_rfl) (by kernel_rfl) (fun _ _ d _ _ h => by cases d <;> exact h) ⟨c1, c2, st5.out.en⟩ ?_
  apply walk_take rfl rfl
  · rintro w' ⟨c1, c2, c3⟩
    exact load_whole c3 rfl rfl Try.underlying127 (by rw [z5.out]; exact sizeE127)
  simp only [List.getElem_toArray, List.getElem_cons_zero, Act.put, List.setIfInBounds_toArray, List.set_cons_zero, List.set_cons_succ]
  iterate 9
    apply walk_take rfl rfl
    · rintro w' ⟨c1, c2, c3⟩
      go_simp
      with_reducible rfl
    simp only [List.getElem_toArray, List.getElem_cons_succ, List.getElem_cons_zero, Act.put, List.setIfInBounds_toArray, List.set_cons_zero, List.set_cons_succ]
  refine walk_store0 rfl rfl rfl rfl rfl rfl q5.out (by rw [z5.out]; exact sizeE127) (by rw [z5.out]; rfl) h1.out.all ⟨?_, ?_, ?_⟩ ?_
  · rw [cell_setRow_other _ _ _ _ (by simp only; omega)]; exact c1
  · rw [cell_setRow_other _ _ _ _ (by simp only; omega)]; exact c2
  · exact st5.out.en.row_far (by omega)
  iterate 2
    apply walk_take rfl rfl
    · rintro w' ⟨c1, c2, c3⟩
      go_simp
      with_reducible rfl
    simp only [List.getElem_toArray, List.getElem_cons_succ, List.getElem_cons_zero, Act.put, List.setIfInBounds_toArray, List.set_cons_zero, List.set_cons_succ]
  refine walk_end ?_
  go_wp2
  refine bodyPost_ret (results_row3 rfl _ _ rfl (q5.out.row (cs' := cs5)) Try.underlying127 (by rw [z5.out]; exact sizeE127)) rfl ?_
  have hb := below_row b5.out.drew (Nat.le_refl _) cs5
  refine ⟨hb, ?_⟩
  have hfit := st5.out.near
  cases hbad : S.bad with
  | false =>
    obtain ⟨E, hrow, hwent⟩ := g5.out hbad
    obtain ⟨e1, e2⟩ := len_good (seenS_on xs at0) hS.out hbad
    refine .inl ⟨S.at0 - at0, _, E, e1, by omega, by rw [e2]; exact hwent, row_seen (Row.down (B := w.heap.size + 1 + 1 + 1) (B' := w.heap.size) (by omega) (by intro f hf; simp only [List.mem_cons, List.not_mem_nil, or_false] at hf; rcases hf with rfl | rfl | rfl | rfl | rfl | rfl | rfl <;> first | exact fair_int | exact fair_vr | exact fair_txt | exact fair_bit | exact fair_op | exact fair_img | exact fair_lst fair_mem | exact fair_lst fair_ent | exact fair_lst fair_seen | exact fair_lst fair_view) (Row.keep (w' := w5.drew.setRow w.heap.size cs5) (fun k hk _ => setRow_other w5.drew w.heap.size k cs5 (by omega)) (by intro f hf; simp only [List.mem_cons, List.not_mem_nil, or_false] at hf; rcases hf with rfl | rfl | rfl | rfl | rfl | rfl | rfl <;> first | exact fair_int | exact fair_vr | exact fair_txt | exact fair_bit | exact fair_op | exact fair_img | exact fair_lst fair_mem | exact fair_lst fair_ent | exact fair_lst fair_seen | exact fair_lst fair_view) hrow)) z5.out, ?_⟩
    have e3 : ((at0 : Int) + ((S.at0 - at0 : Nat) : Int)) = (S.at0 : Int) := by omega
    rw [e3]; rfl
  | true => exact .inr ⟨len_bad (seenS_on xs at0) hS.out hbad, _, _, kinds_seen kd5.out, rfl⟩

theorem row_view {B : Nat} {w : World} {cs : Array Value} {E : List UInt8} (h : Row B w cs 0 [f1 intV, f1 intV, f1 intV, f1 intV, f1 (lstV 110 2 memV)] E) (hs : cs.size = 5) : viewV B w (.agg cs) E := by
  obtain ⟨l⟩ := cs
  match l, hs with
  | [c0, c1, c2, c3, c4], _ =>
    obtain ⟨_, _, ⟨a, ha, e1, rfl⟩, ⟨_, _, ⟨b, hb, e2, rfl⟩, ⟨_, _, ⟨c, hc, e3, rfl⟩, ⟨_, _, ⟨d, hd, e4, rfl⟩, ⟨F, _, hL, rfl, rfl⟩, rfl⟩, rfl⟩, rfl⟩, rfl⟩ := h
    have e1 : c0 = _ := e1
    have e2 : c1 = _ := e2
    have e3 : c2 = _ := e3
    have e4 : c3 = _ := e4
    have hL : lstV 110 2 memV B w c4 F := hL
    subst e1 e2 e3 e4
    exact ⟨a, b, c, d, c4, F, ha, hb, hc, hd, hL, rfl, by simp⟩
theorem kinds_view {cs : Array Value} {z : Int} (h : Kinds [kInt, kInt, kInt, kInt, kSl] cs) : viewZ (.agg cs) z := by
  obtain ⟨l⟩ := cs
  match l, h.1 with
  | [c0, c1, c2, c3, c4], _ =>
    obtain ⟨a, e1⟩ := h.2 0 (by simp) (by simp)
    obtain ⟨b, e2⟩ := h.2 1 (by simp) (by simp)
    obtain ⟨c, e3⟩ := h.2 2 (by simp) (by simp)
    obtain ⟨d, e4⟩ := h.2 3 (by simp) (by simp)
    obtain ⟨x, n, m, e5⟩ := h.2 4 (by simp) (by simp)
    have e1 : c0 = _ := e1
    have e2 : c1 = _ := e2
    have e3 : c2 = _ := e3
    have e4 : c3 = _ := e4
    have e5 : c4 = _ := e5
    subst e1 e2 e3 e4 e5
    exact ⟨a, b, c, d, x, n, m, rfl⟩
set_option maxRecDepth 100000 in
set_option maxHeartbeats 4000000 in
theorem get_view : Getter 66 lView viewV viewZ := by
  intro w v xs at0 hat hx hv
  have hv0 := hv
  have ha1 : Apart v (w.heap.size + 1) := hv.apart (by omega)
  have ha2 : Apart v (w.heap.size + 1 + 1) := hv.apart (by omega)
  obtain ⟨a, cap, rfl, _, _, _⟩ := hv
  go_enter Try.func66, Try.ntmps66
  go_wp2_with fail
  have q0 : Whole (((w.alloc (.cells (#[.int .i64 0, .int .i64 0, .int .i64 0, .int .i64 0, .slice none 0 0] : Array Value) 115)).alloc (.cells #[.slice a xs.length cap, .int .i64 at0, .bool false] 100)).alloc (.cells (#[.int .i64 0, .int .i64 0, .int .i64 0, .int .i64 0, .slice none 0 0] : Array Value) 115)) w.heap.size 115 (#[.int .i64 0, .int .i64 0, .int .i64 0, .int .i64 0, .slice none 0 0] : Array Value) := (((Whole.new w 115 (#[.int .i64 0, .int .i64 0, .int .i64 0, .int .i64 0, .slice none 0 0] : Array Value)).alloc _).alloc _)
  have b0 : Below w.heap.size w (((w.alloc (.cells (#[.int .i64 0, .int .i64 0, .int .i64 0, .int .i64 0, .slice none 0 0] : Array Value) 115)).alloc (.cells #[.slice a xs.length cap, .int .i64 at0, .bool false] 100)).alloc (.cells (#[.int .i64 0, .int .i64 0, .int .i64 0, .int .i64 0, .slice none 0 0] : Array Value) 115)) := (((Below.refl _ _).alloc (Nat.le_refl _) _).alloc (by simp) _).alloc (by simp; omega) _
  have e0 : (((w.alloc (.cells (#[.int .i64 0, .int .i64 0, .int .i64 0, .int .i64 0, .slice none 0 0] : Array Value) 115)).alloc (.cells #[.slice a xs.length cap, .int .i64 at0, .bool false] 100)).alloc (.cells (#[.int .i64 0, .int .i64 0, .int .i64 0, .int .i64 0, .slice none 0 0] : Array Value) 115)).heap.size = w.heap.size + 1 + 1 + 1 := by simp
  have n0 : w.heap.size + 1 + 1 + 1 ≤ (((w.alloc (.cells (#[.int .i64 0, .int .i64 0, .int .i64 0, .int .i64 0, .slice none 0 0] : Array Value) 115)).alloc (.cells #[.slice a xs.length cap, .int .i64 at0, .bool false] 100)).alloc (.cells (#[.int .i64 0, .int .i64 0, .int .i64 0, .int .i64 0, .slice none 0 0] : Array Value) 115)).heap.size := by simp
  have st0 := MSt.three w (#[.int .i64 0, .int .i64 0, .int .i64 0, .int .i64 0, .slice none 0 0] : Array Value) (#[.int .i64 0, .int .i64 0, .int .i64 0, .int .i64 0, .slice none 0 0] : Array Value) 115 115 (.slice a xs.length cap) at0 hat
  have g0 := Sofar.nil xs (w.heap.size + 1 + 1 + 1) (((w.alloc (.cells (#[.int .i64 0, .int .i64 0, .int .i64 0, .int .i64 0, .slice none 0 0] : Array Value) 115)).alloc (.cells #[.slice a xs.length cap, .int .i64 at0, .bool false] 100)).alloc (.cells (#[.int .i64 0, .int .i64 0, .int .i64 0, .int .i64 0, .slice none 0 0] : Array Value) 115)) at0 (#[.int .i64 0, .int .i64 0, .int .i64 0, .int .i64 0, .slice none 0 0] : Array Value)
  have z0 : ((#[.int .i64 0, .int .i64 0, .int .i64 0, .int .i64 0, .slice none 0 0] : Array Value)).size = 5 := rfl
  have kd0 : Kinds [kInt, kInt, kInt, kInt, kSl] (#[.int .i64 0, .int .i64 0, .int .i64 0, .int .i64 0, .slice none 0 0] : Array Value) := by
    refine ⟨rfl, fun i hi hi' => ?_⟩
    simp only [List.size_toArray, List.length_cons, List.length_nil, Nat.reduceAdd] at hi
    rcases i with _ | _ | _ | _ | _ | i <;> first | omega | exact ⟨_, rfl⟩ | exact ⟨_, _, rfl⟩ | exact ⟨_, _, _, rfl⟩
  replace ha1 := Lib.hid ha1
  replace ha2 := Lib.hid ha2
  have HX := Lib.hid hx
  clear hx
  have k1 := st0.fresh (.cells #[.pointer (some ⟨w.heap.size + 1 + 1, 0, none⟩), .pointer (some ⟨w.heap.size + 1 + 1, 1, none⟩), .pointer (some ⟨w.heap.size + 1 + 1, 2, none⟩), .pointer (some ⟨w.heap.size + 1 + 1, 3, none⟩)] 89)
  have k2 := hv0.keep (b0.alloc (by omega) (.cells #[.pointer (some ⟨w.heap.size + 1 + 1, 0, none⟩), .pointer (some ⟨w.heap.size + 1 + 1, 1, none⟩), .pointer (some ⟨w.heap.size + 1 + 1, 2, none⟩), .pointer (some ⟨w.heap.size + 1 + 1, 3, none⟩)] 89))
  refine (@mInts_core _ _ _ (w.heap.size + 1 + 1 + 1) _ _ _ _ _ 0 4 k1 k2 (by omega) ha1.out ha2.out HX.out (by omega) (by omega) (by omega) ?_ ?_).mono ?_
  · exact ptrs_new (e0) _ _ _ 0 4 (by intro i hi; rcases i with _ | _ | _ | _ | i <;> first | omega | rfl)
  · show _ ≤ ((#[.int .i64 0, .int .i64 0, .int .i64 0, .int .i64 0, .slice none 0 0] : Array Value)).size; decide
  rintro e w1 ⟨rfl, L1, r1⟩
  clear k1 k2
  have b1 : Below w.heap.size w w1 := (b0.alloc (by omega) (.cells #[.pointer (some ⟨w.heap.size + 1 + 1, 0, none⟩), .pointer (some ⟨w.heap.size + 1 + 1, 1, none⟩), .pointer (some ⟨w.heap.size + 1 + 1, 2, none⟩), .pointer (some ⟨w.heap.size + 1 + 1, 3, none⟩)] 89)).trans (r1.st.turn.below (by omega) (by omega) (by simp; omega))
  have n1 : w.heap.size + 1 + 1 + 1 ≤ w1.heap.size := by have := r1.st.turn.size; simp at this; omega
  have q1 : Whole w1 w.heap.size 115 (#[.int .i64 0, .int .i64 0, .int .i64 0, .int .i64 0, .slice none 0 0] : Array Value) := (q0.alloc (.cells #[.pointer (some ⟨w.heap.size + 1 + 1, 0, none⟩), .pointer (some ⟨w.heap.size + 1 + 1, 1, none⟩), .pointer (some ⟨w.heap.size + 1 + 1, 2, none⟩), .pointer (some ⟨w.heap.size + 1 + 1, 3, none⟩)] 89)).turn r1.st.turn (by omega) (by omega)
  have g1 : Sofar xs (w.heap.size + 1 + 1 + 1) w1 at0 (advs lInt xs 4 (⟨at0, false⟩ : Sp)) (layI (#[.int .i64 0, .int .i64 0, .int .i64 0, .int .i64 0, .slice none 0 0] : Array Value) 0 L1) [f1 intV, f1 intV, f1 intV, f1 intV] := Sofar.ints (fs := []) (g0.keep (by intro f hf; cases hf) (below_above ((Below.refl _ _).alloc (Nat.le_refl _) (.cells #[.pointer (some ⟨w.heap.size + 1 + 1, 0, none⟩), .pointer (some ⟨w.heap.size + 1 + 1, 1, none⟩), .pointer (some ⟨w.heap.size + 1 + 1, 2, none⟩), .pointer (some ⟨w.heap.size + 1 + 1, 3, none⟩)] 89)))) (by intro f hf; cases hf) r1 (by omega) (by omega) (by show _ ≤ ((#[.int .i64 0, .int .i64 0, .int .i64 0, .int .i64 0, .slice none 0 0] : Array Value)).size; decide)
  have z1 : (layI (#[.int .i64 0, .int .i64 0, .int .i64 0, .int .i64 0, .slice none 0 0] : Array Value) 0 L1).size = 5 := by rw [layI_size]; rfl
  have kd1 := kd0.ints r1 (by intro i K hi hk; rcases i with _ | _ | _ | _ | i <;> first | omega | (injection hk with hk; exact hk.symm))
  have st1 := r1.st.here
  clear r1
  generalize layI (#[.int .i64 0, .int .i64 0, .int .i64 0, .int .i64 0, .slice none 0 0] : Array Value) 0 L1 = cs1 at g1 z1 st1 kd1
  clear b0 n0 q0 st0 g0 z0 kd0
  replace b1 := Lib.hid b1; replace st1 := Lib.hid st1; replace q1 := Lib.hid q1; replace g1 := Lib.hid g1; replace n1 := Lib.hid n1; replace z1 := Lib.hid z1; replace kd1 := Lib.hid kd1
  go_wp2_with fail
  replace b1 := b1.out; replace st1 := st1.out; replace q1 := q1.out; replace g1 := g1.out; replace n1 := n1.out; replace z1 := z1.out; replace kd1 := kd1.out
  refine (many_mem get_mem (gr := w.heap.size + 1) (ge := w.heap.size + 1 + 1) (t := 115) (xs := xs) 4 st1 (hv0.keep b1) (by omega) HX.out (by rw [z1]; decide)).mono ?_
  rintro e w2 ⟨rfl, cs2, r2⟩
  have b2 : Below w.heap.size w w2 := b1.trans (r2.st.turn.below (by omega) (by omega) (by omega))
  have n2 : w.heap.size + 1 + 1 + 1 ≤ w2.heap.size := by have := r2.st.turn.size; omega
  have q2 : Whole w2 w.heap.size 115 (#[.int .i64 0, .int .i64 0, .int .i64 0, .int .i64 0, .slice none 0 0] : Array Value) := q1.turn r2.st.turn (by omega) (by omega)
  have g2 : Sofar xs (w.heap.size + 1 + 1 + 1) w2 at0 (adv (lItems lMem) xs (advs lInt xs 4 (⟨at0, false⟩ : Sp))) cs2 [f1 intV, f1 intV, f1 intV, f1 intV, f1 (lstV 110 2 memV)] := Sofar.one (fs := [f1 intV, f1 intV, f1 intV, f1 intV]) g1 (by intro f hf; simp only [List.mem_cons, List.not_mem_nil, or_false] at hf; rcases hf with rfl | rfl | rfl | rfl <;> first | exact fair_int | exact fair_vr | exact fair_txt | exact fair_bit | exact fair_op | exact fair_img | exact fair_lst fair_mem | exact fair_lst fair_ent | exact fair_lst fair_seen | exact fair_lst fair_view) (fair_lst fair_mem) r2 (by omega) (by omega) (by omega) (by rw [z1]; decide)
  have z2 : cs2.size = 5 := r2.size.trans z1
  have kd2 := kd1.one r2 (by intro K hk; injection hk with hk; rw [← hk]; exact kind_lst)
  have st2 := r2.st.here
  clear r2
  clear b1 n1 q1 st1 g1 z1 kd1
  replace st2 : MSt w2 w2 (w.heap.size + 1) (w.heap.size + 1 + 1) 115 (.slice a xs.length cap) (viewS xs at0) cs2 := st2
  replace g2 : Sofar xs (w.heap.size + 1 + 1 + 1) w2 at0 (viewS xs at0) cs2 [f1 intV, f1 intV, f1 intV, f1 intV, f1 (lstV 110 2 memV)] := g2
  generalize hS : viewS xs at0 = S at st2 g2
  have c1 := st2.rd.cell 1
  have c2 := st2.rd.cell 2
  simp only [List.getElem?_toArray, List.getElem?_cons_succ, List.getElem?_cons_zero] at c1 c2
  have h1 := kd2.ones (by intro K hK V hV; simp only [List.mem_cons, List.not_mem_nil, or_false] at hK; rcases hK with rfl | rfl | rfl | rfl | rfl <;> first | exact kInt.one hV | exact kTxt.one hV | exact kBit.one hV | exact kVer.one hV | exact kSl.one hV)
  replace h1 := Lib.hid h1; replace hS := Lib.hid hS
  replace b2 := Lib.hid b2; replace st2 := Lib.hid st2; replace q2 := Lib.hid q2; replace g2 := Lib.hid g2; replace n2 := Lib.hid n2; replace z2 := Lib.hid z2; replace kd2 := Lib.hid kd2
  go_wp2_with fail
  refine wp_region_tree (fun w' => w'.cell? ⟨w.heap.size + 1, 1, none⟩ = some (.int .i64 S.at0) ∧ w'.cell? ⟨w.heap.size + 1, 2, none⟩ = some (.bool S.bad) ∧ Whole w' (w.heap.size + 1 + 1) 115 cs2) (Tr.take 0 (Tr.take 1 (Tr.take 2 (Tr.take 3 (Tr.take 4 (Tr.take 5 (Tr.take 6 (Tr.take 7 (Tr.take 8 (Tr.take 9 (Tr.go 10 (Tr.take 11 (Tr.take 12 Tr.done))))))))))))) (by kernel_rfl) (by kernel_rfl) (fun _ _ d _ _ h => by cases d <;> exact h) ⟨c1, c2, st2.out.en⟩ ?_
  apply walk_take rfl rfl
  · rintro w' ⟨c1, c2, c3⟩
    exact load_whole c3 rfl rfl Try.underlying115 (by rw [z2.out]; exact sizeE115)
  simp only [List.getElem_toArray, List.getElem_cons_zero, Act.put, List.setIfInBounds_toArray, List.set_cons_zero, List.set_cons_succ]
  iterate 9
    apply walk_take rfl rfl
    · rintro w' ⟨c1, c2, c3⟩
      go_simp
      with_reducible rfl
    simp only [List.getElem_toArray, List.getElem_cons_succ, List.getElem_cons_zero, Act.put, List.setIfInBounds_toArray, List.set_cons_zero, List.set_cons_succ]
  refine walk_store0 rfl rfl rfl rfl rfl rfl q2.out (by rw [z2.out]; exact sizeE115) (by rw [z2.out]; rfl) h1.out.all ⟨?_, ?_, ?_⟩ ?_
  · rw [cell_setRow_other _ _ _ _ (by simp only; omega)]; exact c1
  · rw [cell_setRow_other _ _ _ _ (by simp only; omega)]; exact c2
  · exact st2.out.en.row_far (by omega)
  iterate 2
    apply walk_take rfl rfl
    · rintro w' ⟨c1, c2, c3⟩
      go_simp
      with_reducible rfl
    simp only [List.getElem_toArray, List.getElem_cons_succ, List.getElem_cons_zero, Act.put, List.setIfInBounds_toArray, List.set_cons_zero, List.set_cons_succ]
  refine walk_end ?_
  go_wp2
  refine bodyPost_ret (results_row3 rfl _ _ rfl (q2.out.row (cs' := cs2)) Try.underlying115 (by rw [z2.out]; exact sizeE115)) rfl ?_
  have hb := below_row b2.out.drew (Nat.le_refl _) cs2
  refine ⟨hb, ?_⟩
  have hfit := st2.out.near
  cases hbad : S.bad with
  | false =>
    obtain ⟨E, hrow, hwent⟩ := g2.out hbad
    obtain ⟨e1, e2⟩ := len_good (viewS_on xs at0) hS.out hbad
    refine .inl ⟨S.at0 - at0, _, E, e1, by omega, by rw [e2]; exact hwent, row_view (Row.down (B := w.heap.size + 1 + 1 + 1) (B' := w.heap.size) (by omega) (by intro f hf; simp only [List.mem_cons, List.not_mem_nil, or_false] at hf; rcases hf with rfl | rfl | rfl | rfl | rfl <;> first | exact fair_int | exact fair_vr | exact fair_txt | exact fair_bit | exact fair_op | exact fair_img | exact fair_lst fair_mem | exact fair_lst fair_ent | exact fair_lst fair_seen | exact fair_lst fair_view) (Row.keep (w' := w2.drew.setRow w.heap.size cs2) (fun k hk _ => setRow_other w2.drew w.heap.size k cs2 (by omega)) (by intro f hf; simp only [List.mem_cons, List.not_mem_nil, or_false] at hf; rcases hf with rfl | rfl | rfl | rfl | rfl <;> first | exact fair_int | exact fair_vr | exact fair_txt | exact fair_bit | exact fair_op | exact fair_img | exact fair_lst fair_mem | exact fair_lst fair_ent | exact fair_lst fair_seen | exact fair_lst fair_view) hrow)) z2.out, ?_⟩
    have e3 : ((at0 : Int) + ((S.at0 - at0 : Nat) : Int)) = (S.at0 : Int) := by omega
    rw [e3]; rfl
  | true => exact .inr ⟨len_bad (viewS_on xs at0) hS.out hbad, _, _, kinds_view kd2.out, rfl⟩
end Go.Proofs.Ytjpaljiielemgaa
