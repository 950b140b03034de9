/- 'entry.GetOp', 'entry.Get': the fields, one behind the other. -/
import Derived.Test.YtjpaljiielemgaaReads
namespace Go.Proofs.Ytjpaljiielemgaa
open Go.RowKit

theorem Stands.fresh {w0 w : World} {gr ge : Nat} {t : TypeId} {v : Value} {s : St} (h : Stands w0 w gr ge t v s) (o : Obj) : Stands (w.alloc o) (w.alloc o) gr ge t v s :=
  ⟨h.rd.alloc o, h.en.alloc o, Two.refl _ _ _, h.near⟩
theorem Whole.new (w : World) (t : TypeId) (cs : Array Value) : Whole (w.alloc (.cells cs t)) w.heap.size t cs := heap_alloc_new w _
theorem ptrs_new {w : World} {gs : Nat} (hs : w.heap.size = gs) (t : TypeId) (cs : Array Value) (ge j K : Nat) (hcs : ∀ i, i < K → cs[i]? = some (.pointer (some ⟨ge, j + i, none⟩))) : ∀ i, i < K → (w.alloc (.cells cs t)).cell? ⟨gs, i, none⟩ = some (.pointer (some ⟨ge, j + i, none⟩)) := by
  subst hs
  exact fun i hi => ((Whole.new w t cs).cell i).trans (hcs i hi)

/-- The reader's and the entry's blocks are there, both new; and one block more. -/
theorem Stands.three (w : World) (c0 cs : Array Value) (t t' : TypeId) (v : Value) (at0 : Nat) (hat : at0 ≤ far) :
    Stands (((w.alloc (.cells c0 t')).alloc (.cells #[v, .int .i64 at0, .bool false] 85)).alloc (.cells cs t)) (((w.alloc (.cells c0 t')).alloc (.cells #[v, .int .i64 at0, .bool false] 85)).alloc (.cells cs t)) (w.heap.size + 1) (w.heap.size + 1 + 1) t v ⟨at0, false, cs⟩ := by
  refine ⟨?_, ?_, Two.refl _ _ _, hat⟩
  · have h := (Whole.new (w.alloc (.cells c0 t')) 85 #[v, .int .i64 at0, .bool false]).alloc (.cells cs t)
    rw [World.size_alloc] at h
    exact h
  · have h := Whole.new ((w.alloc (.cells c0 t')).alloc (.cells #[v, .int .i64 at0, .bool false] 85)) t cs
    rw [World.size_alloc, World.size_alloc] at h
    exact h

/-- What a parser reads is one cell. -/
def Celled (p : Parser) : Prop := ∀ l v u, p l = some (v, u) → v.oneCell' = true
theorem celled_int : Celled pInt := by
  intro l v u h; unfold pInt at h; split at h
  · simp only [Option.some.injEq, Prod.mk.injEq] at h; rw [← h.1]; rfl
  · cases h
theorem celled_txt : Celled pTxt := by
  intro l v u h; unfold pTxt at h; split at h
  · simp only [Option.some.injEq, Prod.mk.injEq] at h; rw [← h.1]; rfl
  · cases h
theorem celled_bit : Celled pBit := by
  intro l v u h; unfold pBit at h; split at h
  · simp only [Option.some.injEq, Prod.mk.injEq] at h; rw [← h.1]; rfl
  · cases h
theorem celled_ver : Celled pVer := by
  intro l v u h; unfold pVer at h; split at h
  · simp only [Option.some.injEq, Prod.mk.injEq] at h; rw [← h.1]; rfl
  · cases h
def Ones (cs : Array Value) : Prop := ∀ i (h : i < cs.size), cs[i].oneCell' = true
theorem Ones.all {cs : Array Value} (h : Ones cs) : cs.all (·.oneCell') = true := Array.all_eq_true.2 h
theorem one_ones {p : Parser} (hp : Celled p) (xs : List UInt8) (j : Nat) {s : St} (h : Ones s.cs) : Ones (one p xs j s).cs := by
  unfold one; split
  · exact h
  · split
    · rename_i v u hv
      intro i hi
      rw [Array.getElem_setIfInBounds]
      split
      · exact hp _ _ _ hv
      · exact h i (by simpa using hi)
    · exact h
theorem many_ones {p : Parser} (hp : Celled p) (xs : List UInt8) (j : Nat) : ∀ (k : Nat) {s : St}, Ones s.cs → Ones (many p xs j k s).cs
  | 0, _, h => h
  | k + 1, _, h => one_ones hp xs _ (many_ones hp xs j k h)

theorem load_whole {w : World} {g : Nat} {t ty : TypeId} {cs : Array Value} {o : Oper} {a : Act} {x : Operand} (hw : Whole w g t cs) (ho : o.op = .load ty x) (hx : a.eval x = .pointer (some ⟨g, 0, none⟩)) {fs : Array Field}
    (hu : Try.prog.underlying ty = some (.struct fs)) (hi : (Try.prog.info? ty).map (·.size) = some cs.size) : (execOp a.eval o).run Try.prog w = .ok (.value (.agg cs)) w := by
  unfold execOp
  simp only [ho, hx, Instr.loadAt, Instr.sureAddr, Sem.run_bind, Sem.run_pure, Result.andThen_ok, run_loadVar_row w g t ty cs (0, 0) (.struct fs) hw hu rfl hi]

theorem results_row3 {fn : Func} {ty : TypeId} (h : fn.results = #[.cell 4 ty, .tmp 5, .tmp 6]) (tmps : Array Value) (w : World) {g : Nat} {t : TypeId} {cs : Array Value} {fs : Array Field} (hp : tmps.getD 4 undef = .pointer (some ⟨g, 0, none⟩)) (hw : Whole w g t cs)
    (hu : Try.prog.underlying ty = some (.struct fs)) (hi : (Try.prog.info? ty).map (·.size) = some cs.size) : (results fn tmps).run Try.prog w = .ok (.tuple #[.agg cs, tmps.getD 5 undef, tmps.getD 6 undef]) w := by
  have hp' : tmps[4]?.getD undef = .pointer (some ⟨g, 0, none⟩) := by simpa using hp
  simp [results, h, hp', asAddr, run_loadVar_row w g t ty cs (0, 0) (.struct fs) hw hu rfl hi]

theorem below_row {B g : Nat} {w0 w : World} (hb : Below B w0 w) (hg : B ≤ g) (cs : Array Value) : Below B w0 (w.setRow g cs) :=
  hb.trans ⟨rfl, rfl, rfl, by simp, fun k hk => setRow_other w g k cs (by omega)⟩

/-- What is answered of a reader that stands at S in the end. -/
def GotSt (zero : Array Value) (S : St) (e : Ending) : Prop :=
  (S.bad = true ∧ e = .returned (.tuple #[.agg zero, .int .i64 0, .bool false])) ∨ (S.bad = false ∧ e = .returned (.tuple #[.agg S.cs, .int .i64 S.at0, .bool true]))

/-- A whole struct is stored. -/
theorem chain_store {ops : Array Oper} {Q : Exit → Act → World → Prop} {S : World → Prop} {i : Nat} {r : List (Bool × Nat)} {a : Act} {w : World} {o : Oper} {x y : Operand} {ty t : TypeId} {g : Nat} {old cs : Array Value} (ho : ops[i]? = some o) (hgd : o.guard = none) (hop : o.op = .store ty x y) (hd : o.dst = none)
    (hx : a.eval x = .pointer (some ⟨g, 0, none⟩)) (hy : a.eval y = .agg cs) (hw : Whole w g t old) (hi : (Try.prog.info? ty).map (·.size) = some cs.size) (hold : old.size = cs.size) (h1 : cs.all (·.oneCell') = true)
    (hS : S (w.setRow g cs)) (h : Chain Try.prog ops Q S r a (w.setRow g cs)) : Chain Try.prog ops Q S ((false, i) :: r) a w := by
  refine chain_go ho ?_
  refine wpList_plain hgd fun K hK => wp_store_row ty x y hop g cs hx hy t old hw hi hold h1 (hK _ _ ?_)
  rw [hd]
  exact ⟨hS, h⟩

theorem Whole.row {w : World} {g : Nat} {t : TypeId} {cs cs' : Array Value} (h : Whole w g t cs) : Whole (w.setRow g cs') g t cs' := setRow_heap w g cs cs' t (0, 0) h
theorem Whole.row_far {w : World} {g g' : Nat} {t : TypeId} {cs cs' : Array Value} (h : Whole w g t cs) (hg : g ≠ g') : Whole (w.setRow g' cs') g t cs := (setRow_other w g' g cs' hg).trans h

theorem sizeE52 : (Try.prog.info? 52).map (·.size) = some 5 := by kernel_rfl
def opZero : Array Value := #[.int .i64 0, .string ⟨#[]⟩, .string ⟨#[]⟩, .string ⟨#[]⟩, .bool false]
def opS (xs : List UInt8) (at0 : Nat) : St := many pBit xs 4 1 (many pTxt xs 1 3 (many pInt xs 0 1 (⟨at0, false, opZero⟩)))

theorem opS_ones (xs : List UInt8) (at0 : Nat) : Ones (opS xs at0).cs := by
  unfold opS
  refine many_ones celled_bit _ _ _ ?_; refine many_ones celled_txt _ _ _ ?_; refine many_ones celled_int _ _ _ ?_
  intro i hi
  simp only [opZero, List.size_toArray, List.length_cons, List.length_nil, Nat.reduceAdd] at hi
  rcases i with _ | _ | _ | _ | _ | i <;> first | omega | rfl

theorem opS_size (xs : List UInt8) (at0 : Nat) : (opS xs at0).cs.size = 5 := by
  unfold opS
  simp only [many_size]
  rfl

set_option maxRecDepth 100000 in
set_option maxHeartbeats 2000000 in
theorem getOp_with (w : World) (v : Value) (xs : List UInt8) (at0 : Nat) (S : St) (hS : opS xs at0 = S) (hat : at0 ≤ far) (hx : xs.length ≤ far) (hv : Bytes w v xs) :
    Calls Try.prog 32 #[v, .int .i64 at0] w fun e w' => GotSt opZero S e ∧ Below w.heap.size w w' := by
  have hv0 := hv
  have ha1 : Apart v (w.heap.size + 1) := hv.apart (by omega)
  have ha2 : Apart v (w.heap.size + 1 + 1) := hv.apart (by omega)
  obtain ⟨a, cap, rfl, _, _, _⟩ := hv
  go_enter Try.func32, Try.ntmps32
  go_wp2_with fail
  have q0 : Whole (((w.alloc (.cells opZero 52)).alloc (.cells #[.slice a xs.length cap, .int .i64 at0, .bool false] 85)).alloc (.cells opZero 52)) w.heap.size 52 opZero := (((Whole.new w 52 opZero).alloc _).alloc _)
  have b0 : Below w.heap.size w (((w.alloc (.cells opZero 52)).alloc (.cells #[.slice a xs.length cap, .int .i64 at0, .bool false] 85)).alloc (.cells opZero 52)) := (((Below.refl _ _).alloc (Nat.le_refl _) _).alloc (by simp) _).alloc (by simp; omega) _
  have n0 : (((w.alloc (.cells opZero 52)).alloc (.cells #[.slice a xs.length cap, .int .i64 at0, .bool false] 85)).alloc (.cells opZero 52)).heap.size = w.heap.size + 1 + 1 + 1 := by simp
  have st0 := Stands.three w opZero opZero 52 52 (.slice a xs.length cap) at0 hat
  replace ha1 := Lib.hid ha1
  replace ha2 := Lib.hid ha2
  have HX := Lib.hid hx
  have k1 := st0.fresh (.cells #[.pointer (some ⟨w.heap.size + 1 + 1, 0, none⟩)] 89)
  have k2 := hv0.keep (b0.alloc (by omega) (.cells #[.pointer (some ⟨w.heap.size + 1 + 1, 0, none⟩)] 89))
  refine (@ints_core _ _ _ (w.heap.size + 1 + 1 + 1) _ _ _ _ 0 1 k1 k2 (by omega) ha1.out ha2.out HX.out (by omega) (by omega) (by omega) ?_ ?_).mono ?_
  · exact ptrs_new (n0) _ _ _ 0 1 (by intro i hi; rcases i with _ | i <;> first | omega | rfl)
  · simp only; show _ ≤ (opZero).size; decide
  rintro e w1 ⟨rfl, st1⟩
  clear k1 k2
  have b1 : Below w.heap.size w w1 := (b0.alloc (by omega) _).trans (st1.two.below (by omega) (by omega))
  have n1 : w1.heap.size = w.heap.size + 1 + 1 + 1 + 1 := by rw [st1.two.size]; rw [World.size_alloc, n0]
  have q1 : Whole w1 w.heap.size 52 opZero := (q0.alloc _).two st1.two (by omega) (by omega)
  clear b0 n0 q0 st0
  replace b1 := Lib.hid b1; replace st1 := Lib.hid st1; replace q1 := Lib.hid q1; replace n1 := Lib.hid n1
  go_wp2_with fail
  replace b1 := b1.out; replace st1 := st1.out; replace q1 := q1.out; replace n1 := n1.out
  have k1 := st1.fresh (.cells #[.pointer (some ⟨w.heap.size + 1 + 1, 1, none⟩), .pointer (some ⟨w.heap.size + 1 + 1, 2, none⟩), .pointer (some ⟨w.heap.size + 1 + 1, 3, none⟩)] 91)
  have k2 := hv0.keep (b1.alloc (by omega) (.cells #[.pointer (some ⟨w.heap.size + 1 + 1, 1, none⟩), .pointer (some ⟨w.heap.size + 1 + 1, 2, none⟩), .pointer (some ⟨w.heap.size + 1 + 1, 3, none⟩)] 91))
  refine (@texts_core _ _ _ (w1.heap.size) _ _ _ _ 1 3 k1 k2 (by omega) ha1.out ha2.out HX.out (by omega) (by omega) (by omega) ?_ ?_).mono ?_
  · exact ptrs_new (rfl) _ _ _ 1 3 (by intro i hi; rcases i with _ | _ | _ | i <;> first | omega | rfl)
  · simp only [many_size]; show _ ≤ (opZero).size; decide
  rintro e w2 ⟨rfl, st2⟩
  clear k1 k2
  have b2 : Below w.heap.size w w2 := (b1.alloc (by omega) _).trans (st2.two.below (by omega) (by omega))
  have n2 : w2.heap.size = w.heap.size + 1 + 1 + 1 + 1 + 1 := by rw [st2.two.size]; rw [World.size_alloc, n1]
  have q2 : Whole w2 w.heap.size 52 opZero := (q1.alloc _).two st2.two (by omega) (by omega)
  clear b1 n1 q1 st1
  replace b2 := Lib.hid b2; replace st2 := Lib.hid st2; replace q2 := Lib.hid q2; replace n2 := Lib.hid n2
  go_wp2_with fail
  replace b2 := b2.out; replace st2 := st2.out; replace q2 := q2.out; replace n2 := n2.out
  have k1 := st2.fresh (.cells #[.pointer (some ⟨w.heap.size + 1 + 1, 4, none⟩)] 93)
  have k2 := hv0.keep (b2.alloc (by omega) (.cells #[.pointer (some ⟨w.heap.size + 1 + 1, 4, none⟩)] 93))
  refine (@bools_core _ _ _ (w2.heap.size) _ _ _ _ 4 1 k1 k2 (by omega) ha1.out ha2.out HX.out (by omega) (by omega) (by omega) ?_ ?_).mono ?_
  · exact ptrs_new (rfl) _ _ _ 4 1 (by intro i hi; rcases i with _ | i <;> first | omega | rfl)
  · simp only [many_size]; show _ ≤ (opZero).size; decide
  rintro e w3 ⟨rfl, st3⟩
  clear k1 k2
  have b3 : Below w.heap.size w w3 := (b2.alloc (by omega) _).trans (st3.two.below (by omega) (by omega))
  have n3 : w3.heap.size = w.heap.size + 1 + 1 + 1 + 1 + 1 + 1 := by rw [st3.two.size]; rw [World.size_alloc, n2]
  have q3 : Whole w3 w.heap.size 52 opZero := (q2.alloc _).two st3.two (by omega) (by omega)
  clear b2 n2 q2 st2
  have hS1 : many pBit xs 4 1 (many pTxt xs 1 3 (many pInt xs 0 1 (⟨at0, false, opZero⟩))) = S := hS
  rw [hS1] at st3
  clear hS1
  have h1 := opS_ones xs at0
  have h2 := opS_size xs at0
  rw [hS] at h1 h2
  clear hS
  have c2 := st3.rd.cell 2
  simp only [List.getElem?_toArray, List.getElem?_cons_succ, List.getElem?_cons_zero] at c2
  replace b3 := Lib.hid b3; replace st3 := Lib.hid st3; replace q3 := Lib.hid q3; replace n3 := Lib.hid n3
  replace h1 := Lib.hid h1
  replace h2 := Lib.hid h2
  cases hb : S.bad with
  | true =>
    rw [hb] at c2
    have HB := Lib.hid hb
    clear hb
    have z0 : w3.cell? ⟨w.heap.size, 0, none⟩ = opZero[0]? := q3.out.cell 0
    have y0 := q3.out.free 0
    have z1 : w3.cell? ⟨w.heap.size, 1, none⟩ = opZero[1]? := q3.out.cell 1
    have y1 := q3.out.free 1
    have z2 : w3.cell? ⟨w.heap.size, 2, none⟩ = opZero[2]? := q3.out.cell 2
    have y2 := q3.out.free 2
    have z3 : w3.cell? ⟨w.heap.size, 3, none⟩ = opZero[3]? := q3.out.cell 3
    have y3 := q3.out.free 3
    have z4 : w3.cell? ⟨w.heap.size, 4, none⟩ = opZero[4]? := q3.out.cell 4
    have y4 := q3.out.free 4
    simp only [opZero, List.getElem?_toArray, List.getElem?_cons_succ, List.getElem?_cons_zero] at z0 z1 z2 z3 z4
    go_wp2
    have hend := (((((q3.out.put 0 (.int .i64 0)).put 1 (.string ⟨#[]⟩)).put 2 (.string ⟨#[]⟩)).put 3 (.string ⟨#[]⟩)).put 4 (.bool false))
    refine bodyPost_ret (results_row3 rfl _ _ rfl hend Try.underlying52 sizeE52) rfl ?_
    exact ⟨.inl ⟨HB.out, rfl⟩, (((((b3.out.setCell (p := ⟨w.heap.size, 0, none⟩) (Nat.le_refl _) _).setCell (p := ⟨w.heap.size, 1, none⟩) (Nat.le_refl _) _).setCell (p := ⟨w.heap.size, 2, none⟩) (Nat.le_refl _) _).setCell (p := ⟨w.heap.size, 3, none⟩) (Nat.le_refl _) _).setCell (p := ⟨w.heap.size, 4, none⟩) (Nat.le_refl _) _)⟩
  | false =>
    rw [hb] at c2
    have HB := Lib.hid hb
    clear hb
    have c1 := st3.out.rd.cell 1
    simp only [List.getElem?_toArray, List.getElem?_cons_succ, List.getElem?_cons_zero] at c1
    go_wp2_with fail
    refine wp_region_chain (fun w' => w'.cell? ⟨w.heap.size + 1, 1, none⟩ = some (.int .i64 S.at0) ∧ Whole w' (w.heap.size + 1 + 1) 52 S.cs) [(true, 0), (true, 1), (true, 2), (true, 3), (true, 4), (false, 5), (true, 6), (true, 7)] (by kernel_rfl) (by kernel_rfl) (fun _ _ d _ _ h => by cases d <;> exact h) ⟨c1, st3.out.en⟩ ?_
    apply chain_take rfl rfl
    · rintro w' ⟨c0, c1⟩
      exact load_whole c1 rfl rfl Try.underlying52 (by rw [h2.out]; exact sizeE52)
    simp only [List.getElem_toArray, List.getElem_cons_zero, Act.put, List.setIfInBounds_toArray, List.set_cons_zero, List.set_cons_succ]
    iterate 4
      apply chain_take rfl rfl
      · rintro w' ⟨c0, c1⟩
        go_simp
        with_reducible rfl
      simp only [List.getElem_toArray, List.getElem_cons_succ, List.getElem_cons_zero, Act.put, List.setIfInBounds_toArray, List.set_cons_zero, List.set_cons_succ]
    refine chain_store rfl rfl rfl rfl rfl rfl q3.out (by rw [h2.out]; exact sizeE52) (by rw [h2.out]; rfl) h1.out.all ⟨?_, ?_⟩ ?_
    · rw [cell_setRow_other _ _ _ _ (by simp only; omega)]; exact c1
    · exact st3.out.en.row_far (by omega)
    iterate 2
      apply chain_take rfl rfl
      · rintro w' ⟨c0, c1⟩
        go_simp
        with_reducible rfl
      simp only [List.getElem_toArray, List.getElem_cons_succ, List.getElem_cons_zero, Act.put, List.setIfInBounds_toArray, List.set_cons_zero, List.set_cons_succ]
    apply chain_end
    go_wp2
    refine bodyPost_ret (results_row3 rfl _ _ rfl (q3.out.row (cs' := S.cs)) Try.underlying52 (by rw [h2.out]; exact sizeE52)) rfl ?_
    exact ⟨.inr ⟨HB.out, rfl⟩, below_row b3.out.drew (Nat.le_refl _) _⟩

theorem getOp_core (w : World) (v : Value) (xs : List UInt8) (at0 : Nat) (hat : at0 ≤ far) (hx : xs.length ≤ far) (hv : Bytes w v xs) :
    Calls Try.prog 32 #[v, .int .i64 at0] w fun e w' => GotSt opZero (opS xs at0) e ∧ Below w.heap.size w w' :=
  getOp_with w v xs at0 _ rfl hat hx hv
end Go.Proofs.Ytjpaljiielemgaa
