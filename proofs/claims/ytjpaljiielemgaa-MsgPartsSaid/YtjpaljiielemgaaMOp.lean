/- msg.read of a struct. -/
import Derived.Test.YtjpaljiielemgaaTree
import Derived.Test.YtjpaljiielemgaaEntGot
import Derived.Test.YtjpaljiielemgaaMLists
namespace Go.Proofs.Ytjpaljiielemgaa
open Go.RowKit
attribute [local go_sem] store_cplx

def opZ (V : Value) (_ : Int) : Prop := V = .agg #[.int .i64 0, .string ⟨#[]⟩, .string ⟨#[]⟩, .string ⟨#[]⟩, .bool false]
theorem went_of {xs : List UInt8} {at0 X : Nat} {E : List UInt8} (h1 : at0 ≤ X) (h2 : X ≤ xs.length) (h3 : (xs.drop at0).take (X - at0) = E) : Went xs at0 X E := by
  refine ⟨xs.drop X, ?_, rfl, ?_⟩
  · rw [← h3]
    have e : xs.drop X = (xs.drop at0).drop (X - at0) := by rw [List.drop_drop]; congr 1; omega
    rw [e, List.take_append_drop]
  · rw [← h3, List.length_take, List.length_drop]; omega

theorem get_op : Getter 32 lOp opV opZ := by
  intro w v xs at0 hat hx hv
  refine (getOp_got w v xs at0 hat hx hv).mono fun e w' ⟨hb, h⟩ => ⟨hb, ?_⟩
  have e1 := opS_on xs at0
  rcases h with ⟨h, he⟩ | ⟨h, k, a, b, c, t, X, h1, h2, h3, h4, h5, h6, h7, h8, h9, he⟩
  · right
    refine ⟨?_, _, 0, rfl, he⟩
    unfold lOp
    rw [e1] at h
    exact if_pos h
  · left
    have e2 : (opS xs at0).at0 = at0 + (opS (xs.drop at0) 0).at0 := by rw [e1]; rfl
    have hb : (opS (xs.drop at0) 0).bad = false := by rw [e1] at h; exact h
    have e3 : X = at0 + (opS (xs.drop at0) 0).at0 := by rw [← h9, e2]
    refine ⟨(opS (xs.drop at0) 0).at0, _, opB k a b c t, ?_, by omega, ?_, ⟨k, a, b, c, t, h1, h2, h3, h4, rfl, rfl⟩, ?_⟩
    · unfold lOp; rw [hb]; rfl
    · rw [← e3]; exact went_of h5 h6 h7
    · rw [he, e3]; simp

theorem get_ent : Getter 31 lEnt entV entZ := by
  intro w v xs at0 hat hx hv
  refine (getEnt_got w v xs at0 hat hx hv).mono fun e w' ⟨hb, h⟩ => ⟨hb, ?_⟩
  have e1 := entS_on xs at0
  rcases h with ⟨h, he⟩ | ⟨h, x, y, k, a, b, s, t, l, m, n, c, u, X, h1, h2, h3, h4, h5, h6, h7, h8, h9, h10, h11, h12, h13, h14, he⟩
  · right
    refine ⟨?_, _, 0, rfl, he⟩
    unfold lEnt
    rw [e1] at h
    exact if_pos h
  · left
    have e2 : (entS xs at0).at0 = at0 + (entS (xs.drop at0) 0).at0 := by rw [e1]; rfl
    have hb : (entS (xs.drop at0) 0).bad = false := by rw [e1] at h; exact h
    have e3 : X = at0 + (entS (xs.drop at0) 0).at0 := by rw [← h14, e2]
    refine ⟨(entS (xs.drop at0) 0).at0, _, entB x y k a b s t l m n c u, ?_, by omega, ?_, ⟨x, y, k, a, b, s, t, l, m, n, c, u, h1, h2, h3, h4, h5, h6, h7, h8, h9, rfl, rfl⟩, ?_⟩
    · unfold lEnt; rw [hb]; rfl
    · rw [← e3]; exact went_of h10 h11 h12
    · rw [he, e3]; simp

/-- What a reader of a struct leaves. -/
structure ReadS (R : Rel) (p : Len) (xs : List UInt8) (w w' : World) (gr ge : Nat) (t : TypeId) (v : Value) (s : Sp) (j : Nat) (cs cs' : Array Value) : Prop where
  st : MSt w w' gr ge t v (adv p xs s) cs'
  size : cs'.size = cs.size
  what : ((adv p xs s).bad = true ∧ cs' = cs) ∨ ((adv p xs s).bad = false ∧ ∃ Vs E, R w.heap.size w' (.agg Vs) E ∧ cs' = putC cs j Vs.toList ∧ Went xs s.at0 (adv p xs s).at0 E)

theorem all_one {L : List Value} (h : ∀ v ∈ L, v.oneCell' = true) : L.toArray.all (·.oneCell') = true := by
  rw [Array.all_eq_true]
  intro i hi
  exact h _ (by simp)
theorem putC_all {cs : Array Value} {news : List Value} (h : cs.size = news.length) : putC cs 0 news = news.toArray := by
  unfold putC
  rw [List.take_zero, List.nil_append, Nat.zero_add, List.drop_of_length_le (by simp; omega), List.append_nil]
theorem turn_row {p q : Nat} {w0 w : World} (h : Turn p q w0 w) (cs : Array Value) : Turn p q w0 (w.setRow q cs) :=
  h.trans ⟨rfl, rfl, rfl, by simp, fun k _ _ b => setRow_other w q k cs b⟩
theorem MSt.yesS {w0 w : World} {gr ge : Nat} {t : TypeId} {v : Value} {s : Sp} {cs : Array Value} {p : Len} {xs : List UInt8} {j u : Nat} {Vs : List Value} (h : MSt w0 w gr ge t v s cs) (hne : gr ≠ ge) (hb : s.bad = false) (hp : p (xs.drop s.at0) = some u) (hu : s.at0 + u ≤ far) :
    MSt w0 ((w.setRow ge (putC cs j Vs)).setCell ⟨gr, 1, none⟩ (.int .i64 ((s.at0 : Int) + (u : Int)))) gr ge t v (adv p xs s) (putC cs j Vs) := by
  rw [adv_yes hb hp]
  refine ⟨?_, ?_, (turn_row h.turn _).setL _ _, hu⟩
  · have h1 := (h.rd.row_far (cs' := putC cs j Vs) hne).put 1 (.int .i64 ((s.at0 : Int) + (u : Int)))
    rw [hb] at h1
    exact h1
  · exact (h.en.row (cs' := putC cs j Vs)).far (a := ⟨gr, 1, none⟩) (fun e => hne e.symm) _

theorem sizeE52' : (Try.prog.info? 52).map (·.size) = some 5 := by kernel_rfl
theorem cell_old61 {w : World} (o : Obj) {a : Addr} {x : Value} (h : w.cell? a = some x) : (w.alloc o).cell? a = some x := by
  rw [← h]; exact World.cell?_of_block (w := w) (Below.heap_alloc w o a.block (World.block_lt_of_cell? w a h))
set_option maxRecDepth 100000 in
set_option maxHeartbeats 2000000 in
theorem readOp {w : World} {gr ge : Nat} {t : TypeId} {v : Value} {xs : List UInt8} {s : Sp} {cs : Array Value} (j : Nat) (hst : MSt w w gr ge t v s cs) (hv : Bytes w v xs) (hne : gr ≠ ge) (hx : xs.length ≤ far) (hj : j + 5 ≤ cs.size) :
    Calls Try.prog 61 #[.pointer (some ⟨gr, 0, none⟩), .pointer (some ⟨ge, j, none⟩), .func (.func 32) #[] #[]] w fun e w' => e = .returned (.tuple #[]) ∧ ∃ cs', ReadS opV lOp xs w w' gr ge t v s j cs cs' := by
  have c0 := hst.rd.cell 0
  have c1 := hst.rd.cell 1
  have c2 := hst.rd.cell 2
  simp only [List.getElem?_toArray, List.getElem?_cons_succ, List.getElem?_cons_zero] at c0 c1 c2
  have HT := Lib.hid hst
  have HW := Lib.hid hv
  clear hst hv
  cases hbad : s.bad with
  | true =>
    rw [hbad] at c2
    have HB := Lib.hid hbad
    clear hbad
    go_enter Try.func61, Try.ntmps61
    go_wp2
    refine bodyPost_ret (results_none rfl _ _ _) rfl ?_
    refine ⟨rfl, cs, ?_, rfl, .inl ⟨by rw [adv_bad HB.out]; exact HB.out, rfl⟩⟩
    rw [adv_bad HB.out]
    exact HT.out
  | false =>
    rw [hbad] at c2
    have HB := Lib.hid hbad
    clear hbad
    go_enter Try.func61, Try.ntmps61
    go_wp2_with fail
    refine wp_region_tree (fun w' => w'.cell? ⟨gr, 0, none⟩ = some v ∧ w'.cell? ⟨gr, 1, none⟩ = some (.int .i64 s.at0)) (Tr.take 0 (Tr.take 1 (Tr.take 2 (Tr.take 3 (Tr.take 4 (Tr.take 5 (Tr.take 6 (Tr.take 7 (Tr.take 8 (Tr.fork 9 14 (Tr.take 10 (Tr.take 11 (Tr.take 12 (Tr.take 13 (Tr.go 14 (Tr.go 15 (Tr.take 16 (Tr.take 17 Tr.done)))))))) (Tr.go 9 (Tr.take 10 (Tr.take 11 (Tr.take 12 (Tr.take 13 (Tr.go 15 (Tr.take 16 (Tr.take 17 Tr.done)))))))))))))))))) (by kernel_rfl) (by kernel_rfl) (fun _ _ d _ _ h => by cases d <;> exact h) ⟨c0, c1⟩ ?_
    iterate 9
      apply walk_take rfl rfl
      · rintro w' ⟨c0, c1⟩
        go_simp
        with_reducible rfl
      simp only [List.getElem_toArray, List.getElem_cons_succ, List.getElem_cons_zero, Act.put, List.setIfInBounds_toArray, List.set_cons_zero, List.set_cons_succ]
    refine walk_fork rfl rfl ?_ ?_
    · skip
      go_wp2_with fail
      refine (get_op w.drew v xs s.at0 HT.out.near hx (HW.out.keep ((Below.refl _ _).drew))).mono ?_
      rintro e w2 ⟨hb2, ⟨u, V, E, hp, hu, hwe, ⟨k, a, b, c, t1, q1, q2, q3, q4, rfl, q5⟩, rfl⟩ | ⟨hp, V, n, rfl, rfl⟩⟩
      · have HP := Lib.hid hp
        have HU := Lib.hid hu
        have HE := Lib.hid hwe
        have QB0 : Below w.heap.size w.drew w2 := hb2
        have h2 := HT.out.drew.below QB0
        have e0 := h2.rd.cell 0
        have e1 := h2.rd.cell 1
        simp only [List.getElem?_toArray, List.getElem?_cons_succ, List.getElem?_cons_zero] at e0 e1
        have hsz2 : w.heap.size ≤ w2.heap.size := QB0.size
        have hl1 := HT.out.rd.lt
        have hl2 := HT.out.en.lt
        have QB1 := Lib.hid QB0
        clear hp h2 hb2 QB0 hu hwe
        go_wp2_with fail
        refine ⟨⟨e0, e1⟩, ?_⟩
        iterate 4
          apply walk_take rfl rfl
          · rintro w' ⟨c0, c1⟩
            go_simp
            with_reducible rfl
          simp only [List.getElem_toArray, List.getElem_cons_succ, List.getElem_cons_zero, Act.put, List.setIfInBounds_toArray, List.set_cons_zero, List.set_cons_succ]
        refine tree_go rfl ?_
        go_wp2_with fail
        refine ⟨⟨cell_old61 _ e0, cell_old61 _ e1⟩, ?_⟩
        have QW1 := Lib.hid (Whole.new w2 52 #[.int .i64 0, .string ⟨#[]⟩, .string ⟨#[]⟩, .string ⟨#[]⟩, .bool false])
        have QB2 := Lib.hid (QB1.out.alloc hsz2 (.cells #[.int .i64 0, .string ⟨#[]⟩, .string ⟨#[]⟩, .string ⟨#[]⟩, .bool false] 52))
        have QB3 := Lib.hid (below_row QB2.out (show w.heap.size ≤ w2.heap.size by exact hsz2) (putC #[.int .i64 0, .string ⟨#[]⟩, .string ⟨#[]⟩, .string ⟨#[]⟩, .bool false] 0 [.int .i64 k, .string a, .string b, .string c, .bool t1]))
        have QW := Lib.hid (QW1.out.row (cs' := putC #[.int .i64 0, .string ⟨#[]⟩, .string ⟨#[]⟩, .string ⟨#[]⟩, .bool false] 0 [.int .i64 k, .string a, .string b, .string c, .bool t1]))
        have h6 := HT.out.drew.below QB3.out
        have e0 := h6.rd.cell 0
        have e1 := h6.rd.cell 1
        simp only [List.getElem?_toArray, List.getElem?_cons_succ, List.getElem?_cons_zero] at e0 e1
        clear h6
        refine walk_store rfl rfl rfl rfl rfl rfl QW1.out sizeE52 (by simp) (all_one (by intro v hv; simp only [List.mem_cons, List.not_mem_nil, or_false] at hv; rcases hv with rfl | rfl | rfl | rfl | rfl <;> rfl)) ⟨e0, e1⟩ ?_
        have QR := Lib.hid ((⟨k, a, b, c, t1, q1, q2, q3, q4, rfl, q5⟩ : opV 0 w (.agg #[.int .i64 k, .string a, .string b, .string c, .bool t1]) E))
        have hgx : w2.heap.size ≠ ge := by omega
        generalize ((w2.alloc (.cells #[.int .i64 0, .string ⟨#[]⟩, .string ⟨#[]⟩, .string ⟨#[]⟩, .bool false] 52))).setRow w2.heap.size (putC #[.int .i64 0, .string ⟨#[]⟩, .string ⟨#[]⟩, .string ⟨#[]⟩, .bool false] 0 [.int .i64 k, .string a, .string b, .string c, .bool t1]) = W at QB3 QW e0 e1 QR ⊢
        have QB := QB3
        clear QB3
        iterate 2
          apply walk_take rfl rfl
          · rintro w' ⟨c0, c1⟩
            go_simp
            with_reducible rfl
          simp only [List.getElem_toArray, List.getElem_cons_succ, List.getElem_cons_zero, Act.put, List.setIfInBounds_toArray, List.set_cons_zero, List.set_cons_succ]
        have QR0 := QR.out
        have h2 := HT.out.drew.below QB.out
        have e0 := h2.rd.cell 0
        have e1 := h2.rd.cell 1
        simp only [List.getElem?_toArray, List.getElem?_cons_succ, List.getElem?_cons_zero] at e0 e1
        have h3 := h2.rd.row_far (cs' := putC cs j [.int .i64 k, .string a, .string b, .string c, .bool t1]) hne
        have k1 := h3.cell 1
        have k2 := h3.free 1
        simp only [List.getElem?_toArray, List.getElem?_cons_succ, List.getElem?_cons_zero] at k1
        have h4 := h2.yesS (j := j) (Vs := [.int .i64 k, .string a, .string b, .string c, .bool t1]) hne HB.out HP.out HU.out
        have H4 := Lib.hid h4
        have HG := Lib.hid h2.en
        have hlt1 := h2.rd.lt
        have hlt2 := h2.en.lt
        have HQ := Lib.hid (QW.out.row_far (cs' := putC cs j [.int .i64 k, .string a, .string b, .string c, .bool t1]) hgx)
        clear h2 h3 h4 QR0
        refine walk_end ?_
        have QW2 := QW.out
        rw [putC_all (by rfl)] at QW2
        have m0 := QW2.cell 0
        have m1 := QW2.cell 1
        have m2 := QW2.cell 2
        have m3 := QW2.cell 3
        have m4 := QW2.cell 4
        simp only [List.getElem?_toArray, List.getElem?_cons_succ, List.getElem?_cons_zero] at m0 m1 m2 m3 m4
        clear QW2
        go_wp2_with (refine wpList_store_at rfl 52 (.tmp 36) (.tmp 34) rfl ge j #[.int .i64 k, .string a, .string b, .string c, .bool t1] rfl rfl t cs HG.out sizeE52 (by simp; omega) (all_one (by intro v hv; simp only [List.mem_cons, List.not_mem_nil, or_false] at hv; rcases hv with rfl | rfl | rfl | rfl | rfl <;> rfl)) ?_)
        go_end0
        refine ⟨rfl, _, H4.out, putC_size _ _ _ (by simp; omega), .inr ⟨by rw [adv_yes HB.out HP.out], _, E, ?_, rfl, by rw [adv_yes HB.out HP.out]; exact HE.out⟩⟩
        exact QR.out
      · have HP := Lib.hid hp
        have QB0 : Below w.heap.size w.drew w2 := hb2
        have h2 := HT.out.drew.below QB0
        have e0 := h2.rd.cell 0
        have e1 := h2.rd.cell 1
        simp only [List.getElem?_toArray, List.getElem?_cons_succ, List.getElem?_cons_zero] at e0 e1
        have hsz2 : w.heap.size ≤ w2.heap.size := QB0.size
        have hl1 := HT.out.rd.lt
        have hl2 := HT.out.en.lt
        have QB1 := Lib.hid QB0
        clear hp h2 hb2 QB0
        go_wp2_with fail
        refine ⟨⟨e0, e1⟩, ?_⟩
        iterate 4
          apply walk_take rfl rfl
          · rintro w' ⟨c0, c1⟩
            go_simp
            with_reducible rfl
          simp only [List.getElem_toArray, List.getElem_cons_succ, List.getElem_cons_zero, Act.put, List.setIfInBounds_toArray, List.set_cons_zero, List.set_cons_succ]
        refine tree_go rfl ?_
        go_wp2_with fail
        refine ⟨⟨cell_old61 _ e0, cell_old61 _ e1⟩, ?_⟩
        have QW1 := Lib.hid (Whole.new w2 52 #[.int .i64 0, .string ⟨#[]⟩, .string ⟨#[]⟩, .string ⟨#[]⟩, .bool false])
        have QB2 := Lib.hid (QB1.out.alloc hsz2 (.cells #[.int .i64 0, .string ⟨#[]⟩, .string ⟨#[]⟩, .string ⟨#[]⟩, .bool false] 52))
        have QB3 := Lib.hid (below_row QB2.out (show w.heap.size ≤ w2.heap.size by exact hsz2) (putC #[.int .i64 0, .string ⟨#[]⟩, .string ⟨#[]⟩, .string ⟨#[]⟩, .bool false] 0 [.int .i64 0, .string ⟨#[]⟩, .string ⟨#[]⟩, .string ⟨#[]⟩, .bool false]))
        have QW := Lib.hid (QW1.out.row (cs' := putC #[.int .i64 0, .string ⟨#[]⟩, .string ⟨#[]⟩, .string ⟨#[]⟩, .bool false] 0 [.int .i64 0, .string ⟨#[]⟩, .string ⟨#[]⟩, .string ⟨#[]⟩, .bool false]))
        have h6 := HT.out.drew.below QB3.out
        have e0 := h6.rd.cell 0
        have e1 := h6.rd.cell 1
        simp only [List.getElem?_toArray, List.getElem?_cons_succ, List.getElem?_cons_zero] at e0 e1
        clear h6
        refine walk_store rfl rfl rfl rfl rfl rfl QW1.out sizeE52 (by simp) (all_one (by intro v hv; simp only [List.mem_cons, List.not_mem_nil, or_false] at hv; rcases hv with rfl | rfl | rfl | rfl | rfl <;> rfl)) ⟨e0, e1⟩ ?_
        have hgx : w2.heap.size ≠ ge := by omega
        generalize ((w2.alloc (.cells #[.int .i64 0, .string ⟨#[]⟩, .string ⟨#[]⟩, .string ⟨#[]⟩, .bool false] 52))).setRow w2.heap.size (putC #[.int .i64 0, .string ⟨#[]⟩, .string ⟨#[]⟩, .string ⟨#[]⟩, .bool false] 0 [.int .i64 0, .string ⟨#[]⟩, .string ⟨#[]⟩, .string ⟨#[]⟩, .bool false]) = W at QB3 QW e0 e1 ⊢
        have QB := QB3
        clear QB3
        iterate 2
          apply walk_take rfl rfl
          · rintro w' ⟨c0, c1⟩
            go_simp
            with_reducible rfl
          simp only [List.getElem_toArray, List.getElem_cons_succ, List.getElem_cons_zero, Act.put, List.setIfInBounds_toArray, List.set_cons_zero, List.set_cons_succ]
        have h2 := HT.out.drew.below QB.out
        have e0 := h2.rd.cell 0
        have e1 := h2.rd.cell 1
        have e2 := h2.rd.cell 2
        have f2 := h2.rd.free 2
        simp only [List.getElem?_toArray, List.getElem?_cons_succ, List.getElem?_cons_zero] at e0 e1 e2
        have h4 := h2.no (p := lOp) hne HB.out HP.out
        have H4 := Lib.hid h4
        clear h2 h4
        refine walk_end ?_
        go_wp2
        refine bodyPost_ret (results_none rfl _ _ _) rfl ?_
        exact ⟨rfl, cs, H4.out, rfl, .inl ⟨by rw [adv_no HB.out HP.out], rfl⟩⟩
    · skip
      go_wp2_with fail
      refine ⟨⟨cell_old61 _ c0, cell_old61 _ c1⟩, ?_⟩
      refine tree_go rfl ?_
      go_wp2_with fail
      refine (get_op (w.drew.alloc (.cells #[.int .i64 0, .string ⟨#[]⟩, .string ⟨#[]⟩, .string ⟨#[]⟩, .bool false] 52)) v xs s.at0 HT.out.near hx (HW.out.keep (((Below.refl _ _).drew).alloc (Nat.le_refl _) _))).mono ?_
      rintro e w2 ⟨hb2, ⟨u, V, E, hp, hu, hwe, ⟨k, a, b, c, t1, q1, q2, q3, q4, rfl, q5⟩, rfl⟩ | ⟨hp, V, n, rfl, rfl⟩⟩
      · have HP := Lib.hid hp
        have HU := Lib.hid hu
        have HE := Lib.hid hwe
        have QB0 : Below w.heap.size w.drew w2 := ((Below.refl _ _).alloc (Nat.le_refl _) _).trans (hb2.mono (by simp))
        have QW0 : Whole w2 w.heap.size 52 #[.int .i64 0, .string ⟨#[]⟩, .string ⟨#[]⟩, .string ⟨#[]⟩, .bool false] := (Whole.new w.drew 52 #[.int .i64 0, .string ⟨#[]⟩, .string ⟨#[]⟩, .string ⟨#[]⟩, .bool false]).below hb2 (by simp)
        have h2 := HT.out.drew.below QB0
        have e0 := h2.rd.cell 0
        have e1 := h2.rd.cell 1
        simp only [List.getElem?_toArray, List.getElem?_cons_succ, List.getElem?_cons_zero] at e0 e1
        have hsz2 : w.heap.size ≤ w2.heap.size := QB0.size
        have hl1 := HT.out.rd.lt
        have hl2 := HT.out.en.lt
        have QB1 := Lib.hid QB0
        have QW1 := Lib.hid QW0
        clear hp h2 hb2 QB0 hu hwe QW0
        go_wp2_with fail
        refine ⟨⟨e0, e1⟩, ?_⟩
        iterate 4
          apply walk_take rfl rfl
          · rintro w' ⟨c0, c1⟩
            go_simp
            with_reducible rfl
          simp only [List.getElem_toArray, List.getElem_cons_succ, List.getElem_cons_zero, Act.put, List.setIfInBounds_toArray, List.set_cons_zero, List.set_cons_succ]
        have QB2 := QB1
        have QB3 := Lib.hid (below_row QB2.out (show w.heap.size ≤ w.heap.size by exact Nat.le_refl _) (putC #[.int .i64 0, .string ⟨#[]⟩, .string ⟨#[]⟩, .string ⟨#[]⟩, .bool false] 0 [.int .i64 k, .string a, .string b, .string c, .bool t1]))
        have QW := Lib.hid (QW1.out.row (cs' := putC #[.int .i64 0, .string ⟨#[]⟩, .string ⟨#[]⟩, .string ⟨#[]⟩, .bool false] 0 [.int .i64 k, .string a, .string b, .string c, .bool t1]))
        have h6 := HT.out.drew.below QB3.out
        have e0 := h6.rd.cell 0
        have e1 := h6.rd.cell 1
        simp only [List.getElem?_toArray, List.getElem?_cons_succ, List.getElem?_cons_zero] at e0 e1
        clear h6
        refine walk_store rfl rfl rfl rfl rfl rfl QW1.out sizeE52 (by simp) (all_one (by intro v hv; simp only [List.mem_cons, List.not_mem_nil, or_false] at hv; rcases hv with rfl | rfl | rfl | rfl | rfl <;> rfl)) ⟨e0, e1⟩ ?_
        have QR := Lib.hid ((⟨k, a, b, c, t1, q1, q2, q3, q4, rfl, q5⟩ : opV 0 w (.agg #[.int .i64 k, .string a, .string b, .string c, .bool t1]) E))
        have hgx : w.heap.size ≠ ge := by omega
        generalize (w2).setRow w.heap.size (putC #[.int .i64 0, .string ⟨#[]⟩, .string ⟨#[]⟩, .string ⟨#[]⟩, .bool false] 0 [.int .i64 k, .string a, .string b, .string c, .bool t1]) = W at QB3 QW e0 e1 QR ⊢
        have QB := QB3
        clear QB3
        iterate 2
          apply walk_take rfl rfl
          · rintro w' ⟨c0, c1⟩
            go_simp
            with_reducible rfl
          simp only [List.getElem_toArray, List.getElem_cons_succ, List.getElem_cons_zero, Act.put, List.setIfInBounds_toArray, List.set_cons_zero, List.set_cons_succ]
        have QR0 := QR.out
        have h2 := HT.out.drew.below QB.out
        have e0 := h2.rd.cell 0
        have e1 := h2.rd.cell 1
        simp only [List.getElem?_toArray, List.getElem?_cons_succ, List.getElem?_cons_zero] at e0 e1
        have h3 := h2.rd.row_far (cs' := putC cs j [.int .i64 k, .string a, .string b, .string c, .bool t1]) hne
        have k1 := h3.cell 1
        have k2 := h3.free 1
        simp only [List.getElem?_toArray, List.getElem?_cons_succ, List.getElem?_cons_zero] at k1
        have h4 := h2.yesS (j := j) (Vs := [.int .i64 k, .string a, .string b, .string c, .bool t1]) hne HB.out HP.out HU.out
        have H4 := Lib.hid h4
        have HG := Lib.hid h2.en
        have hlt1 := h2.rd.lt
        have hlt2 := h2.en.lt
        have HQ := Lib.hid (QW.out.row_far (cs' := putC cs j [.int .i64 k, .string a, .string b, .string c, .bool t1]) hgx)
        clear h2 h3 h4 QR0
        refine walk_end ?_
        have QW2 := QW.out
        rw [putC_all (by rfl)] at QW2
        have m0 := QW2.cell 0
        have m1 := QW2.cell 1
        have m2 := QW2.cell 2
        have m3 := QW2.cell 3
        have m4 := QW2.cell 4
        simp only [List.getElem?_toArray, List.getElem?_cons_succ, List.getElem?_cons_zero] at m0 m1 m2 m3 m4
        clear QW2
        go_wp2_with (refine wpList_store_at rfl 52 (.tmp 36) (.tmp 34) rfl ge j #[.int .i64 k, .string a, .string b, .string c, .bool t1] rfl rfl t cs HG.out sizeE52 (by simp; omega) (all_one (by intro v hv; simp only [List.mem_cons, List.not_mem_nil, or_false] at hv; rcases hv with rfl | rfl | rfl | rfl | rfl <;> rfl)) ?_)
        go_end0
        refine ⟨rfl, _, H4.out, putC_size _ _ _ (by simp; omega), .inr ⟨by rw [adv_yes HB.out HP.out], _, E, ?_, rfl, by rw [adv_yes HB.out HP.out]; exact HE.out⟩⟩
        exact QR.out
      · have HP := Lib.hid hp
        have QB0 : Below w.heap.size w.drew w2 := ((Below.refl _ _).alloc (Nat.le_refl _) _).trans (hb2.mono (by simp))
        have QW0 : Whole w2 w.heap.size 52 #[.int .i64 0, .string ⟨#[]⟩, .string ⟨#[]⟩, .string ⟨#[]⟩, .bool false] := (Whole.new w.drew 52 #[.int .i64 0, .string ⟨#[]⟩, .string ⟨#[]⟩, .string ⟨#[]⟩, .bool false]).below hb2 (by simp)
        have h2 := HT.out.drew.below QB0
        have e0 := h2.rd.cell 0
        have e1 := h2.rd.cell 1
        simp only [List.getElem?_toArray, List.getElem?_cons_succ, List.getElem?_cons_zero] at e0 e1
        have hsz2 : w.heap.size ≤ w2.heap.size := QB0.size
        have hl1 := HT.out.rd.lt
        have hl2 := HT.out.en.lt
        have QB1 := Lib.hid QB0
        have QW1 := Lib.hid QW0
        clear hp h2 hb2 QB0 QW0
        go_wp2_with fail
        refine ⟨⟨e0, e1⟩, ?_⟩
        iterate 4
          apply walk_take rfl rfl
          · rintro w' ⟨c0, c1⟩
            go_simp
            with_reducible rfl
          simp only [List.getElem_toArray, List.getElem_cons_succ, List.getElem_cons_zero, Act.put, List.setIfInBounds_toArray, List.set_cons_zero, List.set_cons_succ]
        have QB2 := QB1
        have QB3 := Lib.hid (below_row QB2.out (show w.heap.size ≤ w.heap.size by exact Nat.le_refl _) (putC #[.int .i64 0, .string ⟨#[]⟩, .string ⟨#[]⟩, .string ⟨#[]⟩, .bool false] 0 [.int .i64 0, .string ⟨#[]⟩, .string ⟨#[]⟩, .string ⟨#[]⟩, .bool false]))
        have QW := Lib.hid (QW1.out.row (cs' := putC #[.int .i64 0, .string ⟨#[]⟩, .string ⟨#[]⟩, .string ⟨#[]⟩, .bool false] 0 [.int .i64 0, .string ⟨#[]⟩, .string ⟨#[]⟩, .string ⟨#[]⟩, .bool false]))
        have h6 := HT.out.drew.below QB3.out
        have e0 := h6.rd.cell 0
        have e1 := h6.rd.cell 1
        simp only [List.getElem?_toArray, List.getElem?_cons_succ, List.getElem?_cons_zero] at e0 e1
        clear h6
        refine walk_store rfl rfl rfl rfl rfl rfl QW1.out sizeE52 (by simp) (all_one (by intro v hv; simp only [List.mem_cons, List.not_mem_nil, or_false] at hv; rcases hv with rfl | rfl | rfl | rfl | rfl <;> rfl)) ⟨e0, e1⟩ ?_
        have hgx : w.heap.size ≠ ge := by omega
        generalize (w2).setRow w.heap.size (putC #[.int .i64 0, .string ⟨#[]⟩, .string ⟨#[]⟩, .string ⟨#[]⟩, .bool false] 0 [.int .i64 0, .string ⟨#[]⟩, .string ⟨#[]⟩, .string ⟨#[]⟩, .bool false]) = W at QB3 QW e0 e1 ⊢
        have QB := QB3
        clear QB3
        iterate 2
          apply walk_take rfl rfl
          · rintro w' ⟨c0, c1⟩
            go_simp
            with_reducible rfl
          simp only [List.getElem_toArray, List.getElem_cons_succ, List.getElem_cons_zero, Act.put, List.setIfInBounds_toArray, List.set_cons_zero, List.set_cons_succ]
        have h2 := HT.out.drew.below QB.out
        have e0 := h2.rd.cell 0
        have e1 := h2.rd.cell 1
        have e2 := h2.rd.cell 2
        have f2 := h2.rd.free 2
        simp only [List.getElem?_toArray, List.getElem?_cons_succ, List.getElem?_cons_zero] at e0 e1 e2
        have h4 := h2.no (p := lOp) hne HB.out HP.out
        have H4 := Lib.hid h4
        clear h2 h4
        refine walk_end ?_
        go_wp2
        refine bodyPost_ret (results_none rfl _ _ _) rfl ?_
        exact ⟨rfl, cs, H4.out, rfl, .inl ⟨by rw [adv_no HB.out HP.out], rfl⟩⟩

end Go.Proofs.Ytjpaljiielemgaa
