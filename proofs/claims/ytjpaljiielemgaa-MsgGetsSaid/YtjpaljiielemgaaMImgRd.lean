/- msg.read of an image. -/
import Derived.Test.YtjpaljiielemgaaMOp
namespace Go.Proofs.Ytjpaljiielemgaa
open Go.RowKit
attribute [local go_sem] store_cplx

def imgZ (V : Value) (n : Int) : Prop := V = .agg #[.complex .f64 0 0, .complex .f64 0 0, .int .i64 0, .slice none 0 0, .slice none 0 0] ∧ n = 0

theorem sizeE62 : (Try.prog.info? 62).map (·.size) = some 5 := by kernel_rfl
theorem cell_old67 {w : World} (o : Obj) {a : Addr} {x : Value} (h : w.cell? a = some x) : (w.alloc o).cell? a = some x := by
  rw [← h]; exact World.cell?_of_block (w := w) (Below.heap_alloc w o a.block (World.block_lt_of_cell? w a h))
set_option maxRecDepth 100000 in
set_option maxHeartbeats 2000000 in
theorem readImg (hget : Getter 39 lImg imgV imgZ) {w : World} {gr ge : Nat} {t : TypeId} {v : Value} {xs : List UInt8} {s : Sp} {cs : Array Value} (j : Nat) (hst : MSt w w gr ge t v s cs) (hv : Bytes w v xs) (hne : gr ≠ ge) (hx : xs.length ≤ far) (hj : j + 5 ≤ cs.size) :
    Calls Try.prog 67 #[.pointer (some ⟨gr, 0, none⟩), .pointer (some ⟨ge, j, none⟩), .func (.func 39) #[] #[]] w fun e w' => e = .returned (.tuple #[]) ∧ ∃ cs', ReadS imgV lImg xs w w' gr ge t v s j cs cs' := by
  have c0 := hst.rd.cell 0
  have c1 := hst.rd.cell 1
  have c2 := hst.rd.cell 2
  simp only [List.getElem?_toArray, List.getElem?_cons_succ, List.getElem?_cons_zero] at c0 c1 c2
  have HT := Lib.hid hst
  have HW := Lib.hid hv
  clear hst hv
  cases hbad : s.bad with
  | true =>
    rw [hbad] at c2
    have HB := Lib.hid hbad
    clear hbad
    go_enter Try.func67, Try.ntmps67
    go_wp2
    refine bodyPost_ret (results_none rfl _ _ _) rfl ?_
    refine ⟨rfl, cs, ?_, rfl, .inl ⟨by rw [adv_bad HB.out]; exact HB.out, rfl⟩⟩
    rw [adv_bad HB.out]
    exact HT.out
  | false =>
    rw [hbad] at c2
    have HB := Lib.hid hbad
    clear hbad
    go_enter Try.func67, Try.ntmps67
    go_wp2_with fail
    refine wp_region_tree (fun w' => w'.cell? ⟨gr, 0, none⟩ = some v ∧ w'.cell? ⟨gr, 1, none⟩ = some (.int .i64 s.at0)) (Tr.take 0 (Tr.take 1 (Tr.take 2 (Tr.take 3 (Tr.take 4 (Tr.take 5 (Tr.take 6 (Tr.take 7 (Tr.take 8 (Tr.fork 9 14 (Tr.take 10 (Tr.take 11 (Tr.take 12 (Tr.take 13 (Tr.go 14 (Tr.go 15 (Tr.take 16 (Tr.take 17 Tr.done)))))))) (Tr.go 9 (Tr.take 10 (Tr.take 11 (Tr.take 12 (Tr.take 13 (Tr.go 15 (Tr.take 16 (Tr.take 17 Tr.done)))))))))))))))))) (by kernel_rfl) (by kernel_rfl) (fun _ _ d _ _ h => by cases d <;> exact h) ⟨c0, c1⟩ ?_
    iterate 9
      apply walk_take rfl rfl
      · rintro w' ⟨c0, c1⟩
        go_simp
        with_reducible rfl
      simp only [List.getElem_toArray, List.getElem_cons_succ, List.getElem_cons_zero, Act.put, List.setIfInBounds_toArray, List.set_cons_zero, List.set_cons_succ]
    refine walk_fork rfl rfl ?_ ?_
    · skip
      go_wp2_with fail
      refine (hget w.drew v xs s.at0 HT.out.near hx (HW.out.keep ((Below.refl _ _).drew))).mono ?_
      rintro e w2 ⟨hb2, ⟨u, V, E, hp, hu, hwe, hR, rfl⟩ | ⟨hp, V, n, ⟨rfl, rfl⟩, rfl⟩⟩
      · have HI := Lib.hid hR
        obtain ⟨x, y, x', y', g1, L, F, M, G, q1, q2, q3, q4, q5, qL, qM, rfl, q6⟩ := hR
        obtain ⟨aa, na, ca, rfl⟩ := lst_slice qL
        obtain ⟨ab, nb, cb, rfl⟩ := lst_slice qM
        clear qL qM
        have HP := Lib.hid hp
        have HU := Lib.hid hu
        have HE := Lib.hid hwe
        have QB0 : Below w.heap.size w.drew w2 := hb2
        have h2 := HT.out.drew.below QB0
        have e0 := h2.rd.cell 0
        have e1 := h2.rd.cell 1
        simp only [List.getElem?_toArray, List.getElem?_cons_succ, List.getElem?_cons_zero] at e0 e1
        have hsz2 : w.heap.size ≤ w2.heap.size := QB0.size
        have hl1 := HT.out.rd.lt
        have hl2 := HT.out.en.lt
        have QB1 := Lib.hid QB0
        clear hp h2 hb2 QB0 hu hwe
        go_wp2_with fail
        refine ⟨⟨e0, e1⟩, ?_⟩
        iterate 4
          apply walk_take rfl rfl
          · rintro w' ⟨c0, c1⟩
            go_simp
            with_reducible rfl
          simp only [List.getElem_toArray, List.getElem_cons_succ, List.getElem_cons_zero, Act.put, List.setIfInBounds_toArray, List.set_cons_zero, List.set_cons_succ]
        refine tree_go rfl ?_
        go_wp2_with fail
        refine ⟨⟨cell_old67 _ e0, cell_old67 _ e1⟩, ?_⟩
        have QW1 := Lib.hid (Whole.new w2 62 #[.complex .f64 0 0, .complex .f64 0 0, .int .i64 0, .slice none 0 0, .slice none 0 0])
        have QB2 := Lib.hid (QB1.out.alloc hsz2 (.cells #[.complex .f64 0 0, .complex .f64 0 0, .int .i64 0, .slice none 0 0, .slice none 0 0] 62))
        have QB3 := Lib.hid (below_row QB2.out (show w.heap.size ≤ w2.heap.size by exact hsz2) (putC #[.complex .f64 0 0, .complex .f64 0 0, .int .i64 0, .slice none 0 0, .slice none 0 0] 0 [.complex .f64 (Flo.flo x) (Flo.flo y), .complex .f64 (Flo.flo x') (Flo.flo y'), .int .i64 g1, .slice aa na ca, .slice ab nb cb]))
        have QW := Lib.hid (QW1.out.row (cs' := putC #[.complex .f64 0 0, .complex .f64 0 0, .int .i64 0, .slice none 0 0, .slice none 0 0] 0 [.complex .f64 (Flo.flo x) (Flo.flo y), .complex .f64 (Flo.flo x') (Flo.flo y'), .int .i64 g1, .slice aa na ca, .slice ab nb cb]))
        have h6 := HT.out.drew.below QB3.out
        have e0 := h6.rd.cell 0
        have e1 := h6.rd.cell 1
        simp only [List.getElem?_toArray, List.getElem?_cons_succ, List.getElem?_cons_zero] at e0 e1
        clear h6
        refine walk_store rfl rfl rfl rfl rfl rfl QW1.out sizeE62 (by simp) (all_one (by intro v hv; simp only [List.mem_cons, List.not_mem_nil, or_false] at hv; rcases hv with rfl | rfl | rfl | rfl | rfl <;> rfl)) ⟨e0, e1⟩ ?_
        have QR := Lib.hid (fair_img.keep HI.out (fun k hk hlt => (setRow_other (w2.alloc (.cells #[.complex .f64 0 0, .complex .f64 0 0, .int .i64 0, .slice none 0 0, .slice none 0 0] 62)) w2.heap.size k (putC #[.complex .f64 0 0, .complex .f64 0 0, .int .i64 0, .slice none 0 0, .slice none 0 0] 0 [.complex .f64 (Flo.flo x) (Flo.flo y), .complex .f64 (Flo.flo x') (Flo.flo y'), .int .i64 g1, .slice aa na ca, .slice ab nb cb]) (by omega)).trans (Below.heap_alloc w2 _ k hlt)))
        have hgx : w2.heap.size ≠ ge := by omega
        generalize ((w2.alloc (.cells #[.complex .f64 0 0, .complex .f64 0 0, .int .i64 0, .slice none 0 0, .slice none 0 0] 62))).setRow w2.heap.size (putC #[.complex .f64 0 0, .complex .f64 0 0, .int .i64 0, .slice none 0 0, .slice none 0 0] 0 [.complex .f64 (Flo.flo x) (Flo.flo y), .complex .f64 (Flo.flo x') (Flo.flo y'), .int .i64 g1, .slice aa na ca, .slice ab nb cb]) = W at QB3 QW e0 e1 QR ⊢
        have QB := QB3
        clear QB3
        iterate 2
          apply walk_take rfl rfl
          · rintro w' ⟨c0, c1⟩
            go_simp
            with_reducible rfl
          simp only [List.getElem_toArray, List.getElem_cons_succ, List.getElem_cons_zero, Act.put, List.setIfInBounds_toArray, List.set_cons_zero, List.set_cons_succ]
        have QR0 := QR.out
        have h2 := HT.out.drew.below QB.out
        have e0 := h2.rd.cell 0
        have e1 := h2.rd.cell 1
        simp only [List.getElem?_toArray, List.getElem?_cons_succ, List.getElem?_cons_zero] at e0 e1
        have h3 := h2.rd.row_far (cs' := putC cs j [.complex .f64 (Flo.flo x) (Flo.flo y), .complex .f64 (Flo.flo x') (Flo.flo y'), .int .i64 g1, .slice aa na ca, .slice ab nb cb]) hne
        have k1 := h3.cell 1
        have k2 := h3.free 1
        simp only [List.getElem?_toArray, List.getElem?_cons_succ, List.getElem?_cons_zero] at k1
        have h4 := h2.yesS (j := j) (Vs := [.complex .f64 (Flo.flo x) (Flo.flo y), .complex .f64 (Flo.flo x') (Flo.flo y'), .int .i64 g1, .slice aa na ca, .slice ab nb cb]) hne HB.out HP.out HU.out
        have H4 := Lib.hid h4
        have HG := Lib.hid h2.en
        have hlt1 := h2.rd.lt
        have hlt2 := h2.en.lt
        have HQ := Lib.hid (QW.out.row_far (cs' := putC cs j [.complex .f64 (Flo.flo x) (Flo.flo y), .complex .f64 (Flo.flo x') (Flo.flo y'), .int .i64 g1, .slice aa na ca, .slice ab nb cb]) hgx)
        clear h2 h3 h4 QR0
        refine walk_end ?_
        have QW2 := QW.out
        rw [putC_all (by rfl)] at QW2
        have m0 := QW2.cell 0
        have m1 := QW2.cell 1
        have m2 := QW2.cell 2
        have m3 := QW2.cell 3
        have m4 := QW2.cell 4
        simp only [List.getElem?_toArray, List.getElem?_cons_succ, List.getElem?_cons_zero] at m0 m1 m2 m3 m4
        clear QW2
        go_wp2_with (refine wpList_store_at rfl 62 (.tmp 36) (.tmp 34) rfl ge j #[.complex .f64 (Flo.flo x) (Flo.flo y), .complex .f64 (Flo.flo x') (Flo.flo y'), .int .i64 g1, .slice aa na ca, .slice ab nb cb] rfl rfl t cs HG.out sizeE62 (by simp; omega) (all_one (by intro v hv; simp only [List.mem_cons, List.not_mem_nil, or_false] at hv; rcases hv with rfl | rfl | rfl | rfl | rfl <;> rfl)) ?_)
        go_end0
        refine ⟨rfl, _, H4.out, putC_size _ _ _ (by simp; omega), .inr ⟨by rw [adv_yes HB.out HP.out], _, E, ?_, rfl, by rw [adv_yes HB.out HP.out]; exact HE.out⟩⟩
        exact fair_img.keep QR.out (fun k hk _ => (Below.heap_setCell _ _ _ _ (by show k ≠ gr; have hk : w.heap.size ≤ k := hk; omega)).trans (setRow_other W ge k _ (by have hk : w.heap.size ≤ k := hk; omega)))
      · have HP := Lib.hid hp
        have QB0 : Below w.heap.size w.drew w2 := hb2
        have h2 := HT.out.drew.below QB0
        have e0 := h2.rd.cell 0
        have e1 := h2.rd.cell 1
        simp only [List.getElem?_toArray, List.getElem?_cons_succ, List.getElem?_cons_zero] at e0 e1
        have hsz2 : w.heap.size ≤ w2.heap.size := QB0.size
        have hl1 := HT.out.rd.lt
        have hl2 := HT.out.en.lt
        have QB1 := Lib.hid QB0
        clear hp h2 hb2 QB0
        go_wp2_with fail
        refine ⟨⟨e0, e1⟩, ?_⟩
        iterate 4
          apply walk_take rfl rfl
          · rintro w' ⟨c0, c1⟩
            go_simp
            with_reducible rfl
          simp only [List.getElem_toArray, List.getElem_cons_succ, List.getElem_cons_zero, Act.put, List.setIfInBounds_toArray, List.set_cons_zero, List.set_cons_succ]
        refine tree_go rfl ?_
        go_wp2_with fail
        refine ⟨⟨cell_old67 _ e0, cell_old67 _ e1⟩, ?_⟩
        have QW1 := Lib.hid (Whole.new w2 62 #[.complex .f64 0 0, .complex .f64 0 0, .int .i64 0, .slice none 0 0, .slice none 0 0])
        have QB2 := Lib.hid (QB1.out.alloc hsz2 (.cells #[.complex .f64 0 0, .complex .f64 0 0, .int .i64 0, .slice none 0 0, .slice none 0 0] 62))
        have QB3 := Lib.hid (below_row QB2.out (show w.heap.size ≤ w2.heap.size by exact hsz2) (putC #[.complex .f64 0 0, .complex .f64 0 0, .int .i64 0, .slice none 0 0, .slice none 0 0] 0 [.complex .f64 0 0, .complex .f64 0 0, .int .i64 0, .slice none 0 0, .slice none 0 0]))
        have QW := Lib.hid (QW1.out.row (cs' := putC #[.complex .f64 0 0, .complex .f64 0 0, .int .i64 0, .slice none 0 0, .slice none 0 0] 0 [.complex .f64 0 0, .complex .f64 0 0, .int .i64 0, .slice none 0 0, .slice none 0 0]))
        have h6 := HT.out.drew.below QB3.out
        have e0 := h6.rd.cell 0
        have e1 := h6.rd.cell 1
        simp only [List.getElem?_toArray, List.getElem?_cons_succ, List.getElem?_cons_zero] at e0 e1
        clear h6
        refine walk_store rfl rfl rfl rfl rfl rfl QW1.out sizeE62 (by simp) (all_one (by intro v hv; simp only [List.mem_cons, List.not_mem_nil, or_false] at hv; rcases hv with rfl | rfl | rfl | rfl | rfl <;> rfl)) ⟨e0, e1⟩ ?_
        have hgx : w2.heap.size ≠ ge := by omega
        generalize ((w2.alloc (.cells #[.complex .f64 0 0, .complex .f64 0 0, .int .i64 0, .slice none 0 0, .slice none 0 0] 62))).setRow w2.heap.size (putC #[.complex .f64 0 0, .complex .f64 0 0, .int .i64 0, .slice none 0 0, .slice none 0 0] 0 [.complex .f64 0 0, .complex .f64 0 0, .int .i64 0, .slice none 0 0, .slice none 0 0]) = W at QB3 QW e0 e1 ⊢
        have QB := QB3
        clear QB3
        iterate 2
          apply walk_take rfl rfl
          · rintro w' ⟨c0, c1⟩
            go_simp
            with_reducible rfl
          simp only [List.getElem_toArray, List.getElem_cons_succ, List.getElem_cons_zero, Act.put, List.setIfInBounds_toArray, List.set_cons_zero, List.set_cons_succ]
        have h2 := HT.out.drew.below QB.out
        have e0 := h2.rd.cell 0
        have e1 := h2.rd.cell 1
        have e2 := h2.rd.cell 2
        have f2 := h2.rd.free 2
        simp only [List.getElem?_toArray, List.getElem?_cons_succ, List.getElem?_cons_zero] at e0 e1 e2
        have h4 := h2.no (p := lImg) hne HB.out HP.out
        have H4 := Lib.hid h4
        clear h2 h4
        refine walk_end ?_
        go_wp2
        refine bodyPost_ret (results_none rfl _ _ _) rfl ?_
        exact ⟨rfl, cs, H4.out, rfl, .inl ⟨by rw [adv_no HB.out HP.out], rfl⟩⟩
    · skip
      go_wp2_with fail
      refine ⟨⟨cell_old67 _ c0, cell_old67 _ c1⟩, ?_⟩
      refine tree_go rfl ?_
      go_wp2_with fail
      refine (hget (w.drew.alloc (.cells #[.complex .f64 0 0, .complex .f64 0 0, .int .i64 0, .slice none 0 0, .slice none 0 0] 62)) v xs s.at0 HT.out.near hx (HW.out.keep (((Below.refl _ _).drew).alloc (Nat.le_refl _) _))).mono ?_
      rintro e w2 ⟨hb2, ⟨u, V, E, hp, hu, hwe, hR, rfl⟩ | ⟨hp, V, n, ⟨rfl, rfl⟩, rfl⟩⟩
      · have HI := Lib.hid hR
        obtain ⟨x, y, x', y', g1, L, F, M, G, q1, q2, q3, q4, q5, qL, qM, rfl, q6⟩ := hR
        obtain ⟨aa, na, ca, rfl⟩ := lst_slice qL
        obtain ⟨ab, nb, cb, rfl⟩ := lst_slice qM
        clear qL qM
        have HP := Lib.hid hp
        have HU := Lib.hid hu
        have HE := Lib.hid hwe
        have QB0 : Below w.heap.size w.drew w2 := ((Below.refl _ _).alloc (Nat.le_refl _) _).trans (hb2.mono (by simp))
        have QW0 : Whole w2 w.heap.size 62 #[.complex .f64 0 0, .complex .f64 0 0, .int .i64 0, .slice none 0 0, .slice none 0 0] := (Whole.new w.drew 62 #[.complex .f64 0 0, .complex .f64 0 0, .int .i64 0, .slice none 0 0, .slice none 0 0]).below hb2 (by simp)
        have h2 := HT.out.drew.below QB0
        have e0 := h2.rd.cell 0
        have e1 := h2.rd.cell 1
        simp only [List.getElem?_toArray, List.getElem?_cons_succ, List.getElem?_cons_zero] at e0 e1
        have hsz2 : w.heap.size ≤ w2.heap.size := QB0.size
        have hl1 := HT.out.rd.lt
        have hl2 := HT.out.en.lt
        have QB1 := Lib.hid QB0
        have QW1 := Lib.hid QW0
        clear hp h2 hb2 QB0 hu hwe QW0
        go_wp2_with fail
        refine ⟨⟨e0, e1⟩, ?_⟩
        iterate 4
          apply walk_take rfl rfl
          · rintro w' ⟨c0, c1⟩
            go_simp
            with_reducible rfl
          simp only [List.getElem_toArray, List.getElem_cons_succ, List.getElem_cons_zero, Act.put, List.setIfInBounds_toArray, List.set_cons_zero, List.set_cons_succ]
        have QB2 := QB1
        have QB3 := Lib.hid (below_row QB2.out (show w.heap.size ≤ w.heap.size by exact Nat.le_refl _) (putC #[.complex .f64 0 0, .complex .f64 0 0, .int .i64 0, .slice none 0 0, .slice none 0 0] 0 [.complex .f64 (Flo.flo x) (Flo.flo y), .complex .f64 (Flo.flo x') (Flo.flo y'), .int .i64 g1, .slice aa na ca, .slice ab nb cb]))
        have QW := Lib.hid (QW1.out.row (cs' := putC #[.complex .f64 0 0, .complex .f64 0 0, .int .i64 0, .slice none 0 0, .slice none 0 0] 0 [.complex .f64 (Flo.flo x) (Flo.flo y), .complex .f64 (Flo.flo x') (Flo.flo y'), .int .i64 g1, .slice aa na ca, .slice ab nb cb]))
        have h6 := HT.out.drew.below QB3.out
        have e0 := h6.rd.cell 0
        have e1 := h6.rd.cell 1
        simp only [List.getElem?_toArray, List.getElem?_cons_succ, List.getElem?_cons_zero] at e0 e1
        clear h6
        refine walk_store rfl rfl rfl rfl rfl rfl QW1.out sizeE62 (by simp) (all_one (by intro v hv; simp only [List.mem_cons, List.not_mem_nil, or_false] at hv; rcases hv with rfl | rfl | rfl | rfl | rfl <;> rfl)) ⟨e0, e1⟩ ?_
        have QR := Lib.hid (fair_img.down (B' := w.heap.size) (fair_img.keep HI.out (fun k hk hlt => setRow_other w2 w.heap.size k (putC #[.complex .f64 0 0, .complex .f64 0 0, .int .i64 0, .slice none 0 0, .slice none 0 0] 0 [.complex .f64 (Flo.flo x) (Flo.flo y), .complex .f64 (Flo.flo x') (Flo.flo y'), .int .i64 g1, .slice aa na ca, .slice ab nb cb]) (by simp at hk; omega))) (by simp))
        have hgx : w.heap.size ≠ ge := by omega
        generalize (w2).setRow w.heap.size (putC #[.complex .f64 0 0, .complex .f64 0 0, .int .i64 0, .slice none 0 0, .slice none 0 0] 0 [.complex .f64 (Flo.flo x) (Flo.flo y), .complex .f64 (Flo.flo x') (Flo.flo y'), .int .i64 g1, .slice aa na ca, .slice ab nb cb]) = W at QB3 QW e0 e1 QR ⊢
        have QB := QB3
        clear QB3
        iterate 2
          apply walk_take rfl rfl
          · rintro w' ⟨c0, c1⟩
            go_simp
            with_reducible rfl
          simp only [List.getElem_toArray, List.getElem_cons_succ, List.getElem_cons_zero, Act.put, List.setIfInBounds_toArray, List.set_cons_zero, List.set_cons_succ]
        have QR0 := QR.out
        have h2 := HT.out.drew.below QB.out
        have e0 := h2.rd.cell 0
        have e1 := h2.rd.cell 1
        simp only [List.getElem?_toArray, List.getElem?_cons_succ, List.getElem?_cons_zero] at e0 e1
        have h3 := h2.rd.row_far (cs' := putC cs j [.complex .f64 (Flo.flo x) (Flo.flo y), .complex .f64 (Flo.flo x') (Flo.flo y'), .int .i64 g1, .slice aa na ca, .slice ab nb cb]) hne
        have k1 := h3.cell 1
        have k2 := h3.free 1
        simp only [List.getElem?_toArray, List.getElem?_cons_succ, List.getElem?_cons_zero] at k1
        have h4 := h2.yesS (j := j) (Vs := [.complex .f64 (Flo.flo x) (Flo.flo y), .complex .f64 (Flo.flo x') (Flo.flo y'), .int .i64 g1, .slice aa na ca, .slice ab nb cb]) hne HB.out HP.out HU.out
        have H4 := Lib.hid h4
        have HG := Lib.hid h2.en
        have hlt1 := h2.rd.lt
        have hlt2 := h2.en.lt
        have HQ := Lib.hid (QW.out.row_far (cs' := putC cs j [.complex .f64 (Flo.flo x) (Flo.flo y), .complex .f64 (Flo.flo x') (Flo.flo y'), .int .i64 g1, .slice aa na ca, .slice ab nb cb]) hgx)
        clear h2 h3 h4 QR0
        refine walk_end ?_
        have QW2 := QW.out
        rw [putC_all (by rfl)] at QW2
        have m0 := QW2.cell 0
        have m1 := QW2.cell 1
        have m2 := QW2.cell 2
        have m3 := QW2.cell 3
        have m4 := QW2.cell 4
        simp only [List.getElem?_toArray, List.getElem?_cons_succ, List.getElem?_cons_zero] at m0 m1 m2 m3 m4
        clear QW2
        go_wp2_with (refine wpList_store_at rfl 62 (.tmp 36) (.tmp 34) rfl ge j #[.complex .f64 (Flo.flo x) (Flo.flo y), .complex .f64 (Flo.flo x') (Flo.flo y'), .int .i64 g1, .slice aa na ca, .slice ab nb cb] rfl rfl t cs HG.out sizeE62 (by simp; omega) (all_one (by intro v hv; simp only [List.mem_cons, List.not_mem_nil, or_false] at hv; rcases hv with rfl | rfl | rfl | rfl | rfl <;> rfl)) ?_)
        go_end0
        refine ⟨rfl, _, H4.out, putC_size _ _ _ (by simp; omega), .inr ⟨by rw [adv_yes HB.out HP.out], _, E, ?_, rfl, by rw [adv_yes HB.out HP.out]; exact HE.out⟩⟩
        exact fair_img.keep QR.out (fun k hk _ => (Below.heap_setCell _ _ _ _ (by show k ≠ gr; have hk : w.heap.size ≤ k := hk; omega)).trans (setRow_other W ge k _ (by have hk : w.heap.size ≤ k := hk; omega)))
      · have HP := Lib.hid hp
        have QB0 : Below w.heap.size w.drew w2 := ((Below.refl _ _).alloc (Nat.le_refl _) _).trans (hb2.mono (by simp))
        have QW0 : Whole w2 w.heap.size 62 #[.complex .f64 0 0, .complex .f64 0 0, .int .i64 0, .slice none 0 0, .slice none 0 0] := (Whole.new w.drew 62 #[.complex .f64 0 0, .complex .f64 0 0, .int .i64 0, .slice none 0 0, .slice none 0 0]).below hb2 (by simp)
        have h2 := HT.out.drew.below QB0
        have e0 := h2.rd.cell 0
        have e1 := h2.rd.cell 1
        simp only [List.getElem?_toArray, List.getElem?_cons_succ, List.getElem?_cons_zero] at e0 e1
        have hsz2 : w.heap.size ≤ w2.heap.size := QB0.size
        have hl1 := HT.out.rd.lt
        have hl2 := HT.out.en.lt
        have QB1 := Lib.hid QB0
        have QW1 := Lib.hid QW0
        clear hp h2 hb2 QB0 QW0
        go_wp2_with fail
        refine ⟨⟨e0, e1⟩, ?_⟩
        iterate 4
          apply walk_take rfl rfl
          · rintro w' ⟨c0, c1⟩
            go_simp
            with_reducible rfl
          simp only [List.getElem_toArray, List.getElem_cons_succ, List.getElem_cons_zero, Act.put, List.setIfInBounds_toArray, List.set_cons_zero, List.set_cons_succ]
        have QB2 := QB1
        have QB3 := Lib.hid (below_row QB2.out (show w.heap.size ≤ w.heap.size by exact Nat.le_refl _) (putC #[.complex .f64 0 0, .complex .f64 0 0, .int .i64 0, .slice none 0 0, .slice none 0 0] 0 [.complex .f64 0 0, .complex .f64 0 0, .int .i64 0, .slice none 0 0, .slice none 0 0]))
        have QW := Lib.hid (QW1.out.row (cs' := putC #[.complex .f64 0 0, .complex .f64 0 0, .int .i64 0, .slice none 0 0, .slice none 0 0] 0 [.complex .f64 0 0, .complex .f64 0 0, .int .i64 0, .slice none 0 0, .slice none 0 0]))
        have h6 := HT.out.drew.below QB3.out
        have e0 := h6.rd.cell 0
        have e1 := h6.rd.cell 1
        simp only [List.getElem?_toArray, List.getElem?_cons_succ, List.getElem?_cons_zero] at e0 e1
        clear h6
        refine walk_store rfl rfl rfl rfl rfl rfl QW1.out sizeE62 (by simp) (all_one (by intro v hv; simp only [List.mem_cons, List.not_mem_nil, or_false] at hv; rcases hv with rfl | rfl | rfl | rfl | rfl <;> rfl)) ⟨e0, e1⟩ ?_
        have hgx : w.heap.size ≠ ge := by omega
        generalize (w2).setRow w.heap.size (putC #[.complex .f64 0 0, .complex .f64 0 0, .int .i64 0, .slice none 0 0, .slice none 0 0] 0 [.complex .f64 0 0, .complex .f64 0 0, .int .i64 0, .slice none 0 0, .slice none 0 0]) = W at QB3 QW e0 e1 ⊢
        have QB := QB3
        clear QB3
        iterate 2
          apply walk_take rfl rfl
          · rintro w' ⟨c0, c1⟩
            go_simp
            with_reducible rfl
          simp only [List.getElem_toArray, List.getElem_cons_succ, List.getElem_cons_zero, Act.put, List.setIfInBounds_toArray, List.set_cons_zero, List.set_cons_succ]
        have h2 := HT.out.drew.below QB.out
        have e0 := h2.rd.cell 0
        have e1 := h2.rd.cell 1
        have e2 := h2.rd.cell 2
        have f2 := h2.rd.free 2
        simp only [List.getElem?_toArray, List.getElem?_cons_succ, List.getElem?_cons_zero] at e0 e1 e2
        have h4 := h2.no (p := lImg) hne HB.out HP.out
        have H4 := Lib.hid h4
        clear h2 h4
        refine walk_end ?_
        go_wp2
        refine bodyPost_ret (results_none rfl _ _ _) rfl ?_
        exact ⟨rfl, cs, H4.out, rfl, .inl ⟨by rw [adv_no HB.out HP.out], rfl⟩⟩

end Go.Proofs.Ytjpaljiielemgaa
