/- The law WireUnlike: unlike numbers, unlike texts: one's bytes don't begin the other one's. -/
import Derived.Test.YtjpaljiielemgaaAwake3
import Derived.OpenShut
namespace Go.Proofs.Ytjpaljiielemgaa
open Go.RowKit

theorem enc_begins (a b : Int) (ha : -9223372036854775808 ≤ a ∧ a ≤ 9223372036854775807) (hb : -9223372036854775808 ≤ b ∧ b ≤ 9223372036854775807) :
    Pure.enc a = (Pure.enc b).take (Pure.enc a).length ↔ a = b := by
  constructor
  · intro h
    have h1 := Pure.get_enc b [] hb.1 hb.2
    have h2 := Pure.get_enc a ((Pure.enc b).drop (Pure.enc a).length) ha.1 ha.2
    have e : Pure.enc a ++ (Pure.enc b).drop (Pure.enc a).length = Pure.enc b := by
      conv => lhs; lhs; rw [h]
      exact List.take_append_drop _ _
    rw [e] at h2
    rw [List.append_nil] at h1
    rw [h1] at h2
    simp only [Option.some.injEq, Prod.mk.injEq] at h2
    exact h2.1.symm
  · rintro rfl; simp

theorem txt_begins (s t : List UInt8) (hs : s.length ≤ 1099511627776) (ht : t.length ≤ 1099511627776) : txt s = (txt t).take (txt s).length ↔ s = t := by
  constructor
  · intro h
    have e : txt s ++ (txt t).drop (txt s).length = txt t := by
      conv => lhs; lhs; rw [h]
      exact List.take_append_drop _ _
    have h1 := Pure.get_enc (t.length : Int) t (by omega) (by omega)
    have h2 := Pure.get_enc (s.length : Int) (s ++ (txt t).drop (txt s).length) (by omega) (by omega)
    rw [← List.append_assoc] at h2
    have h3 : Pure.enc (s.length : Int) ++ s ++ (txt t).drop (txt s).length = Pure.enc (t.length : Int) ++ t := e
    rw [h3, h1] at h2
    simp only [Option.some.injEq, Prod.mk.injEq] at h2
    have hl : t.length = s.length := by omega
    have h4 : txt s = txt t := by
      have : (txt s).length = (txt t).length := by simp [txt, hl]
      rw [h, this, List.take_length]
    have h5 : Pure.enc (s.length : Int) ++ s = Pure.enc (s.length : Int) ++ t := by
      have : Pure.enc (s.length : Int) ++ s = Pure.enc (t.length : Int) ++ t := h4
      rw [this, hl]
    exact List.append_cancel_left h5
  · rintro rfl; simp

theorem beq_of_iff {p q : Prop} [Decidable p] [Decidable q] (h : p ↔ q) : (decide p == decide q) = true := by simp [h]

set_option maxRecDepth 100000 in
set_option maxHeartbeats 400000 in
theorem unlike_walk (a0 : Int) (a1 : Int) (a2 : ByteArray) (a3 : ByteArray) (w : World) (w0 : (Lit.int .i64 a0).wf = true) (w1 : (Lit.int .i64 a1).wf = true) (w2 : a2.size ≤ maxLen) (w3 : a3.size ≤ maxLen) :
    Calls Try.prog 3 #[.int .i64 a0, .int .i64 a1, .string a2, .string a3] w fun e w' => e = .returned (.bool true) ∧ Below w.heap.size w w' := by
  have k0 := bounds_i64 w0
  have k1 := bounds_i64 w1
  unfold maxLen at w2 w3
  have hls : ∀ s : ByteArray, s.data.toList.length = s.size := fun s => by simp
  by_cases h2 : a2.size ≤ 5000
  · by_cases h3 : a3.size ≤ 5000
    · have i1 := enc_begins a0 a1 k0 k1
      have i2 := txt_begins a2.data.toList a3.data.toList (by rw [hls]; omega) (by rw [hls]; omega)
      have I1 := Lib.hid (show decide (Pure.enc a0 = List.take (Pure.enc a0).length (Pure.enc a1)) = (a0 == a1) by rw [Bool.eq_iff_iff]; simpa using i1)
      have I2 := Lib.hid (show (decide (txt a2.data.toList = List.take (txt a2.data.toList).length (txt a3.data.toList)) == (a2.toList == a3.toList)) = true by
        rw [ByteArray.toList_eq, ByteArray.toList_eq]
        rw [beq_iff_eq, Bool.eq_iff_iff, decide_eq_true_eq, beq_iff_eq]; exact i2)
      clear i1 i2 hls
      have d2 : decide ((5000 : Int) < (a2.size : Int)) = false := decide_eq_false (by omega)
      have d3 : decide ((5000 : Int) < (a3.size : Int)) = false := decide_eq_false (by omega)
      go_enter Try.func3, Try.ntmps3
      go_wp2_with fail
      refine (awake3_core w).mono ?_
      rintro e wa ⟨rfl, ba⟩
      go_wp2_with fail
      refine (int_core wa _ [] a1 k1.1 k1.2 (Buf.nil _) (by decide)).mono ?_
      rintro e wb ⟨vb, rfl, hb, hwb⟩
      rw [List.nil_append] at hb
      have bb : Below wa.heap.size wa wb := hwb.new rfl
      go_wp2_with fail
      refine (int_core wb _ [] a0 k0.1 k0.2 (Buf.nil _) (by decide)).mono ?_
      rintro e wc ⟨vc, rfl, hc, hwc⟩
      rw [List.nil_append] at hc
      have bc : Below wb.heap.size wb wc := hwc.new rfl
      go_wp2_with fail
      refine (begins_core wc vb vc _ _ (hb.bytes.keep bc) hc.bytes).mono ?_
      rintro e wd ⟨he, n1, hwd⟩
      rw [I1.out] at he
      subst he
      have bd : Below wc.heap.size wc wd := by rw [hwd]; exact below_drewN (Below.refl _ _) _
      clear hwd
      go_wp2_with fail
      refine (text_core wd _ [] a3 (by omega) (Buf.nil _) (by decide)).mono ?_
      rintro e wf ⟨vf, rfl, hf, hwf⟩
      rw [List.nil_append] at hf
      have bf : Below wd.heap.size wd wf := hwf.new rfl
      go_wp2_with fail
      refine (text_core wf _ [] a2 (by omega) (Buf.nil _) (by decide)).mono ?_
      rintro e wg ⟨vg, rfl, hg, hwg⟩
      rw [List.nil_append] at hg
      have bg : Below wf.heap.size wf wg := hwg.new rfl
      go_wp2_with fail
      refine (begins_core wg vf vg _ _ (hf.bytes.keep bg) hg.bytes).mono ?_
      rintro e wh ⟨he, n2, hwh⟩
      subst he
      go_wp2
      go_ret
      refine ⟨ret_bool I2.out, ?_⟩
      exact below_drewN (ba.trans ((bb.trans ((bc.trans ((bd.trans ((bf.trans (bg.mono bf.size)).mono bd.size)).mono bc.size)).mono bb.size)).mono ba.size)) _
    · have d2 : decide ((5000 : Int) < (a2.size : Int)) = false := decide_eq_false (by omega)
      have d3 : decide ((5000 : Int) < (a3.size : Int)) = true := decide_eq_true (by omega)
      go_enter Try.func3, Try.ntmps3
      go_wp2_with fail
      refine (awake3_core w).mono ?_
      rintro e wa ⟨rfl, ba⟩
      go_wp2
      go_ret
      exact ⟨rfl, ba⟩
  · have d2 : decide ((5000 : Int) < (a2.size : Int)) = true := decide_eq_true (by omega)
    go_enter Try.func3, Try.ntmps3
    go_wp2_with fail
    refine (awake3_core w).mono ?_
    rintro e wa ⟨rfl, ba⟩
    go_wp2
    go_ret
    exact ⟨rfl, ba⟩
end Go.Proofs.Ytjpaljiielemgaa
