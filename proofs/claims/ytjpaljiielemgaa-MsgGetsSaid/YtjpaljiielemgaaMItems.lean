/- msg.items: a list that is read. -/
import Derived.Test.YtjpaljiielemgaaMItemsSt
import Derived.Test.YtjpaljiielemgaaGetOp
namespace Go.Proofs.Ytjpaljiielemgaa
open Go.RowKit
attribute [local go_sem] store_cplx

theorem Try.info110 : (Try.prog.info? 110).map (fun i => (i.zero, i.size, i.bytes)) = some (some (.agg #[.int .i64 0, .int .i64 0]), 2, 16) := by kernel_rfl
theorem Try.info48 : (Try.prog.info? 48).map (fun i => (i.zero, i.size, i.bytes)) = some (some (.agg entZero), 11, 112) := by kernel_rfl
theorem Try.info127 : (Try.prog.info? 127).map (fun i => (i.zero, i.size, i.bytes)) = some (some (.agg #[.int .i64 0, .int .i64 0, .complex .f64 0 0, .int .i64 0, .int .i64 0, .string ⟨#[]⟩, .bool false]), 7, 72) := by kernel_rfl
theorem Try.info115 : (Try.prog.info? 115).map (fun i => (i.zero, i.size, i.bytes)) = some (some (.agg #[.int .i64 0, .int .i64 0, .int .i64 0, .int .i64 0, .slice none 0 0]), 5, 56) := by kernel_rfl
theorem get_went {xs : List UInt8} {at0 : Nat} {n : Int} {u : Nat} (h : Pure.get (xs.drop at0) = some (n, u)) : Went xs at0 (at0 + u) (Pure.enc n) := by
  obtain ⟨n', r, hv, hl, hul, h1, h2⟩ := pInt_inv (l := xs.drop at0) (v := .int .i64 n) (u := u) (by unfold pInt; rw [h])
  simp only [Value.int.injEq, true_and] at hv
  subst hv
  refine ⟨r, hl, ?_, by rw [hul]⟩
  rw [← List.drop_drop, hl, hul, List.drop_left]
theorem lst_slice {t : TypeId} {size : Nat} {R : Rel} {B : Nat} {w : World} {V : Value} {E : List UInt8} (h : lstV t size R B w V E) : ∃ a n m, V = .slice a n m := by
  obtain ⟨n, Vs, Es, _, _, _, h4, _⟩ := h
  rcases h4.2 with ⟨rfl, _⟩ | ⟨g, cap, cur, rfl, _⟩
  · exact ⟨_, _, _, rfl⟩
  · exact ⟨_, _, _, rfl⟩
theorem cells_at (w : World) (t : TypeId) (cs : Array Value) (g : Nat) (hg : w.heap.size = g) : ∀ j u, cs.toList[j]? = some u → (w.alloc (.cells cs t)).cell? ((⟨g, 0, none⟩ : Addr).add j) = some u := by
  intro j u h
  subst hg
  have hadd : (⟨w.heap.size, 0, none⟩ : Addr).add j = ⟨w.heap.size, j, none⟩ := by unfold Addr.add; split <;> simp_all
  rw [hadd, (Whole.new w t cs).cell j]
  simpa using h

def memZ (V : Value) (_ : Int) : Prop := ∃ a b, V = .agg #[.int .i64 a, .int .i64 b]
def memL (V : Value) (n : Int) : Prop := V = .slice none 0 0 ∧ n = 0
set_option maxRecDepth 100000 in
set_option maxHeartbeats 2000000 in
theorem items_mem (hget : Getter 64 lMem memV memZ) (w : World) (v : Value) (xs : List UInt8) (at0 : Nat) (hat : at0 ≤ far) (hx : xs.length ≤ far) (hv : Bytes w v xs) :
    Calls Try.prog 92 #[v, .int .i64 at0, .func (.func 64) #[] #[]] w (GotAt (lItems lMem) (lstV 110 2 memV) memL xs at0 w) := by
  have HV := Lib.hid hv
  have HG := Lib.hid hget
  have HX := Lib.hid hx
  clear hv hget hx
  cases hgt : Pure.get (xs.drop at0) with
  | none =>
    have hc := getInt_none hgt (by unfold far at hat; omega) HV.out
    have HN := Lib.hid hgt
    clear hgt
    go_enter Try.func92, Try.ntmps92
    go_wp2_with fail
    refine hc.mono ?_
    rintro e w' ⟨rfl, rfl⟩
    go_wp2
    go_ret3
    exact ⟨Below.refl _ _, .inr ⟨lItems_none HN.out, _, _, ⟨rfl, rfl⟩, rfl⟩⟩
  | some r =>
    obtain ⟨n, u⟩ := r
    have hc := getInt_some hgt (by unfold far at hat; omega) HV.out
    obtain ⟨hin, _⟩ := get_in hgt
    have hfar : at0 + u ≤ far := by have := HX.out; omega
    have HN := Lib.hid hgt
    have HC := Lib.hid hc
    have HF := Lib.hid hfar
    clear hgt hc
    by_cases hn : 0 ≤ n ∧ n ≤ 4096
    · obtain ⟨hn0, hn1⟩ := hn
      go_enter Try.func92, Try.ntmps92
      go_wp2_with fail
      refine HC.out.mono ?_
      rintro e w' ⟨rfl, rfl⟩
      go_wp2
      go_loopw [1, 11, 33] (fun a x i wr => ∃ (k s : Nat) (V : Value) (Vs : List Value) (Es : List (List UInt8)), (k : Int) ≤ n ∧ a = .int .i64 s ∧ V = x ∧ i = .int .i64 k ∧ ItemsSt lMem 110 2 memV xs w wr (at0 + u) k s V Vs Es) (fun _ _ i _ => n.toNat - (intOf i).toNat)
      case atStart => exact ⟨0, at0 + u, _, [], [], hn0, by simp, rfl, rfl, ItemsSt.nil _ _ _ _ _ _ _ HF.out⟩
      case round =>
        obtain ⟨k, s, V, Vs, Es, hk, rfl, rfl, rfl, hst⟩ := hrel
        have HS := Lib.hid hst
        clear hst
        by_cases hlt : (k : Int) < n
        · go_wp2_with fail
          refine (HG.out _ v xs s HS.out.near HX.out (HV.out.keep HS.out.below)).mono ?_
          rintro e w1 ⟨hb, ⟨u', X, E, hp, hu, hwe, ⟨a, b, q1, q2, rfl, rfl⟩, rfl⟩ | ⟨hp, X, n', ⟨a, b, rfl⟩, rfl⟩⟩
          · have HB := Lib.hid hb
            have HP := Lib.hid hp
            have HU := Lib.hid hu
            have HE := Lib.hid hwe
            clear hb hp hu hwe
            have hb2 : Below w1.heap.size w1 ((w1.alloc (.cells #[.int .i64 a, .int .i64 b] 110)).alloc (.cells #[.int .i64 a, .int .i64 b] 110)) := ((Below.refl _ _).alloc (Nat.le_refl _) _).alloc (by simp) _
            have hk2 := HS.out.keep fair_mem (HB.out.trans (hb2.mono HB.out.size))
            have hsz := hk2.below.size
            have HK := Lib.hid hk2
            have HB2 := Lib.hid hb2
            obtain ⟨i0, hi, hz0, hz1, hz2⟩ := info_parts Try.info110
            clear hk2 hb2
            go_wp2_with (at_builtin; refine wpList_append_own _ rfl (.tmp 45) (.tmp 47) 58 rfl w.heap.size 110 i0 _ 2 16 Try.underlying58 hi hz0 hz1 hz2 rfl (by decide) V k _ rfl HK.out.row ⟨w1.heap.size + 1, 0, none⟩ 1 1 [.int .i64 a, .int .i64 b] rfl rfl (cells_at _ _ _ _ (by simp)) (by intro u hu; simp at hu; rcases hu with rfl | rfl <;> rfl) (by unfold maxLen; omega) (by omega) hsz ?_; intro v1 w3 hown1 hgrow1 hnil1)
            have hnew := HS.out.more fair_mem (firm_mem 110) HB.out HP.out HU.out HE.out (⟨a, b, q1, q2, rfl, rfl⟩) HB2.out hown1 hgrow1
            go_roundw
            case rel => exact ⟨k + 1, s + u', _, _, _, by omega, by simp, rfl, by go_num, hnew⟩
            case measure => simp [intOf]; omega
          · have HB := Lib.hid hb
            have hbd := HS.out.bad hp (n.toNat - (k + 1))
            have e0 : k + 1 + (n.toNat - (k + 1)) = n.toNat := by omega
            rw [e0] at hbd
            have hno := lItems_no HN.out hbd
            have HR := Lib.hid hno
            clear hb hp hbd e0 hno
            go_wp2
            go_ret3
            refine ⟨?_, .inr ⟨HR.out, _, _, ⟨rfl, rfl⟩, rfl⟩⟩
            have hb := HB.out
            have hs := HS.out.below.size
            exact HS.out.below.trans ((hb.trans ((Below.refl _ _).alloc hb.size _)).mono hs)
        · have hkn : (k : Int) = n := by omega
          obtain ⟨e1, F, h1, h2, h3, h4⟩ := HS.out.whole HN.out hn0 hn1 hkn (get_went HN.out)
          have H1 := Lib.hid h1; have H2 := Lib.hid h2; have H3 := Lib.hid h3; have H4 := Lib.hid h4
          clear h1 h2 h3 h4 hkn
          go_wp2
          go_ret3
          refine ⟨HS.out.below, .inl ⟨e1, _, F, H1.out, ?_, H3.out, H4.out, ?_⟩⟩
          · have h1 := HS.out.near
            have h2 := H2.out
            omega
          · have h2 := H2.out
            rw [← h2]; simp
    · go_enter Try.func92, Try.ntmps92
      go_wp2_with fail
      refine HC.out.mono ?_
      rintro e w' ⟨rfl, rfl⟩
      have hfar := lItems_far (p := lMem) HN.out hn
      have HR := Lib.hid hfar
      clear hfar
      by_cases hn0 : n < 0
      all_goals
        have hn2 : 4096 < n ∨ n < 0 := by omega
        clear hn
        go_wp2
        go_ret3
        exact ⟨Below.refl _ _, .inr ⟨HR.out, _, _, ⟨rfl, rfl⟩, rfl⟩⟩

def entZ (V : Value) (_ : Int) : Prop := V = .agg #[.complex .f64 0 0, .int .i64 0, .string ⟨#[]⟩, .string ⟨#[]⟩, .bool false, .bool false, .int .i64 0, .int .i64 0, .int .i64 0, .string ⟨#[]⟩, .bool false]
def entL (V : Value) (n : Int) : Prop := V = .slice none 0 0 ∧ n = 0
set_option maxRecDepth 100000 in
set_option maxHeartbeats 2000000 in
theorem items_ent (hget : Getter 31 lEnt entV entZ) (w : World) (v : Value) (xs : List UInt8) (at0 : Nat) (hat : at0 ≤ far) (hx : xs.length ≤ far) (hv : Bytes w v xs) :
    Calls Try.prog 89 #[v, .int .i64 at0, .func (.func 31) #[] #[]] w (GotAt (lItems lEnt) (lstV 48 11 entV) entL xs at0 w) := by
  have HV := Lib.hid hv
  have HG := Lib.hid hget
  have HX := Lib.hid hx
  clear hv hget hx
  cases hgt : Pure.get (xs.drop at0) with
  | none =>
    have hc := getInt_none hgt (by unfold far at hat; omega) HV.out
    have HN := Lib.hid hgt
    clear hgt
    go_enter Try.func89, Try.ntmps89
    go_wp2_with fail
    refine hc.mono ?_
    rintro e w' ⟨rfl, rfl⟩
    go_wp2
    go_ret3
    exact ⟨Below.refl _ _, .inr ⟨lItems_none HN.out, _, _, ⟨rfl, rfl⟩, rfl⟩⟩
  | some r =>
    obtain ⟨n, u⟩ := r
    have hc := getInt_some hgt (by unfold far at hat; omega) HV.out
    obtain ⟨hin, _⟩ := get_in hgt
    have hfar : at0 + u ≤ far := by have := HX.out; omega
    have HN := Lib.hid hgt
    have HC := Lib.hid hc
    have HF := Lib.hid hfar
    clear hgt hc
    by_cases hn : 0 ≤ n ∧ n ≤ 4096
    · obtain ⟨hn0, hn1⟩ := hn
      go_enter Try.func89, Try.ntmps89
      go_wp2_with fail
      refine HC.out.mono ?_
      rintro e w' ⟨rfl, rfl⟩
      go_wp2
      go_loopw [1, 11, 33] (fun a x i wr => ∃ (k s : Nat) (V : Value) (Vs : List Value) (Es : List (List UInt8)), (k : Int) ≤ n ∧ a = .int .i64 s ∧ V = x ∧ i = .int .i64 k ∧ ItemsSt lEnt 48 11 entV xs w wr (at0 + u) k s V Vs Es) (fun _ _ i _ => n.toNat - (intOf i).toNat)
      case atStart => exact ⟨0, at0 + u, _, [], [], hn0, by simp, rfl, rfl, ItemsSt.nil _ _ _ _ _ _ _ HF.out⟩
      case round =>
        obtain ⟨k, s, V, Vs, Es, hk, rfl, rfl, rfl, hst⟩ := hrel
        have HS := Lib.hid hst
        clear hst
        by_cases hlt : (k : Int) < n
        · go_wp2_with fail
          refine (HG.out _ v xs s HS.out.near HX.out (HV.out.keep HS.out.below)).mono ?_
          rintro e w1 ⟨hb, ⟨u', X, E, hp, hu, hwe, ⟨x, y, k1, a, b, s1, t1, l, m, n1, c, u1, q1, q2, q3, q4, q5, q6, q7, q8, q9, rfl, rfl⟩, rfl⟩ | ⟨hp, X, n', ⟨rfl⟩, rfl⟩⟩
          · have HB := Lib.hid hb
            have HP := Lib.hid hp
            have HU := Lib.hid hu
            have HE := Lib.hid hwe
            clear hb hp hu hwe
            have hb2 : Below w1.heap.size w1 ((w1.alloc (.cells #[.complex .f64 (Flo.flo x) (Flo.flo y), .int .i64 k1, .string a, .string b, .bool s1, .bool t1, .int .i64 l, .int .i64 m, .int .i64 n1, .string c, .bool u1] 48)).alloc (.cells #[.complex .f64 (Flo.flo x) (Flo.flo y), .int .i64 k1, .string a, .string b, .bool s1, .bool t1, .int .i64 l, .int .i64 m, .int .i64 n1, .string c, .bool u1] 48)) := ((Below.refl _ _).alloc (Nat.le_refl _) _).alloc (by simp) _
            have hk2 := HS.out.keep fair_ent (HB.out.trans (hb2.mono HB.out.size))
            have hsz := hk2.below.size
            have HK := Lib.hid hk2
            have HB2 := Lib.hid hb2
            obtain ⟨i0, hi, hz0, hz1, hz2⟩ := info_parts Try.info48
            clear hk2 hb2
            go_wp2_with (at_builtin; refine wpList_append_own _ rfl (.tmp 45) (.tmp 47) 57 rfl w.heap.size 48 i0 _ 11 112 Try.underlying57 hi hz0 hz1 hz2 rfl (by decide) V k _ rfl HK.out.row ⟨w1.heap.size + 1, 0, none⟩ 1 1 [.complex .f64 (Flo.flo x) (Flo.flo y), .int .i64 k1, .string a, .string b, .bool s1, .bool t1, .int .i64 l, .int .i64 m, .int .i64 n1, .string c, .bool u1] rfl rfl (cells_at _ _ _ _ (by simp)) (by intro u hu; simp at hu; rcases hu with rfl | rfl | rfl | rfl | rfl | rfl | rfl | rfl | rfl | rfl | rfl <;> rfl) (by unfold maxLen; omega) (by omega) hsz ?_; intro v1 w3 hown1 hgrow1 hnil1)
            have hnew := HS.out.more fair_ent (firm_ent 48) HB.out HP.out HU.out HE.out (⟨x, y, k1, a, b, s1, t1, l, m, n1, c, u1, q1, q2, q3, q4, q5, q6, q7, q8, q9, rfl, rfl⟩) HB2.out hown1 hgrow1
            go_roundw
            case rel => exact ⟨k + 1, s + u', _, _, _, by omega, by simp, rfl, by go_num, hnew⟩
            case measure => simp [intOf]; omega
          · have HB := Lib.hid hb
            have hbd := HS.out.bad hp (n.toNat - (k + 1))
            have e0 : k + 1 + (n.toNat - (k + 1)) = n.toNat := by omega
            rw [e0] at hbd
            have hno := lItems_no HN.out hbd
            have HR := Lib.hid hno
            clear hb hp hbd e0 hno
            go_wp2
            go_ret3
            refine ⟨?_, .inr ⟨HR.out, _, _, ⟨rfl, rfl⟩, rfl⟩⟩
            have hb := HB.out
            have hs := HS.out.below.size
            exact HS.out.below.trans ((hb.trans ((Below.refl _ _).alloc hb.size _)).mono hs)
        · have hkn : (k : Int) = n := by omega
          obtain ⟨e1, F, h1, h2, h3, h4⟩ := HS.out.whole HN.out hn0 hn1 hkn (get_went HN.out)
          have H1 := Lib.hid h1; have H2 := Lib.hid h2; have H3 := Lib.hid h3; have H4 := Lib.hid h4
          clear h1 h2 h3 h4 hkn
          go_wp2
          go_ret3
          refine ⟨HS.out.below, .inl ⟨e1, _, F, H1.out, ?_, H3.out, H4.out, ?_⟩⟩
          · have h1 := HS.out.near
            have h2 := H2.out
            omega
          · have h2 := H2.out
            rw [← h2]; simp
    · go_enter Try.func89, Try.ntmps89
      go_wp2_with fail
      refine HC.out.mono ?_
      rintro e w' ⟨rfl, rfl⟩
      have hfar := lItems_far (p := lEnt) HN.out hn
      have HR := Lib.hid hfar
      clear hfar
      by_cases hn0 : n < 0
      all_goals
        have hn2 : 4096 < n ∨ n < 0 := by omega
        clear hn
        go_wp2
        go_ret3
        exact ⟨Below.refl _ _, .inr ⟨HR.out, _, _, ⟨rfl, rfl⟩, rfl⟩⟩

def seenZ (V : Value) (_ : Int) : Prop := ∃ a b x y k1 c s1 t1, V = .agg #[.int .i64 a, .int .i64 b, .complex .f64 x y, .int .i64 k1, .int .i64 c, .string s1, .bool t1]
def seenL (V : Value) (n : Int) : Prop := V = .slice none 0 0 ∧ n = 0
set_option maxRecDepth 100000 in
set_option maxHeartbeats 2000000 in
theorem items_seen (hget : Getter 73 lSeen seenV seenZ) (w : World) (v : Value) (xs : List UInt8) (at0 : Nat) (hat : at0 ≤ far) (hx : xs.length ≤ far) (hv : Bytes w v xs) :
    Calls Try.prog 97 #[v, .int .i64 at0, .func (.func 73) #[] #[]] w (GotAt (lItems lSeen) (lstV 127 7 seenV) seenL xs at0 w) := by
  have HV := Lib.hid hv
  have HG := Lib.hid hget
  have HX := Lib.hid hx
  clear hv hget hx
  cases hgt : Pure.get (xs.drop at0) with
  | none =>
    have hc := getInt_none hgt (by unfold far at hat; omega) HV.out
    have HN := Lib.hid hgt
    clear hgt
    go_enter Try.func97, Try.ntmps97
    go_wp2_with fail
    refine hc.mono ?_
    rintro e w' ⟨rfl, rfl⟩
    go_wp2
    go_ret3
    exact ⟨Below.refl _ _, .inr ⟨lItems_none HN.out, _, _, ⟨rfl, rfl⟩, rfl⟩⟩
  | some r =>
    obtain ⟨n, u⟩ := r
    have hc := getInt_some hgt (by unfold far at hat; omega) HV.out
    obtain ⟨hin, _⟩ := get_in hgt
    have hfar : at0 + u ≤ far := by have := HX.out; omega
    have HN := Lib.hid hgt
    have HC := Lib.hid hc
    have HF := Lib.hid hfar
    clear hgt hc
    by_cases hn : 0 ≤ n ∧ n ≤ 4096
    · obtain ⟨hn0, hn1⟩ := hn
      go_enter Try.func97, Try.ntmps97
      go_wp2_with fail
      refine HC.out.mono ?_
      rintro e w' ⟨rfl, rfl⟩
      go_wp2
      go_loopw [1, 11, 33] (fun a x i wr => ∃ (k s : Nat) (V : Value) (Vs : List Value) (Es : List (List UInt8)), (k : Int) ≤ n ∧ a = .int .i64 s ∧ V = x ∧ i = .int .i64 k ∧ ItemsSt lSeen 127 7 seenV xs w wr (at0 + u) k s V Vs Es) (fun _ _ i _ => n.toNat - (intOf i).toNat)
      case atStart => exact ⟨0, at0 + u, _, [], [], hn0, by simp, rfl, rfl, ItemsSt.nil _ _ _ _ _ _ _ HF.out⟩
      case round =>
        obtain ⟨k, s, V, Vs, Es, hk, rfl, rfl, rfl, hst⟩ := hrel
        have HS := Lib.hid hst
        clear hst
        by_cases hlt : (k : Int) < n
        · go_wp2_with fail
          refine (HG.out _ v xs s HS.out.near HX.out (HV.out.keep HS.out.below)).mono ?_
          rintro e w1 ⟨hb, ⟨u', X, E, hp, hu, hwe, ⟨a, b, x, y, k1, c, s1, t1, q1, q2, q3, q4, q5, q6, q7, rfl, rfl⟩, rfl⟩ | ⟨hp, X, n', ⟨a, b, x, y, k1, c, s1, t1, rfl⟩, rfl⟩⟩
          · have HB := Lib.hid hb
            have HP := Lib.hid hp
            have HU := Lib.hid hu
            have HE := Lib.hid hwe
            clear hb hp hu hwe
            have hb2 : Below w1.heap.size w1 ((w1.alloc (.cells #[.int .i64 a, .int .i64 b, .complex .f64 (Flo.flo x) (Flo.flo y), .int .i64 k1, .int .i64 c, .string s1, .bool t1] 127)).alloc (.cells #[.int .i64 a, .int .i64 b, .complex .f64 (Flo.flo x) (Flo.flo y), .int .i64 k1, .int .i64 c, .string s1, .bool t1] 127)) := ((Below.refl _ _).alloc (Nat.le_refl _) _).alloc (by simp) _
            have hk2 := HS.out.keep fair_seen (HB.out.trans (hb2.mono HB.out.size))
            have hsz := hk2.below.size
            have HK := Lib.hid hk2
            have HB2 := Lib.hid hb2
            obtain ⟨i0, hi, hz0, hz1, hz2⟩ := info_parts Try.info127
            clear hk2 hb2
            go_wp2_with (at_builtin; refine wpList_append_own _ rfl (.tmp 45) (.tmp 47) 60 rfl w.heap.size 127 i0 _ 7 72 Try.underlying60 hi hz0 hz1 hz2 rfl (by decide) V k _ rfl HK.out.row ⟨w1.heap.size + 1, 0, none⟩ 1 1 [.int .i64 a, .int .i64 b, .complex .f64 (Flo.flo x) (Flo.flo y), .int .i64 k1, .int .i64 c, .string s1, .bool t1] rfl rfl (cells_at _ _ _ _ (by simp)) (by intro u hu; simp at hu; rcases hu with rfl | rfl | rfl | rfl | rfl | rfl | rfl <;> rfl) (by unfold maxLen; omega) (by omega) hsz ?_; intro v1 w3 hown1 hgrow1 hnil1)
            have hnew := HS.out.more fair_seen (firm_seen 127) HB.out HP.out HU.out HE.out (⟨a, b, x, y, k1, c, s1, t1, q1, q2, q3, q4, q5, q6, q7, rfl, rfl⟩) HB2.out hown1 hgrow1
            go_roundw
            case rel => exact ⟨k + 1, s + u', _, _, _, by omega, by simp, rfl, by go_num, hnew⟩
            case measure => simp [intOf]; omega
          · have HB := Lib.hid hb
            have hbd := HS.out.bad hp (n.toNat - (k + 1))
            have e0 : k + 1 + (n.toNat - (k + 1)) = n.toNat := by omega
            rw [e0] at hbd
            have hno := lItems_no HN.out hbd
            have HR := Lib.hid hno
            clear hb hp hbd e0 hno
            go_wp2
            go_ret3
            refine ⟨?_, .inr ⟨HR.out, _, _, ⟨rfl, rfl⟩, rfl⟩⟩
            have hb := HB.out
            have hs := HS.out.below.size
            exact HS.out.below.trans ((hb.trans ((Below.refl _ _).alloc hb.size _)).mono hs)
        · have hkn : (k : Int) = n := by omega
          obtain ⟨e1, F, h1, h2, h3, h4⟩ := HS.out.whole HN.out hn0 hn1 hkn (get_went HN.out)
          have H1 := Lib.hid h1; have H2 := Lib.hid h2; have H3 := Lib.hid h3; have H4 := Lib.hid h4
          clear h1 h2 h3 h4 hkn
          go_wp2
          go_ret3
          refine ⟨HS.out.below, .inl ⟨e1, _, F, H1.out, ?_, H3.out, H4.out, ?_⟩⟩
          · have h1 := HS.out.near
            have h2 := H2.out
            omega
          · have h2 := H2.out
            rw [← h2]; simp
    · go_enter Try.func97, Try.ntmps97
      go_wp2_with fail
      refine HC.out.mono ?_
      rintro e w' ⟨rfl, rfl⟩
      have hfar := lItems_far (p := lSeen) HN.out hn
      have HR := Lib.hid hfar
      clear hfar
      by_cases hn0 : n < 0
      all_goals
        have hn2 : 4096 < n ∨ n < 0 := by omega
        clear hn
        go_wp2
        go_ret3
        exact ⟨Below.refl _ _, .inr ⟨HR.out, _, _, ⟨rfl, rfl⟩, rfl⟩⟩

def viewZ (V : Value) (_ : Int) : Prop := ∃ a b c d x1 n1 m1, V = .agg #[.int .i64 a, .int .i64 b, .int .i64 c, .int .i64 d, .slice x1 n1 m1]
def viewL (V : Value) (n : Int) : Prop := V = .slice none 0 0 ∧ n = 0
set_option maxRecDepth 100000 in
set_option maxHeartbeats 2000000 in
theorem items_view (hget : Getter 66 lView viewV viewZ) (w : World) (v : Value) (xs : List UInt8) (at0 : Nat) (hat : at0 ≤ far) (hx : xs.length ≤ far) (hv : Bytes w v xs) :
    Calls Try.prog 74 #[v, .int .i64 at0, .func (.func 66) #[] #[]] w (GotAt (lItems lView) (lstV 115 5 viewV) viewL xs at0 w) := by
  have HV := Lib.hid hv
  have HG := Lib.hid hget
  have HX := Lib.hid hx
  clear hv hget hx
  cases hgt : Pure.get (xs.drop at0) with
  | none =>
    have hc := getInt_none hgt (by unfold far at hat; omega) HV.out
    have HN := Lib.hid hgt
    clear hgt
    go_enter Try.func74, Try.ntmps74
    go_wp2_with fail
    refine hc.mono ?_
    rintro e w' ⟨rfl, rfl⟩
    go_wp2
    go_ret3
    exact ⟨Below.refl _ _, .inr ⟨lItems_none HN.out, _, _, ⟨rfl, rfl⟩, rfl⟩⟩
  | some r =>
    obtain ⟨n, u⟩ := r
    have hc := getInt_some hgt (by unfold far at hat; omega) HV.out
    obtain ⟨hin, _⟩ := get_in hgt
    have hfar : at0 + u ≤ far := by have := HX.out; omega
    have HN := Lib.hid hgt
    have HC := Lib.hid hc
    have HF := Lib.hid hfar
    clear hgt hc
    by_cases hn : 0 ≤ n ∧ n ≤ 4096
    · obtain ⟨hn0, hn1⟩ := hn
      go_enter Try.func74, Try.ntmps74
      go_wp2_with fail
      refine HC.out.mono ?_
      rintro e w' ⟨rfl, rfl⟩
      go_wp2
      go_loopw [1, 11, 33] (fun a x i wr => ∃ (k s : Nat) (V : Value) (Vs : List Value) (Es : List (List UInt8)), (k : Int) ≤ n ∧ a = .int .i64 s ∧ V = x ∧ i = .int .i64 k ∧ ItemsSt lView 115 5 viewV xs w wr (at0 + u) k s V Vs Es) (fun _ _ i _ => n.toNat - (intOf i).toNat)
      case atStart => exact ⟨0, at0 + u, _, [], [], hn0, by simp, rfl, rfl, ItemsSt.nil _ _ _ _ _ _ _ HF.out⟩
      case round =>
        obtain ⟨k, s, V, Vs, Es, hk, rfl, rfl, rfl, hst⟩ := hrel
        have HS := Lib.hid hst
        clear hst
        by_cases hlt : (k : Int) < n
        · go_wp2_with fail
          refine (HG.out _ v xs s HS.out.near HX.out (HV.out.keep HS.out.below)).mono ?_
          rintro e w1 ⟨hb, ⟨u', X, E, hp, hu, hwe, ⟨a, b, c, d, L, F, q1, q2, q3, q4, ql, rfl, rfl⟩, rfl⟩ | ⟨hp, X, n', ⟨a, b, c, d, x1, n1, m1, rfl⟩, rfl⟩⟩
          · have HB := Lib.hid hb
            obtain ⟨x1, n1, m1, rfl⟩ := lst_slice ql
            have QL := Lib.hid ql
            clear ql
            have HP := Lib.hid hp
            have HU := Lib.hid hu
            have HE := Lib.hid hwe
            clear hb hp hu hwe
            have hb2 : Below w1.heap.size w1 ((w1.alloc (.cells #[.int .i64 a, .int .i64 b, .int .i64 c, .int .i64 d, .slice x1 n1 m1] 115)).alloc (.cells #[.int .i64 a, .int .i64 b, .int .i64 c, .int .i64 d, .slice x1 n1 m1] 115)) := ((Below.refl _ _).alloc (Nat.le_refl _) _).alloc (by simp) _
            have hk2 := HS.out.keep fair_view (HB.out.trans (hb2.mono HB.out.size))
            have hsz := hk2.below.size
            have HK := Lib.hid hk2
            have HB2 := Lib.hid hb2
            obtain ⟨i0, hi, hz0, hz1, hz2⟩ := info_parts Try.info115
            clear hk2 hb2
            go_wp2_with (at_builtin; refine wpList_append_own _ rfl (.tmp 45) (.tmp 47) 59 rfl w.heap.size 115 i0 _ 5 56 Try.underlying59 hi hz0 hz1 hz2 rfl (by decide) V k _ rfl HK.out.row ⟨w1.heap.size + 1, 0, none⟩ 1 1 [.int .i64 a, .int .i64 b, .int .i64 c, .int .i64 d, .slice x1 n1 m1] rfl rfl (cells_at _ _ _ _ (by simp)) (by intro u hu; simp at hu; rcases hu with rfl | rfl | rfl | rfl | rfl <;> rfl) (by unfold maxLen; omega) (by omega) hsz ?_; intro v1 w3 hown1 hgrow1 hnil1)
            have hnew := HS.out.more fair_view (firm_view) HB.out HP.out HU.out HE.out (⟨a, b, c, d, _, F, q1, q2, q3, q4, QL.out, rfl, rfl⟩) HB2.out hown1 hgrow1
            go_roundw
            case rel => exact ⟨k + 1, s + u', _, _, _, by omega, by simp, rfl, by go_num, hnew⟩
            case measure => simp [intOf]; omega
          · have HB := Lib.hid hb
            have hbd := HS.out.bad hp (n.toNat - (k + 1))
            have e0 : k + 1 + (n.toNat - (k + 1)) = n.toNat := by omega
            rw [e0] at hbd
            have hno := lItems_no HN.out hbd
            have HR := Lib.hid hno
            clear hb hp hbd e0 hno
            go_wp2
            go_ret3
            refine ⟨?_, .inr ⟨HR.out, _, _, ⟨rfl, rfl⟩, rfl⟩⟩
            have hb := HB.out
            have hs := HS.out.below.size
            exact HS.out.below.trans ((hb.trans ((Below.refl _ _).alloc hb.size _)).mono hs)
        · have hkn : (k : Int) = n := by omega
          obtain ⟨e1, F, h1, h2, h3, h4⟩ := HS.out.whole HN.out hn0 hn1 hkn (get_went HN.out)
          have H1 := Lib.hid h1; have H2 := Lib.hid h2; have H3 := Lib.hid h3; have H4 := Lib.hid h4
          clear h1 h2 h3 h4 hkn
          go_wp2
          go_ret3
          refine ⟨HS.out.below, .inl ⟨e1, _, F, H1.out, ?_, H3.out, H4.out, ?_⟩⟩
          · have h1 := HS.out.near
            have h2 := H2.out
            omega
          · have h2 := H2.out
            rw [← h2]; simp
    · go_enter Try.func74, Try.ntmps74
      go_wp2_with fail
      refine HC.out.mono ?_
      rintro e w' ⟨rfl, rfl⟩
      have hfar := lItems_far (p := lView) HN.out hn
      have HR := Lib.hid hfar
      clear hfar
      by_cases hn0 : n < 0
      all_goals
        have hn2 : 4096 < n ∨ n < 0 := by omega
        clear hn
        go_wp2
        go_ret3
        exact ⟨Below.refl _ _, .inr ⟨HR.out, _, _, ⟨rfl, rfl⟩, rfl⟩⟩

end Go.Proofs.Ytjpaljiielemgaa
