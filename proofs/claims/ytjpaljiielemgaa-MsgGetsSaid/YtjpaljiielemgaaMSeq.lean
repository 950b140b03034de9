/- Things that are read one behind the other: what the cells hold, and which bytes were passed over. -/
import Derived.Test.YtjpaljiielemgaaMInts
import Derived.Test.YtjpaljiielemgaaMImgRd
namespace Go.Proofs.Ytjpaljiielemgaa
open Go.RowKit

/-- A field: one cell (none), or a struct of so many cells. -/
structure Fd where
  many : Option Nat
  rel : Rel
def Fd.width (f : Fd) : Nat := f.many.getD 1
def Fd.val (f : Fd) (cs : Array Value) (j : Nat) : Value := match f.many with
  | none => cs.getD j undef
  | some n => .agg (cs.toList.drop j |>.take n).toArray
def f1 (R : Rel) : Fd := ⟨none, R⟩
def fS (n : Nat) (R : Rel) : Fd := ⟨some n, R⟩

/-- From place j on the cells hold these fields, which are written as E. -/
def Row (B : Nat) (w : World) (cs : Array Value) : Nat → List Fd → List UInt8 → Prop
  | _, [], E => E = []
  | j, f :: fs, E => ∃ E1 E2, f.rel B w (f.val cs j) E1 ∧ Row B w cs (j + f.width) fs E2 ∧ E = E1 ++ E2
def widths (fs : List Fd) : Nat := (fs.map Fd.width).sum

theorem val_same {f : Fd} {cs cs' : Array Value} {j : Nat} (h : ∀ i, j ≤ i → i < j + f.width → cs'[i]? = cs[i]?) (_hs : cs'.size = cs.size) : f.val cs' j = f.val cs j := by
  unfold Fd.val
  cases hm : f.many with
  | none =>
    have := h j (Nat.le_refl _) (by unfold Fd.width; rw [hm]; simp)
    simp [Array.getD_eq_getD_getElem?, this]
  | some n =>
    simp only [Value.agg.injEq]
    apply Array.ext'
    simp only
    apply List.ext_getElem?
    intro i
    simp only [List.getElem?_take, List.getElem?_drop, Array.getElem?_toList]
    split
    · rename_i hi
      exact h (j + i) (by omega) (by unfold Fd.width; rw [hm]; simp; omega)
    · rfl

theorem Row.same {B : Nat} {w : World} {cs cs' : Array Value} (hs : cs'.size = cs.size) : ∀ {fs : List Fd} {j : Nat} {E : List UInt8}, Row B w cs j fs E → (∀ i, j ≤ i → i < j + widths fs → cs'[i]? = cs[i]?) → Row B w cs' j fs E
  | [], _, _, h, _ => h
  | f :: fs, j, E, ⟨E1, E2, h1, h2, h3⟩, hk => by
    refine ⟨E1, E2, ?_, h2.same hs (fun i a b => hk i (by omega) (by simp [widths] at b ⊢; omega)), h3⟩
    rw [val_same (fun i a b => hk i a (by simp [widths]; omega)) hs]
    exact h1

theorem Row.keep {B : Nat} {w w' : World} {cs : Array Value} (hk : Above B w w') : ∀ {fs : List Fd} {j : Nat} {E : List UInt8}, (∀ f ∈ fs, Fair f.rel) → Row B w cs j fs E → Row B w' cs j fs E
  | [], _, _, _, h => h
  | f :: fs, j, E, hf, ⟨E1, E2, h1, h2, h3⟩ => ⟨E1, E2, (hf f (by simp)).keep h1 hk, Row.keep hk (fun g hg => hf g (by simp [hg])) h2, h3⟩

theorem Row.down {B B' : Nat} {w : World} {cs : Array Value} (hk : B' ≤ B) : ∀ {fs : List Fd} {j : Nat} {E : List UInt8}, (∀ f ∈ fs, Fair f.rel) → Row B w cs j fs E → Row B' w cs j fs E
  | [], _, _, _, h => h
  | f :: fs, j, E, hf, ⟨E1, E2, h1, h2, h3⟩ => ⟨E1, E2, (hf f (by simp)).down h1 hk, Row.down hk (fun g hg => hf g (by simp [hg])) h2, h3⟩

theorem Row.snoc {B : Nat} {w : World} {cs : Array Value} {g : Fd} {F : List UInt8} : ∀ {fs : List Fd} {j : Nat} {E : List UInt8}, Row B w cs j fs E → g.rel B w (g.val cs (j + widths fs)) F → Row B w cs j (fs ++ [g]) (E ++ F)
  | [], j, E, h, hg => by
    have h : E = [] := h
    subst h
    exact ⟨F, [], by simpa [widths] using hg, rfl, by simp⟩
  | f :: fs, j, E, ⟨E1, E2, h1, h2, h3⟩, hg => by
    refine ⟨E1, E2 ++ F, h1, h2.snoc (by simpa [widths, Nat.add_assoc] using hg), by rw [h3, List.append_assoc]⟩

/-- What was read till now, if nothing was bad. -/
def Sofar (xs : List UInt8) (B : Nat) (w : World) (a : Nat) (s : Sp) (cs : Array Value) (fs : List Fd) : Prop := s.bad = false → ∃ E, Row B w cs 0 fs E ∧ Went xs a s.at0 E

section
variable {xs : List UInt8} {B a : Nat} {w w0 w' : World} {s : Sp} {cs cs' : Array Value} {fs : List Fd} {gr ge : Nat} {t : TypeId} {v : Value} {p : Len} {R : Rel}

theorem Sofar.nil (xs : List UInt8) (B : Nat) (w : World) (a : Nat) (cs : Array Value) : Sofar xs B w a ⟨a, false⟩ cs [] := fun _ => ⟨[], rfl, Went.nil _ _⟩
theorem Sofar.keep (h : Sofar xs B w a s cs fs) (hf : ∀ f ∈ fs, Fair f.rel) (hk : Above B w w') : Sofar xs B w' a s cs fs := fun hb => by
  obtain ⟨E, h1, h2⟩ := h hb
  exact ⟨E, h1.keep hk hf, h2⟩

theorem adv_good {p : Len} {xs : List UInt8} {s : Sp} (h : (adv p xs s).bad = false) : s.bad = false := by
  cases hb : s.bad with
  | false => rfl
  | true => rw [adv_bad hb, hb] at h; cases h
theorem advs_good {p : Len} {xs : List UInt8} : ∀ {k : Nat} {s : Sp}, (advs p xs k s).bad = false → s.bad = false
  | 0, _, h => h
  | k + 1, _, h => advs_good (k := k) (adv_good h)

theorem Sofar.one (h : Sofar xs B w0 a s cs fs) (hf : ∀ f ∈ fs, Fair f.rel) (hR : Fair R) (hr : Read1 R p xs w0 w gr ge t v s (widths fs) cs cs') (hgr : gr < B) (hge : ge < B) (hB : B ≤ w0.heap.size) (hj : widths fs < cs.size) :
    Sofar xs B w a (adv p xs s) cs' (fs ++ [f1 R]) := by
  intro hb
  obtain ⟨E, h1, h2⟩ := h (adv_good hb)
  rcases hr.what with ⟨hb', _⟩ | ⟨_, V, F, hV, he, hw⟩
  · rw [hb] at hb'; cases hb'
  · subst he
    have hab : Above B w0 w := hr.st.turn.above hgr hge
    refine ⟨E ++ F, (((h1.keep hab hf).same (by simp) (fun i _ hi => ?_))).snoc ?_, h2.trans hw⟩
    · rw [Array.getElem?_setIfInBounds_ne (by omega)]
    · show R B w ((cs.setIfInBounds (widths fs) V).getD (0 + widths fs) undef) F
      rw [Nat.zero_add, Array.getD_eq_getD_getElem?, Array.getElem?_setIfInBounds_self_of_lt hj]
      exact hR.down hV hB

theorem Sofar.struct {n : Nat} (h : Sofar xs B w0 a s cs fs) (hf : ∀ f ∈ fs, Fair f.rel) (hR : Fair R) (hn : ∀ B w Vs E, R B w (.agg Vs) E → Vs.size = n) (hr : ReadS R p xs w0 w gr ge t v s (widths fs) cs cs') (hgr : gr < B) (hge : ge < B) (hB : B ≤ w0.heap.size) (hj : widths fs + n ≤ cs.size) :
    Sofar xs B w a (adv p xs s) cs' (fs ++ [fS n R]) := by
  intro hb
  obtain ⟨E, h1, h2⟩ := h (adv_good hb)
  rcases hr.what with ⟨hb', _⟩ | ⟨_, Vs, F, hV, he, hw⟩
  · rw [hb] at hb'; cases hb'
  · have hlen : Vs.toList.length = n := by simpa using hn _ _ _ _ hV
    subst he
    have hab : Above B w0 w := hr.st.turn.above hgr hge
    refine ⟨E ++ F, (((h1.keep hab hf).same hr.size (fun i _ hi => ?_))).snoc ?_, h2.trans hw⟩
    · simp only [Nat.zero_add] at hi
      simp only [putC, List.getElem?_toArray, List.append_assoc]
      rw [List.getElem?_append_left (by simp; omega), List.getElem?_take, if_pos hi]
      simp
    · show R B w (.agg (((putC cs (widths fs) Vs.toList).toList.drop (0 + widths fs)).take n).toArray) F
      have e : ((putC cs (widths fs) Vs.toList).toList.drop (0 + widths fs)).take n = Vs.toList := by
        simp only [putC, Nat.zero_add, List.append_assoc]
        rw [List.drop_append_of_le_length (by simp; omega), List.drop_of_length_le (by simp; omega)]
        rw [List.nil_append, List.take_append_of_le_length (by omega), List.take_of_length_le (by omega)]
      rw [e]
      exact hR.down hV hB

theorem layI_get : ∀ (L : List Int) (cs : Array Value) (j i : Nat), j + L.length ≤ cs.size → (layI cs j L)[i]? = if i < j ∨ j + L.length ≤ i then cs[i]? else (L[i - j]?).map (fun n => .int .i64 n)
  | [], cs, j, i, _ => by
    have : i < j ∨ j + ([] : List Int).length ≤ i := by simp; omega
    rw [if_pos this]; rfl
  | n :: L, cs, j, i, h => by
    show (layI (cs.setIfInBounds j (.int .i64 n)) (j + 1) L)[i]? = _
    simp only [List.length_cons] at h ⊢
    rw [layI_get L _ (j + 1) i (by simp; omega)]
    by_cases h1 : i = j
    · subst h1
      rw [if_pos (by omega), if_neg (by omega), Array.getElem?_setIfInBounds_self_of_lt (by omega)]
      simp
    · by_cases h2 : i < j ∨ j + (L.length + 1) ≤ i
      · rw [if_pos (by omega), if_pos h2, Array.getElem?_setIfInBounds_ne (by omega)]
      · rw [if_neg (by omega), if_neg h2]
        have e : i - j = (i - (j + 1)) + 1 := by omega
        rw [e, List.getElem?_cons_succ]

theorem row_ints {B : Nat} {w : World} {cs : Array Value} : ∀ (L : List Int) (fs : List Fd) {E : List UInt8}, Row B w cs 0 fs E → (∀ n ∈ L, rng n) → (∀ i (h : i < L.length), cs[widths fs + i]? = some (.int .i64 L[i])) → Row B w cs 0 (fs ++ List.replicate L.length (f1 intV)) (E ++ ecs L)
  | [], fs, E, h, _, _ => by simpa [ecs] using h
  | n :: L, fs, E, h, hr, hc => by
    have h1 : Row B w cs 0 (fs ++ [f1 intV]) (E ++ Pure.enc n) := h.snoc (by
      show intV B w (cs.getD (0 + widths fs) undef) (Pure.enc n)
      have := hc 0 (by simp)
      simp only [Nat.add_zero, List.getElem_cons_zero] at this
      rw [Nat.zero_add, Array.getD_eq_getD_getElem?, this]
      exact ⟨n, hr n (by simp), rfl, rfl⟩)
    have h2 := row_ints L (fs ++ [f1 intV]) h1 (fun m hm => hr m (by simp [hm])) (fun i hi => by
      have := hc (i + 1) (by simp; omega)
      rw [List.getElem_cons_succ] at this
      rw [← this]
      simp [widths, f1, Fd.width]
      congr 1
      omega)
    simpa [List.replicate_succ, ecs, List.append_assoc] using h2

theorem Sofar.ints {K : Nat} {L : List Int} (h : Sofar xs B w0 a s cs fs) (hf : ∀ f ∈ fs, Fair f.rel) (hr : ReadN xs w0 w gr ge t v s (widths fs) K cs L) (hgr : gr < B) (hge : ge < B) (hj : widths fs + K ≤ cs.size) :
    Sofar xs B w a (advs lInt xs K s) (layI cs (widths fs) L) (fs ++ List.replicate K (f1 intV)) := by
  intro hb
  obtain ⟨E, h1, h2⟩ := h (advs_good hb)
  obtain ⟨hl, hall, hw⟩ := hr.all hb
  have hab : Above B w0 w := hr.st.turn.above hgr hge
  have h3 : Row B w (layI cs (widths fs) L) 0 fs E := (h1.keep hab hf).same (layI_size _ _ _) (fun i _ hi => by
    rw [layI_get L cs _ i (by omega), if_pos (by omega)])
  have h4 := row_ints L fs h3 hall (fun i hi => by
    rw [layI_get L cs _ _ (by omega), if_neg (by omega)]
    simp [hi])
  rw [hl] at h4
  exact ⟨_, h4, h2.trans hw⟩
end

/-- Of which kind is each cell? -/
def Kinds (Ks : List (Value → Prop)) (cs : Array Value) : Prop := cs.size = Ks.length ∧ ∀ i (h : i < cs.size) (h' : i < Ks.length), Ks[i] cs[i]
def kInt (V : Value) : Prop := ∃ n, V = .int .i64 n
def kTxt (V : Value) : Prop := ∃ s, V = .string s
def kBit (V : Value) : Prop := ∃ s, V = .bool s
def kVer (V : Value) : Prop := ∃ x y, V = .complex .f64 x y
def kSl (V : Value) : Prop := ∃ a n m, V = .slice a n m

theorem Kinds.set {Ks : List (Value → Prop)} {cs : Array Value} (h : Kinds Ks cs) (j : Nat) (V : Value) (hV : ∀ K, Ks[j]? = some K → K V) : Kinds Ks (cs.setIfInBounds j V) := by
  refine ⟨by simp [h.1], fun i hi hi' => ?_⟩
  rw [Array.getElem_setIfInBounds]
  split
  · rename_i e; subst e
    exact hV _ (List.getElem?_eq_getElem hi')
  · exact h.2 i (by simpa using hi) hi'
theorem Kinds.lay {Ks : List (Value → Prop)} : ∀ (L : List Int) (cs : Array Value) (j : Nat), Kinds Ks cs → (∀ i K, i < L.length → Ks[j + i]? = some K → K = kInt) → Kinds Ks (layI cs j L)
  | [], _, _, h, _ => h
  | n :: L, cs, j, h, hK => by
    show Kinds Ks (layI (cs.setIfInBounds j (.int .i64 n)) (j + 1) L)
    refine Kinds.lay L _ _ (h.set j _ fun K hk => ?_) fun i K hi hk => hK (i + 1) K (by simp; omega) (by rw [← hk]; congr 1; omega)
    have := hK 0 K (by simp) (by simpa using hk)
    rw [this]; exact ⟨n, rfl⟩
theorem Kinds.one {R : Rel} {p : Len} {xs : List UInt8} {w w' : World} {gr ge : Nat} {t : TypeId} {v : Value} {s : Sp} {j : Nat} {cs cs' : Array Value} {Ks : List (Value → Prop)} (h : Kinds Ks cs) (hr : Read1 R p xs w w' gr ge t v s j cs cs') (hk : ∀ K, Ks[j]? = some K → ∀ B w V E, R B w V E → K V) : Kinds Ks cs' := by
  rcases hr.what with ⟨_, rfl⟩ | ⟨_, V, E, hV, rfl, _⟩
  · exact h
  · exact h.set j V fun K hK => hk K hK _ _ _ _ hV
theorem Kinds.ints {xs : List UInt8} {w w' : World} {gr ge : Nat} {t : TypeId} {v : Value} {s : Sp} {j k : Nat} {cs : Array Value} {L : List Int} {Ks : List (Value → Prop)} (h : Kinds Ks cs) (hr : ReadN xs w w' gr ge t v s j k cs L) (hk : ∀ i K, i < k → Ks[j + i]? = some K → K = kInt) : Kinds Ks (layI cs j L) :=
  Kinds.lay L cs j h fun i K hi => hk i K (by have := hr.few; omega)
theorem kInt.one {V : Value} (h : kInt V) : V.oneCell' = true := by obtain ⟨_, rfl⟩ := h; rfl
theorem kTxt.one {V : Value} (h : kTxt V) : V.oneCell' = true := by obtain ⟨_, rfl⟩ := h; rfl
theorem kBit.one {V : Value} (h : kBit V) : V.oneCell' = true := by obtain ⟨_, rfl⟩ := h; rfl
theorem kVer.one {V : Value} (h : kVer V) : V.oneCell' = true := by obtain ⟨_, _, rfl⟩ := h; rfl
theorem kSl.one {V : Value} (h : kSl V) : V.oneCell' = true := by obtain ⟨_, _, _, rfl⟩ := h; rfl
theorem Kinds.ones {Ks : List (Value → Prop)} {cs : Array Value} (h : Kinds Ks cs) (hk : ∀ K ∈ Ks, ∀ V, K V → V.oneCell' = true) : Ones cs :=
  fun i hi => hk _ (List.getElem_mem (by rw [← h.1]; exact hi)) _ (h.2 i hi (by rw [← h.1]; exact hi))
theorem kind_int : ∀ B w V E, intV B w V E → kInt V := by rintro _ _ _ _ ⟨n, _, h, _⟩; exact ⟨n, h⟩
theorem kind_txt : ∀ B w V E, txtV B w V E → kTxt V := by rintro _ _ _ _ ⟨n, _, h, _⟩; exact ⟨n, h⟩
theorem kind_bit : ∀ B w V E, bitV B w V E → kBit V := by rintro _ _ _ _ ⟨n, h, _⟩; exact ⟨n, h⟩
theorem kind_vr : ∀ B w V E, vrV B w V E → kVer V := by rintro _ _ _ _ ⟨n, m, _, _, h, _⟩; exact ⟨_, _, h⟩
theorem kind_lst {t : TypeId} {size : Nat} {R : Rel} : ∀ B w V E, lstV t size R B w V E → kSl V := by rintro _ _ _ _ h; exact lst_slice h
end Go.Proofs.Ytjpaljiielemgaa
