/-
  Clauses: what is passed on; does a literal hold?
-/
import Derived.Test.YtmpjdngpblfecaaYGen
import Derived.Test.YtmpjdngpblfecaaAevStep
set_option linter.unusedSimpArgs false
set_option linter.unusedVariables false
namespace Go.Aev.Gen
open Go Go.Aev

noncomputable abbrev Or : Orc := orc PROG ann
abbrev ti (n : Int) : T := .int .i64 n
abbrev tb (b : Bool) : T := .bool b
abbrev o0 : AV := AV.own (Id.c 0)
abbrev o1 : AV := AV.own (Id.c 1)
abbrev o2 : AV := AV.own (Id.c 2)
abbrev r0 : AV := AV.ref (Id.c 0) 0
theorem at_drop {α : Type} {l : List α} {i : Nat} {r : α} {rest : List α} (h : l.drop i = r :: rest) : l[i]? = some r ∧ i < l.length ∧ l.drop (i + 1) = rest := by
  have hlt : i < l.length := by
    rcases Nat.lt_or_ge i l.length with g | g
    · exact g
    · rw [List.drop_eq_nil_of_le g] at h; cases h
  rw [List.drop_eq_getElem_cons hlt] at h
  simp only [List.cons.injEq] at h
  exact ⟨by rw [List.getElem?_eq_getElem hlt, h.1], hlt, h.2⟩
theorem at_end {α : Type} {l : List α} {i : Nat} (h : l.drop i = []) : l.length ≤ i := by simpa using h
def enc (l : List Int) : List (List T) := l.map fun n => [.int .i64 n]
theorem enc_len (l : List Int) : (enc l).length = l.length := by simp [enc]
theorem enc_get {l : List Int} {i : Nat} {r : Int} (h : l[i]? = some r) : (enc l)[((i : Nat) : Int).toNat]? = some [ti r] := by simp [enc, h]
theorem next (i : Nat) (h : i ≤ 100000) : IntKind.i64.wrap ((i : Int) + 1) = ((i + 1 : Nat) : Int) := by rw [wr (by omega)]; omega
theorem small_ok {bs n : Nat} (h : n ≤ 100000) : small bs n = some () := by unfold small; rw [if_pos (.inl (by unfold lim; omega))]
/-- Bools. -/
def encB (l : List Bool) : List (List T) := l.map fun b => [tb b]
theorem encB_len (l : List Bool) : (encB l).length = l.length := by simp [encB]
theorem encB_get {l : List Bool} {i : Nat} {r : Bool} (h : l[i]? = some r) : (encB l)[((i : Nat) : Int).toNat]? = some [tb r] := by simp [encB, h]
/-- Lists of integers. -/
def encC (cs : List (List Int)) : List (List T) := cs.map Ys.rowC
theorem encC_len (l : List (List Int)) : (encC l).length = l.length := by simp [encC]
theorem encC_get {l : List (List Int)} {i : Nat} {r : List Int} (h : l[i]? = some r) : (encC l)[((i : Nat) : Int).toNat]? = some [T.lst 1 r.isEmpty (enc r)] := by simp [encC, h, Ys.rowC, enc]
abbrev lst (e : Bool) (l : List Int) : AV := AV.t (T.lst 1 e (enc l))
abbrev LB (e : Bool) (l : List Bool) : AV := AV.t (T.lst 1 e (encB l))
abbrev LC (e : Bool) (l : List (List Int)) : AV := AV.t (T.lst 1 e (encC l))
/-! ### Literals -/
def LOk (v : Nat) (l : Int) : Prop := l ≠ 0 ∧ -(v : Int) ≤ l ∧ l ≤ v
def litB (a : List Bool) (l : Int) : Bool := a.getD (l.natAbs - 1) false == decide (l > 0)
theorem get_lit {a : List Bool} {l : Int} (h : LOk a.length l) : a[l.natAbs - 1]? = some (a.getD (l.natAbs - 1) false) := by
  unfold LOk at h
  rw [List.getD_eq_getElem?_getD, List.getElem?_eq_getElem (by omega)]; rfl
theorem s36 (x : Int) (h : -1000 ≤ x ∧ x ≤ 1000) : Or (.call 36) [I x] [] = some [ti (x.natAbs : Int)] := by
  refine orc_of ?_
  rw [e36, wr (by omega)]
  have : mm true x (0 - x) = (x.natAbs : Int) := by simp only [mm, cond_true]; split <;> omega
  rw [this]
theorem s30 (x : Int) (e : Bool) (a : List Bool) (h : LOk a.length x) (hl : a.length ≤ 100) : Or (.call 30) [I x, LB e a] [] = some [tb (litB a x)] := by
  have hg := encB_get (get_lit h)
  unfold LOk at h
  have k := s36 x (by omega)
  have w : IntKind.i64.wrap ((x.natAbs : Int) - 1) = ((x.natAbs - 1 : Nat) : Int) := by rw [wr (by omega)]; omega
  have c : 0 ≤ ((x.natAbs - 1 : Nat) : Int) ∧ ((x.natAbs - 1 : Nat) : Int) < (a.length : Int) := by omega
  unfold litB
  refine orc_of ?_
  rw [e30]
  simp only [gd1, hd1, tl1, dr0, dr1, dr2, dr3, dr4, dr5, dr6, bo1, in1, st1, ls1, le1, pt1, fi1, fb1, fs1, ct1, cf1, nt1, nf1, ak0, akT, akF, cdec, cndec, cbeq, cnbeq, ↓reduceIte, beq_self_eq_true, Int.reduceBEq, Int.reduceEq, Bool.and_true, Bool.true_and, Bool.false_and, Bool.and_false, k, w, encB_len, c, and_self, hg]
theorem s29 (x : Int) (e : Bool) (a : List Bool) (h : LOk a.length x) (hl : a.length ≤ 100) : Or (.call 29) [I x, AV.t (T.ptr [T.lst 1 e (encB a)])] [] = some [tb (litB a x)] := by
  have k := s30 x e a h hl
  refine orc_of ?_
  rw [e29]
  simp only [gd1, hd1, tl1, dr0, dr1, dr2, dr3, dr4, dr5, dr6, bo1, in1, st1, ls1, le1, pt1, fi1, fb1, fs1, ct1, cf1, nt1, nf1, ak0, akT, akF, cdec, cndec, cbeq, cnbeq, ↓reduceIte, beq_self_eq_true, Int.reduceBEq, Int.reduceEq, Bool.and_true, Bool.true_and, Bool.false_and, Bool.and_false, k]
theorem n35 (ec : Bool) (l : List Int) (e : Bool) (a : List Bool) (h : ∀ x ∈ l, LOk a.length x) (hl : a.length ≤ 100) (hn : l.length ≤ 1000) : ∀ (rest : List Int) (i : Nat), l.drop i = rest →
    ∃ z : Int, Or K35n2 [lst ec l, AV.fn 29 [] [AV.t (T.ptr [T.lst 1 e (encB a)])], I (l.length : Int), I (i : Int)] [] = some [ti z] ∧ decide (z ≥ 0) = rest.any (litB a) := by
  intro rest
  induction rest with
  | nil =>
    intro i g
    have h1 : ¬ (i : Int) < (l.length : Int) := by have := at_end g; omega
    refine ⟨-1, orc_of ?_, by simp⟩
    rw [e35n2]
    simp only [gd1, hd1, tl1, dr0, dr1, dr2, dr3, dr4, dr5, dr6, bo1, in1, st1, ls1, le1, pt1, fi1, fb1, fs1, ct1, cf1, nt1, nf1, ak0, akT, akF, cdec, cndec, cbeq, cnbeq, ↓reduceIte, beq_self_eq_true, Int.reduceBEq, Int.reduceEq, Bool.and_true, Bool.true_and, Bool.false_and, Bool.and_false, h1]
  | cons x rest ih =>
    intro i g
    obtain ⟨g1, g2, g3⟩ := at_drop g
    have h1 : (i : Int) < (l.length : Int) := by omega
    have h0 : 0 ≤ (i : Int) := by omega
    have k := s29 x e a (h x (List.mem_of_getElem? g1)) hl
    cases hb : litB a x with
    | true =>
      rw [hb] at k
      refine ⟨(i : Int), orc_of ?_, by simp [hb]⟩
      rw [e35n2]
      simp only [gd1, hd1, tl1, dr0, dr1, dr2, dr3, dr4, dr5, dr6, bo1, in1, st1, ls1, le1, pt1, fi1, fb1, fs1, ct1, cf1, nt1, nf1, ak0, akT, akF, cdec, cndec, cbeq, cnbeq, ↓reduceIte, beq_self_eq_true, Int.reduceBEq, Int.reduceEq, Bool.and_true, Bool.true_and, Bool.false_and, Bool.and_false, h1, h0, and_self, enc_len, enc_get g1, k]
    | false =>
      rw [hb] at k
      obtain ⟨z, z1, z2⟩ := ih (i + 1) g3
      refine ⟨z, orc_of ?_, by rw [z2]; simp [hb]⟩
      rw [e35n2]
      simp only [gd1, hd1, tl1, dr0, dr1, dr2, dr3, dr4, dr5, dr6, bo1, in1, st1, ls1, le1, pt1, fi1, fb1, fs1, ct1, cf1, nt1, nf1, ak0, akT, akF, cdec, cndec, cbeq, cnbeq, ↓reduceIte, beq_self_eq_true, Int.reduceBEq, Int.reduceEq, Bool.and_true, Bool.true_and, Bool.false_and, Bool.and_false, h1, h0, and_self, enc_len, enc_get g1, k, next i (by omega)]
      exact z1
/-- Sat. -/
theorem s23 (ec : Bool) (l : List Int) (e : Bool) (a : List Bool) (h : ∀ x ∈ l, LOk a.length x) (hl : a.length ≤ 100) (hn : l.length ≤ 1000) : Or (.call 23) [lst ec l, LB e a] [] = some [tb (l.any (litB a))] := by
  obtain ⟨z, z1, z2⟩ := n35 ec l e a h hl hn l 0 rfl
  have k35 : Or (.call 35) [lst ec l, AV.fn 29 [] [AV.t (T.ptr [T.lst 1 e (encB a)])]] [] = some [ti z] := by
    refine orc_of ?_
    rw [e35]
    simp only [enc_len]
    exact z1
  have k28 : Or (.call 28) [lst ec l, AV.fn 29 [] [AV.t (T.ptr [T.lst 1 e (encB a)])]] [] = some [tb (l.any (litB a))] := by
    refine orc_of ?_
    rw [e28]
    simp only [gd1, hd1, tl1, dr0, dr1, dr2, dr3, dr4, dr5, dr6, bo1, in1, st1, ls1, le1, pt1, fi1, fb1, fs1, ct1, cf1, nt1, nf1, ak0, akT, akF, cdec, cndec, cbeq, cnbeq, ↓reduceIte, beq_self_eq_true, Int.reduceBEq, Int.reduceEq, Bool.and_true, Bool.true_and, Bool.false_and, Bool.and_false, k35, z2]
  refine orc_of ?_
  rw [e23]
  simp only [gd1, hd1, tl1, dr0, dr1, dr2, dr3, dr4, dr5, dr6, bo1, in1, st1, ls1, le1, pt1, fi1, fb1, fs1, ct1, cf1, nt1, nf1, ak0, akT, akF, cdec, cndec, cbeq, cnbeq, ↓reduceIte, beq_self_eq_true, Int.reduceBEq, Int.reduceEq, Bool.and_true, Bool.true_and, Bool.false_and, Bool.and_false, k28]
/-! ### The document's -/
theorem s26 (x : Int) (e : Bool) (a : List Bool) (h : LOk a.length x) (hl : a.length ≤ 100) : Or (.call 26) [I x, LB e a] [] = some [tb (litB a x)] := by
  have hg := encB_get (get_lit h)
  unfold LOk at h
  have c : 0 ≤ ((x.natAbs - 1 : Nat) : Int) ∧ ((x.natAbs - 1 : Nat) : Int) < (a.length : Int) := by omega
  unfold litB
  refine orc_of ?_
  rw [e26]
  by_cases hx : x < 0
  · have w0 : IntKind.i64.wrap (0 - x) = (x.natAbs : Int) := by rw [wr (by omega)]; omega
    have w : IntKind.i64.wrap ((x.natAbs : Int) - 1) = ((x.natAbs - 1 : Nat) : Int) := by rw [wr (by omega)]; omega
    have h0 : ¬ x > 0 := by omega
    simp only [gd1, hd1, tl1, dr0, dr1, dr2, dr3, dr4, dr5, dr6, bo1, in1, st1, ls1, le1, pt1, fi1, fb1, fs1, ct1, cf1, nt1, nf1, ak0, akT, akF, cdec, cndec, cbeq, cnbeq, ↓reduceIte, beq_self_eq_true, Int.reduceBEq, Int.reduceEq, Bool.and_true, Bool.true_and, Bool.false_and, Bool.and_false, hx, w0, w, encB_len, c, and_self, hg, h0, decide_false]
    simp
  · have w : IntKind.i64.wrap (x - 1) = ((x.natAbs - 1 : Nat) : Int) := by rw [wr (by omega)]; omega
    have h0 : x > 0 := by omega
    simp only [gd1, hd1, tl1, dr0, dr1, dr2, dr3, dr4, dr5, dr6, bo1, in1, st1, ls1, le1, pt1, fi1, fb1, fs1, ct1, cf1, nt1, nf1, ak0, akT, akF, cdec, cndec, cbeq, cnbeq, ↓reduceIte, beq_self_eq_true, Int.reduceBEq, Int.reduceEq, Bool.and_true, Bool.true_and, Bool.false_and, Bool.and_false, hx, w, encB_len, c, and_self, hg, h0, decide_true]
    simp
theorem n17 (ev : Bool) (cs : List (List Int)) (e : Bool) (a : List Bool) (h : ∀ c ∈ cs, ∀ x ∈ c, LOk a.length x) (hl : a.length ≤ 100) (hn : cs.length ≤ 1000) {i : Nat} {c : List Int} (hc : cs[i]? = some c) (hm : c.length ≤ 1000)
    {r : Bool} (hr : Or K17n2 [LC ev cs, LB e a, I ((i + 1 : Nat) : Int)] [] = some [tb r]) : ∀ (rest : List Int) (j : Nat) (b : Bool), c.drop j = rest →
    Or K17n6 [LC ev cs, LB e a, I (i : Int), B b, I (j : Int)] [] = some [tb ((b || rest.any (litB a)) && r)] := by
  have hil : i < cs.length := (List.getElem?_eq_some_iff.1 hc).1
  have hi : 0 ≤ (i : Int) ∧ (i : Int) < (cs.length : Int) := by omega
  intro rest
  induction rest with
  | nil =>
    intro j b g
    have h1 : ¬ (j : Int) < (c.length : Int) := by have := at_end g; omega
    refine orc_of ?_
    rw [e17n6]
    cases b with
    | false => simp only [gd1, hd1, tl1, dr0, dr1, dr2, dr3, dr4, dr5, dr6, bo1, in1, st1, ls1, le1, pt1, fi1, fb1, fs1, ct1, cf1, nt1, nf1, ak0, akT, akF, cdec, cndec, cbeq, cnbeq, ↓reduceIte, beq_self_eq_true, Int.reduceBEq, Int.reduceEq, Bool.and_true, Bool.true_and, Bool.false_and, Bool.and_false, hi, and_self, encC_len, encC_get hc, enc_len, h1, List.any_nil, Bool.or_false]
    | true =>
      simp only [gd1, hd1, tl1, dr0, dr1, dr2, dr3, dr4, dr5, dr6, bo1, in1, st1, ls1, le1, pt1, fi1, fb1, fs1, ct1, cf1, nt1, nf1, ak0, akT, akF, cdec, cndec, cbeq, cnbeq, ↓reduceIte, beq_self_eq_true, Int.reduceBEq, Int.reduceEq, Bool.and_true, Bool.true_and, Bool.false_and, Bool.and_false, hi, and_self, encC_len, encC_get hc, enc_len, h1, List.any_nil, Bool.or_false, next i (by omega)]
      exact hr
  | cons x rest ih =>
    intro j b g
    obtain ⟨g1, g2, g3⟩ := at_drop g
    have h1 : (j : Int) < (c.length : Int) := by omega
    have h0 : 0 ≤ (j : Int) := by omega
    have k := s26 x e a (h c (List.mem_of_getElem? hc) x (List.mem_of_getElem? g1)) hl
    refine orc_of ?_
    rw [e17n6]
    cases b with
    | false =>
      have := ih (j + 1) (litB a x) g3
      simp only [gdF, gd1, hd1, tl1, dr0, dr1, dr2, dr3, dr4, dr5, dr6, bo1, in1, st1, ls1, le1, pt1, fi1, fb1, fs1, ct1, cf1, nt1, nf1, ak0, akT, akF, cdec, cndec, cbeq, cnbeq, ↓reduceIte, beq_self_eq_true, Int.reduceBEq, Int.reduceEq, Bool.and_true, Bool.true_and, Bool.false_and, Bool.and_false, hi, and_self, encC_len, encC_get hc, enc_len, h1, h0, enc_get g1, k, next j (by omega), askO, List.any_cons, Bool.false_or, Bool.not_false]
      exact this
    | true =>
      have := ih (j + 1) true g3
      simp only [gdF, gd1, hd1, tl1, dr0, dr1, dr2, dr3, dr4, dr5, dr6, bo1, in1, st1, ls1, le1, pt1, fi1, fb1, fs1, ct1, cf1, nt1, nf1, ak0, akT, akF, cdec, cndec, cbeq, cnbeq, ↓reduceIte, beq_self_eq_true, Int.reduceBEq, Int.reduceEq, Bool.and_true, Bool.true_and, Bool.false_and, Bool.and_false, hi, and_self, encC_len, encC_get hc, enc_len, h1, h0, next j (by omega), List.any_cons, Bool.true_or, Bool.not_true] at this ⊢
      exact this
theorem n17o (ev : Bool) (cs : List (List Int)) (e : Bool) (a : List Bool) (h : ∀ c ∈ cs, ∀ x ∈ c, LOk a.length x) (hl : a.length ≤ 100) (hn : cs.length ≤ 1000) (hm : ∀ c ∈ cs, c.length ≤ 1000) : ∀ (rest : List (List Int)) (i : Nat), cs.drop i = rest →
    Or K17n2 [LC ev cs, LB e a, I (i : Int)] [] = some [tb (rest.all fun c => c.any (litB a))] := by
  intro rest
  induction rest with
  | nil =>
    intro i g
    have h1 : ¬ (i : Int) < (cs.length : Int) := by have := at_end g; omega
    refine orc_of ?_
    rw [e17n2]
    simp only [gd1, hd1, tl1, dr0, dr1, dr2, dr3, dr4, dr5, dr6, bo1, in1, st1, ls1, le1, pt1, fi1, fb1, fs1, ct1, cf1, nt1, nf1, ak0, akT, akF, cdec, cndec, cbeq, cnbeq, ↓reduceIte, beq_self_eq_true, Int.reduceBEq, Int.reduceEq, Bool.and_true, Bool.true_and, Bool.false_and, Bool.and_false, encC_len, h1, List.all_nil]
  | cons c rest ih =>
    intro i g
    obtain ⟨g1, g2, g3⟩ := at_drop g
    have h1 : (i : Int) < (cs.length : Int) := by omega
    have := n17 ev cs e a h hl hn g1 (hm c (List.mem_of_getElem? g1)) (ih (i + 1) g3) c 0 false rfl
    refine orc_of ?_
    rw [e17n2]
    simp only [gd1, hd1, tl1, dr0, dr1, dr2, dr3, dr4, dr5, dr6, bo1, in1, st1, ls1, le1, pt1, fi1, fb1, fs1, ct1, cf1, nt1, nf1, ak0, akT, akF, cdec, cndec, cbeq, cnbeq, ↓reduceIte, beq_self_eq_true, Int.reduceBEq, Int.reduceEq, Bool.and_true, Bool.true_and, Bool.false_and, Bool.and_false, encC_len, h1]
    exact this
/-- ClausesHold. -/
theorem s17 (ev : Bool) (cs : List (List Int)) (e : Bool) (a : List Bool) (h : ∀ c ∈ cs, ∀ x ∈ c, LOk a.length x) (hl : a.length ≤ 100) (hn : cs.length ≤ 1000) (hm : ∀ c ∈ cs, c.length ≤ 1000) :
    Or (.call 17) [LC ev cs, LB e a] [] = some [tb (cs.all fun c => c.any (litB a))] := by
  refine orc_of ?_
  rw [e17]
  exact n17o ev cs e a h hl hn hm cs 0 rfl
end Go.Aev.Gen
