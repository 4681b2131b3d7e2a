/-
  Clauses out of numbers.
-/
import Derived.Test.YtmpjdngpblfecaaYChk
set_option linter.unusedSimpArgs false
set_option linter.unusedVariables false
namespace Go.Aev.Gen
open Go Go.Aev

theorem s19 (a : Int) {m : Nat} (h1 : 0 < m) (h2 : m ≤ 100) : ∃ r : Nat, r < m ∧ Or (.call 19) [I a, I (m : Int)] [] = some [ti (r : Int)] := by
  have hne : ¬ (m : Int) = 0 := by omega
  have hlt : (a.tmod m).natAbs < m := by
    rw [Int.natAbs_tmod]
    exact Nat.mod_lt _ (by simpa using h1)
  by_cases h : a.tmod m < 0
  · refine ⟨(a.tmod m + m).toNat, by omega, orc_of ?_⟩
    rw [e19]
    have w : IntKind.i64.wrap (a.tmod m + m) = (((a.tmod m + m).toNat : Nat) : Int) := by rw [wr (by omega)]; omega
    simp only [gdF, gd1, hd1, tl1, dr0, dr1, dr2, dr3, dr4, dr5, dr6, bo1, in1, st1, ls1, le1, pt1, fi1, fb1, fs1, ct1, cf1, nt1, nf1, ak0, akT, akF, cdec, cndec, cbeq, cnbeq, ↓reduceIte, beq_self_eq_true, Int.reduceBEq, Int.reduceEq, Bool.and_true, Bool.true_and, Bool.false_and, Bool.and_false, hne, h, w]
  · refine ⟨(a.tmod m).toNat, by omega, orc_of ?_⟩
    rw [e19]
    have w : a.tmod m = (((a.tmod m).toNat : Nat) : Int) := by omega
    simp only [gdF, gd1, hd1, tl1, dr0, dr1, dr2, dr3, dr4, dr5, dr6, bo1, in1, st1, ls1, le1, pt1, fi1, fb1, fs1, ct1, cf1, nt1, nf1, ak0, akT, akF, cdec, cndec, cbeq, cnbeq, ↓reduceIte, beq_self_eq_true, Int.reduceBEq, Int.reduceEq, Bool.and_true, Bool.true_and, Bool.false_and, Bool.and_false, hne, h]
    rw [← w]
theorem s20 (x : Int) (h : -1000 ≤ x ∧ x ≤ 1000) : Or (.call 20) [I x] [] = some [ti (x.natAbs : Int)] := by
  refine orc_of ?_
  rw [e20]
  by_cases hx : x < 0
  · have w : IntKind.i64.wrap (0 - x) = (x.natAbs : Int) := by rw [wr (by omega)]; omega
    simp only [gd1, hd1, tl1, dr0, dr1, dr2, dr3, dr4, dr5, dr6, bo1, in1, st1, ls1, le1, pt1, fi1, fb1, fs1, ct1, cf1, nt1, nf1, ak0, akT, akF, cdec, cndec, cbeq, cnbeq, ↓reduceIte, beq_self_eq_true, Int.reduceBEq, Int.reduceEq, Bool.and_true, Bool.true_and, Bool.false_and, Bool.and_false, hx, w]
  · have w : x = (x.natAbs : Int) := by omega
    simp only [gd1, hd1, tl1, dr0, dr1, dr2, dr3, dr4, dr5, dr6, bo1, in1, st1, ls1, le1, pt1, fi1, fb1, fs1, ct1, cf1, nt1, nf1, ak0, akT, akF, cdec, cndec, cbeq, cnbeq, ↓reduceIte, beq_self_eq_true, Int.reduceBEq, Int.reduceEq, Bool.and_true, Bool.true_and, Bool.false_and, Bool.and_false, hx]
    rw [← w]
/-- A clause is told. -/
def Ex (o : Option (List T)) : Prop := ∃ l, ClOk 4 l ∧ o = some [T.lst 1 l.isEmpty (enc l)]
theorem ex_of {k : Key} {vs : List AV} {bs : List Blk} (h : Ex (stepO PROG ann Or k vs bs)) : Ex (Or k vs bs) := by
  obtain ⟨l, h1, h2⟩ := h
  exact ⟨l, h1, orc_of h2⟩
theorem ClOk.perm {l m : List Int} (ok : ClOk 4 l) (h : m.Perm l) : ClOk 4 m :=
  ⟨fun x hx => ok.lit x (h.mem_iff.1 hx), by rw [h.length_eq]; exact ok.len, (h.map _).nodup_iff.2 ok.nd⟩
theorem swp_perm : ∀ {l : List Int} {j : Nat} {x y : Int}, l[j]? = some x → l[j + 1]? = some y → ((l.set (j + 1) x).set j y).Perm l
  | [], _, _, _, h, _ => by simp at h
  | [a], 0, _, _, _, h => by simp at h
  | a :: b :: r, 0, x, y, h1, h2 => by
    simp at h1 h2
    subst h1 h2
    exact List.Perm.swap a b r
  | a :: l, j + 1, x, y, h1, h2 => by
    simp only [List.getElem?_cons_succ] at h1 h2
    simp only [List.set_cons_succ]
    exact (swp_perm h1 h2).cons a
theorem enc_set {l : List Int} {i : Nat} {x : Int} (h : i < l.length) : storeIn ((i : Nat) : Int).toNat 0 [ti x] (enc l) = some (enc (l.set i x)) := by
  have hi : ((i : Nat) : Int).toNat = i := by omega
  rw [hi]
  unfold storeIn
  have g : (enc l)[i]? = some [ti (l[i])] := by simp [enc, h]
  rw [g]
  show (if 1 ≤ 1 then some ((enc l).set i [ti x]) else none) = _
  rw [if_pos (Nat.le_refl 1)]
  simp [enc]
theorem emp_len {l m : List Int} (h : m.length = l.length) : m.isEmpty = l.isEmpty := by
  cases l <;> cases m <;> simp_all
/-! ### Put in order -/
theorem n8s (i : Nat) (hi : i ≤ 3) (hnext : ∀ l, ClOk 4 l → Ex (Or K8n18 [o0, I ((i + 1 : Nat) : Int)] [Blk.sl false 1 l.isEmpty (enc l)])) : ∀ (j : Nat) (l : List Int), ClOk 4 l → j < l.length →
    Ex (Or K8n21 [o0, I (i : Int), I (j : Int)] [Blk.sl false 1 l.isEmpty (enc l)]) := by
  intro j
  induction j with
  | zero =>
    intro l ok hj
    have h1 : ¬ ((0 : Nat) : Int) > 0 := by omega
    refine ex_of ?_
    rw [e8n21]
    simp only [gdF, gd1, hd1, tl1, dr0, dr1, dr2, dr3, dr4, dr5, dr6, bo1, in1, st1, ls1, le1, pt1, fi1, fb1, fs1, ct1, cf1, nt1, nf1, ak0, akT, akF, cdec, cndec, cbeq, cnbeq, ↓reduceIte, beq_self_eq_true, Int.reduceBEq, Int.reduceEq, Bool.and_true, Bool.true_and, Bool.false_and, Bool.and_false, h1, decide_false, askO, next i (by omega)]
    exact hnext l ok
  | succ j ih =>
    intro l ok hj
    have h1 : ((j + 1 : Nat) : Int) > 0 := by omega
    have h0 : 0 ≤ ((j + 1 : Nat) : Int) ∧ ((j + 1 : Nat) : Int) < (l.length : Int) := by omega
    have hj0 : 0 ≤ ((j : Nat) : Int) ∧ ((j : Nat) : Int) < (l.length : Int) := by omega
    have w : IntKind.i64.wrap (((j + 1 : Nat) : Int) - 1) = ((j : Nat) : Int) := by rw [wr (by have := ok.len; omega)]; omega
    have gy : l[j + 1]? = some (l[j + 1]) := List.getElem?_eq_getElem hj
    have gx : l[j]? = some (l[j]'(by omega)) := List.getElem?_eq_getElem _
    generalize l[j + 1] = y at gy
    generalize l[j]'(by omega) = x at gx
    obtain ⟨_, y1, y2⟩ := ok.lit y (List.mem_of_getElem? gy)
    obtain ⟨_, x1, x2⟩ := ok.lit x (List.mem_of_getElem? gx)
    have ky := s20 y (by omega)
    have kx := s20 x (by omega)
    by_cases hlt : (y.natAbs : Int) < (x.natAbs : Int)
    · have st1 := enc_set (l := l) (i := j + 1) (x := x) hj
      have st2 := enc_set (l := l.set (j + 1) x) (i := j) (x := y) (by rw [List.length_set]; omega)
      have hl2 : 0 ≤ ((j : Nat) : Int) ∧ ((j : Nat) : Int) < ((l.set (j + 1) x).length : Int) := by rw [List.length_set]; omega
      have hp := swp_perm gx gy
      have := ih _ (ok.perm hp) (by rw [hp.length_eq]; omega)
      rw [emp_len hp.length_eq] at this
      refine ex_of ?_
      rw [e8n21]
      simp only [gdF, gd1, hd1, tl1, dr0, dr1, dr2, dr3, dr4, dr5, dr6, bo1, in1, st1, ls1, le1, pt1, fi1, fb1, fs1, ct1, cf1, nt1, nf1, ak0, akT, akF, cdec, cndec, cbeq, cnbeq, ↓reduceIte, beq_self_eq_true, Int.reduceBEq, Int.reduceEq, Bool.and_true, Bool.true_and, Bool.false_and, Bool.and_false, h1, decide_true, h0, hj0, and_self, enc_len, enc_get gy, enc_get gx, ky, kx, w, askO, hlt, st1, st2, hl2]
      exact this
    · refine ex_of ?_
      rw [e8n21]
      simp only [gdF, gd1, hd1, tl1, dr0, dr1, dr2, dr3, dr4, dr5, dr6, bo1, in1, st1, ls1, le1, pt1, fi1, fb1, fs1, ct1, cf1, nt1, nf1, ak0, akT, akF, cdec, cndec, cbeq, cnbeq, ↓reduceIte, beq_self_eq_true, Int.reduceBEq, Int.reduceEq, Bool.and_true, Bool.true_and, Bool.false_and, Bool.and_false, h1, decide_true, h0, hj0, and_self, enc_len, enc_get gy, enc_get gx, ky, kx, w, askO, hlt, decide_false, next i (by omega)]
      exact hnext l ok
theorem n8o : ∀ (d i : Nat) (l : List Int), d + i = 4 → 1 ≤ i → ClOk 4 l → Ex (Or K8n18 [o0, I (i : Int)] [Blk.sl false 1 l.isEmpty (enc l)]) := by
  intro d
  induction d with
  | zero =>
    intro i l hd hi ok
    have h1 : ¬ (i : Int) < (l.length : Int) := by have := ok.len; omega
    refine ex_of ?_
    rw [e8n18]
    simp only [gd1, hd1, tl1, dr0, dr1, dr2, dr3, dr4, dr5, dr6, bo1, in1, st1, ls1, le1, pt1, fi1, fb1, fs1, ct1, cf1, nt1, nf1, ak0, akT, akF, cdec, cndec, cbeq, cnbeq, ↓reduceIte, beq_self_eq_true, Int.reduceBEq, Int.reduceEq, Bool.and_true, Bool.true_and, Bool.false_and, Bool.and_false, enc_len, h1]
    exact ⟨l, ok, rfl⟩
  | succ d ih =>
    intro i l hd hi ok
    refine ex_of ?_
    rw [e8n18]
    by_cases h1 : (i : Int) < (l.length : Int)
    · simp only [gd1, hd1, tl1, dr0, dr1, dr2, dr3, dr4, dr5, dr6, bo1, in1, st1, ls1, le1, pt1, fi1, fb1, fs1, ct1, cf1, nt1, nf1, ak0, akT, akF, cdec, cndec, cbeq, cnbeq, ↓reduceIte, beq_self_eq_true, Int.reduceBEq, Int.reduceEq, Bool.and_true, Bool.true_and, Bool.false_and, Bool.and_false, enc_len, h1]
      exact n8s i (by omega) (fun l ok => ih (i + 1) l (by omega) (by omega) ok) i l ok (by omega)
    · simp only [gd1, hd1, tl1, dr0, dr1, dr2, dr3, dr4, dr5, dr6, bo1, in1, st1, ls1, le1, pt1, fi1, fb1, fs1, ct1, cf1, nt1, nf1, ak0, akT, akF, cdec, cndec, cbeq, cnbeq, ↓reduceIte, beq_self_eq_true, Int.reduceBEq, Int.reduceEq, Bool.and_true, Bool.true_and, Bool.false_and, Bool.and_false, enc_len, h1]
      exact ⟨l, ok, rfl⟩
/-! ### Literals are drawn -/
theorem n8h (a : Int) (j : Nat) (hj : j ≤ 3) (v : Int) (hv : 1 ≤ v ∧ v ≤ 4) (l : List Int) (ok : ClOk 4 l) (h1 : (∃ x ∈ l, x.natAbs = v.natAbs) → Ex (Or K8n3 [I a, I 4, o0, I ((j + 1 : Nat) : Int)] [Blk.sl false 1 l.isEmpty (enc l)]))
    (h2 : (∀ x ∈ l, x.natAbs ≠ v.natAbs) → ∀ y, y = v ∨ y = -v → Ex (Or K8n3 [I a, I 4, o0, I ((j + 1 : Nat) : Int)] [Blk.sl false 1 (l ++ [y]).isEmpty (enc (l ++ [y]))])) : ∀ (rest : List Int) (i : Nat) (b : Bool), l.drop i = rest →
    (b = true ↔ ∃ x ∈ l.take i, x.natAbs = v.natAbs) → Ex (Or K8n10 [I a, I 4, o0, I (j : Int), I v, B b, I (i : Int)] [Blk.sl false 1 l.isEmpty (enc l)]) := by
  have hlen := ok.len
  have w0 : IntKind.i64.wrap (0 - v) = -v := by rw [wr (by omega)]; omega
  intro rest
  induction rest with
  | nil =>
    intro i b g hb
    have hg := at_end g
    have c1 : ¬ (i : Int) < (l.length : Int) := by omega
    rw [List.take_of_length_le hg] at hb
    refine ex_of ?_
    rw [e8n10]
    cases b with
    | true =>
      simp only [gdF, gd1, hd1, tl1, dr0, dr1, dr2, dr3, dr4, dr5, dr6, bo1, in1, st1, ls1, le1, pt1, fi1, fb1, fs1, ct1, cf1, nt1, nf1, ak0, akT, akF, cdec, cndec, cbeq, cnbeq, ↓reduceIte, beq_self_eq_true, Int.reduceBEq, Int.reduceEq, Bool.and_true, Bool.true_and, Bool.false_and, Bool.and_false, enc_len, c1, next j (by omega)]
      exact h1 (hb.1 rfl)
    | false =>
      have hno : ∀ x ∈ l, x.natAbs ≠ v.natAbs := fun x hx e => by
        have := hb.2 ⟨x, hx, e⟩
        cases this
      have sm : ∀ y : Int, small 8 ((enc l).length + [[ti y]].length) = some () := fun y => small_ok (by rw [enc_len]; simp; omega)
      have en : ∀ y : Int, enc l ++ [[ti y]] = enc (l ++ [y]) := fun y => by unfold enc; rw [List.map_append]; rfl
      have ee : ∀ y : Int, (l ++ [y]).isEmpty = false := fun y => by cases l <;> rfl
      have k1 := h2 hno v (.inl rfl)
      have k2 := h2 hno (-v) (.inr rfl)
      rw [ee] at k1 k2
      by_cases hm : a.tmod 2 = 0
      · simp only [gdF, gd1, hd1, tl1, dr0, dr1, dr2, dr3, dr4, dr5, dr6, bo1, in1, st1, ls1, le1, pt1, fi1, fb1, fs1, ct1, cf1, nt1, nf1, ak0, akT, akF, cdec, cndec, cbeq, cnbeq, ↓reduceIte, beq_self_eq_true, Int.reduceBEq, Int.reduceEq, Bool.and_true, Bool.true_and, Bool.false_and, Bool.and_false, enc_len, c1, w0, hm, Bool.not_true, next j (by omega)]
        have := sm v
        rw [enc_len] at this
        simp only [this, gd1, en, Bool.and_false]
        exact k1
      · have hmb : (a.tmod 2 == 0) = false := by simpa using hm
        simp only [gdF, gd1, hd1, tl1, dr0, dr1, dr2, dr3, dr4, dr5, dr6, bo1, in1, st1, ls1, le1, pt1, fi1, fb1, fs1, ct1, cf1, nt1, nf1, ak0, akT, akF, cdec, cndec, cbeq, cnbeq, ↓reduceIte, beq_self_eq_true, Int.reduceBEq, Int.reduceEq, Bool.and_true, Bool.true_and, Bool.false_and, Bool.and_false, enc_len, c1, w0, hm, hmb, Bool.not_false, next j (by omega)]
        have := sm (-v)
        rw [enc_len] at this
        simp only [this, gd1, en, Bool.and_false]
        exact k2
  | cons x rest ih =>
    intro i b g hb
    obtain ⟨g1, g2, g3⟩ := at_drop g
    have c1 : (i : Int) < (l.length : Int) := by omega
    have c0 : 0 ≤ (i : Int) := by omega
    obtain ⟨_, x1, x2⟩ := ok.lit x (List.mem_of_getElem? g1)
    have ht : l.take (i + 1) = l.take i ++ [x] := by rw [List.take_add_one, g1]; rfl
    have hx : x.natAbs = v.natAbs ↔ x = v ∨ x = -v := by omega
    cases b with
    | true =>
      have := ih (i + 1) true g3 ⟨fun _ => by
        obtain ⟨y, hy, e⟩ := hb.1 rfl
        exact ⟨y, by rw [ht]; exact List.mem_append_left _ hy, e⟩, fun _ => rfl⟩
      refine ex_of ?_
      rw [e8n10]
      simp only [gdF, gd1, hd1, tl1, dr0, dr1, dr2, dr3, dr4, dr5, dr6, bo1, in1, st1, ls1, le1, pt1, fi1, fb1, fs1, ct1, cf1, nt1, nf1, ak0, akT, akF, cdec, cndec, cbeq, cnbeq, ↓reduceIte, beq_self_eq_true, Int.reduceBEq, Int.reduceEq, Bool.and_true, Bool.true_and, Bool.false_and, Bool.and_false, enc_len, c1, c0, and_self, w0, next i (by omega)]
      exact this
    | false =>
      have hno : ¬ ∃ y ∈ l.take i, y.natAbs = v.natAbs := fun h => by have := hb.2 h; cases this
      by_cases e1 : x = v
      · have := ih (i + 1) true g3 ⟨fun _ => ⟨x, by rw [ht]; simp, hx.2 (.inl e1)⟩, fun _ => rfl⟩
        refine ex_of ?_
        rw [e8n10]
        simp only [gdF, gd1, hd1, tl1, dr0, dr1, dr2, dr3, dr4, dr5, dr6, bo1, in1, st1, ls1, le1, pt1, fi1, fb1, fs1, ct1, cf1, nt1, nf1, ak0, akT, akF, cdec, cndec, cbeq, cnbeq, ↓reduceIte, beq_self_eq_true, Int.reduceBEq, Int.reduceEq, Bool.and_true, Bool.true_and, Bool.false_and, Bool.and_false, enc_len, c1, c0, and_self, enc_get g1, w0, e1, next i (by omega)]
        exact this
      · have e1b : (x == v) = false := by simpa using e1
        by_cases e2 : x = -v
        · have := ih (i + 1) true g3 ⟨fun _ => ⟨x, by rw [ht]; simp, hx.2 (.inr e2)⟩, fun _ => rfl⟩
          refine ex_of ?_
          rw [e8n10]
          have e3 : ¬ -v = v := by omega
          have e3b : (-v == v) = false := by simpa using e3
          subst e2
          simp only [gdF, gd1, hd1, tl1, dr0, dr1, dr2, dr3, dr4, dr5, dr6, bo1, in1, st1, ls1, le1, pt1, fi1, fb1, fs1, ct1, cf1, nt1, nf1, ak0, akT, akF, cdec, cndec, cbeq, cnbeq, ↓reduceIte, beq_self_eq_true, Int.reduceBEq, Int.reduceEq, Bool.and_true, Bool.true_and, Bool.false_and, Bool.and_false, enc_len, c1, c0, and_self, enc_get g1, w0, e3, e3b, next i (by omega)]
          exact this
        · have e2b : (x == -v) = false := by simpa using e2
          have := ih (i + 1) false g3 ⟨fun h => (by cases h), fun h => by
            obtain ⟨y, hy, e⟩ := h
            rw [ht] at hy
            rcases List.mem_append.1 hy with hy | hy
            · exact absurd ⟨y, hy, e⟩ hno
            · rw [List.mem_singleton.1 hy] at e
              rcases hx.1 e with h | h
              · exact absurd h e1
              · exact absurd h e2⟩
          refine ex_of ?_
          rw [e8n10]
          simp only [gdF, gd1, hd1, tl1, dr0, dr1, dr2, dr3, dr4, dr5, dr6, bo1, in1, st1, ls1, le1, pt1, fi1, fb1, fs1, ct1, cf1, nt1, nf1, ak0, akT, akF, cdec, cndec, cbeq, cnbeq, ↓reduceIte, beq_self_eq_true, Int.reduceBEq, Int.reduceEq, Bool.and_true, Bool.true_and, Bool.false_and, Bool.and_false, enc_len, c1, c0, and_self, enc_get g1, w0, e1, e1b, e2, e2b, next i (by omega)]
          exact this
theorem n8l : ∀ (d j : Nat) (a : Int) (l : List Int), d + j = 3 → ClOk 4 l → l.length ≤ j → Ex (Or K8n3 [I a, I 4, o0, I (j : Int)] [Blk.sl false 1 l.isEmpty (enc l)]) := by
  intro d
  induction d with
  | zero =>
    intro j a l hd ok hl
    obtain ⟨r, hr, k19⟩ := s19 a (m := 3) (by decide) (by decide)
    have k19' : Or (.call 19) [I a, I 3] [] = some [ti (r : Int)] := k19
    have c1 : ¬ (j : Int) ≤ (r : Int) := by omega
    refine ex_of ?_
    rw [e8n3]
    simp only [gd1, hd1, tl1, dr0, dr1, dr2, dr3, dr4, dr5, dr6, bo1, in1, st1, ls1, le1, pt1, fi1, fb1, fs1, ct1, cf1, nt1, nf1, ak0, akT, akF, cdec, cndec, cbeq, cnbeq, ↓reduceIte, beq_self_eq_true, Int.reduceBEq, Int.reduceEq, Bool.and_true, Bool.true_and, Bool.false_and, Bool.and_false, k19', c1]
    exact n8o 3 1 l rfl (by decide) ok
  | succ d ih =>
    intro j a l hd ok hl
    obtain ⟨r, hr, k19⟩ := s19 a (m := 3) (by decide) (by decide)
    have k19' : Or (.call 19) [I a, I 3] [] = some [ti (r : Int)] := k19
    refine ex_of ?_
    rw [e8n3]
    by_cases c1 : (j : Int) ≤ (r : Int)
    · obtain ⟨r2, hr2, k19b⟩ := s19 (IntKind.i64.wrap (a.tdiv 3)) (m := 4) (by decide) (by decide)
      have k19b' : Or (.call 19) [I (IntKind.i64.wrap (a.tdiv 3)), I 4] [] = some [ti (r2 : Int)] := k19b
      have h4 : ¬ (4 : Int) = 0 := by decide
      have w : IntKind.i64.wrap (1 + (r2 : Int)) = 1 + (r2 : Int) := wr (by omega)
      simp only [gdF, gd1, hd1, tl1, dr0, dr1, dr2, dr3, dr4, dr5, dr6, bo1, in1, st1, ls1, le1, pt1, fi1, fb1, fs1, ct1, cf1, nt1, nf1, ak0, akT, akF, cdec, cndec, cbeq, cnbeq, ↓reduceIte, beq_self_eq_true, Int.reduceBEq, Int.reduceEq, Bool.and_true, Bool.true_and, Bool.false_and, Bool.and_false, k19', c1, k19b', h4, w]
      refine n8h _ j (by omega) (1 + (r2 : Int)) (by omega) l ok (fun _ => ih (j + 1) _ l (by omega) ok (by omega)) (fun hno y hy => ih (j + 1) _ (l ++ [y]) (by omega) ⟨fun x hx => ?_, by simp; omega, ?_⟩ (by simp; omega)) l 0 false rfl (by simp)
      · rcases List.mem_append.1 hx with hx | hx
        · exact ok.lit x hx
        · rw [List.mem_singleton.1 hx]
          rcases hy with rfl | rfl <;> (unfold LOk; omega)
      · rw [List.map_append, List.nodup_append]
        refine ⟨ok.nd, by simp, fun p hp q hq e => ?_⟩
        obtain ⟨x, hx, rfl⟩ := List.mem_map.1 hp
        simp only [List.map_cons, List.map_nil, List.mem_singleton] at hq
        refine hno x hx ?_
        rw [e, hq]
        rcases hy with rfl | rfl <;> omega
    · simp only [gd1, hd1, tl1, dr0, dr1, dr2, dr3, dr4, dr5, dr6, bo1, in1, st1, ls1, le1, pt1, fi1, fb1, fs1, ct1, cf1, nt1, nf1, ak0, akT, akF, cdec, cndec, cbeq, cnbeq, ↓reduceIte, beq_self_eq_true, Int.reduceBEq, Int.reduceEq, Bool.and_true, Bool.true_and, Bool.false_and, Bool.and_false, k19', c1]
      exact n8o 3 1 l rfl (by decide) ok
/-- ClauseOf. -/
theorem s8 (a : Int) : Ex (Or (.call 8) [I a, I 4] []) := by
  have := n8l 3 0 a [] rfl ⟨by simp, by simp, by simp⟩ (by simp)
  refine ex_of ?_
  rw [e8]
  exact this
/-! ### CnfOf -/
theorem n4 (e : Bool) (raw : List Int) : ∀ (d i : Nat) (cs : List (List Int)), d + i = 8 → cs.length = i → (∀ l ∈ cs, ClOk 4 l) →
    ∃ cs', cs'.length ≤ 8 ∧ (∀ l ∈ cs', ClOk 4 l) ∧ Or K4n3 [lst e raw, I 4, I 8, r0, AV.ref (Id.c 1) 0, I (i : Int)] [Blk.box [I 0, AV.t (T.emp true)], Blk.box [I 4, AV.own (Id.c 2)], Blk.sl false 1 cs.isEmpty (encC cs)] = some [ti 4, T.lst 1 cs'.isEmpty (encC cs')] := by
  intro d
  induction d with
  | zero =>
    intro i cs hd hl ok
    have h2 : ¬ (i : Int) < 8 := by omega
    refine ⟨cs, by omega, ok, orc_of ?_⟩
    rw [e4n3]
    by_cases h1 : (i : Int) < ((enc raw).length : Int)
    · simp only [gd1, hd1, tl1, dr0, dr1, dr2, dr3, dr4, dr5, dr6, bo1, in1, st1, ls1, le1, pt1, fi1, fb1, fs1, ct1, cf1, nt1, nf1, ak0, akT, akF, cdec, cndec, cbeq, cnbeq, ↓reduceIte, beq_self_eq_true, Int.reduceBEq, Int.reduceEq, Bool.and_true, Bool.true_and, Bool.false_and, Bool.and_false, h1, h2, decide_true, decide_false]
    · simp only [gd1, hd1, tl1, dr0, dr1, dr2, dr3, dr4, dr5, dr6, bo1, in1, st1, ls1, le1, pt1, fi1, fb1, fs1, ct1, cf1, nt1, nf1, ak0, akT, akF, cdec, cndec, cbeq, cnbeq, ↓reduceIte, beq_self_eq_true, Int.reduceBEq, Int.reduceEq, Bool.and_true, Bool.true_and, Bool.false_and, Bool.and_false, h1, decide_false]
  | succ d ih =>
    intro i cs hd hl ok
    have h2 : (i : Int) < 8 := by omega
    by_cases h1 : (i : Int) < (raw.length : Int)
    · have hr : raw[i]? = some (raw[i]'(by omega)) := List.getElem?_eq_getElem _
      generalize raw[i]'(by omega) = x at hr
      obtain ⟨l, okl, k8⟩ := s8 x
      have h0 : 0 ≤ (i : Int) := by omega
      obtain ⟨cs', q1, q2, q3⟩ := ih (i + 1) (cs ++ [l]) (by omega) (by simp [hl]) (fun m hm => by
        rcases List.mem_append.1 hm with h | h
        · exact ok m h
        · rw [List.mem_singleton.1 h]; exact okl)
      have sm : small 24 ((encC cs).length + [[T.lst 1 l.isEmpty (enc l)]].length) = some () := small_ok (by rw [encC_len]; simp; omega)
      have en : encC cs ++ [[T.lst 1 l.isEmpty (enc l)]] = encC (cs ++ [l]) := by unfold encC; rw [List.map_append]; rfl
      have ee : (cs ++ [l]).isEmpty = false := by cases cs <;> rfl
      rw [ee] at q3
      refine ⟨cs', q1, q2, orc_of ?_⟩
      rw [e4n3]
      simp only [gd1, hd1, tl1, dr0, dr1, dr2, dr3, dr4, dr5, dr6, bo1, in1, st1, ls1, le1, pt1, fi1, fb1, fs1, ct1, cf1, nt1, nf1, ak0, akT, akF, cdec, cndec, cbeq, cnbeq, ↓reduceIte, beq_self_eq_true, Int.reduceBEq, Int.reduceEq, Bool.and_true, Bool.true_and, Bool.false_and, Bool.and_false, enc_len, h1, h2, h0, and_self, decide_true, enc_get hr, k8, sm, en, Bool.and_false, next i (by omega)]
      exact q3
    · refine ⟨cs, by omega, ok, orc_of ?_⟩
      rw [e4n3]
      simp only [gd1, hd1, tl1, dr0, dr1, dr2, dr3, dr4, dr5, dr6, bo1, in1, st1, ls1, le1, pt1, fi1, fb1, fs1, ct1, cf1, nt1, nf1, ak0, akT, akF, cdec, cndec, cbeq, cnbeq, ↓reduceIte, beq_self_eq_true, Int.reduceBEq, Int.reduceEq, Bool.and_true, Bool.true_and, Bool.false_and, Bool.and_false, enc_len, h1, decide_false]
theorem s4 (e : Bool) (raw : List Int) : ∃ cs, cs.length ≤ 8 ∧ (∀ l ∈ cs, ClOk 4 l) ∧ Or (.call 4) [lst e raw, I 4, I 8] [] = some [ti 4, T.lst 1 cs.isEmpty (encC cs)] := by
  obtain ⟨cs, q1, q2, q3⟩ := n4 e raw 8 0 [] rfl rfl (by simp)
  refine ⟨cs, q1, q2, orc_of ?_⟩
  rw [e4]
  exact q3
end Go.Aev.Gen
