/-
  Jobs, waits and starts: what is wrong with them, and whether they are right.
-/
import Derived.Test.YtnfclphlpdbbpaaTGen
import Derived.Test.YtnfclphlpdbbpaaAevStep
set_option linter.unusedSimpArgs false
set_option linter.unusedVariables false
namespace Go.Aev.Gen
open Go Go.Aev

noncomputable abbrev Or : Orc := orc PROG ann
abbrev ti (n : Int) : T := .int .i64 n
abbrev tb (b : Bool) : T := .bool b

theorem at_drop {α : Type} {l : List α} {i : Nat} {r : α} {rest : List α} (h : l.drop i = r :: rest) : l[i]? = some r ∧ i < l.length ∧ l.drop (i + 1) = rest := by
  have hlt : i < l.length := by
    rcases Nat.lt_or_ge i l.length with g | g
    · exact g
    · rw [List.drop_eq_nil_of_le g] at h; cases h
  rw [List.drop_eq_getElem_cons hlt] at h
  simp only [List.cons.injEq] at h
  exact ⟨by rw [List.getElem?_eq_getElem hlt, h.1], hlt, h.2⟩
theorem at_end {α : Type} {l : List α} {i : Nat} (h : l.drop i = []) : l.length ≤ i := by simpa using h
def enc (l : List Int) : List (List T) := l.map fun r => [ti r]
theorem enc_len (l : List Int) : (enc l).length = l.length := by simp [enc]
theorem enc_get {l : List Int} {i : Nat} {r : Int} (h : l[i]? = some r) : (enc l)[((i : Nat) : Int).toNat]? = some [ti r] := by simp [enc, h]
abbrev lst (e : Bool) (l : List Int) : AV := AV.t (T.lst 1 e (enc l))
abbrev r0 : AV := AV.ref (Id.c 0) 0
abbrev r1 : AV := AV.ref (Id.c 1) 0
abbrev bx2 (a b : Int) : Blk := Blk.box [I a, I b]

structure J where
  l : Int
  m : Int
  f : Int
  deriving Inhabited
structure W where
  a : Int
  b : Int
  y : Int
  deriving Inhabited
def eJ (j : J) : List T := [ti j.l, ti j.m, ti j.f]
def eW (w : W) : List T := [ti w.a, ti w.b, ti w.y]
def eJs (l : List J) : List (List T) := l.map eJ
def eWs (l : List W) : List (List T) := l.map eW
theorem eJs_len (l : List J) : (eJs l).length = l.length := by simp [eJs]
theorem eWs_len (l : List W) : (eWs l).length = l.length := by simp [eWs]
theorem eJs_get {l : List J} {i : Nat} {r : J} (h : l[i]? = some r) : (eJs l)[((i : Nat) : Int).toNat]? = some [ti r.l, ti r.m, ti r.f] := by simp [eJs, h, eJ]
theorem eWs_get {l : List W} {i : Nat} {r : W} (h : l[i]? = some r) : (eWs l)[((i : Nat) : Int).toNat]? = some [ti r.a, ti r.b, ti r.y] := by simp [eWs, h, eW]
abbrev LJ (e : Bool) (l : List J) : AV := AV.t (T.lst 3 e (eJs l))
abbrev LW (e : Bool) (l : List W) : AV := AV.t (T.lst 3 e (eWs l))
def at' (l : List Int) (i : Int) : Int := l.getD i.toNat 0
def jat (l : List J) (i : Int) : J := l.getD i.toNat default
theorem enc_at {l : List Int} {i : Int} (h : 0 ≤ i ∧ i < (l.length : Int)) : (enc l)[i.toNat]? = some [ti (at' l i)] := by
  have hlt : i.toNat < l.length := by omega
  simp [enc, at', List.getD_eq_getElem?_getD, hlt]
theorem eJs_at {l : List J} {i : Int} (h : 0 ≤ i ∧ i < (l.length : Int)) : (eJs l)[i.toNat]? = some [ti (jat l i).l, ti (jat l i).m, ti (jat l i).f] := by
  have hlt : i.toNat < l.length := by omega
  simp [eJs, jat, List.getD_eq_getElem?_getD, hlt, eJ]
theorem next (i : Nat) (h : i ≤ 100000) : IntKind.i64.wrap ((i : Int) + 1) = ((i + 1 : Nat) : Int) := by rw [wr (by omega)]; omega
theorem small_ok {bs n : Nat} (h : n ≤ 100000) : small bs n = some () := by unfold small; rw [if_pos (.inl (by unfold lim; omega))]
theorem inB_ok {lo hi n : Int} (h : 0 ≤ lo ∧ lo ≤ hi ∧ hi ≤ n) : inB lo hi n = some () := by unfold inB; rw [if_pos h]
theorem s11 (c a : Int) : Or (.call 11) [I c, I a] [] = some [ti c, ti a] := orc_of (by rw [e11])
theorem s8 : Or (.call 8) [] [] = some [tb true] := orc_of_N (n := 100) (by kernel_rfl)

/-! ### What is wrong -/
def badJ (j : J) : Prop := ((((j.l < 0 ∨ j.l > 200) ∨ j.f < 0) ∨ j.f > 200) ∨ j.m < 0) ∨ j.m ≥ 8
instance (j : J) : Decidable (badJ j) := by unfold badJ; infer_instance
def badA (n : Int) (w : W) : Prop := ((w.a < 0 ∨ w.a ≥ n) ∨ w.b < 0) ∨ w.b ≥ n
instance (n : Int) (w : W) : Decidable (badA n w) := by unfold badA; infer_instance
def badY (w : W) : Prop := w.y < -200 ∨ w.y > 200
instance (w : W) : Decidable (badY w) := by unfold badY; infer_instance
def scanW (n : Int) : List W → Nat → Int × Int
  | [], _ => (0, 0)
  | w :: r, i => if badA n w then (6, i) else if badY w then (5, i) else scanW n r (i + 1)
def scanJ (n : Int) (ws : List W) : List J → Nat → Int × Int
  | [], _ => scanW n ws 0
  | j :: r, i => if badJ j then (3, i) else scanJ n ws r (i + 1)
def chk (js : List J) (ws : List W) : Int × Int :=
  if (js.length : Int) > 8 then (2, 0) else if (ws.length : Int) > 60 then (2, 1) else scanJ js.length ws js 0

theorem n16w (js : List J) (ws : List W) (e e' : Bool) (hn : ws.length ≤ 60) : ∀ (rest : List W) (i : Nat), ws.drop i = rest →
    Or K16n12 [LJ e js, r0, LW e' ws, I (ws.length : Int), I (i : Int)] [bx2 0 0] = some [ti (scanW js.length rest i).1, ti (scanW js.length rest i).2] := by
  intro rest
  induction rest with
  | nil =>
    intro i h
    refine orc_of ?_
    rw [e16n12]
    have h1 : ¬ (i : Int) < (ws.length : Int) := by have := at_end h; omega
    simp only [gd1, hd1, tl1, dr0, dr1, dr2, dr3, dr4, dr5, dr6, bo1, in1, st1, ls1, le1, pt1, fi1, fb1, fs1, ct1, cf1, nt1, nf1, ak0, akT, akF, cdec, cndec, cbeq, cnbeq, ↓reduceIte, beq_self_eq_true, Int.reduceBEq, Int.reduceEq, Bool.and_true, Bool.true_and, Bool.false_and, Bool.and_false, h1, scanW]
  | cons w rest ih =>
    intro i h
    obtain ⟨g1, g2, g3⟩ := at_drop h
    refine orc_of ?_
    rw [e16n12]
    have h1 : (i : Int) < (ws.length : Int) := by omega
    have h0 : 0 ≤ (i : Int) := by omega
    simp only [cor, ← Bool.decide_or]
    simp only [gd1, hd1, tl1, dr0, dr1, dr2, dr3, dr4, dr5, dr6, bo1, in1, st1, ls1, le1, pt1, fi1, fb1, fs1, ct1, cf1, nt1, nf1, ak0, akT, akF, cdec, cndec, cbeq, cnbeq, ↓reduceIte, beq_self_eq_true, Int.reduceBEq, Int.reduceEq, Bool.and_true, Bool.true_and, Bool.false_and, Bool.and_false, h1, h0, and_self, eWs_len, eJs_len, eWs_get g1, scanW]
    by_cases ha : badA js.length w
    · have ha' := ha
      unfold badA at ha'
      simp only [gd1, hd1, tl1, dr0, dr1, dr2, dr3, dr4, dr5, dr6, bo1, in1, st1, ls1, le1, pt1, fi1, fb1, fs1, ct1, cf1, nt1, nf1, ak0, akT, akF, cdec, cndec, cbeq, cnbeq, ↓reduceIte, beq_self_eq_true, Int.reduceBEq, Int.reduceEq, Bool.and_true, Bool.true_and, Bool.false_and, Bool.and_false, ha, ha']
    · have ha' := ha
      unfold badA at ha'
      by_cases hy : badY w
      · have hy' := hy
        unfold badY at hy'
        simp only [gd1, hd1, tl1, dr0, dr1, dr2, dr3, dr4, dr5, dr6, bo1, in1, st1, ls1, le1, pt1, fi1, fb1, fs1, ct1, cf1, nt1, nf1, ak0, akT, akF, cdec, cndec, cbeq, cnbeq, ↓reduceIte, beq_self_eq_true, Int.reduceBEq, Int.reduceEq, Bool.and_true, Bool.true_and, Bool.false_and, Bool.and_false, ha, ha', hy, hy']
      · have hy' := hy
        unfold badY at hy'
        simp only [gd1, hd1, tl1, dr0, dr1, dr2, dr3, dr4, dr5, dr6, bo1, in1, st1, ls1, le1, pt1, fi1, fb1, fs1, ct1, cf1, nt1, nf1, ak0, akT, akF, cdec, cndec, cbeq, cnbeq, ↓reduceIte, beq_self_eq_true, Int.reduceBEq, Int.reduceEq, Bool.and_true, Bool.true_and, Bool.false_and, Bool.and_false, ha, ha', hy, hy', next i (by omega), ih (i + 1) g3]
theorem n16j (js : List J) (ws : List W) (e e' : Bool) (hj : js.length ≤ 8) (hn : ws.length ≤ 60) : ∀ (rest : List J) (i : Nat), js.drop i = rest →
    Or K16n6 [LJ e js, LW e' ws, r0, LJ e js, I (js.length : Int), I (i : Int)] [bx2 0 0] =
      some [ti (scanJ js.length ws rest i).1, ti (scanJ js.length ws rest i).2] := by
  intro rest
  induction rest with
  | nil =>
    intro i h
    refine orc_of ?_
    rw [e16n6]
    have h1 : ¬ (i : Int) < (js.length : Int) := by have := at_end h; omega
    simp only [gd1, hd1, tl1, dr0, dr1, dr2, dr3, dr4, dr5, dr6, bo1, in1, st1, ls1, le1, pt1, fi1, fb1, fs1, ct1, cf1, nt1, nf1, ak0, akT, akF, cdec, cndec, cbeq, cnbeq, ↓reduceIte, beq_self_eq_true, Int.reduceBEq, Int.reduceEq, Bool.and_true, Bool.true_and, Bool.false_and, Bool.and_false, h1, scanJ, eWs_len]
    exact n16w js ws e e' hn ws 0 rfl
  | cons j rest ih =>
    intro i h
    obtain ⟨g1, g2, g3⟩ := at_drop h
    refine orc_of ?_
    rw [e16n6]
    have h1 : (i : Int) < (js.length : Int) := by omega
    have h0 : 0 ≤ (i : Int) := by omega
    simp only [cor, ← Bool.decide_or]
    simp only [gd1, hd1, tl1, dr0, dr1, dr2, dr3, dr4, dr5, dr6, bo1, in1, st1, ls1, le1, pt1, fi1, fb1, fs1, ct1, cf1, nt1, nf1, ak0, akT, akF, cdec, cndec, cbeq, cnbeq, ↓reduceIte, beq_self_eq_true, Int.reduceBEq, Int.reduceEq, Bool.and_true, Bool.true_and, Bool.false_and, Bool.and_false, h1, h0, and_self, eJs_len, eJs_get g1, scanJ]
    by_cases ha : badJ j
    · have ha' := ha
      unfold badJ at ha'
      simp only [gd1, hd1, tl1, dr0, dr1, dr2, dr3, dr4, dr5, dr6, bo1, in1, st1, ls1, le1, pt1, fi1, fb1, fs1, ct1, cf1, nt1, nf1, ak0, akT, akF, cdec, cndec, cbeq, cnbeq, ↓reduceIte, beq_self_eq_true, Int.reduceBEq, Int.reduceEq, Bool.and_true, Bool.true_and, Bool.false_and, Bool.and_false, ha, ha']
    · have ha' := ha
      unfold badJ at ha'
      simp only [gd1, hd1, tl1, dr0, dr1, dr2, dr3, dr4, dr5, dr6, bo1, in1, st1, ls1, le1, pt1, fi1, fb1, fs1, ct1, cf1, nt1, nf1, ak0, akT, akF, cdec, cndec, cbeq, cnbeq, ↓reduceIte, beq_self_eq_true, Int.reduceBEq, Int.reduceEq, Bool.and_true, Bool.true_and, Bool.false_and, Bool.and_false, ha, ha', next i (by omega), ih (i + 1) g3]
theorem s16 (js : List J) (ws : List W) (e e' : Bool) : Or (.call 16) [LJ e js, LW e' ws] [] = some [ti (chk js ws).1, ti (chk js ws).2] := by
  refine orc_of ?_
  rw [e16]
  unfold chk
  simp only [eJs_len, eWs_len]
  by_cases h1 : (js.length : Int) > 8
  · simp only [gd1, hd1, tl1, dr0, dr1, dr2, dr3, dr4, dr5, dr6, bo1, in1, st1, ls1, le1, pt1, fi1, fb1, fs1, ct1, cf1, nt1, nf1, ak0, akT, akF, cdec, cndec, cbeq, cnbeq, ↓reduceIte, beq_self_eq_true, Int.reduceBEq, Int.reduceEq, Bool.and_true, Bool.true_and, Bool.false_and, Bool.and_false, h1]
  · by_cases h2 : (ws.length : Int) > 60
    · simp only [gd1, hd1, tl1, dr0, dr1, dr2, dr3, dr4, dr5, dr6, bo1, in1, st1, ls1, le1, pt1, fi1, fb1, fs1, ct1, cf1, nt1, nf1, ak0, akT, akF, cdec, cndec, cbeq, cnbeq, ↓reduceIte, beq_self_eq_true, Int.reduceBEq, Int.reduceEq, Bool.and_true, Bool.true_and, Bool.false_and, Bool.and_false, h1, h2]
    · have := n16j js ws e e' (by omega) (by omega) js 0 rfl
      simp only [gd1, hd1, tl1, dr0, dr1, dr2, dr3, dr4, dr5, dr6, bo1, in1, st1, ls1, le1, pt1, fi1, fb1, fs1, ct1, cf1, nt1, nf1, ak0, akT, akF, cdec, cndec, cbeq, cnbeq, ↓reduceIte, beq_self_eq_true, Int.reduceBEq, Int.reduceEq, Bool.and_true, Bool.true_and, Bool.false_and, Bool.and_false, h1, h2]
      exact this

theorem n10w (js : List J) (ws : List W) (e e' : Bool) (hn : ws.length ≤ 60) : ∀ (rest : List W) (i : Nat), ws.drop i = rest →
    Or K10n12 [LJ e js, LW e' ws, r0, I (i : Int)] [bx2 0 0] = some [ti (scanW js.length rest i).1, ti (scanW js.length rest i).2] := by
  intro rest
  induction rest with
  | nil =>
    intro i h
    refine orc_of ?_
    rw [e10n12]
    have h1 : ¬ (i : Int) < (ws.length : Int) := by have := at_end h; omega
    simp only [gd1, hd1, tl1, dr0, dr1, dr2, dr3, dr4, dr5, dr6, bo1, in1, st1, ls1, le1, pt1, fi1, fb1, fs1, ct1, cf1, nt1, nf1, ak0, akT, akF, cdec, cndec, cbeq, cnbeq, ↓reduceIte, beq_self_eq_true, Int.reduceBEq, Int.reduceEq, Bool.and_true, Bool.true_and, Bool.false_and, Bool.and_false, h1, scanW, eWs_len]
  | cons w rest ih =>
    intro i h
    obtain ⟨g1, g2, g3⟩ := at_drop h
    refine orc_of ?_
    rw [e10n12]
    have h1 : (i : Int) < (ws.length : Int) := by omega
    have h0 : 0 ≤ (i : Int) := by omega
    simp only [cor, ← Bool.decide_or]
    simp only [gd1, hd1, tl1, dr0, dr1, dr2, dr3, dr4, dr5, dr6, bo1, in1, st1, ls1, le1, pt1, fi1, fb1, fs1, ct1, cf1, nt1, nf1, ak0, akT, akF, cdec, cndec, cbeq, cnbeq, ↓reduceIte, beq_self_eq_true, Int.reduceBEq, Int.reduceEq, Bool.and_true, Bool.true_and, Bool.false_and, Bool.and_false, h1, h0, and_self, eWs_len, eJs_len, eWs_get g1, scanW]
    by_cases ha : badA js.length w
    · have ha' : ((w.a < 0 ∨ w.b < 0) ∨ w.a ≥ (js.length : Int)) ∨ w.b ≥ (js.length : Int) := by unfold badA at ha; omega
      simp only [gd1, hd1, tl1, dr0, dr1, dr2, dr3, dr4, dr5, dr6, bo1, in1, st1, ls1, le1, pt1, fi1, fb1, fs1, ct1, cf1, nt1, nf1, ak0, akT, akF, cdec, cndec, cbeq, cnbeq, ↓reduceIte, beq_self_eq_true, Int.reduceBEq, Int.reduceEq, Bool.and_true, Bool.true_and, Bool.false_and, Bool.and_false, ha, ha', s11]
    · have ha' : ¬ (((w.a < 0 ∨ w.b < 0) ∨ w.a ≥ (js.length : Int)) ∨ w.b ≥ (js.length : Int)) := by unfold badA at ha; omega
      by_cases hy : badY w
      · have hy' : w.y > 200 ∨ w.y < -200 := by unfold badY at hy; omega
        simp only [gd1, hd1, tl1, dr0, dr1, dr2, dr3, dr4, dr5, dr6, bo1, in1, st1, ls1, le1, pt1, fi1, fb1, fs1, ct1, cf1, nt1, nf1, ak0, akT, akF, cdec, cndec, cbeq, cnbeq, ↓reduceIte, beq_self_eq_true, Int.reduceBEq, Int.reduceEq, Bool.and_true, Bool.true_and, Bool.false_and, Bool.and_false, ha, ha', hy, hy', s11]
      · have hy' : ¬ (w.y > 200 ∨ w.y < -200) := by unfold badY at hy; omega
        simp only [gd1, hd1, tl1, dr0, dr1, dr2, dr3, dr4, dr5, dr6, bo1, in1, st1, ls1, le1, pt1, fi1, fb1, fs1, ct1, cf1, nt1, nf1, ak0, akT, akF, cdec, cndec, cbeq, cnbeq, ↓reduceIte, beq_self_eq_true, Int.reduceBEq, Int.reduceEq, Bool.and_true, Bool.true_and, Bool.false_and, Bool.and_false, ha, ha', hy, hy', next i (by omega), ih (i + 1) g3]
theorem n10j (js : List J) (ws : List W) (e e' : Bool) (hj : js.length ≤ 8) (hn : ws.length ≤ 60) : ∀ (rest : List J) (i : Nat), js.drop i = rest →
    Or K10n6 [LJ e js, LW e' ws, r0, I (i : Int)] [bx2 0 0] =
      some [ti (scanJ js.length ws rest i).1, ti (scanJ js.length ws rest i).2] := by
  intro rest
  induction rest with
  | nil =>
    intro i h
    refine orc_of ?_
    rw [e10n6]
    have h1 : ¬ (i : Int) < (js.length : Int) := by have := at_end h; omega
    simp only [gd1, hd1, tl1, dr0, dr1, dr2, dr3, dr4, dr5, dr6, bo1, in1, st1, ls1, le1, pt1, fi1, fb1, fs1, ct1, cf1, nt1, nf1, ak0, akT, akF, cdec, cndec, cbeq, cnbeq, ↓reduceIte, beq_self_eq_true, Int.reduceBEq, Int.reduceEq, Bool.and_true, Bool.true_and, Bool.false_and, Bool.and_false, h1, scanJ, eJs_len]
    exact n10w js ws e e' hn ws 0 rfl
  | cons j rest ih =>
    intro i h
    obtain ⟨g1, g2, g3⟩ := at_drop h
    refine orc_of ?_
    rw [e10n6]
    have h1 : (i : Int) < (js.length : Int) := by omega
    have h0 : 0 ≤ (i : Int) := by omega
    simp only [cor, ← Bool.decide_or]
    simp only [gd1, hd1, tl1, dr0, dr1, dr2, dr3, dr4, dr5, dr6, bo1, in1, st1, ls1, le1, pt1, fi1, fb1, fs1, ct1, cf1, nt1, nf1, ak0, akT, akF, cdec, cndec, cbeq, cnbeq, ↓reduceIte, beq_self_eq_true, Int.reduceBEq, Int.reduceEq, Bool.and_true, Bool.true_and, Bool.false_and, Bool.and_false, h1, h0, and_self, eJs_len, eJs_get g1, scanJ]
    by_cases ha : badJ j
    · have ha' : ((((j.l < 0 ∨ j.f < 0) ∨ j.m < 0) ∨ j.l > 200) ∨ j.f > 200) ∨ j.m > 7 := by unfold badJ at ha; omega
      simp only [gd1, hd1, tl1, dr0, dr1, dr2, dr3, dr4, dr5, dr6, bo1, in1, st1, ls1, le1, pt1, fi1, fb1, fs1, ct1, cf1, nt1, nf1, ak0, akT, akF, cdec, cndec, cbeq, cnbeq, ↓reduceIte, beq_self_eq_true, Int.reduceBEq, Int.reduceEq, Bool.and_true, Bool.true_and, Bool.false_and, Bool.and_false, ha, ha', s11]
    · have ha' : ¬ (((((j.l < 0 ∨ j.f < 0) ∨ j.m < 0) ∨ j.l > 200) ∨ j.f > 200) ∨ j.m > 7) := by unfold badJ at ha; omega
      simp only [gd1, hd1, tl1, dr0, dr1, dr2, dr3, dr4, dr5, dr6, bo1, in1, st1, ls1, le1, pt1, fi1, fb1, fs1, ct1, cf1, nt1, nf1, ak0, akT, akF, cdec, cndec, cbeq, cnbeq, ↓reduceIte, beq_self_eq_true, Int.reduceBEq, Int.reduceEq, Bool.and_true, Bool.true_and, Bool.false_and, Bool.and_false, ha, ha', next i (by omega), ih (i + 1) g3]
theorem s10 (js : List J) (ws : List W) (e e' : Bool) : Or (.call 10) [LJ e js, LW e' ws] [] = some [ti (chk js ws).1, ti (chk js ws).2] := by
  refine orc_of ?_
  rw [e10]
  unfold chk
  simp only [eJs_len, eWs_len]
  by_cases h1 : (js.length : Int) > 8
  · simp only [gd1, hd1, tl1, dr0, dr1, dr2, dr3, dr4, dr5, dr6, bo1, in1, st1, ls1, le1, pt1, fi1, fb1, fs1, ct1, cf1, nt1, nf1, ak0, akT, akF, cdec, cndec, cbeq, cnbeq, ↓reduceIte, beq_self_eq_true, Int.reduceBEq, Int.reduceEq, Bool.and_true, Bool.true_and, Bool.false_and, Bool.and_false, h1, s11]
  · by_cases h2 : (ws.length : Int) > 60
    · simp only [gd1, hd1, tl1, dr0, dr1, dr2, dr3, dr4, dr5, dr6, bo1, in1, st1, ls1, le1, pt1, fi1, fb1, fs1, ct1, cf1, nt1, nf1, ak0, akT, akF, cdec, cndec, cbeq, cnbeq, ↓reduceIte, beq_self_eq_true, Int.reduceBEq, Int.reduceEq, Bool.and_true, Bool.true_and, Bool.false_and, Bool.and_false, h1, h2, s11]
    · have := n10j js ws e e' (by omega) (by omega) js 0 rfl
      simp only [gd1, hd1, tl1, dr0, dr1, dr2, dr3, dr4, dr5, dr6, bo1, in1, st1, ls1, le1, pt1, fi1, fb1, fs1, ct1, cf1, nt1, nf1, ak0, akT, akF, cdec, cndec, cbeq, cnbeq, ↓reduceIte, beq_self_eq_true, Int.reduceBEq, Int.reduceEq, Bool.and_true, Bool.true_and, Bool.false_and, Bool.and_false, h1, h2]
      exact this
end Go.Aev.Gen
