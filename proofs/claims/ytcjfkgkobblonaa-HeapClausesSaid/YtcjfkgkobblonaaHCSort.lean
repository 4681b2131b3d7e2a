/-
  Clauses: how a short one is put in order.
-/
import Derived.Test.YtcjfkgkobblonaaHCGen
import Derived.Test.YtcjfkgkobblonaaHChk
set_option linter.unusedSimpArgs false
set_option linter.unusedVariables false
namespace Go.Aev.Gen
open Go Go.Aev Go.Aev.Hp Go.RowKit

def cmpI (a b : Int) : Int := if a < b then -1 else if a > b then 1 else 0
theorem s53 (a : Int) : Or (.call 53) [I a] [] = some [tb false] := by
  refine orc_of ?_
  rw [e53]
  have : (a == a) = true := beq_self_eq_true a
  rw [this]; rfl
theorem s47 (a b : Int) : Or (.call 47) [I a, I b] [] = some [ti (cmpI a b)] := by
  refine orc_of ?_
  rw [e47]
  unfold cmpI
  simp only [gd1, hd1, tl1, dr0, dr1, dr2, dr3, dr4, dr5, dr6, bo1, in1, st1, ls1, le1, pt1, fi1, fb1, fs1, ct1, cf1, nt1, nf1, ak0, akT, akF, cdec, cndec, cbeq, cnbeq, ↓reduceIte, beq_self_eq_true, Int.reduceBEq, Int.reduceEq, Bool.and_true, Bool.true_and, Bool.false_and, Bool.and_false, s53]
  by_cases h : a < b
  · simp only [h, if_true]
  · by_cases h2 : a > b <;> simp only [h, h2, if_true, if_false]
theorem s55 (x y : Int) : Or (.call 55) [AV.t (T.lst 1 false [[ti x], [ti y]])] [] = some [ti (if x = 0 then y else x)] := by
  have h2 : Or K55n3 [I 0, AV.t (T.lst 1 false [[ti x], [ti y]]), I 2, I 2] [] = some [ti 0] := by
    refine orc_of ?_
    rw [e55n3]
    have : ¬ (2 : Int) < 2 := by omega
    simp only [gd1, hd1, tl1, dr0, dr1, dr2, dr3, dr4, dr5, dr6, bo1, in1, st1, ls1, le1, pt1, fi1, fb1, fs1, ct1, cf1, nt1, nf1, ak0, akT, akF, cdec, cndec, cbeq, cnbeq, ↓reduceIte, beq_self_eq_true, Int.reduceBEq, Int.reduceEq, Bool.and_true, Bool.true_and, Bool.false_and, Bool.and_false, this]
  have h1 : Or K55n3 [I 0, AV.t (T.lst 1 false [[ti x], [ti y]]), I 2, I 1] [] = some [ti y] := by
    refine orc_of ?_
    rw [e55n3]
    have c1 : (1 : Int) < 2 := by omega
    have c2 : (0 : Int) ≤ 1 ∧ (1 : Int) < (([[ti x], [ti y]] : List (List T)).length : Int) := by simp
    have c3 : ([[ti x], [ti y]] : List (List T))[(1 : Int).toNat]? = some [ti y] := rfl
    have w : IntKind.i64.wrap (1 + 1) = 2 := by decide
    by_cases hy : y = 0
    · subst hy
      simp only [gd1, hd1, tl1, dr0, dr1, dr2, dr3, dr4, dr5, dr6, bo1, in1, st1, ls1, le1, pt1, fi1, fb1, fs1, ct1, cf1, nt1, nf1, ak0, akT, akF, cdec, cndec, cbeq, cnbeq, ↓reduceIte, beq_self_eq_true, Int.reduceBEq, Int.reduceEq, Bool.and_true, Bool.true_and, Bool.false_and, Bool.and_false, c1, c2, c3, and_self, w, h2]
    · have : (y == 0) = false := beq_eq_false_iff_ne.2 hy
      simp only [gd1, hd1, tl1, dr0, dr1, dr2, dr3, dr4, dr5, dr6, bo1, in1, st1, ls1, le1, pt1, fi1, fb1, fs1, ct1, cf1, nt1, nf1, ak0, akT, akF, cdec, cndec, cbeq, cnbeq, ↓reduceIte, beq_self_eq_true, Int.reduceBEq, Int.reduceEq, Bool.and_true, Bool.true_and, Bool.false_and, Bool.and_false, c1, c2, c3, and_self, hy, this]
  refine orc_of ?_
  rw [e55]
  refine orc_of ?_
  rw [e55n3]
  have c1 : (0 : Int) < (([[ti x], [ti y]] : List (List T)).length : Int) := by simp
  have c2 : (0 : Int) ≤ 0 ∧ (0 : Int) < (([[ti x], [ti y]] : List (List T)).length : Int) := by simp
  have c3 : ([[ti x], [ti y]] : List (List T))[(0 : Int).toNat]? = some [ti x] := rfl
  have w : IntKind.i64.wrap (0 + 1) = 1 := by decide
  by_cases hx : x = 0
  · subst hx
    simp only [gd1, hd1, tl1, dr0, dr1, dr2, dr3, dr4, dr5, dr6, bo1, in1, st1, ls1, le1, pt1, fi1, fb1, fs1, ct1, cf1, nt1, nf1, ak0, akT, akF, cdec, cndec, cbeq, cnbeq, ↓reduceIte, beq_self_eq_true, Int.reduceBEq, Int.reduceEq, Bool.and_true, Bool.true_and, Bool.false_and, Bool.and_false, c1, c2, c3, and_self, w]
    exact h1
  · have : (x == 0) = false := beq_eq_false_iff_ne.2 hx
    simp only [gd1, hd1, tl1, dr0, dr1, dr2, dr3, dr4, dr5, dr6, bo1, in1, st1, ls1, le1, pt1, fi1, fb1, fs1, ct1, cf1, nt1, nf1, ak0, akT, akF, cdec, cndec, cbeq, cnbeq, ↓reduceIte, beq_self_eq_true, Int.reduceBEq, Int.reduceEq, Bool.and_true, Bool.true_and, Bool.false_and, Bool.and_false, c1, c2, c3, and_self, hx, this]
def ord (x y : Int) : Int := if cmpI (max x (-x)) (max y (-y)) = 0 then cmpI y x else cmpI (max x (-x)) (max y (-y))
def Bd (x : Int) : Prop := -1000 ≤ x ∧ x ≤ 1000
theorem s50 (x y : Int) (hx : Bd x) (hy : Bd y) : Or (.call 50) [I x, I y] [] = some [ti (ord x y)] := by
  unfold Bd at hx hy
  have w1 : wrap64 (0 - x) = -x := by rw [w64 (by omega)]; omega
  have w2 : wrap64 (0 - y) = -y := by rw [w64 (by omega)]; omega
  refine orc_of ?_
  rw [e50]
  simp only [gd1, hd1, tl1, dr0, dr1, dr2, dr3, dr4, dr5, dr6, bo1, in1, st1, ls1, le1, pt1, fi1, fb1, fs1, ct1, cf1, nt1, nf1, ak0, akT, akF, cdec, cndec, cbeq, cnbeq, ↓reduceIte, beq_self_eq_true, Int.reduceBEq, Int.reduceEq, Bool.and_true, Bool.true_and, Bool.false_and, Bool.and_false, s34, s47, s55, w1, w2]
  rfl
/-- Is it ahead of it? -/
def lt (x y : Int) : Bool := decide (ord x y < 0)
theorem lt_abs {x y : Int} (h : max x (-x) ≠ max y (-y)) : lt x y = decide (max x (-x) < max y (-y)) := by
  unfold lt ord cmpI
  by_cases c : max x (-x) < max y (-y)
  · simp [c]
  · have c' : max x (-x) > max y (-y) := by omega
    simp [c, c']

abbrev oth : AV := AV.fn 50 [] []
theorem st0 {l : List Int} {e : Bool} {i : Int} {R : List T} {n : Int} (h : Or K66n1m1 [o0, I 0, I n, oth, I (wrap64 (i + 1))] [Blk.sl false 1 e (enc l)] = some R) :
    Or K66n4m1 [o0, I 0, I n, oth, I i, I 0] [Blk.sl false 1 e (enc l)] = some R := by
  refine orc_of ?_
  rw [e66n4]
  have c : ¬ (0 : Int) > 0 := by omega
  simp only [cand, wr64]
  simp only [gd1, hd1, tl1, dr0, dr1, dr2, dr3, dr4, dr5, dr6, bo1, in1, st1, ls1, le1, pt1, fi1, fb1, fs1, ct1, cf1, nt1, nf1, ak0, akT, akF, cdec, cndec, cbeq, cnbeq, ↓reduceIte, beq_self_eq_true, Int.reduceBEq, Int.reduceEq, Bool.and_true, Bool.true_and, Bool.false_and, Bool.and_false, c, decide_false, gdF]
  exact h
theorem st1' {l : List Int} {e : Bool} {i : Int} {k : Nat} {R : List T} {n : Int} {x y : Int} (hx : l[k + 1]? = some x) (hy : l[k]? = some y) (hl : l.length ≤ 100) (bx : Bd x) (by' : Bd y)
    (h1 : lt x y = true → Or K66n4m1 [o0, I 0, I n, oth, I i, I (k : Int)] [Blk.sl false 1 e (enc ((l.set (k + 1) y).set k x))] = some R)
    (h2 : lt x y = false → Or K66n1m1 [o0, I 0, I n, oth, I (wrap64 (i + 1))] [Blk.sl false 1 e (enc l)] = some R) :
    Or K66n4m1 [o0, I 0, I n, oth, I i, I ((k + 1 : Nat) : Int)] [Blk.sl false 1 e (enc l)] = some R := by
  have hk : k + 1 < l.length := by
    rcases Nat.lt_or_ge (k + 1) l.length with g | g
    · exact g
    · rw [List.getElem?_eq_none g] at hx; cases hx
  have c : ((k + 1 : Nat) : Int) > 0 := by omega
  have c0 : 0 ≤ ((k + 1 : Nat) : Int) ∧ ((k + 1 : Nat) : Int) < (l.length : Int) := by omega
  have c1 : 0 ≤ (k : Int) ∧ (k : Int) < (l.length : Int) := by omega
  have w1 : wrap64 (((k + 1 : Nat) : Int) - 1) = (k : Int) := by rw [w64 (by omega)]; omega
  have g1 := enc_get hx
  have g2 := enc_get hy
  have hs := s50 x y bx by'
  have es1 := enc_set (l := l) (i := k + 1) hk y
  have es2 := enc_set (l := l.set (k + 1) y) (i := k) (by simp; omega) x
  have c2 : 0 ≤ (k : Int) ∧ (k : Int) < ((enc (l.set (k + 1) y)).length : Int) := by rw [enc_len]; simp; omega
  refine orc_of ?_
  rw [e66n4]
  simp only [cand, wr64]
  cases hlt : lt x y with
  | true =>
    have hd : ord x y < 0 := by simpa [lt] using hlt
    simp only [gd1, hd1, tl1, dr0, dr1, dr2, dr3, dr4, dr5, dr6, bo1, in1, st1, ls1, le1, pt1, fi1, fb1, fs1, ct1, cf1, nt1, nf1, ak0, akT, akF, cdec, cndec, cbeq, cnbeq, ↓reduceIte, beq_self_eq_true, Int.reduceBEq, Int.reduceEq, Bool.and_true, Bool.true_and, Bool.false_and, Bool.and_false, c, decide_true, w1, enc_len, c0, c1, and_self, g1, g2, hs, hd, if_true, if_false, es1, es2]
    simp only [gd1, hd1, tl1, dr0, dr1, dr2, dr3, dr4, dr5, dr6, bo1, in1, st1, ls1, le1, pt1, fi1, fb1, fs1, ct1, cf1, nt1, nf1, ak0, akT, akF, cdec, cndec, cbeq, cnbeq, ↓reduceIte, beq_self_eq_true, Int.reduceBEq, Int.reduceEq, Bool.and_true, Bool.true_and, Bool.false_and, Bool.and_false, c2, and_self, es2, List.length_set, c1]
    exact h1 hlt
  | false =>
    have hd : ¬ ord x y < 0 := by simpa [lt] using hlt
    simp only [gd1, hd1, tl1, dr0, dr1, dr2, dr3, dr4, dr5, dr6, bo1, in1, st1, ls1, le1, pt1, fi1, fb1, fs1, ct1, cf1, nt1, nf1, ak0, akT, akF, cdec, cndec, cbeq, cnbeq, ↓reduceIte, beq_self_eq_true, Int.reduceBEq, Int.reduceEq, Bool.and_true, Bool.true_and, Bool.false_and, Bool.and_false, c, decide_true, w1, enc_len, c0, c1, and_self, g1, g2, hs, hd, if_true, if_false]
    exact h2 hlt

def ins2 (a b : Int) : List Int := if lt b a = true then [b, a] else [a, b]
def ins3 (x y c : Int) : List Int := if lt c y = true then (if lt c x = true then [c, x, y] else [x, c, y]) else [x, y, c]
def srt : List Int → List Int
  | [a, b] => ins2 a b
  | [a, b, c] => if lt b a = true then ins3 b a c else ins3 a b c
  | l => l
theorem srt2 (a b : Int) : srt [a, b] = ins2 a b := rfl
theorem srt3 (a b c : Int) : srt [a, b, c] = if lt b a = true then ins3 b a c else ins3 a b c := rfl
theorem n66 {l : List Int} {e : Bool} {n i : Int} (h : ¬ i < n) : Or K66n1m1 [o0, I 0, I n, oth, I i] [Blk.sl false 1 e (enc l)] = some [T.lst 1 e (enc l)] := by
  refine orc_of ?_
  rw [e66n1]
  simp only [gd1, hd1, tl1, dr0, dr1, dr2, dr3, dr4, dr5, dr6, bo1, in1, st1, ls1, le1, pt1, fi1, fb1, fs1, ct1, cf1, nt1, nf1, ak0, akT, akF, cdec, cndec, cbeq, cnbeq, ↓reduceIte, beq_self_eq_true, Int.reduceBEq, Int.reduceEq, Bool.and_true, Bool.true_and, Bool.false_and, Bool.and_false, h]
theorem n66s {l : List Int} {e : Bool} {n i : Int} {R : List T} (h : i < n) (hr : Or K66n4m1 [o0, I 0, I n, oth, I i, I i] [Blk.sl false 1 e (enc l)] = some R) : Or K66n1m1 [o0, I 0, I n, oth, I i] [Blk.sl false 1 e (enc l)] = some R := by
  refine orc_of ?_
  rw [e66n1]
  simp only [gd1, hd1, tl1, dr0, dr1, dr2, dr3, dr4, dr5, dr6, bo1, in1, st1, ls1, le1, pt1, fi1, fb1, fs1, ct1, cf1, nt1, nf1, ak0, akT, akF, cdec, cndec, cbeq, cnbeq, ↓reduceIte, beq_self_eq_true, Int.reduceBEq, Int.reduceEq, Bool.and_true, Bool.true_and, Bool.false_and, Bool.and_false, h]
  exact hr
theorem p1 : wrap64 (1 + 1) = 2 := w64 (by omega)
theorem p2 : wrap64 (2 + 1) = 3 := w64 (by omega)
/-- The third one is laid in. -/
theorem n66c {x y c : Int} {e : Bool} (bx : Bd x) (by' : Bd y) (bc : Bd c) : Or K66n1m1 [o0, I 0, I 3, oth, I 2] [Blk.sl false 1 e (enc [x, y, c])] = some [T.lst 1 e (enc (ins3 x y c))] := by
  refine n66s (by omega) (st1' (k := 1) (l := [x, y, c]) (x := c) (y := y) rfl rfl (by simp) bc by' (fun h => ?_) fun h => ?_)
  · refine st1' (k := 0) (l := [x, c, y]) (x := c) (y := x) rfl rfl (by simp) bc bx (fun h2 => ?_) fun h2 => ?_
    · refine st0 ?_
      rw [p2]
      have := n66 (l := [c, x, y]) (e := e) (n := 3) (i := 3) (by omega)
      unfold ins3
      rw [if_pos h, if_pos h2]
      exact this
    · rw [p2]
      have := n66 (l := [x, c, y]) (e := e) (n := 3) (i := 3) (by omega)
      unfold ins3
      rw [if_pos h, if_neg (by rw [h2]; simp)]
      exact this
  · rw [p2]
    have := n66 (l := [x, y, c]) (e := e) (n := 3) (i := 3) (by omega)
    unfold ins3
    rw [if_neg (by rw [h]; simp)]
    exact this
theorem s66 {e : Bool} : ∀ (l : List Int), l.length ≤ 3 → (∀ x ∈ l, Bd x) → Or (.call 66) [o0, I 0, I (l.length : Int), oth] [Blk.sl false 1 e (enc l)] = some [T.lst 1 e (enc (srt l))]
  | [], _, _ => by
    refine orc_of ?_
    rw [e66]
    exact n66 (l := []) (by decide)
  | [a], _, _ => by
    refine orc_of ?_
    rw [e66]
    exact n66 (l := [a]) (by simp; decide)
  | [a, b], _, hb => by
    have ba := hb a (by simp)
    have bb := hb b (by simp)
    have w : IntKind.i64.wrap (0 + 1) = 1 := by decide
    refine orc_of ?_
    rw [e66, w]
    refine n66s (by simp) (st1' (k := 0) (l := [a, b]) (x := b) (y := a) rfl rfl (by simp) bb ba (fun h => ?_) fun h => ?_)
    · refine st0 ?_
      rw [p1]
      have := n66 (l := [b, a]) (e := e) (n := 2) (i := 2) (by omega)
      rw [srt2]
      unfold ins2
      rw [if_pos h]
      exact this
    · rw [p1]
      have := n66 (l := [a, b]) (e := e) (n := 2) (i := 2) (by omega)
      rw [srt2]
      unfold ins2
      rw [if_neg (by rw [h]; simp)]
      exact this
  | [a, b, c], _, hb => by
    have ba := hb a (by simp)
    have bb := hb b (by simp)
    have bc := hb c (by simp)
    have w : IntKind.i64.wrap (0 + 1) = 1 := by decide
    refine orc_of ?_
    rw [e66, w]
    refine n66s (by simp) (st1' (k := 0) (l := [a, b, c]) (x := b) (y := a) rfl rfl (by simp) bb ba (fun h => ?_) fun h => ?_)
    · refine st0 ?_
      rw [p1]
      have := n66c (e := e) bb ba bc
      rw [srt3]
      rw [if_pos h]
      exact this
    · rw [p1]
      have := n66c (e := e) ba bb bc
      rw [srt3]
      rw [if_neg (by rw [h]; simp)]
      exact this
  | _ :: _ :: _ :: _ :: _, h, _ => by simp at h
theorem srt_mem : ∀ (l : List Int) (x : Int), x ∈ srt l ↔ x ∈ l
  | [], x => Iff.rfl
  | [a], x => Iff.rfl
  | [a, b], x => by
    rw [srt2]; unfold ins2
    split <;> simp [or_comm]
  | [a, b, c], x => by
    rw [srt3]; unfold ins3
    (repeat' split) <;> simp only [List.mem_cons, List.not_mem_nil, or_false] <;> constructor <;> rintro (h | h | h) <;> simp [h]
  | _ :: _ :: _ :: _ :: _, x => Iff.rfl
theorem srt_len : ∀ (l : List Int), (srt l).length = l.length
  | [] => rfl
  | [a] => rfl
  | [a, b] => by rw [srt2]; unfold ins2; split <;> rfl
  | [a, b, c] => by rw [srt3]; unfold ins3; (repeat' split) <;> rfl
  | _ :: _ :: _ :: _ :: _ => rfl
theorem srt_emp (l : List Int) : (srt l).isEmpty = l.isEmpty := by
  have := srt_len l
  cases h : srt l <;> cases l <;> simp_all
def ab (x : Int) : Int := max x (-x)
/-- In order: each one's variable is ahead of the next one's. -/
def Asc (l : List Int) : Prop := l.Pairwise fun x y => ab x < ab y
theorem srt_asc : ∀ (l : List Int), l.length ≤ 3 → (l.Pairwise fun x y => ab x ≠ ab y) → Asc (srt l)
  | [], _, _ => by simp [srt, Asc]
  | [a], _, _ => by simp [srt, Asc]
  | [a, b], _, h => by
    have h1 : ab a ≠ ab b := by simpa using h
    have l1 := lt_abs (x := b) (y := a) (fun e => h1 e.symm)
    rw [srt2]; unfold ins2
    rw [l1]
    unfold ab at *
    by_cases c : max b (-b) < max a (-a)
    · simp [Asc, ab, c]
    · simp [Asc, ab, c]; omega
  | [a, b, c], _, h => by
    simp only [List.pairwise_cons, List.mem_cons, List.not_mem_nil, or_false, forall_eq_or_imp, forall_eq, false_implies, implies_true, List.Pairwise.nil, and_true] at h
    obtain ⟨⟨h1, h2⟩, h3⟩ := h
    have l1 := lt_abs (x := b) (y := a) (fun e => h1 e.symm)
    have l2 := lt_abs (x := c) (y := a) (fun e => h2 e.symm)
    have l3 := lt_abs (x := c) (y := b) (fun e => h3 e.symm)
    rw [srt3]; unfold ins3
    rw [l1, l2, l3]
    unfold ab at *
    simp only [decide_eq_true_eq]
    (repeat' split) <;> simp [Asc, ab] <;> omega
  | _ :: _ :: _ :: _ :: _, h, _ => by simp at h

theorem s52 : ∀ (n : Nat), n ≤ 3 → ∃ m, Or (.call 52) [AV.t (T.int .u64 (IntKind.u64.wrap (n : Int)))] [] = some [ti m]
  | 0, _ => ⟨0, orc_of_N (n := 10) (by kernel_rfl)⟩
  | 1, _ => ⟨1, orc_of_N (n := 10) (by kernel_rfl)⟩
  | 2, _ => ⟨2, orc_of_N (n := 10) (by kernel_rfl)⟩
  | 3, _ => ⟨2, orc_of_N (n := 10) (by kernel_rfl)⟩
  | n + 4, h => by omega
theorem s54 {e : Bool} {m : Int} (l : List Int) (hl : l.length ≤ 3) (hb : ∀ x ∈ l, Bd x) : Or (.call 54) [o0, I 0, I (l.length : Int), I m, oth] [Blk.sl false 1 e (enc l)] = some [T.lst 1 e (enc (srt l))] := by
  refine orc_of ?_
  rw [e54]
  refine orc_of ?_
  rw [e54n2]
  have w : IntKind.i64.wrap ((l.length : Int) - 0) ≤ 12 := by rw [wr (by omega)]; omega
  rw [decide_eq_true w, ct1]
  have := s66 (e := e) l hl hb
  simp only [gd1, hd1, tl1, dr0, dr1, dr2, dr3, dr4, dr5, dr6, bo1, in1, st1, ls1, le1, pt1, fi1, fb1, fs1, ct1, cf1, nt1, nf1, ak0, akT, akF, cdec, cndec, cbeq, cnbeq, ↓reduceIte, beq_self_eq_true, Int.reduceBEq, Int.reduceEq, Bool.and_true, Bool.true_and, Bool.false_and, Bool.and_false, this, Option.bind_some]
theorem s49 {e : Bool} (l : List Int) (hl : l.length ≤ 3) (hb : ∀ x ∈ l, Bd x) : Or (.call 49) [o0, oth] [Blk.sl false 1 e (enc l)] = some [T.lst 1 e (enc (srt l))] := by
  obtain ⟨m, hm⟩ := s52 l.length hl
  refine orc_of ?_
  rw [e49]
  simp only [gd1, hd1, tl1, dr0, dr1, dr2, dr3, dr4, dr5, dr6, bo1, in1, st1, ls1, le1, pt1, fi1, fb1, fs1, ct1, cf1, nt1, nf1, ak0, akT, akF, cdec, cndec, cbeq, cnbeq, ↓reduceIte, beq_self_eq_true, Int.reduceBEq, Int.reduceEq, Bool.and_true, Bool.true_and, Bool.false_and, Bool.and_false, enc_len, hm, s54 l hl hb, Option.bind_some]
theorem s48 (l : List Int) (hl : l.length ≤ 1000) : ∃ x, Or (.call 48) [AV.t (tm l)] [] = some [x] ∧ x.lst? 1 = some (l.isEmpty, enc l) := by
  cases l with
  | nil =>
    refine ⟨T.emp true, orc_of ?_, rfl⟩
    show stepO PROG ann _ _ [AV.t (T.lst 1 true [])] [] = _
    rw [e48]
    simp only [gd1, hd1, tl1, dr0, dr1, dr2, dr3, dr4, dr5, dr6, bo1, in1, st1, ls1, le1, pt1, fi1, fb1, fs1, ct1, cf1, nt1, nf1, ak0, akT, akF, cdec, cndec, cbeq, cnbeq, ↓reduceIte, beq_self_eq_true, Int.reduceBEq, Int.reduceEq, Bool.and_true, Bool.true_and, Bool.false_and, Bool.and_false]
  | cons a r =>
    refine ⟨tm (a :: r), orc_of ?_, tm_lst _⟩
    show stepO PROG ann _ _ [AV.t (T.lst 1 false (enc (a :: r)))] [] = _
    rw [e48]
    have : small 8 (0 + (enc (a :: r)).length) = some () := small_ok (by rw [enc_len]; omega)
    simp only [gd1, hd1, tl1, dr0, dr1, dr2, dr3, dr4, dr5, dr6, bo1, in1, st1, ls1, le1, pt1, fi1, fb1, fs1, ct1, cf1, nt1, nf1, ak0, akT, akF, cdec, cndec, cbeq, cnbeq, ↓reduceIte, beq_self_eq_true, Int.reduceBEq, Int.reduceEq, Bool.and_true, Bool.true_and, Bool.false_and, Bool.and_false, this]
    rfl
theorem s44 (l : List Int) (hl : l.length ≤ 3) (hb : ∀ x ∈ l, Bd x) : Or (.call 44) [AV.t (tm l)] [] = some [tm (srt l)] := by
  obtain ⟨x, h1, h2⟩ := s48 l (by omega)
  refine orc_of ?_
  unfold tm at h1 ⊢
  rw [e44]
  simp only [gd1, hd1, tl1, dr0, dr1, dr2, dr3, dr4, dr5, dr6, bo1, in1, st1, ls1, le1, pt1, fi1, fb1, fs1, ct1, cf1, nt1, nf1, ak0, akT, akF, cdec, cndec, cbeq, cnbeq, ↓reduceIte, beq_self_eq_true, Int.reduceBEq, Int.reduceEq, Bool.and_true, Bool.true_and, Bool.false_and, Bool.and_false, h1, h2, s49 l hl hb, Option.bind_some]
  rw [srt_emp]
end Go.Aev.Gen
