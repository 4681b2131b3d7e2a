/-
  Do some clauses hold together? The least sets.
-/
import Derived.Test.YtmpjdngpblfecaaYSets
set_option linter.unusedSimpArgs false
set_option linter.unusedVariables false
namespace Go.Aev.Gen
open Go Go.Aev

theorem tb_beq1 (b : Bool) : ((if b = true then (1 : Int) else 0) == 1) = b := by cases b <;> rfl
theorem tb_beq0 (b : Bool) : ((if b = true then (1 : Int) else 0) == 0) = !b := by cases b <;> rfl
theorem x0 {v : Nat} (hv : v = 4 ∨ v = 1) : IntKind.u64.wrap (IntKind.u64.wrap ((1 : Int) * (2 : Int) ^ min (IntKind.u64.wrap ((1 : Int) * (2 : Int) ^ min ((v : Nat) : Int).toNat 64)).toNat 64) - (1 : Int)) = ((2 ^ 2 ^ v - 1 : Nat) : Int) := by rcases hv with rfl | rfl <;> decide
theorem s14 {s i : Nat} (hs : s < 256) (hi : i < 8) : Or (.call 14) [I (i : Int), AV.t (T.ptr [ti (s : Int)])] [] = some [tb (s.testBit i)] := by
  have h0 : ¬ (i : Int) < 0 := by omega
  refine orc_of ?_
  rw [e14, bit_all s hs i hi]
  simp only [gdF, gd1, hd1, tl1, dr0, dr1, dr2, dr3, dr4, dr5, dr6, bo1, in1, st1, ls1, le1, pt1, fi1, fb1, fs1, ct1, cf1, nt1, nf1, ak0, akT, akF, cdec, cndec, cbeq, cnbeq, ↓reduceIte, beq_self_eq_true, Int.reduceBEq, Int.reduceEq, Bool.and_true, Bool.true_and, Bool.false_and, Bool.and_false, h0, tb_beq1]
theorem n13 {v : Nat} (hv : v = 4 ∨ v = 1) (ws : List Nat) (hb : ∀ w ∈ ws, w < 2 ^ 64) (hn : ws.length ≤ 8) {s : Nat} (hs : s < 256) : ∀ (rest : List Nat) (i x : Nat), ws.drop i = rest → x < 2 ^ 64 →
    Or K13n8 [AV.t (T.lst 1 false (encW ws)), I (v : Int), AV.fn 14 [] [AV.t (T.ptr [ti (s : Int)])], I 0, AV.t (T.int .u64 (x : Int)), I 1, I 0, I (ws.length : Int), I (i : Int)] [] = some [tb (andF (fun i => s.testBit i) rest i x != 0)] := by
  intro rest
  induction rest with
  | nil =>
    intro i x g hx
    have h1 : ¬ (i : Int) < (ws.length : Int) := by have := at_end g; omega
    have w1 : IntKind.i64.wrap (0 + 1) = 1 := by decide
    have h2 : ¬ (1 : Int) < 1 := by omega
    have kend : Or K13n2 [AV.t (T.lst 1 false (encW ws)), I (v : Int), AV.fn 14 [] [AV.t (T.ptr [ti (s : Int)])], I 1, I 1] [] = some [tb false] := by
      refine orc_of ?_
      rw [e13n2]
      simp only [gd1, hd1, tl1, dr0, dr1, dr2, dr3, dr4, dr5, dr6, bo1, in1, st1, ls1, le1, pt1, fi1, fb1, fs1, ct1, cf1, nt1, nf1, ak0, akT, akF, cdec, cndec, cbeq, cnbeq, ↓reduceIte, beq_self_eq_true, Int.reduceBEq, Int.reduceEq, Bool.and_true, Bool.true_and, Bool.false_and, Bool.and_false, h2]
    refine orc_of ?_
    rw [e13n8, andF]
    by_cases h0 : x = 0
    · subst h0
      have hz : (((0 : Nat) : Int) == 0) = true := rfl
      simp only [gd1, hd1, tl1, dr0, dr1, dr2, dr3, dr4, dr5, dr6, bo1, in1, st1, ls1, le1, pt1, fi1, fb1, fs1, ct1, cf1, nt1, nf1, ak0, akT, akF, cdec, cndec, cbeq, cnbeq, ↓reduceIte, beq_self_eq_true, Int.reduceBEq, Int.reduceEq, Bool.and_true, Bool.true_and, Bool.false_and, Bool.and_false, h1, hz, w1, Bool.not_true]
      exact kend
    · have hz : (((x : Nat) : Int) == 0) = false := beq_eq_false_iff_ne.2 (by omega)
      have hz2 : ¬ ((x : Nat) : Int) = 0 := by omega
      have hx0 : (x != 0) = true := by simpa using h0
      simp only [gd1, hd1, tl1, dr0, dr1, dr2, dr3, dr4, dr5, dr6, bo1, in1, st1, ls1, le1, pt1, fi1, fb1, fs1, ct1, cf1, nt1, nf1, ak0, akT, akF, cdec, cndec, cbeq, cnbeq, ↓reduceIte, beq_self_eq_true, Int.reduceBEq, Int.reduceEq, Bool.and_true, Bool.true_and, Bool.false_and, Bool.and_false, h1, hz, hz2, Bool.not_false, hx0]
  | cons w rest ih =>
    intro i x g hx
    obtain ⟨g1, g2, g3⟩ := at_drop g
    have h1 : (i : Int) < (ws.length : Int) := by omega
    have h0 : 0 ≤ (i : Int) := by omega
    have hw := hb w (List.mem_of_getElem? g1)
    have k := s14 hs (show i < 8 by omega)
    have c0 : (0 : Int) ≤ 0 ∧ (0 : Int) < (([[T.int .u64 ((w : Nat) : Int)]] : List (List T)).length : Int) := ⟨Int.le_refl 0, by show (0 : Int) < 1; omega⟩
    have g0 : ([[T.int .u64 ((w : Nat) : Int)]] : List (List T))[(0 : Int).toNat]? = some [T.int .u64 ((w : Nat) : Int)] := rfl
    have gi : T.int? .u64 (T.int .u64 ((w : Nat) : Int)) = some ((w : Nat) : Int) := rfl
    rw [andF]
    cases hin : (s.testBit i) with
    | false =>
      rw [hin] at k
      have := ih (i + 1) x g3 hx
      simp only [Bool.false_eq_true, if_false]
      refine orc_of ?_
      rw [e13n8]
      simp only [gd1, hd1, tl1, dr0, dr1, dr2, dr3, dr4, dr5, dr6, bo1, in1, st1, ls1, le1, pt1, fi1, fb1, fs1, ct1, cf1, nt1, nf1, ak0, akT, akF, cdec, cndec, cbeq, cnbeq, ↓reduceIte, beq_self_eq_true, Int.reduceBEq, Int.reduceEq, Bool.and_true, Bool.true_and, Bool.false_and, Bool.and_false, h1, k, next i (by omega)]
      exact this
    | true =>
      rw [hin] at k
      have hxw : x &&& w < 2 ^ 64 := Nat.lt_of_le_of_lt Nat.and_le_left hx
      have := ih (i + 1) (x &&& w) g3 hxw
      simp only [if_true]
      refine orc_of ?_
      rw [e13n8]
      simp only [gd1, hd1, tl1, dr0, dr1, dr2, dr3, dr4, dr5, dr6, bo1, in1, st1, ls1, le1, pt1, fi1, fb1, fs1, ct1, cf1, nt1, nf1, ak0, akT, akF, cdec, cndec, cbeq, cnbeq, ↓reduceIte, beq_self_eq_true, Int.reduceBEq, Int.reduceEq, Bool.and_true, Bool.true_and, Bool.false_and, Bool.and_false, h1, h0, and_self, encW_len, encW_get g1, k, c0, g0, gi, andN hx hw, wrU hxw, next i (by omega)]
      exact this
theorem s13 {v : Nat} (hv : v = 4 ∨ v = 1) (ws : List Nat) (hb : ∀ w ∈ ws, w < 2 ^ 64) (hn : ws.length ≤ 8) {s : Nat} (hs : s < 256) :
    Or (.call 13) [AV.t (T.lst 1 false (encW ws)), I (v : Int), AV.fn 14 [] [AV.t (T.ptr [ti (s : Int)])]] [] = some [tb (opB v ws (fun i => s.testBit i))] := by
  have hx : 2 ^ 2 ^ v - 1 < 2 ^ 64 := by rcases hv with rfl | rfl <;> decide
  have h0 : ¬ (v : Int) < 0 := by omega
  have h6 : (v : Int) < 6 := by omega
  have h1 : (0 : Int) < 1 := by omega
  have k := n13 hv ws hb hn hs ws 0 (2 ^ 2 ^ v - 1) rfl hx
  have k2 : Or K13n2 [AV.t (T.lst 1 false (encW ws)), I (v : Int), AV.fn 14 [] [AV.t (T.ptr [ti (s : Int)])], I 1, I 0] [] = some [tb (opB v ws (fun i => s.testBit i))] := by
    refine orc_of ?_
    rw [e13n2]
    simp only [gdF, gd1, hd1, tl1, dr0, dr1, dr2, dr3, dr4, dr5, dr6, bo1, in1, st1, ls1, le1, pt1, fi1, fb1, fs1, ct1, cf1, nt1, nf1, ak0, akT, akF, cdec, cndec, cbeq, cnbeq, ↓reduceIte, beq_self_eq_true, Int.reduceBEq, Int.reduceEq, Bool.and_true, Bool.true_and, Bool.false_and, Bool.and_false, h1, h6, h0, x0 hv, encW_len]
    exact k
  refine orc_of ?_
  rw [e13]
  simp only [gdF, gd1, hd1, tl1, dr0, dr1, dr2, dr3, dr4, dr5, dr6, bo1, in1, st1, ls1, le1, pt1, fi1, fb1, fs1, ct1, cf1, nt1, nf1, ak0, akT, akF, cdec, cndec, cbeq, cnbeq, ↓reduceIte, beq_self_eq_true, Int.reduceBEq, Int.reduceEq, Bool.and_true, Bool.true_and, Bool.false_and, Bool.and_false, h0, pw hv, pw1 hv]
  exact k2
/-- The closure of a set. -/
theorem s12 {v : Nat} (hv : v = 4 ∨ v = 1) (ws : List Nat) (hb : ∀ w ∈ ws, w < 2 ^ 64) (hn : ws.length ≤ 8) (e : Bool) (cs : List (List T)) {s : Nat} (hs : s < 256) :
    Or (.call 12) [I (s : Int), AV.t (T.ptr [T.lst 1 false (encW ws)]), AV.t (T.ptr [ti (v : Int), T.lst 1 e cs])] [] = some [tb (!(opB v ws (fun i => s.testBit i)))] := by
  have k := s13 hv ws hb hn hs
  refine orc_of ?_
  rw [e12]
  simp only [gd1, hd1, tl1, dr0, dr1, dr2, dr3, dr4, dr5, dr6, bo1, in1, st1, ls1, le1, pt1, fi1, fb1, fs1, ct1, cf1, nt1, nf1, ak0, akT, akF, cdec, cndec, cbeq, cnbeq, ↓reduceIte, beq_self_eq_true, Int.reduceBEq, Int.reduceEq, Bool.and_true, Bool.true_and, Bool.false_and, Bool.and_false, k]
theorem s14s2 {s i : Nat} (hs : s < 256) (hi : i < 8) : Or (.call 16) [I (i : Int), AV.t (T.ptr [ti (s : Int)])] [] = some [tb (!s.testBit i)] := by
  have h0 : ¬ (i : Int) < 0 := by omega
  refine orc_of ?_
  rw [e16, bit_all s hs i hi]
  simp only [gdF, gd1, hd1, tl1, dr0, dr1, dr2, dr3, dr4, dr5, dr6, bo1, in1, st1, ls1, le1, pt1, fi1, fb1, fs1, ct1, cf1, nt1, nf1, ak0, akT, akF, cdec, cndec, cbeq, cnbeq, ↓reduceIte, beq_self_eq_true, Int.reduceBEq, Int.reduceEq, Bool.and_true, Bool.true_and, Bool.false_and, Bool.and_false, h0, tb_beq0]
theorem n13s2 {v : Nat} (hv : v = 4 ∨ v = 1) (ws : List Nat) (hb : ∀ w ∈ ws, w < 2 ^ 64) (hn : ws.length ≤ 8) {s : Nat} (hs : s < 256) : ∀ (rest : List Nat) (i x : Nat), ws.drop i = rest → x < 2 ^ 64 →
    Or K13n8 [AV.t (T.lst 1 false (encW ws)), I (v : Int), AV.fn 16 [] [AV.t (T.ptr [ti (s : Int)])], I 0, AV.t (T.int .u64 (x : Int)), I 1, I 0, I (ws.length : Int), I (i : Int)] [] = some [tb (andF (fun i => !s.testBit i) rest i x != 0)] := by
  intro rest
  induction rest with
  | nil =>
    intro i x g hx
    have h1 : ¬ (i : Int) < (ws.length : Int) := by have := at_end g; omega
    have w1 : IntKind.i64.wrap (0 + 1) = 1 := by decide
    have h2 : ¬ (1 : Int) < 1 := by omega
    have kend : Or K13n2 [AV.t (T.lst 1 false (encW ws)), I (v : Int), AV.fn 16 [] [AV.t (T.ptr [ti (s : Int)])], I 1, I 1] [] = some [tb false] := by
      refine orc_of ?_
      rw [e13n2s2]
      simp only [gd1, hd1, tl1, dr0, dr1, dr2, dr3, dr4, dr5, dr6, bo1, in1, st1, ls1, le1, pt1, fi1, fb1, fs1, ct1, cf1, nt1, nf1, ak0, akT, akF, cdec, cndec, cbeq, cnbeq, ↓reduceIte, beq_self_eq_true, Int.reduceBEq, Int.reduceEq, Bool.and_true, Bool.true_and, Bool.false_and, Bool.and_false, h2]
    refine orc_of ?_
    rw [e13n8s2, andF]
    by_cases h0 : x = 0
    · subst h0
      have hz : (((0 : Nat) : Int) == 0) = true := rfl
      simp only [gd1, hd1, tl1, dr0, dr1, dr2, dr3, dr4, dr5, dr6, bo1, in1, st1, ls1, le1, pt1, fi1, fb1, fs1, ct1, cf1, nt1, nf1, ak0, akT, akF, cdec, cndec, cbeq, cnbeq, ↓reduceIte, beq_self_eq_true, Int.reduceBEq, Int.reduceEq, Bool.and_true, Bool.true_and, Bool.false_and, Bool.and_false, h1, hz, w1, Bool.not_true]
      exact kend
    · have hz : (((x : Nat) : Int) == 0) = false := beq_eq_false_iff_ne.2 (by omega)
      have hz2 : ¬ ((x : Nat) : Int) = 0 := by omega
      have hx0 : (x != 0) = true := by simpa using h0
      simp only [gd1, hd1, tl1, dr0, dr1, dr2, dr3, dr4, dr5, dr6, bo1, in1, st1, ls1, le1, pt1, fi1, fb1, fs1, ct1, cf1, nt1, nf1, ak0, akT, akF, cdec, cndec, cbeq, cnbeq, ↓reduceIte, beq_self_eq_true, Int.reduceBEq, Int.reduceEq, Bool.and_true, Bool.true_and, Bool.false_and, Bool.and_false, h1, hz, hz2, Bool.not_false, hx0]
  | cons w rest ih =>
    intro i x g hx
    obtain ⟨g1, g2, g3⟩ := at_drop g
    have h1 : (i : Int) < (ws.length : Int) := by omega
    have h0 : 0 ≤ (i : Int) := by omega
    have hw := hb w (List.mem_of_getElem? g1)
    have k := s14s2 hs (show i < 8 by omega)
    have c0 : (0 : Int) ≤ 0 ∧ (0 : Int) < (([[T.int .u64 ((w : Nat) : Int)]] : List (List T)).length : Int) := ⟨Int.le_refl 0, by show (0 : Int) < 1; omega⟩
    have g0 : ([[T.int .u64 ((w : Nat) : Int)]] : List (List T))[(0 : Int).toNat]? = some [T.int .u64 ((w : Nat) : Int)] := rfl
    have gi : T.int? .u64 (T.int .u64 ((w : Nat) : Int)) = some ((w : Nat) : Int) := rfl
    rw [andF]
    cases hin : (!s.testBit i) with
    | false =>
      rw [hin] at k
      have := ih (i + 1) x g3 hx
      simp only [Bool.false_eq_true, if_false]
      refine orc_of ?_
      rw [e13n8s2]
      simp only [gd1, hd1, tl1, dr0, dr1, dr2, dr3, dr4, dr5, dr6, bo1, in1, st1, ls1, le1, pt1, fi1, fb1, fs1, ct1, cf1, nt1, nf1, ak0, akT, akF, cdec, cndec, cbeq, cnbeq, ↓reduceIte, beq_self_eq_true, Int.reduceBEq, Int.reduceEq, Bool.and_true, Bool.true_and, Bool.false_and, Bool.and_false, h1, k, next i (by omega)]
      exact this
    | true =>
      rw [hin] at k
      have hxw : x &&& w < 2 ^ 64 := Nat.lt_of_le_of_lt Nat.and_le_left hx
      have := ih (i + 1) (x &&& w) g3 hxw
      simp only [if_true]
      refine orc_of ?_
      rw [e13n8s2]
      simp only [gd1, hd1, tl1, dr0, dr1, dr2, dr3, dr4, dr5, dr6, bo1, in1, st1, ls1, le1, pt1, fi1, fb1, fs1, ct1, cf1, nt1, nf1, ak0, akT, akF, cdec, cndec, cbeq, cnbeq, ↓reduceIte, beq_self_eq_true, Int.reduceBEq, Int.reduceEq, Bool.and_true, Bool.true_and, Bool.false_and, Bool.and_false, h1, h0, and_self, encW_len, encW_get g1, k, c0, g0, gi, andN hx hw, wrU hxw, next i (by omega)]
      exact this
theorem s13s2 {v : Nat} (hv : v = 4 ∨ v = 1) (ws : List Nat) (hb : ∀ w ∈ ws, w < 2 ^ 64) (hn : ws.length ≤ 8) {s : Nat} (hs : s < 256) :
    Or (.call 13) [AV.t (T.lst 1 false (encW ws)), I (v : Int), AV.fn 16 [] [AV.t (T.ptr [ti (s : Int)])]] [] = some [tb (opB v ws (fun i => !s.testBit i))] := by
  have hx : 2 ^ 2 ^ v - 1 < 2 ^ 64 := by rcases hv with rfl | rfl <;> decide
  have h0 : ¬ (v : Int) < 0 := by omega
  have h6 : (v : Int) < 6 := by omega
  have h1 : (0 : Int) < 1 := by omega
  have k := n13s2 hv ws hb hn hs ws 0 (2 ^ 2 ^ v - 1) rfl hx
  have k2 : Or K13n2 [AV.t (T.lst 1 false (encW ws)), I (v : Int), AV.fn 16 [] [AV.t (T.ptr [ti (s : Int)])], I 1, I 0] [] = some [tb (opB v ws (fun i => !s.testBit i))] := by
    refine orc_of ?_
    rw [e13n2s2]
    simp only [gdF, gd1, hd1, tl1, dr0, dr1, dr2, dr3, dr4, dr5, dr6, bo1, in1, st1, ls1, le1, pt1, fi1, fb1, fs1, ct1, cf1, nt1, nf1, ak0, akT, akF, cdec, cndec, cbeq, cnbeq, ↓reduceIte, beq_self_eq_true, Int.reduceBEq, Int.reduceEq, Bool.and_true, Bool.true_and, Bool.false_and, Bool.and_false, h1, h6, h0, x0 hv, encW_len]
    exact k
  refine orc_of ?_
  rw [e13s2]
  simp only [gdF, gd1, hd1, tl1, dr0, dr1, dr2, dr3, dr4, dr5, dr6, bo1, in1, st1, ls1, le1, pt1, fi1, fb1, fs1, ct1, cf1, nt1, nf1, ak0, akT, akF, cdec, cndec, cbeq, cnbeq, ↓reduceIte, beq_self_eq_true, Int.reduceBEq, Int.reduceEq, Bool.and_true, Bool.true_and, Bool.false_and, Bool.and_false, h0, pw hv, pw1 hv]
  exact k2
/-- The closure of a set. -/
theorem s15 {v : Nat} (hv : v = 4 ∨ v = 1) (ws : List Nat) (hb : ∀ w ∈ ws, w < 2 ^ 64) (hn : ws.length ≤ 8) (e : Bool) (cs : List (List T)) {s : Nat} (hs : s < 256) :
    Or (.call 15) [I (s : Int), AV.t (T.ptr [T.lst 1 false (encW ws)]), AV.t (T.ptr [ti (v : Int), T.lst 1 e cs])] [] = some [tb ((opB v ws (fun i => !s.testBit i)))] := by
  have k := s13s2 hv ws hb hn hs
  refine orc_of ?_
  rw [e15]
  simp only [gd1, hd1, tl1, dr0, dr1, dr2, dr3, dr4, dr5, dr6, bo1, in1, st1, ls1, le1, pt1, fi1, fb1, fs1, ct1, cf1, nt1, nf1, ak0, akT, akF, cdec, cndec, cbeq, cnbeq, ↓reduceIte, beq_self_eq_true, Int.reduceBEq, Int.reduceEq, Bool.and_true, Bool.true_and, Bool.false_and, Bool.and_false, k]
end Go.Aev.Gen
