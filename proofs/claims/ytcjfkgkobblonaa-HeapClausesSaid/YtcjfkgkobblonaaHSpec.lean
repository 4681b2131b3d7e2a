/-
  heap.normal and the document's heapTidy: one function.
-/
import Derived.Test.YtcjfkgkobblonaaHBase
set_option linter.unusedSimpArgs false
set_option linter.unusedVariables false
namespace Go.Aev.Gen
open Go Go.Aev Go.Aev.Hp Go.RowKit

def IsL (x : T) (l : List Int) : Prop := x.lst? 1 = some (l.isEmpty, enc l)
theorem isL_emp : IsL (T.emp true) [] := rfl
theorem isL_tm (l : List Int) : IsL (tm l) l := tm_lst l

/-- Divided and rounded up. -/
def qd (a g : Int) : Int := (a + g - 1).tdiv g
def big (g : Int) (x : Int × Int) : Bool := decide (x.2.tdiv g > 1000000)
def fin (L : List (Int × Int)) (a sum g : Int) : Hp × Int :=
  if a ≤ 0 then (⟨[], [], 0⟩, 0) else if sum < a then (⟨[], [], 1⟩, 0) else
  if (decide ((L.length : Int) > 24) || decide (qd a g > 1000000) || L.any (big g)) = true then (⟨[], [], 0⟩, 10) else (⟨L.map (·.1), L.map (fun x => x.2.tdiv g), qd a g⟩, 0)
def sumS : List (Int × Int) → Int
  | [] => 0
  | x :: r => x.2 + sumS r
def gcS : List (Int × Int) → Int → Int
  | [], g => g
  | x :: r, g => gcS r (gc x.2 g)
def normF (ls os : List Int) (a : Int) : Hp × Int := fin (termsF ls os) (a - baseF ls os) (sumS (termsF ls os)) (gcS (termsF ls os) 0)

abbrev row2 (L : List (Int × Int)) : List (List T) := L.map rowT
theorem row_get {pre : List (Int × Int)} {x : Int × Int} {r : List (Int × Int)} : (row2 (pre ++ x :: r))[((pre.length : Nat) : Int).toNat]? = some [ti x.1, ti x.2] := by
  simp [row2, rowT]
theorem row_len (L : List (Int × Int)) : (row2 L).length = L.length := by simp [row2]
/-- The parts of what a sum has. -/
def Ok2 (L : List (Int × Int)) : Prop := ∀ x ∈ L, 0 < x.2 ∧ x.2 ≤ 100000000000
theorem sumS_nonneg : ∀ {L : List (Int × Int)}, Ok2 L → 0 ≤ sumS L ∧ sumS L ≤ 100000000000 * (L.length : Int)
  | [], _ => by simp [sumS]
  | x :: r, h => by
    have ih := sumS_nonneg (L := r) fun y hy => h y (List.mem_cons_of_mem _ hy)
    have := h x (List.mem_cons_self ..)
    simp only [sumS, List.length_cons]; omega
theorem gc_bd (a b : Int) (ha : 0 < a) : 0 < gc a b ∧ gc a b ≤ a := by
  unfold gc
  have h1 : 0 < Int.gcd a b := Int.gcd_pos_of_ne_zero_left b (by omega)
  have h2 : Int.gcd a b ∣ a.natAbs := Nat.gcd_dvd_left _ _
  have h3 := Nat.le_of_dvd (by omega) h2
  omega
theorem gcS_bd : ∀ {L : List (Int × Int)} {g : Int}, Ok2 L → 0 ≤ g → g ≤ 100000000000 → (L ≠ [] ∨ 0 < g) → 0 < gcS L g ∧ gcS L g ≤ 100000000000
  | [], g, _, h0, h1, h2 => by
    rcases h2 with h2 | h2
    · exact absurd rfl h2
    · exact ⟨h2, h1⟩
  | x :: r, g, h, h0, h1, _ => by
    have := h x (List.mem_cons_self ..)
    have hg := gc_bd x.2 g this.1
    exact gcS_bd (L := r) (g := gc x.2 g) (fun y hy => h y (List.mem_cons_of_mem _ hy)) (by omega) (by omega) (.inr hg.1)
theorem gcS_nonneg {L : List (Int × Int)} (h : Ok2 L) : 0 ≤ gcS L 0 ∧ gcS L 0 ≤ 100000000000 := by
  by_cases e : L = []
  · subst e; simp [gcS]
  · have := gcS_bd h (Int.le_refl 0) (by omega) (.inl e); omega
theorem tdiv_bd {a g : Int} (ha : 0 ≤ a) (hg : 0 < g) : 0 ≤ a.tdiv g ∧ a.tdiv g ≤ a := by
  rw [Int.tdiv_eq_ediv_of_nonneg ha]
  exact ⟨Int.ediv_nonneg ha (by omega), Int.ediv_le_self _ ha⟩

section
abbrev z3 : Blk := Blk.box [AV.t (T.emp true), AV.t (T.emp true), I 0]
abbrev z2 : Blk := Blk.box [I 0, I 0]

/-- The second loop: what is divided. -/
theorem n28b {L : List (Int × Int)} {g A : Int} (hg : 0 < g) (hn : L.length ≤ 120) (hok : Ok2 L) : ∀ (suf pre : List (Int × Int)) (mu : Bool), L = pre ++ suf →
    Or K28n17 [r0, r1, I g, r2, r2, B mu, AV.t (T.lst 2 L.isEmpty (row2 L)), I (L.length : Int), I (pre.length : Int)]
      [z3, z2, Blk.box [AV.own (Id.c 3), AV.own (Id.c 4), I A], Blk.sl false 1 pre.isEmpty (enc (pre.map (·.1))), Blk.sl false 1 pre.isEmpty (enc (pre.map fun x => x.2.tdiv g))] =
    some (if (mu || suf.any (big g)) = true then [T.emp true, T.emp true, ti 0, ti 10, ti 0] else [T.lst 1 L.isEmpty (enc (L.map (·.1))), T.lst 1 L.isEmpty (enc (L.map fun x => x.2.tdiv g)), ti A, ti 0, ti 0])
  | [], pre, mu, h => by
    rw [List.append_nil] at h; subst h
    refine orc_of ?_
    rw [e28n17]
    have h1 : ¬ ((L.length : Int) < (L.length : Int)) := by omega
    simp only [gd1, hd1, tl1, dr0, dr1, dr2, dr3, dr4, dr5, dr6, bo1, in1, st1, ls1, le1, pt1, fi1, fb1, fs1, ct1, cf1, nt1, nf1, ak0, akT, akF, cdec, cndec, cbeq, cnbeq, ↓reduceIte, beq_self_eq_true, Int.reduceBEq, Int.reduceEq, Bool.and_true, Bool.true_and, Bool.false_and, Bool.and_false, h1, List.any_nil, Bool.or_false]
    cases mu <;> simp
  | x :: r, pre, mu, h => by
    have ih := n28b (A := A) hg hn hok r (pre ++ [x]) (mu || big g x) (by rw [h]; simp)
    have hx := hok x (by rw [h]; simp)
    have hl : L.length = pre.length + (r.length + 1) := by rw [h]; simp
    have h1 : (pre.length : Int) < (L.length : Int) := by omega
    have h0 : 0 ≤ (pre.length : Int) := by omega
    have hd := tdiv_bd (Int.le_of_lt hx.1) hg
    have h2 : wrap64 (x.2.tdiv g) = x.2.tdiv g := w64 (by omega)
    have hget : (row2 L)[((pre.length : Nat) : Int).toNat]? = some [ti x.1, ti x.2] := by rw [h]; exact row_get
    have s1 : small 8 ((enc (pre.map (·.1))).length + [[ti x.1]].length) = some () := small_ok (by rw [enc_len]; simp; omega)
    have s2 : small 8 ((enc (pre.map fun x => x.2.tdiv g)).length + [[ti (x.2.tdiv g)]].length) = some () := small_ok (by rw [enc_len]; simp; omega)
    have hg0 : ¬ g = 0 := by omega
    refine orc_of ?_
    rw [e28n17]
    simp only [cor, wr64]
    simp only [gd1, hd1, tl1, dr0, dr1, dr2, dr3, dr4, dr5, dr6, bo1, in1, st1, ls1, le1, pt1, fi1, fb1, fs1, ct1, cf1, nt1, nf1, ak0, akT, akF, cdec, cndec, cbeq, cnbeq, ↓reduceIte, beq_self_eq_true, Int.reduceBEq, Int.reduceEq, Bool.and_true, Bool.true_and, Bool.false_and, Bool.and_false, row_len, h1, h0, and_self, hget, s1, s2, h2, hg0, if_false, gdF]
    have en : wrap64 ((pre.length : Int) + 1) = ((pre ++ [x]).length : Int) := by rw [w64 (by omega)]; simp
    have e1 : (enc (pre.map (·.1))) ++ [[ti x.1]] = enc ((pre ++ [x]).map (·.1)) := by simp [enc]
    have e2 : (enc (pre.map fun x => x.2.tdiv g)) ++ [[ti (x.2.tdiv g)]] = enc ((pre ++ [x]).map fun x => x.2.tdiv g) := by simp [enc]
    have e3 : (pre ++ [x]).isEmpty = false := by cases pre <;> rfl
    rw [e3] at ih
    rw [en, e1, e2]
    have e4 : (mu || decide (x.2.tdiv g > 1000000)) = (mu || big g x) := rfl
    rw [e4]
    refine Eq.trans ih ?_
    rw [List.any_cons, Bool.or_assoc]

/-- The first loop: the sum and the greatest common divisor. -/
theorem n28a {L : List (Int × Int)} {a : Int} (hn : L.length ≤ 120) (hok : Ok2 L) (ha : -100000000000000 ≤ a ∧ a ≤ 100000000000000) : ∀ (suf pre : List (Int × Int)) (sum g : Int), L = pre ++ suf →
    0 ≤ sum → sum ≤ 100000000000 * (pre.length : Int) → 0 ≤ g → g ≤ 100000000000 → (0 < sum → 0 < g) →
    ∃ x y, Or K28n5 [I a, r0, r1, AV.t (T.lst 2 L.isEmpty (row2 L)), I sum, I g, AV.t (T.lst 2 L.isEmpty (row2 L)), I (L.length : Int), I (pre.length : Int)] [z3, z2] =
      some [x, y, ti (fin L a (sum + sumS suf) (gcS suf g)).1.at_, ti (fin L a (sum + sumS suf) (gcS suf g)).2, ti 0] ∧ IsL x (fin L a (sum + sumS suf) (gcS suf g)).1.ls ∧ IsL y (fin L a (sum + sumS suf) (gcS suf g)).1.os
  | [], pre, sum, g, h, h1, h2, h3, h4, h5 => by
    rw [List.append_nil] at h; subst h
    have hl : ¬ ((L.length : Int) < (L.length : Int)) := by omega
    simp only [sumS, gcS, Int.add_zero]
    unfold fin
    by_cases c1 : a ≤ 0
    · refine ⟨T.emp true, T.emp true, orc_of ?_, ?_⟩
      · rw [e28n5]; simp only [gd1, hd1, tl1, dr0, dr1, dr2, dr3, dr4, dr5, dr6, bo1, in1, st1, ls1, le1, pt1, fi1, fb1, fs1, ct1, cf1, nt1, nf1, ak0, akT, akF, cdec, cndec, cbeq, cnbeq, ↓reduceIte, beq_self_eq_true, Int.reduceBEq, Int.reduceEq, Bool.and_true, Bool.true_and, Bool.false_and, Bool.and_false, hl, c1, if_true]
      · rw [if_pos c1]; exact ⟨isL_emp, isL_emp⟩
    · rw [if_neg c1]
      by_cases c2 : sum < a
      · refine ⟨T.emp true, T.emp true, orc_of ?_, ?_⟩
        · rw [e28n5]; simp only [gd1, hd1, tl1, dr0, dr1, dr2, dr3, dr4, dr5, dr6, bo1, in1, st1, ls1, le1, pt1, fi1, fb1, fs1, ct1, cf1, nt1, nf1, ak0, akT, akF, cdec, cndec, cbeq, cnbeq, ↓reduceIte, beq_self_eq_true, Int.reduceBEq, Int.reduceEq, Bool.and_true, Bool.true_and, Bool.false_and, Bool.and_false, hl, c1, c2, if_true]
        · rw [if_pos c2]; exact ⟨isL_emp, isL_emp⟩
      · rw [if_neg c2]
        have hg : 0 < g := h5 (by omega)
        have hg0 : ¬ g = 0 := by omega
        have w1 : wrap64 (a + g) = a + g := w64 (by omega)
        have w2 : wrap64 (a + g - 1) = a + g - 1 := w64 (by omega)
        have hq := tdiv_bd (a := a + g - 1) (by omega) hg
        have w3 : wrap64 ((a + g - 1).tdiv g) = (a + g - 1).tdiv g := w64 (by omega)
        have hb := n28b (L := L) (g := g) (A := qd a g) hg hn hok L [] (decide ((L.length : Int) > 24) || decide (qd a g > 1000000)) rfl
        have hne : L ≠ [] := by rintro rfl; simp at h2; omega
        have hem : L.isEmpty = false := by cases L with | nil => exact absurd rfl hne | cons x r => rfl
        have key : ∀ r, Or K28n17 [r0, r1, I g, r2, r2, B (decide ((L.length : Int) > 24) || decide (qd a g > 1000000)), AV.t (T.lst 2 L.isEmpty (row2 L)), I (L.length : Int), I 0]
            [z3, z2, Blk.box [AV.own (Id.c 3), AV.own (Id.c 4), I (qd a g)], Blk.sl false 1 true [], Blk.sl false 1 true []] = some r →
            Or K28n5 [I a, r0, r1, AV.t (T.lst 2 L.isEmpty (row2 L)), I sum, I g, AV.t (T.lst 2 L.isEmpty (row2 L)), I (L.length : Int), I (L.length : Int)] [z3, z2] = some r := by
          intro r hr
          refine orc_of ?_
          rw [e28n5]
          simp only [cor, wr64]
          simp only [gd1, hd1, tl1, dr0, dr1, dr2, dr3, dr4, dr5, dr6, bo1, in1, st1, ls1, le1, pt1, fi1, fb1, fs1, ct1, cf1, nt1, nf1, ak0, akT, akF, cdec, cndec, cbeq, cnbeq, ↓reduceIte, beq_self_eq_true, Int.reduceBEq, Int.reduceEq, Bool.and_true, Bool.true_and, Bool.false_and, Bool.and_false, hl, c1, c2, if_false, hg0, w1, w2, w3, row_len]
          exact hr
        by_cases c3 : (decide ((L.length : Int) > 24) || decide (qd a g > 1000000) || L.any (big g)) = true
        · rw [if_pos c3] at hb ⊢
          exact ⟨_, _, key _ hb, isL_emp, isL_emp⟩
        · rw [if_neg c3] at hb ⊢
          refine ⟨_, _, key _ hb, ?_, ?_⟩
          · have := isL_tm (L.map (·.1)); unfold tm at this; rw [show (L.map (·.1)).isEmpty = L.isEmpty by cases L <;> rfl] at this; exact this
          · have := isL_tm (L.map fun x => x.2.tdiv g); unfold tm at this; rw [show (L.map fun x => x.2.tdiv g).isEmpty = L.isEmpty by cases L <;> rfl] at this; exact this
  | x :: r, pre, sum, g, h, h1, h2, h3, h4, h5 => by
    have hx := hok x (by rw [h]; simp)
    have hg := gc_bd x.2 g hx.1
    have hl : L.length = pre.length + (r.length + 1) := by rw [h]; simp
    have c1 : (pre.length : Int) < (L.length : Int) := by omega
    have c0 : 0 ≤ (pre.length : Int) := by omega
    have hget : (row2 L)[((pre.length : Nat) : Int).toNat]? = some [ti x.1, ti x.2] := by rw [h]; exact row_get
    obtain ⟨u, v, e, ih⟩ := n28a hn hok ha r (pre ++ [x]) (sum + x.2) (gc x.2 g) (by rw [h]; simp) (by omega) (by simp only [List.length_append, List.length_singleton]; omega) (by omega) (by omega) (fun _ => hg.1)
    have es : sum + sumS (x :: r) = sum + x.2 + sumS r := by simp only [sumS]; omega
    have eg : gcS (x :: r) g = gcS r (gc x.2 g) := rfl
    rw [es, eg]
    refine ⟨u, v, orc_of ?_, ih⟩
    rw [e28n5]
    have w1 : wrap64 (sum + x.2) = sum + x.2 := w64 (by omega)
    have en : wrap64 ((pre.length : Int) + 1) = ((pre ++ [x]).length : Int) := by rw [w64 (by omega)]; simp
    simp only [cor, wr64]
    simp only [gd1, hd1, tl1, dr0, dr1, dr2, dr3, dr4, dr5, dr6, bo1, in1, st1, ls1, le1, pt1, fi1, fb1, fs1, ct1, cf1, nt1, nf1, ak0, akT, akF, cdec, cndec, cbeq, cnbeq, ↓reduceIte, beq_self_eq_true, Int.reduceBEq, Int.reduceEq, Bool.and_true, Bool.true_and, Bool.false_and, Bool.and_false, row_len, c1, c0, and_self, hget, s41 x.2 g (by omega) h3, w1, en, e]
end

theorem ok2_terms {ls os : List Int} (hn : ls.length ≤ 60) (ho : os.all okO = true) : Ok2 (termsF ls os) := by
  intro x hx
  obtain ⟨v, v0, v1, _, h⟩ := termsF_var hx
  have hb := amtP_bound (ls := ls) (os := os) v (by simpa [List.all_eq_true] using ho)
  unfold term1 at h
  split at h
  · simp at h; subst h; simp; omega
  · split at h
    · simp at h; subst h; simp; omega
    · simp at h
theorem len_flat (ls os : List Int) : ∀ (l : List Int), (l.flatMap fun v => term1 v (amtP ls os v)).length ≤ l.length
  | [] => by simp
  | v :: r => by
    have ih := len_flat ls os r
    have : (term1 v (amtP ls os v)).length ≤ 1 := by unfold term1; (repeat' split) <;> simp
    simp only [List.flatMap_cons, List.length_append, List.length_cons]; omega
theorem len_terms (ls os : List Int) : (termsF ls os).length ≤ 120 := by
  have := len_flat ls os (vars 120)
  simpa [termsF, vars] using this
theorem sum_low (ls os : List Int) (hn : ls.length ≤ 60) (ho : os.all okO = true) : ∀ (l : List Int), -100000000000 * (l.length : Int) ≤ sumZ (l.map fun v => low (amtP ls os v)) ∧ sumZ (l.map fun v => low (amtP ls os v)) ≤ 0
  | [] => by simp [sumZ]
  | v :: r => by
    have ih := sum_low ls os hn ho r
    have hb := amtP_bound (ls := ls) (os := os) v (by simpa [List.all_eq_true] using ho)
    simp only [List.map_cons, sumZ, List.length_cons]
    have : -100000000000 ≤ low (amtP ls os v) ∧ low (amtP ls os v) ≤ 0 := by unfold low; split <;> omega
    omega
theorem baseF_bd {ls os : List Int} (hn : ls.length ≤ 60) (ho : os.all okO = true) : -20000000000000 ≤ baseF ls os ∧ baseF ls os ≤ 20000000000000 := by
  have h1 := sum_low ls os hn ho (vars 120)
  have h2 := negP_bound (ls := ls) (os := os) (by simpa [List.all_eq_true] using ho)
  have h3 : (vars 120).length = 120 := by simp [vars]
  rw [h3] at h1
  unfold baseF
  omega

/-- What a sum of literals has to be like. -/
structure In (ls os : List Int) (a : Int) : Prop where
  len : ls.length = os.length
  few : ls.length ≤ 60
  okl : ls.all okL = true
  oko : os.all okO = true
  at_ : -10000000000 ≤ a ∧ a ≤ 10000000000

theorem s28 {ls os : List Int} {a : Int} (h : In ls os a) (e f : Bool) : ∃ x y, Or (.call 28) [lst e ls, lst f os, I a] [] = some [x, y, ti (normF ls os a).1.at_, ti (normF ls os a).2, ti 0] ∧ IsL x (normF ls os a).1.ls ∧ IsL y (normF ls os a).1.os := by
  have hb := baseF_bd h.few h.oko
  have ha := h.at_
  have w1 : wrap64 (a - baseF ls os) = a - baseF ls os := w64 (by omega)
  obtain ⟨x, y, e1, h1, h2⟩ := n28a (L := termsF ls os) (a := a - baseF ls os) (len_terms ls os) (ok2_terms h.few h.oko) (by omega) (termsF ls os) [] 0 0 rfl (by omega) (by simp) (by omega) (by omega) (by omega)
  rw [Int.zero_add] at e1 h1 h2
  refine ⟨x, y, orc_of ?_, h1, h2⟩
  rw [e28]
  simp only [wr64]
  simp only [gd1, hd1, tl1, dr0, dr1, dr2, dr3, dr4, dr5, dr6, bo1, in1, st1, ls1, le1, pt1, fi1, fb1, fs1, ct1, cf1, nt1, nf1, ak0, akT, akF, cdec, cndec, cbeq, cnbeq, ↓reduceIte, beq_self_eq_true, Int.reduceBEq, Int.reduceEq, Bool.and_true, Bool.true_and, Bool.false_and, Bool.and_false, s40 e f ls os h.len h.few h.okl h.oko, w1, row_len]
  exact e1
end Go.Aev.Gen
