/-
  Tidy, Add, Part, Full, and the document's.
-/
import Derived.Test.YtcjfkgkobblonaaHChk
set_option linter.unusedSimpArgs false
set_option linter.unusedVariables false
namespace Go.Aev.Gen
open Go Go.Aev Go.Aev.Hp Go.RowKit

/-! ### What is not wrong -/
def dist (l : List Int) : Prop := l.Pairwise fun x y => x ≠ y ∧ x ≠ -y
structure Good (h : Hp) (n : Int) : Prop where
  n0 : 0 ≤ n ∧ n ≤ 120
  few : h.ls.length ≤ 24
  len : h.ls.length = h.os.length
  lit : ∀ l ∈ h.ls, l ≠ 0 ∧ -n ≤ l ∧ l ≤ n
  dist : dist h.ls
  os : ∀ o ∈ h.os, -1000000 ≤ o ∧ o ≤ 1000000
  at_ : -1000000 ≤ h.at_ ∧ h.at_ ≤ 1000000

theorem whole_iff {x : Int} : whole x = true ↔ -1000000 ≤ x ∧ x ≤ 1000000 := by simp [whole]
theorem tw_iff {l x : Int} : tw l x = true ↔ x = l ∨ x = -l := by simp [tw]
theorem lbad_iff {n l : Int} (hn : 0 ≤ n ∧ n ≤ 120) : lbad n l = false ↔ l ≠ 0 ∧ -n ≤ l ∧ l ≤ n := by
  simp [lbad, and_assoc]
theorem chkI_ok {n a : Int} (hn : 0 ≤ n ∧ n ≤ 120) : ∀ (ls os pre : List Int), ls.length = os.length → dist pre → (chkI n a pre ls os).1 = 0 →
    (∀ l ∈ ls, l ≠ 0 ∧ -n ≤ l ∧ l ≤ n) ∧ dist (pre ++ ls) ∧ (∀ o ∈ os, -1000000 ≤ o ∧ o ≤ 1000000) ∧ (-1000000 ≤ a ∧ a ≤ 1000000)
  | [], [], pre, hl, hd, h => by
    simp only [chkI] at h
    by_cases c : whole a = true
    · exact ⟨by simp, by simpa using hd, by simp, whole_iff.1 c⟩
    · rw [if_neg c] at h; simp at h
  | [], o :: os, pre, hl, hd, h => by simp at hl
  | l :: ls, [], pre, hl, hd, h => by simp at hl
  | l :: ls, o :: os, pre, hl, hd, h => by
    rw [chkI] at h
    by_cases c1 : lbad n l = true
    · rw [if_pos c1] at h; simp at h
    · rw [if_neg c1] at h
      by_cases c2 : pre.any (tw l) = true
      · rw [if_pos c2] at h; simp at h
      · rw [if_neg c2] at h
        by_cases c3 : whole o = true
        · rw [if_pos c3] at h
          have hl1 := (lbad_iff hn).1 (by simpa using c1)
          have hd' : dist (pre ++ [l]) := by
            unfold dist at hd ⊢
            rw [List.pairwise_append]
            refine ⟨hd, by simp, fun x hx y hy => ?_⟩
            simp at hy; subst hy
            have : tw y x = false := by
              cases ht : tw y x with
              | false => rfl
              | true => exact absurd (List.any_eq_true.2 ⟨x, hx, ht⟩) c2
            refine ⟨fun e => ?_, fun e => ?_⟩
            · rw [tw_iff.2 (.inl e)] at this; cases this
            · rw [tw_iff.2 (.inr e)] at this; cases this
          obtain ⟨i1, i2, i3, i4⟩ := chkI_ok hn ls os (pre ++ [l]) (by simpa using hl) hd' h
          refine ⟨fun x hx => ?_, by simpa using i2, fun x hx => ?_, i4⟩
          · rcases List.mem_cons.1 hx with rfl | hx
            · exact hl1
            · exact i1 x hx
          · rcases List.mem_cons.1 hx with rfl | hx
            · exact whole_iff.1 c3
            · exact i3 x hx
        · rw [if_neg c3] at h; simp at h
theorem chkI_good {n a : Int} (hn : 0 ≤ n ∧ n ≤ 120) (ha : -1000000 ≤ a ∧ a ≤ 1000000) : ∀ (ls os pre : List Int), ls.length = os.length → (∀ l ∈ ls, l ≠ 0 ∧ -n ≤ l ∧ l ≤ n) → dist (pre ++ ls) → (∀ o ∈ os, -1000000 ≤ o ∧ o ≤ 1000000) → chkI n a pre ls os = (0, 0)
  | [], [], pre, _, _, _, _ => by simp only [chkI]; rw [if_pos (whole_iff.2 ha)]
  | [], o :: os, pre, hl, _, _, _ => by simp at hl
  | l :: ls, [], pre, hl, _, _, _ => by simp at hl
  | l :: ls, o :: os, pre, hl, h1, h2, h3 => by
    have c1 : ¬ lbad n l = true := by rw [(lbad_iff hn).2 (h1 l (List.mem_cons_self ..))]; simp
    have c2 : ¬ pre.any (tw l) = true := by
      intro h
      obtain ⟨x, hx, ht⟩ := List.any_eq_true.1 h
      unfold dist at h2
      rw [List.pairwise_append] at h2
      have := h2.2.2 x hx l (List.mem_cons_self ..)
      rcases tw_iff.1 ht with e | e
      · exact this.1 e
      · exact this.2 e
    rw [chkI, if_neg c1, if_neg c2, if_pos (whole_iff.2 (h3 o (List.mem_cons_self ..)))]
    exact chkI_good hn ha ls os (pre ++ [l]) (by simpa using hl) (fun x hx => h1 x (List.mem_cons_of_mem _ hx)) (by simpa using h2) (fun x hx => h3 x (List.mem_cons_of_mem _ hx))
theorem chk_ok {h : Hp} {n : Int} (hc : (chkH h n).1 = 0) : Good h n := by
  unfold chkH at hc
  by_cases c1 : n < 0 ∨ n > 120
  · rw [if_pos c1] at hc; simp at hc
  · rw [if_neg c1] at hc
    by_cases c2 : h.ls.length > 24
    · rw [if_pos c2] at hc; simp at hc
    · rw [if_neg c2] at hc
      by_cases c3 : h.ls.length ≠ h.os.length
      · rw [if_pos c3] at hc; simp at hc
      · rw [if_neg c3] at hc
        obtain ⟨i1, i2, i3, i4⟩ := chkI_ok (by omega) h.ls h.os [] (by omega) List.Pairwise.nil hc
        exact ⟨by omega, by omega, by omega, i1, by simpa using i2, i3, i4⟩
theorem chk_good {h : Hp} {n : Int} (g : Good h n) : chkH h n = (0, 0) := by
  have h1 := g.n0
  have h2 := g.few
  have h3 := g.len
  unfold chkH
  rw [if_neg (by omega), if_neg (by omega), if_neg (by omega)]
  exact chkI_good g.n0 g.at_ h.ls h.os [] g.len g.lit (by simpa using g.dist) g.os
theorem Good.up {h : Hp} {n : Int} (g : Good h n) : Good h 120 := by
  have := g.n0
  exact ⟨by omega, g.few, g.len, fun l hl => by have := g.lit l hl; omega, g.dist, g.os, g.at_⟩
theorem Good.in_ {h : Hp} {n : Int} (g : Good h n) : In h.ls h.os h.at_ := by
  have h0 := g.n0
  have h1 := g.few
  have h2 := g.at_
  refine ⟨g.len, by omega, ?_, ?_, by omega⟩
  · rw [List.all_eq_true]; exact fun l hl => okL_iff.2 (by have := g.lit l hl; omega)
  · rw [List.all_eq_true]; exact fun o ho => okO_iff.2 (by have := g.os o ho; omega)

/-! ### What is tidy -/
structure Td (t : Hp) : Prop where
  len : t.ls.length = t.os.length
  few : t.ls.length ≤ 24
  okl : ∀ l ∈ t.ls, okL l = true
  os : ∀ o ∈ t.os, 0 < o ∧ o ≤ 1000000
  at_ : 0 ≤ t.at_ ∧ t.at_ ≤ 1000000
theorem gcS_dvd : ∀ {L : List (Int × Int)} {g : Int}, gcS L g ∣ g ∧ ∀ x ∈ L, gcS L g ∣ x.2
  | [], g => ⟨Int.dvd_refl _, by simp⟩
  | x :: r, g => by
    have ih := gcS_dvd (L := r) (g := gc x.2 g)
    have h1 : gc x.2 g ∣ x.2 := Int.gcd_dvd_left _ _
    have h2 : gc x.2 g ∣ g := Int.gcd_dvd_right _ _
    refine ⟨Int.dvd_trans ih.1 h2, fun y hy => ?_⟩
    rcases List.mem_cons.1 hy with rfl | hy
    · exact Int.dvd_trans ih.1 h1
    · exact ih.2 y hy
theorem tdiv_pos_of {a g : Int} (ha : 0 < a) (hg : 0 < g) (hd : g ∣ a) : 0 < a.tdiv g := by
  obtain ⟨k, rfl⟩ := hd
  rw [Int.mul_tdiv_cancel_left _ (by omega)]
  by_cases h : 0 < k
  · exact h
  · have := Int.mul_le_mul_of_nonneg_left (show k ≤ 0 by omega) (Int.le_of_lt hg)
    omega
theorem qd_le {a g k : Int} (ha : 0 ≤ a + g - 1) (hg : 0 < g) : qd a g ≤ k ↔ a ≤ k * g := by
  unfold qd
  rw [Int.tdiv_eq_ediv_of_nonneg ha, Int.ediv_le_iff_le_mul hg]
  omega
theorem qd_bd {a g : Int} (ha : 0 < a) (hg : 0 < g) : 0 < qd a g ∧ qd a g ≤ a := by
  constructor
  · have := (qd_le (a := a) (g := g) (k := 0) (by omega) hg).1
    by_cases h : 0 < qd a g
    · exact h
    · have := this (by omega); omega
  · refine (qd_le (by omega) hg).2 ?_
    have := Int.mul_le_mul_of_nonneg_left (show 1 ≤ g by omega) (Int.le_of_lt ha)
    omega
theorem qd_zero {g : Int} (hg : 0 < g) : qd 0 g = 0 := by
  have h1 := (qd_le (a := 0) (g := g) (k := 0) (by omega) hg).2 (by omega)
  have h2 := (qd_le (a := 0) (g := g) (k := -1) (by omega) hg).1
  by_cases h : qd 0 g ≤ -1
  · have := h2 h; omega
  · omega

theorem term_okl {ls os : List Int} {x : Int × Int} (h : x ∈ termsF ls os) : okL x.1 = true := by
  obtain ⟨v, v0, v1, _, h⟩ := termsF_var h
  unfold term1 at h
  split at h
  · simp at h; subst h; exact okL_iff.2 ⟨by simp; omega, by simp; omega, by simp; omega⟩
  · split at h
    · simp at h; subst h; exact okL_iff.2 ⟨by simp; omega, by simp; omega, by simp; omega⟩
    · simp at h

theorem norm_td {ls os : List Int} {a : Int} (h : In ls os a) (hc : (normF ls os a).2 = 0) : Td (normF ls os a).1 := by
  have hok := ok2_terms h.few h.oko
  unfold normF fin at hc ⊢
  by_cases c1 : a - baseF ls os ≤ 0
  · rw [if_pos c1]; exact ⟨rfl, by simp, by simp, by simp, by simp⟩
  · rw [if_neg c1] at hc ⊢
    by_cases c2 : sumS (termsF ls os) < a - baseF ls os
    · rw [if_pos c2]; exact ⟨rfl, by simp, by simp, by simp, by simp⟩
    · rw [if_neg c2] at hc ⊢
      by_cases c3 : (decide (((termsF ls os).length : Int) > 24) || decide (qd (a - baseF ls os) (gcS (termsF ls os) 0) > 1000000) || (termsF ls os).any (big (gcS (termsF ls os) 0))) = true
      · rw [if_pos c3] at hc; simp at hc
      · rw [if_neg c3]
        have hne : termsF ls os ≠ [] := by
          intro e; rw [e] at c2; simp [sumS] at c2; omega
        have hg := gcS_bd hok (Int.le_refl 0) (by omega) (.inl hne)
        simp only [Bool.or_eq_true, decide_eq_true_eq, not_or] at c3
        have hq := qd_bd (a := a - baseF ls os) (g := gcS (termsF ls os) 0) (by omega) hg.1
        refine ⟨by simp, by simp; omega, ?_, ?_, ?_⟩
        · intro l hl
          obtain ⟨x, hx, rfl⟩ := List.mem_map.1 hl
          exact term_okl hx
        · intro o ho
          obtain ⟨x, hx, rfl⟩ := List.mem_map.1 ho
          refine ⟨tdiv_pos_of (hok x hx).1 hg.1 (gcS_dvd.2 x hx), ?_⟩
          have : big (gcS (termsF ls os) 0) x = false := by
            cases hb : big (gcS (termsF ls os) 0) x with
            | false => rfl
            | true => exact absurd (List.any_eq_true.2 ⟨x, hx, hb⟩) c3.2
          simpa [big] using this
        · simp only; omega
theorem norm_code {ls os : List Int} {a : Int} : (normF ls os a).2 = 0 ∨ (normF ls os a) = (⟨[], [], 0⟩, 10) := by
  unfold normF fin
  split
  · exact .inl rfl
  · split
    · exact .inl rfl
    · split
      · exact .inr rfl
      · exact .inl rfl

/-! ### The calls -/
def none_ : Hp := ⟨[], [], 0⟩
def tidyF (h : Hp) : Hp × Int × Int := if (chkH h 120).1 = 0 then ((normF h.ls h.os h.at_).1, (normF h.ls h.os h.at_).2, 0) else (none_, chkH h 120)
def fullF (t : Hp) : Hp × Int := normF t.ls (t.os.map fun o => min o t.at_) t.at_
def divF (t : Hp) (d : Int) : Hp × Int := normF t.ls (t.os.map fun o => qd o d) (qd t.at_ d)
/-- What a call answers: a heap and a fault. -/
def Ans (O : Option (List T)) (r : Hp × Int × Int) : Prop := ∃ x y, O = some [x, y, ti r.1.at_, ti r.2.1, ti r.2.2] ∧ IsL x r.1.ls ∧ IsL y r.1.os

theorem s10 (e f : Bool) (h : Hp) : Ans (Or (.call 10) [hv e f h] []) (tidyF h) := by
  have hc := s16 h 120 e f
  unfold tidyF
  by_cases c : (chkH h 120).1 = 0
  · rw [if_pos c]
    obtain ⟨x, y, e1, h1, h2⟩ := s28 (chk_ok c).in_ e f
    refine ⟨tm _, tm _, orc_of ?_, isL_tm _, isL_tm _⟩
    rw [e10]
    have h1' : x.lst? 1 = _ := h1
    have h2' : y.lst? 1 = _ := h2
    simp only [gd1, hd1, tl1, dr0, dr1, dr2, dr3, dr4, dr5, dr6, bo1, in1, st1, ls1, le1, pt1, fi1, fb1, fs1, ct1, cf1, nt1, nf1, ak0, akT, akF, cdec, cndec, cbeq, cnbeq, ↓reduceIte, beq_self_eq_true, Int.reduceBEq, Int.reduceEq, Bool.and_true, Bool.true_and, Bool.false_and, Bool.and_false, hc, c, e1, h1', h2']
    rfl
  · rw [if_neg c]
    refine ⟨T.emp true, T.emp true, orc_of ?_, isL_emp, isL_emp⟩
    rw [e10]
    simp only [gd1, hd1, tl1, dr0, dr1, dr2, dr3, dr4, dr5, dr6, bo1, in1, st1, ls1, le1, pt1, fi1, fb1, fs1, ct1, cf1, nt1, nf1, ak0, akT, akF, cdec, cndec, cbeq, cnbeq, ↓reduceIte, beq_self_eq_true, Int.reduceBEq, Int.reduceEq, Bool.and_true, Bool.true_and, Bool.false_and, Bool.and_false, hc, c]
    rfl
theorem s18 (e f : Bool) {h : Hp} (hin : In h.ls h.os h.at_) : Ans (Or (.call 18) [hv e f h] []) ((normF h.ls h.os h.at_).1, (normF h.ls h.os h.at_).2, 0) := by
  obtain ⟨x, y, e1, h1, h2⟩ := s36 hin e f
  refine ⟨tm _, tm _, orc_of ?_, isL_tm _, isL_tm _⟩
  rw [e18]
  have h1' : x.lst? 1 = _ := h1
  have h2' : y.lst? 1 = _ := h2
  simp only [gd1, hd1, tl1, dr0, dr1, dr2, dr3, dr4, dr5, dr6, bo1, in1, st1, ls1, le1, pt1, fi1, fb1, fs1, ct1, cf1, nt1, nf1, ak0, akT, akF, cdec, cndec, cbeq, cnbeq, ↓reduceIte, beq_self_eq_true, Int.reduceBEq, Int.reduceEq, Bool.and_true, Bool.true_and, Bool.false_and, Bool.and_false, e1, h1', h2']
  rfl
theorem Td.full {t : Hp} (h : Td t) : In t.ls (t.os.map fun o => min o t.at_) t.at_ := by
  have h0 := h.at_
  have h1 := h.few
  refine ⟨by simpa using h.len, by omega, ?_, ?_, by omega⟩
  · rw [List.all_eq_true]; exact h.okl
  · rw [List.all_eq_true]
    intro o ho
    obtain ⟨x, hx, rfl⟩ := List.mem_map.1 ho
    have := h.os x hx
    exact okO_iff.2 (by omega)
theorem Td.div {t : Hp} (h : Td t) {d : Int} (hd : 1 ≤ d ∧ d ≤ 1000000) : In t.ls (t.os.map fun o => qd o d) (qd t.at_ d) := by
  have h0 := h.at_
  have h1 := h.few
  have hq : ∀ o, 0 ≤ o → o ≤ 1000000 → 0 ≤ qd o d ∧ qd o d ≤ 1000000 := by
    intro o o0 o1
    by_cases c : o = 0
    · subst c; rw [qd_zero (by omega)]; omega
    · have := qd_bd (a := o) (g := d) (by omega) (by omega); omega
  refine ⟨by simpa using h.len, by omega, ?_, ?_, ?_⟩
  · rw [List.all_eq_true]; exact h.okl
  · rw [List.all_eq_true]
    intro o ho
    obtain ⟨x, hx, rfl⟩ := List.mem_map.1 ho
    have := h.os x hx
    exact okO_iff.2 (by have := hq x (by omega) (by omega); omega)
  · have := hq t.at_ h0.1 h0.2; omega

/-- The loop of Full: in place. -/
theorem n11 {t : Hp} (e f : Bool) (hin : In t.ls (t.os.map fun o => min o t.at_) t.at_) (hn : t.os.length ≤ 1000) : ∀ (suf pre : List Int), t.os = pre ++ suf →
    Ans (Or K11n5 [r0, r1, r2, I (t.os.length : Int), I (pre.length : Int)] [Blk.box [lst e t.ls, AV.own (Id.c 3), I t.at_], z3, z2, Blk.sl false 1 f (enc (pre.map (fun o => min o t.at_) ++ suf))]) ((fullF t).1, (fullF t).2, 0)
  | [], pre, h => by
    rw [List.append_nil] at h
    have hl : ¬ ((t.os.length : Int) < (t.os.length : Int)) := by omega
    obtain ⟨x, y, e1, h1, h2⟩ := s28 hin e f
    refine ⟨tm _, tm _, orc_of ?_, isL_tm _, isL_tm _⟩
    rw [e11n5]
    have h1' : x.lst? 1 = _ := h1
    have h2' : y.lst? 1 = _ := h2
    rw [List.append_nil, ← h]
    simp only [gd1, hd1, tl1, dr0, dr1, dr2, dr3, dr4, dr5, dr6, bo1, in1, st1, ls1, le1, pt1, fi1, fb1, fs1, ct1, cf1, nt1, nf1, ak0, akT, akF, cdec, cndec, cbeq, cnbeq, ↓reduceIte, beq_self_eq_true, Int.reduceBEq, Int.reduceEq, Bool.and_true, Bool.true_and, Bool.false_and, Bool.and_false, hl, e1, h1', h2']
    rfl
  | o :: r, pre, h => by
    obtain ⟨x, y, e1, h1, h2⟩ := n11 e f hin hn r (pre ++ [o]) (by rw [h]; simp)
    have hl : t.os.length = pre.length + (r.length + 1) := by rw [h]; simp
    have c1 : (pre.length : Int) < (t.os.length : Int) := by omega
    have c0 : 0 ≤ (pre.length : Int) := by omega
    have hlen : (enc (pre.map (fun o => min o t.at_) ++ o :: r)).length = t.os.length := by rw [enc_len, hl]; simp
    have hget : (enc (pre.map (fun o => min o t.at_) ++ o :: r))[((pre.length : Nat) : Int).toNat]? = some [ti o] := enc_get (by simp)
    have hset : storeIn ((pre.length : Nat) : Int).toNat 0 [ti (min o t.at_)] (enc (pre.map (fun o => min o t.at_) ++ o :: r)) = some (enc ((pre ++ [o]).map (fun o => min o t.at_) ++ r)) := by
      rw [enc_set (by simp)]
      congr 2
      simp [List.set_append]
    have en : wrap64 ((pre.length : Int) + 1) = ((pre ++ [o]).length : Int) := by rw [w64 (by omega)]; simp
    refine ⟨x, y, orc_of ?_, h1, h2⟩
    rw [e11n5]
    simp only [wr64, mm_min]
    simp only [gd1, hd1, tl1, dr0, dr1, dr2, dr3, dr4, dr5, dr6, bo1, in1, st1, ls1, le1, pt1, fi1, fb1, fs1, ct1, cf1, nt1, nf1, ak0, akT, akF, cdec, cndec, cbeq, cnbeq, ↓reduceIte, beq_self_eq_true, Int.reduceBEq, Int.reduceEq, Bool.and_true, Bool.true_and, Bool.false_and, Bool.and_false, hlen, c1, c0, and_self, hget, hset, en]
    exact e1
theorem s11 (e f : Bool) (h : Hp) : Ans (Or (.call 11) [hv e f h] []) (if (tidyF h).2.1 = 0 then ((fullF (tidyF h).1).1, (fullF (tidyF h).1).2, 0) else (none_, (tidyF h).2)) := by
  obtain ⟨x, y, e1, h1, h2⟩ := s10 e f h
  have h1' : x.lst? 1 = _ := h1
  have h2' : y.lst? 1 = _ := h2
  by_cases c : (tidyF h).2.1 = 0
  · rw [if_pos c]
    have hc : (chkH h 120).1 = 0 := by
      by_cases hc : (chkH h 120).1 = 0
      · exact hc
      · unfold tidyF at c; rw [if_neg hc] at c; exact absurd c hc
    have htd : Td (tidyF h).1 := by
      unfold tidyF at c ⊢; rw [if_pos hc] at c ⊢
      exact norm_td (chk_ok hc).in_ c
    have hfew := htd.few
    have hlen := htd.len
    obtain ⟨x', y', e2, h3, h4⟩ := n11 (t := (tidyF h).1) (tidyF h).1.ls.isEmpty (tidyF h).1.os.isEmpty htd.full (by omega) (tidyF h).1.os [] rfl
    refine ⟨x', y', orc_of ?_, h3, h4⟩
    rw [e11]
    simp only [gd1, hd1, tl1, dr0, dr1, dr2, dr3, dr4, dr5, dr6, bo1, in1, st1, ls1, le1, pt1, fi1, fb1, fs1, ct1, cf1, nt1, nf1, ak0, akT, akF, cdec, cndec, cbeq, cnbeq, ↓reduceIte, beq_self_eq_true, Int.reduceBEq, Int.reduceEq, Bool.and_true, Bool.true_and, Bool.false_and, Bool.and_false, e1, h1', h2', c, enc_len]
    exact e2
  · rw [if_neg c]
    refine ⟨T.emp true, T.emp true, orc_of ?_, isL_emp, isL_emp⟩
    rw [e11]
    simp only [gd1, hd1, tl1, dr0, dr1, dr2, dr3, dr4, dr5, dr6, bo1, in1, st1, ls1, le1, pt1, fi1, fb1, fs1, ct1, cf1, nt1, nf1, ak0, akT, akF, cdec, cndec, cbeq, cnbeq, ↓reduceIte, beq_self_eq_true, Int.reduceBEq, Int.reduceEq, Bool.and_true, Bool.true_and, Bool.false_and, Bool.and_false, e1, h1', h2', c]
    rfl

theorem Td.of {h : Hp} (c : (tidyF h).2.1 = 0) : Td (tidyF h).1 := by
  have hc : (chkH h 120).1 = 0 := by
    by_cases hc : (chkH h 120).1 = 0
    · exact hc
    · unfold tidyF at c; rw [if_neg hc] at c; exact absurd c hc
  unfold tidyF at c ⊢; rw [if_pos hc] at c ⊢
  exact norm_td (chk_ok hc).in_ c

/-- The loop of Part: in place. -/
theorem n14 {t : Hp} {d : Int} (e f : Bool) (hd : 1 ≤ d ∧ d ≤ 1000000) (htd : Td t) : ∀ (suf pre : List Int), t.os = pre ++ suf →
    Ans (Or K14n7 [I d, r0, r1, r2, I (t.os.length : Int), I (pre.length : Int)] [Blk.box [lst e t.ls, AV.own (Id.c 3), I t.at_], z3, z2, Blk.sl false 1 f (enc (pre.map (fun o => qd o d) ++ suf))]) ((divF t d).1, (divF t d).2, 0)
  | [], pre, h => by
    rw [List.append_nil] at h
    have hl : ¬ ((t.os.length : Int) < (t.os.length : Int)) := by omega
    have hat := htd.at_
    have hd0 : ¬ d = 0 := by omega
    have w1 : wrap64 (t.at_ + d) = t.at_ + d := w64 (by omega)
    have w2 : wrap64 (t.at_ + d - 1) = t.at_ + d - 1 := w64 (by omega)
    have hq := tdiv_bd (a := t.at_ + d - 1) (g := d) (by omega) (by omega)
    have w3 : wrap64 ((t.at_ + d - 1).tdiv d) = qd t.at_ d := w64 (by omega)
    obtain ⟨x, y, e1, h1, h2⟩ := s28 (htd.div hd) e f
    refine ⟨tm _, tm _, orc_of ?_, isL_tm _, isL_tm _⟩
    rw [e14n7]
    have h1' : x.lst? 1 = _ := h1
    have h2' : y.lst? 1 = _ := h2
    rw [List.append_nil, ← h]
    simp only [wr64, w1, w2, w3]
    simp only [gd1, hd1, tl1, dr0, dr1, dr2, dr3, dr4, dr5, dr6, bo1, in1, st1, ls1, le1, pt1, fi1, fb1, fs1, ct1, cf1, nt1, nf1, ak0, akT, akF, cdec, cndec, cbeq, cnbeq, ↓reduceIte, beq_self_eq_true, Int.reduceBEq, Int.reduceEq, Bool.and_true, Bool.true_and, Bool.false_and, Bool.and_false, hl, hd0, if_false, e1, h1', h2']
    rfl
  | o :: r, pre, h => by
    obtain ⟨x, y, e1, h1, h2⟩ := n14 e f hd htd r (pre ++ [o]) (by rw [h]; simp)
    have hl : t.os.length = pre.length + (r.length + 1) := by rw [h]; simp
    have hfew := htd.few
    have hlens := htd.len
    have ho := htd.os o (by rw [h]; simp)
    have hd0 : ¬ d = 0 := by omega
    have w1 : wrap64 (o + d) = o + d := w64 (by omega)
    have w2 : wrap64 (o + d - 1) = o + d - 1 := w64 (by omega)
    have hq := tdiv_bd (a := o + d - 1) (g := d) (by omega) (by omega)
    have w3 : wrap64 ((o + d - 1).tdiv d) = qd o d := w64 (by omega)
    have c1 : (pre.length : Int) < (t.os.length : Int) := by omega
    have c0 : 0 ≤ (pre.length : Int) := by omega
    have hlen : (enc (pre.map (fun o => qd o d) ++ o :: r)).length = t.os.length := by rw [enc_len, hl]; simp
    have hget : (enc (pre.map (fun o => qd o d) ++ o :: r))[((pre.length : Nat) : Int).toNat]? = some [ti o] := enc_get (by simp)
    have hset : storeIn ((pre.length : Nat) : Int).toNat 0 [ti (qd o d)] (enc (pre.map (fun o => qd o d) ++ o :: r)) = some (enc ((pre ++ [o]).map (fun o => qd o d) ++ r)) := by
      rw [enc_set (by simp)]
      congr 2
      simp [List.set_append]
    have en : wrap64 ((pre.length : Int) + 1) = ((pre ++ [o]).length : Int) := by rw [w64 (by omega)]; simp
    refine ⟨x, y, orc_of ?_, h1, h2⟩
    rw [e14n7]
    simp only [wr64]
    simp only [gd1, hd1, tl1, dr0, dr1, dr2, dr3, dr4, dr5, dr6, bo1, in1, st1, ls1, le1, pt1, fi1, fb1, fs1, ct1, cf1, nt1, nf1, ak0, akT, akF, cdec, cndec, cbeq, cnbeq, ↓reduceIte, beq_self_eq_true, Int.reduceBEq, Int.reduceEq, Bool.and_true, Bool.true_and, Bool.false_and, Bool.and_false, hlen, c1, c0, and_self, hget, hd0, if_false, w1, w2, w3, hset, en]
    exact e1
def partF (h : Hp) (d : Int) (t : Hp × Int × Int) : Hp × Int × Int := if t.2.1 = 0 then (if d < 1 ∨ d > 1000000 then (none_, 3, -1) else ((divF t.1 d).1, (divF t.1 d).2, 0)) else (none_, t.2)
theorem s14 (e f : Bool) (h : Hp) (d : Int) : Ans (Or (.call 14) [hv e f h, I d] []) (partF h d (tidyF h)) := by
  obtain ⟨x, y, e1, h1, h2⟩ := s10 e f h
  have h1' : x.lst? 1 = _ := h1
  have h2' : y.lst? 1 = _ := h2
  unfold partF
  by_cases c : (tidyF h).2.1 = 0
  · rw [if_pos c]
    by_cases cd : d < 1 ∨ d > 1000000
    · rw [if_pos cd]
      refine ⟨T.emp true, T.emp true, orc_of ?_, isL_emp, isL_emp⟩
      rw [e14]
      simp only [cor, ← Bool.decide_or]
      simp only [gd1, hd1, tl1, dr0, dr1, dr2, dr3, dr4, dr5, dr6, bo1, in1, st1, ls1, le1, pt1, fi1, fb1, fs1, ct1, cf1, nt1, nf1, ak0, akT, akF, cdec, cndec, cbeq, cnbeq, ↓reduceIte, beq_self_eq_true, Int.reduceBEq, Int.reduceEq, Bool.and_true, Bool.true_and, Bool.false_and, Bool.and_false, e1, h1', h2', c, cd]
      rfl
    · rw [if_neg cd]
      obtain ⟨x', y', e2, h3, h4⟩ := n14 (t := (tidyF h).1) (d := d) (tidyF h).1.ls.isEmpty (tidyF h).1.os.isEmpty (by omega) (Td.of c) (tidyF h).1.os [] rfl
      refine ⟨x', y', orc_of ?_, h3, h4⟩
      rw [e14]
      simp only [cor, ← Bool.decide_or]
      simp only [gd1, hd1, tl1, dr0, dr1, dr2, dr3, dr4, dr5, dr6, bo1, in1, st1, ls1, le1, pt1, fi1, fb1, fs1, ct1, cf1, nt1, nf1, ak0, akT, akF, cdec, cndec, cbeq, cnbeq, ↓reduceIte, beq_self_eq_true, Int.reduceBEq, Int.reduceEq, Bool.and_true, Bool.true_and, Bool.false_and, Bool.and_false, e1, h1', h2', c, cd, enc_len]
      exact e2
  · rw [if_neg c]
    refine ⟨T.emp true, T.emp true, orc_of ?_, isL_emp, isL_emp⟩
    rw [e14]
    simp only [gd1, hd1, tl1, dr0, dr1, dr2, dr3, dr4, dr5, dr6, bo1, in1, st1, ls1, le1, pt1, fi1, fb1, fs1, ct1, cf1, nt1, nf1, ak0, akT, akF, cdec, cndec, cbeq, cnbeq, ↓reduceIte, beq_self_eq_true, Int.reduceBEq, Int.reduceEq, Bool.and_true, Bool.true_and, Bool.false_and, Bool.and_false, e1, h1', h2', c]
    rfl

/-! The document's. -/
theorem n20 {t : Hp} (e f : Bool) (hin : In t.ls (t.os.map fun o => min o t.at_) t.at_) (hn : t.os.length ≤ 1000) : ∀ (suf pre : List Int), t.os = pre ++ suf →
    Ans (Or K20n6 [r0, r1, r2, AV.own (Id.c 3), I (pre.length : Int)] [z3, z2, Blk.box [lst e t.ls, lst f t.os, I t.at_], Blk.sl false 1 pre.isEmpty (enc (pre.map (fun o => min o t.at_)))]) ((fullF t).1, (fullF t).2, 0)
  | [], pre, h => by
    rw [List.append_nil] at h
    have hl : ¬ ((t.os.length : Int) < (t.os.length : Int)) := by omega
    obtain ⟨x, y, e1, h1, h2⟩ := s36 hin e t.os.isEmpty
    refine ⟨tm _, tm _, orc_of ?_, isL_tm _, isL_tm _⟩
    rw [e20n6]
    have h1' : x.lst? 1 = _ := h1
    have h2' : y.lst? 1 = _ := h2
    rw [← h]
    simp only [gd1, hd1, tl1, dr0, dr1, dr2, dr3, dr4, dr5, dr6, bo1, in1, st1, ls1, le1, pt1, fi1, fb1, fs1, ct1, cf1, nt1, nf1, ak0, akT, akF, cdec, cndec, cbeq, cnbeq, ↓reduceIte, beq_self_eq_true, Int.reduceBEq, Int.reduceEq, Bool.and_true, Bool.true_and, Bool.false_and, Bool.and_false, hl, enc_len, e1, h1', h2']
    rfl
  | o :: r, pre, h => by
    obtain ⟨x, y, e1, h1, h2⟩ := n20 e f hin hn r (pre ++ [o]) (by rw [h]; simp)
    have hl : t.os.length = pre.length + (r.length + 1) := by rw [h]; simp
    have c1 : (pre.length : Int) < (t.os.length : Int) := by omega
    have c0 : 0 ≤ (pre.length : Int) := by omega
    have hget : (enc t.os)[((pre.length : Nat) : Int).toNat]? = some [ti o] := enc_get (by rw [h]; simp)
    have en : wrap64 ((pre.length : Int) + 1) = ((pre ++ [o]).length : Int) := by rw [w64 (by omega)]; simp
    have hsm : small 8 ((pre.map fun o => min o t.at_).length + [[ti (min o t.at_)]].length) = some () := small_ok (by simp; omega)
    have ea : enc (pre.map fun o => min o t.at_) ++ [[ti (min o t.at_)]] = enc ((pre ++ [o]).map fun o => min o t.at_) := by simp [enc]
    have ee : (pre ++ [o]).isEmpty = false := by cases pre <;> rfl
    rw [ee] at e1
    refine ⟨x, y, orc_of ?_, h1, h2⟩
    rw [e20n6]
    simp only [wr64, mm_min]
    simp only [gd1, hd1, tl1, dr0, dr1, dr2, dr3, dr4, dr5, dr6, bo1, in1, st1, ls1, le1, pt1, fi1, fb1, fs1, ct1, cf1, nt1, nf1, ak0, akT, akF, cdec, cndec, cbeq, cnbeq, ↓reduceIte, beq_self_eq_true, Int.reduceBEq, Int.reduceEq, Bool.and_true, Bool.true_and, Bool.false_and, Bool.and_false, enc_len, c1, c0, and_self, hget, hsm, ea, en]
    exact e1
def fullG (t : Hp × Int × Int) : Hp × Int × Int := if t.2.1 = 0 then ((fullF t.1).1, (fullF t.1).2, 0) else (none_, t.2)
def refT (h : Hp) : Hp × Int × Int := ((normF h.ls h.os h.at_).1, (normF h.ls h.os h.at_).2, 0)
theorem s20 (e f : Bool) {h : Hp} (hin : In h.ls h.os h.at_) : Ans (Or (.call 20) [hv e f h] []) (fullG (refT h)) := by
  obtain ⟨x, y, e1, h1, h2⟩ := s18 e f hin
  have h1' : x.lst? 1 = _ := h1
  have h2' : y.lst? 1 = _ := h2
  unfold fullG refT
  by_cases c : (normF h.ls h.os h.at_).2 = 0
  · rw [if_pos c]
    have htd := norm_td hin c
    have hfew := htd.few
    have hlen := htd.len
    obtain ⟨x', y', e2, h3, h4⟩ := n20 (t := (normF h.ls h.os h.at_).1) (normF h.ls h.os h.at_).1.ls.isEmpty (normF h.ls h.os h.at_).1.os.isEmpty htd.full (by omega) (normF h.ls h.os h.at_).1.os [] rfl
    refine ⟨x', y', orc_of ?_, h3, h4⟩
    rw [e20]
    simp only [gd1, hd1, tl1, dr0, dr1, dr2, dr3, dr4, dr5, dr6, bo1, in1, st1, ls1, le1, pt1, fi1, fb1, fs1, ct1, cf1, nt1, nf1, ak0, akT, akF, cdec, cndec, cbeq, cnbeq, ↓reduceIte, beq_self_eq_true, Int.reduceBEq, Int.reduceEq, Bool.and_true, Bool.true_and, Bool.false_and, Bool.and_false, e1, h1', h2', c]
    exact e2
  · rw [if_neg c]
    refine ⟨T.emp true, T.emp true, orc_of ?_, isL_emp, isL_emp⟩
    rw [e20]
    simp only [gd1, hd1, tl1, dr0, dr1, dr2, dr3, dr4, dr5, dr6, bo1, in1, st1, ls1, le1, pt1, fi1, fb1, fs1, ct1, cf1, nt1, nf1, ak0, akT, akF, cdec, cndec, cbeq, cnbeq, ↓reduceIte, beq_self_eq_true, Int.reduceBEq, Int.reduceEq, Bool.and_true, Bool.true_and, Bool.false_and, Bool.and_false, e1, h1', h2', c]
    rfl
theorem n19 {t : Hp} {d : Int} (e f : Bool) (hd : 1 ≤ d ∧ d ≤ 1000000) (htd : Td t) : ∀ (suf pre : List Int), t.os = pre ++ suf →
    Ans (Or K19n8 [I d, r0, r1, r2, AV.own (Id.c 3), I (pre.length : Int)] [z3, z2, Blk.box [lst e t.ls, lst f t.os, I t.at_], Blk.sl false 1 pre.isEmpty (enc (pre.map (fun o => qd o d)))]) ((divF t d).1, (divF t d).2, 0)
  | [], pre, h => by
    rw [List.append_nil] at h
    have hl : ¬ ((t.os.length : Int) < (t.os.length : Int)) := by omega
    have hat := htd.at_
    have hd0 : ¬ d = 0 := by omega
    have w1 : wrap64 (t.at_ + d) = t.at_ + d := w64 (by omega)
    have w2 : wrap64 (t.at_ + d - 1) = t.at_ + d - 1 := w64 (by omega)
    have hq := tdiv_bd (a := t.at_ + d - 1) (g := d) (by omega) (by omega)
    have w3 : wrap64 ((t.at_ + d - 1).tdiv d) = qd t.at_ d := w64 (by omega)
    obtain ⟨x, y, e1, h1, h2⟩ := s36 (htd.div hd) e t.os.isEmpty
    refine ⟨tm _, tm _, orc_of ?_, isL_tm _, isL_tm _⟩
    rw [e19n8]
    have h1' : x.lst? 1 = _ := h1
    have h2' : y.lst? 1 = _ := h2
    rw [← h]
    simp only [wr64, w1, w2, w3]
    simp only [gd1, hd1, tl1, dr0, dr1, dr2, dr3, dr4, dr5, dr6, bo1, in1, st1, ls1, le1, pt1, fi1, fb1, fs1, ct1, cf1, nt1, nf1, ak0, akT, akF, cdec, cndec, cbeq, cnbeq, ↓reduceIte, beq_self_eq_true, Int.reduceBEq, Int.reduceEq, Bool.and_true, Bool.true_and, Bool.false_and, Bool.and_false, hl, enc_len, hd0, if_false, e1, h1', h2']
    rfl
  | o :: r, pre, h => by
    obtain ⟨x, y, e1, h1, h2⟩ := n19 e f hd htd r (pre ++ [o]) (by rw [h]; simp)
    have hl : t.os.length = pre.length + (r.length + 1) := by rw [h]; simp
    have hfew := htd.few
    have hlens := htd.len
    have ho := htd.os o (by rw [h]; simp)
    have hd0 : ¬ d = 0 := by omega
    have w1 : wrap64 (o + d) = o + d := w64 (by omega)
    have w2 : wrap64 (o + d - 1) = o + d - 1 := w64 (by omega)
    have hq := tdiv_bd (a := o + d - 1) (g := d) (by omega) (by omega)
    have w3 : wrap64 ((o + d - 1).tdiv d) = qd o d := w64 (by omega)
    have c1 : (pre.length : Int) < (t.os.length : Int) := by omega
    have c0 : 0 ≤ (pre.length : Int) := by omega
    have hget : (enc t.os)[((pre.length : Nat) : Int).toNat]? = some [ti o] := enc_get (by rw [h]; simp)
    have en : wrap64 ((pre.length : Int) + 1) = ((pre ++ [o]).length : Int) := by rw [w64 (by omega)]; simp
    have hsm : small 8 ((pre.map fun o => qd o d).length + [[ti (qd o d)]].length) = some () := small_ok (by simp; omega)
    have ea : enc (pre.map fun o => qd o d) ++ [[ti (qd o d)]] = enc ((pre ++ [o]).map fun o => qd o d) := by simp [enc]
    have ee : (pre ++ [o]).isEmpty = false := by cases pre <;> rfl
    rw [ee] at e1
    refine ⟨x, y, orc_of ?_, h1, h2⟩
    rw [e19n8]
    simp only [wr64]
    simp only [gd1, hd1, tl1, dr0, dr1, dr2, dr3, dr4, dr5, dr6, bo1, in1, st1, ls1, le1, pt1, fi1, fb1, fs1, ct1, cf1, nt1, nf1, ak0, akT, akF, cdec, cndec, cbeq, cnbeq, ↓reduceIte, beq_self_eq_true, Int.reduceBEq, Int.reduceEq, Bool.and_true, Bool.true_and, Bool.false_and, Bool.and_false, enc_len, c1, c0, and_self, hget, hd0, if_false, w1, w2, w3, hsm, ea, en]
    exact e1
theorem s19 (e f : Bool) {h : Hp} (d : Int) (hin : In h.ls h.os h.at_) : Ans (Or (.call 19) [hv e f h, I d] []) (partF h d (refT h)) := by
  obtain ⟨x, y, e1, h1, h2⟩ := s18 e f hin
  have h1' : x.lst? 1 = _ := h1
  have h2' : y.lst? 1 = _ := h2
  unfold partF refT
  by_cases c : (normF h.ls h.os h.at_).2 = 0
  · rw [if_pos c]
    by_cases cd : d < 1 ∨ d > 1000000
    · rw [if_pos cd]
      refine ⟨T.emp true, T.emp true, orc_of ?_, isL_emp, isL_emp⟩
      rw [e19]
      simp only [cor, ← Bool.decide_or]
      simp only [gd1, hd1, tl1, dr0, dr1, dr2, dr3, dr4, dr5, dr6, bo1, in1, st1, ls1, le1, pt1, fi1, fb1, fs1, ct1, cf1, nt1, nf1, ak0, akT, akF, cdec, cndec, cbeq, cnbeq, ↓reduceIte, beq_self_eq_true, Int.reduceBEq, Int.reduceEq, Bool.and_true, Bool.true_and, Bool.false_and, Bool.and_false, e1, h1', h2', c, cd, s23]
      rfl
    · rw [if_neg cd]
      obtain ⟨x', y', e2, h3, h4⟩ := n19 (t := (normF h.ls h.os h.at_).1) (d := d) (normF h.ls h.os h.at_).1.ls.isEmpty (normF h.ls h.os h.at_).1.os.isEmpty (by omega) (norm_td hin c) (normF h.ls h.os h.at_).1.os [] rfl
      refine ⟨x', y', orc_of ?_, h3, h4⟩
      rw [e19]
      simp only [cor, ← Bool.decide_or]
      simp only [gd1, hd1, tl1, dr0, dr1, dr2, dr3, dr4, dr5, dr6, bo1, in1, st1, ls1, le1, pt1, fi1, fb1, fs1, ct1, cf1, nt1, nf1, ak0, akT, akF, cdec, cndec, cbeq, cnbeq, ↓reduceIte, beq_self_eq_true, Int.reduceBEq, Int.reduceEq, Bool.and_true, Bool.true_and, Bool.false_and, Bool.and_false, e1, h1', h2', c, cd]
      exact e2
  · rw [if_neg c]
    refine ⟨T.emp true, T.emp true, orc_of ?_, isL_emp, isL_emp⟩
    rw [e19]
    simp only [gd1, hd1, tl1, dr0, dr1, dr2, dr3, dr4, dr5, dr6, bo1, in1, st1, ls1, le1, pt1, fi1, fb1, fs1, ct1, cf1, nt1, nf1, ak0, akT, akF, cdec, cndec, cbeq, cnbeq, ↓reduceIte, beq_self_eq_true, Int.reduceBEq, Int.reduceEq, Bool.and_true, Bool.true_and, Bool.false_and, Bool.and_false, e1, h1', h2', c]
    rfl
end Go.Aev.Gen
