/-
  Till it rests; spans grow narrower alone; narrower spans stay narrower.
-/
import Derived.Test.YteigjcdcmgjdeaaSMono
import Derived.Test.YteigjcdcmgjdeaaSFact
import Derived.Test.YteigjcdcmgjdeaaAevFrame
set_option linter.unusedSimpArgs false
set_option linter.unusedVariables false
namespace Go.Aev.Gen
open Go Go.Aev Go.Proofs

theorem n23 (a b : List S) (e e2 : Bool) (hl : a.length = b.length) (hn : a.length ≤ 1000) : ∀ (rest : List S) (i : Nat), a.drop i = rest → ∃ z, Or K23n4 [LS e a, LS e2 b, I (a.length : Int), I (i : Int)] [] = some [tb z] := by
  intro rest
  induction rest with
  | nil =>
    intro i h
    refine ⟨true, orc_of ?_⟩
    rw [e23n4]
    have h1 : ¬ (i : Int) < (a.length : Int) := by have := at_end h; omega
    simp only [gd1, hd1, tl1, dr0, dr1, dr2, dr3, dr4, dr5, dr6, bo1, in1, st1, ls1, le1, pt1, fi1, fb1, fs1, ct1, cf1, nt1, nf1, ak0, akT, akF, cdec, cndec, cbeq, cnbeq, ↓reduceIte, beq_self_eq_true, Int.reduceBEq, Int.reduceEq, Bool.and_true, Bool.true_and, Bool.false_and, Bool.and_false, h1]
  | cons s rest ih =>
    intro i h
    obtain ⟨g1, g2, g3⟩ := at_drop h
    have h1 : (i : Int) < (a.length : Int) := by omega
    have h2 : (i : Int) < (b.length : Int) := by omega
    have h0 : 0 ≤ (i : Int) := by omega
    obtain ⟨z, k1⟩ := ih (i + 1) g3
    cases hb : ((sat a i).lo == (sat b i).lo && ((sat a i).hi == (sat b i).hi && true)) with
    | true =>
      refine ⟨z, orc_of ?_⟩
      rw [e23n4]
      simp only [gd1, hd1, tl1, in1, h1, h2, h0, and_self, cdec, ↓reduceIte, eSs_len, eSs_at g2, eSs_at (show i < b.length by omega), hb, Bool.not_true, ct1, cf1, next i (by omega), k1]
    | false =>
      refine ⟨false, orc_of ?_⟩
      rw [e23n4]
      simp only [gd1, hd1, tl1, in1, h1, h2, h0, and_self, cdec, ↓reduceIte, eSs_len, eSs_at g2, eSs_at (show i < b.length by omega), hb, Bool.not_false, ct1, cf1]
theorem s23 (a b : List S) (e e2 : Bool) (hn : a.length ≤ 1000) : ∃ z, Or (.call 23) [LS e a, LS e2 b] [] = some [tb z] := by
  by_cases hl : (a.length : Int) = (b.length : Int)
  · obtain ⟨z, k1⟩ := n23 a b e e2 (by omega) hn a 0 rfl
    refine ⟨z, orc_of ?_⟩
    rw [e23]
    simp only [eSs_len]
    simp only [gd1, hd1, tl1, dr0, dr1, dr2, dr3, dr4, dr5, dr6, bo1, in1, st1, ls1, le1, pt1, fi1, fb1, fs1, ct1, cf1, nt1, nf1, ak0, akT, akF, cdec, cndec, cbeq, cnbeq, ↓reduceIte, beq_self_eq_true, Int.reduceBEq, Int.reduceEq, Bool.and_true, Bool.true_and, Bool.false_and, Bool.and_false, hl]
    rw [← hl]; exact k1
  · refine ⟨false, orc_of ?_⟩
    rw [e23]
    simp only [gd1, hd1, tl1, dr0, dr1, dr2, dr3, dr4, dr5, dr6, bo1, in1, st1, ls1, le1, pt1, fi1, fb1, fs1, ct1, cf1, nt1, nf1, ak0, akT, akF, cdec, cndec, cbeq, cnbeq, ↓reduceIte, beq_self_eq_true, Int.reduceBEq, Int.reduceEq, Bool.and_true, Bool.true_and, Bool.false_and, Bool.and_false, eSs_len, hl]
/-- What Do tells. -/
def DoSays (l0 : List S) (o : Option (List T)) : Prop := ∃ x b c a, o = some [x, tb b, ti c, ti a] ∧ ((¬ c = 0 ∨ b = false) → x = T.emp true) ∧ (c = 0 → b = true → ∃ e3 l', x = T.lst 2 e3 (eSs l') ∧ Nar l0 l' ∧ Val l')
theorem n8 (rows : List R) (e : Bool) (hr : ∀ r ∈ rows, r.e = true → r.of = []) (l0 : List S) : ∀ (k i : Nat) (l : List S) (e2 : Bool), i + k = 200 → (e2 = true → l = []) → Nar l0 l → (i = 0 ∨ Val l) →
    DoSays l0 (Or K8n2 [LR e rows, LS e2 l, r0, I (i : Int)] [Blk.box [I 0, I 0]])
  | 0, i, l, e2, hi, he, hn, hv => by
    refine ⟨T.lst 2 e2 (eSs l), true, 0, 0, orc_of ?_, by simp, fun _ _ => ⟨e2, l, rfl, hn, by rcases hv with h | h; omega; exact h⟩⟩
    rw [e8n2]
    have h1 : ¬ (i : Int) < 200 := by omega
    simp only [gd1, hd1, tl1, dr0, dr1, dr2, dr3, dr4, dr5, dr6, bo1, in1, st1, ls1, le1, pt1, fi1, fb1, fs1, ct1, cf1, nt1, nf1, ak0, akT, akF, cdec, cndec, cbeq, cnbeq, ↓reduceIte, beq_self_eq_true, Int.reduceBEq, Int.reduceEq, Bool.and_true, Bool.true_and, Bool.false_and, Bool.and_false, h1]
  | k + 1, i, l, e2, hi, he, hn, hv => by
    have h1 : (i : Int) < 200 := by omega
    rcases s7 rows l e e2 hr he with ⟨c, a, hc, h7⟩ | ⟨ho, h7⟩
    · refine ⟨T.emp true, false, c, a, orc_of ?_, fun _ => rfl, fun h => absurd h hc⟩
      rw [e8n2]
      have hb : (!c == 0) = true := by simpa using hc
      simp only [gd1, hd1, tl1, dr0, dr1, dr2, dr3, dr4, dr5, dr6, bo1, in1, st1, ls1, le1, pt1, fi1, fb1, fs1, ct1, cf1, nt1, nf1, ak0, akT, akF, cdec, cndec, cbeq, cnbeq, ↓reduceIte, beq_self_eq_true, Int.reduceBEq, Int.reduceEq, Bool.and_true, Bool.true_and, Bool.false_and, Bool.and_false, h1, h7, hc, Bool.not_false]
    · have hlen : ∀ r ∈ rows, r.of.length ≤ l.length := fun r h => (ho.rows r h).len
      cases hf : onceF rows l with
      | none =>
        rw [hf] at h7
        refine ⟨T.emp true, false, 0, 0, orc_of ?_, fun _ => rfl, fun _ h => by cases h⟩
        rw [e8n2]
        simp only [gd1, hd1, tl1, dr0, dr1, dr2, dr3, dr4, dr5, dr6, bo1, in1, st1, ls1, le1, pt1, fi1, fb1, fs1, ct1, cf1, nt1, nf1, ak0, akT, akF, cdec, cndec, cbeq, cnbeq, ↓reduceIte, beq_self_eq_true, Int.reduceBEq, Int.reduceEq, Bool.and_true, Bool.true_and, Bool.false_and, Bool.and_false, h1, h7, resOnce, Bool.not_false]
      | some l1 =>
        rw [hf] at h7
        have v1 := onceF_val hlen ho.val hf
        have n1 := onceF_nar hlen hf
        obtain ⟨z, h23⟩ := s23 l1 l e2 e2 (by have := v1.len; omega)
        cases z with
        | true =>
          refine ⟨T.lst 2 e2 (eSs l1), true, 0, 0, orc_of ?_, by simp, fun _ _ => ⟨e2, l1, rfl, hn.trans n1, v1⟩⟩
          rw [e8n2]
          simp only [gd1, hd1, tl1, dr0, dr1, dr2, dr3, dr4, dr5, dr6, bo1, in1, st1, ls1, le1, pt1, fi1, fb1, fs1, ct1, cf1, nt1, nf1, ak0, akT, akF, cdec, cndec, cbeq, cnbeq, ↓reduceIte, beq_self_eq_true, Int.reduceBEq, Int.reduceEq, Bool.and_true, Bool.true_and, Bool.false_and, Bool.and_false, h1, h7, resOnce, Bool.not_true, h23]
        | false =>
          obtain ⟨x, b, c, a, k1, k2, k3⟩ := n8 rows e hr l0 k (i + 1) l1 e2 (by omega) (fun h => by
            have := he h
            have h1 := n1.1
            rw [this] at h1
            exact List.length_eq_zero_iff.1 (by simpa using h1.symm)) (hn.trans n1) (.inr v1)
          refine ⟨x, b, c, a, orc_of ?_, k2, k3⟩
          rw [e8n2]
          simp only [gd1, hd1, tl1, dr0, dr1, dr2, dr3, dr4, dr5, dr6, bo1, in1, st1, ls1, le1, pt1, fi1, fb1, fs1, ct1, cf1, nt1, nf1, ak0, akT, akF, cdec, cndec, cbeq, cnbeq, ↓reduceIte, beq_self_eq_true, Int.reduceBEq, Int.reduceEq, Bool.and_true, Bool.true_and, Bool.false_and, Bool.and_false, h1, h7, resOnce, Bool.not_true, h23, next i (by omega), k1]
theorem s8 (rows : List R) (l : List S) (e e2 : Bool) (hr : ∀ r ∈ rows, r.e = true → r.of = []) (he : e2 = true → l = []) : DoSays l (Or (.call 8) [LR e rows, LS e2 l] []) := by
  obtain ⟨x, b, c, a, k1, k2, k3⟩ := n8 rows e hr l 200 0 l e2 (by omega) he (Nar.refl l) (.inl rfl)
  refine ⟨x, b, c, a, orc_of ?_, k2, k3⟩
  rw [e8]; exact k1
theorem n5 (l m : List S) (e e2 : Bool) (hn : Nar l m) (hv : Val m) : ∀ (rest : List S) (i : Nat), l.drop i = rest → Or K5n10 [LS e l, LS e2 m, I (i : Int)] [] = some [tb true] := by
  have hlen := hn.1
  have h12 := hv.len
  intro rest
  induction rest with
  | nil =>
    intro i h
    refine orc_of ?_
    rw [e5n10]
    have h1 : ¬ (i : Int) < (l.length : Int) := by have := at_end h; omega
    simp only [gd1, hd1, tl1, dr0, dr1, dr2, dr3, dr4, dr5, dr6, bo1, in1, st1, ls1, le1, pt1, fi1, fb1, fs1, ct1, cf1, nt1, nf1, ak0, akT, akF, cdec, cndec, cbeq, cnbeq, ↓reduceIte, beq_self_eq_true, Int.reduceBEq, Int.reduceEq, Bool.and_true, Bool.true_and, Bool.false_and, Bool.and_false, eSs_len, h1]
  | cons s rest ih =>
    intro i h
    obtain ⟨g1, g2, g3⟩ := at_drop h
    have h1 : (i : Int) < (l.length : Int) := by omega
    have h2 : (i : Int) < (m.length : Int) := by omega
    have h0 : 0 ≤ (i : Int) := by omega
    have q1 := hn.2 i
    have q2 := hv.rng i
    have a1 : ¬ (sat m i).lo < (sat l i).lo := by omega
    have a2 : ¬ (sat m i).hi > (sat l i).hi := by omega
    have a3 : ¬ (sat m i).lo > (sat m i).hi := by omega
    refine orc_of ?_
    rw [e5n10]
    simp only [gd1, hd1, tl1, dr0, dr1, dr2, dr3, dr4, dr5, dr6, bo1, in1, st1, ls1, le1, pt1, fi1, fb1, fs1, ct1, cf1, nt1, nf1, ak0, akT, akF, cdec, cndec, cbeq, cnbeq, ↓reduceIte, beq_self_eq_true, Int.reduceBEq, Int.reduceEq, Bool.and_true, Bool.true_and, Bool.false_and, Bool.and_false, eSs_len, h1, h2, h0, and_self, eSs_at g2, eSs_at (show i < m.length by omega), a1, a2, a3, decide_false, next i (by omega), ih (i + 1) g3]
theorem law5 (rows : List R) (l : List S) (e e2 : Bool) (hr : ∀ r ∈ rows, r.e = true → r.of = []) (he : e2 = true → l = []) : Or (.call 5) [LR e rows, LS e2 l] [] = some [tb true] := by
  obtain ⟨x, b, c, a, k1, k2, k3⟩ := s8 rows l e e2 hr he
  refine orc_of ?_
  rw [e5]
  by_cases hc : ¬ c = 0 ∨ b = false
  · obtain rfl := k2 hc
    have hb : (bif !c == 0 then true else !b) = true := by
      rcases hc with hc | hc
      · simp [hc]
      · simp [hc]
    simp only [gd1, hd1, tl1, bo1, in1, le1, s9, Bool.not_true, ct1, cf1, k1, hb]
    simp
  · have hc0 : c = 0 := Classical.byContradiction fun h => hc (.inl h)
    have hb0 : b = true := by cases b with
      | true => rfl
      | false => exact absurd (.inr rfl) hc
    subst hc0; subst hb0
    obtain ⟨e3, l', rfl, hn, hv⟩ := k3 rfl rfl
    have hlen : ((eSs l').length : Int) = ((eSs l).length : Int) := by rw [eSs_len, eSs_len, hn.1]
    simp only [gd1, hd1, tl1, dr0, dr1, dr2, dr3, dr4, dr5, dr6, bo1, in1, st1, ls1, le1, pt1, fi1, fb1, fs1, ct1, cf1, nt1, nf1, ak0, akT, akF, cdec, cndec, cbeq, cnbeq, ↓reduceIte, beq_self_eq_true, Int.reduceBEq, Int.reduceEq, Bool.and_true, Bool.true_and, Bool.false_and, Bool.and_false, s9, Bool.not_true, k1, hlen]
    exact n5 l l' e2 e3 hn hv l 0 rfl

/-! ### More rows, narrower spans -/
theorem s19f (x y : List (List T)) (e e2 b : Bool) : Or (.call 19) [AV.t (T.lst 2 e x), B false, AV.t (T.lst 2 e2 y), B b] [] = some [tb true] := by
  refine orc_of ?_
  rw [e19]
  simp only [gd1, hd1, tl1, dr0, dr1, dr2, dr3, dr4, dr5, dr6, bo1, in1, st1, ls1, le1, pt1, fi1, fb1, fs1, ct1, cf1, nt1, nf1, ak0, akT, akF, cdec, cndec, cbeq, cnbeq, ↓reduceIte, beq_self_eq_true, Int.reduceBEq, Int.reduceEq, Bool.and_true, Bool.true_and, Bool.false_and, Bool.and_false, Bool.not_false]
theorem n19 (a b : List S) (e e2 : Bool) (hn : Nar b a) (h12 : a.length ≤ 1000) : ∀ (rest : List S) (i : Nat), a.drop i = rest → Or K19n6 [LS e a, LS e2 b, I (i : Int)] [] = some [tb true] := by
  have hlen := hn.1
  intro rest
  induction rest with
  | nil =>
    intro i h
    refine orc_of ?_
    rw [e19n6]
    have h1 : ¬ (i : Int) < (a.length : Int) := by have := at_end h; omega
    simp only [gd1, hd1, tl1, dr0, dr1, dr2, dr3, dr4, dr5, dr6, bo1, in1, st1, ls1, le1, pt1, fi1, fb1, fs1, ct1, cf1, nt1, nf1, ak0, akT, akF, cdec, cndec, cbeq, cnbeq, ↓reduceIte, beq_self_eq_true, Int.reduceBEq, Int.reduceEq, Bool.and_true, Bool.true_and, Bool.false_and, Bool.and_false, eSs_len, h1]
  | cons s rest ih =>
    intro i h
    obtain ⟨g1, g2, g3⟩ := at_drop h
    have h1 : (i : Int) < (a.length : Int) := by omega
    have h2 : (i : Int) < (b.length : Int) := by omega
    have h0 : 0 ≤ (i : Int) := by omega
    have q1 := hn.2 i
    have a1 : ¬ (sat a i).lo < (sat b i).lo := by omega
    have a2 : ¬ (sat a i).hi > (sat b i).hi := by omega
    refine orc_of ?_
    rw [e19n6]
    simp only [gd1, hd1, tl1, dr0, dr1, dr2, dr3, dr4, dr5, dr6, bo1, in1, st1, ls1, le1, pt1, fi1, fb1, fs1, ct1, cf1, nt1, nf1, ak0, akT, akF, cdec, cndec, cbeq, cnbeq, ↓reduceIte, beq_self_eq_true, Int.reduceBEq, Int.reduceEq, Bool.and_true, Bool.true_and, Bool.false_and, Bool.and_false, eSs_len, h1, h2, h0, and_self, eSs_at g2, eSs_at (show i < b.length by omega), a1, a2, decide_false, next i (by omega), ih (i + 1) g3]
theorem s19t (a b : List S) (e e2 : Bool) (hn : Nar b a) (h12 : a.length ≤ 1000) : Or (.call 19) [LS e a, B true, LS e2 b, B true] [] = some [tb true] := by
  have := n19 a b e e2 hn h12 a 0 rfl
  have hlen : ((eSs a).length : Int) = ((eSs b).length : Int) := by rw [eSs_len, eSs_len, hn.1]
  refine orc_of ?_
  rw [e19, hlen]
  simp only [gd1, hd1, tl1, dr0, dr1, dr2, dr3, dr4, dr5, dr6, bo1, in1, st1, ls1, le1, pt1, fi1, fb1, fs1, ct1, cf1, nt1, nf1, ak0, akT, akF, cdec, cndec, cbeq, cnbeq, ↓reduceIte, beq_self_eq_true, Int.reduceBEq, Int.reduceEq, Bool.and_true, Bool.true_and, Bool.false_and, Bool.and_false, Bool.not_true]
  exact this
/-- What the third and the second call tell, beside the first. -/
def In19 (c : Int) (ee : Bool) (xs : List (List T)) (b : Bool) (eA : Bool) (xA : List (List T)) (bA : Bool) : Prop := c = 0 → Or (.call 19) [AV.t (T.lst 2 ee xs), B b, AV.t (T.lst 2 eA xA), B bA] [] = some [tb true]
theorem n6 (rows : List R) (l m : List S) (r : R) (e e2 e3 : Bool) (hr : ∀ r' ∈ rows ++ [r], r'.e = true → r'.of = []) (he : e2 = true → l = []) (he3 : e3 = true → m = []) (hl : l.length = m.length) (hb : rows.length * 40 ≤ reachBytes) (h12 : l.length * 16 ≤ reachBytes) :
    ∀ (k i : Nat), i + k = l.length → (∀ j, j < i → (sat l j).lo ≤ (sat m j).lo ∧ (sat m j).hi ≤ (sat l j).hi) →
    Or K6n7 [LR e rows, LS e2 l, LS e3 m, r0, I (i : Int)] [Blk.box [AV.t (T.lst 1 r.e (enc r.of)), I r.kd, I r.tv]] = some [tb true]
  | 0, i, hi, hn => by
    have h1 : ¬ (i : Int) < (l.length : Int) := by omega
    have hnar : Nar l m := ⟨hl, fun j => by
      by_cases hj : j < i
      · exact hn j hj
      · have a1 : sat l j = default := by simp [sat, List.getD_eq_getElem?_getD, List.getElem?_eq_none (show l.length ≤ j by omega)]
        have a2 : sat m j = default := by simp [sat, List.getD_eq_getElem?_getD, List.getElem?_eq_none (show m.length ≤ j by omega)]
        rw [a1, a2]; exact ⟨Int.le_refl _, Int.le_refl _⟩⟩
    unfold reachBytes at hb
    have sm1 : small 40 (eRs rows).length = some () := by unfold small; rw [eRs_len, if_pos (.inr ⟨by omega, by omega⟩)]
    have sm2 : small 40 ((eRs rows).length + [[T.lst 1 r.e (enc r.of), ti r.kd, ti r.tv]].length) = some () := by
      unfold small; rw [eRs_len, if_pos (.inr ⟨by omega, by simp only [List.length_cons, List.length_nil]; omega⟩)]
    have ha : eRs rows ++ [[T.lst 1 r.e (enc r.of), ti r.kd, ti r.tv]] = eRs (rows ++ [r]) := by simp [eRs, eR]
    have hrr : ∀ r' ∈ rows, r'.e = true → r'.of = [] := fun r' h => hr r' (List.mem_append_left _ h)
    -- the first call
    have hA : ∃ x b c a eA xA, Or (.call 7) [LR e rows, LS e2 l] [] = some [x, tb b, ti c, ti a] ∧ x.lst? 2 = some (eA, xA) ∧ (c = 0 → Ok rows l) ∧ (∀ l', c = 0 → onceF rows l = some l' → b = true ∧ eA = e2 ∧ xA = eSs l') := by
      rcases s7 rows l e e2 hrr he with ⟨c, a, hc, h7⟩ | ⟨ho, h7⟩
      · exact ⟨_, _, _, _, true, [], h7, by simp [T.lst?], fun h => absurd h hc, fun _ h => absurd h hc⟩
      · cases hf : onceF rows l with
        | none =>
          rw [hf] at h7
          exact ⟨_, _, _, _, true, [], h7, by simp [T.lst?], fun _ => ho, fun l' _ h => by cases h⟩
        | some l1 =>
          rw [hf] at h7
          exact ⟨_, _, _, _, e2, eSs l1, h7, ls1 _ _ _, fun _ => ho, fun l' _ h => by cases h; exact ⟨rfl, rfl, rfl⟩⟩
    obtain ⟨x, b, c, a, eA, xA, h7, hx, hok, hxA⟩ := hA
    -- the second
    have hB : ∃ x' b' c' a' ee xs, Or (.call 7) [LR e rows, LS e3 m] [] = some [x', tb b', ti c', ti a'] ∧ x'.lst? 2 = some (ee, xs) ∧ (¬ c' = 0 → xs = []) ∧ (c = 0 → In19 c' ee xs b' eA xA b) := by
      rcases s7 rows m e e3 hrr he3 with ⟨c', a', hc', h7'⟩ | ⟨ho', h7'⟩
      · exact ⟨_, _, _, _, true, [], h7', by simp [T.lst?], fun _ => rfl, fun _ h => absurd h hc'⟩
      · cases hf : onceF rows m with
        | none =>
          rw [hf] at h7'
          exact ⟨_, _, _, _, true, [], h7', by simp [T.lst?], fun _ => rfl, fun _ _ => s19f _ _ _ _ _⟩
        | some m' =>
          rw [hf] at h7'
          refine ⟨_, _, _, _, e3, eSs m', h7', ls1 _ _ _, fun h => absurd rfl h, fun h0 _ => ?_⟩
          have ho := hok h0
          have hlen : ∀ r' ∈ rows, r'.of.length ≤ l.length := fun r' h => (ho.rows r' h).len
          obtain ⟨l', hl', hn'⟩ := onceF_mono hlen hnar hf
          obtain ⟨rfl, rfl, rfl⟩ := hxA l' h0 hl'
          exact s19t _ _ _ _ hn' (by have := hn'.1; have := (onceF_nar hlen hl').1; have := ho.val.len; omega)
    obtain ⟨x', b', c', a', ee, xs, h7', hx', hxs, hBi⟩ := hB
    -- the third
    have hC : ∃ x3 b3 c3 a3 e4 x4, Or (.call 7) [LR false (rows ++ [r]), LS e2 l] [] = some [x3, tb b3, ti c3, ti a3] ∧ x3.lst? 2 = some (e4, x4) ∧ (c = 0 → In19 c3 e4 x4 b3 eA xA b) := by
      rcases s7 (rows ++ [r]) l false e2 hr he with ⟨c3, a3, hc, h73⟩ | ⟨ho, h73⟩
      · exact ⟨_, _, _, _, true, [], h73, by simp [T.lst?], fun _ h => absurd h hc⟩
      · cases hf : onceF (rows ++ [r]) l with
        | none =>
          rw [hf] at h73
          exact ⟨_, _, _, _, true, [], h73, by simp [T.lst?], fun _ _ => s19f _ _ _ _ _⟩
        | some l2 =>
          rw [hf] at h73
          refine ⟨_, _, _, _, e2, eSs l2, h73, ls1 _ _ _, fun h0 _ => ?_⟩
          rw [onceF_snoc] at hf
          simp only [Option.bind_eq_some_iff] at hf
          obtain ⟨l', hl', hf⟩ := hf
          obtain ⟨rfl, rfl, rfl⟩ := hxA l' h0 hl'
          have q := ho.rows r (by simp)
          have hlen : ∀ r' ∈ rows, r'.of.length ≤ l.length := fun r' h => (ho.rows r' (List.mem_append_left _ h)).len
          have n1 := onceF_nar hlen hl'
          have n2 := oneF_nar (by have := q.len; have := n1.1; omega) hf
          exact s19t _ _ _ _ n2 (by have := n1.1; have := n2.1; have := ho.val.len; omega)
    obtain ⟨x3, b3, c3, a3, e4, x4, h73, hx3, hCi⟩ := hC
    refine orc_of ?_
    rw [e6n7]
    by_cases hc : c = 0
    · have hBi' := hBi hc
      have hCi' := hCi hc
      unfold In19 at hBi' hCi'
      by_cases hc' : c' = 0
      · have k1 := hBi' hc'
        by_cases hc3 : c3 = 0
        · have k2 := hCi' hc3
          simp only [gd1, hd1, tl1, bo1, in1, le1, cdec, ↓reduceIte, eSs_len, h1, h7, hx, h7', hx', sm1, sm2, ha, Bool.and_false, h73, hx3, hc, hc', hc3, beq_self_eq_true, Bool.not_true, Bool.not_false, ct1, cf1, k1, akT, k2]
        · have hcb : (c3 == 0) = false := by simpa using hc3
          simp only [gd1, gdF, hd1, tl1, bo1, in1, le1, cdec, ↓reduceIte, eSs_len, h1, h7, hx, h7', hx', sm1, sm2, ha, Bool.and_false, h73, hx3, hc, hc', hcb, beq_self_eq_true, Bool.not_true, Bool.not_false, ct1, cf1, k1, akF]
      · have hcb : (c' == 0) = false := by simpa using hc'
        rw [hxs hc'] at hx'
        simp only [gd1, hd1, tl1, bo1, in1, le1, cdec, ↓reduceIte, eSs_len, h1, h7, hx, h7', hx', sm1, sm2, ha, Bool.and_false, h73, hx3, hc, hcb, beq_self_eq_true, Bool.not_true, Bool.not_false, ct1, cf1, List.length_nil]
        simp
    · have hcb : (c == 0) = false := by simpa using hc
      simp only [gd1, hd1, tl1, bo1, in1, le1, cdec, ↓reduceIte, eSs_len, h1, h7, hx, h7', hx', sm1, sm2, ha, Bool.and_false, h73, hx3, hcb, Bool.not_false, ct1]
  | k + 1, i, hi, hn => by
    have h1 : (i : Int) < (l.length : Int) := by omega
    have h2 : (i : Int) < (m.length : Int) := by omega
    have h0 : 0 ≤ (i : Int) := by omega
    have g1 : i < l.length := by omega
    have g2 : i < m.length := by omega
    have hw : IntKind.i64.wrap ((i : Int) + 1) = ((i + 1 : Nat) : Int) := by
      unfold reachBytes at h12
      rw [wr (by omega)]; omega
    refine orc_of ?_
    rw [e6n7]
    by_cases a1 : (sat m i).lo < (sat l i).lo
    · simp only [gd1, hd1, tl1, dr0, dr1, dr2, dr3, dr4, dr5, dr6, bo1, in1, st1, ls1, le1, pt1, fi1, fb1, fs1, ct1, cf1, nt1, nf1, ak0, akT, akF, cdec, cndec, cbeq, cnbeq, ↓reduceIte, beq_self_eq_true, Int.reduceBEq, Int.reduceEq, Bool.and_true, Bool.true_and, Bool.false_and, Bool.and_false, gdF, eSs_len, h1, h2, h0, and_self, eSs_at g1, eSs_at g2, a1, decide_true]
    · by_cases a2 : (sat m i).hi > (sat l i).hi
      · simp only [gd1, hd1, tl1, dr0, dr1, dr2, dr3, dr4, dr5, dr6, bo1, in1, st1, ls1, le1, pt1, fi1, fb1, fs1, ct1, cf1, nt1, nf1, ak0, akT, akF, cdec, cndec, cbeq, cnbeq, ↓reduceIte, beq_self_eq_true, Int.reduceBEq, Int.reduceEq, Bool.and_true, Bool.true_and, Bool.false_and, Bool.and_false, eSs_len, h1, h2, h0, and_self, eSs_at g1, eSs_at g2, a1, a2, decide_false, decide_true]
      · have := n6 rows l m r e e2 e3 hr he he3 hl hb h12 k (i + 1) (by omega) (fun j hj => by
          by_cases e : j = i
          · subst e; omega
          · exact hn j (by omega))
        simp only [gd1, hd1, tl1, dr0, dr1, dr2, dr3, dr4, dr5, dr6, bo1, in1, st1, ls1, le1, pt1, fi1, fb1, fs1, ct1, cf1, nt1, nf1, ak0, akT, akF, cdec, cndec, cbeq, cnbeq, ↓reduceIte, beq_self_eq_true, Int.reduceBEq, Int.reduceEq, Bool.and_true, Bool.true_and, Bool.false_and, Bool.and_false, eSs_len, h1, h2, h0, and_self, eSs_at g1, eSs_at g2, a1, a2, decide_false, hw]
        exact this
theorem law6 (rows : List R) (l m : List S) (r : R) (e e2 e3 : Bool) (hr : ∀ r' ∈ rows ++ [r], r'.e = true → r'.of = []) (he : e2 = true → l = []) (he3 : e3 = true → m = []) (hb : rows.length * 40 ≤ reachBytes) (h12 : l.length * 16 ≤ reachBytes) :
    Or (.call 6) [LR e rows, LS e2 l, LS e3 m, AV.agg [AV.t (T.lst 1 r.e (enc r.of)), I r.kd, I r.tv]] [] = some [tb true] := by
  refine orc_of ?_
  rw [e6]
  by_cases hl : (l.length : Int) = (m.length : Int)
  · have := n6 rows l m r e e2 e3 hr he he3 (by omega) hb h12 l.length 0 (by omega) (fun j hj => absurd hj (by omega))
    simp only [eSs_len]
    simp only [gd1, hd1, tl1, dr0, dr1, dr2, dr3, dr4, dr5, dr6, bo1, in1, st1, ls1, le1, pt1, fi1, fb1, fs1, ct1, cf1, nt1, nf1, ak0, akT, akF, cdec, cndec, cbeq, cnbeq, ↓reduceIte, beq_self_eq_true, Int.reduceBEq, Int.reduceEq, Bool.and_true, Bool.true_and, Bool.false_and, Bool.and_false, s9, Bool.not_true, hl]
    exact this
  · simp only [gd1, hd1, tl1, dr0, dr1, dr2, dr3, dr4, dr5, dr6, bo1, in1, st1, ls1, le1, pt1, fi1, fb1, fs1, ct1, cf1, nt1, nf1, ak0, akT, akF, cdec, cndec, cbeq, cnbeq, ↓reduceIte, beq_self_eq_true, Int.reduceBEq, Int.reduceEq, Bool.and_true, Bool.true_and, Bool.false_and, Bool.and_false, s9, Bool.not_true, eSs_len, hl]

/-! ### Arguments -/
set_option maxRecDepth 1000000 in
theorem int_wt {n : Nat} {ts : List T} (h : Wt PROG (n + 1) 3 ts) : ∃ m : Int, ts = [ti m] := by
  have hu : PROG.underlying 3 = some (.int .i64) := Try.underlying3
  have h3 := @wt_int PROG n 3 ts .i64 hu h
  obtain ⟨m, h2, _⟩ := h3
  exact ⟨m, h2⟩
theorem cells3 : PROG.cellsOf 3 = 1 := by kernel_rfl
theorem cells42 : PROG.cellsOf 42 = 2 := by kernel_rfl
theorem cells45 : PROG.cellsOf 45 = 3 := by kernel_rfl
theorem bytes42 : PROG.bytesOf 42 = 16 := by kernel_rfl
theorem bytes45 : PROG.bytesOf 45 = 40 := by kernel_rfl
set_option maxRecDepth 1000000 in
theorem span_wt {n : Nat} {ts : List T} (h : Wt PROG (n + 2) 42 ts) : ∃ j : S, ts = eS j := by
  have hu := (Try.underlying42 : PROG.underlying 42 = _)
  have h1 := wt_struct hu h
  obtain ⟨a, b, rfl, g1, c, d, rfl, g2, rfl⟩ := h1
  obtain ⟨x, rfl⟩ := int_wt g1
  obtain ⟨y, rfl⟩ := int_wt g2
  exact ⟨⟨x, y⟩, rfl⟩
set_option maxRecDepth 1000000 in
theorem row_wt {n : Nat} {ts : List T} (h : Wt PROG (n + 3) 45 ts) : ∃ j : { r : R // r.e = true → r.of = [] }, ts = eR j.1 := by
  have hu := (Try.underlying45 : PROG.underlying 45 = _)
  have h1 := wt_struct hu h
  obtain ⟨a, b, rfl, g1, c, d, rfl, g2, e, f, rfl, g3, rfl⟩ := h1
  have hu2 := (Try.underlying35 : PROG.underlying 35 = _)
  obtain ⟨b, l, h2, h4, _⟩ := wt_list (fun z : Int => [ti z]) hu2 g1 (fun cs hc => int_wt hc)
  rw [cells3] at h2
  subst h2
  obtain ⟨y, rfl⟩ := int_wt g2
  obtain ⟨z, rfl⟩ := int_wt g3
  exact ⟨⟨⟨b, l, y, z⟩, h4⟩, rfl⟩
set_option maxRecDepth 1000000 in
theorem rows_arg {n : Nat} {a : AV} (h : (isAggT PROG 22 = true ∧ ∃ l, Wt PROG (n + 4) 22 l ∧ a = .agg (l.map .t)) ∨ (isAggT PROG 22 = false ∧ ∃ x, Wt PROG (n + 4) 22 [x] ∧ a = .t x)) : ∃ e l, a = LR e l ∧ (∀ r ∈ l, r.e = true → r.of = []) ∧ l.length * 40 ≤ reachBytes := by
  obtain ⟨x, h1, rfl⟩ := arg_one h (by kernel_rfl)
  have hu := (Try.underlying22 : PROG.underlying 22 = _)
  obtain ⟨b, l, h2, _, _, h5⟩ := wt_listb (fun j : { r : R // r.e = true → r.of = [] } => eR j.1) hu h1 (fun cs hc => row_wt hc)
  rw [cells45] at h2
  rw [bytes45] at h5
  simp only [List.cons.injEq, and_true] at h2
  subst h2
  refine ⟨b, l.map (·.1), ?_, fun r hr => ?_, by simpa using h5⟩
  · simp only [LR, eRs, List.map_map]; rfl
  · obtain ⟨j, _, rfl⟩ := List.mem_map.1 hr
    exact j.2
set_option maxRecDepth 1000000 in
theorem spans_arg {n : Nat} {a : AV} (h : (isAggT PROG 23 = true ∧ ∃ l, Wt PROG (n + 3) 23 l ∧ a = .agg (l.map .t)) ∨ (isAggT PROG 23 = false ∧ ∃ x, Wt PROG (n + 3) 23 [x] ∧ a = .t x)) : ∃ e l, a = LS e l ∧ (e = true → l = []) ∧ l.length * 16 ≤ reachBytes := by
  obtain ⟨x, h1, rfl⟩ := arg_one h (by kernel_rfl)
  have hu := (Try.underlying23 : PROG.underlying 23 = _)
  obtain ⟨b, l, h2, h4, _, h5⟩ := wt_listb eS hu h1 (fun cs hc => span_wt hc)
  rw [cells42] at h2
  rw [bytes42] at h5
  simp only [List.cons.injEq, and_true] at h2
  subst h2
  exact ⟨b, l, rfl, h4, h5⟩
set_option maxRecDepth 1000000 in
theorem row_arg {n : Nat} {a : AV} (h : (isAggT PROG 45 = true ∧ ∃ l, Wt PROG (n + 3) 45 l ∧ a = .agg (l.map .t)) ∨ (isAggT PROG 45 = false ∧ ∃ x, Wt PROG (n + 3) 45 [x] ∧ a = .t x)) : ∃ r : R, a = AV.agg [AV.t (T.lst 1 r.e (enc r.of)), I r.kd, I r.tv] ∧ (r.e = true → r.of = []) := by
  obtain ⟨l, h1, rfl⟩ := arg_agg h (by kernel_rfl)
  obtain ⟨⟨r, hr⟩, rfl⟩ := row_wt h1
  exact ⟨r, rfl, hr⟩
set_option maxRecDepth 1000000 in
theorem claim5 (vs : List AV) (h : ArgWt PROG (19 + 1) Try.f5.params.toList vs) : Or (.call 5) vs [] = some [.bool true] := by
  rw [Try.params5] at h
  obtain ⟨a, _, rfl, h1, b, _, rfl, h2, rfl⟩ := h
  obtain ⟨e, q, rfl, hq, _⟩ := rows_arg h1
  obtain ⟨e', r, rfl, he, _⟩ := spans_arg h2
  exact law5 q r e e' hq he
set_option maxRecDepth 1000000 in
theorem claim6 (vs : List AV) (h : ArgWt PROG (19 + 1) Try.f6.params.toList vs) : Or (.call 6) vs [] = some [.bool true] := by
  rw [Try.params6] at h
  obtain ⟨a, _, rfl, h1, b, _, rfl, h2, c, _, rfl, h3, d, _, rfl, h4, rfl⟩ := h
  obtain ⟨e, q, rfl, hq, hb⟩ := rows_arg h1
  obtain ⟨e', r, rfl, he, h12⟩ := spans_arg h2
  obtain ⟨e3, m, rfl, he3, _⟩ := spans_arg h3
  obtain ⟨w, rfl, hw⟩ := row_arg h4
  exact law6 q r m w e e' e3 (fun r' h' => by
    rcases List.mem_append.1 h' with h' | h'
    · exact hq r' h'
    · simp only [List.mem_singleton] at h'; subst h'; exact hw) he he3 hb h12
end Go.Aev.Gen
