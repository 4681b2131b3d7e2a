/-
  What bounds a number: the document's.
-/
import Derived.Test.YtobpninhnmmpeaaAOutB
set_option linter.unusedSimpArgs false
set_option linter.unusedVariables false
namespace Go.Aev.Gen
open Go Go.Aev

theorem s12 (e : Bool) (l : List Int) (kd tv : Int) (k : Nat) : Or (.call 12) [AV.agg [lst e l, I kd, I tv], I (k : Int)] [] = some [ti (l.getD k 0)] := by
  refine orc_of ?_
  rw [e12]
  by_cases h : k < l.length
  · have h1 : (k : Int) < (l.length : Int) := by omega
    have h0 : 0 ≤ (k : Int) := by omega
    simp only [gd1, hd1, tl1, dr0, dr1, dr2, dr3, dr4, dr5, dr6, bo1, in1, st1, ls1, le1, pt1, fi1, fb1, fs1, ct1, cf1, nt1, nf1, ak0, akT, akF, cdec, cndec, cbeq, cnbeq, ↓reduceIte, beq_self_eq_true, Int.reduceBEq, Int.reduceEq, Bool.and_true, Bool.true_and, Bool.false_and, Bool.and_false, enc_len, h1, h0, and_self, enc_get (getD_get h)]
  · have h1 : ¬ (k : Int) < (l.length : Int) := by omega
    have : l.getD k 0 = 0 := by rw [List.getD_eq_getElem?_getD, List.getElem?_eq_none (by omega)]; rfl
    simp only [gd1, hd1, tl1, dr0, dr1, dr2, dr3, dr4, dr5, dr6, bo1, in1, st1, ls1, le1, pt1, fi1, fb1, fs1, ct1, cf1, nt1, nf1, ak0, akT, akF, cdec, cndec, cbeq, cnbeq, ↓reduceIte, beq_self_eq_true, Int.reduceBEq, Int.reduceEq, Bool.and_true, Bool.true_and, Bool.false_and, Bool.and_false, enc_len, h1, this]
theorem n48 (e : Bool) (of : List Int) (kd tv : Int) (n : Nat) (s kd2 tv2 : Int) (e1 : Bool) (hn : n ≤ 12) (hl : of.length ≤ n) (hb : Bd 1000000 of) (hs : s = -1 ∨ s = 1) : ∀ (rest : List Int) (i : Nat) (done : List Int) (e3 : Bool), (padL n of).drop i = rest → done.length ≤ i →
    ∃ e', Or K48n5 [I (n : Int), I s, r0, AV.ref (Id.c 1) 0, AV.ref (Id.c 2) 0, I (i : Int)] [Blk.box [lst e of, I kd, I tv], Blk.box [AV.t (T.emp e1), I 0, I 0], Blk.box [AV.own (Id.c 3), I kd2, I tv2], Blk.sl false 1 e3 (enc done)] = some [T.lst 1 e' (enc (done ++ rest.map (s * ·))), ti kd2, ti tv2] := by
  intro rest
  have hpl := padL_len hl
  induction rest with
  | nil =>
    intro i done e3 h hd
    have h1 : ¬ (i : Int) < (n : Int) := by have := at_end h; omega
    refine ⟨e3, orc_of ?_⟩
    rw [e48n5]
    simp only [gd1, hd1, tl1, dr0, dr1, dr2, dr3, dr4, dr5, dr6, bo1, in1, st1, ls1, le1, pt1, fi1, fb1, fs1, ct1, cf1, nt1, nf1, ak0, akT, akF, cdec, cndec, cbeq, cnbeq, ↓reduceIte, beq_self_eq_true, Int.reduceBEq, Int.reduceEq, Bool.and_true, Bool.true_and, Bool.false_and, Bool.and_false, h1]
    simp
  | cons x rest ih =>
    intro i done e3 h hd
    obtain ⟨g1, g2, g3⟩ := at_drop h
    have h1 : (i : Int) < (n : Int) := by omega
    have hx := padL_bd (n := n) hb x (List.mem_of_getElem? g1)
    have hv : of.getD i 0 = x := by rw [← padL_at n, List.getD_eq_getElem?_getD, g1]; rfl
    have hsx := sgm hs hx
    have hsm : small 8 (done.length + [[ti (s * x)]].length) = some () := small_ok (by simp; omega)
    have happ : enc done ++ [[ti (s * x)]] = enc (done ++ [s * x]) := by simp [enc]
    obtain ⟨e', k⟩ := ih (i + 1) (done ++ [s * x]) (e3 && false) g3 (by simp; omega)
    refine ⟨e', orc_of ?_⟩
    rw [e48n5]
    rw [Bool.and_false, List.append_assoc, List.singleton_append] at k
    simp only [gd1, hd1, tl1, dr0, dr1, dr2, dr3, dr4, dr5, dr6, bo1, in1, st1, ls1, le1, pt1, fi1, fb1, fs1, ct1, cf1, nt1, nf1, ak0, akT, akF, cdec, cndec, cbeq, cnbeq, ↓reduceIte, beq_self_eq_true, Int.reduceBEq, Int.reduceEq, Bool.and_true, Bool.true_and, Bool.false_and, Bool.and_false, h1, s12, hv, wr (v := s * x) (by omega), enc_len, hsm, happ, next i (by omega)]
    exact k
theorem s48 (r : R) (n : Nat) (s : Int) (hn : n ≤ 12) (ok : OkR n r) (hs : s = -1 ∨ s = 1) :
    ∃ e', Or (.call 48) [AV.agg [lst r.e r.of, I r.kd, I r.tv], I (n : Int), I s] [] = some [T.lst 1 e' (enc ((padL n r.of).map (s * ·))), ti (if r.kd = 3 then 1 else r.kd), ti (s * r.tv)] := by
  have ht := sgm hs ok.tv
  obtain ⟨e', k⟩ := n48 r.e r.of r.kd r.tv n s (if r.kd = 3 then 1 else r.kd) (s * r.tv) true hn ok.len ok.of hs (padL n r.of) 0 [] true rfl (by simp)
  refine ⟨e', orc_of ?_⟩
  rw [e48]
  by_cases h3 : r.kd = 3
  · rw [if_pos h3] at k ⊢
    simp only [gd1, hd1, tl1, dr0, dr1, dr2, dr3, dr4, dr5, dr6, bo1, in1, st1, ls1, le1, pt1, fi1, fb1, fs1, ct1, cf1, nt1, nf1, ak0, akT, akF, cdec, cndec, cbeq, cnbeq, ↓reduceIte, beq_self_eq_true, Int.reduceBEq, Int.reduceEq, Bool.and_true, Bool.true_and, Bool.false_and, Bool.and_false, h3, wr (v := s * r.tv) (by omega)]
    rw [h3] at k
    exact k
  · rw [if_neg h3] at k ⊢
    simp only [gd1, hd1, tl1, dr0, dr1, dr2, dr3, dr4, dr5, dr6, bo1, in1, st1, ls1, le1, pt1, fi1, fb1, fs1, ct1, cf1, nt1, nf1, ak0, akT, akF, cdec, cndec, cbeq, cnbeq, ↓reduceIte, beq_self_eq_true, Int.reduceBEq, Int.reduceEq, Bool.and_true, Bool.true_and, Bool.false_and, Bool.and_false, h3, wr (v := s * r.tv) (by omega)]
    exact k
def sdB (w : Int) (n k i : Nat) (r : R) : List Bn :=
  if w * r.of.getD k 0 > 0 then [⟨true, padL n r.of, r.tv, r.kd == 2, (i : Int)⟩] else if w * r.of.getD k 0 < 0 ∧ r.kd = 3 then [⟨true, negL (padL n r.of), -r.tv, false, (i : Int)⟩] else []
def sds (w : Int) (n k : Nat) : List R → Nat → List Bn
  | [], _ => []
  | r :: rs, i => sdB w n k i r ++ sds w n k rs (i + 1)
theorem sd_up (n k : Nat) : ∀ (rows : List R) (i : Nat), sds 1 n k rows i = ups n k rows i
  | [], _ => rfl
  | r :: rs, i => by
    rw [sds, ups, sd_up n k rs]
    congr 1
    unfold sdB upB
    rw [Int.one_mul]
theorem sd_dn (n k : Nat) : ∀ (rows : List R) (i : Nat), sds (-1) n k rows i = dns n k rows i
  | [], _ => rfl
  | r :: rs, i => by
    rw [sds, dns, sd_dn n k rs]
    congr 1
    unfold sdB dnB
    have e1 : (-1 * r.of.getD k 0 > 0) = (r.of.getD k 0 < 0) := by apply propext; omega
    have e2 : (-1 * r.of.getD k 0 < 0) = (r.of.getD k 0 > 0) := by apply propext; omega
    simp only [e1, e2]
theorem n21 (rows : List R) (e : Bool) (n k : Nat) (w : Int) (hw : w = -1 ∨ w = 1) (hn : n ≤ 12) (hr : ∀ r ∈ rows, OkR n r) (hl : rows.length ≤ 40) : ∀ (rest : List R) (i : Nat) (up : List R) (bs : List Int) (eu ey : Bool), rows.drop i = rest → up.length ≤ i → bs.length ≤ i →
    ∃ up' by' eu' ey', Or K21n4 [LR e rows, I (n : Int), I (k : Int), I w, o0, o1, I (i : Int)] [SR eu up, Blk.sl false 1 ey (enc bs)] = some [T.lst 3 eu' (eRs up'), T.lst 1 ey' (enc by')] ∧
      up'.map toC = up.map toC ++ (sds w n k rest i).map Bn.c ∧ by' = bs ++ (sds w n k rest i).map Bn.frm := by
  intro rest
  induction rest with
  | nil =>
    intro i up bs eu ey h h1 h2
    refine ⟨up, bs, eu, ey, orc_of ?_, by simp [sds], by simp [sds]⟩
    rw [e21n4]
    have h1 : ¬ (i : Int) < (rows.length : Int) := by have := at_end h; omega
    simp only [gd1, hd1, tl1, dr0, dr1, dr2, dr3, dr4, dr5, dr6, bo1, in1, st1, ls1, le1, pt1, fi1, fb1, fs1, ct1, cf1, nt1, nf1, ak0, akT, akF, cdec, cndec, cbeq, cnbeq, ↓reduceIte, beq_self_eq_true, Int.reduceBEq, Int.reduceEq, Bool.and_true, Bool.true_and, Bool.false_and, Bool.and_false, h1, eRs_len]
  | cons r rest ih =>
    intro i up bs eu ey h hu hy
    obtain ⟨g1, g2, g3⟩ := at_drop h
    have h1 : (i : Int) < (rows.length : Int) := by omega
    have h0 : 0 ≤ (i : Int) := by omega
    have ok := hr r (List.mem_of_getElem? g1)
    have hx := at_bd (k := k) ok.of (by omega)
    have hwx := sgm hw hx
    have hsa : ∀ q : R, small 40 (up.length + [eR q].length) = some () := fun q => small_ok (by simp; omega)
    have hsb : small 8 (bs.length + [[ti (i : Int)]].length) = some () := small_ok (by simp; omega)
    have hb : enc bs ++ [[ti (i : Int)]] = enc (bs ++ [(i : Int)]) := by simp [enc]
    by_cases hp : w * r.of.getD k 0 > 0
    · obtain ⟨e', k1⟩ := s48 r n 1 hn ok (by omega)
      have hm : (padL n r.of).map ((1 : Int) * ·) = padL n r.of := by
        have : ((1 : Int) * ·) = (fun x : Int => x) := by funext x; exact Int.one_mul x
        rw [this, List.map_id']
      rw [hm, Int.one_mul] at k1
      have hnl : ¬ w * r.of.getD k 0 < 0 := by omega
      have hq : eRs up ++ [[T.lst 1 e' (enc (padL n r.of)), ti (if r.kd = 3 then 1 else r.kd), ti r.tv]] = eRs (up ++ [⟨e', padL n r.of, if r.kd = 3 then 1 else r.kd, r.tv⟩]) := by simp [eRs, eR]
      have hs1 := hsa ⟨e', padL n r.of, if r.kd = 3 then 1 else r.kd, r.tv⟩
      unfold eR at hs1
      obtain ⟨up', by', eu', ey', m1, m2, m3⟩ := ih (i + 1) (up ++ [⟨e', padL n r.of, if r.kd = 3 then 1 else r.kd, r.tv⟩]) (bs ++ [(i : Int)]) (eu && false) (ey && false) g3 (by simp; omega) (by simp; omega)
      rw [Bool.and_false, Bool.and_false] at m1
      refine ⟨up', by', eu', ey', orc_of ?_, ?_, ?_⟩
      · rw [e21n4]
        have h1k : ((padL n r.of).map ((1 : Int) * ·)) = padL n r.of := hm
        simp only [gd1, hd1, tl1, dr0, dr1, dr2, dr3, dr4, dr5, dr6, bo1, in1, st1, ls1, le1, pt1, fi1, fb1, fs1, ct1, cf1, nt1, nf1, ak0, akT, akF, cdec, cndec, cbeq, cnbeq, ↓reduceIte, beq_self_eq_true, Int.reduceBEq, Int.reduceEq, Bool.and_true, Bool.true_and, Bool.false_and, Bool.and_false, gdF, h1, h0, and_self, eRs_len, eRs_get g1, s12, wr (v := w * r.of.getD k 0) (by omega), hp, hnl, decide_false, decide_true, k1, hs1, enc_len, hsb, hq, hb, next i (by omega)]
        exact m1
      · rw [m2, sds]
        simp only [sdB, if_pos hp]
        simp only [List.map_append, List.map_cons, List.map_nil, List.append_assoc, List.singleton_append, Bn.c, toC]
        congr 3
        rcases ok.kd with h | h | h <;> simp [h]
      · rw [m3, sds]
        simp only [sdB, if_pos hp]
        simp
    · by_cases hz : w * r.of.getD k 0 < 0 ∧ r.kd = 3
      · obtain ⟨e', k1⟩ := s48 r n (-1) hn ok (by omega)
        have hm : (padL n r.of).map ((-1 : Int) * ·) = negL (padL n r.of) := by
          unfold negL; congr 1; funext x; omega
        have hm2 : -1 * r.tv = -r.tv := by omega
        rw [hm, hm2, if_pos hz.2] at k1
        have hq : eRs up ++ [[T.lst 1 e' (enc (negL (padL n r.of))), ti 1, ti (-r.tv)]] = eRs (up ++ [⟨e', negL (padL n r.of), 1, -r.tv⟩]) := by simp [eRs, eR]
        have hs1 := hsa ⟨e', negL (padL n r.of), 1, -r.tv⟩
        unfold eR at hs1
        obtain ⟨up', by', eu', ey', m1, m2, m3⟩ := ih (i + 1) (up ++ [⟨e', negL (padL n r.of), 1, -r.tv⟩]) (bs ++ [(i : Int)]) (eu && false) (ey && false) g3 (by simp; omega) (by simp; omega)
        rw [Bool.and_false, Bool.and_false] at m1
        have h3' := hz.2
        rw [h3'] at k1
        refine ⟨up', by', eu', ey', orc_of ?_, ?_, ?_⟩
        · rw [e21n4]
          simp only [gd1, hd1, tl1, dr0, dr1, dr2, dr3, dr4, dr5, dr6, bo1, in1, st1, ls1, le1, pt1, fi1, fb1, fs1, ct1, cf1, nt1, nf1, ak0, akT, akF, cdec, cndec, cbeq, cnbeq, ↓reduceIte, beq_self_eq_true, Int.reduceBEq, Int.reduceEq, Bool.and_true, Bool.true_and, Bool.false_and, Bool.and_false, h1, h0, and_self, eRs_len, eRs_get g1, s12, wr (v := w * r.of.getD k 0) (by omega), hp, hz.1, h3', decide_false, decide_true, k1, hs1, enc_len, hsb, hq, hb, next i (by omega)]
          exact m1
        · rw [m2, sds]
          simp only [sdB, if_neg hp, if_pos hz]
          simp [Bn.c]
        · rw [m3, sds]
          simp only [sdB, if_neg hp, if_pos hz]
          simp
      · obtain ⟨up', by', eu', ey', m1, m2, m3⟩ := ih (i + 1) up bs eu ey g3 (by omega) (by omega)
        refine ⟨up', by', eu', ey', orc_of ?_, ?_, ?_⟩
        · rw [e21n4]
          by_cases hlt : w * r.of.getD k 0 < 0
          · have h3 : ¬ r.kd = 3 := fun h => hz ⟨hlt, h⟩
            simp only [gd1, hd1, tl1, dr0, dr1, dr2, dr3, dr4, dr5, dr6, bo1, in1, st1, ls1, le1, pt1, fi1, fb1, fs1, ct1, cf1, nt1, nf1, ak0, akT, akF, cdec, cndec, cbeq, cnbeq, ↓reduceIte, beq_self_eq_true, Int.reduceBEq, Int.reduceEq, Bool.and_true, Bool.true_and, Bool.false_and, Bool.and_false, h1, h0, and_self, eRs_len, eRs_get g1, s12, wr (v := w * r.of.getD k 0) (by omega), hp, hlt, h3, decide_false, decide_true, next i (by omega)]
            exact m1
          · simp only [gd1, hd1, tl1, dr0, dr1, dr2, dr3, dr4, dr5, dr6, bo1, in1, st1, ls1, le1, pt1, fi1, fb1, fs1, ct1, cf1, nt1, nf1, ak0, akT, akF, cdec, cndec, cbeq, cnbeq, ↓reduceIte, beq_self_eq_true, Int.reduceBEq, Int.reduceEq, Bool.and_true, Bool.true_and, Bool.false_and, Bool.and_false, gdF, h1, h0, and_self, eRs_len, eRs_get g1, s12, wr (v := w * r.of.getD k 0) (by omega), hp, hlt, decide_false, next i (by omega)]
            exact m1
        · rw [m2, sds]
          simp only [sdB, if_neg hp, if_neg hz]
          simp
        · rw [m3, sds]
          simp only [sdB, if_neg hp, if_neg hz]
          simp
theorem s21 (rows : List R) (e : Bool) (n k : Nat) (w : Int) (hw : w = -1 ∨ w = 1) (hn : n ≤ 12) (hr : ∀ r ∈ rows, OkR n r) (hl : rows.length ≤ 40) :
    ∃ up eu ey, Or (.call 21) [LR e rows, I (n : Int), I (k : Int), I w] [] = some [T.lst 3 eu (eRs up), T.lst 1 ey (enc ((sds w n k rows 0).map Bn.frm))] ∧ up.map toC = (sds w n k rows 0).map Bn.c := by
  obtain ⟨up, bs, eu, ey, k1, k2, k3⟩ := n21 rows e n k w hw hn hr hl rows 0 [] [] true true rfl (by simp) (by simp)
  simp only [List.nil_append, List.map_nil] at k2 k3
  subst k3
  refine ⟨up, eu, ey, orc_of ?_, k2⟩
  rw [e21]
  exact k1
end Go.Aev.Gen
