/-
  Out: the program's, the rows together.
-/
import Derived.Test.YtobpninhnmmpeaaGreatZOut
set_option linter.unusedSimpArgs false
set_option linter.unusedVariables false
namespace Go.Aev.Gen
open Go Go.Aev

def Ans (o : Option (List T)) (m : Int × List C) : Prop := ∃ x e rs, o = some [x, ti m.1, ti 0] ∧ x.lst? 3 = some (e, eRs rs) ∧ rs.map toC = m.2
theorem ans_of {k : Key} {vs : List AV} {bs : List Blk} {m : Int × List C} (h : Ans (stepO PROG ann Or k vs bs) m) : Ans (Or k vs bs) m := by
  obtain ⟨x, e, rs, h1, h2, h3⟩ := h
  exact ⟨x, e, rs, orc_of h1, h2, h3⟩
theorem ans_lst {e : Bool} {rs : List R} {m : Int × List C} (h : (0, rs.map toC) = m) : Ans (some [T.lst 3 e (eRs rs), ti 0, ti 0]) m := by
  subst h; exact ⟨_, e, rs, rfl, ls1 _ _ _, rfl⟩
theorem ans_emp {c : Int} {m : Int × List C} (h : (c, []) = m) : Ans (some [T.emp true, ti c, ti 0]) m := by
  subst h; exact ⟨_, true, [], rfl, le1 _ _, rfl⟩
/-- The same, and the rows' lists are nil only where they are empty. -/
def EOk (l : List R) : Prop := ∀ r ∈ l, r.e = true → r.of = []
theorem eok_nil : EOk [] := fun r h => by cases h
theorem eok_app {l : List R} {r : R} (h : EOk l) (h' : r.e = true → r.of = []) : EOk (l ++ [r]) := by
  intro q hq
  rcases List.mem_append.1 hq with hq | hq
  · exact h q hq
  · rw [List.mem_singleton.1 hq]; exact h'
def AnsE (o : Option (List T)) (m : Int × List C) : Prop := ∃ x e rs, o = some [x, ti m.1, ti 0] ∧ x.lst? 3 = some (e, eRs rs) ∧ rs.map toC = m.2 ∧ EOk rs
theorem ansE_of {k : Key} {vs : List AV} {bs : List Blk} {m : Int × List C} (h : AnsE (stepO PROG ann Or k vs bs) m) : AnsE (Or k vs bs) m := by
  obtain ⟨x, e, rs, h1, h2, h3, h4⟩ := h
  exact ⟨x, e, rs, orc_of h1, h2, h3, h4⟩
theorem ansE_lst {e : Bool} {rs : List R} {m : Int × List C} (h : (0, rs.map toC) = m) (h4 : EOk rs) : AnsE (some [T.lst 3 e (eRs rs), ti 0, ti 0]) m := by
  subst h; exact ⟨_, e, rs, rfl, ls1 _ _ _, rfl, h4⟩
theorem ansE_emp {c : Int} {m : Int × List C} (h : (c, []) = m) : AnsE (some [T.emp true, ti c, ti 0]) m := by
  subst h; exact ⟨_, true, [], rfl, le1 _ _, rfl, eok_nil⟩
abbrev AB (e : Bool) (l : List Bn) : AV := AV.t (T.lst 4 e (eBs l))
abbrev bF : Blk := Blk.box [I 0, I 0]
abbrev SR (e : Bool) (l : List R) : Blk := Blk.sl false 3 e (eRs l)
theorem n617 (n k : Nat) (hn : n ≤ 12) (hk : k < n) (hs ls : List Bn) (eh el : Bool) (a : Bn) (i : Nat) (ha : Up n k a) (hls : ∀ b ∈ ls, Dn n k b) (hll : ls.length ≤ 40) (M : Int × List C) :
    ∀ (rest : List Bn) (j : Nat) (acc : List R) (ea : Bool), ls.drop j = rest → acc.length ≤ 40 → i ≤ 40 → EOk acc →
    (∀ acc' ea', innF k a rest (acc.map toC) = (0, acc'.map toC) → acc'.length ≤ 40 → EOk acc' → AnsE (Or K6n14 [I (k : Int), r0, o1, AB el ls, AB eh hs, I (hs.length : Int), I ((i + 1 : Nat) : Int)] [bF, SR ea' acc']) M) →
    ((innF k a rest (acc.map toC)).1 ≠ 0 → M = innF k a rest (acc.map toC)) →
    AnsE (Or K6n17 [I (k : Int), r0, o1, AB el ls, AV.ref (Id.c 2) 0, AB eh hs, I (hs.length : Int), I (i : Int), AB el ls, I (ls.length : Int), I (j : Int)] [bF, SR ea acc, Blk.box [lst a.e a.of, I a.to, B a.less, I a.frm]]) M := by
  intro rest
  induction rest with
  | nil =>
    intro j acc ea h hl hi he hnext hbad
    have h1 : ¬ (j : Int) < (ls.length : Int) := by have := at_end h; omega
    refine ansE_of ?_
    rw [e6n17]
    simp only [gd1, hd1, tl1, dr0, dr1, dr2, dr3, dr4, dr5, dr6, bo1, in1, st1, ls1, le1, pt1, fi1, fb1, fs1, ct1, cf1, nt1, nf1, ak0, akT, akF, cdec, cndec, cbeq, cnbeq, ↓reduceIte, beq_self_eq_true, Int.reduceBEq, Int.reduceEq, Bool.and_true, Bool.true_and, Bool.false_and, Bool.and_false, h1, next i (by omega)]
    exact hnext acc ea rfl hl he
  | cons b rest ih =>
    intro j acc ea h hl hi he hnext hbad
    obtain ⟨g1, g2, g3⟩ := at_drop h
    have h1 : (j : Int) < (ls.length : Int) := by omega
    have h0 : 0 ≤ (j : Int) := by omega
    have hb := hls b (List.mem_of_getElem? g1)
    rw [innF] at hnext hbad
    by_cases hf : a.frm = b.frm
    · rw [if_pos hf] at hnext hbad
      have := ih (j + 1) acc ea g3 hl hi he hnext hbad
      refine ansE_of ?_
      rw [e6n17]
      simp only [gd1, hd1, tl1, dr0, dr1, dr2, dr3, dr4, dr5, dr6, bo1, in1, st1, ls1, le1, pt1, fi1, fb1, fs1, ct1, cf1, nt1, nf1, ak0, akT, akF, cdec, cndec, cbeq, cnbeq, ↓reduceIte, beq_self_eq_true, Int.reduceBEq, Int.reduceEq, Bool.and_true, Bool.true_and, Bool.false_and, Bool.and_false, h1, h0, and_self, eBs_len, eBs_get g1, hf, next j (by omega)]
      rw [hf] at this
      exact this
    · rw [if_neg hf] at hnext hbad
      obtain ⟨e', k1e, k1⟩ := s18 a b n k hn hk ha hb
      by_cases ho : cOk a b k = false
      · rw [if_pos ho] at hbad
        refine ansE_of ?_
        rw [e6n17]
        simp only [gd1, hd1, tl1, dr0, dr1, dr2, dr3, dr4, dr5, dr6, bo1, in1, st1, ls1, le1, pt1, fi1, fb1, fs1, ct1, cf1, nt1, nf1, ak0, akT, akF, cdec, cndec, cbeq, cnbeq, ↓reduceIte, beq_self_eq_true, Int.reduceBEq, Int.reduceEq, Bool.and_true, Bool.true_and, Bool.false_and, Bool.and_false, h1, h0, and_self, eBs_len, eBs_get g1, hf, k1, ho]
        exact ansE_emp (hbad (by simp)).symm
      · rw [if_neg ho] at hnext hbad
        have ho' : cOk a b k = true := by simpa using ho
        have hsm : small 40 (acc.length + [eR ⟨e', (cC a b k).1, (cC a b k).2.1, (cC a b k).2.2⟩].length) = some () := small_ok (by simp; omega)
        have happ : eRs acc ++ [eR ⟨e', (cC a b k).1, (cC a b k).2.1, (cC a b k).2.2⟩] = eRs (acc ++ [⟨e', (cC a b k).1, (cC a b k).2.1, (cC a b k).2.2⟩]) := by simp [eRs]
        have hlen : ((acc ++ [⟨e', (cC a b k).1, (cC a b k).2.1, (cC a b k).2.2⟩] : List R).length : Int) = (acc.length : Int) + 1 := by simp
        unfold eR at hsm happ
        rw [List.length_map] at hnext hbad
        by_cases hc : acc.length + 1 > 40
        · rw [if_pos hc] at hbad
          have hc' : (acc.length : Int) + 1 > 40 := by omega
          refine ansE_of ?_
          rw [e6n17]
          simp only [gd1, hd1, tl1, dr0, dr1, dr2, dr3, dr4, dr5, dr6, bo1, in1, st1, ls1, le1, pt1, fi1, fb1, fs1, ct1, cf1, nt1, nf1, ak0, akT, akF, cdec, cndec, cbeq, cnbeq, ↓reduceIte, beq_self_eq_true, Int.reduceBEq, Int.reduceEq, Bool.and_true, Bool.true_and, Bool.false_and, Bool.and_false, h1, h0, and_self, eBs_len, eBs_get g1, hf, k1, ho', hsm, happ, eRs_len, hlen, hc']
          exact ansE_emp (hbad (by simp)).symm
        · rw [if_neg hc] at hnext hbad
          have hc' : ¬ (acc.length : Int) + 1 > 40 := by omega
          have hmap : (acc ++ [⟨e', (cC a b k).1, (cC a b k).2.1, (cC a b k).2.2⟩] : List R).map toC = acc.map toC ++ [cC a b k] := by simp
          have := ih (j + 1) (acc ++ [⟨e', (cC a b k).1, (cC a b k).2.1, (cC a b k).2.2⟩]) (ea && false) g3 (by simp; omega) hi (eok_app he k1e) (by rw [hmap]; exact hnext) (by rw [hmap]; exact hbad)
          rw [Bool.and_false] at this
          refine ansE_of ?_
          rw [e6n17]
          simp only [gd1, hd1, tl1, dr0, dr1, dr2, dr3, dr4, dr5, dr6, bo1, in1, st1, ls1, le1, pt1, fi1, fb1, fs1, ct1, cf1, nt1, nf1, ak0, akT, akF, cdec, cndec, cbeq, cnbeq, ↓reduceIte, beq_self_eq_true, Int.reduceBEq, Int.reduceEq, Bool.and_true, Bool.true_and, Bool.false_and, Bool.and_false, h1, h0, and_self, eBs_len, eBs_get g1, hf, k1, ho', hsm, happ, eRs_len, hlen, hc', next j (by omega)]
          exact this
theorem inn_len (k : Nat) (a : Bn) : ∀ (rest : List Bn) (acc : List C), acc.length ≤ 40 → (innF k a rest acc).2.length ≤ 40
  | [], _, h => h
  | b :: rest, acc, h => by
    rw [innF]
    split
    · exact inn_len k a rest acc h
    · split
      · simp
      · split
        · simp
        · exact inn_len k a rest _ (by simp; omega)
theorem n614 (n k : Nat) (hn : n ≤ 12) (hk : k < n) (hs ls : List Bn) (eh el : Bool) (hhs : ∀ b ∈ hs, Up n k b) (hls : ∀ b ∈ ls, Dn n k b) (hhl : hs.length ≤ 40) (hll : ls.length ≤ 40) :
    ∀ (rest : List Bn) (i : Nat) (acc : List R) (ea : Bool), hs.drop i = rest → acc.length ≤ 40 → EOk acc →
    AnsE (Or K6n14 [I (k : Int), r0, o1, AB el ls, AB eh hs, I (hs.length : Int), I (i : Int)] [bF, SR ea acc]) (outF k ls rest (acc.map toC)) := by
  intro rest
  induction rest with
  | nil =>
    intro i acc ea h hl he
    have h1 : ¬ (i : Int) < (hs.length : Int) := by have := at_end h; omega
    refine ansE_of ?_
    rw [e6n14]
    simp only [gd1, hd1, tl1, dr0, dr1, dr2, dr3, dr4, dr5, dr6, bo1, in1, st1, ls1, le1, pt1, fi1, fb1, fs1, ct1, cf1, nt1, nf1, ak0, akT, akF, cdec, cndec, cbeq, cnbeq, ↓reduceIte, beq_self_eq_true, Int.reduceBEq, Int.reduceEq, Bool.and_true, Bool.true_and, Bool.false_and, Bool.and_false, h1]
    exact ansE_lst rfl he
  | cons a rest ih =>
    intro i acc ea h hl he
    obtain ⟨g1, g2, g3⟩ := at_drop h
    have h1 : (i : Int) < (hs.length : Int) := by omega
    have h0 : 0 ≤ (i : Int) := by omega
    have ha := hhs a (List.mem_of_getElem? g1)
    have := n617 n k hn hk hs ls eh el a i ha hls hll (outF k ls (a :: rest) (acc.map toC)) ls 0 acc ea rfl hl (by omega) he (by
      intro acc' ea' he hl' hE
      have := ih (i + 1) acc' ea' g3 hl' hE
      rw [outF, he]
      exact this) (by
      intro hne
      rw [outF, if_neg hne])
    refine ansE_of ?_
    rw [e6n14]
    simp only [gd1, hd1, tl1, dr0, dr1, dr2, dr3, dr4, dr5, dr6, bo1, in1, st1, ls1, le1, pt1, fi1, fb1, fs1, ct1, cf1, nt1, nf1, ak0, akT, akF, cdec, cndec, cbeq, cnbeq, ↓reduceIte, beq_self_eq_true, Int.reduceBEq, Int.reduceEq, Bool.and_true, Bool.true_and, Bool.false_and, Bool.and_false, h1, h0, and_self, eBs_len, eBs_get g1]
    exact this
theorem n66 (rows : List R) (e : Bool) (n k : Nat) (hn : n ≤ 12) (hk : k < n) (hr : ∀ r ∈ rows, OkR n r) (hc : ∀ r ∈ rows, (chkR 12 r).1 = 0) (hl : rows.length ≤ 40) (M : Int × List C)
    (hend : ∀ (acc : List R) (ea : Bool), acc.map toC = firsts k rows → acc.length ≤ 40 → EOk acc → AnsE (Or K6n6 [LR e rows, I (n : Int), I (k : Int), r0, o1, LR e rows, I (rows.length : Int), I (rows.length : Int)] [bF, SR ea acc]) M) :
    ∀ (rest : List R) (i : Nat) (acc : List R) (ea : Bool), rows.drop i = rest → i ≤ rows.length → acc.length ≤ i → acc.map toC ++ firsts k rest = firsts k rows → EOk acc →
    AnsE (Or K6n6 [LR e rows, I (n : Int), I (k : Int), r0, o1, LR e rows, I (rows.length : Int), I (i : Int)] [bF, SR ea acc]) M := by
  intro rest
  induction rest with
  | nil =>
    intro i acc ea h hi hla hf he
    have hle := at_end h
    obtain rfl : i = rows.length := by omega
    exact hend acc ea (by simpa [firsts] using hf) (by omega) he
  | cons r rest ih =>
    intro i acc ea h hi hla hf he
    obtain ⟨g1, g2, g3⟩ := at_drop h
    have h1 : (i : Int) < (rows.length : Int) := by omega
    have h0 : 0 ≤ (i : Int) := by omega
    have hmem := List.mem_of_getElem? g1
    have ok := hr r hmem
    obtain ⟨e', k1e, k1⟩ := s16 r ok.e (hc r hmem) ok.of ok.tv (by have := ok.len; omega)
    have hsm : small 40 (acc.length + [eR ⟨e', (tidyF r.of r.kd r.tv).1, r.kd, (tidyF r.of r.kd r.tv).2⟩].length) = some () := small_ok (by simp; omega)
    have happ : eRs acc ++ [eR ⟨e', (tidyF r.of r.kd r.tv).1, r.kd, (tidyF r.of r.kd r.tv).2⟩] = eRs (acc ++ [⟨e', (tidyF r.of r.kd r.tv).1, r.kd, (tidyF r.of r.kd r.tv).2⟩]) := by simp [eRs]
    unfold eR at hsm happ
    rw [firsts] at hf
    by_cases hz : r.of.getD k 0 = 0
    · rw [if_pos hz] at hf
      have := ih (i + 1) (acc ++ [⟨e', (tidyF r.of r.kd r.tv).1, r.kd, (tidyF r.of r.kd r.tv).2⟩]) (ea && false) g3 (by omega) (by simp; omega) (by
        rw [← hf]; simp [tidyC]) (eok_app he k1e)
      rw [Bool.and_false] at this
      refine ansE_of ?_
      rw [e6n6]
      by_cases hkl : k < r.of.length
      · have c1 : ¬ (k : Int) ≥ (r.of.length : Int) := by omega
        have c2 : 0 ≤ (k : Int) ∧ (k : Int) < (r.of.length : Int) := by omega
        have hg := enc_get (getD_get hkl)
        rw [hz] at hg
        simp only [gd1, hd1, tl1, dr0, dr1, dr2, dr3, dr4, dr5, dr6, bo1, in1, st1, ls1, le1, pt1, fi1, fb1, fs1, ct1, cf1, nt1, nf1, ak0, akT, akF, cdec, cndec, cbeq, cnbeq, ↓reduceIte, beq_self_eq_true, Int.reduceBEq, Int.reduceEq, Bool.and_true, Bool.true_and, Bool.false_and, Bool.and_false, h1, h0, and_self, eRs_len, eRs_get g1, enc_len, c1, c2, hg, decide_false, k1, hsm, happ, next i (by omega)]
        exact this
      · have c1 : (k : Int) ≥ (r.of.length : Int) := by omega
        simp only [gd1, hd1, tl1, dr0, dr1, dr2, dr3, dr4, dr5, dr6, bo1, in1, st1, ls1, le1, pt1, fi1, fb1, fs1, ct1, cf1, nt1, nf1, ak0, akT, akF, cdec, cndec, cbeq, cnbeq, ↓reduceIte, beq_self_eq_true, Int.reduceBEq, Int.reduceEq, Bool.and_true, Bool.true_and, Bool.false_and, Bool.and_false, gdF, h1, h0, and_self, eRs_len, eRs_get g1, enc_len, c1, decide_true, k1, hsm, happ, next i (by omega)]
        exact this
    · rw [if_neg hz] at hf
      have := ih (i + 1) acc ea g3 (by omega) (by omega) hf he
      have hkl : k < r.of.length := by
        rcases Nat.lt_or_ge k r.of.length with h | h
        · exact h
        · exfalso; apply hz; rw [List.getD_eq_getElem?_getD, List.getElem?_eq_none h]; rfl
      have c1 : ¬ (k : Int) ≥ (r.of.length : Int) := by omega
      have c2 : 0 ≤ (k : Int) ∧ (k : Int) < (r.of.length : Int) := by omega
      have hg := enc_get (getD_get hkl)
      refine ansE_of ?_
      rw [e6n6]
      simp only [gd1, hd1, tl1, dr0, dr1, dr2, dr3, dr4, dr5, dr6, bo1, in1, st1, ls1, le1, pt1, fi1, fb1, fs1, ct1, cf1, nt1, nf1, ak0, akT, akF, cdec, cndec, cbeq, cnbeq, ↓reduceIte, beq_self_eq_true, Int.reduceBEq, Int.reduceEq, Bool.and_true, Bool.true_and, Bool.false_and, Bool.and_false, h1, h0, and_self, eRs_len, eRs_get g1, enc_len, c1, c2, hg, decide_false, hz, next i (by omega)]
      exact this
theorem inn_s (k : Nat) (a : Bn) : ∀ (ls : List Bn) (acc : List C), innF k a.s (ls.map Bn.s) acc = innF k a ls acc
  | [], _ => rfl
  | b :: ls, acc => by
    rw [List.map_cons, innF, innF, inn_s k a ls, inn_s k a ls]
    rfl
theorem out_s (k : Nat) (ls : List Bn) : ∀ (hs : List Bn) (acc : List C), outF k (ls.map Bn.s) (hs.map Bn.s) acc = outF k ls hs acc
  | [], _ => rfl
  | a :: hs, acc => by
    rw [List.map_cons, outF, outF, inn_s, out_s k ls hs]
/-- What is left without a number. -/
def awayF (n k : Nat) (rows : List R) : Int × List C := outF k (dns n k rows 0) (ups n k rows 0) (firsts k rows)
theorem upB_len (n k i : Nat) (r : R) : (upB n k i r).length ≤ 1 := by unfold upB; split <;> (try split) <;> simp
theorem dnB_len (n k i : Nat) (r : R) : (dnB n k i r).length ≤ 1 := by unfold dnB; split <;> (try split) <;> simp
theorem ups_len (n k : Nat) : ∀ (rows : List R) (i : Nat), (ups n k rows i).length ≤ rows.length
  | [], _ => by simp [ups]
  | r :: rs, i => by have := upB_len n k i r; have := ups_len n k rs (i + 1); rw [ups, List.length_append, List.length_cons]; omega
theorem dns_len (n k : Nat) : ∀ (rows : List R) (i : Nat), (dns n k rows i).length ≤ rows.length
  | [], _ => by simp [dns]
  | r :: rs, i => by have := dnB_len n k i r; have := dns_len n k rs (i + 1); rw [dns, List.length_append, List.length_cons]; omega
theorem negL_bd {b : Int} {l : List Int} (h : Bd b l) : Bd b (negL l) := by
  intro x hx
  obtain ⟨y, hy, rfl⟩ := List.mem_map.1 hx
  have := h y hy
  omega
theorem up_ok {n k : Nat} (hk : k < n) : ∀ (rows : List R) (i : Nat), (∀ r ∈ rows, OkR n r) → ∀ b ∈ ups n k rows i, Up n k b
  | [], _, _, b, hb => by simp [ups] at hb
  | r :: rs, i, h, b, hb => by
    rw [ups] at hb
    rcases List.mem_append.1 hb with hb | hb
    · have ok := h r List.mem_cons_self
      have hpl := padL_len ok.len
      unfold upB at hb
      split at hb
      · rename_i hp
        rw [List.mem_singleton] at hb; subst hb
        exact ⟨⟨hpl, padL_bd ok.of, ok.tv⟩, by simpa only [padL_at] using hp⟩
      · split at hb
        · rename_i hp
          rw [List.mem_singleton] at hb; subst hb
          have := ok.tv
          refine ⟨⟨by simpa [negL] using hpl, negL_bd (padL_bd ok.of), by dsimp only; omega⟩, ?_⟩
          simp only [negL_at, padL_at]; omega
        · cases hb
    · exact up_ok hk rs (i + 1) (fun r hr => h r (List.mem_cons_of_mem _ hr)) b hb
theorem dn_ok {n k : Nat} (hk : k < n) : ∀ (rows : List R) (i : Nat), (∀ r ∈ rows, OkR n r) → ∀ b ∈ dns n k rows i, Dn n k b
  | [], _, _, b, hb => by simp [dns] at hb
  | r :: rs, i, h, b, hb => by
    rw [dns] at hb
    rcases List.mem_append.1 hb with hb | hb
    · have ok := h r List.mem_cons_self
      have hpl := padL_len ok.len
      unfold dnB at hb
      split at hb
      · rename_i hp
        rw [List.mem_singleton] at hb; subst hb
        exact ⟨⟨hpl, padL_bd ok.of, ok.tv⟩, by simpa only [padL_at] using hp⟩
      · split at hb
        · rename_i hp
          rw [List.mem_singleton] at hb; subst hb
          have := ok.tv
          refine ⟨⟨by simpa [negL] using hpl, negL_bd (padL_bd ok.of), by dsimp only; omega⟩, ?_⟩
          simp only [negL_at, padL_at]; omega
        · cases hb
    · exact dn_ok hk rs (i + 1) (fun r hr => h r (List.mem_cons_of_mem _ hr)) b hb
theorem s_up {n k : Nat} {b : Bn} (h : Up n k b.s) : Up n k b := ⟨⟨h.len, h.of, h.to⟩, h.at'⟩
theorem s_dn {n k : Nat} {b : Bn} (h : Dn n k b.s) : Dn n k b := ⟨⟨h.len, h.of, h.to⟩, h.at'⟩
theorem n6 (rows : List R) (e : Bool) (n k : Nat) (hn : n ≤ 12) (hk : k < n) (hr : ∀ r ∈ rows, OkR n r) (hc : ∀ r ∈ rows, (chkR 12 r).1 = 0) (hl : rows.length ≤ 40) :
    AnsE (Or K6n6 [LR e rows, I (n : Int), I (k : Int), r0, o1, LR e rows, I (rows.length : Int), I 0] [bF, SR true []]) (awayF n k rows) := by
  refine n66 rows e n k hn hk hr hc hl (awayF n k rows) ?_ rows 0 [] true rfl (by omega) (by simp) (by simp) eok_nil
  intro acc ea ha hla hE
  obtain ⟨hs, ls, eh, el, k1, k2, k3⟩ := s17 rows e n k hn hk hr hl
  have hhs : ∀ b ∈ hs, Up n k b := fun b hb => s_up (up_ok hk rows 0 hr _ (by rw [← k2]; exact List.mem_map_of_mem hb))
  have hls : ∀ b ∈ ls, Dn n k b := fun b hb => s_dn (dn_ok hk rows 0 hr _ (by rw [← k3]; exact List.mem_map_of_mem hb))
  have hhl : hs.length ≤ 40 := by
    have := ups_len n k rows 0
    rw [← k2, List.length_map] at this; omega
  have hll : ls.length ≤ 40 := by
    have := dns_len n k rows 0
    rw [← k3, List.length_map] at this; omega
  have := n614 n k hn hk hs ls eh el hhs hls hhl hll hs 0 acc ea rfl hla hE
  rw [ha, ← out_s, k2, k3] at this
  refine ansE_of ?_
  rw [e6n6]
  have h1 : ¬ (rows.length : Int) < (rows.length : Int) := by omega
  simp only [gd1, hd1, tl1, dr0, dr1, dr2, dr3, dr4, dr5, dr6, bo1, in1, st1, ls1, le1, pt1, fi1, fb1, fs1, ct1, cf1, nt1, nf1, ak0, akT, akF, cdec, cndec, cbeq, cnbeq, ↓reduceIte, beq_self_eq_true, Int.reduceBEq, Int.reduceEq, Bool.and_true, Bool.true_and, Bool.false_and, Bool.and_false, h1, k1, eBs_len]
  exact this
end Go.Aev.Gen
