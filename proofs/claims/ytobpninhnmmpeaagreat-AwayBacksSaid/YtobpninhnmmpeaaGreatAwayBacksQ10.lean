import Derived.Test.YtobpninhnmmpeaaGreatAwayBacksQ9
import Derived.Test.YtobpninhnmmpeaaGreatAwayBacksQ4
import Derived.Test.YtobpninhnmmpeaaGreatAwayBacksQ5
import Derived.Test.YtobpninhnmmpeaaGreatAwayBacksQ8
set_option linter.unusedSimpArgs false
set_option linter.unusedVariables false
namespace Go.Aev.Gen
open Go Go.Aev

abbrev C := List Int × Int × Int
def tidyC (r : R) : C := ((tidyF r.of r.kd r.tv).1, r.kd, (tidyF r.of r.kd r.tv).2)
def firsts (k : Nat) : List R → List C
  | [] => []
  | r :: rs => if r.of.getD k 0 = 0 then tidyC r :: firsts k rs else firsts k rs
structure OkB (n k : Nat) (b : Bn) : Prop where
  len : b.of.length = n
  of : Bd 1000000 b.of
  to : -1000000 ≤ b.to ∧ b.to ≤ 1000000
structure Up (n k : Nat) (b : Bn) : Prop extends OkB n k b where
  at' : b.of.getD k 0 > 0
structure Dn (n k : Nat) (b : Bn) : Prop extends OkB n k b where
  at' : b.of.getD k 0 < 0
theorem at_bd {b : Int} {l : List Int} {k : Nat} (h : Bd b l) (hb : 0 ≤ b) : -b ≤ l.getD k 0 ∧ l.getD k 0 ≤ b := by
  by_cases hk : k < l.length
  · exact h _ (List.mem_of_getElem? (getD_get hk))
  · rw [List.getD_eq_getElem?_getD, List.getElem?_eq_none (by omega)]; simp; omega
open Go Go.Aev

/-- The same, and the rows' lists are nil only where they are empty. -/
def EOk (l : List R) : Prop := ∀ r ∈ l, r.e = true → r.of = []
theorem eok_app {l : List R} {r : R} (h : EOk l) (h' : r.e = true → r.of = []) : EOk (l ++ [r]) := by
  intro q hq
  rcases List.mem_append.1 hq with hq | hq
  · exact h q hq
  · rw [List.mem_singleton.1 hq]; exact h'
def AnsE (o : Option (List T)) (m : Int × List C) : Prop := ∃ x e rs, o = some [x, ti m.1, ti 0] ∧ x.lst? 3 = some (e, eRs rs) ∧ rs.map toC = m.2 ∧ EOk rs
theorem ansE_of {k : Key} {vs : List AV} {bs : List Blk} {m : Int × List C} (h : AnsE (stepO PROG ann Or k vs bs) m) : AnsE (Or k vs bs) m := by
  obtain ⟨x, e, rs, h1, h2, h3, h4⟩ := h
  exact ⟨x, e, rs, orc_of h1, h2, h3, h4⟩
abbrev bF : Blk := Blk.box [I 0, I 0]
abbrev SR (e : Bool) (l : List R) : Blk := Blk.sl false 3 e (eRs l)
theorem n66 (rows : List R) (e : Bool) (n k : Nat) (hn : n ≤ 12) (hk : k < n) (hr : ∀ r ∈ rows, OkR n r) (hc : ∀ r ∈ rows, (chkR 12 r).1 = 0) (hl : rows.length ≤ 40) (M : Int × List C)
    (hend : ∀ (acc : List R) (ea : Bool), acc.map toC = firsts k rows → acc.length ≤ 40 → EOk acc → AnsE (Or K6n6 [LR e rows, I (n : Int), I (k : Int), r0, o1, LR e rows, I (rows.length : Int), I (rows.length : Int)] [bF, SR ea acc]) M) :
    ∀ (rest : List R) (i : Nat) (acc : List R) (ea : Bool), rows.drop i = rest → i ≤ rows.length → acc.length ≤ i → acc.map toC ++ firsts k rest = firsts k rows → EOk acc →
    AnsE (Or K6n6 [LR e rows, I (n : Int), I (k : Int), r0, o1, LR e rows, I (rows.length : Int), I (i : Int)] [bF, SR ea acc]) M := by
  intro rest
  induction rest with
  | nil =>
    intro i acc ea h hi hla hf he
    have hle := at_end h
    obtain rfl : i = rows.length := by omega
    exact hend acc ea (by simpa [firsts] using hf) (by omega) he
  | cons r rest ih =>
    intro i acc ea h hi hla hf he
    obtain ⟨g1, g2, g3⟩ := at_drop h
    have h1 : (i : Int) < (rows.length : Int) := by omega
    have h0 : 0 ≤ (i : Int) := by omega
    have hmem := List.mem_of_getElem? g1
    have ok := hr r hmem
    obtain ⟨e', k1e, k1⟩ := s16 r ok.e (hc r hmem) ok.of ok.tv (by have := ok.len; omega)
    have hsm : small 40 (acc.length + [eR ⟨e', (tidyF r.of r.kd r.tv).1, r.kd, (tidyF r.of r.kd r.tv).2⟩].length) = some () := small_ok (by simp; omega)
    have happ : eRs acc ++ [eR ⟨e', (tidyF r.of r.kd r.tv).1, r.kd, (tidyF r.of r.kd r.tv).2⟩] = eRs (acc ++ [⟨e', (tidyF r.of r.kd r.tv).1, r.kd, (tidyF r.of r.kd r.tv).2⟩]) := by simp [eRs]
    unfold eR at hsm happ
    rw [firsts] at hf
    by_cases hz : r.of.getD k 0 = 0
    · rw [if_pos hz] at hf
      have := ih (i + 1) (acc ++ [⟨e', (tidyF r.of r.kd r.tv).1, r.kd, (tidyF r.of r.kd r.tv).2⟩]) (ea && false) g3 (by omega) (by simp; omega) (by
        rw [← hf]; simp [tidyC]) (eok_app he k1e)
      rw [Bool.and_false] at this
      refine ansE_of ?_
      rw [e6n6]
      by_cases hkl : k < r.of.length
      · have c1 : ¬ (k : Int) ≥ (r.of.length : Int) := by omega
        have c2 : 0 ≤ (k : Int) ∧ (k : Int) < (r.of.length : Int) := by omega
        have hg := enc_get (getD_get hkl)
        rw [hz] at hg
        simp only [gd1, hd1, tl1, dr0, dr1, dr2, dr3, dr4, dr5, dr6, bo1, in1, st1, ls1, le1, pt1, fi1, fb1, fs1, ct1, cf1, nt1, nf1, ak0, akT, akF, cdec, cndec, cbeq, cnbeq, ↓reduceIte, beq_self_eq_true, Int.reduceBEq, Int.reduceEq, Bool.and_true, Bool.true_and, Bool.false_and, Bool.and_false, h1, h0, and_self, eRs_len, eRs_get g1, enc_len, c1, c2, hg, decide_false, k1, hsm, happ, next i (by omega)]
        exact this
      · have c1 : (k : Int) ≥ (r.of.length : Int) := by omega
        simp only [gd1, hd1, tl1, dr0, dr1, dr2, dr3, dr4, dr5, dr6, bo1, in1, st1, ls1, le1, pt1, fi1, fb1, fs1, ct1, cf1, nt1, nf1, ak0, akT, akF, cdec, cndec, cbeq, cnbeq, ↓reduceIte, beq_self_eq_true, Int.reduceBEq, Int.reduceEq, Bool.and_true, Bool.true_and, Bool.false_and, Bool.and_false, gdF, h1, h0, and_self, eRs_len, eRs_get g1, enc_len, c1, decide_true, k1, hsm, happ, next i (by omega)]
        exact this
    · rw [if_neg hz] at hf
      have := ih (i + 1) acc ea g3 (by omega) (by omega) hf he
      have hkl : k < r.of.length := by
        rcases Nat.lt_or_ge k r.of.length with h | h
        · exact h
        · exfalso; apply hz; rw [List.getD_eq_getElem?_getD, List.getElem?_eq_none h]; rfl
      have c1 : ¬ (k : Int) ≥ (r.of.length : Int) := by omega
      have c2 : 0 ≤ (k : Int) ∧ (k : Int) < (r.of.length : Int) := by omega
      have hg := enc_get (getD_get hkl)
      refine ansE_of ?_
      rw [e6n6]
      simp only [gd1, hd1, tl1, dr0, dr1, dr2, dr3, dr4, dr5, dr6, bo1, in1, st1, ls1, le1, pt1, fi1, fb1, fs1, ct1, cf1, nt1, nf1, ak0, akT, akF, cdec, cndec, cbeq, cnbeq, ↓reduceIte, beq_self_eq_true, Int.reduceBEq, Int.reduceEq, Bool.and_true, Bool.true_and, Bool.false_and, Bool.and_false, h1, h0, and_self, eRs_len, eRs_get g1, enc_len, c1, c2, hg, decide_false, hz, next i (by omega)]
      exact this
theorem upB_len (n k i : Nat) (r : R) : (upB n k i r).length ≤ 1 := by unfold upB; split <;> (try split) <;> simp
theorem dnB_len (n k i : Nat) (r : R) : (dnB n k i r).length ≤ 1 := by unfold dnB; split <;> (try split) <;> simp
theorem ups_len (n k : Nat) : ∀ (rows : List R) (i : Nat), (ups n k rows i).length ≤ rows.length
  | [], _ => by simp [ups]
  | r :: rs, i => by have := upB_len n k i r; have := ups_len n k rs (i + 1); rw [ups, List.length_append, List.length_cons]; omega
theorem dns_len (n k : Nat) : ∀ (rows : List R) (i : Nat), (dns n k rows i).length ≤ rows.length
  | [], _ => by simp [dns]
  | r :: rs, i => by have := dnB_len n k i r; have := dns_len n k rs (i + 1); rw [dns, List.length_append, List.length_cons]; omega
theorem negL_bd {b : Int} {l : List Int} (h : Bd b l) : Bd b (negL l) := by
  intro x hx
  obtain ⟨y, hy, rfl⟩ := List.mem_map.1 hx
  have := h y hy
  omega
theorem up_ok {n k : Nat} (hk : k < n) : ∀ (rows : List R) (i : Nat), (∀ r ∈ rows, OkR n r) → ∀ b ∈ ups n k rows i, Up n k b
  | [], _, _, b, hb => by simp [ups] at hb
  | r :: rs, i, h, b, hb => by
    rw [ups] at hb
    rcases List.mem_append.1 hb with hb | hb
    · have ok := h r List.mem_cons_self
      have hpl := padL_len ok.len
      unfold upB at hb
      split at hb
      · rename_i hp
        rw [List.mem_singleton] at hb; subst hb
        exact ⟨⟨hpl, padL_bd ok.of, ok.tv⟩, by simpa only [padL_at] using hp⟩
      · split at hb
        · rename_i hp
          rw [List.mem_singleton] at hb; subst hb
          have := ok.tv
          refine ⟨⟨by simpa [negL] using hpl, negL_bd (padL_bd ok.of), by dsimp only; omega⟩, ?_⟩
          simp only [negL_at, padL_at]; omega
        · cases hb
    · exact up_ok hk rs (i + 1) (fun r hr => h r (List.mem_cons_of_mem _ hr)) b hb
theorem dn_ok {n k : Nat} (hk : k < n) : ∀ (rows : List R) (i : Nat), (∀ r ∈ rows, OkR n r) → ∀ b ∈ dns n k rows i, Dn n k b
  | [], _, _, b, hb => by simp [dns] at hb
  | r :: rs, i, h, b, hb => by
    rw [dns] at hb
    rcases List.mem_append.1 hb with hb | hb
    · have ok := h r List.mem_cons_self
      have hpl := padL_len ok.len
      unfold dnB at hb
      split at hb
      · rename_i hp
        rw [List.mem_singleton] at hb; subst hb
        exact ⟨⟨hpl, padL_bd ok.of, ok.tv⟩, by simpa only [padL_at] using hp⟩
      · split at hb
        · rename_i hp
          rw [List.mem_singleton] at hb; subst hb
          have := ok.tv
          refine ⟨⟨by simpa [negL] using hpl, negL_bd (padL_bd ok.of), by dsimp only; omega⟩, ?_⟩
          simp only [negL_at, padL_at]; omega
        · cases hb
    · exact dn_ok hk rs (i + 1) (fun r hr => h r (List.mem_cons_of_mem _ hr)) b hb
theorem s_up {n k : Nat} {b : Bn} (h : Up n k b.s) : Up n k b := ⟨⟨h.len, h.of, h.to⟩, h.at'⟩
theorem s_dn {n k : Nat} {b : Bn} (h : Dn n k b.s) : Dn n k b := ⟨⟨h.len, h.of, h.to⟩, h.at'⟩
open Go Go.Aev Go.Proofs

theorem chkI_ok : ∀ {l : List Int} {i : Nat}, (chkI l i).1 = 0 → ∀ x ∈ l, -1000000 ≤ x ∧ x ≤ 1000000
  | [], _, _, x, hx => by cases hx
  | y :: l, i, h, x, hx => by
    rw [chkI] at h
    split at h
    · rename_i hy
      rcases List.mem_cons.1 hx with rfl | hx
      · exact hy
      · exact chkI_ok h x hx
    · simp at h
theorem chkR_ok {n : Nat} {r : R} (he : r.e = true → r.of = []) (h : (chkR n r).1 = 0) : OkR n r := by
  unfold chkR at h
  split at h
  · simp at h
  · rename_i hk
    split at h
    · simp at h
    · have := chkI_ok h
      exact ⟨he, by omega, by omega, fun x hx => this x (List.mem_append_left _ hx), this r.tv (by simp)⟩
theorem chkRs_ok {n : Nat} : ∀ {rows : List R} {i : Nat}, (∀ r ∈ rows, r.e = true → r.of = []) → (chkRs n rows i).1 = 0 → ∀ r ∈ rows, OkR n r
  | [], _, _, _, r, hr => by cases hr
  | q :: rows, i, he, h, r, hr => by
    rw [chkRs] at h
    split at h
    · rename_i hq
      rcases List.mem_cons.1 hr with rfl | hr
      · exact chkR_ok (he _ List.mem_cons_self) hq
      · exact chkRs_ok (fun r hr => he r (List.mem_cons_of_mem _ hr)) h r hr
    · rename_i hq; exact absurd h hq
def chkN (n : Int) (rows : List R) : Int × Int := if n < 0 ∨ n > 12 then (3, -1) else chkT n.toNat rows
def chkK (n k : Int) (rows : List R) : Int × Int := if (chkN n rows).1 = 0 then (if k < 0 ∨ k ≥ n then (3, -1) else (0, 0)) else chkN n rows
theorem s25n (rows : List R) (e : Bool) (n : Int) (hr : ∀ r ∈ rows, r.e = true → r.of = []) : Or (.call 42) [LR e rows, I n] [] = fl (chkN n rows) := by
  unfold chkN
  by_cases h : n < 0 ∨ n > 12
  · rw [if_pos h]
    refine orc_of ?_
    rw [e25]
    simp only [cor, ← Bool.decide_or]
    simp only [gd1, hd1, tl1, dr0, dr1, dr2, dr3, dr4, dr5, dr6, bo1, in1, st1, ls1, le1, pt1, fi1, fb1, fs1, ct1, cf1, nt1, nf1, ak0, akT, akF, cdec, cndec, cbeq, cnbeq, ↓reduceIte, beq_self_eq_true, Int.reduceBEq, Int.reduceEq, Bool.and_true, Bool.true_and, Bool.false_and, Bool.and_false, h]
  · rw [if_neg h]
    have := s25x rows n.toNat e (by omega) hr
    rw [Int.toNat_of_nonneg (by omega)] at this
    exact this
theorem s7n (rows : List R) (e : Bool) (n : Int) : Or (.call 7) [LR e rows, I n] [] = fl (chkN n rows) := by
  unfold chkN
  by_cases h : n < 0 ∨ n > 12
  · rw [if_pos h]
    refine orc_of ?_
    rw [e7]
    simp only [cor, ← Bool.decide_or]
    simp only [gd1, hd1, tl1, dr0, dr1, dr2, dr3, dr4, dr5, dr6, bo1, in1, st1, ls1, le1, pt1, fi1, fb1, fs1, ct1, cf1, nt1, nf1, ak0, akT, akF, cdec, cndec, cbeq, cnbeq, ↓reduceIte, beq_self_eq_true, Int.reduceBEq, Int.reduceEq, Bool.and_true, Bool.true_and, Bool.false_and, Bool.and_false, h, s8]
  · rw [if_neg h]
    have := s7x rows n.toNat e (by omega)
    rw [Int.toNat_of_nonneg (by omega)] at this
    exact this
theorem s15 (rows : List R) (e : Bool) (n k : Int) (hr : ∀ r ∈ rows, r.e = true → r.of = []) : Or (.call 15) [LR e rows, I n, I k] [] = fl (chkK n k rows) := by
  have h1 := s25n rows e n hr
  unfold chkK
  by_cases hc : (chkN n rows).1 = 0
  · rw [if_pos hc]
    by_cases hk : k < 0 ∨ k ≥ n
    · rw [if_pos hk]
      refine orc_of ?_
      rw [e15]
      simp only [cor, ← Bool.decide_or]
      simp only [gd1, hd1, tl1, dr0, dr1, dr2, dr3, dr4, dr5, dr6, bo1, in1, st1, ls1, le1, pt1, fi1, fb1, fs1, ct1, cf1, nt1, nf1, ak0, akT, akF, cdec, cndec, cbeq, cnbeq, ↓reduceIte, beq_self_eq_true, Int.reduceBEq, Int.reduceEq, Bool.and_true, Bool.true_and, Bool.false_and, Bool.and_false, h1, hc, hk]
    · rw [if_neg hk]
      refine orc_of ?_
      rw [e15]
      simp only [cor, ← Bool.decide_or]
      simp only [gd1, hd1, tl1, dr0, dr1, dr2, dr3, dr4, dr5, dr6, bo1, in1, st1, ls1, le1, pt1, fi1, fb1, fs1, ct1, cf1, nt1, nf1, ak0, akT, akF, cdec, cndec, cbeq, cnbeq, ↓reduceIte, beq_self_eq_true, Int.reduceBEq, Int.reduceEq, Bool.and_true, Bool.true_and, Bool.false_and, Bool.and_false, h1, hc, hk]
  · rw [if_neg hc]
    refine orc_of ?_
    rw [e15]
    simp only [gd1, hd1, tl1, dr0, dr1, dr2, dr3, dr4, dr5, dr6, bo1, in1, st1, ls1, le1, pt1, fi1, fb1, fs1, ct1, cf1, nt1, nf1, ak0, akT, akF, cdec, cndec, cbeq, cnbeq, ↓reduceIte, beq_self_eq_true, Int.reduceBEq, Int.reduceEq, Bool.and_true, Bool.true_and, Bool.false_and, Bool.and_false, h1, hc]
theorem chkN_ok {n : Int} {rows : List R} (hr : ∀ r ∈ rows, r.e = true → r.of = []) (h : (chkN n rows).1 = 0) : 0 ≤ n ∧ n ≤ 12 ∧ rows.length ≤ 40 ∧ ∀ r ∈ rows, OkR n.toNat r := by
  unfold chkN at h
  split at h
  · simp at h
  · unfold chkT at h
    split at h
    · simp at h
    · exact ⟨by omega, by omega, by omega, chkRs_ok hr h⟩
open Go Go.Aev
open Go Go.Aev Go.Proofs

structure Good (n k : Nat) (c : C) : Prop where
  kd : c.2.1 = 1 ∨ c.2.1 = 2 ∨ c.2.1 = 3
  len : c.1.length ≤ n
  of : Bd 1000000 c.1
  tv : -1000000 ≤ c.2.2 ∧ c.2.2 ≤ 1000000
  gone : c.1.getD k 0 = 0
  tidy : tidyF c.1 c.2.1 c.2.2 = (c.1, c.2.2)
theorem again {n k : Nat} : ∀ (rs : List R) (i : Nat), (∀ r ∈ rs, Good n k (toC r)) → firsts k rs = rs.map toC ∧ ups n k rs i = [] ∧ dns n k rs i = []
  | [], _, _ => ⟨rfl, rfl, rfl⟩
  | r :: rs, i, h => by
    have g := h r List.mem_cons_self
    have gz : r.of.getD k 0 = 0 := g.gone
    obtain ⟨a, b, c⟩ := again rs (i + 1) (fun r hr => h r (List.mem_cons_of_mem _ hr))
    have ht : tidyF r.of r.kd r.tv = (r.of, r.tv) := g.tidy
    have hu : upB n k i r = [] := by unfold upB; rw [if_neg (by omega), if_neg (by omega)]
    have hd : dnB n k i r = [] := by unfold dnB; rw [if_neg (by omega), if_neg (by omega)]
    refine ⟨?_, by rw [ups, hu, b]; rfl, by rw [dns, hd, c]; rfl⟩
    rw [firsts, if_pos gz, a, List.map_cons]
    congr 1
    show ((tidyF r.of r.kd r.tv).1, r.kd, (tidyF r.of r.kd r.tv).2) = _
    rw [ht]
open Go Go.Aev Go.Proofs

theorem div1 (c : Int) : Rat.divInt c 1 = (c : Rat) := Rat.num_divInt_den (c : Rat)
abbrev Fr := Int × Int
abbrev FrR (x : Fr) : Prop := Wd.FrR x
abbrev LN (e : Bool) (l : List Fr) : AV := AV.t (T.lst 2 e (Wd.encF l))
theorem s9f (x : Fr) : Or (.call 9) [AV.agg [I x.1, I x.2]] [] = some [tb (decide (Wd.FrR x))] := by
  obtain ⟨b, h1, h2⟩ := Wd.g40 x.1 x.2
  rw [h1]
  have : b = decide (Wd.FrR x) := by
    rw [Bool.eq_iff_iff, h2, decide_eq_true_iff]; rfl
  rw [this]
end Go.Aev.Gen
