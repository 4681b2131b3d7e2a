/-
  The laws of lists of rests hold: as the evaluator reads them.
-/
import Derived.Test.YtnfdhfmfcpbepaaRLaw
set_option linter.unusedSimpArgs false
set_option linter.unusedVariables false
namespace Go.Aev.Gen
open Go Go.Aev Go.Num

theorem clashIn_some {b : Int × Int} {l : List (Int × Int)} : ∀ {rest : List (Int × Int)} {i k : Nat}, l.drop i = rest → clashIn b rest i = some k → ∃ a, l[k]? = some a ∧ ¬ Comp a b := by
  intro rest
  induction rest with
  | nil => intro i k _ h; simp [clashIn] at h
  | cons a rest ih =>
    intro i k hd h
    obtain ⟨h1, h2, h3⟩ := at_drop hd
    simp only [clashIn] at h
    by_cases hc : Comp a b
    · rw [if_pos hc] at h; exact ih h3 h
    · rw [if_neg hc] at h
      simp only [Option.some.injEq] at h; subst h
      exact ⟨a, h1, hc⟩
theorem clash_some {l : List (Int × Int)} : ∀ {bs : List (Int × Int)} {j i k : Nat}, l.drop j = bs → clash l bs j = some (i, k) → i < k ∧ k < l.length ∧ ∃ a b, l[i]? = some a ∧ l[k]? = some b ∧ ¬ Comp a b := by
  intro bs
  induction bs with
  | nil => intro j i k _ h; simp [clash] at h
  | cons b bs ih =>
    intro j i k hd h
    obtain ⟨h1, h2, h3⟩ := at_drop hd
    simp only [clash] at h
    cases hi : clashIn b (l.take j) 0 with
    | some i' =>
      rw [hi] at h
      simp only [Option.some.injEq, Prod.mk.injEq] at h
      obtain ⟨rfl, rfl⟩ := h
      obtain ⟨a, ha, hc⟩ := clashIn_some (l := l.take j) (i := 0) rfl hi
      rw [List.getElem?_take] at ha
      split at ha
      · rename_i hij; exact ⟨hij, h2, a, b, ha, h1, hc⟩
      · cases ha
    | none =>
      rw [hi] at h
      exact ih h3 h
theorem fold_ok : ∀ (rest : List (Int × Int)) (out : Int × Int), OkR out → (∀ r ∈ rest, OkR r) → (∀ r ∈ rest, Comp out r) → rest.Pairwise Comp →
    fold out rest = [ti 0, ti 0, ti 0, ti 0, ti 10, ti 0] ∨ ∃ N O, fold out rest = [ti N, ti O, ti 0, ti 0, ti 0, ti 0] ∧ Ok N O ∧ out.2 ∣ O ∧ out.2 ∣ N - out.1 ∧ ∀ r ∈ rest, r.2 ∣ O ∧ r.2 ∣ N - r.1 := by
  intro rest
  induction rest with
  | nil =>
    intro out ho _ _ _
    exact .inr ⟨out.1, out.2, rfl, ho, Int.dvd_refl _, ⟨0, by omega⟩, (by intro r hr; cases hr)⟩
  | cons r rest ih =>
    intro out ho hok hc hp
    have hr := hok r List.mem_cons_self
    have hcr := hc r List.mem_cons_self
    simp only [fold]
    by_cases hm : (Int.lcm out.2 r.2 : Int) > 1000000
    · rw [if_pos hm]; exact .inl rfl
    · rw [if_neg hm]
      obtain ⟨g1, g2, g3⟩ := both_ok ho hr hcr hm
      rcases ih (both out r) g1 (fun r' hr' => hok r' (List.mem_cons_of_mem _ hr'))
        (fun r' hr' => comp_both ho hr hcr hm (hc r' (List.mem_cons_of_mem _ hr')) ((List.pairwise_cons.1 hp).1 r' hr')) (List.pairwise_cons.1 hp).2 with h | ⟨N, O, h1, h2, h3, h4, h5⟩
      · exact .inl h
      · have key : ∀ (q : Int × Int), q.2 ∣ (both out r).2 → q.2 ∣ (both out r).1 - q.1 → q.2 ∣ O ∧ q.2 ∣ N - q.1 := by
          intro q k1 k2
          refine ⟨Int.dvd_trans k1 h3, ?_⟩
          have := Int.dvd_add (Int.dvd_trans k1 h4) k2
          have e : N - (both out r).1 + ((both out r).1 - q.1) = N - q.1 := by omega
          rwa [e] at this
        have ko := key out (Int.dvd_lcm_left _ _) g2
        have kr := key r (Int.dvd_lcm_right _ _) g3
        refine .inr ⟨N, O, h1, h2, ko.1, ko.2, fun q hq => ?_⟩
        rcases List.mem_cons.1 hq with rfl | hq
        · exact kr
        · exact h5 q hq

/-! ### RestPairs -/
theorem n7 (e : Bool) (l : List (Int × Int)) (hl : l.length ≤ 40) (hok : ∀ r ∈ l, OkR r) (N O : Int) (hN : ∀ r ∈ l, r.2 ∣ O ∧ r.2 ∣ N - r.1) : ∀ (rest : List (Int × Int)) (i : Nat), l.drop i = rest → i ≤ l.length →
    Or K7n13 [lst e l, r0, r1, I (i : Int)] [bx2 N O, z2] = some [tb true] := by
  intro rest
  induction rest with
  | nil =>
    intro i hd hi
    have := at_end hd
    refine orc_of ?_
    rw [e7n13]
    have h : ¬ (i : Int) < (l.length : Int) := by omega
    simp only [gd1, hd1, tl1, dr0, dr1, dr2, dr3, dr4, dr5, dr6, bo1, in1, st1, ls1, le1, pt1, fi1, fb1, fs1, ct1, cf1, nt1, nf1, ak0, akT, akF, cdec, cndec, cbeq, cnbeq, ↓reduceIte, beq_self_eq_true, Int.reduceBEq, Int.reduceEq, Bool.and_true, Bool.true_and, Bool.false_and, Bool.and_false, h, enc_len]
  | cons r rest ih =>
    intro i hd hi
    obtain ⟨h1, h2, h3⟩ := at_drop hd
    have hm := List.mem_of_getElem? h1
    have hr : Ok r.1 r.2 := hok r hm
    obtain ⟨d1, d2⟩ := hN r hm
    refine orc_of ?_
    rw [e7n13]
    have h : (i : Int) < (l.length : Int) := by omega
    have h0 : (0 : Int) ≤ (i : Int) := by omega
    have w : IntKind.i64.wrap ((i : Int) + 1) = ((i + 1 : Nat) : Int) := by rw [wr (by omega)]; omega
    have s := s19 N r.1 r.2 ⟨by have := hr.1; omega, by have := hr.2.1; omega⟩
    have k : (N % r.2 == r.1) = true := by simp only [beq_iff_eq]; exact (emod_iff ⟨hr.2.2.1, hr.2.2.2⟩).2 d2
    rw [k] at s
    have hz : O.tmod r.2 = 0 := tmod_zero.2 d1
    have hr0 : ¬ r.2 = 0 := by have := hr.1; omega
    simp only [gd1, hd1, tl1, dr0, dr1, dr2, dr3, dr4, dr5, dr6, bo1, in1, st1, ls1, le1, pt1, fi1, fb1, fs1, ct1, cf1, nt1, nf1, ak0, akT, akF, cdec, cndec, cbeq, cnbeq, ↓reduceIte, beq_self_eq_true, Int.reduceBEq, Int.reduceEq, Bool.and_true, Bool.true_and, Bool.false_and, Bool.and_false, h, h0, and_self, enc_len, enc_get h1, s, hr0, hz, w, ih (i + 1) h3 (by omega)]
theorem law7 (e : Bool) (l : List (Int × Int)) : Or (.call 7) [lst e l] [] = some [tb true] := by
  have s := s10 e l
  unfold allF at s
  refine orc_of ?_
  rw [e7]
  by_cases hl : (l.length : Int) > 40
  · simp only [hl, ↓reduceIte] at s
    simp only [gd1, hd1, tl1, dr0, dr1, dr2, dr3, dr4, dr5, dr6, bo1, in1, st1, ls1, le1, pt1, fi1, fb1, fs1, ct1, cf1, nt1, nf1, ak0, akT, akF, cdec, cndec, cbeq, cnbeq, ↓reduceIte, beq_self_eq_true, Int.reduceBEq, Int.reduceEq, Bool.and_true, Bool.true_and, Bool.false_and, Bool.and_false, s11, s]
  · simp only [hl, ↓reduceIte] at s
    cases hb : bad l 0 with
    | some i =>
      simp only [hb] at s
      simp only [gd1, hd1, tl1, dr0, dr1, dr2, dr3, dr4, dr5, dr6, bo1, in1, st1, ls1, le1, pt1, fi1, fb1, fs1, ct1, cf1, nt1, nf1, ak0, akT, akF, cdec, cndec, cbeq, cnbeq, ↓reduceIte, beq_self_eq_true, Int.reduceBEq, Int.reduceEq, Bool.and_true, Bool.true_and, Bool.false_and, Bool.and_false, s11, s]
    | none =>
      simp only [hb] at s
      have hok := bad_none hb
      cases hc : clash l l 0 with
      | some ij =>
        obtain ⟨i, j⟩ := ij
        simp only [hc] at s
        obtain ⟨k1, k2, a, b, ha, hb', hn⟩ := clash_some (l := l) (j := 0) rfl hc
        have c1 : ¬ (i : Int) < 0 := by omega
        have c2 : ¬ (i : Int) ≥ (j : Int) := by omega
        have c3 : ¬ (j : Int) ≥ (l.length : Int) := by omega
        have c4 : (0 : Int) ≤ (i : Int) := by omega
        have c5 : (0 : Int) ≤ (j : Int) := by omega
        have c6 : (i : Int) < (l.length : Int) := by omega
        have c7 : (j : Int) < (l.length : Int) := by omega
        have s9' := s9 a.1 a.2 b.1 b.2
        unfold joinF at s9'
        have oa : Ok a.1 a.2 := hok a (List.mem_of_getElem? ha)
        have ob : Ok b.1 b.2 := hok b (List.mem_of_getElem? hb')
        have hn' : ¬ (Int.gcd a.2 b.2 : Int) ∣ b.1 - a.1 := hn
        simp only [oa, ob, hn', not_true_eq_false, not_false_eq_true, ↓reduceIte] at s9'
        simp only [gd1, hd1, tl1, dr0, dr1, dr2, dr3, dr4, dr5, dr6, bo1, in1, st1, ls1, le1, pt1, fi1, fb1, fs1, ct1, cf1, nt1, nf1, ak0, akT, akF, cdec, cndec, cbeq, cnbeq, ↓reduceIte, beq_self_eq_true, Int.reduceBEq, Int.reduceEq, Bool.and_true, Bool.true_and, Bool.false_and, Bool.and_false, s11, s, enc_len, c1, c2, c3, c4, c5, c6, c7, decide_false, and_self, enc_get ha, enc_get hb', s9']
      | none =>
        simp only [hc] at s
        rcases fold_ok l (0, 1) one_ok hok (fun r _ => comp_one r) (clash_pairs hc) with h | ⟨N, O, h1, h2, h3, h4, h5⟩
        · rw [h] at s
          simp only [gd1, hd1, tl1, dr0, dr1, dr2, dr3, dr4, dr5, dr6, bo1, in1, st1, ls1, le1, pt1, fi1, fb1, fs1, ct1, cf1, nt1, nf1, ak0, akT, akF, cdec, cndec, cbeq, cnbeq, ↓reduceIte, beq_self_eq_true, Int.reduceBEq, Int.reduceEq, Bool.and_true, Bool.true_and, Bool.false_and, Bool.and_false, s11, s]
        · rw [h1] at s
          have := n7 e l (by omega) hok N O h5 l 0 rfl (Nat.zero_le _)
          simp only [gd1, hd1, tl1, dr0, dr1, dr2, dr3, dr4, dr5, dr6, bo1, in1, st1, ls1, le1, pt1, fi1, fb1, fs1, ct1, cf1, nt1, nf1, ak0, akT, akF, cdec, cndec, cbeq, cnbeq, ↓reduceIte, beq_self_eq_true, Int.reduceBEq, Int.reduceEq, Bool.and_true, Bool.true_and, Bool.false_and, Bool.and_false, s11, s]
          exact this

/-! ### RestSays -/
abbrev r4 : AV := AV.ref (Id.c 4) 0
abbrev r5 : AV := AV.ref (Id.c 5) 0
abbrev r6 : AV := AV.ref (Id.c 6) 0
theorem n3 (n o m p a b c d : Int) (h1 : joinF n o m p = [ti a, ti b, ti c, ti d]) (e : Bool) (l : List (Int × Int)) (hlen : l.length ≤ 9223372036854775807) (x1 x2 x3 x4 x5 x6 : Int) (h2 : allF l = [ti x1, ti x2, ti x3, ti x4, ti x5, ti x6]) :
    ∀ (rest : List (Int × Int)) (i : Nat), l.drop i = rest → i ≤ l.length → Or K3n7 [lst e l, r0, r1, r2, r3, r4, r5, r6, I (i : Int)] [bx2 n o, bx2 m p, bx2 a b, bx2 c d, bx2 x1 x2, bx2 x3 x4, bx2 x5 x6] = some [tb true] := by
  have s := s12 e l
  rw [h2] at s
  intro rest
  induction rest with
  | nil =>
    intro i hd hi
    have := at_end hd
    refine orc_of ?_
    rw [e3n7]
    have h : ¬ (i : Int) < (l.length : Int) := by omega
    by_cases t1 : o > 3000
    · simp only [gd1, hd1, tl1, dr0, dr1, dr2, dr3, dr4, dr5, dr6, bo1, in1, st1, ls1, le1, pt1, fi1, fb1, fs1, ct1, cf1, nt1, nf1, ak0, akT, akF, cdec, cndec, cbeq, cnbeq, ↓reduceIte, beq_self_eq_true, Int.reduceBEq, Int.reduceEq, Bool.and_true, Bool.true_and, Bool.false_and, Bool.and_false, h, enc_len, t1, decide_true]
    · by_cases t2 : p > 3000
      · simp only [gd1, hd1, tl1, dr0, dr1, dr2, dr3, dr4, dr5, dr6, bo1, in1, st1, ls1, le1, pt1, fi1, fb1, fs1, ct1, cf1, nt1, nf1, ak0, akT, akF, cdec, cndec, cbeq, cnbeq, ↓reduceIte, beq_self_eq_true, Int.reduceBEq, Int.reduceEq, Bool.and_true, Bool.true_and, Bool.false_and, Bool.and_false, h, enc_len, t1, t2, decide_true, decide_false]
      · unfold joinF at h1
        by_cases ha : Ok n o
        · by_cases hb : Ok m p
          · have s15' := s15 n o m p ha hb
            by_cases hd : (Int.gcd o p : Int) ∣ m - n
            · simp only [hd, ↓reduceIte] at s15'
              by_cases hl : (Int.lcm o p : Int) > 1000000
              · simp only [ha, hb, hd, hl, not_true_eq_false, ↓reduceIte, List.cons.injEq, T.int.injEq, true_and, and_true] at h1
                obtain ⟨rfl, rfl, rfl, rfl⟩ := h1
                simp only [gd1, hd1, tl1, dr0, dr1, dr2, dr3, dr4, dr5, dr6, bo1, in1, st1, ls1, le1, pt1, fi1, fb1, fs1, ct1, cf1, nt1, nf1, ak0, akT, akF, cdec, cndec, cbeq, cnbeq, ↓reduceIte, beq_self_eq_true, Int.reduceBEq, Int.reduceEq, Bool.and_true, Bool.true_and, Bool.false_and, Bool.and_false, h, enc_len, t1, t2, decide_true, decide_false, s, s13, s14, s15', ha, hb, hl]
              · simp only [ha, hb, hd, hl, not_true_eq_false, ↓reduceIte, List.cons.injEq, T.int.injEq, true_and, and_true] at h1
                obtain ⟨rfl, rfl, rfl, rfl⟩ := h1
                simp only [gd1, hd1, tl1, dr0, dr1, dr2, dr3, dr4, dr5, dr6, bo1, in1, st1, ls1, le1, pt1, fi1, fb1, fs1, ct1, cf1, nt1, nf1, ak0, akT, akF, cdec, cndec, cbeq, cnbeq, ↓reduceIte, beq_self_eq_true, Int.reduceBEq, Int.reduceEq, Bool.and_true, Bool.true_and, Bool.false_and, Bool.and_false, h, enc_len, t1, t2, decide_true, decide_false, s, s13, s14, s15', ha, hb, hl]
            · simp only [hd, ↓reduceIte] at s15'
              simp only [ha, hb, hd, not_true_eq_false, not_false_eq_true, ↓reduceIte, List.cons.injEq, T.int.injEq, true_and, and_true] at h1
              obtain ⟨rfl, rfl, rfl, rfl⟩ := h1
              simp only [gd1, hd1, tl1, dr0, dr1, dr2, dr3, dr4, dr5, dr6, bo1, in1, st1, ls1, le1, pt1, fi1, fb1, fs1, ct1, cf1, nt1, nf1, ak0, akT, akF, cdec, cndec, cbeq, cnbeq, ↓reduceIte, beq_self_eq_true, Int.reduceBEq, Int.reduceEq, Bool.and_true, Bool.true_and, Bool.false_and, Bool.and_false, h, enc_len, t1, t2, decide_true, decide_false, s, s13, s14, s15', ha, hb]
          · simp only [ha, hb, not_true_eq_false, not_false_eq_true, ↓reduceIte, List.cons.injEq, T.int.injEq, true_and, and_true] at h1
            obtain ⟨rfl, rfl, rfl, rfl⟩ := h1
            simp only [gd1, hd1, tl1, dr0, dr1, dr2, dr3, dr4, dr5, dr6, bo1, in1, st1, ls1, le1, pt1, fi1, fb1, fs1, ct1, cf1, nt1, nf1, ak0, akT, akF, cdec, cndec, cbeq, cnbeq, ↓reduceIte, beq_self_eq_true, Int.reduceBEq, Int.reduceEq, Bool.and_true, Bool.true_and, Bool.false_and, Bool.and_false, h, enc_len, t1, t2, decide_true, decide_false, s, s13, s14, ha, hb]
        · simp only [ha, not_false_eq_true, ↓reduceIte, List.cons.injEq, T.int.injEq, true_and, and_true] at h1
          obtain ⟨rfl, rfl, rfl, rfl⟩ := h1
          simp only [gd1, hd1, tl1, dr0, dr1, dr2, dr3, dr4, dr5, dr6, bo1, in1, st1, ls1, le1, pt1, fi1, fb1, fs1, ct1, cf1, nt1, nf1, ak0, akT, akF, cdec, cndec, cbeq, cnbeq, ↓reduceIte, beq_self_eq_true, Int.reduceBEq, Int.reduceEq, Bool.and_true, Bool.true_and, Bool.false_and, Bool.and_false, h, enc_len, t1, t2, decide_false, s, s13, s14, ha]
  | cons r rest ih =>
    intro i hd hi
    obtain ⟨k1, k2, k3⟩ := at_drop hd
    refine orc_of ?_
    rw [e3n7]
    have h : (i : Int) < (l.length : Int) := by omega
    have h0 : (0 : Int) ≤ (i : Int) := by omega
    have w : IntKind.i64.wrap ((i : Int) + 1) = ((i + 1 : Nat) : Int) := by rw [wr (by omega)]; omega
    by_cases t : r.2 > 3000
    · simp only [gd1, hd1, tl1, dr0, dr1, dr2, dr3, dr4, dr5, dr6, bo1, in1, st1, ls1, le1, pt1, fi1, fb1, fs1, ct1, cf1, nt1, nf1, ak0, akT, akF, cdec, cndec, cbeq, cnbeq, ↓reduceIte, beq_self_eq_true, Int.reduceBEq, Int.reduceEq, Bool.and_true, Bool.true_and, Bool.false_and, Bool.and_false, h, h0, and_self, enc_len, enc_get k1, t]
    · simp only [gd1, hd1, tl1, dr0, dr1, dr2, dr3, dr4, dr5, dr6, bo1, in1, st1, ls1, le1, pt1, fi1, fb1, fs1, ct1, cf1, nt1, nf1, ak0, akT, akF, cdec, cndec, cbeq, cnbeq, ↓reduceIte, beq_self_eq_true, Int.reduceBEq, Int.reduceEq, Bool.and_true, Bool.true_and, Bool.false_and, Bool.and_false, h, h0, and_self, enc_len, enc_get k1, t, w, ih (i + 1) k3 (by omega)]
theorem law3 (n o m p : Int) (e : Bool) (l : List (Int × Int)) (hlen : l.length ≤ 9223372036854775807) : Or (.call 3) [AV.agg [I n, I o], AV.agg [I m, I p], lst e l] [] = some [tb true] := by
  obtain ⟨a, b, c, d, h1⟩ := joinF_four n o m p
  obtain ⟨x1, x2, x3, x4, x5, x6, h2⟩ := allF_six l
  have s1 := s9 n o m p
  have s2 := s10 e l
  rw [h1] at s1
  rw [h2] at s2
  have := n3 n o m p a b c d h1 e l hlen x1 x2 x3 x4 x5 x6 h2 l 0 rfl (Nat.zero_le _)
  refine orc_of ?_
  rw [e3]
  simp only [gd1, hd1, tl1, dr0, dr1, dr2, dr3, dr4, dr5, dr6, bo1, in1, st1, ls1, le1, pt1, fi1, fb1, fs1, ct1, cf1, nt1, nf1, ak0, akT, akF, cdec, cndec, cbeq, cnbeq, ↓reduceIte, beq_self_eq_true, Int.reduceBEq, Int.reduceEq, Bool.and_true, Bool.true_and, Bool.false_and, Bool.and_false, s1, s2, s11]
  exact this
end Go.Aev.Gen
