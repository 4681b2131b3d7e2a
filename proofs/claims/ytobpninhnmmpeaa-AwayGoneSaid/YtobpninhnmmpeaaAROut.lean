/-
  Out: the document's.
-/
import Derived.Test.YtobpninhnmmpeaaARSide
set_option linter.unusedSimpArgs false
set_option linter.unusedVariables false
namespace Go.Aev.Gen
open Go Go.Aev

theorem s8' (a b : Int) : Or (.call 8) [I a, I b] [] = some [ti a, ti b] := s8 a b
abbrev bE (kd T : Int) : Blk := Blk.box [AV.own (Id.c 3), I kd, I T]
structure Two (n k : Nat) (hs ls : List Bn) (U D : List R) : Prop where
  hn : n ≤ 12
  hk : k < n
  up : ∀ b ∈ hs, Up n k b
  dn : ∀ b ∈ ls, Dn n k b
  hl : hs.length ≤ 40
  ll : ls.length ≤ 40
  u : U.map toC = hs.map Bn.c
  d : D.map toC = ls.map Bn.c
theorem map_at {U : List R} {hs : List Bn} (h : U.map toC = hs.map Bn.c) {i : Nat} {a : Bn} (ha : hs[i]? = some a) : ∃ u, U[i]? = some u ∧ u.of = a.of ∧ u.kd = (if a.less then 2 else 1) ∧ u.tv = a.to := by
  have h1 : (U.map toC)[i]? = some a.c := by rw [h, List.getElem?_map, ha]; rfl
  rw [List.getElem?_map] at h1
  cases hu : U[i]? with
  | none => rw [hu] at h1; cases h1
  | some u =>
    rw [hu] at h1
    simp only [Option.map_some, Option.some.injEq, toC, Bn.c, Prod.mk.injEq] at h1
    exact ⟨u, rfl, h1.1, h1.2.1, h1.2.2⟩
theorem map_len {U : List R} {hs : List Bn} (h : U.map toC = hs.map Bn.c) : U.length = hs.length := by
  have := congrArg List.length h
  simpa using this
/-- The numbers of a combination, one after the other. -/
theorem n923 (n k : Nat) (hs ls : List Bn) (U D : List R) (t : Two n k hs ls U D) (eu ey ed ez : Bool) (Y Z : List Int) (a b : Bn) (i j : Nat) (ha : hs[i]? = some a) (hb : ls[j]? = some b) (acc : List R) (ea : Bool) (M : Int × List C) (hl : acc.length ≤ 40) (hj : j ≤ 40)
    (hgo : cOk a b k = true → ¬ acc.length + 1 > 40 → ∀ acc' ea', acc'.map toC = acc.map toC ++ [cC a b k] → Ans (Or K9n13 [I (n : Int), I (k : Int), r0, o1, LR eu U, lst ey Y, LR ed D, lst ez Z, I (i : Int), I ((j + 1 : Nat) : Int)] [bF, SR ea' acc']) M)
    (hmuch : cOk a b k = false → M = (10, [])) (hmany : cOk a b k = true → acc.length + 1 > 40 → M = (2, [])) :
    ∀ (xr yr : List Int) (m : Nat) (done : List Int) (e3 : Bool), a.of.drop m = xr → b.of.drop m = yr → m ≤ n → done.length ≤ m → cL a b k = done ++ List.zipWith (fun x y => cQ a b k * x + cP a b k * y) xr yr →
    Ans (Or K9n23 [I (n : Int), I (k : Int), r0, o1, LR eu U, lst ey Y, LR ed D, lst ez Z, I (i : Int), I (j : Int), I (cQ a b k), I (cP a b k), AV.ref (Id.c 2) 0, I (m : Int)] [bF, SR ea acc, bE (cKd a b) (cT a b k), Blk.sl false 1 e3 (enc done)]) M := by
  have ua := t.up a (List.mem_of_getElem? ha)
  have db := t.dn b (List.mem_of_getElem? hb)
  obtain ⟨hg, hP, hQ⟩ := pq ua db
  obtain ⟨u, hu, u1, u2, u3⟩ := map_at t.u ha
  obtain ⟨d, hd, d1, d2, d3⟩ := map_at t.d hb
  have t1 := mulb hQ ua.to
  have t2 := mulb hP db.to
  have hla := ua.len
  have hlb := db.len
  have hn := t.hn
  have hui : i < U.length := (List.getElem?_eq_some_iff.1 hu).1
  have hdj : j < D.length := (List.getElem?_eq_some_iff.1 hd).1
  intro xr
  induction xr with
  | nil =>
    intro yr m done e3 h1 h2 hm hdl hf
    have hle := at_end h1
    have hlt : ¬ (m : Int) < (n : Int) := by omega
    simp only [List.zipWith_nil_left, List.append_nil] at hf
    subst hf
    have hkd : cKd a b = 1 ∨ cKd a b = 2 := by unfold cKd; split <;> omega
    have hlen : (cL a b k).length ≤ 12 := by simp [cL]; omega
    obtain ⟨r, k1, k2⟩ := s22 e3 (cL a b k) (cKd a b) (cT a b k) (zip_bd fun x hx y hy => by
      have := mulb hQ (ua.of x hx)
      have := mulb hP (db.of y hy)
      omega) (by omega) hkd (by unfold cT; omega)
    rcases k2 with ⟨hok, e', rfl⟩ | ⟨hok, rfl⟩
    · have hok' : cOk a b k = true := hok
      have hsm : small 40 (acc.length + [eR ⟨e', mixL (cL a b k) (cT a b k), cKd a b, mixT (cL a b k) (cKd a b) (cT a b k)⟩].length) = some () := small_ok (by simp; omega)
      have happ : eRs acc ++ [eR ⟨e', mixL (cL a b k) (cT a b k), cKd a b, mixT (cL a b k) (cKd a b) (cT a b k)⟩] = eRs (acc ++ [⟨e', mixL (cL a b k) (cT a b k), cKd a b, mixT (cL a b k) (cKd a b) (cT a b k)⟩]) := by simp [eRs]
      have hlen2 : ((acc ++ [⟨e', mixL (cL a b k) (cT a b k), cKd a b, mixT (cL a b k) (cKd a b) (cT a b k)⟩] : List R).length : Int) = (acc.length : Int) + 1 := by simp
      unfold eR at hsm happ
      by_cases hc : acc.length + 1 > 40
      · have hc' : (acc.length : Int) + 1 > 40 := by omega
        refine ans_of ?_
        rw [e9n23]
        simp only [gd1, hd1, tl1, dr0, dr1, dr2, dr3, dr4, dr5, dr6, bo1, in1, st1, ls1, le1, pt1, fi1, fb1, fs1, ct1, cf1, nt1, nf1, ak0, akT, akF, cdec, cndec, cbeq, cnbeq, ↓reduceIte, beq_self_eq_true, Int.reduceBEq, Int.reduceEq, Bool.and_true, Bool.true_and, Bool.false_and, Bool.and_false, hlt, k1, eRs_len, hsm, happ, hlen2, hc', s8]
        exact ans_emp (hmany hok' hc).symm
      · have hc' : ¬ (acc.length : Int) + 1 > 40 := by omega
        have := hgo hok' hc (acc ++ [⟨e', mixL (cL a b k) (cT a b k), cKd a b, mixT (cL a b k) (cKd a b) (cT a b k)⟩]) (ea && false) (by simp [cC])
        rw [Bool.and_false] at this
        refine ans_of ?_
        rw [e9n23]
        simp only [gd1, hd1, tl1, dr0, dr1, dr2, dr3, dr4, dr5, dr6, bo1, in1, st1, ls1, le1, pt1, fi1, fb1, fs1, ct1, cf1, nt1, nf1, ak0, akT, akF, cdec, cndec, cbeq, cnbeq, ↓reduceIte, beq_self_eq_true, Int.reduceBEq, Int.reduceEq, Bool.and_true, Bool.true_and, Bool.false_and, Bool.and_false, hlt, k1, eRs_len, hsm, happ, hlen2, hc', next j (by omega)]
        exact this
    · have hok' : cOk a b k = false := hok
      refine ans_of ?_
      rw [e9n23]
      simp only [gd1, hd1, tl1, dr0, dr1, dr2, dr3, dr4, dr5, dr6, bo1, in1, st1, ls1, le1, pt1, fi1, fb1, fs1, ct1, cf1, nt1, nf1, ak0, akT, akF, cdec, cndec, cbeq, cnbeq, ↓reduceIte, beq_self_eq_true, Int.reduceBEq, Int.reduceEq, Bool.and_true, Bool.true_and, Bool.false_and, Bool.and_false, hlt, k1, s8]
      exact ans_emp (hmuch hok').symm
  | cons x xr ih =>
    intro yr m done e3 h1 h2 hm hdl hf
    obtain ⟨g1, g2, g3⟩ := at_drop h1
    obtain ⟨y, yr', rfl⟩ : ∃ y yr', yr = y :: yr' := by
      cases yr with
      | nil => have := at_end h2; omega
      | cons y yr' => exact ⟨y, yr', rfl⟩
    obtain ⟨f1, f2, f3⟩ := at_drop h2
    have hlt : (m : Int) < (n : Int) := by omega
    have h0 : 0 ≤ (m : Int) := by omega
    have hma : (m : Int) < (a.of.length : Int) := by omega
    have hmb : (m : Int) < (b.of.length : Int) := by omega
    have hiu : 0 ≤ (i : Int) ∧ (i : Int) < (U.length : Int) := by omega
    have hjd : 0 ≤ (j : Int) ∧ (j : Int) < (D.length : Int) := by omega
    have w1 := mulb hQ (ua.of x (List.mem_of_getElem? g1))
    have w2 := mulb hP (db.of y (List.mem_of_getElem? f1))
    have hsm : small 8 (done.length + [[ti (cQ a b k * x + cP a b k * y)]].length) = some () := small_ok (by simp; omega)
    have happ : enc done ++ [[ti (cQ a b k * x + cP a b k * y)]] = enc (done ++ [cQ a b k * x + cP a b k * y]) := by simp [enc]
    have := ih yr' (m + 1) (done ++ [cQ a b k * x + cP a b k * y]) (e3 && false) g3 f3 (by omega) (by simp; omega) (by rw [hf]; simp)
    rw [Bool.and_false] at this
    refine ans_of ?_
    rw [e9n23]
    simp only [gd1, hd1, tl1, dr0, dr1, dr2, dr3, dr4, dr5, dr6, bo1, in1, st1, ls1, le1, pt1, fi1, fb1, fs1, ct1, cf1, nt1, nf1, ak0, akT, akF, cdec, cndec, cbeq, cnbeq, ↓reduceIte, beq_self_eq_true, Int.reduceBEq, Int.reduceEq, Bool.and_true, Bool.true_and, Bool.false_and, Bool.and_false, hlt, h0, hma, hmb, hiu, hjd, and_self, eRs_len, eRs_get hu, eRs_get hd, u1, d1, enc_len, enc_get g1, enc_get f1, wr (v := cQ a b k * x) (by omega), wr (v := cP a b k * y) (by omega), wr (v := cQ a b k * x + cP a b k * y) (by omega), hsm, happ, next m (by omega)]
    exact this
theorem n918 (n k : Nat) (hs ls : List Bn) (U D : List R) (t : Two n k hs ls U D) (eu ey ed ez : Bool) (Y Z : List Int) (i j : Nat) (acc : List R) (ea : Bool) (M : Int × List C) (X0 Y0 : Int) : ∀ (q : Nat) (g h : Int), h.natAbs ≤ q → 0 ≤ g ∧ g ≤ 1000000 → 0 ≤ h ∧ h ≤ 1000000 →
    Ans (Or K9n18 [I (n : Int), I (k : Int), r0, o1, LR eu U, lst ey Y, LR ed D, lst ez Z, I (i : Int), I (j : Int), I X0, I Y0, I (Nat.gcd g.natAbs h.natAbs : Nat), I 0] [bF, SR ea acc]) M →
    Ans (Or K9n18 [I (n : Int), I (k : Int), r0, o1, LR eu U, lst ey Y, LR ed D, lst ez Z, I (i : Int), I (j : Int), I X0, I Y0, I g, I h] [bF, SR ea acc]) M
  | q, g, h, hq, hg, hh, hres => by
    by_cases h0 : h = 0
    · subst h0
      have : ((Nat.gcd g.natAbs (0 : Int).natAbs : Nat) : Int) = g := by
        rw [Int.natAbs_zero, Nat.gcd_zero_right]; omega
      rw [this] at hres
      exact hres
    · have ht := natAbs_tmod g h
      have hlt : (g.tmod h).natAbs < h.natAbs := by rw [ht]; exact Nat.mod_lt _ (by omega)
      have hnn : 0 ≤ g.tmod h := Int.tmod_nonneg h hg.1
      have hpos : h > 0 := by omega
      match q with
      | 0 => omega
      | q + 1 =>
        have := n918 n k hs ls U D t eu ey ed ez Y Z i j acc ea M X0 Y0 q h (g.tmod h) (by omega) hh (by omega) (by rw [gcd_tmod]; exact hres)
        refine ans_of ?_
        rw [e9n18]
        simp only [gd1, hd1, tl1, dr0, dr1, dr2, dr3, dr4, dr5, dr6, bo1, in1, st1, ls1, le1, pt1, fi1, fb1, fs1, ct1, cf1, nt1, nf1, ak0, akT, akF, cdec, cndec, cbeq, cnbeq, ↓reduceIte, beq_self_eq_true, Int.reduceBEq, Int.reduceEq, Bool.and_true, Bool.true_and, Bool.false_and, Bool.and_false, hpos, h0]
        exact this
/-- One pair of bounds. -/
theorem pair9 (n k : Nat) (hs ls : List Bn) (U D : List R) (t : Two n k hs ls U D) (eu ey ed ez : Bool) (Y Z : List Int) (a b : Bn) (i j : Nat) (ha : hs[i]? = some a) (hb : ls[j]? = some b) (acc : List R) (ea : Bool) (M : Int × List C) (hl : acc.length ≤ 40) (hj : j ≤ 40)
    (hgo : cOk a b k = true → ¬ acc.length + 1 > 40 → ∀ acc' ea', acc'.map toC = acc.map toC ++ [cC a b k] → Ans (Or K9n13 [I (n : Int), I (k : Int), r0, o1, LR eu U, lst ey Y, LR ed D, lst ez Z, I (i : Int), I ((j + 1 : Nat) : Int)] [bF, SR ea' acc']) M)
    (hmuch : cOk a b k = false → M = (10, [])) (hmany : cOk a b k = true → acc.length + 1 > 40 → M = (2, [])) :
    Ans (Or K9n18 [I (n : Int), I (k : Int), r0, o1, LR eu U, lst ey Y, LR ed D, lst ez Z, I (i : Int), I (j : Int), I (-(b.of.getD k 0)), I (a.of.getD k 0), I (-(b.of.getD k 0)), I (a.of.getD k 0)] [bF, SR ea acc]) M := by
  have ua := t.up a (List.mem_of_getElem? ha)
  have db := t.dn b (List.mem_of_getElem? hb)
  obtain ⟨hg, hP, hQ⟩ := pq ua db
  obtain ⟨u, hu, u1, u2, u3⟩ := map_at t.u ha
  obtain ⟨d, hd, d1, d2, d3⟩ := map_at t.d hb
  have t1 := mulb hQ ua.to
  have t2 := mulb hP db.to
  have hui : i < U.length := (List.getElem?_eq_some_iff.1 hu).1
  have hdj : j < D.length := (List.getElem?_eq_some_iff.1 hd).1
  have hpa := ua.at'
  have hpb := db.at'
  have b1 := at_bd (k := k) ua.of (by omega)
  have b2 := at_bd (k := k) db.of (by omega)
  refine n918 n k hs ls U D t eu ey ed ez Y Z i j acc ea M _ _ (a.of.getD k 0).natAbs _ _ (by omega) (by omega) (by omega) ?_
  have hgc : Nat.gcd (-(b.of.getD k 0)).natAbs (a.of.getD k 0).natAbs = cG a b k := Nat.gcd_comm _ _
  rw [hgc]
  have hgn : ¬ (cG a b k : Int) = 0 := by omega
  have dv1 : (cG a b k : Int) ∣ a.of.getD k 0 := Int.ofNat_dvd_left.2 (Nat.gcd_dvd_left _ _)
  have dv2 : (cG a b k : Int) ∣ -(b.of.getD k 0) := Int.ofNat_dvd_left.2 (Nat.gcd_dvd_right _ _)
  have hpp : a.of.getD k 0 / (cG a b k : Int) = cP a b k := rfl
  have hqq : -(b.of.getD k 0) / (cG a b k : Int) = cQ a b k := rfl
  have hz : ¬ (0 : Int) > 0 := by omega
  have hiu : 0 ≤ (i : Int) ∧ (i : Int) < (U.length : Int) := by omega
  have hjd : 0 ≤ (j : Int) ∧ (j : Int) < (D.length : Int) := by omega
  have hkd : mm true u.kd d.kd = cKd a b := by
    rw [mm_max, u2, d2]; unfold cKd
    cases a.less <;> cases b.less <;> rfl
  have hcT : cQ a b k * a.to + cP a b k * b.to = cT a b k := rfl
  have := n923 n k hs ls U D t eu ey ed ez Y Z a b i j ha hb acc ea M hl hj hgo hmuch hmany a.of b.of 0 [] true rfl rfl (by omega) (by simp) rfl
  refine ans_of ?_
  rw [e9n18]
  simp only [gd1, hd1, tl1, dr0, dr1, dr2, dr3, dr4, dr5, dr6, bo1, in1, st1, ls1, le1, pt1, fi1, fb1, fs1, ct1, cf1, nt1, nf1, ak0, akT, akF, cdec, cndec, cbeq, cnbeq, ↓reduceIte, beq_self_eq_true, Int.reduceBEq, Int.reduceEq, Bool.and_true, Bool.true_and, Bool.false_and, Bool.and_false, Int.lt_irrefl, gt_iff_lt, hgn, hiu, hjd, and_self, eRs_len, eRs_get hu, eRs_get hd, tdiv_dvd dv1, tdiv_dvd dv2, hpp, hqq, wr (v := cP a b k) (by omega), wr (v := cQ a b k) (by omega), u3, d3, wr (v := cQ a b k * a.to) (by omega), wr (v := cP a b k * b.to) (by omega), hcT, wr (v := cT a b k) (by unfold cT; omega), hkd]
  exact this
theorem n913 (n k : Nat) (hs ls : List Bn) (U D : List R) (t : Two n k hs ls U D) (eu ey ed ez : Bool) (a : Bn) (i : Nat) (ha : hs[i]? = some a) (hi : i ≤ 40) (M : Int × List C) :
    ∀ (rest : List Bn) (j : Nat) (acc : List R) (ea : Bool), ls.drop j = rest → acc.length ≤ 40 →
    (∀ acc' ea', innF k a rest (acc.map toC) = (0, acc'.map toC) → acc'.length ≤ 40 → Ans (Or K9n10 [I (n : Int), I (k : Int), r0, o1, LR eu U, lst ey (hs.map Bn.frm), LR ed D, lst ez (ls.map Bn.frm), I ((i + 1 : Nat) : Int)] [bF, SR ea' acc']) M) →
    ((innF k a rest (acc.map toC)).1 ≠ 0 → M = innF k a rest (acc.map toC)) →
    Ans (Or K9n13 [I (n : Int), I (k : Int), r0, o1, LR eu U, lst ey (hs.map Bn.frm), LR ed D, lst ez (ls.map Bn.frm), I (i : Int), I (j : Int)] [bF, SR ea acc]) M := by
  have hlu := map_len t.u
  have hld := map_len t.d
  have hll := t.ll
  obtain ⟨u, hu, u1, u2, u3⟩ := map_at t.u ha
  have hil : i < hs.length := (List.getElem?_eq_some_iff.1 ha).1
  intro rest
  induction rest with
  | nil =>
    intro j acc ea h hl hnext hbad
    have h1 : ¬ (j : Int) < (D.length : Int) := by have := at_end h; omega
    refine ans_of ?_
    rw [e9n13]
    simp only [gd1, hd1, tl1, dr0, dr1, dr2, dr3, dr4, dr5, dr6, bo1, in1, st1, ls1, le1, pt1, fi1, fb1, fs1, ct1, cf1, nt1, nf1, ak0, akT, akF, cdec, cndec, cbeq, cnbeq, ↓reduceIte, beq_self_eq_true, Int.reduceBEq, Int.reduceEq, Bool.and_true, Bool.true_and, Bool.false_and, Bool.and_false, h1, eRs_len, next i (by omega)]
    exact hnext acc ea rfl hl
  | cons b rest ih =>
    intro j acc ea h hl hnext hbad
    obtain ⟨g1, g2, g3⟩ := at_drop h
    have hjd : (j : Int) < (D.length : Int) := by omega
    have h0j : 0 ≤ (j : Int) := by omega
    have hi1 : 0 ≤ (i : Int) ∧ (i : Int) < ((hs.map Bn.frm).length : Int) := by simp; omega
    have hj1 : 0 ≤ (j : Int) ∧ (j : Int) < ((ls.map Bn.frm).length : Int) := by simp; omega
    have hfa : (hs.map Bn.frm)[i]? = some a.frm := by rw [List.getElem?_map, ha]; rfl
    have hfb : (ls.map Bn.frm)[j]? = some b.frm := by rw [List.getElem?_map, g1]; rfl
    have ua := t.up a (List.mem_of_getElem? ha)
    have db := t.dn b (List.mem_of_getElem? g1)
    obtain ⟨d, hd, d1, d2, d3⟩ := map_at t.d g1
    rw [innF] at hnext hbad
    by_cases hf : a.frm = b.frm
    · rw [if_pos hf] at hnext hbad
      have := ih (j + 1) acc ea g3 hl hnext hbad
      refine ans_of ?_
      rw [e9n13]
      simp only [gd1, hd1, tl1, dr0, dr1, dr2, dr3, dr4, dr5, dr6, bo1, in1, st1, ls1, le1, pt1, fi1, fb1, fs1, ct1, cf1, nt1, nf1, ak0, akT, akF, cdec, cndec, cbeq, cnbeq, ↓reduceIte, beq_self_eq_true, Int.reduceBEq, Int.reduceEq, Bool.and_true, Bool.true_and, Bool.false_and, Bool.and_false, hjd, eRs_len, enc_len, hi1, hj1, and_self, enc_get hfa, enc_get hfb, hf, next j (by omega)]
      exact this
    · rw [if_neg hf] at hnext hbad
      have hp := pair9 n k hs ls U D t eu ey ed ez (hs.map Bn.frm) (ls.map Bn.frm) a b i j ha g1 acc ea M hl (by omega) (by
        intro hok hc acc' ea' hacc
        have hlen : acc'.length = acc.length + 1 := by
          have := congrArg List.length hacc
          simpa using this
        rw [if_neg (by simp [hok]), List.length_map, if_neg hc] at hnext hbad
        exact ih (j + 1) acc' ea' g3 (by omega) (by rw [hacc]; exact hnext) (by rw [hacc]; exact hbad)) (by
        intro hok
        rw [if_pos hok] at hbad
        exact hbad (by simp)) (by
        intro hok hc
        rw [if_neg (by simp [hok]), List.length_map, if_pos hc] at hbad
        exact hbad (by simp))
      have hka : 0 ≤ (k : Int) ∧ (k : Int) < (a.of.length : Int) := by have := ua.len; have := t.hk; omega
      have hkb : 0 ≤ (k : Int) ∧ (k : Int) < (b.of.length : Int) := by have := db.len; have := t.hk; omega
      have hga := enc_get (getD_get (l := a.of) (k := k) (by omega))
      have hgb := enc_get (getD_get (l := b.of) (k := k) (by omega))
      have b2 := at_bd (k := k) db.of (by omega)
      have hw : IntKind.i64.wrap (0 - b.of.getD k 0) = -(b.of.getD k 0) := by rw [wr (by omega)]; omega
      have hiu : 0 ≤ (i : Int) ∧ (i : Int) < (U.length : Int) := by omega
      refine ans_of ?_
      rw [e9n13]
      simp only [gd1, hd1, tl1, dr0, dr1, dr2, dr3, dr4, dr5, dr6, bo1, in1, st1, ls1, le1, pt1, fi1, fb1, fs1, ct1, cf1, nt1, nf1, ak0, akT, akF, cdec, cndec, cbeq, cnbeq, ↓reduceIte, beq_self_eq_true, Int.reduceBEq, Int.reduceEq, Bool.and_true, Bool.true_and, Bool.false_and, Bool.and_false, hjd, h0j, eRs_len, enc_len, hi1, hj1, hiu, and_self, enc_get hfa, enc_get hfb, hf, eRs_get hu, eRs_get hd, u1, d1, hka, hkb, hga, hgb, hw]
      exact hp
theorem n910 (n k : Nat) (hs ls : List Bn) (U D : List R) (t : Two n k hs ls U D) (eu ey ed ez : Bool) : ∀ (rest : List Bn) (i : Nat) (acc : List R) (ea : Bool), hs.drop i = rest → acc.length ≤ 40 →
    Ans (Or K9n10 [I (n : Int), I (k : Int), r0, o1, LR eu U, lst ey (hs.map Bn.frm), LR ed D, lst ez (ls.map Bn.frm), I (i : Int)] [bF, SR ea acc]) (outF k ls rest (acc.map toC)) := by
  have hlu := map_len t.u
  have hhl := t.hl
  intro rest
  induction rest with
  | nil =>
    intro i acc ea h hl
    have h1 : ¬ (i : Int) < (U.length : Int) := by have := at_end h; omega
    refine ans_of ?_
    rw [e9n10]
    simp only [gd1, hd1, tl1, dr0, dr1, dr2, dr3, dr4, dr5, dr6, bo1, in1, st1, ls1, le1, pt1, fi1, fb1, fs1, ct1, cf1, nt1, nf1, ak0, akT, akF, cdec, cndec, cbeq, cnbeq, ↓reduceIte, beq_self_eq_true, Int.reduceBEq, Int.reduceEq, Bool.and_true, Bool.true_and, Bool.false_and, Bool.and_false, h1, eRs_len]
    exact ans_lst rfl
  | cons a rest ih =>
    intro i acc ea h hl
    obtain ⟨g1, g2, g3⟩ := at_drop h
    have h1 : (i : Int) < (U.length : Int) := by omega
    have := n913 n k hs ls U D t eu ey ed ez a i g1 (by omega) (outF k ls (a :: rest) (acc.map toC)) ls 0 acc ea rfl hl (by
      intro acc' ea' he hl'
      have := ih (i + 1) acc' ea' g3 hl'
      rw [outF, he]
      exact this) (by
      intro hne
      rw [outF, if_neg hne])
    refine ans_of ?_
    rw [e9n10]
    simp only [gd1, hd1, tl1, dr0, dr1, dr2, dr3, dr4, dr5, dr6, bo1, in1, st1, ls1, le1, pt1, fi1, fb1, fs1, ct1, cf1, nt1, nf1, ak0, akT, akF, cdec, cndec, cbeq, cnbeq, ↓reduceIte, beq_self_eq_true, Int.reduceBEq, Int.reduceEq, Bool.and_true, Bool.true_and, Bool.false_and, Bool.and_false, h1, eRs_len]
    exact this
theorem n93 (rows : List R) (e : Bool) (n k : Nat) (hn : n ≤ 12) (hk : k < n) (hr : ∀ r ∈ rows, OkR n r) (hl : rows.length ≤ 40) (M : Int × List C)
    (hend : ∀ (acc : List R) (ea : Bool), acc.map toC = firsts k rows → acc.length ≤ 40 → Ans (Or K9n3 [LR e rows, I (n : Int), I (k : Int), r0, o1, I (rows.length : Int)] [bF, SR ea acc]) M) :
    ∀ (rest : List R) (i : Nat) (acc : List R) (ea : Bool), rows.drop i = rest → i ≤ rows.length → acc.length ≤ i → acc.map toC ++ firsts k rest = firsts k rows →
    Ans (Or K9n3 [LR e rows, I (n : Int), I (k : Int), r0, o1, I (i : Int)] [bF, SR ea acc]) M := by
  intro rest
  induction rest with
  | nil =>
    intro i acc ea h hi hla hf
    have hle := at_end h
    obtain rfl : i = rows.length := by omega
    exact hend acc ea (by simpa [firsts] using hf) (by omega)
  | cons r rest ih =>
    intro i acc ea h hi hla hf
    obtain ⟨g1, g2, g3⟩ := at_drop h
    have h1 : (i : Int) < (rows.length : Int) := by omega
    have h0 : 0 ≤ (i : Int) := by omega
    have hmem := List.mem_of_getElem? g1
    have ok := hr r hmem
    obtain ⟨e', k1⟩ := s20 r ok.kd ok.of ok.tv (by have := ok.len; omega)
    have hsm : small 40 (acc.length + [eR ⟨e', (tidyF r.of r.kd r.tv).1, r.kd, (tidyF r.of r.kd r.tv).2⟩].length) = some () := small_ok (by simp; omega)
    have happ : eRs acc ++ [eR ⟨e', (tidyF r.of r.kd r.tv).1, r.kd, (tidyF r.of r.kd r.tv).2⟩] = eRs (acc ++ [⟨e', (tidyF r.of r.kd r.tv).1, r.kd, (tidyF r.of r.kd r.tv).2⟩]) := by simp [eRs]
    unfold eR at hsm happ
    rw [firsts] at hf
    by_cases hz : r.of.getD k 0 = 0
    · rw [if_pos hz] at hf
      have := ih (i + 1) (acc ++ [⟨e', (tidyF r.of r.kd r.tv).1, r.kd, (tidyF r.of r.kd r.tv).2⟩]) (ea && false) g3 (by omega) (by simp; omega) (by
        rw [← hf]; simp [tidyC])
      rw [Bool.and_false] at this
      refine ans_of ?_
      rw [e9n3]
      simp only [gd1, hd1, tl1, dr0, dr1, dr2, dr3, dr4, dr5, dr6, bo1, in1, st1, ls1, le1, pt1, fi1, fb1, fs1, ct1, cf1, nt1, nf1, ak0, akT, akF, cdec, cndec, cbeq, cnbeq, ↓reduceIte, beq_self_eq_true, Int.reduceBEq, Int.reduceEq, Bool.and_true, Bool.true_and, Bool.false_and, Bool.and_false, h1, h0, and_self, eRs_len, eRs_get g1, s12, hz, k1, hsm, happ, next i (by omega)]
      exact this
    · rw [if_neg hz] at hf
      have := ih (i + 1) acc ea g3 (by omega) (by omega) hf
      refine ans_of ?_
      rw [e9n3]
      simp only [gd1, hd1, tl1, dr0, dr1, dr2, dr3, dr4, dr5, dr6, bo1, in1, st1, ls1, le1, pt1, fi1, fb1, fs1, ct1, cf1, nt1, nf1, ak0, akT, akF, cdec, cndec, cbeq, cnbeq, ↓reduceIte, beq_self_eq_true, Int.reduceBEq, Int.reduceEq, Bool.and_true, Bool.true_and, Bool.false_and, Bool.and_false, h1, h0, and_self, eRs_len, eRs_get g1, s12, hz, next i (by omega)]
      exact this
theorem s9 (rows : List R) (e : Bool) (n k : Nat) (hn : n ≤ 12) (hk : k < n) (hr : ∀ r ∈ rows, OkR n r) (hl : rows.length ≤ 40) :
    Ans (Or (.call 9) [LR e rows, I (n : Int), I (k : Int)] []) (awayF n k rows) := by
  have main : Ans (Or K9n3 [LR e rows, I (n : Int), I (k : Int), r0, o1, I 0] [bF, SR true []]) (awayF n k rows) := by
    refine n93 rows e n k hn hk hr hl (awayF n k rows) ?_ rows 0 [] true rfl (by omega) (by simp) (by simp)
    intro acc ea ha hla
    obtain ⟨U, eu, ey, k1, k2⟩ := s21 rows e n k 1 (by omega) hn hr hl
    obtain ⟨D, ed, ez, k3, k4⟩ := s21 rows e n k (-1) (by omega) hn hr hl
    rw [sd_up] at k1 k2
    rw [sd_dn] at k3 k4
    have t : Two n k (ups n k rows 0) (dns n k rows 0) U D := ⟨hn, hk, up_ok hk rows 0 hr, dn_ok hk rows 0 hr, by have := ups_len n k rows 0; omega, by have := dns_len n k rows 0; omega, k2, k4⟩
    have := n910 n k _ _ U D t eu ey ed ez (ups n k rows 0) 0 acc ea rfl hla
    rw [ha] at this
    refine ans_of ?_
    rw [e9n3]
    have h1 : ¬ (rows.length : Int) < (rows.length : Int) := by omega
    simp only [gd1, hd1, tl1, dr0, dr1, dr2, dr3, dr4, dr5, dr6, bo1, in1, st1, ls1, le1, pt1, fi1, fb1, fs1, ct1, cf1, nt1, nf1, ak0, akT, akF, cdec, cndec, cbeq, cnbeq, ↓reduceIte, beq_self_eq_true, Int.reduceBEq, Int.reduceEq, Bool.and_true, Bool.true_and, Bool.false_and, Bool.and_false, h1, k1, k3, eRs_len]
    exact this
  refine ans_of ?_
  rw [e9]
  exact main
end Go.Aev.Gen
