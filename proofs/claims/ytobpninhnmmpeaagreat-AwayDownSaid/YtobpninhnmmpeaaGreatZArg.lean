/-
  Arguments: numbers, rows, fractions; the law of points that stay.
-/
import Derived.Test.YtobpninhnmmpeaaGreatZHold
import Derived.Test.YtobpninhnmmpeaaGreatAevFrame
set_option linter.unusedSimpArgs false
set_option linter.unusedVariables false
namespace Go.Aev.Gen
open Go Go.Aev Go.Proofs

set_option maxRecDepth 1000000 in
theorem int_wt {n : Nat} {ts : List T} (h : Wt PROG (n + 1) 3 ts) : ∃ m : Int, ts = [ti m] := by
  have hu : PROG.underlying 3 = some (.int .i64) := Tryz.underlying3
  have h3 := @wt_int PROG n 3 ts .i64 hu h
  obtain ⟨m, h2, _⟩ := h3
  exact ⟨m, h2⟩
theorem cellsI : PROG.cellsOf 3 = 1 := by kernel_rfl
theorem cellsR : PROG.cellsOf 58 = 3 := by kernel_rfl
theorem cellsF : PROG.cellsOf 25 = 2 := by kernel_rfl
set_option maxRecDepth 1000000 in
theorem row_wt {n : Nat} {ts : List T} (h : Wt PROG (n + 3) 58 ts) : ∃ j : { r : R // r.e = true → r.of = [] }, ts = eR j.1 := by
  have hu := (Tryz.underlying58 : PROG.underlying 58 = _)
  have h1 := wt_struct hu h
  obtain ⟨a, b, rfl, g1, c, d, rfl, g2, e, f, rfl, g3, rfl⟩ := h1
  have hu2 := (Tryz.underlying56 : PROG.underlying 56 = _)
  obtain ⟨b, l, h2, h4, _⟩ := wt_list (fun z : Int => [ti z]) hu2 g1 (fun cs hc => int_wt hc)
  rw [cellsI] at h2
  subst h2
  obtain ⟨y, rfl⟩ := int_wt g2
  obtain ⟨z, rfl⟩ := int_wt g3
  exact ⟨⟨⟨b, l, y, z⟩, h4⟩, rfl⟩
set_option maxRecDepth 1000000 in
theorem frac_wt {n : Nat} {ts : List T} (h : Wt PROG (n + 2) 25 ts) : ∃ x : Fr, ts = [ti x.1, ti x.2] := by
  have hu := (Tryz.underlying25 : PROG.underlying 25 = _)
  have h1 := wt_struct hu h
  obtain ⟨a, b, rfl, g1, c, d, rfl, g2, rfl⟩ := h1
  obtain ⟨y, rfl⟩ := int_wt g1
  obtain ⟨z, rfl⟩ := int_wt g2
  exact ⟨(y, z), rfl⟩
set_option maxRecDepth 1000000 in
theorem rows_arg {n : Nat} {a : AV} (h : (isAggT PROG 22 = true ∧ ∃ l, Wt PROG (n + 4) 22 l ∧ a = .agg (l.map .t)) ∨ (isAggT PROG 22 = false ∧ ∃ x, Wt PROG (n + 4) 22 [x] ∧ a = .t x)) : ∃ e l, a = LR e l ∧ (∀ r ∈ l, r.e = true → r.of = []) := by
  obtain ⟨x, h1, rfl⟩ := arg_one h (by kernel_rfl)
  have hu := (Tryz.underlying22 : PROG.underlying 22 = _)
  obtain ⟨b, l, h2, _⟩ := wt_list (fun j : { r : R // r.e = true → r.of = [] } => eR j.1) hu h1 (fun cs hc => row_wt hc)
  rw [cellsR] at h2
  simp only [List.cons.injEq, and_true] at h2
  subst h2
  refine ⟨b, l.map (·.1), ?_, fun r hr => ?_⟩
  · simp only [LR, eRs, List.map_map]; rfl
  · obtain ⟨j, _, rfl⟩ := List.mem_map.1 hr
    exact j.2
set_option maxRecDepth 1000000 in
theorem fracs_arg {n : Nat} {a : AV} (h : (isAggT PROG 23 = true ∧ ∃ l, Wt PROG (n + 4) 23 l ∧ a = .agg (l.map .t)) ∨ (isAggT PROG 23 = false ∧ ∃ x, Wt PROG (n + 4) 23 [x] ∧ a = .t x)) : ∃ e l, a = LN e l ∧ (e = true → l = []) := by
  obtain ⟨x, h1, rfl⟩ := arg_one h (by kernel_rfl)
  have hu := (Tryz.underlying23 : PROG.underlying 23 = _)
  obtain ⟨b, l, h2, h4, _⟩ := wt_list (fun x : Fr => [ti x.1, ti x.2]) hu h1 (fun cs hc => frac_wt (n := n + 1) hc)
  rw [cellsF] at h2
  simp only [List.cons.injEq, and_true] at h2
  subst h2
  exact ⟨b, l, rfl, h4⟩
set_option maxRecDepth 1000000 in
theorem int_arg {n : Nat} {a : AV} (h : (isAggT PROG 3 = true ∧ ∃ l, Wt PROG (n + 1) 3 l ∧ a = .agg (l.map .t)) ∨ (isAggT PROG 3 = false ∧ ∃ x, Wt PROG (n + 1) 3 [x] ∧ a = .t x)) : ∃ m, a = I m := by
  obtain ⟨x, h1, rfl⟩ := arg_one h (by kernel_rfl)
  obtain ⟨m, h2⟩ := int_wt h1
  simp only [List.cons.injEq, and_true] at h2
  subst h2
  exact ⟨m, rfl⟩
theorem lawDown (rows : List R) (e : Bool) (n k : Int) (ep : Bool) (p : List Fr) (hr : ∀ r ∈ rows, r.e = true → r.of = []) : Or (.call 4) [LR e rows, I n, I k, LN ep p] [] = some [tb true] := by
  by_cases hK : (chkK n k rows).1 = 0
  · have hc : (chkN n rows).1 = 0 := by
      unfold chkK at hK
      split at hK
      · rename_i h; exact h
      · exact hK
    obtain ⟨n0, n12, hl, ok⟩ := chkN_ok hr hc
    have hk : ¬ (k < 0 ∨ k ≥ n) := by
      intro h
      unfold chkK at hK
      rw [if_pos hc, if_pos h] at hK
      simp at hK
    obtain ⟨n, rfl⟩ := Int.eq_ofNat_of_zero_le n0
    obtain ⟨k, rfl⟩ := Int.eq_ofNat_of_zero_le (show 0 ≤ k by omega)
    rw [Int.toNat_natCast] at ok
    have hkn : k < n := by omega
    have hn : n ≤ 12 := by omega
    obtain ⟨x, ex, rs, a1, a2, a3, a4⟩ := s6b rows e n k hn hkn ok hl hK
    by_cases hM : (awayF n k rows).1 = 0
    · by_cases hp : (p.length : Int) = (n : Int)
      · have hpl : p.length = n := by omega
        have hg : ∀ r ∈ rs, Good n k (toC r) := fun r hr => away_good hn hkn ok _ (by rw [← a3]; exact List.mem_map_of_mem hr)
        have hok : ∀ r ∈ rs, OkR n r := fun r hr => good_ok (hg r hr) (a4 r hr)
        have hlen : rs.length ≤ 40 := by
          have := away_len (n := n) (k := k) hl
          rw [← a3, List.length_map] at this; exact this
        have k1 := s13 ep p (by omega)
        cases hall : p.all fun x => decide (Wd.FrR x) with
        | false =>
          rw [hall] at k1
          refine orc_of ?_
          rw [eq4]
          simp only [gd1, hd1, tl1, dr0, dr1, dr2, dr3, dr4, dr5, dr6, bo1, in1, st1, ls1, le1, pt1, fi1, fb1, fs1, ct1, cf1, nt1, nf1, ak0, akT, akF, cdec, cndec, cbeq, cnbeq, ↓reduceIte, beq_self_eq_true, Int.reduceBEq, Int.reduceEq, Bool.and_true, Bool.true_and, Bool.false_and, Bool.and_false, gdF, s11, a1, a2, hM, Wd.encF_len, hp, k1]
        | true =>
          rw [hall] at k1
          have hx : ∀ x ∈ p, Wd.FrR x := fun x hx => of_decide_eq_true (List.all_eq_true.1 hall x hx)
          have k2 := s14q e rows ep p (by omega) (by rw [hpl]; exact ok) hx hl
          have k3 := s14q ex rs ep p (by omega) (by rw [hpl]; exact hok) hx hlen
          cases h2 : rows.all fun r => holdB (toC r) p with
          | false =>
            rw [h2] at k2
            refine orc_of ?_
            rw [eq4]
            simp only [gd1, hd1, tl1, dr0, dr1, dr2, dr3, dr4, dr5, dr6, bo1, in1, st1, ls1, le1, pt1, fi1, fb1, fs1, ct1, cf1, nt1, nf1, ak0, akT, akF, cdec, cndec, cbeq, cnbeq, ↓reduceIte, beq_self_eq_true, Int.reduceBEq, Int.reduceEq, Bool.and_true, Bool.true_and, Bool.false_and, Bool.and_false, gdF, s11, a1, a2, hM, Wd.encF_len, hp, k1, k2]
          | true =>
            rw [h2] at k2
            have hh : ∀ r ∈ rows, holdC (toC r) (p.map Wd.frQ) := fun r hr => (holdB_iff _ _).1 (List.all_eq_true.1 h2 r hr)
            have h3 : (rs.all fun r => holdB (toC r) p) = true := List.all_eq_true.2 fun r hr => (holdB_iff _ _).2 (away_hold hkn ok hh _ (by rw [← a3]; exact List.mem_map_of_mem hr))
            rw [h3] at k3
            refine orc_of ?_
            rw [eq4]
            simp only [gd1, hd1, tl1, dr0, dr1, dr2, dr3, dr4, dr5, dr6, bo1, in1, st1, ls1, le1, pt1, fi1, fb1, fs1, ct1, cf1, nt1, nf1, ak0, akT, akF, cdec, cndec, cbeq, cnbeq, ↓reduceIte, beq_self_eq_true, Int.reduceBEq, Int.reduceEq, Bool.and_true, Bool.true_and, Bool.false_and, Bool.and_false, s11, a1, a2, hM, Wd.encF_len, hp, k1, k2, k3]
      · refine orc_of ?_
        rw [eq4]
        have hpb : ((p.length : Int) == (n : Int)) = false := by simpa using hp
        simp only [gd1, hd1, tl1, dr0, dr1, dr2, dr3, dr4, dr5, dr6, bo1, in1, st1, ls1, le1, pt1, fi1, fb1, fs1, ct1, cf1, nt1, nf1, ak0, akT, akF, cdec, cndec, cbeq, cnbeq, ↓reduceIte, beq_self_eq_true, Int.reduceBEq, Int.reduceEq, Bool.and_true, Bool.true_and, Bool.false_and, Bool.and_false, s11, a1, a2, hM, Wd.encF_len, hp, hpb]
        try rfl
    · have hnil : (awayF n k rows).2 = [] := out_bad _ _ _ hM
      rw [hnil] at a3
      have : rs = [] := by simpa using a3
      subst this
      have hMb : ((awayF n k rows).1 == 0) = false := by simpa using hM
      refine orc_of ?_
      rw [eq4]
      simp only [gd1, hd1, tl1, dr0, dr1, dr2, dr3, dr4, dr5, dr6, bo1, in1, st1, ls1, le1, pt1, fi1, fb1, fs1, ct1, cf1, nt1, nf1, ak0, akT, akF, cdec, cndec, cbeq, cnbeq, ↓reduceIte, beq_self_eq_true, Int.reduceBEq, Int.reduceEq, Bool.and_true, Bool.true_and, Bool.false_and, Bool.and_false, s11, a1, a2, hM, hMb]
      rfl
  · have h6 := s6a rows e n k hr hK
    have hKb : ((chkK n k rows).1 == 0) = false := by simpa using hK
    refine orc_of ?_
    rw [eq4]
    simp only [gd1, hd1, tl1, dr0, dr1, dr2, dr3, dr4, dr5, dr6, bo1, in1, st1, ls1, le1, pt1, fi1, fb1, fs1, ct1, cf1, nt1, nf1, ak0, akT, akF, cdec, cndec, cbeq, cnbeq, ↓reduceIte, beq_self_eq_true, Int.reduceBEq, Int.reduceEq, Bool.and_true, Bool.true_and, Bool.false_and, Bool.and_false, s11, h6, hK, hKb]
    rfl
set_option maxRecDepth 1000000 in
theorem claim4 (vs : List AV) (h : ArgWt PROG (19 + 1) Tryz.f4.params.toList vs) : Or (.call 4) vs [] = some [.bool true] := by
  rw [Tryz.params4] at h
  obtain ⟨a, _, rfl, h1, b, _, rfl, h2, c, _, rfl, h3, d, _, rfl, h4, rfl⟩ := h
  obtain ⟨e, q, rfl, hq⟩ := rows_arg h1
  obtain ⟨n, rfl⟩ := int_arg h2
  obtain ⟨k, rfl⟩ := int_arg h3
  obtain ⟨ep, p, rfl, _⟩ := fracs_arg h4
  exact lawDown q e n k ep p hq
end Go.Aev.Gen
