import Derived.Test.YtobpninhnmmpeaaGreatAwayBacksQ10
import Derived.Test.YtobpninhnmmpeaaGreatAwayBacksQ4
import Derived.Test.YtobpninhnmmpeaaGreatAwayBacksQ14
set_option linter.unusedSimpArgs false
set_option linter.unusedVariables false
namespace Go.Aev.Gen
open Go Go.Aev Go.Proofs

set_option maxRecDepth 1000000 in
theorem int_wt {n : Nat} {ts : List T} (h : Wt PROG (n + 1) 3 ts) : ∃ m : Int, ts = [ti m] := by
  have hu : PROG.underlying 3 = some (.int .i64) := Tryz.underlying3
  have h3 := @wt_int PROG n 3 ts .i64 hu h
  obtain ⟨m, h2, _⟩ := h3
  exact ⟨m, h2⟩
theorem cellsI : PROG.cellsOf 3 = 1 := by kernel_rfl
theorem cellsR : PROG.cellsOf 58 = 3 := by kernel_rfl
theorem cellsF : PROG.cellsOf 25 = 2 := by kernel_rfl
set_option maxRecDepth 1000000 in
theorem row_wt {n : Nat} {ts : List T} (h : Wt PROG (n + 3) 58 ts) : ∃ j : { r : R // r.e = true → r.of = [] }, ts = eR j.1 := by
  have hu := (Tryz.underlying58 : PROG.underlying 58 = _)
  have h1 := wt_struct hu h
  obtain ⟨a, b, rfl, g1, c, d, rfl, g2, e, f, rfl, g3, rfl⟩ := h1
  have hu2 := (Tryz.underlying56 : PROG.underlying 56 = _)
  obtain ⟨b, l, h2, h4, _⟩ := wt_list (fun z : Int => [ti z]) hu2 g1 (fun cs hc => int_wt hc)
  rw [cellsI] at h2
  subst h2
  obtain ⟨y, rfl⟩ := int_wt g2
  obtain ⟨z, rfl⟩ := int_wt g3
  exact ⟨⟨⟨b, l, y, z⟩, h4⟩, rfl⟩
set_option maxRecDepth 1000000 in
theorem frac_wt {n : Nat} {ts : List T} (h : Wt PROG (n + 2) 25 ts) : ∃ x : Fr, ts = [ti x.1, ti x.2] := by
  have hu := (Tryz.underlying25 : PROG.underlying 25 = _)
  have h1 := wt_struct hu h
  obtain ⟨a, b, rfl, g1, c, d, rfl, g2, rfl⟩ := h1
  obtain ⟨y, rfl⟩ := int_wt g1
  obtain ⟨z, rfl⟩ := int_wt g2
  exact ⟨(y, z), rfl⟩
set_option maxRecDepth 1000000 in
theorem rows_arg {n : Nat} {a : AV} (h : (isAggT PROG 22 = true ∧ ∃ l, Wt PROG (n + 4) 22 l ∧ a = .agg (l.map .t)) ∨ (isAggT PROG 22 = false ∧ ∃ x, Wt PROG (n + 4) 22 [x] ∧ a = .t x)) : ∃ e l, a = LR e l ∧ (∀ r ∈ l, r.e = true → r.of = []) := by
  obtain ⟨x, h1, rfl⟩ := arg_one h (by kernel_rfl)
  have hu := (Tryz.underlying22 : PROG.underlying 22 = _)
  obtain ⟨b, l, h2, _⟩ := wt_list (fun j : { r : R // r.e = true → r.of = [] } => eR j.1) hu h1 (fun cs hc => row_wt hc)
  rw [cellsR] at h2
  simp only [List.cons.injEq, and_true] at h2
  subst h2
  refine ⟨b, l.map (·.1), ?_, fun r hr => ?_⟩
  · simp only [LR, eRs, List.map_map]; rfl
  · obtain ⟨j, _, rfl⟩ := List.mem_map.1 hr
    exact j.2
set_option maxRecDepth 1000000 in
theorem fracs_arg {n : Nat} {a : AV} (h : (isAggT PROG 23 = true ∧ ∃ l, Wt PROG (n + 4) 23 l ∧ a = .agg (l.map .t)) ∨ (isAggT PROG 23 = false ∧ ∃ x, Wt PROG (n + 4) 23 [x] ∧ a = .t x)) : ∃ e l, a = LN e l ∧ (e = true → l = []) := by
  obtain ⟨x, h1, rfl⟩ := arg_one h (by kernel_rfl)
  have hu := (Tryz.underlying23 : PROG.underlying 23 = _)
  obtain ⟨b, l, h2, h4, _⟩ := wt_list (fun x : Fr => [ti x.1, ti x.2]) hu h1 (fun cs hc => frac_wt (n := n + 1) hc)
  rw [cellsF] at h2
  simp only [List.cons.injEq, and_true] at h2
  subst h2
  exact ⟨b, l, rfl, h4⟩
set_option maxRecDepth 1000000 in
theorem int_arg {n : Nat} {a : AV} (h : (isAggT PROG 3 = true ∧ ∃ l, Wt PROG (n + 1) 3 l ∧ a = .agg (l.map .t)) ∨ (isAggT PROG 3 = false ∧ ∃ x, Wt PROG (n + 1) 3 [x] ∧ a = .t x)) : ∃ m, a = I m := by
  obtain ⟨x, h1, rfl⟩ := arg_one h (by kernel_rfl)
  obtain ⟨m, h2⟩ := int_wt h1
  simp only [List.cons.injEq, and_true] at h2
  subst h2
  exact ⟨m, rfl⟩
end Go.Aev.Gen
namespace Go.Aev.Wd.Lg
open Go Go.Aev Go.Aev.Gen Go.Aev.Wd

theorem two_ex (h l : Rat) (p q : Bool) : ∃ a b c d, two h l p q = [ti a, ti b, ti c, ti d] := by
  unfold two
  split
  · exact ⟨_, _, _, _, rfl⟩
  · exact frac_ex _
theorem back_ex (k : Nat) (nums : List Fr) : ∀ us ds : List Bn, ∃ a b c d, backF k nums us ds = [ti a, ti b, ti c, ti d]
  | [], [] => ⟨_, _, _, _, rfl⟩
  | u :: us, [] => frac_ex _
  | [], d :: ds => frac_ex _
  | u :: us, d :: ds => two_ex _ _ _ _
abbrev bx (a b : Int) : Blk := Blk.box [I a, I b]
theorem n3x (rows : List R) (e en : Bool) (n k : Int) (nums : List Fr) (c d i : Int) (hc : c ≠ 0) :
    Or Kq3n11 [LR e rows, I n, I k, LN en nums, r0, AV.ref (Id.c 1) 0, AV.ref (Id.c 2) 0, I i] [bx 0 0, bx c d, bx c d] = some [tb true] := by
  have hcb : (c == 0) = false := by simpa using hc
  refine orc_of ?_
  rw [eq3n11]
  by_cases h1 : i < (nums.length : Int)
  · simp only [gd1, hd1, tl1, dr0, dr1, dr2, dr3, dr4, dr5, dr6, bo1, in1, st1, ls1, le1, pt1, fi1, fb1, fs1, ct1, cf1, nt1, nf1, ak0, akT, akF, cdec, cndec, cbeq, cnbeq, ↓reduceIte, beq_self_eq_true, Int.reduceBEq, Int.reduceEq, Bool.and_true, Bool.true_and, Bool.false_and, Bool.and_false, encF_len, h1, hc, hcb]
    try rfl
  · simp only [gd1, hd1, tl1, dr0, dr1, dr2, dr3, dr4, dr5, dr6, bo1, in1, st1, ls1, le1, pt1, fi1, fb1, fs1, ct1, cf1, nt1, nf1, ak0, akT, akF, cdec, cndec, cbeq, cnbeq, ↓reduceIte, beq_self_eq_true, Int.reduceBEq, Int.reduceEq, Bool.and_true, Bool.true_and, Bool.false_and, Bool.and_false, encF_len, h1, hc, hcb]
    try rfl
theorem n3 (rows : List R) (e en : Bool) (n k : Int) (nums : List Fr) (hl : nums.length ≤ 12) (a b c d w : Int)
    (h5 : ∀ j, nmF k nums 0 = some j → a = 0 ∧ b = 0 ∧ c = 5 ∧ d = j)
    (h10 : nmF k nums 0 = none → Or (.call 10) [LR e rows, I n, I k, LN en nums] [] = some [ti a, ti b, ti c, ti d]) :
    ∀ (rest : List Fr) (i : Nat), nums.drop i = rest → nmF k nums 0 = nmF k rest (i : Int) →
    Or Kq3n11 [LR e rows, I n, I k, LN en nums, r0, AV.ref (Id.c 1) 0, AV.ref (Id.c 2) 0, I (i : Int)] [bx a b, bx c d, bx 0 w] = some [tb true] := by
  intro rest
  induction rest with
  | nil =>
    intro i h hf
    have h1 : ¬ (i : Int) < (nums.length : Int) := by have := at_end h; omega
    have := h10 hf
    refine orc_of ?_
    rw [eq3n11]
    simp only [gd1, hd1, tl1, dr0, dr1, dr2, dr3, dr4, dr5, dr6, bo1, in1, st1, ls1, le1, pt1, fi1, fb1, fs1, ct1, cf1, nt1, nf1, ak0, akT, akF, cdec, cndec, cbeq, cnbeq, ↓reduceIte, beq_self_eq_true, Int.reduceBEq, Int.reduceEq, Bool.and_true, Bool.true_and, Bool.false_and, Bool.and_false, encF_len, h1, this]
    try rfl
  | cons x rest ih =>
    intro i h hf
    obtain ⟨g1, g2, g3⟩ := at_drop h
    have h1 : (i : Int) < (nums.length : Int) := by omega
    have h0 : 0 ≤ (i : Int) := by omega
    have k1 := s9f x
    have k8 := Gen.s8 5 (i : Int)
    have hcast : ((i : Int) + 1) = ((i + 1 : Nat) : Int) := by omega
    by_cases hk : (i : Int) = k
    · have hm : nmF k (x :: rest) (i : Int) = nmF k rest ((i + 1 : Nat) : Int) := by rw [nmF, if_neg (fun h => h.1 hk), hcast]
      rw [hm] at hf
      have := ih (i + 1) g3 hf
      subst hk
      refine orc_of ?_
      rw [eq3n11]
      simp only [gd1, hd1, tl1, dr0, dr1, dr2, dr3, dr4, dr5, dr6, bo1, in1, st1, ls1, le1, pt1, fi1, fb1, fs1, ct1, cf1, nt1, nf1, ak0, akT, akF, cdec, cndec, cbeq, cnbeq, ↓reduceIte, beq_self_eq_true, Int.reduceBEq, Int.reduceEq, Bool.and_true, Bool.true_and, Bool.false_and, Bool.and_false, gdF, h1, h0, and_self, encF_len, encF_get g1, k1, Bool.not_true, next i (by omega)]
      exact this
    · have hkb : ((i : Int) == k) = false := by simpa using hk
      by_cases hr : FrR x
      · have hm : nmF k (x :: rest) (i : Int) = nmF k rest ((i + 1 : Nat) : Int) := by rw [nmF, if_neg (fun h => h.2 hr), hcast]
        rw [hm] at hf
        have := ih (i + 1) g3 hf
        rw [decide_eq_true hr] at k1
        refine orc_of ?_
        rw [eq3n11]
        simp only [gd1, hd1, tl1, dr0, dr1, dr2, dr3, dr4, dr5, dr6, bo1, in1, st1, ls1, le1, pt1, fi1, fb1, fs1, ct1, cf1, nt1, nf1, ak0, akT, akF, cdec, cndec, cbeq, cnbeq, ↓reduceIte, beq_self_eq_true, Int.reduceBEq, Int.reduceEq, Bool.and_true, Bool.true_and, Bool.false_and, Bool.and_false, h1, h0, and_self, encF_len, encF_get g1, hkb, k1, next i (by omega)]
        exact this
      · have hm : nmF k (x :: rest) (i : Int) = some (i : Int) := by rw [nmF, if_pos ⟨hk, hr⟩]
        rw [hm] at hf
        obtain ⟨rfl, rfl, rfl, rfl⟩ := h5 _ hf
        rw [decide_eq_false hr] at k1
        have := n3x rows e en n k nums 5 (i : Int) ((i + 1 : Nat) : Int) (by omega)
        refine orc_of ?_
        rw [eq3n11]
        simp only [gd1, hd1, tl1, dr0, dr1, dr2, dr3, dr4, dr5, dr6, bo1, in1, st1, ls1, le1, pt1, fi1, fb1, fs1, ct1, cf1, nt1, nf1, ak0, akT, akF, cdec, cndec, cbeq, cnbeq, ↓reduceIte, beq_self_eq_true, Int.reduceBEq, Int.reduceEq, Bool.and_true, Bool.true_and, Bool.false_and, Bool.and_false, h1, h0, and_self, encF_len, encF_get g1, hkb, k1, k8, next i (by omega)]
        exact this
theorem lawBacks (rows : List R) (e en : Bool) (n k : Int) (nums : List Fr) (hr : ∀ r ∈ rows, r.e = true → r.of = []) (he : en = true → nums = []) : Or (.call 3) [LR e rows, I n, I k, LN en nums] [] = some [tb true] := by
  have k6 := s6p rows e en n k nums hr
  have kz : Or (.call 6) [AV.t (T.lst 3 true []), I (-1), I 0, AV.t (T.lst 2 true [])] [] = some [ti 0, ti 0, ti 3, ti (-1)] := by
    have := s6p [] true true (-1) 0 [] (by simp)
    exact this
  have k7 := s7n rows e n
  have f3 := Gen.s8 3 (-1)
  have f9 := Gen.s8 9 0
  have h33 : ((3 : Int) == 0) = false := rfl
  by_cases hc : (chkN n rows).1 = 0
  · obtain ⟨n0, n12, hl, ok⟩ := chkN_ok hr hc
    have hcb : ((chkN n rows).1 == 0) = true := by rw [hc]; rfl
    by_cases hk : k < 0 ∨ k ≥ n
    · have hK : chkK n k rows = (3, -1) := by unfold chkK; rw [if_pos hc, if_pos hk]
      have hb : backA n k rows nums = [ti 0, ti 0, ti 3, ti (-1)] := by unfold backA; rw [hK]; rfl
      rw [hb] at k6
      have := n3x rows e en n k nums 3 (-1) 0 (by omega)
      refine orc_of ?_
      rw [eq3]
      simp only [cor, ← Bool.decide_or]
      simp only [gd1, hd1, tl1, dr0, dr1, dr2, dr3, dr4, dr5, dr6, bo1, in1, st1, ls1, le1, pt1, fi1, fb1, fs1, ct1, cf1, nt1, nf1, ak0, akT, akF, cdec, cndec, cbeq, cnbeq, ↓reduceIte, beq_self_eq_true, Int.reduceBEq, Int.reduceEq, Bool.and_true, Bool.true_and, Bool.false_and, Bool.and_false, k6, kz, k7, f3, hc, hk, h33]
      exact this
    · have hK : chkK n k rows = (0, 0) := by unfold chkK; rw [if_pos hc, if_neg hk]
      by_cases hn : (nums.length : Int) = n
      · obtain ⟨n, rfl⟩ := Int.eq_ofNat_of_zero_le n0
        obtain ⟨k, rfl⟩ := Int.eq_ofNat_of_zero_le (show 0 ≤ k by omega)
        rw [Int.toNat_natCast] at ok
        have hkn : k < n := by omega
        have hnl : n = nums.length := by omega
        have hb : ∃ a b c d, backA n k rows nums = [ti a, ti b, ti c, ti d] ∧ (∀ j, nmF k nums 0 = some j → a = 0 ∧ b = 0 ∧ c = 5 ∧ d = j) ∧ (nmF k nums 0 = none → Or (.call 10) [LR e rows, I (n : Int), I (k : Int), LN en nums] [] = some [ti a, ti b, ti c, ti d]) := by
          unfold backA
          rw [hK, if_pos rfl, if_pos hn]
          cases hm : nmF k nums 0 with
          | some j => exact ⟨0, 0, 5, j, rfl, fun i h => ⟨rfl, rfl, rfl, (by injection h)⟩, fun h => by cases h⟩
          | none =>
            obtain ⟨a, b, c, d, h⟩ := back_ex k nums (ups n k rows 0) (dns n k rows 0)
            have h10 := s10b rows e en n k nums (by omega) hkn hnl ok hl (okn_of hm)
            rw [h] at h10
            exact ⟨a, b, c, d, h, (fun j h => by cases h), fun _ => h10⟩
        obtain ⟨a, b, c, d, hb, h5, h10⟩ := hb
        rw [hb] at k6
        have := n3 rows e en n k nums (by omega) a b c d (chkN (n : Int) rows).2 h5 h10 nums 0 rfl rfl
        refine orc_of ?_
        rw [eq3]
        simp only [cor, ← Bool.decide_or]
        simp only [gd1, hd1, tl1, dr0, dr1, dr2, dr3, dr4, dr5, dr6, bo1, in1, st1, ls1, le1, pt1, fi1, fb1, fs1, ct1, cf1, nt1, nf1, ak0, akT, akF, cdec, cndec, cbeq, cnbeq, ↓reduceIte, beq_self_eq_true, Int.reduceBEq, Int.reduceEq, Bool.and_true, Bool.true_and, Bool.false_and, Bool.and_false, k6, kz, k7, f3, hc, hk, h33, encF_len, hn]
        exact this
      · have hnb : ((nums.length : Int) == n) = false := by simpa using hn
        have hb : backA n k rows nums = [ti 0, ti 0, ti 9, ti 0] := by unfold backA; rw [hK, if_pos rfl, if_neg hn]
        rw [hb] at k6
        have := n3x rows e en n k nums 9 0 0 (by omega)
        refine orc_of ?_
        rw [eq3]
        simp only [cor, ← Bool.decide_or]
        simp only [gd1, hd1, tl1, dr0, dr1, dr2, dr3, dr4, dr5, dr6, bo1, in1, st1, ls1, le1, pt1, fi1, fb1, fs1, ct1, cf1, nt1, nf1, ak0, akT, akF, cdec, cndec, cbeq, cnbeq, ↓reduceIte, beq_self_eq_true, Int.reduceBEq, Int.reduceEq, Bool.and_true, Bool.true_and, Bool.false_and, Bool.and_false, k6, kz, k7, f3, f9, hc, hk, h33, encF_len, hnb]
        exact this
  · have hcb : ((chkN n rows).1 == 0) = false := by simpa using hc
    have hK : chkK n k rows = chkN n rows := by unfold chkK; rw [if_neg hc]
    have hb : backA n k rows nums = [ti 0, ti 0, ti (chkN n rows).1, ti (chkN n rows).2] := by unfold backA; rw [hK, if_neg hc]
    rw [hb] at k6
    have := n3x rows e en n k nums (chkN n rows).1 (chkN n rows).2 0 hc
    refine orc_of ?_
    rw [eq3]
    simp only [gd1, hd1, tl1, dr0, dr1, dr2, dr3, dr4, dr5, dr6, bo1, in1, st1, ls1, le1, pt1, fi1, fb1, fs1, ct1, cf1, nt1, nf1, ak0, akT, akF, cdec, cndec, cbeq, cnbeq, ↓reduceIte, beq_self_eq_true, Int.reduceBEq, Int.reduceEq, Bool.and_true, Bool.true_and, Bool.false_and, Bool.and_false, k6, kz, k7, f3, hc, hcb, h33]
    exact this
end Go.Aev.Wd.Lg
namespace Go.Aev.Gen
open Go Go.Aev Go.Proofs
set_option maxRecDepth 1000000 in
theorem claim3 (vs : List AV) (h : ArgWt PROG (19 + 1) Tryz.f3.params.toList vs) : Or (.call 3) vs [] = some [.bool true] := by
  rw [Tryz.params3] at h
  obtain ⟨a, _, rfl, h1, b, _, rfl, h2, c, _, rfl, h3, d, _, rfl, h4, rfl⟩ := h
  obtain ⟨e, q, rfl, hq⟩ := rows_arg h1
  obtain ⟨n, rfl⟩ := int_arg h2
  obtain ⟨k, rfl⟩ := int_arg h3
  obtain ⟨ep, p, rfl, hp⟩ := fracs_arg h4
  exact Wd.Lg.lawBacks q e ep n k p hq hp
end Go.Aev.Gen
