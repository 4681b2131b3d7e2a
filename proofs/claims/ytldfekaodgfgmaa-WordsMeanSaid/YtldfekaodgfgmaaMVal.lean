/-
  A node of words means what its operation makes: the law.
-/
import Derived.Test.YtldfekaodgfgmaaMMean
import Derived.Test.YtldfekaodgfgmaaAevFrame
set_option linter.unusedSimpArgs false
set_option linter.unusedVariables false
namespace Go.Aev.Gen
open Go Go.Aev Go.Proofs

abbrev A7 (b so : Int) (nl : List (List T)) (i : Int) : List AV := [r0, r1, r2, L1 false (srt b so), AV.own (Id.c 3), AV.t (T.lst 5 false nl), I 3, I i]
abbrev B7 (nl : List (List T)) (e3 : Bool) (c3 : List (List T)) : List Blk := [ab false nl, Blk.box [AV.t (T.lst 5 true [])], bx2 0 0, Blk.sl false 4 e3 c3]
abbrev A12 (b so : Int) (nl : List (List T)) (i v : Int) (ek : Bool) (kl : List (List T)) (m j : Int) : List AV := [r0, r1, r2, L1 false (srt b so), AV.own (Id.c 3), I i, AV.ref (Id.c 4) 0, AV.own (Id.c 5), I v, AV.t (T.lst 5 false nl), I 3, I i, L1 ek kl, I m, I j]
abbrev B12 (nl : List (List T)) (e3 : Bool) (c3 : List (List T)) (o n D : Int) (ek : Bool) (kl : List (List T)) (e5 : Bool) (c5 : List (List T)) : List Blk := [ab false nl, Blk.box [AV.t (T.lst 5 true [])], bx2 0 0, Blk.sl false 4 e3 c3, Blk.box [I o, L1 ek kl, I n, I D, zs], Blk.sl false 4 e5 c5]
theorem kidEnd (b so : Int) (nl : List (List T)) (i v m : Int) (ek e3 e5 : Bool) (kl c3 c5 : List (List T)) (o n D s w j : Int) (hi : 0 ≤ i ∧ i < 3) (hg : (srt b so)[i.toNat]? = some [ti s]) (hj : IntKind.i64.wrap (i + 1) = j) (hc : c3.length ≤ 5)
    (h29 : Or (.call 29) [AK false nl, WD, I s, AV.agg [I o, L1 ek kl, I n, I D, zs], AV.t (T.lst 4 e5 c5), I v] [] = some [ti w, ti 1, T.lst 2 true [], ti 0, tb true]) (R : List T)
    (hk : Or K16n7 (A7 b so nl j) (B7 nl false (c3 ++ [V w])) = some R) : Or K16n12 (A12 b so nl i v ek kl m m) (B12 nl e3 c3 o n D ek kl e5 c5) = some R := by
  have h : ¬ m < m := by omega
  have hs : small 48 (c3.length + [V w].length) = some () := smk (by simp; omega)
  refine orc_of ?_
  rw [e16n12]
  simp only [gd1, hd1, tl1, dr0, dr1, dr2, dr3, dr4, dr5, dr6, bo1, in1, st1, ls1, le1, pt1, fi1, fb1, fs1, ct1, cf1, nt1, nf1, ak0, akT, akF, cdec, cndec, cbeq, cnbeq, ↓reduceIte, beq_self_eq_true, Int.reduceBEq, Int.reduceEq, Bool.and_true, Bool.true_and, Bool.false_and, Bool.and_false, h, n3, hi, and_self, hg, h29, hs, hj]
  exact hk
theorem kidStep (b so : Int) (hb : Wid b) (nl : List (List T)) (i v m : Int) (ek e3 e5 : Bool) (kl c3 c5 : List (List T)) (o n D x k j j2 : Int) (hj0 : 0 ≤ j ∧ j < (kl.length : Int)) (hjm : j < m) (hgk : kl[j.toNat]? = some [ti k]) (hk3 : 0 ≤ k ∧ k < 3) (hkc : 0 ≤ k ∧ k < (c3.length : Int)) (hgc : c3[k.toNat]? = some (V x)) (hgs : (srt b so)[k.toNat]? = some [ti (10 + b)]) (hj2 : IntKind.i64.wrap (j + 1) = j2) (hc : c5.length ≤ 5) (R : List T)
    (hk : Or K16n12 (A12 b so nl i b ek kl m j2) (B12 nl e3 c3 o n D ek kl false (c5 ++ [V x])) = some R) : Or K16n12 (A12 b so nl i v ek kl m j) (B12 nl e3 c3 o n D ek kl e5 c5) = some R := by
  have hs : small 48 (c5.length + [V x].length) = some () := smk (by simp; omega)
  have k27 := s27 x 1 0
  have k28 := s28 b hb
  have hw : IntKind.i64.wrap (10 + b - 10) = b := by rw [wr (by unfold Wid at hb; omega)]; omega
  refine orc_of ?_
  rw [e16n12]
  simp only [gd1, hd1, tl1, dr0, dr1, dr2, dr3, dr4, dr5, dr6, bo1, in1, st1, ls1, le1, pt1, fi1, fb1, fs1, ct1, cf1, nt1, nf1, ak0, akT, akF, cdec, cndec, cbeq, cnbeq, ↓reduceIte, beq_self_eq_true, Int.reduceBEq, Int.reduceEq, Bool.and_true, Bool.true_and, Bool.false_and, Bool.and_false, hjm, hj0, hgk, hkc, hgc, k27, hs, n3, hk3, and_self, hgs, k28, hw, hj2]
  exact hk
theorem nodeStep (b so : Int) (nl : List (List T)) (hn3 : (nl.length : Int) = 3) (i : Int) (hi : 0 ≤ i ∧ i < 3) (hi3 : i < 3) (o n D s v : Int) (K : T) (ek e3 : Bool) (kl c3 : List (List T)) (hK : K.lst? 1 = some (ek, kl)) (hg : nl[i.toNat]? = some [ti o, K, ti n, ti D, T.str e0]) (hs : (srt b so)[i.toNat]? = some [ti s]) (hv : IntKind.i64.wrap (s - 10) = v) (R : List T)
    (hk : Or K16n12 (A12 b so nl i v ek kl (kl.length : Int) 0) (B12 nl e3 c3 o n D ek kl true []) = some R) : Or K16n7 (A7 b so nl i) (B7 nl e3 c3) = some R := by
  refine orc_of ?_
  rw [e16n7]
  simp only [gd1, hd1, tl1, dr0, dr1, dr2, dr3, dr4, dr5, dr6, bo1, in1, st1, ls1, le1, pt1, fi1, fb1, fs1, ct1, cf1, nt1, nf1, ak0, akT, akF, cdec, cndec, cbeq, cnbeq, ↓reduceIte, beq_self_eq_true, Int.reduceBEq, Int.reduceEq, Bool.and_true, Bool.true_and, Bool.false_and, Bool.and_false, hi3, hn3, hi, and_self, hg, hK, n3, hs, hv]
  exact hk
theorem do15 (b x : Int) (hb : Wid b) (hx : InW x b) : doF 15 b [] x = [ti x, ti 0, ti 0] := by
  have h4 : FitO 15 b x := by unfold FitO; rw [if_pos rfl]; exact hx
  have h2 : opsF 15 = 0 := by decide
  unfold doF
  simp [hb, h2, h4, valF, badK]
theorem badK_ok {b : Int} : ∀ {ks : List Int} (i : Nat), (∀ k ∈ ks, InW k b) → badK b ks i = none
  | [], _, _ => rfl
  | k :: ks, i, h => by simp only [badK, if_pos (h k List.mem_cons_self)]; exact badK_ok (i + 1) fun r hr => h r (List.mem_cons_of_mem _ hr)
theorem do_ks (o b n : Int) (ks : List Int) (hb : Wid b) (ho : 16 ≤ o ∧ o ≤ 23) (hl : (ks.length : Int) = opsF o) (hk : ∀ k ∈ ks, InW k b) : doF o b ks n = if FitO o b n then [ti (valF o b ks n), ti 0, ti 0] else [ti 0, ti 5, ti 0] := by
  have h1 : ¬ (o < 15 ∨ o > 23) := by omega
  have h3 : badK b ks 0 = none := badK_ok 0 hk
  unfold doF
  rw [if_neg h1, if_neg (by simpa using hb), if_neg (by simpa using hl), h3]
theorem wsub (b : Int) (hb : Wid b) : IntKind.i64.wrap (10 + b - 10) = b := by rw [wr (by unfold Wid at hb; omega)]; omega
/-- The first two nodes, and the third one's kids. -/
theorem s16g (o b n x y so : Int) (K : List (List T)) (hb : Wid b) (hx : InW x b) (hy : InW y b) (hso : 0 ≤ so ∧ so ≤ 100) (R : List T)
    (h26 : Or (.call 26) [AK false (NL o x y b n K)] [] = some (if FitO o b n then [T.lst 1 false (srt b so), ti 0, ti 0] else [T.emp true, ti 3, ti 2]))
    (hk : FitO o b n → Or K16n12 (A12 b so (NL o x y b n K) 2 (so - 10) false K (K.length : Int) 0) (B12 (NL o x y b n K) false [V x, V y] o n 0 false K true []) = some R) :
    Or (.call 16) [AK false (NL o x y b n K), WD] [] = some (if FitO o b n then R else [T.emp true, ti 3, ti 2]) := by
  have h25 := s25 o b n x y so K h26
  by_cases hf : FitO o b n
  · rw [if_pos hf] at h25 h26 ⊢
    have v1 := s29w false (NL o x y b n K) (10 + b) x b x 0 0 (do15 b x hb hx)
    have v2 := s29w false (NL o x y b n K) (10 + b) y b y 0 0 (do15 b y hb hy)
    have q2 := nodeStep b so (NL o x y b n K) (n3 _ _ _) 2 (by decide) (by decide) o n 0 so (so - 10) (T.lst 1 false K) false false K [V x, V y] (ls1 1 false K) rfl rfl (wr (by omega)) R (hk hf)
    have q1 := nodeStep b so (NL o x y b n K) (n3 _ _ _) 1 (by decide) (by decide) 15 y b (10 + b) b (T.emp true) true false [] [V x] (le1 1 true) rfl rfl (wsub b hb) R
      (kidEnd b so (NL o x y b n K) 1 b 0 true false true [] [V x] [] 15 y b (10 + b) y 2 (by decide) rfl w12 (by simp) v2 R q2)
    have q0 := nodeStep b so (NL o x y b n K) (n3 _ _ _) 0 (by decide) (by decide) 15 x b (10 + b) b (T.emp true) true true [] [] (le1 1 true) rfl rfl (wsub b hb) R
      (kidEnd b so (NL o x y b n K) 0 b 0 true true true [] [] [] 15 x b (10 + b) x 1 (by decide) rfl w01 (by simp) v1 R q1)
    refine orc_of ?_
    rw [e16]
    simp only [gd1, hd1, tl1, dr0, dr1, dr2, dr3, dr4, dr5, dr6, bo1, in1, st1, ls1, le1, pt1, fi1, fb1, fs1, ct1, cf1, nt1, nf1, ak0, akT, akF, cdec, cndec, cbeq, cnbeq, ↓reduceIte, beq_self_eq_true, Int.reduceBEq, Int.reduceEq, Bool.and_true, Bool.true_and, Bool.false_and, Bool.and_false, h25, h26, n3]
    exact q0
  · rw [if_neg hf] at h25 h26 ⊢
    refine orc_of ?_
    rw [e16]
    simp only [gd1, hd1, tl1, dr0, dr1, dr2, dr3, dr4, dr5, dr6, bo1, in1, st1, ls1, le1, pt1, fi1, fb1, fs1, ct1, cf1, nt1, nf1, ak0, akT, akF, cdec, cndec, cbeq, cnbeq, ↓reduceIte, beq_self_eq_true, Int.reduceBEq, Int.reduceEq, Bool.and_true, Bool.true_and, Bool.false_and, Bool.and_false, h25]
theorem k7end (b so : Int) (nl l : List (List T)) : Or K16n7 (A7 b so nl 3) (B7 nl false l) = some [T.lst 4 false l, ti 0, ti 0] := by
  have h : ¬ (3 : Int) < 3 := by omega
  refine orc_of ?_
  rw [e16n7]
  simp only [gd1, hd1, tl1, dr0, dr1, dr2, dr3, dr4, dr5, dr6, bo1, in1, st1, ls1, le1, pt1, fi1, fb1, fs1, ct1, cf1, nt1, nf1, ak0, akT, akF, cdec, cndec, cbeq, cnbeq, ↓reduceIte, beq_self_eq_true, Int.reduceBEq, Int.reduceEq, Bool.and_true, Bool.true_and, Bool.false_and, Bool.and_false, h]
theorem s16a (o b n x y : Int) (hb : Wid b) (hx : InW x b) (hy : InW y b) (h : o = 16 ∨ o = 23) (hn : o = 23 ∨ n = 0) :
    Or (.call 16) [AK false (NL o x y b n K1), WD] [] = some (if FitO o b n then [T.lst 4 false [V x, V y, V (valF o b [x] n)], ti 0, ti 0] else [T.emp true, ti 3, ti 2]) := by
  have hbb := hb
  unfold Wid at hbb
  have ho : opsF o = 1 := by rcases h with rfl | rfl <;> decide
  refine s16g o b n x y (10 + b) K1 hb hx hy (by omega) _ (s26 o b n x y (10 + b) K1 hb hx hy fun es => s33a o b n x y es hb h hn) fun hf => ?_
  have hd := do_ks o b n [x] hb (by omega) (by rw [ho]; rfl) (by intro k hk; rw [List.mem_singleton.1 hk]; exact hx)
  rw [if_pos hf] at hd
  have v := s29a o (by omega) false false (NL o x y b n K1) K1 (10 + b) x b n _ 0 0 hd
  exact kidStep b (10 + b) hb _ 2 _ 1 false false true K1 [V x, V y] [] o n 0 x 0 0 1 (by decide) (by decide) rfl (by decide) (by rw [n2]; decide) rfl rfl w01 (by simp) _
    (kidEnd b (10 + b) _ 2 b 1 false false false K1 [V x, V y] [V x] o n 0 (10 + b) _ 3 (by decide) rfl w23 (by simp) v _ (k7end b (10 + b) _ _))
theorem s16b (o b n x y : Int) (hb : Wid b) (hx : InW x b) (hy : InW y b) (h : 17 ≤ o ∧ o ≤ 22) (hn : o = 23 ∨ n = 0) :
    Or (.call 16) [AK false (NL o x y b n K2), WD] [] = some (if FitO o b n then [T.lst 4 false [V x, V y, V (valF o b [x, y] n)], ti 0, ti 0] else [T.emp true, ti 3, ti 2]) := by
  have hbb := hb
  unfold Wid at hbb
  have ho : opsF o = 2 := by unfold opsF; rw [if_neg (by omega), if_neg (by omega)]
  have hso : 0 ≤ (if o = 22 then 1 else 10 + b) ∧ (if o = 22 then 1 else 10 + b) ≤ 100 := by split <;> omega
  refine s16g o b n x y (if o = 22 then 1 else 10 + b) K2 hb hx hy hso _ (s26 o b n x y _ K2 hb hx hy fun es => s33b o b n x y es hb h hn) fun hf => ?_
  generalize (if o = 22 then 1 else 10 + b) = so at *
  have hd := do_ks o b n [x, y] hb (by omega) (by rw [ho]; rfl) (by intro k hk; simp at hk; rcases hk with rfl | rfl <;> assumption)
  rw [if_pos hf] at hd
  have v := s29b o (by omega) false false (NL o x y b n K2) K2 so x y b n _ 0 0 hd
  exact kidStep b so hb _ 2 _ 2 false false true K2 [V x, V y] [] o n 0 x 0 0 1 (by decide) (by decide) rfl (by decide) (by rw [n2]; decide) rfl rfl w01 (by simp) _
    (kidStep b so hb _ 2 _ 2 false false false K2 [V x, V y] [V x] o n 0 y 1 1 2 (by decide) (by decide) rfl (by decide) (by rw [n2]; decide) rfl rfl w12 (by simp) _
      (kidEnd b so _ 2 b 2 false false false K2 [V x, V y] [V x, V y] o n 0 so _ 3 (by decide) rfl w23 (by simp) v _ (k7end b so _ _)))
theorem u64_nn (a : Int) : ¬ IntKind.u64.wrap a < 0 := by
  simp only [IntKind.wrap, IntKind.signed, IntKind.bits]
  simp
  omega
theorem law7 (o b x y n : Int) : Or (.call 7) [I o, I b, I x, I y, I n] [] = some [tb true] := by
  have k9 := s9
  by_cases h1 : b < 1
  · refine orc_of ?_
    rw [e7]
    simp only [gd1, hd1, tl1, dr0, dr1, dr2, dr3, dr4, dr5, dr6, bo1, in1, st1, ls1, le1, pt1, fi1, fb1, fs1, ct1, cf1, nt1, nf1, ak0, akT, akF, cdec, cndec, cbeq, cnbeq, ↓reduceIte, beq_self_eq_true, Int.reduceBEq, Int.reduceEq, Bool.and_true, Bool.true_and, Bool.false_and, Bool.and_false, k9, u64_nn, h1, decide_true]
  by_cases h2 : b > 8
  · refine orc_of ?_
    rw [e7]
    simp only [gd1, hd1, tl1, dr0, dr1, dr2, dr3, dr4, dr5, dr6, bo1, in1, st1, ls1, le1, pt1, fi1, fb1, fs1, ct1, cf1, nt1, nf1, ak0, akT, akF, cdec, cndec, cbeq, cnbeq, ↓reduceIte, beq_self_eq_true, Int.reduceBEq, Int.reduceEq, Bool.and_true, Bool.true_and, Bool.false_and, Bool.and_false, k9, u64_nn, h1, h2, decide_true, decide_false]
  have hb : Wid b := by unfold Wid; omega
  have hp := pw_shift' hb
  by_cases h3 : x < 0
  · refine orc_of ?_
    rw [e7]
    simp only [gd1, hd1, tl1, dr0, dr1, dr2, dr3, dr4, dr5, dr6, bo1, in1, st1, ls1, le1, pt1, fi1, fb1, fs1, ct1, cf1, nt1, nf1, ak0, akT, akF, cdec, cndec, cbeq, cnbeq, ↓reduceIte, beq_self_eq_true, Int.reduceBEq, Int.reduceEq, Bool.and_true, Bool.true_and, Bool.false_and, Bool.and_false, k9, u64_nn, hp, h1, h2, h3, decide_true, decide_false]
  by_cases h4 : y < 0
  · refine orc_of ?_
    rw [e7]
    simp only [gd1, hd1, tl1, dr0, dr1, dr2, dr3, dr4, dr5, dr6, bo1, in1, st1, ls1, le1, pt1, fi1, fb1, fs1, ct1, cf1, nt1, nf1, ak0, akT, akF, cdec, cndec, cbeq, cnbeq, ↓reduceIte, beq_self_eq_true, Int.reduceBEq, Int.reduceEq, Bool.and_true, Bool.true_and, Bool.false_and, Bool.and_false, k9, u64_nn, hp, h1, h2, h3, h4, decide_true, decide_false]
  by_cases h5 : x ≥ pw b
  · refine orc_of ?_
    rw [e7]
    simp only [gd1, hd1, tl1, dr0, dr1, dr2, dr3, dr4, dr5, dr6, bo1, in1, st1, ls1, le1, pt1, fi1, fb1, fs1, ct1, cf1, nt1, nf1, ak0, akT, akF, cdec, cndec, cbeq, cnbeq, ↓reduceIte, beq_self_eq_true, Int.reduceBEq, Int.reduceEq, Bool.and_true, Bool.true_and, Bool.false_and, Bool.and_false, k9, u64_nn, hp, h1, h2, h3, h4, h5, decide_true, decide_false]
  by_cases h6 : y ≥ pw b
  · refine orc_of ?_
    rw [e7]
    simp only [gd1, hd1, tl1, dr0, dr1, dr2, dr3, dr4, dr5, dr6, bo1, in1, st1, ls1, le1, pt1, fi1, fb1, fs1, ct1, cf1, nt1, nf1, ak0, akT, akF, cdec, cndec, cbeq, cnbeq, ↓reduceIte, beq_self_eq_true, Int.reduceBEq, Int.reduceEq, Bool.and_true, Bool.true_and, Bool.false_and, Bool.and_false, k9, u64_nn, hp, h1, h2, h3, h4, h5, h6, decide_true, decide_false]
  by_cases h7 : o ≤ 15
  · refine orc_of ?_
    rw [e7]
    simp only [gd1, hd1, tl1, dr0, dr1, dr2, dr3, dr4, dr5, dr6, bo1, in1, st1, ls1, le1, pt1, fi1, fb1, fs1, ct1, cf1, nt1, nf1, ak0, akT, akF, cdec, cndec, cbeq, cnbeq, ↓reduceIte, beq_self_eq_true, Int.reduceBEq, Int.reduceEq, Bool.and_true, Bool.true_and, Bool.false_and, Bool.and_false, k9, u64_nn, hp, h1, h2, h3, h4, h5, h6, h7, decide_true, decide_false]
  by_cases h8 : o > 23
  · refine orc_of ?_
    rw [e7]
    simp only [gd1, hd1, tl1, dr0, dr1, dr2, dr3, dr4, dr5, dr6, bo1, in1, st1, ls1, le1, pt1, fi1, fb1, fs1, ct1, cf1, nt1, nf1, ak0, akT, akF, cdec, cndec, cbeq, cnbeq, ↓reduceIte, beq_self_eq_true, Int.reduceBEq, Int.reduceEq, Bool.and_true, Bool.true_and, Bool.false_and, Bool.and_false, k9, u64_nn, hp, h1, h2, h3, h4, h5, h6, h7, h8, decide_true, decide_false]
  have hx : InW x b := ⟨by omega, by omega⟩
  have hy : InW y b := ⟨by omega, by omega⟩
  have fin1 : ∀ o n' : Int, (o = 16 ∨ o = 23) → (o = 23 ∨ n' = 0) → Or (.call 8) [I o, I b, AV.t (T.lst 1 false [[T.int .i64 x]]), I n'] [] = some (if FitO o b n' then [ti (valF o b [x] n'), ti 0, ti 0] else [ti 0, ti 5, ti 0]) := fun o n' h hn => by
    have ho : opsF o = 1 := by rcases h with rfl | rfl <;> decide
    have := s8 o b false [x] n'
    rw [do_ks o b n' [x] hb (by omega) (by rw [ho]; rfl) (by intro k hk; rw [List.mem_singleton.1 hk]; exact hx)] at this
    exact this
  have m0 : ((5 : Int) == 0) = false := rfl
  have m1 : ((3 : Int) == 0) = false := rfl
  have m2 : ((3 : Int) == 3) = true := rfl
  have hr : (0 : Int) ≤ 2 ∧ (2 : Int) < 3 := by decide
  by_cases h16 : o = 16
  · subst h16
    have k8 := fin1 16 0 (.inl rfl) (.inr rfl)
    have k16 := s16a 16 b 0 x y hb hx hy (.inl rfl) (.inr rfl)
    have hf : FitO 16 b 0 := by unfold FitO; rw [if_neg (by decide), if_neg (by decide)]
    rw [if_pos hf] at k8 k16
    refine orc_of ?_
    rw [e7]
    simp only [gd1, hd1, tl1, dr0, dr1, dr2, dr3, dr4, dr5, dr6, bo1, in1, st1, ls1, le1, pt1, fi1, fb1, fs1, ct1, cf1, nt1, nf1, ak0, akT, akF, cdec, cndec, cbeq, cnbeq, ↓reduceIte, beq_self_eq_true, Int.reduceBEq, Int.reduceEq, Bool.and_true, Bool.true_and, Bool.false_and, Bool.and_false, k9, u64_nn, hp, h1, h2, h3, h4, h5, h6, h7, h8, decide_false, k8, k16, n3, m2, hr, and_self, j2]
  by_cases h23 : o = 23
  · subst h23
    have k8 := fin1 23 n (.inr rfl) (.inl rfl)
    have k16 := s16a 23 b n x y hb hx hy (.inr rfl) (.inl rfl)
    by_cases hf : FitO 23 b n
    · rw [if_pos hf] at k8 k16
      refine orc_of ?_
      rw [e7]
      simp only [gd1, hd1, tl1, dr0, dr1, dr2, dr3, dr4, dr5, dr6, bo1, in1, st1, ls1, le1, pt1, fi1, fb1, fs1, ct1, cf1, nt1, nf1, ak0, akT, akF, cdec, cndec, cbeq, cnbeq, ↓reduceIte, beq_self_eq_true, Int.reduceBEq, Int.reduceEq, Bool.and_true, Bool.true_and, Bool.false_and, Bool.and_false, k9, u64_nn, hp, h1, h2, h3, h4, h5, h6, h7, h8, decide_false, k8, k16, n3, m2, hr, and_self, j2]
    · rw [if_neg hf] at k8 k16
      refine orc_of ?_
      rw [e7]
      simp only [gd1, hd1, tl1, dr0, dr1, dr2, dr3, dr4, dr5, dr6, bo1, in1, st1, ls1, le1, pt1, fi1, fb1, fs1, ct1, cf1, nt1, nf1, ak0, akT, akF, cdec, cndec, cbeq, cnbeq, ↓reduceIte, beq_self_eq_true, Int.reduceBEq, Int.reduceEq, Bool.and_true, Bool.true_and, Bool.false_and, Bool.and_false, k9, u64_nn, hp, h1, h2, h3, h4, h5, h6, h7, h8, decide_false, k8, k16, m0, m1]
  have ho : opsF o = 2 := by unfold opsF; rw [if_neg (by omega), if_neg (by omega)]
  have k8 : Or (.call 8) [I o, I b, AV.t (T.lst 1 false [[T.int .i64 x], [T.int .i64 y]]), I 0] [] = some (doF o b [x, y] 0) := s8 o b false [x, y] 0
  rw [do_ks o b 0 [x, y] hb (by omega) (by rw [ho]; rfl) (by intro k hk; simp at hk; rcases hk with rfl | rfl <;> assumption)] at k8
  have k16 := s16b o b 0 x y hb hx hy (by omega) (.inr rfl)
  have hf : FitO o b 0 := by unfold FitO; rw [if_neg (by omega), if_neg h23]
  rw [if_pos hf] at k8 k16
  refine orc_of ?_
  rw [e7]
  simp only [gd1, hd1, tl1, dr0, dr1, dr2, dr3, dr4, dr5, dr6, bo1, in1, st1, ls1, le1, pt1, fi1, fb1, fs1, ct1, cf1, nt1, nf1, ak0, akT, akF, cdec, cndec, cbeq, cnbeq, ↓reduceIte, beq_self_eq_true, Int.reduceBEq, Int.reduceEq, Bool.and_true, Bool.true_and, Bool.false_and, Bool.and_false, k9, u64_nn, hp, h1, h2, h3, h4, h5, h6, h7, h8, h16, h23, decide_false, k8, k16, n3, m2, hr, and_self, j2]
set_option maxRecDepth 1000000 in
theorem int_arg {n : Nat} {a : AV} (h : (isAggT PROG 3 = true ∧ ∃ l, Wt PROG (n + 1) 3 l ∧ a = .agg (l.map .t)) ∨ (isAggT PROG 3 = false ∧ ∃ x, Wt PROG (n + 1) 3 [x] ∧ a = .t x)) : ∃ m, a = I m := by
  obtain ⟨x, h1, rfl⟩ := arg_one h (by kernel_rfl)
  have hu : PROG.underlying 3 = some (.int .i64) := Try.underlying3
  have h3 := @wt_int PROG n 3 [x] .i64 hu h1
  obtain ⟨m, h2, _⟩ := h3
  simp only [List.cons.injEq, and_true] at h2
  subst h2
  exact ⟨m, rfl⟩
set_option maxRecDepth 1000000 in
theorem claim7 (vs : List AV) (h : ArgWt PROG (19 + 1) Try.f7.params.toList vs) : Or (.call 7) vs [] = some [.bool true] := by
  rw [Try.params7] at h
  obtain ⟨a, _, rfl, h1, b, _, rfl, h2, c, _, rfl, h3, d, _, rfl, h4, e, _, rfl, h5, rfl⟩ := h
  obtain ⟨o, rfl⟩ := int_arg h1
  obtain ⟨b, rfl⟩ := int_arg h2
  obtain ⟨x, rfl⟩ := int_arg h3
  obtain ⟨y, rfl⟩ := int_arg h4
  obtain ⟨n, rfl⟩ := int_arg h5
  exact law7 o b x y n
end Go.Aev.Gen
