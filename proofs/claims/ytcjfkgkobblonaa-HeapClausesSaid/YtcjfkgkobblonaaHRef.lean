/-
  The document's heapTidy.
-/
import Derived.Test.YtcjfkgkobblonaaHSpec
set_option linter.unusedSimpArgs false
set_option linter.unusedVariables false
namespace Go.Aev.Gen
open Go Go.Aev Go.Aev.Hp Go.RowKit Go.Proofs.Ytcjfkgkobblonaa

def cntL (f : Int → Int) : List (List T) := (List.range 121).map fun (i : Nat) => [ti (f i)]
theorem cntL_len (f : Int → Int) : (cntL f).length = 121 := by simp [cntL]
theorem cntL_lenI (f : Int → Int) : ((cntL f).length : Int) = 121 := by rw [cntL_len]; rfl
theorem cntL_get (f : Int → Int) {v : Int} (h0 : 0 ≤ v) (h1 : v ≤ 120) : (cntL f)[v.toNat]? = some [ti (f v)] := by
  have : v.toNat < 121 := by omega
  simp only [cntL, List.getElem?_map, List.getElem?_range this, Option.map_some]
  rw [show ((v.toNat : Nat) : Int) = v by omega]
theorem cntL_set (f : Int → Int) (x : Int) {v : Int} (h0 : 0 ≤ v) (h1 : v ≤ 120) : storeIn v.toNat 0 [ti x] (cntL f) = some (cntL fun u => if u = v then x else f u) := by
  unfold storeIn
  rw [cntL_get f h0 h1]
  simp only [List.length_singleton, Nat.zero_add, Nat.le_refl, if_true, repl, List.take_zero, List.nil_append]
  congr 1
  refine List.ext_getElem? fun i => ?_
  rw [List.getElem?_set]
  by_cases e : v.toNat = i
  · subst e
    have : v.toNat < 121 := by omega
    rw [if_pos rfl, cntL_len, if_pos this]
    simp only [cntL, List.getElem?_map, List.getElem?_range this, Option.map_some]
    rw [if_pos (by omega)]
    rfl
  · rw [if_neg e]
    simp only [cntL, List.getElem?_map]
    by_cases hi : i < 121
    · simp only [List.getElem?_range hi, Option.map_some]
      rw [if_neg (by omega)]
    · rw [List.getElem?_eq_none (by simp; omega)]; rfl

/-- The terms from a variable on. -/
def tv (ls os : List Int) : Nat → Int → List (Int × Int)
  | 0, _ => []
  | n + 1, v => term1 v (amtP ls os v) ++ tv ls os n (v + 1)
def lowS (ls os : List Int) : Nat → Int → Int
  | 0, _ => 0
  | n + 1, v => low (amtP ls os v) + lowS ls os n (v + 1)
def rng (n : Nat) (v : Int) : List Int := (List.range n).map fun (i : Nat) => (i : Int) + v
theorem rng_succ (n : Nat) (v : Int) : rng (n + 1) v = v :: rng n (v + 1) := by
  unfold rng
  rw [List.range_succ_eq_map, List.map_cons, List.map_map]
  simp only [Int.natCast_zero, Int.zero_add, List.cons.injEq, true_and]
  refine List.map_congr_left fun i _ => ?_
  simp only [Function.comp, Nat.succ_eq_add_one, Int.natCast_add, Int.natCast_one]
  omega
theorem tv_eq (ls os : List Int) : ∀ (n : Nat) (v : Int), (rng n v).flatMap (fun v => term1 v (amtP ls os v)) = tv ls os n v
  | 0, _ => rfl
  | n + 1, v => by rw [rng_succ, List.flatMap_cons, tv, tv_eq ls os n (v + 1)]
theorem terms_tv (ls os : List Int) : termsF ls os = tv ls os 120 1 := (tv_eq ls os 120 1)
theorem low_eq (ls os : List Int) : ∀ (n : Nat) (v : Int), sumZ ((rng n v).map fun v => low (amtP ls os v)) = lowS ls os n v
  | 0, _ => rfl
  | n + 1, v => by rw [rng_succ, List.map_cons, sumZ, lowS, low_eq ls os n (v + 1)]
theorem base_low (ls os : List Int) : baseF ls os = negP ls os + lowS ls os 120 1 := by
  unfold baseF
  rw [← low_eq ls os 120 1]
  rfl

theorem n24 {blks : List Blk} {c4 c5 c2 : List (List T)} {f4 f5 f2 : Bool} {c32 a all v : Int} {R : List T} (hv : 0 ≤ v ∧ v ≤ 1000) (hbl : blks = [z3, z2, Blk.sl false 1 f2 c2, Blk.box [AV.own (Id.c 4), AV.own (Id.c 5), I c32], Blk.sl false 1 f4 c4, Blk.sl false 1 f5 c5]) :
    ∀ (n : Nat) (x y : Int), 0 ≤ x → 0 ≤ y → y.toNat ≤ n → Or K36n12 [I a, r0, r1, AV.own (Id.c 2), r3, r3, I all, I (gc x y), I (v + 1)] blks = some R →
    Or K36n24 [I a, r0, r1, AV.own (Id.c 2), r3, I all, I v, I x, I y] blks = some R
  | 0, x, y, hx, hy, hn, hR => by
    subst hbl
    have : y = 0 := by omega
    subst this
    rw [gc_zero hx] at hR
    have w1 : wrap64 (v + 1) = v + 1 := w64 (by omega)
    refine orc_of ?_
    rw [e36n24]
    simp only [wr64]
    simp only [gd1, hd1, tl1, dr0, dr1, dr2, dr3, dr4, dr5, dr6, bo1, in1, st1, ls1, le1, pt1, fi1, fb1, fs1, ct1, cf1, nt1, nf1, ak0, akT, akF, cdec, cndec, cbeq, cnbeq, ↓reduceIte, beq_self_eq_true, Int.reduceBEq, Int.reduceEq, Bool.and_true, Bool.true_and, Bool.false_and, Bool.and_false, Int.lt_irrefl, gt_iff_lt, w1]
    exact hR
  | n + 1, x, y, hx, hy, hn, hR => by
    by_cases h0 : y = 0
    · subst hbl
      subst h0
      rw [gc_zero hx] at hR
      have w1 : wrap64 (v + 1) = v + 1 := w64 (by omega)
      refine orc_of ?_
      rw [e36n24]
      simp only [wr64]
      simp only [gd1, hd1, tl1, dr0, dr1, dr2, dr3, dr4, dr5, dr6, bo1, in1, st1, ls1, le1, pt1, fi1, fb1, fs1, ct1, cf1, nt1, nf1, ak0, akT, akF, cdec, cndec, cbeq, cnbeq, ↓reduceIte, beq_self_eq_true, Int.reduceBEq, Int.reduceEq, Bool.and_true, Bool.true_and, Bool.false_and, Bool.and_false, Int.lt_irrefl, gt_iff_lt, w1]
      exact hR
    · have hp : 0 < y := by omega
      have ht := tmod_lt hx hp
      have ih := n24 hv hbl n y (x.tmod y) hy ht.1 (by omega) (by rw [gc_step hp hx]; exact hR)
      subst hbl
      refine orc_of ?_
      rw [e36n24]
      simp only [gd1, hd1, tl1, dr0, dr1, dr2, dr3, dr4, dr5, dr6, bo1, in1, st1, ls1, le1, pt1, fi1, fb1, fs1, ct1, cf1, nt1, nf1, ak0, akT, akF, cdec, cndec, cbeq, cnbeq, ↓reduceIte, beq_self_eq_true, Int.reduceBEq, Int.reduceEq, Bool.and_true, Bool.true_and, Bool.false_and, Bool.and_false, hp, h0, gt_iff_lt, if_false]
      exact ih

theorem n33 {L : List (Int × Int)} {g a A : Int} {f3 f4 : Bool} (hg : 0 < g ∧ g ≤ 100000000000) (hn : L.length ≤ 120) (hok : Ok2 L) (ha : 0 < a ∧ a ≤ 100000000000000) : ∀ (suf pre : List (Int × Int)) (ft : Bool), L = pre ++ suf →
    Or K36n33 [I a, r0, r1, r2, I g, B ft, I (pre.length : Int)] [z3, z2, Blk.box [AV.own (Id.c 3), AV.own (Id.c 4), I A], Blk.sl false 1 f3 (enc (L.map (·.1))), Blk.sl false 1 f4 (enc (pre.map (fun x => x.2.tdiv g) ++ suf.map (·.2)))] =
    some (if ((!ft || suf.any (big g)) || decide (qd a g > 1000000)) = true then [T.emp true, T.emp true, ti 0, ti 10, ti 0] else [T.lst 1 f3 (enc (L.map (·.1))), T.lst 1 f4 (enc (L.map fun x => x.2.tdiv g)), ti (qd a g), ti 0, ti 0])
  | [], pre, ft, h => by
    rw [List.append_nil] at h; subst h
    have hl : ¬ ((L.length : Int) < (L.length : Int)) := by omega
    have hg0 : ¬ g = 0 := by omega
    have w1 : wrap64 (a + g) = a + g := w64 (by omega)
    have w2 : wrap64 (a + g - 1) = a + g - 1 := w64 (by omega)
    have hq := tdiv_bd (a := a + g - 1) (by omega) hg.1
    have w3 : wrap64 ((a + g - 1).tdiv g) = (a + g - 1).tdiv g := w64 (by omega)
    refine orc_of ?_
    rw [e36n33]
    simp only [cor, wr64, List.map_nil, List.append_nil]
    simp only [gd1, hd1, tl1, dr0, dr1, dr2, dr3, dr4, dr5, dr6, bo1, in1, st1, ls1, le1, pt1, fi1, fb1, fs1, ct1, cf1, nt1, nf1, ak0, akT, akF, cdec, cndec, cbeq, cnbeq, ↓reduceIte, beq_self_eq_true, Int.reduceBEq, Int.reduceEq, Bool.and_true, Bool.true_and, Bool.false_and, Bool.and_false, enc_len, List.length_map, hl, hg0, if_false, w1, w2, w3, s23, List.any_nil, Bool.or_false]
    by_cases c : (!ft || decide (qd a g > 1000000)) = true
    · have c' : (!ft || decide ((a + g - 1).tdiv g > 1000000)) = true := c
      rw [if_pos c, c']; rfl
    · have c0 : (!ft || decide (qd a g > 1000000)) = false := by simpa only [Bool.not_eq_true] using c
      have c' : (!ft || decide ((a + g - 1).tdiv g > 1000000)) = false := c0
      rw [if_neg c, c']; rfl
  | x :: r, pre, ft, h => by
    have hx := hok x (by rw [h]; simp)
    have hl : L.length = pre.length + (r.length + 1) := by rw [h]; simp
    have hd := tdiv_bd (Int.le_of_lt hx.1) hg.1
    have w0 : wrap64 (x.2.tdiv g) = x.2.tdiv g := w64 (by omega)
    have hg0 : ¬ g = 0 := by omega
    have hlen : (enc (pre.map (fun x => x.2.tdiv g) ++ (x :: r).map (·.2))).length = L.length := by rw [enc_len, hl]; simp
    have c1 : (pre.length : Int) < (L.length : Int) := by omega
    have c0 : 0 ≤ (pre.length : Int) := by omega
    have hget : (enc (pre.map (fun x => x.2.tdiv g) ++ (x :: r).map (·.2)))[((pre.length : Nat) : Int).toNat]? = some [ti x.2] := enc_get (by simp)
    have hset : storeIn ((pre.length : Nat) : Int).toNat 0 [ti (x.2.tdiv g)] (enc (pre.map (fun x => x.2.tdiv g) ++ (x :: r).map (·.2))) = some (enc ((pre ++ [x]).map (fun x => x.2.tdiv g) ++ r.map (·.2))) := by
      rw [enc_set (by simp)]
      congr 2
      simp [List.set_append]
    have hlen2 : (enc ((pre ++ [x]).map (fun x => x.2.tdiv g) ++ r.map (·.2))).length = L.length := by rw [enc_len, hl]; simp
    have hget2 : (enc ((pre ++ [x]).map (fun x => x.2.tdiv g) ++ r.map (·.2)))[((pre.length : Nat) : Int).toNat]? = some [ti (x.2.tdiv g)] := enc_get (by simp)
    have ih := n33 (A := A) (f3 := f3) (f4 := f4) hg hn hok ha r (pre ++ [x]) (ft && decide (x.2.tdiv g ≤ 1000000)) (by rw [h]; simp)
    have en : wrap64 ((pre.length : Int) + 1) = ((pre ++ [x]).length : Int) := by rw [w64 (by omega)]; simp
    refine orc_of ?_
    rw [e36n33]
    simp only [cand, wr64]
    simp only [gd1, hd1, tl1, dr0, dr1, dr2, dr3, dr4, dr5, dr6, bo1, in1, st1, ls1, le1, pt1, fi1, fb1, fs1, ct1, cf1, nt1, nf1, ak0, akT, akF, cdec, cndec, cbeq, cnbeq, ↓reduceIte, beq_self_eq_true, Int.reduceBEq, Int.reduceEq, Bool.and_true, Bool.true_and, Bool.false_and, Bool.and_false, hlen, c1, c0, and_self, hget, hg0, if_false, w0, hset, hlen2, hget2, en]
    refine Eq.trans ih ?_
    have e5 : (!(ft && decide (x.2.tdiv g ≤ 1000000)) || r.any (big g)) = (!ft || (x :: r).any (big g)) := by
      rw [List.any_cons]
      have : big g x = !decide (x.2.tdiv g ≤ 1000000) := by unfold big; rw [← decide_not]; congr 1; simp
      rw [this]
      cases ft <;> simp
    rw [e5]

theorem gc_comm (a b : Int) : gc a b = gc b a := by unfold gc; rw [Int.gcd_comm]
theorem isL_map (L : List (Int × Int)) (g : Int × Int → Int) : IsL (T.lst 1 L.isEmpty (enc (L.map g))) (L.map g) := by
  have := isL_tm (L.map g)
  unfold tm at this
  rwa [show (L.map g).isEmpty = L.isEmpty by cases L <;> rfl] at this
theorem sumS_append (a b : List (Int × Int)) : sumS (a ++ b) = sumS a + sumS b := by
  induction a with
  | nil => simp [sumS]
  | cons x r ih => simp only [List.cons_append, sumS, ih]; omega
theorem gcS_append (a b : List (Int × Int)) (g : Int) : gcS (a ++ b) g = gcS b (gcS a g) := by
  induction a generalizing g with
  | nil => rfl
  | cons x r ih => simp only [List.cons_append, gcS, ih]

theorem n36b {ls os : List Int} {f : Int → Int} (hf : ∀ v, 0 < v → v ≤ 120 → f v = amtP ls os v) (hls : ls.length ≤ 60) (ho : os.all okO = true) : ∀ (n : Nat) (v : Int) (L : List (Int × Int)) (a all g : Int), v + n = 121 → 1 ≤ v → (L.length : Int) < v → Ok2 L →
    -100000000000000 ≤ a + 100000000000 * (v - 121) → a - 100000000000 * (v - 121) ≤ 100000000000000 → 0 ≤ all → all ≤ 100000000000 * (v - 1) → 0 ≤ g → g ≤ 100000000000 → (0 < all → 0 < g) → (L = [] → all = 0) →
    ∃ x y, Or K36n12 [I a, r0, r1, AV.own (Id.c 2), r3, r3, I all, I g, I v] [z3, z2, Blk.sl false 1 false (cntL f), Blk.box [AV.own (Id.c 4), AV.own (Id.c 5), I 0], Blk.sl false 1 L.isEmpty (enc (L.map (·.1))), Blk.sl false 1 L.isEmpty (enc (L.map (·.2)))] =
      some [x, y, ti (fin (L ++ tv ls os n v) (a - lowS ls os n v) (all + sumS (tv ls os n v)) (gcS (tv ls os n v) g)).1.at_, ti (fin (L ++ tv ls os n v) (a - lowS ls os n v) (all + sumS (tv ls os n v)) (gcS (tv ls os n v) g)).2, ti 0] ∧
      IsL x (fin (L ++ tv ls os n v) (a - lowS ls os n v) (all + sumS (tv ls os n v)) (gcS (tv ls os n v) g)).1.ls ∧ IsL y (fin (L ++ tv ls os n v) (a - lowS ls os n v) (all + sumS (tv ls os n v)) (gcS (tv ls os n v) g)).1.os
  | 0, v, L, a, all, g, hv, h1, hL, hok, ha1, ha2, hall, hall2, hg0, hg1, hag, hne => by
    simp only [tv, lowS, sumS, gcS, List.append_nil, Int.sub_zero, Int.add_zero]
    have hv' : ¬ v ≤ 120 := by omega
    unfold fin
    by_cases c1 : a ≤ 0
    · refine ⟨T.emp true, T.emp true, orc_of ?_, ?_⟩
      · rw [e36n12]; simp only [gd1, hd1, tl1, dr0, dr1, dr2, dr3, dr4, dr5, dr6, bo1, in1, st1, ls1, le1, pt1, fi1, fb1, fs1, ct1, cf1, nt1, nf1, ak0, akT, akF, cdec, cndec, cbeq, cnbeq, ↓reduceIte, beq_self_eq_true, Int.reduceBEq, Int.reduceEq, Bool.and_true, Bool.true_and, Bool.false_and, Bool.and_false, hv', c1, if_true]
      · rw [if_pos c1]; exact ⟨isL_emp, isL_emp⟩
    · rw [if_neg c1]
      by_cases c2 : all < a
      · refine ⟨T.emp true, T.emp true, orc_of ?_, ?_⟩
        · rw [e36n12]; simp only [gd1, hd1, tl1, dr0, dr1, dr2, dr3, dr4, dr5, dr6, bo1, in1, st1, ls1, le1, pt1, fi1, fb1, fs1, ct1, cf1, nt1, nf1, ak0, akT, akF, cdec, cndec, cbeq, cnbeq, ↓reduceIte, beq_self_eq_true, Int.reduceBEq, Int.reduceEq, Bool.and_true, Bool.true_and, Bool.false_and, Bool.and_false, hv', c1, c2, if_true]
        · rw [if_pos c2]; exact ⟨isL_emp, isL_emp⟩
      · rw [if_neg c2]
        have hb := n33 (L := L) (g := g) (a := a) (A := 0) (f3 := L.isEmpty) (f4 := L.isEmpty) ⟨hag (by omega), hg1⟩ (by omega) hok (by omega) L [] (decide ((L.length : Int) ≤ 24)) rfl
        have e6 : ((!decide ((L.length : Int) ≤ 24) || L.any (big g)) || decide (qd a g > 1000000)) = (decide ((L.length : Int) > 24) || decide (qd a g > 1000000) || L.any (big g)) := by
          have : (!decide ((L.length : Int) ≤ 24)) = decide ((L.length : Int) > 24) := by rw [← decide_not]; congr 1; simp
          rw [this, Bool.or_assoc, Bool.or_assoc, Bool.or_comm (L.any (big g))]
        rw [e6] at hb
        have key : ∀ r, Or K36n33 [I a, r0, r1, r2, I g, B (decide ((L.length : Int) ≤ 24)), I 0] [z3, z2, Blk.box [AV.own (Id.c 3), AV.own (Id.c 4), I 0], Blk.sl false 1 L.isEmpty (enc (L.map (·.1))), Blk.sl false 1 L.isEmpty (enc (L.map (·.2)))] = some r →
            Or K36n12 [I a, r0, r1, AV.own (Id.c 2), r3, r3, I all, I g, I v] [z3, z2, Blk.sl false 1 false (cntL f), Blk.box [AV.own (Id.c 4), AV.own (Id.c 5), I 0], Blk.sl false 1 L.isEmpty (enc (L.map (·.1))), Blk.sl false 1 L.isEmpty (enc (L.map (·.2)))] = some r := by
          intro r hr
          refine orc_of ?_
          rw [e36n12]
          simp only [gd1, hd1, tl1, dr0, dr1, dr2, dr3, dr4, dr5, dr6, bo1, in1, st1, ls1, le1, pt1, fi1, fb1, fs1, ct1, cf1, nt1, nf1, ak0, akT, akF, cdec, cndec, cbeq, cnbeq, ↓reduceIte, beq_self_eq_true, Int.reduceBEq, Int.reduceEq, Bool.and_true, Bool.true_and, Bool.false_and, Bool.and_false, hv', c1, c2, if_false, enc_len, List.length_map]
          exact hr
        by_cases c3 : (decide ((L.length : Int) > 24) || decide (qd a g > 1000000) || L.any (big g)) = true
        · rw [if_pos c3] at hb ⊢
          exact ⟨_, _, key _ hb, isL_emp, isL_emp⟩
        · rw [if_neg c3] at hb ⊢
          exact ⟨_, _, key _ hb, isL_map L _, isL_map L _⟩
  | n + 1, v, L, a, all, g, hv, h1, hL, hok, ha1, ha2, hall, hall2, hg0, hg1, hag, hne => by
    have hv' : v ≤ 120 := by omega
    have hv0 : 0 ≤ v := by omega
    have hv121 : v < 121 := by omega
    have hb := amtP_bound (ls := ls) (os := os) v (by simpa [List.all_eq_true] using ho)
    have hfv := hf v (by omega) hv'
    have hget : (cntL f)[v.toNat]? = some [ti (amtP ls os v)] := by rw [cntL_get f hv0 hv', hfv]
    have wv : wrap64 (v + 1) = v + 1 := w64 (by omega)
    by_cases c0 : amtP ls os v = 0
    · obtain ⟨x, y, e, ih⟩ := n36b hf hls ho n (v + 1) L a all g (by omega) (by omega) (by omega) hok (by omega) (by omega) hall (by omega) hg0 hg1 hag hne
      have e1 : tv ls os (n + 1) v = tv ls os n (v + 1) := by simp [tv, c0, term1]
      have e2 : lowS ls os (n + 1) v = lowS ls os n (v + 1) := by simp [lowS, c0, low]
      rw [e1, e2]
      refine ⟨x, y, orc_of ?_, ih⟩
      rw [e36n12]
      simp only [wr64]
      simp only [gd1, hd1, tl1, dr0, dr1, dr2, dr3, dr4, dr5, dr6, bo1, in1, st1, ls1, le1, pt1, fi1, fb1, fs1, ct1, cf1, nt1, nf1, ak0, akT, akF, cdec, cndec, cbeq, cnbeq, ↓reduceIte, beq_self_eq_true, Int.reduceBEq, Int.reduceEq, Bool.and_true, Bool.true_and, Bool.false_and, Bool.and_false, hv', hv0, hv121, cntL_lenI, and_self, hget, c0, wv, if_true]
      exact e
    · have hpos : ∀ (t b : Int), term1 v (amtP ls os v) = [(t, b)] → low (amtP ls os v) = amtP ls os v - (if amtP ls os v < 0 then 0 else amtP ls os v) → 0 < b → b ≤ 100000000000 → (amtP ls os v < 0 → b = -amtP ls os v) → (¬ amtP ls os v < 0 → b = amtP ls os v) → (∀ R, Or K36n12 [I (a - low (amtP ls os v)), r0, r1, AV.own (Id.c 2), r3, r3, I (all + b), I (gc g b), I (v + 1)] [z3, z2, Blk.sl false 1 false (cntL f), Blk.box [AV.own (Id.c 4), AV.own (Id.c 5), I 0], Blk.sl false 1 false (enc ((L ++ [(t, b)]).map (·.1))), Blk.sl false 1 false (enc ((L ++ [(t, b)]).map (·.2)))] = some R →
            Or K36n12 [I a, r0, r1, AV.own (Id.c 2), r3, r3, I all, I g, I v] [z3, z2, Blk.sl false 1 false (cntL f), Blk.box [AV.own (Id.c 4), AV.own (Id.c 5), I 0], Blk.sl false 1 L.isEmpty (enc (L.map (·.1))), Blk.sl false 1 L.isEmpty (enc (L.map (·.2)))] = some R) →
          ∃ x y, Or K36n12 [I a, r0, r1, AV.own (Id.c 2), r3, r3, I all, I g, I v] [z3, z2, Blk.sl false 1 false (cntL f), Blk.box [AV.own (Id.c 4), AV.own (Id.c 5), I 0], Blk.sl false 1 L.isEmpty (enc (L.map (·.1))), Blk.sl false 1 L.isEmpty (enc (L.map (·.2)))] =
      some [x, y, ti (fin (L ++ tv ls os (n + 1) v) (a - lowS ls os (n + 1) v) (all + sumS (tv ls os (n + 1) v)) (gcS (tv ls os (n + 1) v) g)).1.at_, ti (fin (L ++ tv ls os (n + 1) v) (a - lowS ls os (n + 1) v) (all + sumS (tv ls os (n + 1) v)) (gcS (tv ls os (n + 1) v) g)).2, ti 0] ∧
      IsL x (fin (L ++ tv ls os (n + 1) v) (a - lowS ls os (n + 1) v) (all + sumS (tv ls os (n + 1) v)) (gcS (tv ls os (n + 1) v) g)).1.ls ∧ IsL y (fin (L ++ tv ls os (n + 1) v) (a - lowS ls os (n + 1) v) (all + sumS (tv ls os (n + 1) v)) (gcS (tv ls os (n + 1) v) g)).1.os := by
        intro t b ht hlow hb0 hb1 hn1 hn2 hstep
        have hgb := gc_bd b g hb0
        rw [gc_comm] at hgb
        have hem : (L ++ [(t, b)]).isEmpty = false := by cases L <;> rfl
        have hlo : -100000000000 ≤ low (amtP ls os v) ∧ low (amtP ls os v) ≤ 0 := by unfold low; split <;> omega
        obtain ⟨x, y, e, ih⟩ := n36b hf hls ho n (v + 1) (L ++ [(t, b)]) (a - low (amtP ls os v)) (all + b) (gc g b) (by omega) (by omega) (by simp; omega) (fun z hz => by
            rcases List.mem_append.1 hz with hz | hz
            · exact hok z hz
            · simp at hz; subst hz; exact ⟨hb0, hb1⟩) (by omega) (by omega) (by omega) (by omega) (by omega) (by omega) (fun _ => hgb.1) (fun h => by simp at h)
        rw [hem] at e
        have e1 : tv ls os (n + 1) v = (t, b) :: tv ls os n (v + 1) := by simp [tv, ht]
        have e2 : a - lowS ls os (n + 1) v = a - low (amtP ls os v) - lowS ls os n (v + 1) := by simp only [lowS]; omega
        have e3 : L ++ tv ls os (n + 1) v = L ++ [(t, b)] ++ tv ls os n (v + 1) := by rw [e1]; simp
        have e4 : all + sumS (tv ls os (n + 1) v) = all + b + sumS (tv ls os n (v + 1)) := by rw [e1]; simp only [sumS]; omega
        have e5 : gcS (tv ls os (n + 1) v) g = gcS (tv ls os n (v + 1)) (gc g b) := by rw [e1]; simp only [gcS]; rw [gc_comm]
        rw [e2, e3, e4, e5]
        exact ⟨x, y, hstep _ e, ih⟩
      have hsm : ∀ (z : Int) (h : Int × Int → Int), small 8 ((enc (L.map h)).length + [[ti z]].length) = some () := fun z h => small_ok (by rw [enc_len]; simp; omega)
      by_cases c1 : amtP ls os v < 0
      · have w1 : wrap64 (0 - v) = -v := by rw [w64 (by omega)]; omega
        have w2 : wrap64 (0 - amtP ls os v) = -amtP ls os v := by rw [w64 (by omega)]; omega
        have w3 : wrap64 (a + -amtP ls os v) = a - low (amtP ls os v) := by rw [w64 (by omega)]; simp only [low, if_pos c1]; omega
        have w4 : wrap64 (all + -amtP ls os v) = all + -amtP ls os v := w64 (by omega)
        refine hpos (-v) (-amtP ls os v) (by simp only [term1]; rw [if_neg (by omega), if_pos c1]) (by simp only [low, if_pos c1]; omega) (by omega) (by omega) (fun _ => rfl) (fun h => absurd c1 h) (fun R hR => ?_)
        have e1 : (enc (L.map (·.1))) ++ [[ti (-v)]] = enc ((L ++ [(-v, -amtP ls os v)]).map (·.1)) := by simp [enc]
        have e2 : (enc (L.map (·.2))) ++ [[ti (-amtP ls os v)]] = enc ((L ++ [(-v, -amtP ls os v)]).map (·.2)) := by simp [enc]
        refine orc_of ?_
        rw [e36n12]
        simp only [wr64]
        simp only [gd1, hd1, tl1, dr0, dr1, dr2, dr3, dr4, dr5, dr6, bo1, in1, st1, ls1, le1, pt1, fi1, fb1, fs1, ct1, cf1, nt1, nf1, ak0, akT, akF, cdec, cndec, cbeq, cnbeq, ↓reduceIte, beq_self_eq_true, Int.reduceBEq, Int.reduceEq, Bool.and_true, Bool.true_and, Bool.false_and, Bool.and_false, hv', hv0, hv121, cntL_lenI, and_self, hget, c0, c1, w1, w2, w3, w4, hsm, e1, e2, if_true, if_false]
        exact n24 ⟨hv0, by omega⟩ rfl _ g (-amtP ls os v) hg0 (by omega) (Nat.le_refl _) hR
      · have w4 : wrap64 (all + amtP ls os v) = all + amtP ls os v := w64 (by omega)
        have hl0 : low (amtP ls os v) = 0 := by simp only [low, if_neg c1]
        refine hpos v (amtP ls os v) (by simp only [term1]; rw [if_pos (by omega)]) (by rw [hl0, if_neg c1]; omega) (by omega) (by omega) (fun h => absurd h c1) (fun _ => rfl) (fun R hR => ?_)
        have e1 : (enc (L.map (·.1))) ++ [[ti v]] = enc ((L ++ [(v, amtP ls os v)]).map (·.1)) := by simp [enc]
        have e2 : (enc (L.map (·.2))) ++ [[ti (amtP ls os v)]] = enc ((L ++ [(v, amtP ls os v)]).map (·.2)) := by simp [enc]
        rw [hl0, Int.sub_zero] at hR
        refine orc_of ?_
        rw [e36n12]
        simp only [wr64]
        simp only [gd1, hd1, tl1, dr0, dr1, dr2, dr3, dr4, dr5, dr6, bo1, in1, st1, ls1, le1, pt1, fi1, fb1, fs1, ct1, cf1, nt1, nf1, ak0, akT, akF, cdec, cndec, cbeq, cnbeq, ↓reduceIte, beq_self_eq_true, Int.reduceBEq, Int.reduceEq, Bool.and_true, Bool.true_and, Bool.false_and, Bool.and_false, hv', hv0, hv121, cntL_lenI, and_self, hget, c0, c1, w4, hsm, e1, e2, if_true, if_false]
        exact n24 ⟨hv0, by omega⟩ rfl _ g (amtP ls os v) hg0 (by omega) (Nat.le_refl _) hR

theorem n36a {ls os : List Int} {a : Int} (hin : In ls os a) (e f : Bool) {R : List T}
    (hR : Or K36n12 [I (a - negP ls os), r0, r1, AV.own (Id.c 2), r3, r3, I 0, I 0, I 1] [z3, z2, Blk.sl false 1 false (cntL (tmF ls os ls.length).amt), Blk.box [AV.own (Id.c 4), AV.own (Id.c 5), I 0], Blk.sl false 1 true [], Blk.sl false 1 true []] = some R) :
    ∀ (m k : Nat), k + m = ls.length → Or K36n3 [lst e ls, lst f os, I (a - negP (ls.take k) (os.take k)), r0, r1, AV.own (Id.c 2), I (k : Int)] [z3, z2, Blk.sl false 1 false (cntL (tmF ls os k).amt)] = some R
  | 0, k, hk => by
    have hk' : k = ls.length := by omega
    subst hk'
    have hl : ¬ ((ls.length : Int) < (ls.length : Int)) := by omega
    refine orc_of ?_
    rw [e36n3]
    simp only [gd1, hd1, tl1, dr0, dr1, dr2, dr3, dr4, dr5, dr6, bo1, in1, st1, ls1, le1, pt1, fi1, fb1, fs1, ct1, cf1, nt1, nf1, ak0, akT, akF, cdec, cndec, cbeq, cnbeq, ↓reduceIte, beq_self_eq_true, Int.reduceBEq, Int.reduceEq, Bool.and_true, Bool.true_and, Bool.false_and, Bool.and_false, enc_len, hl]
    rw [List.take_length, hin.len, List.take_length]
    rw [hin.len] at hR
    exact hR
  | m + 1, k, hk => by
    have ih := n36a hin e f hR m (k + 1) (by omega)
    have hlen := hin.len
    have hfew := hin.few
    have hat := hin.at_
    have hokl := hin.okl
    have hoko := hin.oko
    rw [List.all_eq_true] at hokl hoko
    have hkl : k < ls.length := by omega
    have hko : k < os.length := by omega
    have g1 : ls[k]? = some (ls.getD k 0) := by rw [List.getD, List.getElem?_eq_getElem hkl]; rfl
    have g2 : os[k]? = some (os.getD k 0) := by rw [List.getD, List.getElem?_eq_getElem hko]; rfl
    have hl := hokl (ls.getD k 0) (List.mem_of_getElem? g1)
    have ho := hoko (os.getD k 0) (List.mem_of_getElem? g2)
    obtain ⟨l0, l1, l2⟩ := okL_iff.1 hl
    obtain ⟨o1', o2'⟩ := okO_iff.1 ho
    have e1 : ls.take (k + 1) = ls.take k ++ [ls.getD k 0] := by rw [List.take_add_one, g1]; rfl
    have e2 : os.take (k + 1) = os.take k ++ [os.getD k 0] := by rw [List.take_add_one, g2]; rfl
    have hneg := negP_bound (ls := ls.take k) (os := os.take k) (fun o h => hoko o (List.mem_of_mem_take h))
    have hlk : ((ls.take k).length : Int) ≤ 60 := by simp; omega
    rw [e1, e2, negP_snoc _ _ (by simp; omega)] at ih
    have hstep : tmF ls os (k + 1) = tmStep (tmF ls os k) (ls.getD k 0) (os.getD k 0) := rfl
    rw [hstep] at ih
    have en : wrap64 ((k : Int) + 1) = ((k + 1 : Nat) : Int) := by rw [w64 (by omega)]; omega
    have c1 : (k : Int) < (ls.length : Int) := by omega
    have c2 : (k : Int) < (os.length : Int) := by omega
    have c0 : 0 ≤ (k : Int) := by omega
    generalize ls.getD k 0 = l at *
    generalize os.getD k 0 = o at *
    by_cases hp : 0 < l
    · have hset := cntL_set (tmF ls os k).amt (wrap64 ((tmF ls os k).amt l + o)) (v := l) (by omega) (by omega)
      have hget := cntL_get (tmF ls os k).amt (v := l) (by omega) (by omega)
      unfold tmStep at ih
      rw [if_pos hp, if_neg (by omega : ¬ l < 0), Int.add_zero] at ih
      have hl0 : 0 ≤ l := by omega
      have hl1 : l < 121 := by omega
      refine orc_of ?_
      rw [e36n3]
      simp only [wr64]
      simp only [gd1, hd1, tl1, dr0, dr1, dr2, dr3, dr4, dr5, dr6, bo1, in1, st1, ls1, le1, pt1, fi1, fb1, fs1, ct1, cf1, nt1, nf1, ak0, akT, akF, cdec, cndec, cbeq, cnbeq, ↓reduceIte, beq_self_eq_true, Int.reduceBEq, Int.reduceEq, Bool.and_true, Bool.true_and, Bool.false_and, Bool.and_false, gt_iff_lt, enc_len, c1, c2, c0, and_self, enc_get g1, enc_get g2, hp, hget, hset, cntL_lenI, hl0, hl1, en]
      exact ih
    · have ew : wrap64 (0 - l) = -l := by rw [w64 (by omega)]; omega
      have ew2 : wrap64 (-l) = -l := w64 (by omega)
      have hset := cntL_set (tmF ls os k).amt (wrap64 ((tmF ls os k).amt (-l) - o)) (v := -l) (by omega) (by omega)
      have hget := cntL_get (tmF ls os k).amt (v := -l) (by omega) (by omega)
      unfold tmStep at ih
      rw [if_neg hp, if_pos (by omega : l < 0), ew2] at ih
      have wa : wrap64 (a - negP (ls.take k) (os.take k) - o) = a - (negP (ls.take k) (os.take k) + o) := by rw [w64 (by omega)]; omega
      have hl0 : 0 ≤ -l := by omega
      have hl1 : -l < 121 := by omega
      refine orc_of ?_
      rw [e36n3]
      simp only [wr64]
      simp only [gd1, hd1, tl1, dr0, dr1, dr2, dr3, dr4, dr5, dr6, bo1, in1, st1, ls1, le1, pt1, fi1, fb1, fs1, ct1, cf1, nt1, nf1, ak0, akT, akF, cdec, cndec, cbeq, cnbeq, ↓reduceIte, beq_self_eq_true, Int.reduceBEq, Int.reduceEq, Bool.and_true, Bool.true_and, Bool.false_and, Bool.and_false, gt_iff_lt, enc_len, c1, c2, c0, and_self, enc_get g1, enc_get g2, hp, hget, hset, cntL_lenI, hl0, hl1, en, ew, wa]
      exact ih

theorem cnt0 : cntL (fun _ => 0) = List.replicate 121 [ti 0] := by
  unfold cntL
  rw [List.eq_replicate_iff]
  exact ⟨by simp, fun x hx => by simp at hx; exact hx.2.symm⟩

theorem s36 {ls os : List Int} {a : Int} (h : In ls os a) (e f : Bool) : ∃ x y, Or (.call 36) [lst e ls, lst f os, I a] [] = some [x, y, ti (normF ls os a).1.at_, ti (normF ls os a).2, ti 0] ∧ IsL x (normF ls os a).1.ls ∧ IsL y (normF ls os a).1.os := by
  have hsp := spec_take ls os h.len h.few (by simpa [List.all_eq_true] using h.okl) (by simpa [List.all_eq_true] using h.oko) ls.length (Nat.le_refl _)
  have t2 : os.take ls.length = os := by rw [h.len, List.take_length]
  rw [List.take_length, t2] at hsp
  have hneg := negP_bound (ls := ls) (os := os) (by simpa [List.all_eq_true] using h.oko)
  have hfew := h.few
  have hat := h.at_
  obtain ⟨x, y, e1, h1, h2⟩ := n36b (f := (tmF ls os ls.length).amt) (fun v v0 v1 => hsp.amt v v0 v1) h.few h.oko 120 1 [] (a - negP ls os) 0 0 (by omega) (by omega) (by simp) (by intro x hx; cases hx) (by omega) (by omega) (by omega) (by omega) (by omega) (by omega) (by omega) (fun _ => rfl)
  have eb : a - baseF ls os = a - negP ls os - lowS ls os 120 1 := by rw [base_low]; omega
  rw [Int.zero_add, List.nil_append, ← eb, ← terms_tv] at e1 h1 h2
  refine ⟨x, y, orc_of ?_, h1, h2⟩
  rw [e36]
  have := n36a h e f e1 ls.length 0 (by omega)
  rw [show a - negP (ls.take 0) (os.take 0) = a by simp [negP], show (tmF ls os 0).amt = fun _ => 0 from rfl, cnt0] at this
  exact this
end Go.Aev.Gen
