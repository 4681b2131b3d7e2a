/-
  The laws of words hold: a ring, and logic.
-/
import Derived.Test.YtldfekaodgfgmaaWSpec
set_option linter.unusedSimpArgs false
set_option linter.unusedVariables false
namespace Go.Aev.Gen
open Go Go.Aev

theorem s9 : Or (.call 9) [] [] = some [tb true] := orc_of_N (n := 60) (by kernel_rfl)
theorem u64_nn (a : Int) : ¬ IntKind.u64.wrap a < 0 := by
  simp only [IntKind.wrap, IntKind.signed, IntKind.bits]
  simp
  omega
theorem wid_dec (b : Int) : (bif decide (b < 1) then true else decide (b > 8)) = decide (¬ Wid b) := by
  rw [cor, ← Bool.decide_or]
  refine decide_eq_decide.2 ?_
  unfold Wid; omega
theorem pw_pos {b : Int} (hb : Wid b) : 1 < pw b := by rcases pw_cases hb with e | e | e | e | e | e | e | e <;> rw [e] <;> decide
theorem in_mod {b : Int} (hb : Wid b) (x : Int) : InW (x % pw b) b := by
  have := pw_pos hb
  exact ⟨Int.emod_nonneg _ (by omega), Int.emod_lt_of_pos _ (by omega)⟩
theorem badK_ok {b : Int} : ∀ {ks : List Int} (i : Nat), (∀ k ∈ ks, InW k b) → badK b ks i = none
  | [], _, _ => rfl
  | k :: ks, i, h => by simp only [badK, if_pos (h k List.mem_cons_self)]; exact badK_ok (i + 1) fun r hr => h r (List.mem_cons_of_mem _ hr)
theorem do_two (o b x y : Int) (hb : Wid b) (ho : 17 ≤ o ∧ o ≤ 22) (hx : InW x b) (hy : InW y b) : doF o b [x, y] 0 = [ti (valF o b [x, y] 0), ti 0, ti 0] := by
  have h1 : ¬ (o < 15 ∨ o > 23) := by omega
  have h2 : opsF o = 2 := by unfold opsF; rw [if_neg (by omega), if_neg (by omega)]
  have h3 : badK b [x, y] 0 = none := badK_ok 0 (by intro k hk; simp at hk; rcases hk with rfl | rfl <;> assumption)
  have h4 : FitO o b 0 := by unfold FitO; rw [if_neg (by omega), if_neg (by omega)]
  unfold doF
  simp only [h1, hb, h2, h3, h4, ↓reduceIte, not_true_eq_false, List.length_cons, List.length_nil]
  rfl
theorem s15 (o b x y : Int) (hb : Wid b) (ho : 17 ≤ o ∧ o ≤ 22) (hx : InW x b) (hy : InW y b) : Or (.call 15) [I o, I b, I x, I y] [] = some [ti (valF o b [x, y] 0)] := by
  refine orc_of ?_
  rw [e15]
  have s : Or (.call 8) [I o, I b, AV.t (T.lst 1 false [[T.int .i64 x], [T.int .i64 y]]), I 0] [] = some (doF o b [x, y] 0) := s8 o b false [x, y] 0
  rw [do_two o b x y hb ho hx hy] at s
  simp only [gd1, hd1, tl1, dr0, dr1, dr2, dr3, dr4, dr5, dr6, bo1, in1, st1, ls1, le1, pt1, fi1, fb1, fs1, ct1, cf1, nt1, nf1, ak0, akT, akF, cdec, cndec, cbeq, cnbeq, ↓reduceIte, beq_self_eq_true, Int.reduceBEq, Int.reduceEq, Bool.and_true, Bool.true_and, Bool.false_and, Bool.and_false, s]
theorem t17 (b x y : Int) (hb : Wid b) (hx : InW x b) (hy : InW y b) : Or (.call 15) [I 17, I b, I x, I y] [] = some [ti ((x.toNat &&& y.toNat : Nat) : Int)] := s15 17 b x y hb (by decide) hx hy
theorem t18 (b x y : Int) (hb : Wid b) (hx : InW x b) (hy : InW y b) : Or (.call 15) [I 18, I b, I x, I y] [] = some [ti ((x.toNat ||| y.toNat : Nat) : Int)] := s15 18 b x y hb (by decide) hx hy
theorem t19 (b x y : Int) (hb : Wid b) (hx : InW x b) (hy : InW y b) : Or (.call 15) [I 19, I b, I x, I y] [] = some [ti ((x.toNat ^^^ y.toNat : Nat) : Int)] := s15 19 b x y hb (by decide) hx hy
theorem t20 (b x y : Int) (hb : Wid b) (hx : InW x b) (hy : InW y b) : Or (.call 15) [I 20, I b, I x, I y] [] = some [ti ((x + y) % pw b)] := s15 20 b x y hb (by decide) hx hy
theorem t21 (b x y : Int) (hb : Wid b) (hx : InW x b) (hy : InW y b) : Or (.call 15) [I 21, I b, I x, I y] [] = some [ti ((x * y) % pw b)] := s15 21 b x y hb (by decide) hx hy
theorem t22 (b x y : Int) (hb : Wid b) (hx : InW x b) (hy : InW y b) : Or (.call 15) [I 22, I b, I x, I y] [] = some [ti (if x < y then 1 else 0)] := s15 22 b x y hb (by decide) hx hy
theorem t16 (b x : Int) (hb : Wid b) (hx : InW x b) : Or (.call 8) [I 16, I b, AV.t (T.lst 1 false [[T.int .i64 x]]), I 0] [] = some [ti ((-1 - x) % pw b), ti 0, ti 0] := by
  have s : Or (.call 8) [I 16, I b, AV.t (T.lst 1 false [[T.int .i64 x]]), I 0] [] = some (doF 16 b [x] 0) := s8 16 b false [x] 0
  rw [s]
  have h3 : badK b [x] 0 = none := badK_ok 0 (by intro k hk; simp at hk; subst hk; assumption)
  have h4 : FitO 16 b 0 := by simp [FitO]
  have h2 : opsF 16 = 1 := by decide
  unfold doF
  simp [hb, h2, h3, h4, valF]
theorem t23 (b x n : Int) (hb : Wid b) (hx : InW x b) (hn : 0 ≤ n ∧ n ≤ 8) : Or (.call 8) [I 23, I b, AV.t (T.lst 1 false [[T.int .i64 x]]), I n] [] = some [ti ((x * 2 ^ n.toNat) % pw b), ti 0, ti 0] := by
  have s : Or (.call 8) [I 23, I b, AV.t (T.lst 1 false [[T.int .i64 x]]), I n] [] = some (doF 23 b [x] n) := s8 23 b false [x] n
  rw [s]
  have h3 : badK b [x] 0 = none := badK_ok 0 (by intro k hk; simp at hk; subst hk; assumption)
  have h4 : FitO 23 b n := by simp [FitO]; exact hn
  have h2 : opsF 23 = 1 := by decide
  unfold doF
  simp [hb, h2, h3, h4, valF]

theorem add_l (x y p : Int) : (x % p + y) % p = (x + y) % p := by rw [Int.add_emod, Int.emod_emod, ← Int.add_emod]
theorem add_r (x y p : Int) : (x + y % p) % p = (x + y) % p := by rw [Int.add_emod, Int.emod_emod, ← Int.add_emod]
theorem mul_l (x y p : Int) : (x % p * y) % p = (x * y) % p := by rw [Int.mul_emod, Int.emod_emod, ← Int.mul_emod]
theorem mul_r (x y p : Int) : (x * (y % p)) % p = (x * y) % p := by rw [Int.mul_emod, Int.emod_emod, ← Int.mul_emod]

theorem law5 (b x y z : Int) : Or (.call 5) [I b, I x, I y, I z] [] = some [tb true] := by
  refine orc_of ?_
  rw [e5]
  by_cases hb : Wid b
  · have hc : (bif bif bif bif bif bif bif decide (b < 1) then true else decide (b > 8) then true else decide (x < 0) then true else decide (y < 0) then true else decide (z < 0) then true
          else decide (x ≥ IntKind.i64.wrap (1 * 2 ^ min (IntKind.u64.wrap b).toNat 64)) then true else decide (y ≥ IntKind.i64.wrap (1 * 2 ^ min (IntKind.u64.wrap b).toNat 64)) then true
          else decide (z ≥ IntKind.i64.wrap (1 * 2 ^ min (IntKind.u64.wrap b).toNat 64))) = decide (¬ (InW x b ∧ InW y b ∧ InW z b)) := by
      rw [wid_dec, pw_shift' hb]
      simp only [hb, not_true_eq_false, decide_false, cf1, cor, ← Bool.decide_or]
      refine decide_eq_decide.2 ?_
      unfold InW; omega
    rw [hc]
    by_cases h : InW x b ∧ InW y b ∧ InW z b
    · obtain ⟨hx, hy, hz⟩ := h
      have ad := fun u => in_mod hb u
      simp only [gd1, hd1, tl1, dr0, dr1, dr2, dr3, dr4, dr5, dr6, bo1, in1, st1, ls1, le1, pt1, fi1, fb1, fs1, ct1, cf1, nt1, nf1, ak0, akT, akF, cdec, cndec, cbeq, cnbeq, ↓reduceIte, beq_self_eq_true, Int.reduceBEq, Int.reduceEq, Bool.and_true, Bool.true_and, Bool.false_and, Bool.and_false, s9, u64_nn, hx, hy, hz, and_self, not_true_eq_false, decide_false, t20 b _ _ hb hx hy, t20 b _ _ hb hy hz, t20 b _ _ hb hy hx, t21 b _ _ hb hx hy, t21 b _ _ hb hy hz, t21 b _ _ hb hx hz, t21 b _ _ hb hy hx,
        t16 b x hb hx, t20 b _ _ hb (ad _) hz, t20 b _ _ hb hx (ad _), t21 b _ _ hb (ad _) hz, t21 b _ _ hb hx (ad _), t20 b _ _ hb (ad _) (ad _), Int.add_comm y x, Int.mul_comm y x,
        add_l, add_r, mul_l, mul_r, Int.add_assoc, Int.mul_assoc, Int.mul_add]
      have h1 : InW 1 b := ⟨by decide, pw_pos hb⟩
      have e : x + (-1 - x) + 1 = 0 := by omega
      simp only [gd1, hd1, tl1, dr0, dr1, dr2, dr3, dr4, dr5, dr6, bo1, in1, st1, ls1, le1, pt1, fi1, fb1, fs1, ct1, cf1, nt1, nf1, ak0, akT, akF, cdec, cndec, cbeq, cnbeq, ↓reduceIte, beq_self_eq_true, Int.reduceBEq, Int.reduceEq, Bool.and_true, Bool.true_and, Bool.false_and, Bool.and_false, t20 b _ 1 hb (ad _) h1, add_l, e, Int.zero_emod]
    · simp only [gd1, hd1, tl1, dr0, dr1, dr2, dr3, dr4, dr5, dr6, bo1, in1, st1, ls1, le1, pt1, fi1, fb1, fs1, ct1, cf1, nt1, nf1, ak0, akT, akF, cdec, cndec, cbeq, cnbeq, ↓reduceIte, beq_self_eq_true, Int.reduceBEq, Int.reduceEq, Bool.and_true, Bool.true_and, Bool.false_and, Bool.and_false, s9, u64_nn, h, not_false_eq_true, decide_true]
  · rw [wid_dec]
    simp only [gd1, hd1, tl1, dr0, dr1, dr2, dr3, dr4, dr5, dr6, bo1, in1, st1, ls1, le1, pt1, fi1, fb1, fs1, ct1, cf1, nt1, nf1, ak0, akT, akF, cdec, cndec, cbeq, cnbeq, ↓reduceIte, beq_self_eq_true, Int.reduceBEq, Int.reduceEq, Bool.and_true, Bool.true_and, Bool.false_and, Bool.and_false, s9, u64_nn, hb, not_false_eq_true, decide_true]

theorem nat_morgan {k a b : Nat} (ha : a < 2 ^ k) (hb : b < 2 ^ k) : (2 ^ k - (a + 1)) ||| (2 ^ k - (b + 1)) = 2 ^ k - ((a &&& b) + 1) := by
  apply Nat.eq_of_testBit_eq
  intro i
  rw [Nat.testBit_or, Nat.testBit_two_pow_sub_succ ha, Nat.testBit_two_pow_sub_succ hb, Nat.testBit_two_pow_sub_succ (Nat.and_lt_two_pow _ hb), Nat.testBit_and]
  cases decide (i < k) <;> cases a.testBit i <;> cases b.testBit i <;> rfl
theorem nat_sum : ∀ (m a b : Nat), a ≤ m → a + b = (a ^^^ b) + 2 * (a &&& b)
  | 0, a, b, h => by
    have : a = 0 := by omega
    subst this; simp
  | m + 1, a, b, h => by
    by_cases h0 : a = 0
    · subst h0; simp
    · have ih := nat_sum m (a / 2) (b / 2) (by omega)
      have e1 : (a ^^^ b) / 2 = a / 2 ^^^ b / 2 := Nat.xor_div_two
      have e2 : (a &&& b) / 2 = a / 2 &&& b / 2 := Nat.and_div_two
      have e3 : (a ^^^ b) % 2 = (a % 2 + b % 2) % 2 := by
        have t := Nat.xor_mod_two_eq_one (a := a) (b := b)
        by_cases p1 : a % 2 = 1 <;> by_cases p2 : b % 2 = 1
        · have : ¬ (a ^^^ b) % 2 = 1 := fun h => t.1 h ⟨fun _ => p2, fun _ => p1⟩
          omega
        · have : (a ^^^ b) % 2 = 1 := t.2 fun h => p2 (h.1 p1)
          omega
        · have : (a ^^^ b) % 2 = 1 := t.2 fun h => p1 (h.2 p2)
          omega
        · have : ¬ (a ^^^ b) % 2 = 1 := fun h => t.1 h ⟨fun h => (p1 h).elim, fun h => (p2 h).elim⟩
          omega
      have e4 : (a &&& b) % 2 = if a % 2 = 1 ∧ b % 2 = 1 then 1 else 0 := by
        have := Nat.and_mod_two_eq_one (a := a) (b := b)
        split
        · rename_i h; exact this.2 h
        · rename_i h
          have : ¬ (a &&& b) % 2 = 1 := fun h' => h (this.1 h')
          omega
      rw [← e1, ← e2] at ih
      split at e4 <;> omega
theorem not_val {a b : Int} (ha : InW a b) : (-1 - a) % pw b = ((2 ^ b.toNat - (a.toNat + 1) : Nat) : Int) := by
  have h := toNat_lt ha
  have h0 := ha.1
  have e : (-1 - a) = ((2 ^ b.toNat - (a.toNat + 1) : Nat) : Int) + pw b * (-1) := by
    rw [pw_two]; omega
  rw [e, Int.add_mul_emod_self_left, pw_two]
  exact Int.emod_eq_of_lt (by omega) (by omega)
theorem law6 (b x y : Int) : Or (.call 6) [I b, I x, I y] [] = some [tb true] := by
  refine orc_of ?_
  rw [e6]
  by_cases hb : Wid b
  · have hc : (bif bif bif bif bif decide (b < 1) then true else decide (b > 8) then true else decide (x < 0) then true else decide (y < 0) then true
          else decide (x ≥ IntKind.i64.wrap (1 * 2 ^ min (IntKind.u64.wrap b).toNat 64)) then true else decide (y ≥ IntKind.i64.wrap (1 * 2 ^ min (IntKind.u64.wrap b).toNat 64))) = decide (¬ (InW x b ∧ InW y b)) := by
      rw [wid_dec, pw_shift' hb]
      simp only [hb, not_true_eq_false, decide_false, cf1, cor, ← Bool.decide_or]
      refine decide_eq_decide.2 ?_
      unfold InW; omega
    rw [hc]
    by_cases h : InW x b ∧ InW y b
    · obtain ⟨hx, hy⟩ := h
      have ad := fun u => in_mod hb u
      have lx := toNat_lt hx
      have ly := toNat_lt hy
      have ha : InW ((x.toNat &&& y.toNat : Nat) : Int) b := ⟨by omega, by rw [pw_two]; exact Int.ofNat_lt.2 (Nat.and_lt_two_pow _ ly)⟩
      have hxo : InW ((x.toNat ^^^ y.toNat : Nat) : Int) b := ⟨by omega, by rw [pw_two]; exact Int.ofNat_lt.2 (Nat.xor_lt_two_pow lx ly)⟩
      have m1 : (-1 - ((x.toNat &&& y.toNat : Nat) : Int)) % pw b = ((((-1 - x) % pw b).toNat ||| ((-1 - y) % pw b).toNat : Nat) : Int) := by
        rw [not_val ha, not_val hx, not_val hy, Int.toNat_natCast, Int.toNat_natCast, Int.toNat_natCast, nat_morgan lx ly]
      have m2 : (x + y) % pw b = (((x.toNat ^^^ y.toNat : Nat) : Int) + (((x.toNat &&& y.toNat : Nat) : Int) * 2 ^ (1 : Int).toNat) % pw b) % pw b := by
        rw [add_r]
        have := nat_sum x.toNat x.toNat y.toNat (Nat.le_refl _)
        have x0 := hx.1
        have y0 := hy.1
        congr 1
        have e : (2 : Int) ^ (1 : Int).toNat = 2 := by decide
        rw [e]
        omega
      have r1 := t18 b ((-1 - x) % pw b) ((-1 - y) % pw b) hb (ad _) (ad _)
      rw [← m1] at r1
      have r2 := t20 b ((x.toNat ^^^ y.toNat : Nat) : Int) ((((x.toNat &&& y.toNat : Nat) : Int) * 2 ^ (1 : Int).toNat) % pw b) hb hxo (ad _)
      rw [← m2] at r2
      have r3 := t22 b x y hb hx hy
      have r4 := t22 b y x hb hy hx
      have w1 : IntKind.i64.wrap (1 + 0) = 1 := by decide
      have w2 : IntKind.i64.wrap (0 + 1) = 1 := by decide
      have w0 : IntKind.i64.wrap (0 + 0) = 0 := by decide
      simp only [gd1, hd1, tl1, dr0, dr1, dr2, dr3, dr4, dr5, dr6, bo1, in1, st1, ls1, le1, pt1, fi1, fb1, fs1, ct1, cf1, nt1, nf1, ak0, akT, akF, cdec, cndec, cbeq, cnbeq, ↓reduceIte, beq_self_eq_true, Int.reduceBEq, Int.reduceEq, Bool.and_true, Bool.true_and, Bool.false_and, Bool.and_false, s9, u64_nn, hx, hy, and_self, not_true_eq_false, decide_false, t16 b x hb hx, t16 b y hb hy, t17 b x y hb hx hy, t16 b _ hb ha, t23 b _ 1 hb ha (by decide), r1, t20 b x y hb hx hy, t19 b x y hb hx hy, r2, r3, r4]
      rcases Int.lt_trichotomy x y with hl | hl | hl
      · have h2 : ¬ y < x := by omega
        simp only [gd1, hd1, tl1, dr0, dr1, dr2, dr3, dr4, dr5, dr6, bo1, in1, st1, ls1, le1, pt1, fi1, fb1, fs1, ct1, cf1, nt1, nf1, ak0, akT, akF, cdec, cndec, cbeq, cnbeq, ↓reduceIte, beq_self_eq_true, Int.reduceBEq, Int.reduceEq, Bool.and_true, Bool.true_and, Bool.false_and, Bool.and_false, hl, h2, w1, gdF]
      · subst hl
        have h2 : ¬ x < x := by omega
        simp only [gd1, hd1, tl1, dr0, dr1, dr2, dr3, dr4, dr5, dr6, bo1, in1, st1, ls1, le1, pt1, fi1, fb1, fs1, ct1, cf1, nt1, nf1, ak0, akT, akF, cdec, cndec, cbeq, cnbeq, ↓reduceIte, beq_self_eq_true, Int.reduceBEq, Int.reduceEq, Bool.and_true, Bool.true_and, Bool.false_and, Bool.and_false, h2, w0, r3, gdF]
      · have h2 : ¬ x < y := by omega
        simp only [gd1, hd1, tl1, dr0, dr1, dr2, dr3, dr4, dr5, dr6, bo1, in1, st1, ls1, le1, pt1, fi1, fb1, fs1, ct1, cf1, nt1, nf1, ak0, akT, akF, cdec, cndec, cbeq, cnbeq, ↓reduceIte, beq_self_eq_true, Int.reduceBEq, Int.reduceEq, Bool.and_true, Bool.true_and, Bool.false_and, Bool.and_false, hl, h2, w2, gdF]
    · simp only [gd1, hd1, tl1, dr0, dr1, dr2, dr3, dr4, dr5, dr6, bo1, in1, st1, ls1, le1, pt1, fi1, fb1, fs1, ct1, cf1, nt1, nf1, ak0, akT, akF, cdec, cndec, cbeq, cnbeq, ↓reduceIte, beq_self_eq_true, Int.reduceBEq, Int.reduceEq, Bool.and_true, Bool.true_and, Bool.false_and, Bool.and_false, s9, u64_nn, h, not_false_eq_true, decide_true]
  · rw [wid_dec]
    simp only [gd1, hd1, tl1, dr0, dr1, dr2, dr3, dr4, dr5, dr6, bo1, in1, st1, ls1, le1, pt1, fi1, fb1, fs1, ct1, cf1, nt1, nf1, ak0, akT, akF, cdec, cndec, cbeq, cnbeq, ↓reduceIte, beq_self_eq_true, Int.reduceBEq, Int.reduceEq, Bool.and_true, Bool.true_and, Bool.false_and, Bool.and_false, s9, u64_nn, hb, not_false_eq_true, decide_true]
end Go.Aev.Gen
