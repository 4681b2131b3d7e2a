/-
  Wide numbers: products, digit by digit.
-/
import Derived.Test.YtobpninhnmmpeaaGreatZAdd
set_option linter.unusedSimpArgs false
set_option linter.unusedVariables false
namespace Go.Aev.Wd
open Go Go.Aev Go.Aev.Gen

/-- One row of a product: a times y, added to what stands there; the carry is put behind. -/
def mulRow (a : Int) : List Int → List Int → Int → List Int
  | [], [], _ => []
  | [], _ :: r, c => c :: r
  | _ :: _, [], _ => []
  | b :: y, o :: r, c => ((c + a * b + o) % 4294967296) :: mulRow a y r ((c + a * b + o) / 4294967296)
theorem mul_b {a b : Int} (ha : 0 ≤ a ∧ a < 4294967296) (hb : 0 ≤ b ∧ b < 4294967296) : 0 ≤ a * b ∧ a * b ≤ 18446744065119617025 := by
  have h1 : 0 ≤ a * b := Int.mul_nonneg ha.1 hb.1
  have h2 : a * b ≤ 4294967295 * 4294967295 := Int.mul_le_mul (by omega) (by omega) hb.1 (by omega)
  omega
theorem mulRow_val {a : Int} (ha : 0 ≤ a ∧ a < 4294967296) : ∀ {y o r : List Int} {c : Int}, y.length = o.length → val (mulRow a y (o ++ 0 :: r) c) = c + a * val y + val (o ++ 0 :: r)
  | [], [], r, c, _ => by simp [mulRow, val]
  | [], o :: os, r, c, h => by simp at h
  | b :: y, [], r, c, h => by simp at h
  | b :: y, o :: os, r, c, h => by
    have := mulRow_val ha (y := y) (o := os) (r := r) (c := (c + a * b + o) / 4294967296) (by simpa using h)
    simp only [List.cons_append, mulRow, val] at this ⊢
    have e1 : a * (b + 4294967296 * val y) = a * b + 4294967296 * (a * val y) := by rw [Int.mul_add, Int.mul_left_comm]
    rw [this, e1]
    omega
theorem mulRow_len {a : Int} : ∀ {y o : List Int} {c : Int}, (mulRow a y o c).length = o.length
  | [], [], _ => rfl
  | [], _ :: r, c => rfl
  | _ :: _, [], _ => rfl
  | b :: y, o :: r, c => by simp [mulRow, mulRow_len]
theorem mulRow_dg {a : Int} (ha : 0 ≤ a ∧ a < 4294967296) : ∀ {y o : List Int} {c : Int}, Dg y → Dg o → 0 ≤ c ∧ c < 4294967296 → Dg (mulRow a y o c)
  | [], [], _, _, _, _ => by intro u hu; simp [mulRow] at hu
  | [], _ :: r, c, _, ho, hc => by
    intro u hu
    simp only [mulRow] at hu
    rcases List.mem_cons.1 hu with rfl | hu
    · exact hc
    · exact ho u (List.mem_cons_of_mem _ hu)
  | _ :: _, [], _, _, _, _ => by intro u hu; simp [mulRow] at hu
  | b :: y, o :: r, c, hy, ho, hc => by
    have h1 := ho o List.mem_cons_self
    have h2 := mul_b ha (hy b List.mem_cons_self)
    have := mulRow_dg ha (y := y) (o := r) (c := (c + a * b + o) / 4294967296) hy.tail ho.tail (by omega)
    intro u hu
    simp only [mulRow] at hu
    rcases List.mem_cons.1 hu with rfl | hu
    · omega
    · exact this u hu
theorem dat_mid (a : List Int) (b : Int) (r : List Int) (i : Nat) (h : a.length = i) : dat (a ++ b :: r) i = b := by
  subst h; simp [dat, List.getD_eq_getElem?_getD]
theorem n37j (s : Bool) (yy : T) (s2 e2 s3 e3 : Bool) (x y : List Int) (a : Int) (ha : 0 ≤ a ∧ a < 4294967296) (hy : Dg y) (i : Nat) (hi : i ≤ 1000) (hny : y.length ≤ 1000) (R : List T) : ∀ (yr : List Int) (j : Nat) (c : Int) (pre mid : List Int), y.drop j = yr → j ≤ y.length → pre.length = i + j → yr.length < mid.length → Dg mid → 0 ≤ c ∧ c < 4294967296 →
    Or K37n3m1 [r0, AV.t (T.ptr [tb s2, T.lst 1 e2 (encD x)]), AV.t (T.ptr [tb s3, T.lst 1 e3 (encD y)]), o1, lu e2 x, I (x.length : Int), I ((i + 1 : Nat) : Int)] [Blk.box [AV.t (T.bool s), AV.t yy], Blk.sl false 1 false (encD (pre ++ mulRow a yr mid c))] = some R →
    Or K37n7m1 [r0, AV.t (T.ptr [tb s2, T.lst 1 e2 (encD x)]), AV.t (T.ptr [tb s3, T.lst 1 e3 (encD y)]), o1, I (i : Int), AV.t (T.int .u32 a), AV.t (T.int .u64 c), lu e2 x, I (x.length : Int), I (i : Int), lu e3 y, I (y.length : Int), I (j : Int)] [Blk.box [AV.t (T.bool s), AV.t yy], Blk.sl false 1 false (encD (pre ++ mid))] = some R := by
  intro yr
  induction yr with
  | nil =>
    intro j c pre mid h hj hp hm hmd hc hR
    have hle := at_end h
    obtain rfl : j = y.length := by omega
    match mid, hm with
    | o :: r, _ =>
      have h1 : ¬ (y.length : Int) < (y.length : Int) := by omega
      have hw : IntKind.i64.wrap ((i : Int) + (y.length : Int)) = ((i + y.length : Nat) : Int) := by rw [wr (by omega)]; omega
      have h2 : 0 ≤ ((i + y.length : Nat) : Int) ∧ ((i + y.length : Nat) : Int) < ((pre ++ o :: r).length : Int) := by simp; omega
      have hs := encD_set (d := pre ++ o :: r) (i := i + y.length) (by simp; omega) c
      rw [set_mid pre o c r _ hp] at hs
      have hw2 : IntKind.u32.wrap c = c := by rw [wr32]; omega
      refine orc_of ?_
      rw [e37n7]
      simp only [gd1, hd1, tl1, dr0, dr1, dr2, dr3, dr4, dr5, dr6, bo1, in1, st1, ls1, le1, pt1, fi1, fb1, fs1, ct1, cf1, nt1, nf1, ak0, akT, akF, cdec, cndec, cbeq, cnbeq, ↓reduceIte, beq_self_eq_true, Int.reduceBEq, Int.reduceEq, Bool.and_true, Bool.true_and, Bool.false_and, Bool.and_false, h1, encD_len, hw, h2, and_self, hw2, hs, next i (by omega)]
      exact hR
  | cons b yr ih =>
    intro j c pre mid h hj hp hm hmd hc hR
    obtain ⟨g1, g2, g3⟩ := at_drop h
    have hb := hy b (List.mem_of_getElem? g1)
    have hdb := dat_of h
    match mid, hm, hmd, hR with
    | o :: r, hm, hmd, hR =>
      have ho := hmd o List.mem_cons_self
      have hab := mul_b ha hb
      have h1 : (j : Int) < (y.length : Int) := by omega
      have h0 : 0 ≤ (j : Int) := by omega
      have hw : IntKind.i64.wrap ((i : Int) + (j : Int)) = ((i + j : Nat) : Int) := by rw [wr (by omega)]; omega
      have h2 : 0 ≤ ((i + j : Nat) : Int) ∧ ((i + j : Nat) : Int) < ((pre ++ o :: r).length : Int) := by simp; omega
      have hg : (encD (pre ++ o :: r))[((i + j : Nat) : Int).toNat]? = some [T.int .u32 o] := by
        rw [encD_at (by simp; omega), dat_mid pre o r _ hp]
      have hs : ∀ v, storeIn ((i + j : Nat) : Int).toNat 0 [T.int .u32 v] (encD (pre ++ o :: r)) = some (encD ((pre ++ [v]) ++ r)) := fun v => by
        rw [encD_set (by simp; omega), set_mid pre o v r _ hp]
        simp
      have w1 : IntKind.u64.wrap a = a := w64 (by omega)
      have w2 : IntKind.u64.wrap b = b := w64 (by omega)
      have w3 : IntKind.u64.wrap o = o := w64 (by omega)
      have w4 : IntKind.u64.wrap (a * b) = a * b := w64 (by omega)
      have w5 : IntKind.u64.wrap (a * b + o) = a * b + o := w64 (by omega)
      have w6 : IntKind.u64.wrap (c + (a * b + o)) = c + a * b + o := by rw [w64 (by omega)]; omega
      have := ih (j + 1) ((c + a * b + o) / 4294967296) (pre ++ [(c + a * b + o) % 4294967296]) r g3 (by omega) (by simp; omega) (by simpa using hm) hmd.tail (by omega) (by
        rw [mulRow] at hR
        rw [List.append_assoc]; exact hR)
      refine orc_of ?_
      rw [e37n7]
      simp only [gd1, hd1, tl1, dr0, dr1, dr2, dr3, dr4, dr5, dr6, bo1, in1, st1, ls1, le1, pt1, fi1, fb1, fs1, ct1, cf1, nt1, nf1, ak0, akT, akF, cdec, cndec, cbeq, cnbeq, ↓reduceIte, beq_self_eq_true, Int.reduceBEq, Int.reduceEq, Bool.and_true, Bool.true_and, Bool.false_and, Bool.and_false, h1, h0, and_self, encD_len, encD_at g2, hdb, hw, h2, hg, w1, w2, w3, w4, w5, w6, wr32, hs, fd32, next j (by omega)]
      exact this
theorem mulRow_split {a : Int} : ∀ {y o r : List Int} {q c : Int}, y.length = o.length → mulRow a y (o ++ q :: r) c = mulRow a y (o ++ [q]) c ++ r
  | [], [], r, q, c, _ => rfl
  | [], o :: os, r, q, c, h => by simp at h
  | b :: y, [], r, q, c, h => by simp at h
  | b :: y, o :: os, r, q, c, h => by
    simp only [List.cons_append, mulRow]
    rw [mulRow_split (by simpa using h)]
theorem n37i (s : Bool) (yy : T) (s2 e2 s3 e3 : Bool) (x y : List Int) (hx : Dg x) (hy : Dg y) (hnx : x.length ≤ 400) (hny : y.length ≤ 400) : ∀ (xr : List Int) (i : Nat) (lo mid : List Int), x.drop i = xr → i ≤ x.length → lo.length = i → mid.length = y.length → Dg lo → Dg mid →
    ∃ d, Or K37n3m1 [r0, AV.t (T.ptr [tb s2, T.lst 1 e2 (encD x)]), AV.t (T.ptr [tb s3, T.lst 1 e3 (encD y)]), o1, lu e2 x, I (x.length : Int), I (i : Int)] [Blk.box [AV.t (T.bool s), AV.t yy], Blk.sl false 1 false (encD (lo ++ (mid ++ List.replicate xr.length 0)))] = some [T.nilp, tb ((!s2 == s3) && decide (trim d ≠ [])), T.lst 1 false (encD (trim d))] ∧
      Dg d ∧ d.length = x.length + y.length ∧ val d = val (lo ++ mid) + 4294967296 ^ i * (val xr * val y) := by
  intro xr
  induction xr with
  | nil =>
    intro i lo mid h hi hlo hmid hdl hdm
    have hle := at_end h
    have h1 : ¬ (i : Int) < (x.length : Int) := by omega
    have hlen : (lo ++ mid).length = x.length + y.length := by simp; omega
    have h51 := s51 (!s2 == s3) false (lo ++ mid) (by omega)
    refine ⟨lo ++ mid, orc_of ?_, fun u hu => ?_, hlen, by simp [val]⟩
    · rw [e37n3]
      simp only [List.length_nil, List.replicate_zero, List.append_nil]
      simp only [gd1, hd1, tl1, dr0, dr1, dr2, dr3, dr4, dr5, dr6, bo1, in1, st1, ls1, le1, pt1, fi1, fb1, fs1, ct1, cf1, nt1, nf1, ak0, akT, akF, cdec, cndec, cbeq, cnbeq, ↓reduceIte, beq_self_eq_true, Int.reduceBEq, Int.reduceEq, Bool.and_true, Bool.true_and, Bool.false_and, Bool.and_false, h1, h51]
    · rcases List.mem_append.1 hu with hu | hu
      · exact hdl u hu
      · exact hdm u hu
  | cons a xr ih =>
    intro i lo mid h hi hlo hmid hdl hdm
    obtain ⟨g1, g2, g3⟩ := at_drop h
    have ha := hx a (List.mem_of_getElem? g1)
    have hda := dat_of h
    have h1 : (i : Int) < (x.length : Int) := by omega
    have h0 : 0 ≤ (i : Int) := by omega
    have hd0 : Dg (mid ++ [0]) := fun u hu => by
      rcases List.mem_append.1 hu with hu | hu
      · exact hdm u hu
      · simp only [List.mem_singleton] at hu; subst hu; omega
    have hv0 := mulRow_val ha (y := y) (o := mid) (r := []) (c := 0) hmid.symm
    have hl0 := mulRow_len (a := a) (y := y) (o := mid ++ [0]) (c := 0)
    have hg0 := mulRow_dg ha (y := y) (o := mid ++ [0]) (c := 0) hy hd0 (by omega)
    have hsp := mulRow_split (a := a) (y := y) (o := mid) (r := List.replicate xr.length 0) (q := 0) (c := 0) hmid.symm
    have hdz : Dg (mid ++ List.replicate (a :: xr).length 0) := fun u hu => by
      rcases List.mem_append.1 hu with hu | hu
      · exact hdm u hu
      · have := List.eq_of_mem_replicate hu; omega
    generalize mulRow a y (mid ++ [0]) 0 = res at *
    cases res with
    | nil => simp at hl0
    | cons hd t =>
      simp only [List.length_cons, List.length_append, List.length_nil] at hl0
      obtain ⟨d, k1, k2, k3, k4⟩ := ih (i + 1) (lo ++ [hd]) t g3 (by omega) (by simp [hlo]) (by omega) (fun u hu => by
        rcases List.mem_append.1 hu with hu | hu
        · exact hdl u hu
        · simp only [List.mem_singleton] at hu; subst hu; exact hg0 u List.mem_cons_self) hg0.tail
      have hin := n37j s yy s2 e2 s3 e3 x y a ha hy i (by omega) (by omega) _ y 0 0 lo (mid ++ List.replicate (a :: xr).length 0) rfl (by omega) (by omega) (by simp; omega) hdz (by omega) (by
        rw [show mid ++ List.replicate (a :: xr).length 0 = mid ++ 0 :: List.replicate xr.length 0 from rfl, hsp]
        rw [show lo ++ (hd :: t ++ List.replicate xr.length 0) = lo ++ [hd] ++ (t ++ List.replicate xr.length 0) from by simp]
        exact k1)
      refine ⟨d, orc_of ?_, k2, k3, ?_⟩
      · rw [e37n3]
        simp only [gd1, hd1, tl1, dr0, dr1, dr2, dr3, dr4, dr5, dr6, bo1, in1, st1, ls1, le1, pt1, fi1, fb1, fs1, ct1, cf1, nt1, nf1, ak0, akT, akF, cdec, cndec, cbeq, cnbeq, ↓reduceIte, beq_self_eq_true, Int.reduceBEq, Int.reduceEq, Bool.and_true, Bool.true_and, Bool.false_and, Bool.and_false, h1, h0, and_self, encD_len, encD_at g2, hda]
        exact hin
      · rw [k4]
        have e1 : lo ++ [hd] ++ t = lo ++ hd :: t := by simp
        have e2 : val (mid ++ [0]) = val mid := by rw [val_append]; simp [val]
        have e3 : (4294967296 : Int) ^ i * ((a + 4294967296 * val xr) * val y) = 4294967296 ^ i * (a * val y) + 4294967296 ^ i * 4294967296 * (val xr * val y) := by
          rw [Int.add_mul, Int.mul_add]; simp only [Int.mul_assoc]
        rw [e1, val_append, val_append, hlo, hv0, e2, Int.pow_succ]
        simp only [val]
        rw [e3, Int.zero_add, Int.mul_add]
        omega
theorem val_zeros : ∀ n : Nat, val (List.replicate n 0) = 0
  | 0 => rfl
  | n + 1 => by simp only [List.replicate_succ, val, val_zeros n]; omega
theorem s37 (s : Bool) (yy : T) (s2 e2 s3 e3 : Bool) (a b : List Int) (u v : Int) (ha : Rep u s2 a) (hb : Rep v s3 b) (la : a.length ≤ 400) (lb : b.length ≤ 400) :
    Sets (u * v) (a.length + b.length) (Or (.call 72) [r0, AV.t (T.ptr [tb s2, T.lst 1 e2 (encD a)]), AV.t (T.ptr [tb s3, T.lst 1 e3 (encD b)])] [Blk.box [AV.t (T.bool s), AV.t yy]]) := by
  obtain ⟨d, k1, k2, k3, k4⟩ := n37i s yy s2 e2 s3 e3 a b ha.dg hb.dg la lb a 0 [] (List.replicate b.length 0) rfl (by omega) rfl (by simp) (fun u hu => by cases hu) (fun u hu => by
    have := List.eq_of_mem_replicate hu; omega)
  have hv : val d = val a * val b := by
    rw [k4, List.nil_append, val_zeros]; simp
  have hw : IntKind.i64.wrap ((a.length : Int) + (b.length : Int)) = ((b.length + a.length : Nat) : Int) := by rw [wr (by omega)]; omega
  have hmk : mkOk ((b.length + a.length : Nat) : Int) ((b.length + a.length : Nat) : Int) = some () := by unfold mkOk lim; rw [if_pos (by omega)]
  have he : encD ([] ++ (List.replicate b.length 0 ++ List.replicate a.length 0)) = List.replicate (b.length + a.length) [T.int IntKind.u32 0] := by
    rw [List.nil_append, List.replicate_append_replicate]; simp [encD]
  rw [he] at k1
  have hu := ha.z
  have hv' := hb.z
  refine ⟨(!s2 == s3) && decide (trim d ≠ []), false, trim d, orc_of ?_, trim_rep (s := !s2 == s3) k2 ?_, by have := trim_len d; omega⟩
  · rw [e37]
    simp only [encD_len, hw]
    simp only [gd1, hd1, tl1, dr0, dr1, dr2, dr3, dr4, dr5, dr6, bo1, in1, st1, ls1, le1, pt1, fi1, fb1, fs1, ct1, cf1, nt1, nf1, ak0, akT, akF, cdec, cndec, cbeq, cnbeq, ↓reduceIte, beq_self_eq_true, Int.reduceBEq, Int.reduceEq, Bool.and_true, Bool.true_and, Bool.false_and, Bool.and_false, hmk, Int.toNat_natCast]
    exact k1
  · unfold num at hu hv' ⊢
    rw [hv, ← hu, ← hv']
    cases s2 <;> cases s3 <;> simp [Int.mul_neg, Int.neg_mul]
end Go.Aev.Wd
