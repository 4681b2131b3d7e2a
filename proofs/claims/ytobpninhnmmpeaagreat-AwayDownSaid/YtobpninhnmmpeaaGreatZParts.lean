/-
  Long division: the walk.
-/
import Derived.Test.YtobpninhnmmpeaaGreatZKnuth
set_option linter.unusedSimpArgs false
set_option linter.unusedVariables false
namespace Go.Aev.Wd
open Go Go.Aev Go.Aev.Gen

abbrev u6 (n : Int) : AV := AV.t (T.int .u64 n)
abbrev U2 (ec0 ec1 : Bool) (u out : List Int) : List Blk := [Blk.sl false 1 ec0 (encD u), Blk.sl false 1 ec1 (encD out)]
def Good (Φ : List T → Prop) (r : Option (List T)) : Prop := ∃ R, r = some R ∧ Φ R
theorem Good.step {Φ : List T → Prop} {r r' : Option (List T)} (h : Good Φ r') (k : ∀ R, r' = some R → r = some R) : Good Φ r := by
  obtain ⟨R, h1, h2⟩ := h
  exact ⟨R, k R h1, h2⟩
theorem dat_get {d : List Int} {i : Nat} {a : Int} (h : d[i]? = some a) : dat d i = a := by simp [dat, List.getD_eq_getElem?_getD, h]
theorem nx (i : Nat) (h : i ≤ 100000) : IntKind.i64.wrap ((i : Int) + 1) = ((i + 1 : Nat) : Int) := next i h
theorem ad (i j : Nat) (h : i + j ≤ 100000) : IntKind.i64.wrap ((i : Int) + (j : Int)) = ((i + j : Nat) : Int) := by rw [Go.Aev.wr (by omega)]; omega
theorem enc_mid (a : List Int) (b : Int) (r : List Int) (i : Nat) (h : a.length = i) : (encD (a ++ b :: r))[((i : Nat) : Int).toNat]? = some [T.int .u32 b] := by
  rw [encD_at (by simp; omega), dat_mid a b r i h]
theorem set_enc (a : List Int) (b v : Int) (r : List Int) (i : Nat) (h : a.length = i) : storeIn (i : Int).toNat 0 [T.int .u32 v] (encD (a ++ b :: r)) = some (encD (a ++ v :: r)) := by
  rw [encD_set (by simp; omega), set_mid a b v r i h]
theorem m27 (s : Nat) (ev ec0 ec1 : Bool) (v : List Int) (hv : Dg v) (lo hi out : List Int) (top q : Int) (hq : 0 ≤ q ∧ q < 4294967296) (hlo : lo.length ≤ 1000) (hvl : v.length ≤ 1000) (R : List T) : ∀ (vs : List Int) (i : Nat) (c b : Int) (done us : List Int), v.drop i = vs → i ≤ v.length → done.length = i → us.length = vs.length → Dg us → 0 ≤ c ∧ c < 4294967296 → 0 ≤ b ∧ b ≤ 1 →
    Or K78n27 [I (s : Int), I (v.length : Int), lu ev v, o0, o1, I (lo.length : Int), u6 q, u6 (msC q us vs c b).1, u6 (msC q us vs c b).2, lu ev v, I (v.length : Int), I (v.length : Int)] (U2 ec0 ec1 (lo ++ (done ++ msL q us vs c b ++ top :: hi)) out) = some R →
    Or K78n27 [I (s : Int), I (v.length : Int), lu ev v, o0, o1, I (lo.length : Int), u6 q, u6 c, u6 b, lu ev v, I (v.length : Int), I (i : Int)] (U2 ec0 ec1 (lo ++ (done ++ us ++ top :: hi)) out) = some R := by
  intro vs
  induction vs with
  | nil =>
    intro i c b done us h hil hd hus hdu hc hb hR
    have hle := at_end h
    obtain rfl : i = v.length := by omega
    obtain rfl : us = [] := List.length_eq_zero_iff.1 (by simpa using hus)
    simpa only [msL, msC] using hR
  | cons a vs ih =>
    intro i c b done us h hil hd hus hdu hc hb hR
    obtain ⟨g1, g2, g3⟩ := at_drop h
    have ha := hv a (List.mem_of_getElem? g1)
    have hda := dat_of h
    match us, hus, hdu, hR with
    | x :: us, hus, hdu, hR =>
      have hx := hdu x List.mem_cons_self
      have hqa := mul_b hq ha
      rw [msL, msC] at hR
      have := ih (i + 1) ((c + q * a) / 4294967296) (bor (x - (c + q * a) % 4294967296 - b)) (done ++ [(x - (c + q * a) % 4294967296 - b) % 4294967296]) us g3 (by omega) (by simp [hd]) (by simpa using hus) hdu.tail (by omega) (bor_b _) (by
        simpa only [List.append_assoc, List.cons_append, List.nil_append] using hR)
      have h1 : (i : Int) < (v.length : Int) := by omega
      have h0 : 0 ≤ (i : Int) := by omega
      have hu : lo ++ (done ++ x :: us ++ top :: hi) = (lo ++ done) ++ x :: (us ++ top :: hi) := by simp
      have hu' : lo ++ (done ++ [(x - (c + q * a) % 4294967296 - b) % 4294967296] ++ us ++ top :: hi) = (lo ++ done) ++ ((x - (c + q * a) % 4294967296 - b) % 4294967296) :: (us ++ top :: hi) := by simp
      have hk : (lo ++ done).length = lo.length + i := by simp [hd]
      rw [hu'] at this
      rw [hu]
      have hb1 : 0 ≤ ((lo.length + i : Nat) : Int) ∧ ((lo.length + i : Nat) : Int) < (((lo ++ done) ++ x :: (us ++ top :: hi)).length : Int) := by simp [hd]; omega
      have w1 : IntKind.u64.wrap a = a := w64 (by omega)
      have w2 : IntKind.u64.wrap (q * a) = q * a := w64 (by omega)
      have w3 : IntKind.u64.wrap (c + q * a) = c + q * a := w64 (by omega)
      have w4 : IntKind.u64.wrap ((c + q * a) % 4294967296) = (c + q * a) % 4294967296 := w64 (by omega)
      have w5 : IntKind.u64.wrap x = x := w64 (by omega)
      refine orc_of ?_
      rw [e78n27]
      simp only [gd1, hd1, tl1, dr0, dr1, dr2, dr3, dr4, dr5, dr6, bo1, in1, st1, ls1, le1, pt1, fi1, fb1, fs1, ct1, cf1, nt1, nf1, ak0, akT, akF, cdec, cndec, cbeq, cnbeq, ↓reduceIte, beq_self_eq_true, Int.reduceBEq, Int.reduceEq, Bool.and_true, Bool.true_and, Bool.false_and, Bool.and_false, h1, h0, and_self, encD_len, encD_at g2, hda, ad lo.length i (by omega), hb1, enc_mid (lo ++ done) x _ _ hk, w1, w2, w3, wr32, w4, w5, ww64, set_enc (lo ++ done) x _ _ _ hk, fd32, fd63 (v := x - (c + q * a) % 4294967296 - b) (by omega), nx i (by omega)]
      simp only [wr64, Int.emod_emod_of_dvd _ (show (4294967296 : Int) ∣ 18446744073709551616 by decide)]
      exact this
theorem m41 (s : Nat) (ev ec0 ec1 : Bool) (v : List Int) (hv : Dg v) (lo hi out : List Int) (top q : Int) (hlo : lo.length ≤ 1000) (hvl : v.length ≤ 1000) (R : List T) : ∀ (vs : List Int) (i : Nat) (c : Int) (done us : List Int), v.drop i = vs → i ≤ v.length → done.length = i → us.length = vs.length → Dg us → 0 ≤ c ∧ c ≤ 1 →
    Or K78n41 [I (s : Int), I (v.length : Int), lu ev v, o0, o1, I (lo.length : Int), u6 q, u6 (abC us vs c), lu ev v, I (v.length : Int), I (v.length : Int)] (U2 ec0 ec1 (lo ++ (done ++ abL us vs c ++ top :: hi)) out) = some R →
    Or K78n41 [I (s : Int), I (v.length : Int), lu ev v, o0, o1, I (lo.length : Int), u6 q, u6 c, lu ev v, I (v.length : Int), I (i : Int)] (U2 ec0 ec1 (lo ++ (done ++ us ++ top :: hi)) out) = some R := by
  intro vs
  induction vs with
  | nil =>
    intro i c done us h hil hd hus hdu hc hR
    have hle := at_end h
    obtain rfl : i = v.length := by omega
    obtain rfl : us = [] := List.length_eq_zero_iff.1 (by simpa using hus)
    simpa only [abL, abC] using hR
  | cons a vs ih =>
    intro i c done us h hil hd hus hdu hc hR
    obtain ⟨g1, g2, g3⟩ := at_drop h
    have ha := hv a (List.mem_of_getElem? g1)
    have hda := dat_of h
    match us, hus, hdu, hR with
    | x :: us, hus, hdu, hR =>
      have hx := hdu x List.mem_cons_self
      rw [abL, abC] at hR
      have := ih (i + 1) ((c + (x + a)) / 4294967296) (done ++ [(c + (x + a)) % 4294967296]) us g3 (by omega) (by simp [hd]) (by simpa using hus) hdu.tail (by omega) (by
        simpa only [List.append_assoc, List.cons_append, List.nil_append] using hR)
      have h1 : (i : Int) < (v.length : Int) := by omega
      have h0 : 0 ≤ (i : Int) := by omega
      have hu : lo ++ (done ++ x :: us ++ top :: hi) = (lo ++ done) ++ x :: (us ++ top :: hi) := by simp
      have hu' : lo ++ (done ++ [(c + (x + a)) % 4294967296] ++ us ++ top :: hi) = (lo ++ done) ++ ((c + (x + a)) % 4294967296) :: (us ++ top :: hi) := by simp
      have hk : (lo ++ done).length = lo.length + i := by simp [hd]
      rw [hu'] at this
      rw [hu]
      have hb1 : 0 ≤ ((lo.length + i : Nat) : Int) ∧ ((lo.length + i : Nat) : Int) < (((lo ++ done) ++ x :: (us ++ top :: hi)).length : Int) := by simp [hd]; omega
      have w1 : IntKind.u64.wrap a = a := w64 (by omega)
      have w2 : IntKind.u64.wrap x = x := w64 (by omega)
      have w3 : IntKind.u64.wrap (x + a) = x + a := w64 (by omega)
      have w4 : IntKind.u64.wrap (c + (x + a)) = c + (x + a) := w64 (by omega)
      refine orc_of ?_
      rw [e78n41]
      simp only [gd1, hd1, tl1, dr0, dr1, dr2, dr3, dr4, dr5, dr6, bo1, in1, st1, ls1, le1, pt1, fi1, fb1, fs1, ct1, cf1, nt1, nf1, ak0, akT, akF, cdec, cndec, cbeq, cnbeq, ↓reduceIte, beq_self_eq_true, Int.reduceBEq, Int.reduceEq, Bool.and_true, Bool.true_and, Bool.false_and, Bool.and_false, h1, h0, and_self, encD_len, encD_at g2, hda, ad lo.length i (by omega), hb1, enc_mid (lo ++ done) x _ _ hk, w1, w2, w3, w4, wr32, set_enc (lo ++ done) x _ _ _ hk, fd32, nx i (by omega)]
      exact this
/-! ### One digit of the quotient -/
section
variable (s : Nat) (ev ec0 ec1 : Bool) (v : List Int) (lo hi : List Int)
/-- Where the run goes on behind a digit. -/
noncomputable abbrev K17 (v : List Int) (u out : List Int) (k : Int) : Option (List T) := Or K78n17 [I (s : Int), I (v.length : Int), lu ev v, o0, o1, I k] (U2 ec0 ec1 u out)
theorem wm1 (k : Nat) (h : k ≤ 100000) : IntKind.i64.wrap ((k : Int) - 1) = (k : Int) - 1 := Go.Aev.wr (by omega)
theorem digit (hv : Dg v) (hvl : v.length ≤ 1000) (hlo : lo.length ≤ 1000) (w : List Int) (top : Int) (hw : Dg w) (hwl : w.length = v.length) (ht : 0 ≤ top ∧ top < 4294967296) (hVp : 0 < val v) (qs : List Int) (Φ : List T → Prop)
    (q : Int) (hq : q = (val w + 4294967296 ^ v.length * top) / val v) (q' : Int) (hq1 : q ≤ q') (hq2 : q' ≤ q + 1) (hqb : 0 ≤ q' ∧ q' < 4294967296) (hq0 : 0 ≤ q)
    (next : ∀ R' : List Int, Dg R' → R'.length = v.length → val R' = (val w + 4294967296 ^ v.length * top) % val v → Good Φ (K17 s ev ec0 ec1 v (lo ++ (R' ++ 0 :: hi)) (List.replicate lo.length 0 ++ q :: qs) ((lo.length : Int) - 1))) :
    Good Φ (Or K78n27 [I (s : Int), I (v.length : Int), lu ev v, o0, o1, I (lo.length : Int), u6 q', u6 0, u6 0, lu ev v, I (v.length : Int), I 0] (U2 ec0 ec1 (lo ++ (w ++ top :: hi)) (List.replicate lo.length 0 ++ 0 :: qs))) := by
  obtain ⟨s1, s2, s3, s4, s5, s6, s7⟩ := ms_spec hqb (us := w) (vs := v) (c := 0) (b := 0) hwl hw hv (by omega) (by omega)
  have hvV := val_lt hv
  have hm0 := val_nonneg s3
  have hmB := val_lt s3
  rw [s2] at hmB
  rw [hwl] at s1 hmB
  have hdm := Int.mul_ediv_add_emod (val w + 4294967296 ^ v.length * top) (val v)
  have hr0 := Int.emod_nonneg (val w + 4294967296 ^ v.length * top) (show val v ≠ 0 by omega)
  have hr1 := Int.emod_lt_of_pos (val w + 4294967296 ^ v.length * top) hVp
  rw [← hq] at hdm
  generalize (val w + 4294967296 ^ v.length * top) % val v = r at *
  have hkz : (List.replicate lo.length (0 : Int)).length = lo.length := by simp
  have key : ∀ R, Or K78n27 [I (s : Int), I (v.length : Int), lu ev v, o0, o1, I (lo.length : Int), u6 q', u6 (msC q' w v 0 0).1, u6 (msC q' w v 0 0).2, lu ev v, I (v.length : Int), I (v.length : Int)] (U2 ec0 ec1 (lo ++ (msL q' w v 0 0 ++ top :: hi)) (List.replicate lo.length 0 ++ 0 :: qs)) = some R →
      Or K78n27 [I (s : Int), I (v.length : Int), lu ev v, o0, o1, I (lo.length : Int), u6 q', u6 0, u6 0, lu ev v, I (v.length : Int), I 0] (U2 ec0 ec1 (lo ++ (w ++ top :: hi)) (List.replicate lo.length 0 ++ 0 :: qs)) = some R := fun R hR =>
    m27 s ev ec0 ec1 v hv lo hi _ top q' hqb hlo hvl R v 0 0 0 [] w rfl (by omega) rfl hwl hw (by omega) (by omega) (by simpa using hR)
  generalize msL q' w v 0 0 = M at *
  generalize msC q' w v 0 0 = cb at *
  obtain ⟨c, b⟩ := cb
  dsimp only at s1 s4 s5 s6 s7 key
  have hun : lo ++ (M ++ top :: hi) = (lo ++ M) ++ top :: hi := by simp
  have hkl : (lo ++ M).length = lo.length + v.length := by simp [s2, hwl]
  have hb1 : 0 ≤ ((lo.length + v.length : Nat) : Int) ∧ ((lo.length + v.length : Nat) : Int) < (((lo ++ M) ++ top :: hi).length : Int) := by simp [s2, hwl]; omega
  have hb2 : 0 ≤ (lo.length : Int) ∧ (lo.length : Int) < ((List.replicate lo.length (0 : Int) ++ 0 :: qs).length : Int) := by simp; omega
  have wt : IntKind.u64.wrap top = top := w64 (by omega)
  have hend : ¬ (v.length : Int) < (v.length : Int) := by omega
  have hPp := pow_pos' v.length
  -- the value of what is left
  have hval : val M + 4294967296 ^ v.length * (top - c - b) = (val w + 4294967296 ^ v.length * top) - q' * val v := by
    rw [s1, Int.mul_sub, Int.mul_sub, Int.mul_add]; omega
  have hPt : ∀ z : Int, z ≤ -1 → 4294967296 ^ v.length * z ≤ -(4294967296 ^ v.length) := fun z hz => by
    have : (4294967296 : Int) ^ v.length * z ≤ 4294967296 ^ v.length * (-1) := Int.mul_le_mul_of_nonneg_left hz (Int.le_of_lt hPp)
    omega
  have hPt2 : ∀ z : Int, 1 ≤ z → 4294967296 ^ v.length ≤ (4294967296 : Int) ^ v.length * z := fun z hz => by
    have : (4294967296 : Int) ^ v.length * 1 ≤ 4294967296 ^ v.length * z := Int.mul_le_mul_of_nonneg_left hz (Int.le_of_lt hPp)
    omega
  by_cases he : q' = q
  · subst he
    have hz : top - c - b = 0 := by
      rcases Int.lt_trichotomy (top - c - b) 0 with h | h | h
      · have := hPt (top - c - b) (by omega); rw [Int.mul_comm q'] at hval; omega
      · exact h
      · have := hPt2 (top - c - b) (by omega); rw [Int.mul_comm q'] at hval; omega
    have hbr : bor (top - c - b) = 0 := by rw [hz]; rfl
    have h01 : ¬ (0 : Int) = 1 := by omega
    refine (next M s3 (by rw [s2, hwl]) (by rw [hz] at hval; rw [Int.mul_comm q'] at hval; omega)).step fun R hR => key R (orc_of ?_)
    rw [e78n27, hun]
    have hz2 : IntKind.u32.wrap (IntKind.u64.wrap (top - c - b)) = 0 := by rw [hz]; rfl
    have wq : IntKind.u32.wrap q' = q' := by rw [wr32]; omega
    rw [show lo ++ (M ++ 0 :: hi) = (lo ++ M) ++ 0 :: hi from by simp] at hR
    simp only [gd1, hd1, tl1, dr0, dr1, dr2, dr3, dr4, dr5, dr6, bo1, in1, st1, ls1, le1, pt1, fi1, fb1, fs1, ct1, cf1, nt1, nf1, ak0, akT, akF, cdec, cndec, cbeq, cnbeq, ↓reduceIte, beq_self_eq_true, Int.reduceBEq, Int.reduceEq, Bool.and_true, Bool.true_and, Bool.false_and, Bool.and_false, hend, encD_len, ad lo.length v.length (by omega), hb1, and_self, enc_mid (lo ++ M) top hi _ hkl, wt, ww64, hz2, set_enc (lo ++ M) top _ hi _ hkl, fd63 (v := top - c - b) (by omega), hbr, h01, hb2, wq, set_enc _ 0 _ qs _ hkz, wm1 lo.length (by omega)]
    exact hR
  · have he1 : q' = q + 1 := by omega
    have hq'V : q' * val v = val v * q + val v := by rw [he1, Int.add_mul, Int.one_mul, Int.mul_comm]
    have hz : top - c - b = -1 := by
      rcases Int.lt_trichotomy (top - c - b) (-1) with h | h | h
      · exfalso
        have : (4294967296 : Int) ^ v.length * (top - c - b) ≤ 4294967296 ^ v.length * (-2) := Int.mul_le_mul_of_nonneg_left (by omega) (Int.le_of_lt hPp)
        omega
      · exact h
      · exfalso
        have : (4294967296 : Int) ^ v.length * 0 ≤ 4294967296 ^ v.length * (top - c - b) := Int.mul_le_mul_of_nonneg_left (by omega) (Int.le_of_lt hPp)
        omega
    have hbr : bor (top - c - b) = 1 := by rw [hz]; rfl
    obtain ⟨a1, a2, a3, a4, a5⟩ := ab_spec (us := M) (vs := v) (c := 0) (by rw [s2, hwl]) s3 hv (by omega)
    rw [s2, hwl] at a1 a2
    have hA0 := val_nonneg a3
    have hAB := val_lt a3
    rw [a2] at hAB
    rw [hz] at hval
    have hM : val M = r - val v + 4294967296 ^ v.length := by omega
    have hc1 : abC M v 0 = 1 := by
      rcases Int.lt_or_le (abC M v 0) 1 with h | h
      · exfalso
        have : abC M v 0 = 0 := by omega
        rw [this] at a1; omega
      · omega
    rw [hc1] at a1
    refine (next (abL M v 0) a3 a2 (by omega)).step fun R hR => key R ?_
    have key2 := m41 s ev ec0 ec1 v hv lo hi (List.replicate lo.length 0 ++ 0 :: qs) 4294967295 q hlo hvl R v 0 0 [] M rfl (by omega) rfl (by rw [s2, hwl]) s3 (by omega) (by
      rw [hc1]
      refine orc_of ?_
      rw [e78n41]
      have hun2 : lo ++ ([] ++ abL M v 0 ++ 4294967295 :: hi) = (lo ++ abL M v 0) ++ 4294967295 :: hi := by simp
      rw [hun2]
      have hkl2 : (lo ++ abL M v 0).length = lo.length + v.length := by simp [a2]
      have hb3 : 0 ≤ ((lo.length + v.length : Nat) : Int) ∧ ((lo.length + v.length : Nat) : Int) < (((lo ++ abL M v 0) ++ 4294967295 :: hi).length : Int) := by simp [a2]; omega
      have hz2 : IntKind.u32.wrap (4294967295 + IntKind.u32.wrap 1) = 0 := by rw [wr32, wr32]; rfl
      have wq : IntKind.u32.wrap q = q := by rw [wr32]; omega
      rw [show lo ++ (abL M v 0 ++ 0 :: hi) = (lo ++ abL M v 0) ++ 0 :: hi from by simp] at hR
      simp only [gd1, hd1, tl1, dr0, dr1, dr2, dr3, dr4, dr5, dr6, bo1, in1, st1, ls1, le1, pt1, fi1, fb1, fs1, ct1, cf1, nt1, nf1, ak0, akT, akF, cdec, cndec, cbeq, cnbeq, ↓reduceIte, beq_self_eq_true, Int.reduceBEq, Int.reduceEq, Bool.and_true, Bool.true_and, Bool.false_and, Bool.and_false, hend, encD_len, ad lo.length v.length (by omega), hb3, and_self, enc_mid (lo ++ abL M v 0) _ hi _ hkl2, hz2, set_enc (lo ++ abL M v 0) _ _ hi _ hkl2, hb2, wq, set_enc _ 0 _ qs _ hkz, wm1 lo.length (by omega)]
      exact hR)
    refine orc_of ?_
    rw [e78n27, hun]
    have hz2 : IntKind.u32.wrap (IntKind.u64.wrap (top - c - b)) = 4294967295 := by rw [hz]; rfl
    have wq : IntKind.u64.wrap (q' - 1) = q := by rw [w64 (by omega)]; omega
    rw [show lo ++ ([] ++ M ++ 4294967295 :: hi) = (lo ++ M) ++ 4294967295 :: hi from by simp] at key2
    simp only [gd1, hd1, tl1, dr0, dr1, dr2, dr3, dr4, dr5, dr6, bo1, in1, st1, ls1, le1, pt1, fi1, fb1, fs1, ct1, cf1, nt1, nf1, ak0, akT, akF, cdec, cndec, cbeq, cnbeq, ↓reduceIte, beq_self_eq_true, Int.reduceBEq, Int.reduceEq, Bool.and_true, Bool.true_and, Bool.false_and, Bool.and_false, hend, encD_len, ad lo.length v.length (by omega), hb1, and_self, enc_mid (lo ++ M) top hi _ hkl, wt, ww64, hz2, set_enc (lo ++ M) top _ hi _ hkl, fd63 (v := top - c - b) (by omega), hbr, wq]
    exact key2
end
theorem m21 (s k : Nat) (ev ec0 ec1 : Bool) (v u out : List Int) (Φ : List T → Prop) {U V P w0 v0 u2 v2 v1 Tt q : Int} (hvl : v.length ≤ 1000) (hkl : k ≤ 1000) (hn2 : 2 ≤ v.length) (hul : k + v.length < u.length)
    (hf1 : (encD v)[((v.length - 1 : Nat) : Int).toNat]? = some [T.int .u32 v1]) (hf2 : (encD v)[((v.length - 2 : Nat) : Int).toNat]? = some [T.int .u32 v2]) (hf3 : (encD u)[((k + v.length - 2 : Nat) : Int).toNat]? = some [T.int .u32 u2])
    (hP : 0 < P) (hU : U = w0 + P * u2 + 4294967296 * (P * Tt)) (hV : V = v0 + P * v2 + 4294967296 * (P * v1)) (hw : 0 ≤ w0 ∧ w0 < P) (hv0 : 0 ≤ v0 ∧ v0 < P) (hu2 : 0 ≤ u2 ∧ u2 < 4294967296) (hv2 : 0 ≤ v2 ∧ v2 < 4294967296) (hv1 : 1 ≤ v1 ∧ v1 < 4294967296)
    (hU0 : 0 ≤ U) (hUV : U < V * 4294967296) (hVp : 0 < V) (hq : q = U / V)
    (go : ∀ q', q ≤ q' → q' ≤ q + 1 → 0 ≤ q' → q' < 4294967296 → Good Φ (Or K78n27 [I (s : Int), I (v.length : Int), lu ev v, o0, o1, I (k : Int), u6 q', u6 0, u6 0, lu ev v, I (v.length : Int), I 0] (U2 ec0 ec1 u out))) :
    ∀ (m : Nat) (qh rh : Int), 4294967296 - rh ≤ (m : Int) → qh * v1 + rh = Tt → 0 ≤ rh ∧ rh < 4294967296 → q ≤ qh → qh < 18446744073709551616 →
      Good Φ (Or K78n21 [I (s : Int), I (v.length : Int), lu ev v, o0, o1, I (k : Int), u6 qh, u6 rh] (U2 ec0 ec1 u out)) := by
  have hqV : q * V ≤ U := by rw [hq]; exact Int.ediv_mul_le _ (by omega)
  have hqV1 : U < (q + 1) * V := by rw [hq, Int.add_mul, Int.one_mul]; have := Int.mul_ediv_add_emod U V; have := Int.emod_lt_of_pos U hVp; rw [Int.mul_comm V] at *; omega
  have hq0 : 0 ≤ q := by rw [hq]; exact Int.ediv_nonneg hU0 (by omega)
  have hqB : q < 4294967296 := by rw [hq]; exact Int.ediv_lt_of_lt_mul hVp (by rw [Int.mul_comm]; exact hUV)
  -- the upper bound of the guess that a break leaves
  have hT3 : Tt < 4294967296 * (v1 + 1) := by
    rcases Int.lt_or_le Tt (4294967296 * (v1 + 1)) with h | h
    · exact h
    · exfalso
      have h1 : P * (4294967296 * (v1 + 1)) ≤ P * Tt := Int.mul_le_mul_of_nonneg_left h (by omega)
      have h2 : P * v2 ≤ P * 4294967295 := Int.mul_le_mul_of_nonneg_left (by omega) (by omega)
      have h3 : 0 ≤ P * u2 := Int.mul_nonneg (by omega) hu2.1
      rw [Int.mul_left_comm, Int.mul_add, Int.mul_one] at h1
      omega
  intro m
  induction m with
  | zero => intro qh rh hm _ hr _ _; omega
  | succ m ih =>
    intro qh rh hm hT hr hqq hq64
    have w1 : IntKind.i64.wrap ((v.length : Int) - 2) = ((v.length - 2 : Nat) : Int) := by rw [Go.Aev.wr (by omega)]; omega
    have w2 : IntKind.i64.wrap (((k + v.length : Nat) : Int) - 2) = ((k + v.length - 2 : Nat) : Int) := by rw [Go.Aev.wr (by omega)]; omega
    have w3 : IntKind.i64.wrap ((v.length : Int) - 1) = ((v.length - 1 : Nat) : Int) := by rw [Go.Aev.wr (by omega)]; omega
    have b1 : 0 ≤ ((v.length - 2 : Nat) : Int) ∧ ((v.length - 2 : Nat) : Int) < (v.length : Int) := by omega
    have b2 : 0 ≤ ((k + v.length - 2 : Nat) : Int) ∧ ((k + v.length - 2 : Nat) : Int) < (u.length : Int) := by omega
    have b3 : 0 ≤ ((v.length - 1 : Nat) : Int) ∧ ((v.length - 1 : Nat) : Int) < (v.length : Int) := by omega
    have x1 : IntKind.u64.wrap v2 = v2 := w64 (by omega)
    have x2 : IntKind.u64.wrap v1 = v1 := w64 (by omega)
    have x3 : IntKind.u64.wrap (rh + v1) = rh + v1 := w64 (by omega)
    have hor := or64 hr hu2
    by_cases hc : qh ≥ 4294967296 ∨ qh * v2 > rh * 4294967296 + u2
    · -- one less
      have hle : q ≤ qh - 1 := by
        rcases hc with hc | hc
        · omega
        · exact guess1 hP hU hV hw hv0.1 (by omega) hT hqV hc hVp
      have x4 : IntKind.u64.wrap (qh - 1) = qh - 1 := w64 (by omega)
      have hT' : (qh - 1) * v1 + (rh + v1) = Tt := by rw [Int.sub_mul, Int.one_mul]; omega
      have hcond : (¬ qh / 4294967296 = 0 ∨ IntKind.u64.wrap (qh * v2) > rh * 4294967296 + u2) := by
        by_cases hb : qh ≥ 4294967296
        · left; omega
        · right
          rcases hc with hc | hc
          · exact absurd hc hb
          · have := mul_b (a := qh) (b := v2) (by omega) hv2
            rw [w64 (by omega)]; exact hc
      by_cases hbr : rh + v1 < 4294967296
      · have hz : (rh + v1) / 4294967296 = 0 := by omega
        refine (ih (qh - 1) (rh + v1) (by omega) hT' (by omega) hle (by omega)).step fun R hR => orc_of ?_
        rw [e78n21]
        simp only [cor, beq_dec, ← decide_not, ← Bool.decide_or, fd32]
        simp only [gd1, hd1, tl1, dr0, dr1, dr2, dr3, dr4, dr5, dr6, bo1, in1, st1, ls1, le1, pt1, fi1, fb1, fs1, ct1, cf1, nt1, nf1, ak0, akT, akF, cdec, cndec, cbeq, cnbeq, ↓reduceIte, beq_self_eq_true, Int.reduceBEq, Int.reduceEq, Bool.and_true, Bool.true_and, Bool.false_and, Bool.and_false, encD_len, w1, ad k v.length (by omega), w2, w3, b1, b2, b3, and_self, hf1, hf2, hf3, x1, x2, x3, x4, hor, hcond, hz]
        exact hR
      · have hz : ¬ (rh + v1) / 4294967296 = 0 := by omega
        have hsm : qh - 1 < 4294967296 := by
          rcases Int.lt_or_le (qh - 1) 4294967296 with h | h
          · exact h
          · exfalso
            have : 4294967296 * v1 ≤ (qh - 1) * v1 := Int.mul_le_mul_of_nonneg_right h (by omega)
            rw [Int.mul_add] at hT3
            omega
        have hup : qh - 1 ≤ q + 1 := by
          have h1 := mul_b (a := qh - 1) (b := v2) (by omega) hv2
          have h2 := guess2 hP hU hV hw.1 hv0 hv2.1 hv1.1 (qh := qh - 1) (by omega) hT' (by omega)
          rcases Int.lt_or_le (q + 1) (qh - 1) with h | h
          · exfalso
            have : (q + 1) * V ≤ (qh - 1 - 1) * V := Int.mul_le_mul_of_nonneg_right (by omega) (by omega)
            omega
          · exact h
        refine (go (qh - 1) hle hup (by omega) hsm).step fun R hR => orc_of ?_
        rw [e78n21]
        simp only [cor, beq_dec, ← decide_not, ← Bool.decide_or, fd32]
        simp only [gd1, hd1, tl1, dr0, dr1, dr2, dr3, dr4, dr5, dr6, bo1, in1, st1, ls1, le1, pt1, fi1, fb1, fs1, ct1, cf1, nt1, nf1, ak0, akT, akF, cdec, cndec, cbeq, cnbeq, ↓reduceIte, beq_self_eq_true, Int.reduceBEq, Int.reduceEq, Bool.and_true, Bool.true_and, Bool.false_and, Bool.and_false, encD_len, w1, ad k v.length (by omega), w2, w3, b1, b2, b3, and_self, hf1, hf2, hf3, x1, x2, x3, x4, hor, hcond, hz]
        exact hR
    · have hqs : qh < 4294967296 := by omega
      have hle : qh * v2 ≤ rh * 4294967296 + u2 := by omega
      have hm2 := mul_b (a := qh) (b := v2) (by omega) hv2
      have x4 : IntKind.u64.wrap (qh * v2) = qh * v2 := w64 (by omega)
      have hcond : ¬ (¬ qh / 4294967296 = 0 ∨ qh * v2 > rh * 4294967296 + u2) := by omega
      have hup : qh ≤ q + 1 := by
        have h2 := guess2 hP hU hV hw.1 hv0 hv2.1 hv1.1 (qh := qh) (by omega) hT hle
        rcases Int.lt_or_le (q + 1) qh with h | h
        · exfalso
          have : (q + 1) * V ≤ (qh - 1) * V := Int.mul_le_mul_of_nonneg_right (by omega) (by omega)
          omega
        · exact h
      refine (go qh hqq hup (by omega) hqs).step fun R hR => orc_of ?_
      rw [e78n21]
      simp only [cor, beq_dec, ← decide_not, ← Bool.decide_or, fd32]
      simp only [gd1, hd1, tl1, dr0, dr1, dr2, dr3, dr4, dr5, dr6, bo1, in1, st1, ls1, le1, pt1, fi1, fb1, fs1, ct1, cf1, nt1, nf1, ak0, akT, akF, cdec, cndec, cbeq, cnbeq, ↓reduceIte, beq_self_eq_true, Int.reduceBEq, Int.reduceEq, Bool.and_true, Bool.true_and, Bool.false_and, Bool.and_false, encD_len, w1, ad k v.length (by omega), w2, w3, b1, b2, b3, and_self, hf1, hf2, hf3, x1, x2, x3, hor, x4, hcond]
      exact hR
/-! ### Shifts -/
theorem pw2 (n : Nat) : ((2 : Int) ^ n) = ((2 ^ n : Nat) : Int) := by rw [Int.natCast_pow]; rfl
theorem or32 {y z : Int} {n t : Nat} (hn : n ≤ 32) (hy : 0 ≤ y ∧ y < (2 : Int) ^ n) (hz : z = ((2 ^ n * t : Nat) : Int)) (hb : z < 4294967296) (hyz : z + y < 4294967296) :
    IntKind.u32.wrap (((BitVec.ofInt 32 y ||| BitVec.ofInt 32 z).toNat : Nat) : Int) = z + y := by
  obtain ⟨a, rfl⟩ := Int.eq_ofNat_of_zero_le hy.1
  have ha : a < 2 ^ n := by have := hy.2; rw [pw2] at this; omega
  have hz0 : 2 ^ n * t < 4294967296 := by rw [hz] at hb; omega
  have hpn : (2 : Nat) ^ n ≤ 2 ^ 32 := Nat.pow_le_pow_right (by decide) hn
  have e1 : a % 2 ^ 32 = a := Nat.mod_eq_of_lt (by omega)
  have e2 : (2 ^ n * t) % 2 ^ 32 = 2 ^ n * t := Nat.mod_eq_of_lt (by omega)
  rw [hz, BitVec.ofInt_natCast, BitVec.ofInt_natCast, BitVec.toNat_or, BitVec.toNat_ofNat, BitVec.toNat_ofNat, e1, e2, Nat.or_comm, ← Nat.two_pow_add_eq_or_of_lt ha, wr32]
  have : 2 ^ n * t + a < 4294967296 := by rw [hz] at hyz; omega
  rw [← Int.natCast_add]
  omega
theorem pw_pos (n : Nat) : 0 < (2 : Int) ^ n := Int.pow_pos (by decide)
theorem pw32 {n : Nat} (h : n ≤ 32) : (4294967296 : Int) = 2 ^ (32 - n) * 2 ^ n := by
  rw [← Int.pow_add, show 32 - n + n = 32 from by omega]; decide
theorem md_mul {a m k : Int} (hm : 0 < m) (hk : 4294967296 = k * m) : (a * m) % 4294967296 = (a % k) * m := by
  conv => lhs; rw [hk]
  rw [mod_mul hm]
theorem n79 (n : Nat) (hn : n < 32) (e : Bool) (x : List Int) (hx : Dg x) (hl : x.length ≤ 900) : ∀ (xr : List Int) (i : Nat) (c : Int) (done : List Int), x.drop i = xr → done.length = i → i ≤ x.length → 0 ≤ c ∧ c < (2 : Int) ^ n →
    Or K79n3 [I (n : Int), o0, lu e x, I (x.length : Int), I (i : Int)] [Blk.sl false 1 false (encD (done ++ c :: List.replicate xr.length 0))] = some [T.lst 1 false (encD (done ++ shlL (2 ^ n) xr c))] := by
  have hp := pw_pos n
  have hk := pw32 (n := n) (by omega)
  have hkp := pw_pos (32 - n)
  have t1 : (n : Int).tdiv 32 = 0 := by rw [Int.tdiv_eq_ediv_of_nonneg (by omega)]; omega
  have t2 : (n : Int).tmod 32 = (n : Int) := by rw [Int.tmod_eq_emod_of_nonneg (by omega)]; omega
  have t3 : min ((n : Int)).toNat 64 = n := by rw [Int.toNat_natCast]; omega
  have t4 : ¬ (n : Int) < 0 := by omega
  have hp31 : (2 : Int) ^ n ≤ 2147483648 := by
    have : (2 : Nat) ^ n ≤ 2 ^ 31 := Nat.pow_le_pow_right (by decide) (by omega)
    rw [pw2]; omega
  intro xr
  induction xr with
  | nil =>
    intro i c done h hd hi hc
    have h1 : ¬ (i : Int) < (x.length : Int) := by have := at_end h; omega
    refine orc_of ?_
    rw [e79n3]
    simp only [gd1, hd1, tl1, dr0, dr1, dr2, dr3, dr4, dr5, dr6, bo1, in1, st1, ls1, le1, pt1, fi1, fb1, fs1, ct1, cf1, nt1, nf1, ak0, akT, akF, cdec, cndec, cbeq, cnbeq, ↓reduceIte, beq_self_eq_true, Int.reduceBEq, Int.reduceEq, Bool.and_true, Bool.true_and, Bool.false_and, Bool.and_false, h1, shlL, List.length_nil, List.replicate_zero]
  | cons a xr ih =>
    intro i c done h hd hi hc
    obtain ⟨g1, g2, g3⟩ := at_drop h
    have ha := hx a (List.mem_of_getElem? g1)
    have hda := dat_of h
    have h1 : (i : Int) < (x.length : Int) := by omega
    have h0 : 0 ≤ (i : Int) := by omega
    have hm0 : 0 ≤ a * (2 : Int) ^ n := Int.mul_nonneg ha.1 (by omega)
    have hm1 : a * (2 : Int) ^ n < 4294967296 * (2 : Int) ^ n := Int.mul_lt_mul_of_pos_right ha.2 hp
    have hd3 : 0 ≤ a * (2 : Int) ^ n / 4294967296 := Int.ediv_nonneg hm0 (by decide)
    have hd2 : a * (2 : Int) ^ n / 4294967296 < (2 : Int) ^ n := by
      rw [Int.ediv_lt_iff_lt_mul (by decide), Int.mul_comm (2 ^ n)]; exact hm1
    have hsp := shl_spec hp hk (x := [a]) (c := c) (by intro u hu; simp at hu; subst hu; exact ha) hc
    have hdg := hsp.2.2 (a * 2 ^ n % 4294967296 + c) (by simp [shlL])
    have hmd := md_mul (a := a) hp hk
    have hor : IntKind.u32.wrap (((BitVec.ofInt 32 c ||| BitVec.ofInt 32 (a * (2 : Int) ^ n % 4294967296)).toNat : Nat) : Int) = a * (2 : Int) ^ n % 4294967296 + c := by
      have hk0 := Int.emod_nonneg a (show (2 : Int) ^ (32 - n) ≠ 0 by omega)
      obtain ⟨t, ht⟩ := Int.eq_ofNat_of_zero_le hk0
      exact or32 (n := n) (t := t) (by omega) hc (by rw [hmd, ht, pw2, Int.mul_comm, ← Int.natCast_mul]) (by omega) (by omega)
    have w1 : IntKind.u64.wrap a = a := w64 (by omega)
    have w2 : IntKind.u64.wrap (a * (2 : Int) ^ n) = a * (2 : Int) ^ n := w64 (by omega)
    have w3 : IntKind.i64.wrap 0 = 0 := by rw [Go.Aev.wr (by omega)]
    have w4 : IntKind.i64.wrap ((i : Int) + 0) = (i : Int) := by rw [Go.Aev.wr (by omega)]; omega
    have w5 : IntKind.u32.wrap (a * (2 : Int) ^ n / 4294967296) = a * (2 : Int) ^ n / 4294967296 := by rw [wr32]; omega
    have hlen : 0 ≤ (i : Int) ∧ (i : Int) < ((done ++ c :: List.replicate (a :: xr).length 0).length : Int) := by simp; omega
    have hlen2 : 0 ≤ ((i + 1 : Nat) : Int) ∧ ((i + 1 : Nat) : Int) < ((done ++ (a * (2 : Int) ^ n % 4294967296 + c) :: List.replicate (a :: xr).length 0).length : Int) := by simp; omega
    have hst2 := set_enc (done ++ [a * (2 : Int) ^ n % 4294967296 + c]) 0 (a * (2 : Int) ^ n / 4294967296) (List.replicate xr.length 0) (i + 1) (by simp [hd])
    rw [show (done ++ [a * (2 : Int) ^ n % 4294967296 + c]) ++ 0 :: List.replicate xr.length 0 = done ++ (a * (2 : Int) ^ n % 4294967296 + c) :: List.replicate (a :: xr).length 0 from by simp [List.replicate_succ]] at hst2
    have := ih (i + 1) (a * (2 : Int) ^ n / 4294967296) (done ++ [a * (2 : Int) ^ n % 4294967296 + c]) g3 (by simp [hd]) (by omega) ⟨hd3, hd2⟩
    refine orc_of ?_
    rw [e79n3]
    simp only [t1, t2, t3, w3]
    simp only [gd1, hd1, tl1, dr0, dr1, dr2, dr3, dr4, dr5, dr6, bo1, in1, st1, ls1, le1, pt1, fi1, fb1, fs1, ct1, cf1, nt1, nf1, ak0, akT, akF, cdec, cndec, cbeq, cnbeq, ↓reduceIte, beq_self_eq_true, Int.reduceBEq, Int.reduceEq, Bool.and_true, Bool.true_and, Bool.false_and, Bool.and_false, h1, h0, and_self, encD_len, encD_at g2, hda, w4, t4, hlen, enc_mid done c _ i hd, w1, w2, wr32 (a * (2 : Int) ^ n), hor, set_enc done c _ _ i hd, nx i (by omega), hlen2, fd32, w5, hst2]
    rw [shlL, show done ++ (a * 2 ^ n % 4294967296 + c) :: shlL (2 ^ n) xr (a * 2 ^ n / 4294967296) = (done ++ [a * 2 ^ n % 4294967296 + c]) ++ shlL (2 ^ n) xr (a * 2 ^ n / 4294967296) from by simp]
    exact this
theorem s79 (n : Nat) (hn : n < 32) (e : Bool) (x : List Int) (hx : Dg x) (hl : x.length ≤ 900) : Or (.call 131) [lu e x, I (n : Int)] [] = some [T.lst 1 false (encD (shlL (2 ^ n) x 0))] := by
  have h1 := n79 n hn e x hx hl x 0 0 [] rfl rfl (by omega) ⟨Int.le_refl _, pw_pos n⟩
  have t1 : (n : Int).tdiv 32 = 0 := by rw [Int.tdiv_eq_ediv_of_nonneg (by omega)]; omega
  have w3 : IntKind.i64.wrap 0 = 0 := by rw [Go.Aev.wr (by omega)]
  have w4 : IntKind.i64.wrap ((x.length : Int) + 0) = (x.length : Int) := by rw [Go.Aev.wr (by omega)]; omega
  have hmk : mkOk ((x.length + 1 : Nat) : Int) ((x.length + 1 : Nat) : Int) = some () := by unfold mkOk lim; rw [if_pos (by omega)]
  have he : encD ([] ++ 0 :: List.replicate x.length 0) = List.replicate (x.length + 1) [T.int IntKind.u32 0] := by simp [encD, List.replicate_succ]
  rw [he] at h1
  refine orc_of ?_
  rw [e79]
  simp only [t1, w3, encD_len, w4, nx x.length (by omega)]
  simp only [gd1, hd1, tl1, dr0, dr1, dr2, dr3, dr4, dr5, dr6, bo1, in1, st1, ls1, le1, pt1, fi1, fb1, fs1, ct1, cf1, nt1, nf1, ak0, akT, akF, cdec, cndec, cbeq, cnbeq, ↓reduceIte, beq_self_eq_true, Int.reduceBEq, Int.reduceEq, Bool.and_true, Bool.true_and, Bool.false_and, Bool.and_false, hmk, Int.toNat_natCast]
  exact h1
theorem n80 (n : Nat) (hn : n < 32) (e : Bool) (x : List Int) (hx : Dg x) (hl : x.length ≤ 900) : ∀ (xr : List Int) (i : Nat) (done : List Int), x.drop i = xr → done.length = i → i ≤ x.length →
    Or K80n6 [lu e x, I (n : Int), o0, lu e x, I (x.length : Int), I (i : Int)] [Blk.sl false 1 false (encD (done ++ List.replicate xr.length 0))] = some [T.lst 1 false (encD (done ++ shrL (2 ^ n) (2 ^ (32 - n)) xr))] := by
  have hp := pw_pos n
  have hk := pw32 (n := n) (by omega)
  have hkp := pw_pos (32 - n)
  have t2 : (n : Int).tmod 32 = (n : Int) := by rw [Int.tmod_eq_emod_of_nonneg (by omega)]; omega
  have t3 : min ((n : Int)).toNat 32 = n := by rw [Int.toNat_natCast]; omega
  have t4 : ¬ (n : Int) < 0 := by omega
  have t5 : IntKind.i64.wrap (32 - (n : Int)) = ((32 - n : Nat) : Int) := by rw [Go.Aev.wr (by omega)]; omega
  have t6 : min (((32 - n : Nat) : Int)).toNat 32 = 32 - n := by rw [Int.toNat_natCast]; omega
  have t7 : ¬ ((32 - n : Nat) : Int) < 0 := by omega
  intro xr
  induction xr with
  | nil =>
    intro i done h hd hi
    have h1 : ¬ (i : Int) < (x.length : Int) := by have := at_end h; omega
    refine orc_of ?_
    rw [e80n6]
    simp only [gd1, hd1, tl1, dr0, dr1, dr2, dr3, dr4, dr5, dr6, bo1, in1, st1, ls1, le1, pt1, fi1, fb1, fs1, ct1, cf1, nt1, nf1, ak0, akT, akF, cdec, cndec, cbeq, cnbeq, ↓reduceIte, beq_self_eq_true, Int.reduceBEq, Int.reduceEq, Bool.and_true, Bool.true_and, Bool.false_and, Bool.and_false, h1, shrL, List.length_nil, List.replicate_zero]
  | cons a xr ih =>
    intro i done h hd hi
    obtain ⟨g1, g2, g3⟩ := at_drop h
    have ha := hx a (List.mem_of_getElem? g1)
    have hda := dat_of h
    have h1 : (i : Int) < (x.length : Int) := by omega
    have h0 : 0 ≤ (i : Int) := by omega
    have hrep : done ++ List.replicate (a :: xr).length 0 = done ++ 0 :: List.replicate xr.length 0 := by simp [List.replicate_succ]
    have hlen : 0 ≤ (i : Int) ∧ (i : Int) < ((done ++ 0 :: List.replicate xr.length 0).length : Int) := by simp; omega
    have hfd : a.fdiv ((2 : Int) ^ n) = a / 2 ^ n := Int.fdiv_eq_ediv_of_nonneg _ (by omega)
    have hlen2 : 0 ≤ (i : Int) ∧ (i : Int) < ((done ++ (a / 2 ^ n) :: List.replicate xr.length 0).length : Int) := by simp; omega
    have hmd : ∀ b : Int, 0 ≤ b ∧ b < 4294967296 → (b * (2 : Int) ^ (32 - n)) % 4294967296 = (b % 2 ^ n) * 2 ^ (32 - n) := fun b hb => md_mul hkp (by rw [Int.mul_comm]; exact hk)
    have hdiv0 : 0 ≤ a / (2 : Int) ^ n := Int.ediv_nonneg ha.1 (by omega)
    have hdivk : a / (2 : Int) ^ n < 2 ^ (32 - n) := by rw [Int.ediv_lt_iff_lt_mul hp, ← hk]; exact ha.2
    match xr, g3, ih with
    | [], g3, ih =>
      have hle := at_end g3
      have h2 : ¬ ((i + 1 : Nat) : Int) < (x.length : Int) := by omega
      have := ih (i + 1) (done ++ [a / 2 ^ n]) g3 (by simp [hd]) (by omega)
      refine orc_of ?_
      rw [e80n6, hrep]
      simp only [t2, t3, cand, ← Bool.decide_and]
      simp only [gd1, hd1, tl1, dr0, dr1, dr2, dr3, dr4, dr5, dr6, bo1, in1, st1, ls1, le1, pt1, fi1, fb1, fs1, ct1, cf1, nt1, nf1, ak0, akT, akF, cdec, cndec, cbeq, cnbeq, ↓reduceIte, beq_self_eq_true, Int.reduceBEq, Int.reduceEq, Bool.and_true, Bool.true_and, Bool.false_and, Bool.and_false, h1, h0, and_self, encD_len, encD_at g2, hda, t4, hlen, hfd, set_enc done 0 _ _ i hd, nx i (by omega), h2, false_and]
      rw [show done ++ (a / 2 ^ n) :: List.replicate ([] : List Int).length 0 = (done ++ [a / 2 ^ n]) ++ List.replicate ([] : List Int).length 0 from by simp,
        show done ++ shrL (2 ^ n) (2 ^ (32 - n)) [a] = (done ++ [a / 2 ^ n]) ++ shrL (2 ^ n) (2 ^ (32 - n)) [] from by simp [shrL]]
      exact this
    | b :: xr, g3, ih =>
      obtain ⟨k1, k2, k3⟩ := at_drop g3
      have hb := hx b (List.mem_of_getElem? k1)
      have hdb := dat_of g3
      have h2 : ((i + 1 : Nat) : Int) < (x.length : Int) := by omega
      have h20 : 0 ≤ ((i + 1 : Nat) : Int) := by omega
      have hbm0 := Int.emod_nonneg b (show (2 : Int) ^ n ≠ 0 by omega)
      have hbm1 := Int.emod_lt_of_pos b hp
      have hz1 : (b % 2 ^ n + 1) * (2 : Int) ^ (32 - n) ≤ 2 ^ n * 2 ^ (32 - n) := Int.mul_le_mul_of_nonneg_right (by omega) (by omega)
      rw [Int.add_mul, Int.one_mul, Int.mul_comm ((2 : Int) ^ n), ← hk] at hz1
      have hz0 : 0 ≤ (b % 2 ^ n) * (2 : Int) ^ (32 - n) := Int.mul_nonneg hbm0 (by omega)
      by_cases hn0 : (n : Int) > 0
      · have := ih (i + 1) (done ++ [a / 2 ^ n + b * 2 ^ (32 - n) % 4294967296]) g3 (by simp [hd]) (by omega)
        have hor : IntKind.u32.wrap (((BitVec.ofInt 32 (a / (2 : Int) ^ n) ||| BitVec.ofInt 32 (b * (2 : Int) ^ (32 - n) % 4294967296)).toNat : Nat) : Int) = a / 2 ^ n + b * 2 ^ (32 - n) % 4294967296 := by
          obtain ⟨t, ht⟩ := Int.eq_ofNat_of_zero_le hbm0
          rw [or32 (n := 32 - n) (t := t) (by omega) ⟨hdiv0, hdivk⟩ (by rw [hmd b hb, ht, pw2 (32 - n), Int.mul_comm, ← Int.natCast_mul]) (by rw [hmd b hb]; omega) (by rw [hmd b hb]; omega)]
          omega
        have hcond : ((i + 1 : Nat) : Int) < (x.length : Int) ∧ (n : Int) > 0 := ⟨h2, hn0⟩
        refine orc_of ?_
        rw [e80n6, hrep]
        simp only [t2, t3, cand, ← Bool.decide_and]
        simp only [gd1, hd1, tl1, dr0, dr1, dr2, dr3, dr4, dr5, dr6, bo1, in1, st1, ls1, le1, pt1, fi1, fb1, fs1, ct1, cf1, nt1, nf1, ak0, akT, akF, cdec, cndec, cbeq, cnbeq, ↓reduceIte, beq_self_eq_true, Int.reduceBEq, Int.reduceEq, Bool.and_true, Bool.true_and, Bool.false_and, Bool.and_false, h1, h0, and_self, encD_len, encD_at g2, hda, t4, hlen, hfd, set_enc done 0 _ _ i hd, nx i (by omega), hcond, hlen2, enc_mid done _ _ i hd, h20, encD_at k2, hdb, t5, t6, t7, wr32 (b * (2 : Int) ^ (32 - n)), hor, set_enc done (a / 2 ^ n) _ _ i hd]
        rw [show done ++ (a / 2 ^ n + b * 2 ^ (32 - n) % 4294967296) :: List.replicate (b :: xr).length 0 = (done ++ [a / 2 ^ n + b * 2 ^ (32 - n) % 4294967296]) ++ List.replicate (b :: xr).length 0 from by simp,
          show done ++ shrL (2 ^ n) (2 ^ (32 - n)) (a :: b :: xr) = (done ++ [a / 2 ^ n + b * 2 ^ (32 - n) % 4294967296]) ++ shrL (2 ^ n) (2 ^ (32 - n)) (b :: xr) from by simp [shrL]]
        exact this
      · have hn0' : n = 0 := by omega
        have hz : b * (2 : Int) ^ (32 - n) % 4294967296 = 0 := by
          rw [hn0', show ((2 : Int) ^ (32 - 0)) = 4294967296 from by decide]; omega
        have := ih (i + 1) (done ++ [a / 2 ^ n + b * 2 ^ (32 - n) % 4294967296]) g3 (by simp [hd]) (by omega)
        rw [hz, Int.add_zero] at this
        refine orc_of ?_
        rw [e80n6, hrep]
        simp only [t2, t3, cand, ← Bool.decide_and]
        simp only [gd1, hd1, tl1, dr0, dr1, dr2, dr3, dr4, dr5, dr6, bo1, in1, st1, ls1, le1, pt1, fi1, fb1, fs1, ct1, cf1, nt1, nf1, ak0, akT, akF, cdec, cndec, cbeq, cnbeq, ↓reduceIte, beq_self_eq_true, Int.reduceBEq, Int.reduceEq, Bool.and_true, Bool.true_and, Bool.false_and, Bool.and_false, h1, h0, and_self, encD_len, encD_at g2, hda, t4, hlen, hfd, set_enc done 0 _ _ i hd, nx i (by omega), hn0, and_false]
        rw [show done ++ (a / 2 ^ n) :: List.replicate (b :: xr).length 0 = (done ++ [a / 2 ^ n]) ++ List.replicate (b :: xr).length 0 from by simp,
          show done ++ shrL (2 ^ n) (2 ^ (32 - n)) (a :: b :: xr) = (done ++ [a / 2 ^ n]) ++ shrL (2 ^ n) (2 ^ (32 - n)) (b :: xr) from by simp [shrL, hz]]
        exact this
theorem s80 (n : Nat) (hn : n < 32) (e : Bool) (x : List Int) (hx : Dg x) (hl : x.length ≤ 900) (h0 : 0 < x.length) : Or (.call 132) [lu e x, I (n : Int)] [] = some [T.lst 1 false (encD (shrL (2 ^ n) (2 ^ (32 - n)) x))] := by
  have h1 := n80 n hn e x hx hl x 0 [] rfl rfl (by omega)
  have t1 : (n : Int).tdiv 32 = 0 := by rw [Int.tdiv_eq_ediv_of_nonneg (by omega)]; omega
  have w3 : IntKind.i64.wrap 0 = 0 := by rw [Go.Aev.wr (by omega)]
  have hc : ¬ (0 : Int) ≥ (x.length : Int) := by omega
  have hi : inB 0 (x.length : Int) (x.length : Int) = some () := by unfold inB; rw [if_pos (by omega)]
  have hs : sub 0 (x.length : Int) (encD x) = encD x := by
    unfold sub
    simp [encD_len, List.take_of_length_le]
  have hmk : mkOk (x.length : Int) (x.length : Int) = some () := by unfold mkOk lim; rw [if_pos (by omega)]
  have he : encD ([] ++ List.replicate x.length 0) = List.replicate x.length [T.int IntKind.u32 0] := by simp [encD]
  rw [he] at h1
  refine orc_of ?_
  rw [e80]
  simp only [t1, w3, encD_len]
  simp only [gd1, hd1, tl1, dr0, dr1, dr2, dr3, dr4, dr5, dr6, bo1, in1, st1, ls1, le1, pt1, fi1, fb1, fs1, ct1, cf1, nt1, nf1, ak0, akT, akF, cdec, cndec, cbeq, cnbeq, ↓reduceIte, beq_self_eq_true, Int.reduceBEq, Int.reduceEq, Bool.and_true, Bool.true_and, Bool.false_and, Bool.and_false, hc, hi, hs, encD_len, hmk, Int.toNat_natCast]
  exact h1
end Go.Aev.Wd
