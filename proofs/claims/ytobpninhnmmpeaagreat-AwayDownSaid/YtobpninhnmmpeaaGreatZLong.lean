/-
  Long division: quotient and rest of numbers of any length.
-/
import Derived.Test.YtobpninhnmmpeaaGreatZParts
set_option linter.unusedSimpArgs false
set_option linter.unusedVariables false
namespace Go.Aev.Wd
open Go Go.Aev Go.Aev.Gen

/-- What parts answers: the digits of the quotient and of what is left. -/
def PartsOk (X Y : Int) (L : Nat) (R : List T) : Prop := ∃ e1 Q e2 Z, R = [T.lst 1 e1 (encD Q), T.lst 1 e2 (encD Z)] ∧ Dg Q ∧ Dg Z ∧ val Q = X / Y ∧ val Z = X % Y ∧ Q.length ≤ L ∧ Z.length ≤ L
theorem concat_of {α : Type} {l : List α} {n : Nat} (h : l.length = n + 1) : ∃ l' x, l = l' ++ [x] ∧ l'.length = n := by
  rcases List.eq_nil_or_concat l with rfl | ⟨l', x, rfl⟩
  · simp at h
  · exact ⟨l', x, by simp, by simpa using h⟩
def Fin17 (s L : Nat) (V N0 : Int) (n : Nat) (R : List T) : Prop := ∃ e1 Q e2 Z Rf, R = [T.lst 1 e1 (encD Q), T.lst 1 e2 (encD Z)] ∧ Dg Q ∧ Dg Z ∧ Q.length = L ∧ Z.length = n ∧ 0 ≤ Rf ∧ Rf < V ∧ val Q * V + Rf = N0 ∧ val Z = Rf / 2 ^ s
theorem zeros_dg (n : Nat) : Dg (List.replicate n 0) := fun a ha => by have := List.eq_of_mem_replicate ha; omega
theorem w17 (s : Nat) (hs : s < 32) (ev ec0 ec1 : Bool) (v' : List Int) (v2 v1 : Int) (hv : Dg (v' ++ [v2, v1])) (hvl : v'.length ≤ 400) (h1 : 1 ≤ v1) (L : Nat) (N0 : Int) : ∀ (j : Nat) (lo R hi qs : List Int), lo.length = j → j ≤ 900 → R.length = v'.length + 2 → Dg lo → Dg R → Dg qs → val R < val (v' ++ [v2, v1]) → j + qs.length = L →
    val lo + 4294967296 ^ j * (val R + val (v' ++ [v2, v1]) * val qs) = N0 → Good (Fin17 s L (val (v' ++ [v2, v1])) N0 (v'.length + 2)) (K17 s ev ec0 ec1 (v' ++ [v2, v1]) (lo ++ (R ++ hi)) (List.replicate j 0 ++ qs) ((j : Int) - 1)) := by
  have hvlen : (v' ++ [v2, v1]).length = v'.length + 2 := by simp
  have hval : val (v' ++ [v2, v1]) = val v' + 4294967296 ^ v'.length * v2 + 4294967296 * (4294967296 ^ v'.length * v1) := by
    rw [val_append]; simp only [val]
    rw [Int.mul_add, Int.mul_left_comm _ 4294967296]; simp; omega
  have hv0 := val_nonneg hv.left
  have hv0' := val_lt hv.left
  have hPp := pow_pos' v'.length
  have dv2 := hv v2 (by simp)
  have dv1 := hv v1 (by simp)
  have hp1 : (4294967296 : Int) ^ v'.length * 1 ≤ 4294967296 ^ v'.length * v1 := Int.mul_le_mul_of_nonneg_left h1 (by omega)
  have hp2 : 0 ≤ (4294967296 : Int) ^ v'.length * v2 := Int.mul_nonneg (by omega) dv2.1
  have hVp : 0 < val (v' ++ [v2, v1]) := by omega
  have e1 : (encD (v' ++ [v2, v1]))[(((v' ++ [v2, v1]).length - 1 : Nat) : Int).toNat]? = some [T.int .u32 v1] := by
    have := enc_mid (v' ++ [v2]) v1 [] (v'.length + 1) (by simp)
    rw [hvlen]; simpa using this
  have e2 : (encD (v' ++ [v2, v1]))[(((v' ++ [v2, v1]).length - 2 : Nat) : Int).toNat]? = some [T.int .u32 v2] := by
    have := enc_mid v' v2 [v1] v'.length rfl
    rw [hvlen]; simpa using this
  intro j
  induction j with
  | zero =>
    intro lo R hi qs hlo hj hR dlo dR dqs hlt hL hN
    obtain rfl := List.length_eq_zero_iff.1 hlo
    have h80 := s80 s hs ec0 R dR (by omega) (by omega)
    obtain ⟨g1, g2, g3⟩ := shr_spec (pw_pos s) (pw32 (n := s) (by omega)) (pw_pos (32 - s)) dR
    refine ⟨_, orc_of ?_, ec1, qs, false, _, val R, rfl, dqs, g3, by omega, by rw [g2, hR], val_nonneg dR, hlt, by
      simp only [val, Int.pow_zero, Int.one_mul, Int.zero_add] at hN
      rw [← hN, Int.mul_comm]; omega, g1⟩
    rw [e78n17]
    have c0 : ¬ (((0 : Nat) : Int) - 1) ≥ 0 := by omega
    have hi0 : inB 0 ((v' ++ [v2, v1]).length : Int) ((([] ++ (R ++ hi)).length : Nat) : Int) = some () := by unfold inB; rw [if_pos (by simp [hR]; omega)]
    have ht : (encD ([] ++ (R ++ hi))).take (((v' ++ [v2, v1]).length : Int).toNat - 0) = encD R := by
      have hnn : ((v' ++ [v2, v1]).length : Int).toNat - 0 = R.length := by rw [hvlen, hR]; omega
      simp only [hnn, List.nil_append, encD, List.map_append]
      rw [List.take_append_of_le_length (by simp), List.take_of_length_le (by simp)]
    simp only [List.replicate_zero, List.nil_append] at hi0 ht ⊢
    simp only [gd1, hd1, tl1, dr0, dr1, dr2, dr3, dr4, dr5, dr6, bo1, in1, st1, ls1, le1, pt1, fi1, fb1, fs1, ct1, cf1, nt1, nf1, ak0, akT, akF, cdec, cndec, cbeq, cnbeq, ↓reduceIte, beq_self_eq_true, Int.reduceBEq, Int.reduceEq, Bool.and_true, Bool.true_and, Bool.false_and, Bool.and_false, c0, encD_len, hi0, ht, h80]
  | succ j ih =>
    intro lo R hi qs hlo hj hR dlo dR dqs hlt hL hN
    obtain ⟨lo', x, rfl, hl'⟩ := concat_of hlo
    obtain ⟨w, top, hw, hwl⟩ := concat_of (l := x :: R) (n := v'.length + 2) (by simp [hR])
    obtain ⟨w1, u1, rfl, hw1⟩ := concat_of hwl
    obtain ⟨w2, u2, rfl, hw2⟩ := concat_of hw1
    have dW : Dg (w2 ++ [u2] ++ [u1] ++ [top]) := by rw [← hw]; exact Dg.append (a := [x]) dlo.right dR
    have dw := dW.left
    have dtop := dW top (by simp)
    have du1 := dW u1 (by simp)
    have du2 := dW u2 (by simp)
    have hw0 := val_nonneg dw.left.left
    have hw0' := val_lt dw.left.left
    have hlists : lo' ++ [x] ++ (R ++ hi) = lo' ++ ((w2 ++ [u2] ++ [u1]) ++ top :: hi) := by
      have : [x] ++ R = w2 ++ [u2] ++ [u1] ++ [top] := hw
      simp only [List.append_assoc] at this ⊢
      rw [← List.append_assoc [x], this]; simp
    have hUval : val (x :: R) = val (w2 ++ [u2] ++ [u1]) + 4294967296 ^ (v' ++ [v2, v1]).length * top := by
      rw [hw, val_append, hvlen, hwl]; simp [val]
    have hwval : val (w2 ++ [u2] ++ [u1]) = val w2 + 4294967296 ^ v'.length * u2 + 4294967296 * (4294967296 ^ v'.length * u1) := by
      rw [List.append_assoc, val_append, hw2]; simp only [List.cons_append, List.nil_append, val]
      rw [Int.mul_add, Int.mul_left_comm _ 4294967296]; simp; omega
    have hU3 : val (x :: R) = val w2 + 4294967296 ^ v'.length * u2 + 4294967296 * (4294967296 ^ v'.length * (top * 4294967296 + u1)) := by
      rw [hUval, hwval, hvlen, show (4294967296 : Int) ^ (v'.length + 2) = 4294967296 ^ v'.length * (4294967296 * 4294967296) from by rw [Int.pow_add]; rfl]
      rw [Int.mul_add (4294967296 ^ v'.length) (top * 4294967296), Int.mul_add 4294967296, ← Int.mul_assoc (4294967296 ^ v'.length) top 4294967296]
      have : (4294967296 : Int) ^ v'.length * (4294967296 * 4294967296) * top = 4294967296 * (4294967296 ^ v'.length * top * 4294967296) := by
        rw [Int.mul_comm (4294967296 ^ v'.length * top) 4294967296, ← Int.mul_assoc 4294967296 4294967296, Int.mul_comm (4294967296 ^ v'.length), Int.mul_assoc]
      omega
    have dx := dlo x (by simp)
    have hUx : val (x :: R) = x + 4294967296 * val R := rfl
    have hR0 := val_nonneg dR
    have hU0 : 0 ≤ val (x :: R) := by omega
    have hUV : val (x :: R) < val (v' ++ [v2, v1]) * 4294967296 := by omega
    generalize hqd : val (x :: R) / val (v' ++ [v2, v1]) = q at *
    have hq0 : 0 ≤ q := by rw [← hqd]; exact Int.ediv_nonneg hU0 (by omega)
    have hqB : q < 4294967296 := by rw [← hqd]; exact Int.ediv_lt_of_lt_mul hVp (by rw [Int.mul_comm]; exact hUV)
    have hqV : q * val (v' ++ [v2, v1]) ≤ val (x :: R) := by rw [← hqd]; exact Int.ediv_mul_le _ (by omega)
    have hrep : List.replicate (j + 1) (0 : Int) ++ qs = List.replicate lo'.length 0 ++ 0 :: qs := by
      rw [hl', List.replicate_succ', List.append_assoc]; rfl
    have hg0 := guess0 hPp hU3 hval ⟨hw0, by rw [hw2] at hw0'; exact hw0'⟩ hv0 du2.2 dv2.1 hq0 hqV
    -- the guess
    have hT0 : 0 ≤ top * 4294967296 + u1 := by omega
    have hqt : q ≤ (top * 4294967296 + u1) / v1 := by rw [Int.le_ediv_iff_mul_le (by omega)]; exact hg0
    have hTle : (top * 4294967296 + u1) / v1 ≤ top * 4294967296 + u1 := Int.ediv_le_self _ hT0
    have hrm0 := Int.emod_nonneg (top * 4294967296 + u1) (show v1 ≠ 0 by omega)
    have hrm1 := Int.emod_lt_of_pos (top * 4294967296 + u1) (show 0 < v1 by omega)
    have hdm := Int.mul_ediv_add_emod (top * 4294967296 + u1) v1
    have hn2 : 2 ≤ (v' ++ [v2, v1]).length := by omega
    have e3 : (encD (lo' ++ ((w2 ++ [u2] ++ [u1]) ++ top :: hi)))[((lo'.length + (v' ++ [v2, v1]).length - 2 : Nat) : Int).toNat]? = some [T.int .u32 u2] := by
      have := enc_mid (lo' ++ w2) u2 ([u1] ++ top :: hi) (lo'.length + (v' ++ [v2, v1]).length - 2) (by simp [hw2]; try omega)
      simpa using this
    have e4 : (encD (lo' ++ ((w2 ++ [u2] ++ [u1]) ++ top :: hi)))[((lo'.length + (v' ++ [v2, v1]).length - 1 : Nat) : Int).toNat]? = some [T.int .u32 u1] := by
      have := enc_mid (lo' ++ w2 ++ [u2]) u1 (top :: hi) (lo'.length + (v' ++ [v2, v1]).length - 1) (by simp [hw2]; try omega)
      simpa using this
    have e5 : (encD (lo' ++ ((w2 ++ [u2] ++ [u1]) ++ top :: hi)))[((lo'.length + (v' ++ [v2, v1]).length : Nat) : Int).toNat]? = some [T.int .u32 top] := by
      have := enc_mid (lo' ++ w2 ++ [u2] ++ [u1]) top hi (lo'.length + (v' ++ [v2, v1]).length) (by simp [hw2]; try omega)
      simpa using this
    have hlenu : ((lo' ++ ((w2 ++ [u2] ++ [u1]) ++ top :: hi)).length : Int) = ((lo'.length + v'.length + 3 + hi.length : Nat) : Int) := by simp [hw2]; omega
    have hgood := m21 s lo'.length ev ec0 ec1 (v' ++ [v2, v1]) (lo' ++ ((w2 ++ [u2] ++ [u1]) ++ top :: hi)) (List.replicate lo'.length 0 ++ 0 :: qs) (Fin17 s L (val (v' ++ [v2, v1])) N0 (v'.length + 2)) (by omega) (by omega) hn2 (by simp [hw2] <;> omega) e1 e2 e3 hPp hU3 hval ⟨hw0, by rw [hw2] at hw0'; exact hw0'⟩ ⟨hv0, hv0'⟩ du2 dv2 ⟨h1, dv1.2⟩ hU0 hUV hVp hqd.symm
      (fun q' a1 a2 a3 a4 => digit s ev ec0 ec1 (v' ++ [v2, v1]) lo' hi hv (by omega) (by omega) (w2 ++ [u2] ++ [u1]) top dw (by rw [hvlen]; exact hwl) dtop hVp qs _ q (by rw [← hqd, hUval]) q' a1 a2 ⟨a3, a4⟩ hq0 (fun R' d1 d2 d3 => by
        have := ih lo' R' (0 :: hi) (q :: qs) hl' (by omega) (by rw [d2, hvlen]) dlo.left d1 (fun a ha => by
          rcases List.mem_cons.1 ha with rfl | ha
          · exact ⟨hq0, hqB⟩
          · exact dqs a ha) (by rw [d3]; exact Int.emod_lt_of_pos _ hVp) (by simp; omega) (by
          rw [← hUval] at d3
          have hdv := Int.mul_ediv_add_emod (val (x :: R)) (val (v' ++ [v2, v1]))
          rw [hqd] at hdv
          have key : val R' + val (v' ++ [v2, v1]) * val (q :: qs) = x + 4294967296 * (val R + val (v' ++ [v2, v1]) * val qs) := by
            rw [show val (q :: qs) = q + 4294967296 * val qs from rfl, d3, Int.mul_add, Int.mul_add 4294967296, Int.mul_left_comm _ 4294967296]
            omega
          rw [← hN, val_append lo' [x], hl', key, show val [x] = x from by simp [val], Int.pow_succ, Int.mul_assoc, Int.add_assoc, ← Int.mul_add])
        rw [← hl'] at this
        exact this))
      4294967296 ((top * 4294967296 + u1) / v1) ((top * 4294967296 + u1) % v1) (by omega) (by rw [Int.mul_comm]; exact hdm) (by omega) hqt (by omega)
    have c0 : ((j + 1 : Nat) : Int) - 1 ≥ 0 := by omega
    have cj : ((j + 1 : Nat) : Int) - 1 = (lo'.length : Int) := by omega
    have or1 := or64 dtop du1
    have x1 : IntKind.u64.wrap v1 = v1 := w64 (by omega)
    have x2 : IntKind.u64.wrap top = top := w64 (by omega)
    have x3 : (top * 4294967296 + u1).tdiv v1 = (top * 4294967296 + u1) / v1 := Int.tdiv_eq_ediv_of_nonneg hT0
    have x4 : (top * 4294967296 + u1).tmod v1 = (top * 4294967296 + u1) % v1 := Int.tmod_eq_emod_of_nonneg hT0
    have x5 : IntKind.u64.wrap ((top * 4294967296 + u1) / v1) = (top * 4294967296 + u1) / v1 := w64 (by omega)
    have nz : ¬ v1 = 0 := by omega
    have w3 : IntKind.i64.wrap (((v' ++ [v2, v1]).length : Int) - 1) = (((v' ++ [v2, v1]).length - 1 : Nat) : Int) := by rw [Go.Aev.wr (by omega)]; omega
    have w2' : IntKind.i64.wrap (((lo'.length + (v' ++ [v2, v1]).length : Nat) : Int) - 1) = ((lo'.length + (v' ++ [v2, v1]).length - 1 : Nat) : Int) := by rw [Go.Aev.wr (by omega)]; omega
    have b1 : 0 ≤ ((lo'.length + (v' ++ [v2, v1]).length : Nat) : Int) ∧ ((lo'.length + (v' ++ [v2, v1]).length : Nat) : Int) < ((lo'.length + v'.length + 3 + hi.length : Nat) : Int) := by omega
    have b2 : 0 ≤ ((lo'.length + (v' ++ [v2, v1]).length - 1 : Nat) : Int) ∧ ((lo'.length + (v' ++ [v2, v1]).length - 1 : Nat) : Int) < ((lo'.length + v'.length + 3 + hi.length : Nat) : Int) := by omega
    have b3 : 0 ≤ (((v' ++ [v2, v1]).length - 1 : Nat) : Int) ∧ (((v' ++ [v2, v1]).length - 1 : Nat) : Int) < ((v' ++ [v2, v1]).length : Int) := by omega
    rw [hlists, hrep, cj]
    refine hgood.step fun R hR => orc_of ?_
    rw [e78n17]
    have c1 : (lo'.length : Int) ≥ 0 := by omega
    simp only [gd1, hd1, tl1, dr0, dr1, dr2, dr3, dr4, dr5, dr6, bo1, in1, st1, ls1, le1, pt1, fi1, fb1, fs1, ct1, cf1, nt1, nf1, ak0, akT, akF, cdec, cndec, cbeq, cnbeq, ↓reduceIte, beq_self_eq_true, Int.reduceBEq, Int.reduceEq, Bool.and_true, Bool.true_and, Bool.false_and, Bool.and_false, c1, encD_len, ad lo'.length (v' ++ [v2, v1]).length (by omega), hlenu, b1, b2, b3, and_self, e5, e4, e1, w2', w3, x1, x2, or1, nz, x3, x4, x5]
    exact hR
/-! ### A divisor of one digit -/
theorem w4 (ex ey : Bool) (x : List Int) (b : Int) (hx : Dg x) (hl : x.length ≤ 900) (hb : 0 < b ∧ b < 4294967296) : ∀ (k : Nat) (r : Int) (qs : List Int), k ≤ x.length → 0 ≤ r ∧ r < b →
    ∃ Q R, Or K78n4 [lu ex x, lu ey [b], o0, u6 r, I ((k : Int) - 1)] [Blk.sl false 1 false (encD (List.replicate k 0 ++ qs))] = some [T.lst 1 false (encD (Q ++ qs)), T.lst 1 false (encD [R])] ∧ Q.length = k ∧ Dg Q ∧ 0 ≤ R ∧ R < b ∧ val Q * b + R = val (x.take k) + 4294967296 ^ k * r
  | 0, r, qs, hk, hr => by
    refine ⟨[], r, orc_of ?_, rfl, (by intro a ha; cases ha), hr.1, hr.2, by simp [val]⟩
    rw [e78n4]
    have c0 : ¬ (((0 : Nat) : Int) - 1) ≥ 0 := by omega
    have wr0 : IntKind.u32.wrap r = r := by rw [wr32]; omega
    simp only [gd1, hd1, tl1, dr0, dr1, dr2, dr3, dr4, dr5, dr6, bo1, in1, st1, ls1, le1, pt1, fi1, fb1, fs1, ct1, cf1, nt1, nf1, ak0, akT, akF, cdec, cndec, cbeq, cnbeq, ↓reduceIte, beq_self_eq_true, Int.reduceBEq, Int.reduceEq, Bool.and_true, Bool.true_and, Bool.false_and, Bool.and_false, c0, wr0]
    rfl
  | k + 1, r, qs, hk, hr => by
    have hkx : k < x.length := by omega
    have ha : 0 ≤ dat x k ∧ dat x k < 4294967296 := by
      have : dat x k ∈ x := by
        simp only [dat, List.getD_eq_getElem?_getD, List.getElem?_eq_getElem hkx, Option.getD_some]
        exact List.getElem_mem hkx
      exact hx _ this
    have hT0 : 0 ≤ r * 4294967296 + dat x k := by omega
    have hq0 : 0 ≤ (r * 4294967296 + dat x k) / b := Int.ediv_nonneg hT0 (by omega)
    have hqB : (r * 4294967296 + dat x k) / b < 4294967296 := by
      rw [Int.ediv_lt_iff_lt_mul hb.1]
      have : (r + 1) * 4294967296 ≤ b * 4294967296 := Int.mul_le_mul_of_nonneg_right (by omega) (by decide)
      rw [Int.mul_comm 4294967296 b]; omega
    have hr0 := Int.emod_nonneg (r * 4294967296 + dat x k) (show b ≠ 0 by omega)
    have hr1 := Int.emod_lt_of_pos (r * 4294967296 + dat x k) hb.1
    have hdm := Int.mul_ediv_add_emod (r * 4294967296 + dat x k) b
    obtain ⟨Q, R, h1, h2, h3, h4, h5, h6⟩ := w4 ex ey x b hx hl hb k ((r * 4294967296 + dat x k) % b) ((r * 4294967296 + dat x k) / b :: qs) (by omega) ⟨hr0, hr1⟩
    refine ⟨Q ++ [(r * 4294967296 + dat x k) / b], R, orc_of ?_, by simp [h2], Dg.append h3 (by intro a ha; simp at ha; subst ha; exact ⟨hq0, hqB⟩), h4, h5, ?_⟩
    · rw [e78n4]
      have c0 : ((k + 1 : Nat) : Int) - 1 = (k : Int) := by omega
      have c1 : (k : Int) ≥ 0 := by omega
      have c2 : 0 ≤ (k : Int) ∧ (k : Int) < (x.length : Int) := by omega
      have hrep : List.replicate (k + 1) (0 : Int) ++ qs = List.replicate k 0 ++ 0 :: qs := by
        rw [List.replicate_succ', List.append_assoc]; rfl
      have c3 : 0 ≤ (k : Int) ∧ (k : Int) < ((List.replicate k (0 : Int) ++ 0 :: qs).length : Int) := by simp; omega
      have hor := or64 (v := r) (n := dat x k) (by omega) ha
      have y1 : IntKind.u64.wrap b = b := w64 (by omega)
      have y2 : (r * 4294967296 + dat x k).tdiv b = (r * 4294967296 + dat x k) / b := Int.tdiv_eq_ediv_of_nonneg hT0
      have y3 : (r * 4294967296 + dat x k).tmod b = (r * 4294967296 + dat x k) % b := Int.tmod_eq_emod_of_nonneg hT0
      have y4 : IntKind.u32.wrap (IntKind.u64.wrap ((r * 4294967296 + dat x k) / b)) = (r * 4294967296 + dat x k) / b := by rw [w64 (by omega), wr32]; omega
      have nz : ¬ b = 0 := by omega
      have hb1 : (0 : Int) ≤ 0 ∧ (0 : Int) < (([b] : List Int).length : Int) := by simp
      have hbe : (encD [b])[(0 : Nat)]? = some [T.int .u32 b] := rfl
      have wk : IntKind.i64.wrap ((k : Int) - 1) = (k : Int) - 1 := Go.Aev.wr (by omega)
      rw [c0, hrep]
      simp only [gd1, hd1, tl1, dr0, dr1, dr2, dr3, dr4, dr5, dr6, bo1, in1, st1, ls1, le1, pt1, fi1, fb1, fs1, ct1, cf1, nt1, nf1, ak0, akT, akF, cdec, cndec, cbeq, cnbeq, ↓reduceIte, beq_self_eq_true, Int.reduceBEq, Int.reduceEq, Bool.and_true, Bool.true_and, Bool.false_and, Bool.and_false, c1, c2, encD_len, encD_at hkx, hor, y1, y2, y3, y4, nz, hb1, hbe, c3, and_self, set_enc (List.replicate k 0) 0 _ qs k (by simp), wk]
      rw [show Q ++ [(r * 4294967296 + dat x k) / b] ++ qs = Q ++ (r * 4294967296 + dat x k) / b :: qs from by simp]
      exact h1
    · rw [val_append, h2, val_take hkx, Int.pow_succ, Int.add_mul]
      simp only [val, Int.mul_zero, Int.add_zero]
      have e1 : 4294967296 ^ k * ((r * 4294967296 + dat x k) / b) * b = 4294967296 ^ k * (b * ((r * 4294967296 + dat x k) / b)) := by
        rw [Int.mul_assoc, Int.mul_comm _ b]
      have e2 : (4294967296 : Int) ^ k * (r * 4294967296 + dat x k) = 4294967296 ^ k * (b * ((r * 4294967296 + dat x k) / b)) + 4294967296 ^ k * ((r * 4294967296 + dat x k) % b) := by
        rw [← Int.mul_add, hdm]
      have e3 : (4294967296 : Int) ^ k * (r * 4294967296 + dat x k) = 4294967296 ^ k * 4294967296 * r + 4294967296 ^ k * dat x k := by
        rw [Int.mul_add, Int.mul_assoc, Int.mul_comm r]
      rw [e1]
      omega
/-! ### The whole -/
/-- What the divisor and the number are, laid out. -/
structure Laid (s : Nat) (x y UU VV : List Int) (V2 : List Int) (w2 w1 : Int) : Prop where
  hs : s < 32
  vv : VV = V2 ++ [w2] ++ [w1] ++ [0]
  dV : Dg (V2 ++ [w2, w1])
  h1 : 1 ≤ w1
  vval : val (V2 ++ [w2, w1]) = val y * 2 ^ s
  ly : y.length = V2.length + 2
  ge : 4294967296 ^ (V2.length + 1) ≤ val y
  dU : Dg UU
  uval : val UU = val x * 2 ^ s
  lu : UU.length = x.length + 1
theorem laid_run {s : Nat} {x y UU VV V2 : List Int} {w2' w1' : Int} (ld : Laid s x y UU VV V2 w2' w1') (hx : Dg x) (hxl : x.length ≤ 400) (hyl : V2.length + 2 ≤ x.length) :
    ∃ j : Nat, j + (V2.length + 2) = x.length + 1 ∧ Good (PartsOk (val x) (val y) (x.length + 1)) (K17 s false false false (V2 ++ [w2', w1']) UU (List.replicate UU.length 0) ((j : Int) - 1)) := by
  have hps := pw_pos s
  have hxlt := val_lt hx
  obtain ⟨j, hj⟩ : ∃ j : Nat, j + (V2.length + 2) = x.length + 1 := ⟨x.length + 1 - (V2.length + 2), by omega⟩
  refine ⟨j, hj, ?_⟩
  have hUl := ld.lu
  have hsplit : UU = UU.take j ++ (UU.drop j ++ []) := by simp
  have hdl : (UU.drop j).length = V2.length + 2 := by simp [hUl]; omega
  have hdl2 : (UU.take j).length = j := by simp [hUl]; omega
  have hU := val_append (UU.take j) (UU.drop j)
  rw [List.take_append_drop, hdl2] at hU
  have dD : Dg (UU.drop j) := fun a ha => ld.dU a (List.mem_of_mem_drop ha)
  have dT := ld.dU.take j
  have hVval := ld.vval
  have hRlt : val (UU.drop j) < val (V2 ++ [w2', w1']) := by
    rcases Int.lt_or_le (val (UU.drop j)) (val (V2 ++ [w2', w1'])) with h | h
    · exact h
    · exfalso
      have h1 : (4294967296 : Int) ^ j * val (V2 ++ [w2', w1']) ≤ 4294967296 ^ j * val (UU.drop j) := Int.mul_le_mul_of_nonneg_left h (Int.le_of_lt (pow_pos' _))
      have h2 := val_nonneg dT
      have h3 : val x * (2 : Int) ^ s < 4294967296 ^ x.length * 2 ^ s := Int.mul_lt_mul_of_pos_right hxlt hps
      have h4 : (4294967296 : Int) ^ (V2.length + 1) * 2 ^ s ≤ val y * 2 ^ s := Int.mul_le_mul_of_nonneg_right ld.ge (by omega)
      have h5 : (4294967296 : Int) ^ j * (4294967296 ^ (V2.length + 1) * 2 ^ s) ≤ 4294967296 ^ j * val (V2 ++ [w2', w1']) := by
        rw [hVval]; exact Int.mul_le_mul_of_nonneg_left h4 (Int.le_of_lt (pow_pos' _))
      rw [← Int.mul_assoc, ← Int.pow_add, show j + (V2.length + 1) = x.length from by omega] at h5
      have := ld.uval
      omega
  have hw17 := w17 s ld.hs false false false V2 w2' w1' ld.dV (by omega) ld.h1 (x.length + 1) (val UU) j (UU.take j) (UU.drop j) [] (List.replicate (V2.length + 2) 0) hdl2 (by omega) hdl dT dD (zeros_dg _) hRlt (by simp; omega) (by rw [val_zeros, Int.mul_zero, Int.add_zero]; omega)
  rw [← hsplit, List.replicate_append_replicate, hj, ← hUl] at hw17
  obtain ⟨R, r1, e1', Q, e2', Z, Rf, rfl, q1, q2, q3, q4, q5, q6, q7, q8⟩ := hw17
  have hVp : 0 < val y := by have := pow_pos' (V2.length + 1); have := ld.ge; omega
  have hRdiv : val x * 2 ^ s = val Q * (val y * 2 ^ s) + Rf := by rw [← ld.uval, ← hVval]; exact q7.symm
  have hRf : Rf = (val x - val Q * val y) * 2 ^ s := by rw [Int.sub_mul, Int.mul_assoc]; omega
  have hz1 : val Z = val x - val Q * val y := by rw [q8, hRf, Int.mul_ediv_cancel _ (by omega)]
  have hz2 : val Z < val y := by
    rw [hVval] at q6
    rw [hRf, ← hz1] at q6
    exact Int.lt_of_mul_lt_mul_right q6 (by omega)
  have hz3 := val_nonneg q2
  have hu := Int.ediv_emod_unique hVp (a := val x) (q := val Q) (r := val Z)
  obtain ⟨hq, hzm⟩ := hu.2 ⟨by rw [Int.mul_comm]; omega, hz3, hz2⟩
  exact ⟨_, r1, e1', Q, e2', Z, rfl, q1, q2, hq.symm, hzm.symm, by omega, by omega⟩
theorem laid_of {x y' : List Int} {y2 y1 : Int} (hx : Dg x) (hy : Dg (y' ++ [y2, y1])) (h1 : 1 ≤ y1) (s : Nat) (hs : s < 32) (hsm : y1 * 2 ^ s < 4294967296) :
    ∃ V2 w2 w1, V2.length = y'.length ∧ Laid s x (y' ++ [y2, y1]) (shlL (2 ^ s) x 0) (shlL (2 ^ s) (y' ++ [y2, y1]) 0) V2 w2 w1 := by
  have hlen : (y' ++ [y2, y1]).length = y'.length + 2 := by simp
  have hps := pw_pos s
  have hk := pw32 (n := s) (by omega)
  obtain ⟨v1, v2', v3⟩ := shl_spec hps hk (x := y' ++ [y2, y1]) (c := 0) hy ⟨Int.le_refl _, hps⟩
  obtain ⟨u1, u2, u3⟩ := shl_spec hps hk (x := x) (c := 0) hx ⟨Int.le_refl _, hps⟩
  generalize shlL (2 ^ s) (y' ++ [y2, y1]) 0 = VV at *
  generalize shlL (2 ^ s) x 0 = UU at *
  rw [Int.add_zero] at v1 u1
  -- the last digit of the divisor is none
  have hyv := val_append y' [y2, y1]
  have hylt := val_lt hy.left
  have hy2 := hy y2 (by simp)
  have hy1 := hy y1 (by simp)
  have hPp := pow_pos' y'.length
  obtain ⟨V0, vt, rfl, hV0⟩ := concat_of (l := VV) (n := y'.length + 2) (by rw [v2', hlen])
  have dvt := v3 vt (by simp)
  have hVV := val_append V0 [vt]
  rw [hV0] at hVV
  simp only [val, Int.mul_zero, Int.add_zero] at hVV hyv
  have hV0n := val_nonneg v3.left
  -- val y * 2^s < B^(n)
  have hbound : val (y' ++ [y2, y1]) * 2 ^ s < 4294967296 ^ (y'.length + 2) := by
    have hle : val (y' ++ [y2, y1]) ≤ 4294967296 ^ (y'.length + 1) * (y1 + 1) - 1 := by
      have hsp := val_lt (d := y' ++ [y2]) (by
        have : y' ++ [y2, y1] = (y' ++ [y2]) ++ [y1] := by simp
        rw [this] at hy; exact hy.left)
      have e := val_append (y' ++ [y2]) [y1]
      rw [show (y' ++ [y2]) ++ [y1] = y' ++ [y2, y1] from by simp] at e
      simp only [val, Int.mul_zero, Int.add_zero, List.length_append, List.length_cons, List.length_nil, Nat.zero_add] at e hsp
      rw [Int.mul_add, Int.mul_one]
      omega
    have hy1s : (y1 + 1) * (2 : Int) ^ s ≤ 4294967296 := by
      -- a multiple of 2^s below 2^32
      rw [hk] at hsm ⊢
      have : y1 < 2 ^ (32 - s) := Int.lt_of_mul_lt_mul_right hsm (by omega)
      exact Int.mul_le_mul_of_nonneg_right (by omega) (by omega)
    have hpp := pow_pos' (y'.length + 1)
    have m1 : val (y' ++ [y2, y1]) * (2 : Int) ^ s ≤ (4294967296 ^ (y'.length + 1) * (y1 + 1) - 1) * 2 ^ s := Int.mul_le_mul_of_nonneg_right hle (by omega)
    have m2 : (4294967296 : Int) ^ (y'.length + 1) * ((y1 + 1) * 2 ^ s) ≤ 4294967296 ^ (y'.length + 1) * 4294967296 := Int.mul_le_mul_of_nonneg_left hy1s (by omega)
    rw [Int.sub_mul, Int.one_mul, Int.mul_assoc] at m1
    rw [show y'.length + 2 = y'.length + 1 + 1 from rfl, Int.pow_succ 4294967296 (y'.length + 1)]
    omega
  have hvt : vt = 0 := by
    rcases Int.lt_or_le 0 vt with h | h
    · exfalso
      have : (4294967296 : Int) ^ (y'.length + 2) * 1 ≤ 4294967296 ^ (y'.length + 2) * vt := Int.mul_le_mul_of_nonneg_left (by omega) (Int.le_of_lt (pow_pos' _))
      omega
    · omega
  subst hvt
  have hVval : val V0 = val (y' ++ [y2, y1]) * 2 ^ s := by omega
  obtain ⟨V1, w1', rfl, hV1⟩ := concat_of hV0
  obtain ⟨V2, w2', rfl, hV2⟩ := concat_of hV1
  have hrw : V2 ++ [w2'] ++ [w1'] = V2 ++ [w2', w1'] := by simp
  rw [hrw] at hVval v3 hV0
  have dV := v3.left
  -- its first digit is not none
  have hyge : 4294967296 ^ (y'.length + 1) ≤ val (y' ++ [y2, y1]) := by
    rw [hyv, Int.pow_succ]
    have : (4294967296 : Int) ^ y'.length * (4294967296 * 1) ≤ 4294967296 ^ y'.length * (y2 + 4294967296 * y1) := Int.mul_le_mul_of_nonneg_left (by omega) (by omega)
    have := val_nonneg hy.left
    omega
  have hp1 : 1 ≤ (2 : Int) ^ s := by omega
  have hVge : 4294967296 ^ (y'.length + 1) ≤ val (V2 ++ [w2', w1']) := by
    rw [hVval]
    have : val (y' ++ [y2, y1]) * 1 ≤ val (y' ++ [y2, y1]) * 2 ^ s := Int.mul_le_mul_of_nonneg_left hp1 (by have := pow_pos' (y'.length + 1); omega)
    omega
  have hw1 : 1 ≤ w1' := by
    have dw1 := dV w1' (by simp)
    rcases Int.lt_or_le w1' 1 with h | h
    · exfalso
      have h0 : w1' = 0 := by omega
      subst h0
      have e := val_append (V2 ++ [w2']) [(0 : Int)]
      have hl2 := val_lt (d := V2 ++ [w2']) (by
        have : V2 ++ [w2', (0 : Int)] = (V2 ++ [w2']) ++ [0] := by simp
        rw [this] at dV; exact dV.left)
      rw [show V2 ++ [w2'] ++ [(0 : Int)] = V2 ++ [w2', 0] from by simp] at e
      simp only [val, Int.mul_zero, Int.add_zero, List.length_append, List.length_cons, List.length_nil, hV2, Nat.zero_add] at e hl2
      omega
    · exact h
  exact ⟨V2, w2', w1', hV2, hs, rfl, dV, hw1, hVval, by rw [hlen, hV2], by rw [hV2]; exact hyge, u3, u1, u2⟩
theorem n11 (ex ey : Bool) (x y' : List Int) (y2 y1 : Int) (hx : Dg x) (hy : Dg (y' ++ [y2, y1])) (h1 : 1 ≤ y1) (hxl : x.length ≤ 400) (hyl : y'.length + 2 ≤ x.length) : ∀ (m s : Nat), s + m = 32 → s < 32 → y1 * 2 ^ s < 4294967296 →
    Good (PartsOk (val x) (val (y' ++ [y2, y1])) (x.length + 1)) (Or K78n11 [lu ex x, lu ey (y' ++ [y2, y1]), I (s : Int)] [])
  | 0, s, hm, hs, _ => by omega
  | m + 1, s, hm, hs, hsm => by
    have hlen : (y' ++ [y2, y1]).length = y'.length + 2 := by simp
    have e1 : (encD (y' ++ [y2, y1]))[(((y'.length + 1 : Nat) : Int)).toNat]? = some [T.int .u32 y1] := by
      have := enc_mid (y' ++ [y2]) y1 [] (y'.length + 1) (by simp)
      simpa using this
    have w1 : IntKind.i64.wrap (((y' ++ [y2, y1]).length : Int) - 1) = ((y'.length + 1 : Nat) : Int) := by rw [Go.Aev.wr (by omega)]; omega
    have b1 : 0 ≤ ((y'.length + 1 : Nat) : Int) ∧ ((y'.length + 1 : Nat) : Int) < ((y' ++ [y2, y1]).length : Int) := by omega
    have t3 : min ((s : Int)).toNat 32 = s := by simp; omega
    have t4 : ¬ (s : Int) < 0 := by omega
    have hps := pw_pos s
    have hy0 : 0 ≤ y1 * (2 : Int) ^ s := Int.mul_nonneg (by omega) (by omega)
    have wq : IntKind.u32.wrap (y1 * (2 : Int) ^ s) = y1 * 2 ^ s := by rw [wr32]; omega
    have fd31 : (y1 * (2 : Int) ^ s).fdiv ((2 : Int) ^ 31) = y1 * 2 ^ s / 2147483648 := by
      rw [show ((2 : Int) ^ 31) = 2147483648 from by decide, Int.fdiv_eq_ediv_of_nonneg _ (by omega)]
    by_cases hz : y1 * (2 : Int) ^ s / 2147483648 = 0
    · have hp2 : (2 : Int) ^ (s + 1) = 2 ^ s * 2 := Int.pow_succ 2 s
      have hsm2 : y1 * (2 : Int) ^ (s + 1) < 4294967296 := by rw [hp2, ← Int.mul_assoc]; omega
      have hs2 : s + 1 < 32 := by
        rcases Nat.lt_or_ge (s + 1) 32 with h | h
        · exact h
        · exfalso
          have : s = 31 := by omega
          subst this
          have hp : ((2 : Int) ^ 31) = 2147483648 := by decide
          rw [hp] at hz
          omega
      refine (n11 ex ey x y' y2 y1 hx hy h1 hxl hyl m (s + 1) (by omega) hs2 hsm2).step fun R hR => orc_of ?_
      rw [e78n11]
      simp only [gd1, hd1, tl1, dr0, dr1, dr2, dr3, dr4, dr5, dr6, bo1, in1, st1, ls1, le1, pt1, fi1, fb1, fs1, ct1, cf1, nt1, nf1, ak0, akT, akF, cdec, cndec, cbeq, cnbeq, ↓reduceIte, beq_self_eq_true, Int.reduceBEq, Int.reduceEq, Bool.and_true, Bool.true_and, Bool.false_and, Bool.and_false, encD_len, w1, b1, and_self, e1, t3, t4, wq, fd31, hz, nx s (by omega)]
      exact hR
    · obtain ⟨V2, w2', w1', hV2, ld⟩ := laid_of hx hy h1 s hs hsm
      obtain ⟨j, hj, hg⟩ := laid_run ld hx hxl (by omega)
      have hv79 := s79 s hs ey (y' ++ [y2, y1]) hy (by omega)
      have hu79 := s79 s hs ex x hx (by omega)
      rw [ld.vv] at hv79
      have hUl := ld.lu
      generalize shlL (2 ^ s) x 0 = UU at *
      refine hg.step fun R hR => orc_of ?_
      have hrw : V2 ++ [w2'] ++ [w1'] = V2 ++ [w2', w1'] := by simp
      have hin : inB 0 ((y' ++ [y2, y1]).length : Int) ((V2 ++ [w2'] ++ [w1'] ++ [0]).length : Int) = some () := by unfold inB; rw [if_pos (by simp [hV2]; omega)]
      have hmk : mkOk (UU.length : Int) (UU.length : Int) = some () := by unfold mkOk lim; rw [if_pos (by omega)]
      have htk : List.take (((y' ++ [y2, y1]).length : Int).toNat - 0) (encD (V2 ++ [w2'] ++ [w1'] ++ [0])) = encD (V2 ++ [w2', w1']) := by
        have hnn : ((y' ++ [y2, y1]).length : Int).toNat - 0 = (V2 ++ [w2', w1']).length := by rw [hlen]; simp only [List.length_append, List.length_cons, List.length_nil, hV2]; omega
        simp only [hnn, hrw, encD, List.map_append]
        rw [List.take_append_of_le_length (by simp), List.take_of_length_le (by simp)]
      have wk : IntKind.i64.wrap (IntKind.i64.wrap ((UU.length : Int) - ((y' ++ [y2, y1]).length : Int)) - 1) = (j : Int) - 1 := by
        rw [Go.Aev.wr (v := (UU.length : Int) - _) (by omega), Go.Aev.wr (by omega)]; omega
      have hzr : List.replicate ((UU.length : Int)).toNat [T.int IntKind.u32 (0 : Int)] = encD (List.replicate UU.length 0) := by simp [encD]
      have hlq : ((V2 ++ [w2', w1']).length : Int) = ((y' ++ [y2, y1]).length : Int) := by simp [hV2]
      have hR2 : Or K78n17 [I (s : Int), I ((V2 ++ [w2', w1']).length : Int), lu false (V2 ++ [w2', w1']), o0, o1, I ((j : Int) - 1)] (U2 false false UU (List.replicate UU.length 0)) = some R := hR
      rw [hlq] at hR2
      rw [e78n11]
      simp only [gd1, hd1, tl1, dr0, dr1, dr2, dr3, dr4, dr5, dr6, bo1, in1, st1, ls1, le1, pt1, fi1, fb1, fs1, ct1, cf1, nt1, nf1, ak0, akT, akF, cdec, cndec, cbeq, cnbeq, ↓reduceIte, beq_self_eq_true, Int.reduceBEq, Int.reduceEq, Bool.and_true, Bool.true_and, Bool.false_and, Bool.and_false, encD_len, w1, b1, and_self, e1, t3, t4, wq, fd31, hz, hv79, hu79, hin, hmk, htk, wk, hzr]
      exact hR2
/-- parts. -/
theorem s78 (ex ey : Bool) (x y : List Int) (hx : Dg x) (hy : Dg y) (hc : Can y) (hyn : y ≠ []) (hxl : x.length ≤ 400) (hle : val y ≤ val x) : Good (PartsOk (val x) (val y) (x.length + 1)) (Or (.call 130) [lu ex x, lu ey y] []) := by
  have hyp := can_pos hy hc hyn
  have hlen : y.length ≤ x.length := by
    rcases Nat.lt_or_ge x.length y.length with h | h
    · have := len_lt hx hy hc h; omega
    · exact h
  by_cases h1 : (y.length : Int) = 1
  · match y, h1 with
    | [b], _ =>
      have hb := hy b (by simp)
      have hb0 : 0 < b := by simpa [val] using hyp
      obtain ⟨Q, R, k1, k2, k3, k4, k5, k6⟩ := w4 ex ey x b hx (by omega) ⟨hb0, hb.2⟩ x.length 0 [] (by omega) ⟨by omega, hb0⟩
      rw [List.take_length, Int.mul_zero, Int.add_zero] at k6
      rw [List.append_nil, List.append_nil] at k1
      have hvb : val [b] = b := by simp [val]
      have hu := Int.ediv_emod_unique hb0 (a := val x) (q := val Q) (r := R)
      obtain ⟨q1, q2⟩ := hu.2 ⟨by rw [Int.mul_comm]; omega, k4, k5⟩
      refine ⟨_, orc_of ?_, false, Q, false, [R], rfl, k3, (by intro a ha; simp at ha; subst ha; omega), by rw [hvb]; exact q1.symm, by rw [hvb]; simp [val]; omega, by omega, by simp⟩
      rw [e78]
      have hmk : mkOk (x.length : Int) (x.length : Int) = some () := by unfold mkOk lim; rw [if_pos (by omega)]
      have w1 : IntKind.i64.wrap ((x.length : Int) - 1) = (x.length : Int) - 1 := Go.Aev.wr (by omega)
      have hzr : List.replicate ((x.length : Int)).toNat [T.int IntKind.u32 (0 : Int)] = encD (List.replicate x.length 0) := by simp [encD]
      have h11 : (([b] : List Int).length : Int) = 1 := by simp
      simp only [gd1, hd1, tl1, dr0, dr1, dr2, dr3, dr4, dr5, dr6, bo1, in1, st1, ls1, le1, pt1, fi1, fb1, fs1, ct1, cf1, nt1, nf1, ak0, akT, akF, cdec, cndec, cbeq, cnbeq, ↓reduceIte, beq_self_eq_true, Int.reduceBEq, Int.reduceEq, Bool.and_true, Bool.true_and, Bool.false_and, Bool.and_false, encD_len, h11, hmk, w1, hzr]
      exact k1
  · have h2 : 2 ≤ y.length := by have := List.length_pos_iff.2 hyn; omega
    obtain ⟨y0, y1, rfl, g1⟩ := concat_of (l := y) (n := y.length - 1) (by omega)
    obtain ⟨y', y2, rfl, g2⟩ := concat_of (l := y0) (n := y0.length - 1) (by simp at h2; omega)
    have hrw : y' ++ [y2] ++ [y1] = y' ++ [y2, y1] := by simp
    have hy1 : 1 ≤ y1 := by
      have := hc (y'.length + 1) (by simp)
      rw [show dat (y' ++ [y2] ++ [y1]) (y'.length + 1) = y1 from by
        have := dat_mid (y' ++ [y2]) y1 [] (y'.length + 1) (by simp)
        simpa using this] at this
      have := hy y1 (by simp)
      omega
    have hy1b := hy y1 (by simp)
    rw [hrw] at hy hlen h1 ⊢
    refine (n11 ex ey x y' y2 y1 hx hy hy1 hxl (by simpa using hlen) 32 0 rfl (by omega) (by simpa using hy1b.2)).step fun R hR => orc_of ?_
    rw [e78]
    simp only [gd1, hd1, tl1, dr0, dr1, dr2, dr3, dr4, dr5, dr6, bo1, in1, st1, ls1, le1, pt1, fi1, fb1, fs1, ct1, cf1, nt1, nf1, ak0, akT, akF, cdec, cndec, cbeq, cnbeq, ↓reduceIte, beq_self_eq_true, Int.reduceBEq, Int.reduceEq, Bool.and_true, Bool.true_and, Bool.false_and, Bool.and_false, encD_len, h1]
    exact hR
end Go.Aev.Wd
