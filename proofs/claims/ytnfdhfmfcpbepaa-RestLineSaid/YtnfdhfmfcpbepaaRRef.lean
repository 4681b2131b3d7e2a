/-
  What the document's lists of rests tell; the congruence a times x like b.
-/
import Derived.Test.YtnfdhfmfcpbepaaRAll
set_option linter.unusedSimpArgs false
set_option linter.unusedVariables false
namespace Go.Aev.Gen
open Go Go.Aev Go.Num

theorem n12a (e : Bool) (l : List (Int × Int)) (hl : l.length ≤ 40) (res : List T) : ∀ (rest : List (Int × Int)) (i : Nat), l.drop i = rest → i ≤ l.length →
    (∀ j, bad rest i = some j → res = [ti 0, ti 0, ti 0, ti 0, ti 3, ti j]) → (bad rest i = none → Or K12n9 [lst e l, r0, r1, r2, I 0] [z2, z2, z2] = some res) →
    Or K12n4 [lst e l, r0, r1, r2, I (i : Int)] [z2, z2, z2] = some res := by
  intro rest
  induction rest with
  | nil =>
    intro i hd hi _ hgo
    have := at_end hd
    refine orc_of ?_
    rw [e12n4]
    have h : ¬ (i : Int) < (l.length : Int) := by omega
    simp only [gd1, hd1, tl1, dr0, dr1, dr2, dr3, dr4, dr5, dr6, bo1, in1, st1, ls1, le1, pt1, fi1, fb1, fs1, ct1, cf1, nt1, nf1, ak0, akT, akF, cdec, cndec, cbeq, cnbeq, ↓reduceIte, beq_self_eq_true, Int.reduceBEq, Int.reduceEq, Bool.and_true, Bool.true_and, Bool.false_and, Bool.and_false, h, enc_len, hgo rfl]
  | cons r rest ih =>
    intro i hd hi hbad hgo
    obtain ⟨h1, h2, h3⟩ := at_drop hd
    refine orc_of ?_
    rw [e12n4]
    have h : (i : Int) < (l.length : Int) := by omega
    have h0 : (0 : Int) ≤ (i : Int) := by omega
    have w : IntKind.i64.wrap ((i : Int) + 1) = ((i + 1 : Nat) : Int) := by rw [wr (by omega)]; omega
    by_cases ho : OkR r
    · have := ih (i + 1) h3 (by omega) (fun j hj => hbad j (by simp only [bad, if_pos ho, hj])) (fun hj => hgo (by simp only [bad, if_pos ho, hj]))
      have s := s13 r.1 r.2
      rw [show decide (Ok r.1 r.2) = true from decide_eq_true (p := Ok r.1 r.2) ho] at s
      simp only [gd1, hd1, tl1, dr0, dr1, dr2, dr3, dr4, dr5, dr6, bo1, in1, st1, ls1, le1, pt1, fi1, fb1, fs1, ct1, cf1, nt1, nf1, ak0, akT, akF, cdec, cndec, cbeq, cnbeq, ↓reduceIte, beq_self_eq_true, Int.reduceBEq, Int.reduceEq, Bool.and_true, Bool.true_and, Bool.false_and, Bool.and_false, h, h0, and_self, enc_len, enc_get h1, s, w, this]
    · have s := s13 r.1 r.2
      rw [show decide (Ok r.1 r.2) = false from decide_eq_false (p := Ok r.1 r.2) ho] at s
      simp only [gd1, hd1, tl1, dr0, dr1, dr2, dr3, dr4, dr5, dr6, bo1, in1, st1, ls1, le1, pt1, fi1, fb1, fs1, ct1, cf1, nt1, nf1, ak0, akT, akF, cdec, cndec, cbeq, cnbeq, ↓reduceIte, beq_self_eq_true, Int.reduceBEq, Int.reduceEq, Bool.and_true, Bool.true_and, Bool.false_and, Bool.and_false, h, h0, and_self, enc_len, enc_get h1, s, s14, hbad i (by simp only [bad, if_neg ho])]

theorem n12c (e : Bool) (l : List (Int × Int)) (hl : l.length ≤ 40) (hok : ∀ r ∈ l, OkR r) (j : Nat) (hj : j < l.length) (b : Int × Int) (hb : l[j]? = some b) (res : List T) :
    ∀ (rest : List (Int × Int)) (i : Nat), (l.take j).drop i = rest → i ≤ j →
    (∀ k, clashIn b rest i = some k → res = [ti 0, ti 0, ti k, ti j, ti 6, ti 0]) →
    (clashIn b rest i = none → Or K12n9 [lst e l, r0, r1, r2, I ((j + 1 : Nat) : Int)] [z2, z2, z2] = some res) →
    Or K12n12 [lst e l, r0, r1, r2, I (j : Int), I (i : Int)] [z2, z2, z2] = some res := by
  have hlen : (l.take j).length = j := by simp; omega
  have hbok : OkR b := hok b (List.mem_of_getElem? hb)
  intro rest
  induction rest with
  | nil =>
    intro i hd hi _ hgo
    have := at_end hd
    refine orc_of ?_
    rw [e12n12]
    have h : ¬ (i : Int) < (j : Int) := by omega
    have w : IntKind.i64.wrap ((j : Int) + 1) = ((j + 1 : Nat) : Int) := by rw [wr (by omega)]; omega
    simp only [gd1, hd1, tl1, dr0, dr1, dr2, dr3, dr4, dr5, dr6, bo1, in1, st1, ls1, le1, pt1, fi1, fb1, fs1, ct1, cf1, nt1, nf1, ak0, akT, akF, cdec, cndec, cbeq, cnbeq, ↓reduceIte, beq_self_eq_true, Int.reduceBEq, Int.reduceEq, Bool.and_true, Bool.true_and, Bool.false_and, Bool.and_false, h, w, hgo rfl]
  | cons a rest ih =>
    intro i hd hi hbad hgo
    obtain ⟨h1, h2, h3⟩ := at_drop hd
    have h1' : l[i]? = some a := by
      rw [List.getElem?_take] at h1
      split at h1
      · exact h1
      · cases h1
    have haok : OkR a := hok a (List.mem_of_getElem? h1')
    obtain ⟨a1, a2, a3, a4⟩ := haok
    obtain ⟨b1, b2, b3, b4⟩ := hbok
    refine orc_of ?_
    rw [e12n12]
    have h : (i : Int) < (j : Int) := by omega
    have h0 : (0 : Int) ≤ (i : Int) := by omega
    have h0j : (0 : Int) ≤ (j : Int) := by omega
    have hil : (i : Int) < (l.length : Int) := by omega
    have hjl : (j : Int) < (l.length : Int) := by omega
    have w : IntKind.i64.wrap ((i : Int) + 1) = ((i + 1 : Nat) : Int) := by rw [wr (by omega)]; omega
    have w1 : IntKind.i64.wrap (b.1 - a.1) = b.1 - a.1 := wr (by omega)
    have hg := gcd_pos (a := b.2) (b := a.2) (by omega)
    have hg0 : ¬ (Int.gcd b.2 a.2 : Int) = 0 := by omega
    have s := s22 b.2 a.2 (by omega) (by omega)
    have hcc : ((b.1 - a.1).tmod (Int.gcd b.2 a.2 : Int) = 0) ↔ Comp a b := by
      rw [tmod_zero, Int.gcd_comm]; exact Iff.rfl
    by_cases hc : Comp a b
    · have := ih (i + 1) h3 (by omega) (fun k hk => hbad k (by simp only [clashIn, if_pos hc, hk])) (fun hk => hgo (by simp only [clashIn, if_pos hc, hk]))
      simp only [gd1, hd1, tl1, dr0, dr1, dr2, dr3, dr4, dr5, dr6, bo1, in1, st1, ls1, le1, pt1, fi1, fb1, fs1, ct1, cf1, nt1, nf1, ak0, akT, akF, cdec, cndec, cbeq, cnbeq, ↓reduceIte, beq_self_eq_true, Int.reduceBEq, Int.reduceEq, Bool.and_true, Bool.true_and, Bool.false_and, Bool.and_false, h, h0, h0j, hil, hjl, and_self, enc_len, enc_get h1', enc_get hb, s, w, w1, hg0, hcc.2 hc, this]
    · have hcn : ¬ (b.1 - a.1).tmod (Int.gcd b.2 a.2 : Int) = 0 := fun h => hc (hcc.1 h)
      simp only [gd1, hd1, tl1, dr0, dr1, dr2, dr3, dr4, dr5, dr6, bo1, in1, st1, ls1, le1, pt1, fi1, fb1, fs1, ct1, cf1, nt1, nf1, ak0, akT, akF, cdec, cndec, cbeq, cnbeq, ↓reduceIte, beq_self_eq_true, Int.reduceBEq, Int.reduceEq, Bool.and_true, Bool.true_and, Bool.false_and, Bool.and_false, h, h0, h0j, hil, hjl, and_self, enc_len, enc_get h1', enc_get hb, s, w1, hg0, hcn, s14, hbad i (by simp only [clashIn, if_neg hc])]

theorem n12b (e : Bool) (l : List (Int × Int)) (hl : l.length ≤ 40) (hok : ∀ r ∈ l, OkR r) (res : List T) : ∀ (rest : List (Int × Int)) (j : Nat), l.drop j = rest → j ≤ l.length →
    (∀ i k, clash l rest j = some (i, k) → res = [ti 0, ti 0, ti i, ti k, ti 6, ti 0]) →
    (clash l rest j = none → Or K12n18 [lst e l, r0, r1, r2, r3, I 0] [z2, z2, z2, bx2 0 1] = some res) →
    Or K12n9 [lst e l, r0, r1, r2, I (j : Int)] [z2, z2, z2] = some res := by
  intro rest
  induction rest with
  | nil =>
    intro j hd hj _ hgo
    have := at_end hd
    refine orc_of ?_
    rw [e12n9]
    have h : ¬ (j : Int) < (l.length : Int) := by omega
    simp only [gd1, hd1, tl1, dr0, dr1, dr2, dr3, dr4, dr5, dr6, bo1, in1, st1, ls1, le1, pt1, fi1, fb1, fs1, ct1, cf1, nt1, nf1, ak0, akT, akF, cdec, cndec, cbeq, cnbeq, ↓reduceIte, beq_self_eq_true, Int.reduceBEq, Int.reduceEq, Bool.and_true, Bool.true_and, Bool.false_and, Bool.and_false, h, enc_len, hgo rfl]
  | cons b rest ih =>
    intro j hd hj hbad hgo
    obtain ⟨h1, h2, h3⟩ := at_drop hd
    refine orc_of ?_
    rw [e12n9]
    have h : (j : Int) < (l.length : Int) := by omega
    have := n12c e l hl hok j h2 b h1 res (l.take j) 0 rfl (Nat.zero_le _) (fun k hk => hbad k j (by simp only [clash, hk])) (fun hk => ih (j + 1) h3 (by omega)
      (fun i k hc => hbad i k (by simp only [clash, hk, hc])) (fun hc => hgo (by simp only [clash, hk, hc])))
    simp only [gd1, hd1, tl1, dr0, dr1, dr2, dr3, dr4, dr5, dr6, bo1, in1, st1, ls1, le1, pt1, fi1, fb1, fs1, ct1, cf1, nt1, nf1, ak0, akT, akF, cdec, cndec, cbeq, cnbeq, ↓reduceIte, beq_self_eq_true, Int.reduceBEq, Int.reduceEq, Bool.and_true, Bool.true_and, Bool.false_and, Bool.and_false, h, enc_len]
    exact this

theorem n12d (e : Bool) (l : List (Int × Int)) (hl : l.length ≤ 40) : ∀ (rest : List (Int × Int)) (k : Nat) (out : Int × Int), l.drop k = rest → k ≤ l.length → OkR out → (∀ r ∈ rest, OkR r) → (∀ r ∈ rest, Comp out r) → rest.Pairwise Comp →
    Or K12n18 [lst e l, r0, r1, r2, r3, I (k : Int)] [z2, z2, z2, bx2 out.1 out.2] = some (fold out rest) := by
  intro rest
  induction rest with
  | nil =>
    intro k out hd hk _ _ _ _
    have := at_end hd
    refine orc_of ?_
    rw [e12n18]
    have h : ¬ (k : Int) < (l.length : Int) := by omega
    simp only [gd1, hd1, tl1, dr0, dr1, dr2, dr3, dr4, dr5, dr6, bo1, in1, st1, ls1, le1, pt1, fi1, fb1, fs1, ct1, cf1, nt1, nf1, ak0, akT, akF, cdec, cndec, cbeq, cnbeq, ↓reduceIte, beq_self_eq_true, Int.reduceBEq, Int.reduceEq, Bool.and_true, Bool.true_and, Bool.false_and, Bool.and_false, h, enc_len, fold]
  | cons r rest ih =>
    intro k out hd hk ho hok hc hp
    obtain ⟨h1, h2, h3⟩ := at_drop hd
    have hr := hok r List.mem_cons_self
    have hcr := hc r List.mem_cons_self
    refine orc_of ?_
    rw [e12n18]
    have h : (k : Int) < (l.length : Int) := by omega
    have h0 : (0 : Int) ≤ (k : Int) := by omega
    have w : IntKind.i64.wrap ((k : Int) + 1) = ((k + 1 : Nat) : Int) := by rw [wr (by omega)]; omega
    have o1 : 1 ≤ out.2 := ho.1
    have o2 : out.2 ≤ 1000000 := ho.2.1
    have p1 : 1 ≤ r.2 := hr.1
    have hg := gcd_pos (a := out.2) (b := r.2) (by omega)
    have hg0 : ¬ (Int.gcd out.2 r.2 : Int) = 0 := by omega
    have lb := lcm_bound ho hr
    have w1 : IntKind.i64.wrap (out.2.tdiv (Int.gcd out.2 r.2 : Int)) = out.2 / (Int.gcd out.2 r.2 : Int) := by
      have := Int.ediv_le_self (Int.gcd out.2 r.2 : Int) (show 0 ≤ out.2 by omega)
      have := Int.ediv_nonneg (show 0 ≤ out.2 by omega) (show 0 ≤ (Int.gcd out.2 r.2 : Int) by omega)
      rw [tdiv_of_dvd (Int.gcd_dvd_left _ _), wr (by omega)]
    have w2 : IntKind.i64.wrap (out.2 / (Int.gcd out.2 r.2 : Int) * r.2) = (Int.lcm out.2 r.2 : Int) := by
      rw [lcm_div' (by omega) (by omega), wr (by omega)]
    simp only [fold]
    by_cases hm : (Int.lcm out.2 r.2 : Int) > 1000000
    · simp only [gd1, hd1, tl1, dr0, dr1, dr2, dr3, dr4, dr5, dr6, bo1, in1, st1, ls1, le1, pt1, fi1, fb1, fs1, ct1, cf1, nt1, nf1, ak0, akT, akF, cdec, cndec, cbeq, cnbeq, ↓reduceIte, beq_self_eq_true, Int.reduceBEq, Int.reduceEq, Bool.and_true, Bool.true_and, Bool.false_and, Bool.and_false, h, h0, and_self, enc_len, enc_get h1, s22 out.2 r.2 (by omega) (by omega), hg0, w1, w2, hm, s14]
    · have := ih (k + 1) (both out r) h3 (by omega) (both_ok ho hr hcr hm).1 (fun r' hr' => hok r' (List.mem_cons_of_mem _ hr'))
        (fun r' hr' => comp_both ho hr hcr hm (hc r' (List.mem_cons_of_mem _ hr')) ((List.pairwise_cons.1 hp).1 r' hr')) (List.pairwise_cons.1 hp).2
      have s := s15 out.1 out.2 r.1 r.2 ho hr
      rw [if_pos (show (Int.gcd out.2 r.2 : Int) ∣ r.1 - out.1 from hcr)] at s
      simp only [both] at this
      simp only [gd1, hd1, tl1, dr0, dr1, dr2, dr3, dr4, dr5, dr6, bo1, in1, st1, ls1, le1, pt1, fi1, fb1, fs1, ct1, cf1, nt1, nf1, ak0, akT, akF, cdec, cndec, cbeq, cnbeq, ↓reduceIte, beq_self_eq_true, Int.reduceBEq, Int.reduceEq, Bool.and_true, Bool.true_and, Bool.false_and, Bool.and_false, h, h0, and_self, enc_len, enc_get h1, s22 out.2 r.2 (by omega) (by omega), hg0, w1, w2, hm, s, w, this]
      rfl

theorem s12 (e : Bool) (l : List (Int × Int)) : Or (.call 12) [lst e l] [] = some (allF l) := by
  refine orc_of ?_
  rw [e12]
  unfold allF
  by_cases h : (l.length : Int) > 40
  · simp only [gd1, hd1, tl1, dr0, dr1, dr2, dr3, dr4, dr5, dr6, bo1, in1, st1, ls1, le1, pt1, fi1, fb1, fs1, ct1, cf1, nt1, nf1, ak0, akT, akF, cdec, cndec, cbeq, cnbeq, ↓reduceIte, beq_self_eq_true, Int.reduceBEq, Int.reduceEq, Bool.and_true, Bool.true_and, Bool.false_and, Bool.and_false, enc_len, h, s14]
  · simp only [gd1, hd1, tl1, dr0, dr1, dr2, dr3, dr4, dr5, dr6, bo1, in1, st1, ls1, le1, pt1, fi1, fb1, fs1, ct1, cf1, nt1, nf1, ak0, akT, akF, cdec, cndec, cbeq, cnbeq, ↓reduceIte, beq_self_eq_true, Int.reduceBEq, Int.reduceEq, Bool.and_true, Bool.true_and, Bool.false_and, Bool.and_false, enc_len, h]
    refine n12a e l (by omega) _ l 0 rfl (Nat.zero_le _) (fun j hj => by simp only [hj]) fun hb => ?_
    simp only [hb]
    refine n12b e l (by omega) (bad_none hb) _ l 0 rfl (Nat.zero_le _) (fun i k hk => by simp only [hk]) fun hc => ?_
    simp only [hc]
    exact n12d e l (by omega) l 0 (0, 1) rfl (Nat.zero_le _) one_ok (bad_none hb) (fun r _ => comp_one r) (clash_pairs hc)

/-! ### A congruence -/
def InM (m : Int) : Prop := 1 ≤ m ∧ m ≤ 1000000
instance (m : Int) : Decidable (InM m) := by unfold InM; infer_instance
/-- Something that solves it: a times z and b leave the same. -/
def Sol (a b m z : Int) : Prop := m ∣ a * z - b
theorem gcd_emod (a m : Int) (hm : 0 < m) : Int.gcd (a % m) m = Int.gcd a m := by
  rw [Int.gcd_comm, gcd_rec]
theorem sol_dvd {a b m z : Int} (h : Sol a b m z) : (Int.gcd a m : Int) ∣ b := by
  have h1 := Int.dvd_trans (Int.gcd_dvd_right a m) h
  have h2 := Int.dvd_mul_of_dvd_left (c := z) (Int.gcd_dvd_left a m)
  have := Int.dvd_sub h2 h1
  have e : a * z - (a * z - b) = b := by omega
  rwa [e] at this
theorem sol_iff {a b m z y : Int} (hm : 0 < m) (h : Sol a b m z) : Sol a b m y ↔ m / (Int.gcd a m : Int) ∣ y - z := by
  have hg := gcd_pos (a := a) (b := m) hm
  obtain ⟨p, hp⟩ := Int.gcd_dvd_left a m
  obtain ⟨q, hq⟩ := Int.gcd_dvd_right a m
  have hco := Int.gcd_ediv_gcd_ediv_gcd (i := a) (j := m) (by omega)
  generalize (Int.gcd a m : Int) = g at *
  have hg0 : g ≠ 0 := by omega
  have e1 : m / g = q := by rw [hq, Int.mul_ediv_cancel_left _ hg0]
  have e2 : a / g = p := by rw [hp, Int.mul_ediv_cancel_left _ hg0]
  rw [e1]
  rw [e1, e2] at hco
  have key : m ∣ a * (y - z) ↔ q ∣ y - z := by
    rw [hp, hq, Int.mul_assoc]
    constructor
    · intro h
      have h1 : q ∣ p * (y - z) := Int.dvd_of_mul_dvd_mul_left hg0 h
      have := (Int.dvd_gcd_mul_iff_dvd_mul (k := q) (n := p) (m := y - z)).2 h1
      rw [Int.gcd_comm, hco] at this
      simpa using this
    · intro h
      exact Int.mul_dvd_mul_left g (Int.dvd_mul_of_dvd_right h)
  rw [← key]
  unfold Sol at *
  rw [Int.mul_sub]
  constructor
  · intro h'
    have := Int.dvd_sub h' h
    have e : a * y - b - (a * z - b) = a * y - a * z := by omega
    rwa [e] at this
  · intro h'
    have := Int.dvd_add h' h
    have e : a * y - a * z + (a * z - b) = a * y - b := by omega
    rwa [e] at this
/-- The number that the program finds. -/
theorem sol_found {a b m x : Int} (hm : 0 < m) (hd : (Int.gcd a m : Int) ∣ b) (hx : m ∣ a % m * x - (Int.gcd a m : Int)) :
    Sol a b m ((b / (Int.gcd a m : Int) % (m / (Int.gcd a m : Int)) * (x % (m / (Int.gcd a m : Int)))) % (m / (Int.gcd a m : Int))) := by
  have hg := gcd_pos (a := a) (b := m) hm
  have hx' : m ∣ a * x - (Int.gcd a m : Int) := by
    have : m ∣ (a - a % m) * x := Int.dvd_mul_of_dvd_left (Int.dvd_self_sub_emod (x := a) (m := m))
    have := Int.dvd_add this hx
    rw [Int.sub_mul] at this
    have e : a * x - a % m * x + (a % m * x - (Int.gcd a m : Int)) = a * x - (Int.gcd a m : Int) := by omega
    rwa [e] at this
  obtain ⟨d, hd⟩ := hd
  -- x times d solves it
  have h1 : Sol a b m (x * d) := by
    unfold Sol
    have := Int.dvd_mul_of_dvd_left (c := d) hx'
    rw [Int.sub_mul, ← hd, Int.mul_assoc] at this
    exact this
  rw [sol_iff hm h1]
  have e2 : b / (Int.gcd a m : Int) = d := by rw [hd, Int.mul_ediv_cancel_left _ (by omega)]
  rw [e2]
  generalize m / (Int.gcd a m : Int) = q
  refine Int.dvd_of_emod_eq_zero ?_
  rw [Int.sub_emod, Int.emod_emod, ← Int.mul_emod, Int.mul_comm d x, Int.sub_self]
  simp
open Classical in
noncomputable def sol (a b m : Int) : Int := if h : ∃ z, (0 ≤ z ∧ z < m / (Int.gcd a m : Int)) ∧ Sol a b m z then Classical.choose h else 0
theorem sol_eq {a b m z : Int} (hm : 0 < m) (h : Sol a b m z) (hz : 0 ≤ z ∧ z < m / (Int.gcd a m : Int)) : sol a b m = z := by
  unfold sol
  have hex : ∃ z, (0 ≤ z ∧ z < m / (Int.gcd a m : Int)) ∧ Sol a b m z := ⟨z, hz, h⟩
  rw [dif_pos hex]
  have := Classical.choose_spec hex
  have := dvd_small ((sol_iff hm h).1 this.2) (by omega) (by omega)
  omega
theorem part_pos {a m : Int} (hm : 0 < m) : 0 < m / (Int.gcd a m : Int) ∧ m / (Int.gcd a m : Int) ≤ m := by
  refine ⟨?_, Int.ediv_le_self _ (by omega)⟩
  have hg := gcd_pos (a := a) (b := m) hm
  obtain ⟨q, hq⟩ := Int.gcd_dvd_right a m
  generalize (Int.gcd a m : Int) = g at *
  rw [hq, Int.mul_ediv_cancel_left _ (by omega)]
  rcases Int.lt_or_le 0 q with h | h
  · exact h
  · have := Int.mul_nonpos_of_nonneg_of_nonpos (Int.le_of_lt hg) h; omega
/-- What the program tells of a congruence. -/
noncomputable def solveF (a b m : Int) : List T :=
  if ¬ InM m then [ti 0, ti 0, ti 3, ti 2]
  else if ¬ Fits a then [ti 0, ti 0, ti 3, ti 0]
  else if ¬ Fits b then [ti 0, ti 0, ti 3, ti 1]
  else if ¬ (Int.gcd a m : Int) ∣ b then [ti 0, ti 0, ti 6, ti 0]
  else [ti (sol a b m), ti (m / (Int.gcd a m : Int)), ti 0, ti 0]
theorem sol_spec {a b m : Int} (hm : InM m) (hd : (Int.gcd a m : Int) ∣ b) : (0 ≤ sol a b m ∧ sol a b m < m / (Int.gcd a m : Int)) ∧ Sol a b m (sol a b m) := by
  have h0 : 0 < m := by have := hm.1; omega
  obtain ⟨x, h24, hx, hx1, hx2⟩ := s24 (a % m) m ⟨Int.emod_nonneg _ (by omega), by have := Int.emod_lt_of_pos a h0; have := hm.2; omega⟩ hm
  rw [gcd_emod a m h0] at hx
  have h := sol_found h0 hd hx
  obtain ⟨p1, p2⟩ := part_pos (a := a) h0
  have hz := Int.emod_nonneg (b / (Int.gcd a m : Int) % (m / (Int.gcd a m : Int)) * (x % (m / (Int.gcd a m : Int)))) (b := m / (Int.gcd a m : Int)) (by omega)
  have hz2 := Int.emod_lt_of_pos (b / (Int.gcd a m : Int) % (m / (Int.gcd a m : Int)) * (x % (m / (Int.gcd a m : Int)))) (b := m / (Int.gcd a m : Int)) p1
  rw [sol_eq h0 h ⟨hz, hz2⟩]
  exact ⟨⟨hz, hz2⟩, h⟩
theorem s16 (a b m : Int) : Or (.call 16) [I a, I b, I m] [] = some (solveF a b m) := by
  refine orc_of ?_
  rw [e16]
  unfold solveF
  have hmm : (bif decide (m < 1) then true else decide (m > 1000000)) = decide (¬ InM m) := by
    rw [cor, ← Bool.decide_or]
    refine decide_eq_decide.2 ?_
    unfold InM; omega
  rw [hmm]
  by_cases hm : InM m
  · by_cases ha : Fits a
    · by_cases hb : Fits b
      · have h0 : 0 < m := by have := hm.1; omega
        have m1 : m ≤ 1000000 := hm.2
        obtain ⟨x, h24, hx, hx1, hx2⟩ := s24 (a % m) m ⟨Int.emod_nonneg _ (by omega), by have := Int.emod_lt_of_pos a h0; omega⟩ hm
        rw [gcd_emod a m h0] at hx h24
        have c0 := s25 a m ⟨h0, by omega⟩
        have hg := gcd_pos (a := a) (b := m) h0
        have hg0 : ¬ (Int.gcd a m : Int) = 0 := by omega
        by_cases hd : (Int.gcd a m : Int) ∣ b
        · have hz : b.tmod (Int.gcd a m : Int) = 0 := tmod_zero.2 hd
          have h := sol_found h0 hd hx
          obtain ⟨p1, p2⟩ := part_pos (a := a) h0
          have hz1 := Int.emod_nonneg (b / (Int.gcd a m : Int) % (m / (Int.gcd a m : Int)) * (x % (m / (Int.gcd a m : Int)))) (b := m / (Int.gcd a m : Int)) (by omega)
          have hz2 := Int.emod_lt_of_pos (b / (Int.gcd a m : Int) % (m / (Int.gcd a m : Int)) * (x % (m / (Int.gcd a m : Int)))) (b := m / (Int.gcd a m : Int)) p1
          have hs := sol_eq h0 h ⟨hz1, hz2⟩
          have hbb : -1000000 ≤ b / (Int.gcd a m : Int) ∧ b / (Int.gcd a m : Int) ≤ 1000000 := by
            obtain ⟨q, hq⟩ := hd
            have f1 : -1000000 ≤ b := hb.1
            have f2 : b ≤ 1000000 := hb.2
            rw [hq, Int.mul_ediv_cancel_left _ (by omega)]
            exact mul_bound (g := (Int.gcd a m : Int)) (by omega) (by omega) (by omega)
          have w1 : IntKind.i64.wrap (b.tdiv (Int.gcd a m : Int)) = b / (Int.gcd a m : Int) := by rw [tdiv_of_dvd hd, wr (by omega)]
          have w2 : IntKind.i64.wrap (m.tdiv (Int.gcd a m : Int)) = m / (Int.gcd a m : Int) := by rw [tdiv_of_dvd (Int.gcd_dvd_right a m), wr (by omega)]
          have c1 := s25 (b / (Int.gcd a m : Int)) (m / (Int.gcd a m : Int)) ⟨by omega, by omega⟩
          have c2 := s25 x (m / (Int.gcd a m : Int)) ⟨by omega, by omega⟩
          have b5 := Int.emod_nonneg (b / (Int.gcd a m : Int)) (b := m / (Int.gcd a m : Int)) (by omega)
          have b6 := Int.emod_lt_of_pos (b / (Int.gcd a m : Int)) (b := m / (Int.gcd a m : Int)) p1
          have b7 := Int.emod_nonneg x (b := m / (Int.gcd a m : Int)) (by omega)
          have b8 := Int.emod_lt_of_pos x (b := m / (Int.gcd a m : Int)) p1
          have b9 := Int.mul_nonneg b5 b7
          have b10 := Int.mul_le_mul (show b / (Int.gcd a m : Int) % (m / (Int.gcd a m : Int)) ≤ 1000000 by omega) (show x % (m / (Int.gcd a m : Int)) ≤ 1000000 by omega) b7 (by omega)
          have w4 : IntKind.i64.wrap (b / (Int.gcd a m : Int) % (m / (Int.gcd a m : Int)) * (x % (m / (Int.gcd a m : Int)))) = b / (Int.gcd a m : Int) % (m / (Int.gcd a m : Int)) * (x % (m / (Int.gcd a m : Int))) := wr (by omega)
          have c3 := s25 (b / (Int.gcd a m : Int) % (m / (Int.gcd a m : Int)) * (x % (m / (Int.gcd a m : Int)))) (m / (Int.gcd a m : Int)) ⟨by omega, by omega⟩
          rw [← hs] at c3
          simp only [gd1, hd1, tl1, dr0, dr1, dr2, dr3, dr4, dr5, dr6, bo1, in1, st1, ls1, le1, pt1, fi1, fb1, fs1, ct1, cf1, nt1, nf1, ak0, akT, akF, cdec, cndec, cbeq, cnbeq, ↓reduceIte, beq_self_eq_true, Int.reduceBEq, Int.reduceEq, Bool.and_true, Bool.true_and, Bool.false_and, Bool.and_false, hm, ha, hb, hd, not_true_eq_false, decide_true, s23, c0, h24, hg0, hz, w1, w2, c1, c2, w4, c3]
        · have hz : ¬ b.tmod (Int.gcd a m : Int) = 0 := fun h => hd (tmod_zero.1 h)
          simp only [gd1, hd1, tl1, dr0, dr1, dr2, dr3, dr4, dr5, dr6, bo1, in1, st1, ls1, le1, pt1, fi1, fb1, fs1, ct1, cf1, nt1, nf1, ak0, akT, akF, cdec, cndec, cbeq, cnbeq, ↓reduceIte, beq_self_eq_true, Int.reduceBEq, Int.reduceEq, Bool.and_true, Bool.true_and, Bool.false_and, Bool.and_false, hm, ha, hb, hd, not_true_eq_false, not_false_eq_true, decide_true, s23, c0, h24, hg0, hz]
      · simp only [gd1, hd1, tl1, dr0, dr1, dr2, dr3, dr4, dr5, dr6, bo1, in1, st1, ls1, le1, pt1, fi1, fb1, fs1, ct1, cf1, nt1, nf1, ak0, akT, akF, cdec, cndec, cbeq, cnbeq, ↓reduceIte, beq_self_eq_true, Int.reduceBEq, Int.reduceEq, Bool.and_true, Bool.true_and, Bool.false_and, Bool.and_false, hm, ha, hb, not_true_eq_false, not_false_eq_true, decide_true, decide_false, s23]
    · simp only [gd1, hd1, tl1, dr0, dr1, dr2, dr3, dr4, dr5, dr6, bo1, in1, st1, ls1, le1, pt1, fi1, fb1, fs1, ct1, cf1, nt1, nf1, ak0, akT, akF, cdec, cndec, cbeq, cnbeq, ↓reduceIte, beq_self_eq_true, Int.reduceBEq, Int.reduceEq, Bool.and_true, Bool.true_and, Bool.false_and, Bool.and_false, hm, ha, not_true_eq_false, not_false_eq_true, decide_false, s23]
  · simp only [gd1, hd1, tl1, dr0, dr1, dr2, dr3, dr4, dr5, dr6, bo1, in1, st1, ls1, le1, pt1, fi1, fb1, fs1, ct1, cf1, nt1, nf1, ak0, akT, akF, cdec, cndec, cbeq, cnbeq, ↓reduceIte, beq_self_eq_true, Int.reduceBEq, Int.reduceEq, Bool.and_true, Bool.true_and, Bool.false_and, Bool.and_false, hm, not_false_eq_true]

/-! ### The document's own way: trying -/
abbrev vals18 (a b m n k : Int) : List AV := [I a, I b, I m, AV.ref (Id.c 0) 0, I n, I k]
theorem fits_mul {a k : Int} (ha : Fits a) (hk : 0 ≤ k ∧ k ≤ 1000000) : -1000000000000 ≤ a * k ∧ a * k ≤ 1000000000000 := by
  obtain ⟨a1, a2⟩ := ha
  have h1 := Int.mul_le_mul_of_nonneg_right a1 hk.1
  have h2 := Int.mul_le_mul_of_nonneg_right a2 hk.1
  omega
theorem step18 (a b m n k x y : Int) (ha : Fits a) (hb : Fits b) (hm : InM m) (hn : n ≤ m) (hk : 0 ≤ k ∧ k ≤ n) (res : List T)
    (hit : k < n → Sol a b m k → res = [ti k, ti n, tb true])
    (miss : k < n → ¬ Sol a b m k → Or K18n3 (vals18 a b m n (k + 1)) [bx2 x y] = some res)
    (out : k = n → res = [ti 0, ti 0, tb false]) :
    Or K18n3 (vals18 a b m n k) [bx2 x y] = some res := by
  obtain ⟨m1, m2⟩ := hm
  have fm := fits_mul ha (k := k) ⟨by omega, by omega⟩
  obtain ⟨b1, b2⟩ := hb
  refine orc_of ?_
  rw [e18n3]
  have hm0 : ¬ m = 0 := by omega
  by_cases h : k < n
  · have w1 : IntKind.i64.wrap (a * k) = a * k := wr (by omega)
    have w2 : IntKind.i64.wrap (a * k - b) = a * k - b := wr (by omega)
    have w3 : IntKind.i64.wrap (k + 1) = k + 1 := wr (by omega)
    have e : ((a * k - b).tmod m = 0) ↔ Sol a b m k := tmod_zero
    by_cases hs : Sol a b m k
    · simp only [gd1, hd1, tl1, dr0, dr1, dr2, dr3, dr4, dr5, dr6, bo1, in1, st1, ls1, le1, pt1, fi1, fb1, fs1, ct1, cf1, nt1, nf1, ak0, akT, akF, cdec, cndec, cbeq, cnbeq, ↓reduceIte, beq_self_eq_true, Int.reduceBEq, Int.reduceEq, Bool.and_true, Bool.true_and, Bool.false_and, Bool.and_false, h, hm0, w1, w2, e.2 hs, hit h hs]
    · have hz : ¬ (a * k - b).tmod m = 0 := fun h => hs (e.1 h)
      simp only [gd1, hd1, tl1, dr0, dr1, dr2, dr3, dr4, dr5, dr6, bo1, in1, st1, ls1, le1, pt1, fi1, fb1, fs1, ct1, cf1, nt1, nf1, ak0, akT, akF, cdec, cndec, cbeq, cnbeq, ↓reduceIte, beq_self_eq_true, Int.reduceBEq, Int.reduceEq, Bool.and_true, Bool.true_and, Bool.false_and, Bool.and_false, h, hm0, w1, w2, w3, hz, miss h hs]
  · simp only [gd1, hd1, tl1, dr0, dr1, dr2, dr3, dr4, dr5, dr6, bo1, in1, st1, ls1, le1, pt1, fi1, fb1, fs1, ct1, cf1, nt1, nf1, ak0, akT, akF, cdec, cndec, cbeq, cnbeq, ↓reduceIte, beq_self_eq_true, Int.reduceBEq, Int.reduceEq, Bool.and_true, Bool.true_and, Bool.false_and, Bool.and_false, h, out (by omega)]
theorem n18F (a b m n x y : Int) (ha : Fits a) (hb : Fits b) (hm : InM m) (hn : n ≤ m) : ∀ (c : Nat) (k : Int), (n - k).toNat = c → 0 ≤ k → k ≤ n → (∀ j, k ≤ j → j < n → ¬ Sol a b m j) →
    Or K18n3 (vals18 a b m n k) [bx2 x y] = some [ti 0, ti 0, tb false] := by
  intro c
  induction c with
  | zero =>
    intro k hc h0 h1 hno
    exact step18 a b m n k x y ha hb hm hn ⟨h0, h1⟩ _ (fun h => by omega) (fun h => by omega) (fun _ => rfl)
  | succ c ih =>
    intro k hc h0 h1 hno
    exact step18 a b m n k x y ha hb hm hn ⟨h0, h1⟩ _ (fun h e => (hno k (by omega) h e).elim) (fun h _ => ih (k + 1) (by omega) (by omega) (by omega) fun j hj => hno j (by omega)) (fun _ => rfl)
theorem n18T (a b m n x y J : Int) (ha : Fits a) (hb : Fits b) (hm : InM m) (hn : n ≤ m) (hJ : Sol a b m J) (hJn : J < n) : ∀ (c : Nat) (k : Int), (J - k).toNat = c → 0 ≤ k → k ≤ J → (∀ j, k ≤ j → j < J → ¬ Sol a b m j) →
    Or K18n3 (vals18 a b m n k) [bx2 x y] = some [ti J, ti n, tb true] := by
  intro c
  induction c with
  | zero =>
    intro k hc h0 h1 hno
    have : k = J := by omega
    subst this
    exact step18 a b m n k x y ha hb hm hn ⟨h0, by omega⟩ _ (fun h _ => rfl) (fun h e => (e hJ).elim) (fun h => by omega)
  | succ c ih =>
    intro k hc h0 h1 hno
    exact step18 a b m n k x y ha hb hm hn ⟨h0, by omega⟩ _ (fun h e => (hno k (by omega) (by omega) e).elim) (fun h _ => ih (k + 1) (by omega) (by omega) (by omega) fun j hj => hno j (by omega)) (fun h => by omega)
theorem s18 (a b m : Int) (ha : Fits a) (hb : Fits b) (hm : InM m) : Or (.call 18) [I a, I b, I m] [] =
    some (if (Int.gcd a m : Int) ∣ b then [ti (sol a b m), ti (m / (Int.gcd a m : Int)), tb true] else [ti 0, ti 0, tb false]) := by
  have h0 : 0 < m := by have := hm.1; omega
  have hm2 : m ≤ 1000000 := hm.2
  have a1 : -1000000 ≤ a := ha.1
  have a2 : a ≤ 1000000 := ha.2
  have hmax : mm true a (IntKind.i64.wrap (0 - a)) = (a.natAbs : Int) := by
    rw [wr (by omega)]
    unfold mm
    simp only [cond_true]
    split <;> omega
  have hgn : Int.gcd (a.natAbs : Int) m = Int.gcd a m := by
    show Nat.gcd _ _ = Nat.gcd _ _
    simp
  have s := s22 (a.natAbs : Int) m (by omega) (by omega)
  rw [hgn] at s
  have hg := gcd_pos (a := a) (b := m) h0
  have hg0 : ¬ (Int.gcd a m : Int) = 0 := by omega
  obtain ⟨p1, p2⟩ := part_pos (a := a) h0
  have w : IntKind.i64.wrap (m.tdiv (Int.gcd a m : Int)) = m / (Int.gcd a m : Int) := by rw [tdiv_of_dvd (Int.gcd_dvd_right a m), wr (by omega)]
  have n : Or K18n3 (vals18 a b m (m / (Int.gcd a m : Int)) 0) [bx2 0 0] = some (if (Int.gcd a m : Int) ∣ b then [ti (sol a b m), ti (m / (Int.gcd a m : Int)), tb true] else [ti 0, ti 0, tb false]) := by
    by_cases hd : (Int.gcd a m : Int) ∣ b
    · obtain ⟨⟨s1, s2⟩, s3⟩ := sol_spec hm hd
      rw [if_pos hd]
      refine n18T a b m _ 0 0 _ ha hb hm p2 s3 s2 (sol a b m).toNat 0 (by omega) (by omega) s1 fun j hj hjs e => ?_
      have := sol_eq h0 e ⟨hj, by omega⟩
      omega
    · rw [if_neg hd]
      exact n18F a b m _ 0 0 ha hb hm p2 (m / (Int.gcd a m : Int)).toNat 0 (by omega) (by omega) (by omega) fun j hj hjs e => hd (sol_dvd e)
  refine orc_of ?_
  rw [e18]
  simp only [gd1, hd1, tl1, dr0, dr1, dr2, dr3, dr4, dr5, dr6, bo1, in1, st1, ls1, le1, pt1, fi1, fb1, fs1, ct1, cf1, nt1, nf1, ak0, akT, akF, cdec, cndec, cbeq, cnbeq, ↓reduceIte, beq_self_eq_true, Int.reduceBEq, Int.reduceEq, Bool.and_true, Bool.true_and, Bool.false_and, Bool.and_false, hmax, s, hg0, w, n]
end Go.Aev.Gen
