/-
  What the program and the document tell of lists of rests.
-/
import Derived.Test.YtnfdhfmfcpbepaaRSpec
set_option linter.unusedSimpArgs false
set_option linter.unusedVariables false
namespace Go.Aev.Gen
open Go Go.Aev Go.Num

theorem at_drop {α : Type} {l : List α} {i : Nat} {r : α} {rest : List α} (h : l.drop i = r :: rest) : l[i]? = some r ∧ i < l.length ∧ l.drop (i + 1) = rest := by
  have hlt : i < l.length := by
    rcases Nat.lt_or_ge i l.length with g | g
    · exact g
    · rw [List.drop_eq_nil_of_le g] at h; cases h
  rw [List.drop_eq_getElem_cons hlt] at h
  simp only [List.cons.injEq] at h
  exact ⟨by rw [List.getElem?_eq_getElem hlt, h.1], hlt, h.2⟩
theorem at_end {α : Type} {l : List α} {i : Nat} (h : l.drop i = []) : l.length ≤ i := by
  simpa using h
def enc (l : List (Int × Int)) : List (List T) := l.map fun r => [ti r.1, ti r.2]
theorem enc_len (l : List (Int × Int)) : (enc l).length = l.length := by simp [enc]
theorem enc_get {l : List (Int × Int)} {i : Nat} {r : Int × Int} (h : l[i]? = some r) : (enc l)[((i : Nat) : Int).toNat]? = some [ti r.1, ti r.2] := by
  simp [enc, h]
theorem sub_enc (l : List (Int × Int)) (j : Nat) : sub 0 (j : Int) (enc l) = enc (l.take j) := by
  simp [sub, enc, List.map_take]
theorem inB_ok {lo hi n : Int} (h : 0 ≤ lo ∧ lo ≤ hi ∧ hi ≤ n) : inB lo hi n = some () := by unfold inB; rw [if_pos h]
abbrev lst (e : Bool) (l : List (Int × Int)) : AV := AV.t (T.lst 2 e (enc l))
abbrev r0 : AV := AV.ref (Id.c 0) 0
abbrev r1 : AV := AV.ref (Id.c 1) 0
abbrev r2 : AV := AV.ref (Id.c 2) 0
abbrev r3 : AV := AV.ref (Id.c 3) 0
abbrev z2 : Blk := bx2 0 0

def OkR (r : Int × Int) : Prop := Ok r.1 r.2
instance (r : Int × Int) : Decidable (OkR r) := by unfold OkR; infer_instance
def Comp (a b : Int × Int) : Prop := (Int.gcd a.2 b.2 : Int) ∣ b.1 - a.1
instance (a b : Int × Int) : Decidable (Comp a b) := by unfold Comp; infer_instance
def bad : List (Int × Int) → Nat → Option Nat
  | [], _ => none
  | r :: rs, i => if OkR r then bad rs (i + 1) else some i
def clashIn (b : Int × Int) : List (Int × Int) → Nat → Option Nat
  | [], _ => none
  | a :: l, i => if Comp a b then clashIn b l (i + 1) else some i
def clash (l : List (Int × Int)) : List (Int × Int) → Nat → Option (Nat × Nat)
  | [], _ => none
  | b :: bs, j => match clashIn b (l.take j) 0 with
    | some i => some (i, j)
    | none => clash l bs (j + 1)
noncomputable def both (a b : Int × Int) : Int × Int := (crt a.1 a.2 b.1 b.2, (Int.lcm a.2 b.2 : Int))
noncomputable def fold : Int × Int → List (Int × Int) → List T
  | out, [] => [ti out.1, ti out.2, ti 0, ti 0, ti 0, ti 0]
  | out, r :: rs => if (Int.lcm out.2 r.2 : Int) > 1000000 then [ti 0, ti 0, ti 0, ti 0, ti 10, ti 0] else fold (both out r) rs
noncomputable def allF (l : List (Int × Int)) : List T :=
  if (l.length : Int) > 40 then [ti 0, ti 0, ti 0, ti 0, ti 2, ti 0]
  else match bad l 0 with
    | some i => [ti 0, ti 0, ti 0, ti 0, ti 3, ti i]
    | none => match clash l l 0 with
      | some (i, j) => [ti 0, ti 0, ti i, ti j, ti 6, ti 0]
      | none => fold (0, 1) l

theorem bad_none {l : List (Int × Int)} : ∀ {i : Nat}, bad l i = none → ∀ r ∈ l, OkR r := by
  induction l with
  | nil => intro i _ r hr; cases hr
  | cons a l ih =>
    intro i h r hr
    simp only [bad] at h
    by_cases ha : OkR a
    · rw [if_pos ha] at h
      rcases List.mem_cons.1 hr with rfl | hr
      · exact ha
      · exact ih h r hr
    · rw [if_neg ha] at h; cases h
theorem clashIn_none {b : Int × Int} {l : List (Int × Int)} : ∀ {i : Nat}, clashIn b l i = none → ∀ a ∈ l, Comp a b := by
  induction l with
  | nil => intro i _ r hr; cases hr
  | cons a l ih =>
    intro i h r hr
    simp only [clashIn] at h
    by_cases ha : Comp a b
    · rw [if_pos ha] at h
      rcases List.mem_cons.1 hr with rfl | hr
      · exact ha
      · exact ih h r hr
    · rw [if_neg ha] at h; cases h
theorem clash_none {l : List (Int × Int)} : ∀ {bs : List (Int × Int)} {j : Nat}, l.drop j = bs → clash l bs j = none → ∀ k, j ≤ k → ∀ b, l[k]? = some b → ∀ a ∈ l.take k, Comp a b := by
  intro bs
  induction bs with
  | nil =>
    intro j hd _ k hk b hb
    have := at_end hd
    have := (List.getElem?_eq_some_iff.1 hb).1
    omega
  | cons b bs ih =>
    intro j hd hc k hk b' hb a ha
    obtain ⟨h1, h2, h3⟩ := at_drop hd
    simp only [clash] at hc
    cases hi : clashIn b (l.take j) 0 with
    | some i => rw [hi] at hc; cases hc
    | none =>
      rw [hi] at hc
      rcases Nat.eq_or_lt_of_le hk with rfl | hk
      · rw [h1] at hb; cases hb
        exact clashIn_none hi a ha
      · exact ih h3 hc k hk b' hb a ha
theorem clash_pairs {l : List (Int × Int)} (h : clash l l 0 = none) : l.Pairwise Comp := by
  rw [List.pairwise_iff_getElem]
  intro i j hi hj hij
  refine clash_none (l := l) (j := 0) rfl h j (Nat.zero_le _) l[j] (List.getElem?_eq_getElem hj) l[i] ?_
  rw [List.mem_take_iff_getElem]
  exact ⟨i, by omega, rfl⟩

/-! ### The program's -/
theorem n10a (e : Bool) (l : List (Int × Int)) (hl : l.length ≤ 40) (res : List T) : ∀ (rest : List (Int × Int)) (i : Nat), l.drop i = rest → i ≤ l.length →
    (∀ j, bad rest i = some j → res = [ti 0, ti 0, ti 0, ti 0, ti 3, ti j]) → (bad rest i = none → Or K10n10 [lst e l, r0, r1, r2, lst e l, I (l.length : Int), I 0] [z2, z2, z2] = some res) →
    Or K10n4 [lst e l, r0, r1, r2, lst e l, I (l.length : Int), I (i : Int)] [z2, z2, z2] = some res := by
  intro rest
  induction rest with
  | nil =>
    intro i hd hi _ hgo
    have := at_end hd
    refine orc_of ?_
    rw [e10n4]
    have h : ¬ (i : Int) < (l.length : Int) := by omega
    simp only [gd1, hd1, tl1, dr0, dr1, dr2, dr3, dr4, dr5, dr6, bo1, in1, st1, ls1, le1, pt1, fi1, fb1, fs1, ct1, cf1, nt1, nf1, ak0, akT, akF, cdec, cndec, cbeq, cnbeq, ↓reduceIte, beq_self_eq_true, Int.reduceBEq, Int.reduceEq, Bool.and_true, Bool.true_and, Bool.false_and, Bool.and_false, h, enc_len, hgo rfl]
  | cons r rest ih =>
    intro i hd hi hbad hgo
    obtain ⟨h1, h2, h3⟩ := at_drop hd
    refine orc_of ?_
    rw [e10n4]
    have h : (i : Int) < (l.length : Int) := by omega
    have h0 : (0 : Int) ≤ (i : Int) := by omega
    have w : IntKind.i64.wrap ((i : Int) + 1) = ((i + 1 : Nat) : Int) := by rw [wr (by omega)]; omega
    by_cases ho : OkR r
    · have := ih (i + 1) h3 (by omega) (fun j hj => hbad j (by simp only [bad, if_pos ho, hj])) (fun hj => hgo (by simp only [bad, if_pos ho, hj]))
      have s := s20 r.1 r.2
      rw [show decide (Ok r.1 r.2) = true from decide_eq_true (p := Ok r.1 r.2) ho] at s
      simp only [gd1, hd1, tl1, dr0, dr1, dr2, dr3, dr4, dr5, dr6, bo1, in1, st1, ls1, le1, pt1, fi1, fb1, fs1, ct1, cf1, nt1, nf1, ak0, akT, akF, cdec, cndec, cbeq, cnbeq, ↓reduceIte, beq_self_eq_true, Int.reduceBEq, Int.reduceEq, Bool.and_true, Bool.true_and, Bool.false_and, Bool.and_false, h, h0, and_self, enc_len, enc_get h1, s, w, this]
    · have s := s20 r.1 r.2
      rw [show decide (Ok r.1 r.2) = false from decide_eq_false (p := Ok r.1 r.2) ho] at s
      simp only [gd1, hd1, tl1, dr0, dr1, dr2, dr3, dr4, dr5, dr6, bo1, in1, st1, ls1, le1, pt1, fi1, fb1, fs1, ct1, cf1, nt1, nf1, ak0, akT, akF, cdec, cndec, cbeq, cnbeq, ↓reduceIte, beq_self_eq_true, Int.reduceBEq, Int.reduceEq, Bool.and_true, Bool.true_and, Bool.false_and, Bool.and_false, h, h0, and_self, enc_len, enc_get h1, s, hbad i (by simp only [bad, if_neg ho])]

theorem n10c (e : Bool) (l : List (Int × Int)) (hl : l.length ≤ 40) (hok : ∀ r ∈ l, OkR r) (j : Nat) (hj : j < l.length) (b : Int × Int) (hb : l[j]? = some b) (res : List T) :
    ∀ (rest : List (Int × Int)) (i : Nat), (l.take j).drop i = rest → i ≤ j →
    (∀ k, clashIn b rest i = some k → res = [ti 0, ti 0, ti k, ti j, ti 6, ti 0]) →
    (clashIn b rest i = none → Or K10n10 [lst e l, r0, r1, r2, lst e l, I (l.length : Int), I ((j + 1 : Nat) : Int)] [z2, z2, z2] = some res) →
    Or K10n13 [lst e l, r0, r1, r2, I (j : Int), r3, lst e l, I (l.length : Int), I (j : Int), lst e (l.take j), I ((l.take j).length : Int), I (i : Int)] [z2, z2, z2, bx2 b.1 b.2] = some res := by
  have hlen : (l.take j).length = j := by simp; omega
  have hbok : OkR b := hok b (List.mem_of_getElem? hb)
  intro rest
  induction rest with
  | nil =>
    intro i hd hi _ hgo
    have := at_end hd
    refine orc_of ?_
    rw [e10n13]
    have h : ¬ (i : Int) < ((l.take j).length : Int) := by omega
    have w : IntKind.i64.wrap ((j : Int) + 1) = ((j + 1 : Nat) : Int) := by rw [wr (by omega)]; omega
    simp only [gd1, hd1, tl1, dr0, dr1, dr2, dr3, dr4, dr5, dr6, bo1, in1, st1, ls1, le1, pt1, fi1, fb1, fs1, ct1, cf1, nt1, nf1, ak0, akT, akF, cdec, cndec, cbeq, cnbeq, ↓reduceIte, beq_self_eq_true, Int.reduceBEq, Int.reduceEq, Bool.and_true, Bool.true_and, Bool.false_and, Bool.and_false, h, w, hgo rfl]
  | cons a rest ih =>
    intro i hd hi hbad hgo
    obtain ⟨h1, h2, h3⟩ := at_drop hd
    have haok : OkR a := hok a (List.mem_of_mem_take (List.mem_of_getElem? h1))
    refine orc_of ?_
    rw [e10n13]
    have h : (i : Int) < ((l.take j).length : Int) := by omega
    have h0 : (0 : Int) ≤ (i : Int) := by omega
    have w : IntKind.i64.wrap ((i : Int) + 1) = ((i + 1 : Nat) : Int) := by rw [wr (by omega)]; omega
    by_cases hc : Comp a b
    · have := ih (i + 1) h3 (by omega) (fun k hk => hbad k (by simp only [clashIn, if_pos hc, hk])) (fun hk => hgo (by simp only [clashIn, if_pos hc, hk]))
      simp only [gd1, hd1, tl1, dr0, dr1, dr2, dr3, dr4, dr5, dr6, bo1, in1, st1, ls1, le1, pt1, fi1, fb1, fs1, ct1, cf1, nt1, nf1, ak0, akT, akF, cdec, cndec, cbeq, cnbeq, ↓reduceIte, beq_self_eq_true, Int.reduceBEq, Int.reduceEq, Bool.and_true, Bool.true_and, Bool.false_and, Bool.and_false, h, h0, and_self, enc_len, enc_get h1, s21T a.1 a.2 b.1 b.2 haok hbok hc, w, this]
    · simp only [gd1, hd1, tl1, dr0, dr1, dr2, dr3, dr4, dr5, dr6, bo1, in1, st1, ls1, le1, pt1, fi1, fb1, fs1, ct1, cf1, nt1, nf1, ak0, akT, akF, cdec, cndec, cbeq, cnbeq, ↓reduceIte, beq_self_eq_true, Int.reduceBEq, Int.reduceEq, Bool.and_true, Bool.true_and, Bool.false_and, Bool.and_false, h, h0, and_self, enc_len, enc_get h1, s21F a.1 a.2 b.1 b.2 haok hbok hc, hbad i (by simp only [clashIn, if_neg hc])]

theorem n10b (e : Bool) (l : List (Int × Int)) (hl : l.length ≤ 40) (hok : ∀ r ∈ l, OkR r) (res : List T) : ∀ (rest : List (Int × Int)) (j : Nat), l.drop j = rest → j ≤ l.length →
    (∀ i k, clash l rest j = some (i, k) → res = [ti 0, ti 0, ti i, ti k, ti 6, ti 0]) →
    (clash l rest j = none → Or K10n22 [r0, r1, r2, r3, lst e l, I (l.length : Int), I 0] [z2, z2, z2, bx2 0 1] = some res) →
    Or K10n10 [lst e l, r0, r1, r2, lst e l, I (l.length : Int), I (j : Int)] [z2, z2, z2] = some res := by
  intro rest
  induction rest with
  | nil =>
    intro j hd hj _ hgo
    have := at_end hd
    refine orc_of ?_
    rw [e10n10]
    have h : ¬ (j : Int) < (l.length : Int) := by omega
    simp only [gd1, hd1, tl1, dr0, dr1, dr2, dr3, dr4, dr5, dr6, bo1, in1, st1, ls1, le1, pt1, fi1, fb1, fs1, ct1, cf1, nt1, nf1, ak0, akT, akF, cdec, cndec, cbeq, cnbeq, ↓reduceIte, beq_self_eq_true, Int.reduceBEq, Int.reduceEq, Bool.and_true, Bool.true_and, Bool.false_and, Bool.and_false, h, enc_len, hgo rfl]
  | cons b rest ih =>
    intro j hd hj hbad hgo
    obtain ⟨h1, h2, h3⟩ := at_drop hd
    refine orc_of ?_
    rw [e10n10]
    have h : (j : Int) < (l.length : Int) := by omega
    have h0 : (0 : Int) ≤ (j : Int) := by omega
    have hin : inB 0 (j : Int) (l.length : Int) = some () := inB_ok ⟨by omega, by omega, by omega⟩
    have := n10c e l hl hok j h2 b h1 res (l.take j) 0 rfl (Nat.zero_le _) (fun k hk => hbad k j (by simp only [clash, hk])) (fun hk => ih (j + 1) h3 (by omega)
      (fun i k hc => hbad i k (by simp only [clash, hk, hc])) (fun hc => hgo (by simp only [clash, hk, hc])))
    simp only [gd1, hd1, tl1, dr0, dr1, dr2, dr3, dr4, dr5, dr6, bo1, in1, st1, ls1, le1, pt1, fi1, fb1, fs1, ct1, cf1, nt1, nf1, ak0, akT, akF, cdec, cndec, cbeq, cnbeq, ↓reduceIte, beq_self_eq_true, Int.reduceBEq, Int.reduceEq, Bool.and_true, Bool.true_and, Bool.false_and, Bool.and_false, h, h0, and_self, enc_len, enc_get h1, hin, sub_enc]
    exact this

theorem both_ok {a b : Int × Int} (ha : OkR a) (hb : OkR b) (hc : Comp a b) (hl : ¬ (Int.lcm a.2 b.2 : Int) > 1000000) : OkR (both a b) ∧ a.2 ∣ (both a b).1 - a.1 ∧ b.2 ∣ (both a b).1 - b.1 := by
  obtain ⟨x, h24, hx, hx1, hx2⟩ := s24 a.2 b.2 ⟨by have := ha.1; omega, ha.2.1⟩ ⟨hb.1, hb.2.1⟩
  obtain ⟨k, hk, k1, k2, h, k4, k5, k6, k7⟩ := found ha hb hc hx
  have := (lcm_bound ha hb).1
  refine ⟨⟨?_, ?_, ?_, ?_⟩, ?_, ?_⟩ <;> simp only [both, h]
  · omega
  · omega
  · omega
  · omega
  · exact k4.1
  · exact k4.2
theorem comp_both {a b c : Int × Int} (ha : OkR a) (hb : OkR b) (hab : Comp a b) (hl : ¬ (Int.lcm a.2 b.2 : Int) > 1000000) (hac : Comp a c) (hbc : Comp b c) : Comp (both a b) c := by
  obtain ⟨_, h1, h2⟩ := both_ok ha hb hab hl
  unfold Comp at *
  have e : (both a b).2 = (Int.lcm a.2 b.2 : Int) := rfl
  rw [e]
  refine gcd_lcm_dvd ?_ ?_
  · have := Int.dvd_sub hac (Int.dvd_trans (Int.gcd_dvd_left a.2 c.2) h1)
    have e : c.1 - a.1 - ((both a b).1 - a.1) = c.1 - (both a b).1 := by omega
    rwa [e] at this
  · have := Int.dvd_sub hbc (Int.dvd_trans (Int.gcd_dvd_left b.2 c.2) h2)
    have e : c.1 - b.1 - ((both a b).1 - b.1) = c.1 - (both a b).1 := by omega
    rwa [e] at this

theorem n10d (e : Bool) (l : List (Int × Int)) (hl : l.length ≤ 40) : ∀ (rest : List (Int × Int)) (k : Nat) (out : Int × Int), l.drop k = rest → k ≤ l.length → OkR out → (∀ r ∈ rest, OkR r) → (∀ r ∈ rest, Comp out r) → rest.Pairwise Comp →
    Or K10n22 [r0, r1, r2, r3, lst e l, I (l.length : Int), I (k : Int)] [z2, z2, z2, bx2 out.1 out.2] = some (fold out rest) := by
  intro rest
  induction rest with
  | nil =>
    intro k out hd hk _ _ _ _
    have := at_end hd
    refine orc_of ?_
    rw [e10n22]
    have h : ¬ (k : Int) < (l.length : Int) := by omega
    simp only [gd1, hd1, tl1, dr0, dr1, dr2, dr3, dr4, dr5, dr6, bo1, in1, st1, ls1, le1, pt1, fi1, fb1, fs1, ct1, cf1, nt1, nf1, ak0, akT, akF, cdec, cndec, cbeq, cnbeq, ↓reduceIte, beq_self_eq_true, Int.reduceBEq, Int.reduceEq, Bool.and_true, Bool.true_and, Bool.false_and, Bool.and_false, h, fold]
  | cons r rest ih =>
    intro k out hd hk ho hok hc hp
    obtain ⟨h1, h2, h3⟩ := at_drop hd
    have hr := hok r List.mem_cons_self
    have hcr := hc r List.mem_cons_self
    refine orc_of ?_
    rw [e10n22]
    have h : (k : Int) < (l.length : Int) := by omega
    have h0 : (0 : Int) ≤ (k : Int) := by omega
    have w : IntKind.i64.wrap ((k : Int) + 1) = ((k + 1 : Nat) : Int) := by rw [wr (by omega)]; omega
    simp only [fold]
    by_cases hm : (Int.lcm out.2 r.2 : Int) > 1000000
    · simp only [gd1, hd1, tl1, dr0, dr1, dr2, dr3, dr4, dr5, dr6, bo1, in1, st1, ls1, le1, pt1, fi1, fb1, fs1, ct1, cf1, nt1, nf1, ak0, akT, akF, cdec, cndec, cbeq, cnbeq, ↓reduceIte, beq_self_eq_true, Int.reduceBEq, Int.reduceEq, Bool.and_true, Bool.true_and, Bool.false_and, Bool.and_false, h, h0, and_self, enc_len, enc_get h1, s21T out.1 out.2 r.1 r.2 ho hr hcr, hm]
    · have := ih (k + 1) (both out r) h3 (by omega) (both_ok ho hr hcr hm).1 (fun r' hr' => hok r' (List.mem_cons_of_mem _ hr'))
        (fun r' hr' => comp_both ho hr hcr hm (hc r' (List.mem_cons_of_mem _ hr')) ((List.pairwise_cons.1 hp).1 r' hr')) (List.pairwise_cons.1 hp).2
      simp only [both] at this
      simp only [gd1, hd1, tl1, dr0, dr1, dr2, dr3, dr4, dr5, dr6, bo1, in1, st1, ls1, le1, pt1, fi1, fb1, fs1, ct1, cf1, nt1, nf1, ak0, akT, akF, cdec, cndec, cbeq, cnbeq, ↓reduceIte, beq_self_eq_true, Int.reduceBEq, Int.reduceEq, Bool.and_true, Bool.true_and, Bool.false_and, Bool.and_false, h, h0, and_self, enc_len, enc_get h1, s21T out.1 out.2 r.1 r.2 ho hr hcr, hm, w, this]
      rfl

theorem one_ok : OkR (0, 1) := by decide
theorem comp_one (r : Int × Int) : Comp (0, 1) r := by unfold Comp; simp
theorem s10 (e : Bool) (l : List (Int × Int)) : Or (.call 10) [lst e l] [] = some (allF l) := by
  refine orc_of ?_
  rw [e10]
  unfold allF
  by_cases h : (l.length : Int) > 40
  · simp only [gd1, hd1, tl1, dr0, dr1, dr2, dr3, dr4, dr5, dr6, bo1, in1, st1, ls1, le1, pt1, fi1, fb1, fs1, ct1, cf1, nt1, nf1, ak0, akT, akF, cdec, cndec, cbeq, cnbeq, ↓reduceIte, beq_self_eq_true, Int.reduceBEq, Int.reduceEq, Bool.and_true, Bool.true_and, Bool.false_and, Bool.and_false, enc_len, h]
  · simp only [gd1, hd1, tl1, dr0, dr1, dr2, dr3, dr4, dr5, dr6, bo1, in1, st1, ls1, le1, pt1, fi1, fb1, fs1, ct1, cf1, nt1, nf1, ak0, akT, akF, cdec, cndec, cbeq, cnbeq, ↓reduceIte, beq_self_eq_true, Int.reduceBEq, Int.reduceEq, Bool.and_true, Bool.true_and, Bool.false_and, Bool.and_false, enc_len, h]
    refine n10a e l (by omega) _ l 0 rfl (Nat.zero_le _) (fun j hj => by simp only [hj]) fun hb => ?_
    simp only [hb]
    refine n10b e l (by omega) (bad_none hb) _ l 0 rfl (Nat.zero_le _) (fun i k hk => by simp only [hk]) fun hc => ?_
    simp only [hc]
    exact n10d e l (by omega) l 0 (0, 1) rfl (Nat.zero_le _) one_ok (bad_none hb) (fun r _ => comp_one r) (clash_pairs hc)
end Go.Aev.Gen
