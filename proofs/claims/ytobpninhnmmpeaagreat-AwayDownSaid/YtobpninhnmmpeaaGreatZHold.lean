/-
  Rows that hold at a point; those that are left without a number hold where all held.
-/
import Derived.Test.YtobpninhnmmpeaaGreatZGone
import Derived.Test.YtobpninhnmmpeaaGreatZSum
set_option linter.unusedSimpArgs false
set_option linter.unusedVariables false
namespace Go.Aev.Gen
open Go Go.Aev Go.Proofs

theorem div1 (c : Int) : Rat.divInt c 1 = (c : Rat) := Rat.num_divInt_den (c : Rat)
abbrev Fr := Int × Int
abbrev FrR (x : Fr) : Prop := Wd.FrR x
abbrev LN (e : Bool) (l : List Fr) : AV := AV.t (T.lst 2 e (Wd.encF l))
theorem s9f (x : Fr) : Or (.call 9) [AV.agg [I x.1, I x.2]] [] = some [tb (decide (Wd.FrR x))] := by
  obtain ⟨b, h1, h2⟩ := Wd.g40 x.1 x.2
  rw [h1]
  have : b = decide (Wd.FrR x) := by
    rw [Bool.eq_iff_iff, h2, decide_eq_true_iff]; rfl
  rw [this]
theorem n13 (e : Bool) (l : List Fr) (hl : l.length ≤ 100) : ∀ (rest : List Fr) (i : Nat), l.drop i = rest → Or Kq13n2 [LN e l, I (i : Int)] [] = some [tb (rest.all fun x => decide (Wd.FrR x))] := by
  intro rest
  induction rest with
  | nil =>
    intro i h
    have h1 : ¬ (i : Int) < (l.length : Int) := by have := at_end h; omega
    refine orc_of ?_
    rw [eq13n2]
    simp only [gd1, hd1, tl1, dr0, dr1, dr2, dr3, dr4, dr5, dr6, bo1, in1, st1, ls1, le1, pt1, fi1, fb1, fs1, ct1, cf1, nt1, nf1, ak0, akT, akF, cdec, cndec, cbeq, cnbeq, ↓reduceIte, beq_self_eq_true, Int.reduceBEq, Int.reduceEq, Bool.and_true, Bool.true_and, Bool.false_and, Bool.and_false, h1, Wd.encF_len]
    rfl
  | cons x rest ih =>
    intro i h
    obtain ⟨g1, g2, g3⟩ := at_drop h
    have h1 : (i : Int) < (l.length : Int) := by omega
    have h0 : 0 ≤ (i : Int) := by omega
    have k1 := s9f x
    refine orc_of ?_
    rw [eq13n2]
    cases hx : decide (Wd.FrR x) with
    | false =>
      rw [hx] at k1
      simp only [gd1, hd1, tl1, dr0, dr1, dr2, dr3, dr4, dr5, dr6, bo1, in1, st1, ls1, le1, pt1, fi1, fb1, fs1, ct1, cf1, nt1, nf1, ak0, akT, akF, cdec, cndec, cbeq, cnbeq, ↓reduceIte, beq_self_eq_true, Int.reduceBEq, Int.reduceEq, Bool.and_true, Bool.true_and, Bool.false_and, Bool.and_false, h1, h0, and_self, Wd.encF_len, Wd.encF_get g1, k1]
      simp [hx]
    | true =>
      rw [hx] at k1
      simp only [gd1, hd1, tl1, dr0, dr1, dr2, dr3, dr4, dr5, dr6, bo1, in1, st1, ls1, le1, pt1, fi1, fb1, fs1, ct1, cf1, nt1, nf1, ak0, akT, akF, cdec, cndec, cbeq, cnbeq, ↓reduceIte, beq_self_eq_true, Int.reduceBEq, Int.reduceEq, Bool.and_true, Bool.true_and, Bool.false_and, Bool.and_false, h1, h0, and_self, Wd.encF_len, Wd.encF_get g1, k1, next i (by omega), ih (i + 1) g3]
      simp [hx]
theorem s13 (e : Bool) (l : List Fr) (hl : l.length ≤ 100) : Or (.call 13) [LN e l] [] = some [tb (l.all fun x => decide (Wd.FrR x))] := by
  refine orc_of ?_
  rw [eq13]
  exact n13 e l hl l 0 rfl
theorem n40q (e : Bool) (l : List Fr) (hl : l.length ≤ 100) (hx : ∀ x ∈ l, Wd.FrR x) : ∀ (rest : List Fr) (i : Nat), l.drop i = rest → Or Kq40n3 [LN e l, r0, AV.ref (Id.c 1) 0, I (i : Int)] [Blk.box [I 0, I 0], Blk.box [I 0, I 0]] = some [ti 0, ti 0] := by
  intro rest
  induction rest with
  | nil =>
    intro i h
    have h1 : ¬ (i : Int) < (l.length : Int) := by have := at_end h; omega
    refine orc_of ?_
    rw [eq40n3]
    simp only [gd1, hd1, tl1, dr0, dr1, dr2, dr3, dr4, dr5, dr6, bo1, in1, st1, ls1, le1, pt1, fi1, fb1, fs1, ct1, cf1, nt1, nf1, ak0, akT, akF, cdec, cndec, cbeq, cnbeq, ↓reduceIte, beq_self_eq_true, Int.reduceBEq, Int.reduceEq, Bool.and_true, Bool.true_and, Bool.false_and, Bool.and_false, h1, Wd.encF_len, decide_false]
  | cons x rest ih =>
    intro i h
    obtain ⟨g1, g2, g3⟩ := at_drop h
    have h1 : (i : Int) < (l.length : Int) := by omega
    have h0 : 0 ≤ (i : Int) := by omega
    have k1 := s9f x
    rw [decide_eq_true (hx x (List.mem_of_getElem? g1))] at k1
    refine orc_of ?_
    rw [eq40n3]
    simp only [gd1, hd1, tl1, dr0, dr1, dr2, dr3, dr4, dr5, dr6, bo1, in1, st1, ls1, le1, pt1, fi1, fb1, fs1, ct1, cf1, nt1, nf1, ak0, akT, akF, cdec, cndec, cbeq, cnbeq, ↓reduceIte, beq_self_eq_true, Int.reduceBEq, Int.reduceEq, Bool.and_true, Bool.true_and, Bool.false_and, Bool.and_false, h1, h0, and_self, Wd.encF_len, Wd.encF_get g1, k1, decide_true, next i (by omega)]
    exact ih (i + 1) g3
theorem s40q (r : R) (e : Bool) (l : List Fr) (hn : l.length ≤ 12) (ok : OkR l.length r) (hx : ∀ x ∈ l, Wd.FrR x) : Or (.call 40) [AV.agg [lst r.e r.of, I r.kd, I r.tv], LN e l] [] = some [ti 0, ti 0] := by
  have k1 := s19x r l.length hn
  have hc : chkR l.length r = (0, 0) := by
    have h1 := ok.kd
    have h2 := ok.len
    unfold chkR
    rw [if_neg (by omega), if_neg (by omega)]
    have : ∀ (m : List Int) (i : Nat), (∀ x ∈ m, -1000000 ≤ x ∧ x ≤ 1000000) → chkI m i = (0, 0) := by
      intro m
      induction m with
      | nil => intro i _; rfl
      | cons y m ih =>
        intro i h
        rw [chkI, if_pos (h y List.mem_cons_self)]
        exact ih _ fun x hx => h x (List.mem_cons_of_mem _ hx)
    refine this _ 0 fun x hx => ?_
    rcases List.mem_append.1 hx with hx | hx
    · exact ok.of x hx
    · rw [List.mem_singleton.1 hx]; exact ok.tv
  rw [hc] at k1
  refine orc_of ?_
  rw [eq40]
  simp only [gd1, hd1, tl1, dr0, dr1, dr2, dr3, dr4, dr5, dr6, bo1, in1, st1, ls1, le1, pt1, fi1, fb1, fs1, ct1, cf1, nt1, nf1, ak0, akT, akF, cdec, cndec, cbeq, cnbeq, ↓reduceIte, beq_self_eq_true, Int.reduceBEq, Int.reduceEq, Bool.and_true, Bool.true_and, Bool.false_and, Bool.and_false, Wd.encF_len, k1]
  exact n40q e l (by omega) hx l 0 rfl
/-- Does a row hold at a point? -/
def holdB (r : C) (l : List Fr) : Bool := decide ((Wd.sumQ r.1 l 0 < (r.2.2 : Rat) ∧ r.2.1 ≠ 3) ∨ (Wd.sumQ r.1 l 0 = (r.2.2 : Rat) ∧ r.2.1 ≠ 2))
theorem s41q (r : R) (e : Bool) (l : List Fr) (hn : l.length ≤ 12) (ok : OkR l.length r) (hx : ∀ x ∈ l, Wd.FrR x) : Or (.call 41) [AV.agg [lst r.e r.of, I r.kd, I r.tv], LN e l] [] = some [tb (holdB (toC r) l)] := by
  have hlen := ok.len
  obtain ⟨y, y1, y2, y3⟩ := Wd.s41 r.e e r.of l ok.of (fun x h => (hx x h).b) ok.len (by omega)
  have htv := ok.tv
  obtain ⟨b, b1, b2⟩ := Wd.g43 r.tv 1 (by unfold Wd.Sm; omega) (by unfold Wd.Sm; omega) (by omega)
  have hq : Rat.divInt r.tv 1 = (r.tv : Rat) := div1 _
  have k1 := Wd.cmpQs (m := 51 * r.of.length) (k := 20) y2 b2 y3 (Wd.QB.divInt (by omega) (by omega) (by omega)) (by omega)
  have hlt := Wd.cmpQ_lt (Wd.sumQ r.of l 0) (Rat.divInt r.tv 1)
  have heq := Wd.cmpQ_eq (Wd.sumQ r.of l 0) (Rat.divInt r.tv 1)
  rw [hq] at hlt heq
  refine orc_of ?_
  rw [eq41]
  simp only [gd1, hd1, tl1, dr0, dr1, dr2, dr3, dr4, dr5, dr6, bo1, in1, st1, ls1, le1, pt1, fi1, fb1, fs1, ct1, cf1, nt1, nf1, ak0, akT, akF, cdec, cndec, cbeq, cnbeq, ↓reduceIte, beq_self_eq_true, Int.reduceBEq, Int.reduceEq, Bool.and_true, Bool.true_and, Bool.false_and, Bool.and_false, y1, b1, k1, hq]
  unfold holdB
  congr 2
  congr 1
  simp only [hlt, heq]
  by_cases hA : Wd.sumQ r.of l 0 < (r.tv : Rat) <;> by_cases hB : Wd.sumQ r.of l 0 = (r.tv : Rat) <;> simp [hA, hB, toC, beq_dec]
theorem n14q (er : Bool) (rs : List R) (e : Bool) (l : List Fr) (hn : l.length ≤ 12) (ok : ∀ r ∈ rs, OkR l.length r) (hx : ∀ x ∈ l, Wd.FrR x) (hl : rs.length ≤ 40) : ∀ (rest : List R) (i : Nat), rs.drop i = rest → Or Kq14n2 [LR er rs, LN e l, I (i : Int)] [] = some [tb (rest.all fun r => holdB (toC r) l)] := by
  intro rest
  induction rest with
  | nil =>
    intro i h
    have h1 : ¬ (i : Int) < (rs.length : Int) := by have := at_end h; omega
    refine orc_of ?_
    rw [eq14n2]
    simp only [gd1, hd1, tl1, dr0, dr1, dr2, dr3, dr4, dr5, dr6, bo1, in1, st1, ls1, le1, pt1, fi1, fb1, fs1, ct1, cf1, nt1, nf1, ak0, akT, akF, cdec, cndec, cbeq, cnbeq, ↓reduceIte, beq_self_eq_true, Int.reduceBEq, Int.reduceEq, Bool.and_true, Bool.true_and, Bool.false_and, Bool.and_false, h1, eRs_len]
    rfl
  | cons r rest ih =>
    intro i h
    obtain ⟨g1, g2, g3⟩ := at_drop h
    have h1 : (i : Int) < (rs.length : Int) := by omega
    have h0 : 0 ≤ (i : Int) := by omega
    have k0 := s40q r e l hn (ok r (List.mem_of_getElem? g1)) hx
    have k1 := s41q r e l hn (ok r (List.mem_of_getElem? g1)) hx
    refine orc_of ?_
    rw [eq14n2]
    cases hb : holdB (toC r) l with
    | false =>
      rw [hb] at k1
      simp only [gd1, hd1, tl1, dr0, dr1, dr2, dr3, dr4, dr5, dr6, bo1, in1, st1, ls1, le1, pt1, fi1, fb1, fs1, ct1, cf1, nt1, nf1, ak0, akT, akF, cdec, cndec, cbeq, cnbeq, ↓reduceIte, beq_self_eq_true, Int.reduceBEq, Int.reduceEq, Bool.and_true, Bool.true_and, Bool.false_and, Bool.and_false, h1, h0, and_self, eRs_len, eRs_get g1, k0, k1]
      simp [hb]
    | true =>
      rw [hb] at k1
      simp only [gd1, hd1, tl1, dr0, dr1, dr2, dr3, dr4, dr5, dr6, bo1, in1, st1, ls1, le1, pt1, fi1, fb1, fs1, ct1, cf1, nt1, nf1, ak0, akT, akF, cdec, cndec, cbeq, cnbeq, ↓reduceIte, beq_self_eq_true, Int.reduceBEq, Int.reduceEq, Bool.and_true, Bool.true_and, Bool.false_and, Bool.and_false, h1, h0, and_self, eRs_len, eRs_get g1, k0, k1, next i (by omega), ih (i + 1) g3]
      simp [hb]
theorem s14q (er : Bool) (rs : List R) (e : Bool) (l : List Fr) (hn : l.length ≤ 12) (ok : ∀ r ∈ rs, OkR l.length r) (hx : ∀ x ∈ l, Wd.FrR x) (hl : rs.length ≤ 40) : Or (.call 14) [LR er rs, LN e l] [] = some [tb (rs.all fun r => holdB (toC r) l)] := by
  refine orc_of ?_
  rw [eq14]
  exact n14q er rs e l hn ok hx hl rs 0 rfl
/-! ### Plain: sums at a point -/
def dotQ : List Int → List Rat → Rat
  | c :: of, x :: xs => x * (c : Rat) + dotQ of xs
  | _, _ => 0
theorem dot_nil (xs : List Rat) : dotQ [] xs = 0 := by cases xs <;> rfl
theorem sum_dot : ∀ (of : List Int) (l : List Fr) (acc : Rat), Wd.sumQ of l acc = acc + dotQ of (l.map Wd.frQ)
  | [], l, acc => by rw [dot_nil, Wd.sumQ]; grind
  | c :: of, [], acc => by simp only [Wd.sumQ, List.map_nil, dotQ]; grind
  | c :: of, x :: l, acc => by
    have h1 : Rat.divInt c 1 = (c : Rat) := div1 _
    rw [Wd.sumQ, sum_dot of l, h1, List.map_cons, dotQ]; grind
theorem dot_zeros (k : Nat) : ∀ (l : List Int) (xs : List Rat), dotQ (l ++ List.replicate k 0) xs = dotQ l xs
  | [], xs => by
    rw [List.nil_append, dot_nil]
    induction k generalizing xs with
    | zero => rw [List.replicate_zero, dot_nil]
    | succ k ih =>
      cases xs with
      | nil => rfl
      | cons x xs =>
        rw [List.replicate_succ, dotQ, ih xs]
        have : ((0 : Int) : Rat) = 0 := rfl
        rw [this]; grind
  | c :: l, [] => by simp [dotQ]
  | c :: l, x :: xs => by rw [List.cons_append, dotQ, dotQ, dot_zeros k l xs]
theorem dot_bz (l : List Int) (xs : List Rat) : dotQ (bz l) xs = dotQ l xs := by
  obtain ⟨k, hk⟩ := bz_split l
  have := dot_zeros k (bz l) xs
  rw [← hk] at this
  exact this.symm
theorem dot_pad (n : Nat) (l : List Int) (xs : List Rat) : dotQ (padL n l) xs = dotQ l xs := dot_zeros _ l xs
theorem dot_mul (s : Int) : ∀ (l : List Int) (xs : List Rat), dotQ (l.map (s * ·)) xs = (s : Rat) * dotQ l xs
  | [], xs => by rw [List.map_nil, dot_nil]; grind
  | c :: l, [] => by simp only [List.map_cons, dotQ]; grind
  | c :: l, x :: xs => by
    rw [List.map_cons, dotQ, dotQ, dot_mul s l xs, Rat.intCast_mul]; grind
theorem dot_neg (l : List Int) (xs : List Rat) : dotQ (negL l) xs = -dotQ l xs := by
  have h1 : negL l = l.map ((-1 : Int) * ·) := by unfold negL; congr 1; funext x; omega
  rw [h1, dot_mul]
  have : ((-1 : Int) : Rat) = -1 := rfl
  rw [this]; grind
theorem dot_div {g : Int} : ∀ {l : List Int} (xs : List Rat), (∀ x ∈ l, g ∣ x) → (g : Rat) * dotQ (divL g l) xs = dotQ l xs
  | [], xs, _ => by unfold divL; rw [List.map_nil, dot_nil]; grind
  | c :: l, [], _ => by simp only [divL, List.map_cons, dotQ]; grind
  | c :: l, x :: xs, h => by
    have ih := dot_div (l := l) xs (fun y hy => h y (List.mem_cons_of_mem _ hy))
    have hc : g * (c / g) = c := Int.mul_ediv_cancel' (h c List.mem_cons_self)
    have hq : (g : Rat) * ((c / g : Int) : Rat) = (c : Rat) := by rw [← Rat.intCast_mul, hc]
    unfold divL at ih ⊢
    rw [List.map_cons, dotQ, dotQ]
    grind
theorem dot_zip (p q : Int) : ∀ (a b : List Int) (xs : List Rat), a.length = b.length → dotQ (List.zipWith (fun x y => q * x + p * y) a b) xs = (q : Rat) * dotQ a xs + (p : Rat) * dotQ b xs
  | [], [], xs, _ => by simp only [List.zipWith_nil_left, dot_nil]; grind
  | [], _ :: _, _, h => by cases h
  | _ :: _, [], _, h => by cases h
  | c :: a, d :: b, [], _ => by simp only [List.zipWith_cons_cons, dotQ]; grind
  | c :: a, d :: b, x :: xs, h => by
    have ih := dot_zip p q a b xs (by simpa using h)
    rw [List.zipWith_cons_cons, dotQ, dotQ, dotQ, ih, Rat.intCast_add, Rat.intCast_mul, Rat.intCast_mul]; grind
/-- A row holds. -/
def holdC (c : C) (xs : List Rat) : Prop := (dotQ c.1 xs < (c.2.2 : Rat) ∧ c.2.1 ≠ 3) ∨ (dotQ c.1 xs = (c.2.2 : Rat) ∧ c.2.1 ≠ 2)
theorem holdB_iff (c : C) (l : List Fr) : holdB c l = true ↔ holdC c (l.map Wd.frQ) := by
  unfold holdB holdC
  rw [decide_eq_true_iff, sum_dot]
  have : (0 : Rat) + dotQ c.1 (l.map Wd.frQ) = dotQ c.1 (l.map Wd.frQ) := by grind
  rw [this]
/-- A bound holds. -/
def BH (b : Bn) (xs : List Rat) : Prop := dotQ b.of xs ≤ (b.to : Rat) ∧ (b.less = true → dotQ b.of xs < (b.to : Rat))
theorem bh_row {n : Nat} {r : R} {xs : List Rat} {i : Int} (h : holdC (toC r) xs) : BH ⟨true, padL n r.of, r.tv, r.kd == 2, i⟩ xs := by
  unfold BH holdC at *
  simp only [toC, dot_pad, beq_iff_eq] at *
  rcases h with ⟨h1, h2⟩ | ⟨h1, h2⟩
  · exact ⟨Rat.le_of_lt h1, fun _ => h1⟩
  · exact ⟨by rw [h1]; exact Rat.le_refl, fun h => absurd h h2⟩
theorem bh_neg {n : Nat} {r : R} {xs : List Rat} {i : Int} (h : holdC (toC r) xs) (h3 : r.kd = 3) : BH ⟨true, negL (padL n r.of), -r.tv, false, i⟩ xs := by
  unfold BH holdC at *
  simp only [toC, dot_neg, dot_pad, Rat.intCast_neg] at *
  rcases h with ⟨h1, h2⟩ | ⟨h1, h2⟩
  · exact absurd h3 h2
  · exact ⟨by rw [h1]; exact Rat.le_refl, fun h => by cases h⟩
theorem up_bh {n k : Nat} {xs : List Rat} : ∀ {rows : List R} {i : Nat}, (∀ r ∈ rows, holdC (toC r) xs) → ∀ b ∈ ups n k rows i, BH b xs
  | [], _, _, b, hb => by simp [ups] at hb
  | r :: rs, i, h, b, hb => by
    rw [ups] at hb
    rcases List.mem_append.1 hb with hb | hb
    · have hr := h r List.mem_cons_self
      unfold upB at hb
      split at hb
      · rw [List.mem_singleton] at hb; subst hb; exact bh_row hr
      · split at hb
        · rename_i hp
          rw [List.mem_singleton] at hb; subst hb; exact bh_neg hr hp.2
        · cases hb
    · exact up_bh (fun r hr => h r (List.mem_cons_of_mem _ hr)) b hb
theorem dn_bh {n k : Nat} {xs : List Rat} : ∀ {rows : List R} {i : Nat}, (∀ r ∈ rows, holdC (toC r) xs) → ∀ b ∈ dns n k rows i, BH b xs
  | [], _, _, b, hb => by simp [dns] at hb
  | r :: rs, i, h, b, hb => by
    rw [dns] at hb
    rcases List.mem_append.1 hb with hb | hb
    · have hr := h r List.mem_cons_self
      unfold dnB at hb
      split at hb
      · rw [List.mem_singleton] at hb; subst hb; exact bh_row hr
      · split at hb
        · rename_i hp
          rw [List.mem_singleton] at hb; subst hb; exact bh_neg hr hp.2
        · cases hb
    · exact dn_bh (fun r hr => h r (List.mem_cons_of_mem _ hr)) b hb
theorem cast_pos {g : Int} (h : 0 < g) : (0 : Rat) < (g : Rat) := by
  have : ((0 : Int) : Rat) < (g : Rat) := Rat.intCast_lt_intCast.2 h
  exact this
/-- What is divided holds where it held. -/
theorem scale {g : Int} (hg : 0 < g) {x y : Rat} : (g : Rat) * x < (g : Rat) * y ↔ x < y := Rat.mul_lt_mul_left (cast_pos hg)
theorem cast_div {g t : Int} (h : g ∣ t) : (g : Rat) * ((t / g : Int) : Rat) = (t : Rat) := by rw [← Rat.intCast_mul, Int.mul_ediv_cancel' h]
theorem hold_first {r : R} {xs : List Rat} (hk : r.kd = 1 ∨ r.kd = 2 ∨ r.kd = 3) : holdC (tidyC r) xs ↔ holdC (toC r) xs := by
  by_cases hz : bz r.of = []
  · have h0 : dotQ r.of xs = 0 := by rw [← dot_bz, hz, dot_nil]
    have e1 : tidyC r = ([], r.kd, noneF r.kd r.tv) := by unfold tidyC; rw [tidyF_none hz]
    rw [e1]
    unfold holdC
    simp only [toC, dot_nil, h0]
    have c0 : ∀ m : Int, ((0 : Rat) < (m : Rat) ↔ 0 < m) := fun m => by
      have : ((0 : Int) : Rat) < (m : Rat) ↔ 0 < m := Rat.intCast_lt_intCast
      exact this
    have c1 : ∀ m : Int, ((0 : Rat) = (m : Rat) ↔ 0 = m) := fun m => by
      have : ((0 : Int) : Rat) = (m : Rat) ↔ 0 = m := Rat.intCast_inj
      exact this
    rw [c0, c0, c1, c1]
    unfold noneF
    rcases hk with h | h | h <;> rw [h] <;> simp <;> (try split) <;> omega
  · obtain ⟨x, hx, h0⟩ := bz_last hz
    have hgp := gl_pos (g := r.tv.natAbs) hx h0
    have hg : (0 : Int) < (gl r.tv.natAbs (bz r.of) : Int) := by omega
    have hdv : ∀ x ∈ bz r.of, (gl r.tv.natAbs (bz r.of) : Int) ∣ x := fun x hx => gl_dvd hx
    have hdt : (gl r.tv.natAbs (bz r.of) : Int) ∣ r.tv := Int.ofNat_dvd_left.2 (gl_dvd0 _ r.tv.natAbs)
    have d1 := dot_div xs hdv
    rw [dot_bz] at d1
    have d2 := cast_div hdt
    have hg' := cast_pos hg
    have e1 : tidyC r = ((divL (gl r.tv.natAbs (bz r.of)) (bz r.of)).map (sg r.kd (bz r.of) * ·), r.kd, sg r.kd (bz r.of) * (r.tv / (gl r.tv.natAbs (bz r.of) : Int))) := by unfold tidyC; rw [tidyF_some hz]
    rw [e1]
    unfold holdC
    simp only [toC, dot_mul, Rat.intCast_mul]
    generalize dotQ (divL (gl r.tv.natAbs (bz r.of) : Int) (bz r.of)) xs = X at *
    generalize ((r.tv / (gl r.tv.natAbs (bz r.of) : Int) : Int) : Rat) = Y at *
    generalize (((gl r.tv.natAbs (bz r.of) : Nat) : Int) : Rat) = G at *
    rw [← d1, ← d2]
    rcases sg_or r.kd (bz r.of) with h | h
    · rw [h]
      have : ((1 : Int) : Rat) = 1 := rfl
      rw [this, Rat.mul_lt_mul_left hg']
      have e2 : (1 * X = 1 * Y) ↔ (G * X = G * Y) := ⟨fun h => by grind, fun h => by
        have : G ≠ 0 := fun h0 => by rw [h0] at hg'; exact absurd hg' (Rat.lt_irrefl)
        grind⟩
      rw [e2]
      have e3 : (1 * X < 1 * Y) ↔ X < Y := by rw [Rat.one_mul, Rat.one_mul]
      rw [e3]
    · have h3 : r.kd = 3 := by
        unfold sg at h
        split at h
        · rename_i h'; exact h'.1
        · cases h
      rw [h, h3]
      have : ((-1 : Int) : Rat) = -1 := rfl
      rw [this]
      have e2 : (-1 * X = -1 * Y) ↔ (G * X = G * Y) := ⟨fun h => by grind, fun h => by
        have : G ≠ 0 := fun h0 => by rw [h0] at hg'; exact absurd hg' (Rat.lt_irrefl)
        grind⟩
      rw [e2]
      simp
theorem hold_pair {n k : Nat} {a b : Bn} {xs : List Rat} (ha : Up n k a) (hb : Dn n k b) (h1 : BH a xs) (h2 : BH b xs) : holdC (cC a b k) xs := by
  obtain ⟨hg, _, _⟩ := pq ha hb
  have hP : 0 < cP a b k := by
    have d1 : (cG a b k : Int) ∣ a.of.getD k 0 := Int.ofNat_dvd_left.2 (Nat.gcd_dvd_left _ _)
    have e1 : (cG a b k : Int) * cP a b k = a.of.getD k 0 := Int.mul_ediv_cancel' d1
    have := ha.at'
    rw [← e1] at this
    rw [gt_iff_lt, Int.mul_comm] at this
    exact Int.pos_of_mul_pos_left this hg
  have hQ : 0 < cQ a b k := by
    have d1 : (cG a b k : Int) ∣ -(b.of.getD k 0) := Int.ofNat_dvd_left.2 (Nat.gcd_dvd_right _ _)
    have e1 : (cG a b k : Int) * cQ a b k = -(b.of.getD k 0) := Int.mul_ediv_cancel' d1
    have := hb.at'
    have h4 : 0 < (cG a b k : Int) * cQ a b k := by rw [e1]; omega
    rw [Int.mul_comm] at h4
    exact Int.pos_of_mul_pos_left h4 hg
  have hsum : dotQ (cL a b k) xs = (cQ a b k : Rat) * dotQ a.of xs + (cP a b k : Rat) * dotQ b.of xs := dot_zip _ _ _ _ _ (by rw [ha.len, hb.len])
  have hT : (cT a b k : Rat) = (cQ a b k : Rat) * (a.to : Rat) + (cP a b k : Rat) * (b.to : Rat) := by unfold cT; rw [Rat.intCast_add, Rat.intCast_mul, Rat.intCast_mul]
  have hP' := cast_pos hP
  have hQ' := cast_pos hQ
  have hle : dotQ (cL a b k) xs ≤ (cT a b k : Rat) := by
    rw [hsum, hT]
    have l1 := Rat.mul_le_mul_of_nonneg_left h1.1 (Rat.le_of_lt hQ')
    have l2 := Rat.mul_le_mul_of_nonneg_left h2.1 (Rat.le_of_lt hP')
    grind
  have hlt : (a.less || b.less) = true → dotQ (cL a b k) xs < (cT a b k : Rat) := by
    intro h
    rw [hsum, hT]
    have l1 := Rat.mul_le_mul_of_nonneg_left h1.1 (Rat.le_of_lt hQ')
    have l2 := Rat.mul_le_mul_of_nonneg_left h2.1 (Rat.le_of_lt hP')
    rw [Bool.or_eq_true] at h
    rcases h with h | h
    · have l3 := Rat.mul_lt_mul_of_pos_left (h1.2 h) hQ'
      grind
    · have l3 := Rat.mul_lt_mul_of_pos_left (h2.2 h) hP'
      grind
  have hkd : (cC a b k).2.1 = if (a.less || b.less) = true then 2 else 1 := rfl
  by_cases hz : bz (cL a b k) = []
  · have h0 : dotQ (cL a b k) xs = 0 := by rw [← dot_bz, hz, dot_nil]
    have e1 : (cC a b k).1 = [] := by show divL _ (bz (cL a b k)) = []; rw [hz]; rfl
    have e2 : (cC a b k).2.2 = noneF (cKd a b) (clampF (cT a b k)) := by show mixT _ _ _ = _; unfold mixT; rw [if_pos hz]
    rw [h0] at hle hlt
    unfold holdC
    rw [e1, dot_nil, e2, hkd]
    unfold cKd
    by_cases hls : (a.less || b.less) = true
    · have := hlt hls
      have h3 : 0 < cT a b k := by
        have : ((0 : Int) : Rat) < (cT a b k : Rat) := this
        exact Rat.intCast_lt_intCast.1 this
      rw [if_pos hls]
      left
      have h4 : noneF 2 (clampF (cT a b k)) = 1 := by unfold noneF clampF; rw [if_neg (by omega), if_pos (by omega)]
      rw [h4]
      exact ⟨by decide, by decide⟩
    · have h3 : 0 ≤ cT a b k := by
        have : ((0 : Int) : Rat) ≤ (cT a b k : Rat) := hle
        exact Rat.intCast_le_intCast.1 this
      rw [if_neg hls]
      right
      have h4 : noneF 1 (clampF (cT a b k)) = 0 := by unfold noneF clampF; rw [if_neg (by omega), if_neg (by omega), if_neg (by omega)]
      rw [h4]
      exact ⟨rfl, by decide⟩
  · obtain ⟨x, hx, h0⟩ := bz_last hz
    have hgp := gl_pos (g := (cT a b k).natAbs) hx h0
    have hG : (0 : Int) < (mixG (cL a b k) (cT a b k) : Int) := by unfold mixG; omega
    have hdv : ∀ x ∈ bz (cL a b k), (mixG (cL a b k) (cT a b k) : Int) ∣ x := fun x hx => gl_dvd hx
    have hdt : (mixG (cL a b k) (cT a b k) : Int) ∣ cT a b k := Int.ofNat_dvd_left.2 (gl_dvd0 _ _)
    have d1 := dot_div xs hdv
    rw [dot_bz] at d1
    have d2 := cast_div hdt
    have e1 : (cC a b k).1 = divL (mixG (cL a b k) (cT a b k) : Int) (bz (cL a b k)) := rfl
    have e2 : (cC a b k).2.2 = cT a b k / (mixG (cL a b k) (cT a b k) : Int) := by show mixT _ _ _ = _; unfold mixT; rw [if_neg hz]
    unfold holdC
    rw [e1, e2, hkd]
    by_cases hls : (a.less || b.less) = true
    · have := hlt hls
      rw [← d1, ← d2] at this
      rw [if_pos hls]
      exact .inl ⟨(scale hG).1 this, by decide⟩
    · rw [if_neg hls]
      rw [← d1, ← d2] at hle
      have h5 := Rat.le_of_mul_le_mul_left hle (cast_pos hG)
      rcases Rat.le_iff_lt_or_eq.1 h5 with h | h
      · exact .inl ⟨h, by decide⟩
      · exact .inr ⟨h, by decide⟩
theorem away_hold {n k : Nat} (hk : k < n) {rows : List R} (hr : ∀ r ∈ rows, OkR n r) {xs : List Rat} (h : ∀ r ∈ rows, holdC (toC r) xs) : ∀ c ∈ (awayF n k rows).2, holdC c xs :=
  away_P (fun r hm _ => (hold_first (hr r hm).kd).2 (h r hm)) (fun a ha b hb _ => hold_pair (up_ok hk rows 0 hr a ha) (dn_ok hk rows 0 hr b hb) (up_bh h a ha) (dn_bh h b hb))
end Go.Aev.Gen
