/-
  The document's pass over one row, with wide numbers, narrows as the program's does.
-/
import Derived.Test.YteigjcdcmgjdeaaSDiv
set_option linter.unusedSimpArgs false
set_option linter.unusedVariables false
namespace Go.Aev.Gen
open Go Go.Aev

theorem divb {u v B : Int} (hv : 0 < v) (hB : 0 ≤ B) (h : -B ≤ u ∧ u ≤ B) : -B ≤ u / v ∧ u / v ≤ B := by
  constructor
  · apply Int.le_ediv_of_mul_le hv
    have : -B * v ≤ -B * 1 := Int.mul_le_mul_of_nonpos_left (by omega) (by omega)
    omega
  · apply Int.ediv_le_of_le_mul hv
    have : B * 1 ≤ B * v := Int.mul_le_mul_of_nonneg_left (by omega) (by omega)
    omega
theorem Says.mono {ec : Bool} {o : Option (List S)} {r r' : Option (List T)} (h : Says ec o r') (k : ∀ q, r' = some q → r = some q) : Says ec o r := by
  cases o with
  | some l => exact k _ h
  | none => obtain ⟨ll, h⟩ := h; exact ⟨ll, k _ h⟩
/-- What is left for one number, and whether all ends that count are known. -/
def accF (sg : Int) (k : Nat) (l : List S) : List Int → Nat → Bool → Int → Bool × Int
  | [], _, b, z => (b, z)
  | c :: r, i, b, z => if i = k ∨ sg * c = 0 then accF sg k l r (i + 1) b z else accF sg k l r (i + 1) (b && decide (lk (sg * c) (sat l i))) (z - lv (sg * c) (sat l i))
theorem acc_false {sg : Int} {k : Nat} {l : List S} : ∀ {r : List Int} {i : Nat} {z : Int}, (accF sg k l r i false z).1 = false
  | [], i, z => rfl
  | c :: r, i, z => by
    rw [accF]
    split
    · exact acc_false
    · rw [Bool.false_and]; exact acc_false
theorem acc_rest {sg : Int} {k : Nat} {l : List S} : ∀ {r : List Int} {i : Nat} {z : Int}, restF k l (r.map (sg * ·)) i z = if (accF sg k l r i true z).1 = true then some (accF sg k l r i true z).2 else none
  | [], i, z => by simp [restF, accF]
  | c :: r, i, z => by
    rw [List.map_cons, restF, accF]
    by_cases h : i = k ∨ sg * c = 0
    · rw [if_pos h, if_pos (by rcases h with h | h <;> simp [h])]
      exact acc_rest
    · rw [if_neg h, if_neg (by intro h'; apply h; rcases h' with h' | h' <;> simp [h'])]
      by_cases hk : lk (sg * c) (sat l i)
      · rw [if_pos hk]
        simp only [hk, decide_true, Bool.and_self]
        exact acc_rest
      · rw [if_neg hk]
        simp only [hk, decide_false, Bool.and_false]
        rw [acc_false]; simp
theorem sg_wh {sg c : Int} (hs : sg = 1 ∨ sg = -1) (hc : Wh c) : Wh (sg * c) := by
  unfold Wh at *
  rcases hs with rfl | rfl <;> omega
theorem acc_b {sg : Int} {k : Nat} {l : List S} (hs : sg = 1 ∨ sg = -1) (hl : Val l) : ∀ {r : List Int} {i : Nat} {b : Bool} {z : Int}, (∀ c ∈ r, Wh c) → ∀ B : Int, -B ≤ z ∧ z ≤ B → -(B + 1000000000000 * (r.length : Int)) ≤ (accF sg k l r i b z).2 ∧ (accF sg k l r i b z).2 ≤ B + 1000000000000 * (r.length : Int)
  | [], i, b, z, _, B, hz => by simpa [accF] using hz
  | c :: r, i, b, z, hc, B, hz => by
    have hr : ∀ c ∈ r, Wh c := fun u hu => hc u (List.mem_cons_of_mem _ hu)
    have hw := hl.rng i
    have h1 := lv_b (s := sat l i) (sg_wh hs (hc c List.mem_cons_self)) ⟨hw.1, by omega⟩ ⟨by omega, hw.2.2⟩
    rw [accF]
    split
    · have := acc_b (sg := sg) (k := k) (l := l) hs hl (r := r) (i := i + 1) (b := b) (z := z) hr B hz
      simp only [List.length_cons]; omega
    · have := acc_b (sg := sg) (k := k) (l := l) hs hl (r := r) (i := i + 1) (b := b && decide (lk (sg * c) (sat l i))) (z := z - lv (sg * c) (sat l i)) hr (B + 1000000000000) (by omega)
      simp only [List.length_cons]; omega
noncomputable abbrev P9 (e ec : Bool) (of : List Int) (sg to kd tv : Int) (l : List S) (k : Nat) (d : Int) (b : Bool) (x : T) (j : Nat) : Option (List T) :=
  Or K27n9m1 [I sg, I to, o0, AV.ref (Id.c 1) 0, I (k : Int), I d, B b, AV.t x, I (j : Int)] [bS ec l, Blk.box [lst e of, I kd, I tv]]
noncomputable abbrev P2 (e ec : Bool) (of : List Int) (sg to kd tv : Int) (l : List S) (k : Nat) : Option (List T) :=
  Or K27n2m1 [I sg, I to, o0, AV.ref (Id.c 1) 0, I (k : Int)] [bS ec l, Blk.box [lst e of, I kd, I tv]]
theorem mul_rep {x1 x2 : T} {u v : Int} (h1 : WI u x1) (h2 : WI v x2) (hu : -1000000000000000 ≤ u ∧ u ≤ 1000000000000000) (hv : -1000000000000000 ≤ v ∧ v ≤ 1000000000000000) :
    ∃ s e d, Or (.call 37) [r0, AV.t x1, AV.t x2] [Blk.box [AV.t (T.bool false), AV.t (T.emp true)]] = some [T.nilp, tb s, T.lst 1 e (encD d)] ∧ Rep (u * v) s d := by
  obtain ⟨s1, e1, d1, rfl, g1⟩ := h1
  obtain ⟨s2, e2, d2, rfl, g2⟩ := h2
  have l1 := rep_two g1 (by omega)
  have l2 := rep_two g2 (by omega)
  obtain ⟨s, e, d, k1, k2, k3⟩ := s37 false (T.emp true) s1 e1 s2 e2 d1 d2 u v g1 g2 (by omega) (by omega)
  exact ⟨s, e, d, k1, k2⟩
theorem sub_rep {x1 : T} {u v : Int} {s2 e2 : Bool} {d2 : List Int} (h1 : WI u x1) (h2 : Rep v s2 d2) (hu : -1000000000000000 ≤ u ∧ u ≤ 1000000000000000) (hv : -1000000000000000 ≤ v ∧ v ≤ 1000000000000000) :
    ∃ s e d, Or (.call 36) [r0, AV.t x1, AV.t (T.ptr [T.bool s2, T.lst 1 e2 (encD d2)])] [Blk.box [AV.t (T.bool false), AV.t (T.emp true)]] = some [T.nilp, tb s, T.lst 1 e (encD d)] ∧ WI (u - v) (T.ptr [T.bool s, T.lst 1 e (encD d)]) := by
  obtain ⟨s1, e1, d1, rfl, g1⟩ := h1
  have l1 := rep_two g1 (by omega)
  have l2 := rep_two h2 (by omega)
  obtain ⟨s, e, d, k1, k2, k3⟩ := s36 false (T.emp true) s1 e1 s2 e2 d1 d2 u v g1 h2 (by omega) (by omega)
  exact ⟨s, e, d, k1, s, e, d, rfl, k2⟩
theorem n27j (of : List Int) (e ec : Bool) (sg to kd tv d : Int) (k : Nat) (l : List S) (hl : Val l) (ho : of.length ≤ l.length) (hc : ∀ c ∈ of, Wh c) (hs : sg = 1 ∨ sg = -1) (R : List T) : ∀ (rest : List Int) (j : Nat) (b : Bool) (z : Int) (x : T),
    of.drop j = rest → j ≤ of.length → WI z x → -(1000001 + 1000000000000 * (j : Int)) ≤ z ∧ z ≤ 1000001 + 1000000000000 * (j : Int) →
    (∀ x', WI (accF sg k l rest j b z).2 x' → P9 e ec of sg to kd tv l k d (accF sg k l rest j b z).1 x' of.length = some R) → P9 e ec of sg to kd tv l k d b x j = some R := by
  intro rest
  induction rest with
  | nil =>
    intro j b z x h hj hx hz hR
    have hle := at_end h
    obtain rfl : j = of.length := by omega
    exact hR x hx
  | cons c rest ih =>
    intro j b z x h hj hx hz hR
    obtain ⟨g1, g2, g3⟩ := at_drop h
    have h1 : (j : Int) < (of.length : Int) := by omega
    have h0 : 0 ≤ (j : Int) := by omega
    have hl12 := hl.len
    have hcw := hc c (List.mem_of_getElem? g1)
    have hsw := sg_wh hs hcw
    have hjl : (j : Int) < (l.length : Int) := by omega
    have hr := hl.rng j
    have hw : IntKind.i64.wrap (sg * c) = sg * c := wr (by unfold Wh at hsw; omega)
    have hlv := lv_b (s := sat l j) hsw ⟨hr.1, by omega⟩ ⟨by omega, hr.2.2⟩
    rw [accF] at hR
    by_cases hz0 : j = k ∨ sg * c = 0
    · rw [if_pos hz0] at hR
      have hz' : (j : Int) = (k : Int) ∨ sg * c = 0 := by omega
      have := ih (j + 1) b z x g3 (by omega) hx (by omega) hR
      refine orc_of ?_
      rw [e27n9]
      simp only [cor, beq_dec, ← Bool.decide_or, hw]
      simp only [gd1, hd1, tl1, dr0, dr1, dr2, dr3, dr4, dr5, dr6, bo1, in1, st1, ls1, le1, pt1, fi1, fb1, fs1, ct1, cf1, nt1, nf1, ak0, akT, akF, cdec, cndec, cbeq, cnbeq, ↓reduceIte, beq_self_eq_true, Int.reduceBEq, Int.reduceEq, Bool.and_true, Bool.true_and, Bool.false_and, Bool.and_false, h1, h0, and_self, enc_len, enc_get g1, hz', next j (by omega), hw]
      exact this
    · rw [if_neg hz0] at hR
      have hz' : ¬ ((j : Int) = (k : Int) ∨ sg * c = 0) := by omega
      obtain ⟨xa, ka, wa⟩ := s35 (sg * c) (by unfold Wh at hsw; omega)
      by_cases hneg : sg * c < 0
      · have hpos : ¬ sg * c > 0 := by omega
        obtain ⟨xb, kb, wb⟩ := s35 (sat l j).hi (by omega)
        obtain ⟨sm, em, dm, km, rm⟩ := mul_rep wa wb (by unfold Wh at hsw; omega) (by omega)
        have hlv' : lv (sg * c) (sat l j) = sg * c * (sat l j).hi := by unfold lv; rw [if_neg (by omega)]
        rw [hlv'] at hR hlv
        obtain ⟨sz, ez, dz, kz, wz⟩ := sub_rep (e2 := em) hx rm (by omega) (by omega)
        by_cases hk : lk (sg * c) (sat l j)
        · have hi : ¬ (sat l j).hi = 1000000 := by
            unfold lk at hk; rw [if_neg (by omega)] at hk; omega
          simp only [hk, decide_true, Bool.and_true] at hR
          have := ih (j + 1) b _ _ g3 (by omega) wz (by omega) hR
          refine orc_of ?_
          rw [e27n9]
          simp only [cor, cand, beq_dec, ← Bool.decide_or, ← Bool.decide_and, hw]
          simp only [gd1, hd1, tl1, dr0, dr1, dr2, dr3, dr4, dr5, dr6, bo1, in1, st1, ls1, le1, pt1, fi1, fb1, fs1, ct1, cf1, nt1, nf1, ak0, akT, akF, cdec, cndec, cbeq, cnbeq, ↓reduceIte, beq_self_eq_true, Int.reduceBEq, Int.reduceEq, Bool.and_true, Bool.true_and, Bool.false_and, Bool.and_false, h1, h0, hjl, and_self, enc_len, eSs_len, enc_get g1, hz', next j (by omega), hw, hneg, hpos, eSs_at (show j < l.length by omega)]
          simp only [gd1, hd1, tl1, dr0, dr1, dr2, dr3, dr4, dr5, dr6, bo1, in1, st1, ls1, le1, pt1, fi1, fb1, fs1, ct1, cf1, nt1, nf1, ak0, akT, akF, cdec, cndec, cbeq, cnbeq, ↓reduceIte, beq_self_eq_true, Int.reduceBEq, Int.reduceEq, Bool.and_true, Bool.true_and, Bool.false_and, Bool.and_false, hi, true_and, false_and, or_false, false_or, ka, kb, km, kz]
          exact this
        · have hi : (sat l j).hi = 1000000 := by
            unfold lk at hk; rw [if_neg (by omega)] at hk; omega
          simp only [hk, decide_false, Bool.and_false] at hR
          rw [hi] at kb
          have := ih (j + 1) false _ _ g3 (by omega) wz (by omega) hR
          refine orc_of ?_
          rw [e27n9]
          simp only [cor, cand, beq_dec, ← Bool.decide_or, ← Bool.decide_and, hw]
          simp only [gd1, hd1, tl1, dr0, dr1, dr2, dr3, dr4, dr5, dr6, bo1, in1, st1, ls1, le1, pt1, fi1, fb1, fs1, ct1, cf1, nt1, nf1, ak0, akT, akF, cdec, cndec, cbeq, cnbeq, ↓reduceIte, beq_self_eq_true, Int.reduceBEq, Int.reduceEq, Bool.and_true, Bool.true_and, Bool.false_and, Bool.and_false, h1, h0, hjl, and_self, enc_len, eSs_len, enc_get g1, hz', next j (by omega), hw, hneg, hpos, eSs_at (show j < l.length by omega)]
          simp only [gd1, hd1, tl1, dr0, dr1, dr2, dr3, dr4, dr5, dr6, bo1, in1, st1, ls1, le1, pt1, fi1, fb1, fs1, ct1, cf1, nt1, nf1, ak0, akT, akF, cdec, cndec, cbeq, cnbeq, ↓reduceIte, beq_self_eq_true, Int.reduceBEq, Int.reduceEq, Bool.and_true, Bool.true_and, Bool.false_and, Bool.and_false, hi, true_and, false_and, or_false, false_or, ka, kb, km, kz]
          exact this
      · have hpos : sg * c > 0 := by omega
        obtain ⟨xb, kb, wb⟩ := s35 (sat l j).lo (by omega)
        obtain ⟨sm, em, dm, km, rm⟩ := mul_rep wa wb (by unfold Wh at hsw; omega) (by omega)
        have hlv' : lv (sg * c) (sat l j) = sg * c * (sat l j).lo := by unfold lv; rw [if_pos (by omega)]
        rw [hlv'] at hR hlv
        obtain ⟨sz, ez, dz, kz, wz⟩ := sub_rep (e2 := em) hx rm (by omega) (by omega)
        by_cases hk : lk (sg * c) (sat l j)
        · have hi : ¬ (sat l j).lo = -1000000 := by
            unfold lk at hk; rw [if_pos (by omega)] at hk; omega
          simp only [hk, decide_true, Bool.and_true] at hR
          have := ih (j + 1) b _ _ g3 (by omega) wz (by omega) hR
          refine orc_of ?_
          rw [e27n9]
          simp only [cor, cand, beq_dec, ← Bool.decide_or, ← Bool.decide_and, hw]
          simp only [gd1, hd1, tl1, dr0, dr1, dr2, dr3, dr4, dr5, dr6, bo1, in1, st1, ls1, le1, pt1, fi1, fb1, fs1, ct1, cf1, nt1, nf1, ak0, akT, akF, cdec, cndec, cbeq, cnbeq, ↓reduceIte, beq_self_eq_true, Int.reduceBEq, Int.reduceEq, Bool.and_true, Bool.true_and, Bool.false_and, Bool.and_false, h1, h0, hjl, and_self, enc_len, eSs_len, enc_get g1, hz', next j (by omega), hw, hneg, hpos, eSs_at (show j < l.length by omega)]
          simp only [gd1, hd1, tl1, dr0, dr1, dr2, dr3, dr4, dr5, dr6, bo1, in1, st1, ls1, le1, pt1, fi1, fb1, fs1, ct1, cf1, nt1, nf1, ak0, akT, akF, cdec, cndec, cbeq, cnbeq, ↓reduceIte, beq_self_eq_true, Int.reduceBEq, Int.reduceEq, Bool.and_true, Bool.true_and, Bool.false_and, Bool.and_false, hi, true_and, false_and, or_false, false_or, ka, kb, km, kz]
          exact this
        · have hi : (sat l j).lo = -1000000 := by
            unfold lk at hk; rw [if_pos (by omega)] at hk; omega
          simp only [hk, decide_false, Bool.and_false] at hR
          rw [hi] at kb
          have := ih (j + 1) false _ _ g3 (by omega) wz (by omega) hR
          refine orc_of ?_
          rw [e27n9]
          simp only [cor, cand, beq_dec, ← Bool.decide_or, ← Bool.decide_and, hw]
          simp only [gd1, hd1, tl1, dr0, dr1, dr2, dr3, dr4, dr5, dr6, bo1, in1, st1, ls1, le1, pt1, fi1, fb1, fs1, ct1, cf1, nt1, nf1, ak0, akT, akF, cdec, cndec, cbeq, cnbeq, ↓reduceIte, beq_self_eq_true, Int.reduceBEq, Int.reduceEq, Bool.and_true, Bool.true_and, Bool.false_and, Bool.and_false, h1, h0, hjl, and_self, enc_len, eSs_len, enc_get g1, hz', next j (by omega), hw, hneg, hpos, eSs_at (show j < l.length by omega)]
          simp only [gd1, hd1, tl1, dr0, dr1, dr2, dr3, dr4, dr5, dr6, bo1, in1, st1, ls1, le1, pt1, fi1, fb1, fs1, ct1, cf1, nt1, nf1, ak0, akT, akF, cdec, cndec, cbeq, cnbeq, ↓reduceIte, beq_self_eq_true, Int.reduceBEq, Int.reduceEq, Bool.and_true, Bool.true_and, Bool.false_and, Bool.and_false, hi, true_and, false_and, or_false, false_or, ka, kb, km, kz]
          exact this
theorem n27 (of : List Int) (e ec : Bool) (sg to kd tv : Int) (hc : ∀ c ∈ of, Wh c) (hs : sg = 1 ∨ sg = -1) (ht : -1000001 ≤ to ∧ to ≤ 1000001) : ∀ (rest : List Int) (k : Nat) (l : List S), of.drop k = rest → Val l → of.length ≤ l.length →
    Says ec (propF (of.map (sg * ·)) to (rest.map (sg * ·)) k l) (P2 e ec of sg to kd tv l k) := by
  intro rest
  induction rest with
  | nil =>
    intro k l h hl ho
    show _ = _
    refine orc_of ?_
    rw [e27n2]
    have h1 : ¬ (k : Int) < (of.length : Int) := by have := at_end h; omega
    simp only [gd1, hd1, tl1, dr0, dr1, dr2, dr3, dr4, dr5, dr6, bo1, in1, st1, ls1, le1, pt1, fi1, fb1, fs1, ct1, cf1, nt1, nf1, ak0, akT, akF, cdec, cndec, cbeq, cnbeq, ↓reduceIte, beq_self_eq_true, Int.reduceBEq, Int.reduceEq, Bool.and_true, Bool.true_and, Bool.false_and, Bool.and_false, enc_len, h1]
  | cons c rest ih =>
    intro k l h hl ho
    obtain ⟨g1, g2, g3⟩ := at_drop h
    have h1 : (k : Int) < (of.length : Int) := by omega
    have h0 : 0 ≤ (k : Int) := by omega
    have hl12 := hl.len
    have hcw := hc c (List.mem_of_getElem? g1)
    have hsw := sg_wh hs hcw
    have hkl : (k : Int) < (l.length : Int) := by omega
    have hkl' : k < l.length := by omega
    have hr := hl.rng k
    have hw : IntKind.i64.wrap (sg * c) = sg * c := wr (by unfold Wh at hsw; omega)
    rw [List.map_cons, propF, stepS]
    by_cases hz : sg * c = 0
    · rw [if_pos hz, Option.bind_some]
      refine (ih (k + 1) l g3 hl ho).mono fun q hq => orc_of ?_
      rw [e27n2]
      simp only [gd1, hd1, tl1, dr0, dr1, dr2, dr3, dr4, dr5, dr6, bo1, in1, st1, ls1, le1, pt1, fi1, fb1, fs1, ct1, cf1, nt1, nf1, ak0, akT, akF, cdec, cndec, cbeq, cnbeq, ↓reduceIte, beq_self_eq_true, Int.reduceBEq, Int.reduceEq, Bool.and_true, Bool.true_and, Bool.false_and, Bool.and_false, h1, h0, and_self, enc_len, enc_get g1, hw, hz, next k (by omega)]
      exact hq
    · rw [if_neg hz, acc_rest]
      obtain ⟨x0, k0, w0⟩ := s35 to (by omega)
      have start : ∀ q, (∀ x', WI (accF sg k l of 0 true to).2 x' → P9 e ec of sg to kd tv l k (sg * c) (accF sg k l of 0 true to).1 x' of.length = some q) → P2 e ec of sg to kd tv l k = some q := fun q hq => by
        have := n27j of e ec sg to kd tv (sg * c) k l hl ho hc hs q of 0 true to x0 rfl (by omega) w0 (by omega) hq
        refine orc_of ?_
        rw [e27n2]
        simp only [gd1, hd1, tl1, dr0, dr1, dr2, dr3, dr4, dr5, dr6, bo1, in1, st1, ls1, le1, pt1, fi1, fb1, fs1, ct1, cf1, nt1, nf1, ak0, akT, akF, cdec, cndec, cbeq, cnbeq, ↓reduceIte, beq_self_eq_true, Int.reduceBEq, Int.reduceEq, Bool.and_true, Bool.true_and, Bool.false_and, Bool.and_false, h1, h0, and_self, enc_len, enc_get g1, hw, hz, k0]
        exact this
      have hb := acc_b (k := k) (l := l) (r := of) (i := 0) (b := true) (z := to) hs hl hc 1000001 ht
      generalize accF sg k l of 0 true to = acc at *
      obtain ⟨b, z⟩ := acc
      dsimp only at start hb ⊢
      have hend : ¬ (of.length : Int) < (of.length : Int) := by omega
      cases b with
      | false =>
        simp only [Bool.false_eq_true, if_false, Option.bind_some]
        refine (ih (k + 1) l g3 hl ho).mono fun q hq => start q fun x' wx => orc_of ?_
        rw [e27n9]
        simp only [gd1, hd1, tl1, dr0, dr1, dr2, dr3, dr4, dr5, dr6, bo1, in1, st1, ls1, le1, pt1, fi1, fb1, fs1, ct1, cf1, nt1, nf1, ak0, akT, akF, cdec, cndec, cbeq, cnbeq, ↓reduceIte, beq_self_eq_true, Int.reduceBEq, Int.reduceEq, Bool.and_true, Bool.true_and, Bool.false_and, Bool.and_false, enc_len, hend, next k (by omega)]
        exact hq
      | true =>
        simp only [if_true]
        have hcell : ∀ s : S, (eSs (l.set k s))[((k : Nat) : Int).toNat]? = some [ti s.lo, ti s.hi] := fun s => by
          rw [eSs_at (by rw [List.length_set]; exact hkl'), sat_set hkl', if_pos rfl]
        have hin := newS_in (r := z) (s := sat l k) hz
        by_cases hp : sg * c > 0
        · have hnew : newS (sg * c) z (sat l k) = ⟨(sat l k).lo, min (sat l k).hi (max (z / (sg * c)) (-999999))⟩ := by unfold newS; rw [if_pos hp]
          obtain ⟨xc, kc, wc⟩ := s35 (sg * c) (by unfold Wh at hsw; omega)
          obtain ⟨sc, ecc, dc, rfl, rc⟩ := wc
          have hzb := divb (u := z) (B := 1000000000000000) hp (by omega) (by omega)
          have fin : ∀ x', WI z x' → ∃ s' e' d', Or (.call 38) [r0, AV.t x', AV.t (T.ptr [tb sc, T.lst 1 ecc (encD dc)])] [Blk.box [AV.t (T.bool false), AV.t (T.emp true)]] = some [T.nilp, tb s', T.lst 1 e' (encD d')] ∧ Or (.call 39) [AV.t (T.ptr [tb s', T.lst 1 e' (encD d')])] [] = some [ti (z / (sg * c))] := fun x' wx => by
            obtain ⟨sx, ex, dx, rfl, rx⟩ := wx
            obtain ⟨s', e', d', q1, q2, q3⟩ := s38 false (T.emp true) sx ex sc ecc dx dc z (sg * c) rx rc (by omega) (by unfold Wh at hsw; omega)
            exact ⟨s', e', d', q1, s39 s' e' d' _ q2 (by omega)⟩
          by_cases hg : (newS (sg * c) z (sat l k)).lo > (newS (sg * c) z (sat l k)).hi
          · rw [if_pos hg, Option.bind_none]
            rw [hnew] at hg
            dsimp only at hg
            refine ⟨eSs (l.set k (newS (sg * c) z (sat l k))), start _ fun x' wx => orc_of ?_⟩
            obtain ⟨s', e', d', q1, q2⟩ := fin x' wx
            rw [e27n9, hnew]
            simp only [gd1, hd1, tl1, dr0, dr1, dr2, dr3, dr4, dr5, dr6, bo1, in1, st1, ls1, le1, pt1, fi1, fb1, fs1, ct1, cf1, nt1, nf1, ak0, akT, akF, cdec, cndec, cbeq, cnbeq, ↓reduceIte, beq_self_eq_true, Int.reduceBEq, Int.reduceEq, Bool.and_true, Bool.true_and, Bool.false_and, Bool.and_false, enc_len, hend, hp, kc, q1, q2]
            simp only [gd1, hd1, tl1, dr0, dr1, dr2, dr3, dr4, dr5, dr6, bo1, in1, st1, ls1, le1, pt1, fi1, fb1, fs1, ct1, cf1, nt1, nf1, ak0, akT, akF, cdec, cndec, cbeq, cnbeq, ↓reduceIte, beq_self_eq_true, Int.reduceBEq, Int.reduceEq, Bool.and_true, Bool.true_and, Bool.false_and, Bool.and_false, h0, hkl, and_self, eSs_len, eSs_at hkl', mm_max, mm_min, eSs_hi hkl', List.length_set, hcell, hg]
          · rw [if_neg hg, Option.bind_some]
            have hv := set_val (s := newS (sg * c) z (sat l k)) hkl' hl (by omega)
            rw [hnew] at hg
            dsimp only at hg
            refine (ih (k + 1) _ g3 hv (by rw [List.length_set]; exact ho)).mono fun q hq => start q fun x' wx => orc_of ?_
            obtain ⟨s', e', d', q1, q2⟩ := fin x' wx
            rw [hnew] at hq
            rw [e27n9]
            simp only [gd1, hd1, tl1, dr0, dr1, dr2, dr3, dr4, dr5, dr6, bo1, in1, st1, ls1, le1, pt1, fi1, fb1, fs1, ct1, cf1, nt1, nf1, ak0, akT, akF, cdec, cndec, cbeq, cnbeq, ↓reduceIte, beq_self_eq_true, Int.reduceBEq, Int.reduceEq, Bool.and_true, Bool.true_and, Bool.false_and, Bool.and_false, enc_len, hend, hp, kc, q1, q2]
            simp only [gd1, hd1, tl1, dr0, dr1, dr2, dr3, dr4, dr5, dr6, bo1, in1, st1, ls1, le1, pt1, fi1, fb1, fs1, ct1, cf1, nt1, nf1, ak0, akT, akF, cdec, cndec, cbeq, cnbeq, ↓reduceIte, beq_self_eq_true, Int.reduceBEq, Int.reduceEq, Bool.and_true, Bool.true_and, Bool.false_and, Bool.and_false, h0, hkl, and_self, eSs_len, eSs_at hkl', mm_max, mm_min, eSs_hi hkl', List.length_set, hcell, hg, next k (by omega)]
            exact hq
        · have hnew : newS (sg * c) z (sat l k) = ⟨max (sat l k).lo (min (-(z / (-(sg * c)))) 999999), (sat l k).hi⟩ := by unfold newS; rw [if_neg hp]
          have hw0 : IntKind.i64.wrap (0 - sg * c) = -(sg * c) := by rw [wr (by unfold Wh at hsw; omega)]; omega
          have hpos : 0 < -(sg * c) := by omega
          obtain ⟨xc, kc, wc⟩ := s35 (-(sg * c)) (by unfold Wh at hsw; omega)
          obtain ⟨sc, ecc, dc, rfl, rc⟩ := wc
          have hzb := divb (u := z) (B := 1000000000000000) hpos (by omega) (by omega)
          have hw1 : IntKind.i64.wrap (0 - z / (-(sg * c))) = -(z / (-(sg * c))) := by rw [wr (by omega)]; omega
          have fin : ∀ x', WI z x' → ∃ s' e' d', Or (.call 38) [r0, AV.t x', AV.t (T.ptr [tb sc, T.lst 1 ecc (encD dc)])] [Blk.box [AV.t (T.bool false), AV.t (T.emp true)]] = some [T.nilp, tb s', T.lst 1 e' (encD d')] ∧ Or (.call 39) [AV.t (T.ptr [tb s', T.lst 1 e' (encD d')])] [] = some [ti (z / (-(sg * c)))] := fun x' wx => by
            obtain ⟨sx, ex, dx, rfl, rx⟩ := wx
            obtain ⟨s', e', d', q1, q2, q3⟩ := s38 false (T.emp true) sx ex sc ecc dx dc z (-(sg * c)) rx rc (by omega) (by unfold Wh at hsw; omega)
            exact ⟨s', e', d', q1, s39 s' e' d' _ q2 (by omega)⟩
          by_cases hg : (newS (sg * c) z (sat l k)).lo > (newS (sg * c) z (sat l k)).hi
          · rw [if_pos hg, Option.bind_none]
            rw [hnew] at hg
            dsimp only at hg
            refine ⟨eSs (l.set k (newS (sg * c) z (sat l k))), start _ fun x' wx => orc_of ?_⟩
            obtain ⟨s', e', d', q1, q2⟩ := fin x' wx
            rw [e27n9, hnew]
            simp only [gd1, hd1, tl1, dr0, dr1, dr2, dr3, dr4, dr5, dr6, bo1, in1, st1, ls1, le1, pt1, fi1, fb1, fs1, ct1, cf1, nt1, nf1, ak0, akT, akF, cdec, cndec, cbeq, cnbeq, ↓reduceIte, beq_self_eq_true, Int.reduceBEq, Int.reduceEq, Bool.and_true, Bool.true_and, Bool.false_and, Bool.and_false, enc_len, hend, hp, hw0, kc, q1, q2, hw1]
            simp only [gd1, hd1, tl1, dr0, dr1, dr2, dr3, dr4, dr5, dr6, bo1, in1, st1, ls1, le1, pt1, fi1, fb1, fs1, ct1, cf1, nt1, nf1, ak0, akT, akF, cdec, cndec, cbeq, cnbeq, ↓reduceIte, beq_self_eq_true, Int.reduceBEq, Int.reduceEq, Bool.and_true, Bool.true_and, Bool.false_and, Bool.and_false, h0, hkl, and_self, eSs_len, eSs_at hkl', mm_max, mm_min, eSs_lo hkl', List.length_set, hcell, hg]
          · rw [if_neg hg, Option.bind_some]
            have hv := set_val (s := newS (sg * c) z (sat l k)) hkl' hl (by omega)
            rw [hnew] at hg
            dsimp only at hg
            refine (ih (k + 1) _ g3 hv (by rw [List.length_set]; exact ho)).mono fun q hq => start q fun x' wx => orc_of ?_
            obtain ⟨s', e', d', q1, q2⟩ := fin x' wx
            rw [hnew] at hq
            rw [e27n9]
            simp only [gd1, hd1, tl1, dr0, dr1, dr2, dr3, dr4, dr5, dr6, bo1, in1, st1, ls1, le1, pt1, fi1, fb1, fs1, ct1, cf1, nt1, nf1, ak0, akT, akF, cdec, cndec, cbeq, cnbeq, ↓reduceIte, beq_self_eq_true, Int.reduceBEq, Int.reduceEq, Bool.and_true, Bool.true_and, Bool.false_and, Bool.and_false, enc_len, hend, hp, hw0, kc, q1, q2, hw1]
            simp only [gd1, hd1, tl1, dr0, dr1, dr2, dr3, dr4, dr5, dr6, bo1, in1, st1, ls1, le1, pt1, fi1, fb1, fs1, ct1, cf1, nt1, nf1, ak0, akT, akF, cdec, cndec, cbeq, cnbeq, ↓reduceIte, beq_self_eq_true, Int.reduceBEq, Int.reduceEq, Bool.and_true, Bool.true_and, Bool.false_and, Bool.and_false, h0, hkl, and_self, eSs_len, eSs_at hkl', mm_max, mm_min, eSs_lo hkl', List.length_set, hcell, hg, next k (by omega)]
            exact hq
/-- spanPass. -/
theorem s27 (of : List Int) (e ec : Bool) (sg to kd tv : Int) (l : List S) (hc : ∀ c ∈ of, Wh c) (hs : sg = 1 ∨ sg = -1) (ht : -1000001 ≤ to ∧ to ≤ 1000001) (hl : Val l) (ho : of.length ≤ l.length) :
    Says ec (propF (of.map (sg * ·)) to (of.map (sg * ·)) 0 l) (Or (.call 27) [AV.agg [lst e of, I kd, I tv], I sg, I to, o0] [bS ec l]) := by
  refine (n27 of e ec sg to kd tv hc hs ht of 0 l rfl hl ho).mono fun q hq => orc_of ?_
  rw [e27]
  exact hq
end Go.Aev.Gen
