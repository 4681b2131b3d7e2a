/-
  Once and till it rests, as the document says; the law.
-/
import Derived.Test.YteigjcdcmgjdeaaSChk
set_option linter.unusedSimpArgs false
set_option linter.unusedVariables false
namespace Go.Aev.Gen
open Go Go.Aev Go.Proofs

theorem map_one (of : List Int) : of.map (fun c => 1 * c) = of := by simp
theorem map_neg (of : List Int) : of.map (fun c => -1 * c) = negL of := by
  unfold negL
  apply List.map_congr_left
  intro c _
  omega
theorem propF_zero {of : List Int} {t : Int} : ∀ {rest : List Int} {k : Nat} {l : List S}, (∀ c ∈ rest, c = 0) → propF of t rest k l = some l
  | [], k, l, _ => rfl
  | c :: rest, k, l, h => by
    rw [propF, stepS, if_pos (h c List.mem_cons_self), Option.bind_some]
    exact propF_zero fun c hc => h c (List.mem_cons_of_mem _ hc)
theorem nz_not {of : List Int} (h : ¬ nz of) : ∀ c ∈ of, c = 0 := by
  intro c hc
  rcases Decidable.em (c = 0) with h' | h'
  · exact h'
  · exact absurd ⟨c, hc, h'⟩ h
theorem negL_zero {of : List Int} (h : ∀ c ∈ of, c = 0) : ∀ c ∈ negL of, c = 0 := by
  intro c hc
  obtain ⟨d, hd, rfl⟩ := List.mem_map.1 hc
  rw [h d hd]; rfl
theorem nz_cons (c : Int) (r : List Int) (b : Bool) : (b && (c == 0) && decide (¬ nz r)) = (b && decide (¬ nz (c :: r))) := by
  by_cases hc : c = 0
  · have h1 : nz (c :: r) ↔ nz r := by
      constructor
      · rintro ⟨d, hd, hd0⟩
        rcases List.mem_cons.1 hd with rfl | hd
        · exact absurd hc hd0
        · exact ⟨d, hd, hd0⟩
      · rintro ⟨d, hd, hd0⟩
        exact ⟨d, List.mem_cons_of_mem _ hd, hd0⟩
    simp [hc] at h1 ⊢
    simp [h1]
  · have h1 : nz (c :: r) := ⟨c, List.mem_cons_self, hc⟩
    have h2 : (c == 0) = false := by simpa using hc
    simp [h1, h2]
theorem n13i (rows : List R) (e ec : Bool) (i : Nat) (l : List S) (of : List Int) (eo : Bool) (kd tv t : Int) (hn : of.length ≤ 1000) (R : List T) : ∀ (rest : List Int) (j : Nat) (b : Bool), of.drop j = rest → j ≤ of.length →
    Or K13n11 [LR e rows, o0, I (i : Int), AV.ref (Id.c 1) 0, I t, B (b && decide (¬ nz rest)), I (of.length : Int)] [bS ec l, Blk.box [lst eo of, I kd, I tv]] = some R →
    Or K13n11 [LR e rows, o0, I (i : Int), AV.ref (Id.c 1) 0, I t, B b, I (j : Int)] [bS ec l, Blk.box [lst eo of, I kd, I tv]] = some R := by
  intro rest
  induction rest with
  | nil =>
    intro j b h hj hR
    have hle := at_end h
    obtain rfl : j = of.length := by omega
    have : ¬ nz [] := by rintro ⟨c, hc, _⟩; cases hc
    simp only [this, not_false_eq_true, decide_true, Bool.and_true] at hR
    exact hR
  | cons c rest ih =>
    intro j b h hj hR
    obtain ⟨g1, g2, g3⟩ := at_drop h
    have h1 : (j : Int) < (of.length : Int) := by omega
    have h0 : 0 ≤ (j : Int) := by omega
    rw [← nz_cons] at hR
    have := ih (j + 1) (b && (c == 0)) g3 (by omega) hR
    refine orc_of ?_
    rw [e13n11]
    simp only [gd1, hd1, tl1, dr0, dr1, dr2, dr3, dr4, dr5, dr6, bo1, in1, st1, ls1, le1, pt1, fi1, fb1, fs1, ct1, cf1, nt1, nf1, ak0, akT, akF, cdec, cndec, cbeq, cnbeq, ↓reduceIte, beq_self_eq_true, Int.reduceBEq, Int.reduceEq, Bool.and_true, Bool.true_and, Bool.false_and, Bool.and_false, cand, h1, h0, and_self, enc_len, enc_get g1, next j (by omega)]
    exact this
def res13 (ec : Bool) : Option (List S) → List T
  | some l => [T.lst 2 ec (eSs l), tb true]
  | none => [T.emp true, tb false]
theorem n13 (rows : List R) (e ec : Bool) (hn : rows.length ≤ 1000) : ∀ (rest : List R) (i : Nat) (l : List S), rows.drop i = rest → Val l → (∀ r ∈ rest, OkR l.length r) →
    Or K13n3 [LR e rows, o0, I (i : Int)] [bS ec l] = some (res13 ec (onceF rest l)) := by
  intro rest
  induction rest with
  | nil =>
    intro i l h hl hr
    refine orc_of ?_
    rw [e13n3]
    have h1 : ¬ (i : Int) < (rows.length : Int) := by have := at_end h; omega
    simp only [gd1, hd1, tl1, dr0, dr1, dr2, dr3, dr4, dr5, dr6, bo1, in1, st1, ls1, le1, pt1, fi1, fb1, fs1, ct1, cf1, nt1, nf1, ak0, akT, akF, cdec, cndec, cbeq, cnbeq, ↓reduceIte, beq_self_eq_true, Int.reduceBEq, Int.reduceEq, Bool.and_true, Bool.true_and, Bool.false_and, Bool.and_false, eRs_len, h1, onceF, res13]
  | cons r rest ih =>
    intro i l h hl hr
    obtain ⟨g1, g2, g3⟩ := at_drop h
    have h1 : (i : Int) < (rows.length : Int) := by omega
    have h0 : 0 ≤ (i : Int) := by omega
    have hr0 := hr r List.mem_cons_self
    have hl12 := hl.len
    have hlen := hr0.len
    have htv := hr0.tv
    unfold Wh at htv
    have ht : -1000001 ≤ toF r ∧ toF r ≤ 1000001 := by unfold toF; split <;> omega
    have hend : ¬ (r.of.length : Int) < (r.of.length : Int) := by omega
    -- the call at the end of the row's own loop
    have key : Or K13n11 [LR e rows, o0, I (i : Int), AV.ref (Id.c 1) 0, I (toF r), B true, I ((0 : Nat) : Int)] [bS ec l, Blk.box [lst r.e r.of, I r.kd, I r.tv]] = some (res13 ec (onceF (r :: rest) l)) := by
      refine n13i rows e ec i l r.of r.e r.kd r.tv (toF r) (by omega) _ r.of 0 true rfl (by omega) (orc_of ?_)
      rw [e13n11, onceF, oneF, oneT]
      by_cases hz : nz r.of
      · rw [if_pos hz]
        have p1 := s27 r.of r.e ec 1 (toF r) r.kd r.tv l hr0.of (.inl rfl) ht hl hr0.len
        rw [map_one] at p1
        cases hp : propF r.of (toF r) r.of 0 l with
        | none =>
          rw [hp] at p1
          obtain ⟨ll, p1⟩ := p1
          simp only [gd1, hd1, tl1, dr0, dr1, dr2, dr3, dr4, dr5, dr6, bo1, in1, st1, ls1, le1, pt1, fi1, fb1, fs1, ct1, cf1, nt1, nf1, ak0, akT, akF, cdec, cndec, cbeq, cnbeq, ↓reduceIte, beq_self_eq_true, Int.reduceBEq, Int.reduceEq, Bool.and_true, Bool.true_and, Bool.false_and, Bool.and_false, enc_len, hend, hz, not_true_eq_false, decide_false, Bool.and_false, p1, Option.bind_some, Option.bind_none, Bool.not_false, res13]
        | some l1 =>
          rw [hp] at p1
          have p1' : _ = _ := p1
          obtain ⟨v1, v2⟩ := propF_val (by omega) hl hp
          rw [Option.bind_some]
          by_cases h3 : r.kd = 3
          · rw [if_pos h3]
            have p2 := s27 r.of r.e ec (-1) (-(toF r)) r.kd r.tv l1 hr0.of (.inr rfl) (by omega) v1 (by omega)
            rw [map_neg] at p2
            have hw : IntKind.i64.wrap (0 - toF r) = -(toF r) := by rw [wr (by omega)]; omega
            cases hp2 : propF (negL r.of) (-(toF r)) (negL r.of) 0 l1 with
            | none =>
              rw [hp2] at p2
              obtain ⟨ll, p2⟩ := p2
              rw [h3] at p1' p2
              simp only [gd1, hd1, tl1, dr0, dr1, dr2, dr3, dr4, dr5, dr6, bo1, in1, st1, ls1, le1, pt1, fi1, fb1, fs1, ct1, cf1, nt1, nf1, ak0, akT, akF, cdec, cndec, cbeq, cnbeq, ↓reduceIte, beq_self_eq_true, Int.reduceBEq, Int.reduceEq, Bool.and_true, Bool.true_and, Bool.false_and, Bool.and_false, enc_len, hend, hz, not_true_eq_false, decide_false, Bool.and_false, p1', h3, hw, p2, Option.bind_some, Option.bind_none, Bool.not_true, Bool.not_false, res13]
            | some l2 =>
              rw [hp2] at p2
              have p2' : _ = _ := p2
              obtain ⟨v3, v4⟩ := propF_val (by simp [negL]; omega) v1 hp2
              have := ih (i + 1) l2 g3 v3 (by rw [v4, v2]; exact fun r' h' => hr r' (List.mem_cons_of_mem _ h'))
              rw [h3] at p1' p2'
              simp only [gd1, hd1, tl1, dr0, dr1, dr2, dr3, dr4, dr5, dr6, bo1, in1, st1, ls1, le1, pt1, fi1, fb1, fs1, ct1, cf1, nt1, nf1, ak0, akT, akF, cdec, cndec, cbeq, cnbeq, ↓reduceIte, beq_self_eq_true, Int.reduceBEq, Int.reduceEq, Bool.and_true, Bool.true_and, Bool.false_and, Bool.and_false, enc_len, hend, hz, not_true_eq_false, decide_false, Bool.and_false, p1', h3, hw, p2', Option.bind_some, Bool.not_true, Bool.not_false, next i (by omega)]
              exact this
          · rw [if_neg h3]
            have := ih (i + 1) l1 g3 v1 (by rw [v2]; exact fun r' h' => hr r' (List.mem_cons_of_mem _ h'))
            simp only [gd1, hd1, tl1, dr0, dr1, dr2, dr3, dr4, dr5, dr6, bo1, in1, st1, ls1, le1, pt1, fi1, fb1, fs1, ct1, cf1, nt1, nf1, ak0, akT, akF, cdec, cndec, cbeq, cnbeq, ↓reduceIte, beq_self_eq_true, Int.reduceBEq, Int.reduceEq, Bool.and_true, Bool.true_and, Bool.false_and, Bool.and_false, enc_len, hend, hz, not_true_eq_false, decide_false, Bool.and_false, p1', h3, Option.bind_some, Bool.not_true, Bool.not_false, next i (by omega)]
            exact this
      · rw [if_neg hz]
        have hall := nz_not hz
        by_cases hc : toF r ≥ 0 ∧ (¬ r.kd = 3 ∨ toF r = 0)
        · rw [if_pos hc, Option.bind_some]
          have p1 := s27 r.of r.e ec 1 (toF r) r.kd r.tv l hr0.of (.inl rfl) ht hl hr0.len
          rw [map_one, propF_zero hall] at p1
          have p1' : _ = _ := p1
          have := ih (i + 1) l g3 hl fun r' h' => hr r' (List.mem_cons_of_mem _ h')
          by_cases h3 : r.kd = 3
          · have hx : ¬ (toF r < 0 ∨ toF r > 0) := by omega
            have p2 := s27 r.of r.e ec (-1) (-(toF r)) r.kd r.tv l hr0.of (.inr rfl) (by omega) hl hr0.len
            rw [map_neg, propF_zero (negL_zero hall)] at p2
            have p2' : _ = _ := p2
            have hw : IntKind.i64.wrap (0 - toF r) = -(toF r) := by rw [wr (by omega)]; omega
            rw [h3] at p1' p2'
            simp only [cor, cand, beq_dec, ← Bool.decide_or, ← Bool.decide_and]
            simp only [gd1, hd1, tl1, dr0, dr1, dr2, dr3, dr4, dr5, dr6, bo1, in1, st1, ls1, le1, pt1, fi1, fb1, fs1, ct1, cf1, nt1, nf1, ak0, akT, akF, cdec, cndec, cbeq, cnbeq, ↓reduceIte, beq_self_eq_true, Int.reduceBEq, Int.reduceEq, Bool.and_true, Bool.true_and, Bool.false_and, Bool.and_false, enc_len, hend, hz, not_false_eq_true, decide_true, h3, and_true, hx, p1', hw, p2', Option.bind_some, Bool.not_true, Bool.not_false, Bool.or_self, next i (by omega)]
            exact this
          · have hx : ¬ toF r < 0 := by omega
            simp only [cor, cand, beq_dec, ← Bool.decide_or, ← Bool.decide_and]
            simp only [gd1, hd1, tl1, dr0, dr1, dr2, dr3, dr4, dr5, dr6, bo1, in1, st1, ls1, le1, pt1, fi1, fb1, fs1, ct1, cf1, nt1, nf1, ak0, akT, akF, cdec, cndec, cbeq, cnbeq, ↓reduceIte, beq_self_eq_true, Int.reduceBEq, Int.reduceEq, Bool.and_true, Bool.true_and, Bool.false_and, Bool.and_false, enc_len, hend, hz, not_false_eq_true, decide_true, hx, p1', h3, and_false, or_false, decide_false, Bool.or_self, Option.bind_some, Bool.not_true, Bool.not_false, next i (by omega)]
            exact this
        · rw [if_neg hc, Option.bind_none]
          have hx : toF r < 0 ∨ toF r > 0 ∧ r.kd = 3 := by omega
          simp only [cor, cand, beq_dec, ← Bool.decide_or, ← Bool.decide_and]
          simp only [gd1, hd1, tl1, dr0, dr1, dr2, dr3, dr4, dr5, dr6, bo1, in1, st1, ls1, le1, pt1, fi1, fb1, fs1, ct1, cf1, nt1, nf1, ak0, akT, akF, cdec, cndec, cbeq, cnbeq, ↓reduceIte, beq_self_eq_true, Int.reduceBEq, Int.reduceEq, Bool.and_true, Bool.true_and, Bool.false_and, Bool.and_false, enc_len, hend, hz, not_false_eq_true, decide_true, hx, res13]
    refine orc_of ?_
    rw [e13n3]
    by_cases h2 : r.kd = 2
    · have hto : IntKind.i64.wrap (r.tv - 1) = toF r := by unfold toF; rw [if_pos h2, wr (by omega)]
      simp only [gd1, hd1, tl1, dr0, dr1, dr2, dr3, dr4, dr5, dr6, bo1, in1, st1, ls1, le1, pt1, fi1, fb1, fs1, ct1, cf1, nt1, nf1, ak0, akT, akF, cdec, cndec, cbeq, cnbeq, ↓reduceIte, beq_self_eq_true, Int.reduceBEq, Int.reduceEq, Bool.and_true, Bool.true_and, Bool.false_and, Bool.and_false, h1, h0, and_self, eRs_len, eRs_get g1, h2, hto]
      rw [h2] at key; exact key
    · have hto : r.tv = toF r := by unfold toF; rw [if_neg h2]
      simp only [gd1, hd1, tl1, dr0, dr1, dr2, dr3, dr4, dr5, dr6, bo1, in1, st1, ls1, le1, pt1, fi1, fb1, fs1, ct1, cf1, nt1, nf1, ak0, akT, akF, cdec, cndec, cbeq, cnbeq, ↓reduceIte, beq_self_eq_true, Int.reduceBEq, Int.reduceEq, Bool.and_true, Bool.true_and, Bool.false_and, Bool.and_false, h1, h0, and_self, eRs_len, eRs_get g1, h2]
      rw [← hto] at key; exact key
theorem s13 (rows : List R) (l : List S) (e e2 : Bool) (ho : Ok rows l) : ∃ e3, Or (.call 13) [LR e rows, LS e2 l] [] = some (res13 e3 (onceF rows l)) := by
  have hl := ho.val.len
  have := n13 rows e (eSs l).isEmpty (by have := ho.len; omega) rows 0 l rfl ho.val ho.rows
  refine ⟨(eSs l).isEmpty, orc_of ?_⟩
  rw [e13]
  have hs : small 16 (eSs l).length = some () := small_ok (by rw [eSs_len]; omega)
  simp only [gd1, hd1, tl1, dr0, dr1, dr2, dr3, dr4, dr5, dr6, bo1, in1, st1, ls1, le1, pt1, fi1, fb1, fs1, ct1, cf1, nt1, nf1, ak0, akT, akF, cdec, cndec, cbeq, cnbeq, ↓reduceIte, beq_self_eq_true, Int.reduceBEq, Int.reduceEq, Bool.and_true, Bool.true_and, Bool.false_and, Bool.and_false, hs]
  exact this
theorem n14 (rows : List R) (e : Bool) : ∀ (k i : Nat) (l : List S) (e2 : Bool), i + k = 200 → Ok rows l → ∃ e3, Or K14n3 [LR e rows, LS e2 l, I (i : Int)] [] = some (res13 e3 (doF rows k l))
  | 0, i, l, e2, hi, ho => by
    refine ⟨e2, orc_of ?_⟩
    rw [e14n3]
    have h1 : ¬ (i : Int) < 200 := by omega
    simp only [gd1, hd1, tl1, dr0, dr1, dr2, dr3, dr4, dr5, dr6, bo1, in1, st1, ls1, le1, pt1, fi1, fb1, fs1, ct1, cf1, nt1, nf1, ak0, akT, akF, cdec, cndec, cbeq, cnbeq, ↓reduceIte, beq_self_eq_true, Int.reduceBEq, Int.reduceEq, Bool.and_true, Bool.true_and, Bool.false_and, Bool.and_false, h1, doF, res13]
  | k + 1, i, l, e2, hi, ho => by
    have h1 : (i : Int) < 200 := by omega
    obtain ⟨e3, h13⟩ := s13 rows l e e2 ho
    rw [doF]
    cases hm : onceF rows l with
    | none =>
      rw [hm] at h13
      refine ⟨e3, orc_of ?_⟩
      rw [e14n3]
      simp only [res13] at h13
      simp only [gd1, hd1, tl1, dr0, dr1, dr2, dr3, dr4, dr5, dr6, bo1, in1, st1, ls1, le1, pt1, fi1, fb1, fs1, ct1, cf1, nt1, nf1, ak0, akT, akF, cdec, cndec, cbeq, cnbeq, ↓reduceIte, beq_self_eq_true, Int.reduceBEq, Int.reduceEq, Bool.and_true, Bool.true_and, Bool.false_and, Bool.and_false, h1, h13, Option.bind_none, res13, Bool.not_false]
    | some m =>
      rw [hm] at h13
      have ho2 := ho.next hm
      have h15 := s15x m l e3 e2 (by have := ho2.val.len; omega)
      simp only [res13] at h13
      rw [Option.bind_some]
      cases hs : sameL m l with
      | true =>
        rw [hs] at h15
        refine ⟨e3, orc_of ?_⟩
        rw [e14n3]
        simp only [gd1, hd1, tl1, dr0, dr1, dr2, dr3, dr4, dr5, dr6, bo1, in1, st1, ls1, le1, pt1, fi1, fb1, fs1, ct1, cf1, nt1, nf1, ak0, akT, akF, cdec, cndec, cbeq, cnbeq, ↓reduceIte, beq_self_eq_true, Int.reduceBEq, Int.reduceEq, Bool.and_true, Bool.true_and, Bool.false_and, Bool.and_false, h1, h13, h15, res13, Bool.not_true]
      | false =>
        rw [hs] at h15
        obtain ⟨e4, this⟩ := n14 rows e k (i + 1) m e3 (by omega) ho2
        refine ⟨e4, orc_of ?_⟩
        rw [e14n3]
        simp only [gd1, hd1, tl1, dr0, dr1, dr2, dr3, dr4, dr5, dr6, bo1, in1, st1, ls1, le1, pt1, fi1, fb1, fs1, ct1, cf1, nt1, nf1, ak0, akT, akF, cdec, cndec, cbeq, cnbeq, ↓reduceIte, beq_self_eq_true, Int.reduceBEq, Int.reduceEq, Bool.and_true, Bool.true_and, Bool.false_and, Bool.and_false, h1, h13, h15, next i (by omega), Bool.not_true, Bool.false_eq_true]
        exact this
theorem s14 (rows : List R) (l : List S) (e e2 : Bool) (ho : Ok rows l) : ∃ e3, Or (.call 14) [LR e rows, LS e2 l] [] = some (res13 e3 (doF rows 200 l)) := by
  obtain ⟨e3, h⟩ := n14 rows e 200 0 l e2 rfl ho
  refine ⟨e3, orc_of ?_⟩
  rw [e14]
  exact h
theorem doF_val {rows : List R} : ∀ {k : Nat} {l l' : List S}, Ok rows l → doF rows k l = some l' → Ok rows l'
  | 0, l, l', ho, h => by cases h; exact ho
  | k + 1, l, l', ho, h => by
    simp only [doF, Option.bind_eq_some_iff] at h
    obtain ⟨m, h1, h2⟩ := h
    have hm := ho.next h1
    split at h2
    · cases h2; exact hm
    · exact doF_val hm h2
def listO : Option (List S) → List S
  | some l => l
  | none => []
theorem once_shape (ec : Bool) (o : Option (List S)) : ∃ x e', resOnce ec o = [x, tb o.isSome, ti 0, ti 0] ∧ x.lst? 2 = some (e', eSs (listO o)) := by
  cases o with
  | some l => exact ⟨_, ec, rfl, ls1 _ _ _⟩
  | none => exact ⟨_, true, rfl, le1 _ _⟩
theorem res13_shape (ec : Bool) (o : Option (List S)) : ∃ x e', res13 ec o = [x, tb o.isSome] ∧ x.lst? 2 = some (e', eSs (listO o)) := by
  cases o with
  | some l => exact ⟨_, ec, rfl, ls1 _ _ _⟩
  | none => exact ⟨_, true, rfl, le1 _ _⟩
theorem law3 (rows : List R) (l : List S) (e e2 : Bool) (hr : ∀ r ∈ rows, r.e = true → r.of = []) (he : e2 = true → l = []) : Or (.call 3) [LR e rows, LS e2 l] [] = some [tb true] := by
  have h7 := s7x rows l e e2 hr he
  have h8 := s8x rows l e e2 hr he
  refine orc_of ?_
  rw [e3]
  by_cases hc : (chkA rows l).1 = 0
  · have ho := chkA_ok hr hc
    rw [if_pos hc] at h7 h8
    obtain ⟨e3, h13⟩ := s13 rows l e e2 ho
    obtain ⟨e4, h14⟩ := s14 rows l e e2 ho
    obtain ⟨x7, f7, a7, b7⟩ := once_shape e2 (onceF rows l)
    obtain ⟨x8, f8, a8, b8⟩ := once_shape e2 (doF rows 200 l)
    obtain ⟨x13, f13, a13, b13⟩ := res13_shape e3 (onceF rows l)
    obtain ⟨x14, f14, a14, b14⟩ := res13_shape e4 (doF rows 200 l)
    rw [a7] at h7
    rw [a8] at h8
    rw [a13] at h13
    rw [a14] at h14
    have l1 : (listO (onceF rows l)).length ≤ 1000 := by
      cases h : onceF rows l with
      | none => simp [listO]
      | some m => have := (ho.next h).val.len; simp only [listO]; omega
    have l2 : (listO (doF rows 200 l)).length ≤ 1000 := by
      cases h : doF rows 200 l with
      | none => simp [listO]
      | some m => have := (doF_val ho h).val.len; simp only [listO]; omega
    have h15a := s15x (listO (onceF rows l)) (listO (onceF rows l)) f7 f13 l1
    have h15b := s15x (listO (doF rows 200 l)) (listO (doF rows 200 l)) f8 f14 l2
    rw [sameL_self] at h15a h15b
    simp only [cor, cand]
    simp only [gd1, hd1, tl1, dr0, dr1, dr2, dr3, dr4, dr5, dr6, bo1, in1, st1, ls1, le1, pt1, fi1, fb1, fs1, ct1, cf1, nt1, nf1, ak0, akT, akF, cdec, cndec, cbeq, cnbeq, ↓reduceIte, beq_self_eq_true, Int.reduceBEq, Int.reduceEq, Bool.and_true, Bool.true_and, Bool.false_and, Bool.and_false, h7, b7, h8, b8, s9, s10x, s11x, Bool.not_true, Bool.or_false, s12x, hc, h13, b13, h14, b14, h15a, h15b, Bool.or_self]
  · rw [if_neg hc] at h7 h8
    have hb : ((chkA rows l).1 == 0) = false := by simpa using hc
    simp only [cor, cand]
    simp only [gd1, hd1, tl1, dr0, dr1, dr2, dr3, dr4, dr5, dr6, bo1, in1, st1, ls1, le1, pt1, fi1, fb1, fs1, ct1, cf1, nt1, nf1, ak0, akT, akF, cdec, cndec, cbeq, cnbeq, ↓reduceIte, beq_self_eq_true, Int.reduceBEq, Int.reduceEq, Bool.and_true, Bool.true_and, Bool.false_and, Bool.and_false, h7, h8, s9, s10x, s11x, Bool.not_true, Bool.or_false, s12x, hc, List.length_nil]
    rfl
set_option maxRecDepth 1000000 in
theorem claim3 (vs : List AV) (h : ArgWt PROG (19 + 1) Try.f3.params.toList vs) : Or (.call 3) vs [] = some [.bool true] := by
  rw [Try.params3] at h
  obtain ⟨a, _, rfl, h1, b, _, rfl, h2, rfl⟩ := h
  obtain ⟨e, q, rfl, hq, _⟩ := rows_arg h1
  obtain ⟨e', r, rfl, he, _⟩ := spans_arg h2
  exact law3 q r e e' hq he
end Go.Aev.Gen
