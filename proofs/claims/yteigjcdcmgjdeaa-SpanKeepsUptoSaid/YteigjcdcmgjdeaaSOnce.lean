/-
  Rows one behind the other; what may be handed in; till it rests.
-/
import Derived.Test.YteigjcdcmgjdeaaSSpec
set_option linter.unusedSimpArgs false
set_option linter.unusedVariables false
namespace Go.Aev.Gen
open Go Go.Aev

/-! ### One row -/
def nz (of : List Int) : Prop := ∃ c ∈ of, c ≠ 0
instance (of : List Int) : Decidable (nz of) := by unfold nz; infer_instance
theorem s32 (c : Int) : Or (.call 32) [I c] [] = some [tb (!c == 0)] := orc_of (by rw [e32])
theorem n45 (of : List Int) (e : Bool) (ho : of.length ≤ 1000) : ∀ (rest : List Int) (i : Nat), of.drop i = rest → ∃ x, Or K45n2 [lst e of, AV.fn 32 [] [], I (of.length : Int), I (i : Int)] [] = some [ti x] ∧ (x ≥ 0 ↔ nz rest) := by
  intro rest
  induction rest with
  | nil =>
    intro i h
    refine ⟨-1, orc_of ?_, by simp [nz]⟩
    rw [e45n2]
    have h1 : ¬ (i : Int) < (of.length : Int) := by have := at_end h; omega
    simp only [gd1, hd1, tl1, dr0, dr1, dr2, dr3, dr4, dr5, dr6, bo1, in1, st1, ls1, le1, pt1, fi1, fb1, fs1, ct1, cf1, nt1, nf1, ak0, akT, akF, cdec, cndec, cbeq, cnbeq, ↓reduceIte, beq_self_eq_true, Int.reduceBEq, Int.reduceEq, Bool.and_true, Bool.true_and, Bool.false_and, Bool.and_false, h1]
  | cons c rest ih =>
    intro i h
    obtain ⟨g1, g2, g3⟩ := at_drop h
    have h1 : (i : Int) < (of.length : Int) := by omega
    have h0 : 0 ≤ (i : Int) := by omega
    by_cases hz : c = 0
    · obtain ⟨x, k1, k2⟩ := ih (i + 1) g3
      refine ⟨x, orc_of ?_, ?_⟩
      · rw [e45n2]
        simp only [gd1, hd1, tl1, dr0, dr1, dr2, dr3, dr4, dr5, dr6, bo1, in1, st1, ls1, le1, pt1, fi1, fb1, fs1, ct1, cf1, nt1, nf1, ak0, akT, akF, cdec, cndec, cbeq, cnbeq, ↓reduceIte, beq_self_eq_true, Int.reduceBEq, Int.reduceEq, Bool.and_true, Bool.true_and, Bool.false_and, Bool.and_false, h1, h0, and_self, enc_len, enc_get g1, s32, hz, next i (by omega), k1]
      · rw [k2]; simp [nz, hz]
    · refine ⟨i, orc_of ?_, ?_⟩
      · rw [e45n2]
        simp only [gd1, hd1, tl1, dr0, dr1, dr2, dr3, dr4, dr5, dr6, bo1, in1, st1, ls1, le1, pt1, fi1, fb1, fs1, ct1, cf1, nt1, nf1, ak0, akT, akF, cdec, cndec, cbeq, cnbeq, ↓reduceIte, beq_self_eq_true, Int.reduceBEq, Int.reduceEq, Bool.and_true, Bool.true_and, Bool.false_and, Bool.and_false, h1, h0, and_self, enc_len, enc_get g1, s32, hz]
      · simp [nz, hz]
theorem s31 (of : List Int) (e : Bool) (ho : of.length ≤ 1000) : Or (.call 31) [lst e of, AV.fn 32 [] []] [] = some [tb (decide (nz of))] := by
  obtain ⟨x, h1, h2⟩ := n45 of e ho of 0 rfl
  have h45 : Or (.call 45) [lst e of, AV.fn 32 [] []] [] = some [ti x] := by
    refine orc_of ?_
    rw [e45, enc_len]; exact h1
  refine orc_of ?_
  rw [e31]
  simp only [gd1, hd1, tl1, dr0, dr1, dr2, dr3, dr4, dr5, dr6, bo1, in1, st1, ls1, le1, pt1, fi1, fb1, fs1, ct1, cf1, nt1, nf1, ak0, akT, akF, cdec, cndec, cbeq, cnbeq, ↓reduceIte, beq_self_eq_true, Int.reduceBEq, Int.reduceEq, Bool.and_true, Bool.true_and, Bool.false_and, Bool.and_false, h45]
  exact congrArg (fun b => some [tb b]) (decide_eq_decide.2 h2)
def negL (of : List Int) : List Int := of.map fun c => -c
def toF (r : R) : Int := if r.kd = 2 then r.tv - 1 else r.tv
def oneT (r : R) (t : Int) (l : List S) : Option (List S) :=
  if nz r.of then (propF r.of t r.of 0 l).bind fun l => if r.kd = 3 then propF (negL r.of) (-t) (negL r.of) 0 l else some l
  else if t ≥ 0 ∧ (¬ r.kd = 3 ∨ t = 0) then some l else none
def oneF (r : R) (l : List S) : Option (List S) := oneT r (toF r) l
/-- Rows that may be handed in. -/
structure OkR (n : Nat) (r : R) : Prop where
  kd : r.kd = 1 ∨ r.kd = 2 ∨ r.kd = 3
  len : r.of.length ≤ n
  of : ∀ c ∈ r.of, Wh c
  tv : Wh r.tv
theorem negL_wh {of : List Int} (h : ∀ c ∈ of, Wh c) : ∀ c ∈ negL of, Wh c := by
  intro c hc
  obtain ⟨d, hd, rfl⟩ := List.mem_map.1 hc
  have := h d hd
  unfold Wh at this ⊢; omega
theorem n22 (of : List Int) (t kd : Int) (e ec : Bool) (l : List S) (hc : ∀ c ∈ of, Wh c) (ht : -1000001 ≤ t ∧ t ≤ 1000001) (hl : Val l) (ho : of.length ≤ l.length) : ∀ (rest : List Int) (i : Nat) (e2 : Bool), of.drop i = rest →
    Says ec (propF (negL of) (-t) (negL of) 0 l) (Or K22n11m1 [o0, AV.ref (Id.c 1) 0, AV.own (Id.c 2), lst e of, I (of.length : Int), I (i : Int)] [bS ec l, Blk.box [lst e of, I kd, I t], Blk.sl false 1 e2 (enc (negL (of.take i)))]) := by
  have hl12 := hl.len
  intro rest
  induction rest with
  | nil =>
    intro i e2 h
    have h1 : ¬ (i : Int) < (of.length : Int) := by have := at_end h; omega
    have ht' : of.take i = of := List.take_of_length_le (at_end h)
    rw [ht']
    have hw : IntKind.i64.wrap (0 - t) = -t := by rw [wr (by omega)]; omega
    have := s33 (negL of) (-t) e2 ec l (negL_wh hc) (by omega) hl (by simp [negL]; omega)
    cases hp : propF (negL of) (-t) (negL of) 0 l with
    | some l' =>
      rw [hp] at this
      have this' : _ = _ := this
      show _ = _
      refine orc_of ?_
      rw [e22n11]
      simp only [gd1, hd1, tl1, dr0, dr1, dr2, dr3, dr4, dr5, dr6, bo1, in1, st1, ls1, le1, pt1, fi1, fb1, fs1, ct1, cf1, nt1, nf1, ak0, akT, akF, cdec, cndec, cbeq, cnbeq, ↓reduceIte, beq_self_eq_true, Int.reduceBEq, Int.reduceEq, Bool.and_true, Bool.true_and, Bool.false_and, Bool.and_false, h1, hw, this', Option.bind_some]
    | none =>
      rw [hp] at this
      obtain ⟨ll, this⟩ := this
      refine ⟨ll, orc_of ?_⟩
      rw [e22n11]
      simp only [gd1, hd1, tl1, dr0, dr1, dr2, dr3, dr4, dr5, dr6, bo1, in1, st1, ls1, le1, pt1, fi1, fb1, fs1, ct1, cf1, nt1, nf1, ak0, akT, akF, cdec, cndec, cbeq, cnbeq, ↓reduceIte, beq_self_eq_true, Int.reduceBEq, Int.reduceEq, Bool.and_true, Bool.true_and, Bool.false_and, Bool.and_false, h1, hw, this, Option.bind_some]
  | cons c rest ih =>
    intro i e2 h
    obtain ⟨g1, g2, g3⟩ := at_drop h
    have h1 : (i : Int) < (of.length : Int) := by omega
    have h0 : 0 ≤ (i : Int) := by omega
    have hcw := hc c (List.mem_of_getElem? g1)
    have hw : IntKind.i64.wrap (0 - c) = -c := by unfold Wh at hcw; rw [wr (by omega)]; omega
    have hap : enc (negL (of.take i)) ++ [[ti (-c)]] = enc (negL (of.take (i + 1))) := by
      rw [List.take_add_one, g1]; simp [enc, negL]
    have hs : small 8 ((enc (negL (of.take i))).length + [[ti (-c)]].length) = some () := small_ok (by simp [enc, negL]; omega)
    have := ih (i + 1) false g3
    have key : ∀ r, Or K22n11m1 [o0, AV.ref (Id.c 1) 0, AV.own (Id.c 2), lst e of, I (of.length : Int), I ((i + 1 : Nat) : Int)] [bS ec l, Blk.box [lst e of, I kd, I t], Blk.sl false 1 false (enc (negL (of.take (i + 1))))] = some r →
        Or K22n11m1 [o0, AV.ref (Id.c 1) 0, AV.own (Id.c 2), lst e of, I (of.length : Int), I (i : Int)] [bS ec l, Blk.box [lst e of, I kd, I t], Blk.sl false 1 e2 (enc (negL (of.take i)))] = some r := fun r hr => by
      refine orc_of ?_
      rw [e22n11]
      simp only [gd1, hd1, tl1, dr0, dr1, dr2, dr3, dr4, dr5, dr6, bo1, in1, st1, ls1, le1, pt1, fi1, fb1, fs1, ct1, cf1, nt1, nf1, ak0, akT, akF, cdec, cndec, cbeq, cnbeq, ↓reduceIte, beq_self_eq_true, Int.reduceBEq, Int.reduceEq, Bool.and_true, Bool.true_and, Bool.false_and, Bool.and_false, h1, h0, and_self, enc_len, enc_get g1, hw]
      simp only [enc_len] at hs
      simp only [gd1, hd1, tl1, dr0, dr1, dr2, dr3, dr4, dr5, dr6, bo1, in1, st1, ls1, le1, pt1, fi1, fb1, fs1, ct1, cf1, nt1, nf1, ak0, akT, akF, cdec, cndec, cbeq, cnbeq, ↓reduceIte, beq_self_eq_true, Int.reduceBEq, Int.reduceEq, Bool.and_true, Bool.true_and, Bool.false_and, Bool.and_false, hs, hap, next i (by omega)]
      exact hr
    cases hp : propF (negL of) (-t) (negL of) 0 l with
    | some l' => rw [hp] at this; exact key _ this
    | none => rw [hp] at this; obtain ⟨ll, h⟩ := this; exact ⟨ll, key _ h⟩
theorem s22 (r : R) (l : List S) (ec : Bool) (hr : OkR l.length r) (hl : Val l) : Says ec (oneF r l) (Or (.call 22) [AV.agg [lst r.e r.of, I r.kd, I r.tv], o0] [bS ec l]) := by
  have hl12 := hl.len
  have hlen := hr.len
  have h31 := s31 r.of r.e (by omega)
  have htv := hr.tv
  unfold Wh at htv
  have ht : -1000001 ≤ toF r ∧ toF r ≤ 1000001 := by unfold toF; split <;> omega
  have hw : r.kd = 2 → IntKind.i64.wrap (r.tv - 1) = toF r := fun h => by unfold toF; rw [if_pos h, wr (by omega)]
  have hw2 : ¬ r.kd = 2 → r.tv = toF r := fun h => by unfold toF; rw [if_neg h]
  have h33 := s33 r.of (toF r) r.e ec l hr.of ht hl hlen
  have hfin : nz r.of → ∀ l1, propF r.of (toF r) r.of 0 l = some l1 → r.kd = 3 → Says ec (propF (negL r.of) (-toF r) (negL r.of) 0 l1) (Or K22n11m1 [o0, AV.ref (Id.c 1) 0, AV.own (Id.c 2), lst r.e r.of, I (r.of.length : Int), I 0] [bS ec l1, Blk.box [lst r.e r.of, I r.kd, I (toF r)], Blk.sl false 1 true []]) := by
    intro _ l1 hp _
    obtain ⟨v1, v2⟩ := propF_val (by omega) hl hp
    exact n22 r.of (toF r) r.kd r.e ec l1 hr.of ht v1 (by omega) r.of 0 true rfl
  unfold oneF
  generalize toF r = t at *
  unfold oneT
  by_cases hz : nz r.of
  · rw [if_pos hz]
    cases hp : propF r.of t r.of 0 l with
    | none =>
      rw [hp] at h33
      obtain ⟨ll, h33⟩ := h33
      rw [Option.bind_none]
      refine ⟨ll, orc_of ?_⟩
      rw [e22]
      by_cases h2 : r.kd = 2
      · simp only [gd1, hd1, tl1, dr0, dr1, dr2, dr3, dr4, dr5, dr6, bo1, in1, st1, ls1, le1, pt1, fi1, fb1, fs1, ct1, cf1, nt1, nf1, ak0, akT, akF, cdec, cndec, cbeq, cnbeq, ↓reduceIte, beq_self_eq_true, Int.reduceBEq, Int.reduceEq, Bool.and_true, Bool.true_and, Bool.false_and, Bool.and_false, h2, hw h2, h31, hz, decide_true, Bool.not_true, Bool.not_false, h33, Option.bind_some]
      · rw [hw2 h2]
        simp only [gd1, hd1, tl1, dr0, dr1, dr2, dr3, dr4, dr5, dr6, bo1, in1, st1, ls1, le1, pt1, fi1, fb1, fs1, ct1, cf1, nt1, nf1, ak0, akT, akF, cdec, cndec, cbeq, cnbeq, ↓reduceIte, beq_self_eq_true, Int.reduceBEq, Int.reduceEq, Bool.and_true, Bool.true_and, Bool.false_and, Bool.and_false, h2, h31, hz, decide_true, Bool.not_true, Bool.not_false, h33, Option.bind_some]
    | some l1 =>
      rw [hp] at h33
      have h33' : _ = _ := h33
      rw [Option.bind_some]
      by_cases h3 : r.kd = 3
      · rw [if_pos h3]
        have h2 : ¬ r.kd = 2 := by omega
        have hf := hfin hz l1 hp h3
        have key : ∀ q, Or K22n11m1 [o0, AV.ref (Id.c 1) 0, AV.own (Id.c 2), lst r.e r.of, I (r.of.length : Int), I 0] [bS ec l1, Blk.box [lst r.e r.of, I r.kd, I t], Blk.sl false 1 true []] = some q → Or (.call 22) [AV.agg [lst r.e r.of, I r.kd, I r.tv], o0] [bS ec l] = some q := fun q hq => by
          refine orc_of ?_
          rw [e22, hw2 h2]
          rw [h3] at hq
          simp only [gd1, hd1, tl1, dr0, dr1, dr2, dr3, dr4, dr5, dr6, bo1, in1, st1, ls1, le1, pt1, fi1, fb1, fs1, ct1, cf1, nt1, nf1, ak0, akT, akF, cdec, cndec, cbeq, cnbeq, ↓reduceIte, beq_self_eq_true, Int.reduceBEq, Int.reduceEq, Bool.and_true, Bool.true_and, Bool.false_and, Bool.and_false, h3, h31, hz, decide_true, Bool.not_true, h33', Option.bind_some, enc_len]
          exact hq
        cases hq : propF (negL r.of) (-t) (negL r.of) 0 l1 with
        | some l' => rw [hq] at hf; exact key _ hf
        | none => rw [hq] at hf; obtain ⟨ll, h⟩ := hf; exact ⟨ll, key _ h⟩
      · rw [if_neg h3]
        show _ = _
        refine orc_of ?_
        rw [e22]
        by_cases h2 : r.kd = 2
        · simp only [gd1, hd1, tl1, dr0, dr1, dr2, dr3, dr4, dr5, dr6, bo1, in1, st1, ls1, le1, pt1, fi1, fb1, fs1, ct1, cf1, nt1, nf1, ak0, akT, akF, cdec, cndec, cbeq, cnbeq, ↓reduceIte, beq_self_eq_true, Int.reduceBEq, Int.reduceEq, Bool.and_true, Bool.true_and, Bool.false_and, Bool.and_false, h2, hw h2, h31, hz, decide_true, Bool.not_true, h33', Option.bind_some]
        · rw [hw2 h2]
          simp only [gd1, hd1, tl1, dr0, dr1, dr2, dr3, dr4, dr5, dr6, bo1, in1, st1, ls1, le1, pt1, fi1, fb1, fs1, ct1, cf1, nt1, nf1, ak0, akT, akF, cdec, cndec, cbeq, cnbeq, ↓reduceIte, beq_self_eq_true, Int.reduceBEq, Int.reduceEq, Bool.and_true, Bool.true_and, Bool.false_and, Bool.and_false, h2, h3, h31, hz, decide_true, Bool.not_true, h33', Option.bind_some]
  · rw [if_neg hz]
    have hbb : (bif decide (t ≥ 0) then bif !r.kd == 3 then true else t == 0 else false) = decide (t ≥ 0 ∧ (¬ r.kd = 3 ∨ t = 0)) := by
      by_cases a1 : t ≥ 0 <;> by_cases a2 : r.kd = 3 <;> by_cases a3 : t = 0 <;> simp [a1, a2, a3] <;> omega
    have key : Or (.call 22) [AV.agg [lst r.e r.of, I r.kd, I r.tv], o0] [bS ec l] = some [tb (decide (t ≥ 0 ∧ (¬ r.kd = 3 ∨ t = 0))), T.lst 2 ec (eSs l)] := by
      refine orc_of ?_
      rw [e22]
      by_cases h2 : r.kd = 2
      · rw [hw h2, ← hbb]
        simp only [h2]
        simp only [gd1, hd1, tl1, dr0, dr1, dr2, dr3, dr4, dr5, dr6, bo1, in1, st1, ls1, le1, pt1, fi1, fb1, fs1, ct1, cf1, nt1, nf1, ak0, akT, akF, cdec, cndec, cbeq, cnbeq, ↓reduceIte, beq_self_eq_true, Int.reduceBEq, Int.reduceEq, Bool.and_true, Bool.true_and, Bool.false_and, Bool.and_false, h31, hz, decide_false, Bool.not_false]
      · rw [hw2 h2, ← hbb]
        simp only [gd1, hd1, tl1, dr0, dr1, dr2, dr3, dr4, dr5, dr6, bo1, in1, st1, ls1, le1, pt1, fi1, fb1, fs1, ct1, cf1, nt1, nf1, ak0, akT, akF, cdec, cndec, cbeq, cnbeq, ↓reduceIte, beq_self_eq_true, Int.reduceBEq, Int.reduceEq, Bool.and_true, Bool.true_and, Bool.false_and, Bool.and_false, h2, h31, hz, decide_false, Bool.not_false]
    by_cases hc : t ≥ 0 ∧ (¬ r.kd = 3 ∨ t = 0)
    · rw [if_pos hc]
      rw [decide_eq_true hc] at key
      exact key
    · rw [if_neg hc]
      rw [decide_eq_false hc] at key
      exact ⟨_, key⟩
/-- All rows, one behind the other. -/
def onceF : List R → List S → Option (List S)
  | [], l => some l
  | r :: rs, l => (oneF r l).bind (onceF rs)
def resOnce (ec : Bool) : Option (List S) → List T
  | some l => [T.lst 2 ec (eSs l), tb true, ti 0, ti 0]
  | none => [T.emp true, tb false, ti 0, ti 0]
theorem oneF_val {r : R} {l l' : List S} (hr : r.of.length ≤ l.length) (hl : Val l) (h : oneF r l = some l') : Val l' ∧ l'.length = l.length := by
  unfold oneF oneT at h
  split at h
  · simp only [Option.bind_eq_some_iff] at h
    obtain ⟨l1, h1, h2⟩ := h
    obtain ⟨g1, g2⟩ := propF_val (by omega) hl h1
    split at h2
    · obtain ⟨g3, g4⟩ := propF_val (by simp [negL]; omega) g1 h2
      exact ⟨g3, by omega⟩
    · cases h2; exact ⟨g1, g2⟩
  · split at h
    · cases h; exact ⟨hl, rfl⟩
    · cases h
theorem n7 (rows : List R) (e ec : Bool) (hn : rows.length ≤ 1000) : ∀ (rest : List R) (i : Nat) (l : List S), rows.drop i = rest → Val l → (∀ r ∈ rest, OkR l.length r) →
    Or K7n6 [r0, o1, LR e rows, I (rows.length : Int), I (i : Int)] [Blk.box [I 0, I 0], bS ec l] = some (resOnce ec (onceF rest l)) := by
  intro rest
  induction rest with
  | nil =>
    intro i l h hl hr
    refine orc_of ?_
    rw [e7n6]
    have h1 : ¬ (i : Int) < (rows.length : Int) := by have := at_end h; omega
    simp only [gd1, hd1, tl1, dr0, dr1, dr2, dr3, dr4, dr5, dr6, bo1, in1, st1, ls1, le1, pt1, fi1, fb1, fs1, ct1, cf1, nt1, nf1, ak0, akT, akF, cdec, cndec, cbeq, cnbeq, ↓reduceIte, beq_self_eq_true, Int.reduceBEq, Int.reduceEq, Bool.and_true, Bool.true_and, Bool.false_and, Bool.and_false, h1, onceF, resOnce]
  | cons r rest ih =>
    intro i l h hl hr
    obtain ⟨g1, g2, g3⟩ := at_drop h
    have h1 : (i : Int) < (rows.length : Int) := by omega
    have h0 : 0 ≤ (i : Int) := by omega
    have h22 := s22 r l ec (hr r List.mem_cons_self) hl
    refine orc_of ?_
    rw [e7n6, onceF]
    cases ho : oneF r l with
    | none =>
      rw [ho] at h22
      obtain ⟨ll, h22⟩ := h22
      simp only [gd1, hd1, tl1, dr0, dr1, dr2, dr3, dr4, dr5, dr6, bo1, in1, st1, ls1, le1, pt1, fi1, fb1, fs1, ct1, cf1, nt1, nf1, ak0, akT, akF, cdec, cndec, cbeq, cnbeq, ↓reduceIte, beq_self_eq_true, Int.reduceBEq, Int.reduceEq, Bool.and_true, Bool.true_and, Bool.false_and, Bool.and_false, h1, h0, and_self, eRs_len, eRs_get g1, h22, Option.bind_some, Option.bind_none, Bool.not_false, resOnce]
    | some l1 =>
      rw [ho] at h22
      have h22' : _ = _ := h22
      obtain ⟨v1, v2⟩ := oneF_val (hr r List.mem_cons_self).len hl ho
      have := ih (i + 1) l1 g3 v1 (by rw [v2]; exact fun r' h' => hr r' (List.mem_cons_of_mem _ h'))
      simp only [gd1, hd1, tl1, dr0, dr1, dr2, dr3, dr4, dr5, dr6, bo1, in1, st1, ls1, le1, pt1, fi1, fb1, fs1, ct1, cf1, nt1, nf1, ak0, akT, akF, cdec, cndec, cbeq, cnbeq, ↓reduceIte, beq_self_eq_true, Int.reduceBEq, Int.reduceEq, Bool.and_true, Bool.true_and, Bool.false_and, Bool.and_false, h1, h0, and_self, eRs_len, eRs_get g1, h22', Option.bind_some, Bool.not_true, next i (by omega)]
      exact this

/-! ### What is wrong -/
theorem sat_mem {l : List S} {i : Nat} (h : i < l.length) : sat l i ∈ l := by
  simp only [sat, List.getD_eq_getElem?_getD, List.getElem?_eq_getElem h, Option.getD_some]
  exact List.getElem_mem h
theorem n10 (l : List S) (e : Bool) (hn : l.length ≤ 1000) : ∀ (rest : List S) (i : Nat), l.drop i = rest → ∃ c a, Or K10n4 [r0, LS e l, I (l.length : Int), I (i : Int)] [Blk.box [I 0, I 0]] = some [ti c, ti a] ∧
    (c = 0 → ∀ s ∈ rest, -1000000 ≤ s.lo ∧ s.lo ≤ s.hi ∧ s.hi ≤ 1000000) := by
  intro rest
  induction rest with
  | nil =>
    intro i h
    refine ⟨0, 0, orc_of ?_, by simp⟩
    rw [e10n4]
    have h1 : ¬ (i : Int) < (l.length : Int) := by have := at_end h; omega
    simp only [gd1, hd1, tl1, dr0, dr1, dr2, dr3, dr4, dr5, dr6, bo1, in1, st1, ls1, le1, pt1, fi1, fb1, fs1, ct1, cf1, nt1, nf1, ak0, akT, akF, cdec, cndec, cbeq, cnbeq, ↓reduceIte, beq_self_eq_true, Int.reduceBEq, Int.reduceEq, Bool.and_true, Bool.true_and, Bool.false_and, Bool.and_false, h1]
  | cons s rest ih =>
    intro i h
    obtain ⟨g1, g2, g3⟩ := at_drop h
    have h1 : (i : Int) < (l.length : Int) := by omega
    have h0 : 0 ≤ (i : Int) := by omega
    have hs : sat l i = s := by simp [sat, List.getD_eq_getElem?_getD, g1]
    have hg := eSs_at g2
    rw [hs] at hg
    by_cases hb : (((s.lo < -1000000 ∨ s.lo > 1000000) ∨ s.hi < -1000000) ∨ s.hi > 1000000)
    · refine ⟨3, i, orc_of ?_, by simp⟩
      rw [e10n4]
      simp only [cor, ← Bool.decide_or]
      simp only [gd1, hd1, tl1, dr0, dr1, dr2, dr3, dr4, dr5, dr6, bo1, in1, st1, ls1, le1, pt1, fi1, fb1, fs1, ct1, cf1, nt1, nf1, ak0, akT, akF, cdec, cndec, cbeq, cnbeq, ↓reduceIte, beq_self_eq_true, Int.reduceBEq, Int.reduceEq, Bool.and_true, Bool.true_and, Bool.false_and, Bool.and_false, h1, h0, and_self, eSs_len, hg, hb]
    · by_cases hc : s.lo > s.hi
      · refine ⟨5, i, orc_of ?_, by simp⟩
        rw [e10n4]
        simp only [cor, ← Bool.decide_or]
        simp only [gd1, hd1, tl1, dr0, dr1, dr2, dr3, dr4, dr5, dr6, bo1, in1, st1, ls1, le1, pt1, fi1, fb1, fs1, ct1, cf1, nt1, nf1, ak0, akT, akF, cdec, cndec, cbeq, cnbeq, ↓reduceIte, beq_self_eq_true, Int.reduceBEq, Int.reduceEq, Bool.and_true, Bool.true_and, Bool.false_and, Bool.and_false, h1, h0, and_self, eSs_len, hg, hb, hc]
      · obtain ⟨c, a, k1, k2⟩ := ih (i + 1) g3
        refine ⟨c, a, orc_of ?_, fun h' u hu => ?_⟩
        · rw [e10n4]
          simp only [cor, ← Bool.decide_or]
          simp only [gd1, hd1, tl1, dr0, dr1, dr2, dr3, dr4, dr5, dr6, bo1, in1, st1, ls1, le1, pt1, fi1, fb1, fs1, ct1, cf1, nt1, nf1, ak0, akT, akF, cdec, cndec, cbeq, cnbeq, ↓reduceIte, beq_self_eq_true, Int.reduceBEq, Int.reduceEq, Bool.and_true, Bool.true_and, Bool.false_and, Bool.and_false, h1, h0, and_self, eSs_len, hg, hb, hc, next i (by omega), k1]
        · rcases List.mem_cons.1 hu with rfl | hu
          · omega
          · exact k2 h' u hu
theorem s10 (l : List S) (e : Bool) : ∃ c a, Or (.call 10) [LS e l] [] = some [ti c, ti a] ∧ (c = 0 → Val l) := by
  by_cases hl : (l.length : Int) > 12
  · refine ⟨2, 0, orc_of ?_, by simp⟩
    rw [e10]
    simp only [gd1, hd1, tl1, dr0, dr1, dr2, dr3, dr4, dr5, dr6, bo1, in1, st1, ls1, le1, pt1, fi1, fb1, fs1, ct1, cf1, nt1, nf1, ak0, akT, akF, cdec, cndec, cbeq, cnbeq, ↓reduceIte, beq_self_eq_true, Int.reduceBEq, Int.reduceEq, Bool.and_true, Bool.true_and, Bool.false_and, Bool.and_false, eSs_len, hl]
  · obtain ⟨c, a, k1, k2⟩ := n10 l e (by omega) l 0 rfl
    refine ⟨c, a, orc_of ?_, fun h => ⟨by omega, fun i => ?_⟩⟩
    · rw [e10]
      simp only [gd1, hd1, tl1, dr0, dr1, dr2, dr3, dr4, dr5, dr6, bo1, in1, st1, ls1, le1, pt1, fi1, fb1, fs1, ct1, cf1, nt1, nf1, ak0, akT, akF, cdec, cndec, cbeq, cnbeq, ↓reduceIte, beq_self_eq_true, Int.reduceBEq, Int.reduceEq, Bool.and_true, Bool.true_and, Bool.false_and, Bool.and_false, eSs_len, hl]
      exact k1
    · by_cases hi : i < l.length
      · exact k2 h _ (sat_mem hi)
      · have : sat l i = default := by simp [sat, List.getD_eq_getElem?_getD, List.getElem?_eq_none (Nat.le_of_not_lt hi)]
        rw [this]
        decide
theorem s63 (c : Int) : Or (.call 63) [I c] [] = some [tb (decide (c ≥ -1000000 ∧ c ≤ 1000000))] := by
  refine orc_of ?_
  rw [e63]
  simp only [cand, ← Bool.decide_and]
theorem n44 (xs : List Int) (e : Bool) (hn : xs.length ≤ 1000) : ∀ (rest : List Int) (i : Nat), xs.drop i = rest → ∃ c a, Or K44n8 [r0, o1, I (xs.length : Int), I (i : Int)] [Blk.box [I 0, I 0], Blk.sl false 1 e (enc xs)] = some [ti c, ti a] ∧ (c = 0 → ∀ x ∈ rest, Wh x) := by
  intro rest
  induction rest with
  | nil =>
    intro i h
    refine ⟨0, 0, orc_of ?_, by simp⟩
    rw [e44n8]
    have h1 : ¬ (i : Int) < (xs.length : Int) := by have := at_end h; omega
    simp only [gd1, hd1, tl1, dr0, dr1, dr2, dr3, dr4, dr5, dr6, bo1, in1, st1, ls1, le1, pt1, fi1, fb1, fs1, ct1, cf1, nt1, nf1, ak0, akT, akF, cdec, cndec, cbeq, cnbeq, ↓reduceIte, beq_self_eq_true, Int.reduceBEq, Int.reduceEq, Bool.and_true, Bool.true_and, Bool.false_and, Bool.and_false, h1]
  | cons x rest ih =>
    intro i h
    obtain ⟨g1, g2, g3⟩ := at_drop h
    have h1 : (i : Int) < (xs.length : Int) := by omega
    have h0 : 0 ≤ (i : Int) := by omega
    by_cases hb : x ≥ -1000000 ∧ x ≤ 1000000
    · obtain ⟨c, a, k1, k2⟩ := ih (i + 1) g3
      refine ⟨c, a, orc_of ?_, fun h' u hu => ?_⟩
      · rw [e44n8]
        simp only [gd1, hd1, tl1, dr0, dr1, dr2, dr3, dr4, dr5, dr6, bo1, in1, st1, ls1, le1, pt1, fi1, fb1, fs1, ct1, cf1, nt1, nf1, ak0, akT, akF, cdec, cndec, cbeq, cnbeq, ↓reduceIte, beq_self_eq_true, Int.reduceBEq, Int.reduceEq, Bool.and_true, Bool.true_and, Bool.false_and, Bool.and_false, h1, h0, and_self, enc_len, enc_get g1, s63, hb, decide_true, Bool.not_true, next i (by omega), k1]
      · rcases List.mem_cons.1 hu with rfl | hu
        · exact hb
        · exact k2 h' u hu
    · refine ⟨3, i, orc_of ?_, by simp⟩
      rw [e44n8]
      simp only [gd1, hd1, tl1, dr0, dr1, dr2, dr3, dr4, dr5, dr6, bo1, in1, st1, ls1, le1, pt1, fi1, fb1, fs1, ct1, cf1, nt1, nf1, ak0, akT, akF, cdec, cndec, cbeq, cnbeq, ↓reduceIte, beq_self_eq_true, Int.reduceBEq, Int.reduceEq, Bool.and_true, Bool.true_and, Bool.false_and, Bool.and_false, h1, h0, and_self, enc_len, enc_get g1, s63, hb, decide_false, Bool.not_false]
theorem s62 (l : List Int) (e : Bool) (he : e = true → l = []) (hl : l.length ≤ 1000) : ∃ x e', Or (.call 62) [lst e l] [] = some [x] ∧ x.lst? 1 = some (e', enc l) := by
  cases e with
  | true =>
    obtain rfl := he rfl
    exact ⟨T.emp true, true, orc_of (by rw [e62]; simp only [gd1, hd1, tl1, dr0, dr1, dr2, dr3, dr4, dr5, dr6, bo1, in1, st1, ls1, le1, pt1, fi1, fb1, fs1, ct1, cf1, nt1, nf1, ak0, akT, akF, cdec, cndec, cbeq, cnbeq, ↓reduceIte, beq_self_eq_true, Int.reduceBEq, Int.reduceEq, Bool.and_true, Bool.true_and, Bool.false_and, Bool.and_false]), by simp [T.lst?, enc]⟩
  | false =>
    refine ⟨T.lst 1 false (enc l), false, orc_of ?_, ls1 _ _ _⟩
    have : small 8 (0 + l.length) = some () := small_ok (by omega)
    rw [e62]
    simp only [gd1, hd1, tl1, dr0, dr1, dr2, dr3, dr4, dr5, dr6, bo1, in1, st1, ls1, le1, pt1, fi1, fb1, fs1, ct1, cf1, nt1, nf1, ak0, akT, akF, cdec, cndec, cbeq, cnbeq, ↓reduceIte, beq_self_eq_true, Int.reduceBEq, Int.reduceEq, Bool.and_true, Bool.true_and, Bool.false_and, Bool.and_false, enc_len, this]
theorem s44 (r : R) (n : Nat) (hn : n ≤ 12) (he : r.e = true → r.of = []) : ∃ c a, Or (.call 44) [AV.agg [lst r.e r.of, I r.kd, I r.tv], I (n : Int)] [] = some [ti c, ti a] ∧ (c = 0 → OkR n r) := by
  have h1 : ¬ ((n : Int) < 0 ∨ (n : Int) > 12) := by omega
  by_cases hk : (¬ r.kd = 1 ∧ ¬ r.kd = 2) ∧ ¬ r.kd = 3
  · refine ⟨4, 0, orc_of ?_, by simp⟩
    rw [e44]
    simp only [cor, cand, beq_dec, ← decide_not, ← Bool.decide_or, ← Bool.decide_and]
    simp only [gd1, hd1, tl1, dr0, dr1, dr2, dr3, dr4, dr5, dr6, bo1, in1, st1, ls1, le1, pt1, fi1, fb1, fs1, ct1, cf1, nt1, nf1, ak0, akT, akF, cdec, cndec, cbeq, cnbeq, ↓reduceIte, beq_self_eq_true, Int.reduceBEq, Int.reduceEq, Bool.and_true, Bool.true_and, Bool.false_and, Bool.and_false, h1, hk, not_false_eq_true, and_self]
  · by_cases hl : (r.of.length : Int) > (n : Int)
    · refine ⟨9, 0, orc_of ?_, by simp⟩
      rw [e44]
      simp only [cor, cand, beq_dec, ← decide_not, ← Bool.decide_or, ← Bool.decide_and]
      simp only [gd1, hd1, tl1, dr0, dr1, dr2, dr3, dr4, dr5, dr6, bo1, in1, st1, ls1, le1, pt1, fi1, fb1, fs1, ct1, cf1, nt1, nf1, ak0, akT, akF, cdec, cndec, cbeq, cnbeq, ↓reduceIte, beq_self_eq_true, Int.reduceBEq, Int.reduceEq, Bool.and_true, Bool.true_and, Bool.false_and, Bool.and_false, h1, hk, enc_len, hl]
    · obtain ⟨x, e', k1, k2⟩ := s62 r.of r.e he (by omega)
      obtain ⟨c, a, k3, k4⟩ := n44 (r.of ++ [r.tv]) (e' && false) (by simp; omega) (r.of ++ [r.tv]) 0 rfl
      have hap : enc r.of ++ [[ti r.tv]] = enc (r.of ++ [r.tv]) := by simp [enc]
      have hs : small 8 (r.of.length + [[ti r.tv]].length) = some () := small_ok (by simp; omega)
      refine ⟨c, a, orc_of ?_, fun h => ⟨by omega, by omega, fun u hu => k4 h u (by simp [hu]), k4 h _ (by simp)⟩⟩
      rw [e44]
      simp only [Bool.and_false] at k3
      simp only [cor, cand, beq_dec, ← decide_not, ← Bool.decide_or, ← Bool.decide_and]
      simp only [gd1, hd1, tl1, dr0, dr1, dr2, dr3, dr4, dr5, dr6, bo1, in1, st1, ls1, le1, pt1, fi1, fb1, fs1, ct1, cf1, nt1, nf1, ak0, akT, akF, cdec, cndec, cbeq, cnbeq, ↓reduceIte, beq_self_eq_true, Int.reduceBEq, Int.reduceEq, Bool.and_true, Bool.true_and, Bool.false_and, Bool.and_false, h1, hk, enc_len, hl, k1, k2, hs, hap]
      exact k3
theorem n30 (rows : List R) (n : Nat) (e : Bool) (hn : n ≤ 12) (hr : ∀ r ∈ rows, r.e = true → r.of = []) (hlen : rows.length ≤ 1000) : ∀ (rest : List R) (i : Nat), rows.drop i = rest →
    ∃ c a, Or K30n6 [I (n : Int), r0, LR e rows, I (rows.length : Int), I (i : Int)] [Blk.box [I 0, I 0]] = some [ti c, ti a] ∧ (c = 0 → ∀ r ∈ rest, OkR n r) := by
  intro rest
  induction rest with
  | nil =>
    intro i h
    refine ⟨0, 0, orc_of ?_, by simp⟩
    rw [e30n6]
    have h1 : ¬ (i : Int) < (rows.length : Int) := by have := at_end h; omega
    simp only [gd1, hd1, tl1, dr0, dr1, dr2, dr3, dr4, dr5, dr6, bo1, in1, st1, ls1, le1, pt1, fi1, fb1, fs1, ct1, cf1, nt1, nf1, ak0, akT, akF, cdec, cndec, cbeq, cnbeq, ↓reduceIte, beq_self_eq_true, Int.reduceBEq, Int.reduceEq, Bool.and_true, Bool.true_and, Bool.false_and, Bool.and_false, h1]
  | cons r rest ih =>
    intro i h
    obtain ⟨g1, g2, g3⟩ := at_drop h
    have h1 : (i : Int) < (rows.length : Int) := by omega
    have h0 : 0 ≤ (i : Int) := by omega
    obtain ⟨c, a, k1, k2⟩ := s44 r n hn (hr r (List.mem_of_getElem? g1))
    by_cases hc : c = 0
    · obtain ⟨c', a', k3, k4⟩ := ih (i + 1) g3
      refine ⟨c', a', orc_of ?_, fun h' u hu => ?_⟩
      · rw [e30n6]
        simp only [gd1, hd1, tl1, dr0, dr1, dr2, dr3, dr4, dr5, dr6, bo1, in1, st1, ls1, le1, pt1, fi1, fb1, fs1, ct1, cf1, nt1, nf1, ak0, akT, akF, cdec, cndec, cbeq, cnbeq, ↓reduceIte, beq_self_eq_true, Int.reduceBEq, Int.reduceEq, Bool.and_true, Bool.true_and, Bool.false_and, Bool.and_false, h1, h0, and_self, eRs_len, eRs_get g1, k1, hc, next i (by omega), k3]
      · rcases List.mem_cons.1 hu with rfl | hu
        · exact k2 hc
        · exact k4 h' u hu
    · refine ⟨c, i, orc_of ?_, fun h' => absurd h' hc⟩
      rw [e30n6]
      simp only [gd1, hd1, tl1, dr0, dr1, dr2, dr3, dr4, dr5, dr6, bo1, in1, st1, ls1, le1, pt1, fi1, fb1, fs1, ct1, cf1, nt1, nf1, ak0, akT, akF, cdec, cndec, cbeq, cnbeq, ↓reduceIte, beq_self_eq_true, Int.reduceBEq, Int.reduceEq, Bool.and_true, Bool.true_and, Bool.false_and, Bool.and_false, h1, h0, and_self, eRs_len, eRs_get g1, k1, hc]
/-- What may be handed in. -/
structure Ok (rows : List R) (l : List S) : Prop where
  val : Val l
  len : rows.length ≤ 40
  rows : ∀ r ∈ rows, OkR l.length r
theorem s20 (rows : List R) (l : List S) (e e2 : Bool) (hr : ∀ r ∈ rows, r.e = true → r.of = []) : ∃ c a, Or (.call 20) [LR e rows, LS e2 l] [] = some [ti c, ti a] ∧ (c = 0 → Ok rows l) := by
  obtain ⟨c, a, k1, k2⟩ := s10 l e2
  by_cases hc : c = 0
  · have hv := k2 hc
    have hl := hv.len
    have hn : ¬ ((l.length : Int) < 0 ∨ (l.length : Int) > 12) := by omega
    by_cases h40 : (rows.length : Int) > 40
    · have h30 : Or (.call 30) [LR e rows, I (l.length : Int)] [] = some [ti 2, ti 0] := by
        refine orc_of ?_
        rw [e30]
        simp only [cor, ← Bool.decide_or]
        simp only [gd1, hd1, tl1, dr0, dr1, dr2, dr3, dr4, dr5, dr6, bo1, in1, st1, ls1, le1, pt1, fi1, fb1, fs1, ct1, cf1, nt1, nf1, ak0, akT, akF, cdec, cndec, cbeq, cnbeq, ↓reduceIte, beq_self_eq_true, Int.reduceBEq, Int.reduceEq, Bool.and_true, Bool.true_and, Bool.false_and, Bool.and_false, hn, eRs_len, h40]
      refine ⟨2, 0, orc_of ?_, by simp⟩
      rw [e20]
      simp only [gd1, hd1, tl1, dr0, dr1, dr2, dr3, dr4, dr5, dr6, bo1, in1, st1, ls1, le1, pt1, fi1, fb1, fs1, ct1, cf1, nt1, nf1, ak0, akT, akF, cdec, cndec, cbeq, cnbeq, ↓reduceIte, beq_self_eq_true, Int.reduceBEq, Int.reduceEq, Bool.and_true, Bool.true_and, Bool.false_and, Bool.and_false, k1, hc, eSs_len, h30]
    · obtain ⟨c', a', k3, k4⟩ := n30 rows l.length e hl hr (by omega) rows 0 rfl
      have h30 : Or (.call 30) [LR e rows, I (l.length : Int)] [] = some [ti c', ti a'] := by
        refine orc_of ?_
        rw [e30]
        simp only [cor, ← Bool.decide_or]
        simp only [gd1, hd1, tl1, dr0, dr1, dr2, dr3, dr4, dr5, dr6, bo1, in1, st1, ls1, le1, pt1, fi1, fb1, fs1, ct1, cf1, nt1, nf1, ak0, akT, akF, cdec, cndec, cbeq, cnbeq, ↓reduceIte, beq_self_eq_true, Int.reduceBEq, Int.reduceEq, Bool.and_true, Bool.true_and, Bool.false_and, Bool.and_false, hn, eRs_len, h40]
        exact k3
      refine ⟨c', a', orc_of ?_, fun h => ⟨hv, by omega, k4 h⟩⟩
      rw [e20]
      simp only [gd1, hd1, tl1, dr0, dr1, dr2, dr3, dr4, dr5, dr6, bo1, in1, st1, ls1, le1, pt1, fi1, fb1, fs1, ct1, cf1, nt1, nf1, ak0, akT, akF, cdec, cndec, cbeq, cnbeq, ↓reduceIte, beq_self_eq_true, Int.reduceBEq, Int.reduceEq, Bool.and_true, Bool.true_and, Bool.false_and, Bool.and_false, k1, hc, eSs_len, h30]
  · refine ⟨c, a, orc_of ?_, fun h => absurd h hc⟩
    rw [e20]
    simp only [gd1, hd1, tl1, dr0, dr1, dr2, dr3, dr4, dr5, dr6, bo1, in1, st1, ls1, le1, pt1, fi1, fb1, fs1, ct1, cf1, nt1, nf1, ak0, akT, akF, cdec, cndec, cbeq, cnbeq, ↓reduceIte, beq_self_eq_true, Int.reduceBEq, Int.reduceEq, Bool.and_true, Bool.true_and, Bool.false_and, Bool.and_false, k1, hc]
theorem s21 (l : List S) (e : Bool) (he : e = true → l = []) (hl : l.length ≤ 1000) : ∃ x, Or (.call 21) [LS e l] [] = some [x] ∧ x.lst? 2 = some (e, eSs l) := by
  cases e with
  | true =>
    obtain rfl := he rfl
    exact ⟨T.emp true, orc_of (by rw [e21]; simp only [gd1, hd1, tl1, dr0, dr1, dr2, dr3, dr4, dr5, dr6, bo1, in1, st1, ls1, le1, pt1, fi1, fb1, fs1, ct1, cf1, nt1, nf1, ak0, akT, akF, cdec, cndec, cbeq, cnbeq, ↓reduceIte, beq_self_eq_true, Int.reduceBEq, Int.reduceEq, Bool.and_true, Bool.true_and, Bool.false_and, Bool.and_false]), by simp [T.lst?, eSs]⟩
  | false =>
    refine ⟨T.lst 2 false (eSs l), orc_of ?_, ls1 _ _ _⟩
    have : small 16 (0 + l.length) = some () := small_ok (by omega)
    rw [e21]
    simp only [gd1, hd1, tl1, dr0, dr1, dr2, dr3, dr4, dr5, dr6, bo1, in1, st1, ls1, le1, pt1, fi1, fb1, fs1, ct1, cf1, nt1, nf1, ak0, akT, akF, cdec, cndec, cbeq, cnbeq, ↓reduceIte, beq_self_eq_true, Int.reduceBEq, Int.reduceEq, Bool.and_true, Bool.true_and, Bool.false_and, Bool.and_false, eSs_len, this]
/-- Once. -/
theorem s7 (rows : List R) (l : List S) (e e2 : Bool) (hr : ∀ r ∈ rows, r.e = true → r.of = []) (he : e2 = true → l = []) :
    (∃ c a, ¬ c = 0 ∧ Or (.call 7) [LR e rows, LS e2 l] [] = some [T.emp true, tb false, ti c, ti a]) ∨ (Ok rows l ∧ Or (.call 7) [LR e rows, LS e2 l] [] = some (resOnce e2 (onceF rows l))) := by
  obtain ⟨c, a, k1, k2⟩ := s20 rows l e e2 hr
  by_cases hc : c = 0
  · right
    have ho := k2 hc
    obtain ⟨x, k3, k4⟩ := s21 l e2 he (by have := ho.val.len; omega)
    have := n7 rows e e2 (by have := ho.len; omega) rows 0 l rfl ho.val ho.rows
    refine ⟨ho, orc_of ?_⟩
    rw [e7]
    simp only [gd1, hd1, tl1, dr0, dr1, dr2, dr3, dr4, dr5, dr6, bo1, in1, st1, ls1, le1, pt1, fi1, fb1, fs1, ct1, cf1, nt1, nf1, ak0, akT, akF, cdec, cndec, cbeq, cnbeq, ↓reduceIte, beq_self_eq_true, Int.reduceBEq, Int.reduceEq, Bool.and_true, Bool.true_and, Bool.false_and, Bool.and_false, k1, hc, k3, k4, eRs_len]
    exact this
  · refine .inl ⟨c, a, hc, orc_of ?_⟩
    rw [e7]
    simp only [gd1, hd1, tl1, dr0, dr1, dr2, dr3, dr4, dr5, dr6, bo1, in1, st1, ls1, le1, pt1, fi1, fb1, fs1, ct1, cf1, nt1, nf1, ak0, akT, akF, cdec, cndec, cbeq, cnbeq, ↓reduceIte, beq_self_eq_true, Int.reduceBEq, Int.reduceEq, Bool.and_true, Bool.true_and, Bool.false_and, Bool.and_false, k1, hc]
end Go.Aev.Gen
