/-
  Rows and spans: what is passed on.
-/
import Derived.Test.YteigjcdcmgjdeaaSGen
import Derived.Test.YteigjcdcmgjdeaaAevStep
set_option linter.unusedSimpArgs false
set_option linter.unusedVariables false
namespace Go.Aev.Gen
open Go Go.Aev

noncomputable abbrev Or : Orc := orc PROG ann
abbrev ti (n : Int) : T := .int .i64 n
abbrev tb (b : Bool) : T := .bool b
abbrev o0 : AV := AV.own (Id.c 0)
abbrev o1 : AV := AV.own (Id.c 1)
abbrev r0 : AV := AV.ref (Id.c 0) 0

theorem at_drop {α : Type} {l : List α} {i : Nat} {r : α} {rest : List α} (h : l.drop i = r :: rest) : l[i]? = some r ∧ i < l.length ∧ l.drop (i + 1) = rest := by
  have hlt : i < l.length := by
    rcases Nat.lt_or_ge i l.length with g | g
    · exact g
    · rw [List.drop_eq_nil_of_le g] at h; cases h
  rw [List.drop_eq_getElem_cons hlt] at h
  simp only [List.cons.injEq] at h
  exact ⟨by rw [List.getElem?_eq_getElem hlt, h.1], hlt, h.2⟩
theorem at_end {α : Type} {l : List α} {i : Nat} (h : l.drop i = []) : l.length ≤ i := by simpa using h
def enc (l : List Int) : List (List T) := l.map fun r => [ti r]
theorem enc_len (l : List Int) : (enc l).length = l.length := by simp [enc]
theorem enc_get {l : List Int} {i : Nat} {r : Int} (h : l[i]? = some r) : (enc l)[((i : Nat) : Int).toNat]? = some [ti r] := by simp [enc, h]
abbrev lst (e : Bool) (l : List Int) : AV := AV.t (T.lst 1 e (enc l))

structure S where
  lo : Int
  hi : Int
  deriving Inhabited
structure R where
  e : Bool
  of : List Int
  kd : Int
  tv : Int
  deriving Inhabited
def eS (s : S) : List T := [ti s.lo, ti s.hi]
def eR (r : R) : List T := [T.lst 1 r.e (enc r.of), ti r.kd, ti r.tv]
def eSs (l : List S) : List (List T) := l.map eS
def eRs (l : List R) : List (List T) := l.map eR
theorem eSs_len (l : List S) : (eSs l).length = l.length := by simp [eSs]
theorem eRs_len (l : List R) : (eRs l).length = l.length := by simp [eRs]
def sat (l : List S) (i : Nat) : S := l.getD i default
theorem eSs_at {l : List S} {i : Nat} (h : i < l.length) : (eSs l)[((i : Nat) : Int).toNat]? = some [ti (sat l i).lo, ti (sat l i).hi] := by
  simp [eSs, sat, List.getD_eq_getElem?_getD, h, eS]
theorem eRs_get {l : List R} {i : Nat} {r : R} (h : l[i]? = some r) : (eRs l)[((i : Nat) : Int).toNat]? = some [T.lst 1 r.e (enc r.of), ti r.kd, ti r.tv] := by simp [eRs, h, eR]
abbrev LS (e : Bool) (l : List S) : AV := AV.t (T.lst 2 e (eSs l))
abbrev LR (e : Bool) (l : List R) : AV := AV.t (T.lst 3 e (eRs l))
abbrev bS (e : Bool) (l : List S) : Blk := Blk.sl false 2 e (eSs l)
theorem sat_set {l : List S} {k : Nat} (hk : k < l.length) (s : S) (i : Nat) : sat (l.set k s) i = if i = k then s else sat l i := by
  simp only [sat, List.getD_eq_getElem?_getD]
  by_cases e : i = k
  · subst e; rw [List.getElem?_set_self hk, if_pos rfl]; rfl
  · rw [List.getElem?_set_ne (fun h => e h.symm), if_neg e]
theorem eSs_hi {l : List S} {k : Nat} (hk : k < l.length) (v : Int) : storeIn (k : Int).toNat 1 [ti v] (eSs l) = some (eSs (l.set k ⟨(sat l k).lo, v⟩)) := by
  have h1 := eSs_at hk
  simp only [storeIn, h1]
  simp [repl, eSs, List.map_set, eS]
theorem eSs_lo {l : List S} {k : Nat} (hk : k < l.length) (v : Int) : storeIn (k : Int).toNat 0 [ti v] (eSs l) = some (eSs (l.set k ⟨v, (sat l k).hi⟩)) := by
  have h1 := eSs_at hk
  simp only [storeIn, h1]
  simp [repl, eSs, List.map_set, eS]
theorem next (i : Nat) (h : i ≤ 100000) : IntKind.i64.wrap ((i : Int) + 1) = ((i + 1 : Nat) : Int) := by rw [wr (by omega)]; omega
theorem small_ok {bs n : Nat} (h : n ≤ 100000) : small bs n = some () := by unfold small; rw [if_pos (.inl (by unfold lim; omega))]
theorem beq_dec (a b : Int) : (a == b) = decide (a = b) := by by_cases h : a = b <;> simp [h]
theorem mulb {a b : Int} (ha : -1000000 ≤ a ∧ a ≤ 1000000) (hb : -1000000 ≤ b ∧ b ≤ 1000000) : -1000000000000 ≤ a * b ∧ a * b ≤ 1000000000000 := by
  have h1 : a.natAbs * b.natAbs ≤ 1000000 * 1000000 := Nat.mul_le_mul (by omega) (by omega)
  rw [← Int.natAbs_mul] at h1
  omega

/-! ### Floors and least values -/
theorem s47 (a b : Int) (ha : -1000000000000000 ≤ a ∧ a ≤ 1000000000000000) (hb : 0 < b ∧ b ≤ 1000000) : Or (.call 47) [I a, I b] [] = some [ti (a / b)] := by
  refine orc_of ?_
  rw [e47]
  have h0 : ¬ b = 0 := by omega
  have h1 : ¬ b < 0 := by omega
  have hq : a.tdiv b = a / b + if 0 ≤ a ∨ b ∣ a then 0 else b.sign := Int.tdiv_eq_ediv
  have hs : b.sign = 1 := Int.sign_eq_one_of_pos hb.1
  rw [hs] at hq
  have hlo : -1000000000000000 ≤ a / b := by
    apply Int.le_ediv_of_mul_le hb.1
    have : -1000000000000000 * b ≤ -1000000000000000 * 1 := Int.mul_le_mul_of_nonpos_left (by omega) (by omega)
    omega
  have hhi : a / b ≤ 1000000000000000 := by
    apply Int.ediv_le_of_le_mul hb.1
    have : 1000000000000000 * 1 ≤ 1000000000000000 * b := Int.mul_le_mul_of_nonneg_left (by omega) (by omega)
    omega
  by_cases hd : a.tmod b = 0
  · have hdv : b ∣ a := Int.dvd_of_tmod_eq_zero hd
    rw [if_pos (.inr hdv)] at hq
    rw [hq, Int.add_zero]
    simp only [gd1, hd1, tl1, dr0, dr1, dr2, dr3, dr4, dr5, dr6, bo1, in1, st1, ls1, le1, pt1, fi1, fb1, fs1, ct1, cf1, nt1, nf1, ak0, akT, akF, cdec, cndec, cbeq, cnbeq, ↓reduceIte, beq_self_eq_true, Int.reduceBEq, Int.reduceEq, Bool.and_true, Bool.true_and, Bool.false_and, Bool.and_false, h0, hd]
    rw [wr (by omega)]
  · have hdv : ¬ b ∣ a := fun h => hd (Int.tmod_eq_zero_of_dvd h)
    by_cases hn : a < 0
    · rw [if_neg (by omega)] at hq
      simp only [gd1, hd1, tl1, dr0, dr1, dr2, dr3, dr4, dr5, dr6, bo1, in1, st1, ls1, le1, pt1, fi1, fb1, fs1, ct1, cf1, nt1, nf1, ak0, akT, akF, cdec, cndec, cbeq, cnbeq, ↓reduceIte, beq_self_eq_true, Int.reduceBEq, Int.reduceEq, Bool.and_true, Bool.true_and, Bool.false_and, Bool.and_false, h0, hd, hn, h1, decide_true, decide_false]
      rw [hq, wr (v := a / b + 1) (by omega), wr (by omega)]
      simp
    · rw [if_pos (by omega)] at hq
      rw [hq, Int.add_zero]
      simp only [gd1, hd1, tl1, dr0, dr1, dr2, dr3, dr4, dr5, dr6, bo1, in1, st1, ls1, le1, pt1, fi1, fb1, fs1, ct1, cf1, nt1, nf1, ak0, akT, akF, cdec, cndec, cbeq, cnbeq, ↓reduceIte, beq_self_eq_true, Int.reduceBEq, Int.reduceEq, Bool.and_true, Bool.true_and, Bool.false_and, Bool.and_false, h0, hd, hn, h1, decide_true, decide_false]
      rw [wr (by omega)]
/-- Within what counts as a whole number. -/
def Wh (c : Int) : Prop := -1000000 ≤ c ∧ c ≤ 1000000
def lv (c : Int) (s : S) : Int := if c > 0 then c * s.lo else c * s.hi
def lk (c : Int) (s : S) : Prop := if c > 0 then s.lo > -1000000 else s.hi < 1000000
instance (c : Int) (s : S) : Decidable (lk c s) := by unfold lk; infer_instance
theorem s64 (c : Int) (s : S) (hc : Wh c) (h1 : Wh s.lo) (h2 : Wh s.hi) : Or (.call 64) [I c, AV.agg [I s.lo, I s.hi]] [] = some [ti (lv c s), tb (decide (lk c s))] := by
  refine orc_of ?_
  rw [e64]
  unfold lv
  have m1 := mulb hc h1
  have m2 := mulb hc h2
  by_cases h : c > 0
  · have : lk c s ↔ s.lo > -1000000 := by unfold lk; rw [if_pos h]
    simp only [gd1, hd1, tl1, dr0, dr1, dr2, dr3, dr4, dr5, dr6, bo1, in1, st1, ls1, le1, pt1, fi1, fb1, fs1, ct1, cf1, nt1, nf1, ak0, akT, akF, cdec, cndec, cbeq, cnbeq, ↓reduceIte, beq_self_eq_true, Int.reduceBEq, Int.reduceEq, Bool.and_true, Bool.true_and, Bool.false_and, Bool.and_false, h, this]
    rw [wr (by omega)]
  · have : lk c s ↔ s.hi < 1000000 := by unfold lk; rw [if_neg h]
    simp only [gd1, hd1, tl1, dr0, dr1, dr2, dr3, dr4, dr5, dr6, bo1, in1, st1, ls1, le1, pt1, fi1, fb1, fs1, ct1, cf1, nt1, nf1, ak0, akT, akF, cdec, cndec, cbeq, cnbeq, ↓reduceIte, beq_self_eq_true, Int.reduceBEq, Int.reduceEq, Bool.and_true, Bool.true_and, Bool.false_and, Bool.and_false, h, this]
    rw [wr (by omega)]
/-- Spans that may be handed in. -/
structure Val (l : List S) : Prop where
  len : l.length ≤ 12
  rng : ∀ i, -1000000 ≤ (sat l i).lo ∧ (sat l i).lo ≤ (sat l i).hi ∧ (sat l i).hi ≤ 1000000
/-- What is left for one number: the row's sum less the least values of the others. -/
def restF (k : Nat) (l : List S) : List Int → Nat → Int → Option Int
  | [], _, t => some t
  | c :: r, i, t => if c = 0 ∨ i = k then restF k l r (i + 1) t else if lk c (sat l i) then restF k l r (i + 1) (t - lv c (sat l i)) else none
def told : Option Int → List T
  | some r => [ti r, tb true]
  | none => [ti 0, tb false]
theorem lv_b {c : Int} {s : S} (hc : Wh c) (h1 : Wh s.lo) (h2 : Wh s.hi) : -1000000000000 ≤ lv c s ∧ lv c s ≤ 1000000000000 := by
  unfold lv
  split
  · exact mulb hc h1
  · exact mulb hc h2
theorem n46 (l : List S) (of : List Int) (e e2 : Bool) (k : Nat) (hl : Val l) (ho : of.length ≤ l.length) (hc : ∀ c ∈ of, Wh c) : ∀ (rest : List Int) (i : Nat) (t : Int), of.drop i = rest → i ≤ of.length →
    -1000001 - 1000000000000 * (i : Int) ≤ t → t ≤ 1000001 + 1000000000000 * (i : Int) →
    Or K46n2 [I t, I (k : Int), LS e2 l, lst e of, I (of.length : Int), I (i : Int)] [] = some (told (restF k l rest i t)) ∧
      ∀ r, restF k l rest i t = some r → -1000001 - 1000000000000 * (of.length : Int) ≤ r ∧ r ≤ 1000001 + 1000000000000 * (of.length : Int) := by
  intro rest
  induction rest with
  | nil =>
    intro i t h hi t1 t2
    have hle := at_end h
    have h1 : ¬ (i : Int) < (of.length : Int) := by omega
    refine ⟨orc_of ?_, fun r hr => ?_⟩
    · rw [e46n2]
      simp only [gd1, hd1, tl1, dr0, dr1, dr2, dr3, dr4, dr5, dr6, bo1, in1, st1, ls1, le1, pt1, fi1, fb1, fs1, ct1, cf1, nt1, nf1, ak0, akT, akF, cdec, cndec, cbeq, cnbeq, ↓reduceIte, beq_self_eq_true, Int.reduceBEq, Int.reduceEq, Bool.and_true, Bool.true_and, Bool.false_and, Bool.and_false, enc_len, h1, restF, told]
    · simp only [restF, Option.some.injEq] at hr
      subst hr
      obtain rfl : i = of.length := by omega
      exact ⟨t1, t2⟩
  | cons c rest ih =>
    intro i t h hi t1 t2
    obtain ⟨g1, g2, g3⟩ := at_drop h
    have h1 : (i : Int) < (of.length : Int) := by omega
    have h0 : 0 ≤ (i : Int) := by omega
    have hl12 := hl.len
    have hcw := hc c (List.mem_of_getElem? g1)
    have hil : (i : Int) < (l.length : Int) := by omega
    have hr := hl.rng i
    have hs := lv_b (s := sat l i) hcw ⟨hr.1, by omega⟩ ⟨by omega, hr.2.2⟩
    have h64 := s64 c (sat l i) hcw ⟨hr.1, by omega⟩ ⟨by omega, hr.2.2⟩
    by_cases hz : c = 0 ∨ i = k
    · have hz' : c = 0 ∨ (i : Int) = (k : Int) := by omega
      obtain ⟨k1, k2⟩ := ih (i + 1) t g3 (by omega) (by omega) (by omega)
      rw [restF, if_pos hz]
      refine ⟨orc_of ?_, k2⟩
      rw [e46n2]
      simp only [cor, beq_dec, ← Bool.decide_or]
      simp only [gd1, hd1, tl1, dr0, dr1, dr2, dr3, dr4, dr5, dr6, bo1, in1, st1, ls1, le1, pt1, fi1, fb1, fs1, ct1, cf1, nt1, nf1, ak0, akT, akF, cdec, cndec, cbeq, cnbeq, ↓reduceIte, beq_self_eq_true, Int.reduceBEq, Int.reduceEq, Bool.and_true, Bool.true_and, Bool.false_and, Bool.and_false, h1, h0, and_self, enc_len, enc_get g1, hz', next i (by omega)]
      exact k1
    · have hz' : ¬ (c = 0 ∨ (i : Int) = (k : Int)) := by omega
      rw [restF, if_neg hz]
      by_cases hk : lk c (sat l i)
      · obtain ⟨k1, k2⟩ := ih (i + 1) (t - lv c (sat l i)) g3 (by omega) (by omega) (by omega)
        rw [if_pos hk]
        refine ⟨orc_of ?_, k2⟩
        rw [e46n2]
        have hw : IntKind.i64.wrap (t - lv c (sat l i)) = t - lv c (sat l i) := wr (by omega)
        simp only [cor, beq_dec, ← Bool.decide_or]
        simp only [gd1, hd1, tl1, dr0, dr1, dr2, dr3, dr4, dr5, dr6, bo1, in1, st1, ls1, le1, pt1, fi1, fb1, fs1, ct1, cf1, nt1, nf1, ak0, akT, akF, cdec, cndec, cbeq, cnbeq, ↓reduceIte, beq_self_eq_true, Int.reduceBEq, Int.reduceEq, Bool.and_true, Bool.true_and, Bool.false_and, Bool.and_false, h1, h0, hil, and_self, enc_len, eSs_len, enc_get g1, eSs_at (show i < l.length by omega), hz', h64, hk, decide_true, hw, next i (by omega)]
        exact k1
      · rw [if_neg hk]
        refine ⟨orc_of ?_, fun r hr => by cases hr⟩
        rw [e46n2]
        simp only [cor, beq_dec, ← Bool.decide_or]
        simp only [gd1, hd1, tl1, dr0, dr1, dr2, dr3, dr4, dr5, dr6, bo1, in1, st1, ls1, le1, pt1, fi1, fb1, fs1, ct1, cf1, nt1, nf1, ak0, akT, akF, cdec, cndec, cbeq, cnbeq, ↓reduceIte, beq_self_eq_true, Int.reduceBEq, Int.reduceEq, Bool.and_true, Bool.true_and, Bool.false_and, Bool.and_false, h1, h0, hil, and_self, enc_len, eSs_len, enc_get g1, eSs_at (show i < l.length by omega), hz', h64, hk, decide_false, told]
theorem s46 (l : List S) (of : List Int) (t : Int) (e e2 : Bool) (k : Nat) (hl : Val l) (ho : of.length ≤ l.length) (hc : ∀ c ∈ of, Wh c) (ht : -1000001 ≤ t ∧ t ≤ 1000001) :
    Or (.call 46) [lst e of, I t, I (k : Int), LS e2 l] [] = some (told (restF k l of 0 t)) ∧ ∀ r, restF k l of 0 t = some r → -1000000000000000 ≤ r ∧ r ≤ 1000000000000000 := by
  obtain ⟨h1, h2⟩ := n46 l of e e2 k hl ho hc of 0 t rfl (by omega) (by omega) (by omega)
  refine ⟨orc_of ?_, fun r hr => ?_⟩
  · rw [e46, enc_len]; exact h1
  · have := h2 r hr
    have := hl.len
    omega

/-! ### One number's span -/
def newS (c r : Int) (s : S) : S := if c > 0 then ⟨s.lo, min s.hi (max (r / c) (-999999))⟩ else ⟨max s.lo (min (-(r / (-c))) 999999), s.hi⟩
def stepS (of : List Int) (t : Int) (k : Nat) (c : Int) (l : List S) : Option (List S) :=
  if c = 0 then some l else match restF k l of 0 t with
  | none => some l
  | some r => if (newS c r (sat l k)).lo > (newS c r (sat l k)).hi then none else some (l.set k (newS c r (sat l k)))
def propF (of : List Int) (t : Int) : List Int → Nat → List S → Option (List S)
  | [], _, l => some l
  | c :: r, k, l => (stepS of t k c l).bind (propF of t r (k + 1))
theorem set_val {l : List S} {k : Nat} {s : S} (hk : k < l.length) (hl : Val l) (hs : -1000000 ≤ s.lo ∧ s.lo ≤ s.hi ∧ s.hi ≤ 1000000) : Val (l.set k s) :=
  ⟨by rw [List.length_set]; exact hl.len, fun i => by
    rw [sat_set hk]
    split
    · exact hs
    · exact hl.rng i⟩
theorem newS_in {c r : Int} {s : S} (hc : c ≠ 0) : s.lo ≤ (newS c r s).lo ∧ (newS c r s).hi ≤ s.hi := by
  unfold newS
  split
  · dsimp only; omega
  · dsimp only; omega
theorem stepS_val {of : List Int} {t : Int} {k : Nat} {c : Int} {l l' : List S} (hk : k < l.length) (hl : Val l) (h : stepS of t k c l = some l') : Val l' ∧ l'.length = l.length := by
  unfold stepS at h
  split at h
  · cases h; exact ⟨hl, rfl⟩
  · rename_i hc
    split at h
    · cases h; exact ⟨hl, rfl⟩
    · split at h
      · cases h
      · rename_i r _ hg
        cases h
        have := newS_in (r := r) (s := sat l k) hc
        have := hl.rng k
        exact ⟨set_val hk hl (by omega), by simp⟩
theorem propF_val {of : List Int} {t : Int} : ∀ {rest : List Int} {k : Nat} {l l' : List S}, k + rest.length ≤ l.length → Val l → propF of t rest k l = some l' → Val l' ∧ l'.length = l.length
  | [], k, l, l', _, hl, h => by cases h; exact ⟨hl, rfl⟩
  | c :: rest, k, l, l', hk, hl, h => by
    simp only [propF, Option.bind_eq_some_iff] at h
    obtain ⟨m, h1, h2⟩ := h
    simp only [List.length_cons] at hk
    obtain ⟨g1, g2⟩ := stepS_val (by omega) hl h1
    obtain ⟨g3, g4⟩ := propF_val (by omega) g1 h2
    exact ⟨g3, by omega⟩
/-- What a call that narrows spans answers. -/
def Says (ec : Bool) (o : Option (List S)) (r : Option (List T)) : Prop := match o with
  | some l => r = some [tb true, T.lst 2 ec (eSs l)]
  | none => ∃ ll, r = some [tb false, T.lst 2 ec ll]
theorem mm_max (a b : Int) : mm true a b = max a b := by simp only [mm, cond_true]; split <;> omega
theorem mm_min (a b : Int) : mm false a b = min a b := by simp only [mm, cond_false]; split <;> omega
theorem n33 (of : List Int) (t : Int) (e ec : Bool) (hc : ∀ c ∈ of, Wh c) (ht : -1000001 ≤ t ∧ t ≤ 1000001) : ∀ (rest : List Int) (k : Nat) (l : List S), of.drop k = rest → Val l → of.length ≤ l.length →
    Says ec (propF of t rest k l) (Or K33n2m1 [lst e of, I t, o0, lst e of, I (of.length : Int), I (k : Int)] [bS ec l]) := by
  intro rest
  induction rest with
  | nil =>
    intro k l h hl ho
    show _ = _
    refine orc_of ?_
    rw [e33n2]
    have h1 : ¬ (k : Int) < (of.length : Int) := by have := at_end h; omega
    simp only [gd1, hd1, tl1, dr0, dr1, dr2, dr3, dr4, dr5, dr6, bo1, in1, st1, ls1, le1, pt1, fi1, fb1, fs1, ct1, cf1, nt1, nf1, ak0, akT, akF, cdec, cndec, cbeq, cnbeq, ↓reduceIte, beq_self_eq_true, Int.reduceBEq, Int.reduceEq, Bool.and_true, Bool.true_and, Bool.false_and, Bool.and_false, h1]
  | cons c rest ih =>
    intro k l h hl ho
    obtain ⟨g1, g2, g3⟩ := at_drop h
    have h1 : (k : Int) < (of.length : Int) := by omega
    have h0 : 0 ≤ (k : Int) := by omega
    have hl12 := hl.len
    have hcw := hc c (List.mem_of_getElem? g1)
    have hkl : (k : Int) < (l.length : Int) := by omega
    have hkl' : k < l.length := by omega
    have hr := hl.rng k
    rw [propF, stepS]
    by_cases hz : c = 0
    · rw [if_pos hz, Option.bind_some]
      have := ih (k + 1) l g3 hl ho
      have key : ∀ r, Or K33n2m1 [lst e of, I t, o0, lst e of, I (of.length : Int), I ((k + 1 : Nat) : Int)] [bS ec l] = some r → Or K33n2m1 [lst e of, I t, o0, lst e of, I (of.length : Int), I (k : Int)] [bS ec l] = some r := fun r hr => by
        refine orc_of ?_
        rw [e33n2]
        simp only [gd1, hd1, tl1, dr0, dr1, dr2, dr3, dr4, dr5, dr6, bo1, in1, st1, ls1, le1, pt1, fi1, fb1, fs1, ct1, cf1, nt1, nf1, ak0, akT, akF, cdec, cndec, cbeq, cnbeq, ↓reduceIte, beq_self_eq_true, Int.reduceBEq, Int.reduceEq, Bool.and_true, Bool.true_and, Bool.false_and, Bool.and_false, h1, h0, and_self, enc_len, enc_get g1, hz, next k (by omega)]
        exact hr
      cases hp : propF of t rest (k + 1) l with
      | some l' => rw [hp] at this; exact key _ this
      | none => rw [hp] at this; obtain ⟨ll, h⟩ := this; exact ⟨ll, key _ h⟩
    · rw [if_neg hz]
      obtain ⟨h46, h46b⟩ := s46 l of t e ec k hl ho hc ht
      cases hrest : restF k l of 0 t with
      | none =>
        rw [hrest] at h46
        rw [Option.bind_some]
        have := ih (k + 1) l g3 hl ho
        have key : ∀ r, Or K33n2m1 [lst e of, I t, o0, lst e of, I (of.length : Int), I ((k + 1 : Nat) : Int)] [bS ec l] = some r → Or K33n2m1 [lst e of, I t, o0, lst e of, I (of.length : Int), I (k : Int)] [bS ec l] = some r := fun r hr => by
          refine orc_of ?_
          rw [e33n2]
          simp only [gd1, hd1, tl1, dr0, dr1, dr2, dr3, dr4, dr5, dr6, bo1, in1, st1, ls1, le1, pt1, fi1, fb1, fs1, ct1, cf1, nt1, nf1, ak0, akT, akF, cdec, cndec, cbeq, cnbeq, ↓reduceIte, beq_self_eq_true, Int.reduceBEq, Int.reduceEq, Bool.and_true, Bool.true_and, Bool.false_and, Bool.and_false, h1, h0, and_self, enc_len, enc_get g1, hz, h46, told, Bool.not_false, next k (by omega)]
          exact hr
        cases hp : propF of t rest (k + 1) l with
        | some l' => rw [hp] at this; exact key _ this
        | none => rw [hp] at this; obtain ⟨ll, h⟩ := this; exact ⟨ll, key _ h⟩
      | some r =>
        rw [hrest] at h46
        have hrb := h46b r hrest
        dsimp only
        have hin := newS_in (r := r) (s := sat l k) hz
        have hcell : ∀ s : S, (eSs (l.set k s))[((k : Nat) : Int).toNat]? = some [ti s.lo, ti s.hi] := fun s => by
          rw [eSs_at (by rw [List.length_set]; exact hkl'), sat_set hkl', if_pos rfl]
        by_cases hp : c > 0
        · have h47 := s47 r c hrb ⟨hp, hcw.2⟩
          have hnew : newS c r (sat l k) = ⟨(sat l k).lo, min (sat l k).hi (max (r / c) (-999999))⟩ := by unfold newS; rw [if_pos hp]
          by_cases hg : (newS c r (sat l k)).lo > (newS c r (sat l k)).hi
          · rw [if_pos hg, Option.bind_none]
            rw [hnew] at hg
            dsimp only at hg
            refine ⟨eSs (l.set k (newS c r (sat l k))), orc_of ?_⟩
            rw [e33n2, hnew]
            simp only [gd1, hd1, tl1, dr0, dr1, dr2, dr3, dr4, dr5, dr6, bo1, in1, st1, ls1, le1, pt1, fi1, fb1, fs1, ct1, cf1, nt1, nf1, ak0, akT, akF, cdec, cndec, cbeq, cnbeq, ↓reduceIte, beq_self_eq_true, Int.reduceBEq, Int.reduceEq, Bool.and_true, Bool.true_and, Bool.false_and, Bool.and_false, h1, h0, hkl, and_self, enc_len, eSs_len, enc_get g1, hz, h46, told, Bool.not_true, hp, eSs_at hkl', h47, mm_max, mm_min, eSs_hi hkl', List.length_set, hcell, hg]
          · rw [if_neg hg, Option.bind_some]
            have hv := set_val (s := newS c r (sat l k)) hkl' hl (by omega)
            have := ih (k + 1) _ g3 hv (by rw [List.length_set]; exact ho)
            rw [hnew] at hg
            dsimp only at hg
            have key : ∀ q, Or K33n2m1 [lst e of, I t, o0, lst e of, I (of.length : Int), I ((k + 1 : Nat) : Int)] [bS ec (l.set k (newS c r (sat l k)))] = some q → Or K33n2m1 [lst e of, I t, o0, lst e of, I (of.length : Int), I (k : Int)] [bS ec l] = some q := fun q hq => by
              refine orc_of ?_
              rw [hnew] at hq
              rw [e33n2]
              simp only [gd1, hd1, tl1, dr0, dr1, dr2, dr3, dr4, dr5, dr6, bo1, in1, st1, ls1, le1, pt1, fi1, fb1, fs1, ct1, cf1, nt1, nf1, ak0, akT, akF, cdec, cndec, cbeq, cnbeq, ↓reduceIte, beq_self_eq_true, Int.reduceBEq, Int.reduceEq, Bool.and_true, Bool.true_and, Bool.false_and, Bool.and_false, h1, h0, hkl, and_self, enc_len, eSs_len, enc_get g1, hz, h46, told, Bool.not_true, hp, eSs_at hkl', h47, mm_max, mm_min, eSs_hi hkl', List.length_set, hcell, hg, next k (by omega)]
              exact hq
            cases hpp : propF of t rest (k + 1) (l.set k (newS c r (sat l k))) with
            | some l' => rw [hpp] at this; exact key _ this
            | none => rw [hpp] at this; obtain ⟨ll, h⟩ := this; exact ⟨ll, key _ h⟩
        · have hw0 : IntKind.i64.wrap (0 - c) = -c := by rw [wr (by unfold Wh at hcw; omega)]; omega
          have h47 := s47 r (-c) hrb ⟨by omega, by unfold Wh at hcw; omega⟩
          have hq1 : -1000000000000000 ≤ r / (-c) ∧ r / (-c) ≤ 1000000000000000 := by
            have hcp : 0 < -c := by omega
            constructor
            · apply Int.le_ediv_of_mul_le hcp
              have : -1000000000000000 * (-c) ≤ -1000000000000000 * 1 := Int.mul_le_mul_of_nonpos_left (by omega) (by omega)
              omega
            · apply Int.ediv_le_of_le_mul hcp
              have : 1000000000000000 * 1 ≤ 1000000000000000 * (-c) := Int.mul_le_mul_of_nonneg_left (by omega) (by omega)
              omega
          have hw1 : IntKind.i64.wrap (0 - r / (-c)) = -(r / (-c)) := by rw [wr (by omega)]; omega
          have hnew : newS c r (sat l k) = ⟨max (sat l k).lo (min (-(r / (-c))) 999999), (sat l k).hi⟩ := by unfold newS; rw [if_neg hp]
          by_cases hg : (newS c r (sat l k)).lo > (newS c r (sat l k)).hi
          · rw [if_pos hg, Option.bind_none]
            rw [hnew] at hg
            dsimp only at hg
            refine ⟨eSs (l.set k (newS c r (sat l k))), orc_of ?_⟩
            rw [e33n2, hnew]
            simp only [gd1, hd1, tl1, dr0, dr1, dr2, dr3, dr4, dr5, dr6, bo1, in1, st1, ls1, le1, pt1, fi1, fb1, fs1, ct1, cf1, nt1, nf1, ak0, akT, akF, cdec, cndec, cbeq, cnbeq, ↓reduceIte, beq_self_eq_true, Int.reduceBEq, Int.reduceEq, Bool.and_true, Bool.true_and, Bool.false_and, Bool.and_false, h1, h0, hkl, and_self, enc_len, eSs_len, enc_get g1, hz, h46, told, Bool.not_true, hp, eSs_at hkl', hw0, h47, hw1, mm_max, mm_min, eSs_lo hkl', List.length_set, hcell, hg]
          · rw [if_neg hg, Option.bind_some]
            have hv := set_val (s := newS c r (sat l k)) hkl' hl (by omega)
            have := ih (k + 1) _ g3 hv (by rw [List.length_set]; exact ho)
            rw [hnew] at hg
            dsimp only at hg
            have key : ∀ q, Or K33n2m1 [lst e of, I t, o0, lst e of, I (of.length : Int), I ((k + 1 : Nat) : Int)] [bS ec (l.set k (newS c r (sat l k)))] = some q → Or K33n2m1 [lst e of, I t, o0, lst e of, I (of.length : Int), I (k : Int)] [bS ec l] = some q := fun q hq => by
              refine orc_of ?_
              rw [hnew] at hq
              rw [e33n2]
              simp only [gd1, hd1, tl1, dr0, dr1, dr2, dr3, dr4, dr5, dr6, bo1, in1, st1, ls1, le1, pt1, fi1, fb1, fs1, ct1, cf1, nt1, nf1, ak0, akT, akF, cdec, cndec, cbeq, cnbeq, ↓reduceIte, beq_self_eq_true, Int.reduceBEq, Int.reduceEq, Bool.and_true, Bool.true_and, Bool.false_and, Bool.and_false, h1, h0, hkl, and_self, enc_len, eSs_len, enc_get g1, hz, h46, told, Bool.not_true, hp, eSs_at hkl', hw0, h47, hw1, mm_max, mm_min, eSs_lo hkl', List.length_set, hcell, hg, next k (by omega)]
              exact hq
            cases hpp : propF of t rest (k + 1) (l.set k (newS c r (sat l k))) with
            | some l' => rw [hpp] at this; exact key _ this
            | none => rw [hpp] at this; obtain ⟨ll, h⟩ := this; exact ⟨ll, key _ h⟩
theorem s33 (of : List Int) (t : Int) (e ec : Bool) (l : List S) (hc : ∀ c ∈ of, Wh c) (ht : -1000001 ≤ t ∧ t ≤ 1000001) (hl : Val l) (ho : of.length ≤ l.length) :
    Says ec (propF of t of 0 l) (Or (.call 33) [lst e of, I t, o0] [bS ec l]) := by
  have := n33 of t e ec hc ht of 0 l rfl hl ho
  have key : ∀ r, Or K33n2m1 [lst e of, I t, o0, lst e of, I (of.length : Int), I ((0 : Nat) : Int)] [bS ec l] = some r → Or (.call 33) [lst e of, I t, o0] [bS ec l] = some r := fun r hr => by
    refine orc_of ?_
    rw [e33, enc_len]; exact hr
  cases hp : propF of t of 0 l with
  | some l' => rw [hp] at this; exact key _ this
  | none => rw [hp] at this; obtain ⟨ll, h⟩ := this; exact ⟨ll, key _ h⟩
end Go.Aev.Gen
