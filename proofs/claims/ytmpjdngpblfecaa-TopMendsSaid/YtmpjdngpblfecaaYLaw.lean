/-
  What mends meets each core.
-/
import Derived.Test.YtmpjdngpblfecaaYLists
import Derived.Test.YtmpjdngpblfecaaYClause
import Derived.Test.YtmpjdngpblfecaaYSortOk
set_option linter.unusedSimpArgs false
set_option linter.unusedVariables false
namespace Go.Aev.Gen
open Go Go.Aev

/-! ### models -/
def modB (cs : List (List Int)) (k : Nat) : Bool := cs.all fun c => c.any (litB (asgD k))
theorem clitD {l : List Int} (ok : ClOk 4 l) (k : Nat) : ∀ x ∈ l, LOk (asgD k).length x := by
  have : (asgD k).length = 4 := by simp [asgD]
  rw [this]; exact ok.lit
theorem n7 (e : Bool) (cs : List (List Int)) (ok : ∀ l ∈ cs, ClOk 4 l) (hn : cs.length ≤ 8) : ∀ (d k c : Nat), d + k = 16 → c ≤ k →
    ∃ m : Nat, Or K7n3 [r0, I (c : Int), I (k : Int)] [Blk.box [I 4, LC e cs]] = some [ti (m : Int)] ∧ (0 < m ↔ 0 < c ∨ ∃ j, k ≤ j ∧ j < 16 ∧ modB cs j = true) := by
  have hp : IntKind.i64.wrap ((1 : Int) * (2 : Int) ^ min (4 : Int).toNat 64) = 16 := by decide
  have h4 : ¬ (4 : Int) < 0 := by decide
  intro d
  induction d with
  | zero =>
    intro k c hd hc
    obtain rfl : k = 16 := by omega
    refine ⟨c, orc_of ?_, ⟨fun h => .inl h, fun h => ?_⟩⟩
    · rw [e7n3]
      have h1 : ¬ ((16 : Nat) : Int) < 16 := by decide
      simp only [gdF, gd1, hd1, tl1, dr0, dr1, dr2, dr3, dr4, dr5, dr6, bo1, in1, st1, ls1, le1, pt1, fi1, fb1, fs1, ct1, cf1, nt1, nf1, ak0, akT, akF, cdec, cndec, cbeq, cnbeq, ↓reduceIte, beq_self_eq_true, Int.reduceBEq, Int.reduceEq, Bool.and_true, Bool.true_and, Bool.false_and, Bool.and_false, h4, hp, h1]
    · rcases h with h | ⟨j, h1, h2, _⟩
      · exact h
      · omega
  | succ d ih =>
    intro k c hd hc
    have h1 : (k : Int) < 16 := by omega
    have k18 := s18 k (by omega)
    have k17 := s17 e cs false (asgD k) (fun l hl => clitD (ok l hl) k) (by simp [asgD]) (by omega) (fun l hl => by have := (ok l hl).len; omega)
    have hm : (cs.all fun c => c.any (litB (asgD k))) = modB cs k := rfl
    rw [hm] at k17
    cases hb : modB cs k with
    | true =>
      rw [hb] at k17
      obtain ⟨m, q1, q2⟩ := ih (k + 1) (c + 1) (by omega) (by omega)
      refine ⟨m, orc_of ?_, ⟨fun _ => .inr ⟨k, Nat.le_refl _, by omega, hb⟩, fun _ => q2.2 (.inl (by omega))⟩⟩
      rw [e7n3]
      simp only [gdF, gd1, hd1, tl1, dr0, dr1, dr2, dr3, dr4, dr5, dr6, bo1, in1, st1, ls1, le1, pt1, fi1, fb1, fs1, ct1, cf1, nt1, nf1, ak0, akT, akF, cdec, cndec, cbeq, cnbeq, ↓reduceIte, beq_self_eq_true, Int.reduceBEq, Int.reduceEq, Bool.and_true, Bool.true_and, Bool.false_and, Bool.and_false, h4, hp, h1, k18, k17, next k (by omega), next c (by omega)]
      exact q1
    | false =>
      rw [hb] at k17
      obtain ⟨m, q1, q2⟩ := ih (k + 1) c (by omega) (by omega)
      refine ⟨m, orc_of ?_, q2.trans ⟨fun h => ?_, fun h => ?_⟩⟩
      · rw [e7n3]
        simp only [gdF, gd1, hd1, tl1, dr0, dr1, dr2, dr3, dr4, dr5, dr6, bo1, in1, st1, ls1, le1, pt1, fi1, fb1, fs1, ct1, cf1, nt1, nf1, ak0, akT, akF, cdec, cndec, cbeq, cnbeq, ↓reduceIte, beq_self_eq_true, Int.reduceBEq, Int.reduceEq, Bool.and_true, Bool.true_and, Bool.false_and, Bool.and_false, h4, hp, h1, k18, k17, next k (by omega)]
        exact q1
      · rcases h with h | ⟨j, a, b, g⟩
        · exact .inl h
        · exact .inr ⟨j, by omega, b, g⟩
      · rcases h with h | ⟨j, a, b, g⟩
        · exact .inl h
        · refine .inr ⟨j, ?_, b, g⟩
          by_cases e : j = k
          · subst e; rw [hb] at g; cases g
          · omega
theorem s7 (e : Bool) (cs : List (List Int)) (ok : ∀ l ∈ cs, ClOk 4 l) (hn : cs.length ≤ 8) : ∃ m : Nat, Or (.call 7) [AV.agg [I 4, LC e cs]] [] = some [ti (m : Int)] ∧ (0 < m ↔ ∃ j, j < 16 ∧ modB cs j = true) := by
  obtain ⟨m, q1, q2⟩ := n7 e cs ok hn 16 0 0 rfl (Nat.le_refl _)
  refine ⟨m, orc_of ?_, q2.trans ⟨fun h => ?_, fun ⟨j, a, b⟩ => .inr ⟨j, Nat.zero_le _, a, b⟩⟩⟩
  · rw [e7]
    exact q1
  · rcases h with h | ⟨j, _, a, b⟩
    · omega
    · exact ⟨j, a, b⟩
/-! ### The mathematics -/
def isC (cs : List (List Int)) (s : Nat) : Bool := !(opB 4 (setsL 4 cs) (fun i => s.testBit i))
def isM (cs : List (List Int)) (s : Nat) : Bool := opB 4 (setsL 4 cs) (fun i => !s.testBit i)
theorem op_iff (cs : List (List Int)) (inn : Nat → Bool) : opB 4 (setsL 4 cs) inn = true ↔ ∃ j, j < 16 ∧ ∀ k, k < cs.length → inn k = true → satB 4 (cs.getD k []) j = true := by
  rw [opB_iff]
  have hl : (setsL 4 cs).length = cs.length := by simp [setsL]
  have hg : ∀ k j, k < cs.length → j < 16 → ((setsL 4 cs).getD k 0).testBit j = satB 4 (cs.getD k []) j := fun k j hk hj => by
    unfold setsL
    rw [List.getD_eq_getElem?_getD, List.getElem?_map, List.getD_eq_getElem?_getD, List.getElem?_eq_getElem hk]
    simp only [Option.map_some, Option.getD_some]
    rw [mk_bit]
    have : j < 2 ^ 4 := hj
    simp [this]
  rw [hl]
  constructor
  · rintro ⟨j, hj, h⟩
    exact ⟨j, hj, fun k hk hi => by rw [← hg k j hk hj]; exact h k hk hi⟩
  · rintro ⟨j, hj, h⟩
    exact ⟨j, hj, fun k hk hi => by rw [hg k j hk hj]; exact h k hk hi⟩
/-- Where some set is one, a least one is. -/
theorem least_ex {n : Nat} (hn : n ≤ 8) (f : Nat → Bool) : ∀ (s : Nat), s < 2 ^ n → f s = true → ∃ t, t < 2 ^ n ∧ minB n f t = true := by
  have h256 := p8 hn
  intro s
  induction s using Nat.strongRecOn with
  | ind s ih =>
    intro hs hf
    by_cases hm : minB n f s = true
    · exact ⟨s, hs, hm⟩
    · unfold minB at hm
      rw [hf, Bool.true_and, List.all_eq_true] at hm
      have : ∃ i, i < n ∧ s.testBit i = true ∧ f (clr s i) = true := by
        refine Classical.byContradiction fun hno => hm fun i hi => ?_
        have hi' : i < n := by simpa using hi
        cases h1 : s.testBit i with
        | false => rfl
        | true =>
          cases h2 : f (clr s i) with
          | false => rfl
          | true => exact absurd ⟨i, hi', h1, h2⟩ hno
      obtain ⟨i, hi, h1, h2⟩ := this
      have hlt := clr_lt s (by omega) i (by omega) h1
      exact ih (clr s i) hlt (by omega) h2
theorem lst_ne {n : Nat} (hn : n ≤ 8) (f : Nat → Bool) : lstF n f = [] ↔ ∀ s, s < 2 ^ n → f s = false := by
  unfold lstF
  rw [List.map_eq_nil_iff, List.filter_eq_nil_iff]
  constructor
  · intro h s hs
    cases hf : f s with
    | false => rfl
    | true =>
      obtain ⟨t, ht, hm⟩ := least_ex hn f s hs hf
      exact absurd hm (h t (by simpa using ht))
  · intro h s hs hm
    unfold minB at hm
    rw [h s (by simpa using hs)] at hm
    cases hm
theorem full_bit {n i : Nat} (hi : i < n) : (2 ^ n - 1).testBit i = true := by rw [Nat.testBit_two_pow_sub_one]; simpa using hi
theorem full_lt (n : Nat) : 2 ^ n - 1 < 2 ^ n := by have := Nat.two_pow_pos n; omega
/-- There are mends. -/
theorem mends_ne {cs : List (List Int)} (hn : cs.length ≤ 8) : lstF cs.length (isM cs) ≠ [] := fun h => by
  have := (lst_ne hn _).1 h (2 ^ cs.length - 1) (full_lt _)
  unfold isM at this
  have h2 : opB 4 (setsL 4 cs) (fun i => !(2 ^ cs.length - 1).testBit i) = true := (op_iff cs _).2 ⟨0, by decide, fun k hk hi => by
    rw [full_bit hk] at hi; cases hi⟩
  rw [h2] at this
  cases this
set_option maxRecDepth 100000 in
theorem asg_to : ∀ j < 16, ∃ k, k < 16 ∧ asgD k = asg 4 j := by decide +kernel
set_option maxRecDepth 100000 in
theorem asg_from : ∀ k < 16, ∃ j, j < 16 ∧ asgD k = asg 4 j := by decide +kernel
/-- There are cores just if no assignment makes all hold. -/
theorem cores_nil {cs : List (List Int)} (hn : cs.length ≤ 8) : lstF cs.length (isC cs) = [] ↔ ∃ j, j < 16 ∧ modB cs j = true := by
  have all_iff : ∀ k j, asgD k = asg 4 j → (modB cs k = true ↔ ∀ i, i < cs.length → satB 4 (cs.getD i []) j = true) := fun k j e => by
    unfold modB satB
    rw [e, List.all_eq_true]
    constructor
    · intro h i hi
      rw [List.getD_eq_getElem?_getD, List.getElem?_eq_getElem hi]
      exact h _ (List.getElem_mem hi)
    · intro h l hl
      obtain ⟨i, hi, rfl⟩ := List.getElem_of_mem hl
      have := h i hi
      rw [List.getD_eq_getElem?_getD, List.getElem?_eq_getElem hi] at this
      exact this
  rw [lst_ne hn]
  constructor
  · intro h
    have := h (2 ^ cs.length - 1) (full_lt _)
    unfold isC at this
    have h2 : opB 4 (setsL 4 cs) (fun i => (2 ^ cs.length - 1).testBit i) = true := by simpa using this
    obtain ⟨j, hj, h3⟩ := (op_iff cs _).1 h2
    obtain ⟨k, hk, e⟩ := asg_to j hj
    exact ⟨k, hk, (all_iff k j e).2 fun i hi => h3 i hi (full_bit hi)⟩
  · rintro ⟨k, hk, h⟩ s hs
    obtain ⟨j, hj, e⟩ := asg_from k hk
    have h3 := (all_iff k j e).1 h
    unfold isC
    rw [(op_iff cs _).2 ⟨j, hj, fun i hi _ => h3 i hi⟩]; rfl
/-- A mend has one of each core. -/
theorem meet {cs : List (List Int)} {s t : Nat} (hs : isC cs s = true) (ht : isM cs t = true) : ∃ i, i < cs.length ∧ s.testBit i = true ∧ t.testBit i = true := by
  refine Classical.byContradiction fun hno => ?_
  obtain ⟨j, hj, h⟩ := (op_iff cs _).1 ht
  have : opB 4 (setsL 4 cs) (fun i => s.testBit i) = true := (op_iff cs _).2 ⟨j, hj, fun k hk hi => h k hk (by
    cases hb : t.testBit k with
    | false => rfl
    | true => exact absurd ⟨k, hk, hi, hb⟩ hno)⟩
  unfold isC at hs
  rw [this] at hs
  cases hs
theorem bits_mem {n s i : Nat} (hi : i < n) (h : s.testBit i = true) : ((i : Nat) : Int) ∈ bitsL n s := by
  unfold bitsL
  refine List.mem_map.2 ⟨i, ?_, rfl⟩
  rw [List.mem_filter]
  exact ⟨by simpa using hi, h⟩
theorem meet_all {cs : List (List Int)} {a b : List Int} (ha : a ∈ Ys.sortL (lstF cs.length (isC cs))) (hb : b ∈ Ys.sortL (lstF cs.length (isM cs))) : (a.any fun x => b.any fun y => x == y) = true := by
  rw [Ys.sort_mem] at ha hb
  obtain ⟨s, hs, rfl⟩ := List.mem_map.1 ha
  obtain ⟨t, ht, rfl⟩ := List.mem_map.1 hb
  have h1 := (List.mem_filter.1 hs).2
  have h2 := (List.mem_filter.1 ht).2
  unfold minB at h1 h2
  rw [Bool.and_eq_true] at h1 h2
  obtain ⟨i, hi, m1, m2⟩ := meet h1.1 h2.1
  rw [List.any_eq_true]
  refine ⟨_, bits_mem hi m1, ?_⟩
  rw [List.any_eq_true]
  exact ⟨_, bits_mem hi m2, by simp⟩
/-! ### The law's loops -/
section
variable (ea eb : Bool) (A M : List (List Int))
theorem n318 {i j k : Nat} {a b : List Int} {x : Int} (ha : A[i]? = some a) (hb : M[j]? = some b) (hx : a[k]? = some x) (hl : b.length ≤ 1000) (hk : k ≤ 1000) {r : List T} : ∀ (rest : List Int) (m : Nat) (f : Bool), b.drop m = rest →
    Or K3n15 [LC ea A, LC eb M, I (i : Int), I (j : Int), B (f || rest.any fun y => x == y), I ((k + 1 : Nat) : Int)] [] = some r →
    Or K3n18 [LC ea A, LC eb M, I (i : Int), I (j : Int), B f, I (k : Int), I (m : Int)] [] = some r := by
  have hi : 0 ≤ (i : Int) ∧ (i : Int) < (A.length : Int) := by have := (List.getElem?_eq_some_iff.1 ha).1; omega
  have hj : 0 ≤ (j : Int) ∧ (j : Int) < (M.length : Int) := by have := (List.getElem?_eq_some_iff.1 hb).1; omega
  have hk2 : 0 ≤ (k : Int) ∧ (k : Int) < (a.length : Int) := by have := (List.getElem?_eq_some_iff.1 hx).1; omega
  intro rest
  induction rest with
  | nil =>
    intro m f g hr
    have h1 : ¬ (m : Int) < (b.length : Int) := by have := at_end g; omega
    rw [List.any_nil, Bool.or_false] at hr
    refine orc_of ?_
    rw [e3n18]
    simp only [gd1, hd1, tl1, dr0, dr1, dr2, dr3, dr4, dr5, dr6, bo1, in1, st1, ls1, le1, pt1, fi1, fb1, fs1, ct1, cf1, nt1, nf1, ak0, akT, akF, cdec, cndec, cbeq, cnbeq, ↓reduceIte, beq_self_eq_true, Int.reduceBEq, Int.reduceEq, Bool.and_true, Bool.true_and, Bool.false_and, Bool.and_false, hj, and_self, encC_len, encC_get hb, enc_len, h1, next k (by omega)]
    exact hr
  | cons y rest ih =>
    intro m f g hr
    obtain ⟨g1, g2, g3⟩ := at_drop g
    have h1 : (m : Int) < (b.length : Int) := by omega
    have h0 : 0 ≤ (m : Int) := by omega
    rw [List.any_cons, ← Bool.or_assoc] at hr
    have := ih (m + 1) (f || x == y) g3 hr
    refine orc_of ?_
    rw [e3n18]
    cases f with
    | true =>
      simp only [gdF, gd1, hd1, tl1, dr0, dr1, dr2, dr3, dr4, dr5, dr6, bo1, in1, st1, ls1, le1, pt1, fi1, fb1, fs1, ct1, cf1, nt1, nf1, ak0, akT, akF, cdec, cndec, cbeq, cnbeq, ↓reduceIte, beq_self_eq_true, Int.reduceBEq, Int.reduceEq, Bool.and_true, Bool.true_and, Bool.false_and, Bool.and_false, hj, and_self, encC_len, encC_get hb, enc_len, h1, next m (by omega)]
      exact this
    | false =>
      simp only [gdF, gd1, hd1, tl1, dr0, dr1, dr2, dr3, dr4, dr5, dr6, bo1, in1, st1, ls1, le1, pt1, fi1, fb1, fs1, ct1, cf1, nt1, nf1, ak0, akT, akF, cdec, cndec, cbeq, cnbeq, ↓reduceIte, beq_self_eq_true, Int.reduceBEq, Int.reduceEq, Bool.and_true, Bool.true_and, Bool.false_and, Bool.and_false, hi, hj, hk2, and_self, encC_len, encC_get hb, encC_get ha, enc_len, enc_get hx, enc_get g1, h1, h0, next m (by omega)]
      exact this
theorem n315 {i j : Nat} {a b : List Int} (ha : A[i]? = some a) (hb : M[j]? = some b) (hl : b.length ≤ 1000) (hl2 : a.length ≤ 1000) (hj1 : j ≤ 1000) {r : List T}
    (hr : Or K3n11 [LC ea A, LC eb M, I (i : Int), I ((j + 1 : Nat) : Int)] [] = some r) : ∀ (rest : List Int) (k : Nat) (f : Bool), a.drop k = rest → (f || rest.any fun x => b.any fun y => x == y) = true →
    Or K3n15 [LC ea A, LC eb M, I (i : Int), I (j : Int), B f, I (k : Int)] [] = some r := by
  have hi : 0 ≤ (i : Int) ∧ (i : Int) < (A.length : Int) := by have := (List.getElem?_eq_some_iff.1 ha).1; omega
  intro rest
  induction rest with
  | nil =>
    intro k f g hf
    rw [List.any_nil, Bool.or_false] at hf
    subst hf
    have h1 : ¬ (k : Int) < (a.length : Int) := by have := at_end g; omega
    refine orc_of ?_
    rw [e3n15]
    simp only [gd1, hd1, tl1, dr0, dr1, dr2, dr3, dr4, dr5, dr6, bo1, in1, st1, ls1, le1, pt1, fi1, fb1, fs1, ct1, cf1, nt1, nf1, ak0, akT, akF, cdec, cndec, cbeq, cnbeq, ↓reduceIte, beq_self_eq_true, Int.reduceBEq, Int.reduceEq, Bool.and_true, Bool.true_and, Bool.false_and, Bool.and_false, hi, and_self, encC_len, encC_get ha, enc_len, h1, Bool.not_true, next j (by omega)]
    exact hr
  | cons x rest ih =>
    intro k f g hf
    obtain ⟨g1, g2, g3⟩ := at_drop g
    have h1 : (k : Int) < (a.length : Int) := by omega
    rw [List.any_cons, ← Bool.or_assoc] at hf
    have := n318 ea eb A M ha hb g1 hl (by omega) b 0 f rfl (ih (k + 1) _ g3 hf)
    refine orc_of ?_
    rw [e3n15]
    simp only [gd1, hd1, tl1, dr0, dr1, dr2, dr3, dr4, dr5, dr6, bo1, in1, st1, ls1, le1, pt1, fi1, fb1, fs1, ct1, cf1, nt1, nf1, ak0, akT, akF, cdec, cndec, cbeq, cnbeq, ↓reduceIte, beq_self_eq_true, Int.reduceBEq, Int.reduceEq, Bool.and_true, Bool.true_and, Bool.false_and, Bool.and_false, hi, and_self, encC_len, encC_get ha, enc_len, h1]
    exact this
theorem n311 {i : Nat} {a : List Int} (ha : A[i]? = some a) (hl2 : a.length ≤ 1000) (hl : ∀ b ∈ M, b.length ≤ 1000) (hM : M.length ≤ 1000) (hi1 : i ≤ 1000) (hm : ∀ b ∈ M, (a.any fun x => b.any fun y => x == y) = true) {r : List T}
    (hr : Or K3n8 [LC ea A, LC eb M, I ((i + 1 : Nat) : Int)] [] = some r) : ∀ (rest : List (List Int)) (j : Nat), M.drop j = rest → Or K3n11 [LC ea A, LC eb M, I (i : Int), I (j : Int)] [] = some r := by
  intro rest
  induction rest with
  | nil =>
    intro j g
    have h1 : ¬ (j : Int) < (M.length : Int) := by have := at_end g; omega
    refine orc_of ?_
    rw [e3n11]
    simp only [gd1, hd1, tl1, dr0, dr1, dr2, dr3, dr4, dr5, dr6, bo1, in1, st1, ls1, le1, pt1, fi1, fb1, fs1, ct1, cf1, nt1, nf1, ak0, akT, akF, cdec, cndec, cbeq, cnbeq, ↓reduceIte, beq_self_eq_true, Int.reduceBEq, Int.reduceEq, Bool.and_true, Bool.true_and, Bool.false_and, Bool.and_false, encC_len, h1, next i (by omega)]
    exact hr
  | cons b rest ih =>
    intro j g
    obtain ⟨g1, g2, g3⟩ := at_drop g
    have h1 : (j : Int) < (M.length : Int) := by omega
    have hbm := List.mem_of_getElem? g1
    have := n315 ea eb A M ha g1 (hl b hbm) hl2 (by omega) (ih (j + 1) g3) a 0 false rfl (by rw [Bool.false_or]; exact hm b hbm)
    refine orc_of ?_
    rw [e3n11]
    simp only [gd1, hd1, tl1, dr0, dr1, dr2, dr3, dr4, dr5, dr6, bo1, in1, st1, ls1, le1, pt1, fi1, fb1, fs1, ct1, cf1, nt1, nf1, ak0, akT, akF, cdec, cndec, cbeq, cnbeq, ↓reduceIte, beq_self_eq_true, Int.reduceBEq, Int.reduceEq, Bool.and_true, Bool.true_and, Bool.false_and, Bool.and_false, encC_len, h1]
    exact this
theorem n38 (hl2 : ∀ a ∈ A, a.length ≤ 1000) (hl : ∀ b ∈ M, b.length ≤ 1000) (hM : M.length ≤ 1000) (hA : A.length ≤ 1000) (hm : ∀ a ∈ A, ∀ b ∈ M, (a.any fun x => b.any fun y => x == y) = true) : ∀ (rest : List (List Int)) (i : Nat), A.drop i = rest →
    Or K3n8 [LC ea A, LC eb M, I (i : Int)] [] = some [tb true] := by
  intro rest
  induction rest with
  | nil =>
    intro i g
    have h1 : ¬ (i : Int) < (A.length : Int) := by have := at_end g; omega
    refine orc_of ?_
    rw [e3n8]
    simp only [gd1, hd1, tl1, dr0, dr1, dr2, dr3, dr4, dr5, dr6, bo1, in1, st1, ls1, le1, pt1, fi1, fb1, fs1, ct1, cf1, nt1, nf1, ak0, akT, akF, cdec, cndec, cbeq, cnbeq, ↓reduceIte, beq_self_eq_true, Int.reduceBEq, Int.reduceEq, Bool.and_true, Bool.true_and, Bool.false_and, Bool.and_false, encC_len, h1]
  | cons a rest ih =>
    intro i g
    obtain ⟨g1, g2, g3⟩ := at_drop g
    have h1 : (i : Int) < (A.length : Int) := by omega
    have ham := List.mem_of_getElem? g1
    have := n311 ea eb A M g1 (hl2 a ham) hl hM (by omega) (hm a ham) (ih (i + 1) g3) M 0 rfl
    refine orc_of ?_
    rw [e3n8]
    simp only [gd1, hd1, tl1, dr0, dr1, dr2, dr3, dr4, dr5, dr6, bo1, in1, st1, ls1, le1, pt1, fi1, fb1, fs1, ct1, cf1, nt1, nf1, ak0, akT, akF, cdec, cndec, cbeq, cnbeq, ↓reduceIte, beq_self_eq_true, Int.reduceBEq, Int.reduceEq, Bool.and_true, Bool.true_and, Bool.false_and, Bool.and_false, encC_len, h1]
    exact this
end
theorem lst_small {n : Nat} (hn : n ≤ 8) (f : Nat → Bool) : (Ys.sortL (lstF n f)).length ≤ 256 ∧ ∀ l ∈ Ys.sortL (lstF n f), l.length ≤ 8 := by
  have h := p8 hn
  refine ⟨?_, fun l hl => ?_⟩
  · rw [Ys.sort_len]
    have := lstK_len n f (2 ^ n)
    exact Nat.le_trans this h
  · rw [Ys.sort_mem] at hl
    obtain ⟨s, _, rfl⟩ := List.mem_map.1 hl
    exact Nat.le_trans (bitsL_len n s) hn
/-- The closed call. -/
def one : List (List Int) := [[1], [-1]]
theorem one_len : (lstF 2 (fun s => !(opB 1 (setsL 1 one) (fun i => s.testBit i)))).length = 1 := by decide +kernel
theorem one_ok : ∀ l ∈ one, ClOk 1 l := by
  intro l hl
  rcases List.mem_cons.1 hl with rfl | hl
  · exact ⟨by simp [LOk], by decide, by decide⟩
  · rw [List.mem_singleton.1 hl]
    exact ⟨by simp [LOk], by decide, by decide⟩
theorem law (raw : List Int) (e : Bool) : Or (.call 3) [lst e raw] [] = some [tb true] := by
  obtain ⟨cs, hn, ok, k4⟩ := s4 e raw
  have k5 : Or (.call 5) [AV.agg [I 4, LC cs.isEmpty cs]] [] = some [T.lst 1 (lstF cs.length (isC cs)).isEmpty (encC (Ys.sortL (lstF cs.length (isC cs)))), ti 0, ti 0] := s5 (v := 4) (.inl rfl) cs.isEmpty cs ok hn
  have k6 : Or (.call 6) [AV.agg [I 4, LC cs.isEmpty cs]] [] = some [T.lst 1 (lstF cs.length (isM cs)).isEmpty (encC (Ys.sortL (lstF cs.length (isM cs)))), ti 0, ti 0] := s6 (v := 4) (.inl rfl) cs.isEmpty cs ok hn
  have k5o : Or (.call 5) [AV.agg [I 1, AV.t (T.lst 1 false [[T.lst 1 false [[ti 1]]], [T.lst 1 false [[ti (-1)]]]])]] [] = some [T.lst 1 (lstF 2 (fun s => !(opB 1 (setsL 1 one) (fun i => s.testBit i)))).isEmpty (encC (Ys.sortL (lstF 2 (fun s => !(opB 1 (setsL 1 one) (fun i => s.testBit i)))))), ti 0, ti 0] := s5 (v := 1) (.inr rfl) false one one_ok (by decide)
  obtain ⟨m, k7, hm⟩ := s7 cs.isEmpty cs ok hn
  have l1 : ((encC (Ys.sortL (lstF 2 (fun s => !(opB 1 (setsL 1 one) (fun i => s.testBit i)))))).length : Int) = 1 := by rw [encC_len, Ys.sort_len, one_len]; rfl
  have l2 : ¬ ((encC (Ys.sortL (lstF cs.length (isM cs)))).length : Int) = 0 := by
    rw [encC_len, Ys.sort_len]
    intro h
    exact mends_ne hn (List.length_eq_zero_iff.1 (by omega))
  have l2b : (((encC (Ys.sortL (lstF cs.length (isM cs)))).length : Int) == 0) = false := beq_eq_false_iff_ne.2 l2
  have l3 : ((((encC (Ys.sortL (lstF cs.length (isC cs)))).length : Int) == 0) == decide ((m : Int) > 0)) = true := by
    have : (((encC (Ys.sortL (lstF cs.length (isC cs)))).length : Int) = 0) ↔ (m : Int) > 0 := by
      rw [encC_len, Ys.sort_len]
      have h1 := cores_nil (cs := cs) hn
      have h2 : ((lstF cs.length (isC cs)).length : Int) = 0 ↔ lstF cs.length (isC cs) = [] := by
        rw [← List.length_eq_zero_iff]; omega
      rw [h2, h1, ← hm]
      omega
    by_cases h : (m : Int) > 0
    · rw [decide_eq_true h]
      have := this.2 h
      simp [this]
    · rw [decide_eq_false h]
      have : ¬ ((encC (Ys.sortL (lstF cs.length (isC cs)))).length : Int) = 0 := fun g => h (this.1 g)
      rw [beq_eq_false_iff_ne.2 this]; rfl
  have c1 := lst_small hn (isC cs)
  have c2 := lst_small hn (isM cs)
  have main := n38 (lstF cs.length (isC cs)).isEmpty (lstF cs.length (isM cs)).isEmpty _ _ (fun a h => Nat.le_trans (c1.2 a h) (by decide)) (fun b h => Nat.le_trans (c2.2 b h) (by decide)) (Nat.le_trans c2.1 (by decide)) (Nat.le_trans c1.1 (by decide)) (fun a ha b hb => meet_all (cs := cs) ha hb) _ 0 rfl
  refine orc_of ?_
  rw [e3]
  simp only [gdF, gd1, hd1, tl1, dr0, dr1, dr2, dr3, dr4, dr5, dr6, bo1, in1, st1, ls1, le1, pt1, fi1, fb1, fs1, ct1, cf1, nt1, nf1, ak0, akT, akF, cdec, cndec, cbeq, cnbeq, ↓reduceIte, beq_self_eq_true, Int.reduceBEq, Int.reduceEq, Bool.and_true, Bool.true_and, Bool.false_and, Bool.and_false, k4, k5, k6, k5o, k7, l1, l2, l2b, askO, Bool.not_false, Bool.not_true]
  rw [l3]
  exact main
end Go.Aev.Gen
