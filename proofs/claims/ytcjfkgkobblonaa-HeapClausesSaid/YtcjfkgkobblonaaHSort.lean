/-
  What heap.terms returns, as a function: by variables.
-/
import Derived.Test.YtcjfkgkobblonaaHTerms
set_option linter.unusedSimpArgs false
set_option linter.unusedVariables false
namespace Go.Aev.Hp
open Go Go.Proofs.Ytcjfkgkobblonaa Go.RowKit

/-- What each variable counts. -/
def amtP : List Int → List Int → Int → Int
  | l :: ls, o :: os, v => (if l = v then o else if l = -v then -o else 0) + amtP ls os v
  | _, _, _ => 0
def hasP (ls : List Int) (v : Int) : Bool := ls.any fun l => l == v || l == -v
def negP : List Int → List Int → Int
  | l :: ls, o :: os => (if l < 0 then o else 0) + negP ls os
  | _, _ => 0
def term1 (v a : Int) : List (Int × Int) := if 0 < a then [(v, a)] else if a < 0 then [(-v, -a)] else []
def vars (n : Nat) : List Int := (List.range n).map fun (i : Nat) => ((i : Int) + 1)
def termsF (ls os : List Int) : List (Int × Int) := (vars 120).flatMap fun v => term1 v (amtP ls os v)
def low (a : Int) : Int := if a < 0 then a else 0
def sumZ : List Int → Int
  | [] => 0
  | x :: r => x + sumZ r
def baseF (ls os : List Int) : Int := negP ls os + sumZ ((vars 120).map fun v => low (amtP ls os v))

def okL (l : Int) : Bool := decide (l ≠ 0) && decide (-120 ≤ l) && decide (l ≤ 120)
def okO (o : Int) : Bool := decide (-1000000000 ≤ o) && decide (o ≤ 1000000000)
theorem okL_iff {l : Int} : okL l = true ↔ l ≠ 0 ∧ -120 ≤ l ∧ l ≤ 120 := by simp [okL, and_assoc]
theorem okO_iff {o : Int} : okO o = true ↔ -1000000000 ≤ o ∧ o ≤ 1000000000 := by simp [okO]

theorem w64 {n : Int} (h : -9000000000000000000 ≤ n ∧ n ≤ 9000000000000000000) : wrap64 n = n := by unfold wrap64; omega

theorem sumZ_perm {a b : List Int} (h : a.Perm b) : sumZ a = sumZ b := by
  induction h with
  | nil => rfl
  | cons x _ ih => simp [sumZ, ih]
  | swap x y l => simp [sumZ]; omega
  | trans _ _ h1 h2 => rw [h1, h2]
theorem sumZ_append (a b : List Int) : sumZ (a ++ b) = sumZ a + sumZ b := by
  induction a with
  | nil => simp [sumZ]
  | cons x r ih => simp [sumZ, ih]; omega

theorem amtP_snoc : ∀ {ls os : List Int} (l o v : Int), ls.length = os.length → amtP (ls ++ [l]) (os ++ [o]) v = amtP ls os v + (if l = v then o else if l = -v then -o else 0)
  | [], [], l, o, v, _ => by simp [amtP]
  | l' :: ls, o' :: os, l, o, v, h => by
    simp only [List.cons_append, amtP]; rw [amtP_snoc l o v (by simpa using h)]; omega
theorem negP_snoc : ∀ {ls os : List Int} (l o : Int), ls.length = os.length → negP (ls ++ [l]) (os ++ [o]) = negP ls os + (if l < 0 then o else 0)
  | [], [], l, o, _ => by simp [negP]
  | l' :: ls, o' :: os, l, o, h => by
    simp only [List.cons_append, negP]; rw [negP_snoc l o (by simpa using h)]; omega

/-- The bounds of sums. -/
theorem amtP_bound : ∀ {ls os : List Int} (v : Int), (∀ o ∈ os, okO o = true) → -1000000000 * (ls.length : Int) ≤ amtP ls os v ∧ amtP ls os v ≤ 1000000000 * (ls.length : Int)
  | [], os, v, _ => by simp [amtP]
  | l :: ls, [], v, _ => by simp [amtP]; omega
  | l :: ls, o :: os, v, h => by
    have ih := amtP_bound (ls := ls) v (fun x hx => h x (List.mem_cons_of_mem _ hx))
    have ho := okO_iff.1 (h o (List.mem_cons_self ..))
    simp only [amtP, List.length_cons]
    (repeat' split) <;> omega

/-- What the program's first loop holds behind k rounds. -/
structure Spec (ls os : List Int) (s : Tm) : Prop where
  amt : ∀ v, 0 < v → v ≤ 120 → s.amt v = amtP ls os v
  has : ∀ v, s.has v = true ↔ 0 < v ∧ hasP ls v = true
  base : s.base = negP ls os

theorem negP_bound : ∀ {ls os : List Int}, (∀ o ∈ os, okO o = true) → -1000000000 * (ls.length : Int) ≤ negP ls os ∧ negP ls os ≤ 1000000000 * (ls.length : Int)
  | [], os, _ => by simp [negP]
  | l :: ls, [], _ => by simp [negP]; omega
  | l :: ls, o :: os, h => by
    have ih := negP_bound (ls := ls) (fun x hx => h x (List.mem_cons_of_mem _ hx))
    have ho := okO_iff.1 (h o (List.mem_cons_self ..))
    simp only [negP, List.length_cons]
    split <;> omega

theorem hasP_snoc (ls : List Int) (l v : Int) : hasP (ls ++ [l]) v = (hasP ls v || (l == v || l == -v)) := by simp [hasP]

theorem spec_step {ls os : List Int} {s : Tm} {l o : Int} (h : Spec ls os s) (hlen : ls.length = os.length) (hn : ls.length ≤ 60) (hos : ∀ o ∈ os, okO o = true) (hl : okL l = true) (ho : okO o = true) :
    Spec (ls ++ [l]) (os ++ [o]) (tmStep s l o) := by
  obtain ⟨l0, l1, l2⟩ := okL_iff.1 hl
  obtain ⟨o1, o2⟩ := okO_iff.1 ho
  have hb := negP_bound (ls := ls) hos
  unfold tmStep
  split
  · rename_i hp
    refine ⟨fun v v0 v1 => ?_, fun v => ?_, ?_⟩
    · have ha := h.amt v v0 v1
      have hb := amtP_bound (ls := ls) v hos
      rw [amtP_snoc l o v hlen]
      by_cases e : v = l
      · subst e; simp only [if_true]; rw [ha, w64 (by omega)]
      · simp only [if_neg e]; rw [if_neg (fun h => e h.symm), if_neg (by omega), ha]; omega
    · rw [hasP_snoc]
      simp only [Bool.or_eq_true, beq_iff_eq, h.has v]
      constructor
      · rintro (rfl | ⟨h1, h2⟩)
        · exact ⟨hp, .inr (.inl rfl)⟩
        · exact ⟨h1, .inl h2⟩
      · rintro ⟨h1, h2 | h2 | h2⟩
        · exact .inr ⟨h1, h2⟩
        · exact .inl h2.symm
        · omega
    · rw [negP_snoc l o hlen, if_neg (by omega)]; simp [h.base]
  · rename_i hp
    have ew : wrap64 (-l) = -l := w64 (by omega)
    rw [ew]
    refine ⟨fun v v0 v1 => ?_, fun v => ?_, ?_⟩
    · have ha := h.amt v v0 v1
      have hb := amtP_bound (ls := ls) v hos
      rw [amtP_snoc l o v hlen]
      by_cases e : v = -l
      · subst e; simp only [if_true]; rw [ha, if_neg (by omega), if_pos (by omega), w64 (by omega)]; omega
      · simp only [if_neg e]; rw [if_neg (by omega), if_neg (by omega), ha]; omega
    · rw [hasP_snoc]
      simp only [Bool.or_eq_true, beq_iff_eq, h.has v]
      constructor
      · rintro (rfl | ⟨h1, h2⟩)
        · exact ⟨by omega, .inr (.inr (by omega))⟩
        · exact ⟨h1, .inl h2⟩
      · rintro ⟨h1, h2 | h2 | h2⟩
        · exact .inr ⟨h1, h2⟩
        · omega
        · exact .inl (by omega)
    · rw [negP_snoc l o hlen, if_pos (by omega)]; simp only [h.base]; exact w64 (by omega)

theorem spec_take (ls os : List Int) (hlen : ls.length = os.length) (hn : ls.length ≤ 60) (hl : ∀ l ∈ ls, okL l = true) (ho : ∀ o ∈ os, okO o = true) :
    ∀ k, k ≤ ls.length → Spec (ls.take k) (os.take k) (tmF ls os k)
  | 0, _ => ⟨fun v _ _ => by simp [tmF, amtP], fun v => by simp [tmF, hasP], by simp [tmF, negP]⟩
  | k + 1, hk => by
    have ih := spec_take ls os hlen hn hl ho k (by omega)
    have e1 : ls.take (k + 1) = ls.take k ++ [ls.getD k 0] := by rw [List.take_add_one, List.getD, List.getElem?_eq_getElem (by omega)]; rfl
    have e2 : os.take (k + 1) = os.take k ++ [os.getD k 0] := by rw [List.take_add_one, List.getD, List.getElem?_eq_getElem (by omega)]; rfl
    rw [e1, e2, tmF]
    refine spec_step ih (by simp; omega) (by simp; omega) (fun o h => ho o (List.mem_of_mem_take h)) ?_ ?_
    · rw [List.getD, List.getElem?_eq_getElem (by omega)]; exact hl _ (List.getElem_mem _)
    · rw [List.getD, List.getElem?_eq_getElem (by omega)]; exact ho _ (List.getElem_mem _)

theorem mem_vars {n : Nat} {v : Int} : v ∈ vars n ↔ 0 < v ∧ v ≤ n := by
  simp only [vars, List.mem_map, List.mem_range]
  constructor
  · rintro ⟨i, hi, rfl⟩; omega
  · rintro ⟨h1, h2⟩; exact ⟨(v - 1).toNat, by omega, by omega⟩
theorem vars_pairwise (n : Nat) : (vars n).Pairwise (· < ·) := by
  unfold vars
  rw [List.pairwise_map]
  exact (List.pairwise_lt_range (n := n)).imp fun h => by omega

theorem hasP_of_amt : ∀ {ls os : List Int} {v : Int}, amtP ls os v ≠ 0 → hasP ls v = true
  | [], _, _, h => by simp [amtP] at h
  | l :: ls, [], _, h => by simp [amtP] at h
  | l :: ls, o :: os, v, h => by
    simp only [amtP] at h
    simp only [hasP, List.any_cons, Bool.or_eq_true, beq_iff_eq]
    by_cases e1 : l = v
    · exact .inl (.inl e1)
    · by_cases e2 : l = -v
      · exact .inl (.inr e2)
      · rw [if_neg e1, if_neg e2] at h
        exact .inr (by simpa [hasP] using hasP_of_amt (ls := ls) (os := os) (by omega))
theorem hasP_le {ls : List Int} (hl : ∀ l ∈ ls, okL l = true) {v : Int} (h : hasP ls v = true) : v ≤ 120 := by
  simp only [hasP, List.any_eq_true, Bool.or_eq_true, beq_iff_eq] at h
  obtain ⟨l, hm, h⟩ := h
  have := okL_iff.1 (hl l hm)
  omega

theorem flatMap_filter {α : Type} (p : Int → Bool) (f : Int → List α) : ∀ (l : List Int), (∀ v ∈ l, p v = false → f v = []) → (l.filter p).flatMap f = l.flatMap f
  | [], _ => rfl
  | v :: r, h => by
    have ih := flatMap_filter p f r fun u hu => h u (List.mem_cons_of_mem _ hu)
    by_cases e : p v = true
    · simp [List.filter_cons, e, ih]
    · have := h v (List.mem_cons_self ..) (by simpa using e)
      simp [List.filter_cons, e, ih, this]
theorem sum_filter (p : Int → Bool) (f : Int → Int) : ∀ (l : List Int), (∀ v ∈ l, p v = false → f v = 0) → sumZ ((l.filter p).map f) = sumZ (l.map f)
  | [], _ => rfl
  | v :: r, h => by
    have ih := sum_filter p f r fun u hu => h u (List.mem_cons_of_mem _ hu)
    by_cases e : p v = true
    · simp [List.filter_cons, e, ih, sumZ]
    · have := h v (List.mem_cons_self ..) (by simpa using e)
      simp [List.filter_cons, e, ih, this, sumZ]

section
variable {ls os : List Int} {s : Tm} {dn : List Int}

theorem termL_eq (hs : Spec ls os s) (hn : ls.length ≤ 60) (ho : ∀ o ∈ os, okO o = true) : ∀ (dn : List Int), (∀ v ∈ dn, 0 < v ∧ v ≤ 120) → termL s dn = dn.flatMap fun v => term1 v (amtP ls os v)
  | [], _ => rfl
  | v :: r, h => by
    have ih := termL_eq hs hn ho r fun u hu => h u (List.mem_cons_of_mem _ hu)
    obtain ⟨v0, v1⟩ := h v (List.mem_cons_self ..)
    have hb := amtP_bound (ls := ls) v ho
    simp only [termL, List.flatMap_cons, hs.amt v v0 v1, ih, term1]
    split
    · rfl
    · split
      · rw [w64 (by omega), w64 (by omega)]; rfl
      · rfl
set_option maxRecDepth 100000 in
theorem baseL_eq (hs : Spec ls os s) (hn : ls.length ≤ 60) (ho : ∀ o ∈ os, okO o = true) : ∀ (dn : List Int) (b : Int), (∀ v ∈ dn, 0 < v ∧ v ≤ 120) → -1000000000000 * ((500 : Int) - dn.length) ≤ b → b ≤ 1000000000000 * ((500 : Int) - dn.length) → dn.length ≤ 400 →
    baseL s dn b = b + sumZ (dn.map fun v => low (amtP ls os v))
  | [], b, _, _, _, _ => by simp [baseL, sumZ]
  | v :: r, b, h, h1, h2, h3 => by
    obtain ⟨v0, v1⟩ := h v (List.mem_cons_self ..)
    have hb := amtP_bound (ls := ls) v ho
    simp only [List.length_cons] at h1 h2 h3
    simp only [baseL, hs.amt v v0 v1, List.map_cons, sumZ, low]
    split
    · rw [w64 (by omega), baseL_eq hs hn ho r _ (fun u hu => h u (List.mem_cons_of_mem _ hu)) (by omega) (by omega) (by omega)]
      simp only [low]; omega
    · rw [baseL_eq hs hn ho r _ (fun u hu => h u (List.mem_cons_of_mem _ hu)) (by omega) (by omega) (by omega)]
      simp only [low]; omega

theorem dn_perm (hs : Spec ls os s) (hl : ∀ l ∈ ls, okL l = true) (hd : DnOk s dn) (hall : ∀ v, (Lit.int .i64 v).wf = true → s.has v = true → v ∈ dn) : dn.Perm ((vars 120).filter (hasP ls)) := by
  refine (List.perm_ext_iff_of_nodup hd.nodup ?_).2 fun v => ?_
  · exact ((vars_pairwise 120).imp fun h => by omega).filter _
  · rw [List.mem_filter, mem_vars]
    constructor
    · intro h
      obtain ⟨h1, h2⟩ := (hs.has v).1 (hd.mem v h).1
      exact ⟨⟨h1, hasP_le hl h2⟩, h2⟩
    · rintro ⟨⟨h1, h2⟩, h3⟩
      exact hall v (WalkArith.wf_i64 (by omega)) ((hs.has v).2 ⟨h1, h3⟩)

theorem terms_perm (hs : Spec ls os s) (hn : ls.length ≤ 60) (hl : ∀ l ∈ ls, okL l = true) (ho : ∀ o ∈ os, okO o = true) (hd : DnOk s dn) (hall : ∀ v, (Lit.int .i64 v).wf = true → s.has v = true → v ∈ dn) :
    (termL s dn).Perm (termsF ls os) := by
  have hp := dn_perm hs hl hd hall
  have hm : ∀ v ∈ dn, 0 < v ∧ v ≤ 120 := fun v h => by
    have := hp.mem_iff.1 h
    rw [List.mem_filter, mem_vars] at this
    exact this.1
  rw [termL_eq hs hn ho dn hm]
  refine (hp.flatMap_right _).trans ?_
  rw [flatMap_filter]
  · exact List.Perm.refl _
  · intro v _ h
    have : amtP ls os v = 0 := by
      by_cases e : amtP ls os v = 0
      · exact e
      · rw [hasP_of_amt e] at h; cases h
    simp [term1, this]
set_option maxRecDepth 100000 in
theorem base_eq (hs : Spec ls os s) (hn : ls.length ≤ 60) (hl : ∀ l ∈ ls, okL l = true) (ho : ∀ o ∈ os, okO o = true) (hd : DnOk s dn) (hall : ∀ v, (Lit.int .i64 v).wf = true → s.has v = true → v ∈ dn) :
    baseL s dn s.base = baseF ls os := by
  have hp := dn_perm hs hl hd hall
  have hm : ∀ v ∈ dn, 0 < v ∧ v ≤ 120 := fun v h => by
    have := hp.mem_iff.1 h
    rw [List.mem_filter, mem_vars] at this
    exact this.1
  have hlen : dn.length ≤ 120 := by
    rw [hp.length_eq]
    have := List.length_filter_le (hasP ls) (vars 120)
    simpa [vars] using this
  have hb := negP_bound (ls := ls) ho
  rw [baseL_eq hs hn ho dn _ hm (by rw [hs.base]; omega) (by rw [hs.base]; omega) (by omega), hs.base, baseF, sumZ_perm (hp.map _), sum_filter]
  intro v _ h
  have : amtP ls os v = 0 := by
    by_cases e : amtP ls os v = 0
    · exact e
    · rw [hasP_of_amt e] at h; cases h
  simp [low, this]
end

/-- The variable of a term. -/
theorem term1_var {v a : Int} {x : Int × Int} (h : x ∈ term1 v a) (hv : 0 < v ∧ v ≤ 120) : varF x.1 = v := by
  unfold term1 at h
  split at h
  · simp at h; subst h; unfold varF; rw [w64 (by simp; omega)]; simp; omega
  · split at h
    · simp at h; subst h; unfold varF; rw [w64 (by simp; omega)]; simp; omega
    · simp at h
theorem term1_one {v a : Int} {x y : Int × Int} (h : x ∈ term1 v a) (h' : y ∈ term1 v a) : x = y := by
  unfold term1 at h h'
  split at h
  · rename_i hp; rw [if_pos hp] at h'; simp at h h'; rw [h, h']
  · rename_i hp; rw [if_neg hp] at h'
    split at h
    · rename_i hq; rw [if_pos hq] at h'; simp at h h'; rw [h, h']
    · simp at h
theorem termsF_var {ls os : List Int} {x : Int × Int} (h : x ∈ termsF ls os) : ∃ v, 0 < v ∧ v ≤ 120 ∧ varF x.1 = v ∧ x ∈ term1 v (amtP ls os v) := by
  obtain ⟨v, hv, hx⟩ := List.mem_flatMap.1 h
  have := mem_vars.1 hv
  exact ⟨v, this.1, this.2, term1_var hx this, hx⟩
theorem flat_sorted {ls os : List Int} : ∀ (l : List Int), l.Pairwise (· < ·) → (∀ v ∈ l, 0 < v ∧ v ≤ 120) → (l.flatMap fun v => term1 v (amtP ls os v)).Pairwise fun a b => varF a.1 ≤ varF b.1
  | [], _, _ => List.Pairwise.nil
  | v :: r, h, hm => by
    rw [List.pairwise_cons] at h
    rw [List.flatMap_cons, List.pairwise_append]
    refine ⟨?_, flat_sorted r h.2 fun u hu => hm u (List.mem_cons_of_mem _ hu), fun a ha b hb => ?_⟩
    · unfold term1; (repeat' split) <;> simp
    · obtain ⟨u, hu, hb⟩ := List.mem_flatMap.1 hb
      rw [term1_var ha (hm v (List.mem_cons_self ..)), term1_var hb (hm u (List.mem_cons_of_mem _ hu))]
      exact Int.le_of_lt (h.1 u hu)

theorem sorted_eq {ls os : List Int} {d : Array (Int × Int)} (hp : d.toList.Perm (termsF ls os)) (hs : Go.Sort.SortedIn (Go.Proofs.ltOf cmpF) 0 d.size d) : d.toList = termsF ls os := by
  refine List.Perm.eq_of_pairwise (le := fun a b => varF a.1 ≤ varF b.1) ?_ ?_ ?_ hp
  · intro a b ha hb h1 h2
    obtain ⟨v, _, _, hv, hva⟩ := termsF_var (hp.mem_iff.1 ha)
    obtain ⟨u, _, _, hu, hub⟩ := termsF_var hb
    have : v = u := by omega
    subst this
    exact term1_one hva hub
  · rw [List.pairwise_iff_getElem]
    intro i j hi hj hij
    have := hs i j (Nat.zero_le _) hij (by simpa using hj)
    rw [ltF] at this
    simp at hi hj
    simpa [hi, hj] using this
  · exact flat_sorted _ (vars_pairwise 120) fun v hv => mem_vars.1 hv

end Go.Aev.Hp
