/-
  What a heap says: the plain law.
-/
import Derived.Test.YtcjfkgkobblonaaHHold
set_option linter.unusedSimpArgs false
set_option linter.unusedVariables false
namespace Go.Aev.Gen
open Go Go.Aev Go.Aev.Hp Go.RowKit Go.Proofs.Ytcjfkgkobblonaa

/-! ### Sums over variables -/
def sumF (f : Int → Int) : Nat → Int → Int
  | 0, _ => 0
  | n + 1, v => f v + sumF f n (v + 1)
theorem sumF_add (f g : Int → Int) : ∀ (n : Nat) (v : Int), sumF (fun u => f u + g u) n v = sumF f n v + sumF g n v
  | 0, _ => rfl
  | n + 1, v => by simp only [sumF, sumF_add f g n (v + 1)]; omega
theorem sumF_congr {f g : Int → Int} : ∀ (n : Nat) (v : Int), (∀ u, v ≤ u → u < v + n → f u = g u) → sumF f n v = sumF g n v
  | 0, _, _ => rfl
  | n + 1, v, h => by
    simp only [sumF]
    rw [h v (by omega) (by omega), sumF_congr n (v + 1) fun u h1 h2 => h u (by omega) (by omega)]
theorem sumF_zero : ∀ (n : Nat) (v : Int), sumF (fun _ => 0) n v = 0
  | 0, _ => rfl
  | n + 1, v => by simp only [sumF, sumF_zero n (v + 1)]; rfl
theorem sumF_delta (w c : Int) : ∀ (n : Nat) (v : Int), sumF (fun u => if u = w then c else 0) n v = if v ≤ w ∧ w < v + n then c else 0
  | 0, v => by
    have : ¬ (v ≤ w ∧ w < v + (0 : Nat)) := by omega
    rw [if_neg this]; rfl
  | n + 1, v => by
    simp only [sumF, sumF_delta w c n (v + 1)]
    by_cases h : v = w
    · subst h
      rw [if_pos rfl, if_neg (by omega), if_pos (by omega)]; omega
    · rw [if_neg h]
      by_cases h2 : v + 1 ≤ w ∧ w < v + 1 + n
      · rw [if_pos h2, if_pos (by omega)]; omega
      · rw [if_neg h2, if_neg (by omega)]; rfl

def xv (hs : List Bool) (v : Int) : Int := if val hs v = true then 1 else 0
theorem xv_cases (hs : List Bool) (v : Int) : xv hs v = 0 ∨ xv hs v = 1 := by unfold xv; split <;> simp
theorem sem_vars (hs : List Bool) : ∀ {ls os : List Int}, ls.length = os.length → (∀ l ∈ ls, okL l = true) → sumT hs ls os = negP ls os + sumF (fun v => amtP ls os v * xv hs v) 120 1
  | [], [], _, _ => by simp [sumT, negP, amtP, sumF_zero]
  | [], o :: os, h, _ => by simp at h
  | l :: ls, [], h, _ => by simp at h
  | l :: ls, o :: os, h, hl => by
    have ih := sem_vars hs (ls := ls) (os := os) (by simpa using h) (fun x hx => hl x (List.mem_cons_of_mem _ hx))
    obtain ⟨l0, l1, l2⟩ := okL_iff.1 (hl l (List.mem_cons_self ..))
    have e1 : (fun v => amtP (l :: ls) (o :: os) v * xv hs v) = fun v => ((if l = v then o else if l = -v then -o else 0) * xv hs v) + amtP ls os v * xv hs v := by
      funext v; simp only [amtP, Int.add_mul]
    rw [e1, sumF_add]
    simp only [sumT, negP, ih]
    by_cases hp : 0 < l
    · have e2 : sumF (fun v => (if l = v then o else if l = -v then -o else 0) * xv hs v) 120 1 = o * xv hs l := by
        rw [sumF_congr (g := fun u => if u = l then o * xv hs l else 0) 120 1 fun u h1 h2 => ?_, sumF_delta, if_pos (by omega)]
        by_cases e : u = l
        · subst e; simp
        · rw [if_neg (fun h => e h.symm), if_neg (by omega), if_neg e, Int.zero_mul]
      rw [e2, if_neg (by omega : ¬ l < 0)]
      unfold tr xv; rw [if_pos hp]
      cases val hs l <;> simp <;> omega
    · have e2 : sumF (fun v => (if l = v then o else if l = -v then -o else 0) * xv hs v) 120 1 = -o * xv hs (-l) := by
        rw [sumF_congr (g := fun u => if u = -l then -o * xv hs (-l) else 0) 120 1 fun u h1 h2 => ?_, sumF_delta, if_pos (by omega)]
        by_cases e : u = -l
        · subst e
          rw [if_neg (by omega), if_pos (by omega), if_pos rfl]
        · rw [if_neg (by omega), if_neg (by omega), if_neg e, Int.zero_mul]
      rw [e2, if_pos (by omega : l < 0)]
      unfold tr xv; rw [if_neg hp]
      cases val hs (-l) <;> simp <;> omega

/-- What is so of a list of terms. -/
def sumB (hs : List Bool) : List (Int × Int) → Int
  | [] => 0
  | x :: r => (if tr hs x.1 = true then x.2 else 0) + sumB hs r
theorem sumB_append (hs : List Bool) (a b : List (Int × Int)) : sumB hs (a ++ b) = sumB hs a + sumB hs b := by
  induction a with
  | nil => simp [sumB]
  | cons x r ih => simp only [List.cons_append, sumB, ih]; omega
theorem sumB_term (hs : List Bool) {v a : Int} (hv : 0 < v) : sumB hs (term1 v a) + low a = a * xv hs v := by
  unfold term1 low
  split
  · rename_i hp
    rw [if_neg (by omega)]
    simp only [sumB, tr, if_pos hv, xv]
    cases val hs v <;> simp
  · split
    · simp only [sumB, tr, if_neg (show ¬ 0 < -v by omega), Int.neg_neg, xv]
      cases val hs v <;> simp <;> omega
    · have : a = 0 := by omega
      subst this
      simp [sumB]
theorem sem_tv (hs : List Bool) (ls os : List Int) : ∀ (n : Nat) (v : Int), 0 < v → sumF (fun v => amtP ls os v * xv hs v) n v = sumB hs (tv ls os n v) + lowS ls os n v
  | 0, _, _ => rfl
  | n + 1, v, hv => by
    simp only [sumF, tv, lowS, sumB_append, sem_tv hs ls os n (v + 1) (by omega)]
    have := sumB_term hs (v := v) (a := amtP ls os v) hv
    omega
theorem sem (hs : List Bool) {ls os : List Int} (h1 : ls.length = os.length) (h2 : ∀ l ∈ ls, okL l = true) : sumT hs ls os = sumB hs (termsF ls os) + baseF ls os := by
  rw [sem_vars hs h1 h2, sem_tv hs ls os 120 1 (by omega), terms_tv, base_low]; omega

theorem sumB_nonneg (hs : List Bool) : ∀ {L : List (Int × Int)}, Ok2 L → 0 ≤ sumB hs L ∧ sumB hs L ≤ sumS L
  | [], _ => by simp [sumB, sumS]
  | x :: r, h => by
    have ih := sumB_nonneg hs (L := r) fun y hy => h y (List.mem_cons_of_mem _ hy)
    have := h x (List.mem_cons_self ..)
    simp only [sumB, sumS]
    split <;> omega
theorem sumT_map (hs : List Bool) (k : Int × Int → Int) : ∀ (L : List (Int × Int)), sumT hs (L.map (·.1)) (L.map k) = sumB hs (L.map fun x => (x.1, k x))
  | [] => rfl
  | x :: r => by simp only [List.map_cons, sumT, sumB, sumT_map hs k r]
theorem sumB_scale (hs : List Bool) {g : Int} (hg : 0 < g) : ∀ {L : List (Int × Int)}, (∀ x ∈ L, g ∣ x.2) → sumB hs L = sumB hs (L.map fun x => (x.1, x.2.tdiv g)) * g
  | [], _ => by simp [sumB]
  | x :: r, h => by
    have ih := sumB_scale hs hg (L := r) fun y hy => h y (List.mem_cons_of_mem _ hy)
    obtain ⟨k, hk⟩ := h x (List.mem_cons_self ..)
    have e : x.2.tdiv g = k := by rw [hk, Int.mul_tdiv_cancel_left _ (by omega)]
    simp only [List.map_cons, sumB, e, ih, Int.add_mul]
    split
    · rw [hk, Int.mul_comm]
    · simp
theorem sumS_scale {g : Int} (hg : 0 < g) : ∀ {L : List (Int × Int)}, (∀ x ∈ L, g ∣ x.2) → sumS L = sumS (L.map fun x => (x.1, x.2.tdiv g)) * g
  | [], _ => by simp [sumS]
  | x :: r, h => by
    have ih := sumS_scale hg (L := r) fun y hy => h y (List.mem_cons_of_mem _ hy)
    obtain ⟨k, hk⟩ := h x (List.mem_cons_self ..)
    have e : x.2.tdiv g = k := by rw [hk, Int.mul_tdiv_cancel_left _ (by omega)]
    simp only [List.map_cons, sumS, e, ih, Int.add_mul]
    rw [hk, Int.mul_comm]

/-- The normal form holds just where the sum does. -/
theorem norm_holds (hs : List Bool) {ls os : List Int} {a : Int} (h : In ls os a) (hc : (normF ls os a).2 = 0) : holdsF (normF ls os a).1 hs = decide (sumT hs ls os ≥ a) := by
  have hok := ok2_terms h.few h.oko
  have hsem := sem hs h.len (by simpa [List.all_eq_true] using h.okl)
  have hb := sumB_nonneg hs hok
  unfold normF fin at hc ⊢
  unfold holdsF
  by_cases c1 : a - baseF ls os ≤ 0
  · rw [if_pos c1]
    rw [decide_eq_true (by omega : sumT hs ls os ≥ a)]
    rfl
  · rw [if_neg c1] at hc ⊢
    by_cases c2 : sumS (termsF ls os) < a - baseF ls os
    · rw [if_pos c2]
      rw [decide_eq_false (by omega : ¬ sumT hs ls os ≥ a)]
      rfl
    · rw [if_neg c2] at hc ⊢
      by_cases c3 : (decide (((termsF ls os).length : Int) > 24) || decide (qd (a - baseF ls os) (gcS (termsF ls os) 0) > 1000000) || (termsF ls os).any (big (gcS (termsF ls os) 0))) = true
      · rw [if_pos c3] at hc; simp at hc
      · rw [if_neg c3]
        have hne : termsF ls os ≠ [] := by
          intro e; rw [e] at c2; simp [sumS] at c2; omega
        have hg := gcS_bd hok (Int.le_refl 0) (by omega) (.inl hne)
        simp only
        rw [sumT_map]
        have hsc := sumB_scale hs hg.1 (L := termsF ls os) gcS_dvd.2
        refine decide_eq_decide.2 ?_
        have := qd_le (a := a - baseF ls os) (g := gcS (termsF ls os) 0) (k := sumB hs ((termsF ls os).map fun x => (x.1, x.2.tdiv (gcS (termsF ls os) 0)))) (by omega) hg.1
        rw [← hsc] at this
        constructor
        · intro h; have := this.1 h; omega
        · intro h; exact this.2 (by omega)

/-! ### Where the literals of a normal form lie -/
theorem mem_tv {ls os : List Int} {x : Int × Int} : ∀ (n : Nat) (v : Int), 0 < v → x ∈ tv ls os n v → ∃ u, v ≤ u ∧ u < v + n ∧ (x.1 = u ∨ x.1 = -u) ∧ amtP ls os u ≠ 0
  | 0, _, _, h => by simp [tv] at h
  | n + 1, v, hv, h => by
    simp only [tv, List.mem_append] at h
    rcases h with h | h
    · refine ⟨v, by omega, by omega, ?_⟩
      unfold term1 at h
      split at h
      · simp at h; subst h; exact ⟨.inl rfl, by omega⟩
      · split at h
        · simp at h; subst h; exact ⟨.inr rfl, by omega⟩
        · simp at h
    · obtain ⟨u, h1, h2, h3⟩ := mem_tv n (v + 1) (by omega) h
      exact ⟨u, by omega, by omega, h3⟩
theorem dist_tv {ls os : List Int} : ∀ (n : Nat) (v : Int), 0 < v → dist ((tv ls os n v).map (·.1))
  | 0, _, _ => List.Pairwise.nil
  | n + 1, v, hv => by
    unfold dist
    simp only [tv, List.map_append]
    rw [List.pairwise_append]
    refine ⟨?_, dist_tv n (v + 1) (by omega), fun x hx y hy => ?_⟩
    · unfold term1; (repeat' split) <;> simp
    · obtain ⟨p, hp, rfl⟩ := List.mem_map.1 hx
      obtain ⟨q, hq, rfl⟩ := List.mem_map.1 hy
      obtain ⟨u, h1, h2, h3, _⟩ := mem_tv n (v + 1) (by omega) hq
      have : p.1 = v ∨ p.1 = -v := by
        unfold term1 at hp
        split at hp
        · simp at hp; subst hp; exact .inl rfl
        · split at hp
          · simp at hp; subst hp; exact .inr rfl
          · simp at hp
      omega
theorem norm_good {ls os : List Int} {a n : Int} (h : In ls os a) (hc : (normF ls os a).2 = 0) (hn : 0 ≤ n ∧ n ≤ 120) (hl : ∀ l ∈ ls, -n ≤ l ∧ l ≤ n) : Good (normF ls os a).1 n := by
  have htd := norm_td h hc
  have hat := htd.at_
  refine ⟨hn, htd.few, htd.len, ?_, ?_, fun o ho => by have := htd.os o ho; omega, by omega⟩
  · have key : ∀ l ∈ (termsF ls os).map (·.1), l ≠ 0 ∧ -n ≤ l ∧ l ≤ n := by
      intro l hm
      obtain ⟨x, hx, rfl⟩ := List.mem_map.1 hm
      rw [terms_tv] at hx
      obtain ⟨u, u0, u1, h3, h4⟩ := mem_tv 120 1 (by omega) hx
      have hh := hasP_of_amt h4
      simp only [hasP, List.any_eq_true, Bool.or_eq_true, beq_iff_eq] at hh
      obtain ⟨l, hm, hh⟩ := hh
      have := hl l hm
      omega
    intro l hm
    refine key l ?_
    unfold normF fin at hm
    (repeat' split at hm) <;> first | exact hm | simp at hm
  · have key : dist ((termsF ls os).map (·.1)) := by rw [terms_tv]; exact dist_tv 120 1 (by omega)
    unfold normF fin
    (repeat' split) <;> first | exact key | exact List.Pairwise.nil
end Go.Aev.Gen
