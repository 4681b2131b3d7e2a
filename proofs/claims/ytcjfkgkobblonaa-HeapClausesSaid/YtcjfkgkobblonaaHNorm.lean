/-
  The normal form of a normal form; what Tidy, Full, Part and Add say.
-/
import Derived.Test.YtcjfkgkobblonaaHMath
set_option linter.unusedSimpArgs false
set_option linter.unusedVariables false
namespace Go.Aev.Gen
open Go Go.Aev Go.Aev.Hp Go.RowKit Go.Proofs.Ytcjfkgkobblonaa

theorem amtP_append : ∀ {l1 o1 : List Int} (l2 o2 : List Int) (v : Int), l1.length = o1.length → amtP (l1 ++ l2) (o1 ++ o2) v = amtP l1 o1 v + amtP l2 o2 v
  | [], [], l2, o2, v, _ => by simp [amtP]
  | [], o :: os, _, _, _, h => by simp at h
  | l :: ls, [], _, _, _, h => by simp at h
  | l :: ls, o :: os, l2, o2, v, h => by
    simp only [List.cons_append, amtP]; rw [amtP_append l2 o2 v (by simpa using h)]; omega
theorem amtP_none {ls os : List Int} {v : Int} (h : ∀ l ∈ ls, l ≠ v ∧ l ≠ -v) : amtP ls os v = 0 := by
  by_cases e : amtP ls os v = 0
  · exact e
  · have := hasP_of_amt e
    simp only [hasP, List.any_eq_true, Bool.or_eq_true, beq_iff_eq] at this
    obtain ⟨l, hm, hl⟩ := this
    have := h l hm
    omega
theorem tv_again {ls os : List Int} (k : Int × Int → Int) : ∀ (n : Nat) (v : Int) (P : List (Int × Int)), 0 < v → (∀ x ∈ P, -v < x.1 ∧ x.1 < v) → (∀ x ∈ tv ls os n v, 0 < k x) →
    tv ((P ++ tv ls os n v).map (·.1)) ((P ++ tv ls os n v).map k) n v = (tv ls os n v).map fun x => (x.1, k x)
  | 0, _, _, _, _, _ => rfl
  | n + 1, v, P, hv, hP, hk => by
    have hr : ∀ x ∈ tv ls os n (v + 1), x.1 ≠ v ∧ x.1 ≠ -v := by
      intro x hx
      obtain ⟨u, h1, h2, h3, _⟩ := mem_tv n (v + 1) (by omega) hx
      omega
    have ih := tv_again (ls := ls) (os := os) k n (v + 1) (P ++ term1 v (amtP ls os v)) (by omega) (by
      intro x hx
      rcases List.mem_append.1 hx with hx | hx
      · have := hP x hx; omega
      · unfold term1 at hx
        split at hx
        · simp at hx; subst hx; simp; omega
        · split at hx
          · simp at hx; subst hx; simp; omega
          · simp at hx) (fun x hx => hk x (by simp only [tv, List.mem_append]; exact .inr hx))
    have e0 : P ++ tv ls os (n + 1) v = P ++ term1 v (amtP ls os v) ++ tv ls os n (v + 1) := by simp [tv]
    rw [e0]
    rw [show tv ((P ++ term1 v (amtP ls os v) ++ tv ls os n (v + 1)).map (·.1)) ((P ++ term1 v (amtP ls os v) ++ tv ls os n (v + 1)).map k) (n + 1) v = term1 v (amtP ((P ++ term1 v (amtP ls os v) ++ tv ls os n (v + 1)).map (·.1)) ((P ++ term1 v (amtP ls os v) ++ tv ls os n (v + 1)).map k) v) ++ tv ((P ++ term1 v (amtP ls os v) ++ tv ls os n (v + 1)).map (·.1)) ((P ++ term1 v (amtP ls os v) ++ tv ls os n (v + 1)).map k) n (v + 1) from rfl]
    rw [ih]
    rw [show (tv ls os (n + 1) v) = term1 v (amtP ls os v) ++ tv ls os n (v + 1) from rfl, List.map_append]
    congr 1
    simp only [List.map_append]
    rw [amtP_append _ _ _ (by simp), amtP_append _ _ _ (by simp)]
    rw [amtP_none (ls := P.map (·.1)) (by
      intro l hl
      obtain ⟨x, hx, rfl⟩ := List.mem_map.1 hl
      have := hP x hx; omega)]
    rw [amtP_none (ls := (tv ls os n (v + 1)).map (·.1)) (by
      intro l hl
      obtain ⟨x, hx, rfl⟩ := List.mem_map.1 hl
      exact hr x hx)]
    have hk' : ∀ x ∈ term1 v (amtP ls os v), 0 < k x := fun x hx => hk x (by simp only [tv, List.mem_append]; exact .inl hx)
    generalize amtP ls os v = a at hk'
    unfold term1 at hk' ⊢
    by_cases c1 : 0 < a
    · simp only [if_pos c1, List.mem_singleton, forall_eq, List.map_cons, List.map_nil, amtP, if_true] at hk' ⊢
      rw [if_pos (by omega)]
      simp
    · by_cases c2 : a < 0
      · simp only [if_neg c1, if_pos c2, List.mem_singleton, forall_eq, List.map_cons, List.map_nil, amtP, if_true] at hk' ⊢
        have e1 : (0 : Int) + (-k (-v, -a) + 0) + 0 = -k (-v, -a) := by omega
        simp only [show (-v = v) = False from eq_false (by omega), if_false, e1]
        rw [if_neg (by omega), if_pos (by omega)]
        simp
      · simp only [if_neg c1, if_neg c2, List.map_nil, amtP]
        rw [if_neg (by omega), if_neg (by omega)]

theorem terms_again {ls os : List Int} (k : Int × Int → Int) (hk : ∀ x ∈ termsF ls os, 0 < k x) : termsF ((termsF ls os).map (·.1)) ((termsF ls os).map k) = (termsF ls os).map fun x => (x.1, k x) := by
  rw [terms_tv] at hk
  have := tv_again (ls := ls) (os := os) k 120 1 [] (by omega) (by simp) hk
  rw [List.nil_append] at this
  rw [terms_tv ls os, terms_tv _ _, this]
theorem base_again {ls os : List Int} (k : Int × Int → Int) (hk : ∀ x ∈ termsF ls os, 0 < k x) : baseF ((termsF ls os).map (·.1)) ((termsF ls os).map k) = 0 := by
  have h1 := sem [] (ls := (termsF ls os).map (·.1)) (os := (termsF ls os).map k) (by simp) (by
    intro l hl
    obtain ⟨x, hx, rfl⟩ := List.mem_map.1 hl
    exact term_okl hx)
  rw [sumT_map, terms_again k hk] at h1
  omega
theorem norm_again {ls os : List Int} (k : Int × Int → Int) (hk : ∀ x ∈ termsF ls os, 0 < k x) (a : Int) : normF ((termsF ls os).map (·.1)) ((termsF ls os).map k) a =
    fin ((termsF ls os).map fun x => (x.1, k x)) a (sumS ((termsF ls os).map fun x => (x.1, k x))) (gcS ((termsF ls os).map fun x => (x.1, k x)) 0) := by
  unfold normF
  rw [terms_again k hk, base_again k hk, Int.sub_zero]

theorem gc_scale (g a b : Int) (hg : 0 < g) : gc (g * a) (g * b) = g * gc a b := by
  unfold gc
  rw [Int.gcd_mul_left]
  rw [Int.natCast_mul]
  congr 1
  omega
theorem gcS_scale {g : Int} (hg : 0 < g) : ∀ {L : List (Int × Int)} (c : Int), (∀ x ∈ L, g ∣ x.2) → gcS L (g * c) = g * gcS (L.map fun x => (x.1, x.2.tdiv g)) c
  | [], _, _ => rfl
  | x :: r, c, h => by
    obtain ⟨k, hk⟩ := h x (List.mem_cons_self ..)
    have e : x.2.tdiv g = k := by rw [hk, Int.mul_tdiv_cancel_left _ (by omega)]
    simp only [List.map_cons, gcS, e]
    rw [hk, gc_scale g k c hg]
    exact gcS_scale hg _ fun y hy => h y (List.mem_cons_of_mem _ hy)
theorem gcS_self {L : List (Int × Int)} (hg : 0 < gcS L 0) : gcS (L.map fun x => (x.1, x.2.tdiv (gcS L 0))) 0 = 1 := by
  have h := gcS_scale hg (L := L) 0 gcS_dvd.2
  rw [Int.mul_zero] at h
  have h2 : gcS L 0 * gcS (L.map fun x => (x.1, x.2.tdiv (gcS L 0))) 0 = gcS L 0 * 1 := by rw [← h, Int.mul_one]
  exact Int.eq_of_mul_eq_mul_left (by omega) h2

theorem qd_one (a : Int) : qd a 1 = a := by unfold qd; simp
theorem fin_ok {L : List (Int × Int)} {a : Int} (hok : Ok2 L) (h1 : (L.length : Int) ≤ 24) (h2 : ∀ x ∈ L, x.2 ≤ 1000000) (h3 : a ≤ 1000000) : (fin L a (sumS L) (gcS L 0)).2 = 0 := by
  unfold fin
  by_cases c1 : a ≤ 0
  · rw [if_pos c1]
  · rw [if_neg c1]
    by_cases c2 : sumS L < a
    · rw [if_pos c2]
    · rw [if_neg c2]
      have hne : L ≠ [] := by
        intro e; rw [e] at c2; simp [sumS] at c2; omega
      have hg := gcS_bd hok (Int.le_refl 0) (by omega) (.inl hne)
      rw [if_neg]
      have hq := qd_bd (a := a) (g := gcS L 0) (by omega) hg.1
      simp only [Bool.or_eq_true, decide_eq_true_eq, not_or]
      refine ⟨⟨by omega, by omega⟩, ?_⟩
      intro hb
      obtain ⟨x, hx, hb⟩ := List.any_eq_true.1 hb
      have hp := hok x hx
      have := h2 x hx
      have hle : x.2.tdiv (gcS L 0) ≤ x.2 := by
        rw [Int.tdiv_eq_ediv_of_nonneg (by omega)]
        exact Int.ediv_le_self _ (by omega)
      simp only [big, decide_eq_true_eq] at hb
      omega

theorem tv_nil : ∀ (n : Nat) (v : Int), tv [] [] n v = []
  | 0, _ => rfl
  | n + 1, v => by simp only [tv, tv_nil n (v + 1), amtP, term1]; rfl
theorem lowS_nil : ∀ (n : Nat) (v : Int), lowS [] [] n v = 0
  | 0, _ => rfl
  | n + 1, v => by simp only [lowS, lowS_nil n (v + 1), amtP, low]; rfl
theorem norm_nil (b : Int) : normF [] [] b = fin [] b 0 0 := by
  unfold normF
  rw [base_low, terms_tv, tv_nil, lowS_nil]
  simp [negP, sumS, gcS]

/-- A normal form in full: the list of its terms. -/
theorem norm_shape {ls os : List Int} {a : Int} (h : In ls os a) (hc : (normF ls os a).2 = 0) :
    normF ls os a = (⟨[], [], 0⟩, 0) ∨ normF ls os a = (⟨[], [], 1⟩, 0) ∨
    ∃ q, normF ls os a = (⟨(termsF ls os).map (·.1), (termsF ls os).map (fun x => x.2.tdiv (gcS (termsF ls os) 0)), q⟩, 0) ∧ 0 < q ∧ q ≤ 1000000 ∧ (termsF ls os).length ≤ 24 ∧ 0 < gcS (termsF ls os) 0 ∧
      (∀ x ∈ termsF ls os, 0 < x.2.tdiv (gcS (termsF ls os) 0) ∧ x.2.tdiv (gcS (termsF ls os) 0) ≤ 1000000) ∧ q ≤ sumS ((termsF ls os).map fun x => (x.1, x.2.tdiv (gcS (termsF ls os) 0))) := by
  have htd := norm_td h hc
  have hok := ok2_terms h.few h.oko
  have hd : ∀ (R : Hp × Int), R = normF ls os a → R.1.ls = (termsF ls os).map (·.1) → True := fun _ _ _ => trivial
  unfold normF fin at hc ⊢
  by_cases c1 : a - baseF ls os ≤ 0
  · rw [if_pos c1]; exact .inl rfl
  · rw [if_neg c1] at hc ⊢
    by_cases c2 : sumS (termsF ls os) < a - baseF ls os
    · rw [if_pos c2]; exact .inr (.inl rfl)
    · rw [if_neg c2] at hc ⊢
      by_cases c3 : (decide (((termsF ls os).length : Int) > 24) || decide (qd (a - baseF ls os) (gcS (termsF ls os) 0) > 1000000) || (termsF ls os).any (big (gcS (termsF ls os) 0))) = true
      · rw [if_pos c3] at hc; simp at hc
      · rw [if_neg c3]
        have hne : termsF ls os ≠ [] := by
          intro e; rw [e] at c2; simp [sumS] at c2; omega
        have hg := gcS_bd hok (Int.le_refl 0) (by omega) (.inl hne)
        have hq := qd_bd (a := a - baseF ls os) (g := gcS (termsF ls os) 0) (by omega) hg.1
        have c3' := c3
        simp only [Bool.or_eq_true, decide_eq_true_eq, not_or] at c3'
        refine .inr (.inr ⟨_, rfl, hq.1, by omega, by omega, hg.1, fun x hx => ⟨tdiv_pos_of (hok x hx).1 hg.1 (gcS_dvd.2 x hx), ?_⟩, ?_⟩)
        · have : big (gcS (termsF ls os) 0) x = false := by
            cases hb : big (gcS (termsF ls os) 0) x with
            | false => rfl
            | true => exact absurd (List.any_eq_true.2 ⟨x, hx, hb⟩) c3'.2
          simpa [big] using this
        · refine (qd_le (by omega) hg.1).2 ?_
          rw [← sumS_scale hg.1 gcS_dvd.2]; omega

/-- Tidy again: the same. -/
theorem norm_idem {ls os : List Int} {a : Int} (h : In ls os a) (hc : (normF ls os a).2 = 0) : normF (normF ls os a).1.ls (normF ls os a).1.os (normF ls os a).1.at_ = ((normF ls os a).1, 0) := by
  rcases norm_shape h hc with e | e | ⟨q, e, q0, q1, hn, hg, hk, hs⟩
  · rw [e]; exact norm_nil 0
  · rw [e]; exact norm_nil 1
  · rw [e]
    simp only
    rw [norm_again _ (fun x hx => (hk x hx).1), gcS_self hg]
    unfold fin
    rw [if_neg (by omega), if_neg (by omega), if_neg]
    · simp [qd_one]
    · simp only [Bool.or_eq_true, decide_eq_true_eq, not_or, qd_one, List.length_map]
      refine ⟨⟨by omega, by omega⟩, ?_⟩
      intro hb
      obtain ⟨x, hx, hb⟩ := List.any_eq_true.1 hb
      obtain ⟨y, hy, rfl⟩ := List.mem_map.1 hx
      simp only [big, Int.tdiv_one, decide_eq_true_eq] at hb
      have := hk y hy
      omega
/-- A normal form changed: no fault. -/
theorem norm_zero {ls os : List Int} {a : Int} (h : In ls os a) (hc : (normF ls os a).2 = 0) {k : Int → Int} {b : Int} (hk : ∀ o, 0 < o → o ≤ 1000000 → 0 < b → 0 < k o ∧ k o ≤ 1000000) (hb : b ≤ 1000000) (hb0 : b = 0 → (normF ls os a).1.ls = []) (hb1 : 0 ≤ b) :
    (normF (normF ls os a).1.ls ((normF ls os a).1.os.map k) b).2 = 0 := by
  have hnil : (normF [] [] b).2 = 0 := by
    rw [norm_nil]
    exact fin_ok (L := []) (by intro x hx; cases hx) (by simp) (by simp) (by omega)
  rcases norm_shape h hc with e | e | ⟨q, e, q0, q1, hn, hg, hk', hs⟩
  · rw [e]; exact hnil
  · rw [e]; exact hnil
  · have hne : 0 < b := by
      by_cases c : b = 0
      · have := hb0 c
        rw [e] at this
        simp only [List.map_eq_nil_iff] at this
        rw [this] at hs
        simp [sumS] at hs
        omega
      · omega
    rw [e]
    simp only [List.map_map]
    have hk2 : ∀ x ∈ termsF ls os, 0 < (k ∘ fun x : Int × Int => x.2.tdiv (gcS (termsF ls os) 0)) x ∧ (k ∘ fun x : Int × Int => x.2.tdiv (gcS (termsF ls os) 0)) x ≤ 1000000 := fun x hx => hk _ (hk' x hx).1 (hk' x hx).2 hne
    rw [norm_again _ (fun x hx => (hk2 x hx).1)]
    refine fin_ok ?_ (by simp only [List.length_map]; omega) ?_ hb
    · intro x hx
      obtain ⟨y, hy, rfl⟩ := List.mem_map.1 hx
      have := hk2 y hy
      simp only
      omega
    · intro x hx
      obtain ⟨y, hy, rfl⟩ := List.mem_map.1 hx
      exact (hk2 y hy).2

/-! ### What the calls say -/
theorem tidy_eq {h : Hp} {n : Int} (g : Good h n) : tidyF h = ((normF h.ls h.os h.at_).1, (normF h.ls h.os h.at_).2, 0) := by
  unfold tidyF; rw [if_pos (by rw [chk_good g.up])]
theorem tidy_good {h : Hp} {n : Int} (g : Good h n) (hc : (tidyF h).2.1 = 0) : Good (tidyF h).1 n := by
  rw [tidy_eq g] at hc ⊢
  exact norm_good g.in_ hc g.n0 fun l hl => by have := g.lit l hl; omega
theorem tidy_holds {h : Hp} {n : Int} (g : Good h n) (hc : (tidyF h).2.1 = 0) (hs : List Bool) : holdsF (tidyF h).1 hs = holdsF h hs := by
  rw [tidy_eq g] at hc ⊢
  rw [norm_holds hs g.in_ hc]; rfl
theorem sumT_min (hs : List Bool) {a : Int} (ha : 0 ≤ a) : ∀ {ls os : List Int}, (∀ o ∈ os, 0 ≤ o) → (0 ≤ sumT hs ls os ∧ 0 ≤ sumT hs ls (os.map fun o => min o a)) ∧ (sumT hs ls os = sumT hs ls (os.map fun o => min o a) ∨ (sumT hs ls os ≥ a ∧ sumT hs ls (os.map fun o => min o a) ≥ a))
  | [], os, _ => by simp [sumT]
  | l :: ls, [], _ => by simp [sumT]
  | l :: ls, o :: os, h => by
    have ih := sumT_min hs ha (ls := ls) (os := os) fun x hx => h x (List.mem_cons_of_mem _ hx)
    have := h o (List.mem_cons_self ..)
    simp only [List.map_cons, sumT]
    split <;> omega
theorem full_holds {t : Hp} (htd : Td t) (hc : (fullF t).2 = 0) (hs : List Bool) : holdsF (fullF t).1 hs = holdsF t hs := by
  unfold fullF at hc ⊢
  rw [norm_holds hs htd.full hc]
  unfold holdsF
  have := (sumT_min hs htd.at_.1 (ls := t.ls) (os := t.os) fun o ho => by have := htd.os o ho; omega).2
  exact decide_eq_decide.2 (by omega)
theorem full_good {t : Hp} {n : Int} (htd : Td t) (g : Good t n) (hc : (fullF t).2 = 0) : Good (fullF t).1 n := by
  unfold fullF at hc ⊢
  exact norm_good htd.full hc g.n0 fun l hl => by have := g.lit l hl; omega
theorem full_zero {h : Hp} {n : Int} (g : Good h n) (hc : (tidyF h).2.1 = 0) : (fullF (tidyF h).1).2 = 0 := by
  rw [tidy_eq g] at hc ⊢
  have htd := norm_td g.in_ hc
  have hat := htd.at_
  unfold fullF
  refine norm_zero g.in_ hc (fun o o0 o1 hb => ?_) hat.2 (fun hz => ?_) hat.1
  · simp only at hb ⊢; omega
  · rcases norm_shape g.in_ hc with e | e | ⟨q, e, q0, _⟩
    · rw [e]
    · rw [e]
    · simp only at hz; rw [e] at hz; simp only at hz; omega
theorem sumT_div (hs : List Bool) {d : Int} (hd : 0 < d) : ∀ {ls os : List Int}, (∀ o ∈ os, 0 ≤ o) → sumT hs ls os ≤ sumT hs ls (os.map fun o => qd o d) * d
  | [], os, _ => by simp [sumT]
  | l :: ls, [], _ => by simp [sumT]
  | l :: ls, o :: os, h => by
    have ih := sumT_div hs hd (ls := ls) (os := os) fun x hx => h x (List.mem_cons_of_mem _ hx)
    have := (qd_le (a := o) (g := d) (k := qd o d) (by have := h o (List.mem_cons_self ..); omega) hd).1 (Int.le_refl _)
    simp only [List.map_cons, sumT, Int.add_mul]
    split <;> omega
theorem div_holds {t : Hp} {d : Int} (htd : Td t) (hd : 1 ≤ d ∧ d ≤ 1000000) (hc : (divF t d).2 = 0) (hs : List Bool) (hh : holdsF t hs = true) : holdsF (divF t d).1 hs = true := by
  unfold divF at hc ⊢
  rw [norm_holds hs (htd.div hd) hc]
  unfold holdsF at hh
  have hh := of_decide_eq_true hh
  refine decide_eq_true ?_
  have hat := htd.at_
  refine (qd_le (by omega) (by omega)).2 ?_
  have := sumT_div hs (d := d) (by omega) (ls := t.ls) (os := t.os) fun o ho => by have := htd.os o ho; omega
  omega
theorem div_good {t : Hp} {n d : Int} (htd : Td t) (hd : 1 ≤ d ∧ d ≤ 1000000) (g : Good t n) (hc : (divF t d).2 = 0) : Good (divF t d).1 n := by
  unfold divF at hc ⊢
  exact norm_good (htd.div hd) hc g.n0 fun l hl => by have := g.lit l hl; omega
theorem sumT_append (hs : List Bool) : ∀ {l1 o1 : List Int} (l2 o2 : List Int), l1.length = o1.length → sumT hs (l1 ++ l2) (o1 ++ o2) = sumT hs l1 o1 + sumT hs l2 o2
  | [], [], l2, o2, _ => by simp [sumT]
  | [], o :: os, _, _, h => by simp at h
  | l :: ls, [], _, _, h => by simp at h
  | l :: ls, o :: os, l2, o2, h => by
    simp only [List.cons_append, sumT]; rw [sumT_append hs l2 o2 (by simpa using h)]; omega
theorem add_holds {a b : Hp} {n : Int} (ga : Good a n) (gb : Good b n) (hc : (addF a b).2 = 0) (hs : List Bool) (h1 : holdsF a hs = true) (h2 : holdsF b hs = true) : holdsF (addF a b).1 hs = true := by
  unfold addF at hc ⊢
  rw [norm_holds hs (add_in ga gb) hc]
  unfold holdsF at h1 h2
  have h1 := of_decide_eq_true h1
  have h2 := of_decide_eq_true h2
  rw [sumT_append hs _ _ ga.len]
  exact decide_eq_true (by omega)
theorem add_good {a b : Hp} {n : Int} (ga : Good a n) (gb : Good b n) (hc : (addF a b).2 = 0) : Good (addF a b).1 n := by
  unfold addF at hc ⊢
  refine norm_good (add_in ga gb) hc ga.n0 fun l hl => ?_
  rcases List.mem_append.1 hl with hl | hl
  · have := ga.lit l hl; omega
  · have := gb.lit l hl; omega
end Go.Aev.Gen
