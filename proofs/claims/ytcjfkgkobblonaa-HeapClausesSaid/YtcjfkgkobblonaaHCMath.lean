/-
  The clauses say what the heap says.
-/
import Derived.Test.YtcjfkgkobblonaaHCRun
import Derived.Test.YtcjfkgkobblonaaHLaw
set_option linter.unusedSimpArgs false
set_option linter.unusedVariables false
namespace Go.Aev.Gen
open Go Go.Aev Go.Aev.Hp Go.RowKit

inductive Nd : List (Int × Int) → Int → Int → NS → (Int × Bool) × NS → Prop
  | le0 {rem i a s} : a ≤ 0 → Nd rem i a s ((1, true), s)
  | more {rem i a s} : 0 < a → sumO rem < a → Nd rem i a s ((-1, true), s)
  | over {rem i a s} : s.n > 120 → Nd rem i a s ((1, true), s)
  | known {rem i a s v} : lookM (i, a) s.es = some v → Nd rem i a s ((v, false), s)
  | new {l o r i a s p q} : 0 < a → lookM (i, a) s.es = none → s.n ≤ 120 → Nd r (i + 1) (a - o) ⟨s.n + 1, s.cl, s.es ++ [((i, a), s.n + 1)]⟩ p → Nd r (i + 1) a (step p.2 (s.n + 1) (-l) p.1) q →
      Nd ((l, o) :: r) i a s ((s.n + 1, false), step q.2 (s.n + 1) l q.1)
theorem nodeF_nd : ∀ (rem : List (Int × Int)) (i a : Int) (s : NS), Nd rem i a s (nodeF rem i a s)
  | [], i, a, s => by
    unfold nodeF
    split
    · exact .le0 (by assumption)
    · exact .more (by omega) (by show (0 : Int) < a; omega)
  | (l, o) :: r, i, a, s => by
    unfold nodeF
    split
    · exact .le0 (by assumption)
    · split
      · exact .more (by omega) (by show o + sumO r < a; assumption)
      · split
        · exact .over (by assumption)
        · split
          · exact .known (by assumption)
          · exact .new (by omega) (by assumption) (by omega) (nodeF_nd r _ _ _) (nodeF_nd r _ _ _)

theorem step_ext (s : NS) (v l : Int) (r : Int × Bool) : (step s v l r).n = s.n ∧ (step s v l r).es = s.es ∧ ∃ nc, (step s v l r).cl = s.cl ++ nc := by
  unfold step NS.add
  split
  · exact ⟨rfl, rfl, _, rfl⟩
  · split
    · exact ⟨rfl, rfl, _, rfl⟩
    · exact ⟨rfl, rfl, [], by simp⟩
structure Ext (i a : Int) (s : NS) (r : (Int × Bool) × NS) : Prop where
  es : ∃ nw, r.2.es = s.es ++ nw ∧ (∀ p ∈ nw, i ≤ p.1.1 ∧ s.n < p.2 ∧ p.2 ≤ r.2.n) ∧ nw.Pairwise fun p q => p.2 < q.2
  n : s.n ≤ r.2.n
  cl : ∃ nc, r.2.cl = s.cl ++ nc
  v : r.1.2 = false → ((i, a), r.1.1) ∈ r.2.es
theorem Nd.ext {rem i a s r} (h : Nd rem i a s r) : Ext i a s r := by
  induction h with
  | le0 h => exact ⟨⟨[], by simp, by simp, by simp⟩, Int.le_refl _, ⟨[], by simp⟩, by simp⟩
  | more h1 h2 => exact ⟨⟨[], by simp, by simp, by simp⟩, Int.le_refl _, ⟨[], by simp⟩, by simp⟩
  | over h => exact ⟨⟨[], by simp, by simp, by simp⟩, Int.le_refl _, ⟨[], by simp⟩, by simp⟩
  | known h => exact ⟨⟨[], by simp, by simp, by simp⟩, Int.le_refl _, ⟨[], by simp⟩, fun _ => lookM_mem h⟩
  | @new l o r i a s p q h0 hl hn hp hq ip iq =>
    obtain ⟨n1, e1, b1, p1⟩ := ip.es
    obtain ⟨n2, e2, b2, p2⟩ := iq.es
    obtain ⟨c1, d1⟩ := ip.cl
    obtain ⟨c2, d2⟩ := iq.cl
    obtain ⟨t1, t2, t3, t4⟩ := step_ext p.2 (s.n + 1) (-l) p.1
    obtain ⟨u1, u2, u3, u4⟩ := step_ext q.2 (s.n + 1) l q.1
    have k1 := ip.n
    have k2 := iq.n
    simp only at e1 b1 d1 k1
    rw [t1] at k2 b2
    rw [t2] at e2
    rw [t4, d1] at d2
    refine ⟨⟨((i, a), s.n + 1) :: (n1 ++ n2), ?_, ?_, ?_⟩, ?_, ⟨c1 ++ t3 ++ c2 ++ u3, ?_⟩, fun _ => ?_⟩
    · simp only; rw [u2, e2, e1]; simp
    · intro x hx
      simp only
      rw [u1]
      rcases List.mem_cons.1 hx with rfl | hx
      · exact ⟨Int.le_refl _, by simp only; omega, by simp only; omega⟩
      · rcases List.mem_append.1 hx with hx | hx
        · have := b1 x hx; omega
        · have := b2 x hx; omega
    · refine List.pairwise_cons.2 ⟨fun x hx => ?_, List.pairwise_append.2 ⟨p1, p2, fun x hx y hy => ?_⟩⟩
      · rcases List.mem_append.1 hx with hx | hx
        · have := b1 x hx; simp only; omega
        · have := b2 x hx; simp only; omega
      · have := b1 x hx; have := b2 y hy; omega
    · simp only; rw [u1]; omega
    · simp only; rw [u4, d2]; simp
    · simp only; rw [u2, e2, e1]; simp

/-! ### What the rest of a heap comes to -/
def sumR (hs : List Bool) : List (Int × Int) → Int
  | [] => 0
  | x :: r => (if tr hs x.1 = true then x.2 else 0) + sumR hs r
theorem sumR_zip (hs : List Bool) : ∀ (ls os : List Int), sumR hs (ls.zip os) = sumT hs ls os
  | [], os => by cases os <;> rfl
  | l :: ls, [] => rfl
  | l :: ls, o :: os => by simp only [List.zip_cons_cons, sumR, sumT, sumR_zip hs ls os]
def Pos (zs : List (Int × Int)) : Prop := ∀ x ∈ zs, 0 < x.2
theorem sumR_bd (hs : List Bool) : ∀ {zs : List (Int × Int)}, Pos zs → 0 ≤ sumR hs zs ∧ sumR hs zs ≤ sumO zs
  | [], _ => by simp [sumR, sumO]
  | x :: r, h => by
    have := sumR_bd hs (zs := r) fun y hy => h y (List.mem_cons_of_mem _ hy)
    have := h x (List.mem_cons_self ..)
    simp only [sumR, sumO]; split <;> omega
def SS (hs : List Bool) (zs : List (Int × Int)) (i : Int) : Int := sumR hs (zs.drop i.toNat)
theorem drop_next {zs r : List (Int × Int)} {x : Int × Int} {i : Int} (hi : 0 ≤ i) (h : zs.drop i.toNat = x :: r) : zs.drop (i + 1).toNat = r ∧ x ∈ zs := by
  have e : (i + 1).toNat = i.toNat + 1 := by omega
  rw [e]
  exact ⟨(at_drop h).2.2, List.mem_of_getElem? (at_drop h).1⟩
theorem SS_next {hs : List Bool} {zs r : List (Int × Int)} {l o i : Int} (hi : 0 ≤ i) (h : zs.drop i.toNat = (l, o) :: r) : SS hs zs i = (if tr hs l = true then o else 0) + SS hs zs (i + 1) := by
  unfold SS
  rw [(drop_next hi h).1, h]; rfl
theorem SS_bd {hs : List Bool} {zs rem : List (Int × Int)} {i : Int} (hp : Pos zs) (h : zs.drop i.toNat = rem) : 0 ≤ SS hs zs i ∧ SS hs zs i ≤ sumO rem := by
  unfold SS
  rw [h]
  exact sumR_bd hs fun x hx => hp x (List.mem_of_mem_drop (by rw [h]; exact hx))
theorem sat_add {g : Int → Bool} {s : NS} {c : List Int} : Sat g (s.add c).cl ↔ (Sat g s.cl ∧ ∃ x ∈ c, litT g x = true) := by
  unfold Sat NS.add
  simp only [List.mem_append, List.mem_singleton]
  constructor
  · intro h
    refine ⟨fun d hd => h d (.inl hd), ?_⟩
    obtain ⟨x, hx, ht⟩ := h _ (.inr rfl)
    exact ⟨x, (srt_mem c x).1 hx, ht⟩
  · rintro ⟨h1, x, hx, ht⟩ d (hd | rfl)
    · exact h1 d hd
    · exact ⟨x, (srt_mem c x).2 hx, ht⟩
theorem lit_pos {g : Int → Bool} {v : Int} (h : 0 < v) : litT g v = g v ∧ litT g (-v) = !g v := by
  unfold litT
  rw [if_pos h, if_neg (by omega), Int.neg_neg]
  exact ⟨rfl, rfl⟩
/-- The literals of a heap are as they are told. -/
def Fits (g : Int → Bool) (hs : List Bool) (zs : List (Int × Int)) : Prop := ∀ x ∈ zs, litT g x.1 = tr hs x.1 ∧ litT g (-x.1) = !tr hs x.1

/-- What holds can be told. -/
theorem sat_up {g : Int → Bool} {hs : List Bool} {zs : List (Int × Int)} (hpos : Pos zs) (hf : Fits g hs zs) {rem i a s r} (h : Nd rem i a s r) : zs.drop i.toNat = rem → 0 ≤ i → 0 ≤ s.n → (∀ p ∈ s.es, 0 < p.2) → r.2.n ≤ 120 →
    (∀ p ∈ r.2.es, g p.2 = decide (SS hs zs p.1.1 ≥ p.1.2)) → Sat g s.cl → Sat g r.2.cl ∧ (r.1.2 = true → (r.1.1 < 0 → SS hs zs i < a) ∧ (¬ r.1.1 < 0 → SS hs zs i ≥ a)) := by
  induction h with
  | le0 h =>
    intro hz hi _ _ _ _ hs'
    have := SS_bd (hs := hs) hpos hz
    exact ⟨hs', fun _ => ⟨fun h => by simp at h, fun _ => by omega⟩⟩
  | more h1 h2 =>
    intro hz hi _ _ _ _ hs'
    have := SS_bd (hs := hs) hpos hz
    exact ⟨hs', fun _ => ⟨fun _ => by omega, fun h => by simp at h⟩⟩
  | over h => intro _ _ _ _ hn; simp only at hn; omega
  | known h => intro _ _ _ _ _ _ hs'; exact ⟨hs', fun h => by simp at h⟩
  | @new l o r i a s p q h0 hl hn hp hq ip iq =>
    intro hz hi hs0 hes hfin hI hsat
    have xp := hp.ext
    have xq := hq.ext
    obtain ⟨t1, t2, _⟩ := step_ext p.2 (s.n + 1) (-l) p.1
    obtain ⟨u1, u2, _⟩ := step_ext q.2 (s.n + 1) l q.1
    simp only at hfin hI
    rw [u1] at hfin
    rw [u2] at hI
    have k1 := xp.n
    have k2 := xq.n
    simp only at k1
    rw [t1] at k2
    obtain ⟨hz2, hx⟩ := drop_next hi hz
    have ho := hpos _ hx
    have hfl := hf _ hx
    simp only at ho hfl
    have hS := SS_next (hs := hs) hi hz
    obtain ⟨n1, e1, b1, _⟩ := xp.es
    obtain ⟨n2, e2, b2, _⟩ := xq.es
    simp only at e1 b1
    rw [t2] at e2
    have hIp : ∀ x ∈ p.2.es, g x.2 = decide (SS hs zs x.1.1 ≥ x.1.2) := fun x hx => hI x (by rw [e2]; exact List.mem_append_left _ hx)
    have hv : g (s.n + 1) = decide (SS hs zs i ≥ a) := hIp ((i, a), s.n + 1) (by rw [e1]; simp)
    have pes : ∀ x ∈ p.2.es, 0 < x.2 := by
      intro x hx
      rw [e1] at hx
      simp only [List.mem_append, List.mem_singleton] at hx
      rcases hx with (hx | rfl) | hx
      · exact hes x hx
      · simp only; omega
      · have := b1 x hx; omega
    have qes : ∀ x ∈ q.2.es, 0 < x.2 := by
      intro x hx
      rw [e2] at hx
      rcases List.mem_append.1 hx with hx | hx
      · exact pes x hx
      · have := b2 x hx; rw [t1] at this; omega
    obtain ⟨sp, cp⟩ := ip hz2 (by omega) (by simp only; omega) (by
      intro x hx
      simp only [List.mem_append, List.mem_singleton] at hx
      rcases hx with hx | rfl
      · exact hes x hx
      · simp only; omega) (by omega) hIp hsat
    have lv := lit_pos (g := g) (v := s.n + 1) (by omega)
    have s2 : Sat g (step p.2 (s.n + 1) (-l) p.1).cl := by
      refine step_case (fun s => Sat g s.cl) (fun e => ?_) (fun e hneg => ?_) (fun e hneg => sp)
      · refine sat_add.2 ⟨sp, ?_⟩
        have hm := xp.v e
        have hg := hIp _ hm
        have hp0 := pes _ hm
        simp only at hg hp0
        by_cases hv1 : SS hs zs i ≥ a
        · cases ht : tr hs l with
          | false => exact ⟨-l, by simp, by rw [hfl.2, ht]; rfl⟩
          | true =>
            rw [ht, if_pos rfl] at hS
            exact ⟨p.1.1, by simp, by rw [(lit_pos hp0).1, hg]; simp only [decide_eq_true_eq]; omega⟩
        · exact ⟨-(s.n + 1), by simp, by rw [lv.2, hv]; simp; omega⟩
      · refine sat_add.2 ⟨sp, ?_⟩
        have hlt := (cp e).1 hneg
        by_cases hv1 : SS hs zs i ≥ a
        · cases ht : tr hs l with
          | false => exact ⟨-l, by simp, by rw [hfl.2, ht]; rfl⟩
          | true => rw [ht, if_pos rfl] at hS; omega
        · exact ⟨-(s.n + 1), by simp, by rw [lv.2, hv]; simp; omega⟩
    obtain ⟨sq, cq⟩ := iq hz2 (by omega) (by rw [t1]; omega) (by rw [t2]; exact pes) hfin hI s2
    refine ⟨?_, fun h => by simp at h⟩
    refine step_case (fun s => Sat g s.cl) (fun e => ?_) (fun e hneg => ?_) (fun e hneg => sq)
    · refine sat_add.2 ⟨sq, ?_⟩
      have hm := xq.v e
      have hg := hI _ hm
      have hp0 := qes _ hm
      simp only at hg hp0
      by_cases hv1 : SS hs zs i ≥ a
      · cases ht : tr hs l with
        | true => exact ⟨l, by simp, by rw [hfl.1, ht]⟩
        | false =>
          rw [ht, if_neg (by simp)] at hS
          exact ⟨q.1.1, by simp, by rw [(lit_pos hp0).1, hg]; simp only [decide_eq_true_eq]; omega⟩
      · exact ⟨-(s.n + 1), by simp, by rw [lv.2, hv]; simp; omega⟩
    · refine sat_add.2 ⟨sq, ?_⟩
      have hlt := (cq e).1 hneg
      by_cases hv1 : SS hs zs i ≥ a
      · cases ht : tr hs l with
        | true => exact ⟨l, by simp, by rw [hfl.1, ht]⟩
        | false => rw [ht, if_neg (by simp)] at hS; omega
      · exact ⟨-(s.n + 1), by simp, by rw [lv.2, hv]; simp; omega⟩

theorem Sat.left {g : Int → Bool} {a b : List (List Int)} (h : Sat g (a ++ b)) : Sat g a := fun c hc => h c (List.mem_append_left _ hc)
/-- What is told holds. -/
theorem sat_down {g : Int → Bool} {hs : List Bool} {zs : List (Int × Int)} (hpos : Pos zs) (hf : Fits g hs zs) {rem i a s r} (h : Nd rem i a s r) : zs.drop i.toNat = rem → 0 ≤ i → 0 ≤ s.n → (∀ p ∈ s.es, 0 < p.2) → r.2.n ≤ 120 →
    Sat g r.2.cl → (∀ p ∈ s.es, i ≤ p.1.1 → g p.2 = true → SS hs zs p.1.1 ≥ p.1.2) →
    (∀ p ∈ r.2.es, i ≤ p.1.1 → g p.2 = true → SS hs zs p.1.1 ≥ p.1.2) ∧ (r.1.2 = true → ¬ r.1.1 < 0 → SS hs zs i ≥ a) := by
  induction h with
  | le0 h =>
    intro hz hi _ _ _ _ hs'
    have := SS_bd (hs := hs) hpos hz
    exact ⟨hs', fun _ _ => by omega⟩
  | more h1 h2 =>
    intro hz hi _ _ _ _ hs'
    exact ⟨hs', fun _ h => by simp at h⟩
  | over h => intro _ _ _ _ hn; simp only at hn; omega
  | known h => intro _ _ _ _ _ _ hs'; exact ⟨hs', fun h => by simp at h⟩
  | @new l o r i a s p q h0 hl hn hp hq ip iq =>
    intro hz hi hs0 hes hfin hsat hI
    have xp := hp.ext
    have xq := hq.ext
    obtain ⟨t1, t2, tc, t3⟩ := step_ext p.2 (s.n + 1) (-l) p.1
    obtain ⟨u1, u2, uc, u3⟩ := step_ext q.2 (s.n + 1) l q.1
    simp only at hfin hsat
    rw [u1] at hfin
    have k1 := xp.n
    have k2 := xq.n
    simp only at k1
    rw [t1] at k2
    obtain ⟨hz2, hx⟩ := drop_next hi hz
    have ho := hpos _ hx
    have hfl := hf _ hx
    simp only at ho hfl
    have hS := SS_next (hs := hs) hi hz
    obtain ⟨n1, e1, b1, _⟩ := xp.es
    obtain ⟨n2, e2, b2, _⟩ := xq.es
    simp only at e1 b1
    rw [t2] at e2
    rw [t1] at b2
    obtain ⟨cq, hcq⟩ := xq.cl
    have pes : ∀ x ∈ p.2.es, 0 < x.2 := by
      intro x hx
      rw [e1] at hx
      simp only [List.mem_append, List.mem_singleton] at hx
      rcases hx with (hx | rfl) | hx
      · exact hes x hx
      · simp only; omega
      · have := b1 x hx; omega
    have qes : ∀ x ∈ q.2.es, 0 < x.2 := by
      intro x hx
      rw [e2] at hx
      rcases List.mem_append.1 hx with hx | hx
      · exact pes x hx
      · have := b2 x hx; omega
    have satq : Sat g q.2.cl := by rw [u3] at hsat; exact hsat.left
    have sat2 : Sat g (step p.2 (s.n + 1) (-l) p.1).cl := by rw [hcq] at satq; exact satq.left
    have satp : Sat g p.2.cl := by rw [t3] at sat2; exact sat2.left
    obtain ⟨ap, bp⟩ := ip hz2 (by omega) (by simp only; omega) (by
      intro x hx
      simp only [List.mem_append, List.mem_singleton] at hx
      rcases hx with hx | rfl
      · exact hes x hx
      · simp only; omega) (by omega) satp (by
      intro x hx h1
      simp only [List.mem_append, List.mem_singleton] at hx
      rcases hx with hx | rfl
      · exact hI x hx (by omega)
      · simp only at h1; omega)
    obtain ⟨aq, bq⟩ := iq hz2 (by omega) (by rw [t1]; omega) (by rw [t2]; exact pes) hfin satq (by rw [t2]; exact ap)
    have lv := lit_pos (g := g) (v := s.n + 1) (by omega)
    refine ⟨?_, fun h => by simp at h⟩
    simp only
    rw [u2]
    have hnew : g (s.n + 1) = true → SS hs zs i ≥ a := by
      intro hg
      cases ht : tr hs l with
      | true =>
        rw [ht, if_pos rfl] at hS
        have : SS hs zs (i + 1) ≥ a - o := by
          have key := sat2
          unfold step at key
          by_cases e : p.1.2 = false
          · rw [if_pos e] at key
            obtain ⟨x, hx, hlx⟩ := (sat_add.1 key).2
            simp only [List.mem_cons, List.not_mem_nil, or_false] at hx
            have hm := xp.v e
            rcases hx with rfl | rfl | rfl
            · rw [lv.2, hg] at hlx; cases hlx
            · rw [hfl.2, ht] at hlx; cases hlx
            · have := ap _ hm (by simp)
              simp only at this
              exact this (by rw [(lit_pos (pes _ hm)).1] at hlx; exact hlx)
          · rw [if_neg e] at key
            by_cases hneg : p.1.1 < 0
            · rw [if_pos hneg] at key
              obtain ⟨x, hx, hlx⟩ := (sat_add.1 key).2
              simp only [List.mem_cons, List.not_mem_nil, or_false] at hx
              rcases hx with rfl | rfl
              · rw [lv.2, hg] at hlx; cases hlx
              · rw [hfl.2, ht] at hlx; cases hlx
            · exact bp (by simpa using e) hneg
        omega
      | false =>
        rw [ht, if_neg (by simp)] at hS
        have : SS hs zs (i + 1) ≥ a := by
          have key := hsat
          unfold step at key
          by_cases e : q.1.2 = false
          · rw [if_pos e] at key
            obtain ⟨x, hx, hlx⟩ := (sat_add.1 key).2
            simp only [List.mem_cons, List.not_mem_nil, or_false] at hx
            have hm := xq.v e
            rcases hx with rfl | rfl | rfl
            · rw [lv.2, hg] at hlx; cases hlx
            · rw [hfl.1, ht] at hlx; cases hlx
            · have := aq _ hm (by simp)
              simp only at this
              exact this (by rw [(lit_pos (qes _ hm)).1] at hlx; exact hlx)
          · rw [if_neg e] at key
            by_cases hneg : q.1.1 < 0
            · rw [if_pos hneg] at key
              obtain ⟨x, hx, hlx⟩ := (sat_add.1 key).2
              simp only [List.mem_cons, List.not_mem_nil, or_false] at hx
              rcases hx with rfl | rfl
              · rw [lv.2, hg] at hlx; cases hlx
              · rw [hfl.1, ht] at hlx; cases hlx
            · exact bq (by simpa using e) hneg
        omega
    intro x hx hix hgx
    rw [e2, e1] at hx
    simp only [List.mem_append, List.mem_singleton] at hx
    rcases hx with ((hx | rfl) | hx) | hx
    · exact hI x hx hix hgx
    · exact hnew hgx
    · exact ap x (by rw [e1]; simp [hx]) (b1 x hx).1 hgx
    · exact aq x (by rw [e2]; simp [hx]) (b2 x hx).1 hgx
end Go.Aev.Gen
