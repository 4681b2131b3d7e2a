/-
  The earliest starts: what the rounds of passing waits on come to. No program here.
-/
import Derived.Test.YtnfclphlpdbbpaaTRight
set_option linter.unusedSimpArgs false
set_option linter.unusedVariables false
namespace Go.Aev.Gen
open Go Go.Aev
open Classical

/-! ### Lists of starts -/
theorem at_set {d : List Int} {b : Int} (hb : 0 ≤ b ∧ b < (d.length : Int)) (v : Int) (i : Int) (hi : 0 ≤ i) : at' (d.set b.toNat v) i = if i = b then v else at' d i := by
  unfold at'
  rw [List.getD_eq_getElem?_getD, List.getD_eq_getElem?_getD, List.getElem?_set]
  by_cases e : i = b
  · subst e
    have : i.toNat < d.length := by omega
    simp [this]
  · have : ¬ b.toNat = i.toNat := by omega
    simp [this, e]

/-- One wait is passed on. -/
def relax (w : W) (p : List Int × Bool) : List Int × Bool :=
  if at' p.1 w.a + w.y > at' p.1 w.b then (p.1.set w.b.toNat (at' p.1 w.a + w.y), true) else p
def pass : List W → List Int × Bool → List Int × Bool
  | [], p => p
  | w :: r, p => pass r (relax w p)
def rounds (ws : List W) : Nat → List Int → Option (List Int)
  | 0, _ => none
  | n + 1, d => if (pass ws (d, false)).2 = true then rounds ws n (pass ws (d, false)).1 else some (pass ws (d, false)).1

theorem relax_len (w : W) (p : List Int × Bool) : (relax w p).1.length = p.1.length := by unfold relax; split <;> simp
theorem pass_len : ∀ (ws : List W) (p : List Int × Bool), (pass ws p).1.length = p.1.length
  | [], _ => rfl
  | w :: ws, p => by rw [pass, pass_len ws, relax_len]

def InR (n : Nat) (ws : List W) : Prop := ∀ w ∈ ws, (0 ≤ w.a ∧ w.a < (n : Int)) ∧ (0 ≤ w.b ∧ w.b < (n : Int)) ∧ -200 ≤ w.y ∧ w.y ≤ 200
theorem InR.tail {n : Nat} {w : W} {ws : List W} (h : InR n (w :: ws)) : InR n ws := fun u hu => h u (List.mem_cons_of_mem _ hu)

theorem relax_ge {w : W} {p : List Int × Bool} (hb : 0 ≤ w.b ∧ w.b < (p.1.length : Int)) (i : Int) (hi : 0 ≤ i) : at' p.1 i ≤ at' (relax w p).1 i := by
  unfold relax
  split
  · rename_i h
    show _ ≤ at' (p.1.set w.b.toNat _) i
    rw [at_set hb _ i hi]
    split
    · rename_i e; subst e; omega
    · exact Int.le_refl _
  · exact Int.le_refl _
theorem pass_ge {n : Nat} : ∀ {ws : List W} {p : List Int × Bool}, InR n ws → p.1.length = n → ∀ i : Int, 0 ≤ i → at' p.1 i ≤ at' (pass ws p).1 i
  | [], p, _, _, i, _ => Int.le_refl _
  | w :: ws, p, h, hl, i, hi => by
    rw [pass]
    have h1 := h w List.mem_cons_self
    exact Int.le_trans (relax_ge (by rw [hl]; exact h1.2.1) i hi) (pass_ge h.tail (by rw [relax_len]; exact hl) i hi)

/-- What keeps all waits and is not below stays not below. -/
theorem relax_le {w : W} {p : List Int × Bool} {s : List Int} (hb : 0 ≤ w.b ∧ w.b < (p.1.length : Int)) (ha : 0 ≤ w.a) (hw : at' s w.a + w.y ≤ at' s w.b) (h : ∀ i : Int, 0 ≤ i → at' p.1 i ≤ at' s i) : ∀ i : Int, 0 ≤ i → at' (relax w p).1 i ≤ at' s i := by
  intro i hi
  unfold relax
  split
  · show at' (p.1.set w.b.toNat _) i ≤ _
    rw [at_set hb _ i hi]
    split
    · rename_i e; subst e
      have := h w.a ha
      omega
    · exact h i hi
  · exact h i hi
theorem pass_le {n : Nat} {s : List Int} : ∀ {ws : List W} {p : List Int × Bool}, InR n ws → p.1.length = n → Waits ws s → (∀ i : Int, 0 ≤ i → at' p.1 i ≤ at' s i) → ∀ i : Int, 0 ≤ i → at' (pass ws p).1 i ≤ at' s i
  | [], p, _, _, _, h => h
  | w :: ws, p, hr, hl, hw, h => by
    rw [pass]
    have h1 := hr w List.mem_cons_self
    exact pass_le hr.tail (by rw [relax_len]; exact hl) (fun u hu => hw u (List.mem_cons_of_mem _ hu)) (relax_le (by rw [hl]; exact h1.2.1) h1.1.1 (hw w List.mem_cons_self) h)

/-- Where nothing changed all waits are kept. -/
theorem pass_flag {n : Nat} : ∀ {ws : List W} {p : List Int × Bool}, (pass ws p).2 = false → p.2 = false ∧ (pass ws p).1 = p.1 ∧ Waits ws p.1
  | [], p, h => ⟨h, rfl, fun w hw => by cases hw⟩
  | w :: ws, p, h => by
    rw [pass] at h ⊢
    obtain ⟨h1, h2, h3⟩ := pass_flag (n := n) h
    unfold relax at h1 h2 h3 ⊢
    split at h1
    · simp at h1
    · rename_i hc
      rw [if_neg hc] at h2 h3 ⊢
      refine ⟨h1, h2, fun u hu => ?_⟩
      rcases List.mem_cons.1 hu with rfl | hu
      · omega
      · exact h3 u hu
theorem rounds_some {n : Nat} {ws : List W} (hr : InR n ws) : ∀ {k : Nat} {d0 d : List Int}, rounds ws k d0 = some d → d0.length = n → d.length = n ∧ Waits ws d ∧ (∀ i : Int, 0 ≤ i → at' d0 i ≤ at' d i) ∧
    ∀ s : List Int, Waits ws s → (∀ i : Int, 0 ≤ i → at' d0 i ≤ at' s i) → ∀ i : Int, 0 ≤ i → at' d i ≤ at' s i
  | 0, _, _, h, _ => by simp [rounds] at h
  | k + 1, d0, d, h, hl => by
    simp only [rounds] at h
    split at h
    · rename_i hc
      obtain ⟨g1, g2, g3, g4⟩ := rounds_some hr h (by rw [pass_len]; exact hl)
      exact ⟨g1, g2, fun i hi => Int.le_trans (pass_ge hr hl i hi) (g3 i hi), fun s hs h0 => g4 s hs (pass_le hr hl hs h0)⟩
    · rename_i hc
      simp only [Option.some.injEq] at h
      obtain ⟨_, g2, g3⟩ := pass_flag (n := n) (by simpa using hc)
      simp only at g2 g3
      rw [g2] at h; subst h
      exact ⟨hl, g3, fun i _ => Int.le_refl _, fun s _ h0 => h0⟩

/-! ### Where no rest is found there is none -/
def sum' : Nat → (Nat → Int) → Int
  | 0, _ => 0
  | n + 1, f => sum' n f + f n
theorem sum_le : ∀ {n : Nat} {f g : Nat → Int}, (∀ i, i < n → f i ≤ g i) → sum' n f ≤ sum' n g
  | 0, _, _, _ => Int.le_refl _
  | n + 1, f, g, h => by
    have h1 := sum_le (n := n) (f := f) (g := g) fun i hi => h i (by omega)
    have h2 := h n (by omega)
    simp only [sum']; omega
theorem sum_lt : ∀ {n : Nat} {f g : Nat → Int}, (∀ i, i < n → f i ≤ g i) → (∃ i, i < n ∧ f i < g i) → sum' n f < sum' n g
  | 0, _, _, _, ⟨i, hi, _⟩ => by omega
  | n + 1, f, g, h, ⟨i, hi, hlt⟩ => by
    have h1 := sum_le (n := n) (f := f) (g := g) fun i hi => h i (by omega)
    have h2 := h n (by omega)
    simp only [sum']
    by_cases e : i = n
    · subst e; omega
    · have := sum_lt (n := n) (f := f) (g := g) (fun i hi => h i (by omega)) ⟨i, by omega, hlt⟩
      omega
/-- How many of the first are so. -/
noncomputable def count (p : Nat → Prop) : Nat → Nat
  | 0 => 0
  | n + 1 => count p n + if p n then 1 else 0
theorem count_le (p : Nat → Prop) : ∀ n, count p n ≤ n
  | 0 => Nat.le_refl _
  | n + 1 => by have := count_le p n; simp only [count]; split <;> omega
theorem count_mono {p q : Nat → Prop} : ∀ {n : Nat}, (∀ i, i < n → p i → q i) → count p n ≤ count q n
  | 0, _ => Nat.le_refl _
  | n + 1, h => by
    have h1 := count_mono (n := n) fun i hi => h i (by omega)
    have h2 := h n (by omega)
    simp only [count]
    by_cases hp : p n
    · have := h2 hp; simp [hp, this]; omega
    · by_cases hq : q n <;> simp [hp, hq] <;> omega
theorem count_lt {p q : Nat → Prop} : ∀ {n : Nat}, (∀ i, i < n → p i → q i) → (∃ i, i < n ∧ ¬ p i ∧ q i) → count p n < count q n
  | 0, _, ⟨i, hi, _⟩ => by omega
  | n + 1, h, ⟨i, hi, h3, h4⟩ => by
    have h1 := count_mono (n := n) fun i hi => h i (by omega)
    have h2 := h n (by omega)
    simp only [count]
    by_cases e : i = n
    · subst e; simp [h3, h4]; omega
    · have := count_lt (n := n) (fun i hi => h i (by omega)) ⟨i, by omega, h3, h4⟩
      by_cases hp : p n
      · have := h2 hp; simp [hp, this]; omega
      · by_cases hq : q n <;> simp [hp, hq] <;> omega
theorem count_all {p : Nat → Prop} : ∀ {n : Nat}, n ≤ count p n → ∀ i, i < n → p i
  | 0, _, i, hi => by omega
  | n + 1, h, i, hi => by
    have h1 := count_le p n
    simp only [count] at h
    by_cases hp : p n
    · by_cases e : i = n
      · subst e; exact hp
      · exact count_all (n := n) (by simp [hp] at h; omega) i (by omega)
    · simp [hp] at h; omega

def Feas (ws : List W) (f s : List Int) : Prop := Waits ws s ∧ ∀ i : Int, 0 ≤ i → at' f i ≤ at' s i
/-- Of all that keep the waits one whose sum is least. -/
theorem least_exists {n : Nat} {ws : List W} {f : List Int} (hf : f.length = n) (h : ∃ s : List Int, s.length = n ∧ Feas ws f s) :
    ∃ s : List Int, s.length = n ∧ Feas ws f s ∧ ∀ t : List Int, t.length = n → Feas ws f t → sum' n (fun i => at' s i) ≤ sum' n (fun i => at' t i) := by
  have key : ∀ (k : Nat) (s : List Int), s.length = n → Feas ws f s → (sum' n (fun i => at' s i) - sum' n (fun i => at' f i)).toNat ≤ k →
      ∃ s : List Int, s.length = n ∧ Feas ws f s ∧ ∀ t : List Int, t.length = n → Feas ws f t → sum' n (fun i => at' s i) ≤ sum' n (fun i => at' t i) := by
    intro k
    induction k with
    | zero =>
      intro s hl hs hk
      refine ⟨s, hl, hs, fun t ht hft => ?_⟩
      have := sum_le (n := n) (f := fun i => at' f i) (g := fun i => at' t i) fun i _ => hft.2 i (by omega)
      omega
    | succ k ih =>
      intro s hl hs hk
      by_cases hex : ∃ t : List Int, t.length = n ∧ Feas ws f t ∧ sum' n (fun i => at' t i) < sum' n (fun i => at' s i)
      · obtain ⟨t, t1, t2, t3⟩ := hex
        refine ih t t1 t2 ?_
        have := sum_le (n := n) (f := fun i => at' f i) (g := fun i => at' t i) fun i _ => t2.2 i (by omega)
        omega
      · refine ⟨s, hl, hs, fun t ht hft => ?_⟩
        rcases Int.lt_or_le (sum' n fun i => at' t i) (sum' n fun i => at' s i) with h | h
        · exact (hex ⟨t, ht, hft, h⟩).elim
        · exact h
  obtain ⟨s, h1, h2⟩ := h
  exact key _ s h1 h2 (Nat.le_refl _)

theorem at_map {n : Nat} {g : Nat → Int} {i : Int} (hi : 0 ≤ i ∧ i < (n : Int)) : at' ((List.range n).map g) i = g i.toNat := by
  have : i.toNat < n := by omega
  simp [at', List.getD_eq_getElem?_getD, this]
theorem at_out {l : List Int} {i : Int} (hi : (l.length : Int) ≤ i) : at' l i = 0 := by
  have : l.length ≤ i.toNat := by omega
  simp [at', List.getD_eq_getElem?_getD, List.getElem?_eq_none this]

/-- Some number that is not settled hangs on one that is. -/
theorem hangs {n : Nat} {ws : List W} {f s d : List Int} (hr : InR n ws) (hf : f.length = n) (hs : s.length = n) (hfs : Feas ws f s) (hmin : ∀ t : List Int, t.length = n → Feas ws f t → sum' n (fun i => at' s i) ≤ sum' n (fun i => at' t i))
    (hd1 : ∀ i : Int, 0 ≤ i → at' f i ≤ at' d i) (hd2 : ∀ i : Int, 0 ≤ i → at' d i ≤ at' s i) (hex : ∃ i, i < n ∧ at' d i ≠ at' s i) :
    ∃ w ∈ ws, at' d w.a = at' s w.a ∧ at' d w.b ≠ at' s w.b ∧ at' s w.a + w.y = at' s w.b := by
  apply Classical.byContradiction
  intro hno
  let t : List Int := (List.range n).map fun i : Nat => if at' d (i : Int) = at' s (i : Int) then at' s (i : Int) else at' s (i : Int) - 1
  have ht : ∀ i : Int, 0 ≤ i ∧ i < (n : Int) → at' t i = if at' d i = at' s i then at' s i else at' s i - 1 := by
    intro i hi
    have := at_map (n := n) (g := fun i : Nat => if at' d (i : Int) = at' s (i : Int) then at' s (i : Int) else at' s (i : Int) - 1) hi
    rw [show ((i.toNat : Nat) : Int) = i by omega] at this
    exact this
  have hlt : t.length = n := by simp [t]
  have hft : Feas ws f t := by
    refine ⟨fun w hw => ?_, fun i hi => ?_⟩
    · obtain ⟨a1, b1, _⟩ := hr w hw
      rw [ht w.a a1, ht w.b b1]
      have h1 := hfs.1 w hw
      by_cases ea : at' d w.a = at' s w.a <;> by_cases eb : at' d w.b = at' s w.b <;> simp only [ea, eb, if_true, if_false]
      · exact h1
      · have : ¬ at' s w.a + w.y = at' s w.b := fun e => hno ⟨w, hw, ea, eb, e⟩
        omega
      · omega
      · omega
    · by_cases hn : i < (n : Int)
      · rw [ht i ⟨hi, hn⟩]
        have h1 := hd1 i hi; have h2 := hd2 i hi
        split
        · omega
        · omega
      · have h1 := hfs.2 i hi
        rw [at_out (l := t) (by omega)]
        rw [at_out (l := s) (by omega)] at h1
        exact h1
  have h1 := hmin t hlt hft
  have h2 := sum_lt (n := n) (f := fun i => at' t i) (g := fun i => at' s i) (fun i hi => by
    show at' t i ≤ at' s i
    rw [ht i ⟨by omega, by omega⟩]; split <;> omega) (by
    obtain ⟨i, hi, hne⟩ := hex
    refine ⟨i, hi, ?_⟩
    show at' t i < at' s i
    rw [ht i ⟨by omega, by omega⟩, if_neg hne]; omega)
  omega

theorem pass_hit {n : Nat} {s : List Int} : ∀ {ws : List W} {p : List Int × Bool}, InR n ws → p.1.length = n → Waits ws s → (∀ i : Int, 0 ≤ i → at' p.1 i ≤ at' s i) → ∀ w ∈ ws, at' p.1 w.a = at' s w.a → at' s w.a + w.y = at' s w.b → at' (pass ws p).1 w.b = at' s w.b
  | [], p, _, _, _, _, w, hw, _, _ => by cases hw
  | u :: ws, p, hr, hl, hw, hle, w, hm, ha, ht => by
    rw [pass]
    have hu := hr u List.mem_cons_self
    have hw0 := hr w hm
    have hlr : (relax u p).1.length = n := by rw [relax_len]; exact hl
    have hub : 0 ≤ u.b ∧ u.b < (p.1.length : Int) := by rw [hl]; exact hu.2.1
    have hle' := relax_le hub hu.1.1 (hw u List.mem_cons_self) hle
    have hwt : Waits ws s := fun v hv => hw v (List.mem_cons_of_mem _ hv)
    rcases List.mem_cons.1 hm with rfl | hm
    · have h1 := pass_ge hr.tail hlr w.b hw0.2.1.1
      have h2 := pass_le hr.tail hlr hwt hle' w.b hw0.2.1.1
      have h3 : at' (relax w p).1 w.b = at' s w.b := by
        have := hle' w.b hw0.2.1.1
        have hge : at' s w.b ≤ at' (relax w p).1 w.b := by
          unfold relax
          split
          · show _ ≤ at' (p.1.set w.b.toNat _) w.b
            rw [at_set hub _ w.b hw0.2.1.1, if_pos rfl]; omega
          · omega
        omega
      omega
    · refine pass_hit hr.tail hlr hwt hle' w hm ?_ ht
      have := relax_ge (w := u) hub w.a hw0.1.1
      have := hle' w.a hw0.1.1
      omega

theorem rounds_none {n : Nat} {ws : List W} {f : List Int} (hr : InR n ws) (hf : f.length = n) (h : rounds ws (n + 1) f = none) (s0 : List Int) (hs0 : s0.length = n) (hfs0 : Feas ws f s0) : False := by
  obtain ⟨s, h1, h2, h3⟩ := least_exists hf ⟨s0, hs0, hfs0⟩
  have key : ∀ (k : Nat) (d : List Int), d.length = n → (∀ i : Int, 0 ≤ i → at' f i ≤ at' d i) → (∀ i : Int, 0 ≤ i → at' d i ≤ at' s i) → n + 1 ≤ k + count (fun i => at' d i = at' s i) n → rounds ws k d ≠ none := by
    intro k
    induction k with
    | zero =>
      intro d _ _ _ hk
      have := count_le (fun i => at' d i = at' s i) n
      omega
    | succ k ih =>
      intro d hl g1 g2 hk
      simp only [rounds]
      split
      · rename_i hc
        have hlp : (pass ws (d, false)).1.length = n := by rw [pass_len]; exact hl
        have p1 := pass_ge (p := (d, false)) hr hl
        have p2 := pass_le (p := (d, false)) hr hl h2.1 g2
        refine ih _ hlp (fun i hi => Int.le_trans (g1 i hi) (p1 i hi)) p2 ?_
        have mono : ∀ i, i < n → at' d i = at' s i → at' (pass ws (d, false)).1 i = at' s i := by
          intro i _ e
          have q1 : at' d i ≤ at' (pass ws (d, false)).1 i := p1 i (by omega)
          have q2 : at' (pass ws (d, false)).1 i ≤ at' s i := p2 i (by omega)
          omega
        by_cases hex : ∃ i, i < n ∧ at' d i ≠ at' s i
        · obtain ⟨w, hw, e1, e2, e3⟩ := hangs hr hf h1 h2 h3 g1 g2 hex
          have hb := (hr w hw).2.1
          have := pass_hit (p := (d, false)) hr hl h2.1 g2 w hw e1 e3
          have hlt := count_lt (n := n) mono ⟨w.b.toNat, by omega, by rw [show ((w.b.toNat : Nat) : Int) = w.b by omega]; exact e2, by rw [show ((w.b.toNat : Nat) : Int) = w.b by omega]; exact this⟩
          omega
        · have := count_mono (n := n) mono
          have hall : n ≤ count (fun i => at' d i = at' s i) n := by
            have : ∀ m, m ≤ n → m ≤ count (fun i => at' d i = at' s i) m := by
              intro m
              induction m with
              | zero => intro _; exact Nat.zero_le _
              | succ m ihm =>
                intro hm
                have hp : at' d m = at' s m := Classical.byContradiction fun e => hex ⟨m, by omega, e⟩
                simp only [count]
                have := ihm (by omega)
                simp [hp]; omega
            exact this n (Nat.le_refl _)
          -- all settled: nothing changes, against hc
          exfalso
          have hw : Waits ws d := fun w hw => by
            obtain ⟨a1, b1, _⟩ := hr w hw
            have ea := count_all hall w.a.toNat (by omega)
            have eb := count_all hall w.b.toNat (by omega)
            rw [show ((w.a.toNat : Nat) : Int) = w.a by omega] at ea
            rw [show ((w.b.toNat : Nat) : Int) = w.b by omega] at eb
            rw [ea, eb]; exact h2.1 w hw
          have still : ∀ (us : List W), Waits us d → pass us (d, false) = (d, false) := by
            intro us
            induction us with
            | nil => intro _; rfl
            | cons u us ihu =>
              intro hu
              rw [pass]
              have : relax u (d, false) = (d, false) := by
                unfold relax
                have := hu u List.mem_cons_self
                rw [if_neg (by simp only; omega)]
              rw [this]
              exact ihu fun v hv => hu v (List.mem_cons_of_mem _ hv)
          rw [still ws hw] at hc
          cases hc
      · simp
  exact key (n + 1) f hf (fun i _ => Int.le_refl _) h2.2 (by omega) h
end Go.Aev.Gen
