/-
  HeapClauses: the clauses are fine, and they say what the heap says.
-/
import Derived.Test.YtcjfkgkobblonaaHCMath
import Derived.Test.YtcjfkgkobblonaaHArg
set_option linter.unusedSimpArgs false
set_option linter.unusedVariables false
namespace Go.Aev.Gen
open Go Go.Aev Go.Aev.Hp Go.RowKit Go.Proofs

/-! ### Their form -/
theorem Fine.mono {n m : Int} {c : List Int} (h : Fine n c) (hm : n ≤ m) : Fine m c := ⟨h.1, h.2.1, fun x hx => by have := h.2.2 x hx; omega⟩
theorem fine_srt {n : Int} {c : List Int} (h3 : c.length ≤ 3) (hp : c.Pairwise fun x y => ab x ≠ ab y) (hb : ∀ x ∈ c, 1 ≤ ab x ∧ ab x ≤ n) : Fine n (srt c) :=
  ⟨by rw [srt_len]; omega, srt_asc c h3 hp, fun x hx => hb x ((srt_mem c x).1 hx)⟩
theorem ab_neg (x : Int) : ab (-x) = ab x := by unfold ab; omega
theorem ab_pos {x : Int} (h : 0 < x) : ab x = x := by unfold ab; omega
structure Wf (n0 : Int) (s : NS) : Prop where
  pw : s.es.Pairwise fun p q => p.2 < q.2
  b : ∀ p ∈ s.es, n0 < p.2 ∧ p.2 ≤ s.n
theorem pw_inj {es : List ((Int × Int) × Int)} (h : es.Pairwise fun p q => p.2 < q.2) {p q : (Int × Int) × Int} (hp : p ∈ es) (hq : q ∈ es) (e : p.2 = q.2) : p = q := by
  induction h with
  | nil => simp at hp
  | @cons x r h1 _ ih =>
    rcases List.mem_cons.1 hp with hp' | hp' <;> rcases List.mem_cons.1 hq with hq' | hq'
    · rw [hp', hq']
    · have := h1 q hq'; rw [hp'] at e; omega
    · have := h1 p hp'; rw [hq'] at e; omega
    · exact ih hp' hq' 
theorem Wf.ext {n0 : Int} {s : NS} (h : Wf n0 s) (hs : n0 ≤ s.n) {i a : Int} {r : (Int × Bool) × NS} (x : Ext i a s r) : Wf n0 r.2 := by
  obtain ⟨nw, e, b, p⟩ := x.es
  refine ⟨by rw [e]; exact List.pairwise_append.2 ⟨h.pw, p, fun x hx y hy => by have := h.b x hx; have := b y hy; omega⟩, fun y hy => ?_⟩
  rw [e] at hy
  have := x.n
  rcases List.mem_append.1 hy with hy | hy
  · have := h.b y hy; omega
  · have := b y hy; omega
theorem step_fine {n0 v l : Int} {s : NS} {r : Int × Bool} (hs : ∀ c ∈ s.cl, Fine s.n c) (hv : n0 < v ∧ v ≤ s.n) (h0 : 0 ≤ n0) (hl : 1 ≤ ab l ∧ ab l ≤ n0) (hr : r.2 = false → n0 < r.1 ∧ r.1 ≤ s.n ∧ r.1 ≠ v) : ∀ c ∈ (step s v l r).cl, Fine s.n c := by
  have nv : ab (-v) = v := by rw [ab_neg, ab_pos (by omega)]
  refine step_case (fun t => ∀ c ∈ t.cl, Fine s.n c) (fun e => ?_) (fun e hneg => ?_) (fun e hneg => hs)
  · obtain ⟨a, b, d⟩ := hr e
    have er := ab_pos (x := r.1) (by omega)
    intro c hc
    rcases List.mem_append.1 hc with hc | hc
    · exact hs c hc
    · rw [List.mem_singleton] at hc
      subst hc
      refine fine_srt (by simp) ?_ ?_
      · simp only [List.pairwise_cons, List.mem_cons, List.not_mem_nil, or_false, forall_eq_or_imp, forall_eq, false_implies, implies_true, List.Pairwise.nil, and_true, nv, er]
        omega
      · simp only [List.mem_cons, List.not_mem_nil, or_false, forall_eq_or_imp, forall_eq, nv, er]
        omega
  · intro c hc
    rcases List.mem_append.1 hc with hc | hc
    · exact hs c hc
    · rw [List.mem_singleton] at hc
      subst hc
      refine fine_srt (by simp) ?_ ?_
      · simp only [List.pairwise_cons, List.mem_cons, List.not_mem_nil, or_false, forall_eq, false_implies, implies_true, List.Pairwise.nil, and_true, nv]
        omega
      · simp only [List.mem_cons, List.not_mem_nil, or_false, forall_eq_or_imp, forall_eq, nv]
        omega
theorem nd_fine {n0 : Int} {zs : List (Int × Int)} (h0 : 0 ≤ n0) (hl : ∀ x ∈ zs, 1 ≤ ab x.1 ∧ ab x.1 ≤ n0) {rem i a s r} (h : Nd rem i a s r) : zs.drop i.toNat = rem → 0 ≤ i → n0 ≤ s.n → Wf n0 s → (∀ c ∈ s.cl, Fine s.n c) → ∀ c ∈ r.2.cl, Fine r.2.n c := by
  induction h with
  | le0 h => exact fun _ _ _ _ h => h
  | more h1 h2 => exact fun _ _ _ _ h => h
  | over h => exact fun _ _ _ _ h => h
  | known h => exact fun _ _ _ _ h => h
  | @new l o r i a s p q h0' hlk hn hp hq ip iq =>
    intro hz hi hs0 hw hf
    have xp := hp.ext
    have xq := hq.ext
    obtain ⟨t1, t2, _⟩ := step_ext p.2 (s.n + 1) (-l) p.1
    obtain ⟨u1, u2, _⟩ := step_ext q.2 (s.n + 1) l q.1
    have k1 := xp.n
    have k2 := xq.n
    simp only at k1
    rw [t1] at k2
    obtain ⟨hz2, hx⟩ := drop_next hi hz
    have hlx := hl _ hx
    simp only at hlx
    have w1 : Wf n0 ⟨s.n + 1, s.cl, s.es ++ [((i, a), s.n + 1)]⟩ := by
      refine ⟨List.pairwise_append.2 ⟨hw.pw, by simp, fun x hx y hy => ?_⟩, fun x hx => ?_⟩
      · rw [List.mem_singleton] at hy; subst hy
        have := hw.b x hx; simp only; omega
      · simp only [List.mem_append, List.mem_singleton] at hx
        rcases hx with hx | rfl
        · have := hw.b x hx; simp only; omega
        · simp only; omega
    have wp : Wf n0 p.2 := w1.ext (by simp only; omega) xp
    have w2 : Wf n0 (step p.2 (s.n + 1) (-l) p.1) := ⟨by rw [t2]; exact wp.pw, by rw [t2, t1]; exact wp.b⟩
    have wq : Wf n0 q.2 := w2.ext (by rw [t1]; omega) xq
    obtain ⟨n1, e1, b1, _⟩ := xp.es
    obtain ⟨n2, e2, b2, _⟩ := xq.es
    simp only at e1
    rw [t2] at e2
    have mp : ((i, a), s.n + 1) ∈ p.2.es := by rw [e1]; simp
    have mq : ((i, a), s.n + 1) ∈ q.2.es := by rw [e2]; exact List.mem_append_left _ mp
    have fp := ip hz2 (by omega) (by simp only; omega) w1 (fun c hc => (hf c hc).mono (by simp only; omega))
    have f2 : ∀ c ∈ (step p.2 (s.n + 1) (-l) p.1).cl, Fine p.2.n c := by
      refine step_fine fp (by omega) h0 (by rw [ab_neg]; exact hlx) fun e => ?_
      have hm := xp.v e
      have := wp.b _ hm
      refine ⟨this.1, this.2, fun e2 => ?_⟩
      have := pw_inj wp.pw hm mp e2
      simp only [Prod.mk.injEq] at this
      omega
    have fq := iq hz2 (by omega) (by rw [t1]; omega) w2 (fun c hc => by rw [t1]; exact f2 c hc)
    simp only
    rw [u1]
    refine step_fine fq (by omega) h0 hlx fun e => ?_
    have hm := xq.v e
    have := wq.b _ hm
    refine ⟨this.1, this.2, fun e2 => ?_⟩
    have := pw_inj wq.pw hm mq e2
    simp only [Prod.mk.injEq] at this
    omega
theorem nd_count {rem i a s r} (h : Nd rem i a s r) : r.2.n + 1 ≤ s.n + 2 ^ rem.length := by
  have pos : ∀ k : Nat, (1 : Int) ≤ 2 ^ k := fun k => by
    have : 0 < 2 ^ k := Nat.two_pow_pos k
    have e : ((2 ^ k : Nat) : Int) = (2 : Int) ^ k := by simp
    omega
  induction h with
  | le0 h => have := pos (List.length ‹_›); simp only; omega
  | more h1 h2 => have := pos (List.length ‹_›); simp only; omega
  | over h => have := pos (List.length ‹_›); simp only; omega
  | known h => have := pos (List.length ‹_›); simp only; omega
  | @new l o r i a s p q h0 hl hn hp hq ip iq =>
    simp only at ip
    rw [(step_ext p.2 (s.n + 1) (-l) p.1).1] at iq
    simp only [(step_ext q.2 (s.n + 1) l q.1).1, List.length_cons, Int.pow_succ]
    omega

/-! ### The whole -/
def bb (b : Bool) : Int := if b = true then 1 else -1
def soF (hs : List Bool) (d : Nat) : List Int := hs.map bb ++ List.replicate d 0
theorem soF_get {hs : List Bool} {d v : Nat} (h : v < hs.length) : (soF hs d).getD v 0 = bb (hs.getD v false) := by
  unfold soF
  rw [List.getD_eq_getElem?_getD, List.getElem?_append_left (by simpa using h), List.getD_eq_getElem?_getD]
  simp [List.getElem?_eq_getElem h]
theorem soF_zero {hs : List Bool} {d v : Nat} (h : hs.length ≤ v) : (soF hs d).getD v 0 = 0 := by
  unfold soF
  rw [List.getD_eq_getElem?_getD, List.getElem?_append_right (by simpa using h)]
  rw [List.getElem?_replicate]
  split <;> rfl
theorem agr_so {g : Int → Bool} {hs : List Bool} {d : Nat} : Agr g (soF hs d) ↔ ∀ v : Nat, v < hs.length → g ((v : Int) + 1) = hs.getD v false := by
  have hl : (soF hs d).length = hs.length + d := by simp [soF]
  constructor
  · intro h v hv
    have := h v (by omega)
    rw [soF_get hv] at this
    cases e : hs.getD v false with
    | true => rw [e] at this; exact this.1 rfl
    | false => rw [e] at this; exact this.2 rfl
  · intro h v _
    by_cases c : v < hs.length
    · rw [soF_get c, h v c]
      cases hs.getD v false <;> simp [bb]
    · rw [soF_zero (by omega)]
      exact ⟨fun h => by omega, fun h => by omega⟩
theorem fits_so {g : Int → Bool} {hs : List Bool} (h : ∀ v : Nat, v < hs.length → g ((v : Int) + 1) = hs.getD v false) {zs : List (Int × Int)} (hz : ∀ x ∈ zs, 1 ≤ ab x.1 ∧ ab x.1 ≤ (hs.length : Int)) : Fits g hs zs := by
  intro x hx
  have hb := hz x hx
  have hv := h (ab x.1 - 1).toNat (by omega)
  have e : (((ab x.1 - 1).toNat : Nat) : Int) + 1 = ab x.1 := by omega
  rw [e] at hv
  have hval : val hs (ab x.1) = g (ab x.1) := by unfold val; exact hv.symm
  unfold litT tr
  by_cases c : 0 < x.1
  · have ea : ab x.1 = x.1 := ab_pos c
    rw [ea] at hval
    rw [if_pos c, if_pos c, if_neg (by omega), Int.neg_neg, hval]
    exact ⟨rfl, rfl⟩
  · have ea : ab x.1 = -x.1 := by unfold ab at hb ⊢; omega
    rw [ea] at hval
    rw [if_neg c, if_neg c, if_pos (by omega), hval]
    exact ⟨rfl, by simp⟩

theorem top_ext (r : (Int × Bool) × NS) : (topF r).n = r.2.n ∧ (topF r).cl.length ≤ r.2.cl.length + 1 := by
  unfold topF NS.add
  split
  · simp
  · split <;> simp
theorem cl_facts {h : Hp} {hs : List Bool} (htd : Td h) (gd : Good h (hs.length : Int)) :
    (hs.length : Int) ≤ (clF h hs.length).n ∧ (h.ls.length ≤ 5 → (clF h hs.length).n ≤ (hs.length : Int) + 31) ∧
    ((clF h hs.length).n ≤ 120 → (∀ c ∈ (clF h hs.length).cl, Fine (clF h hs.length).n c) ∧ (clF h hs.length).cl.length ≤ 400 ∧
      ∀ d, Mod (clF h hs.length).cl (soF hs d) ↔ holdsF h hs = true) := by
  have hn0 := gd.n0
  have hnd := nodeF_nd (h.ls.zip h.os) 0 h.at_ ⟨(hs.length : Int), [], []⟩
  have i0 : Inv ⟨(hs.length : Int), [], []⟩ := ⟨by simp only; omega, by simp; omega, by simp⟩
  have o1 := nodeF_out (h.ls.zip h.os) 0 h.at_ _ i0
  have hx := hnd.ext
  unfold clF
  generalize nodeF (h.ls.zip h.os) 0 h.at_ ⟨(hs.length : Int), [], []⟩ = r at *
  obtain ⟨t1, t2⟩ := top_ext r
  have hcl := o1.cl
  have hn := hx.n
  simp only [List.length_nil] at hcl hn
  have hpos : Pos (h.ls.zip h.os) := fun x hx => (htd.os x.2 (List.of_mem_zip hx).2).1
  have hlit : ∀ x ∈ h.ls.zip h.os, 1 ≤ ab x.1 ∧ ab x.1 ≤ (hs.length : Int) := fun x hx => by
    have := gd.lit x.1 (List.of_mem_zip hx).1
    unfold ab; omega
  refine ⟨by rw [t1]; exact hn, fun h5 => ?_, fun h120 => ⟨?_, by omega, fun d => ?_⟩⟩
  · rw [t1]
    have := nd_count hnd
    simp only at this
    have hz : (h.ls.zip h.os).length ≤ 5 := by rw [List.length_zip]; omega
    have : (2 : Nat) ^ (h.ls.zip h.os).length ≤ 2 ^ 5 := Nat.pow_le_pow_right (by omega) hz
    have e : (((2 : Nat) ^ (h.ls.zip h.os).length : Nat) : Int) = (2 : Int) ^ (h.ls.zip h.os).length := by simp
    omega
  · have hf := nd_fine (by omega) hlit hnd rfl (by omega) (by simp) ⟨by simp, by simp⟩ (by simp)
    have hw : Wf (hs.length : Int) r.2 := Wf.ext ⟨by simp, by simp⟩ (by simp) hx
    rw [t1]
    unfold topF
    intro c hc
    by_cases e : r.1.2 = false
    · rw [if_pos e] at hc
      have hm := hw.b _ (hx.v e)
      simp only at hm
      rcases List.mem_append.1 hc with hc | hc
      · exact hf c hc
      · rw [List.mem_singleton] at hc
        subst hc
        exact fine_srt (by simp) (by simp) (by simp [ab_pos (x := r.1.1) (by omega)]; omega)
    · rw [if_neg e] at hc
      by_cases e2 : r.1.1 < 0
      · rw [if_pos e2] at hc
        rcases List.mem_append.1 hc with hc | hc
        · exact hf c hc
        · rw [List.mem_singleton] at hc
          subst hc
          exact fine_srt (by simp) (by simp) (by simp)
      · rw [if_neg e2] at hc
        exact hf c hc
  · rw [t1] at h120
    have hw : Wf (hs.length : Int) r.2 := Wf.ext ⟨by simp, by simp⟩ (by simp) hx
    have hS : SS hs (h.ls.zip h.os) 0 = sumT hs h.ls h.os := by
      unfold SS; rw [← sumR_zip]; rfl
    have hH : holdsF h hs = true ↔ SS hs (h.ls.zip h.os) 0 ≥ h.at_ := by rw [hS]; unfold holdsF; simp
    rw [hH]
    constructor
    · rintro ⟨g, ha, hsat⟩
      have hfit := fits_so (agr_so.1 ha) hlit
      have satr : Sat g r.2.cl := by
        unfold topF at hsat
        split at hsat
        · exact (sat_add.1 hsat).1
        · split at hsat
          · exact (sat_add.1 hsat).1
          · exact hsat
      obtain ⟨d1, d2⟩ := sat_down hpos hfit hnd rfl (by omega) (by simp only; omega) (by simp) h120 satr (by simp)
      unfold topF at hsat
      by_cases e : r.1.2 = false
      · rw [if_pos e] at hsat
        obtain ⟨x, hx', hl⟩ := (sat_add.1 hsat).2
        rw [List.mem_singleton] at hx'
        subst hx'
        have hm := hx.v e
        have hb := hw.b _ hm
        simp only at hb
        have := d1 _ hm (Int.le_refl _) (by rw [(lit_pos (by omega)).1] at hl; exact hl)
        exact this
      · rw [if_neg e] at hsat
        by_cases e2 : r.1.1 < 0
        · rw [if_pos e2] at hsat
          obtain ⟨x, hx', hl⟩ := (sat_add.1 hsat).2
          simp at hx'
        · exact d2 (by simpa using e) e2
    · intro hge
      let g : Int → Bool := fun v => if v ≤ (hs.length : Int) then hs.getD (v - 1).toNat false else r.2.es.any fun p => decide (p.2 = v) && decide (SS hs (h.ls.zip h.os) p.1.1 ≥ p.1.2)
      have hg1 : ∀ v : Nat, v < hs.length → g ((v : Int) + 1) = hs.getD v false := by
        intro v hv
        show (if (v : Int) + 1 ≤ (hs.length : Int) then _ else _) = _
        rw [if_pos (by omega)]
        congr 1; omega
      have hg2 : ∀ p ∈ r.2.es, g p.2 = decide (SS hs (h.ls.zip h.os) p.1.1 ≥ p.1.2) := by
        intro p hp
        have hb := hw.b p hp
        show (if p.2 ≤ (hs.length : Int) then _ else _) = _
        rw [if_neg (by omega)]
        by_cases c : SS hs (h.ls.zip h.os) p.1.1 ≥ p.1.2
        · rw [decide_eq_true c]
          exact List.any_eq_true.2 ⟨p, hp, by simp [c]⟩
        · rw [decide_eq_false c]
          refine List.any_eq_false.2 fun q hq => ?_
          simp only [Bool.and_eq_true, decide_eq_true_eq, not_and]
          intro e
          have := pw_inj hw.pw hq hp e
          rw [this]; exact c
      have hfit := fits_so hg1 hlit
      obtain ⟨u1, u2⟩ := sat_up hpos hfit hnd rfl (by omega) (by simp only; omega) (by simp) h120 hg2 (by intro c hc; simp at hc)
      refine ⟨g, agr_so.2 hg1, ?_⟩
      unfold topF
      by_cases e : r.1.2 = false
      · rw [if_pos e]
        have hm := hx.v e
        have hb := hw.b _ hm
        simp only at hb
        refine sat_add.2 ⟨u1, r.1.1, by simp, ?_⟩
        rw [(lit_pos (by omega)).1, hg2 _ hm]
        simpa using hge
      · rw [if_neg e]
        by_cases e2 : r.1.1 < 0
        · have := (u2 (by simpa using e)).1 e2
          omega
        · rw [if_neg e2]; exact u1

/-! ### A heap in normal form is no longer -/
def ca (v : Int) (n : Nat) : List Int → Nat
  | [] => 0
  | l :: r => (if v ≤ ab l ∧ ab l < v + n then 1 else 0) + ca v n r
theorem ca_succ (v : Int) (n : Nat) : ∀ ls, ca v (n + 1) ls = ca v 1 ls + ca (v + 1) n ls
  | [] => rfl
  | l :: r => by
    simp only [ca, ca_succ v n r]
    by_cases h1 : v ≤ ab l ∧ ab l < v + ((n + 1 : Nat) : Int)
    · rw [if_pos h1]
      by_cases h2 : v ≤ ab l ∧ ab l < v + ((1 : Nat) : Int)
      · rw [if_pos h2, if_neg (by omega)]; omega
      · rw [if_neg h2, if_pos (by omega)]; omega
    · rw [if_neg h1, if_neg (by omega), if_neg (by omega)]; omega
theorem ca_le (v : Int) (n : Nat) : ∀ ls, ca v n ls ≤ ls.length
  | [] => Nat.le_refl _
  | l :: r => by have := ca_le v n r; simp only [ca, List.length_cons]; split <;> omega
theorem amt_ca {v : Int} (hv : 1 ≤ v) : ∀ {ls os : List Int}, amtP ls os v ≠ 0 → 1 ≤ ca v 1 ls
  | [], os, h => by simp [amtP] at h
  | l :: ls, [], h => by simp [amtP] at h
  | l :: ls, o :: os, h => by
    simp only [amtP] at h
    simp only [ca]
    by_cases h1 : l = v ∨ l = -v
    · rw [if_pos (by unfold ab; omega)]; omega
    · rw [if_neg (by omega), if_neg (by omega), Int.zero_add] at h
      have := amt_ca hv h
      omega
theorem tv_len (ls os : List Int) : ∀ (n : Nat) (v : Int), 1 ≤ v → (tv ls os n v).length ≤ ca v n ls
  | 0, v, _ => by simp [tv]
  | n + 1, v, hv => by
    have ih := tv_len ls os n (v + 1) (by omega)
    rw [ca_succ]
    simp only [tv, List.length_append]
    have : (term1 v (amtP ls os v)).length ≤ ca v 1 ls := by
      unfold term1
      by_cases h : amtP ls os v = 0
      · rw [h]; simp
      · have := amt_ca hv h
        split
        · simpa using this
        · split
          · simpa using this
          · simp
    omega
theorem norm_len (ls os : List Int) (a : Int) : (normF ls os a).1.ls.length ≤ ls.length := by
  have h := tv_len ls os 120 1 (by omega)
  rw [← terms_tv] at h
  have h2 := ca_le 1 120 ls
  unfold normF fin
  split
  · simp
  · split
    · simp
    · split
      · simp
      · simp only [List.length_map]; omega
theorem full_len {h : Hp} {n : Int} (g : Good h n) : (fullR h).1.ls.length ≤ h.ls.length := by
  unfold fullR
  split
  · unfold fullF
    have h1 := norm_len (tidyF h).1.ls ((tidyF h).1.os.map fun o => min o (tidyF h).1.at_) (tidyF h).1.at_
    have h2 : (tidyF h).1.ls.length ≤ h.ls.length := by rw [tidy_eq g]; exact norm_len _ _ _
    simp only
    omega
  · simp [none_]

/-! ### The law -/
theorem n7b {h : Hp} {hs : List Bool} {e f g ec : Bool} {n : Int} {cl : List (List Int)} {d : Nat} {R : List T} (hn : hs.length ≤ 1000)
    (hr : Or K7j21 [lb g hs, r0, r1, AV.t (T.lst 1 false (enc (soF hs d)))] [Blk.box [lst e h.ls, lst f h.os, I h.at_], Blk.box [I n, AV.t (T.lst 1 ec (encC cl))]] = some R) :
    ∀ (suf pre : List Bool), hs = pre ++ suf →
    Or K7n16 [lb g hs, r0, r1, AV.own (Id.c 2), I (pre.length : Int)] [Blk.box [lst e h.ls, lst f h.os, I h.at_], Blk.box [I n, AV.t (T.lst 1 ec (encC cl))], Blk.sl false 1 false (enc (pre.map bb ++ List.replicate (suf.length + d) 0))] = some R
  | [], pre, hp => by
    rw [List.append_nil] at hp
    have c : ¬ (pre.length : Int) < (hs.length : Int) := by rw [hp]; omega
    subst hp
    refine orc_of ?_
    rw [e7n16]
    simp only [List.length_nil, Nat.zero_add]
    simp only [gd1, hd1, tl1, dr0, dr1, dr2, dr3, dr4, dr5, dr6, bo1, in1, st1, ls1, le1, pt1, fi1, fb1, fs1, ct1, cf1, nt1, nf1, ak0, akT, akF, cdec, cndec, cbeq, cnbeq, ↓reduceIte, beq_self_eq_true, Int.reduceBEq, Int.reduceEq, Bool.and_true, Bool.true_and, Bool.false_and, Bool.and_false, encB_len, c]
    exact hr
  | b :: r, pre, hp => by
    have ih := n7b (h := h) (e := e) (f := f) (g := g) hn hr r (pre ++ [b]) (by rw [hp]; simp)
    have hl : hs.length = pre.length + (r.length + 1) := by rw [hp]; simp
    have c : (pre.length : Int) < (hs.length : Int) := by omega
    have c0 : 0 ≤ (pre.length : Int) := by omega
    have en : wrap64 ((pre.length : Int) + 1) = ((pre ++ [b]).length : Int) := by rw [w64 (by omega)]; simp
    have hrep : List.replicate ((b :: r).length + d) (0 : Int) = 0 :: List.replicate (r.length + d) 0 := by
      rw [show (b :: r).length + d = (r.length + d) + 1 by simp; omega, List.replicate_succ]
    have hlen : (pre.map bb ++ (0 :: List.replicate (r.length + d) (0 : Int))).length = hs.length + d := by simp; omega
    have set1 : ∀ y, (pre.map bb ++ (0 :: List.replicate (r.length + d) (0 : Int))).set pre.length y = pre.map bb ++ (y :: List.replicate (r.length + d) 0) := by
      intro y
      rw [List.set_append_right _ _ (by simp)]; simp
    have set2 : ∀ x y, (pre.map bb ++ (x :: List.replicate (r.length + d) (0 : Int))).set pre.length y = pre.map bb ++ (y :: List.replicate (r.length + d) 0) := by
      intro x y
      rw [List.set_append_right _ _ (by simp)]; simp
    have s1 := enc_set (l := pre.map bb ++ (0 :: List.replicate (r.length + d) (0 : Int))) (i := pre.length) (by rw [hlen]; omega) (-1)
    rw [set1] at s1
    have s2 := enc_set (l := pre.map bb ++ ((-1) :: List.replicate (r.length + d) (0 : Int))) (i := pre.length) (by simp) 1
    rw [set2] at s2
    have c1 : (pre.length : Int) < ((hs.length + d : Nat) : Int) := by omega
    have c2 : (pre.length : Int) < (((pre.map bb ++ ((-1) :: List.replicate (r.length + d) (0 : Int))).length : Nat) : Int) := by simp; omega
    have hget : (encB hs)[((pre.length : Nat) : Int).toNat]? = some [tb b] := by rw [hp]; simp [encB]
    have fin1 : pre.map bb ++ (bb b :: List.replicate (r.length + d) 0) = (pre ++ [b]).map bb ++ List.replicate (r.length + d) 0 := by simp
    rw [← fin1] at ih
    rw [hrep]
    refine orc_of ?_
    rw [e7n16]
    simp only [wr64]
    cases b with
    | true =>
      simp only [gd1, hd1, tl1, dr0, dr1, dr2, dr3, dr4, dr5, dr6, bo1, in1, st1, ls1, le1, pt1, fi1, fb1, fs1, ct1, cf1, nt1, nf1, ak0, akT, akF, cdec, cndec, cbeq, cnbeq, ↓reduceIte, beq_self_eq_true, Int.reduceBEq, Int.reduceEq, Bool.and_true, Bool.true_and, Bool.false_and, Bool.and_false, encB_len, enc_len, hlen, c, c0, c1, c2, and_self, s1, hget, s2, en]
      exact ih
    | false =>
      simp only [gd1, hd1, tl1, dr0, dr1, dr2, dr3, dr4, dr5, dr6, bo1, in1, st1, ls1, le1, pt1, fi1, fb1, fs1, ct1, cf1, nt1, nf1, ak0, akT, akF, cdec, cndec, cbeq, cnbeq, ↓reduceIte, beq_self_eq_true, Int.reduceBEq, Int.reduceEq, Bool.and_true, Bool.true_and, Bool.false_and, Bool.and_false, encB_len, enc_len, hlen, c, c0, c1, and_self, s1, hget, en]
      exact ih

theorem s20r (e f : Bool) {h : Hp} {n : Int} (g : Good h n) : Ans (Or (.call 20) [hv e f h] []) (fullR h) := by
  have := s20 e f g.in_
  rw [refT_eq g, fullG_eq] at this
  exact this
theorem law7 (e f g : Bool) (x : Hp) (hs : List Bool) : Or (.call 7) [hv e f x, lb g hs] [] = some [tb true] := by
  have r8 := fact8
  have r22 := s22 e f x (hs.length : Int) (fun t ht hc => norm_td ht.full hc)
  have r15 := s15 x (hs.length : Int) e f
  unfold clR at r22
  by_cases c : (chkH x (hs.length : Int)).1 = 0
  · have gd := chk_ok c
    have hn0 := gd.n0
    obtain ⟨u, v, r20, i1, j1⟩ := s20r e f gd
    have i1' : u.lst? 1 = _ := i1
    have j1' : v.lst? 1 = _ := j1
    have r17 := s17 e f g gd
    rw [if_pos c] at r22
    change Or _ _ _ = some (if (fullR x).2.1 = 0 then endF (clF (fullR x).1 hs.length) else [ti 0, T.emp true, ti (fullR x).2.1, ti (fullR x).2.2]) at r22
    by_cases c2 : (fullR x).2.1 = 0
    · rw [if_pos c2] at r22
      obtain ⟨gf, hh⟩ := full_fact gd c2
      have htd : Td (fullR x).1 := by
        unfold fullR at c2 ⊢
        by_cases c3 : (tidyF x).2.1 = 0
        · rw [if_pos c3] at c2 ⊢; exact norm_td (Td.of c3).full c2
        · rw [if_neg c3] at c2; exact absurd c2 c3
      obtain ⟨f1, f2, f3⟩ := cl_facts htd gf
      have fl := full_len gd
      unfold endF at r22
      generalize clF (fullR x).1 hs.length = s at *
      by_cases c3 : s.n > 120
      · rw [if_pos c3] at r22
        obtain ⟨b, r24, h24⟩ := s24 e f x (hs.length : Int) (by have := gd.few; have := gd.len; omega)
        have hb : b = false := by
          cases b with
          | false => rfl
          | true =>
            exfalso
            have := h24 rfl
            have := f2 (by omega)
            omega
        subst hb
        have r23 := s23 10 0
        refine orc_of ?_
        rw [e7]
        simp only [gd1, hd1, tl1, dr0, dr1, dr2, dr3, dr4, dr5, dr6, bo1, in1, st1, ls1, le1, pt1, fi1, fb1, fs1, ct1, cf1, nt1, nf1, ak0, akT, akF, cdec, cndec, cbeq, cnbeq, ↓reduceIte, beq_self_eq_true, Int.reduceBEq, Int.reduceEq, Bool.and_true, Bool.true_and, Bool.false_and, Bool.and_false, r8, r22, r15, r20, i1', j1', c, c2, encB_len, r23, r24]
        rfl
      · rw [if_neg c3] at r22
        obtain ⟨f4, f5, f6⟩ := f3 (by omega)
        have r25 := s25 (n := s.n) (cl := s.cl) (e := s.cl.isEmpty) (by omega) f5 f4
        have cn : ¬ s.n < (hs.length : Int) := by omega
        have w30 : IntKind.i64.wrap ((hs.length : Int) + 30) = (hs.length : Int) + 30 := wr (by omega)
        by_cases c4 : s.n > (hs.length : Int) + 30
        · refine orc_of ?_
          rw [e7]
          simp only [cor]
          simp only [gd1, hd1, tl1, dr0, dr1, dr2, dr3, dr4, dr5, dr6, bo1, in1, st1, ls1, le1, pt1, fi1, fb1, fs1, ct1, cf1, nt1, nf1, ak0, akT, akF, cdec, cndec, cbeq, cnbeq, ↓reduceIte, beq_self_eq_true, Int.reduceBEq, Int.reduceEq, Bool.and_true, Bool.true_and, Bool.false_and, Bool.and_false, r8, r22, r15, r20, i1', j1', c, c2, encB_len, cn, decide_false, Bool.not_false, r25, Bool.or_self, Bool.not_true, w30, c4, decide_true]
        · have hm : mkOk s.n s.n = some () := by unfold mkOk; rw [if_pos ⟨by omega, by omega, by unfold lim; omega⟩]
          obtain ⟨d, hd⟩ : ∃ d : Nat, s.n = ((hs.length + d : Nat) : Int) := ⟨(s.n - hs.length).toNat, by omega⟩
          have ho : Ok (hs.length + d) (soF hs d) := ⟨by simp [soF], by
            intro y hy
            simp only [soF, List.mem_append, List.mem_map] at hy
            rcases hy with ⟨b, _, rfl⟩ | hy
            · unfold bb; split <;> omega
            · have := (List.mem_replicate.1 hy).2; omega⟩
          have r26 := s26 (n := s.n) (ec := s.cl.isEmpty) (cl := s.cl) (m := hs.length + d) (now := soF hs d) false (by omega) (fun c hc => ⟨by have := (f4 c hc).1; omega, fun y hy => by have := (f4 c hc).2.2 y hy; omega⟩) (by omega) ho
          have hmd : md s.cl (soF hs d) = holdsF x hs := by
            have h6 := f6 d
            rw [hh hs] at h6
            cases hx : holdsF x hs with
            | true => exact md_true (h6.2 hx)
            | false => exact md_false fun hM => by rw [h6.1 hM] at hx; cases hx
          rw [hmd] at r26
          have rj : Or K7j21 [lb g hs, r0, r1, AV.t (T.lst 1 false (enc (soF hs d)))] [Blk.box [lst e x.ls, lst f x.os, I x.at_], Blk.box [I s.n, AV.t (T.lst 1 s.cl.isEmpty (encC s.cl))]] = some [tb true] := by
            refine orc_of ?_
            rw [e7j21]
            simp only [gd1, hd1, tl1, dr0, dr1, dr2, dr3, dr4, dr5, dr6, bo1, in1, st1, ls1, le1, pt1, fi1, fb1, fs1, ct1, cf1, nt1, nf1, ak0, akT, akF, cdec, cndec, cbeq, cnbeq, ↓reduceIte, beq_self_eq_true, Int.reduceBEq, Int.reduceEq, Bool.and_true, Bool.true_and, Bool.false_and, Bool.and_false, r26, r17]
          have rn := n7b (d := d) (by omega) rj hs [] rfl
          have erep : enc (([] : List Bool).map bb ++ List.replicate (hs.length + d) 0) = List.replicate s.n.toNat [ti 0] := by
            rw [hd, Int.toNat_natCast]; simp [enc]
          rw [erep] at rn
          have c4' : ¬ s.n > (hs.length : Int) + 30 := c4
          refine orc_of ?_
          rw [e7]
          simp only [cor]
          simp only [gd1, hd1, tl1, dr0, dr1, dr2, dr3, dr4, dr5, dr6, bo1, in1, st1, ls1, le1, pt1, fi1, fb1, fs1, ct1, cf1, nt1, nf1, ak0, akT, akF, cdec, cndec, cbeq, cnbeq, ↓reduceIte, beq_self_eq_true, Int.reduceBEq, Int.reduceEq, Bool.and_true, Bool.true_and, Bool.false_and, Bool.and_false, r8, r22, r15, r20, i1', j1', c, c2, encB_len, cn, decide_false, Bool.not_false, r25, Bool.or_self, Bool.not_true, w30, c4', hm]
          exact rn
    · rw [if_neg c2] at r22
      have c2b : ((fullR x).2.1 == 0) = false := beq_eq_false_iff_ne.2 c2
      refine orc_of ?_
      rw [e7]
      simp only [gd1, hd1, tl1, dr0, dr1, dr2, dr3, dr4, dr5, dr6, bo1, in1, st1, ls1, le1, pt1, fi1, fb1, fs1, ct1, cf1, nt1, nf1, ak0, akT, akF, cdec, cndec, cbeq, cnbeq, ↓reduceIte, beq_self_eq_true, Int.reduceBEq, Int.reduceEq, Bool.and_true, Bool.true_and, Bool.false_and, Bool.and_false, r8, r22, r15, r20, i1', j1', c, c2, c2b, encB_len, gdF]
      rfl
  · rw [if_neg c] at r22
    have cb : ((chkH x (hs.length : Int)).1 == 0) = false := beq_eq_false_iff_ne.2 c
    refine orc_of ?_
    rw [e7]
    simp only [gd1, hd1, tl1, dr0, dr1, dr2, dr3, dr4, dr5, dr6, bo1, in1, st1, ls1, le1, pt1, fi1, fb1, fs1, ct1, cf1, nt1, nf1, ak0, akT, akF, cdec, cndec, cbeq, cnbeq, ↓reduceIte, beq_self_eq_true, Int.reduceBEq, Int.reduceEq, Bool.and_true, Bool.true_and, Bool.false_and, Bool.and_false, r8, r22, r15, c, cb, encB_len, gdF]
    rfl
theorem claim7 (vs : List AV) (h : ArgWt PROG (19 + 1) Try.f7.params.toList vs) : Or (.call 7) vs [] = some [.bool true] := by
  rw [Try.params7] at h
  obtain ⟨a, _, rfl, h1, b, _, rfl, h2, rfl⟩ := h
  obtain ⟨e, f, x, rfl⟩ := heap_arg h1
  obtain ⟨g, hs, rfl⟩ := bools_arg h2
  exact law7 e f g x hs
end Go.Aev.Gen
