/-
  Calls: what is handed in, what comes back.
-/
import Derived.Test.YtldfekaodgfgmaaAevOp
set_option linter.unusedSimpArgs false
set_option linter.unusedVariables false
namespace Go.Aev
open Go

/-! ### What a call promises -/
section
variable (w : World) (A : Nat → Prop)
def RelR1 : RSh → T → Value → Option Nat → Prop
  | .f _, x, v, ob => x.flat? = some () ∧ RelT w A x v ∧ ob = none
  | .t _, x, v, ob => RelT w A x v ∧ ob = none
  | .own sz, x, v, ob => ∃ p, x.lst? sz = some p ∧ SlAt w A sz p.1 p.2 v (fun blk => ob = some blk)
  | .agg _, _, _, _ => False
def RelRL : List RSh → List T → List Value → List Nat → Prop
  | [], xs, vs, own => xs = [] ∧ vs = [] ∧ own = []
  | r :: rs, xs, vs, own => ∃ x xs' v vs' ob own', xs = x :: xs' ∧ vs = v :: vs' ∧ own = ob.toList ++ own' ∧ RelR1 w A r x v ob ∧ RelRL rs xs' vs' own'
def RelRs : List RSh → List T → List Value → List Nat → Prop
  | [], xs, vs, own => xs = [] ∧ vs = [] ∧ own = []
  | .agg l :: rs, xs, vs, own => ∃ x1 x2 ws vs' o1 o2, xs = x1 ++ x2 ∧ vs = .agg ws.toArray :: vs' ∧ own = o1 ++ o2 ∧ RelRL w A l x1 ws o1 ∧ RelRs rs x2 vs' o2
  | r :: rs, xs, vs, own => ∃ x xs' v vs' ob own', xs = x :: xs' ∧ vs = v :: vs' ∧ own = ob.toList ++ own' ∧ RelR1 w A r x v ob ∧ RelRs rs xs' vs' own'
end

def resV : List Value → Value
  | [v] => v
  | vs => .tuple vs.toArray

structure Keep (w w' : World) : Prop where
  os : w'.os = w.os
  output : w'.output = w.output
  tape : w'.tape = w.tape
  size : w.heap.size ≤ w'.heap.size
  blk : ∀ k, k < w.heap.size → w'.heap[k]? = w.heap[k]?

def CallOk (P : Program) (A : Ann) (f : FuncId) (fn : Func) (vals : List AV) (xs : List T) : Prop :=
  ∀ (A0 : Nat → Prop) (w : World) (args : List Value), (∀ b, A0 b → b < w.heap.size) → RelVs w A0 (fun _ => none) vals args →
    Calls P f args.toArray w fun e w' => ∃ rs own, e = .returned (resV rs) ∧ Keep w w' ∧ own.Nodup ∧ (∀ b ∈ own, w.heap.size ≤ b ∧ b < w'.heap.size) ∧
      RelRs w' (fun b => (A0 b ∨ w.heap.size ≤ b) ∧ b < w'.heap.size ∧ b ∉ own) (resSh P A f fn) xs rs own

def OSound (P : Program) (A : Ann) (O : Orc) : Prop := ∀ f vals xs, O (.call f) vals [] = some xs →
  ∃ fn body, P.funcs[f]? = some fn ∧ fn.body = some body ∧ fn.name ≠ "runtime.NumGoroutine" ∧ (outSh A f = [] → CallOk P A f fn vals xs)

/-! ### A whole over a fixed ground -/
structure HSA (c : Ctx) (w : World) (A : Nat → Prop) (h : Id → Option Blk) (ρ : Id → Option Value) (O : Id → Option Nat) : Prop where
  blk : ∀ i b, h i = some b → RelB w A ρ O i b
  nodom : ∀ i, h i = none → ρ i = none ∧ O i = none
  inj : ∀ i j b, O i = some b → O j = some b → i = j
  lt : ∀ i b, O i = some b → b < w.heap.size
  own : ∀ i b, O i = some b → c.MO b
  size : c.N0 ≤ w.heap.size

section
variable {P : Program} {w w' : World} {A A' : Nat → Prop} {c : Ctx} {ρ : Id → Option Value} {O : Id → Option Nat} {s : St} {cc : Option Bool} {h : Id → Option Blk}

theorem HSA.toHS (hs : HSA c w A h ρ O) (e : ∀ b, A b ↔ AA c w O b) : HS c w h ρ O := by
  have : A = AA c w O := funext fun b => propext (e b)
  subst this
  exact ⟨hs.blk, hs.nodom, hs.inj, hs.lt, hs.own, hs.size⟩

theorem HSA.adopt {i : Id} (hs : HSA c w A h ρ O) (hi : h i = none) (v : Value) (ob : Option Nat) (hob : ∀ b, ob = some b → b < w.heap.size ∧ c.MO b ∧ ∀ j, O j ≠ some b) (x : Blk)
    (hx : RelB w A (upd ρ i (some v)) (upd O i ob) i x) : HSA c w A (upd h i (some x)) (upd ρ i (some v)) (upd O i ob) := by
  refine ⟨fun j b hj => ?_, fun j hj => ?_, fun j k b hj hk => ?_, fun j b hj => ?_, fun j b hj => ?_, hs.size⟩
  · by_cases e : j = i
    · subst e; rw [upd_same] at hj; cases hj; exact hx
    · rw [upd_ne _ _ e] at hj
      refine RelB.mono (fun b hb => ⟨hb, rfl⟩) (fun k u hk => ?_) (upd_ne _ _ e) (fun _ _ => rfl) (hs.blk j b hj)
      by_cases e2 : k = i
      · subst e2; rw [(hs.nodom _ hi).1] at hk; cases hk
      · rw [upd_ne _ _ e2]; exact hk
  · by_cases e : j = i
    · subst e; rw [upd_same] at hj; cases hj
    · rw [upd_ne _ _ e] at hj; rw [upd_ne _ _ e, upd_ne _ _ e]; exact hs.nodom j hj
  · by_cases e : j = i <;> by_cases e' : k = i
    · rw [e, e']
    · subst e; rw [upd_same] at hj; rw [upd_ne _ _ e'] at hk; exact ((hob b hj).2.2 k hk).elim
    · subst e'; rw [upd_same] at hk; rw [upd_ne _ _ e] at hj; exact ((hob b hk).2.2 j hj).elim
    · rw [upd_ne _ _ e] at hj; rw [upd_ne _ _ e'] at hk; exact hs.inj j k b hj hk
  · by_cases e : j = i
    · subst e; rw [upd_same] at hj; exact (hob b hj).1
    · rw [upd_ne _ _ e] at hj; exact hs.lt j b hj
  · by_cases e : j = i
    · subst e; rw [upd_same] at hj; exact (hob b hj).2.1
    · rw [upd_ne _ _ e] at hj; exact hs.own j b hj

/-- What comes back is taken in. -/
def Taken (c : Ctx) (w : World) (A : Nat → Prop) (us : Upd) (own : List Nat) (Q : (Id → Option Value) → Prop) : Prop :=
  ∀ h ρ O, HSA c w A h ρ O → own.Nodup → (∀ b ∈ own, b < w.heap.size ∧ c.MO b ∧ ∀ i, O i ≠ some b) → (∀ p ∈ us, h p.1 = none) →
    ∃ ρ' O', (∀ i u, ρ i = some u → ρ' i = some u) ∧ HSA c w A (updH h us) ρ' O' ∧ Q ρ' ∧ ∀ b, (∃ i, O' i = some b) ↔ ((∃ i, O i = some b) ∨ b ∈ own)

def Names (d j j' : Nat) (us : Upd) : Prop := ∀ p ∈ us, ∃ k, j ≤ k ∧ k < j' ∧ p.1 = .s d k

theorem Taken.nil {Q : (Id → Option Value) → Prop} (hq : ∀ ρ, Q ρ) : Taken c w A [] [] Q := by
  intro h ρ O hs _ _ _
  exact ⟨ρ, O, fun _ _ h => h, hs, hq ρ, fun b => by simp⟩

theorem Taken.append {d j j1 j2 : Nat} {us vs : Upd} {o1 o2 : List Nat} {Q1 Q2 Q : (Id → Option Value) → Prop} (h1 : Taken c w A us o1 Q1) (h2 : Taken c w A vs o2 Q2) (n1 : Names d j j1 us) (n2 : Names d j1 j2 vs)
    (hq : ∀ ρ ρ', (∀ i u, ρ i = some u → ρ' i = some u) → Q1 ρ → Q2 ρ' → Q ρ') : Taken c w A (us ++ vs) (o1 ++ o2) Q := by
  intro h ρ O hs hnd hown hfree
  obtain ⟨nd1, nd2, nd3⟩ := List.nodup_append.1 hnd
  obtain ⟨ρ1, O1, m1, hs1, q1, r1⟩ := h1 h ρ O hs nd1 (fun b hb => hown b (List.mem_append_left _ hb)) (fun p hp => hfree p (List.mem_append_left _ hp))
  obtain ⟨ρ2, O2, m2, hs2, q2, r2⟩ := h2 (updH h us) ρ1 O1 hs1 nd2 (fun b hb => by
    obtain ⟨g1, g2, g3⟩ := hown b (List.mem_append_right _ hb)
    refine ⟨g1, g2, fun i hi => ?_⟩
    rcases (r1 b).1 ⟨i, hi⟩ with ⟨k, hk⟩ | hk
    · exact g3 k hk
    · exact nd3 b hk b hb rfl) (fun p hp => by
    rw [updH_other (fun q hq e => ?_)]
    · exact hfree p (List.mem_append_right _ hp)
    · obtain ⟨k, _, k2, k3⟩ := n1 q hq
      obtain ⟨k', k1', _, k3'⟩ := n2 p hp
      rw [k3, k3'] at e
      simp only [Id.s.injEq] at e
      omega)
  refine ⟨ρ2, O2, fun i u hi => m2 i u (m1 i u hi), by rw [updH_append]; exact hs2, hq ρ1 ρ2 m2 q1 q2, fun b => ?_⟩
  rw [r2 b, r1 b, List.mem_append, or_assoc]

theorem decR_sound {R : Type} {d j : Nat} {r : RSh} {x : T} {v : Value} {ob : Option Nat} {K : AV → Upd → Nat → Option R} {res : R} (hc : cc = none ∨ cc = some true) (hrel : RelR1 w A r x v ob) (hk : decR d cc j r x K = some res) :
    ∃ av us j', K av us j' = some res ∧ j ≤ j' ∧ Names d j j' us ∧ Taken c w A us ob.toList (fun ρ => RelV w A ρ av v) := by
  unfold decR at hk
  cases r with
  | f k =>
    obtain ⟨_, h1, rfl⟩ := hrel
    simp only at hk
    obtain ⟨y, hk, h1⟩ := typK_sound hc h1 hk
    exact ⟨_, _, _, hk, Nat.le_refl _, (by intro p hp; cases hp), Taken.nil fun ρ => by simpa [RelV] using h1⟩
  | t k =>
    obtain ⟨h1, rfl⟩ := hrel
    simp only at hk
    obtain ⟨y, hk, h1⟩ := typK_sound hc h1 hk
    exact ⟨_, _, _, hk, Nat.le_refl _, (by intro p hp; cases hp), Taken.nil fun ρ => by simpa [RelV] using h1⟩
  | own sz =>
    obtain ⟨p, hp, hsl⟩ := hrel
    cases cc with
    | some b => simp at hk
    | none =>
      dsimp only at hk
      replace hk := gdK_some hk (.inl rfl); obtain ⟨q, hq, hk⟩ := hk
      rw [hp] at hq; simp only [Option.some.injEq] at hq; subst hq
      refine ⟨_, _, _, hk, Nat.le_succ _, ?_, ?_⟩
      · intro q hq; simp only [List.mem_singleton] at hq; subst hq; exact ⟨j, Nat.le_refl _, Nat.lt_succ_self _, rfl⟩
      · intro h ρ O hs hnd hown hfree
        have hi : h (.s d j) = none := hfree _ (List.mem_singleton.2 rfl)
        refine ⟨upd ρ (.s d j) (some v), upd O (.s d j) ob, fun i u hi' => ?_, ?_, by simp [RelV], fun b => ⟨fun ⟨i, hb⟩ => ?_, fun hb => ?_⟩⟩
        · by_cases e : i = .s d j
          · subst e; rw [(hs.nodom _ hi).1] at hi'; cases hi'
          · rw [upd_ne _ _ e]; exact hi'
        · rw [updH_one]
          refine hs.adopt hi v ob (fun b hb => hown b (by simp [hb])) _ ⟨v, upd_same _ _ _, ?_, by simp⟩
          simpa using hsl
        · by_cases e : i = .s d j
          · subst e; rw [upd_same] at hb; right; simp [hb]
          · rw [upd_ne _ _ e] at hb; exact .inl ⟨i, hb⟩
        · rcases hb with ⟨i, hb⟩ | hb
          · by_cases e : i = .s d j
            · subst e; rw [(hs.nodom _ hi).2] at hb; cases hb
            · exact ⟨i, by rw [upd_ne _ _ e]; exact hb⟩
          · exact ⟨.s d j, by rw [upd_same]; simpa using hb⟩
  | agg l => simp at hk

theorem decL1_sound {R : Type} {d : Nat} (hc : cc = none ∨ cc = some true) : ∀ {rs : List RSh} {j : Nat} {x1 x2 : List T} {vs : List Value} {own : List Nat} {K : List AV → Upd → Nat → Option R} {res : R}, RelRL w A rs x1 vs own → decL1 d cc j rs (x1 ++ x2) K = some res →
    ∃ av us j', K av us j' = some res ∧ j ≤ j' ∧ Names d j j' us ∧ Taken c w A us own (fun ρ => RelVs w A ρ av vs)
  | [], j, x1, x2, vs, own, K, res, hrel, hk => by
    obtain ⟨rfl, rfl, rfl⟩ := hrel
    exact ⟨_, _, _, hk, Nat.le_refl _, (by intro p hp; cases hp), Taken.nil fun ρ => by simp [RelVs]⟩
  | r :: rs, j, x1, x2, vs, own, K, res, hrel, hk => by
    obtain ⟨x, xs', v, vs', ob, own', rfl, rfl, rfl, h1, h2⟩ := hrel
    simp only [decL1, List.cons_append, List.head?_cons, List.tail_cons] at hk
    replace hk := gdK_some hk hc; obtain ⟨y, hy, hk⟩ := hk
    simp only [Option.some.injEq] at hy; subst hy
    obtain ⟨av, us, j1, hk, l1, n1, t1⟩ := decR_sound (c := c) hc h1 hk
    obtain ⟨avs, us', j2, hk, l2, n2, t2⟩ := decL1_sound hc h2 hk
    refine ⟨_, _, _, hk, Nat.le_trans l1 l2, ?_, t1.append t2 n1 n2 fun ρ ρ' m q1 q2 => ?_⟩
    · intro p hp
      rcases List.mem_append.1 hp with hp | hp
      · obtain ⟨k, k1, k2, k3⟩ := n1 p hp; exact ⟨k, k1, by omega, k3⟩
      · obtain ⟨k, k1, k2, k3⟩ := n2 p hp; exact ⟨k, by omega, k2, k3⟩
    · simp only [RelVs]
      exact ⟨v, vs', rfl, RelV.mono (fun b hb => ⟨hb, rfl⟩) m _ _ q1, q2⟩

theorem RelR1.one {r : RSh} {x : T} {v : Value} {ob : Option Nat} (h : RelR1 w A r x v ob) : v.oneCell' = true ∧ v.cells = #[v] := by
  cases r with
  | f k => exact h.2.1.oneCell
  | t k => exact h.1.oneCell
  | own sz => obtain ⟨p, _, a, cap, rfl, _⟩ := h; exact ⟨rfl, rfl⟩
  | agg l => exact h.elim
theorem RelRL.one : ∀ {rs : List RSh} {xs : List T} {vs : List Value} {own : List Nat}, RelRL w A rs xs vs own → ∀ u ∈ vs, u.oneCell' = true ∧ u.cells = #[u]
  | [], _, _, _, ⟨_, rfl, _⟩, u, hu => by cases hu
  | r :: rs, xs, vs, own, h, u, hu => by
    obtain ⟨x, xs', v, vs', ob, own', rfl, rfl, rfl, h1, h2⟩ := h
    rcases List.mem_cons.1 hu with rfl | hu
    · exact h1.one
    · exact RelRL.one h2 u hu
theorem RelRL.length : ∀ {rs : List RSh} {xs : List T} {vs : List Value} {own : List Nat}, RelRL w A rs xs vs own → xs.length = rs.length
  | [], _, _, _, ⟨rfl, _, _⟩ => rfl
  | r :: rs, xs, vs, own, h => by
    obtain ⟨x, xs', v, vs', ob, own', rfl, rfl, rfl, h1, h2⟩ := h
    simp [RelRL.length h2]

theorem decL_sound {R : Type} {d : Nat} (hc : cc = none ∨ cc = some true) : ∀ {rs : List RSh} {j : Nat} {xs : List T} {vs : List Value} {own : List Nat} {K : List AV → Upd → Nat → Option R} {res : R}, RelRs w A rs xs vs own → decL d cc j rs xs K = some res →
    ∃ av us j', K av us j' = some res ∧ j ≤ j' ∧ Names d j j' us ∧ Taken c w A us own (fun ρ => RelVs w A ρ av vs)
  | [], j, xs, vs, own, K, res, hrel, hk => by
    obtain ⟨rfl, rfl, rfl⟩ := hrel
    exact ⟨_, _, _, hk, Nat.le_refl _, (by intro p hp; cases hp), Taken.nil fun ρ => by simp [RelVs]⟩
  | r :: rs, j, xs, vs, own, K, res, hrel, hk => by
    have simple : (∃ x xs' v vs' ob own', xs = x :: xs' ∧ vs = v :: vs' ∧ own = ob.toList ++ own' ∧ RelR1 w A r x v ob ∧ RelRs w A rs xs' vs' own') →
        (gdK cc xs.head? fun x => decR d cc j r x fun v u j => decL d cc j rs xs.tail fun vs us j => K (v :: vs) (u ++ us) j) = some res →
        ∃ av us j', K av us j' = some res ∧ j ≤ j' ∧ Names d j j' us ∧ Taken c w A us own (fun ρ => RelVs w A ρ av vs) := by
      intro hrel hk
      obtain ⟨x, xs', v, vs', ob, own', rfl, rfl, rfl, h1, h2⟩ := hrel
      simp only [List.head?_cons, List.tail_cons] at hk
      replace hk := gdK_some hk hc; obtain ⟨y, hy, hk⟩ := hk
      simp only [Option.some.injEq] at hy; subst hy
      obtain ⟨av, us, j1, hk, l1, n1, t1⟩ := decR_sound (c := c) hc h1 hk
      obtain ⟨avs, us', j2, hk, l2, n2, t2⟩ := decL_sound hc h2 hk
      refine ⟨_, _, _, hk, Nat.le_trans l1 l2, ?_, t1.append t2 n1 n2 fun ρ ρ' m q1 q2 => ?_⟩
      · intro p hp
        rcases List.mem_append.1 hp with hp | hp
        · obtain ⟨k, k1, k2, k3⟩ := n1 p hp; exact ⟨k, k1, by omega, k3⟩
        · obtain ⟨k, k1, k2, k3⟩ := n2 p hp; exact ⟨k, by omega, k2, k3⟩
      · simp only [RelVs]
        exact ⟨v, vs', rfl, RelV.mono (fun b hb => ⟨hb, rfl⟩) m _ _ q1, q2⟩
    cases r with
    | f k => exact simple hrel hk
    | t k => exact simple hrel hk
    | own sz => exact simple hrel hk
    | agg l =>
      obtain ⟨x1, x2, ws, vs', o1, o2, rfl, rfl, rfl, h1, h2⟩ := hrel
      simp only [decL] at hk
      obtain ⟨av, us, j1, hk, l1, n1, t1⟩ := decL1_sound (c := c) hc h1 hk
      have hl := h1.length
      rw [← hl, List.drop_left] at hk
      obtain ⟨avs, us', j2, hk, l2, n2, t2⟩ := decL_sound hc h2 hk
      refine ⟨_, _, _, hk, Nat.le_trans l1 l2, ?_, t1.append t2 n1 n2 fun ρ ρ' m q1 q2 => ?_⟩
      · intro p hp
        rcases List.mem_append.1 hp with hp | hp
        · obtain ⟨k, k1, k2, k3⟩ := n1 p hp; exact ⟨k, k1, by omega, k3⟩
        · obtain ⟨k, k1, k2, k3⟩ := n2 p hp; exact ⟨k, by omega, k2, k3⟩
      · simp only [RelVs]
        refine ⟨_, vs', rfl, ?_, q2⟩
        simp only [RelV]
        exact ⟨ws, rfl, RelVs.mono (fun b hb => ⟨hb, rfl⟩) m _ _ q1, h1.one⟩

theorem resAV_sound {vs : List AV} {rs : List Value} (h : RelVs w A ρ vs rs) : RelV w A ρ (resAV vs) (resV rs) := by
  match vs, rs, h with
  | [], rs, h => simp only [RelVs] at h; subst h; simp only [resAV, resV, RelV]; exact ⟨[], rfl, by simp [RelVs]⟩
  | [v], rs, h =>
    simp only [RelVs] at h
    obtain ⟨u, r, rfl, h1, rfl⟩ := h
    exact h1
  | v :: v' :: vs, rs, h =>
    have hl := h.length
    match rs, hl with
    | u :: u' :: rs, _ => simp only [resAV, resV, RelV]; exact ⟨_, rfl, h⟩

/-! ### What is handed in -/
theorem arg1_flat {v : AV} {u : Value} {q : T × Upd} (hs : HS c w h ρ O) (hv : RelV w (AA c w O) ρ v u) (hq : arg1 true h v = some q) : q.2 = [] ∧ RelT w (fun b => b < w.heap.size) q.1 u := by
  have hA : ∀ b, AA c w O b → b < w.heap.size := fun b hb => hb.2.1
  have gen : ∀ x : T, snapOne h v = some x → RelT w (fun b => b < w.heap.size) x u := fun x hx => snapOne_sound hs hv hx hA (fun i blk _ ho => hs.lt i blk ho)
  cases v
  case ref i off =>
    simp only [arg1, cond_true] at hq
    split at hq
    · rename_i cs hi
      obtain ⟨l, hl, hq⟩ := Option.bind_eq_some_iff.1 hq
      simp only [Option.some.injEq] at hq; subst hq
      obtain ⟨b, arr, t, h1, h2, h3, h4, h5⟩ := hs.blk i _ hi
      simp only [RelV] at hv
      obtain ⟨b', e1, rfl⟩ := hv
      rw [h1] at e1; simp only [Option.some.injEq, Value.pointer.injEq, Addr.mk.injEq] at e1
      obtain ⟨rfl, _⟩ := e1
      refine ⟨rfl, ?_⟩
      simp only [RelT]
      refine ⟨b, off, rfl, .inr (hs.lt i b h2), RelAt.of_vals (RelTs.mono (fun b hb => ⟨hA b hb, rfl⟩) _ _ (RelTs.of_allT hl (h4.drop off))) (fun j v hj => ?_)⟩
      rw [List.getElem?_drop] at hj
      simp only [World.cell?, h3]
      simpa using hj
    · simp at hq
  all_goals
    simp only [arg1] at hq
    obtain ⟨x, hx, hq⟩ := Option.bind_eq_some_iff.1 hq
    simp only [cond_true, Option.some.injEq] at hq; subst hq
    exact ⟨rfl, gen _ hx⟩

theorem arg1_frz {v : AV} {u : Value} {q : T × Upd} (hs : HS c w h ρ O) (hv : RelV w (AA c w O) ρ v u) (hq : arg1 false h v = some q) :
    FrzOk h q.2 ∧ ∀ O', Le w ρ O w ρ O' → (∀ i, O' i = O i ∨ O' i = none) → (∀ p ∈ q.2, O' p.1 = none) → RelT w (AA c w O') q.1 u := by
  have gen : ∀ x : T, snapOne h v = some x → q = (x, frz1 h v) → FrzOk h q.2 ∧ ∀ O', Le w ρ O w ρ O' → (∀ i, O' i = O i ∨ O' i = none) → (∀ p ∈ q.2, O' p.1 = none) → RelT w (AA c w O') q.1 u := by
    intro x hx e; subst e
    refine ⟨frz1_ok v, fun O' le hO' hf => snapOne_sound hs hv hx (fun b hb => (le.A b hb).1) (fun i blk hi ho => ?_)⟩
    obtain ⟨p, hp, e⟩ := frz1_covers hs hx hi ho
    refine ⟨.inr (hs.own i blk ho), hs.lt i blk ho, fun j hj => ?_⟩
    rcases hO' j with e1 | e1
    · rw [e1] at hj
      have := hs.inj j i blk hj ho
      subst this
      have := hf p hp
      rw [e, e1, hj] at this; cases this
    · rw [e1] at hj; cases hj
  cases v
  case ref i off => simp [arg1] at hq
  all_goals
    simp only [arg1] at hq
    obtain ⟨x, hx, hq⟩ := Option.bind_eq_some_iff.1 hq
    simp only [cond_false, Option.some.injEq] at hq
    exact gen x hx hq.symm

/-- Both ways at once: what is handed in, over the ground on which the callee stands. -/
def ArgOk (c : Ctx) (w : World) (h : Id → Option Blk) (ρ : Id → Option Value) (O : Id → Option Nat) (fl : Bool) (us : Upd) (Q : (Nat → Prop) → Prop) : Prop :=
  (fl = true → us = [] ∧ Q (fun b => b < w.heap.size)) ∧
  (fl = false → FrzOk h us ∧ ∀ O', Le w ρ O w ρ O' → (∀ i, O' i = O i ∨ O' i = none) → (∀ p ∈ us, O' p.1 = none) → Q (AA c w O'))
theorem arg1_ok {fl : Bool} {v : AV} {u : Value} {q : T × Upd} (hs : HS c w h ρ O) (hv : RelV w (AA c w O) ρ v u) (hq : arg1 fl h v = some q) : ArgOk c w h ρ O fl q.2 (fun A => RelT w A q.1 u) :=
  ⟨fun e => by subst e; exact arg1_flat hs hv hq, fun e => by subst e; exact arg1_frz hs hv hq⟩
theorem ArgOk.append {fl : Bool} {us vs : Upd} {Q1 Q2 Q : (Nat → Prop) → Prop} (h1 : ArgOk c w h ρ O fl us Q1) (h2 : ArgOk c w h ρ O fl vs Q2) (hq : ∀ A, Q1 A → Q2 A → Q A) : ArgOk c w h ρ O fl (us ++ vs) Q := by
  refine ⟨fun e => ?_, fun e => ?_⟩
  · obtain ⟨a1, a2⟩ := h1.1 e
    obtain ⟨b1, b2⟩ := h2.1 e
    exact ⟨by rw [a1, b1]; rfl, hq _ a2 b2⟩
  · obtain ⟨a1, a2⟩ := h1.2 e
    obtain ⟨b1, b2⟩ := h2.2 e
    exact ⟨a1.append b1, fun O' le hO hf => hq _ (a2 O' le hO (fun p hp => hf p (List.mem_append_left _ hp))) (b2 O' le hO (fun p hp => hf p (List.mem_append_right _ hp)))⟩
theorem ArgOk.nil {fl : Bool} {Q : (Nat → Prop) → Prop} (hq : ∀ A, Q A) : ArgOk c w h ρ O fl [] Q := ⟨fun _ => ⟨rfl, hq _⟩, fun _ => ⟨(by intro p hp; cases hp), fun _ _ _ _ => hq _⟩⟩
theorem ArgOk.imp {fl : Bool} {us : Upd} {Q1 Q : (Nat → Prop) → Prop} (h1 : ArgOk c w h ρ O fl us Q1) (hq : ∀ A, Q1 A → Q A) : ArgOk c w h ρ O fl us Q :=
  ⟨fun e => ⟨(h1.1 e).1, hq _ (h1.1 e).2⟩, fun e => ⟨(h1.2 e).1, fun O' le hO hf => hq _ ((h1.2 e).2 O' le hO hf)⟩⟩

theorem argL_ok {fl : Bool} (hs : HS c w h ρ O) : ∀ {vs : List AV} {us : List Value} {q : List T × Upd}, RelVs w (AA c w O) ρ vs us → argL fl h vs = some q → ArgOk c w h ρ O fl q.2 (fun A => RelTs w A q.1 us)
  | [], us, q, hv, hq => by
    simp only [RelVs] at hv; subst hv
    simp only [argL, Option.some.injEq] at hq; subst hq
    exact ArgOk.nil fun _ => rfl
  | v :: vs, us, q, hv, hq => by
    simp only [RelVs] at hv; obtain ⟨u, r, rfl, h1, h2⟩ := hv
    simp only [argL] at hq
    obtain ⟨p, hp, hq⟩ := Option.bind_eq_some_iff.1 hq
    obtain ⟨p', hp', hq⟩ := Option.bind_eq_some_iff.1 hq
    simp only [Option.some.injEq] at hq; subst hq
    exact (arg1_ok hs h1 hp).append (argL_ok hs h2 hp') fun A a b => ⟨u, r, rfl, a, b⟩

theorem argV_ok {fl : Bool} (hs : HS c w h ρ O) {v : AV} {u : Value} {q : AV × Upd} (hv : RelV w (AA c w O) ρ v u) (hq : argV fl h v = some q) : ArgOk c w h ρ O fl q.2 (fun A => RelV w A (fun _ => none) q.1 u) := by
  cases v
  case fn f a b =>
    simp only [RelV] at hv
    obtain ⟨x', y', rfl, h1, h2⟩ := hv
    simp only [argV] at hq
    obtain ⟨p, hp, hq⟩ := Option.bind_eq_some_iff.1 hq
    obtain ⟨p', hp', hq⟩ := Option.bind_eq_some_iff.1 hq
    simp only [Option.some.injEq] at hq; subst hq
    refine (argL_ok hs h1 hp).append (argL_ok hs h2 hp') fun A a b => ?_
    simp only [RelV]
    exact ⟨x', y', rfl, RelVs.of_ts a, RelVs.of_ts b⟩
  case agg vs =>
    simp only [RelV] at hv
    obtain ⟨ws, rfl, h1, h2⟩ := hv
    simp only [argV] at hq
    obtain ⟨p, hp, hq⟩ := Option.bind_eq_some_iff.1 hq
    simp only [Option.some.injEq] at hq; subst hq
    refine (argL_ok hs h1 hp).imp fun A a => ?_
    simp only [RelV]
    exact ⟨ws, rfl, RelVs.of_ts a, h2⟩
  all_goals
    simp only [argV] at hq
    obtain ⟨p, hp, hq⟩ := Option.bind_eq_some_iff.1 hq
    simp only [Option.some.injEq] at hq; subst hq
    refine (arg1_ok hs hv hp).imp fun A a => ?_
    simpa [RelV] using a

theorem argVs_ok {fl : Bool} (hs : HS c w h ρ O) : ∀ {vs : List AV} {us : List Value} {q : List AV × Upd}, RelVs w (AA c w O) ρ vs us → argVs fl h vs = some q → ArgOk c w h ρ O fl q.2 (fun A => RelVs w A (fun _ => none) q.1 us)
  | [], us, q, hv, hq => by
    simp only [RelVs] at hv; subst hv
    simp only [argVs, Option.some.injEq] at hq; subst hq
    exact ArgOk.nil fun _ => by simp [RelVs]
  | v :: vs, us, q, hv, hq => by
    simp only [RelVs] at hv; obtain ⟨u, r, rfl, h1, h2⟩ := hv
    simp only [argVs] at hq
    obtain ⟨p, hp, hq⟩ := Option.bind_eq_some_iff.1 hq
    obtain ⟨p', hp', hq⟩ := Option.bind_eq_some_iff.1 hq
    simp only [Option.some.injEq] at hq; subst hq
    refine (argV_ok hs h1 hp).append (argVs_ok hs h2 hp') fun A a b => ?_
    simp only [RelVs]
    exact ⟨u, r, rfl, a, b⟩

/-! ### Flat results lean on no ground -/
theorem RelT.flat {x : T} {v : Value} (hf : x.flat? = some ()) (h : RelT w A x v) : RelT w A' x v := by
  cases x <;> simp only [T.flat?, reduceCtorEq] at hf <;> simpa [RelT] using h
theorem RelRL.flat : ∀ {rs : List RSh} {xs : List T} {vs : List Value} {own : List Nat}, (rs.all fun r => match r with | .f _ => true | _ => false) = true → RelRL w A rs xs vs own → RelRL w A' rs xs vs own ∧ own = []
  | [], _, _, _, _, h => ⟨h, h.2.2⟩
  | r :: rs, xs, vs, own, hf, h => by
    simp only [List.all_cons, Bool.and_eq_true] at hf
    obtain ⟨x, xs', v, vs', ob, own', rfl, rfl, rfl, h1, h2⟩ := h
    obtain ⟨g1, rfl⟩ := RelRL.flat hf.2 h2
    cases r <;> simp only [Bool.false_eq_true, false_and] at hf
    obtain ⟨k1, k2, rfl⟩ := h1
    exact ⟨⟨x, xs', v, vs', none, [], rfl, rfl, rfl, ⟨k1, k2.flat k1, rfl⟩, g1⟩, rfl⟩
theorem RelRs.flat : ∀ {rs : List RSh} {xs : List T} {vs : List Value} {own : List Nat}, rs.all flatSh = true → RelRs w A rs xs vs own → RelRs w A' rs xs vs own ∧ own = []
  | [], _, _, _, _, h => ⟨h, h.2.2⟩
  | r :: rs, xs, vs, own, hf, h => by
    simp only [List.all_cons, Bool.and_eq_true] at hf
    cases r <;> simp only [flatSh, Bool.false_eq_true, false_and] at hf
    case f =>
      obtain ⟨x, xs', v, vs', ob, own', rfl, rfl, rfl, h1, h2⟩ := h
      obtain ⟨g1, rfl⟩ := RelRs.flat hf.2 h2
      obtain ⟨k1, k2, rfl⟩ := h1
      exact ⟨⟨x, xs', v, vs', none, [], rfl, rfl, rfl, ⟨k1, k2.flat k1, rfl⟩, g1⟩, rfl⟩
    case agg l =>
      obtain ⟨x1, x2, ws, vs', o1, o2, rfl, rfl, rfl, h1, h2⟩ := h
      obtain ⟨g1, rfl⟩ := RelRs.flat hf.2 h2
      obtain ⟨g2, rfl⟩ := RelRL.flat hf.1 h1
      exact ⟨⟨x1, x2, ws, vs', [], [], rfl, rfl, rfl, g2, g1⟩, rfl⟩
theorem RelR1.mono {r : RSh} {x : T} {v : Value} {ob : Option Nat} (hA : ∀ b, A b → A' b) (h : RelR1 w A r x v ob) : RelR1 w A' r x v ob := by
  have mT : ∀ x v, RelT w A x v → RelT w A' x v := fun x v => RelT.mono (fun b hb => ⟨hA b hb, rfl⟩) x v
  cases r with
  | f k => exact ⟨h.1, mT _ _ h.2.1, h.2.2⟩
  | t k => exact ⟨mT _ _ h.1, h.2⟩
  | own sz => obtain ⟨p, h1, h2⟩ := h; exact ⟨p, h1, h2.mono (fun b hb => ⟨hA b hb, rfl⟩) (fun b hb => ⟨hb, rfl⟩)⟩
  | agg l => exact h.elim
theorem RelRL.mono (hA : ∀ b, A b → A' b) : ∀ {rs : List RSh} {xs : List T} {vs : List Value} {own : List Nat}, RelRL w A rs xs vs own → RelRL w A' rs xs vs own
  | [], _, _, _, h => h
  | r :: rs, xs, vs, own, h => by
    obtain ⟨x, xs', v, vs', ob, own', rfl, rfl, rfl, h1, h2⟩ := h
    exact ⟨x, xs', v, vs', ob, own', rfl, rfl, rfl, h1.mono hA, RelRL.mono hA h2⟩
theorem RelRs.mono (hA : ∀ b, A b → A' b) : ∀ {rs : List RSh} {xs : List T} {vs : List Value} {own : List Nat}, RelRs w A rs xs vs own → RelRs w A' rs xs vs own
  | [], _, _, _, h => h
  | r :: rs, xs, vs, own, h => by
    cases r with
    | agg l =>
      obtain ⟨x1, x2, ws, vs', o1, o2, rfl, rfl, rfl, h1, h2⟩ := h
      exact ⟨x1, x2, ws, vs', o1, o2, rfl, rfl, rfl, h1.mono hA, RelRs.mono hA h2⟩
    | _ =>
      obtain ⟨x, xs', v, vs', ob, own', rfl, rfl, rfl, h1, h2⟩ := h
      exact ⟨x, xs', v, vs', ob, own', rfl, rfl, rfl, h1.mono hA, RelRs.mono hA h2⟩

/-! ### A call -/
/-- Behind a call that keeps all that was there: what comes back is taken in. -/
theorem taken_in {R : Type} {d : Nat} {rs : List RSh} {xs : List T} {vals : List Value} {own : List Nat} {K : List AV → Upd → Nat → Option R} {res : R} (hc : cc = none ∨ cc = some true) (hs : HS c w h ρ O) (kp : Keep w w') (hnd : own.Nodup) (hown : ∀ b ∈ own, w.heap.size ≤ b ∧ b < w'.heap.size)
    (hrel : RelRs w' (fun b => (c.A0 b ∨ c.MO b) ∧ b < w'.heap.size ∧ b ∉ own ∧ ∀ i, O i ≠ some b) rs xs vals own) (hk : decL d cc 0 rs xs K = some res) :
    ∃ avs us j, K avs us j = some res ∧ Names d 0 j us ∧ ((∀ p ∈ us, h p.1 = none) → ∃ ρ' O', Le w ρ O w' ρ' O' ∧ HS c w' (updH h us) ρ' O' ∧ RelVs w' (AA c w' O') ρ' avs vals) := by
  obtain ⟨avs, us, j, hk, _, names, tk⟩ := decL_sound (c := c) hc hrel hk
  refine ⟨avs, us, j, hk, names, fun hfree => ?_⟩
  have hA : ∀ b, AA c w O b → ((c.A0 b ∨ c.MO b) ∧ b < w'.heap.size ∧ b ∉ own ∧ ∀ i, O i ≠ some b) ∧ w'.heap[b]? = w.heap[b]? := by
    intro b hb
    refine ⟨⟨hb.1, Nat.lt_of_lt_of_le hb.2.1 kp.size, fun hm => ?_, hb.2.2⟩, kp.blk b hb.2.1⟩
    have := (hown b hm).1; have := hb.2.1; omega
  have hsa : HSA c w' (fun b => (c.A0 b ∨ c.MO b) ∧ b < w'.heap.size ∧ b ∉ own ∧ ∀ i, O i ≠ some b) h ρ O :=
    ⟨fun i b hb => RelB.mono hA (fun _ _ h => h) rfl (fun b hb => kp.blk b (hs.lt i b hb)) (hs.blk i b hb), hs.nodom, hs.inj, fun i b hb => Nat.lt_of_lt_of_le (hs.lt i b hb) kp.size, hs.own, Nat.le_trans hs.size kp.size⟩
  obtain ⟨ρ', O', m, hs', q, rng⟩ := tk h ρ O hsa hnd (fun b hb => ⟨(hown b hb).2, .inr (Nat.le_trans hs.size (hown b hb).1), fun i hi => by have := hs.lt i b hi; have := (hown b hb).1; omega⟩) hfree
  have hAA : ∀ b, ((c.A0 b ∨ c.MO b) ∧ b < w'.heap.size ∧ b ∉ own ∧ ∀ i, O i ≠ some b) ↔ AA c w' O' b := by
    intro b
    constructor
    · rintro ⟨h1, h2, h3, h4⟩
      refine ⟨h1, h2, fun i hi => ?_⟩
      rcases (rng b).1 ⟨i, hi⟩ with ⟨k, hk⟩ | hk
      · exact h4 k hk
      · exact h3 hk
    · rintro ⟨h1, h2, h3⟩
      refine ⟨h1, h2, fun hm => ?_, fun i hi => ?_⟩
      · obtain ⟨i, hi⟩ := (rng b).2 (.inr hm); exact h3 i hi
      · obtain ⟨k, hk⟩ := (rng b).2 (.inl ⟨i, hi⟩); exact h3 k hk
  refine ⟨ρ', O', ⟨kp.os, kp.output, kp.tape, kp.size, m, fun k hk _ => kp.blk k hk, fun i b hi => ?_⟩, hs'.toHS hAA, ?_⟩
  · rcases (rng b).1 ⟨i, hi⟩ with hk | hk
    · exact .inl hk
    · exact .inr (hown b hk).1
  · exact RelVs.mono (fun b hb => ⟨(hAA b).1 hb, rfl⟩) (fun _ _ h => h) _ _ q

theorem callAV_sound {R : Type} {An : Ann} {Or : Orc} (hO : OSound P An Or) {d : Nat} {f : FuncId} {args : List AV} {vals : List Value} {K : AV → Upd → Option R} {r : R} (hc : cc = none ∨ cc = some true) (hs : HS c w s.h ρ O) (hv : RelVs w (AA c w O) ρ args vals)
    (hk : callAV P An Or s d cc f args K = some r) :
    ∃ v us fn body, K v us = some r ∧ P.funcs[f]? = some fn ∧ fn.body = some body ∧ fn.name ≠ "runtime.NumGoroutine" ∧
      (freshAt d s.h us = true → Calls P f vals.toArray w fun e w' => ∃ x, e = .returned x ∧ ∃ ρ' O', Le w ρ O w' ρ' O' ∧ HS c w' (updH s.h us) ρ' O' ∧ RelV w' (AA c w' O') ρ' v x) := by
  unfold callAV at hk
  split at hk
  · simp at hk
  rename_i fn hfn
  split at hk
  · rename_i hout
    replace hk := Option.bind_eq_some_iff.1 hk; obtain ⟨p, hp, hk⟩ := hk
    obtain ⟨pt, hk, htyp⟩ := typVs_some hc hk
    replace hk := gdK_some hk (.inl rfl); obtain ⟨xs, hxs, hk⟩ := hk
    replace hxs : Or (.call f) pt [] = some xs := by rcases hc with rfl | rfl <;> exact hxs
    obtain ⟨fn', body, e1, hbody, hname, hcall⟩ := hO f pt xs hxs
    rw [hfn] at e1; simp only [Option.some.injEq] at e1; subst e1
    have hcall := hcall hout
    have ok := argVs_ok hs hv hp
    rw [show decL d cc 0 (resSh P An f fn) xs (fun vs u _ => K (resAV vs) (p.2 ++ u)) = (decL d cc 0 (resSh P An f fn) xs (fun vs u j => some (vs, u, j))).bind (fun q => K (resAV q.1) (p.2 ++ q.2.1)) from by rw [decL_nat]; rfl] at hk
    replace hk := Option.bind_eq_some_iff.1 hk; obtain ⟨q, hq, hk⟩ := hk
    refine ⟨_, _, fn, body, hk, hfn, hbody, hname, fun hfree => ?_⟩
    have hfree' : ∀ k, (∃ b, (Id.s d k, b) ∈ q.2.1) → s.h (.s d k) = none := by
      rintro k ⟨b, hb⟩
      have := List.all_eq_true.1 hfree _ (List.mem_append_right _ hb)
      simpa using this
    cases hfl : (resSh P An f fn).all flatSh with
    | true =>
      obtain ⟨hp2, hrel⟩ := ok.1 hfl
      refine (hcall _ w vals (fun b hb => hb) (htyp _ _ _ _ hrel)).mono fun e w' hpost => ?_
      obtain ⟨rs, own, rfl, kp, hnd, hown, hr⟩ := hpost
      obtain ⟨hr, rfl⟩ := hr.flat (A' := fun b => (c.A0 b ∨ c.MO b) ∧ b < w'.heap.size ∧ b ∉ ([] : List Nat) ∧ ∀ i, O i ≠ some b) hfl
      obtain ⟨avs, us, j, hq', names, tk⟩ := taken_in hc hs kp hnd hown hr hq
      simp only [Option.some.injEq] at hq'; subst hq'
      obtain ⟨ρ', O', le, hs', hv'⟩ := tk (fun p hp => by
        obtain ⟨k, _, _, e⟩ := names p hp
        rw [e]; exact hfree' k ⟨p.2, by rw [← e]; exact hp⟩)
      refine ⟨_, rfl, ρ', O', le, ?_, resAV_sound hv'⟩
      rw [hp2]; exact hs'
    | false =>
      obtain ⟨hfz, hrel⟩ := ok.2 hfl
      obtain ⟨O1, le1, hs1, hO1, hf1, _⟩ := hs.freezes' hfz
      refine (hcall _ w vals (fun b hb => hb.2.1) (htyp _ _ _ _ (hrel O1 le1 hO1 hf1))).mono fun e w' hpost => ?_
      obtain ⟨rs, own, rfl, kp, hnd, hown, hr⟩ := hpost
      have hr := hr.mono (A' := fun b => (c.A0 b ∨ c.MO b) ∧ b < w'.heap.size ∧ b ∉ own ∧ ∀ i, O1 i ≠ some b) (by
        rintro b ⟨h1 | h1, h2, h3⟩
        · exact ⟨h1.1, h2, h3, h1.2.2⟩
        · exact ⟨.inr (.inr (Nat.le_trans hs.size h1)), h2, h3, fun i hi => by have := hs1.lt i b hi; omega⟩)
      obtain ⟨avs, us, j, hq', names, tk⟩ := taken_in hc hs1 kp hnd hown hr hq
      simp only [Option.some.injEq] at hq'; subst hq'
      obtain ⟨ρ', O', le, hs', hv'⟩ := tk (fun p' hp' => by
        obtain ⟨k, _, _, e⟩ := names p' hp'
        have hn := hfree' k ⟨p'.2, by rw [← e]; exact hp'⟩
        rw [updH_other (fun x hx ex => ?_), e]
        · exact hn
        · obtain ⟨sz, b, l, _, h2⟩ := hfz x hx
          rw [ex, e, hn] at h2
          simp at h2)
      exact ⟨_, rfl, ρ', O', le1.trans le, by rw [updH_append]; exact hs', resAV_sound hv'⟩
  · simp at hk

end
end Go.Aev
