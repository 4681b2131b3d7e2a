/-
  Calls: what is handed in, what comes back.
-/
import Derived.Test.YtmpjdngpblfecaaAevName
set_option linter.unusedSimpArgs false
set_option linter.unusedVariables false
namespace Go.Aev
open Go

/-! ### What a call promises -/
section
variable (B : Nat → Option Value) (w : World) (A : Nat → Prop)
/-- B: the values of the blocks that were handed in. -/
def RelR1 : RSh → T → Value → List Nat → Prop
  | .f _, x, v, ob => x.flat? = some () ∧ RelT w A x v ∧ ob = []
  | .t _, x, v, ob => RelT w A x v ∧ ob = []
  | .own sz, x, v, ob => ∃ o p, ob = o.toList ∧ x.lst? sz = some p ∧ SlAt w A sz p.1 p.2 v (fun blk => o = some blk)
  | .rows sz col rsz, x, v, ob => ∃ (b : Bool) (es : List Row) (i : Id) (ρ0 : Id → Option Value) (O0 : Id → Option Nat), decRw x = some (b, es) ∧ RelB w A ρ0 O0 i (.rows b sz col rsz es.length es) ∧ ρ0 i = some v ∧ i.real = true ∧
      (∀ x y d, O0 x = some d → O0 y = some d → x = y) ∧ (∀ n u, ρ0 (.g i n) = some u → u.oneCell' = true ∧ u.cells = #[u]) ∧ (∀ x d, O0 x = some d → x = i ∨ ∃ n, x = .g i n) ∧ ∀ d, d ∈ ob ↔ ∃ x, O0 x = some d
  | .ref k off, _, v, ob => (∃ b, B k = some (.pointer (some ⟨b, 0, none⟩)) ∧ v = .pointer (some ⟨b, off, none⟩)) ∧ ob = []
  | .same k, _, v, ob => (B k = some v ∧ v.oneCell' = true ∧ v.cells = #[v]) ∧ ob = []
  | .no, _, v, ob => (v.oneCell' = true ∧ v.cells = #[v]) ∧ ob = []
  | .mp ag ks vk, x, v, ob => ∃ es b ents clock, x = encE es ∧ v = .map (some b) ∧ ob = [b] ∧ w.heap[b]? = some (.map ents clock) ∧
      ents.toList.map (fun e => (e.key, e.val)) = es.map (fun p => (kval ag p.1, tval p.2)) ∧ (es.all fun p => okKs ks p.1 && okK vk p.2) = true
  | .agg _, _, _, _ => False
  | .new _, _, _, _ => False
def RelRL : List RSh → List T → List Value → List Nat → Prop
  | [], xs, vs, own => xs = [] ∧ vs = [] ∧ own = []
  | r :: rs, xs, vs, own => ∃ x xs' v vs' ob own', xs = x :: xs' ∧ vs = v :: vs' ∧ own = ob ++ own' ∧ RelR1 B w A r x v ob ∧ RelRL rs xs' vs' own'
def RelRs : List RSh → List T → List Value → List Nat → Prop
  | [], xs, vs, own => xs = [] ∧ vs = [] ∧ own = []
  | .agg l :: rs, xs, vs, own => ∃ x1 x2 ws vs' o1 o2, xs = x1 ++ x2 ∧ vs = .agg ws.toArray :: vs' ∧ own = o1 ++ o2 ∧ RelRL B w A l x1 ws o1 ∧ RelRs rs x2 vs' o2
  | .new l :: rs, xs, vs, own => ∃ x1 x2 b arr t vs' o1 o2, xs = x1 ++ x2 ∧ vs = .pointer (some ⟨b, 0, none⟩) :: vs' ∧ own = (b :: o1) ++ o2 ∧ w.heap[b]? = some (.cells arr t (0, 0)) ∧ RelRL B w A l x1 arr.toList o1 ∧ RelRs rs x2 vs' o2
  | r :: rs, xs, vs, own => ∃ x xs' v vs' ob own', xs = x :: xs' ∧ vs = v :: vs' ∧ own = ob ++ own' ∧ RelR1 B w A r x v ob ∧ RelRs rs xs' vs' own'
/-- What has become of the blocks that were handed in. -/
def RelOs : Nat → List BSh → List T → List Nat → Prop
  | _, [], xs, own => xs = [] ∧ own = []
  | j, .box l :: r, xs, own => ∃ x1 x2 b arr t o1 o2, xs = x1 ++ x2 ∧ own = b :: (o1 ++ o2) ∧ B j = some (.pointer (some ⟨b, 0, none⟩)) ∧ w.heap[b]? = some (.cells arr t (0, 0)) ∧
      RelRL B w A l x1 arr.toList o1 ∧ RelOs (j + 1) r x2 o2
  | j, .sl sz :: r, xs, own => ∃ bb l x2 ob v o2, xs = .lst sz bb l :: x2 ∧ own = ob.toList ++ o2 ∧ B j = some v ∧ SlAt w A sz bb l v (fun blk => ob = some blk) ∧ RelOs (j + 1) r x2 o2
  | j, .mp ag ks vk :: r, xs, own => ∃ es b ents clock x2 o2, xs = encE es :: x2 ∧ own = b :: o2 ∧ B j = some (.map (some b)) ∧ w.heap[b]? = some (.map ents clock) ∧
      ents.toList.map (fun e => (e.key, e.val)) = es.map (fun p => (kval ag p.1, tval p.2)) ∧ (es.all fun p => okKs ks p.1 && okK vk p.2) = true ∧ RelOs (j + 1) r x2 o2
  | j, .dead :: r, xs, own => RelOs (j + 1) r xs own
end

def resV : List Value → Value
  | [v] => v
  | vs => .tuple vs.toArray

structure Keep (w w' : World) : Prop where
  os : w'.os = w.os
  output : w'.output = w.output
  tape : w'.tape = w.tape
  size : w.heap.size ≤ w'.heap.size
  blk : ∀ k, k < w.heap.size → w'.heap[k]? = w.heap[k]?
structure KeepO (w w' : World) (Own : Nat → Prop) : Prop where
  os : w'.os = w.os
  output : w'.output = w.output
  tape : w'.tape = w.tape
  size : w.heap.size ≤ w'.heap.size
  blk : ∀ k, k < w.heap.size → ¬ Own k → w'.heap[k]? = w.heap[k]?
/-- The values of the blocks that a call begins with. -/
def inB0 (m : Nat) (ρ : Id → Option Value) (j : Nat) : Option Value := if j < m then ρ (.c j) else none

def CallOk (P : Program) (A : Ann) (f : FuncId) (fn : Func) (vals : List AV) (blks : List Blk) (xs : List T) : Prop :=
  ∀ (c : Ctx) (w : World) (ρ : Id → Option Value) (O : Id → Option Nat) (args : List Value), c.N0 = w.heap.size → HS c w (blkH blks) ρ O → RelVs w (AA c w O) ρ vals args →
    Calls P f args.toArray w fun e w' => ∃ rs x1 x2 o1 o2, e = .returned (resV rs) ∧ KeepO w w' (Owned O) ∧ xs = x1 ++ x2 ∧ (o1 ++ o2).Nodup ∧ (∀ b ∈ o1 ++ o2, c.MO b ∧ b < w'.heap.size) ∧
      RelRs (inB0 blks.length ρ) w' (fun b => (c.A0 b ∨ c.MO b) ∧ b < w'.heap.size ∧ b ∉ o1 ++ o2) (resSh P A f (disc blks.head?) fn) x1 rs o1 ∧
      RelOs (inB0 blks.length ρ) w' (fun b => (c.A0 b ∨ c.MO b) ∧ b < w'.heap.size ∧ b ∉ o1 ++ o2) 0 (outSh A f (disc blks.head?)) x2 o2

def OSound (P : Program) (A : Ann) (O : Orc) : Prop := ∀ f vals blks xs, O (.call f) vals blks = some xs →
  ∃ fn body, P.funcs[f]? = some fn ∧ fn.body = some body ∧ fn.name ≠ "runtime.NumGoroutine" ∧ CallOk P A f fn vals blks xs

/-- What is told of calls from elsewhere is so. -/
def ESound (P : Program) (A : Ann) : Prop := ∀ f vals blks xs, A.ext f vals blks = some xs →
  ∃ fn body, P.funcs[f]? = some fn ∧ fn.body = some body ∧ fn.name ≠ "runtime.NumGoroutine" ∧ CallOk P A f fn vals blks xs
theorem ESound.no {P : Program} {A : Ann} (h : ∀ f vals blks, A.ext f vals blks = none) : ESound P A := fun f vals blks xs e => by rw [h] at e; cases e
/-- A call by values alone. -/
theorem CallOk.values {P : Program} {A : Ann} {f : FuncId} {fn : Func} {vals : List AV} {xs : List T} (h : CallOk P A f fn vals [] xs) (hb : A.bref f = none) (A0 : Nat → Prop) (w : World) (args : List Value) (hA : ∀ b, A0 b → b < w.heap.size)
    (hv : RelVs w A0 (fun _ => none) vals args) :
    Calls P f args.toArray w fun e w' => ∃ rs own, e = .returned (resV rs) ∧ Keep w w' ∧ own.Nodup ∧ (∀ b ∈ own, w.heap.size ≤ b ∧ b < w'.heap.size) ∧
      RelRs (fun _ => none) w' (fun b => (A0 b ∨ w.heap.size ≤ b) ∧ b < w'.heap.size ∧ b ∉ own) (resSh P A f 0 fn) xs rs own := by
  let c : Ctx := { A0 := A0, M := fun _ => False, N0 := w.heap.size }
  have hs : HS c w (blkH []) (fun _ => none) (fun _ => none) := ⟨fun i b hb => by cases i <;> simp [blkH] at hb, fun i _ _ => ⟨rfl, rfl⟩, fun i n => rfl, fun i n _ => ⟨rfl, rfl⟩, (by intro i n u hu; cases hu), (by intro i j b hi; cases hi), (by intro i b hi; cases hi), (by intro i b hi; cases hi), Nat.le_refl _⟩
  have hA' : ∀ b, A0 b → AA c w (fun _ => none) b ∧ w.heap[b]? = w.heap[b]? := fun b hb => ⟨⟨.inl hb, hA b hb, fun i hi => by cases hi⟩, rfl⟩
  refine (h c w _ _ args rfl hs (RelVs.mono hA' (fun _ _ h => h) _ _ hv)).mono ?_
  rintro e w' ⟨rs, x1, x2, o1, o2, he, kp, hx, hnd, hown, hr, ho⟩
  have hout : outSh A f (disc ([] : List Blk).head?) = [] := by simp [outSh, hb]
  rw [hout] at ho
  obtain ⟨rfl, rfl⟩ := ho
  rw [List.append_nil] at hx hnd; subst hx
  have hres : resSh P A f (disc ([] : List Blk).head?) fn = resSh P A f 0 fn := rfl
  have e0 : inB0 ([] : List Blk).length (fun _ => none) = fun _ => none := by funext j; simp [inB0]
  rw [hres, e0] at hr
  refine ⟨rs, o1, he, ⟨kp.os, kp.output, kp.tape, kp.size, fun k hk => kp.blk k hk (by rintro ⟨i, hi⟩; cases hi)⟩, hnd, fun b hb => ?_, ?_⟩
  · obtain ⟨h1, h2⟩ := hown b (by simpa using hb)
    rcases h1 with h1 | h1
    · exact h1.elim
    · exact ⟨h1, h2⟩
  · have e1 : (fun b => (c.A0 b ∨ c.MO b) ∧ b < w'.heap.size ∧ b ∉ o1 ++ []) = fun b => (A0 b ∨ w.heap.size ≤ b) ∧ b < w'.heap.size ∧ b ∉ o1 := by
      funext b
      simp only [List.append_nil]
      refine propext ⟨?_, ?_⟩
      · rintro ⟨h1 | h1 | h1, h2⟩
        · exact ⟨.inl h1, h2⟩
        · exact h1.elim
        · exact ⟨.inr h1, h2⟩
      · rintro ⟨h1 | h1, h2⟩
        · exact ⟨.inl h1, h2⟩
        · exact ⟨.inr (.inr h1), h2⟩
    rw [e1] at hr
    exact hr

/-! ### A whole over a fixed ground -/
structure HSA (c : Ctx) (w : World) (A : Nat → Prop) (h : Id → Option Blk) (ρ : Id → Option Value) (O : Id → Option Nat) : Prop where
  blk : ∀ i b, h i = some b → RelB w A ρ O i b
  nodom : ∀ i, i.real = true → h i = none → ρ i = none ∧ O i = none
  nog : ∀ i n, h (.g i n) = none
  gdom : ∀ i n, h i = none → ρ (.g i n) = none ∧ O (.g i n) = none
  gone : ∀ i n u, ρ (.g i n) = some u → u.oneCell' = true ∧ u.cells = #[u]
  inj : ∀ i j b, O i = some b → O j = some b → i = j
  lt : ∀ i b, O i = some b → b < w.heap.size
  own : ∀ i b, O i = some b → c.MO b
  size : c.N0 ≤ w.heap.size

section
variable {P : Program} {B : Nat → Option Value} {ids : List Id} {w w' : World} {A A' : Nat → Prop} {c : Ctx} {ρ : Id → Option Value} {O : Id → Option Nat} {s : St} {cc : Option Bool} {h : Id → Option Blk}

theorem HSA.toHS (hs : HSA c w A h ρ O) (e : ∀ b, A b ↔ AA c w O b) : HS c w h ρ O := by
  have : A = AA c w O := funext fun b => propext (e b)
  subst this
  exact ⟨hs.blk, hs.nodom, hs.nog, hs.gdom, hs.gone, hs.inj, hs.lt, hs.own, hs.size⟩

theorem HSA.real (hs : HSA c w A h ρ O) {i : Id} (hi : h i ≠ none) : i.real = true := by
  cases i with
  | g i n => exact (hi (hs.nog i n)).elim
  | _ => rfl
theorem HSA.adopt {i : Id} (hrl : i.real = true) (hs : HSA c w A h ρ O) (hi : h i = none) (v : Value) (ob : Option Nat) (hob : ∀ b, ob = some b → b < w.heap.size ∧ c.MO b ∧ ∀ j, O j ≠ some b) (x : Blk)
    (hx : RelB w A (upd ρ i (some v)) (upd O i ob) i x) : HSA c w A (upd h i (some x)) (upd ρ i (some v)) (upd O i ob) := by
  refine ⟨fun j b hj => ?_, fun j hjr hj => ?_, fun j n => by rw [upd_ne _ _ (real_ne hrl)]; exact hs.nog j n, fun j n hj => ?_, fun j n u hu => by rw [upd_ne _ _ (real_ne hrl)] at hu; exact hs.gone j n u hu, fun j k b hj hk => ?_, fun j b hj => ?_, fun j b hj => ?_, hs.size⟩
  · by_cases e : j = i
    · subst e; rw [upd_same] at hj; cases hj; exact hx
    · rw [upd_ne _ _ e] at hj
      refine RelB.mono (fun n => ⟨upd_ne _ _ (real_ne hrl), upd_ne _ _ (real_ne hrl), fun _ _ => rfl⟩) (fun b hb => ⟨hb, rfl⟩) (fun k u hk => ?_) (upd_ne _ _ e) (fun _ _ => rfl) (hs.blk j b hj)
      by_cases e2 : k = i
      · subst e2; rw [(hs.nodom _ hrl hi).1] at hk; cases hk
      · rw [upd_ne _ _ e2]; exact hk
  · by_cases e : j = i
    · subst e; rw [upd_same] at hj; cases hj
    · rw [upd_ne _ _ e] at hj; rw [upd_ne _ _ e, upd_ne _ _ e]; exact hs.nodom j hjr hj
  · by_cases e : j = i
    · subst e; rw [upd_same] at hj; cases hj
    · rw [upd_ne _ _ e] at hj; rw [upd_ne _ _ (real_ne hrl), upd_ne _ _ (real_ne hrl)]; exact hs.gdom j n hj
  · by_cases e : j = i <;> by_cases e' : k = i
    · rw [e, e']
    · subst e; rw [upd_same] at hj; rw [upd_ne _ _ e'] at hk; exact ((hob b hj).2.2 k hk).elim
    · subst e'; rw [upd_same] at hk; rw [upd_ne _ _ e] at hj; exact ((hob b hk).2.2 j hj).elim
    · rw [upd_ne _ _ e] at hj; rw [upd_ne _ _ e'] at hk; exact hs.inj j k b hj hk
  · by_cases e : j = i
    · subst e; rw [upd_same] at hj; exact (hob b hj).1
    · rw [upd_ne _ _ e] at hj; exact hs.lt j b hj
  · by_cases e : j = i
    · subst e; rw [upd_same] at hj; exact (hob b hj).2.1
    · rw [upd_ne _ _ e] at hj; exact hs.own j b hj

theorem HSA.revive {i : Id} (hs : HSA c w A h ρ O) (hi : h i = some .dead) (ob : Option Nat) (hob : ∀ b, ob = some b → b < w.heap.size ∧ c.MO b ∧ ∀ j, O j ≠ some b) (x : Blk)
    (hx : RelB w A ρ (upd O i ob) i x) : HSA c w A (upd h i (some x)) ρ (upd O i ob) := by
  have hrl := hs.real (i := i) (by rw [hi]; simp)
  refine ⟨fun j b hj => ?_, fun j hjr hj => ?_, fun j n => by rw [upd_ne _ _ (real_ne hrl)]; exact hs.nog j n, fun j n hj => ?_, hs.gone, fun j k b hj hk => ?_, fun j b hj => ?_, fun j b hj => ?_, hs.size⟩
  · by_cases e : j = i
    · subst e; rw [upd_same] at hj; cases hj; exact hx
    · rw [upd_ne _ _ e] at hj
      exact RelB.mono (fun n => ⟨rfl, upd_ne _ _ (real_ne hrl), fun _ _ => rfl⟩) (fun b hb => ⟨hb, rfl⟩) (fun k u hk => hk) (upd_ne _ _ e) (fun _ _ => rfl) (hs.blk j b hj)
  · by_cases e : j = i
    · subst e; rw [upd_same] at hj; cases hj
    · rw [upd_ne _ _ e] at hj; rw [upd_ne _ _ e]; exact hs.nodom j hjr hj
  · by_cases e : j = i
    · subst e; rw [upd_same] at hj; cases hj
    · rw [upd_ne _ _ e] at hj; rw [upd_ne _ _ (real_ne hrl)]; exact hs.gdom j n hj
  · by_cases e : j = i <;> by_cases e' : k = i
    · rw [e, e']
    · subst e; rw [upd_same] at hj; rw [upd_ne _ _ e'] at hk; exact ((hob b hj).2.2 k hk).elim
    · subst e'; rw [upd_same] at hk; rw [upd_ne _ _ e] at hj; exact ((hob b hk).2.2 j hj).elim
    · rw [upd_ne _ _ e] at hj; rw [upd_ne _ _ e'] at hk; exact hs.inj j k b hj hk
  · by_cases e : j = i
    · subst e; rw [upd_same] at hj; exact (hob b hj).1
    · rw [upd_ne _ _ e] at hj; exact hs.lt j b hj
  · by_cases e : j = i
    · subst e; rw [upd_same] at hj; exact (hob b hj).2.1
    · rw [upd_ne _ _ e] at hj; exact hs.own j b hj

/-- The names of the blocks that were handed in bear their values. -/
def Bears (B : Nat → Option Value) (ids : List Id) (ρ : Id → Option Value) : Prop := ∀ k i v, ids[k]? = some i → B k = some v → ρ i = some v

/-- What comes back is taken in. -/
def Taken (B : Nat → Option Value) (ids : List Id) (c : Ctx) (w : World) (A : Nat → Prop) (us : Upd) (own : List Nat) (Q : (Id → Option Value) → Prop) : Prop :=
  ∀ h ρ O, Bears B ids ρ → HSA c w A h ρ O → own.Nodup → (∀ b ∈ own, b < w.heap.size ∧ c.MO b ∧ ∀ i, O i ≠ some b) → (∀ p ∈ us, h p.1 = none) →
    ∃ ρ' O', (∀ i u, ρ i = some u → ρ' i = some u) ∧ HSA c w A (updH h us) ρ' O' ∧ Q ρ' ∧ ∀ b, (∃ i, O' i = some b) ↔ ((∃ i, O i = some b) ∨ b ∈ own)

def Names (d j j' : Nat) (us : Upd) : Prop := ∀ p ∈ us, ∃ k, j ≤ k ∧ k < j' ∧ p.1 = .s d k

theorem Taken.nil {Q : (Id → Option Value) → Prop} (hq : ∀ ρ, Bears B ids ρ → Q ρ) : Taken B ids c w A [] [] Q := by
  intro h ρ O hbr hs _ _ _
  exact ⟨ρ, O, fun _ _ h => h, hs, hq ρ hbr, fun b => by simp⟩

theorem Taken.append {d j j1 j2 : Nat} {us vs : Upd} {o1 o2 : List Nat} {Q1 Q2 Q : (Id → Option Value) → Prop} (h1 : Taken B ids c w A us o1 Q1) (h2 : Taken B ids c w A vs o2 Q2) (n1 : Names d j j1 us) (n2 : Names d j1 j2 vs)
    (hq : ∀ ρ ρ', (∀ i u, ρ i = some u → ρ' i = some u) → Q1 ρ → Q2 ρ' → Q ρ') : Taken B ids c w A (us ++ vs) (o1 ++ o2) Q := by
  intro h ρ O hbr hs hnd hown hfree
  obtain ⟨nd1, nd2, nd3⟩ := List.nodup_append.1 hnd
  obtain ⟨ρ1, O1, m1, hs1, q1, r1⟩ := h1 h ρ O hbr hs nd1 (fun b hb => hown b (List.mem_append_left _ hb)) (fun p hp => hfree p (List.mem_append_left _ hp))
  obtain ⟨ρ2, O2, m2, hs2, q2, r2⟩ := h2 (updH h us) ρ1 O1 (fun k i v e1 e2 => m1 i v (hbr k i v e1 e2)) hs1 nd2 (fun b hb => by
    obtain ⟨g1, g2, g3⟩ := hown b (List.mem_append_right _ hb)
    refine ⟨g1, g2, fun i hi => ?_⟩
    rcases (r1 b).1 ⟨i, hi⟩ with ⟨k, hk⟩ | hk
    · exact g3 k hk
    · exact nd3 b hk b hb rfl) (fun p hp => by
    rw [updH_other (fun q hq e => ?_)]
    · exact hfree p (List.mem_append_right _ hp)
    · obtain ⟨k, _, k2, k3⟩ := n1 q hq
      obtain ⟨k', k1', _, k3'⟩ := n2 p hp
      rw [k3, k3'] at e
      simp only [Id.s.injEq] at e
      omega)
  refine ⟨ρ2, O2, fun i u hi => m2 i u (m1 i u hi), by rw [updH_append]; exact hs2, hq ρ1 ρ2 m2 q1 q2, fun b => ?_⟩
  rw [r2 b, r1 b, List.mem_append, or_assoc]

theorem decE_enc (es : List (List T × T)) : decE (encE es) = some es := by
  unfold encE decE
  induction es with
  | nil => rfl
  | cons p es ih => simp only [List.map_cons, decEs] at ih ⊢; rw [ih]; rfl
/-- Rows are taken in. -/
theorem HSA.adoptRows {i' i : Id} {ρ0 : Id → Option Value} {O0 : Id → Option Nat} {b : Bool} {sz col rsz : Nat} {es : List Row} {v : Value} {ob : List Nat} (hrl : i'.real = true) (hs : HSA c w A h ρ O) (hi : h i' = none)
    (hb : RelB w A ρ0 O0 i (.rows b sz col rsz es.length es)) (hv : ρ0 i = some v) (hri : i.real = true) (hinj : ∀ x y d, O0 x = some d → O0 y = some d → x = y) (hg : ∀ n u, ρ0 (.g i n) = some u → u.oneCell' = true ∧ u.cells = #[u])
    (hdom : ∀ x d, O0 x = some d → x = i ∨ ∃ n, x = .g i n) (hob : ∀ d, d ∈ ob ↔ ∃ x, O0 x = some d) (hown : ∀ b ∈ ob, b < w.heap.size ∧ c.MO b ∧ ∀ i, O i ≠ some b) :
    ∃ ρ' O', (∀ x u, ρ x = some u → ρ' x = some u) ∧ HSA c w A (upd h i' (some (.rows b sz col rsz es.length es))) ρ' O' ∧ ρ' i' = some v ∧ ∀ d, (∃ x, O' x = some d) ↔ ((∃ x, O x = some d) ∨ d ∈ ob) := by
  let V : Id → Option Value := fun x => if x = i' then some v else match x with
    | .g y n => if y = i' then ρ0 (.g i n) else ρ (.g y n)
    | x => ρ x
  let Q : Id → Option Nat := fun x => if x = i' then O0 i else match x with
    | .g y n => if y = i' then O0 (.g i n) else O (.g y n)
    | x => O x
  have V1 : V i' = some v := by simp only [V, if_true]
  have Q1 : Q i' = O0 i := by simp only [Q, if_true]
  have V2 : ∀ x, x.real = true → x ≠ i' → V x = ρ x := by
    intro x hr hx
    simp only [V, if_neg hx]
    cases x with
    | g y n => cases hr
    | _ => rfl
  have Q2 : ∀ x, x.real = true → x ≠ i' → Q x = O x := by
    intro x hr hx
    simp only [Q, if_neg hx]
    cases x with
    | g y n => cases hr
    | _ => rfl
  have V3 : ∀ y n, y ≠ i' → V (.g y n) = ρ (.g y n) := by
    intro y n hy
    simp only [V, if_neg (real_ne hrl), if_neg hy]
  have Q3 : ∀ y n, y ≠ i' → Q (.g y n) = O (.g y n) := by
    intro y n hy
    simp only [Q, if_neg (real_ne hrl), if_neg hy]
  have V4 : ∀ n, V (.g i' n) = ρ0 (.g i n) := by
    intro n
    simp only [V, if_neg (real_ne hrl), if_true]
  have Q4 : ∀ n, Q (.g i' n) = O0 (.g i n) := by
    intro n
    simp only [Q, if_neg (real_ne hrl), if_true]
  -- an owner is either old or of the new block
  have dec : ∀ x d, Q x = some d → (O x = some d ∧ x ≠ i' ∧ ∀ n, x ≠ .g i' n) ∨ (x = i' ∧ O0 i = some d) ∨ ∃ n, x = .g i' n ∧ O0 (.g i n) = some d := by
    intro x d hx
    by_cases e : x = i'
    · subst e; rw [Q1] at hx; exact .inr (.inl ⟨rfl, hx⟩)
    · cases hr : x.real with
      | true => rw [Q2 x hr e] at hx; exact .inl ⟨hx, e, fun n e' => by rw [e'] at hr; cases hr⟩
      | false =>
        cases x with
        | g y n =>
          by_cases e' : y = i'
          · subst e'; rw [Q4] at hx; exact .inr (.inr ⟨n, rfl, hx⟩)
          · rw [Q3 y n e'] at hx; exact .inl ⟨hx, e, fun m e2 => by simp only [Id.g.injEq] at e2; exact e' e2.1⟩
        | _ => cases hr
  have n0 := hs.nodom i' hrl hi
  have ng := fun n => hs.gdom i' n hi
  have mono : ∀ x u, ρ x = some u → V x = some u := by
    intro x u hx
    cases hr : x.real with
    | true => rw [V2 x hr (fun e => by rw [e, n0.1] at hx; cases hx)]; exact hx
    | false =>
      cases x with
      | g y n => rw [V3 y n (fun e => by rw [e, (ng n).1] at hx; cases hx)]; exact hx
      | _ => cases hr
  have rng : ∀ d, (∃ x, Q x = some d) ↔ ((∃ x, O x = some d) ∨ d ∈ ob) := by
    intro d
    constructor
    · rintro ⟨x, hx⟩
      rcases dec x d hx with ⟨h1, _⟩ | ⟨_, h1⟩ | ⟨n, _, h1⟩
      · exact .inl ⟨x, h1⟩
      · exact .inr ((hob d).2 ⟨_, h1⟩)
      · exact .inr ((hob d).2 ⟨_, h1⟩)
    · rintro (⟨x, hx⟩ | hd)
      · cases hr : x.real with
        | true => exact ⟨x, by rw [Q2 x hr (fun e => by rw [e, n0.2] at hx; cases hx)]; exact hx⟩
        | false =>
          cases x with
          | g y n => exact ⟨.g y n, by rw [Q3 y n (fun e => by rw [e, (ng n).2] at hx; cases hx)]; exact hx⟩
          | _ => cases hr
      · obtain ⟨x, hx⟩ := (hob d).1 hd
        rcases hdom x d hx with rfl | ⟨n, rfl⟩
        · exact ⟨i', by rw [Q1]; exact hx⟩
        · exact ⟨.g i' n, by rw [Q4]; exact hx⟩
  have old : ∀ d, (∃ x, O0 x = some d) → ∀ y, O y ≠ some d := fun d hd => (hown d ((hob d).2 hd)).2.2
  refine ⟨V, Q, mono, ⟨fun x y hx => ?_, fun x hr hx => ?_, fun x n => by rw [upd_ne _ _ (real_ne hrl)]; exact hs.nog x n, fun x n hx => ?_, fun x n u hu => ?_, fun x y d hx hy => ?_, fun x d hx => ?_, fun x d hx => ?_, hs.size⟩, V1, rng⟩
  · by_cases e : x = i'
    · subst e; rw [upd_same] at hx; cases hx
      obtain ⟨a, cap, e1, e2, e3, e4, e5⟩ := hb
      rw [hv] at e1; cases e1
      refine ⟨a, cap, V1, e2, e3, ⟨e4.1, e4.2.1, fun n hn => by rw [V4]; exact e4.2.2.1 n hn, fun n d hn => by rw [Q4] at hn; exact e4.2.2.2 n d hn⟩, ?_⟩
      rcases e5 with e5 | ⟨blk, off, arr, t, q1, q2, q3, q4, q5⟩
      · exact .inl e5
      · exact .inr ⟨blk, off, arr, t, q1, by rw [Q1]; exact q2, q3, q4, RowsAt.move (fun b hb => ⟨hb, rfl⟩) (fun _ _ => rfl) (fun f _ => ⟨V4 _, Q4 _, fun _ _ => rfl⟩) q5⟩
    · rw [upd_ne _ _ e] at hx
      have hrx := hs.real (i := x) (by rw [hx]; simp)
      exact RelB.mono (fun n => ⟨V3 x n e, Q3 x n e, fun _ _ => rfl⟩) (fun b hb => ⟨hb, rfl⟩) mono (Q2 x hrx e) (fun _ _ => rfl) (hs.blk x y hx)
  · have hne : x ≠ i' := fun e => by rw [e, upd_same] at hx; cases hx
    rw [upd_ne _ _ hne] at hx
    rw [V2 x hr hne, Q2 x hr hne]; exact hs.nodom x hr hx
  · have hne : x ≠ i' := fun e => by rw [e, upd_same] at hx; cases hx
    rw [upd_ne _ _ hne] at hx
    rw [V3 x n hne, Q3 x n hne]; exact hs.gdom x n hx
  · by_cases hne : x = i'
    · subst hne; rw [V4] at hu; exact hg n u hu
    · rw [V3 x n hne] at hu; exact hs.gone x n u hu
  · rcases dec x d hx with ⟨h1, h2, h3⟩ | ⟨h1, h2⟩ | ⟨n, h1, h2⟩ <;> rcases dec y d hy with ⟨k1, k2, k3⟩ | ⟨k1, k2⟩ | ⟨m, k1, k2⟩
    · exact hs.inj x y d h1 k1
    · exact (old d ⟨_, k2⟩ x h1).elim
    · exact (old d ⟨_, k2⟩ x h1).elim
    · exact (old d ⟨_, h2⟩ y k1).elim
    · rw [h1, k1]
    · have := hinj _ _ d h2 k2
      rw [this] at hri; cases hri
    · exact (old d ⟨_, h2⟩ y k1).elim
    · have := hinj _ _ d k2 h2
      rw [this] at hri; cases hri
    · have := hinj _ _ d h2 k2
      simp only [Id.g.injEq, true_and] at this
      rw [h1, k1, this]
  · rcases (rng d).1 ⟨x, hx⟩ with ⟨y, hy⟩ | hd
    · exact hs.lt y d hy
    · exact (hown d hd).1
  · rcases (rng d).1 ⟨x, hx⟩ with ⟨y, hy⟩ | hd
    · exact hs.own y d hy
    · exact (hown d hd).2.1

theorem decR_sound {R : Type} {d j : Nat} {r : RSh} {x : T} {v : Value} {ob : List Nat} {K : AV → Upd → Nat → Option R} {res : R} (hc : cc = none ∨ cc = some true) (hrel : RelR1 B w A r x v ob) (hk : decR ids d cc j r x K = some res) :
    ∃ av us j', K av us j' = some res ∧ j ≤ j' ∧ Names d j j' us ∧ Taken B ids c w A us ob (fun ρ => RelV w A ρ av v) := by
  unfold decR at hk
  cases r with
  | f k =>
    obtain ⟨_, h1, rfl⟩ := hrel
    simp only at hk
    obtain ⟨y, hk, h1⟩ := typK_sound hc h1 hk
    exact ⟨_, _, _, hk, Nat.le_refl _, (by intro p hp; cases hp), Taken.nil fun ρ _ => by simpa [RelV] using h1⟩
  | t k =>
    obtain ⟨h1, rfl⟩ := hrel
    simp only at hk
    obtain ⟨y, hk, h1⟩ := typK_sound hc h1 hk
    exact ⟨_, _, _, hk, Nat.le_refl _, (by intro p hp; cases hp), Taken.nil fun ρ _ => by simpa [RelV] using h1⟩
  | own sz =>
    obtain ⟨o, p, rfl, hp, hsl⟩ := hrel
    cases cc with
    | some b => simp at hk
    | none =>
      dsimp only at hk
      replace hk := gdK_some hk (.inl rfl); obtain ⟨q, hq, hk⟩ := hk
      rw [hp] at hq; simp only [Option.some.injEq] at hq; subst hq
      refine ⟨_, _, _, hk, Nat.le_succ _, ?_, ?_⟩
      · intro q hq; simp only [List.mem_singleton] at hq; subst hq; exact ⟨j, Nat.le_refl _, Nat.lt_succ_self _, rfl⟩
      · intro h ρ O hbr hs hnd hown hfree
        have hi : h (.s d j) = none := hfree _ (List.mem_singleton.2 rfl)
        refine ⟨upd ρ (.s d j) (some v), upd O (.s d j) o, fun i u hi' => ?_, ?_, by simp [RelV], fun b => ⟨fun ⟨i, hb⟩ => ?_, fun hb => ?_⟩⟩
        · by_cases e : i = .s d j
          · subst e; rw [(hs.nodom _ rfl hi).1] at hi'; cases hi'
          · rw [upd_ne _ _ e]; exact hi'
        · rw [updH_one]
          refine hs.adopt rfl hi v o (fun b hb => hown b (by simp [hb])) _ ⟨v, upd_same _ _ _, ?_, by simp⟩
          simpa using hsl
        · by_cases e : i = .s d j
          · subst e; rw [upd_same] at hb; right; simp [hb]
          · rw [upd_ne _ _ e] at hb; exact .inl ⟨i, hb⟩
        · rcases hb with ⟨i, hb⟩ | hb
          · by_cases e : i = .s d j
            · subst e; rw [(hs.nodom _ rfl hi).2] at hb; cases hb
            · exact ⟨i, by rw [upd_ne _ _ e]; exact hb⟩
          · exact ⟨.s d j, by rw [upd_same]; simpa using hb⟩
  | ref k off =>
    obtain ⟨⟨b, h1, rfl⟩, rfl⟩ := hrel
    dsimp only at hk
    split at hk
    · rename_i i hi
      exact ⟨_, _, _, hk, Nat.le_refl _, (by intro p hp; cases hp), Taken.nil fun ρ hbr => by
        simp only [RelV]
        exact ⟨b, hbr k i _ hi h1, rfl⟩⟩
    · simp at hk
  | same k =>
    obtain ⟨⟨h1, _⟩, rfl⟩ := hrel
    dsimp only at hk
    split at hk
    · rename_i i hi
      exact ⟨_, _, _, hk, Nat.le_refl _, (by intro p hp; cases hp), Taken.nil fun ρ hbr => by
        simp only [RelV]
        exact hbr k i _ hi h1⟩
    · simp at hk
  | rows sz col rsz =>
    obtain ⟨b, es, i, ρ0, O0, hdec, hb, hv, hri, hinj, hg, hdom, hob⟩ := hrel
    cases cc with
    | some b => simp at hk
    | none =>
      dsimp only at hk
      replace hk := gdK_some hk (.inl rfl); obtain ⟨q, hq, hk⟩ := hk
      rw [hdec] at hq; simp only [Option.some.injEq] at hq; subst hq
      refine ⟨_, _, _, hk, Nat.le_succ _, ?_, ?_⟩
      · intro q hq; simp only [List.mem_singleton] at hq; subst hq; exact ⟨j, Nat.le_refl _, Nat.lt_succ_self _, rfl⟩
      · intro h ρ O hbr hs hnd hown hfree
        have hi : h (.s d j) = none := hfree _ (List.mem_singleton.2 rfl)
        obtain ⟨ρ', O', g1, g2, g3, g4⟩ := hs.adoptRows (i' := .s d j) rfl hi hb hv hri hinj hg hdom hob hown
        exact ⟨ρ', O', g1, by rw [updH_one]; exact g2, by simp only [RelV]; exact g3, g4⟩
  | no =>
    obtain ⟨_, rfl⟩ := hrel
    dsimp only at hk
    exact ⟨_, _, _, hk, Nat.le_refl _, (by intro p hp; cases hp), Taken.nil fun ρ _ => by simp [RelV]⟩
  | mp ag ks vk =>
    obtain ⟨es, b0, ents, clock, rfl, rfl, rfl, hheap, hes, hok⟩ := hrel
    cases cc with
    | some b => simp at hk
    | none =>
      dsimp only at hk
      replace hk := gdK_some hk (.inl rfl); obtain ⟨q, hq, hk⟩ := hk
      rw [decE_enc] at hq; simp only [Option.some.injEq] at hq; subst hq
      refine ⟨_, _, _, hk, Nat.le_succ _, ?_, ?_⟩
      · intro q hq; simp only [List.mem_singleton] at hq; subst hq; exact ⟨j, Nat.le_refl _, Nat.lt_succ_self _, rfl⟩
      · intro h ρ O hbr hs hnd hown hfree
        have hi : h (.s d j) = none := hfree _ (List.mem_singleton.2 rfl)
        refine ⟨upd ρ (.s d j) (some (.map (some b0))), upd O (.s d j) (some b0), fun i u hi' => ?_, ?_, by simp [RelV], fun b => ⟨fun ⟨i, hb⟩ => ?_, fun hb => ?_⟩⟩
        · by_cases e : i = .s d j
          · subst e; rw [(hs.nodom _ rfl hi).1] at hi'; cases hi'
          · rw [upd_ne _ _ e]; exact hi'
        · rw [updH_one]
          exact hs.adopt rfl hi _ (some b0) (fun b hb => hown b (by simp only [Option.some.injEq] at hb; simp [hb])) _ ⟨b0, ents, clock, upd_same _ _ _, upd_same _ _ _, hheap, hes, hok⟩
        · by_cases e : i = .s d j
          · subst e; rw [upd_same] at hb; right; simp only [Option.some.injEq] at hb; simp [hb]
          · rw [upd_ne _ _ e] at hb; exact .inl ⟨i, hb⟩
        · rcases hb with ⟨i, hb⟩ | hb
          · by_cases e : i = .s d j
            · subst e; rw [(hs.nodom _ rfl hi).2] at hb; cases hb
            · exact ⟨i, by rw [upd_ne _ _ e]; exact hb⟩
          · exact ⟨.s d j, by rw [upd_same]; simp only [List.mem_singleton] at hb; rw [hb]⟩
  | agg l => simp at hk
  | new l => simp at hk

theorem decL1_sound {R : Type} {d : Nat} (hc : cc = none ∨ cc = some true) : ∀ {rs : List RSh} {j : Nat} {x1 x2 : List T} {vs : List Value} {own : List Nat} {K : List AV → Upd → Nat → Option R} {res : R}, RelRL B w A rs x1 vs own → decL1 ids d cc j rs (x1 ++ x2) K = some res →
    ∃ av us j', K av us j' = some res ∧ j ≤ j' ∧ Names d j j' us ∧ Taken B ids c w A us own (fun ρ => RelVs w A ρ av vs)
  | [], j, x1, x2, vs, own, K, res, hrel, hk => by
    obtain ⟨rfl, rfl, rfl⟩ := hrel
    exact ⟨_, _, _, hk, Nat.le_refl _, (by intro p hp; cases hp), Taken.nil fun ρ _ => by simp [RelVs]⟩
  | r :: rs, j, x1, x2, vs, own, K, res, hrel, hk => by
    obtain ⟨x, xs', v, vs', ob, own', rfl, rfl, rfl, h1, h2⟩ := hrel
    simp only [decL1, List.cons_append, List.head?_cons, List.tail_cons] at hk
    replace hk := gdK_some hk hc; obtain ⟨y, hy, hk⟩ := hk
    simp only [Option.some.injEq] at hy; subst hy
    obtain ⟨av, us, j1, hk, l1, n1, t1⟩ := decR_sound (c := c) hc h1 hk
    obtain ⟨avs, us', j2, hk, l2, n2, t2⟩ := decL1_sound hc h2 hk
    refine ⟨_, _, _, hk, Nat.le_trans l1 l2, ?_, t1.append t2 n1 n2 fun ρ ρ' m q1 q2 => ?_⟩
    · intro p hp
      rcases List.mem_append.1 hp with hp | hp
      · obtain ⟨k, k1, k2, k3⟩ := n1 p hp; exact ⟨k, k1, by omega, k3⟩
      · obtain ⟨k, k1, k2, k3⟩ := n2 p hp; exact ⟨k, by omega, k2, k3⟩
    · simp only [RelVs]
      exact ⟨v, vs', rfl, RelV.mono (fun b hb => ⟨hb, rfl⟩) m _ _ q1, q2⟩

theorem RelR1.one {r : RSh} {x : T} {v : Value} {ob : List Nat} (h : RelR1 B w A r x v ob) : v.oneCell' = true ∧ v.cells = #[v] := by
  cases r with
  | f k => exact h.2.1.oneCell
  | t k => exact h.1.oneCell
  | own sz => obtain ⟨o, p, _, _, a, cap, rfl, _⟩ := h; exact ⟨rfl, rfl⟩
  | rows sz col rsz =>
    obtain ⟨b, es, i, ρ0, O0, _, ⟨a, cap, e1, _⟩, hv, _⟩ := h
    rw [hv] at e1; cases e1; exact ⟨rfl, rfl⟩
  | ref k off => obtain ⟨⟨b, _, rfl⟩, _⟩ := h; exact ⟨rfl, rfl⟩
  | same k => exact h.1.2
  | no => exact h.1
  | mp ag ks vk => obtain ⟨es, b, ents, clock, _, rfl, _⟩ := h; exact ⟨rfl, rfl⟩
  | agg l => exact h.elim
  | new l => exact h.elim
theorem RelRL.one : ∀ {rs : List RSh} {xs : List T} {vs : List Value} {own : List Nat}, RelRL B w A rs xs vs own → ∀ u ∈ vs, u.oneCell' = true ∧ u.cells = #[u]
  | [], _, _, _, ⟨_, rfl, _⟩, u, hu => by cases hu
  | r :: rs, xs, vs, own, h, u, hu => by
    obtain ⟨x, xs', v, vs', ob, own', rfl, rfl, rfl, h1, h2⟩ := h
    rcases List.mem_cons.1 hu with rfl | hu
    · exact h1.one
    · exact RelRL.one h2 u hu
theorem RelRL.length : ∀ {rs : List RSh} {xs : List T} {vs : List Value} {own : List Nat}, RelRL B w A rs xs vs own → xs.length = rs.length
  | [], _, _, _, ⟨rfl, _, _⟩ => rfl
  | r :: rs, xs, vs, own, h => by
    obtain ⟨x, xs', v, vs', ob, own', rfl, rfl, rfl, h1, h2⟩ := h
    simp [RelRL.length h2]

/-- A fresh box, its cells taken in. -/
theorem Taken.box {d j0 j : Nat} {us : Upd} {o1 : List Nat} {av : List AV} {b0 : Nat} {arr : Array Value} {t : TypeId} (h1 : Taken B ids c w A us o1 (fun ρ => RelVs w A ρ av arr.toList)) (n1 : Names d j0 j us) (hb : w.heap[b0]? = some (.cells arr t (0, 0)))
    (ho : ∀ u ∈ arr.toList, u.oneCell' = true ∧ u.cells = #[u]) : Taken B ids c w A (us ++ [(.s d j, .box av)]) (b0 :: o1) (fun ρ => RelV w A ρ (.ref (.s d j) 0) (.pointer (some ⟨b0, 0, none⟩))) := by
  intro h ρ O hbr hs hnd hown hfree
  obtain ⟨nd1, nd2⟩ := List.nodup_cons.1 hnd
  obtain ⟨ρ1, O1, m1, hs1, q1, r1⟩ := h1 h ρ O hbr hs nd2 (fun b hb => hown b (List.mem_cons_of_mem _ hb)) (fun p hp => hfree p (List.mem_append_left _ hp))
  have hi : updH h us (.s d j) = none := by
    rw [updH_other fun p hp e => ?_]
    · exact hfree _ (List.mem_append_right _ (List.mem_singleton.2 rfl))
    · obtain ⟨k, _, g2, g3⟩ := n1 p hp
      rw [g3] at e; simp only [Id.s.injEq] at e; omega
  have fresh0 : ∀ k, O1 k ≠ some b0 := by
    intro k hk
    rcases (r1 b0).1 ⟨k, hk⟩ with ⟨k', hk'⟩ | hk'
    · exact (hown b0 List.mem_cons_self).2.2 k' hk'
    · exact nd1 hk'
  have mono : ∀ i u, ρ1 i = some u → upd ρ1 (.s d j) (some (.pointer (some ⟨b0, 0, none⟩))) i = some u := by
    intro i u hu
    by_cases e : i = .s d j
    · subst e; rw [(hs1.nodom _ rfl hi).1] at hu; cases hu
    · rw [upd_ne _ _ e]; exact hu
  refine ⟨upd ρ1 (.s d j) (some (.pointer (some ⟨b0, 0, none⟩))), upd O1 (.s d j) (some b0), fun i u hu => mono i u (m1 i u hu), ?_, ?_, fun b => ?_⟩
  · rw [updH_append, updH_one]
    refine hs1.adopt rfl hi _ (some b0) (fun b hb => ?_) _ ⟨b0, arr, t, upd_same _ _ _, upd_same _ _ _, hb, RelVs.mono (fun b hb => ⟨hb, rfl⟩) mono _ _ q1, ho⟩
    simp only [Option.some.injEq] at hb; subst hb
    obtain ⟨g1, g2, _⟩ := hown b0 List.mem_cons_self
    exact ⟨g1, g2, fresh0⟩
  · simp only [RelV]; exact ⟨b0, upd_same _ _ _, by simp⟩
  · constructor
    · rintro ⟨k, hk⟩
      by_cases e : k = .s d j
      · subst e; rw [upd_same] at hk; cases hk; exact .inr List.mem_cons_self
      · rw [upd_ne _ _ e] at hk
        rcases (r1 b).1 ⟨k, hk⟩ with g | g
        · exact .inl g
        · exact .inr (List.mem_cons_of_mem _ g)
    · intro hk
      have lift : (∃ k, O1 k = some b) → ∃ k, upd O1 (.s d j) (some b0) k = some b := by
        rintro ⟨k, hk⟩
        by_cases e : k = .s d j
        · subst e; rw [(hs1.nodom _ rfl hi).2] at hk; cases hk
        · exact ⟨k, by rw [upd_ne _ _ e]; exact hk⟩
      rcases hk with hk | hk
      · exact lift ((r1 b).2 (.inl hk))
      · rcases List.mem_cons.1 hk with rfl | hk
        · exact ⟨_, upd_same _ _ _⟩
        · exact lift ((r1 b).2 (.inr hk))

theorem decL_sound {R : Type} {d : Nat} (hc : cc = none ∨ cc = some true) : ∀ {rs : List RSh} {j : Nat} {xs : List T} {vs : List Value} {own : List Nat} {K : List AV → Upd → Nat → Option R} {res : R}, RelRs B w A rs xs vs own → decL ids d cc j rs xs K = some res →
    ∃ av us j', K av us j' = some res ∧ j ≤ j' ∧ Names d j j' us ∧ Taken B ids c w A us own (fun ρ => RelVs w A ρ av vs)
  | [], j, xs, vs, own, K, res, hrel, hk => by
    obtain ⟨rfl, rfl, rfl⟩ := hrel
    exact ⟨_, _, _, hk, Nat.le_refl _, (by intro p hp; cases hp), Taken.nil fun ρ _ => by simp [RelVs]⟩
  | r :: rs, j, xs, vs, own, K, res, hrel, hk => by
    have simple : (∃ x xs' v vs' ob own', xs = x :: xs' ∧ vs = v :: vs' ∧ own = ob ++ own' ∧ RelR1 B w A r x v ob ∧ RelRs B w A rs xs' vs' own') →
        (gdK cc xs.head? fun x => decR ids d cc j r x fun v u j => decL ids d cc j rs xs.tail fun vs us j => K (v :: vs) (u ++ us) j) = some res →
        ∃ av us j', K av us j' = some res ∧ j ≤ j' ∧ Names d j j' us ∧ Taken B ids c w A us own (fun ρ => RelVs w A ρ av vs) := by
      intro hrel hk
      obtain ⟨x, xs', v, vs', ob, own', rfl, rfl, rfl, h1, h2⟩ := hrel
      simp only [List.head?_cons, List.tail_cons] at hk
      replace hk := gdK_some hk hc; obtain ⟨y, hy, hk⟩ := hk
      simp only [Option.some.injEq] at hy; subst hy
      obtain ⟨av, us, j1, hk, l1, n1, t1⟩ := decR_sound (c := c) hc h1 hk
      obtain ⟨avs, us', j2, hk, l2, n2, t2⟩ := decL_sound hc h2 hk
      refine ⟨_, _, _, hk, Nat.le_trans l1 l2, ?_, t1.append t2 n1 n2 fun ρ ρ' m q1 q2 => ?_⟩
      · intro p hp
        rcases List.mem_append.1 hp with hp | hp
        · obtain ⟨k, k1, k2, k3⟩ := n1 p hp; exact ⟨k, k1, by omega, k3⟩
        · obtain ⟨k, k1, k2, k3⟩ := n2 p hp; exact ⟨k, by omega, k2, k3⟩
      · simp only [RelVs]
        exact ⟨v, vs', rfl, RelV.mono (fun b hb => ⟨hb, rfl⟩) m _ _ q1, q2⟩
    cases r with
    | f k => exact simple hrel hk
    | t k => exact simple hrel hk
    | own sz => exact simple hrel hk
    | rows sz col rsz => exact simple hrel hk
    | mp ag ks vk => exact simple hrel hk
    | new l =>
      obtain ⟨x1, x2, b0, arr, ty, vs', o1, o2, rfl, rfl, rfl, hb0, h1, h2⟩ := hrel
      have hk : (decL1 ids d cc j l (x1 ++ x2) fun v u j => decL ids d cc (j + 1) rs ((x1 ++ x2).drop l.length) fun vs us j' => K (AV.ref (.s d j) 0 :: vs) (u ++ [(.s d j, .box v)] ++ us) j') = some res := by
        cases cc with
        | none => simp only [decL] at hk; exact hk
        | some b => simp [decL] at hk
      obtain ⟨av, us, j1, hk, l1, n1, t1⟩ := decL1_sound (c := c) hc h1 hk
      have hl := h1.length
      rw [← hl, List.drop_left] at hk
      obtain ⟨avs, us', j2, hk, l2, n2, t2⟩ := decL_sound hc h2 hk
      have n1' : Names d j (j1 + 1) (us ++ [(.s d j1, .box av)]) := by
        intro p hp
        rcases List.mem_append.1 hp with hp | hp
        · obtain ⟨k, k1, k2, k3⟩ := n1 p hp; exact ⟨k, k1, by omega, k3⟩
        · rw [List.mem_singleton.1 hp]; exact ⟨j1, l1, by omega, rfl⟩
      refine ⟨_, _, _, hk, by omega, ?_, (t1.box n1 hb0 h1.one).append t2 n1' n2 fun ρ ρ' m q1 q2 => ?_⟩
      · intro p hp
        rcases List.mem_append.1 hp with hp | hp
        · obtain ⟨k, k1, k2, k3⟩ := n1' p hp; exact ⟨k, k1, by omega, k3⟩
        · obtain ⟨k, k1, k2, k3⟩ := n2 p hp; exact ⟨k, by omega, k2, k3⟩
      · simp only [RelVs]
        exact ⟨_, vs', rfl, RelV.mono (fun b hb => ⟨hb, rfl⟩) m _ _ q1, q2⟩
    | ref k off => exact simple hrel hk
    | same k => exact simple hrel hk
    | no => exact simple hrel hk
    | agg l =>
      obtain ⟨x1, x2, ws, vs', o1, o2, rfl, rfl, rfl, h1, h2⟩ := hrel
      simp only [decL] at hk
      obtain ⟨av, us, j1, hk, l1, n1, t1⟩ := decL1_sound (c := c) hc h1 hk
      have hl := h1.length
      rw [← hl, List.drop_left] at hk
      obtain ⟨avs, us', j2, hk, l2, n2, t2⟩ := decL_sound hc h2 hk
      refine ⟨_, _, _, hk, Nat.le_trans l1 l2, ?_, t1.append t2 n1 n2 fun ρ ρ' m q1 q2 => ?_⟩
      · intro p hp
        rcases List.mem_append.1 hp with hp | hp
        · obtain ⟨k, k1, k2, k3⟩ := n1 p hp; exact ⟨k, k1, by omega, k3⟩
        · obtain ⟨k, k1, k2, k3⟩ := n2 p hp; exact ⟨k, by omega, k2, k3⟩
      · simp only [RelVs]
        refine ⟨_, vs', rfl, ?_, q2⟩
        simp only [RelV]
        exact ⟨ws, rfl, RelVs.mono (fun b hb => ⟨hb, rfl⟩) m _ _ q1, h1.one⟩

theorem resAV_sound {vs : List AV} {rs : List Value} (h : RelVs w A ρ vs rs) : RelV w A ρ (resAV vs) (resV rs) := by
  match vs, rs, h with
  | [], rs, h => simp only [RelVs] at h; subst h; simp only [resAV, resV, RelV]; exact ⟨[], rfl, by simp [RelVs]⟩
  | [v], rs, h =>
    simp only [RelVs] at h
    obtain ⟨u, r, rfl, h1, rfl⟩ := h
    exact h1
  | v :: v' :: vs, rs, h =>
    have hl := h.length
    match rs, hl with
    | u :: u' :: rs, _ => simp only [resAV, resV, RelV]; exact ⟨_, rfl, h⟩

/-! ### What is handed in -/
theorem snapD_sound {v : AV} {x : T} {u : Value} (hs : HS c w h ρ O) (hv : RelV w (AA c w O) ρ v u) (hsn : snapD h v = some x)
    (hA : ∀ b, AA c w O b → A' b) (hO : ∀ i blk, O i = some blk → A' blk) : RelT w A' x u := by
  have gen : snapOne h v = some x → RelT w A' x u := fun hx => snapOne_sound hs hv hx hA (fun i blk _ ho => hO i blk ho)
  cases v
  case own i =>
    simp only [snapD] at hsn
    split at hsn
    · rename_i sz b xs hi
      exact gen (by simp only [snapOne, hi]; exact hsn)
    · simp only [Option.some.injEq] at hsn; subst hsn
      simp only [RelV] at hv
      simp only [RelT]; exact rho_one hs hv
    · simp only [Option.some.injEq] at hsn; subst hsn
      simp only [RelV] at hv
      simp only [RelT]; exact rho_one hs hv
    · cases hsn
  all_goals exact gen hsn
theorem snapAllD_sound (hs : HS c w h ρ O) (hA : ∀ b, AA c w O b → A' b) : ∀ {vs : List AV} {xs : List T} {us : List Value}, RelVs w (AA c w O) ρ vs us → snapAllD h vs = some xs →
    (∀ i blk, O i = some blk → A' blk) → RelTs w A' xs us
  | [], xs, us, hv, hsn, _ => by
    simp only [snapAllD, Option.some.injEq] at hsn; subst hsn
    simpa [RelVs, RelTs] using hv
  | v :: vs, xs, us, hv, hsn, hO => by
    simp only [snapAllD] at hsn
    obtain ⟨x, h1, hsn⟩ := Option.bind_eq_some_iff.1 hsn
    obtain ⟨l, h2, hsn⟩ := Option.bind_eq_some_iff.1 hsn
    simp only [Option.some.injEq] at hsn; subst hsn
    simp only [RelVs] at hv
    obtain ⟨u, r, rfl, g1, g2⟩ := hv
    exact ⟨u, r, rfl, snapD_sound hs g1 h1 hA hO, snapAllD_sound hs hA g2 h2 hO⟩
theorem arg1_flat {dp : Bool} {v : AV} {u : Value} {q : T × Upd} (hs : HS c w h ρ O) (hv : RelV w (AA c w O) ρ v u) (hq : arg1 true dp h v = some q) : q.2 = [] ∧ RelT w (fun b => b < w.heap.size) q.1 u := by
  have hA : ∀ b, AA c w O b → b < w.heap.size := fun b hb => hb.2.1
  have gen : ∀ x : T, snapOne h v = some x → RelT w (fun b => b < w.heap.size) x u := fun x hx => snapOne_sound hs hv hx hA (fun i blk _ ho => hs.lt i blk ho)
  cases v
  case ref i off =>
    simp only [arg1, cond_true] at hq
    split at hq
    · rename_i cs hi
      obtain ⟨l, hl, hq⟩ := Option.bind_eq_some_iff.1 hq
      simp only [Option.some.injEq] at hq; subst hq
      obtain ⟨b, arr, t, h1, h2, h3, h4, h5⟩ := hs.blk i _ hi
      simp only [RelV] at hv
      obtain ⟨b', e1, rfl⟩ := hv
      rw [h1] at e1; simp only [Option.some.injEq, Value.pointer.injEq, Addr.mk.injEq] at e1
      obtain ⟨rfl, _⟩ := e1
      refine ⟨rfl, ?_⟩
      simp only [RelT]
      have hts : RelTs w (fun b => b < w.heap.size) l (arr.toList.drop off) := by
        cases dp with
        | true => exact snapAllD_sound hs hA (h4.drop off) hl (fun i blk ho => hs.lt i blk ho)
        | false => exact RelTs.mono (fun b hb => ⟨hA b hb, rfl⟩) _ _ (RelTs.of_allT hl (h4.drop off))
      refine ⟨b, off, rfl, .inr (hs.lt i b h2), RelAt.of_vals hts (fun j v hj => ?_)⟩
      rw [List.getElem?_drop] at hj
      simp only [World.cell?, h3]
      simpa using hj
    · rename_i l hi
      simp only [Option.some.injEq] at hq; subst hq
      exact ⟨rfl, gen _ (by simp [snapOne, hi])⟩
    · simp at hq
  all_goals
    simp only [arg1] at hq
    obtain ⟨x, hx, hq⟩ := Option.bind_eq_some_iff.1 hq
    simp only [cond_true, Option.some.injEq] at hq; subst hq
    exact ⟨rfl, gen _ hx⟩

theorem arg1_frz {dp : Bool} {v : AV} {u : Value} {q : T × Upd} (hs : HS c w h ρ O) (hv : RelV w (AA c w O) ρ v u) (hq : arg1 false dp h v = some q) :
    FrzOk h q.2 ∧ ∀ O', Le w ρ O w ρ O' → (∀ i, O' i = O i ∨ O' i = none) → (∀ p ∈ q.2, O' p.1 = none) → RelT w (AA c w O') q.1 u := by
  have gen : ∀ x : T, snapOne h v = some x → q = (x, frz1 h v) → FrzOk h q.2 ∧ ∀ O', Le w ρ O w ρ O' → (∀ i, O' i = O i ∨ O' i = none) → (∀ p ∈ q.2, O' p.1 = none) → RelT w (AA c w O') q.1 u := by
    intro x hx e; subst e
    refine ⟨frz1_ok v, fun O' le hO' hf => snapOne_sound hs hv hx (fun b hb => (le.A b hb).1) (fun i blk hi ho => ?_)⟩
    obtain ⟨p, hp, e⟩ := frz1_covers hs hx hi ho
    refine ⟨.inr (hs.own i blk ho), hs.lt i blk ho, fun j hj => ?_⟩
    rcases hO' j with e1 | e1
    · rw [e1] at hj
      have := hs.inj j i blk hj ho
      subst this
      have := hf p hp
      rw [e, e1, hj] at this; cases this
    · rw [e1] at hj; cases hj
  cases v
  case ref i off =>
    simp only [arg1, cond_false] at hq
    obtain ⟨x, hx, hq⟩ := Option.bind_eq_some_iff.1 hq
    simp only [Option.some.injEq] at hq
    exact gen x hx hq.symm
  all_goals
    simp only [arg1] at hq
    obtain ⟨x, hx, hq⟩ := Option.bind_eq_some_iff.1 hq
    simp only [cond_false, Option.some.injEq] at hq
    exact gen x hx hq.symm

/-- Both ways at once: what is handed in, over the ground on which the callee stands. -/
def ArgOk (c : Ctx) (w : World) (h : Id → Option Blk) (ρ : Id → Option Value) (O : Id → Option Nat) (fl : Bool) (us : Upd) (Q : (Nat → Prop) → Prop) : Prop :=
  (fl = true → us = [] ∧ Q (fun b => b < w.heap.size)) ∧
  (fl = false → FrzOk h us ∧ ∀ O', Le w ρ O w ρ O' → (∀ i, O' i = O i ∨ O' i = none) → (∀ p ∈ us, O' p.1 = none) → Q (AA c w O'))
theorem arg1_ok {fl dp : Bool} {v : AV} {u : Value} {q : T × Upd} (hs : HS c w h ρ O) (hv : RelV w (AA c w O) ρ v u) (hq : arg1 fl dp h v = some q) : ArgOk c w h ρ O fl q.2 (fun A => RelT w A q.1 u) :=
  ⟨fun e => by subst e; exact arg1_flat hs hv hq, fun e => by subst e; exact arg1_frz hs hv hq⟩
theorem ArgOk.append {fl : Bool} {us vs : Upd} {Q1 Q2 Q : (Nat → Prop) → Prop} (h1 : ArgOk c w h ρ O fl us Q1) (h2 : ArgOk c w h ρ O fl vs Q2) (hq : ∀ A, Q1 A → Q2 A → Q A) : ArgOk c w h ρ O fl (us ++ vs) Q := by
  refine ⟨fun e => ?_, fun e => ?_⟩
  · obtain ⟨a1, a2⟩ := h1.1 e
    obtain ⟨b1, b2⟩ := h2.1 e
    exact ⟨by rw [a1, b1]; rfl, hq _ a2 b2⟩
  · obtain ⟨a1, a2⟩ := h1.2 e
    obtain ⟨b1, b2⟩ := h2.2 e
    exact ⟨a1.append b1, fun O' le hO hf => hq _ (a2 O' le hO (fun p hp => hf p (List.mem_append_left _ hp))) (b2 O' le hO (fun p hp => hf p (List.mem_append_right _ hp)))⟩
theorem ArgOk.nil {fl : Bool} {Q : (Nat → Prop) → Prop} (hq : ∀ A, Q A) : ArgOk c w h ρ O fl [] Q := ⟨fun _ => ⟨rfl, hq _⟩, fun _ => ⟨(by intro p hp; cases hp), fun _ _ _ _ => hq _⟩⟩
theorem ArgOk.imp {fl : Bool} {us : Upd} {Q1 Q : (Nat → Prop) → Prop} (h1 : ArgOk c w h ρ O fl us Q1) (hq : ∀ A, Q1 A → Q A) : ArgOk c w h ρ O fl us Q :=
  ⟨fun e => ⟨(h1.1 e).1, hq _ (h1.1 e).2⟩, fun e => ⟨(h1.2 e).1, fun O' le hO hf => hq _ ((h1.2 e).2 O' le hO hf)⟩⟩

theorem argL_ok {fl dp : Bool} (hs : HS c w h ρ O) : ∀ {vs : List AV} {us : List Value} {q : List T × Upd}, RelVs w (AA c w O) ρ vs us → argL fl dp h vs = some q → ArgOk c w h ρ O fl q.2 (fun A => RelTs w A q.1 us)
  | [], us, q, hv, hq => by
    simp only [RelVs] at hv; subst hv
    simp only [argL, Option.some.injEq] at hq; subst hq
    exact ArgOk.nil fun _ => rfl
  | v :: vs, us, q, hv, hq => by
    simp only [RelVs] at hv; obtain ⟨u, r, rfl, h1, h2⟩ := hv
    simp only [argL] at hq
    obtain ⟨p, hp, hq⟩ := Option.bind_eq_some_iff.1 hq
    obtain ⟨p', hp', hq⟩ := Option.bind_eq_some_iff.1 hq
    simp only [Option.some.injEq] at hq; subst hq
    exact (arg1_ok hs h1 hp).append (argL_ok hs h2 hp') fun A a b => ⟨u, r, rfl, a, b⟩

theorem argV_ok {fl dp : Bool} (hs : HS c w h ρ O) {v : AV} {u : Value} {q : AV × Upd} (hv : RelV w (AA c w O) ρ v u) (hq : argV fl dp h v = some q) : ArgOk c w h ρ O fl q.2 (fun A => RelV w A (fun _ => none) q.1 u) := by
  cases v
  case fn f a b =>
    simp only [RelV] at hv
    obtain ⟨x', y', rfl, h1, h2⟩ := hv
    simp only [argV] at hq
    obtain ⟨p, hp, hq⟩ := Option.bind_eq_some_iff.1 hq
    obtain ⟨p', hp', hq⟩ := Option.bind_eq_some_iff.1 hq
    simp only [Option.some.injEq] at hq; subst hq
    refine (argL_ok hs h1 hp).append (argL_ok hs h2 hp') fun A a b => ?_
    simp only [RelV]
    exact ⟨x', y', rfl, RelVs.of_ts a, RelVs.of_ts b⟩
  case agg vs =>
    simp only [RelV] at hv
    obtain ⟨ws, rfl, h1, h2⟩ := hv
    simp only [argV] at hq
    obtain ⟨p, hp, hq⟩ := Option.bind_eq_some_iff.1 hq
    simp only [Option.some.injEq] at hq; subst hq
    refine (argL_ok hs h1 hp).imp fun A a => ?_
    simp only [RelV]
    exact ⟨ws, rfl, RelVs.of_ts a, h2⟩
  all_goals
    simp only [argV] at hq
    obtain ⟨p, hp, hq⟩ := Option.bind_eq_some_iff.1 hq
    simp only [Option.some.injEq] at hq; subst hq
    refine (arg1_ok hs hv hp).imp fun A a => ?_
    simpa [RelV] using a

theorem argVs_ok {fl dp : Bool} (hs : HS c w h ρ O) : ∀ {vs : List AV} {us : List Value} {q : List AV × Upd}, RelVs w (AA c w O) ρ vs us → argVs fl dp h vs = some q → ArgOk c w h ρ O fl q.2 (fun A => RelVs w A (fun _ => none) q.1 us)
  | [], us, q, hv, hq => by
    simp only [RelVs] at hv; subst hv
    simp only [argVs, Option.some.injEq] at hq; subst hq
    exact ArgOk.nil fun _ => by simp [RelVs]
  | v :: vs, us, q, hv, hq => by
    simp only [RelVs] at hv; obtain ⟨u, r, rfl, h1, h2⟩ := hv
    simp only [argVs] at hq
    obtain ⟨p, hp, hq⟩ := Option.bind_eq_some_iff.1 hq
    obtain ⟨p', hp', hq⟩ := Option.bind_eq_some_iff.1 hq
    simp only [Option.some.injEq] at hq; subst hq
    refine (argV_ok hs h1 hp).append (argVs_ok hs h2 hp') fun A a b => ?_
    simp only [RelVs]
    exact ⟨u, r, rfl, a, b⟩

/-! ### Flat results lean on no ground -/
theorem RelT.flat {x : T} {v : Value} (hf : x.flat? = some ()) (h : RelT w A x v) : RelT w A' x v := by
  cases x <;> simp only [T.flat?, reduceCtorEq] at hf <;> simpa [RelT] using h
theorem RelRL.flat : ∀ {rs : List RSh} {xs : List T} {vs : List Value} {own : List Nat}, (rs.all fun r => match r with | .f _ => true | _ => false) = true → RelRL B w A rs xs vs own → RelRL B w A' rs xs vs own ∧ own = []
  | [], _, _, _, _, h => ⟨h, h.2.2⟩
  | r :: rs, xs, vs, own, hf, h => by
    simp only [List.all_cons, Bool.and_eq_true] at hf
    obtain ⟨x, xs', v, vs', ob, own', rfl, rfl, rfl, h1, h2⟩ := h
    obtain ⟨g1, rfl⟩ := RelRL.flat hf.2 h2
    cases r <;> simp only [Bool.false_eq_true, false_and] at hf
    obtain ⟨k1, k2, rfl⟩ := h1
    exact ⟨⟨x, xs', v, vs', [], [], rfl, rfl, rfl, ⟨k1, k2.flat k1, rfl⟩, g1⟩, rfl⟩
theorem RelRs.flat : ∀ {rs : List RSh} {xs : List T} {vs : List Value} {own : List Nat}, rs.all flatSh = true → RelRs B w A rs xs vs own → RelRs B w A' rs xs vs own ∧ own = []
  | [], _, _, _, _, h => ⟨h, h.2.2⟩
  | r :: rs, xs, vs, own, hf, h => by
    simp only [List.all_cons, Bool.and_eq_true] at hf
    cases r <;> simp only [flatSh, Bool.false_eq_true, false_and] at hf
    case f =>
      obtain ⟨x, xs', v, vs', ob, own', rfl, rfl, rfl, h1, h2⟩ := h
      obtain ⟨g1, rfl⟩ := RelRs.flat hf.2 h2
      obtain ⟨k1, k2, rfl⟩ := h1
      exact ⟨⟨x, xs', v, vs', [], [], rfl, rfl, rfl, ⟨k1, k2.flat k1, rfl⟩, g1⟩, rfl⟩
    case agg l =>
      obtain ⟨x1, x2, ws, vs', o1, o2, rfl, rfl, rfl, h1, h2⟩ := h
      obtain ⟨g1, rfl⟩ := RelRs.flat hf.2 h2
      obtain ⟨g2, rfl⟩ := RelRL.flat hf.1 h1
      exact ⟨⟨x1, x2, ws, vs', [], [], rfl, rfl, rfl, g2, g1⟩, rfl⟩
theorem RelR1.mono {r : RSh} {x : T} {v : Value} {ob : List Nat} (hA : ∀ b, A b → A' b) (h : RelR1 B w A r x v ob) : RelR1 B w A' r x v ob := by
  have mT : ∀ x v, RelT w A x v → RelT w A' x v := fun x v => RelT.mono (fun b hb => ⟨hA b hb, rfl⟩) x v
  cases r with
  | f k => exact ⟨h.1, mT _ _ h.2.1, h.2.2⟩
  | t k => exact ⟨mT _ _ h.1, h.2⟩
  | own sz => obtain ⟨o, p, h0, h1, h2⟩ := h; exact ⟨o, p, h0, h1, h2.mono (fun b hb => ⟨hA b hb, rfl⟩) (fun b hb => ⟨hb, rfl⟩)⟩
  | rows sz col rsz =>
    obtain ⟨b, es, i, ρ0, O0, h0, h1, h2⟩ := h
    exact ⟨b, es, i, ρ0, O0, h0, RelB.mono (fun n => ⟨rfl, rfl, fun _ _ => rfl⟩) (fun b hb => ⟨hA b hb, rfl⟩) (fun _ _ h => h) rfl (fun _ _ => rfl) h1, h2⟩
  | ref k off => exact h
  | same k => exact h
  | no => exact h
  | mp ag ks vk => exact h
  | agg l => exact h.elim
  | new l => exact h.elim
theorem RelRL.mono (hA : ∀ b, A b → A' b) : ∀ {rs : List RSh} {xs : List T} {vs : List Value} {own : List Nat}, RelRL B w A rs xs vs own → RelRL B w A' rs xs vs own
  | [], _, _, _, h => h
  | r :: rs, xs, vs, own, h => by
    obtain ⟨x, xs', v, vs', ob, own', rfl, rfl, rfl, h1, h2⟩ := h
    exact ⟨x, xs', v, vs', ob, own', rfl, rfl, rfl, h1.mono hA, RelRL.mono hA h2⟩
theorem RelRs.mono (hA : ∀ b, A b → A' b) : ∀ {rs : List RSh} {xs : List T} {vs : List Value} {own : List Nat}, RelRs B w A rs xs vs own → RelRs B w A' rs xs vs own
  | [], _, _, _, h => h
  | r :: rs, xs, vs, own, h => by
    cases r with
    | agg l =>
      obtain ⟨x1, x2, ws, vs', o1, o2, rfl, rfl, rfl, h1, h2⟩ := h
      exact ⟨x1, x2, ws, vs', o1, o2, rfl, rfl, rfl, h1.mono hA, RelRs.mono hA h2⟩
    | new l =>
      obtain ⟨x1, x2, b0, arr, ty, vs', o1, o2, rfl, rfl, rfl, hb0, h1, h2⟩ := h
      exact ⟨x1, x2, b0, arr, ty, vs', o1, o2, rfl, rfl, rfl, hb0, h1.mono hA, RelRs.mono hA h2⟩
    | _ =>
      obtain ⟨x, xs', v, vs', ob, own', rfl, rfl, rfl, h1, h2⟩ := h
      exact ⟨x, xs', v, vs', ob, own', rfl, rfl, rfl, h1.mono hA, RelRs.mono hA h2⟩

/-! ### A call -/
/-- Behind a call that keeps all that was there: what comes back is taken in. -/
theorem taken_in {R : Type} {d : Nat} {rs : List RSh} {xs : List T} {vals : List Value} {own : List Nat} {K : List AV → Upd → Nat → Option R} {res : R} (hc : cc = none ∨ cc = some true) (hs : HS c w h ρ O) (kp : Keep w w') (hnd : own.Nodup) (hown : ∀ b ∈ own, w.heap.size ≤ b ∧ b < w'.heap.size)
    (hrel : RelRs (fun _ => none) w' (fun b => (c.A0 b ∨ c.MO b) ∧ b < w'.heap.size ∧ b ∉ own ∧ ∀ i, O i ≠ some b) rs xs vals own) (hk : decL [] d cc 0 rs xs K = some res) :
    ∃ avs us j, K avs us j = some res ∧ Names d 0 j us ∧ ((∀ p ∈ us, h p.1 = none) → ∃ ρ' O', Le w ρ O w' ρ' O' ∧ HS c w' (updH h us) ρ' O' ∧ RelVs w' (AA c w' O') ρ' avs vals) := by
  obtain ⟨avs, us, j, hk, _, names, tk⟩ := decL_sound (c := c) hc hrel hk
  refine ⟨avs, us, j, hk, names, fun hfree => ?_⟩
  have hA : ∀ b, AA c w O b → ((c.A0 b ∨ c.MO b) ∧ b < w'.heap.size ∧ b ∉ own ∧ ∀ i, O i ≠ some b) ∧ w'.heap[b]? = w.heap[b]? := by
    intro b hb
    refine ⟨⟨hb.1, Nat.lt_of_lt_of_le hb.2.1 kp.size, fun hm => ?_, hb.2.2⟩, kp.blk b hb.2.1⟩
    have := (hown b hm).1; have := hb.2.1; omega
  have hsa : HSA c w' (fun b => (c.A0 b ∨ c.MO b) ∧ b < w'.heap.size ∧ b ∉ own ∧ ∀ i, O i ≠ some b) h ρ O :=
    ⟨fun i b hb => RelB.mono (fun n => ⟨rfl, rfl, fun b hb => kp.blk b (hs.lt _ b hb)⟩) hA (fun _ _ h => h) rfl (fun b hb => kp.blk b (hs.lt i b hb)) (hs.blk i b hb), hs.nodom, hs.nog, hs.gdom, hs.gone, hs.inj, fun i b hb => Nat.lt_of_lt_of_le (hs.lt i b hb) kp.size, hs.own, Nat.le_trans hs.size kp.size⟩
  obtain ⟨ρ', O', m, hs', q, rng⟩ := tk h ρ O (by intro k i v hk; simp at hk) hsa hnd (fun b hb => ⟨(hown b hb).2, .inr (Nat.le_trans hs.size (hown b hb).1), fun i hi => by have := hs.lt i b hi; have := (hown b hb).1; omega⟩) hfree
  have hAA : ∀ b, ((c.A0 b ∨ c.MO b) ∧ b < w'.heap.size ∧ b ∉ own ∧ ∀ i, O i ≠ some b) ↔ AA c w' O' b := by
    intro b
    constructor
    · rintro ⟨h1, h2, h3, h4⟩
      refine ⟨h1, h2, fun i hi => ?_⟩
      rcases (rng b).1 ⟨i, hi⟩ with ⟨k, hk⟩ | hk
      · exact h4 k hk
      · exact h3 hk
    · rintro ⟨h1, h2, h3⟩
      refine ⟨h1, h2, fun hm => ?_, fun i hi => ?_⟩
      · obtain ⟨i, hi⟩ := (rng b).2 (.inr hm); exact h3 i hi
      · obtain ⟨k, hk⟩ := (rng b).2 (.inl ⟨i, hi⟩); exact h3 k hk
  refine ⟨ρ', O', ⟨kp.os, kp.output, kp.tape, kp.size, m, fun k hk _ => kp.blk k hk, fun i b hi => ?_⟩, hs'.toHS hAA, ?_⟩
  · rcases (rng b).1 ⟨i, hi⟩ with hk | hk
    · exact .inl hk
    · exact .inr (hown b hk).1
  · exact RelVs.mono (fun b hb => ⟨(hAA b).1 hb, rfl⟩) (fun _ _ h => h) _ _ q

theorem drop_at {α : Type} {a b : List α} {n : Nat} (h : a.length = n) : (a ++ b).drop n = b := by rw [← h, List.drop_left]

/-- What has become of the blocks that were handed in is taken in. -/
theorem decOuts_sound {R : Type} {all : List Id} {d : Nat} : ∀ {outs : List BSh} {is : List Id} {j jj : Nat} {xs : List T} {own : List Nat} {K : Upd → Option R} {res : R}, RelOs B w A jj outs xs own → decOuts all d j is outs xs K = some res →
    ∃ us, K us = some res ∧ (∀ p ∈ us, (∃ k, j ≤ k ∧ p.1 = .s d k) ∨ p.1 ∈ is) ∧
      ∀ h ρ O, Bears B all ρ → (∀ k i, is[k]? = some i → h i = some .dead ∧ ∀ v, B (jj + k) = some v → ρ i = some v) → HSA c w A h ρ O → own.Nodup → (∀ b ∈ own, b < w.heap.size ∧ c.MO b ∧ ∀ i, O i ≠ some b) → is.Nodup →
        (∀ i ∈ is, ∀ k, i ≠ .s d k) → (∀ p ∈ us, ∀ k, p.1 = .s d k → h p.1 = none) →
        ∃ ρ' O', (∀ i u, ρ i = some u → ρ' i = some u) ∧ HSA c w A (updH h us) ρ' O' ∧ ∀ b, (∃ i, O' i = some b) ↔ ((∃ i, O i = some b) ∨ b ∈ own)
  | [], [], j, jj, xs, own, K, res, hrel, hk => by
    obtain ⟨rfl, rfl⟩ := hrel
    simp only [decOuts] at hk
    exact ⟨[], hk, (by intro p hp; cases hp), fun h ρ O _ _ hs _ _ _ _ _ => ⟨ρ, O, fun _ _ h => h, hs, fun b => by simp⟩⟩
  | [], _ :: _, j, jj, xs, own, K, res, hrel, hk => by simp [decOuts] at hk
  | r :: outs, [], j, jj, xs, own, K, res, hrel, hk => by cases r <;> simp [decOuts] at hk
  | .dead :: outs, i :: is, j, jj, xs, own, K, res, hrel, hk => by
    simp only [decOuts] at hk
    obtain ⟨us, hk, names, tk⟩ := decOuts_sound (jj := jj + 1) hrel hk
    refine ⟨us, hk, fun p hp => (names p hp).imp id (List.mem_cons_of_mem _), fun h ρ O hbr hd hs hnd hown hnod hns hfree => ?_⟩
    exact tk h ρ O hbr (fun k i hk => by
      have := hd (k + 1) i (by simpa using hk)
      rw [show jj + (k + 1) = jj + 1 + k by omega] at this
      exact this) hs hnd hown (List.nodup_cons.1 hnod).2 (fun i hi => hns i (List.mem_cons_of_mem _ hi)) hfree
  | .mp ag ks vk :: outs, i :: is, j, jj, xs, own, K, res, hrel, hk => by
    obtain ⟨es, b0, ents, clock, x2, o2, rfl, rfl, hB, hheap, hes, hok, hrest⟩ := hrel
    obtain ⟨ob, hob⟩ : ∃ ob : Option Nat, ob = some b0 := ⟨_, rfl⟩
    rw [show b0 :: o2 = ob.toList ++ o2 by rw [hob]; rfl] at *
    simp only [decOuts, List.head?_cons, Option.bind_some, List.tail_cons] at hk
    replace hk := gdK_some hk (.inl rfl); obtain ⟨p, hp, hk⟩ := hk
    rw [decE_enc] at hp; simp only [Option.some.injEq] at hp; subst hp
    obtain ⟨us, hk, names, tk⟩ := decOuts_sound (jj := jj + 1) hrest hk
    refine ⟨_, hk, fun p hp => ?_, fun h ρ O hbr hd hs hnd hown hnod hns hfree => ?_⟩
    · rcases List.mem_cons.1 hp with rfl | hp
      · exact .inr List.mem_cons_self
      · exact (names p hp).imp id (List.mem_cons_of_mem _)
    obtain ⟨n1, n2⟩ := List.nodup_cons.1 hnod
    obtain ⟨d1, d2⟩ := hd 0 i rfl
    obtain ⟨k1, k2, k3⟩ := List.nodup_append.1 hnd
    have hs1 := hs.revive d1 ob (fun b hb => hown b (List.mem_append_left _ (by simp [hb]))) (.mp ag ks vk es) ⟨b0, ents, clock, d2 _ (by simpa using hB), by rw [upd_same, hob], hheap, hes, hok⟩
    have hO0 : O i = none := (hs.blk i _ d1).2
    have rng1 : ∀ b, (∃ k, upd O i ob k = some b) ↔ ((∃ k, O k = some b) ∨ b ∈ ob.toList) := by
      intro b
      constructor
      · rintro ⟨k, hk⟩
        by_cases e : k = i
        · rw [e, upd_same] at hk; right; simp [hk]
        · rw [upd_ne _ _ e] at hk; exact .inl ⟨k, hk⟩
      · rintro (⟨k, hk⟩ | hk)
        · by_cases e : k = i
          · rw [e, hO0] at hk; cases hk
          · exact ⟨k, by rw [upd_ne _ _ e]; exact hk⟩
        · exact ⟨i, by rw [upd_same]; simpa using hk⟩
    have own2 : ∀ b ∈ o2, b < w.heap.size ∧ c.MO b ∧ ∀ k, upd O i ob k ≠ some b := by
      intro b hb
      obtain ⟨g1, g2, g3⟩ := hown b (List.mem_append_right _ hb)
      refine ⟨g1, g2, fun i' hi' => ?_⟩
      rcases (rng1 b).1 ⟨i', hi'⟩ with ⟨k, hk⟩ | hk
      · exact g3 k hk
      · exact k3 b hk b hb rfl
    have free2 : ∀ p ∈ us, ∀ k, p.1 = .s d k → upd h i (some (.mp ag ks vk es)) p.1 = none := by
      intro p hp k e
      have hne : p.1 ≠ i := fun e' => hns i List.mem_cons_self k (by rw [← e', e])
      rw [upd_ne _ _ hne]
      exact hfree p (List.mem_cons_of_mem _ hp) k e
    obtain ⟨ρ', O', m, hs', rng⟩ := tk (upd h i (some (.mp ag ks vk es))) ρ (upd O i ob) hbr (fun k i' hk => by
        have := hd (k + 1) i' (by simpa using hk)
        rw [show jj + (k + 1) = jj + 1 + k by omega] at this
        refine ⟨?_, this.2⟩
        have hne : i' ≠ i := fun e => n1 (by rw [← e]; exact List.mem_of_getElem? hk)
        rw [upd_ne _ _ hne]
        exact this.1) hs1 k2 own2 n2 (fun i hi => hns i (List.mem_cons_of_mem _ hi)) free2
    refine ⟨ρ', O', m, hs', fun b => ?_⟩
    rw [rng b, rng1 b, List.mem_append, or_assoc]
  | .sl sz :: outs, i :: is, j, jj, xs, own, K, res, hrel, hk => by
    obtain ⟨bb, l, x2, ob, v, o2, rfl, rfl, hB, hsl, hrest⟩ := hrel
    simp only [decOuts, List.head?_cons, Option.bind_some, List.tail_cons] at hk
    replace hk := gdK_some hk (.inl rfl); obtain ⟨p, hp, hk⟩ := hk
    simp only [T.lst?, if_true, Option.some.injEq] at hp; subst hp
    obtain ⟨us, hk, names, tk⟩ := decOuts_sound (jj := jj + 1) hrest hk
    refine ⟨_, hk, fun p hp => ?_, fun h ρ O hbr hd hs hnd hown hnod hns hfree => ?_⟩
    · rcases List.mem_cons.1 hp with rfl | hp
      · exact .inr List.mem_cons_self
      · exact (names p hp).imp id (List.mem_cons_of_mem _)
    obtain ⟨n1, n2⟩ := List.nodup_cons.1 hnod
    obtain ⟨d1, d2⟩ := hd 0 i rfl
    obtain ⟨k1, k2, k3⟩ := List.nodup_append.1 hnd
    have hs1 := hs.revive d1 ob (fun b hb => hown b (List.mem_append_left _ (by simp [hb]))) (.sl false sz bb l) ⟨v, d2 v (by simpa using hB), by simpa using hsl, by simp⟩
    have hO0 : O i = none := (hs.blk i _ d1).2
    have rng1 : ∀ b, (∃ k, upd O i ob k = some b) ↔ ((∃ k, O k = some b) ∨ b ∈ ob.toList) := by
      intro b
      constructor
      · rintro ⟨k, hk⟩
        by_cases e : k = i
        · rw [e, upd_same] at hk; right; simp [hk]
        · rw [upd_ne _ _ e] at hk; exact .inl ⟨k, hk⟩
      · rintro (⟨k, hk⟩ | hk)
        · by_cases e : k = i
          · rw [e, hO0] at hk; cases hk
          · exact ⟨k, by rw [upd_ne _ _ e]; exact hk⟩
        · exact ⟨i, by rw [upd_same]; simpa using hk⟩
    have own2 : ∀ b ∈ o2, b < w.heap.size ∧ c.MO b ∧ ∀ k, upd O i ob k ≠ some b := by
      intro b hb
      obtain ⟨g1, g2, g3⟩ := hown b (List.mem_append_right _ hb)
      refine ⟨g1, g2, fun i' hi' => ?_⟩
      rcases (rng1 b).1 ⟨i', hi'⟩ with ⟨k, hk⟩ | hk
      · exact g3 k hk
      · exact k3 b hk b hb rfl
    have free2 : ∀ p ∈ us, ∀ k, p.1 = .s d k → upd h i (some (.sl false sz bb l)) p.1 = none := by
      intro p hp k e
      have hne : p.1 ≠ i := fun e' => hns i List.mem_cons_self k (by rw [← e', e])
      rw [upd_ne _ _ hne]
      exact hfree p (List.mem_cons_of_mem _ hp) k e
    obtain ⟨ρ', O', m, hs', rng⟩ := tk (upd h i (some (.sl false sz bb l))) ρ (upd O i ob) hbr (fun k i' hk => by
        have := hd (k + 1) i' (by simpa using hk)
        rw [show jj + (k + 1) = jj + 1 + k by omega] at this
        refine ⟨?_, this.2⟩
        have hne : i' ≠ i := fun e => n1 (by rw [← e]; exact List.mem_of_getElem? hk)
        rw [upd_ne _ _ hne]
        exact this.1) hs1 k2 own2 n2 (fun i hi => hns i (List.mem_cons_of_mem _ hi)) free2
    refine ⟨ρ', O', m, hs', fun b => ?_⟩
    rw [rng b, rng1 b, List.mem_append, or_assoc]
  | .box l :: outs, i :: is, j, jj, xs, own, K, res, hrel, hk => by
    obtain ⟨x1, x2, b0, arr, t, o1, o2, rfl, rfl, hB, hheap, hL, hrest⟩ := hrel
    simp only [decOuts] at hk
    obtain ⟨av, us1, j1, hk, hj, n1', t1⟩ := decL1_sound (c := c) (ids := all) (.inl rfl) hL hk
    rw [drop_at hL.length] at hk
    obtain ⟨us2, hk, names, tk⟩ := decOuts_sound (jj := jj + 1) hrest hk
    refine ⟨_, hk, fun p hp => ?_, fun h ρ O hbr hd hs hnd hown hnod hns hfree => ?_⟩
    · rcases List.mem_append.1 hp with hp | hp
      · obtain ⟨k, g1, g2, g3⟩ := n1' p hp
        exact .inl ⟨k, g1, g3⟩
      · rcases List.mem_cons.1 hp with rfl | hp
        · exact .inr List.mem_cons_self
        · rcases names p hp with ⟨k, g1, g2⟩ | g
          · exact .inl ⟨k, by omega, g2⟩
          · exact .inr (List.mem_cons_of_mem _ g)
    obtain ⟨n1, n2⟩ := List.nodup_cons.1 hnod
    obtain ⟨d1, d2⟩ := hd 0 i rfl
    obtain ⟨q1, q2⟩ := List.nodup_cons.1 hnd
    obtain ⟨k1, k2, k3⟩ := List.nodup_append.1 q2
    have not1 : ∀ x, (∀ k, x ≠ .s d k) → updH h us1 x = h x := fun x hx => updH_other fun p hp e => by
      obtain ⟨k, _, _, g3⟩ := n1' p hp
      exact hx k (by rw [← e, g3])
    obtain ⟨ρ1, O1, m1, hs1, v1, rng1⟩ := t1 h ρ O hbr hs k1 (fun b hb => hown b (List.mem_cons_of_mem _ (List.mem_append_left _ hb))) (fun p hp => by
      obtain ⟨k, _, _, g3⟩ := n1' p hp
      exact hfree p (List.mem_append_left _ hp) k g3)
    have hdi : updH h us1 i = some .dead := by rw [not1 i (hns i List.mem_cons_self)]; exact d1
    have fresh0 : ∀ k, O1 k ≠ some b0 := by
      intro k hk
      rcases (rng1 b0).1 ⟨k, hk⟩ with ⟨k', hk'⟩ | hk'
      · exact (hown b0 List.mem_cons_self).2.2 k' hk'
      · exact q1 (List.mem_append_left _ hk')
    have hs2 := hs1.revive hdi (some b0) (fun b hb => by
      simp only [Option.some.injEq] at hb; subst hb
      obtain ⟨g1, g2, _⟩ := hown b0 List.mem_cons_self
      exact ⟨g1, g2, fresh0⟩) (.box av) ⟨b0, arr, t, m1 _ _ (d2 _ (by simpa using hB)), upd_same _ _ _, hheap, v1, hL.one⟩
    have hO0 : O1 i = none := (hs1.blk i _ hdi).2
    have rng2 : ∀ b, (∃ k, upd O1 i (some b0) k = some b) ↔ ((∃ k, O k = some b) ∨ b ∈ b0 :: o1) := by
      intro b
      constructor
      · rintro ⟨k, hk⟩
        by_cases e : k = i
        · rw [e, upd_same] at hk; cases hk; exact .inr List.mem_cons_self
        · rw [upd_ne _ _ e] at hk
          rcases (rng1 b).1 ⟨k, hk⟩ with g | g
          · exact .inl g
          · exact .inr (List.mem_cons_of_mem _ g)
      · intro hk
        have lift : (∃ k, O1 k = some b) → ∃ k, upd O1 i (some b0) k = some b := by
          rintro ⟨k, hk⟩
          by_cases e : k = i
          · rw [e, hO0] at hk; cases hk
          · exact ⟨k, by rw [upd_ne _ _ e]; exact hk⟩
        rcases hk with hk | hk
        · exact lift ((rng1 b).2 (.inl hk))
        · rcases List.mem_cons.1 hk with rfl | hk
          · exact ⟨i, upd_same _ _ _⟩
          · exact lift ((rng1 b).2 (.inr hk))
    have own2 : ∀ b ∈ o2, b < w.heap.size ∧ c.MO b ∧ ∀ k, upd O1 i (some b0) k ≠ some b := by
      intro b hb
      obtain ⟨g1, g2, g3⟩ := hown b (List.mem_cons_of_mem _ (List.mem_append_right _ hb))
      refine ⟨g1, g2, fun i' hi' => ?_⟩
      rcases (rng2 b).1 ⟨i', hi'⟩ with ⟨k, hk⟩ | hk
      · exact g3 k hk
      · rcases List.mem_cons.1 hk with rfl | hk
        · exact q1 (List.mem_append_right _ hb)
        · exact k3 b hk b hb rfl
    have free2 : ∀ p ∈ us2, ∀ k, p.1 = .s d k → upd (updH h us1) i (some (.box av)) p.1 = none := by
      intro p hp k e
      have hne : p.1 ≠ i := fun e' => hns i List.mem_cons_self k (by rw [← e', e])
      rw [upd_ne _ _ hne]
      rw [updH_other (fun p' hp' e' => ?_)]
      · exact hfree p (List.mem_append_right _ (List.mem_cons_of_mem _ hp)) k e
      · obtain ⟨k', g1, g2, g3⟩ := n1' p' hp'
        rcases names p hp with ⟨k'', g4, g5⟩ | g
        · rw [g3, g5] at e'
          simp only [Id.s.injEq] at e'
          omega
        · exact hns p.1 (List.mem_cons_of_mem _ g) k e
    obtain ⟨ρ', O', m, hs', rng⟩ := tk (upd (updH h us1) i (some (.box av))) ρ1 (upd O1 i (some b0)) (fun k i v e1 e2 => m1 i v (hbr k i v e1 e2)) (fun k i' hk => by
        have hm := List.mem_of_getElem? hk
        have := hd (k + 1) i' (by simpa using hk)
        rw [show jj + (k + 1) = jj + 1 + k by omega] at this
        refine ⟨?_, fun v hv => m1 _ _ (this.2 v hv)⟩
        have hne : i' ≠ i := fun e => n1 (by rw [← e]; exact hm)
        rw [upd_ne _ _ hne, not1 i' (hns i' (List.mem_cons_of_mem _ hm))]
        exact this.1) hs2 k2 own2 n2 (fun i hi => hns i (List.mem_cons_of_mem _ hi)) free2
    refine ⟨ρ', O', fun i u hi => m i u (m1 i u hi), by rw [updH_append, updH_cons]; exact hs', fun b => ?_⟩
    rw [rng b, rng2 b, List.mem_cons, List.mem_cons, List.mem_append]
    simp only [or_assoc]

/-- Arguments, some of which are handed in as they are. -/
theorem argRs_ok {keep : List Id} (hs : HS c w h ρ O) : ∀ {fl : List Bool} {vs : List AV} {us : List Value} {q : List AV × Upd}, RelVs w (AA c w O) ρ vs us → argRs h keep fl vs = some q →
    FrzOk h q.2 ∧ ∀ O', Le w ρ O w ρ O' → (∀ i, O' i = O i ∨ O' i = none) → (∀ p ∈ q.2, O' p.1 = none) → RelVs w (AA c w O') ρ q.1 us
  | fl, [], us, q, hv, hq => by
    simp only [RelVs] at hv; subst hv
    simp only [argRs, Option.some.injEq] at hq; subst hq
    exact ⟨(by intro p hp; cases hp), fun _ _ _ _ => by simp [RelVs]⟩
  | fl, v :: vs, us, q, hv, hq => by
    simp only [RelVs] at hv; obtain ⟨u, r, rfl, h1, h2⟩ := hv
    simp only [argRs] at hq
    obtain ⟨p, hp, hq⟩ := Option.bind_eq_some_iff.1 hq
    obtain ⟨p', hp', hq⟩ := Option.bind_eq_some_iff.1 hq
    simp only [Option.some.injEq] at hq; subst hq
    obtain ⟨g1, g2⟩ := argRs_ok hs h2 hp'
    have one : FrzOk h p.2 ∧ ∀ O', Le w ρ O w ρ O' → (∀ i, O' i = O i ∨ O' i = none) → (∀ x ∈ p.2, O' x.1 = none) → RelV w (AA c w O') ρ p.1 u := by
      unfold argR at hp
      cases hcond : (fl.headD false || (!v.ids.isEmpty && v.ids.all keep.contains)) with
      | true =>
        rw [hcond] at hp
        simp only [cond_true, Option.some.injEq] at hp; subst hp
        exact ⟨(by intro p hp; cases hp), fun O' le _ _ => RelV.mono (fun b hb => le.A b hb) (fun _ _ h => h) _ _ h1⟩
      | false =>
        rw [hcond] at hp
        simp only [cond_false] at hp
        obtain ⟨k1, k2⟩ := (argV_ok hs h1 hp).2 rfl
        exact ⟨k1, fun O' le hO hf => RelV.mono (fun b hb => ⟨hb, rfl⟩) (by intro i v h; cases h) _ _ (k2 O' le hO hf)⟩
    refine ⟨one.1.append g1, fun O' le hO hf => ?_⟩
    simp only [RelVs]
    exact ⟨u, r, rfl, one.2 O' le hO (fun x hx => hf x (List.mem_append_left _ hx)), g2 O' le hO (fun x hx => hf x (List.mem_append_right _ hx))⟩

theorem RelRs.length : ∀ {rs : List RSh} {xs : List T} {vs : List Value} {own : List Nat}, RelRs B w A rs xs vs own → xs.length = sizes rs
  | [], _, _, _, ⟨rfl, _, _⟩ => rfl
  | r :: rs, xs, vs, own, h => by
    cases r with
    | agg l =>
      obtain ⟨x1, x2, ws, vs', o1, o2, rfl, rfl, rfl, h1, h2⟩ := h
      simp [sizes, RSh.size, h1.length, RelRs.length h2]
    | new l =>
      obtain ⟨x1, x2, b0, arr, ty, vs', o1, o2, rfl, rfl, rfl, hb0, h1, h2⟩ := h
      simp [sizes, RSh.size, h1.length, RelRs.length h2]
    | _ =>
      obtain ⟨x, xs', v, vs', ob, own', rfl, rfl, rfl, h1, h2⟩ := h
      simp [sizes, RSh.size, RelRs.length h2]; omega
theorem decL_more {R : Type} {d : Nat} : ∀ {rs : List RSh} {x1 x2 : List T} {j : Nat} {vs : List Value} {own : List Nat} {K : List AV → Upd → Nat → Option R}, RelRs B w A rs x1 vs own →
    decL ids d cc j rs (x1 ++ x2) K = decL ids d cc j rs x1 K := by
  have one : ∀ {l : List RSh} {x1 x2 : List T} {j : Nat} {vs : List Value} {own : List Nat} {K : List AV → Upd → Nat → Option R}, RelRL B w A l x1 vs own → decL1 ids d cc j l (x1 ++ x2) K = decL1 ids d cc j l x1 K := by
    intro l
    induction l with
    | nil => intro x1 x2 j vs own K h; rfl
    | cons r l ih =>
      intro x1 x2 j vs own K h
      obtain ⟨x, xs', v, vs', ob, own', rfl, rfl, rfl, h1, h2⟩ := h
      simp only [decL1, List.cons_append, List.head?_cons, List.tail_cons]
      congr 1; funext y; congr 1; funext v u j; exact ih h2
  intro rs
  induction rs with
  | nil => intro x1 x2 j vs own K h; rfl
  | cons r rs ih =>
    intro x1 x2 j vs own K h
    have simple : (∃ x xs' v vs' ob own', x1 = x :: xs' ∧ vs = v :: vs' ∧ own = ob ++ own' ∧ RelR1 B w A r x v ob ∧ RelRs B w A rs xs' vs' own') →
        (gdK cc (x1 ++ x2).head? fun x => decR ids d cc j r x fun v u j => decL ids d cc j rs (x1 ++ x2).tail fun vs us j => K (v :: vs) (u ++ us) j) =
        gdK cc x1.head? fun x => decR ids d cc j r x fun v u j => decL ids d cc j rs x1.tail fun vs us j => K (v :: vs) (u ++ us) j := by
      rintro ⟨x, xs', v, vs', ob, own', rfl, rfl, rfl, h1, h2⟩
      simp only [List.cons_append, List.head?_cons, List.tail_cons]
      congr 1; funext y; congr 1; funext v u j; exact ih h2
    cases r with
    | agg l =>
      obtain ⟨y1, y2, ws, vs', o1, o2, rfl, rfl, rfl, h1, h2⟩ := h
      simp only [decL]
      have hl := h1.length
      rw [List.append_assoc, one h1, one (x2 := y2) h1]
      congr 1; funext v u j
      rw [drop_at hl, drop_at hl]
      exact ih h2
    | f k => exact simple h
    | t k => exact simple h
    | own sz => exact simple h
    | rows sz col rsz => exact simple h
    | mp ag ks vk => exact simple h
    | new l =>
      obtain ⟨y1, y2, b0, arr, ty, vs', o1, o2, rfl, rfl, rfl, hb0, h1, h2⟩ := h
      have hl := h1.length
      cases cc with
      | some b => simp only [decL]
      | none =>
      simp only [decL]
      rw [List.append_assoc, one h1, one (x2 := y2) h1]
      congr 1; funext v u j
      rw [drop_at hl, drop_at hl]
      exact ih h2
    | ref k off => exact simple h
    | same k => exact simple h
    | no => exact simple h

theorem deads_get {l : List Id} {h : Id → Option Blk} {i : Id} (hi : i ∈ l) : updH h (deads l) i = some .dead := by
  induction l generalizing h with
  | nil => cases hi
  | cons j l ih =>
    show updH (upd h j (some .dead)) (deads l) i = some .dead
    by_cases hm : i ∈ l
    · exact ih hm
    · have : i = j := by
        rcases List.mem_cons.1 hi with h | h
        · exact h
        · exact (hm h).elim
      subst this
      rw [updH_other (fun p hp e => ?_), upd_same]
      obtain ⟨k, hk, rfl⟩ := List.mem_map.1 hp
      exact hm (e ▸ hk)
theorem deads_other {l : List Id} {h : Id → Option Blk} {i : Id} (hi : i ∉ l) : updH h (deads l) i = h i := by
  refine updH_other fun p hp e => ?_
  obtain ⟨k, hk, rfl⟩ := List.mem_map.1 hp
  exact hi (e ▸ hk)
theorem notOf_spec {d : Nat} {l : List Id} (h : notOf d l = true) : ∀ i ∈ l, ∀ k, i ≠ .s d k := by
  intro i hi k e
  have := List.all_eq_true.1 h i hi
  subst e
  simp at this

theorem callAV_sound {R : Type} {An : Ann} {Or : Orc} (hO : OSound P An Or) {d : Nat} {f : FuncId} {args : List AV} {vals : List Value} {K : AV → Upd → Option R} {r : R} (hc : cc = none ∨ cc = some true) (hs : HS c w s.h ρ O) (hv : RelVs w (AA c w O) ρ args vals)
    (hk : callAV P An Or s d cc f args K = some r) :
    ∃ v us fn body, K v us = some r ∧ P.funcs[f]? = some fn ∧ fn.body = some body ∧ fn.name ≠ "runtime.NumGoroutine" ∧
      (freshAt d s.h us = true → Calls P f vals.toArray w fun e w' => ∃ x, e = .returned x ∧ ∃ ρ' O', Le w ρ O w' ρ' O' ∧ HS c w' (updH s.h us) ρ' O' ∧ RelV w' (AA c w' O') ρ' v x) := by
  unfold callAV at hk
  split at hk
  · simp at hk
  rename_i fn hfn
  split at hk
  · rename_i hbref
    replace hk := Option.bind_eq_some_iff.1 hk; obtain ⟨p, hp, hk⟩ := hk
    obtain ⟨pt, hk, htyp⟩ := typVs_some hc hk
    replace hk := gdK_some hk (.inl rfl); obtain ⟨xs, hxs, hk⟩ := hk
    replace hxs : Or (.call f) pt [] = some xs := by rcases hc with rfl | rfl <;> exact hxs
    obtain ⟨fn', body, e1, hbody, hname, hcall⟩ := hO f pt [] xs hxs
    rw [hfn] at e1; simp only [Option.some.injEq] at e1; subst e1
    have hcall := hcall.values hbref
    have ok := argVs_ok hs hv hp
    rw [show decL [] d cc 0 (resSh P An f 0 fn) xs (fun vs u _ => K (resAV vs) (p.2 ++ u)) = (decL [] d cc 0 (resSh P An f 0 fn) xs (fun vs u j => some (vs, u, j))).bind (fun q => K (resAV q.1) (p.2 ++ q.2.1)) from by rw [decL_nat]; rfl] at hk
    replace hk := Option.bind_eq_some_iff.1 hk; obtain ⟨q, hq, hk⟩ := hk
    refine ⟨_, _, fn, body, hk, hfn, hbody, hname, fun hfree => ?_⟩
    have hfree' : ∀ k, (∃ b, (Id.s d k, b) ∈ q.2.1) → s.h (.s d k) = none := by
      rintro k ⟨b, hb⟩
      have := List.all_eq_true.1 hfree _ (List.mem_append_right _ hb)
      simpa using this
    cases hfl : (resSh P An f 0 fn).all flatSh with
    | true =>
      obtain ⟨hp2, hrel⟩ := ok.1 hfl
      refine (hcall _ w vals (fun b hb => hb) (htyp _ _ _ _ hrel)).mono fun e w' hpost => ?_
      obtain ⟨rs, own, rfl, kp, hnd, hown, hr⟩ := hpost
      obtain ⟨hr, rfl⟩ := hr.flat (A' := fun b => (c.A0 b ∨ c.MO b) ∧ b < w'.heap.size ∧ b ∉ ([] : List Nat) ∧ ∀ i, O i ≠ some b) hfl
      obtain ⟨avs, us, j, hq', names, tk⟩ := taken_in hc hs kp hnd hown hr hq
      simp only [Option.some.injEq] at hq'; subst hq'
      obtain ⟨ρ', O', le, hs', hv'⟩ := tk (fun p hp => by
        obtain ⟨k, _, _, e⟩ := names p hp
        rw [e]; exact hfree' k ⟨p.2, by rw [← e]; exact hp⟩)
      refine ⟨_, rfl, ρ', O', le, ?_, resAV_sound hv'⟩
      rw [hp2]; exact hs'
    | false =>
      obtain ⟨hfz, hrel⟩ := ok.2 hfl
      obtain ⟨O1, le1, hs1, hO1, hf1, _⟩ := hs.freezes' hfz
      refine (hcall _ w vals (fun b hb => hb.2.1) (htyp _ _ _ _ (hrel O1 le1 hO1 hf1))).mono fun e w' hpost => ?_
      obtain ⟨rs, own, rfl, kp, hnd, hown, hr⟩ := hpost
      have hr := hr.mono (A' := fun b => (c.A0 b ∨ c.MO b) ∧ b < w'.heap.size ∧ b ∉ own ∧ ∀ i, O1 i ≠ some b) (by
        rintro b ⟨h1 | h1, h2, h3⟩
        · exact ⟨h1.1, h2, h3, h1.2.2⟩
        · exact ⟨.inr (.inr (Nat.le_trans hs.size h1)), h2, h3, fun i hi => by have := hs1.lt i b hi; omega⟩)
      obtain ⟨avs, us, j, hq', names, tk⟩ := taken_in hc hs1 kp hnd hown hr hq
      simp only [Option.some.injEq] at hq'; subst hq'
      obtain ⟨ρ', O', le, hs', hv'⟩ := tk (fun p' hp' => by
        obtain ⟨k, _, _, e⟩ := names p' hp'
        have hn := hfree' k ⟨p'.2, by rw [← e]; exact hp'⟩
        rw [updH_other (fun x hx ex => ?_), e]
        · exact hn
        · have h2 := hfz x hx
          rw [ex, e, hn] at h2
          rcases h2 with ⟨sz, b, l, _, h2⟩ | ⟨l, _, h2⟩ <;> simp at h2)
      exact ⟨_, rfl, ρ', O', le1.trans le, by rw [updH_append]; exact hs', resAV_sound hv'⟩
  · rename_i fl hbref
    cases cc with
    | some b => simp at hk
    | none =>
    dsimp only at hk
    replace hk := Option.bind_eq_some_iff.1 hk; obtain ⟨p, hp, hk⟩ := hk
    replace hk := Option.bind_eq_some_iff.1 hk; obtain ⟨us, hus, hk⟩ := hk
    replace hk := Option.bind_eq_some_iff.1 hk; obtain ⟨seen, hseen, hk⟩ := hk
    generalize hn0 : disc ((idsL p.1).head?.bind (updH s.h p.2)) = n0 at hk hus
    cases hnot' : (notOf d seen && Nat.beq (disc (seen.map fun i => rnB seen (updH (updH s.h p.2) us i)).head?) n0) with
    | false => rw [hnot'] at hk; simp at hk
    | true =>
    rw [hnot', cond_true] at hk
    simp only [Bool.and_eq_true] at hnot'
    obtain ⟨hnot, hd0⟩ := hnot'
    replace hd0 := Nat.eq_of_beq_eq_true hd0
    have hns := notOf_spec hnot
    obtain ⟨pt, hk, htyp⟩ := typVs_some (.inl rfl) hk
    replace hk := gdK_some hk (.inl rfl); obtain ⟨xs, hxs, hk⟩ := hk
    obtain ⟨fn', body, e1, hbody, hname, hcall⟩ := hO f pt _ xs hxs
    rw [hfn] at e1; simp only [Option.some.injEq] at e1; subst e1
    -- the state in which the callee is entered
    obtain ⟨hfz, hrel⟩ := argRs_ok hs hv hp
    obtain ⟨O1, le1, hs1, hO1, hf1, _⟩ := hs.freezes' hfz
    have hv1 := hrel O1 le1 hO1 hf1
    obtain ⟨ρ2, O2, le2, hs2⟩ := prep_sound hs1 hus
    have hv2 := RelVs.mono (fun b hb => le2.A b hb) le2.rho _ _ hv1
    obtain ⟨g1, _, g3, g4, g5⟩ := reach_sound hseen List.nodup_nil (by simp) (by simp)
    let c' : Ctx := { A0 := AA c w O2, M := fun b => ∃ i, Of seen i ∧ O2 i = some b, N0 := w.heap.size }
    have hA3 : ∀ b, AA c w O2 b → AA c' w (rnρ seen O2) b := fun b hb => ⟨.inl hb, hb.2.1, fun i hi => by
      obtain ⟨k, _, hk⟩ := rn_owned ⟨i, hi⟩
      exact hb.2.2 k hk⟩
    have hs3 := hs2.rnC (c' := c') g1 g4 g5 hA3 (fun b hb => .inl (rn_owned hb)) (Nat.le_refl _)
    have hv3 := htyp _ _ _ _ (RelVs.rn (m := seen) hA3 _ _ (fun i hi => g3 i hi) hv2)
    have hcall := hcall c' w _ _ vals rfl hs3 hv3
    rw [hd0] at hcall
    obtain ⟨blks, hblks⟩ : ∃ blks, blks = seen.map fun i => rnB seen (updH (updH s.h p.2) us i) := ⟨_, rfl⟩
    obtain ⟨h2, hh2⟩ : ∃ h2, h2 = updH (updH s.h p.2) us := ⟨_, rfl⟩
    rw [← hblks] at hcall
    rw [← hh2] at hs2 g4 g5
    -- what comes back
    rw [show (decL seen d none 0 (resSh P An f n0 fn) xs fun vs u j => decOuts seen d j seen (outSh An f n0) (xs.drop (sizes (resSh P An f n0 fn))) fun q => K (resAV vs) (p.2 ++ us ++ deads seen ++ u ++ q)) =
      ((decL seen d none 0 (resSh P An f n0 fn) xs fun vs u j => some (vs, u, j)).bind fun q0 => (decOuts seen d q0.2.2 seen (outSh An f n0) (xs.drop (sizes (resSh P An f n0 fn))) some).bind fun q => K (resAV q0.1) (p.2 ++ us ++ deads seen ++ q0.2.1 ++ q)) from by
        rw [decL_nat]; congr 1; funext vs u j; simp only [Option.bind_some]; rw [decOuts_nat]; rfl] at hk
    replace hk := Option.bind_eq_some_iff.1 hk; obtain ⟨⟨avs, u0, j0⟩, hq0, hk⟩ := hk
    replace hk := Option.bind_eq_some_iff.1 hk; obtain ⟨qs, hqs, hk⟩ := hk
    dsimp only at hqs hk
    refine ⟨_, _, fn, body, hk, hfn, hbody, hname, fun hfree => ?_⟩
    refine hcall.mono ?_
    rintro e w' ⟨rs, x1, x2, o1, o2, rfl, kp, rfl, hnd, hown, hr, ho⟩
    refine ⟨_, rfl, ?_⟩
    rw [drop_at hr.length] at hqs
    rw [decL_more hr] at hq0
    obtain ⟨n1, n2, n3⟩ := List.nodup_append.1 hnd
    have inMO : ∀ b, c'.MO b → c.MO b := by
      rintro b (⟨i, _, hi⟩ | hb)
      · exact hs2.own i b hi
      · exact .inr (Nat.le_trans hs2.size hb)
    have keep : ∀ b, b < w.heap.size → (∀ i, Of seen i → O2 i ≠ some b) → w'.heap[b]? = w.heap[b]? := fun b hb hn => kp.blk b hb fun ho => by
      obtain ⟨k, hk, e⟩ := rn_owned ho
      exact hn k hk e
    have out : ∀ b ∈ o1 ++ o2, ∀ i, ¬ Of seen i → O2 i ≠ some b := by
      intro b hb i hi e
      rcases (hown b hb).1 with ⟨k, hk, hkb⟩ | hN
      · exact hi (hs2.inj k i b hkb e ▸ hk)
      · have := hs2.lt i b e
        exact absurd hN (Nat.not_le_of_lt this)
    let A1 : Nat → Prop := fun b => (c'.A0 b ∨ c'.MO b) ∧ b < w'.heap.size ∧ b ∉ o1 ++ o2
    classical
    let OD : Id → Option Nat := fun i => if Of seen i then none else O2 i
    have hreal : ∀ i ∈ seen, i.real = true := fun i hi => hs2.real (g4 i hi)
    have hofr : ∀ {i : Id}, i.real = true → Of seen i → i ∈ seen := by
      rintro i hr (hi | ⟨j, n, _, rfl⟩)
      · exact hi
      · cases hr
    have hofg : ∀ {i : Id} {n : Nat}, Of seen (.g i n) → i ∈ seen := by
      rintro i n (hi | ⟨j, m, hj, e⟩)
      · have := hreal _ hi; cases this
      · cases e; exact hj
    have hOD : ∀ i b, OD i = some b → ¬ Of seen i ∧ O2 i = some b := by
      intro i b h
      simp only [OD] at h
      split at h
      · cases h
      · rename_i hi; exact ⟨hi, h⟩
    have hA4 : ∀ b, AA c w O2 b → A1 b ∧ w'.heap[b]? = w.heap[b]? := by
      intro b hb
      refine ⟨⟨.inl hb, Nat.lt_of_lt_of_le hb.2.1 kp.size, fun hm => ?_⟩, keep b hb.2.1 fun i _ => hb.2.2 i⟩
      rcases (hown b hm).1 with ⟨k, _, hkb⟩ | hN
      · exact hb.2.2 k hkb
      · exact absurd hN (Nat.not_le_of_lt hb.2.1)
    have hsa : HSA c w' A1 (updH h2 (deads seen)) ρ2 OD := by
      refine ⟨fun i x hx => ?_, fun i hir hi => ?_, fun i n => ?_, fun i n hi => ?_, hs2.gone, fun i j b hi hj => ?_, fun i b hi => ?_, fun i b hi => ?_, Nat.le_trans hs2.size kp.size⟩
      · by_cases hm : i ∈ seen
        · rw [deads_get hm] at hx; cases hx
          obtain ⟨y, hy⟩ := Option.ne_none_iff_exists'.1 (g4 i hm)
          exact ⟨hs2.someRho hy, if_pos (.inl hm)⟩
        · rw [deads_other hm] at hx
          have hm' : ¬ Of seen i := fun e => hm (hofr (hs2.real (by rw [hx]; simp)) e)
          have hmg : ∀ n, ¬ Of seen (.g i n) := fun n e => hm (hofg e)
          refine RelB.mono (fun n => ⟨rfl, if_neg (hmg n), fun b hb => keep b (hs2.lt _ b hb) fun k hk e => hmg n (hs2.inj k _ b e hb ▸ hk)⟩) hA4 (fun _ _ h => h) (if_neg hm') (fun b hb => keep b (hs2.lt i b hb) fun k hk e => ?_) (hs2.blk i x hx)
          exact hm' (hs2.inj k i b e hb ▸ hk)
      · by_cases hm : i ∈ seen
        · rw [deads_get hm] at hi; cases hi
        · rw [deads_other hm] at hi
          obtain ⟨a1, a2⟩ := hs2.nodom i hir hi
          exact ⟨a1, by rw [show OD i = O2 i from if_neg fun e => hm (hofr hir e)]; exact a2⟩
      · rw [deads_other fun hm => by have := hreal _ hm; cases this]; exact hs2.nog i n
      · by_cases hm : i ∈ seen
        · rw [deads_get hm] at hi; cases hi
        · rw [deads_other hm] at hi
          obtain ⟨a1, a2⟩ := hs2.gdom i n hi
          exact ⟨a1, by rw [show OD (.g i n) = O2 (.g i n) from if_neg fun e => hm (hofg e)]; exact a2⟩
      · exact hs2.inj i j b (hOD i b hi).2 (hOD j b hj).2
      · exact Nat.lt_of_lt_of_le (hs2.lt i b (hOD i b hi).2) kp.size
      · exact hs2.own i b (hOD i b hi).2
    have hbr : Bears (inB0 blks.length (rnρ seen ρ2)) seen ρ2 := by
      intro k i v hk hB
      simp only [inB0] at hB
      split at hB
      · simpa [rnρ, hk] using hB
      · cases hB
    -- names of what is new
    have hnew : ∀ k, (∃ b, (Id.s d k, b) ∈ u0 ∨ (Id.s d k, b) ∈ qs) → s.h (.s d k) = none := by
      rintro k ⟨b, hb⟩
      have hm : (Id.s d k, b) ∈ p.2 ++ us ++ deads seen ++ u0 ++ qs := by
        rcases hb with hb | hb
        · exact List.mem_append_left _ (List.mem_append_right _ hb)
        · exact List.mem_append_right _ hb
      have := List.all_eq_true.1 hfree _ hm
      simpa using this
    have hnone : ∀ k, s.h (.s d k) = none → updH h2 (deads seen) (.s d k) = none := by
      intro k hk
      rw [deads_other fun hm => hns _ hm k rfl, hh2]
      refine prep_none (fun k' e => ?_) hus ?_
      · simp only [Id.s.injEq] at e; omega
      · rw [updH_other fun x hx ex => ?_]
        · exact hk
        · have h2 := hfz x hx
          rw [ex, hk] at h2
          rcases h2 with ⟨sz, b, l, _, h2⟩ | ⟨l, _, h2⟩ <;> simp at h2
    obtain ⟨avs', u0', j0', hq0', _, names0, tk0⟩ := decL_sound (c := c) (ids := seen) (.inl rfl) hr hq0
    simp only [Option.some.injEq, Prod.mk.injEq] at hq0'
    obtain ⟨rfl, rfl, rfl⟩ := hq0'
    obtain ⟨ρ3, O3, m3, hs4, v3, rng3⟩ := tk0 _ ρ2 OD hbr hsa n1 (fun b hb => ⟨(hown b (List.mem_append_left _ hb)).2, inMO b (hown b (List.mem_append_left _ hb)).1, fun i hi => out b (List.mem_append_left _ hb) i (hOD i b hi).1 (hOD i b hi).2⟩)
      (fun x hx => by
        obtain ⟨k, _, _, e⟩ := names0 x hx
        rw [e]; exact hnone k (hnew k ⟨x.2, .inl (by rw [← e]; exact hx)⟩))
    obtain ⟨qs', hqs', names1, tk1⟩ := decOuts_sound (c := c) ho hqs
    simp only [Option.some.injEq] at hqs'; subst hqs'
    have notin0 : ∀ x, (∀ k, x ≠ .s d k) → updH (updH h2 (deads seen)) u0' x = updH h2 (deads seen) x := fun x hx => updH_other fun y hy e => by
      obtain ⟨k, _, _, g⟩ := names0 y hy
      exact hx k (by rw [← e, g])
    obtain ⟨ρ4, O4, m4, hs5, rng4⟩ := tk1 _ ρ3 O3 (fun k i v e1 e2 => m3 i v (hbr k i v e1 e2)) (fun k i hk => by
        have hm := List.mem_of_getElem? hk
        refine ⟨by rw [notin0 i (hns i hm), deads_get hm], fun v hv => ?_⟩
        rw [Nat.zero_add] at hv
        exact m3 i v (hbr k i v hk hv)) hs4 n2 (fun b hb => ⟨(hown b (List.mem_append_right _ hb)).2, inMO b (hown b (List.mem_append_right _ hb)).1, fun i hi => by
        rcases (rng3 b).1 ⟨i, hi⟩ with ⟨k, hk⟩ | hk
        · exact out b (List.mem_append_right _ hb) k (hOD k b hk).1 (hOD k b hk).2
        · exact n3 b hk b hb rfl⟩) g1 (fun i hi k => hns i hi k) (fun x hx k e => by
        rw [updH_other (fun y hy ey => ?_), e]
        · exact hnone k (hnew k ⟨x.2, .inr (by rw [← e]; exact hx)⟩)
        · obtain ⟨k', _, g2, g⟩ := names0 y hy
          rcases names1 x hx with ⟨k'', g6, g7⟩ | g6
          · rw [g, g7] at ey
            simp only [Id.s.injEq] at ey
            omega
          · exact hns _ g6 k e)
    have rng : ∀ b, (∃ i, O4 i = some b) ↔ (∃ i, OD i = some b) ∨ b ∈ o1 ++ o2 := by
      intro b; rw [rng4 b, rng3 b, List.mem_append, or_assoc]
    have hAA : ∀ b, A1 b ↔ AA c w' O4 b := by
      intro b
      constructor
      · rintro ⟨a1, a2, a3⟩
        refine ⟨?_, a2, fun i hi => ?_⟩
        · rcases a1 with a1 | a1
          · exact a1.1
          · exact .inr (inMO b a1)
        · rcases (rng b).1 ⟨i, hi⟩ with ⟨k, hk⟩ | hk
          · obtain ⟨k1, k2⟩ := hOD k b hk
            rcases a1 with a1 | ⟨k', hk', e⟩ | a1
            · exact a1.2.2 k k2
            · exact k1 (hs2.inj k' k b e k2 ▸ hk')
            · exact absurd a1 (Nat.not_le_of_lt (hs2.lt k b k2))
          · exact a3 hk
      · rintro ⟨a1, a2, a3⟩
        refine ⟨?_, a2, fun hm => ?_⟩
        · by_cases hb : b < w.heap.size
          · by_cases hex : ∃ i, O2 i = some b
            · obtain ⟨i, hi⟩ := hex
              by_cases hm : Of seen i
              · exact .inr (.inl ⟨i, hm, hi⟩)
              · obtain ⟨k, hk⟩ := (rng b).2 (.inl ⟨i, by simp only [OD, if_neg hm]; exact hi⟩)
                exact (a3 k hk).elim
            · exact .inl ⟨a1, hb, fun i hi => hex ⟨i, hi⟩⟩
          · exact .inr (.inr (Nat.le_of_not_lt hb))
        · obtain ⟨k, hk⟩ := (rng b).2 (.inr hm)
          exact a3 k hk
    have le3 : Le w ρ2 O2 w' ρ4 O4 := by
      refine ⟨kp.os, kp.output, kp.tape, kp.size, fun i v hi => m4 i v (m3 i v hi), fun b hb hn => keep b hb fun i _ => hn i, fun i b hi => ?_⟩
      rcases (rng b).1 ⟨i, hi⟩ with ⟨k, hk⟩ | hk
      · exact .inl ⟨k, (hOD k b hk).2⟩
      · rcases (hown b hk).1 with ⟨k, _, hkb⟩ | hN
        · exact .inl ⟨k, hkb⟩
        · exact .inr hN
    refine ⟨ρ4, O4, le1.trans (le2.trans le3), ?_, resAV_sound (RelVs.mono (fun b hb => ⟨(hAA b).1 hb, rfl⟩) m4 _ _ v3)⟩
    have := hs5.toHS hAA
    rw [hh2] at this
    simp only [updH_append]
    exact this

end
end Go.Aev
