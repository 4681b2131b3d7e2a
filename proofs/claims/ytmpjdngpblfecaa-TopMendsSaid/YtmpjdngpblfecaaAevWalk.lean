/-
  The walk: from a list of what is to be done on to the end of the call.
-/
import Derived.Test.YtmpjdngpblfecaaAevDraw
set_option linter.unusedSimpArgs false
set_option linter.unusedVariables false
namespace Go.Aev
open Go

section
variable {P : Program} {An : Ann} {Or : Orc} {w w' : World} {A A' : Nat → Prop} {c : Ctx} {ρ : Id → Option Value} {O : Id → Option Nat} {s s' : St} {h : Id → Option Blk}

/-- The call ends, and it returns. -/
def Ends (P : Program) (f : FuncId) (fn : Func) (todo : List Item) (a : Act) (w : World) (R : Value → World → Prop) : Prop :=
  ∀ (b : Frame), b.fn = f → b.kind = .normal → ∀ cs, ∃ a' w' v todo', Steps P (lone (b.at a todo) cs w) (lone { b.at a' todo' with mode := .returning } cs w') ∧
    a'.defers = [] ∧ (results fn a'.tmps).run P w' = .ok v w' ∧ R v w'

theorem Ends.mono {f : FuncId} {fn : Func} {todo : List Item} {a : Act} {R R' : Value → World → Prop} (h : Ends P f fn todo a w R) (hr : ∀ v w', R v w' → R' v w') : Ends P f fn todo a w R' :=
  fun b hb hk cs => let ⟨a', w', v, t, h1, h2, h3, h4⟩ := h b hb hk cs; ⟨a', w', v, t, h1, h2, h3, hr _ _ h4⟩
theorem Ends.step {f : FuncId} {fn : Func} {todo todo' : List Item} {a : Act} {R : Value → World → Prop} (hst : ∀ (b : Frame) cs, step P (lone (b.at a todo) cs w) = .next (lone (b.at a todo') cs w)) (h : Ends P f fn todo' a w R) : Ends P f fn todo a w R :=
  fun b hb hk cs => let ⟨a', w', v, t, h1, h2⟩ := h b hb hk cs; ⟨a', w', v, t, .head (hst b cs) h1, h2⟩
theorem Ends.region {f : FuncId} {fn : Func} {id : Nat} {ops : Array Oper} {draw : Bool} {k : List Item} {a : Act} {R : Value → World → Prop}
    (h : (Code.region id ops draw).wp P (fun e a' w' => e = .normal ∧ Ends P f fn k a' w' R) a w) : Ends P f fn (.code (.region id ops draw) :: k) a w R := by
  intro b hb hk cs
  obtain ⟨e, a₁, w₁, ⟨rfl, hq⟩, harr⟩ := h b k cs
  obtain ⟨a', w', v, t, h1, h2⟩ := hq b hb hk cs
  exact ⟨a', w', v, t, Steps.trans harr h1, h2⟩
theorem calls_of_ends {f : FuncId} {fn : Func} {body : Code} {args : Array Value} {R : Value → World → Prop} (hf : P.funcs[f]? = some fn) (hb : fn.body = some body)
    (h : Ends P f fn [.code body] { tmps := args ++ Array.replicate (fn.ntmps - args.size) undef, defers := [] } w R) : Calls P f args w fun e w' => ∃ v, e = .returned v ∧ R v w' := by
  intro cs
  let b : Frame := { (default : Frame) with fn := f, kind := .normal }
  have henter : Frame.enter P f args .normal = b.at { tmps := args ++ Array.replicate (fn.ntmps - args.size) undef, defers := [] } [.code body] := by
    simp [Frame.enter, Frame.at, hf, hb, b]
  obtain ⟨a', w', v, todo', hs, hd, hr, hR⟩ := h b rfl rfl cs
  rw [← henter] at hs
  exact ⟨.returned v, w', _, ⟨v, rfl, hR⟩, hs, rfl, rfl, hd, rfl, fn, hf, hr⟩

/-- What a call has come to, seen from some moment of it. B: the values of the blocks that were handed in. -/
structure Fin (P : Program) (c : Ctx) (B : Nat → Option Value) (sh : List RSh) (outs : List BSh) (xs : List T) (Own : Nat → Prop) (w : World) (v : Value) (w' : World) : Prop where
  os : w'.os = w.os
  output : w'.output = w.output
  tape : w'.tape = w.tape
  size : w.heap.size ≤ w'.heap.size
  blk : ∀ b, b < w.heap.size → ¬ Own b → w'.heap[b]? = w.heap[b]?
  res : ∃ rs x1 x2 o1 o2, v = resV rs ∧ xs = x1 ++ x2 ∧ (o1 ++ o2).Nodup ∧ (∀ b ∈ o1 ++ o2, c.MO b ∧ b < w'.heap.size) ∧ RelRs B w' (fun b => (c.A0 b ∨ c.MO b) ∧ b < w'.heap.size ∧ b ∉ o1 ++ o2) sh x1 rs o1 ∧
    RelOs B w' (fun b => (c.A0 b ∨ c.MO b) ∧ b < w'.heap.size ∧ b ∉ o1 ++ o2) 0 outs x2 o2

theorem Fin.le {B : Nat → Option Value} {sh : List RSh} {os : List BSh} {xs : List T} {v : Value} {w'' : World} {ρ' : Id → Option Value} {O' : Id → Option Nat} (le : Le w ρ O w' ρ' O') (h : Fin P c B sh os xs (Owned O') w' v w'') : Fin P c B sh os xs (Owned O) w v w'' where
  os := h.os.trans le.os
  output := h.output.trans le.output
  tape := h.tape.trans le.tape
  size := Nat.le_trans le.size h.size
  blk b hb hn := by
    rw [h.blk b (Nat.lt_of_lt_of_le hb le.size) (fun ⟨i, hi⟩ => ?_), le.blk b hb (fun i hi => hn ⟨i, hi⟩)]
    rcases le.own i b hi with ⟨j, hj⟩ | hj
    · exact hn ⟨j, hj⟩
    · omega
  res := h.res
theorem Fin.own {B : Nat → Option Value} {sh : List RSh} {os : List BSh} {xs : List T} {v : Value} {w'' : World} {O' : Id → Option Nat} (he : ∀ b, Owned O' b → Owned O b) (h : Fin P c B sh os xs (Owned O') w v w'') : Fin P c B sh os xs (Owned O) w v w'' :=
  { h with blk := fun b hb hn => h.blk b hb fun ho => hn (he b ho) }

/-! ### The end -/
theorem mem_nodupB : ∀ {l : List Id}, nodupB l = true → l.Nodup
  | [], _ => List.nodup_nil
  | i :: r, h => by
    simp only [nodupB, Bool.and_eq_true, Bool.not_eq_true'] at h
    refine List.nodup_cons.2 ⟨fun hm => ?_, mem_nodupB h.2⟩
    have : r.contains i = true := by simpa using hm
    rw [this] at h; cases h.1

/-- The blocks of the ids. -/
def blocksOf (O : Id → Option Nat) (l : List Id) : List Nat := l.filterMap O
theorem blocksOf_nodup (hs : HS c w h ρ O) : ∀ {l : List Id}, l.Nodup → (blocksOf O l).Nodup
  | [], _ => List.nodup_nil
  | i :: l, hn => by
    obtain ⟨h1, h2⟩ := List.nodup_cons.1 hn
    have ih := blocksOf_nodup hs h2
    unfold blocksOf at *
    cases hi : O i with
    | none => rw [List.filterMap_cons_none hi]; exact ih
    | some b =>
      rw [List.filterMap_cons_some hi]
      refine List.nodup_cons.2 ⟨fun hm => ?_, ih⟩
      obtain ⟨j, hj, e⟩ := List.mem_filterMap.1 hm
      have := hs.inj i j b hi e
      exact h1 (this ▸ hj)

theorem blocksOf_append (a b : List Id) : blocksOf O (a ++ b) = blocksOf O a ++ blocksOf O b := by simp [blocksOf]
/-- The blocks of the ids, with those of the rows that they have. -/
def Blks (O : Id → Option Nat) (l : List Id) (own : List Nat) : Prop := (∀ i ∈ l, i.real = true) ∧ ∃ ids, own = blocksOf O ids ∧ (l.Nodup → ids.Nodup) ∧ ∀ x ∈ ids, Of l x
theorem Blks.nil : Blks O [] [] := ⟨by simp, [], rfl, fun h => h, by simp⟩
theorem Blks.one {i : Id} (hr : i.real = true) : Blks O [i] (O i).toList := by
  refine ⟨by simpa using hr, [i], ?_, fun h => h, fun x hx => .inl hx⟩
  cases h : O i <;> simp [blocksOf, h]
theorem Blks.append {a b : List Id} {o1 o2 : List Nat} (h1 : Blks O a o1) (h2 : Blks O b o2) : Blks O (a ++ b) (o1 ++ o2) := by
  obtain ⟨r1, l1, rfl, n1, m1⟩ := h1
  obtain ⟨r2, l2, rfl, n2, m2⟩ := h2
  refine ⟨fun i hi => ?_, l1 ++ l2, (blocksOf_append _ _).symm, fun hn => ?_, fun x hx => ?_⟩
  · rcases List.mem_append.1 hi with hi | hi
    · exact r1 i hi
    · exact r2 i hi
  · obtain ⟨k1, k2, k3⟩ := List.nodup_append.1 hn
    refine List.nodup_append.2 ⟨n1 k1, n2 k2, fun x hx y hy e => ?_⟩
    subst e
    rcases m1 x hx with g1 | ⟨j, n, g1, e1⟩ <;> rcases m2 x hy with g2 | ⟨j', n', g2, e2⟩
    · exact k3 x g1 x g2 rfl
    · have := r1 x g1; rw [e2] at this; cases this
    · have := r2 x g2; rw [e1] at this; cases this
    · rw [e1] at e2
      simp only [Id.g.injEq] at e2
      exact k3 j g1 j' g2 e2.1
  · rcases List.mem_append.1 hx with hx | hx
    · rcases m1 x hx with g | ⟨j, n, g, e⟩
      · exact .inl (List.mem_append_left _ g)
      · exact .inr ⟨j, n, List.mem_append_left _ g, e⟩
    · rcases m2 x hx with g | ⟨j, n, g, e⟩
      · exact .inl (List.mem_append_right _ g)
      · exact .inr ⟨j, n, List.mem_append_right _ g, e⟩
theorem Blks.mem {l : List Id} {own : List Nat} (h : Blks O l own) {b : Nat} (hb : b ∈ own) : ∃ i, Of l i ∧ O i = some b := by
  obtain ⟨_, ids, rfl, _, m⟩ := h
  obtain ⟨i, hi, e⟩ := List.mem_filterMap.1 hb
  exact ⟨i, m i hi, e⟩

/-- Rows under new names. -/
def renum : Nat → List Row → List Row
  | _, [] => []
  | n, e :: r => { e with n := n } :: renum (n + 1) r
theorem renum_length : ∀ (es : List Row) (n : Nat), (renum n es).length = es.length
  | [], _ => rfl
  | e :: r, n => by simp [renum, renum_length r]
theorem renum_names : ∀ (es : List Row) (n : Nat), (renum n es).map (·.n) = List.range' n es.length
  | [], _ => rfl
  | e :: r, n => by simp [renum, renum_names r, List.range'_succ]
theorem decRows_enc : ∀ {es : List Row} {n : Nat}, allOwn es = true → decRows n (es.map fun e => [.ptr e.cs, rowV e]) = some (renum n es)
  | [], _, _ => rfl
  | e :: r, n, h => by
    simp only [allOwn, List.all_cons, Bool.and_eq_true] at h
    have ih := decRows_enc (es := r) (n := n + 1) h.2
    obtain ⟨en, ecs, eo⟩ := e
    cases eo with
    | none => simp at h
    | some p =>
      show ((decRows (n + 1) (r.map fun e => [.ptr e.cs, rowV e])).bind fun l => some (⟨n, ecs, some (p.1, p.2)⟩ :: l)) = _
      rw [ih]; rfl
theorem renum_at {A A' : Nat → Prop} {ρ0 : Id → Option Value} {O0 : Id → Option Nat} {i : Id} {blk sz col rsz : Nat} (hA : ∀ b, A b → A' b) : ∀ {es : List Row} {k base : Nat}, (∀ j e, es[j]? = some e → ρ0 (.g i (k + j)) = ρ (.g i e.n) ∧ O0 (.g i (k + j)) = O (.g i e.n)) →
    RowsAt w A ρ O i blk sz col rsz base es → RowsAt w A' ρ0 O0 i blk sz col rsz base (renum k es)
  | [], _, _, _, _ => trivial
  | e :: r, k, base, hg, h => by
    obtain ⟨h0, h1⟩ := h
    obtain ⟨g1, g2⟩ := hg 0 e rfl
    refine ⟨?_, renum_at hA (k := k + 1) (fun j f hj => by
      have := hg (j + 1) f (by simpa using hj)
      rw [show k + 1 + j = k + (j + 1) by omega]; exact this) h1⟩
    have h0 := h0.move (A' := A') (w' := w) (ρ' := ρ) (O' := O) (fun _ _ => rfl) (fun b hb => ⟨hA b hb, rfl⟩) rfl rfl (fun _ _ => rfl)
    obtain ⟨a1, a2, a3, u, a4, a5, a7⟩ := h0
    refine ⟨a1, a2, a3, u, a4, by rw [← a5]; exact g1, ?_⟩
    revert a7
    show (match e.own with | some p => SlAt w A' rsz p.1 p.2 u (fun b => O (.g i e.n) = some b) | none => O (.g i e.n) = none) → (match e.own with | some p => SlAt w A' rsz p.1 p.2 u (fun b => O0 (.g i k) = some b) | none => O0 (.g i k) = none)
    rw [show O0 (.g i k) = O (.g i e.n) from g2]
    exact id

/-- What is handed back, over any ground on which it may stand. -/
def Handed (w : World) (c : Ctx) (O : Id → Option Nat) (b : List Id) (Q : (Nat → Prop) → Prop) : Prop :=
  ∀ A : Nat → Prop, (∀ k, AA c w O k → A k) → (∀ i blk, i ∈ b → i.real = true → O i = some blk → A blk) → Q A

/-- The blocks that were handed in still bear their values. -/
def Still (m : Nat) (B : Nat → Option Value) (ρ : Id → Option Value) : Prop := ∀ j, j < m → ∃ v, B j = some v ∧ ρ (.c j) = some v
theorem encRw_sound {B : Nat → Option Value} {i : Id} {b : Bool} {sz col rsz nx : Nat} {es : List Row} {u : Value} {l : List Id} (hs : HS c w h ρ O) (hi : h i = some (.rows b sz col rsz nx es)) (hv : ρ i = some u) (hao : allOwn es = true) :
    Blks O [i] (blocksOf O (i :: es.map fun e => .g i e.n)) ∧ Handed w c O l fun A => RelR1 B w A (.rows sz col rsz) (encRw b es) u (blocksOf O (i :: es.map fun e => .g i e.n)) := by
  have hri := hs.real (i := i) (by rw [hi]; simp)
  obtain ⟨a, cap, r1, r2, r3, ⟨n1, n2, n3, n4⟩, r5⟩ := hs.blk i _ hi
  have hnd : (i :: es.map fun e => Id.g i e.n).Nodup := by
    refine List.nodup_cons.2 ⟨fun hm => ?_, ?_⟩
    · obtain ⟨e, _, he⟩ := List.mem_map.1 hm
      rw [← he] at hri; cases hri
    · have : (es.map fun e => Id.g i e.n) = (es.map (·.n)).map (Id.g i) := by rw [List.map_map]; rfl
      rw [this]
      exact List.pairwise_map.2 (n1.imp fun h e => h (by simpa using e))
  refine ⟨⟨by simpa using hri, _, rfl, fun _ => hnd, fun x hx => ?_⟩, fun A hA _ => ?_⟩
  · rcases List.mem_cons.1 hx with rfl | hx
    · exact .inl List.mem_cons_self
    · obtain ⟨e, _, rfl⟩ := List.mem_map.1 hx
      exact .inr ⟨i, e.n, List.mem_cons_self, rfl⟩
  · let V : Id → Option Value := fun x => match x with
      | .g y k => if y = i then (es[k]?).bind fun e => ρ (.g i e.n) else none
      | x => if x = i then ρ i else none
    let Q : Id → Option Nat := fun x => match x with
      | .g y k => if y = i then (es[k]?).bind fun e => O (.g i e.n) else none
      | x => if x = i then O i else none
    have V1 : V i = ρ i := by
      cases i with
      | g y n => cases hri
      | _ => simp only [V, if_true]
    have Q1 : Q i = O i := by
      cases i with
      | g y n => cases hri
      | _ => simp only [Q, if_true]
    have V2 : ∀ k, V (.g i k) = (es[k]?).bind fun e => ρ (.g i e.n) := fun k => by simp only [V, if_true]
    have Q2 : ∀ k, Q (.g i k) = (es[k]?).bind fun e => O (.g i e.n) := fun k => by simp only [Q, if_true]
    have dec : ∀ x d, Q x = some d → (x = i ∧ O i = some d) ∨ ∃ k e, x = .g i k ∧ es[k]? = some e ∧ O (.g i e.n) = some d := by
      intro x d hx
      cases x with
      | g y k =>
        simp only [Q] at hx
        split at hx
        · rename_i e; subst e
          obtain ⟨e, h1, h2⟩ := Option.bind_eq_some_iff.1 hx
          exact .inr ⟨k, e, rfl, h1, h2⟩
        · cases hx
      | s y k =>
        simp only [Q] at hx
        split at hx
        · rename_i e; exact .inl ⟨e, hx⟩
        · cases hx
      | c k =>
        simp only [Q] at hx
        split at hx
        · rename_i e; exact .inl ⟨e, hx⟩
        · cases hx
    refine ⟨b, renum 0 es, i, V, Q, ?_, ⟨a, cap, by rw [V1, renum_length]; exact r1, by rw [renum_length]; exact r2, r3, ⟨?_, fun f hf => ?_, fun k hk => ?_, fun k d hk => ?_⟩, ?_⟩, by rw [V1]; exact hv, hri, fun x y d hx hy => ?_, fun k v hk => ?_, fun x d hx => ?_, fun d => ?_⟩
    · simp only [encRw, decRw, decRows_enc hao, Option.bind_some]
    · rw [renum_names]; exact List.nodup_range'
    · have : f.n ∈ (renum 0 es).map (·.n) := List.mem_map.2 ⟨f, hf, rfl⟩
      rw [renum_names, List.mem_range'_1] at this
      rw [renum_length]; omega
    · rw [renum_length] at hk
      rw [V2, List.getElem?_eq_none hk]; rfl
    · rw [Q2] at hk
      obtain ⟨e, h1, _⟩ := Option.bind_eq_some_iff.1 hk
      have hlt := (List.getElem?_eq_some_iff.1 h1).1
      have : k ∈ (renum 0 es).map (·.n) := by rw [renum_names, List.mem_range'_1]; omega
      obtain ⟨f, hf, e2⟩ := List.mem_map.1 this
      exact ⟨f, hf, e2⟩
    · rcases r5 with r5 | ⟨blk, off, arr, t, q1, q2, q3, q4, q5⟩
      · exact .inl r5
      · refine .inr ⟨blk, off, arr, t, q1, by rw [Q1]; exact q2, q3, q4, renum_at hA (fun j e hj => ?_) q5⟩
        rw [Nat.zero_add, V2, Q2, hj]; exact ⟨rfl, rfl⟩
    · rcases dec x d hx with ⟨rfl, g1⟩ | ⟨k, e, rfl, g1, g2⟩ <;> rcases dec y d hy with ⟨rfl, k1⟩ | ⟨k', e', rfl, k1, k2⟩
      · rfl
      · have := hs.inj _ _ d g1 k2
        rw [this] at hri; cases hri
      · have := hs.inj _ _ d k1 g2
        rw [this] at hri; cases hri
      · have := hs.inj _ _ d g2 k2
        simp only [Id.g.injEq, true_and] at this
        rw [nodup_at n1 g1 k1 this]
    · rw [V2] at hk
      obtain ⟨e, _, h2⟩ := Option.bind_eq_some_iff.1 hk
      exact hs.gone i e.n v h2
    · rcases dec x d hx with ⟨rfl, _⟩ | ⟨k, _, rfl, _⟩
      · exact .inl rfl
      · exact .inr ⟨k, rfl⟩
    · simp only [blocksOf, List.mem_filterMap, List.mem_cons, List.mem_map]
      constructor
      · rintro ⟨x, rfl | ⟨e, he, rfl⟩, hx⟩
        · exact ⟨x, by rw [Q1]; exact hx⟩
        · obtain ⟨k, hk⟩ := List.getElem?_of_mem he
          exact ⟨.g i k, by rw [Q2, hk]; exact hx⟩
      · rintro ⟨x, hx⟩
        rcases dec x d hx with ⟨rfl, g1⟩ | ⟨k, e, rfl, g1, g2⟩
        · exact ⟨x, .inl rfl, g1⟩
        · exact ⟨.g i e.n, .inr ⟨e, List.mem_of_getElem? g1, rfl⟩, g2⟩
theorem encR_sound {R : Type} {m : Nat} {B : Nat → Option Value} {r : RSh} {v : AV} {u : Value} {K : T → List Id → List Id → Option R} {res : R} (hB : Still m B ρ) (hs : HS c w h ρ O) (hv : RelV w (AA c w O) ρ v u) (hq : encR m h r v K = some res) :
    ∃ x a b ob, K x a b = some res ∧ Blks O a ob ∧ Handed w c O b fun A => RelR1 B w A r x u ob := by
  cases r with
  | f k =>
    simp only [encR] at hq
    replace hq := Option.bind_eq_some_iff.1 hq; obtain ⟨x, hx, hq⟩ := hq
    replace hq := gdK_some hq (.inl rfl); obtain ⟨y, hy, hq⟩ := hq
    rw [AV.t?_eq hx] at hv
    simp only [RelV] at hv
    exact ⟨_, _, _, [], hq, .nil, fun A hA hO => ⟨hy, hv.flat hy, rfl⟩⟩
  | t k =>
    simp only [encR] at hq
    replace hq := Option.bind_eq_some_iff.1 hq; obtain ⟨x, hx, hq⟩ := hq
    refine ⟨_, _, _, [], hq, .nil, fun A hA hO => ⟨snapOne_sound hs hv hx hA (fun i blk hi ho => ?_), rfl⟩⟩
    obtain ⟨p, hp, e⟩ := frz1_covers hs hx hi ho
    refine hO i blk (List.mem_map.2 ⟨p, hp, e⟩) ?_ ho
    rw [← e]
    refine hs.real fun e0 => ?_
    have h2 := frz1_ok (h := h) v p hp
    rw [e0] at h2
    rcases h2 with ⟨sz, b, l, _, h2⟩ | ⟨l, _, h2⟩ <;> simp at h2
  | own sz =>
    simp only [encR] at hq
    split at hq
    · rename_i i
      replace hq := Option.bind_eq_some_iff.1 hq; obtain ⟨p, hp, hq⟩ := hq
      simp only [ownRes] at hp
      split at hp
      · rename_i sz' b xs hi
        split at hp
        · rename_i hsz; subst hsz
          simp only [Option.some.injEq] at hp; subst hp
          refine ⟨_, _, _, (O i).toList, hq, .one (hs.real (by rw [hi]; simp)), fun A hA hO => ?_⟩
          obtain ⟨v', g1, g2, _⟩ := hs.blk i _ hi
          simp only [RelV] at hv
          rw [g1] at hv; simp only [Option.some.injEq] at hv; subst hv
          exact ⟨O i, (b, xs), rfl, by simp [T.lst?], g2.mono (fun b hb => ⟨hA b hb, rfl⟩) (fun b hb => ⟨by simpa using hb, rfl⟩)⟩
        · simp at hp
      · simp at hp
    · rename_i i sz1 n
      split at hq
      · rename_i sz2 b xs hi
        split at hq
        · rename_i hcond
          obtain ⟨rfl, rfl⟩ := hcond
          refine ⟨_, _, _, (O i).toList, hq, .one (hs.real (by rw [hi]; simp)), fun A hA hO => ?_⟩
          obtain ⟨v', g1, ⟨a, cap, rfl, f2, f3, _, f4⟩, _⟩ := hs.blk i _ hi
          simp only [RelV] at hv
          obtain ⟨a1, L, cap1, a', e1, e2, e3, rfl, e4⟩ := hv
          rw [g1] at e1; simp only [Option.some.injEq, Value.slice.injEq] at e1
          obtain ⟨rfl, rfl, rfl⟩ := e1
          have hlen : (xs.take n).length = n := by rw [List.length_take]; omega
          have ha : a' = none ↔ a = none := by
            rcases e4 with ⟨_, rfl⟩ | ⟨_, h, _⟩ | ⟨_, _, rfl, rfl⟩
            · exact Iff.rfl
            · exact h
            · simp
          refine ⟨O i, (b, xs.take n), rfl, by simp [T.lst?], a', cap, by rw [hlen]; rfl, by rw [hlen]; omega, by rw [ha]; exact f3, trivial, ?_⟩
          · rcases f4 with f4 | ⟨blk, off, arr', t', q1, q2, q3, q4, q5⟩
            · exact .inl f4
            · by_cases hc0 : cap = 0
              · exact .inl hc0
              · right
                subst q1
                have : a' = some ⟨blk, off, none⟩ := by
                  rcases e4 with ⟨_, rfl⟩ | ⟨h, _⟩ | ⟨b', o, e5, rfl⟩
                  · rfl
                  · exact absurd h.symm hc0
                  · simp only [Option.some.injEq, Addr.mk.injEq] at e5
                    obtain ⟨rfl, rfl, _⟩ := e5
                    simp
                exact ⟨blk, off, arr', t', this, by simpa using q2, q3, q4, (RelEls.mono' (fun b hb => ⟨hA b hb, rfl⟩) blk _ rfl off xs q5).take n⟩
        · simp at hq
      · simp at hq
    · rename_i b
      simp only [RelV, RelT] at hv
      refine ⟨_, _, _, [], hq, .nil, fun A hA hO => ⟨none, (b, []), rfl, by simp [T.lst?], ?_⟩⟩
      rcases hv with ⟨rfl, rfl⟩ | ⟨rfl, blk, off, sp, rfl⟩
      · exact ⟨none, 0, rfl, by simp, by simp, trivial, .inl rfl⟩
      · exact ⟨some ⟨blk, off, sp⟩, 0, rfl, by simp, by simp, trivial, .inl rfl⟩
    · simp only [RelV, RelT] at hv
      refine ⟨_, _, _, [], hq, .nil, fun A hA hO => ⟨none, (true, []), rfl, by simp [T.lst?], ?_⟩⟩
      rcases hv with ⟨_, _, rfl⟩ | ⟨h, _⟩
      · exact ⟨none, 0, rfl, by simp, by simp, trivial, .inl rfl⟩
      · cases h
    · simp at hq
  | ref k off =>
    simp only [encR] at hq
    split at hq
    · rename_i k' off'
      split at hq
      · rename_i hcond
        obtain ⟨rfl, rfl, hlt⟩ := hcond
        refine ⟨_, _, _, [], hq, .nil, fun A hA hO => ⟨?_, rfl⟩⟩
        simp only [RelV] at hv
        obtain ⟨b, e1, rfl⟩ := hv
        obtain ⟨v, e2, e3⟩ := hB _ hlt
        rw [e1] at e3; simp only [Option.some.injEq] at e3; subst e3
        exact ⟨b, e2, rfl⟩
      · simp at hq
    · simp at hq
  | same k =>
    simp only [encR] at hq
    split at hq
    · rename_i k'
      split at hq
      · rename_i hcond
        obtain ⟨rfl, hlt⟩ := hcond
        refine ⟨_, _, _, [], hq, .nil, fun A hA hO => ⟨?_, rfl⟩⟩
        simp only [RelV] at hv
        obtain ⟨v, e2, e3⟩ := hB _ hlt
        rw [hv] at e3; simp only [Option.some.injEq] at e3; subst e3
        exact ⟨e2, rho_one hs hv⟩
      · simp at hq
    · simp at hq
  | no =>
    simp only [encR] at hq
    split at hq
    · refine ⟨_, _, _, [], hq, .nil, fun A hA hO => ⟨?_, rfl⟩⟩
      simp only [RelV] at hv
      obtain ⟨b, _, rfl⟩ := hv
      exact ⟨rfl, rfl⟩
    · simp at hq
  | rows sz col rsz =>
    simp only [encR] at hq
    split at hq
    · rename_i i
      split at hq
      · rename_i b sz' col' rsz' nx es hi
        split at hq
        · rename_i hcond
          obtain ⟨rfl, rfl, rfl⟩ := hcond
          replace hq := gdK_some hq (.inl rfl); obtain ⟨_, hao, hq⟩ := hq
          have hao : allOwn es = true := by
            split at hao
            · assumption
            · cases hao
          simp only [RelV] at hv
          exact ⟨_, _, _, _, hq, (encRw_sound (B := B) (l := []) hs hi hv hao).1, (encRw_sound hs hi hv hao).2⟩
        · simp at hq
      · simp at hq
    · simp at hq
  | mp ag ks vk =>
    simp only [encR] at hq
    split at hq
    · rename_i i
      split at hq
      · rename_i ag' ks' vk' es hi
        split at hq
        · rename_i hcond
          obtain ⟨rfl, rfl, rfl⟩ := hcond
          obtain ⟨b, ents, clock, g1, g2, g3, g4, g5⟩ := hs.blk i _ hi
          simp only [RelV] at hv
          rw [g1] at hv; simp only [Option.some.injEq] at hv; subst hv
          refine ⟨_, _, _, [b], hq, ?_, fun A hA hO => ⟨es, b, ents, clock, rfl, rfl, rfl, g3, g4, g5⟩⟩
          have := Blks.one (O := O) (hs.real (i := i) (by rw [hi]; simp))
          rw [g2] at this; exact this
        · simp at hq
      · simp at hq
    · simp at hq
  | agg l => simp [encR] at hq
  | new l => simp [encR] at hq

theorem encL1_sound {R : Type} {m : Nat} {B : Nat → Option Value} (hB : Still m B ρ) (hs : HS c w h ρ O) : ∀ {rs : List RSh} {vs : List AV} {us : List Value} {K : List T → List Id → List Id → Option R} {res : R}, RelVs w (AA c w O) ρ vs us → encL1 m h rs vs K = some res →
    ∃ xs a b own, K xs a b = some res ∧ Blks O a own ∧ Handed w c O b fun A => RelRL B w A rs xs us own
  | [], [], us, K, res, hv, hq => by
    simp only [RelVs] at hv; subst hv
    simp only [encL1] at hq
    exact ⟨_, _, _, [], hq, .nil, fun A _ _ => ⟨rfl, rfl, rfl⟩⟩
  | [], v :: vs, us, K, res, hv, hq => by simp [encL1] at hq
  | r :: rs, [], us, K, res, hv, hq => by simp [encL1] at hq
  | r :: rs, v :: vs, us, K, res, hv, hq => by
    simp only [RelVs] at hv; obtain ⟨u, us', rfl, h1, h2⟩ := hv
    simp only [encL1] at hq
    obtain ⟨x, a, b, ob, hq, b1, g1⟩ := encR_sound hB hs h1 hq
    obtain ⟨xs, a', b', own, hq, b2, g2⟩ := encL1_sound hB hs h2 hq
    refine ⟨_, _, _, _, hq, b1.append b2, fun A hA hO => ?_⟩
    have k1 := g1 A hA (fun i blk hi hr ho => hO i blk (List.mem_append_left _ hi) hr ho)
    exact ⟨x, xs, u, us', ob, own, rfl, rfl, rfl, k1, g2 A hA (fun i blk hi hr ho => hO i blk (List.mem_append_right _ hi) hr ho)⟩

theorem encL_sound {R : Type} {m : Nat} {B : Nat → Option Value} (hB : Still m B ρ) (hs : HS c w h ρ O) : ∀ {rs : List RSh} {vs : List AV} {us : List Value} {K : List T → List Id → List Id → Option R} {res : R}, RelVs w (AA c w O) ρ vs us → encL m h rs vs K = some res →
    ∃ xs a b own, K xs a b = some res ∧ Blks O a own ∧ Handed w c O b fun A => RelRs B w A rs xs us own
  | [], [], us, K, res, hv, hq => by
    simp only [RelVs] at hv; subst hv
    simp only [encL] at hq
    exact ⟨_, _, _, [], hq, .nil, fun A _ _ => ⟨rfl, rfl, rfl⟩⟩
  | [], v :: vs, us, K, res, hv, hq => by simp [encL] at hq
  | r :: rs, [], us, K, res, hv, hq => by cases r <;> simp [encL] at hq
  | r :: rs, v :: vs, us, K, res, hv, hq => by
    simp only [RelVs] at hv; obtain ⟨u, us', rfl, h1, h2⟩ := hv
    have simple : (encR m h r v fun x a b => encL m h rs vs fun xs a' b' => K (x :: xs) (a ++ a') (b ++ b')) = some res → (∀ l, r ≠ .agg l) → (∀ l, r ≠ .new l) →
        ∃ xs a b own, K xs a b = some res ∧ Blks O a own ∧ Handed w c O b fun A => RelRs B w A (r :: rs) xs (u :: us') own := by
      intro hq hr hr'
      obtain ⟨x, a, b, ob, hq, b1, g1⟩ := encR_sound hB hs h1 hq
      obtain ⟨xs, a', b', own, hq, b2, g2⟩ := encL_sound hB hs h2 hq
      refine ⟨_, _, _, _, hq, b1.append b2, fun A hA hO => ?_⟩
      have k1 := g1 A hA (fun i blk hi hr ho => hO i blk (List.mem_append_left _ hi) hr ho)
      have : ∃ x0 xs' v vs' ob' own', x :: xs = x0 :: xs' ∧ u :: us' = v :: vs' ∧ ob ++ own = ob' ++ own' ∧ RelR1 B w A r x0 v ob' ∧ RelRs B w A rs xs' vs' own' :=
        ⟨x, xs, u, us', ob, own, rfl, rfl, rfl, k1, g2 A hA (fun i blk hi hr ho => hO i blk (List.mem_append_right _ hi) hr ho)⟩
      cases r with
      | agg l => exact (hr l rfl).elim
      | new l => exact (hr' l rfl).elim
      | _ => exact this
    cases r with
    | f k => exact simple (by simpa [encL] using hq) (by simp) (by simp)
    | t k => exact simple (by simpa [encL] using hq) (by simp) (by simp)
    | own sz => exact simple (by simpa [encL] using hq) (by simp) (by simp)
    | rows sz col rsz => exact simple (by simpa [encL] using hq) (by simp) (by simp)
    | mp ag ks vk => exact simple (by simpa [encL] using hq) (by simp) (by simp)
    | new l =>
      simp only [encL] at hq
      split at hq
      · rename_i i
        split at hq
        · rename_i cs hi
          obtain ⟨b0, arr, ty, e1, e2, e3, e4, e5⟩ := hs.blk i _ hi
          simp only [RelV] at h1
          obtain ⟨b, k1, rfl⟩ := h1
          rw [e1] at k1; simp only [Option.some.injEq, Value.pointer.injEq, Addr.mk.injEq] at k1
          obtain ⟨rfl, _⟩ := k1
          obtain ⟨xs, a, b, o1, hq, b1, g1⟩ := encL1_sound hB hs e4 hq
          obtain ⟨ys, a', b', o2, hq, b2, g2⟩ := encL_sound hB hs h2 hq
          refine ⟨_, _, _, _, hq, (Blks.one (hs.real (i := i) (by rw [hi]; simp))).append (b1.append b2), fun A hA hO => ?_⟩
          exact ⟨xs, ys, b0, arr, ty, us', o1, o2, rfl, by simp, by simp [e2], e3, g1 A hA (fun i blk hi hr ho => hO i blk (List.mem_append_left _ hi) hr ho), g2 A hA (fun i blk hi hr ho => hO i blk (List.mem_append_right _ hi) hr ho)⟩
        · simp at hq
      · simp at hq
    | ref k off => exact simple (by simpa [encL] using hq) (by simp) (by simp)
    | same k => exact simple (by simpa [encL] using hq) (by simp) (by simp)
    | no => exact simple (by simpa [encL] using hq) (by simp) (by simp)
    | agg l =>
      cases v with
      | agg cs =>
        simp only [encL] at hq
        simp only [RelV] at h1
        obtain ⟨ws, rfl, k1, k2⟩ := h1
        obtain ⟨xs, a, b, o1, hq, b1, g1⟩ := encL1_sound hB hs k1 hq
        obtain ⟨ys, a', b', o2, hq, b2, g2⟩ := encL_sound hB hs h2 hq
        refine ⟨_, _, _, _, hq, b1.append b2, fun A hA hO => ?_⟩
        exact ⟨xs, ys, ws, us', o1, o2, rfl, rfl, rfl, g1 A hA (fun i blk hi hr ho => hO i blk (List.mem_append_left _ hi) hr ho), g2 A hA (fun i blk hi hr ho => hO i blk (List.mem_append_right _ hi) hr ho)⟩
      | _ => simp [encL] at hq

def resOne (tmps : Array Value) : ResultVar → Sem Value
  | .tmp t => pure (tmps.getD t undef)
  | .cell b t => do loadVar t (← asAddr (tmps.getD b undef))
theorem results_eq (fn : Func) (tmps : Array Value) : results fn tmps = (do
    let vs ← fn.results.mapM (resOne tmps)
    pure (if h : vs.size = 1 then vs[0] else .tuple vs)) := rfl

theorem resVals_sound {R : Type} {a : Act} (hs : HS c w s.h ρ O) (ht : SS w (AA c w O) ρ s.t a.tmps) : ∀ {l : List ResultVar} {K : List AV → Option R} {r : R}, resVals P s l K = some r →
    ∃ vs us, K vs = some r ∧ RelVs w (AA c w O) ρ vs us ∧ (l.mapM (resOne a.tmps)).run P w = .ok us w
  | [], K, r, h => ⟨[], [], h, by simp [RelVs], by simp⟩
  | .tmp k :: l, K, r, h => by
    simp only [resVals] at h
    have hk := ht k
    split at h
    · rename_i v e
      rw [e] at hk
      obtain ⟨vs, us, h1, h2, h3⟩ := resVals_sound hs ht h
      refine ⟨v :: vs, _ :: us, h1, by simp only [RelVs]; exact ⟨_, us, rfl, hk, h2⟩, ?_⟩
      rw [List.mapM_cons]
      simp only [resOne, Sem.run_bind, Sem.run_pure, Result.andThen_ok, h3]
    · simp at h
  | .cell k t :: l, K, r, h => by
    simp only [resVals] at h
    have hk := ht k
    split at h
    · rename_i v e
      rw [e] at hk
      obtain ⟨av, y, h0, run, hv⟩ := loadAV_sound hs hk (.inl rfl) h
      obtain ⟨vs, us, h1, h2, h3⟩ := resVals_sound hs ht h0
      refine ⟨av :: vs, y :: us, h1, by simp only [RelVs]; exact ⟨y, us, rfl, hv, h2⟩, ?_⟩
      rw [List.mapM_cons]
      have : (do loadVar t (← asAddr (a.tmps.getD k undef)) : Sem Value).run P w = .ok y w := by
        rw [← run]
        generalize a.tmps.getD k undef = va at *
        unfold Instr.loadAt at *
        cases va with
        | pointer p =>
          cases p with
          | none => simp [Instr.sureAddr, runtimePanic] at run
          | some b => simp [Instr.sureAddr, asAddr]
        | _ => simp [Instr.sureAddr, runtimePanic] at run
      simp only [resOne, Sem.run_bind, Sem.run_pure, Result.andThen_ok] at this ⊢
      rw [this]
      simp only [Result.andThen_ok, h3]
    · simp at h

theorem encOuts_sound {R : Type} {m : Nat} {B : Nat → Option Value} (hB : Still m B ρ) (hs : HS c w h ρ O) : ∀ {os : List BSh} {j : Nat} {K : List T → List Id → List Id → Option R} {res : R}, j + os.length ≤ m → encOuts m h j os K = some res →
    ∃ xs a b own, K xs a b = some res ∧ Blks O a own ∧ Handed w c O b fun A => RelOs B w A j os xs own
  | [], j, K, res, _, hq => by
    simp only [encOuts] at hq
    exact ⟨_, _, _, [], hq, .nil, fun A _ _ => ⟨rfl, rfl⟩⟩
  | .box l :: os, j, K, res, hm, hq => by
    simp only [List.length_cons] at hm
    simp only [encOuts] at hq
    split at hq
    · rename_i cs hi
      obtain ⟨b0, arr, t, h1, h2, h3, h4, h5⟩ := hs.blk _ _ hi
      obtain ⟨xs, a, b, o1, hq, c1, g1⟩ := encL1_sound hB hs h4 hq
      obtain ⟨ys, a', b', o2, hq, c2, g2⟩ := encOuts_sound hB hs (by omega) hq
      refine ⟨_, _, _, _, hq, (Blks.one (i := .c j) rfl).append (c1.append c2), fun A hA hO => ?_⟩
      obtain ⟨v, e1, e2⟩ := hB j (by omega)
      rw [h1] at e2; simp only [Option.some.injEq] at e2; subst e2
      exact ⟨xs, ys, b0, arr, t, o1, o2, rfl, by simp [h2], e1, h3, g1 A hA (fun i blk hi hr ho => hO i blk (List.mem_append_left _ hi) hr ho), g2 A hA (fun i blk hi hr ho => hO i blk (List.mem_append_right _ hi) hr ho)⟩
    · simp at hq
  | .sl sz :: os, j, K, res, hm, hq => by
    simp only [List.length_cons] at hm
    simp only [encOuts] at hq
    split at hq
    · rename_i sz' bb l hi
      split at hq
      · rename_i hsz; subst hsz
        obtain ⟨v, h1, h2, _⟩ := hs.blk _ _ hi
        obtain ⟨ys, a', b', o2, hq, c2, g2⟩ := encOuts_sound hB hs (by omega) hq
        refine ⟨_, _, _, _, hq, (Blks.one (i := .c j) rfl).append c2, fun A hA hO => ?_⟩
        obtain ⟨v', e1, e2⟩ := hB j (by omega)
        rw [h1] at e2; simp only [Option.some.injEq] at e2; subst e2
        exact ⟨bb, l, ys, O (.c j), _, o2, rfl, rfl, e1, h2.mono (fun b hb => ⟨hA b hb, rfl⟩) (fun b hb => ⟨by simpa using hb, rfl⟩), g2 A hA hO⟩
      · simp at hq
    · simp at hq
  | .mp ag ks vk :: os, j, K, res, hm, hq => by
    simp only [List.length_cons] at hm
    simp only [encOuts] at hq
    split at hq
    · rename_i ag' ks' vk' es hi
      split at hq
      · rename_i hcond
        obtain ⟨rfl, rfl, rfl⟩ := hcond
        obtain ⟨b0, ents, clock, h1, h2, h3, h4, h5⟩ := hs.blk _ _ hi
        obtain ⟨ys, a', b', o2, hq, c2, g2⟩ := encOuts_sound hB hs (by omega) hq
        refine ⟨_, _, _, _, hq, (Blks.one (i := .c j) rfl).append c2, fun A hA hO => ?_⟩
        obtain ⟨v', e1, e2⟩ := hB j (by omega)
        rw [h1] at e2; simp only [Option.some.injEq] at e2; subst e2
        exact ⟨es, b0, ents, clock, ys, o2, rfl, by simp [h2], e1, h3, h4, h5, g2 A hA hO⟩
      · simp at hq
    · simp at hq
  | .dead :: os, j, K, res, hm, hq => by
    simp only [List.length_cons] at hm
    simp only [encOuts] at hq
    obtain ⟨ys, a', b', o2, hq, c2, g2⟩ := encOuts_sound hB hs (by omega) hq
    exact ⟨_, _, _, o2, hq, c2, fun A hA hO => g2 A hA hO⟩

theorem finish0_sound {f : FuncId} {fn : Func} {nt : Nat} {m : Nat × Nat} {B : Nat → Option Value} {xs : List T} {a : Act} (hB : Still m.1 B ρ) (sim : Sim c nt w s ρ O a) (h : finish0 P An f fn m s = some xs) :
    ∃ v, (results fn a.tmps).run P w = .ok v w ∧ Fin P c B (resSh P An f m.2 fn) (outSh An f m.2) xs (Owned O) w v w := by
  unfold finish0 at h
  obtain ⟨vs, us, h, h1, h2⟩ := resVals_sound sim.hs sim.ss h
  split at h
  · rename_i hm
    obtain ⟨ys, ia, ib, o1, h, c1, hand⟩ := encL_sound hB sim.hs h1 h
    obtain ⟨zs, ia', ib', o2, h, c2, hand'⟩ := encOuts_sound hB sim.hs (by omega) h
    split at h
    · rename_i hok
      simp only [Option.some.injEq] at h; subst h
      simp only [Bool.and_eq_true, List.all_eq_true, Bool.not_eq_true'] at hok
      have hnd := mem_nodupB hok.1
      have hbl := c1.append c2
      have inOwn : ∀ b, b ∈ o1 ++ o2 → ∃ i, Of (ia ++ ia') i ∧ O i = some b := fun b hb => hbl.mem hb
      have hA : ∀ k, AA c w O k → (c.A0 k ∨ c.MO k) ∧ k < w.heap.size ∧ k ∉ o1 ++ o2 := by
        intro b hb
        refine ⟨hb.1, hb.2.1, fun hm => ?_⟩
        obtain ⟨i, hi, e⟩ := inOwn b hm
        exact hb.2.2 i e
      have hS : ∀ i blk, i ∈ ib ++ ib' → i.real = true → O i = some blk → (c.A0 blk ∨ c.MO blk) ∧ blk < w.heap.size ∧ blk ∉ o1 ++ o2 := by
        intro i blk hi hr ho
        refine ⟨.inr (sim.hs.own i blk ho), sim.hs.lt i blk ho, fun hm => ?_⟩
        obtain ⟨j, hj, e⟩ := inOwn blk hm
        have := sim.hs.inj i j blk ho e
        subst this
        have h1 := hok.2 i hi
        rcases hj with hj | ⟨y, n, _, e2⟩
        · have h2 : (ia ++ ia').contains i = true := by simpa using hj
          rw [h2] at h1; cases h1
        · rw [e2] at hr; cases hr
      have hnodup : (o1 ++ o2).Nodup := by
        obtain ⟨_, ids, e, n, _⟩ := hbl
        rw [e]; exact blocksOf_nodup sim.hs (n hnd)
      refine ⟨resV us, ?_, rfl, rfl, rfl, Nat.le_refl _, fun _ _ _ => rfl, us, ys, zs, o1, o2, rfl, rfl, hnodup, fun b hb => ?_, ?_, ?_⟩
      · rw [results_eq, Array.mapM_eq_mapM_toList]
        simp only [Sem.run_bind, map_eq_pure_bind, Sem.run_pure]
        rw [h2]
        simp only [Result.andThen_ok]
        congr 1
        unfold resV
        split
        · rename_i hsz
          have hl : us.length = 1 := by simpa using hsz
          obtain ⟨u, rfl⟩ := List.length_eq_one_iff.1 hl
          rfl
        · rename_i hsz
          split
          · rename_i u
            simp at hsz
          · rfl
      · obtain ⟨i, hi, e⟩ := inOwn b hb
        exact ⟨sim.hs.own i b e, sim.hs.lt i b e⟩
      · exact hand _ hA fun i blk hi hr ho => hS i blk (List.mem_append_left _ hi) hr ho
      · exact hand' _ hA fun i blk hi hr ho => hS i blk (List.mem_append_right _ hi) hr ho
    · simp at h
  · simp at h

end
end Go.Aev
