/-
  The walk: from a list of what is to be done on to the end of the call.
-/
import Derived.Test.YtldfekaodgfgmaaAevDraw
set_option linter.unusedSimpArgs false
set_option linter.unusedVariables false
namespace Go.Aev
open Go

section
variable {P : Program} {An : Ann} {Or : Orc} {w w' : World} {A A' : Nat → Prop} {c : Ctx} {ρ : Id → Option Value} {O : Id → Option Nat} {s s' : St} {h : Id → Option Blk}

/-- The call ends, and it returns. -/
def Ends (P : Program) (f : FuncId) (fn : Func) (todo : List Item) (a : Act) (w : World) (R : Value → World → Prop) : Prop :=
  ∀ (b : Frame), b.fn = f → b.kind = .normal → ∀ cs, ∃ a' w' v todo', Steps P (lone (b.at a todo) cs w) (lone { b.at a' todo' with mode := .returning } cs w') ∧
    a'.defers = [] ∧ (results fn a'.tmps).run P w' = .ok v w' ∧ R v w'

theorem Ends.mono {f : FuncId} {fn : Func} {todo : List Item} {a : Act} {R R' : Value → World → Prop} (h : Ends P f fn todo a w R) (hr : ∀ v w', R v w' → R' v w') : Ends P f fn todo a w R' :=
  fun b hb hk cs => let ⟨a', w', v, t, h1, h2, h3, h4⟩ := h b hb hk cs; ⟨a', w', v, t, h1, h2, h3, hr _ _ h4⟩
theorem Ends.step {f : FuncId} {fn : Func} {todo todo' : List Item} {a : Act} {R : Value → World → Prop} (hst : ∀ (b : Frame) cs, step P (lone (b.at a todo) cs w) = .next (lone (b.at a todo') cs w)) (h : Ends P f fn todo' a w R) : Ends P f fn todo a w R :=
  fun b hb hk cs => let ⟨a', w', v, t, h1, h2⟩ := h b hb hk cs; ⟨a', w', v, t, .head (hst b cs) h1, h2⟩
theorem Ends.region {f : FuncId} {fn : Func} {id : Nat} {ops : Array Oper} {draw : Bool} {k : List Item} {a : Act} {R : Value → World → Prop}
    (h : (Code.region id ops draw).wp P (fun e a' w' => e = .normal ∧ Ends P f fn k a' w' R) a w) : Ends P f fn (.code (.region id ops draw) :: k) a w R := by
  intro b hb hk cs
  obtain ⟨e, a₁, w₁, ⟨rfl, hq⟩, harr⟩ := h b k cs
  obtain ⟨a', w', v, t, h1, h2⟩ := hq b hb hk cs
  exact ⟨a', w', v, t, Steps.trans harr h1, h2⟩
theorem calls_of_ends {f : FuncId} {fn : Func} {body : Code} {args : Array Value} {R : Value → World → Prop} (hf : P.funcs[f]? = some fn) (hb : fn.body = some body)
    (h : Ends P f fn [.code body] { tmps := args ++ Array.replicate (fn.ntmps - args.size) undef, defers := [] } w R) : Calls P f args w fun e w' => ∃ v, e = .returned v ∧ R v w' := by
  intro cs
  let b : Frame := { (default : Frame) with fn := f, kind := .normal }
  have henter : Frame.enter P f args .normal = b.at { tmps := args ++ Array.replicate (fn.ntmps - args.size) undef, defers := [] } [.code body] := by
    simp [Frame.enter, Frame.at, hf, hb, b]
  obtain ⟨a', w', v, todo', hs, hd, hr, hR⟩ := h b rfl rfl cs
  rw [← henter] at hs
  exact ⟨.returned v, w', _, ⟨v, rfl, hR⟩, hs, rfl, rfl, hd, rfl, fn, hf, hr⟩

/-- What a call has come to, seen from some moment of it. -/
structure Fin (P : Program) (c : Ctx) (sh : List RSh) (xs : List T) (Own : Nat → Prop) (w : World) (v : Value) (w' : World) : Prop where
  os : w'.os = w.os
  output : w'.output = w.output
  tape : w'.tape = w.tape
  size : w.heap.size ≤ w'.heap.size
  blk : ∀ b, b < w.heap.size → ¬ Own b → w'.heap[b]? = w.heap[b]?
  res : ∃ rs own, v = resV rs ∧ own.Nodup ∧ (∀ b ∈ own, c.MO b ∧ b < w'.heap.size) ∧ RelRs w' (fun b => (c.A0 b ∨ c.MO b) ∧ b < w'.heap.size ∧ b ∉ own) sh xs rs own

def Owned (O : Id → Option Nat) (b : Nat) : Prop := ∃ i, O i = some b
theorem Fin.le {sh : List RSh} {xs : List T} {v : Value} {w'' : World} {ρ' : Id → Option Value} {O' : Id → Option Nat} (le : Le w ρ O w' ρ' O') (h : Fin P c sh xs (Owned O') w' v w'') : Fin P c sh xs (Owned O) w v w'' where
  os := h.os.trans le.os
  output := h.output.trans le.output
  tape := h.tape.trans le.tape
  size := Nat.le_trans le.size h.size
  blk b hb hn := by
    rw [h.blk b (Nat.lt_of_lt_of_le hb le.size) (fun ⟨i, hi⟩ => ?_), le.blk b hb (fun i hi => hn ⟨i, hi⟩)]
    rcases le.own i b hi with ⟨j, hj⟩ | hj
    · exact hn ⟨j, hj⟩
    · omega
  res := h.res
theorem Fin.own {sh : List RSh} {xs : List T} {v : Value} {w'' : World} {O' : Id → Option Nat} (he : ∀ b, Owned O' b → Owned O b) (h : Fin P c sh xs (Owned O') w v w'') : Fin P c sh xs (Owned O) w v w'' :=
  { h with blk := fun b hb hn => h.blk b hb fun ho => hn (he b ho) }

/-! ### The end -/
theorem mem_nodupB : ∀ {l : List Id}, nodupB l = true → l.Nodup
  | [], _ => List.nodup_nil
  | i :: r, h => by
    simp only [nodupB, Bool.and_eq_true, Bool.not_eq_true'] at h
    refine List.nodup_cons.2 ⟨fun hm => ?_, mem_nodupB h.2⟩
    have : r.contains i = true := by simpa using hm
    rw [this] at h; cases h.1

/-- The blocks of the ids. -/
def blocksOf (O : Id → Option Nat) (l : List Id) : List Nat := l.filterMap O
theorem blocksOf_nodup (hs : HS c w h ρ O) : ∀ {l : List Id}, l.Nodup → (blocksOf O l).Nodup
  | [], _ => List.nodup_nil
  | i :: l, hn => by
    obtain ⟨h1, h2⟩ := List.nodup_cons.1 hn
    have ih := blocksOf_nodup hs h2
    unfold blocksOf at *
    cases hi : O i with
    | none => rw [List.filterMap_cons_none hi]; exact ih
    | some b =>
      rw [List.filterMap_cons_some hi]
      refine List.nodup_cons.2 ⟨fun hm => ?_, ih⟩
      obtain ⟨j, hj, e⟩ := List.mem_filterMap.1 hm
      have := hs.inj i j b hi e
      exact h1 (this ▸ hj)

/-- What is handed back, over any ground on which it may stand. -/
def Handed (w : World) (c : Ctx) (O : Id → Option Nat) (b : List Id) (Q : (Nat → Prop) → Prop) : Prop :=
  ∀ A : Nat → Prop, (∀ k, AA c w O k → A k) → (∀ i blk, i ∈ b → O i = some blk → A blk) → Q A

theorem encR_sound {R : Type} {r : RSh} {v : AV} {u : Value} {K : T → List Id → List Id → Option R} {res : R} (hs : HS c w h ρ O) (hv : RelV w (AA c w O) ρ v u) (hq : encR h r v K = some res) :
    ∃ x a b, K x a b = some res ∧ Handed w c O b fun A => ∃ ob, RelR1 w A r x u ob ∧ ob.toList = blocksOf O a := by
  cases r with
  | f k =>
    simp only [encR] at hq
    replace hq := Option.bind_eq_some_iff.1 hq; obtain ⟨x, hx, hq⟩ := hq
    replace hq := gdK_some hq (.inl rfl); obtain ⟨y, hy, hq⟩ := hq
    rw [AV.t?_eq hx] at hv
    simp only [RelV] at hv
    exact ⟨_, _, _, hq, fun A hA hO => ⟨none, ⟨hy, hv.flat hy, rfl⟩, rfl⟩⟩
  | t k =>
    simp only [encR] at hq
    replace hq := Option.bind_eq_some_iff.1 hq; obtain ⟨x, hx, hq⟩ := hq
    refine ⟨_, _, _, hq, fun A hA hO => ⟨none, ⟨snapOne_sound hs hv hx hA (fun i blk hi ho => hO i blk ?_ ho), rfl⟩, rfl⟩⟩
    obtain ⟨p, hp, e⟩ := frz1_covers hs hx hi ho
    exact List.mem_map.2 ⟨p, hp, e⟩
  | own sz =>
    simp only [encR] at hq
    split at hq
    · rename_i i
      replace hq := Option.bind_eq_some_iff.1 hq; obtain ⟨p, hp, hq⟩ := hq
      simp only [ownRes] at hp
      split at hp
      · rename_i sz' b xs hi
        split at hp
        · rename_i hsz; subst hsz
          simp only [Option.some.injEq] at hp; subst hp
          refine ⟨_, _, _, hq, fun A hA hO => ?_⟩
          obtain ⟨v', g1, g2, _⟩ := hs.blk i _ hi
          simp only [RelV] at hv
          rw [g1] at hv; simp only [Option.some.injEq] at hv; subst hv
          refine ⟨O i, ⟨(b, xs), by simp [T.lst?], g2.mono (fun b hb => ⟨hA b hb, rfl⟩) (fun b hb => ⟨by simpa using hb, rfl⟩)⟩, ?_⟩
          cases hO' : O i <;> simp [blocksOf, hO']
        · simp at hp
      · simp at hp
    · rename_i b
      simp only [RelV, RelT] at hv
      refine ⟨_, _, _, hq, fun A hA hO => ⟨none, ⟨(b, []), by simp [T.lst?], ?_⟩, rfl⟩⟩
      rcases hv with ⟨rfl, rfl⟩ | ⟨rfl, blk, off, sp, rfl⟩
      · exact ⟨none, 0, rfl, by simp, by simp, trivial, .inl rfl⟩
      · exact ⟨some ⟨blk, off, sp⟩, 0, rfl, by simp, by simp, trivial, .inl rfl⟩
    · simp at hq
  | agg l => simp [encR] at hq

theorem encL1_sound {R : Type} (hs : HS c w h ρ O) : ∀ {rs : List RSh} {vs : List AV} {us : List Value} {K : List T → List Id → List Id → Option R} {res : R}, RelVs w (AA c w O) ρ vs us → encL1 h rs vs K = some res →
    ∃ xs a b, K xs a b = some res ∧ Handed w c O b fun A => RelRL w A rs xs us (blocksOf O a)
  | [], [], us, K, res, hv, hq => by
    simp only [RelVs] at hv; subst hv
    simp only [encL1] at hq
    exact ⟨_, _, _, hq, fun A _ _ => ⟨rfl, rfl, rfl⟩⟩
  | [], v :: vs, us, K, res, hv, hq => by simp [encL1] at hq
  | r :: rs, [], us, K, res, hv, hq => by simp [encL1] at hq
  | r :: rs, v :: vs, us, K, res, hv, hq => by
    simp only [RelVs] at hv; obtain ⟨u, us', rfl, h1, h2⟩ := hv
    simp only [encL1] at hq
    obtain ⟨x, a, b, hq, g1⟩ := encR_sound hs h1 hq
    obtain ⟨xs, a', b', hq, g2⟩ := encL1_sound hs h2 hq
    refine ⟨_, _, _, hq, fun A hA hO => ?_⟩
    obtain ⟨ob, k1, k2⟩ := g1 A hA (fun i blk hi ho => hO i blk (List.mem_append_left _ hi) ho)
    exact ⟨x, xs, u, us', ob, _, rfl, rfl, by simp [blocksOf, k2], k1, g2 A hA (fun i blk hi ho => hO i blk (List.mem_append_right _ hi) ho)⟩

theorem encL_sound {R : Type} (hs : HS c w h ρ O) : ∀ {rs : List RSh} {vs : List AV} {us : List Value} {K : List T → List Id → List Id → Option R} {res : R}, RelVs w (AA c w O) ρ vs us → encL h rs vs K = some res →
    ∃ xs a b, K xs a b = some res ∧ Handed w c O b fun A => RelRs w A rs xs us (blocksOf O a)
  | [], [], us, K, res, hv, hq => by
    simp only [RelVs] at hv; subst hv
    simp only [encL] at hq
    exact ⟨_, _, _, hq, fun A _ _ => ⟨rfl, rfl, rfl⟩⟩
  | [], v :: vs, us, K, res, hv, hq => by simp [encL] at hq
  | r :: rs, [], us, K, res, hv, hq => by cases r <;> simp [encL] at hq
  | r :: rs, v :: vs, us, K, res, hv, hq => by
    simp only [RelVs] at hv; obtain ⟨u, us', rfl, h1, h2⟩ := hv
    have simple : (encR h r v fun x a b => encL h rs vs fun xs a' b' => K (x :: xs) (a ++ a') (b ++ b')) = some res → (∀ l, r ≠ .agg l) →
        ∃ xs a b, K xs a b = some res ∧ Handed w c O b fun A => RelRs w A (r :: rs) xs (u :: us') (blocksOf O a) := by
      intro hq hr
      obtain ⟨x, a, b, hq, g1⟩ := encR_sound hs h1 hq
      obtain ⟨xs, a', b', hq, g2⟩ := encL_sound hs h2 hq
      refine ⟨_, _, _, hq, fun A hA hO => ?_⟩
      obtain ⟨ob, k1, k2⟩ := g1 A hA (fun i blk hi ho => hO i blk (List.mem_append_left _ hi) ho)
      have : ∃ x0 xs' v vs' ob' own', x :: xs = x0 :: xs' ∧ u :: us' = v :: vs' ∧ blocksOf O (a ++ a') = ob'.toList ++ own' ∧ RelR1 w A r x0 v ob' ∧ RelRs w A rs xs' vs' own' :=
        ⟨x, xs, u, us', ob, _, rfl, rfl, by simp [blocksOf, k2], k1, g2 A hA (fun i blk hi ho => hO i blk (List.mem_append_right _ hi) ho)⟩
      cases r with
      | agg l => exact (hr l rfl).elim
      | _ => exact this
    cases r with
    | f k => exact simple (by simpa [encL] using hq) (by simp)
    | t k => exact simple (by simpa [encL] using hq) (by simp)
    | own sz => exact simple (by simpa [encL] using hq) (by simp)
    | agg l =>
      cases v with
      | agg cs =>
        simp only [encL] at hq
        simp only [RelV] at h1
        obtain ⟨ws, rfl, k1, k2⟩ := h1
        obtain ⟨xs, a, b, hq, g1⟩ := encL1_sound hs k1 hq
        obtain ⟨ys, a', b', hq, g2⟩ := encL_sound hs h2 hq
        refine ⟨_, _, _, hq, fun A hA hO => ?_⟩
        exact ⟨xs, ys, ws, us', _, _, rfl, rfl, by simp [blocksOf], g1 A hA (fun i blk hi ho => hO i blk (List.mem_append_left _ hi) ho), g2 A hA (fun i blk hi ho => hO i blk (List.mem_append_right _ hi) ho)⟩
      | _ => simp [encL] at hq

def resOne (tmps : Array Value) : ResultVar → Sem Value
  | .tmp t => pure (tmps.getD t undef)
  | .cell b t => do loadVar t (← asAddr (tmps.getD b undef))
theorem results_eq (fn : Func) (tmps : Array Value) : results fn tmps = (do
    let vs ← fn.results.mapM (resOne tmps)
    pure (if h : vs.size = 1 then vs[0] else .tuple vs)) := rfl

theorem resVals_sound {R : Type} {a : Act} (hs : HS c w s.h ρ O) (ht : SS w (AA c w O) ρ s.t a.tmps) : ∀ {l : List ResultVar} {K : List AV → Option R} {r : R}, resVals P s l K = some r →
    ∃ vs us, K vs = some r ∧ RelVs w (AA c w O) ρ vs us ∧ (l.mapM (resOne a.tmps)).run P w = .ok us w
  | [], K, r, h => ⟨[], [], h, by simp [RelVs], by simp⟩
  | .tmp k :: l, K, r, h => by
    simp only [resVals] at h
    have hk := ht k
    split at h
    · rename_i v e
      rw [e] at hk
      obtain ⟨vs, us, h1, h2, h3⟩ := resVals_sound hs ht h
      refine ⟨v :: vs, _ :: us, h1, by simp only [RelVs]; exact ⟨_, us, rfl, hk, h2⟩, ?_⟩
      rw [List.mapM_cons]
      simp only [resOne, Sem.run_bind, Sem.run_pure, Result.andThen_ok, h3]
    · simp at h
  | .cell k t :: l, K, r, h => by
    simp only [resVals] at h
    have hk := ht k
    split at h
    · rename_i v e
      rw [e] at hk
      obtain ⟨av, y, h0, run, hv⟩ := loadAV_sound hs hk (.inl rfl) h
      obtain ⟨vs, us, h1, h2, h3⟩ := resVals_sound hs ht h0
      refine ⟨av :: vs, y :: us, h1, by simp only [RelVs]; exact ⟨y, us, rfl, hv, h2⟩, ?_⟩
      rw [List.mapM_cons]
      have : (do loadVar t (← asAddr (a.tmps.getD k undef)) : Sem Value).run P w = .ok y w := by
        rw [← run]
        generalize a.tmps.getD k undef = va at *
        unfold Instr.loadAt at *
        cases va with
        | pointer p =>
          cases p with
          | none => simp [Instr.sureAddr, runtimePanic] at run
          | some b => simp [Instr.sureAddr, asAddr]
        | _ => simp [Instr.sureAddr, runtimePanic] at run
      simp only [resOne, Sem.run_bind, Sem.run_pure, Result.andThen_ok] at this ⊢
      rw [this]
      simp only [Result.andThen_ok, h3]
    · simp at h

theorem finish_sound {f : FuncId} {fn : Func} {nt : Nat} {xs : List T} {a : Act} (sim : Sim c nt w s ρ O a) (h : finish P An f fn 0 s = some xs) :
    ∃ v, (results fn a.tmps).run P w = .ok v w ∧ Fin P c (resSh P An f fn) xs (Owned O) w v w := by
  unfold finish at h
  obtain ⟨vs, us, h, h1, h2⟩ := resVals_sound sim.hs sim.ss h
  split at h
  · replace h := encL_sound sim.hs h1 h
    obtain ⟨ys, ia, ib, h, hand⟩ := h
    split at h
    · rename_i hok
      simp only [Option.some.injEq] at h; subst h
      simp only [Bool.and_eq_true, List.all_eq_true, Bool.not_eq_true'] at hok
      have hnd := mem_nodupB hok.1
      refine ⟨resV us, ?_, rfl, rfl, rfl, Nat.le_refl _, fun _ _ _ => rfl, us, blocksOf O ia, rfl, blocksOf_nodup sim.hs hnd, fun b hb => ?_, ?_⟩
      · rw [results_eq, Array.mapM_eq_mapM_toList]
        simp only [Sem.run_bind, map_eq_pure_bind, Sem.run_pure]
        rw [h2]
        simp only [Result.andThen_ok]
        congr 1
        unfold resV
        split
        · rename_i hsz
          have hl : us.length = 1 := by simpa using hsz
          obtain ⟨u, rfl⟩ := List.length_eq_one_iff.1 hl
          rfl
        · rename_i hsz
          split
          · rename_i u
            simp at hsz
          · rfl
      · obtain ⟨i, hi, e⟩ := List.mem_filterMap.1 hb
        exact ⟨sim.hs.own i b e, sim.hs.lt i b e⟩
      · refine hand _ ?_ ?_
        · intro b hb
          refine ⟨hb.1, hb.2.1, fun hm => ?_⟩
          obtain ⟨i, hi, e⟩ := List.mem_filterMap.1 hm
          exact hb.2.2 i e
        · intro i blk hi ho
          refine ⟨.inr (sim.hs.own i blk ho), sim.hs.lt i blk ho, fun hm => ?_⟩
          obtain ⟨j, hj, e⟩ := List.mem_filterMap.1 hm
          have := sim.hs.inj i j blk ho e
          subst this
          have := hok.2 i hi
          simp at this
          exact this hj
    · simp at h
  · simp at h

/-! ### Names, anew -/
def idsB : Option Blk → List Id
  | some (.box cs) => idsL cs
  | _ => []
theorem reach_sound : ∀ {n : Nat} {todo seen0 seen : List Id}, reach h n todo seen0 = some seen → seen0.Nodup → (∀ i ∈ seen0, h i ≠ none) → (∀ i ∈ seen0, ∀ j ∈ idsB (h i), j ∈ seen0 ∨ j ∈ todo) →
    seen.Nodup ∧ (∀ i ∈ seen0, i ∈ seen) ∧ (∀ i ∈ todo, i ∈ seen) ∧ (∀ i ∈ seen, h i ≠ none) ∧ ∀ i ∈ seen, ∀ j ∈ idsB (h i), j ∈ seen
  | 0, todo, seen0, seen, e, _, _, _ => by simp [reach] at e
  | n + 1, [], seen0, seen, e, hn, hd, hc => by
    simp only [reach, Option.some.injEq] at e; subst e
    exact ⟨hn, fun _ h => h, by simp, hd, fun i hi j hj => by rcases hc i hi j hj with h | h; exact h; cases h⟩
  | n + 1, i :: todo, seen0, seen, e, hn, hd, hc => by
    simp only [reach] at e
    cases hin : seen0.contains i with
    | true =>
      rw [hin, cond_true] at e
      have hi : i ∈ seen0 := by simpa using hin
      obtain ⟨g1, g2, g3, g4, g5⟩ := reach_sound e hn hd (fun k hk j hj => by
        rcases hc k hk j hj with h | h
        · exact .inl h
        · rcases List.mem_cons.1 h with rfl | h
          · exact .inl hi
          · exact .inr h)
      refine ⟨g1, g2, fun k hk => ?_, g4, g5⟩
      rcases List.mem_cons.1 hk with rfl | hk
      · exact g2 _ hi
      · exact g3 k hk
    | false =>
      rw [hin, cond_false] at e
      have hni : i ∉ seen0 := by intro hm; have : seen0.contains i = true := by simpa using hm
                                 rw [this] at hin; cases hin
      have hn' : (seen0 ++ [i]).Nodup := List.nodup_append.2 ⟨hn, by simp, fun a ha b hb hab => by simp only [List.mem_singleton] at hb; exact hni (by rw [← hb, ← hab]; exact ha)⟩
      have go : ∀ more : List Id, h i ≠ none → idsB (h i) = more → reach h n (todo ++ more) (seen0 ++ [i]) = some seen → _ := fun more hne hm e =>
        reach_sound e hn' (fun k hk => by
          rcases List.mem_append.1 hk with hk | hk
          · exact hd k hk
          · simp only [List.mem_singleton] at hk; subst hk; exact hne) (fun k hk j hj => by
          rcases List.mem_append.1 hk with hk | hk
          · rcases hc k hk j hj with h | h
            · exact .inl (List.mem_append_left _ h)
            · rcases List.mem_cons.1 h with rfl | h
              · exact .inl (List.mem_append_right _ (List.mem_singleton.2 rfl))
              · exact .inr (List.mem_append_left _ h)
          · simp only [List.mem_singleton] at hk; subst hk
            rw [hm] at hj; exact .inr (List.mem_append_right _ hj))
      have fin : ∀ more : List Id, (seen.Nodup ∧ (∀ k ∈ seen0 ++ [i], k ∈ seen) ∧ (∀ k ∈ todo ++ more, k ∈ seen) ∧ (∀ k ∈ seen, h k ≠ none) ∧ ∀ k ∈ seen, ∀ j ∈ idsB (h k), j ∈ seen) →
          seen.Nodup ∧ (∀ i ∈ seen0, i ∈ seen) ∧ (∀ k ∈ i :: todo, k ∈ seen) ∧ (∀ i ∈ seen, h i ≠ none) ∧ ∀ i ∈ seen, ∀ j ∈ idsB (h i), j ∈ seen := by
        rintro more ⟨g1, g2, g3, g4, g5⟩
        refine ⟨g1, fun k hk => g2 k (List.mem_append_left _ hk), fun k hk => ?_, g4, g5⟩
        rcases List.mem_cons.1 hk with rfl | hk
        · exact g2 _ (List.mem_append_right _ (List.mem_singleton.2 rfl))
        · exact g3 k (List.mem_append_left _ hk)
      split at e
      · rename_i cs hi
        exact fin _ (go (idsL cs) (by rw [hi]; simp) (by rw [hi]; rfl) e)
      · rename_i b hb hi
        refine fin [] (go [] (by rw [hi]; simp) ?_ (by simpa using e))
        rw [hi]
        cases b with
        | box cs => exact (hb cs rfl).elim
        | _ => rfl
      · simp at e

def rnρ {α : Type} (m : List Id) (f : Id → Option α) : Id → Option α
  | .c j => (m[j]?).bind f
  | .s _ _ => none
theorem rnρ_idx {α : Type} {m : List Id} {f : Id → Option α} {i : Id} (hi : i ∈ m) : rnρ m f (.c (m.idxOf i)) = f i := by
  simp only [rnρ]
  have : m.idxOf i < m.length := List.idxOf_lt_length_iff.2 hi
  rw [List.getElem?_eq_getElem this]
  simp

mutual
theorem RelV.rn {m : List Id} (hA : ∀ b, A b → A' b) : ∀ (v : AV) (u : Value), (∀ i ∈ v.ids, i ∈ m) → RelV w A ρ v u → RelV w A' (rnρ m ρ) (v.rn m) u
  | .top, _, _, _ => by simp [AV.rn, RelV]
  | .t x, u, _, hv => by
    simp only [AV.rn, RelV] at hv ⊢
    exact RelT.mono (fun b hb => ⟨hA b hb, rfl⟩) x u hv
  | .tup vs, u, hi, hv => by
    simp only [AV.rn, RelV] at hv ⊢
    obtain ⟨ws, e, h1⟩ := hv
    exact ⟨ws, e, RelVs.rn hA vs ws (by simpa [AV.ids] using hi) h1⟩
  | .agg vs, u, hi, hv => by
    simp only [AV.rn, RelV] at hv ⊢
    obtain ⟨ws, e, h1, h2⟩ := hv
    exact ⟨ws, e, RelVs.rn hA vs ws (by simpa [AV.ids] using hi) h1, h2⟩
  | .ref i off, u, hi, hv => by
    simp only [AV.rn, RelV] at hv ⊢
    rw [rnρ_idx (hi i (by simp [AV.ids]))]; exact hv
  | .el i sz k off, u, hi, hv => by
    simp only [AV.rn, RelV] at hv ⊢
    rw [rnρ_idx (hi i (by simp [AV.ids]))]; exact hv
  | .own i, u, hi, hv => by
    simp only [AV.rn, RelV] at hv ⊢
    rw [rnρ_idx (hi i (by simp [AV.ids]))]; exact hv
  | .part i sz off n, u, hi, hv => by
    simp only [AV.rn, RelV] at hv ⊢
    rw [rnρ_idx (hi i (by simp [AV.ids]))]; exact hv
  | .fn f a b, u, hi, hv => by
    simp only [AV.rn, RelV] at hv ⊢
    obtain ⟨x', y', e, h1, h2⟩ := hv
    simp only [AV.ids, List.mem_append] at hi
    exact ⟨x', y', e, RelVs.rn hA a x' (fun i h => hi i (.inl h)) h1, RelVs.rn hA b y' (fun i h => hi i (.inr h)) h2⟩
theorem RelVs.rn {m : List Id} (hA : ∀ b, A b → A' b) : ∀ (vs : List AV) (us : List Value), (∀ i ∈ idsL vs, i ∈ m) → RelVs w A ρ vs us → RelVs w A' (rnρ m ρ) (rnL m vs) us
  | [], us, _, hv => by simpa [rnL, RelVs] using hv
  | v :: vs, us, hi, hv => by
    simp only [rnL, RelVs] at hv ⊢
    obtain ⟨u, r, e, h1, h2⟩ := hv
    simp only [idsL, List.mem_append] at hi
    exact ⟨u, r, e, RelV.rn hA v u (fun i h => hi i (.inl h)) h1, RelVs.rn hA vs r (fun i h => hi i (.inr h)) h2⟩
end

theorem HS.rn {seen : List Id} (hs : HS c w h ρ O) (hn : seen.Nodup) (hd : ∀ i ∈ seen, h i ≠ none) (hc : ∀ i ∈ seen, ∀ j ∈ idsB (h i), j ∈ seen) :
    HS c w (fromNode [] [] (seen.map fun i => rnB seen (h i))).h (rnρ seen ρ) (rnρ seen O) ∧ (∀ b, Owned (rnρ seen O) b → Owned O b) := by
  have hsub : ∀ b, Owned (rnρ seen O) b → Owned O b := by
    rintro b ⟨i, hi⟩
    cases i with
    | c j =>
      simp only [rnρ] at hi
      obtain ⟨k, _, hk⟩ := Option.bind_eq_some_iff.1 hi
      exact ⟨k, hk⟩
    | s d j => simp [rnρ] at hi
  have hA : ∀ b, AA c w O b → AA c w (rnρ seen O) b := fun b hb => ⟨hb.1, hb.2.1, fun i hi => by
    obtain ⟨k, hk⟩ := hsub b ⟨i, hi⟩
    exact hb.2.2 k hk⟩
  refine ⟨⟨fun i b hb => ?_, fun i hi => ?_, fun i j b hi hj => ?_, fun i b hi => ?_, fun i b hi => ?_, hs.size⟩, hsub⟩
  · cases i with
    | s d j => simp [fromNode] at hb
    | c j =>
      simp only [fromNode, List.getElem?_map, Option.map_eq_some_iff] at hb
      obtain ⟨i, hi, e⟩ := hb
      have hmem : i ∈ seen := List.mem_of_getElem? hi
      have hρ : rnρ seen ρ (.c j) = ρ i := by simp [rnρ, hi]
      have hO : rnρ seen O (.c j) = O i := by simp [rnρ, hi]
      cases hhi : h i with
      | none => exact (hd i hmem hhi).elim
      | some x =>
        have hx := hs.blk i x hhi
        have hcl := hc i hmem
        rw [hhi] at e hcl
        cases x with
        | box cs =>
          simp only [rnB] at e; subst e
          obtain ⟨bk, arr, t, e1, e2, e3, e4, e5⟩ := hx
          exact ⟨bk, arr, t, by rw [hρ]; exact e1, by rw [hO]; exact e2, e3, RelVs.rn hA cs _ (fun k hk => hcl k (by simpa [idsB] using hk)) e4, e5⟩
        | sl fz sz bb xs =>
          simp only [rnB] at e; subst e
          obtain ⟨v, e1, e2, e3⟩ := hx
          refine ⟨v, by rw [hρ]; exact e1, e2.mono (fun b hb => ⟨hA b hb, rfl⟩) (fun b hb => ⟨?_, rfl⟩), by rw [hO]; exact e3⟩
          cases fz
          · simp only [Bool.false_eq_true, if_false] at hb ⊢; rw [hO]; exact hb
          · simp only [if_true] at hb ⊢; exact hA b hb
        | dead =>
          simp only [rnB] at e; subst e
          obtain ⟨e1, e2⟩ := hx
          exact ⟨by rw [hρ]; exact e1, by rw [hO]; exact e2⟩
  · cases i with
    | s d j => exact ⟨rfl, rfl⟩
    | c j =>
      simp only [fromNode, List.getElem?_map, Option.map_eq_none_iff] at hi
      simp [rnρ, hi]
  · have key : ∀ i b, rnρ seen O i = some b → ∃ j k, i = .c j ∧ seen[j]? = some k ∧ O k = some b := by
      intro i b hi
      cases i with
      | s d j => simp [rnρ] at hi
      | c j =>
        simp only [rnρ] at hi
        obtain ⟨k, h1, h2⟩ := Option.bind_eq_some_iff.1 hi
        exact ⟨j, k, rfl, h1, h2⟩
    obtain ⟨j1, k1, rfl, a1, b1⟩ := key i b hi
    obtain ⟨j2, k2, rfl, a2, b2⟩ := key j b hj
    have := hs.inj k1 k2 b b1 b2
    subst this
    obtain ⟨l1, e1⟩ := List.getElem?_eq_some_iff.1 a1
    obtain ⟨l2, e2⟩ := List.getElem?_eq_some_iff.1 a2
    congr 1
    exact (List.getElem_inj hn).1 (e1.trans e2.symm)
  · obtain ⟨k, hk⟩ := hsub b ⟨i, hi⟩; exact hs.lt k b hk
  · obtain ⟨k, hk⟩ := hsub b ⟨i, hi⟩; exact hs.own k b hk

end
end Go.Aev
