/-
  The machine is sound; so is the limit.
-/
import Derived.Test.YtmpjdngpblfecaaAevWalk
set_option linter.unusedSimpArgs false
set_option linter.unusedVariables false
namespace Go.Aev
open Go

section
variable {P : Program} {An : Ann} {Or : Orc} {w w' : World} {A A' : Nat → Prop} {c : Ctx} {ρ : Id → Option Value} {O : Id → Option Nat} {s s' : St} {h : Id → Option Blk}

/-! ### Places -/
theorem normAV_sound {v : AV} {u : Value} (hs : HS c w h ρ O) (hv : RelV w (AA c w O) ρ v u) : RelV w (AA c w O) ρ (normAV h v) u := by
  cases v
  case own i =>
    simp only [normAV]
    split
    · rename_i sz b xs hi
      have hn : O i = none := by
        obtain ⟨_, _, _, h3⟩ := hs.blk i _ hi
        exact h3 rfl
      have := snapOne_sound (x := .lst sz b xs) (A' := AA c w O) hs hv (by simp [snapOne, hi]) (fun _ h => h) (fun j blk hj ho => by
        rcases hj with e | ⟨_, _, _, e⟩ | ⟨_, e⟩
        · cases e; rw [hn] at ho; cases ho
        · cases e
        · cases e)
      simpa [RelV] using this
    · exact hv
  case part i sz off n =>
    simp only [normAV]
    split
    · rename_i sz' b xs hi
      split
      · rename_i hsz
        have hn : O i = none := by
          obtain ⟨_, _, _, h3⟩ := hs.blk i _ hi
          exact h3 rfl
        have := snapOne_sound (x := .lst sz b ((xs.drop off).take n)) (A' := AA c w O) hs hv (by simp [snapOne, hi, hsz]) (fun _ h => h) (fun j blk hj ho => by
          rcases hj with e | ⟨_, _, _, e⟩ | ⟨_, e⟩
          · cases e
          · cases e; rw [hn] at ho; cases ho
          · cases e)
        simpa [RelV] using this
      · exact hv
    · exact hv
  case ref i off =>
    simp only [normAV]
    split
    · rename_i l hi
      obtain ⟨b, h1, h2, h3, h4⟩ := hs.blk i _ hi
      simp only [RelV] at hv
      obtain ⟨b', e1, rfl⟩ := hv
      rw [h1] at e1; simp only [Option.some.injEq, Value.pointer.injEq, Addr.mk.injEq] at e1
      obtain ⟨rfl, _⟩ := e1
      simp only [RelV, RelT]
      refine ⟨b, off, rfl, .inr h3, ?_⟩
      have := h4.drop off
      rwa [Nat.zero_add] at this
    · exact hv
  all_goals exact hv

theorem liveAV_sound {k : Nat × Option Nat} {p : AV × Upd} {tmps : Array Value} {ρ1 : Id → Option Value} (hs : HS c w s.h ρ O) (ht : SS w (AA c w O) ρ s.t tmps) (e : liveAV s k = some p) (hρ : ∀ i v, ρ i = some v → ρ1 i = some v)
    (h1 : ∀ q ∈ p.2, ρ1 q.1 = some (tmps.getD k.1 undef)) : RelV w (AA c w O) ρ1 p.1 (tmps.getD k.1 undef) := by
  unfold liveAV at e
  have hk := ht k.1
  split at e
  · simp at e
  · rename_i v hst
    rw [hst] at hk
    simp only at hk
    split at e
    · simp only [Option.some.injEq] at e; subst e
      exact RelV.mono (fun b hb => ⟨hb, rfl⟩) hρ _ _ (normAV_sound hs hk)
    · split at e
      · simp only [Option.some.injEq] at e; subst e
        exact RelV.mono (fun b hb => ⟨hb, rfl⟩) hρ _ _ (normAV_sound hs hk)
      split at e
      · split at e
        · simp only [Option.some.injEq] at e; subst e
          exact RelV.mono (fun b hb => ⟨hb, rfl⟩) hρ _ _ hk
        · simp at e
      · simp only [Option.some.injEq] at e; subst e
        simp only [RelV]
        exact h1 _ (List.mem_singleton.2 rfl)
      · simp at e
theorem liveAll_sound {tmps : Array Value} {ρ1 : Id → Option Value} (hs : HS c w s.h ρ O) (ht : SS w (AA c w O) ρ s.t tmps) (hρ : ∀ i v, ρ i = some v → ρ1 i = some v) : ∀ {l : List (Nat × Option Nat)} {p : List AV × Upd}, liveAll s l = some p →
    (∀ q ∈ p.2, ∀ k, q.1 = .s (1000000 + k) 0 → ρ1 q.1 = some (tmps.getD k undef)) → RelVs w (AA c w O) ρ1 p.1 (l.map fun k => tmps.getD k.1 undef) ∧
      ∀ q ∈ p.2, ∃ k sz b, q = (.s (1000000 + k) 0, .sl false sz b []) ∧ RelT w (AA c w O) (.emp b) (tmps.getD k undef)
  | [], p, e, _ => by
    simp only [liveAll, Option.some.injEq] at e; subst e
    exact ⟨by simp [RelVs], (by intro q hq; cases hq)⟩
  | k :: l, p, e, h1 => by
    simp only [liveAll] at e
    replace e := Option.bind_eq_some_iff.1 e; obtain ⟨x, hx, e⟩ := e
    replace e := Option.bind_eq_some_iff.1 e; obtain ⟨y, hy, e⟩ := e
    simp only [Option.some.injEq] at e; subst e
    have hx2 : ∀ q ∈ x.2, ∃ sz b, q = (.s (1000000 + k.1) 0, .sl false sz b []) ∧ RelT w (AA c w O) (.emp b) (tmps.getD k.1 undef) := by
      intro q hq
      have hk := ht k.1
      unfold liveAV at hx
      split at hx
      · simp at hx
      · rename_i v hst
        rw [hst] at hk
        simp only at hk
        split at hx
        · simp only [Option.some.injEq] at hx; subst hx; cases hq
        · split at hx
          · simp only [Option.some.injEq] at hx; subst hx; cases hq
          split at hx
          · split at hx
            · simp only [Option.some.injEq] at hx; subst hx; cases hq
            · simp at hx
          · simp only [Option.some.injEq] at hx; subst hx
            simp only [List.mem_singleton] at hq; subst hq
            exact ⟨_, _, rfl, by simpa [RelV] using hk⟩
          · simp at hx
    obtain ⟨g1, g2⟩ := liveAll_sound hs ht hρ hy (fun q hq => h1 q (List.mem_append_right _ hq))
    refine ⟨?_, fun q hq => ?_⟩
    · simp only [List.map_cons, RelVs]
      refine ⟨_, _, rfl, liveAV_sound hs ht hx hρ (fun q hq => ?_), g1⟩
      obtain ⟨sz, b, e, _⟩ := hx2 q hq
      exact h1 q (List.mem_append_left _ hq) k.1 (by rw [e])
    · rcases List.mem_append.1 hq with hq | hq
      · obtain ⟨sz, b, e, hr⟩ := hx2 q hq
        exact ⟨k.1, sz, b, e, hr⟩
      · exact g2 q hq

theorem updH_get : ∀ {us : Upd} {h : Id → Option Blk} {i : Id} {b : Blk}, updH h us i = some b → (i, b) ∈ us ∨ ((∀ q ∈ us, q.1 ≠ i) ∧ h i = some b)
  | [], h, i, b, e => .inr ⟨by simp, e⟩
  | (j, x) :: us, h, i, b, e => by
    rw [updH_cons] at e
    rcases updH_get e with e | ⟨e1, e2⟩
    · exact .inl (List.mem_cons_of_mem _ e)
    · by_cases hij : i = j
      · subst hij; rw [upd_same] at e2; simp only [Option.some.injEq] at e2; subst e2; exact .inl List.mem_cons_self
      · rw [upd_ne _ _ hij] at e2
        refine .inr ⟨fun q hq => ?_, e2⟩
        rcases List.mem_cons.1 hq with rfl | hq
        · exact fun e => hij e.symm
        · exact e1 q hq
theorem HS.addEmps {us : Upd} {ρ1 : Id → Option Value} (hr : ∀ q ∈ us, q.1.real = true) (hs : HS c w h ρ O) (hf : ∀ q ∈ us, h q.1 = none) (hus : ∀ q ∈ us, ∃ sz b u, q.2 = .sl false sz b [] ∧ ρ1 q.1 = some u ∧ RelT w A (.emp b) u)
    (hρ : ∀ i, (∀ q ∈ us, q.1 ≠ i) → ρ1 i = ρ i) : HS c w (updH h us) ρ1 O := by
  have mono : ∀ i v, ρ i = some v → ρ1 i = some v := by
    intro i v hi
    rw [hρ i (fun q hq e => ?_)]
    · exact hi
    · have := (hs.nodom _ (hr q hq) (hf q hq)).1
      rw [e, hi] at this; cases this
  have hng : ∀ i n, ∀ q ∈ us, q.1 ≠ .g i n := fun i n q hq e => by have := hr q hq; rw [e] at this; cases this
  have le : Le w ρ O w ρ1 O := ⟨rfl, rfl, rfl, Nat.le_refl _, mono, fun _ _ _ => rfl, fun i b h => .inl ⟨i, h⟩⟩
  refine hs.go le (fun i n => ⟨hρ _ (hng i n), rfl, fun _ _ => rfl⟩) (fun i b hb => ?_) (fun i hir hi => ?_) (fun i hi => (updH_none hi).2) (fun i n => by rw [updH_other (hng i n)]; exact hs.nog i n) hs.inj hs.lt
  · rcases updH_get hb with hm | ⟨_, hb⟩
    · right
      obtain ⟨sz, b', u, e1, e2, e3⟩ := hus _ hm
      simp only at e1 e2; subst e1
      refine ⟨u, e2, ?_, by simp⟩
      simp only [RelT] at e3
      rcases e3 with ⟨rfl, rfl⟩ | ⟨rfl, blk, off, sp, rfl⟩
      · exact ⟨none, 0, rfl, by simp, by simp, by simp, .inl rfl⟩
      · exact ⟨some ⟨blk, off, sp⟩, 0, rfl, by simp, by simp, trivial, .inl rfl⟩
    · exact .inl ⟨hb, rfl, fun _ _ => rfl⟩
  · obtain ⟨h1, h2⟩ := updH_none hi
    rw [hρ i h1]; exact hs.nodom i hir h2

theorem look_rel {ρ1 : Id → Option Value} {tmps : Array Value} : ∀ {live : List (Nat × Option Nat)} {vals : List AV}, RelVs w A ρ1 vals (live.map fun k => tmps.getD k.1 undef) → ∀ k, RelV w A ρ1 (fromNode.look live vals k) (tmps.getD k undef)
  | [], vals, hv, k => by cases vals <;> simp [fromNode.look, RelV]
  | (j, o) :: live, vals, hv, k => by
    cases vals with
    | nil => simp [RelVs] at hv
    | cons v vals =>
      simp only [List.map_cons, RelVs, List.cons.injEq] at hv
      obtain ⟨u, r, ⟨rfl, rfl⟩, h1, h2⟩ := hv
      simp only [fromNode.look]
      split
      · rename_i e; subst e; exact h1
      · exact look_rel h2 k

def nodeTodo : List Item → List Item
  | .inLoop b :: k => .code b :: .inLoop b :: k
  | t => t
def NSound (P : Program) (An : Ann) (Or : Orc) : Prop := ∀ f fn todo live m vals blks xs, Or (.node f todo live m) vals blks = some xs → P.funcs[f]? = some fn →
  ∀ c w ρ O a B, Still m.1 B ρ → Sim c fn.ntmps w (fromNode live vals blks) ρ O a → Ends P f fn (nodeTodo todo) a w (Fin P c B (resSh P An f m.2 fn) (outSh An f m.2) xs (Owned O) w)

theorem Sim.silent {nt : Nat} {a : Act} {h' : Id → Option Blk} {ρ' : Id → Option Value} {O' : Id → Option Nat} (sim : Sim c nt w s ρ O a) (le : Le w ρ O w ρ' O') (hs : HS c w h' ρ' O') : Sim c nt w { t := s.t, h := h' } ρ' O' a :=
  ⟨hs, SS.mono (fun b hb => le.A b hb) le.rho sim.ss, sim.nt, sim.defers⟩
theorem Still.le {m : Nat} {B : Nat → Option Value} {ρ' : Id → Option Value} (h : Still m B ρ) (le : ∀ i v, ρ i = some v → ρ' i = some v) : Still m B ρ' := fun j hj => by
  obtain ⟨v, e1, e2⟩ := h j hj
  exact ⟨v, e1, le _ _ e2⟩

theorem liveAll_names {s : St} : ∀ {live : List (Nat × Option Nat)} {p : List AV × Upd}, liveAll s live = some p → ∀ q ∈ p.2, ∃ k, q.1 = Id.s (1000000 + k) 0
  | [], p, hp, q, hq => by simp only [liveAll, Option.some.injEq] at hp; subst hp; cases hq
  | k :: live, p, hp, q, hq => by
    simp only [liveAll] at hp
    obtain ⟨p1, h1, hp⟩ := Option.bind_eq_some_iff.1 hp
    obtain ⟨p2, h2, hp⟩ := Option.bind_eq_some_iff.1 hp
    simp only [Option.some.injEq] at hp; subst hp
    rcases List.mem_append.1 hq with hq | hq
    · unfold liveAV at h1
      split at h1
      · cases h1
      · split at h1
        · simp only [Option.some.injEq] at h1; subst h1; cases hq
        · split at h1
          · simp only [Option.some.injEq] at h1; subst h1; cases hq
          · split at h1
            · split at h1
              · simp only [Option.some.injEq] at h1; subst h1; cases hq
              · cases h1
            · simp only [Option.some.injEq] at h1; subst h1
              rw [List.mem_singleton.1 hq]; exact ⟨_, rfl⟩
            · cases h1
    · exact liveAll_names h2 q hq
theorem toNode1_sound {f : FuncId} {fn : Func} {todo : List Item} {live : List (Nat × Option Nat)} {m : Nat × Nat} {B : Nat → Option Value} {xs : List T} {a : Act} (hN : NSound P An Or) (hfn : P.funcs[f]? = some fn) (hB : Still m.1 B ρ) (sim : Sim c fn.ntmps w s ρ O a) (e : toNode1 Or f todo live m s = some xs) :
    Ends P f fn (nodeTodo todo) a w (Fin P c B (resSh P An f m.2 fn) (outSh An f m.2) xs (Owned O) w) := by
  unfold toNode1 at e
  replace e := Option.bind_eq_some_iff.1 e; obtain ⟨p, hp, e⟩ := e
  split at e
  · rename_i hfresh
    replace e := Option.bind_eq_some_iff.1 e; obtain ⟨seen, hseen, e⟩ := e
    let ρ1 : Id → Option Value := fun i => if p.2.any (fun q => decide (q.1 = i)) then (match i with | .s d _ => some (a.tmps.getD (d - 1000000) undef) | _ => none) else ρ i
    have hf : ∀ q ∈ p.2, s.h q.1 = none := by
      intro q hq
      have := List.all_eq_true.1 hfresh q hq
      simpa using this
    have hnot : ∀ i, (∀ q ∈ p.2, q.1 ≠ i) → ρ1 i = ρ i := by
      intro i hi
      have : p.2.any (fun q => decide (q.1 = i)) = false := by
        rw [List.any_eq_false]
        intro q hq; simpa using hi q hq
      simp only [ρ1, this, Bool.false_eq_true, if_false]
    have hin : ∀ q ∈ p.2, ∀ k, q.1 = .s (1000000 + k) 0 → ρ1 q.1 = some (a.tmps.getD k undef) := by
      intro q hq k e
      have : p.2.any (fun x => decide (x.1 = q.1)) = true := List.any_eq_true.2 ⟨q, hq, by simp⟩
      simp only [ρ1, this, if_true]
      rw [e]
      simp
    have mono : ∀ i v, ρ i = some v → ρ1 i = some v := by
      intro i v hi
      rw [hnot i (fun q hq e => ?_)]
      · exact hi
      · cases hr : q.1.real with
        | true =>
          have := (sim.hs.nodom _ hr (hf q hq)).1
          rw [e, hi] at this; cases this
        | false =>
          have hm : p.2.any (fun x => decide (x.1 = q.1)) = true := List.any_eq_true.2 ⟨q, hq, by simp⟩
          obtain ⟨k, ek⟩ := liveAll_names hp q hq
          rw [ek] at hr; cases hr
    obtain ⟨hv, hus⟩ := liveAll_sound sim.hs sim.ss mono hp hin
    have hs1 : HS c w (updH s.h p.2) ρ1 O := sim.hs.addEmps (fun q hq => by obtain ⟨k, ek⟩ := liveAll_names hp q hq; rw [ek]; rfl) hf (A := AA c w O) (fun q hq => by
      obtain ⟨k, sz, b, e, hr⟩ := hus q hq
      exact ⟨sz, b, _, by rw [e], hin q hq k (by rw [e]), hr⟩) hnot
    obtain ⟨g1, g2, g3, g4, g5⟩ := reach_sound hseen List.nodup_nil (by simp) (by simp)
    obtain ⟨hs2, hown⟩ := hs1.rn g1 g4 g5
    have hA : ∀ b, AA c w O b → AA c w (rnρ seen O) b := fun b hb => ⟨hb.1, hb.2.1, fun i hi => by
      obtain ⟨k, hk⟩ := hown b ⟨i, hi⟩
      exact hb.2.2 k hk⟩
    have hv2 := RelVs.rn (m := seen) hA _ _ (fun i hi => g3 i (List.mem_append_right _ hi)) hv
    have sim2 : Sim c fn.ntmps w (fromNode live (rnL seen p.1) (seen.map fun i => rnB seen (updH s.h p.2 i))) (rnρ seen ρ1) (rnρ seen O) a :=
      ⟨hs2, fun k => look_rel hv2 k, sim.nt, sim.defers⟩
    have hpre := reach_first hseen (by
      exact List.pairwise_map.2 (List.nodup_range.imp fun h e => h (by simpa using e))) (by simp)
    rw [List.nil_append] at hpre
    have hB2 : Still m.1 B (rnρ seen ρ1) := by
      intro j hj
      obtain ⟨v, e1, e2⟩ := hB.le mono j hj
      refine ⟨v, e1, ?_⟩
      obtain ⟨t, ht⟩ := hpre
      have : seen[j]? = some (.c j) := by
        rw [← ht, List.getElem?_append_left (by simpa using hj)]
        simp [hj]
      simp [rnρ, this, e2]
    exact (hN f fn todo live m _ _ xs e hfn c w _ _ a B hB2 sim2).mono fun v w' hfin => hfin.own hown
  · simp at e

theorem frzLive_ok : ∀ {l : List (Nat × Option Nat)}, FrzOk s.h (frzLive s l)
  | [] => by intro p hp; cases hp
  | (k, none) :: l => by simp only [frzLive]; exact frzLive_ok
  | (k, some 0) :: l => by simp only [frzLive]; exact (frz1_ok _).append frzLive_ok
  | (k, some (n + 1)) :: l => by
    simp only [frzLive]
    refine FrzOk.append ?_ frzLive_ok
    cases Nat.beq n 999998 with
    | false => intro p hp; cases hp
    | true =>
      show FrzOk s.h (frzBox s.h (s.t k).2)
      unfold frzBox
      split
      · split
        · exact frzAll_ok _
        · intro p hp; cases hp
      · intro p hp; cases hp
theorem nrm1_sound {h : Id → Option Blk} (hs : HS c w h ρ O) (v : AV) : HS c w (nrm1 h v) ρ O := by
  unfold nrm1
  split
  · rename_i i off
    split
    · rename_i cs hi
      obtain ⟨b, arr, t, h1, h2, h3, h4, h5⟩ := hs.blk i _ hi
      have hri := hs.real (i := i) (by rw [hi]; simp)
      have hc : RelVs w (AA c w O) ρ (cs.map (normAV h)) arr.toList := by
        have gen : ∀ (l : List AV) (us : List Value), RelVs w (AA c w O) ρ l us → RelVs w (AA c w O) ρ (l.map (normAV h)) us := by
          intro l
          induction l with
          | nil => intro us h; exact h
          | cons x l ih =>
            intro us h
            simp only [List.map_cons, RelVs] at h ⊢
            obtain ⟨u, r, e, g1, g2⟩ := h
            exact ⟨u, r, e, normAV_sound hs g1, ih r g2⟩
        exact gen _ _ h4
      rw [updH_one]
      refine hs.go Le.refl (fun k m => ⟨rfl, rfl, fun _ _ => rfl⟩) (fun k x hk => ?_) (fun k hkr hk => ?_) (fun k hk => ?_) (fun k m => by rw [upd_ne _ _ (real_ne hri)]; exact hs.nog k m) hs.inj hs.lt
      · by_cases e : k = i
        · subst e
          rw [upd_same] at hk
          simp only [Option.some.injEq] at hk; subst hk
          exact .inr ⟨b, arr, t, h1, h2, h3, hc, h5⟩
        · rw [upd_ne _ _ e] at hk
          exact .inl ⟨hk, rfl, fun _ _ => rfl⟩
      · by_cases e : k = i
        · subst e; rw [upd_same] at hk; cases hk
        · rw [upd_ne _ _ e] at hk; exact hs.nodom k hkr hk
      · by_cases e : k = i
        · subst e; rw [upd_same] at hk; cases hk
        · rw [upd_ne _ _ e] at hk; exact hk
    · exact hs
  · exact hs
theorem nrmLive_sound {t : Nat → Option Gs × AV} : ∀ {l : List (Nat × Option Nat)} {h : Id → Option Blk}, HS c w h ρ O → HS c w (nrmLive t h l) ρ O
  | [], h, hs => hs
  | (k, some n) :: l, h, hs => by
    simp only [nrmLive]
    refine nrmLive_sound ?_
    cases Nat.beq n 999999 with
    | true => exact nrm1_sound hs _
    | false => exact hs
  | (k, none) :: l, h, hs => by
    simp only [nrmLive]
    exact nrmLive_sound hs
theorem toNode_sound {f : FuncId} {fn : Func} {todo : List Item} {live : List (Nat × Option Nat)} {m : Nat × Nat} {B : Nat → Option Value} {xs : List T} {a : Act} (hN : NSound P An Or) (hfn : P.funcs[f]? = some fn) (hB : Still m.1 B ρ) (sim : Sim c fn.ntmps w s ρ O a) (e : toNode Or f todo live m s = some xs) :
    Ends P f fn (nodeTodo todo) a w (Fin P c B (resSh P An f m.2 fn) (outSh An f m.2) xs (Owned O) w) := by
  unfold toNode at e
  obtain ⟨us, hus, e⟩ := Option.bind_eq_some_iff.1 e
  obtain ⟨O1, le1, hs1, _⟩ := sim.hs.freezes' frzLive_ok
  have sim1 := sim.silent le1 hs1
  obtain ⟨ρ2, O2, le2, hs2⟩ := prep_sound sim1.hs hus
  have sim2 := sim1.silent le2 (nrmLive_sound (t := s.t) (l := live) hs2)
  exact (toNode1_sound hN hfn (hB.le le2.rho) sim2 e).mono fun v w' hfin => Fin.le le1 (Fin.le le2 hfin)

theorem fromNode_bare (live : List (Nat × Option Nat)) (vals : List AV) (blks : List Blk) : Bare (fromNode live vals blks) := by
  intro k g v e; simp [fromNode] at e

theorem SlAt.toT {sz : Nat} {b : Bool} {xs : List (List T)} {v : Value} {Q : Nat → Prop} (h : SlAt w A sz b xs v Q) (hQ : ∀ d, Q d → A d) : RelT w A (.lst sz b xs) v := by
  obtain ⟨a, cap, rfl, h2, h3, _, h5⟩ := h
  simp only [RelT]
  cases a with
  | none =>
    rcases h5 with rfl | ⟨_, _, _, _, e, _⟩
    · have : xs = [] := List.length_eq_zero_iff.1 (by omega)
      subst this
      exact .inl ⟨h3.1 rfl, rfl, rfl⟩
    · cases e
  | some a =>
    have hb : b = false := by
      cases b with
      | false => rfl
      | true => have := h3.2 rfl; cases this
    obtain ⟨blk, off, sp⟩ := a
    right
    rcases h5 with rfl | ⟨blk', off', arr, t, e, g1, g2, g3, g4⟩
    · have : xs = [] := List.length_eq_zero_iff.1 (by omega)
      subst this
      exact ⟨hb, blk, off, sp, 0, rfl, h2, .inl rfl, by simp [RelEls]⟩
    · cases e
      exact ⟨hb, blk, off, none, cap, rfl, h2, .inr ⟨rfl, hQ _ g1⟩, g4⟩
theorem RelAt.of_get {blk : Nat} : ∀ {cs : List T} {off : Nat}, (∀ (j : Nat) (x : T), cs[j]? = some x → ∃ v, w.cell? ⟨blk, off + j, none⟩ = some v ∧ RelT w A x v) → RelAt w A blk off cs
  | [], _, _ => by simp [RelAt]
  | x :: cs, off, h => by
    simp only [RelAt]
    refine ⟨by simpa using h 0 x rfl, RelAt.of_get fun j y hj => ?_⟩
    have := h (j + 1) y (by simpa using hj)
    rw [show off + 1 + j = off + (j + 1) by omega]; exact this
theorem rows_els {i : Id} {blk sz col rsz : Nat} : ∀ {es : List Row} {base : Nat}, allOwn es = true → RowsAt w A ρ O i blk sz col rsz base es → (∀ e ∈ es, ∀ d, O (.g i e.n) = some d → A d) → RelEls w A blk sz base (es.map (rowT col rsz))
  | [], _, _, _, _ => by simp [RelEls]
  | e :: es, base, hao, hr, hd => by
    simp only [allOwn, List.all_cons, Bool.and_eq_true] at hao
    obtain ⟨hr1, hr2⟩ := hr
    simp only [List.map_cons, RelEls]
    obtain ⟨a1, a2, a3, u, a4, a5, a7⟩ := hr1
    have key : ∃ x, rowT col rsz e = e.cs.set col x ∧ RelT w A x u := by
      obtain ⟨en, ecs, eo⟩ := e
      cases eo with
      | none => simp at hao
      | some p =>
        refine ⟨_, rfl, ?_⟩
        exact SlAt.toT a7 fun d hq => hd _ List.mem_cons_self d hq
    obtain ⟨x, hx, hu⟩ := key
    rw [hx]
    refine ⟨by rw [List.length_set]; exact a1, RelAt.of_get fun j y hj => ?_, rows_els hao.2 hr2 fun f hf => hd f (List.mem_cons_of_mem _ hf)⟩
    rw [List.getElem?_set] at hj
    split at hj
    · rename_i e1; subst e1
      split at hj
      · cases hj; exact ⟨u, a4, hu⟩
      · cases hj
    · rename_i e1
      exact a3 j y (fun e => e1 e.symm) hj
theorem HS.shutRows {i : Id} {b : Bool} {sz col rsz nx : Nat} {es : List Row} (hs : HS c w h ρ O) (hi : h i = some (.rows b sz col rsz nx es)) (hao : allOwn es = true) :
    ∃ O', Le w ρ O w ρ O' ∧ HS c w (upd h i (some (.sl true sz b (es.map (rowT col rsz))))) ρ O' := by
  classical
  have hri := hs.real (i := i) (by rw [hi]; simp)
  let Q : Id → Option Nat := fun x => if Of [i] x then none else O x
  have Q1 : Q i = none := if_pos (.inl List.mem_cons_self)
  have Q2 : ∀ n, Q (.g i n) = none := fun n => if_pos (.inr ⟨i, n, List.mem_cons_self, rfl⟩)
  have Q3 : ∀ x d, Q x = some d → O x = some d ∧ ¬ Of [i] x := by
    intro x d hx
    simp only [Q] at hx
    split at hx
    · cases hx
    · rename_i hn; exact ⟨hx, hn⟩
  have Q4 : ∀ x, x.real = true → x ≠ i → Q x = O x := by
    intro x hr hx
    refine if_neg ?_
    rintro (hm | ⟨j, n, _, rfl⟩)
    · exact hx (List.mem_singleton.1 hm)
    · cases hr
  have Q5 : ∀ x n, x ≠ i → Q (.g x n) = O (.g x n) := by
    intro x n hx
    refine if_neg ?_
    rintro (hm | ⟨j, m, hj, e⟩)
    · rw [← List.mem_singleton.1 hm] at hri; cases hri
    · simp only [Id.g.injEq] at e
      exact hx (e.1.trans (List.mem_singleton.1 hj))
  have le : Le w ρ O w ρ Q := ⟨rfl, rfl, rfl, Nat.le_refl _, fun _ _ h => h, fun _ _ _ => rfl, fun x d hx => .inl ⟨x, (Q3 x d hx).1⟩⟩
  have hAi : ∀ x d, Of [i] x → O x = some d → AA c w Q d := by
    intro x d hx hd
    refine ⟨.inr (hs.own x d hd), hs.lt x d hd, fun y hy => ?_⟩
    obtain ⟨k1, k2⟩ := Q3 y d hy
    exact k2 (hs.inj x y d hd k1 ▸ hx)
  refine ⟨Q, le, hs.goG le (fun x y hx => ?_) (fun x hr hx => ?_) (fun x n => by rw [upd_ne _ _ (real_ne hri)]; exact hs.nog x n) (fun x n hx => ?_) hs.gone (fun x y d hx hy => hs.inj x y d (Q3 x d hx).1 (Q3 y d hy).1) (fun x d hx => hs.lt x d (Q3 x d hx).1)⟩
  · by_cases e : x = i
    · subst e; rw [upd_same] at hx; cases hx
      right
      obtain ⟨a, cap, r1, r2, r3, r4, r5⟩ := hs.blk x _ hi
      refine ⟨_, r1, ⟨a, cap, by rw [List.length_map], by rw [List.length_map]; exact r2, r3, trivial, ?_⟩, fun _ => Q1⟩
      rcases r5 with r5 | ⟨blk, off, arr, t, q1, q2, q3, q4, q5⟩
      · exact .inl r5
      · refine .inr ⟨blk, off, arr, t, q1, by simp only [if_true]; exact hAi x blk (.inl List.mem_cons_self) q2, q3, q4, ?_⟩
        refine rows_els (ρ := ρ) (O := O) (i := x) hao (RowsAt.move (fun b hb => le.A b hb) (fun _ _ => rfl) (fun f _ => ⟨rfl, rfl, fun _ _ => rfl⟩) q5) fun f hf d hd => hAi _ d (.inr ⟨x, f.n, List.mem_cons_self, rfl⟩) hd
    · rw [upd_ne _ _ e] at hx
      have hrx := hs.real (i := x) (by rw [hx]; simp)
      exact .inl ⟨hx, Q4 x hrx e, fun _ _ => rfl, fun n => ⟨rfl, Q5 x n e, fun _ _ => rfl⟩⟩
  · have hne : x ≠ i := fun e => by rw [e, upd_same] at hx; cases hx
    rw [upd_ne _ _ hne] at hx
    rw [Q4 x hr hne]; exact hs.nodom x hr hx
  · have hne : x ≠ i := fun e => by rw [e, upd_same] at hx; cases hx
    rw [upd_ne _ _ hne] at hx
    rw [Q5 x n hne]; exact hs.gdom x n hx
theorem shutG_sound {R : Type} : ∀ {l : List Id} {h : Id → Option Blk} {O : Id → Option Nat} {K : Upd → Option R} {r : R}, HS c w h ρ O → shutG h l K = some r → ∃ us O', K us = some r ∧ Le w ρ O w ρ O' ∧ HS c w (updH h us) ρ O'
  | [], h, O, K, r, hs, e => ⟨[], O, e, Le.refl, hs⟩
  | i :: l, h, O, K, r, hs, e => by
    simp only [shutG] at e
    split at e
    · rename_i b sz col rsz nx es hi
      replace e := gdK_some e (.inl rfl); obtain ⟨_, hao, e⟩ := e
      have hao : allOwn es = true := by
        split at hao
        · assumption
        · cases hao
      obtain ⟨O1, le1, hs1⟩ := hs.shutRows hi hao
      obtain ⟨us, O2, e, le2, hs2⟩ := shutG_sound hs1 e
      exact ⟨_, O2, e, le1.trans le2, by rw [updH_cons]; exact hs2⟩
    · exact shutG_sound hs e
theorem finish_sound {f : FuncId} {fn : Func} {nt : Nat} {m : Nat × Nat} {B : Nat → Option Value} {xs : List T} {a : Act} (hB : Still m.1 B ρ) (sim : Sim c nt w s ρ O a) (h : finish P An f fn m s = some xs) :
    ∃ v, (results fn a.tmps).run P w = .ok v w ∧ Fin P c B (resSh P An f m.2 fn) (outSh An f m.2) xs (Owned O) w v w := by
  unfold finish at h
  cases hr : (resSh P An f m.2 fn).any isRowsSh with
  | true => rw [hr, cond_true] at h; exact finish0_sound hB sim h
  | false =>
    rw [hr, cond_false] at h
    obtain ⟨us, O1, h, le1, hs1⟩ := shutG_sound sim.hs h
    obtain ⟨v, h1, h2⟩ := finish0_sound hB (sim.silent le1 hs1) h
    exact ⟨v, h1, Fin.le le1 h2⟩

theorem ev_sound (hm : P.follows .mixedOrders = true) (hO : OSound P An Or) (hN : NSound P An Or) {f : FuncId} {fn : Func} {m : Nat × Nat} {B : Nat → Option Value} (hfn : P.funcs[f]? = some fn) : ∀ {n : Nat} {cut : Bool} {todo : List Item} {xs : List T} {w : World} {s : St} {ρ : Id → Option Value} {O : Id → Option Nat} {a : Act},
    Still m.1 B ρ → Sim c fn.ntmps w s ρ O a → Bare s → ev P An Or f fn m n cut todo s = some xs → Ends P f fn todo a w (Fin P c B (resSh P An f m.2 fn) (outSh An f m.2) xs (Owned O) w)
  | 0, cut, todo, xs, w, s, ρ, O, a, hB, sim, hb, e => by simp [ev] at e
  | n + 1, cut, [], xs, w, s, ρ, O, a, hB, sim, hb, e => by
    simp only [ev] at e
    obtain ⟨v, h1, h2⟩ := finish_sound hB sim e
    exact fun b hbf hk cs => ⟨a, w, v, [], .one step_end, sim.defers, h1, h2⟩
  | n + 1, cut, .code .skip :: k, xs, w, s, ρ, O, a, hB, sim, hb, e => by
    simp only [ev] at e
    exact Ends.step (fun b cs => step_skip) (ev_sound hm hO hN hfn hB sim hb e)
  | n + 1, cut, .code (.seq x y) :: k, xs, w, s, ρ, O, a, hB, sim, hb, e => by
    simp only [ev] at e
    exact Ends.step (fun b cs => step_seq) (ev_sound hm hO hN hfn hB sim hb e)
  | n + 1, cut, .code (.region id ops draw) :: k, xs, w, s, ρ, O, a, hB, sim, hb, e => by
    simp only [ev] at e
    split at e
    · rename_i live _
      exact toNode_sound (todo := .code (.region id ops draw) :: k) hN hfn hB sim e
    · obtain ⟨s', e, hreg⟩ := region_sound hm hO sim hb e
      refine Ends.region (hreg _ fun a' w' ρ' O' le sim' => ⟨rfl, ?_⟩)
      exact (ev_sound hm hO hN hfn (hB.le le.rho) sim' (clear_bare _) e).mono fun v w'' hfin => hfin.le le
  | n + 1, cut, .code (.cond x p q) :: k, xs, w, s, ρ, O, a, hB, sim, hb, e => by
    simp only [ev] at e
    replace e := Option.bind_eq_some_iff.1 e; obtain ⟨y, hy, e⟩ := e
    replace e := gdK_some e (.inl rfl); obtain ⟨t, ht, e⟩ := e
    have hx := SS.get (h := s.h) sim.ss (g := none) trivial x
    rw [show (⟨s.t, s.h⟩ : St) = s from rfl, AV.t?_eq hy, T.bool?_eq ht] at hx
    simp only [RelV, RelT] at hx
    refine Ends.step (todo' := .code (if t then p else q) :: k) (fun b cs => step_cond hx) ?_
    cases t with
    | true => exact ev_sound hm hO hN hfn hB sim hb e
    | false => exact ev_sound hm hO hN hfn hB sim hb e
  | n + 1, cut, .code (.block id b) :: k, xs, w, s, ρ, O, a, hB, sim, hb, e => by
    simp only [ev] at e
    exact Ends.step (fun b cs => step_block) (ev_sound hm hO hN hfn hB sim hb e)
  | n + 1, cut, .code (.loop b) :: k, xs, w, s, ρ, O, a, hB, sim, hb, e => by
    simp only [ev] at e
    split at e
    · exact Ends.step (fun b cs => step_loop) (toNode_sound (todo := .inLoop b :: k) hN hfn hB sim e)
    · simp at e
  | n + 1, cut, .code (.exit id) :: k, xs, w, s, ρ, O, a, hB, sim, hb, e => by
    simp only [ev] at e
    split at e
    · rename_i k' hk
      exact Ends.step (fun b cs => step_exit hk) (ev_sound hm hO hN hfn hB sim hb e)
    · simp at e
  | n + 1, cut, .code .ret :: k, xs, w, s, ρ, O, a, hB, sim, hb, e => by
    simp only [ev] at e
    obtain ⟨v, h1, h2⟩ := finish_sound hB sim e
    exact fun b hbf hk cs => ⟨a, w, v, _, .one step_ret, sim.defers, h1, h2⟩
  | n + 1, cut, .inBlock id :: k, xs, w, s, ρ, O, a, hB, sim, hb, e => by
    simp only [ev] at e
    exact Ends.step (fun b cs => step_inBlock) (ev_sound hm hO hN hfn hB sim hb e)
  | n + 1, cut, .inLoop b :: k, xs, w, s, ρ, O, a, hB, sim, hb, e => by
    simp only [ev] at e
    split at e
    · exact Ends.step (fun b cs => step_inLoop) (toNode_sound (todo := .inLoop b :: k) hN hfn hB sim e)
    · simp at e
  | n + 1, cut, .code (.label _) :: k, xs, w, s, ρ, O, a, hB, sim, hb, e => by simp [ev] at e
  | n + 1, cut, .code (.goto _) :: k, xs, w, s, ρ, O, a, hB, sim, hb, e => by simp [ev] at e

theorem look_call {ρ1 : Id → Option Value} {vals : List AV} {args : List Value} (hv : RelVs w A ρ1 vals args) (m k : Nat) : RelV w A ρ1 (vals.getD k .top) ((args.toArray ++ Array.replicate m undef).getD k undef) := by
  have e : (args.toArray ++ Array.replicate m undef).getD k undef = (args ++ List.replicate m undef).getD k undef := by
    rw [Array.getD_eq_getD_getElem?, List.getD_eq_getElem?_getD, ← Array.getElem?_toList]
    simp
  rw [e, List.getD_eq_getElem?_getD, List.getD_eq_getElem?_getD]
  cases hk : vals[k]? with
  | none => simp [RelV]
  | some v =>
    obtain ⟨u, hu, hr⟩ := hv.get hk
    have hlt : k < args.length := (List.getElem?_eq_some_iff.1 hu).1
    rw [List.getElem?_append_left hlt, hu]
    exact hr

theorem stepO_osound (hX : ESound P An) (hm : P.follows .mixedOrders = true) (hn : ∀ (f : FuncId) (fn : Func), P.funcs[f]? = some fn → fn.name ≠ "runtime.NumGoroutine") (hO : OSound P An Or) (hN : NSound P An Or) : OSound P An (stepO P An Or) := by
  intro f vals blks xs e
  simp only [stepO] at e
  split at e
  · rename_i r hr
    exact hX f vals blks xs (hr.trans e)
  split at e
  · rename_i fn hfn
    split at e
    · rename_i body hbody
      split at e
      · rename_i hlen
        refine ⟨fn, body, hfn, hbody, hn f fn hfn, fun c w ρ O args hN0 hs hrel => ?_⟩
        have hl := hrel.length
        have eh : (fromCall vals blks).h = blkH blks := by funext i; cases i <;> rfl
        have sim : Sim c fn.ntmps w (fromCall vals blks) ρ O { tmps := args.toArray ++ Array.replicate (fn.ntmps - args.toArray.size) undef, defers := [] } := by
          refine ⟨by rw [eh]; exact hs, fun k => look_call hrel _ k, ?_, rfl⟩
          simp only [Array.size_append, List.size_toArray, Array.size_replicate]; omega
        have hbare : Bare (fromCall vals blks) := by intro k g v e; simp [fromCall] at e
        have hB : Still (blks.length, disc blks.head?).1 (inB0 blks.length ρ) ρ := by
          intro j hj
          simp only at hj
          have hj' : blkH blks (.c j) = some blks[j] := by simp [blkH, hj]
          obtain ⟨v, hv, _⟩ := hs.someRho hj'
          exact ⟨v, by simp [inB0, hj, hv], hv⟩
        refine (calls_of_ends hfn hbody (ev_sound hm hO hN hfn hB sim hbare e)).mono fun e w' ⟨v, he, hfin⟩ => ?_
        obtain ⟨rs, x1, x2, o1, o2, hv, hx, hnd, hown, hr, ho⟩ := hfin.res
        exact ⟨rs, x1, x2, o1, o2, by rw [he, hv], ⟨hfin.os, hfin.output, hfin.tape, hfin.size, hfin.blk⟩, hx, hnd, hown, hr, ho⟩
      · simp at e
    · simp at e
  · simp at e

theorem stepO_nsound (hm : P.follows .mixedOrders = true) (hO : OSound P An Or) (hN : NSound P An Or) : NSound P An (stepO P An Or) := by
  intro f fn todo live m vals blks xs e hfn c w ρ O a B hB sim
  simp only [stepO, hfn] at e
  split at e
  · exact ev_sound hm hO hN hfn hB sim (fromNode_bare _ _ _) e
  · rename_i hne
    have : nodeTodo todo = todo := by
      unfold nodeTodo
      split
      · rename_i b k; exact (hne b k rfl).elim
      · rfl
    rw [this]
    exact ev_sound hm hO hN hfn hB sim (fromNode_bare _ _ _) e

theorem orcN_sound (hX : ESound P An) (hm : P.follows .mixedOrders = true) (hn : ∀ (f : FuncId) (fn : Func), P.funcs[f]? = some fn → fn.name ≠ "runtime.NumGoroutine") : ∀ n, OSound P An (orcN P An n) ∧ NSound P An (orcN P An n)
  | 0 => ⟨fun _ _ _ _ e => by simp [orcN] at e, fun _ _ _ _ _ _ _ _ e => by simp [orcN] at e⟩
  | n + 1 => by
    obtain ⟨h1, h2⟩ := orcN_sound hX hm hn n
    exact ⟨stepO_osound hX hm hn h1 h2, stepO_nsound hm h1 h2⟩

theorem orc_some {k : Key} {vs : List AV} {bs : List Blk} {r : List T} (e : orc P An k vs bs = some r) : ∃ n, orcN P An n k vs bs = some r := by
  unfold orc at e
  split at e
  · rename_i hex
    simp only [Option.some.injEq] at e
    exact ⟨_, by rw [← e]; exact Classical.choose_spec (Classical.choose_spec hex)⟩
  · simp at e
theorem orc_sound (hX : ESound P An) (hm : P.follows .mixedOrders = true) (hn : ∀ (f : FuncId) (fn : Func), P.funcs[f]? = some fn → fn.name ≠ "runtime.NumGoroutine") : OSound P An (orc P An) := by
  intro f vals blks xs e
  obtain ⟨n, e⟩ := orc_some e
  exact (orcN_sound hX hm hn n).1 f vals blks xs e

end
end Go.Aev
