/-
  One operation: what the abstract one tells holds of the real one.
-/
import Derived.Test.YtmpjdngpblfecaaAevLend
import Derived.Test.YtmpjdngpblfecaaAevMap
set_option linter.unusedSimpArgs false
set_option linter.unusedVariables false
namespace Go.Aev
open Go

section
variable {P : Program} {An : Ann} {Or : Orc} {w w' : World} {A A' : Nat → Prop} {c : Ctx} {ρ : Id → Option Value} {O : Id → Option Nat} {s : St} {cc : Option Bool} {h : Id → Option Blk}

def Good (P : Program) (c : Ctx) (w : World) (s : St) (ρ : Id → Option Value) (O : Id → Option Nat) (o : Oper) (a : Act) (v : AV) (us : Upd) : Prop :=
  OpRes P o a w fun x w' => ∃ ρ' O', Le w ρ O w' ρ' O' ∧ HS c w' (updH s.h us) ρ' O' ∧ RelV w' (AA c w' O') ρ' v x

theorem Good.pure {o : Oper} {a : Act} {v : AV} {x : Value} (hs : HS c w s.h ρ O) (hrun : (execOp a.eval o).run P w = .ok (.value x) w) (hv : RelV w (AA c w O) ρ v x) : Good P c w s ρ O o a v [] := by
  unfold Good OpRes
  rw [hrun]
  exact ⟨ρ, O, Le.refl, hs, hv⟩
theorem Good.val {o : Oper} {a : Act} {v : AV} {us : Upd} {x : Value} {ρ' : Id → Option Value} {O' : Id → Option Nat} (hrun : (execOp a.eval o).run P w = .ok (.value x) w') (le : Le w ρ O w' ρ' O') (hs : HS c w' (updH s.h us) ρ' O') (hv : RelV w' (AA c w' O') ρ' v x) : Good P c w s ρ O o a v us := by
  unfold Good OpRes
  rw [hrun]
  exact ⟨ρ', O', le, hs, hv⟩

theorem evs_rel {a : Act} {g : Option Gs} (ht : SS w A ρ s.t a.tmps) (hr : Runs a.tmps g) : ∀ (xs : List Operand), RelVs w A ρ (xs.map (s.get g)) (xs.map a.eval)
  | [] => by simp [RelVs]
  | x :: xs => by
    simp only [List.map_cons, RelVs]
    exact ⟨_, _, rfl, SS.get (h := s.h) ht hr x, evs_rel ht hr xs⟩

theorem eqGuard_other {op : BinOp} (h : op ≠ .eql ∧ op ≠ .neq) {t : TypeId} {x y : Operand} {a b : Value} : (eqGuard op t x y a b).run P w = .ok () w := by
  cases op <;> simp_all [eqGuard]

set_option maxHeartbeats 2000000 in
theorem aop_sound (hO : OSound P An Or) {o : Oper} {a : Act} {g : Option Gs} {v : AV} {us : Upd} (hs : HS c w s.h ρ O) (ht : SS w (AA c w O) ρ s.t a.tmps) (hr : Runs a.tmps g) (hk : aopD P An Or g o s = some (v, us)) (hfree : freshAt (o.dst.getD 0) s.h us = true) :
    Good P c w s ρ O o a v us := by
  have hc := hr.cond
  have ev : ∀ x, RelV w (AA c w O) ρ (s.get g x) (a.eval x) := fun x => SS.get (h := s.h) ht hr x
  have tt : ∀ x y, (s.get g x).t? = some y → RelT w (AA c w O) y (a.eval x) := by
    intro x y e
    have := ev x
    rw [AV.t?_eq e] at this
    simpa [RelV] using this
  have fin : ∀ {v' : AV} {us' : Upd}, some (v', us') = some (v, us) → v' = v ∧ us' = us := by
    intro v' us' e; simpa using e
  unfold aopD aop at hk
  cases hop : o.op <;> rw [hop] at hk <;> dsimp only at hk
  case move x =>
    obtain ⟨rfl, rfl⟩ := fin hk
    exact Good.pure hs (by simp [execOp, hop]) (ev x)
  case assign x =>
    obtain ⟨rfl, rfl⟩ := fin hk
    exact Good.pure hs (by simp [execOp, hop]) (ev x)
  case pick k x y =>
    replace hk := Option.bind_eq_some_iff.1 hk; obtain ⟨k', hk', hk⟩ := hk
    have hkv := tt k k' hk'
    replace hk := gdK_some hk hc; obtain ⟨kb, hkb, hk⟩ := hk
    have := T.bool?_eq hkb; subst this
    simp only [RelT] at hkv
    replace hk := Option.bind_eq_some_iff.1 hk; obtain ⟨tx, htx, hk⟩ := hk
    replace hk := gdK_any hk; obtain ⟨xb, hk, hxb⟩ := hk
    replace hk := Option.bind_eq_some_iff.1 hk; obtain ⟨ty, hty, hk⟩ := hk
    replace hk := gdK_any hk; obtain ⟨yb, hk, hyb⟩ := hk
    obtain ⟨rfl, rfl⟩ := fin hk
    have hg : ∀ b, gAnd (g.map (·.c)) b = some b := by
      intro b; unfold gAnd
      rcases hc with e | e <;> rw [e] <;> rfl
    refine Good.pure (x := .bool (cond kb xb yb)) hs ?_ (by simp [RelV, RelT])
    simp only [execOp, hop, hkv]
    cases kb with
    | true =>
      have arm := SS.getArm (h := s.h) ht hr k x true hkv
      rw [AV.t?_eq htx] at arm
      rcases hxb with e | ⟨_, e⟩
      · have := T.bool?_eq e; subst this
        simp only [RelV, RelT] at arm
        simp [asBool, arm]
      · rw [hg] at e; cases e
    | false =>
      have arm := SS.getArm (h := s.h) ht hr k y false hkv
      rw [AV.t?_eq hty] at arm
      rcases hyb with e | ⟨_, e⟩
      · have := T.bool?_eq e; subst this
        simp only [RelV, RelT] at arm
        simp [asBool, arm]
      · rw [hg] at e; cases e
  case alloc t =>
    cases hcc : g.map (·.c) with
    | some b => simp [hcc] at hk
    | none =>
      simp only [hcc] at hk
      replace hk := Option.bind_eq_some_iff.1 hk; obtain ⟨l, hl, hk⟩ := hk
      obtain ⟨rfl, rfl⟩ := fin hk
      obtain ⟨i, z, hi, hz, hof⟩ := zeroC_some hl
      have hzr : RelTs w (AA c w O) l z.cells.toList := ofVals_rel hof
      obtain ⟨g1, g2⟩ := hs.newBox (i := .s (o.dst.getD 0) 0) (freshAt_mem hfree (List.mem_singleton.2 rfl)) t (RelVs.of_ts (ρ := ρ) hzr) hzr.one
      refine Good.val (x := .pointer (some ⟨w.heap.size, 0, none⟩)) (w' := w.alloc (.cells z.cells.toList.toArray t)) ?_ g1 (by rw [updH_one]; exact g2) (by simp [RelV])
      simp [execOp, hop, Instr.alloc, zeroValue, typeInfo, hi, hz, newVar, run_newRow]
  case box t x =>
    cases hcc : g.map (·.c) with
    | some b => simp [hcc] at hk
    | none =>
      simp only [hcc] at hk
      split at hk
      · rename_i hcell
        obtain ⟨rfl, rfl⟩ := fin hk
        obtain ⟨g1, g2⟩ := cellsAV_sound hs (ev x) hcell
        obtain ⟨k1, k2⟩ := hs.newBox (i := .s (o.dst.getD 0) 0) (freshAt_mem hfree (List.mem_singleton.2 rfl)) t g1 g2
        refine Good.val (x := .pointer (some ⟨w.heap.size, 0, none⟩)) (w' := w.alloc (.cells (a.eval x).cells.toList.toArray t)) ?_ k1 (by rw [updH_one]; exact k2) (by simp [RelV])
        simp [execOp, hop, Instr.box, newVar, run_newRow]
      · simp at hk
  case build t ps =>
    replace hk := Option.bind_eq_some_iff.1 hk; obtain ⟨v', hv', hk⟩ := hk
    obtain ⟨rfl, rfl⟩ := fin hk
    obtain ⟨x, h1, h2⟩ := buildAV_sound hs ht hr hv'
    exact Good.pure hs (by simp only [execOp, hop, Sem.run_bind, h1, Result.andThen_ok, Sem.run_pure]) h2
  case buildSlice t n ps =>
    replace hk := Option.bind_eq_some_iff.1 hk; obtain ⟨e, he, hk⟩ := hk
    obtain ⟨hu, hok⟩ := elemT_some he
    split at hk
    · split at hk
      · rename_i x hcc hps
        split at hk
        · rename_i hcond
          obtain ⟨⟨hl, hall⟩, hn2, hpos, hz⟩ := hcond
          obtain ⟨rfl, rfl⟩ := fin hk
          obtain ⟨g1, g2⟩ := cellsAV_sound hs (ev x) hall
          have hsz : (a.eval x).cells.size = P.cellsOf e := by rw [← hl, ← Array.length_toList]; exact g1.length
          have run := run_buildSlice (n := 1) (w := w) hu hok hz hpos ⟨by omega, hn2⟩ [a.eval x] (by simpa using hsz) (by simp) (ps.map fun (i, x) => (i, a.eval x)) (by simp [Array.toList_map, hps])
          have hi : s.h (.s (o.dst.getD 0) 0) = none := freshAt_mem hfree List.mem_cons_self
          obtain ⟨k1, k2⟩ := hs.newArr hi (cs := cellsAV _) (arr := ([a.eval x].flatMap fun v => v.cells.toList).toArray) e (by simpa using g1) (by simpa using g2)
          refine Good.val (x := .slice (some ⟨w.heap.size, 0, none⟩) 1 1) (by simp only [execOp, hop, Sem.run_bind, run, Result.andThen_ok, Sem.run_pure]) k1 (by rw [updH_one]; exact k2) ?_
          simp [RelV]
        · simp at hk
      · simp at hk
    split at hk
    · rename_i hcond
      obtain ⟨hn, hn1, hn2, hpos, hz⟩ := hcond
      split at hk
      · rename_i h0
        obtain ⟨h00, _⟩ := h0
        obtain ⟨rfl, rfl⟩ := fin hk
        have hps : ps.toList = [] := List.length_eq_zero_iff.1 (by rw [Array.length_toList]; omega)
        have run := run_buildSlice (w := w) hu hok hz hpos ⟨hn1, hn2⟩ [] (by simp) (by simp [h00]) (ps.map fun (i, x) => (i, a.eval x)) (by simp [Array.toList_map, hps])
        have exec : (execOp a.eval o).run P w = .ok (.value (.slice (some ⟨w.heap.size, 0, none⟩) n n)) (w.alloc (.cells (([] : List Value).flatMap fun v => v.cells.toList).toArray e)) := by
          simp only [execOp, hop, Sem.run_bind, run, Result.andThen_ok, Sem.run_pure]
        have lew : Le w ρ O (w.alloc (.cells (([] : List Value).flatMap fun v => v.cells.toList).toArray e)) ρ O := ⟨rfl, rfl, rfl, by simp, fun _ _ h => h, fun b hb _ => Go.RowKit.Below.heap_alloc _ _ _ hb, fun i b h => .inl ⟨i, h⟩⟩
        have hs2 := hs.world lew fun i blk hi => Go.RowKit.Below.heap_alloc _ _ _ (hs.lt i blk hi)
        refine Good.val exec lew hs2 ?_
        simp only [RelV, RelT]
        exact .inr ⟨trivial, _, _, _, by rw [h00]⟩
      replace hk := Option.bind_eq_some_iff.1 hk; obtain ⟨q, hq, hk⟩ := hk
      obtain ⟨hfz, hlen⟩ := elemsAV_frz hq
      obtain ⟨O1, le1, hs1, hO1, hf1, hkeep⟩ := hs.freezes' hfz
      obtain ⟨vs, e1, e2, e3⟩ := elemsAV_sound hs ht hr le1 hO1 hq hf1
      have hvl : vs.length = n := by
        have := congrArg List.length e1
        simp only [List.length_map, List.length_zipIdx] at this
        rw [← this, Array.length_toList, hn]
      have run := run_buildSlice (w := w) hu hok hz hpos ⟨hn1, hn2⟩ vs e3 hvl (ps.map fun (i, x) => (i, a.eval x)) (by simp only [Array.toList_map]; exact e1)
      have hq1 : q.1.length = n := by have := e2.length.1; simp only [List.length_map] at this; omega
      have fl : (vs.map fun v => v.cells.toList).flatten = vs.flatMap fun v => v.cells.toList := rfl
      have exec : (execOp a.eval o).run P w = .ok (.value (.slice (some ⟨w.heap.size, 0, none⟩) n n)) (w.alloc (.cells (vs.flatMap fun v => v.cells.toList).toArray e)) := by
        simp only [execOp, hop, Sem.run_bind, run, Result.andThen_ok, Sem.run_pure]
      cases hcc : g.map (·.c) with
      | some b =>
        simp only [hcc] at hk
        obtain ⟨rfl, rfl⟩ := fin hk
        -- as a tree
        have lew : Le w ρ O1 (w.alloc (.cells (vs.flatMap fun v => v.cells.toList).toArray e)) ρ O1 := ⟨rfl, rfl, rfl, by simp, fun _ _ h => h, fun b hb _ => Go.RowKit.Below.heap_alloc _ _ _ hb, fun i b h => .inl ⟨i, h⟩⟩
        have hs2 := hs1.world lew fun i blk hi => Go.RowKit.Below.heap_alloc _ _ _ (hs1.lt i blk hi)
        refine Good.val exec (le1.trans lew) hs2 ?_
        simp only [RelV, RelT]
        right
        refine ⟨trivial, w.heap.size, 0, none, n, by rw [hq1], by omega, ?_, ?_⟩
        · right; refine ⟨rfl, ?_⟩
          refine ⟨.inr (.inr hs.size), by simp, fun i hi => Nat.lt_irrefl _ (hs1.lt i _ hi)⟩
        · refine RelEls.of_vals (RelLs.mono (fun b hb => lew.A b hb) e2) (fun p v hp => ?_)
          rw [cell_block (heap_new _), Nat.zero_add, ← fl]
          simpa using hp
      | none =>
        simp only [hcc] at hk
        obtain ⟨rfl, rfl⟩ := fin hk
        have hi : s.h (.s (o.dst.getD 0) 0) = none := freshAt_mem hfree List.mem_cons_self
        have hi1 : updH s.h q.2 (.s (o.dst.getD 0) 0) = none := by
          rw [updH_other (fun p hp e => ?_)]
          · exact hi
          · have h2 := hfz p hp
            rw [e, hi] at h2
            rcases h2 with ⟨sz, b, l, _, h2⟩ | ⟨l, _, h2⟩ <;> simp at h2
        obtain ⟨k1, k2⟩ := hs1.newSl (sz := P.cellsOf e) hi1 e (vs.flatMap fun v => v.cells.toList).toArray n e2 (fun p v hp => by rw [← fl]; simpa using hp) (by omega) (by
          have := e2.length.2
          simp only [List.size_toArray]
          rw [← fl, this, hq1]; exact Nat.le_refl _)
        rw [hq1] at k1 k2
        refine Good.val exec (le1.trans k1) ?_ ?_
        · rw [updH_cons]
          have : updH (upd s.h (.s (o.dst.getD 0) 0) (some (.sl false (P.cellsOf e) false q.1))) q.2 = upd (updH s.h q.2) (.s (o.dst.getD 0) 0) (some (.sl false (P.cellsOf e) false q.1)) := by
            refine updH_swap (fun p hp e => ?_)
            have h2 := hfz p hp
            rw [e, hi] at h2
            rcases h2 with ⟨sz, b, l, _, h2⟩ | ⟨l, _, h2⟩ <;> simp at h2
          rw [this]; exact k2
        · simp [RelV]
    · simp at hk
  case load t x =>
    obtain ⟨av, y, e, run, hv⟩ := loadAV_sound hs (ev x) hc hk
    obtain ⟨rfl, rfl⟩ := fin e
    exact Good.pure (x := y) hs (by simp only [execOp, hop, Sem.run_bind, run, Result.andThen_ok, Sem.run_pure]) hv
  case store t x y =>
    cases hcc : g.map (·.c) with
    | some b => simp [hcc] at hk
    | none =>
      simp only [hcc] at hk
      obtain ⟨us', w', ρ', O', e, run, le, hs'⟩ := storeAV_sound hs (ev x) (ev y) hk
      obtain ⟨rfl, rfl⟩ := fin e
      unfold Good OpRes
      simp only [execOp, hop, Sem.run_bind, run, Result.andThen_ok, Sem.run_pure]
      exact ⟨ρ', O', le, hs', by simp [RelV]⟩
  case nilCheck x =>
    have hv := ev x
    split at hk
    · rename_i i k e
      obtain ⟨rfl, rfl⟩ := fin hk
      rw [e] at hv
      have hv' := hv
      simp only [RelV] at hv'
      obtain ⟨b, _, e2⟩ := hv'
      exact Good.pure hs (by simp [execOp, hop, e2]) hv
    · rename_i i sz k off e
      obtain ⟨rfl, rfl⟩ := fin hk
      rw [e] at hv
      have hv' := hv
      simp only [RelV] at hv'
      obtain ⟨b, o', L, cap, _, e2⟩ := hv'
      exact Good.pure hs (by simp [execOp, hop, e2]) hv
    · rename_i i sz n k off e
      obtain ⟨rfl, rfl⟩ := fin hk
      rw [e] at hv
      have hv' := hv
      simp only [RelV] at hv'
      obtain ⟨b, o', L, cap, _, e2⟩ := hv'
      exact Good.pure hs (by simp [execOp, hop, e2]) hv
    · rename_i y e
      replace hk := gdK_some hk hc; obtain ⟨cs, hcs, hk⟩ := hk
      obtain ⟨rfl, rfl⟩ := fin hk
      have := T.ptr?_eq hcs; subst this
      rw [e] at hv
      have hv' := hv
      simp only [RelV, RelT] at hv'
      obtain ⟨b, o', e2, _⟩ := hv'
      exact Good.pure hs (by simp [execOp, hop, e2]) hv
    · rename_i f x' y' e
      obtain ⟨rfl, rfl⟩ := fin hk
      rw [e] at hv
      have hv' := hv
      simp only [RelV] at hv'
      obtain ⟨_, _, e2, _⟩ := hv'
      exact Good.pure hs (by simp [execOp, hop, e2]) hv
    · simp at hk
  case binOp op t x y ty =>
    have nilx : ∀ b, nilC P t y = true → isNilAV P s t (s.get g x) = some b → _ := fun b h1 h2 => isNil_sound (P := P) hs (ev x) h2 y h1 a x y
    have nily : ∀ b, nilC P t x = true → isNilAV P s t (s.get g y) = some b → _ := fun b h1 h2 => isNil_sound (P := P) hs (ev y) h2 x h1 a x y
    have go : ∀ (z : Value), (eqGuard op t x y (a.eval x) (a.eval y)).run P w = .ok () w → (binOp op t (a.eval x) (a.eval y)).run P w = .ok z w → (execOp a.eval o).run P w = .ok (.value z) w := by
      intro z h1 h2
      simp only [execOp, hop, Sem.run_bind, h1, h2, Result.andThen_ok, Sem.run_pure]
    split at hk
    · rename_i h1
      replace hk := Option.bind_eq_some_iff.1 hk; obtain ⟨b, hb, hk⟩ := hk
      obtain ⟨rfl, rfl⟩ := fin hk
      obtain ⟨g1, g2⟩ := (nilx b h1 hb).1
      exact Good.pure hs (go _ g1 g2) (by simp [RelV, RelT])
    · rename_i h1
      replace hk := Option.bind_eq_some_iff.1 hk; obtain ⟨b, hb, hk⟩ := hk
      obtain ⟨rfl, rfl⟩ := fin hk
      obtain ⟨g1, g2⟩ := (nilx b h1 hb).2.1
      exact Good.pure hs (go _ g1 g2) (by simp [RelV, RelT])
    · rename_i h1 _
      replace hk := Option.bind_eq_some_iff.1 hk; obtain ⟨b, hb, hk⟩ := hk
      obtain ⟨rfl, rfl⟩ := fin hk
      obtain ⟨g1, g2⟩ := (nily b h1 hb).2.2.1
      exact Good.pure hs (go _ g1 g2) (by simp [RelV, RelT])
    · rename_i h1 _
      replace hk := Option.bind_eq_some_iff.1 hk; obtain ⟨b, hb, hk⟩ := hk
      obtain ⟨rfl, rfl⟩ := fin hk
      obtain ⟨g1, g2⟩ := (nily b h1 hb).2.2.2
      exact Good.pure hs (go _ g1 g2) (by simp [RelV, RelT])
    · obtain ⟨b, e, ⟨g1, g2⟩, _⟩ := eqAV_sound (P := P) hc (ev x) (ev y) hk x y
      obtain ⟨rfl, rfl⟩ := fin e
      exact Good.pure hs (go _ g1 g2) (by simp [RelV, RelT])
    · obtain ⟨b, e, _, ⟨g1, g2⟩⟩ := eqAV_sound (P := P) hc (ev x) (ev y) hk x y
      obtain ⟨rfl, rfl⟩ := fin e
      exact Good.pure hs (go _ g1 g2) (by simp [RelV, RelT])
    · replace hk := Option.bind_eq_some_iff.1 hk; obtain ⟨x', hx', hk⟩ := hk
      replace hk := Option.bind_eq_some_iff.1 hk; obtain ⟨y', hy', hk⟩ := hk
      obtain ⟨hne, z, vz, e, hv, run⟩ := binT_sound (P := P) hc (tt x x' hx') (tt y y' hy') hk
      obtain ⟨rfl, rfl⟩ := fin e
      exact Good.pure hs (go _ (eqGuard_other hne) run) (by simpa [RelV] using hv _ _)
  case unOp op t x =>
    replace hk := Option.bind_eq_some_iff.1 hk; obtain ⟨x', hx', hk⟩ := hk
    obtain ⟨z, y, e, hv, run⟩ := unT0_sound (P := P) hc (tt x x' hx') hk
    obtain ⟨rfl, rfl⟩ := fin e
    exact Good.pure (x := y) hs (by simp only [execOp, hop, Sem.run_bind, run, Result.andThen_ok, Sem.run_pure]) (by simpa [RelV] using hv _ _)
  case convert src dst x =>
    split at hk
    · rename_i e hu hu'
      split at hk
      · rename_i he
        unfold intK at he
        split at he
        · rename_i k he'
          simp only [Option.some.injEq] at he; subst he
          replace hk := Option.bind_eq_some_iff.1 hk; obtain ⟨y, hy, hk⟩ := hk
          replace hk := gdK_some hk hc; obtain ⟨l, hl, hk⟩ := hk
          replace hl := Option.bind_eq_some_iff.1 hl; obtain ⟨p, hp, hl⟩ := hl
          obtain ⟨rfl, rfl⟩ := fin hk
          have run := bytes_sound hs hu hu' he' (ev x) hy hp hl
          exact Good.pure (x := .string ⟨l.toArray⟩) hs (by simp only [execOp, hop, Sem.run_bind, run, Result.andThen_ok, Sem.run_pure]) (by simp [RelV, RelT])
        · simp at he
      · simp at hk
    · replace hk := Option.bind_eq_some_iff.1 hk; obtain ⟨x', hx', hk⟩ := hk
      obtain ⟨z, y, e, run, hv⟩ := convT_sound hc (tt x x' hx') hk
      obtain ⟨rfl, rfl⟩ := fin e
      exact Good.pure (x := y) hs (by simp only [execOp, hop, Sem.run_bind, run, Result.andThen_ok, Sem.run_pure]) (by simpa [RelV] using hv)
  case makeFunc fn fst caps =>
    cases fn with
    | func f =>
      dsimp only at hk
      obtain ⟨rfl, rfl⟩ := fin hk
      refine Good.pure (x := .func (.func f) (fst.map a.eval) (caps.map a.eval)) hs (by simp only [execOp, hop, Instr.makeFunc, Sem.run_bind, Sem.run_pure, Result.andThen_ok]) ?_
      simp only [RelV]
      refine ⟨fst.toList.map a.eval, caps.toList.map a.eval, ?_, evs_rel ht hr _, evs_rel ht hr _⟩
      rw [show (fst.toList.map a.eval).toArray = fst.map a.eval from Array.ext' (by simp), show (caps.toList.map a.eval).toArray = caps.map a.eval from Array.ext' (by simp)]
    | _ => simp at hk
  case makeSlice t l m =>
    cases hcc : g.map (·.c) with
    | some b => simp [hcc] at hk
    | none =>
      simp only [hcc] at hk
      replace hk := Option.bind_eq_some_iff.1 hk; obtain ⟨n, hn, hk⟩ := hk
      replace hk := Option.bind_eq_some_iff.1 hk; obtain ⟨k, hk', hk⟩ := hk
      obtain ⟨v', us', e, hg⟩ := makeAV_sound (vn := a.eval l) (vm := a.eval m) hs (by simpa [RelV] using tt l n hn) (by simpa [RelV] using tt m k hk') hk
      obtain ⟨rfl, rfl⟩ := fin e
      obtain ⟨u, w', ρ', O', run, le, hs', hv⟩ := hg hfree
      exact Good.val (x := u) (by simp only [execOp, hop, Sem.run_bind, run, Result.andThen_ok, Sem.run_pure]) le hs' hv
  case makeMap t m =>
    cases hcc : g.map (·.c) with
    | some b => simp [hcc] at hk
    | none =>
      cases m with
      | some m => simp [hcc] at hk
      | none =>
        simp only [hcc] at hk
        obtain ⟨v', us', e, hg⟩ := makeMapAV_sound hs hk
        obtain ⟨rfl, rfl⟩ := fin e
        obtain ⟨u, w', ρ', O', run, le, hs', hv⟩ := hg hfree
        exact Good.val (x := u) (by simp only [execOp, hop, Option.map_none, Sem.run_bind, run, Result.andThen_ok, Sem.run_pure]) le hs' hv
  case lookup t x k ok =>
    obtain ⟨av, y, e, run, hv⟩ := lookupAV_sound hs (ev x) (ev k) hc hk
    obtain ⟨rfl, rfl⟩ := fin e
    exact Good.pure (x := y) hs (by simp only [execOp, hop, Sem.run_bind, run, Result.andThen_ok, Sem.run_pure]) hv
  case mapUpdate t x k v' =>
    cases hcc : g.map (·.c) with
    | some b => simp [hcc] at hk
    | none =>
      simp only [hcc] at hk
      obtain ⟨us', w', e, run, le, hs'⟩ := putAV_sound hs (ev x) (ev k) (ev v') hk
      obtain ⟨rfl, rfl⟩ := fin e
      unfold Good OpRes
      simp only [execOp, hop, Sem.run_bind, run, Result.andThen_ok, Sem.run_pure]
      exact ⟨ρ, O, le, hs', by simp [RelV]⟩
  case slice t x lo hi mx =>
    obtain ⟨blo, hk, h1⟩ := boundAV_sound ht hr hc hk
    obtain ⟨bhi, hk, h2⟩ := boundAV_sound ht hr hc hk
    obtain ⟨bmx, hk, h3⟩ := boundAV_sound ht hr hc hk
    obtain ⟨av, y, e, run, hv⟩ := sliceAV_sound (P := P) hs (ev x) hc h1 h2 h3 hk
    obtain ⟨rfl, rfl⟩ := fin e
    exact Good.pure (x := y) hs (by simp only [execOp, hop, Sem.run_bind, run, Result.andThen_ok, Sem.run_pure]) hv
  case fieldAddr t x f =>
    obtain ⟨av, y, e, run, hv⟩ := fieldAddrAV_sound (P := P) (ev x) hc hk
    obtain ⟨rfl, rfl⟩ := fin e
    exact Good.pure (x := y) hs (by simp only [execOp, hop, Sem.run_bind, run, Result.andThen_ok, Sem.run_pure]) hv
  case field t x f =>
    obtain ⟨av, y, e, run, hv⟩ := fieldAV_sound (P := P) (ev x) hk
    obtain ⟨rfl, rfl⟩ := fin e
    exact Good.pure (x := y) hs (by simp only [execOp, hop, Sem.run_bind, run, Result.andThen_ok, Sem.run_pure]) hv
  case indexAddr t x i =>
    unfold int1 at hk
    replace hk := Option.bind_eq_some_iff.1 hk; obtain ⟨i', hi', hk⟩ := hk
    replace hk := gdK_some hk hc; obtain ⟨n, hn, hk⟩ := hk
    obtain ⟨k, rfl⟩ := anyInt_eq hn
    have hiv := tt i _ hi'
    simp only [RelT] at hiv
    obtain ⟨av, y, e, run, hv⟩ := indexAddrAV_sound (P := P) (ki := k) hs (ev x) hc hk
    obtain ⟨rfl, rfl⟩ := fin e
    exact Good.pure (x := y) hs (by simp only [execOp, hop, hiv, Sem.run_bind, run, Result.andThen_ok, Sem.run_pure]) hv
  case index t x i =>
    unfold int1 at hk
    replace hk := Option.bind_eq_some_iff.1 hk; obtain ⟨i', hi', hk⟩ := hk
    replace hk := gdK_some hk hc; obtain ⟨n, hn, hk⟩ := hk
    obtain ⟨k, rfl⟩ := anyInt_eq hn
    have hiv := tt i _ hi'
    simp only [RelT] at hiv
    have hv := ev x
    split at hk
    · rename_i hu
      replace hk := Option.bind_eq_some_iff.1 hk; obtain ⟨y, hy, hk⟩ := hk
      replace hk := gdK_some hk hc; obtain ⟨b, hb, hk⟩ := hk
      have := T.str?_eq hb; subst this
      have hxv := tt x _ hy
      simp only [RelT] at hxv
      obtain ⟨h0, h1, hk⟩ := idxOk_some hc hk
      replace hk := gdK_some hk hc; obtain ⟨u, hu', hk⟩ := hk
      obtain ⟨rfl, rfl⟩ := fin hk
      have hb : b[n.toNat]? = some u := by
        have hl : n.toNat < b.data.toList.length := (List.getElem?_eq_some_iff.1 hu').1
        have hlt : n.toNat < b.size := by simpa using hl
        rw [getElem?_pos b n.toNat hlt]
        have := (List.getElem?_eq_some_iff.1 hu').2
        rw [← this]
        simp [ByteArray.getElem_eq_getElem_data]
      exact Good.pure (x := .int .u8 u.toNat) hs (by simp [execOp, hop, hiv, hxv, Instr.index, asIntOf, run_underlying hu, h0, hb]) (by simp [RelV, RelT])
    · rename_i m e hu
      split at hk
      · rename_i vs ex
        cases hok : tyOk P e
        · simp [hok] at hk
        simp only [hok, cond_true] at hk
        replace hk := Option.bind_eq_some_iff.1 hk; obtain ⟨l, hl, hk⟩ := hk
        obtain ⟨h0, h1, hk⟩ := idxOk_some hc hk
        rw [ex] at hv
        simp only [RelV] at hv
        obtain ⟨ws, e2, g1, g2⟩ := hv
        obtain ⟨av, y, e, run, hv⟩ := loadT_part (P := P) (arr := ws.toArray) (off := n.toNat * P.cellsOf e) (ρ := ρ) hok hc ((RelTs.of_allT hl g1).drop _) hk
        obtain ⟨rfl, rfl⟩ := fin e
        exact Good.pure (x := y) hs (by simp [execOp, hop, hiv, e2, Instr.index, asIntOf, run_underlying hu, h0, h1, run_sizeA hok, run]) hv
      · simp at hk
    · simp at hk
  case extract x k =>
    have hv := ev x
    split at hk
    · rename_i vs e
      replace hk := Option.bind_eq_some_iff.1 hk; obtain ⟨y, hy, hk⟩ := hk
      obtain ⟨rfl, rfl⟩ := fin hk
      rw [e] at hv
      simp only [RelV] at hv
      obtain ⟨ws, e2, h1⟩ := hv
      obtain ⟨u, h2, h3⟩ := h1.get hy
      exact Good.pure hs (by simp [execOp, hop, e2, Instr.extract, h2]) h3
    · simp at hk
  case call cl =>
    have run0 : ∀ f, cl.callee = f → (execOp a.eval o).run P w = ((resolve a.eval cl o.type).run P w).andThen fun d w => (invoke d.target d.args).run P w := by
      intro f _; simp only [execOp, hop, Sem.run_bind]
    split at hk
    · rename_i hcal
      split at hk
      · rename_i x t ts hx htys
        obtain ⟨av, y, e, run, hv⟩ := lenAV_sound (P := P) (ts := cl.argTypes) (ty := o.type) hs (ev x) hc hk (by rw [← Array.getElem?_toList, htys]; rfl)
        obtain ⟨rfl, rfl⟩ := fin e
        have hargs : cl.args.map a.eval = #[a.eval x] := by apply Array.ext'; simp [hx]
        exact Good.pure (x := y) hs (by simp only [execOp, hop, resolve, hcal, hargs, Sem.run_bind, Sem.run_pure, Result.andThen_ok, invoke, builtin, run]) hv
      · simp at hk
    · rename_i hcal
      split at hk
      · rename_i x y t u hgc hx htys
        obtain ⟨v', us', e, hg⟩ := appendAV_sound (P := P) (tr := o.type) hs (ev x) (ev y) hk
        obtain ⟨rfl, rfl⟩ := fin e
        have hargs : cl.args.map a.eval = #[a.eval x, a.eval y] := by apply Array.ext'; simp [hx]
        have htys' : cl.argTypes = #[t, u] := by apply Array.ext'; simp [htys]
        obtain ⟨z, w', ρ', O', run, le, hs', hv⟩ := hg hfree
        exact Good.val (x := z) (by simp only [execOp, hop, resolve, hcal, hargs, htys', Sem.run_bind, Sem.run_pure, Result.andThen_ok, invoke, builtin, run]) le hs' hv
      · simp at hk
    · rename_i hcal
      split at hk
      · rename_i k hik
        replace hk := Option.bind_eq_some_iff.1 hk; obtain ⟨l, hl, hk⟩ := hk
        split at hk
        · rename_i x r
          replace hk := gdK_some hk hc; obtain ⟨n, hn, hk⟩ := hk
          have := T.int?_eq hn; subst this
          obtain ⟨v0, vs, e0, h1, h2⟩ := RelTs.of_allT hl (evs_rel ht hr cl.args.toList)
          simp only [RelT] at h1; subst h1
          obtain ⟨m, e, run⟩ := minT_sound (P := P) (w := w) hc true h2 hk
          obtain ⟨rfl, rfl⟩ := fin e
          have hargs : (cl.args.map a.eval).toList = .int k n :: vs := by simp [e0]
          exact Good.pure (x := .int k m) hs (by simp only [execOp, hop, resolve, hcal, Sem.run_bind, Sem.run_pure, Result.andThen_ok, invoke, builtin, Builtin.max_, hargs]; simp only [cond_true] at run; simp only [run, Result.andThen_ok]) (by simp [RelV, RelT])
        · simp at hk
      · simp at hk
    · rename_i hcal
      split at hk
      · rename_i k hik
        replace hk := Option.bind_eq_some_iff.1 hk; obtain ⟨l, hl, hk⟩ := hk
        split at hk
        · rename_i x r
          replace hk := gdK_some hk hc; obtain ⟨n, hn, hk⟩ := hk
          have := T.int?_eq hn; subst this
          obtain ⟨v0, vs, e0, h1, h2⟩ := RelTs.of_allT hl (evs_rel ht hr cl.args.toList)
          simp only [RelT] at h1; subst h1
          obtain ⟨m, e, run⟩ := minT_sound (P := P) (w := w) hc false h2 hk
          obtain ⟨rfl, rfl⟩ := fin e
          have hargs : (cl.args.map a.eval).toList = .int k n :: vs := by simp [e0]
          exact Good.pure (x := .int k m) hs (by simp only [execOp, hop, resolve, hcal, Sem.run_bind, Sem.run_pure, Result.andThen_ok, invoke, builtin, Builtin.min_, hargs]; simp only [cond_false] at run; simp only [run, Result.andThen_ok]) (by simp [RelV, RelT])
        · simp at hk
      · simp at hk
    · rename_i hcal
      split at hk
      · rename_i x y t ts hgc hx htys
        obtain ⟨us', w', e, run, le, hs'⟩ := delAV_sound (P := P) (ty := (ts.headD 0)) (tr := o.type) hs (ev x) (ev y) hk
        obtain ⟨rfl, rfl⟩ := fin e
        have hargs : cl.args.map a.eval = #[a.eval x, a.eval y] := by apply Array.ext'; simp [hx]
        have run' : (Builtin.delete_ cl.argTypes o.type #[a.eval x, a.eval y]).run P w = .ok (.tuple #[]) w' := by
          rw [← run]
          have h0 : cl.argTypes[0]? = some t := by rw [← Array.getElem?_toList, htys]; rfl
          simp only [Builtin.delete_, h0]; rfl
        refine Good.val (x := .tuple #[]) (by simp only [execOp, hop, resolve, hcal, hargs, Sem.run_bind, Sem.run_pure, Result.andThen_ok, invoke, builtin, run']) le hs' ?_
        simp only [RelV]; exact ⟨[], rfl, by simp [RelVs]⟩
      · simp at hk
    · rename_i hcal
      split at hk
      · rename_i x t ts hx htys
        split at hk
        · rename_i e hu
          split at hk
          · rename_i y hex
            cases hy : isNilT y with
            | false => rw [hy] at hk; simp at hk
            | true =>
              rw [hy] at hk
              obtain ⟨rfl, rfl⟩ := fin hk
              have hv := ev x
              rw [hex] at hv
              simp only [RelV] at hv
              have hv := isNilT_rel hy hv
              have hargs : cl.args.map a.eval = #[a.eval x] := by apply Array.ext'; simp [hx]
              have hts : cl.argTypes[0]? = some t := by rw [← Array.getElem?_toList, htys]; rfl
              exact Good.pure (x := .int .i64 0) hs (by simp only [execOp, hop, resolve, hcal, hargs, Sem.run_bind, Sem.run_pure, Result.andThen_ok, invoke, builtin]; simp [Builtin.cap_, hts, run_underlying hu, hv, goInt]) (by simp [RelV, RelT])
          · simp at hk
        · simp at hk
      · simp at hk
    · rename_i fo hcal
      split at hk
      · rename_i f x1 y1 efo
        have hfo := ev fo
        rw [efo] at hfo
        simp only [RelV] at hfo
        obtain ⟨x', y', e2, g1, g2⟩ := hfo
        obtain ⟨v', us', fn, body, e, hfn, hbody, hname, hcall⟩ := callL_sound hO hc hs ((g1.append (evs_rel ht hr cl.args.toList)).append g2) hk
        obtain ⟨rfl, rfl⟩ := fin e
        unfold Good OpRes
        have run : (execOp a.eval o).run P w = .ok (.enter f (x' ++ cl.args.toList.map a.eval ++ y').toArray) w := by
          have hargs : x'.toArray ++ cl.args.map a.eval ++ y'.toArray = (x' ++ cl.args.toList.map a.eval ++ y').toArray := by apply Array.ext'; simp
          simp [execOp, hop, resolve, hcal, e2, Deferred.ofValue, invoke, callFunc, run_program, hfn, hbody, hname, hargs]
        rw [run]
        exact hcall hfree
      · simp at hk
    · simp at hk
  all_goals simp at hk

end
end Go.Aev
