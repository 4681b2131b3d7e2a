/-
  Regions, in the order in which they are written.
-/
import Derived.Test.YtmpjdngpblfecaaAevAop
import Derived.Orders
set_option linter.unusedSimpArgs false
set_option linter.unusedVariables false
namespace Go.Aev
open Go

section
variable {P : Program} {An : Ann} {Or : Orc} {w w' : World} {A A' : Nat → Prop} {c : Ctx} {ρ : Id → Option Value} {O : Id → Option Nat} {s s' : St}

structure Sim (c : Ctx) (nt : Nat) (w : World) (s : St) (ρ : Id → Option Value) (O : Id → Option Nat) (a : Act) : Prop where
  hs : HS c w s.h ρ O
  ss : SS w (AA c w O) ρ s.t a.tmps
  nt : a.tmps.size = nt
  defers : a.defers = []

/-- What stands under a guard stands under one of this region's guards. -/
def InReg (ops : Array Oper) (s : St) : Prop := ∀ k g v, s.t k = (some g, v) → asksG ops (some g.d) = true

theorem getD_put {a : Act} {d k : Nat} {x : Value} (hd : d < a.tmps.size) : (a.put (some d) x).tmps.getD k undef = if k = d then x else a.tmps.getD k undef := by
  simp only [Act.put]
  by_cases e : k = d
  · subst e; simp [hd]
  · rw [if_neg e]
    simp [Array.getElem?_setIfInBounds_ne (Ne.symm e)]
theorem put_size (a : Act) (d : Option Nat) (x : Value) : (a.put d x).tmps.size = a.tmps.size := by cases d <;> simp [Act.put]
theorem put_defers (a : Act) (d : Option Nat) (x : Value) : (a.put d x).defers = a.defers := by cases d <;> rfl

/-- Does the operation run? -/
theorem guard_sound {ops : Array Oper} {o : Oper} {a : Act} {g : Option Gs} (ht : SS w A ρ s.t a.tmps) (h : guardOf ops o s some = some g) :
    (Region.wanted o (yielded ops a.tmps) = true → Runs a.tmps g) ∧
    (Region.wanted o (yielded ops a.tmps) = false → ∃ gs, g = some gs ∧ a.tmps.getD gs.d undef ≠ .bool gs.want ∧ gs.c = false) ∧
    (∀ gs, g = some gs → asksG ops (some gs.d) = true ∨ ∀ o' ∈ ops, o' ≠ o) := by
  unfold guardOf at h
  cases hg : o.guard with
  | none =>
    simp only [hg, Option.some.injEq] at h; subst h
    exact ⟨fun _ => trivial, fun h => by simp [Region.wanted, hg] at h, fun gs h => by cases h⟩
  | some p =>
    obtain ⟨j, want⟩ := p
    simp only [hg] at h
    cases hd : (ops[j]?).bind (·.dst) with
    | none => simp [hd] at h
    | some d =>
      simp only [hd] at h
      replace h := Option.bind_eq_some_iff.1 h; obtain ⟨x, hx, h⟩ := h
      have hw : Region.wanted o (yielded ops a.tmps) = true ↔ a.tmps.getD d undef = .bool want := by
        simp only [Region.wanted, hg, yielded, hd, Option.bind_some, beq_iff_eq]
        rw [Array.getD_eq_getD_getElem?]
        cases a.tmps[d]? with
        | none => simp [undef]
        | some u => cases u <;> simp
      have hgs : ∀ gs, g = some gs → gs.d = d ∧ gs.want = want := by
        intro gs e
        replace h := gdK_any h; obtain ⟨b, h, _⟩ := h
        simp only [Option.some.injEq] at h
        rw [← h] at e; simp only [Option.some.injEq] at e; subst e; exact ⟨rfl, rfl⟩
      have hsome : ∃ gs, g = some gs := by
        replace h := gdK_any h; obtain ⟨b, h, _⟩ := h
        simp only [Option.some.injEq] at h
        exact ⟨_, h.symm⟩
      obtain ⟨gs, rfl⟩ := hsome
      obtain ⟨e1, e2⟩ := hgs gs rfl
      refine ⟨fun hwt => ?_, fun hwf => ⟨gs, rfl, ?_⟩, fun gs' e => ?_⟩
      · have htd := hw.1 hwt
        simp only [Runs, e1, e2]
        refine ⟨htd, ?_⟩
        have hsd := ht d
        rw [htd] at hsd
        cases hst : s.t d with
        | mk gd v =>
          rw [hst] at hsd hx h
          dsimp only at hx h hsd
          rw [AV.t?_eq hx] at hsd
          cases gd with
          | none =>
            simp only [RelV] at hsd
            simp only [Option.map_none] at h
            replace h := gdK_some h (.inl rfl); obtain ⟨b, hb, h⟩ := h
            simp only [Option.some.injEq] at h
            have := T.bool?_eq hb; subst this
            simp only [RelT, Value.bool.injEq] at hsd
            rw [← h, ← hsd]
            cases want <;> rfl
          | some g0 =>
            simp only at hsd
            rcases hsd with ⟨_, hc0, hv⟩ | ⟨_, _, hu⟩
            · simp only [Option.map_some, hc0] at h
              replace h := gdK_some h (.inr rfl); obtain ⟨b, hb, h⟩ := h
              simp only [Option.some.injEq] at h
              have := T.bool?_eq hb; subst this
              simp only [RelV, RelT, Value.bool.injEq] at hv
              rw [← h, ← hv]
              simp only [gC, hc0]
              cases want <;> rfl
            · simp [undef] at hu
      · have hnw : a.tmps.getD d undef ≠ .bool want := fun hh => by
          have := hw.2 hh
          rw [this] at hwf; cases hwf
        refine ⟨by rw [e1, e2]; exact hnw, ?_⟩
        have hsd := ht d
        cases hst : s.t d with
        | mk gd v =>
          rw [hst] at hsd hx h
          dsimp only at hx h hsd
          rw [AV.t?_eq hx] at hsd
          cases gd with
          | none =>
            simp only [RelV] at hsd
            simp only [Option.map_none] at h
            replace h := gdK_some h (.inl rfl); obtain ⟨b, hb, h⟩ := h
            simp only [Option.some.injEq] at h
            have := T.bool?_eq hb; subst this
            simp only [RelT] at hsd
            have hbw : b ≠ want := fun e => hnw (by rw [hsd, e])
            rw [← h]
            simp only [gC]
            cases b <;> cases want <;> simp_all [cmpW]
          | some g0 =>
            simp only at hsd
            rcases hsd with ⟨_, hc0, hv⟩ | ⟨_, hc0, _⟩
            · simp only [Option.map_some, hc0] at h
              replace h := gdK_some h (.inr rfl); obtain ⟨b, hb, h⟩ := h
              simp only [Option.some.injEq] at h
              have := T.bool?_eq hb; subst this
              simp only [RelV, RelT] at hv
              have hbw : b ≠ want := fun e => hnw (by rw [hv, e])
              rw [← h]
              simp only [gC, hc0]
              cases b <;> cases want <;> simp_all [cmpW]
            · replace h := gdK_any h; obtain ⟨b, h, _⟩ := h
              simp only [Option.some.injEq] at h
              rw [← h]
              simp [gC, hc0]
      · simp only [Option.some.injEq] at e; subst e
        by_cases hm : o ∈ ops
        · left
          unfold asksG
          rw [Array.any_eq_true']
          exact ⟨o, hm, by simp [hg, hd, e1]⟩
        · right
          intro o' ho' e; exact hm (e ▸ ho')

theorem put_inReg {ops : Array Oper} {o : Oper} {g : Option Gs} {v : AV} {us : Upd} (hin : InReg ops s) (hask : ∀ gs, g = some gs → asksG ops (some gs.d) = true) : InReg ops (s.put (asksG ops o.dst) o.dst g v us) := by
  intro k g' v' hk
  cases hd : o.dst with
  | none => simp only [St.put, hd] at hk; exact hin k g' v' hk
  | some d =>
    simp only [St.put, hd] at hk
    by_cases e : k = d
    · simp only [if_pos e, Prod.mk.injEq] at hk
      exact hask g' hk.1
    · simp only [if_neg e] at hk
      cases hinv : asksG ops (some d) with
      | false => rw [hinv, cond_false] at hk; exact hin k g' v' hk
      | true =>
        rw [hinv, cond_true] at hk
        cases hst : s.t k with
        | mk gk vk =>
          rw [hst] at hk
          cases gk with
          | none => simp [dropG] at hk
          | some gk =>
            simp only [dropG] at hk
            cases hgd : (gk.d == d) with
            | true => simp [hgd] at hk
            | false =>
              simp only [hgd, cond_false, Prod.mk.injEq, Option.some.injEq] at hk
              rw [← hk.1]; exact hin k gk vk hst

theorem put_slots {nt : Nat} {ops : Array Oper} {o : Oper} {a : Act} {g : Option Gs} {v : AV} {us : Upd} (ss : SS w (AA c w O) ρ s.t a.tmps) (hnt : a.tmps.size = nt) (hin : InReg ops s)
    (hdst : ∀ d, o.dst = some d → d < nt) (hgn : ∀ gs d, g = some gs → o.dst = some d → gs.d ≠ d)
    (w' : World) (ρ' : Id → Option Value) (O' : Id → Option Nat) (x : Value) (hA : ∀ b, AA c w O b → AA c w' O' b ∧ w'.heap[b]? = w.heap[b]?) (hρ : ∀ i v, ρ i = some v → ρ' i = some v)
    (hx : match g with
      | none => RelV w' (AA c w' O') ρ' v x
      | some gs => (a.tmps.getD gs.d undef = .bool gs.want ∧ gs.c = true ∧ RelV w' (AA c w' O') ρ' v x) ∨ (a.tmps.getD gs.d undef ≠ .bool gs.want ∧ gs.c = false ∧ x = undef)) :
    SS w' (AA c w' O') ρ' (s.put (asksG ops o.dst) o.dst g v us).t (a.put o.dst x).tmps := by
  have hss := SS.mono hA hρ ss
  cases hd : o.dst with
  | none => simp only [St.put, Act.put]; exact hss
  | some d =>
    have hlt : d < a.tmps.size := by rw [hnt]; exact hdst d hd
    intro k
    simp only [St.put]
    by_cases e : k = d
    · subst e
      simp only [if_true]
      cases g with
      | none => simp only; rw [getD_put hlt, if_pos rfl]; exact hx
      | some gs =>
        have hne : gs.d ≠ k := hgn gs k rfl hd
        simp only
        rw [getD_put hlt, getD_put hlt, if_neg hne, if_pos rfl]
        exact hx
    · simp only [if_neg e]
      have hk := hss k
      cases hinv : asksG ops (some d) with
      | false =>
        simp only [cond_false]
        cases hst : s.t k with
        | mk gk vk =>
          rw [hst] at hk
          cases gk with
          | none => simp only at hk ⊢; rw [getD_put hlt, if_neg e]; exact hk
          | some gk =>
            have hne : gk.d ≠ d := by
              intro e'
              have := hin k gk vk hst
              rw [e', hinv] at this; cases this
            simp only at hk ⊢
            rw [getD_put hlt, getD_put hlt, if_neg e, if_neg hne]; exact hk
      | true =>
        simp only [cond_true]
        cases hst : s.t k with
        | mk gk vk =>
          rw [hst] at hk
          cases gk with
          | none => simp only [dropG] at hk ⊢; rw [getD_put hlt, if_neg e]; exact hk
          | some gk =>
            simp only [dropG]
            cases hgd : (gk.d == d) with
            | true => simp [RelV]
            | false =>
              have hne : gk.d ≠ d := by simpa using hgd
              simp only [cond_false] at hk ⊢
              rw [getD_put hlt, getD_put hlt, if_neg e, if_neg hne]; exact hk

/-- Where the guard holds, what stands under it stands. -/
theorem SS.openG {tmps : Array Value} {gs : Gs} (hs : SS w A ρ s.t tmps) (hg : tmps.getD gs.d undef = .bool gs.want) : SS w A ρ (s.openG gs).t tmps := by
  intro k
  have hk := hs k
  simp only [St.openG]
  cases hst : s.t k with
  | mk gk v =>
    rw [hst] at hk
    cases gk with
    | none => simp only [sameG, cond_true] at hk ⊢; exact hk
    | some g0 =>
      by_cases hsame : sameG (some g0) (some gs) = true
      · simp only [hsame, cond_true]
        simp only [sameG, Bool.and_eq_true, beq_iff_eq] at hsame
        simp only at hk
        rcases hk with ⟨_, _, h3⟩ | ⟨h1, _⟩
        · exact h3
        · exfalso; apply h1; rw [hsame.1, hsame.2]; exact hg
      · simp only [Bool.not_eq_true] at hsame
        simp only [hsame, cond_false]
        exact hk

theorem one_sound {draw : Bool} {nt : Nat} {ops : Array Oper} {o : Oper} {a : Act} (hO : OSound P An Or) (sim : Sim c nt w s ρ O a) (hin : InReg ops s) (hmem : o ∈ ops) (h : oneD P An Or draw nt ops o s = some s') :
    InReg ops s' ∧ ∀ (K : Act → World → Prop) (Q : Exit → Act → World → Prop), (∀ a' w' ρ' O', Le w ρ O w' ρ' O' → Sim c nt w' s' ρ' O' a' → K a' w') →
      if Region.wanted o (yielded ops a.tmps) then o.wp P a w K Q ∨ (o.asks P a w ∧ LetsOut Q) else K (a.put o.dst undef) w := by
  unfold oneD oneOp at h
  rw [guardOf_eq] at h
  replace h := Option.bind_eq_some_iff.1 h; obtain ⟨g, hg, h⟩ := h
  obtain ⟨hrun, hskip, hask⟩ := guard_sound sim.ss hg
  have hask' : ∀ gs, g = some gs → asksG ops (some gs.d) = true := fun gs e => (hask gs e).resolve_right fun hn => hn o hmem rfl
  cases hsp : splitG An draw o g with
  | none =>
    rw [hsp] at h
    dsimp only at h
    rw [aop_eq] at h
    replace h := Option.bind_eq_some_iff.1 h; obtain ⟨⟨v, us⟩, hop, h⟩ := h
    dsimp only at h
    split at h
    · rename_i hok
      simp only [Option.some.injEq] at h; subst h
      simp only [okOp, Bool.and_eq_true] at hok
      obtain ⟨⟨⟨hdst, hgs⟩, hfree⟩, _⟩ := hok
      have hdst' : ∀ d, o.dst = some d → d < nt := fun d e => by simpa [e] using hdst
      have hgn : ∀ gs d, g = some gs → o.dst = some d → gs.d ≠ d := fun gs d e1 e2 => by
        subst e1
        simp only [e2, Bool.and_eq_true, Bool.not_eq_true', beq_eq_false_iff_ne, ne_eq, Option.some.injEq] at hgs
        exact fun e => hgs.2 e.symm
      refine ⟨put_inReg hin hask', fun K Q hK => ?_⟩
      split
      · rename_i hw
        left
        have hruns := hrun hw
        refine OpRes.wp (aop_sound hO sim.hs sim.ss hruns hop hfree) fun x w' ⟨ρ', O', le, hs', hv⟩ => ?_
        refine hK _ w' ρ' O' le ⟨hs', ?_, by rw [put_size]; exact sim.nt, by rw [put_defers]; exact sim.defers⟩
        refine put_slots sim.ss sim.nt hin hdst' hgn w' ρ' O' x (fun b hb => le.A b hb) le.rho ?_
        cases g with
        | none => exact hv
        | some gs => exact .inl ⟨hruns.1, hruns.2, hv⟩
      · rename_i hw
        obtain ⟨gs, rfl, hne, hcf⟩ := hskip (by simpa using hw)
        have hus : us = [] := by
          simp only [Bool.and_eq_true, List.isEmpty_iff] at hgs
          exact hgs.1
        subst hus
        refine hK _ w ρ O Le.refl ⟨sim.hs, ?_, by rw [put_size]; exact sim.nt, by rw [put_defers]; exact sim.defers⟩
        exact put_slots sim.ss sim.nt hin hdst' hgn w ρ O undef (fun b hb => ⟨hb, rfl⟩) (fun _ _ h => h) (.inr ⟨hne, hcf, rfl⟩)
    · simp at h
  | some gs =>
    rw [hsp] at h
    dsimp only at h
    have hg' : g = some gs := by
      cases g with
      | none => simp [splitG] at hsp
      | some g0 =>
        simp only [splitG] at hsp
        cases hb : (!draw && isR An o) with
        | false => rw [hb] at hsp; cases hsp
        | true => rw [hb] at hsp; simpa using hsp
    subst hg'
    cases hdk : dstOk nt o gs with
    | false => rw [hdk] at h; cases h
    | true =>
      rw [hdk, cond_true] at h
      simp only [dstOk, Bool.and_eq_true] at hdk
      have hdst' : ∀ d, o.dst = some d → d < nt := fun d e => by simpa [e] using hdk.1
      have hgn : ∀ gs' d, some gs = some gs' → o.dst = some d → gs'.d ≠ d := fun gs' d e1 e2 => by
        cases e1
        have := hdk.2
        simp only [e2, Bool.not_eq_true', beq_eq_false_iff_ne, ne_eq, Option.some.injEq] at this
        exact fun e => this e.symm
      cases hc : gs.c with
      | false =>
        rw [hc, cond_false] at h
        simp only [Option.some.injEq] at h; subst h
        refine ⟨put_inReg hin hask', fun K Q hK => ?_⟩
        split
        · rename_i hw
          have := (hrun hw).2
          rw [hc] at this; cases this
        · rename_i hw
          obtain ⟨gs', e, hne, hcf⟩ := hskip (by simpa using hw)
          cases e
          refine hK _ w ρ O Le.refl ⟨sim.hs, ?_, by rw [put_size]; exact sim.nt, by rw [put_defers]; exact sim.defers⟩
          exact put_slots sim.ss sim.nt hin hdst' hgn w ρ O undef (fun b hb => ⟨hb, rfl⟩) (fun _ _ h => h) (.inr ⟨hne, hcf, rfl⟩)
      | true =>
        rw [hc, cond_true, aop_eq] at h
        replace h := Option.bind_eq_some_iff.1 h; obtain ⟨⟨v, us⟩, hop, h⟩ := h
        dsimp only at h
        split at h
        · rename_i hok
          simp only [Option.some.injEq] at h; subst h
          simp only [okOp, Bool.and_eq_true] at hok
          obtain ⟨⟨⟨_, _⟩, hfree⟩, _⟩ := hok
          refine ⟨put_inReg hin hask', fun K Q hK => ?_⟩
          split
          · rename_i hw
            left
            have hruns := hrun hw
            refine OpRes.wp (aop_sound (s := s.openG gs) (g := none) hO sim.hs (sim.ss.openG hruns.1) trivial hop hfree) fun x w' ⟨ρ', O', le, hs', hv⟩ => ?_
            refine hK _ w' ρ' O' le ⟨hs', ?_, by rw [put_size]; exact sim.nt, by rw [put_defers]; exact sim.defers⟩
            exact put_slots sim.ss sim.nt hin hdst' hgn w' ρ' O' x (fun b hb => le.A b hb) le.rho (.inl ⟨hruns.1, hruns.2, hv⟩)
          · rename_i hw
            obtain ⟨gs', e, hne, hcf⟩ := hskip (by simpa using hw)
            cases e
            rw [hc] at hcf; cases hcf
        · simp at h

theorem Sim.clear {nt : Nat} {a : Act} (sim : Sim c nt w s ρ O a) : Sim c nt w s.clear ρ O a := by
  refine ⟨sim.hs, fun k => ?_, sim.nt, sim.defers⟩
  have := sim.ss k
  simp only [St.clear]
  cases hst : s.t k with
  | mk gk vk =>
    rw [hst] at this
    cases gk with
    | none => exact this
    | some g => simp [RelV]
/-- Nothing stands under a guard. -/
def Bare (s : St) : Prop := ∀ k g v, s.t k ≠ (some g, v)
theorem clear_bare (s : St) : Bare s.clear := by
  intro k g v h
  simp only [St.clear] at h
  split at h <;> simp at h
theorem Bare.inReg (h : Bare s) (ops : Array Oper) : InReg ops s := fun k g v e => (h k g v e).elim

theorem rops_sound {draw : Bool} {nt : Nat} {ops : Array Oper} (hO : OSound P An Or) {Q : Exit → Act → World → Prop} : ∀ {l : List Oper} {k : Nat} {w : World} {s : St} {ρ : Id → Option Value} {O : Id → Option Nat} {a : Act},
    (∀ j, l[j]? = ops[k + j]?) → Sim c nt w s ρ O a → InReg ops s → ropsD P An Or draw nt ops l s = some s' →
    (∀ a' w' ρ' O', Le w ρ O w' ρ' O' → Sim c nt w' s' ρ' O' a' → Q .normal a' w') → wpOps P ops Q (List.range' k l.length) a w
  | [], k, w, s, ρ, O, a, hl, sim, hin, h, hQ => by
    simp only [ropsD, Option.some.injEq] at h; subst h
    exact hQ a w ρ O Le.refl sim
  | o :: l, k, w, s, ρ, O, a, hl, sim, hin, h, hQ => by
    simp only [ropsD] at h
    obtain ⟨s1, h1, h⟩ := Option.bind_eq_some_iff.1 h
    have h0 : ops[k]? = some o := by simpa using (hl 0).symm
    obtain ⟨hin1, step⟩ := one_sound hO sim hin (Array.mem_of_getElem? h0) h1
    rw [List.length_cons, List.range'_succ]
    simp only [wpOps, h0]
    refine step _ Q fun a' w' ρ' O' le sim' => ?_
    exact rops_sound hO (fun j => by have := hl (j + 1); simpa [Nat.add_assoc, Nat.add_comm 1 j] using this) sim' hin1 h
      (fun a'' w'' ρ'' O'' le' sim'' => hQ a'' w'' ρ'' O'' (le.trans le') sim'')

theorem region_lex {nt id : Nat} {ops : Array Oper} {a : Act} (hO : OSound P An Or) {Q : Exit → Act → World → Prop} (sim : Sim c nt w s ρ O a) (hb : Bare s) (h : ropsD P An Or false nt ops ops.toList s = some s')
    (hQ : ∀ a' w' ρ' O', Le w ρ O w' ρ' O' → Sim c nt w' s'.clear ρ' O' a' → Q .normal a' w') : (Code.region id ops false).wp P Q a w := by
  refine wp_region ?_
  rw [List.range_eq_range', ← Array.length_toList]
  exact rops_sound hO (by intro j; simp) sim (hb.inReg ops) h fun a' w' ρ' O' le sim' => hQ a' w' ρ' O' le sim'.clear

end
end Go.Aev
