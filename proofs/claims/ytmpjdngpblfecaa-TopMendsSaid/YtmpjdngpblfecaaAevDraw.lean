/-
  Regions whose order is drawn: every order that may be drawn ends where the written one ends.
-/
import Derived.Test.YtmpjdngpblfecaaAevCongr
import Derived.Still
set_option linter.unusedSimpArgs false
set_option linter.unusedVariables false
namespace Go.Aev
open Go

section
variable {P : Program} {An : Ann} {Or : Orc} {w w' : World} {A A' : Nat → Prop} {c : Ctx} {ρ : Id → Option Value} {O : Id → Option Nat} {s s' s1 s2 : St} {h : Id → Option Blk} {ops : Array Oper} {nt : Nat}

structure Went (P : Program) (An : Ann) (Or : Orc) (nt : Nat) (ops : Array Oper) (o : Oper) (s : St) (g : Option Gs) (v : AV) (us : Upd) : Prop where
  guard : guardOf ops o s some = some g
  op : aopD P An Or g o s = some (v, us)
  ok : okOp P An true nt ops o g s us = true

theorem splitG_draw {o : Oper} {g : Option Gs} : splitG An true o g = none := by cases g <;> rfl
theorem oneD_went {o : Oper} (e : oneD P An Or true nt ops o s = some s') : ∃ g v us, Went P An Or nt ops o s g v us ∧ s' = s.put (asksG ops o.dst) o.dst g v us := by
  unfold oneD oneOp at e
  rw [guardOf_eq] at e
  replace e := Option.bind_eq_some_iff.1 e; obtain ⟨g, hg, e⟩ := e
  rw [splitG_draw] at e
  dsimp only at e
  rw [aop_eq] at e
  replace e := Option.bind_eq_some_iff.1 e; obtain ⟨⟨v, us⟩, hop, e⟩ := e
  dsimp only at e
  split at e
  · rename_i hok
    simp only [Option.some.injEq] at e
    exact ⟨g, v, us, ⟨hg, hop, hok⟩, e.symm⟩
  · simp at e
theorem Went.oneD {o : Oper} {g : Option Gs} {v : AV} {us : Upd} (wt : Went P An Or nt ops o s g v us) : oneD P An Or true nt ops o s = some (s.put (asksG ops o.dst) o.dst g v us) := by
  unfold Aev.oneD oneOp
  rw [guardOf_eq, wt.guard, Option.bind_some, splitG_draw]
  dsimp only
  rw [aop_eq, wt.op, Option.bind_some]
  dsimp only
  rw [if_pos wt.ok]

/-- What stands under a guard stands under the guard of an operation that has run. -/
def GInv (ops : Array Oper) (listed : Array Bool) (s : St) : Prop := ∀ k g v, s.t k = (some g, v) → ∃ i o, ops[i]? = some o ∧ listed.getD i false = true ∧ o.dst = some g.d

theorem dsts_mem {d : Nat} {o : Oper} (hd : o.dst = some d) : ∀ (l : List Oper), o ∈ l → d ∈ dsts l := by
  intro l
  induction l with
  | nil => intro hm; cases hm
  | cons x l ih =>
    intro hm
    simp only [dsts]
    rcases List.mem_cons.1 hm with rfl | hm
    · rw [hd]; exact List.mem_cons_self
    · have := ih hm
      split
      · exact List.mem_cons_of_mem _ this
      · exact this
theorem dsts_nodup : ∀ {l : List Oper}, nodupN (dsts l) = true → ∀ {i j : Nat} {x y : Oper} {d : Nat}, l[i]? = some x → l[j]? = some y → x.dst = some d → y.dst = some d → i = j
  | [], _, i, j, x, y, d, hi, _, _, _ => by simp at hi
  | z :: l, hn, i, j, x, y, d, hi, hj, hx, hy => by
    have hn' : nodupN (dsts l) = true ∧ ∀ d, z.dst = some d → d ∉ dsts l := by
      simp only [dsts] at hn
      cases hz : z.dst with
      | none => rw [hz] at hn; exact ⟨hn, fun d h => by cases h⟩
      | some e =>
        rw [hz] at hn
        simp only [nodupN, Bool.and_eq_true, Bool.not_eq_true'] at hn
        refine ⟨hn.2, fun d h => ?_⟩
        simp only [Option.some.injEq] at h; subst h
        intro hm
        have : (dsts l).contains e = true := by simpa using hm
        rw [this] at hn; cases hn.1
    cases i with
    | zero =>
      simp only [List.getElem?_cons_zero, Option.some.injEq] at hi; subst hi
      cases j with
      | zero => rfl
      | succ j =>
        simp only [List.getElem?_cons_succ] at hj
        exact (hn'.2 d hx (dsts_mem hy _ (List.mem_of_getElem? hj))).elim
    | succ i =>
      simp only [List.getElem?_cons_succ] at hi
      cases j with
      | zero =>
        simp only [List.getElem?_cons_zero, Option.some.injEq] at hj; subst hj
        exact (hn'.2 d hy (dsts_mem hx _ (List.mem_of_getElem? hi))).elim
      | succ j =>
        simp only [List.getElem?_cons_succ] at hj
        rw [dsts_nodup hn'.1 hi hj hx hy]

def Uniq (ops : Array Oper) : Prop := ∀ {i j : Nat} {x y : Oper} {d : Nat}, ops[i]? = some x → ops[j]? = some y → x.dst = some d → y.dst = some d → i = j

theorem unlisted {listed : Array Bool} {i : Nat} (h : listed.getD i true = false) : listed.getD i false = true → False := by
  intro h2
  rw [Array.getD_eq_getD_getElem?] at h h2
  cases e : listed[i]? with
  | none => rw [e] at h; simp at h
  | some b => rw [e] at h h2; simp at h h2; rw [h] at h2; cases h2

/-- Where nothing stands under the slot's guard, writing it drops nothing. -/
theorem put_plain {listed : Array Bool} {i : Nat} {o : Oper} {g : Option Gs} {v : AV} {us : Upd} (hu : Uniq ops) (hi : ops[i]? = some o) (hl : listed.getD i true = false) (hg : GInv ops listed s) (b : Bool) :
    s.put b o.dst g v us = s.put false o.dst g v us := by
  unfold St.put
  cases hd : o.dst with
  | none => rfl
  | some d =>
    simp only [St.mk.injEq, and_true]
    funext k
    split
    · rfl
    · cases b with
      | false => rfl
      | true =>
        simp only [cond_true, cond_false]
        cases hst : s.t k with
        | mk gk vk =>
          cases gk with
          | none => rfl
          | some gk =>
            simp only [dropG]
            cases hgd : (gk.d == d) with
            | false => rfl
            | true =>
              exfalso
              obtain ⟨j, oj, h1, h2, h3⟩ := hg k gk vk hst
              have e : gk.d = d := by simpa using hgd
              rw [e] at h3
              have := hu h1 hi h3 hd
              subst this
              exact unlisted hl h2

theorem looks_op {o : Oper} {k : Nat} (h : (.tmp k : Operand) ∈ o.op.operands) : k ∈ o.looksAt ops := by
  unfold Oper.looksAt
  refine List.mem_append_left _ (List.mem_filterMap.2 ⟨.tmp k, by simpa using h, rfl⟩)
theorem looks_guard {o : Oper} {j d : Nat} {b : Bool} (h : o.guard = some (j, b)) (hd : (ops[j]?).bind (·.dst) = some d) : d ∈ o.looksAt ops := by
  unfold Oper.looksAt
  refine List.mem_append_right _ ?_
  rw [h]
  simp [hd]

theorem put_t_ne {b : Bool} {o : Oper} {g : Option Gs} {v : AV} {us : Upd} {k : Nat} (hk : o.dst ≠ some k) : (s.put false o.dst g v us).t k = s.t k := by
  unfold St.put
  cases hd : o.dst with
  | none => rfl
  | some d =>
    have : k ≠ d := fun e => hk (by rw [hd, e])
    simp [if_neg this]

theorem guardOf_congr {o : Oper} (ht : ∀ j b d, o.guard = some (j, b) → (ops[j]?).bind (·.dst) = some d → s'.t d = s.t d) : guardOf ops o s' some = guardOf ops o s some := by
  unfold guardOf
  cases hg : o.guard with
  | none => rfl
  | some p =>
    obtain ⟨j, b⟩ := p
    simp only
    cases hd : (ops[j]?).bind (·.dst) with
    | none => rfl
    | some d => simp only [ht j b d hg hd]

theorem updH_none : ∀ {us : Upd} {h : Id → Option Blk} {i : Id}, updH h us i = none → (∀ q ∈ us, q.1 ≠ i) ∧ h i = none
  | [], h, i, e => ⟨by simp, e⟩
  | (j, x) :: us, h, i, e => by
    rw [updH_cons] at e
    obtain ⟨e1, e2⟩ := updH_none e
    by_cases hij : i = j
    · subst hij; rw [upd_same] at e2; cases e2
    · rw [upd_ne _ _ hij] at e2
      refine ⟨fun q hq => ?_, e2⟩
      rcases List.mem_cons.1 hq with rfl | hq
      · exact fun e => hij e.symm
      · exact e1 q hq

theorem namesOk_congr {o : Oper} {g : Option Gs} (he : ∀ x ∈ o.op.operands, s'.get g x = s.get g x) : namesOk ops g o s' = namesOk ops g o s := by
  unfold namesOk
  have key : ∀ l : List Operand, (∀ x ∈ l, s'.get g x = s.get g x) → (l.all fun x => (s'.get g x).ids.all fun i => match i with
    | .s d _ => bound ops o d
    | .c _ => true
    | .g _ _ => false) = (l.all fun x => (s.get g x).ids.all fun i => match i with
    | .s d _ => bound ops o d
    | .c _ => true
    | .g _ _ => false) := by
    intro l
    induction l with
    | nil => intro _; rfl
    | cons x l ih =>
      intro h
      rw [List.all_cons, List.all_cons, h x List.mem_cons_self, ih fun y hy => h y (List.mem_cons_of_mem _ hy)]
  exact key _ fun x hx => he x (by simpa using hx)
theorem namesOk_mem {o : Oper} {g : Option Gs} (hn : namesOk ops g o s = true) {x : Operand} (hx : x ∈ o.op.operands) {d k : Nat} (hi : Id.s d k ∈ (s.get g x).ids) {i : Nat} {oi : Oper} (hoi : ops[i]? = some oi) (hd : oi.dst = some d) :
    ∃ e ∈ o.after, Region.binds .any e = true ∧ (e.on = i ∨ bnd ops 12 e.on i = true) := by
  unfold namesOk at hn
  have h1 := List.all_eq_true.1 hn x (by simpa using hx)
  have h2 := List.all_eq_true.1 h1 _ hi
  simp only at h2
  unfold bound at h2
  have h3 := List.all_eq_true.1 h2 i (List.mem_range.2 (Array.getElem?_eq_some_iff.1 hoi).1)
  rw [hoi] at h3
  simp only [hd, BEq.rfl, Bool.not_true, Bool.false_or] at h3
  obtain ⟨e, he, hb⟩ := Array.any_eq_true'.1 h3
  simp only [Bool.and_eq_true, Bool.or_eq_true, beq_iff_eq] at hb
  exact ⟨e, he, hb.1, hb.2⟩
theorem newOk_mem {o : Oper} {us : Upd} (hn : newOk o us = true) {i : Id} (hi : ∃ q ∈ us, q.1 = i) : ∃ d k, i = .s d k ∧ o.dst = some d := by
  obtain ⟨q, hq, rfl⟩ := hi
  have := List.all_eq_true.1 hn q hq
  split at this
  · rename_i d k e
    exact ⟨d, k, e, by simpa using this⟩
  · simp at this
  · simp at this

theorem updH_comm {us vs : Upd} (hd : ∀ p ∈ us, ∀ q ∈ vs, p.1 ≠ q.1) : ∀ {h : Id → Option Blk}, updH (updH h us) vs = updH (updH h vs) us := by
  induction us with
  | nil => intro h; rfl
  | cons p us ih =>
    intro h
    obtain ⟨i, b⟩ := p
    rw [updH_cons, updH_cons, ih (fun p hp => hd p (List.mem_cons_of_mem _ hp)), updH_swap (fun q hq e => hd (i, b) List.mem_cons_self q hq e.symm)]

def Closed (ops : Array Oper) (listed : Array Bool) : Prop := ∀ k ok, ops[k]? = some ok → listed.getD k false = true → ∀ e ∈ ok.after, Region.binds .any e = true → listed.getD e.on false = true
theorem bnd_false {listed : Array Bool} (hcl : Closed ops listed) {i : Nat} (hi : listed.getD i true = false) : ∀ {n j : Nat} {oj : Oper}, ops[j]? = some oj → (∀ e ∈ oj.after, Region.binds .any e = true → listed.getD e.on false = true) → bnd ops n j i = false
  | 0, j, oj, _, _ => rfl
  | n + 1, j, oj, hj, hall => by
    simp only [bnd, hj]
    rw [Array.any_eq_false']
    intro e he hb
    simp only [Bool.and_eq_true, Bool.or_eq_true, beq_iff_eq] at hb
    obtain ⟨h1, h2⟩ := hb
    have hl := hall e he h1
    rcases h2 with h2 | ⟨_, h2⟩
    · exact unlisted hi (h2 ▸ hl)
    · cases hk : ops[e.on]? with
      | none =>
        cases n with
        | zero => simp [bnd] at h2
        | succ n => simp [bnd, hk] at h2
      | some ok =>
        rw [bnd_false hcl hi hk (hcl e.on ok hk hl)] at h2
        cases h2
theorem st2_spec {a b : Oper} (h : st2 An ops a b = true) : ∃ k k', stA ops a = some k ∧ stA ops b = some k' ∧ k ≠ k' ∧ k ∉ dsts ops.toList ∧ k' ∉ dsts ops.toList := by
  unfold st2 at h
  simp only [Bool.and_eq_true] at h
  obtain ⟨_, h⟩ := h
  split at h
  · rename_i k k' h1 h2
    simp only [Bool.and_eq_true, Bool.not_eq_true', beq_eq_false_iff_ne, ne_eq] at h
    obtain ⟨⟨h3, h4⟩, h5⟩ := h
    exact ⟨k, k', h1, h2, h3, by simpa using h4, by simpa using h5⟩
  · cases h
theorem st2_symm {a b : Oper} (h : st2 An ops a b = true) : st2 An ops b a = true := by
  have h0 := h
  unfold st2 at h0
  simp only [Bool.and_eq_true] at h0
  obtain ⟨k, k', h1, h2, h3, h4, h5⟩ := st2_spec h
  unfold st2
  rw [h1, h2, h0.1]
  simp only [Bool.true_and, Bool.and_eq_true, Bool.not_eq_true', beq_eq_false_iff_ne, ne_eq]
  exact ⟨⟨fun e => h3 e.symm, by simpa using h5⟩, by simpa using h4⟩
theorem stOk_spec {o o' : Oper} {us : Upd} {k k' : Nat} (h : stOk P An ops o s us = true) (hm : o' ∈ ops) (h2 : st2 An ops o o' = true) (hk : stA ops o = some k) (hk' : stA ops o' = some k') :
    (∀ x ∈ o.op.operands, ∀ i ∈ (s.get none x).ids, i ∈ (s.t k).2.ids) ∧ (∀ p ∈ us, p.1 ∈ (s.t k).2.ids) ∧ (∀ p ∈ us, p.1 ∉ (s.t k').2.ids) := by
  have h1 := Array.all_eq_true_iff_forall_mem.1 h o' hm
  simp only [Bool.and_eq_true] at h1
  replace h1 := h1.1.1.1.1
  rw [h2] at h1
  simp only [Bool.not_true, Bool.false_or, stP, hk, hk', Bool.and_eq_true, List.all_eq_true, decide_eq_true_eq] at h1
  obtain ⟨⟨h3, h4⟩, h5⟩ := h1
  exact ⟨fun x hx => h3 x (Array.mem_toList_iff.2 hx), h4, h5⟩
theorem ld2_specB {a b : Oper} (h : ld2 P An ops a b = true) : (∃ k, rootB ops b = some (some k) ∧ k ∉ dsts ops.toList) ∨ rootB ops b = some none := by
  unfold ld2 at h
  simp only [Bool.and_eq_true] at h
  obtain ⟨_, h⟩ := h
  split at h
  · rename_i k hk; exact .inl ⟨k, hk, by simpa using h⟩
  · rename_i hk; exact .inr hk
  · cases h
theorem ld2_specA {a b : Oper} (h : ld2 P An ops a b = true) : a.guard = none ∧ isW P An a = true ∧ isR An a = false ∧ isD An a = false := by
  unfold ld2 at h
  simp only [Bool.and_eq_true] at h
  obtain ⟨⟨_, h⟩, _⟩ := h
  unfold apA at h
  simp only [Bool.and_eq_true, Option.isNone_iff_eq_none] at h
  obtain ⟨⟨h1, h2⟩, h3⟩ := h
  refine ⟨h1, h2, ?_⟩
  split at h3
  · rename_i cl hop
    split at h3
    · rename_i hcal
      simp only [Bool.not_eq_true'] at h3
      simp [isR, isD, hop, hcal, h3]
    · rename_i f hcal
      simp only [Bool.and_eq_true, Option.isNone_iff_eq_none, Bool.not_eq_true'] at h3
      simp [isR, isD, hop, hcal, h3.1, h3.2]
    · cases h3
  · cases h3
theorem rootB_spec {o : Oper} {r : Option Nat} (h : rootB ops o = some r) : o.guard = none ∧ isW P An o = false ∧ isR An o = false ∧ isD An o = false := by
  unfold rootB at h
  split at h
  · rename_i h1 h2; simp [h1, isW, isR, isD, h2]
  · rename_i h1 h2; simp [h1, isW, isR, isD, h2]
  · cases h
theorem rootB_stA {o : Oper} {k : Nat} (h : rootB ops o = some (some k)) : stA ops o = some k := by
  unfold rootB at h
  split at h
  · rename_i h1 h2; simp only [Option.some.injEq] at h; subst h; simp [stA, h1, h2]
  · cases h
  · cases h
theorem isSt_spec {o : Oper} {k : Bool} (h : isSt P o k = true) : ∃ t a y, o.guard = none ∧ o.op = .store t (.tmp a) y := by
  unfold isSt at h
  split at h
  · rename_i t a y h1 h2; exact ⟨t, a, y, h1, h2⟩
  · cases h
theorem storeIn_len {k off : Nat} {l : List T} {xs ys : List (List T)} (h : storeIn k off l xs = some ys) : ys.length = xs.length := by
  unfold storeIn at h
  split at h
  · split at h
    · simp only [Option.some.injEq] at h; subst h; simp
    · cases h
  · cases h
theorem ka_inv {t : TypeId} {a v v' : AV} {us : Upd} (h : storeAV P s t a v (fun u => some (AV.top, u)) = some (v', us)) (hk : ka us = true) :
    ∃ i sz k off j rsz X, a = .el i sz k off ∧ v = .own j ∧ (∃ bb xs, s.h j = some (.sl false rsz bb xs)) ∧ rsz ≠ 1 ∧ us = [(j, .dead), (i, X)] ∧ ∃ b sz' col nx es nx' es', s.h i = some (.rows b sz' col rsz nx es) ∧ X = .rows b sz' col rsz nx' es' ∧ es'.length = es.length := by
  unfold storeAV at h
  cases ht : tyOk P t with
  | false => rw [ht] at h; cases h
  | true =>
    rw [ht, cond_true] at h
    split at h
    · split at h
      · split at h
        · simp only [Option.some.injEq, Prod.mk.injEq] at h; obtain ⟨_, rfl⟩ := h; simp [ka] at hk
        · cases h
      · cases h
    · rename_i i sz k off
      split at h
      · obtain ⟨l, _, h⟩ := Option.bind_eq_some_iff.1 h
        split at h
        · replace h := gdK_some h (.inl rfl); obtain ⟨ys, _, h⟩ := h
          simp only [Option.some.injEq, Prod.mk.injEq] at h; obtain ⟨_, rfl⟩ := h; simp [ka] at hk
        · cases h
      · rename_i b sz' col rsz nx es hi
        split at h
        · rename_i j
          split at h
          · rename_i rsz' b' xs hj
            split at h
            · rename_i hc
              have hrr := hc.2.2.1
              subst hrr
              replace h := gdK_some h (.inl rfl); obtain ⟨e, _, h⟩ := h
              simp only [Option.some.injEq, Prod.mk.injEq] at h; obtain ⟨_, rfl⟩ := h
              refine ⟨i, sz, k, off, j, rsz', _, rfl, rfl, ⟨_, _, hj⟩, ?_, rfl, b, sz', col, nx, es, _, _, hi, by rw [show sz = sz' from hc.1.symm], by simp⟩
              simpa [ka] using hk
            · cases h
          · cases h
        · cases h
      · cases h
    · split at h
      · replace h := gdK_some h (.inl rfl); obtain ⟨p, _, h⟩ := h
        obtain ⟨l, _, h⟩ := Option.bind_eq_some_iff.1 h
        split at h
        · replace h := gdK_some h (.inl rfl); obtain ⟨ys, _, h⟩ := h
          simp only [Option.some.injEq, Prod.mk.injEq] at h; obtain ⟨_, rfl⟩ := h; simp [ka] at hk
        · cases h
      · cases h
    · cases h
theorem kb_inv {t : TypeId} {a v v' : AV} {us : Upd} (h : storeAV P s t a v (fun u => some (AV.top, u)) = some (v', us)) (hk : kb us = true) :
    ∃ i sz k off b ys, a = .el i sz k off ∧ (∃ xs, s.h i = some (.sl false 1 b xs) ∧ ys.length = xs.length) ∧ us = [(i, .sl false 1 b ys)] := by
  unfold storeAV at h
  cases ht : tyOk P t with
  | false => rw [ht] at h; cases h
  | true =>
    rw [ht, cond_true] at h
    split at h
    · split at h
      · split at h
        · simp only [Option.some.injEq, Prod.mk.injEq] at h; obtain ⟨_, rfl⟩ := h; simp [kb] at hk
        · cases h
      · cases h
    · rename_i i sz k off
      split at h
      · rename_i sz' b xs hi
        obtain ⟨l, _, h⟩ := Option.bind_eq_some_iff.1 h
        split at h
        · rename_i hc
          obtain ⟨hsz, _, _⟩ := hc
          subst hsz
          replace h := gdK_some h (.inl rfl); obtain ⟨ys, hys, h⟩ := h
          simp only [Option.some.injEq, Prod.mk.injEq] at h; obtain ⟨_, rfl⟩ := h
          cases hf : frz s.h v with
          | cons q r => rw [hf] at hk; simp [kb] at hk
          | nil =>
            rw [hf] at hk
            simp only [kb, beq_iff_eq] at hk
            subst hk
            exact ⟨_, _, _, _, _, _, rfl, ⟨_, hi, storeIn_len hys⟩, rfl⟩
        · cases h
      · split at h
        · split at h
          · split at h
            · replace h := gdK_some h (.inl rfl); obtain ⟨e, _, h⟩ := h
              simp only [Option.some.injEq, Prod.mk.injEq] at h; obtain ⟨_, rfl⟩ := h; simp [kb] at hk
            · cases h
          · cases h
        · cases h
      · cases h
    · split at h
      · replace h := gdK_some h (.inl rfl); obtain ⟨p, _, h⟩ := h
        obtain ⟨l, _, h⟩ := Option.bind_eq_some_iff.1 h
        split at h
        · replace h := gdK_some h (.inl rfl); obtain ⟨ys, _, h⟩ := h
          simp only [Option.some.injEq, Prod.mk.injEq] at h; obtain ⟨_, rfl⟩ := h; simp [kb] at hk
        · cases h
      · cases h
    · cases h
/-- A store, as it is. -/
theorem store_op {o : Oper} {t : TypeId} {a : Nat} {y : Operand} {v : AV} {us : Upd} (hop : o.op = .store t (.tmp a) y) (h : aopD P An Or none o s = some (v, us)) : storeAV P s t (s.get none (.tmp a)) (s.get none y) (fun u => some (AV.top, u)) = some (v, us) := by
  unfold aopD aop at h
  rw [hop] at h
  exact h
/-- Where both stores go is apart, whatever the order. -/
theorem st4_apart {a b : Oper} (hl : st4 P An ops a b = true) (ha : a ∈ ops) (hb : b ∈ ops) {s1 s2 : St} {va vb : AV} {ua ub : Upd} (ea : aopD P An Or none a s1 = some (va, ua)) (eb : aopD P An Or none b s2 = some (vb, ub))
    (oka : stOk P An ops a s1 ua = true) (okb : stOk P An ops b s2 ub = true) (hh : s2.h = updH s1.h ua ∨ s1.h = updH s2.h ub) :
    (∀ p ∈ ua, ∀ q ∈ ub, p.1 ≠ q.1) ∧ (∀ x ∈ a.op.operands, ∀ i ∈ (s1.get none x).ids, ∃ p ∈ ua, p.1 = i) ∧ (∀ x ∈ b.op.operands, ∀ i ∈ (s2.get none x).ids, ∃ p ∈ ub, p.1 = i) := by
  have h1 := Array.all_eq_true_iff_forall_mem.1 oka b hb
  have h2 := Array.all_eq_true_iff_forall_mem.1 okb a ha
  simp only [Bool.and_eq_true] at h1 h2
  replace h1 := h1.1.2.1
  replace h2 := h2.1.2.2
  rw [hl] at h1 h2
  simp only [Bool.not_true, Bool.false_or, Bool.and_eq_true] at h1 h2
  simp only [st4, Bool.and_eq_true] at hl
  obtain ⟨ta, xa, ya, ga, opa⟩ := isSt_spec hl.1.2
  obtain ⟨tb, xb, yb, gb, opb⟩ := isSt_spec hl.2
  obtain ⟨i, sz, k, off, j, rsz, X, a1, a2, ⟨_, _, a4⟩, a5, rfl, _, _, _, _, _, _, _, a3, rfl, _⟩ := ka_inv (store_op opa ea) h1
  obtain ⟨i', sz', k', off', b', ys', b1, ⟨_, b2, _⟩, rfl⟩ := kb_inv (store_op opb eb) h2.1
  have hbare := h2.2
  simp only [bare, opb, List.isEmpty_iff] at hbare
  have ne : i' ≠ i ∧ i' ≠ j := by
    rcases hh with hh | hh
    · rw [hh, updH_cons, updH_one] at b2
      constructor
      · rintro rfl; rw [upd_same] at b2; cases b2
      · intro e
        by_cases e2 : i' = i
        · rw [e2, upd_same] at b2; cases b2
        · rw [upd_ne _ _ e2, e, upd_same] at b2; cases b2
    · rw [hh, updH_one] at a3 a4
      constructor
      · rintro rfl; rw [upd_same] at a3; cases a3
      · rintro rfl; rw [upd_same] at a4
        simp only [Option.some.injEq, Blk.sl.injEq] at a4
        exact a5 a4.2.1.symm
  refine ⟨fun p hp q hq e => ?_, fun x hx id hid => ?_, fun x hx id hid => ?_⟩
  · simp only [List.mem_cons, List.not_mem_nil, or_false] at hp hq
    subst hq
    rcases hp with rfl | rfl
    · exact ne.2 e.symm
    · exact ne.1 e.symm
  · simp only [opa, Op.operands] at hx
    have hx : x = .tmp xa ∨ x = ya := by simpa using hx
    rcases hx with rfl | rfl
    · rw [a1] at hid
      simp only [AV.ids, List.mem_singleton] at hid; subst hid
      exact ⟨_, List.mem_cons_of_mem _ (List.mem_singleton.2 rfl), rfl⟩
    · rw [a2] at hid
      simp only [AV.ids, List.mem_singleton] at hid; subst hid
      exact ⟨_, List.mem_cons_self, rfl⟩
  · simp only [opb, Op.operands] at hx
    have hx : x = .tmp xb ∨ x = yb := by simpa using hx
    rcases hx with rfl | rfl
    · rw [b1] at hid
      simp only [AV.ids, List.mem_singleton] at hid; subst hid
      exact ⟨_, List.mem_cons_self, rfl⟩
    · rw [hbare] at hid; cases hid
theorem isIx_spec {o : Oper} (h : isIx P o = true) : ∃ a, o.guard = none ∧ ((∃ t e n, o.op = .indexAddr t (.tmp a) n ∧ elemT P t = some e ∧ P.cellsOf e = 1) ∨ ∃ t, o.op = .load t (.tmp a)) := by
  unfold isIx at h
  split at h
  · rename_i t a n h1 h2
    split at h
    · rename_i e he; exact ⟨a, h1, .inl ⟨t, e, n, h2, he, by simpa using h⟩⟩
    · cases h
  · rename_i t a h1 h2; exact ⟨a, h1, .inr ⟨t, h2⟩⟩
  · cases h
/-- The lengths of slices are as they were, but for one that is gone. -/
def IxSame (h h' : Id → Option Blk) : Prop := ∀ m, h' m = h m ∨ (∃ fz sz b xs fz' b' xs', h m = some (.sl fz sz b xs) ∧ h' m = some (.sl fz' sz b' xs') ∧ xs'.length = xs.length) ∨
  (∃ b sz col rsz nx es nx' es', h m = some (.rows b sz col rsz nx es) ∧ h' m = some (.rows b sz col rsz nx' es') ∧ es'.length = es.length) ∨ ∃ sz b xs, sz ≠ 1 ∧ h m = some (.sl false sz b xs) ∧ h' m = some .dead
theorem IxSame.index {t e : TypeId} {m : Id} {n : Int} {K : AV → Option (AV × Upd)} {r : AV × Upd} (H : IxSame s.h s'.h) (he : elemT P t = some e) (hc : P.cellsOf e = 1) : indexAddrAV P s none t (.own m) n K = some r ↔ indexAddrAV P s' none t (.own m) n K = some r := by
  unfold indexAddrAV
  simp only [he]
  rcases H m with h | ⟨_, _, _, _, _, _, _, h1, h2, h3⟩ | ⟨_, _, _, _, _, _, _, _, h1, h2, h3⟩ | ⟨sz, _, _, h0, h1, h2⟩
  · rw [h]
  · rw [h1, h2]; simp only [h3]
  · rw [h1, h2]; simp only [h3]
  · rw [h1, h2]
    simp only [hc, if_neg h0, reduceCtorEq]
theorem IxSame.load {t : TypeId} {m : Id} {off : Nat} {K : AV → Option (AV × Upd)} {r : AV × Upd} (H : IxSame s.h s'.h) : loadAV P s none t (.ref m off) K = some r ↔ loadAV P s' none t (.ref m off) K = some r := by
  unfold loadAV
  rcases H m with h | ⟨_, _, _, _, _, _, _, h1, h2, h3⟩ | ⟨_, _, _, _, _, _, _, _, h1, h2, h3⟩ | ⟨sz, _, _, h0, h1, h2⟩
  · simp only [h]
  · simp only [h1, h2]
  · simp only [h1, h2]
  · simp only [h1, h2]
theorem IxSame.store {t : TypeId} {a v v' : AV} {us : Upd} (h : storeAV P s t a v (fun u => some (AV.top, u)) = some (v', us)) (hk : ka us = true ∨ kb us = true) : IxSame s.h (updH s.h us) := by
  rcases hk with hk | hk
  · obtain ⟨i, sz, k, off, j, rsz, X, _, _, ⟨_, _, a4⟩, a5, rfl, _, _, _, _, _, _, _, a3, rfl, a6⟩ := ka_inv h hk
    intro m
    rw [updH_cons, updH_one]
    by_cases e1 : m = i
    · subst e1; exact .inr (.inr (.inl ⟨_, _, _, _, _, _, _, _, a3, upd_same _ _ _, a6⟩))
    · rw [upd_ne _ _ e1]
      by_cases e2 : m = j
      · subst e2; exact .inr (.inr (.inr ⟨_, _, _, a5, a4, upd_same _ _ _⟩))
      · rw [upd_ne _ _ e2]; exact .inl rfl
  · obtain ⟨i, _, _, _, _, _, _, ⟨_, b2, b3⟩, rfl⟩ := kb_inv h hk
    intro m
    rw [updH_one]
    by_cases e1 : m = i
    · subst e1; exact .inr (.inl ⟨_, _, _, _, _, _, _, b2, upd_same _ _ _, b3⟩)
    · rw [upd_ne _ _ e1]; exact .inl rfl
/-- An address is the same before and behind such a store. -/
theorem st5_same {a b : Oper} (hl : st5 P An ops a b = true) (ha : a ∈ ops) (hb : b ∈ ops) {s1 s2 s3 : St} {va : AV} {ua : Upd} {ub : Upd} (ea : aopD P An Or none a s1 = some (va, ua)) (oka : stOk P An ops a s1 ua = true) (okb : stOk P An ops b s3 ub = true)
    (hh : s2.h = updH s1.h ua) (hget : ∀ x ∈ b.op.operands, s2.get none x = s1.get none x) (hg3 : ∀ x ∈ b.op.operands, s3.get none x = s1.get none x) (r : AV × Upd) : aopD P An Or none b s1 = some r ↔ aopD P An Or none b s2 = some r := by
  have h1 := Array.all_eq_true_iff_forall_mem.1 oka b hb
  have h2 := Array.all_eq_true_iff_forall_mem.1 okb a ha
  simp only [Bool.and_eq_true] at h1 h2
  replace h1 := h1.2.1
  replace h2 := h2.2.2
  rw [hl] at h1 h2
  simp only [Bool.not_true, Bool.false_or, Bool.or_eq_true] at h1 h2
  simp only [st5, Bool.and_eq_true, Bool.or_eq_true] at hl
  obtain ⟨ta, xa, ya, ga, opa⟩ : ∃ t x y, a.guard = none ∧ a.op = .store t (.tmp x) y := by
    rcases hl.1.2 with h | h <;> exact isSt_spec h
  have H := IxSame.store (store_op opa ea) h1
  rw [← hh] at H
  obtain ⟨xb, gb, ⟨tb, e, n, opb, he, hc⟩ | ⟨tb, opb⟩⟩ := isIx_spec hl.2
  case inr =>
    simp only [ownX, opb] at h2
    rw [hg3 (.tmp xb) (by simp [opb, Op.operands])] at h2
    split at h2
    · rename_i m off hm
      unfold aopD aop
      rw [opb]
      dsimp only
      rw [hget (.tmp xb) (by simp [opb, Op.operands]), hm]
      exact H.load
    · cases h2
  simp only [ownX, opb] at h2
  rw [hg3 (.tmp xb) (by simp [opb, Op.operands])] at h2
  split at h2
  · rename_i m hm
    unfold aopD aop
    rw [opb]
    dsimp only
    rw [hget (.tmp xb) (by simp [opb, Op.operands]), hget n (by simp [opb, Op.operands]), hm]
    unfold int1
    cases (s1.get none n).t? with
    | none => exact Iff.rfl
    | some y =>
      simp only [Option.bind_some]
      cases boundAV.anyInt y with
      | none => exact Iff.rfl
      | some z =>
        change (indexAddrAV P s1 none tb (AV.own m) z fun v => some (v, [])) = some r ↔ (indexAddrAV P s2 none tb (AV.own m) z fun v => some (v, [])) = some r
        exact H.index he hc
  · cases h2
/-- What the one changes is not what the other one looks at. -/
theorem ld_apart {a b : Oper} {s1 s2 : St} {us : Upd} {u2 : Upd} (hl : ld2 P An ops a b = true) (ha : a ∈ ops) (hb : b ∈ ops) (oka : stOk P An ops a s1 us = true) (okb : stOk P An ops b s2 u2 = true) (ht : ∀ k, k ∉ dsts ops.toList → (s1.t k).2 = (s2.t k).2) :
    ∀ x ∈ b.op.operands, ∀ i ∈ (s2.get none x).ids, ∀ q ∈ us, q.1 ≠ i := by
  have h1 := Array.all_eq_true_iff_forall_mem.1 oka b hb
  have h2 := Array.all_eq_true_iff_forall_mem.1 okb a ha
  simp only [Bool.and_eq_true] at h1 h2
  replace h1 := h1.1.1.1.2
  replace h2 := h2.1.1.2
  rw [hl] at h1 h2
  simp only [Bool.not_true, Bool.false_or] at h1 h2
  rcases ld2_specB hl with ⟨k, hk, hd⟩ | hk
  · simp only [ldA, ldB, hk, List.all_eq_true, decide_eq_true_eq] at h1 h2
    intro x hx i hi q hq e
    have := h2 x (Array.mem_toList_iff.2 hx) i hi
    rw [← ht k hd, ← e] at this
    exact h1 q hq this
  · simp only [ldB, hk, List.all_eq_true, List.isEmpty_iff] at h2
    intro x hx i hi
    rw [h2 x (Array.mem_toList_iff.2 hx)] at hi
    cases hi
theorem stOk_move {o : Oper} {us : Upd} (ht : ∀ k, k ∉ dsts ops.toList → s'.t k = s.t k) (hg : ∀ k, stA ops o = some k ∨ rootB ops o = some none → ∀ x ∈ o.op.operands, s'.get none x = s.get none x) (hx5 : o.guard = none → ∀ x ∈ o.op.operands, s'.get none x = s.get none x) (h : stOk P An ops o s us = true) : stOk P An ops o s' us = true := by
  refine Array.all_eq_true_iff_forall_mem.2 fun o' hm => ?_
  have h0 := Array.all_eq_true_iff_forall_mem.1 h o' hm
  simp only [Bool.and_eq_true] at h0 ⊢
  obtain ⟨⟨⟨⟨h1, ha⟩, hb⟩, hc, hd4⟩, he5, hf5⟩ := h0
  refine ⟨⟨⟨⟨?_, ?_⟩, ?_⟩, hc, ?_⟩, he5, ?_⟩
  · cases h2 : st2 An ops o o' with
    | false => rfl
    | true =>
      obtain ⟨k, k', hk, hk', hne, d1, d2⟩ := st2_spec h2
      rw [h2] at h1
      simp only [Bool.not_true, Bool.false_or, stP, hk, hk', Bool.and_eq_true, List.all_eq_true] at h1 ⊢
      rw [ht k d1, ht k' d2]
      refine ⟨⟨fun x hx => ?_, h1.1.2⟩, h1.2⟩
      rw [hg k (.inl hk) x (Array.mem_toList_iff.1 hx)]
      exact h1.1.1 x hx
  · cases h2 : ld2 P An ops o o' with
    | false => rfl
    | true =>
      rw [h2] at ha
      simp only [Bool.not_true, Bool.false_or] at ha ⊢
      rcases ld2_specB h2 with ⟨k, hk, hd⟩ | hk
      · simp only [ldA, hk] at ha ⊢; rw [ht k hd]; exact ha
      · simp only [ldA, hk]
  · cases h2 : ld2 P An ops o' o with
    | false => rfl
    | true =>
      rw [h2] at hb
      simp only [Bool.not_true, Bool.false_or] at hb ⊢
      rcases ld2_specB h2 with ⟨k, hk, hd⟩ | hk
      · simp only [ldB, hk, List.all_eq_true] at hb ⊢
        rw [ht k hd]
        intro x hx
        rw [hg k (.inl (rootB_stA hk)) x (Array.mem_toList_iff.1 hx)]
        exact hb x hx
      · simp only [ldB, hk, List.all_eq_true] at hb ⊢
        intro x hx
        rw [hg 0 (.inr hk) x (Array.mem_toList_iff.1 hx)]
        exact hb x hx
  · cases h4 : st4 P An ops o' o with
    | false => rfl
    | true =>
      rw [h4] at hd4
      simp only [Bool.not_true, Bool.false_or, Bool.and_eq_true] at hd4 ⊢
      refine ⟨hd4.1, ?_⟩
      have hb2 := hd4.2
      simp only [st4, Bool.and_eq_true] at h4
      obtain ⟨t, a, y, hg0, hop⟩ := isSt_spec h4.2
      have hk : stA ops o = some (rootA ops a) := by simp [stA, hg0, hop]
      simp only [bare, hop] at hb2 ⊢
      rw [hg _ (.inl hk) y (by simp [hop, Op.operands])]
      exact hb2
  · cases h5 : st5 P An ops o' o with
    | false => rfl
    | true =>
      rw [h5] at hf5
      simp only [Bool.not_true, Bool.false_or] at hf5 ⊢
      simp only [st5, Bool.and_eq_true] at h5
      obtain ⟨a, hg0, ⟨t, e, n, hop, _, _⟩ | ⟨t, hop⟩⟩ := isIx_spec h5.2
      · simp only [ownX, hop] at hf5 ⊢
        rw [hx5 hg0 (.tmp a) (by simp [hop, Op.operands])]
        exact hf5
      · simp only [ownX, hop] at hf5 ⊢
        rw [hx5 hg0 (.tmp a) (by simp [hop, Op.operands])]
        exact hf5
/-- Two operations that nothing binds may change places. -/
theorem swap {listed : Array Bool} {i j : Nat} {oi oj : Oper} (hu : Uniq ops) (hgk : guardsOk ops = true) (hi : ops[i]? = some oi) (hj : ops[j]? = some oj) (hne : j ≠ i) (hri : i ∈ Region.ready .any ops listed) (hrj : j ∈ Region.ready .any ops listed)
    (hcl : Closed ops listed) (hap : oi.apart ops oj = true) (hcm0' : compat P An oi oj = true ∨ st3 P An ops oi oj = true) (hG : GInv ops listed s) (e1 : oneD P An Or true nt ops oi s = some s1) (e2 : oneD P An Or true nt ops oj s1 = some s2) :
    ∃ sj, oneD P An Or true nt ops oj s = some sj ∧ oneD P An Or true nt ops oi sj = some s2 := by
  obtain ⟨gi, vi, usi, wi, rfl⟩ := oneD_went e1
  obtain ⟨gj, vj, usj, wj, rfl⟩ := oneD_went e2
  obtain ⟨hli, oi', hi', hai⟩ := mem_ready.1 hri
  rw [hi] at hi'; simp only [Option.some.injEq] at hi'; subst hi'
  obtain ⟨hlj, oj', hj', haj⟩ := mem_ready.1 hrj
  rw [hj] at hj'; simp only [Option.some.injEq] at hj'; subst hj'
  obtain ⟨a1, a2, a3⟩ := Oper.apart_spec hap
  have behind : ∀ (o : Oper) (m : Nat), listed.getD m true = false → (∀ e ∈ o.after, Region.binds .any e = true → listed.getD e.on false = true) → ∀ e ∈ o.after, Region.binds .any e = true → ¬ (e.on = m ∨ bnd ops 12 e.on m = true) := by
    intro o m hlm hall e he hb h
    rcases h with h | h
    · exact unlisted hlm (h ▸ hall e he hb)
    · have hl := hall e he hb
      cases hk : ops[e.on]? with
      | none => simp [bnd, hk] at h
      | some ok =>
        rw [bnd_false hcl hlm hk (hcl e.on ok hk hl)] at h
        cases h
  have noti := behind oj i hli haj
  have notj := behind oi j hlj hai
  have wiok := wi.ok
  have wjok := wj.ok
  simp only [okOp, Bool.not_true, Bool.false_or, Bool.and_eq_true] at wiok wjok
  obtain ⟨⟨⟨i1, i2⟩, i3⟩, ⟨⟨⟨⟨⟨i4, i5⟩, i6⟩, i7⟩, i8⟩, i9⟩, i10⟩ := wiok
  obtain ⟨⟨⟨j1, j2⟩, j3⟩, ⟨⟨⟨⟨⟨j4, j5⟩, j6⟩, j7⟩, j8⟩, j9⟩, j10⟩ := wjok
  have pli := put_plain (g := gi) (v := vi) (us := usi) hu hi hli hG (asksG ops oi.dst)
  -- the values of oj's operands
  have tj : ∀ k, k ∈ oj.looksAt ops → (s.put (asksG ops oi.dst) oi.dst gi vi usi).t k = s.t k := by
    intro k hk
    rw [pli]
    exact put_t_ne (b := false) fun e => a1 k e hk
  have ti : ∀ (g : Option Gs) (v : AV) (us : Upd) k, k ∈ oi.looksAt ops → (s.put false oj.dst g v us).t k = s.t k := fun g v us k hk => put_t_ne (b := false) fun e => a3 k e hk
  have gj' : guardOf ops oj s some = some gj := by
    rw [← wj.guard]
    exact (guardOf_congr fun x b d h1 h2 => tj d (looks_guard h1 h2)).symm
  have getj : ∀ x ∈ oj.op.operands, (s.put (asksG ops oi.dst) oi.dst gi vi usi).get gj x = s.get gj x := fun x hx => get_congr fun k e => tj k (looks_op (e ▸ hx))
  have nj : namesOk ops gj oj s = true := by
    rw [← j4]
    exact (namesOk_congr getj).symm
  have a2' : ∀ d, oj.dst = some d → oi.dst ≠ some d := fun d h h' => a2 d h' h
  have guardA : ∀ (o : Oper) (g : Option Gs) (s0 : St) (k : Nat), stA ops o = some k → guardOf ops o s0 some = some g → g = none ∧ isR An o = false ∧ isD An o = false := by
    intro o g s0 k h hg
    unfold stA at h
    split at h
    · rename_i h1 h2
      unfold guardOf at hg
      rw [h1] at hg
      simp only [Option.some.injEq] at hg
      exact ⟨hg.symm, by simp [isR, h2], by simp [isD, h2]⟩
    · rename_i h1 h2
      unfold guardOf at hg
      rw [h1] at hg
      simp only [Option.some.injEq] at hg
      exact ⟨hg.symm, by simp [isR, h2], by simp [isD, h2]⟩
    · cases h
  have al_w : ∀ o : Oper, isAl o = true → isW P An o = false := by
    intro o h
    cases hop : o.op <;> simp only [isAl, hop, Bool.false_eq_true] at h <;> simp [isW, hop]
  have w_r : ∀ o : Oper, isW P An o = false → isR An o = false := by
    intro o h
    cases hr : isR An o with
    | false => rfl
    | true =>
      exfalso
      cases hop : o.op <;> simp only [isR, hop, Bool.false_eq_true] at hr
      rename_i cl
      cases hcal : cl.callee <;> simp only [hcal, Bool.false_eq_true] at hr
      rename_i fo
      simp only [isW, hop, hcal] at h
      cases fo with
      | func f =>
        dsimp only at h hr
        cases hb : An.bref f with
        | none => rw [hb] at hr; simp at hr
        | some x => rw [hb] at h; simp at h
      | _ => simp at h
  -- what an operation that changes memory changes was not made by the other one
  have notmine : ∀ (o : Oper) (us : Upd) (m : Nat) (om : Oper), ops[m]? = some om → (∀ e ∈ o.after, Region.binds .any e = true → ¬ (e.on = m ∨ bnd ops 12 e.on m = true)) → usOk ops o us = true → (∀ d, om.dst = some d → o.dst ≠ some d) → ∀ q ∈ us, ∀ d k, om.dst = some d → q.1 ≠ .s d k := by
    intro o us m om hm hnot hok hdst q hq d k hd e
    have h1 := List.all_eq_true.1 hok q hq
    rw [e] at h1
    simp only [Bool.or_eq_true] at h1
    rcases h1 with h1 | h1
    · unfold bound at h1
      have h3 := List.all_eq_true.1 h1 m (List.mem_range.2 (Array.getElem?_eq_some_iff.1 hm).1)
      rw [hm] at h3
      simp only [hd, BEq.rfl, Bool.not_true, Bool.false_or] at h3
      obtain ⟨e', he, hb⟩ := Array.any_eq_true'.1 h3
      simp only [Bool.and_eq_true, Bool.or_eq_true, beq_iff_eq] at hb
      exact hnot e' he hb.1 hb.2
    · exact hdst d hd (by simpa using h1)
  -- what oj looks at was there
  have ltd : ∀ (o : Oper), (match o.dst with | some d => decide (d < nt) | none => true) = true → Nat.ble nt 1000000 = true → ∀ d, o.dst = some d → d < 1000000 := by
    intro o h1 h2 d hd
    rw [hd] at h1
    simp only [decide_eq_true_eq] at h1
    exact Nat.lt_of_lt_of_le h1 (Nat.le_of_ble_eq_true h2)
  have guardB : ∀ (o : Oper) (g : Option Gs) (s0 : St) (k : Nat), (stA ops o = some k ∨ rootB ops o = some none) → guardOf ops o s0 some = some g → g = none := by
    intro o g s0 k h hg
    rcases h with h | h
    · exact (guardA o g s0 k h hg).1
    · have h1 := (rootB_spec (P := P) (An := An) h).1
      unfold guardOf at hg
      rw [h1] at hg
      simp only [Option.some.injEq] at hg
      exact hg.symm
  have three : aopD P An Or gj oj s = some (vj, usj) ∧ aopD P An Or gi oi (s.put false oj.dst gj vj usj) = some (vi, usi) ∧ (∀ p ∈ usi, ∀ q ∈ usj, p.1 ≠ q.1) := by
    rcases hcm0' with hcm | hst
    · skip
      have hcm0 := hcm
      unfold compat at hcm0
      simp only [Bool.and_eq_true] at hcm0
      obtain ⟨⟨hcm1, hcd1⟩, hcd2⟩ := hcm0
      have hcm' : (isW P An oi = false ∨ isPure P oj = true ∨ isAl oj = true) ∧ (isW P An oj = false ∨ isPure P oi = true ∨ isAl oi = true) := by
        simp only [Bool.not_eq_true', Bool.or_eq_false_iff, Bool.and_eq_false_iff, Bool.not_eq_false', Bool.or_eq_true] at hcm1
        exact hcm1
      have hdi : isD An oi = false ∨ usj = [] := by
        simp only [Bool.or_eq_true, Bool.not_eq_true'] at hcd1
        rcases hcd1 with h | h
        · exact .inl h
        · right; simpa [h] using j7
      have hdj : isD An oj = false ∨ usi = [] := by
        simp only [Bool.or_eq_true, Bool.not_eq_true'] at hcd2
        rcases hcd2 with h | h
        · exact .inl h
        · right; simpa [h] using i7
      have purei : isPure P oi = true → usi = [] := fun h => by simpa [h] using i6
      have purej : isPure P oj = true → usj = [] := fun h => by simpa [h] using j6
      have opj : aopD P An Or gj oj s = some (vj, usj) := by
        have old : isPure P oj = true ∨ isAl oj = true ∨ updH s.h usi = s.h ∨ (isR An oj = false ∧ isD An oj = false ∧ ∀ x ∈ oj.op.operands, ∀ id ∈ (s.get gj x).ids, updH s.h usi id = s.h id) → aopD P An Or gj oj s = some (vj, usj) := by
          intro h
          rw [← wj.op]
          exact (aopD_congr (s := s) (s' := s.put (asksG ops oi.dst) oi.dst gi vi usi) (fun x hx k e => tj k (looks_op (e ▸ hx))) h).symm
        rcases hcm'.1 with hw | hp | hp
        case inr.inl => exact old (.inl hp)
        case inr.inr => exact old (.inr (.inl hp))
        have hnew : newOk oi usi = true := by simpa [hw] using i5
        have direct : ∀ x ∈ oj.op.operands, ∀ id ∈ (s.get gj x).ids, ∀ q ∈ usi, q.1 ≠ id := by
          intro x hx id hid q hq e
          obtain ⟨d, k, e1, e2⟩ := newOk_mem hnew ⟨q, hq, e⟩
          subst e1
          obtain ⟨ed, he, hb, ho⟩ := namesOk_mem nj hx hid hi e2
          exact noti ed he hb ho
        rcases hdj with hdj | hdj
        case inr => exact old (.inr (.inr (.inl (by rw [hdj]; rfl))))
        rcases hcm'.2 with hwj | hpi | hai'
        · exact old (.inr (.inr (.inr ⟨w_r oj hwj, hdj, fun x hx id hid => updH_other fun q hq e => direct x hx id hid q hq e⟩)))
        · exact old (.inr (.inr (.inl (by rw [purei hpi]; rfl))))
        · cases hwj : isW P An oj with
          | false => exact old (.inr (.inr (.inr ⟨w_r oj hwj, hdj, fun x hx id hid => updH_other fun q hq e => direct x hx id hid q hq e⟩)))
          | true =>
            have hus : usOk ops oj usj = true := by simpa [hwj] using j8
            refine aopD_agree (s := s.put (asksG ops oi.dst) oi.dst gi vi usi) (s' := s) (N := fun i => ∃ q ∈ usi, q.1 = i) (fun x hx k e => (tj k (looks_op (e ▸ hx))).symm) (fun i hi => ?_) hdj (fun x hx id hid => ?_) (fun k => ?_) (fun p hp => ?_) wj.op
            · exact (updH_other fun q hq e => hi ⟨q, hq, e⟩).symm
            · rw [getj x hx] at hid
              rintro ⟨q, hq, e⟩
              exact direct x hx id hid q hq e
            · rintro ⟨q, hq, e⟩
              obtain ⟨d, k', e1, e2⟩ := newOk_mem hnew ⟨q, hq, e⟩
              simp only [Id.s.injEq] at e1
              have h := ltd oi i1 i9 d e2
              rw [← e1.1] at h
              exact absurd h (Nat.not_lt.2 (Nat.le_trans (by decide) (Nat.le_add_right 2000000 _)))
            · rintro ⟨q, hq, e⟩
              obtain ⟨d, k', e1, e2⟩ := newOk_mem hnew ⟨q, hq, rfl⟩
              exact notmine oj usj i oi hi noti hus a2 p hp d k' e2 (by rw [← e, e1])
      have opi : aopD P An Or gi oi (s.put false oj.dst gj vj usj) = some (vi, usi) := by
        have old : isPure P oi = true ∨ isAl oi = true ∨ updH s.h usj = s.h ∨ (isR An oi = false ∧ isD An oi = false ∧ ∀ x ∈ oi.op.operands, ∀ id ∈ (s.get gi x).ids, updH s.h usj id = s.h id) → aopD P An Or gi oi (s.put false oj.dst gj vj usj) = some (vi, usi) := by
          intro h
          rw [← wi.op]
          exact aopD_congr (fun x hx k e => ti _ _ _ k (looks_op (e ▸ hx))) h
        rcases hcm'.2 with hw | hp | hp
        case inr.inl => exact old (.inl hp)
        case inr.inr => exact old (.inr (.inl hp))
        have hnew : newOk oj usj = true := by simpa [hw] using j5
        have direct : ∀ x ∈ oi.op.operands, ∀ id ∈ (s.get gi x).ids, ∀ q ∈ usj, q.1 ≠ id := by
          intro x hx id hid q hq e
          obtain ⟨d, k, e1, e2⟩ := newOk_mem hnew ⟨q, hq, e⟩
          subst e1
          obtain ⟨ed, he, hb, ho⟩ := namesOk_mem i4 hx hid hj e2
          exact notj ed he hb ho
        rcases hdi with hdi | hdi
        case inr => exact old (.inr (.inr (.inl (by rw [hdi]; rfl))))
        rcases hcm'.1 with hwi | hpj | haj'
        · exact old (.inr (.inr (.inr ⟨w_r oi hwi, hdi, fun x hx id hid => updH_other fun q hq e => direct x hx id hid q hq e⟩)))
        · exact old (.inr (.inr (.inl (by rw [purej hpj]; rfl))))
        · cases hwi : isW P An oi with
          | false => exact old (.inr (.inr (.inr ⟨w_r oi hwi, hdi, fun x hx id hid => updH_other fun q hq e => direct x hx id hid q hq e⟩)))
          | true =>
            have hus : usOk ops oi usi = true := by simpa [hwi] using i8
            refine aopD_agree (s := s) (s' := s.put false oj.dst gj vj usj) (N := fun i => ∃ q ∈ usj, q.1 = i) (fun x hx k e => ti _ _ _ k (looks_op (e ▸ hx))) (fun i hi => ?_) hdi (fun x hx id hid => ?_) (fun k => ?_) (fun p hp => ?_) wi.op
            · exact updH_other fun q hq e => hi ⟨q, hq, e⟩
            · rintro ⟨q, hq, e⟩
              exact direct x hx id hid q hq e
            · rintro ⟨q, hq, e⟩
              obtain ⟨d, k', e1, e2⟩ := newOk_mem hnew ⟨q, hq, e⟩
              simp only [Id.s.injEq] at e1
              have h := ltd oj j1 j9 d e2
              rw [← e1.1] at h
              exact absurd h (Nat.not_lt.2 (Nat.le_trans (by decide) (Nat.le_add_right 2000000 _)))
            · rintro ⟨q, hq, e⟩
              obtain ⟨d, k', e1, e2⟩ := newOk_mem hnew ⟨q, hq, rfl⟩
              exact notmine oi usi j oj hj notj hus a2' p hp d k' e2 (by rw [← e, e1])
      have disj : ∀ p ∈ usi, ∀ q ∈ usj, p.1 ≠ q.1 := by
        intro p hp q hq e
        rcases hcm'.1 with hw | hpj | haj'
        · rcases hcm'.2 with hw' | hpi | hai'
          · obtain ⟨d, k, e1, e2⟩ := newOk_mem (by simpa [hw] using i5 : newOk oi usi = true) ⟨p, hp, rfl⟩
            obtain ⟨d', k', e3, e4⟩ := newOk_mem (by simpa [hw'] using j5 : newOk oj usj = true) ⟨q, hq, rfl⟩
            rw [e1, e3] at e
            simp only [Id.s.injEq] at e
            obtain ⟨rfl, _⟩ := e
            exact a2 d e2 e4
          · rw [purei hpi] at hp; cases hp
          · obtain ⟨d, k, e1, e2⟩ := newOk_mem (by simpa [hw] using i5 : newOk oi usi = true) ⟨p, hp, rfl⟩
            cases hwj : isW P An oj with
            | false =>
              obtain ⟨d', k', e3, e4⟩ := newOk_mem (by simpa [hwj] using j5 : newOk oj usj = true) ⟨q, hq, rfl⟩
              rw [e1, e3] at e
              simp only [Id.s.injEq] at e
              obtain ⟨rfl, _⟩ := e
              exact a2 d e2 e4
            | true => exact notmine oj usj i oi hi noti (by simpa [hwj] using j8) a2 q hq d k e2 (by rw [← e, e1])
        · rw [purej hpj] at hq; cases hq
        · obtain ⟨d, k, e1, e2⟩ := newOk_mem (by simpa [al_w oj haj'] using j5 : newOk oj usj = true) ⟨q, hq, rfl⟩
          cases hwi : isW P An oi with
          | false =>
            obtain ⟨d', k', e3, e4⟩ := newOk_mem (by simpa [hwi] using i5 : newOk oi usi = true) ⟨p, hp, rfl⟩
            rw [e1, e3] at e
            simp only [Id.s.injEq] at e
            obtain ⟨rfl, _⟩ := e
            exact a2 d' e4 e2
          | true => exact notmine oi usi j oj hj notj (by simpa [hwi] using i8) a2' p hp d k e2 (by rw [e, e1])
      exact ⟨opj, opi, disj⟩
    · have hst2 : (((st2 An ops oi oj = true ∨ ld2 P An ops oi oj = true) ∨ ld2 P An ops oj oi = true) ∨ (st4 P An ops oi oj = true ∨ st4 P An ops oj oi = true)) ∨ (st5 P An ops oi oj = true ∨ st5 P An ops oj oi = true) := by
        unfold st3 at hst; simpa only [Bool.or_eq_true] using hst
      rcases hst2 with hst1 | hst5
      case inr =>
        have ixq : ∀ o, isIx P o = true → o.guard = none ∧ quiet P An o = true ∧ isPure P o = false := fun o h => by
          obtain ⟨a, h1, ⟨t, e, n, h2, _⟩ | ⟨t, h2⟩⟩ := isIx_spec h
          · exact ⟨h1, by simp [quiet, h2], by simp [isPure, h2]⟩
          · exact ⟨h1, by simp [quiet, h2], by simp [isPure, h2]⟩
        have gn : ∀ (o : Oper) (g : Option Gs) (s0 : St), o.guard = none → guardOf ops o s0 some = some g → g = none := by
          intro o g s0 h1 hg
          unfold guardOf at hg
          rw [h1] at hg
          simp only [Option.some.injEq] at hg
          exact hg.symm
        have stg : ∀ o, (isSt P o true = true ∨ isSt P o false = true) → o.guard = none ∧ isR An o = false ∧ isD An o = false := fun o h => by
          obtain ⟨t, a, y, h1, h2⟩ : ∃ t a y, o.guard = none ∧ o.op = .store t (.tmp a) y := by rcases h with h | h <;> exact isSt_spec h
          exact ⟨h1, by simp [isR, h2], by simp [isD, h2]⟩
        rcases hst5 with h5 | h5
        · have h5' := h5
          simp only [st5, Bool.and_eq_true, Bool.or_eq_true] at h5'
          obtain ⟨gdi, ri, di⟩ := stg oi h5'.1.2
          obtain ⟨gdj, qj, _⟩ := ixq oj h5'.2
          have gni := gn oi gi s gdi wi.guard
          have gnj := gn oj gj s gdj gj'
          have uj : usj = [] := by simpa [qj] using j7
          have eiop := wi.op
          have ejop := wj.op
          rw [gni] at eiop
          rw [gnj] at ejop
          have hget : ∀ x ∈ oj.op.operands, (s.put (asksG ops oi.dst) oi.dst gi vi usi).get none x = s.get none x := fun x hx => by
            have := getj x hx
            rwa [gnj] at this
          refine ⟨?_, ?_, fun p hp q hq => by rw [uj] at hq; cases hq⟩
          · rw [gnj]
            exact (st5_same h5 (Array.mem_of_getElem? hi) (Array.mem_of_getElem? hj) eiop i10 j10 rfl hget hget _).2 ejop
          · rw [← wi.op]
            exact aopD_congr (fun x hx k e => ti _ _ _ k (looks_op (e ▸ hx))) (.inr (.inr (.inl (by rw [uj]; rfl))))
        · have h5' := h5
          simp only [st5, Bool.and_eq_true, Bool.or_eq_true] at h5'
          obtain ⟨gdj, rj, dj⟩ := stg oj h5'.1.2
          obtain ⟨gdi, qi, _⟩ := ixq oi h5'.2
          have gni := gn oi gi s gdi wi.guard
          have gnj := gn oj gj s gdj gj'
          have ui : usi = [] := by simpa [qi] using i7
          have eiop := wi.op
          rw [gni] at eiop
          have opj : aopD P An Or gj oj s = some (vj, usj) := by
            rw [← wj.op]
            exact (aopD_congr (s := s) (s' := s.put (asksG ops oi.dst) oi.dst gi vi usi) (fun x hx k e => tj k (looks_op (e ▸ hx))) (.inr (.inr (.inl (by rw [ui]; rfl))))).symm
          have geti : ∀ x ∈ oi.op.operands, (s.put false oj.dst gj vj usj).get none x = s.get none x := fun x hx => get_congr fun k e => ti _ _ _ k (looks_op (e ▸ hx))
          have okj : stOk P An ops oj s usj = true := by
            refine stOk_move (fun k hk => ?_) (fun k hk x hx => ?_) (fun hg x hx => ?_) j10
            · rw [pli]; exact (put_t_ne (b := false) fun e => hk (dsts_mem e ops.toList (Array.mem_toList_iff.2 (Array.mem_of_getElem? hi)))).symm
            · have h := getj x hx
              rw [gnj] at h
              exact h.symm
            · have h := getj x hx
              rw [gnj] at h
              exact h.symm
          refine ⟨opj, ?_, fun p hp => by rw [ui] at hp; cases hp⟩
          rw [gni]
          rw [gnj] at opj
          exact (st5_same h5 (Array.mem_of_getElem? hj) (Array.mem_of_getElem? hi) opj okj i10 rfl geti (fun _ _ => rfl) _).1 eiop
      have hst1 := hst1
      rcases hst1 with hst0 | hst4
      case inr =>
        have both : ∀ o, (isSt P o true = true ∨ isSt P o false = true) → ∃ t a y, o.guard = none ∧ o.op = .store t (.tmp a) y := fun o h => by
          rcases h with h | h
          · exact isSt_spec h
          · exact isSt_spec h
        have si : (isSt P oi true = true ∨ isSt P oi false = true) ∧ (isSt P oj true = true ∨ isSt P oj false = true) := by
          rcases hst4 with h | h <;> simp only [st4, Bool.and_eq_true] at h
          · exact ⟨.inl h.1.2, .inr h.2⟩
          · exact ⟨.inr h.2, .inl h.1.2⟩
        obtain ⟨ti', xi, yi, gdi, opi'⟩ := both oi si.1
        obtain ⟨tj', xj, yj, gdj, opj'⟩ := both oj si.2
        have hki : stA ops oi = some (rootA ops xi) := by simp [stA, gdi, opi']
        have hkj : stA ops oj = some (rootA ops xj) := by simp [stA, gdj, opj']
        obtain ⟨gni, ri, di⟩ := guardA oi gi s _ hki wi.guard
        obtain ⟨gnj, rj, dj⟩ := guardA oj gj s _ hkj gj'
        have eiop := wi.op
        have ejop := wj.op
        rw [gni] at eiop
        rw [gnj] at ejop
        have hres : (∀ p ∈ usi, ∀ q ∈ usj, p.1 ≠ q.1) ∧ (∀ x ∈ oi.op.operands, ∀ i ∈ (s.get none x).ids, ∃ p ∈ usi, p.1 = i) ∧ (∀ x ∈ oj.op.operands, ∀ i ∈ ((s.put (asksG ops oi.dst) oi.dst gi vi usi).get none x).ids, ∃ p ∈ usj, p.1 = i) := by
          rcases hst4 with h | h
          · exact st4_apart h (Array.mem_of_getElem? hi) (Array.mem_of_getElem? hj) eiop ejop i10 j10 (.inl rfl)
          · obtain ⟨r1, r2, r3⟩ := st4_apart h (Array.mem_of_getElem? hj) (Array.mem_of_getElem? hi) ejop eiop j10 i10 (.inr rfl)
            exact ⟨fun p hp q hq e => r1 q hq p hp e.symm, r3, r2⟩
        obtain ⟨d1, d2, d3⟩ := hres
        refine ⟨?_, ?_, d1⟩
        · rw [← wj.op]
          refine (aopD_congr (s := s) (s' := s.put (asksG ops oi.dst) oi.dst gi vi usi) (fun x hx k e => tj k (looks_op (e ▸ hx))) (.inr (.inr (.inr ⟨rj, dj, fun x hx id hid => ?_⟩)))).symm
          refine updH_other fun q hq e => ?_
          rw [← getj x hx, gnj] at hid
          obtain ⟨p, hp, e2⟩ := d3 x hx id hid
          exact d1 q hq p hp (e.trans e2.symm)
        · rw [← wi.op]
          refine aopD_congr (fun x hx k e => ti _ _ _ k (looks_op (e ▸ hx))) (.inr (.inr (.inr ⟨ri, di, fun x hx id hid => ?_⟩)))
          refine updH_other fun q hq e => ?_
          rw [gni] at hid
          obtain ⟨p, hp, e2⟩ := d2 x hx id hid
          exact d1 p hp q hq (e2.trans e.symm)
      have tk : ∀ k, k ∉ dsts ops.toList → (s.put (asksG ops oi.dst) oi.dst gi vi usi).t k = s.t k := fun k dk => by
        rw [pli]; exact put_t_ne (b := false) fun e => dk (dsts_mem e ops.toList (Array.mem_toList_iff.2 (Array.mem_of_getElem? hi)))
      have gnone : ∀ (o : Oper) (g : Option Gs) (s0 : St), o.guard = none → guardOf ops o s0 some = some g → g = none := by
        intro o g s0 h1 hg
        unfold guardOf at hg
        rw [h1] at hg
        simp only [Option.some.injEq] at hg
        exact hg.symm
      rcases hst0 with (hst | hld) | hld
      rotate_left
      · -- an append, and what is not bound to it behind it
        obtain ⟨ga, wa, ra, da⟩ := ld2_specA hld
        obtain ⟨rb', hrb'⟩ : ∃ r, rootB ops oj = some r := by rcases ld2_specB hld with ⟨k, hk, _⟩ | hk <;> exact ⟨_, hk⟩
        obtain ⟨gb, wb, rb, db⟩ := rootB_spec (P := P) (An := An) hrb'
        have gni := gnone oi gi s ga wi.guard
        have gnj := gnone oj gj s gb gj'
        have hnew : newOk oj usj = true := by simpa [wb] using j5
        have hus : usOk ops oi usi = true := by simpa [wa] using i8
        have hap2 := ld_apart hld (Array.mem_of_getElem? hi) (Array.mem_of_getElem? hj) i10 j10 (fun k hk => by rw [tk k hk])
        refine ⟨?_, ?_, ?_⟩
        · rw [← wj.op]
          refine (aopD_congr (s := s) (s' := s.put (asksG ops oi.dst) oi.dst gi vi usi) (fun x hx k e => tj k (looks_op (e ▸ hx))) (.inr (.inr (.inr ⟨rb, db, fun x hx id hid => ?_⟩)))).symm
          refine updH_other fun q hq e => ?_
          rw [← getj x hx, gnj] at hid
          exact hap2 x hx id hid q hq e
        · refine aopD_agree (s := s) (s' := s.put false oj.dst gj vj usj) (N := fun i => ∃ q ∈ usj, q.1 = i) (fun x hx k e => ti _ _ _ k (looks_op (e ▸ hx))) (fun i hi => ?_) da (fun x hx id hid => ?_) (fun k => ?_) (fun p hp => ?_) wi.op
          · exact updH_other fun q hq e => hi ⟨q, hq, e⟩
          · rintro ⟨q, hq, e⟩
            obtain ⟨d, k, e1, e2⟩ := newOk_mem hnew ⟨q, hq, e⟩
            subst e1
            obtain ⟨ed, he, hb, ho⟩ := namesOk_mem i4 hx hid hj e2
            exact notj ed he hb ho
          · rintro ⟨q, hq, e⟩
            obtain ⟨d, k', e1, e2⟩ := newOk_mem hnew ⟨q, hq, e⟩
            simp only [Id.s.injEq] at e1
            have h := ltd oj j1 j9 d e2
            rw [← e1.1] at h
            exact absurd h (Nat.not_lt.2 (Nat.le_trans (by decide) (Nat.le_add_right 2000000 _)))
          · rintro ⟨q, hq, e⟩
            obtain ⟨d, k', e1, e2⟩ := newOk_mem hnew ⟨q, hq, rfl⟩
            exact notmine oi usi j oj hj notj hus a2' p hp d k' e2 (by rw [← e, e1])
        · intro p hp q hq e
          obtain ⟨d, k, e1, e2⟩ := newOk_mem hnew ⟨q, hq, rfl⟩
          exact notmine oi usi j oj hj notj hus a2' p hp d k e2 (by rw [e, e1])
      · -- the other way round
        obtain ⟨ga, wa, ra, da⟩ := ld2_specA hld
        obtain ⟨rb', hrb'⟩ : ∃ r, rootB ops oi = some r := by rcases ld2_specB hld with ⟨k, hk, _⟩ | hk <;> exact ⟨_, hk⟩
        obtain ⟨gb, wb, rb, db⟩ := rootB_spec (P := P) (An := An) hrb'
        have gni := gnone oi gi s gb wi.guard
        have gnj := gnone oj gj s ga gj'
        have hnew : newOk oi usi = true := by simpa [wb] using i5
        have hus : usOk ops oj usj = true := by simpa [wa] using j8
        have hap2 := ld_apart hld (Array.mem_of_getElem? hj) (Array.mem_of_getElem? hi) j10 i10 (fun k hk => by rw [tk k hk])
        refine ⟨?_, ?_, ?_⟩
        · refine aopD_agree (s := s.put (asksG ops oi.dst) oi.dst gi vi usi) (s' := s) (N := fun i => ∃ q ∈ usi, q.1 = i) (fun x hx k e => (tj k (looks_op (e ▸ hx))).symm) (fun i hi => ?_) da (fun x hx id hid => ?_) (fun k => ?_) (fun p hp => ?_) wj.op
          · exact (updH_other fun q hq e => hi ⟨q, hq, e⟩).symm
          · rw [getj x hx] at hid
            rintro ⟨q, hq, e⟩
            obtain ⟨d, k, e1, e2⟩ := newOk_mem hnew ⟨q, hq, e⟩
            subst e1
            obtain ⟨ed, he, hb, ho⟩ := namesOk_mem nj hx hid hi e2
            exact noti ed he hb ho
          · rintro ⟨q, hq, e⟩
            obtain ⟨d, k', e1, e2⟩ := newOk_mem hnew ⟨q, hq, e⟩
            simp only [Id.s.injEq] at e1
            have h := ltd oi i1 i9 d e2
            rw [← e1.1] at h
            exact absurd h (Nat.not_lt.2 (Nat.le_trans (by decide) (Nat.le_add_right 2000000 _)))
          · rintro ⟨q, hq, e⟩
            obtain ⟨d, k', e1, e2⟩ := newOk_mem hnew ⟨q, hq, rfl⟩
            exact notmine oj usj i oi hi noti hus a2 p hp d k' e2 (by rw [← e, e1])
        · rw [← wi.op]
          refine aopD_congr (fun x hx k e => ti _ _ _ k (looks_op (e ▸ hx))) (.inr (.inr (.inr ⟨rb, db, fun x hx id hid => ?_⟩)))
          refine updH_other fun q hq e => ?_
          rw [gni] at hid
          exact hap2 x hx id hid q hq e
        · intro p hp q hq e
          obtain ⟨d, k, e1, e2⟩ := newOk_mem hnew ⟨p, hp, rfl⟩
          exact notmine oj usj i oi hi noti hus a2 q hq d k e2 (by rw [← e, e1])
      obtain ⟨k, k', sk, sk', nek, dk, dk'⟩ := st2_spec hst
      obtain ⟨gni, ri, di⟩ := guardA oi gi s k sk wi.guard
      obtain ⟨gnj, rj, dj⟩ := guardA oj gj s k' sk' gj'
      have hst' : st2 An ops oj oi = true := st2_symm hst
      obtain ⟨p1, p2, p3⟩ := stOk_spec i10 (Array.mem_of_getElem? hj) hst sk sk'
      obtain ⟨q1, q2, q3⟩ := stOk_spec j10 (Array.mem_of_getElem? hi) hst' sk' sk
      replace tk := tk k dk
      have tk' : (s.put (asksG ops oi.dst) oi.dst gi vi usi).t k' = s.t k' := by
        rw [pli]; exact put_t_ne (b := false) fun e => dk' (dsts_mem e ops.toList (Array.mem_toList_iff.2 (Array.mem_of_getElem? hi)))
      rw [tk] at q3
      rw [tk'] at q2
      refine ⟨?_, ?_, fun p hp q hq e => q3 q hq (e ▸ p2 p hp)⟩
      · rw [← wj.op]
        refine (aopD_congr (s := s) (s' := s.put (asksG ops oi.dst) oi.dst gi vi usi) (fun x hx k e => tj k (looks_op (e ▸ hx))) (.inr (.inr (.inr ⟨rj, dj, fun x hx id hid => ?_⟩)))).symm
        refine updH_other fun q hq e => ?_
        rw [← getj x hx, gnj] at hid
        have := q1 x hx id hid
        rw [tk'] at this
        exact p3 q hq (e ▸ this)
      · rw [← wi.op]
        refine aopD_congr (fun x hx k e => ti _ _ _ k (looks_op (e ▸ hx))) (.inr (.inr (.inr ⟨ri, di, fun x hx id hid => ?_⟩)))
        refine updH_other fun q hq e => ?_
        rw [gni] at hid
        exact q3 q hq (e ▸ p1 x hx id hid)
  obtain ⟨opj, opi, disj⟩ := three
  have sj10 : stOk P An ops oj s usj = true := by
    refine stOk_move (fun k hk => ?_) (fun k hk x hx => ?_) (fun hg x hx => ?_) j10
    · rw [pli]; exact (put_t_ne (b := false) fun e => hk (dsts_mem e ops.toList (Array.mem_toList_iff.2 (Array.mem_of_getElem? hi)))).symm
    · have := guardB oj gj s k hk gj'
      have h := getj x hx
      rw [this] at h
      exact h.symm
    · have hgn : gj = none := by
        have h := gj'
        unfold guardOf at h
        rw [hg] at h
        simp only [Option.some.injEq] at h
        exact h.symm
      have h := getj x hx
      rw [hgn] at h
      exact h.symm
  have frj : freshAt (oj.dst.getD 0) s.h usj = true := by
    unfold freshAt at j3 ⊢
    refine List.all_eq_true.2 fun p hp => ?_
    have := List.all_eq_true.1 j3 p hp
    split at this
    · simp only [Bool.or_eq_true, Option.isNone_iff_eq_none] at this ⊢
      rcases this with h | h
      · exact .inl h
      · exact .inr (updH_none h).2
    · rfl
    · cases this
  have wj0 : Went P An Or nt ops oj s gj vj usj := ⟨gj', opj, by
    simp only [okOp, Bool.not_true, Bool.false_or, Bool.and_eq_true]
    exact ⟨⟨⟨j1, j2⟩, frj⟩, ⟨⟨⟨⟨⟨nj, j5⟩, j6⟩, j7⟩, j8⟩, j9⟩, sj10⟩⟩
  have plj := put_plain (g := gj) (v := vj) (us := usj) hu hj hlj hG (asksG ops oj.dst)
  refine ⟨_, wj0.oneD, ?_⟩
  rw [plj]
  -- oi behind oj
  have gi' : guardOf ops oi (s.put false oj.dst gj vj usj) some = some gi := by
    rw [← wi.guard]
    exact guardOf_congr fun x b d h1 h2 => ti _ _ _ d (looks_guard h1 h2)
  have geti : ∀ x ∈ oi.op.operands, (s.put false oj.dst gj vj usj).get gi x = s.get gi x := fun x hx => get_congr fun k e => ti _ _ _ k (looks_op (e ▸ hx))
  have ni : namesOk ops gi oi (s.put false oj.dst gj vj usj) = true := by
    rw [← i4]
    exact namesOk_congr geti
  have fri : freshAt (oi.dst.getD 0) (s.put false oj.dst gj vj usj).h usi = true := by
    unfold freshAt at i3 ⊢
    refine List.all_eq_true.2 fun p hp => ?_
    have := List.all_eq_true.1 i3 p hp
    split at this
    · rename_i d k ep
      simp only [Bool.or_eq_true, Option.isNone_iff_eq_none] at this ⊢
      rcases this with h | h
      · exact .inl h
      · right
        show updH s.h usj p.1 = none
        rw [updH_other fun q hq e => disj p hp q hq e.symm]; exact h
    · rfl
    · cases this
  have si10 : stOk P An ops oi (s.put false oj.dst gj vj usj) usi = true := by
    refine stOk_move (fun k hk => ?_) (fun k hk x hx => ?_) (fun hg x hx => ?_) i10
    · exact put_t_ne (b := false) fun e => hk (dsts_mem e ops.toList (Array.mem_toList_iff.2 (Array.mem_of_getElem? hj)))
    · have := guardB oi gi s k hk wi.guard
      have h := geti x hx
      rw [this] at h
      exact h
    · have hgn : gi = none := by
        have h := wi.guard
        unfold guardOf at h
        rw [hg] at h
        simp only [Option.some.injEq] at h
        exact h.symm
      have h := geti x hx
      rw [hgn] at h
      exact h
  have wi0 : Went P An Or nt ops oi (s.put false oj.dst gj vj usj) gi vi usi := ⟨gi', opi, by
    simp only [okOp, Bool.not_true, Bool.false_or, Bool.and_eq_true]
    exact ⟨⟨⟨i1, i2⟩, fri⟩, ⟨⟨⟨⟨⟨ni, i5⟩, i6⟩, i7⟩, i8⟩, i9⟩, si10⟩⟩
  rw [wi0.oneD, pli]
  -- guards of what stands, behind either
  have dij : ∀ d, oi.dst = some d → oj.dst ≠ some d := a2
  have nog : ∀ (g : Option Gs) (o : Oper) (m : Nat) (om : Oper), ops[m]? = some om → listed.getD m true = false → guardOf ops o s some = some g → o ∈ ops → (∀ e ∈ o.after, Region.binds .any e = true → listed.getD e.on false = true) → ∀ gs, g = some gs → om.dst ≠ some gs.d := by
    intro g o m om hom hlm hgo hmem hall gs hgs hd
    unfold guardOf at hgo
    cases hog : o.guard with
    | none => rw [hog] at hgo; simp only [Option.some.injEq] at hgo; rw [hgs] at hgo; cases hgo
    | some p =>
      obtain ⟨jj, b⟩ := p
      rw [hog] at hgo
      simp only at hgo
      cases hdd : (ops[jj]?).bind (·.dst) with
      | none => rw [hdd] at hgo; simp at hgo
      | some d =>
        rw [hdd] at hgo
        simp only at hgo
        replace hgo := Option.bind_eq_some_iff.1 hgo; obtain ⟨x, _, hgo⟩ := hgo
        obtain ⟨bb, hgo, _⟩ := gdK_any hgo
        simp only [Option.some.injEq] at hgo
        rw [hgs] at hgo
        simp only [Option.some.injEq] at hgo
        have hgd : gs.d = d := by rw [← hgo]
        rw [hgd] at hd
        obtain ⟨ojj, h1, h2⟩ := Option.bind_eq_some_iff.1 hdd
        have := hu hom h1 hd h2
        subst this
        have hge := Array.all_eq_true_iff_forall_mem.1 hgk o hmem
        rw [hog] at hge
        simp only at hge
        obtain ⟨e, he, hb⟩ := Array.any_eq_true'.1 hge
        simp only [Bool.and_eq_true, beq_iff_eq] at hb
        exact unlisted hlm (hb.2 ▸ hall e he hb.1)
  have nogi := nog gi oi j oj hj hlj wi.guard (Array.mem_of_getElem? hi) hai
  have nogj := nog gj oj i oi hi hli gj' (Array.mem_of_getElem? hj) haj
  have nos : ∀ (m : Nat) (om : Oper), ops[m]? = some om → listed.getD m true = false → ∀ k g v, s.t k = (some g, v) → om.dst ≠ some g.d := by
    intro m om hom hlm k g v hst hd
    obtain ⟨x, ox, h1, h2, h3⟩ := hG k g v hst
    have := hu hom h1 hd h3
    subst this
    exact unlisted hlm h2
  have tcomm : ∀ (bi bj : Bool), ((s.put false oj.dst gj vj usj).put bi oi.dst gi vi usi).t = ((s.put false oi.dst gi vi usi).put bj oj.dst gj vj usj).t := by
    intro bi bj
    funext k
    cases hdi : oi.dst with
    | none =>
      cases hdj : oj.dst with
      | none => rfl
      | some dj =>
        simp only [St.put]
        by_cases ek : k = dj
        · simp [ek]
        · simp only [if_neg ek, cond_false]
          cases bj with
          | false => rfl
          | true =>
            simp only [cond_true]
            cases hst : s.t k with
            | mk gk vk =>
              cases gk with
              | none => rfl
              | some gk =>
                have := nos j oj hj hlj k gk vk hst
                rw [hdj] at this
                have hb : (gk.d == dj) = false := by simp only [beq_eq_false_iff_ne, ne_eq]; exact fun e => this (by rw [e])
                simp [dropG, hb]
    | some di =>
      cases hdj : oj.dst with
      | none =>
        simp only [St.put]
        by_cases ek : k = di
        · simp [ek]
        · simp only [if_neg ek, cond_false]
          cases bi with
          | false => rfl
          | true =>
            simp only [cond_true]
            cases hst : s.t k with
            | mk gk vk =>
              cases gk with
              | none => rfl
              | some gk =>
                have := nos i oi hi hli k gk vk hst
                rw [hdi] at this
                have hb : (gk.d == di) = false := by simp only [beq_eq_false_iff_ne, ne_eq]; exact fun e => this (by rw [e])
                simp [dropG, hb]
      | some dj =>
        have hne' : di ≠ dj := fun e => dij di hdi (by rw [hdj, e])
        simp only [St.put]
        have drop1 : ∀ (b : Bool) (g : Option Gs) (v : AV) (d : Nat), (∀ gs, g = some gs → gs.d ≠ d) → cond b (dropG d (g, v)) (g, v) = (g, v) := by
          intro b g v d hg
          cases b with
          | false => rfl
          | true =>
            cases g with
            | none => rfl
            | some gs =>
              have hb : (gs.d == d) = false := by simpa using hg gs rfl
              simp [dropG, hb]
        by_cases eki : k = di
        · subst eki
          simp only [if_true, if_neg hne', cond_false]
          rw [drop1 bj gi vi dj fun gs e h => nogi gs e (by rw [hdj, h])]
        · by_cases ekj : k = dj
          · subst ekj
            simp only [if_true, if_neg eki, cond_false]
            rw [drop1 bi gj vj di fun gs e h => nogj gs e (by rw [hdi, h])]
          · simp only [if_neg eki, if_neg ekj, cond_false]
            cases hst : s.t k with
            | mk gk vk =>
              rw [drop1 bi gk vk di fun gs e h => by subst e; exact nos i oi hi hli k gs vk hst (by rw [hdi, h]), drop1 bj gk vk dj fun gs e h => by subst e; exact nos j oj hj hlj k gs vk hst (by rw [hdj, h])]
  have : ∀ (bi bj : Bool), (s.put false oj.dst gj vj usj).put bi oi.dst gi vi usi = (s.put false oi.dst gi vi usi).put bj oj.dst gj vj usj := by
    intro bi bj
    have ht := tcomm bi bj
    have hh : ((s.put false oj.dst gj vj usj).put bi oi.dst gi vi usi).h = ((s.put false oi.dst gi vi usi).put bj oj.dst gj vj usj).h := by
      show updH (updH s.h usj) usi = updH (updH s.h usi) usj
      exact (updH_comm disj).symm
    generalize (s.put false oj.dst gj vj usj).put bi oi.dst gi vi usi = X at *
    generalize (s.put false oi.dst gi vi usi).put bj oj.dst gj vj usj = Y at *
    cases X; cases Y
    simp only at ht hh
    rw [ht, hh]
  rw [this]

theorem guard_listed {o : Oper} {gs : Gs} {listed : Array Bool} (hgk : guardsOk ops = true) (hgo : guardOf ops o s some = some (some gs)) (hmem : o ∈ ops) (hall : ∀ e ∈ o.after, Region.binds .any e = true → listed.getD e.on false = true) :
    ∃ i oi, ops[i]? = some oi ∧ listed.getD i false = true ∧ oi.dst = some gs.d := by
  unfold guardOf at hgo
  cases hog : o.guard with
  | none => rw [hog] at hgo; simp at hgo
  | some p =>
    obtain ⟨jj, b⟩ := p
    rw [hog] at hgo
    simp only at hgo
    cases hdd : (ops[jj]?).bind (·.dst) with
    | none => rw [hdd] at hgo; simp at hgo
    | some d =>
      rw [hdd] at hgo
      simp only at hgo
      replace hgo := Option.bind_eq_some_iff.1 hgo; obtain ⟨x, _, hgo⟩ := hgo
      obtain ⟨bb, hgo, _⟩ := gdK_any hgo
      simp only [Option.some.injEq] at hgo
      have hgd : gs.d = d := by rw [← hgo]
      obtain ⟨ojj, h1, h2⟩ := Option.bind_eq_some_iff.1 hdd
      have hge := Array.all_eq_true_iff_forall_mem.1 hgk o hmem
      rw [hog] at hge
      simp only at hge
      obtain ⟨e, he, hb⟩ := Array.any_eq_true'.1 hge
      simp only [Bool.and_eq_true, beq_iff_eq] at hb
      exact ⟨jj, ojj, h1, hb.2 ▸ hall e he hb.1, by rw [hgd]; exact h2⟩

theorem ginv_step {listed : Array Bool} {i : Nat} {oi : Oper} (hu : Uniq ops) (hgk : guardsOk ops = true) (hi : ops[i]? = some oi) (hri : i ∈ Region.ready .any ops listed) (hG : GInv ops listed s) (e : oneD P An Or true nt ops oi s = some s1) :
    GInv ops (listed.setIfInBounds i true) s1 := by
  obtain ⟨g, v, us, wt, rfl⟩ := oneD_went e
  obtain ⟨hli, oi', hi', hai⟩ := mem_ready.1 hri
  rw [hi] at hi'; simp only [Option.some.injEq] at hi'; subst hi'
  rw [put_plain hu hi hli hG]
  have old : ∀ k g v, s.t k = (some g, v) → ∃ i' o, ops[i']? = some o ∧ (listed.setIfInBounds i true).getD i' false = true ∧ o.dst = some g.d := by
    intro k g v hst
    obtain ⟨x, ox, h1, h2, h3⟩ := hG k g v hst
    exact ⟨x, ox, h1, getD_set_true h2, h3⟩
  intro k g' v' hk
  unfold St.put at hk
  cases hd : oi.dst with
  | none => rw [hd] at hk; exact old k g' v' hk
  | some d =>
    rw [hd] at hk
    dsimp only at hk
    split at hk
    · simp only [Prod.mk.injEq] at hk
      obtain ⟨x, ox, h1, h2, h3⟩ := guard_listed hgk (by rw [← hk.1]; exact wt.guard) (Array.mem_of_getElem? hi) hai
      exact ⟨x, ox, h1, getD_set_true h2, h3⟩
    · exact old k g' v' hk

def anyD (P : Program) (An : Ann) (Or : Orc) (nt : Nat) (ops : Array Oper) (Q : St → Prop) : Nat → Array Bool → St → Prop
  | 0, listed, s => Region.ready .any ops listed = [] ∧ Q s
  | n + 1, listed, s => (Region.ready .any ops listed = [] → Q s) ∧ ∀ i ∈ Region.ready .any ops listed, ∃ o s1, ops[i]? = some o ∧ oneD P An Or true nt ops o s = some s1 ∧ anyD P An Or nt ops Q n (listed.setIfInBounds i true) s1

theorem bnd_direct {n j i : Nat} {oj : Oper} (hj : ops[j]? = some oj) (h : bnd ops (n + 1) j i = false) : ∀ e ∈ oj.after, Region.binds .any e = true → e.on ≠ i := by
  intro e he hb heq
  simp only [bnd, hj] at h
  rw [Array.any_eq_false'] at h
  exact h e he (by simp [hb, heq])
theorem closed_step {listed : Array Bool} {j : Nat} (hcl : Closed ops listed) (hj : j ∈ Region.ready .any ops listed) : Closed ops (listed.setIfInBounds j true) := by
  intro k ok hk hl e he hb
  obtain ⟨hun, oj, hoj, hall⟩ := mem_ready.1 hj
  refine getD_set_true ?_
  by_cases hjk : j = k
  · subst hjk
    rw [hk] at hoj; simp only [Option.some.injEq] at hoj; subst hoj
    exact hall e he hb
  · have hl' : listed.getD k false = true := by
      rw [Array.getD_eq_getD_getElem?, Array.getElem?_setIfInBounds_ne hjk] at hl
      rw [Array.getD_eq_getD_getElem?]; exact hl
    exact hcl k ok hk hl' e he hb

theorem anyD_first {Q : St → Prop} {i : Nat} {oi : Oper} (hu : Uniq ops) (hgk : guardsOk ops = true) (hi : ops[i]? = some oi) : ∀ (fuel : Nat) (listed : Array Bool) (s s1 : St),
    (∀ j oj, ops[j]? = some oj → j ≠ i → listed.getD j true = false → bnd ops 12 j i = false → oi.apart ops oj = true ∧ (compat P An oi oj = true ∨ st3 P An ops oi oj = true)) → Closed ops listed →
    i ∈ Region.ready .any ops listed → GInv ops listed s → oneD P An Or true nt ops oi s = some s1 → anyD P An Or nt ops Q fuel (listed.setIfInBounds i true) s1 → anyD P An Or nt ops Q (fuel + 1) listed s := by
  intro fuel
  induction fuel with
  | zero =>
    intro listed s s1 _ _ hr hG e H
    refine ⟨fun h => (by rw [h] at hr; cases hr), fun j hj => ?_⟩
    by_cases hji : j = i
    · subst hji; exact ⟨oi, s1, hi, e, H⟩
    · have := ready_mono hj hji
      rw [H.1] at this
      cases this
  | succ fuel ih =>
    intro listed s s1 hfree hcl hr hG e H
    refine ⟨fun h => (by rw [h] at hr; cases hr), fun j hj => ?_⟩
    by_cases hji : j = i
    · subst hji; exact ⟨oi, s1, hi, e, H⟩
    · obtain ⟨oj, s2, hoj, e2, H2⟩ := H.2 j (ready_mono hj hji)
      obtain ⟨hjun, oj', hoj', hall⟩ := mem_ready.1 hj
      rw [hoj] at hoj'; simp only [Option.some.injEq] at hoj'; subst hoj'
      have hnot : bnd ops 12 j i = false := bnd_false hcl (mem_ready.1 hr).1 hoj hall
      obtain ⟨hap, hcm⟩ := hfree j oj hoj hji hjun hnot
      obtain ⟨sj, g1, g2⟩ := swap hu hgk hi hoj hji hr hj hcl hap hcm hG e e2
      refine ⟨oj, sj, hoj, g1, ?_⟩
      have hfree' : ∀ k ok, ops[k]? = some ok → k ≠ i → (listed.setIfInBounds j true).getD k true = false →
          bnd ops 12 k i = false → oi.apart ops ok = true ∧ (compat P An oi ok = true ∨ st3 P An ops oi ok = true) := fun k ok hk hki hun hno => by
        refine hfree k ok hk hki ?_ hno
        by_cases hjk : j = k
        · subst hjk; exact hjun
        · rw [getD_set_ne true hjk] at hun; exact hun
      refine ih (listed.setIfInBounds j true) sj s2 hfree' (closed_step hcl hj) (ready_mono hr (Ne.symm hji)) (ginv_step hu hgk hoj hj hG g1) g2 ?_
      rw [Array.setIfInBounds_comm _ _ hji]
      exact H2

theorem freeC_spec {i : Nat} {oi : Oper} {listed : Array Bool} (hi : ops[i]? = some oi) (h : freeC P An ops listed i = true) (j : Nat) (oj : Oper) (hj : ops[j]? = some oj) (hne : j ≠ i) (hun : listed.getD j true = false)
    (hno : bnd ops 12 j i = false) : compat P An oi oj = true ∨ st3 P An ops oi oj = true := by
  simp only [freeC, hi, List.all_eq_true, List.mem_range] at h
  have h1 := h j (Array.getElem?_eq_some_iff.1 hj).1
  simp only [hj, Bool.or_eq_true, beq_iff_eq, hne, false_or, hun, Bool.false_eq_true, hno, or_false] at h1
  exact h1

theorem anyD_lex {Q : St → Prop} (hu : Uniq ops) (hgk : guardsOk ops = true) : ∀ (l : List Oper) (k : Nat) (listed : Array Bool) (s : St), (∀ j, l[j]? = ops[k + j]?) → Region.lexFrom .any ops l.length k listed = true → lexC P An ops l.length k listed = true → Closed ops listed → GInv ops listed s →
    ropsD P An Or true nt ops l s = some s' → Q s' → anyD P An Or nt ops Q l.length listed s
  | [], k, listed, s, _, hB, _, _, _, h, hQ => by
    simp only [ropsD, Option.some.injEq] at h; subst h
    exact ⟨by simpa [Region.lexFrom] using hB, hQ⟩
  | o :: l, k, listed, s, hl, hB, hC, hcl, hG, h, hQ => by
    simp only [ropsD] at h
    obtain ⟨s1, h1, h⟩ := Option.bind_eq_some_iff.1 h
    have h0 : ops[k]? = some o := by simpa using (hl 0).symm
    simp only [List.length_cons, Region.lexFrom, Bool.and_eq_true] at hB
    obtain ⟨⟨hr, hf⟩, hB'⟩ := hB
    simp only [List.length_cons, lexC, Bool.and_eq_true] at hC
    have hr' : k ∈ Region.ready .any ops listed := by simpa using hr
    exact anyD_first hu hgk h0 l.length listed s s1 (fun j oj hj hne hun hno => ⟨Region.free_spec h0 hf j oj hj hne hun (bnd_direct hj hno), freeC_spec h0 hC.1 j oj hj hne hun hno⟩) hcl hr' hG h1
      (anyD_lex hu hgk l (k + 1) _ s1 (fun j => by have := hl (j + 1); simpa [Nat.add_assoc, Nat.add_comm 1 j] using this) hB' hC.2 (closed_step hcl hr') (ginv_step hu hgk h0 hr' hG h1) h hQ)

theorem any_sound (hO : OSound P An Or) {Q : Exit → Act → World → Prop} {s' : St} : ∀ {fuel : Nat} {listed : Array Bool} {w : World} {s : St} {ρ : Id → Option Value} {O : Id → Option Nat} {a : Act},
    Sim c nt w s ρ O a → InReg ops s → anyD P An Or nt ops (· = s') fuel listed s → (∀ a' w' ρ' O', Le w ρ O w' ρ' O' → Sim c nt w' s' ρ' O' a' → Q .normal a' w') → wpAny P .any ops Q fuel listed a w
  | 0, listed, w, s, ρ, O, a, sim, hin, h, hQ => ⟨h.1, hQ a w ρ O Le.refl (h.2 ▸ sim)⟩
  | fuel + 1, listed, w, s, ρ, O, a, sim, hin, h, hQ => by
    refine ⟨fun hr => hQ a w ρ O Le.refl (h.1 hr ▸ sim), fun i hi => ?_⟩
    obtain ⟨o, s1, ho, e, H⟩ := h.2 i hi
    obtain ⟨hin1, step⟩ := one_sound hO sim hin (Array.mem_of_getElem? ho) e
    unfold wpOp
    rw [ho]
    exact step _ Q fun a' w' ρ' O' le sim' => any_sound hO sim' hin1 H fun a'' w'' ρ'' O'' le' sim'' => hQ a'' w'' ρ'' O'' (le.trans le') sim''

theorem region_sound {R : Type} {id : Nat} {draw : Bool} {a : Act} {K : St → Option R} {r : R} (hm : P.follows .mixedOrders = true) (hO : OSound P An Or) (sim : Sim c nt w s ρ O a) (hb : Bare s) (e : region P An Or nt draw ops s K = some r) :
    ∃ s' : St, K s'.clear = some r ∧ ∀ Q : Exit → Act → World → Prop, (∀ a' w' ρ' O', Le w ρ O w' ρ' O' → Sim c nt w' s'.clear ρ' O' a' → Q .normal a' w') → (Code.region id ops draw).wp P Q a w := by
  unfold region at e
  cases hok : regOk P An draw ops with
  | false => simp [hok] at e
  | true =>
    rw [hok, cond_true, rops_eq] at e
    replace e := Option.bind_eq_some_iff.1 e; obtain ⟨s', e, hk⟩ := e
    refine ⟨s', hk, fun Q hQ => ?_⟩
    cases draw with
    | false => exact region_lex hO sim hb e hQ
    | true =>
      simp only [regOk, Bool.not_true, Bool.false_or, Bool.and_eq_true] at hok
      obtain ⟨⟨⟨hB, hC⟩, hD⟩, hgk⟩ := hok
      simp only [Region.lexB, Bool.and_eq_true] at hB
      have hu : Uniq ops := fun {i j x y d} hi hj hx hy => dsts_nodup hD (by simpa using hi) (by simpa using hj) hx hy
      have lew : Le w ρ O w.drew ρ O := ⟨rfl, rfl, rfl, Nat.le_refl _, fun _ _ h => h, fun _ _ _ => rfl, fun i b h => .inl ⟨i, h⟩⟩
      have simw : Sim c nt w.drew s ρ O a := ⟨sim.hs.world lew fun _ _ _ => rfl, SS.mono (fun b hb => lew.A b hb) lew.rho sim.ss, sim.nt, sim.defers⟩
      refine wp_region_any hm ?_
      have := anyD_lex (P := P) (An := An) (Or := Or) (nt := nt) (Q := (· = s')) hu hgk ops.toList 0 (Array.replicate ops.size false) s (by simp) (by simpa using hB.2) (by simpa using hC) (fun k ok hk hl => by simp [Array.getD_eq_getD_getElem?, Array.getElem?_replicate] at hl; split at hl <;> simp at hl) (fun k g v h => (hb k g v h).elim) e rfl
      simp only [Array.length_toList] at this
      exact any_sound hO simw (hb.inReg ops) this fun a' w' ρ' O' le sim' => hQ a' w' ρ' O' (lew.trans le) sim'.clear

end
end Go.Aev
