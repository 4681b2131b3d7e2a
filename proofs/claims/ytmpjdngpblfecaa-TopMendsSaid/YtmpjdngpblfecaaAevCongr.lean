/-
  What an operation looks at: its operands, and the blocks that they name.
-/
import Derived.Test.YtmpjdngpblfecaaAevReg
set_option linter.unusedSimpArgs false
set_option linter.unusedVariables false
namespace Go.Aev
open Go

section
variable {P : Program} {A : Ann} {O : Orc} {R : Type} {h h' : Id → Option Blk} {s s' : St}

theorem ids_cons {v : AV} {vs : List AV} {i : Id} : i ∈ idsL (v :: vs) ↔ i ∈ v.ids ∨ i ∈ idsL vs := by simp [idsL]

theorem snapOne_congr {v : AV} (hh : ∀ i ∈ v.ids, h' i = h i) : snapOne h' v = snapOne h v := by
  cases v <;> simp only [snapOne]
  all_goals rw [hh _ (by simp [AV.ids])]
theorem frz1_congr {v : AV} (hh : ∀ i ∈ v.ids, h' i = h i) : frz1 h' v = frz1 h v := by
  cases v <;> simp only [frz1]
  all_goals rw [hh _ (by simp [AV.ids])]
theorem snapAll_congr : ∀ {vs : List AV}, (∀ i ∈ idsL vs, h' i = h i) → snapAll h' vs = snapAll h vs
  | [], _ => rfl
  | v :: vs, hh => by
    simp only [snapAll]
    rw [snapOne_congr fun i hi => hh i (ids_cons.2 (.inl hi)), snapAll_congr fun i hi => hh i (ids_cons.2 (.inr hi))]
theorem frzAll_congr : ∀ {vs : List AV}, (∀ i ∈ idsL vs, h' i = h i) → frzAll h' vs = frzAll h vs
  | [], _ => rfl
  | v :: vs, hh => by
    simp only [frzAll]
    rw [frz1_congr fun i hi => hh i (ids_cons.2 (.inl hi)), frzAll_congr fun i hi => hh i (ids_cons.2 (.inr hi))]
theorem snap_congr {v : AV} (hh : ∀ i ∈ v.ids, h' i = h i) : snap h' v = snap h v := by
  cases v
  case agg vs => simp only [snap]; exact snapAll_congr (by simpa [AV.ids] using hh)
  all_goals (simp only [snap]; rw [snapOne_congr hh])
theorem frz_congr {v : AV} (hh : ∀ i ∈ v.ids, h' i = h i) : frz h' v = frz h v := by
  cases v
  case agg vs => simp only [frz]; exact frzAll_congr (by simpa [AV.ids] using hh)
  all_goals (simp only [frz]; rw [frz1_congr hh])
theorem arg1_congr {fl : Bool} {v : AV} (hh : ∀ i ∈ v.ids, h' i = h i) : arg1 fl false h' v = arg1 fl false h v := by
  cases v
  case ref i off => simp only [arg1, cond_false]; rw [hh i (by simp [AV.ids]), snapOne_congr hh, frz1_congr hh]
  all_goals (simp only [arg1]; rw [snapOne_congr hh, frz1_congr hh])
theorem argL_congr {fl : Bool} : ∀ {vs : List AV}, (∀ i ∈ idsL vs, h' i = h i) → argL fl false h' vs = argL fl false h vs
  | [], _ => rfl
  | v :: vs, hh => by
    simp only [argL]
    rw [arg1_congr fun i hi => hh i (ids_cons.2 (.inl hi)), argL_congr fun i hi => hh i (ids_cons.2 (.inr hi))]
theorem argV_congr {fl : Bool} {v : AV} (hh : ∀ i ∈ v.ids, h' i = h i) : argV fl false h' v = argV fl false h v := by
  cases v
  case agg vs => simp only [argV]; rw [argL_congr (by simpa [AV.ids] using hh)]
  case fn f a b =>
    simp only [AV.ids, List.mem_append] at hh
    simp only [argV]; rw [argL_congr fun i hi => hh i (.inl hi), argL_congr fun i hi => hh i (.inr hi)]
  all_goals (simp only [argV]; rw [arg1_congr hh])
theorem argVs_congr {fl : Bool} : ∀ {vs : List AV}, (∀ i ∈ idsL vs, h' i = h i) → argVs fl false h' vs = argVs fl false h vs
  | [], _ => rfl
  | v :: vs, hh => by
    simp only [argVs]
    rw [argV_congr fun i hi => hh i (ids_cons.2 (.inl hi)), argVs_congr fun i hi => hh i (ids_cons.2 (.inr hi))]
theorem idsL_append : ∀ {a b : List AV} {i : Id}, i ∈ idsL (a ++ b) ↔ i ∈ idsL a ∨ i ∈ idsL b
  | [], b, i => by simp [idsL]
  | v :: a, b, i => by rw [List.cons_append, ids_cons, ids_cons, idsL_append, or_assoc]
theorem idsL_mem : ∀ {vs : List AV} {i : Id}, i ∈ idsL vs → ∃ v ∈ vs, i ∈ v.ids
  | v :: vs, i, hi => by
    rcases ids_cons.1 hi with hi | hi
    · exact ⟨v, List.mem_cons_self, hi⟩
    · obtain ⟨u, h1, h2⟩ := idsL_mem hi; exact ⟨u, List.mem_cons_of_mem _ h1, h2⟩
  | [], i, hi => by simp [idsL] at hi

theorem callAV_congr {d : Nat} {c : Option Bool} {f : FuncId} {args : List AV} {K : AV → Upd → Option R} (hh : s'.h = s.h ∨ (A.bref f = none ∧ A.deep f = false ∧ ∀ i ∈ idsL args, s'.h i = s.h i)) : callAV P A O s' d c f args K = callAV P A O s d c f args K := by
  unfold callAV
  rcases hh with hh | ⟨hb, hd, hh⟩
  · rw [hh]
  · have e : ∀ fl, argVs fl false s'.h args = argVs fl false s.h args := fun fl => argVs_congr hh
    simp only [hb, hd, e]
theorem rowK_congr {c : Option Bool} {i : Id} {n : Nat} {K : Nat → Bool → List (List T) → Option R} (hh : h' i = h i) : rowK h' c i n K = rowK h c i n K := by
  unfold rowK; rw [hh]
theorem callL_congr {lend : Bool} {d : Nat} {c : Option Bool} {f : FuncId} {args : List AV} {K : AV → Upd → Option R} (hh : s'.h = s.h ∨ (lend = false ∧ A.bref f = none ∧ A.deep f = false ∧ ∀ i ∈ idsL args, s'.h i = s.h i)) : callL lend P A O s' d c f args K = callL lend P A O s d c f args K := by
  rcases hh with hh | ⟨rfl, hh⟩
  · unfold callL
    rw [hh]
    cases cond lend (rowArg args) none with
    | none => exact callAV_congr (.inl hh)
    | some q =>
      obtain ⟨l1, i, n, l2⟩ := q
      dsimp only
      split <;> rfl
  · exact callAV_congr (.inr hh)
theorem loadAV_congr {c : Option Bool} {t : TypeId} {a : AV} {K : AV → Option R} (hh : ∀ i ∈ a.ids, s'.h i = s.h i) : loadAV P s' c t a K = loadAV P s c t a K := by
  unfold loadAV
  cases a <;> (try rfl) <;> (simp only []; first | rw [rowK_congr (hh _ (by simp [AV.ids]))] | rw [hh _ (by simp [AV.ids])])
theorem storeAV_congr {t : TypeId} {a v : AV} {K : Upd → Option R} (hh : ∀ i ∈ a.ids, s'.h i = s.h i) (hv : ∀ i ∈ v.ids, s'.h i = s.h i) : storeAV P s' t a v K = storeAV P s t a v K := by
  unfold storeAV
  cases a <;> (try rfl) <;> (simp only []; rw [hh _ (by simp [AV.ids])]; try rw [snap_congr hv, frz_congr hv])
  cases v
  case own j => simp only [hv j (by simp [AV.ids])]
  all_goals rfl
theorem indexAddrAV_congr {c : Option Bool} {t : TypeId} {x : AV} {i : Int} {K : AV → Option R} (hh : ∀ i ∈ x.ids, s'.h i = s.h i) : indexAddrAV P s' c t x i K = indexAddrAV P s c t x i K := by
  unfold indexAddrAV
  cases x
  case row i n => simp only [rowK_congr (hh i (by simp [AV.ids]))]
  all_goals first | rfl | (simp only []; rw [hh _ (by simp [AV.ids])])
theorem lenAV_congr {c : Option Bool} {t : TypeId} {x : AV} {K : AV → Option R} (hh : ∀ i ∈ x.ids, s'.h i = s.h i) : lenAV P s' c t x K = lenAV P s c t x K := by
  unfold lenAV
  cases x
  case row i n => simp only [rowK_congr (hh i (by simp [AV.ids]))]
  all_goals first | rfl | (simp only []; rw [hh _ (by simp [AV.ids])])
theorem sliceAV_congr {c : Option Bool} {t : TypeId} {x : AV} {lo hi mx : Option Int} {K : AV → Option R} (hh : ∀ i ∈ x.ids, s'.h i = s.h i) : sliceAV P s' c t x lo hi mx K = sliceAV P s c t x lo hi mx K := by
  unfold sliceAV
  cases x <;> (try rfl) <;> (simp only []; rw [hh _ (by simp [AV.ids])])
theorem isNilAV_congr {t : TypeId} {x : AV} (hh : ∀ i ∈ x.ids, s'.h i = s.h i) : isNilAV P s' t x = isNilAV P s t x := by
  unfold isNilAV
  cases x
  case own i => simp only [hh i (by simp [AV.ids])]
  case t z => cases z <;> rfl
  all_goals rfl
theorem appended_congr {t : TypeId} {sz : Nat} {zs : List T} {y : AV} {K : List (List T) → Option R} (hh : ∀ i ∈ y.ids, s'.h i = s.h i) : appended P s' t sz zs y K = appended P s t sz zs y K := by
  unfold appended
  rw [snapOne_congr hh]
theorem appendAV_congr {d : Nat} {t ty : TypeId} {x y : AV} {K : AV → Upd → Option R} (hh : ∀ i ∈ x.ids, s'.h i = s.h i) (hy : ∀ i ∈ y.ids, s'.h i = s.h i) : appendAV P s' d false t ty x y K = appendAV P s d false t ty x y K := by
  unfold appendAV
  simp only [cond_false]
  cases x <;> simp only [appended_congr hy]
  case own i => rw [hh i (by simp [AV.ids])]
  case part i sz off n => rw [hh i (by simp [AV.ids])]
  all_goals rfl
theorem lookupAV_congr {c : Option Bool} {t : TypeId} {x k : AV} {ok : Bool} {K : AV → Option R} (hh : ∀ i ∈ x.ids, s'.h i = s.h i) : lookupAV P s' c t x k ok K = lookupAV P s c t x k ok K := by
  unfold lookupAV
  cases x <;> (try rfl) <;> (simp only []; rw [hh _ (by simp [AV.ids])])
theorem putAV_congr {t : TypeId} {x k v : AV} {K : Upd → Option R} (hh : ∀ i ∈ x.ids, s'.h i = s.h i) : putAV P s' t x k v K = putAV P s t x k v K := by
  unfold putAV
  cases x <;> (try rfl) <;> (simp only []; rw [hh _ (by simp [AV.ids])])
theorem delAV_congr {t : TypeId} {x k : AV} {K : Upd → Option R} (hh : ∀ i ∈ x.ids, s'.h i = s.h i) : delAV P s' t x k K = delAV P s t x k K := by
  unfold delAV
  cases x <;> (try rfl) <;> (simp only []; rw [hh _ (by simp [AV.ids])])
theorem elemsAV_congr {e : TypeId} {ev : Operand → AV} : ∀ {ps : List (Nat × Operand)} {n : Nat}, (∀ x ∈ ps.map (·.2), ∀ i ∈ (ev x).ids, h' i = h i) → elemsAV P h' e ev n ps = elemsAV P h e ev n ps
  | [], n, _ => rfl
  | (k, o) :: ps, n, hh => by
    simp only [elemsAV]
    rw [snap_congr (hh o (by simp)), frz_congr (hh o (by simp)), elemsAV_congr fun x hx => hh x (by simp only [List.map_cons]; exact List.mem_cons_of_mem _ hx)]
theorem elemsAV_ev {e : TypeId} {ev ev' : Operand → AV} : ∀ {ps : List (Nat × Operand)} {n : Nat}, (∀ x ∈ ps.map (·.2), ev' x = ev x) → elemsAV P h e ev' n ps = elemsAV P h e ev n ps
  | [], n, _ => rfl
  | (k, o) :: ps, n, hh => by
    simp only [elemsAV]
    rw [hh o (by simp), elemsAV_ev fun x hx => hh x (by simp only [List.map_cons]; exact List.mem_cons_of_mem _ hx)]
theorem partsAV_ev {t : TypeId} {ev ev' : Operand → AV} : ∀ {ps : List (Nat × Operand)}, (∀ x ∈ ps.map (·.2), ev' x = ev x) → partsAV P t ev' ps = partsAV P t ev ps
  | [], _ => rfl
  | (k, o) :: ps, hh => by
    simp only [partsAV]
    rw [hh o (by simp), partsAV_ev fun x hx => hh x (by simp only [List.map_cons]; exact List.mem_cons_of_mem _ hx)]

theorem get_congr {g : Option Gs} {x : Operand} (ht : ∀ k, x = .tmp k → s'.t k = s.t k) : s'.get g x = s.get g x := by
  cases x with
  | tmp k =>
    show (cond (sameG (s'.t k).1 g) (s'.t k).2 AV.top) = cond (sameG (s.t k).1 g) (s.t k).2 AV.top
    rw [ht k rfl]
  | _ => rfl
theorem getArm_congr {g : Option Gs} {b x : Operand} {w : Bool} (ht : ∀ k, x = .tmp k → s'.t k = s.t k) : s'.getArm g b w x = s.getArm g b w x := by
  unfold St.getArm
  split
  · rw [ht _ rfl]
  · exact get_congr ht

set_option maxHeartbeats 1000000 in
theorem aopD_congr {g : Option Gs} {o : Oper} (ht : ∀ x ∈ o.op.operands, ∀ k, x = .tmp k → s'.t k = s.t k) (hh0 : isPure P o = true ∨ isAl o = true ∨ s'.h = s.h ∨ (isR A o = false ∧ isD A o = false ∧ ∀ x ∈ o.op.operands, ∀ i ∈ (s.get g x).ids, s'.h i = s.h i)) :
    aopD P A O g o s' = aopD P A O g o s := by
  have eg : ∀ x ∈ o.op.operands, s'.get g x = s.get g x := fun x hx => get_congr (ht x hx)
  have hh : isPure P o = true ∨ isAl o = true ∨ ∀ x ∈ o.op.operands, ∀ i ∈ (s.get g x).ids, s'.h i = s.h i := by
    rcases hh0 with h | h | h | h
    · exact .inl h
    · exact .inr (.inl h)
    · exact .inr (.inr fun _ _ i _ => by rw [h])
    · exact .inr (.inr h.2.2)
  have hw : ∀ cl, o.op = .call cl → ∀ f, cl.callee = .value f → isPure P o = false := by
    intro cl h1 f h2
    simp [isPure, h1, h2]
  have hal : ∀ cl, o.op = .call cl → isAl o = false := by
    intro cl h1
    simp [isAl, h1]
  have hw2 : isPure P o = true ∨ isAl o = true ∨ s'.h = s.h ∨ (isR A o = false ∧ isD A o = false) := hh0.imp id (Or.imp id (Or.imp id fun h => ⟨h.1, h.2.1⟩))
  unfold aopD aop
  cases hop : o.op <;> rw [hop] at ht eg hh <;> simp only [isPure, isAl, hop, Bool.false_eq_true, false_or] at hh <;> dsimp only <;> simp only [Op.operands] at ht eg hh
  case pick a b x =>
    rw [eg a (by simp), getArm_congr (ht b (by simp)), getArm_congr (ht x (by simp))]
  case build t ps =>
    unfold buildAV
    rw [partsAV_ev (ev := s.get g) (by simpa using eg)]
  case buildSlice t n ps =>
    have e1 : ∀ e, elemsAV P s'.h e (s'.get g) 0 ps.toList = elemsAV P s.h e (s.get g) 0 ps.toList := fun e => by
      rw [elemsAV_ev (ev := s.get g) (by simpa using eg), elemsAV_congr (by simpa using hh)]
    simp only [e1]
    congr 1; funext e
    split
    · split
      · rename_i x _ hps
        rw [eg x (by simp [hps])]
      · rfl
    · rfl
  case load t x => rw [eg x (by simp), loadAV_congr (hh x (by simp))]
  case store t x y => rw [eg x (by simp), eg y (by simp), storeAV_congr (hh x (by simp)) (hh y (by simp))]
  case binOp op t x y ty =>
    rw [eg x (by simp), eg y (by simp)]
    rcases hh with hh | hh
    · simp only [Bool.not_eq_true', Bool.or_eq_false_iff] at hh
      rw [hh.1, hh.2]
      cases op <;> rfl
    · rw [isNilAV_congr (hh x (by simp)), isNilAV_congr (hh y (by simp))]
  case convert src dst x => rw [eg x (by simp), snapOne_congr (hh x (by simp))]
  case makeFunc fn fst caps =>
    cases fn <;> try rfl
    have e1 : fst.toList.map (s'.get g) = fst.toList.map (s.get g) := List.map_congr_left fun x hx => eg x (by simp at hx ⊢; exact .inl hx)
    have e2 : caps.toList.map (s'.get g) = caps.toList.map (s.get g) := List.map_congr_left fun x hx => eg x (by simp at hx ⊢; exact .inr hx)
    simp only [e1, e2]
  case slice t x lo hi mx =>
    have eb : ∀ (o : Option Operand) (c : Option Bool) (K : Option Int → Option (AV × Upd)), (∀ y, o = some y → y ∈ #[x] ++ lo.toArray ++ hi.toArray ++ mx.toArray) → boundAV s' c g o K = boundAV s c g o K := by
      intro o c K hm
      unfold boundAV
      cases o with
      | none => rfl
      | some y => simp only [eg y (hm y rfl)]
    have hx : x ∈ #[x] ++ lo.toArray ++ hi.toArray ++ mx.toArray := by simp
    rw [eg x hx]
    simp only [sliceAV_congr (hh x hx)]
    rw [eb lo _ _ (by intro y e; subst e; simp)]
    congr 1; funext lo'
    rw [eb hi _ _ (by intro y e; subst e; simp)]
    congr 1; funext hi'
    rw [eb mx _ _ (by intro y e; subst e; simp)]
  case indexAddr t x i => rw [eg x (by simp), eg i (by simp)]; simp only [indexAddrAV_congr (hh x (by simp))]
  case call cl =>
    simp only [Call.operands] at eg hh
    split
    · rename_i hcal
      split
      · rename_i x t ts hx _
        have hm : x ∈ (match cl.callee with | .value f => #[f] | .invoke r _ => #[r] | .builtin _ => #[]) ++ cl.args := by
          simp [← Array.mem_toList_iff, hx]
        rw [eg x hm]
        rcases hh with hh | hh
        · simp [hcal] at hh
        · exact lenAV_congr (hh x hm)
      · rfl
    · rename_i hcal
      split
      · rename_i x y t u _ hx _
        have hm : ∀ z, (z = x ∨ z = y) → z ∈ (match cl.callee with | .value f => #[f] | .invoke r _ => #[r] | .builtin _ => #[]) ++ cl.args := by
          intro z hz; simp [← Array.mem_toList_iff, hx, hz]
        rw [eg x (hm x (.inl rfl)), eg y (hm y (.inr rfl))]
        rcases hh with hh | hh
        · simp [hcal] at hh
        · cases hn : (A.nst o.dst o.type == 3) with
          | false => exact appendAV_congr (hh x (hm x (.inl rfl))) (hh y (hm y (.inr rfl)))
          | true =>
            rcases hw2 with h | h | h | h
            · simp [isPure, hop, hcal] at h
            · simp [isAl, hop] at h
            · have : ∀ (d : Nat) (b : Bool) (t ty : TypeId) (x y : AV) (K : AV → Upd → Option (AV × Upd)), appendAV P s' d b t ty x y K = appendAV P s d b t ty x y K := fun d b t ty x y K => by
                unfold appendAV appendR appended; rw [h]
              exact this _ _ _ _ _ _ _
            · have := h.2
              simp [isD, hop, hcal, hn] at this
      · rfl
    · have e1 : cl.args.toList.map (s'.get g) = cl.args.toList.map (s.get g) := List.map_congr_left fun x hx => eg x (by simp at hx ⊢; exact .inr hx)
      rw [e1]
    · have e1 : cl.args.toList.map (s'.get g) = cl.args.toList.map (s.get g) := List.map_congr_left fun x hx => eg x (by simp at hx ⊢; exact .inr hx)
      rw [e1]
    · rename_i hcal
      split
      · rename_i x y t ts _ hx _
        have hm : ∀ z, (z = x ∨ z = y) → z ∈ (match cl.callee with | .value f => #[f] | .invoke r _ => #[r] | .builtin _ => #[]) ++ cl.args := by
          intro z hz; simp [← Array.mem_toList_iff, hx, hz]
        rw [eg x (hm x (.inl rfl)), eg y (hm y (.inr rfl))]
        rcases hh with hh | hh
        · simp [hcal] at hh
        · exact delAV_congr (hh x (hm x (.inl rfl)))
      · rfl
    · rename_i hcal
      split
      · rename_i x t ts hx _
        have hm : x ∈ (match cl.callee with | .value f => #[f] | .invoke r _ => #[r] | .builtin _ => #[]) ++ cl.args := by
          simp [← Array.mem_toList_iff, hx]
        rw [eg x hm]
      · rfl
    · rename_i fo hcal
      have e1 : cl.args.toList.map (s'.get g) = cl.args.toList.map (s.get g) := List.map_congr_left fun x hx => eg x (by simp at hx ⊢; exact .inr hx)
      have hfo : fo ∈ (match cl.callee with | .value f => #[f] | .invoke r _ => #[r] | .builtin _ => #[]) ++ cl.args := by simp [hcal]
      rw [e1, eg fo hfo]
      rcases hh with hh | hh
      · simp [hcal] at hh
      · cases hv : s.get g fo <;> try rfl
        rename_i f a b
        have hids := hh fo hfo
        rw [hv] at hids
        simp only [AV.ids, List.mem_append] at hids
        refine callL_congr ?_
        have hall : ∀ i ∈ idsL (a ++ cl.args.toList.map (s.get g) ++ b), s'.h i = s.h i := by
          intro i hi
          rcases idsL_append.1 hi with hi | hi
          · rcases idsL_append.1 hi with hi | hi
            · exact hids i (.inl hi)
            · obtain ⟨v, hv, hi⟩ := idsL_mem hi
              obtain ⟨x, hx, rfl⟩ := List.mem_map.1 hv
              exact hh x (by simp at hx ⊢; exact .inr hx) i hi
          · exact hids i (.inr hi)
        rcases hw2 with h | h | h | h
        · rw [hw cl hop fo hcal] at h; cases h
        · rw [hal cl hop] at h; cases h
        · exact .inl h
        · obtain ⟨h, hd⟩ := h
          simp only [isR, hop, hcal] at h
          simp only [isD, hop, hcal] at hd
          cases fo with
          | func f' =>
            simp only [St.get] at hv
            obtain ⟨rfl, _, _⟩ : f' = f ∧ _ ∧ _ := by simpa using hv
            cases hb : A.bref f' with
            | some x => dsimp only at h; rw [hb] at h; simp at h
            | none => exact .inr ⟨rfl, rfl, hd, hall⟩
          | _ => simp at h
    · rfl
  case move x => rw [eg x (by simp)]
  case assign x => rw [eg x (by simp)]
  case box t x => rw [eg x (by simp)]
  case nilCheck x => rw [eg x (by simp)]
  case unOp op t x => rw [eg x (by simp)]
  case makeSlice t x y => rw [eg x (by simp), eg y (by simp)]
  case lookup t x k ok => rw [eg x (by simp), eg k (by simp), lookupAV_congr (hh x (by simp))]
  case mapUpdate t x k v => rw [eg x (by simp), eg k (by simp), eg v (by simp), putAV_congr (hh x (by simp))]
  case fieldAddr t x f => rw [eg x (by simp)]
  case field t x f => rw [eg x (by simp)]
  case index t x i => rw [eg x (by simp), eg i (by simp)]
  case extract x k => rw [eg x (by simp)]


/-! ### Calls that hand blocks in, where other blocks are there besides -/
theorem argR_congr {keep : List Id} {b : Bool} {v : AV} (hh : ∀ i ∈ v.ids, h' i = h i) : argR h' keep b v = argR h keep b v := by
  unfold argR; rw [argV_congr hh]
theorem argRs_congr {keep : List Id} : ∀ {fl : List Bool} {vs : List AV}, (∀ i ∈ idsL vs, h' i = h i) → argRs h' keep fl vs = argRs h keep fl vs
  | _, [], _ => by simp [argRs]
  | fl, v :: vs, hh => by
    simp only [argRs]
    rw [argR_congr fun i hi => hh i (ids_cons.2 (.inl hi)), argRs_congr fun i hi => hh i (ids_cons.2 (.inr hi))]
theorem updH_agree {N : Id → Prop} : ∀ {us : Upd} {h h' : Id → Option Blk}, (∀ i, ¬ N i → h' i = h i) → ∀ i, ¬ N i → updH h' us i = updH h us i
  | [], _, _, hN, i, hi => hN i hi
  | (j, b) :: us, h, h', hN, i, hi => by
    rw [updH_cons, updH_cons]
    refine updH_agree (N := N) (fun k hk => ?_) i hi
    by_cases e : k = j
    · subst e; rw [upd_same, upd_same]
    · rw [upd_ne _ _ e, upd_ne _ _ e]; exact hN k hk
theorem ownCell_agree {N : Id → Prop} {new i : Id} {k sz : Nat} {us : Upd} (hN : ∀ i, ¬ N i → h' i = h i) (hi : ¬ N i) (hnew : ¬ N new) (hus : ∀ p ∈ us, ¬ N p.1) (e : ownCell h new i k sz = some us) : ownCell h' new i k sz = some us := by
  unfold ownCell at e ⊢
  cases hb : Nat.ble 100000 sz with
  | true =>
    rw [hb, cond_true] at e
    rw [cond_true]
    unfold rowCell at e ⊢
    rw [hN i hi, hN new hnew]; exact e
  | false =>
  rw [hb, cond_false] at e
  rw [cond_false]
  rw [hN i hi, hN new hnew]
  split at e
  · rename_i cs hi
    try simp only [hi]
    split at e
    · exact e
    · exact e
    · exact e
    · rename_i j sz' n hk
      split at e
      · rename_i sz'' b xs hj
        split at e
        · rename_i hc
          have hNj : ¬ N j := by
            cases hf : (h new).isNone with
            | false => rw [hf] at e; simp at e
            | true =>
              rw [hf] at e
              simp only [cond_true, Option.some.injEq] at e; subst e
              exact hus (j, _) List.mem_cons_self
          rw [hN j hNj, hj]
          simp only [if_pos hc]
          exact e
        · cases e
      · cases e
    · cases e
  · cases e
theorem prep_agree {N : Id → Prop} {nm : Nat} (hnm : ∀ k, ¬ N (.s nm k)) : ∀ {l : List (Id × Nat × Nat)} {j : Nat} {h h' : Id → Option Blk} {us : Upd}, (∀ i, ¬ N i → h' i = h i) → (∀ q ∈ l, ¬ N q.1) → (∀ p ∈ us, ¬ N p.1) → prep nm j h l = some us → prep nm j h' l = some us
  | [], _, _, _, _, _, _, _, e => e
  | (i, k, sz) :: l, j, h, h', us, hN, hl, hus, e => by
    simp only [prep] at e ⊢
    obtain ⟨u1, e1, e⟩ := Option.bind_eq_some_iff.1 e
    obtain ⟨u2, e2, e⟩ := Option.bind_eq_some_iff.1 e
    simp only [Option.some.injEq] at e; subst e
    rw [ownCell_agree hN (hl (i, k, sz) List.mem_cons_self) (hnm j) (fun p hp => hus p (List.mem_append_left _ hp)) e1]
    simp only [Option.bind_some]
    rw [prep_agree hnm (updH_agree hN) (fun q hq => hl q (List.mem_cons_of_mem _ hq)) (fun p hp => hus p (List.mem_append_right _ hp)) e2]
    rfl
theorem reach_agree : ∀ {n : Nat} {todo seen0 seen : List Id}, reach h n todo seen0 = some seen → (∀ i ∈ seen, h' i = h i) → reach h' n todo seen0 = some seen
  | 0, todo, seen0, seen, e, _ => by simp [reach] at e
  | n + 1, [], seen0, seen, e, _ => e
  | n + 1, i :: todo, seen0, seen, e, hs => by
    simp only [reach] at e ⊢
    cases hin : seen0.contains i with
    | true => rw [hin, cond_true] at e; rw [cond_true]; exact reach_agree e hs
    | false =>
      rw [hin, cond_false] at e
      rw [cond_false]
      have hm : i ∈ seen := by
        have : seen0 ++ [i] <+: seen := by
          split at e
          · exact reach_grows e
          · exact reach_grows e
          · exact reach_grows e
          · cases e
        exact this.subset (List.mem_append_right _ (List.mem_singleton.2 rfl))
      rw [hs i hm]
      split at e
      · exact reach_agree e hs
      · exact reach_agree e hs
      · exact reach_agree e hs
      · cases e
theorem dedup_sub : ∀ {l seen : List Id}, ∀ i ∈ dedup l seen, i ∈ l
  | [], _, i, hi => by simp [dedup] at hi
  | j :: l, seen, i, hi => by
    simp only [dedup] at hi
    cases hc : seen.contains j with
    | true => rw [hc, cond_true] at hi; exact List.mem_cons_of_mem _ (dedup_sub i hi)
    | false =>
      rw [hc, cond_false] at hi
      rcases List.mem_cons.1 hi with rfl | hi
      · exact List.mem_cons_self
      · exact List.mem_cons_of_mem _ (dedup_sub i hi)
theorem reqB_sub {i : Id} : ∀ {l : List RSh} {k : Nat}, ∀ q ∈ reqB i k l, q.1 = i
  | [], _, q, hq => by simp [reqB] at hq
  | r :: l, k, q, hq => by
    cases r with
    | own sz =>
      simp only [reqB] at hq
      rcases List.mem_cons.1 hq with rfl | hq
      · rfl
      · exact reqB_sub q hq
    | rows sz col rsz =>
      simp only [reqB] at hq
      rcases List.mem_cons.1 hq with rfl | hq
      · rfl
      · exact reqB_sub q hq
    | _ => simp only [reqB] at hq; exact reqB_sub q hq
theorem reqs_sub : ∀ {is : List Id} {bs : List BSh}, ∀ q ∈ reqs is bs, q.1 ∈ is
  | [], bs, q, hq => by cases bs <;> simp [reqs] at hq
  | i :: is, [], q, hq => by simp [reqs] at hq
  | i :: is, b :: bs, q, hq => by
    cases b with
    | box l =>
      simp only [reqs, List.mem_append] at hq
      rcases hq with hq | hq
      · rw [reqB_sub q hq]; exact List.mem_cons_self
      · exact List.mem_cons_of_mem _ (reqs_sub q hq)
    | _ => simp only [reqs] at hq; exact List.mem_cons_of_mem _ (reqs_sub q hq)
theorem callAV_agree {N : Id → Prop} {d : Nat} {c : Option Bool} {f : FuncId} {args : List AV} {v : AV} {us : Upd} (hN : ∀ i, ¬ N i → s'.h i = s.h i) (hd : A.deep f = false) (hargs : ∀ i ∈ idsL args, ¬ N i) (hbig : ∀ k, ¬ N (.s (2000000 + d) k)) (hus : ∀ p ∈ us, ¬ N p.1)
    (e : callAV P A O s d c f args (fun v u => some (v, u)) = some (v, us)) : callAV P A O s' d c f args (fun v u => some (v, u)) = some (v, us) := by
  cases hb : A.bref f with
  | none => rw [callAV_congr (.inr ⟨hb, hd, fun i hi => hN i (hargs i hi)⟩)]; exact e
  | some fl =>
    unfold callAV at e ⊢
    cases hfn : P.funcs[f]? with
    | none => rw [hfn] at e; simp at e
    | some fn =>
      simp only [hfn, hb] at e ⊢
      cases c with
      | some b => simp at e
      | none =>
        simp only at e ⊢
        rw [argRs_congr fun i hi => hN i (hargs i hi)]
        obtain ⟨p, hp, e⟩ := Option.bind_eq_some_iff.1 e
        rw [hp, Option.bind_some]
        obtain ⟨us1, hus1, e⟩ := Option.bind_eq_some_iff.1 e
        obtain ⟨seen, hseen, e⟩ := Option.bind_eq_some_iff.1 e
        obtain ⟨_, _, g3, _, _⟩ := reach_sound hseen List.nodup_nil (by simp) (by simp)
        have e0 := e
        have hall : (∀ q ∈ us1, ¬ N q.1) ∧ ∀ i ∈ seen, ¬ N i := by
          cases hcd : (notOf d seen && Nat.beq (disc (seen.map fun i => rnB seen (updH (updH s.h p.2) us1 i)).head?) (disc ((idsL p.1).head?.bind (updH s.h p.2)))) with
          | false => rw [hcd] at e; simp at e
          | true =>
            rw [hcd, cond_true] at e
            obtain ⟨pt, e, _⟩ := typVs_some (.inl rfl) e
            obtain ⟨xs, _, e⟩ := gdK_some e (.inl rfl)
            rw [show ∀ (n : Nat), (decL seen d none 0 (resSh P A f n fn) xs fun vs u j => decOuts seen d j seen (outSh A f n) (xs.drop (sizes (resSh P A f n fn))) fun q => (some (resAV vs, p.2 ++ us1 ++ deads seen ++ u ++ q) : Option (AV × Upd))) =
              ((decL seen d none 0 (resSh P A f n fn) xs fun vs u j => some (vs, u, j)).bind fun q0 => (decOuts seen d q0.2.2 seen (outSh A f n) (xs.drop (sizes (resSh P A f n fn))) some).bind fun q => some (resAV q0.1, p.2 ++ us1 ++ deads seen ++ q0.2.1 ++ q)) from fun n => by
                rw [decL_nat]; congr 1; funext vs u j; simp only [Option.bind_some]; rw [decOuts_nat]; rfl] at e
            obtain ⟨q0, _, e⟩ := Option.bind_eq_some_iff.1 e
            obtain ⟨q, _, e⟩ := Option.bind_eq_some_iff.1 e
            simp only [Option.some.injEq, Prod.mk.injEq] at e
            obtain ⟨_, rfl⟩ := e
            refine ⟨fun x hx => hus x ?_, fun i hi => hus (i, .dead) ?_⟩
            · exact List.mem_append_left _ (List.mem_append_left _ (List.mem_append_left _ (List.mem_append_right _ hx)))
            · exact List.mem_append_left _ (List.mem_append_left _ (List.mem_append_right _ (List.mem_map.2 ⟨i, hi, rfl⟩)))
        have hN1 : ∀ i, ¬ N i → updH s'.h p.2 i = updH s.h p.2 i := updH_agree hN
        have hN2 : ∀ i, ¬ N i → updH (updH s'.h p.2) us1 i = updH (updH s.h p.2) us1 i := updH_agree hN1
        have hdisc : (idsL p.1).head?.bind (updH s'.h p.2) = (idsL p.1).head?.bind (updH s.h p.2) := by
          cases hh : (idsL p.1).head? with
          | none => rfl
          | some i => exact hN1 i (hall.2 i (g3 i (List.mem_of_mem_head? (by rw [hh]; rfl))))
        rw [hdisc]
        rw [prep_agree hbig hN1 (fun q hq => hall.2 q.1 (g3 q.1 (dedup_sub q.1 (reqs_sub q hq)))) hall.1 hus1, Option.bind_some]
        rw [reach_agree hseen fun i hi => hN2 i (hall.2 i hi), Option.bind_some]
        have hm : (seen.map fun i => rnB seen (updH (updH s'.h p.2) us1 i)) = seen.map fun i => rnB seen (updH (updH s.h p.2) us1 i) := List.map_congr_left fun i hi => by rw [hN2 i (hall.2 i hi)]
        rw [hm]
        exact e0
theorem aopD_agree {N : Id → Prop} {g : Option Gs} {o : Oper} {v : AV} {us : Upd} (ht : ∀ x ∈ o.op.operands, ∀ k, x = .tmp k → s'.t k = s.t k) (hN : ∀ i, ¬ N i → s'.h i = s.h i) (hd : isD A o = false) (hdir : ∀ x ∈ o.op.operands, ∀ i ∈ (s.get g x).ids, ¬ N i)
    (hbig : ∀ k, ¬ N (.s (2000000 + o.dst.getD 0) k)) (hus : ∀ p ∈ us, ¬ N p.1) (e : aopD P A O g o s = some (v, us)) : aopD P A O g o s' = some (v, us) := by
  cases hr : isR A o with
  | false => rw [aopD_congr (s := s) ht (.inr (.inr (.inr ⟨hr, hd, fun x hx i hi => hN i (hdir x hx i hi)⟩)))]; exact e
  | true =>
    have eg : ∀ x ∈ o.op.operands, s'.get g x = s.get g x := fun x hx => get_congr (ht x hx)
    cases hop : o.op <;> simp only [isR, hop, Bool.false_eq_true] at hr
    rename_i cl
    cases hcal : cl.callee <;> simp only [hcal, Bool.false_eq_true] at hr
    rename_i fo
    unfold aopD aop at e ⊢
    rw [hop] at e hdir eg ⊢
    simp only [Op.operands, Call.operands] at hdir eg
    simp only [hcal] at e ⊢
    have e1 : cl.args.toList.map (s'.get g) = cl.args.toList.map (s.get g) := List.map_congr_left fun x hx => eg x (by simp at hx ⊢; exact .inr hx)
    have hfo : fo ∈ (match cl.callee with | .value f => #[f] | .invoke r _ => #[r] | .builtin _ => #[]) ++ cl.args := by simp [hcal]
    rw [e1, eg fo hfo]
    cases hv : s.get g fo <;> rw [hv] at e <;> simp only [reduceCtorEq] at e
    rename_i f a b
    have hids := hdir fo hfo
    rw [hv] at hids
    simp only [AV.ids, List.mem_append] at hids
    have hdeep : A.deep f = false := by
      simp only [isD, hop, hcal] at hd
      cases fo with
      | func f' =>
        simp only [St.get] at hv
        obtain ⟨rfl, _, _⟩ : f' = f ∧ _ ∧ _ := by simpa using hv
        exact hd
      | _ => simp at hd
    have hl : lendOf fo = false := by
      simp only [isD, hop, hcal] at hd
      cases fo with
      | func f' => rfl
      | _ => simp at hd
    dsimp only at e ⊢
    rw [hl, callL_false] at e ⊢
    refine callAV_agree hN hdeep ?_ hbig hus e
    intro i hi
    rcases idsL_append.1 hi with hi | hi
    · rcases idsL_append.1 hi with hi | hi
      · exact hids i (.inl hi)
      · obtain ⟨v, hv, hi⟩ := idsL_mem hi
        obtain ⟨x, hx, rfl⟩ := List.mem_map.1 hv
        exact hdir x (by simp at hx ⊢; exact .inr hx) i hi
    · exact hids i (.inr hi)

end
end Go.Aev
