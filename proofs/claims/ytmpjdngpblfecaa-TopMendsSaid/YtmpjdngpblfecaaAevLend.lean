/-
  A row is lent to a callee.
-/
import Derived.Test.YtmpjdngpblfecaaAevCall
set_option linter.unusedSimpArgs false
set_option linter.unusedVariables false
namespace Go.Aev
open Go

section
variable {P : Program} {w w' : World} {A A' : Nat → Prop} {c : Ctx} {ρ ρ' : Id → Option Value} {O O' : Id → Option Nat} {s : St} {cc : Option Bool} {h : Id → Option Blk}

theorem RelB.setOwn {i : Id} {b : Bool} {sz col rsz nx k : Nat} {es : List Row} {e : Row} (hb : RelB w A ρ O i (.rows b sz col rsz nx es)) (hk : es[k]? = some e) (q : Option (Bool × List (List T))) (hA : ∀ d, A d → A' d)
    (hρi : ρ' i = ρ i) (hρ : ∀ n, ρ' (.g i n) = ρ (.g i n)) (hOi : O' i = O i) (hO : ∀ m, m ≠ e.n → O' (.g i m) = O (.g i m))
    (hq : match q with | some p => ∀ v, ρ (.g i e.n) = some v → SlAt w A' rsz p.1 p.2 v (fun d => O' (.g i e.n) = some d) | none => O' (.g i e.n) = none) :
    RelB w A' ρ' O' i (.rows b sz col rsz nx (es.set k { e with own := q })) := by
  obtain ⟨a, cap, r1, r2, r3, ⟨n1, n2, n3, n4⟩, r5⟩ := hb
  have hlen : (es.set k { e with own := q }).length = es.length := by simp
  have hmap : (es.set k { e with own := q }).map (·.n) = es.map (·.n) := by
    rw [List.map_set]
    refine List.ext_getElem? fun m => ?_
    rw [List.getElem?_set]
    split
    · rename_i h; subst h
      have := (List.getElem?_eq_some_iff.1 hk).1
      rw [if_pos (by simpa using this)]; simp [hk]
    · rfl
  refine ⟨a, cap, by rw [hlen, hρi]; exact r1, by rw [hlen]; exact r2, r3, ⟨by rw [hmap]; exact n1, fun f hf' => ?_, fun m hm => by rw [hρ]; exact n3 m hm, fun m d hd => ?_⟩, ?_⟩
  · rcases List.mem_or_eq_of_mem_set hf' with hf' | rfl
    · exact n2 f hf'
    · exact n2 e (List.mem_of_getElem? hk)
  · have hex : ∃ f ∈ es, f.n = m := by
      by_cases hm : m = e.n
      · exact ⟨e, List.mem_of_getElem? hk, hm.symm⟩
      · rw [hO m hm] at hd; exact n4 m d hd
    obtain ⟨f, hf', hfn⟩ := hex
    have : m ∈ (es.set k { e with own := q }).map (·.n) := by rw [hmap]; exact List.mem_map.2 ⟨f, hf', hfn⟩
    obtain ⟨f', h1, h2⟩ := List.mem_map.1 this
    exact ⟨f', h1, h2⟩
  · rcases r5 with r5 | ⟨blk, off, arr, t, q1, q2, q3, q4, q5⟩
    · exact .inl r5
    · refine .inr ⟨blk, off, arr, t, q1, by rw [hOi]; exact q2, q3, q4, ?_⟩
      have hrow := q5.get hk
      refine RowsAt.set (fun b hb => ⟨hA b hb, rfl⟩) (List.getElem?_eq_some_iff.1 hk).1 (fun _ _ _ _ => rfl) (fun m f hm hf' => ?_) ?_ q5
      · have hfn : f.n ≠ e.n := fun h => hm (nodup_at n1 hf' hk h)
        exact ⟨hρ _, hO _ hfn, fun _ _ => rfl⟩
      · obtain ⟨a1, a2, a3, u, a4, a5, a7⟩ := hrow
        refine ⟨a1, a2, fun m y hm hy => ?_, u, a4, by rw [hρ]; exact a5, ?_⟩
        · obtain ⟨u', g1, g2⟩ := a3 m y hm hy
          exact ⟨u', g1, RelT.mono (fun b hb => ⟨hA b hb, rfl⟩) y u' g2⟩
        · cases q with
          | none => exact hq
          | some p => exact hq u a5
theorem noneR_mem {n : Nat} : ∀ {es : List Row} {u : Unit}, noneR n es = some u → ∃ k e, es[k]? = some e ∧ e.n = n ∧ e.own = none ∧ ∀ q, setR n q es = es.set k { e with own := q }
  | [], _, h => by simp [noneR] at h
  | e :: es, u, h => by
    unfold noneR at h
    by_cases c : e.n = n
    · rw [if_pos c] at h
      split at h
      · rename_i ho; exact ⟨0, e, rfl, c, ho, fun q => by simp [setR, c]⟩
      · cases h
    · rw [if_neg c] at h
      obtain ⟨k, f, h1, h2, h3, h4⟩ := noneR_mem h
      exact ⟨k + 1, f, by simpa using h1, h2, h3, fun q => by simp [setR, c, h4 q]⟩

theorem HS.lend {i new : Id} {b : Bool} {sz col rsz nx n : Nat} {es : List Row} {p : Bool × List (List T)} {v : Value} (hs : HS c w h ρ O) (hi : h i = some (.rows b sz col rsz nx es)) (hf : findR n es = some p) (hv : ρ (.g i n) = some v)
    (hnew : h new = none) (hrl : new.real = true) :
    ∃ O', Le w ρ O w (upd ρ new (some v)) O' ∧ HS c w (upd (upd h i (some (.rows b sz col rsz nx (setR n none es)))) new (some (.sl false rsz p.1 p.2))) (upd ρ new (some v)) O' := by
  have hri := hs.real (i := i) (by rw [hi]; simp)
  have hne : i ≠ new := fun e => by rw [e, hnew] at hi; cases hi
  obtain ⟨k, e, hk, hen, heo, hset⟩ := findR_mem hf
  obtain ⟨v', s1, s2⟩ := row_at (s := ⟨fun _ => (none, .top), h⟩) hs hi hf
  rw [hv] at s1; cases s1
  let Q : Id → Option Nat := fun x => if x = new then O (.g i n) else if x = .g i n then none else O x
  have Q1 : Q new = O (.g i n) := by simp only [Q, if_true]
  have Q2 : Q (.g i n) = none := by simp only [Q, if_neg (real_ne hrl), if_true]
  have Q3 : ∀ x, x ≠ new → x ≠ .g i n → Q x = O x := fun x h1 h2 => by simp only [Q, if_neg h1, if_neg h2]
  have dec : ∀ x d, Q x = some d → (x = new ∧ O (.g i n) = some d) ∨ (x ≠ new ∧ x ≠ .g i n ∧ O x = some d) := by
    intro x d hx
    simp only [Q] at hx
    split at hx
    · exact .inl ⟨by assumption, hx⟩
    · split at hx
      · cases hx
      · exact .inr ⟨by assumption, by assumption, hx⟩
  obtain ⟨n1, n2⟩ := hs.nodom new hrl hnew
  have le : Le w ρ O w (upd ρ new (some v)) Q := ⟨rfl, rfl, rfl, Nat.le_refl _, fun x u hx => by
    by_cases e : x = new
    · subst e; rw [n1] at hx; cases hx
    · rw [upd_ne _ _ e]; exact hx, fun _ _ _ => rfl, fun x d hx => by
    rcases dec x d hx with ⟨_, h⟩ | ⟨_, _, h⟩
    · exact .inl ⟨_, h⟩
    · exact .inl ⟨_, h⟩⟩
  refine ⟨Q, le, hs.goG le (fun x y hx => ?_) (fun x hr hx => ?_) (fun x m => by rw [upd_ne _ _ (real_ne hrl), upd_ne _ _ (real_ne hri)]; exact hs.nog x m) (fun x m hx => ?_) (fun x m u hu => by rw [upd_ne _ _ (real_ne hrl)] at hu; exact hs.gone x m u hu) (fun x y d hx hy => ?_) (fun x d hx => ?_)⟩
  · by_cases e1 : x = new
    · subst e1; rw [upd_same] at hx; cases hx
      right
      refine ⟨v, upd_same _ _ _, SlAt.mono (fun d hd => le.A d hd) (fun d hd => ⟨?_, rfl⟩) s2, by simp⟩
      simp only [Bool.false_eq_true, if_false]; rw [Q1]; exact hd
    · rw [upd_ne _ _ e1] at hx
      by_cases e2 : x = i
      · subst e2; rw [upd_same] at hx; cases hx
        right
        rw [hset]
        refine RelB.setOwn (hs.blk x _ hi) hk none (fun d hd => (le.A d hd).1) (upd_ne _ _ e1) (fun m => upd_ne _ _ (real_ne hrl)) (Q3 x e1 (real_ne hri).symm) (fun m hm => Q3 _ (real_ne hrl) ?_) ?_
        · intro h; simp only [Id.g.injEq, true_and] at h; exact hm (h.trans hen.symm)
        · simp only; rw [hen]; exact Q2
      · rw [upd_ne _ _ e2] at hx
        have hrx := hs.real (i := x) (by rw [hx]; simp)
        refine .inl ⟨hx, Q3 x e1 (real_ne hrx).symm, fun _ _ => rfl, fun m => ⟨upd_ne _ _ (real_ne hrl), Q3 _ (real_ne hrl) ?_, fun _ _ => rfl⟩⟩
        intro h; simp only [Id.g.injEq] at h; exact e2 h.1
  · have h1 : x ≠ new := fun e => by rw [e, upd_same] at hx; cases hx
    rw [upd_ne _ _ h1] at hx
    have h2 : x ≠ i := fun e => by rw [e, upd_same] at hx; cases hx
    rw [upd_ne _ _ h2] at hx
    rw [upd_ne _ _ h1, Q3 x h1 (real_ne hr).symm]; exact hs.nodom x hr hx
  · have h1 : x ≠ new := fun e => by rw [e, upd_same] at hx; cases hx
    rw [upd_ne _ _ h1] at hx
    have h2 : x ≠ i := fun e => by rw [e, upd_same] at hx; cases hx
    rw [upd_ne _ _ h2] at hx
    rw [upd_ne _ _ (real_ne hrl), Q3 _ (real_ne hrl) (by intro h; simp only [Id.g.injEq] at h; exact h2 h.1)]; exact hs.gdom x m hx
  · rcases dec x d hx with ⟨h1, h2⟩ | ⟨h1, h2, h3⟩ <;> rcases dec y d hy with ⟨k1, k2⟩ | ⟨k1, k2, k3⟩
    · rw [h1, k1]
    · exact (k2 (hs.inj _ _ d k3 h2)).elim
    · exact (h2 (hs.inj _ _ d h3 k2)).elim
    · exact hs.inj x y d h3 k3
  · rcases dec x d hx with ⟨_, h⟩ | ⟨_, _, h⟩
    · exact hs.lt _ d h
    · exact hs.lt _ d h

theorem HS.back {i new : Id} {b bb : Bool} {sz col rsz nx n : Nat} {es : List Row} {xs : List (List T)} {v : Value} {u : Unit} (hs : HS c w h ρ O) (hi : h i = some (.rows b sz col rsz nx es)) (hn : noneR n es = some u) (hnew : h new = some (.sl false rsz bb xs))
    (hv : ρ (.g i n) = some v) (hw : ρ new = some v) :
    ∃ O', Le w ρ O w ρ O' ∧ HS c w (upd (upd h i (some (.rows b sz col rsz nx (setR n (some (bb, xs)) es)))) new (some .dead)) ρ O' := by
  have hri := hs.real (i := i) (by rw [hi]; simp)
  have hrl := hs.real (i := new) (by rw [hnew]; simp)
  have hne : i ≠ new := fun e => by rw [e, hnew] at hi; cases hi
  obtain ⟨k, e, hk, hen, heo, hset⟩ := noneR_mem hn
  obtain ⟨v', s1, s2, _⟩ := hs.blk new _ hnew
  rw [hw] at s1; cases s1
  let Q : Id → Option Nat := fun x => if x = new then none else if x = .g i n then O new else O x
  have Q1 : Q new = none := by simp only [Q, if_true]
  have Q2 : Q (.g i n) = O new := by simp only [Q, if_neg (real_ne hrl), if_true]
  have Q3 : ∀ x, x ≠ new → x ≠ .g i n → Q x = O x := fun x h1 h2 => by simp only [Q, if_neg h1, if_neg h2]
  have dec : ∀ x d, Q x = some d → (x = .g i n ∧ O new = some d) ∨ (x ≠ new ∧ x ≠ .g i n ∧ O x = some d) := by
    intro x d hx
    simp only [Q] at hx
    split at hx
    · cases hx
    · split at hx
      · exact .inl ⟨by assumption, hx⟩
      · exact .inr ⟨by assumption, by assumption, hx⟩
  have le : Le w ρ O w ρ Q := ⟨rfl, rfl, rfl, Nat.le_refl _, fun _ _ h => h, fun _ _ _ => rfl, fun x d hx => by
    rcases dec x d hx with ⟨_, h⟩ | ⟨_, _, h⟩
    · exact .inl ⟨_, h⟩
    · exact .inl ⟨_, h⟩⟩
  refine ⟨Q, le, hs.goG le (fun x y hx => ?_) (fun x hr hx => ?_) (fun x m => by rw [upd_ne _ _ (real_ne hrl), upd_ne _ _ (real_ne hri)]; exact hs.nog x m) (fun x m hx => ?_) hs.gone (fun x y d hx hy => ?_) (fun x d hx => ?_)⟩
  · by_cases e1 : x = new
    · subst e1; rw [upd_same] at hx; cases hx
      exact .inr ⟨⟨v, hw, rho_one hs hw⟩, Q1⟩
    · rw [upd_ne _ _ e1] at hx
      by_cases e2 : x = i
      · subst e2; rw [upd_same] at hx; cases hx
        right
        rw [hset]
        refine RelB.setOwn (hs.blk x _ hi) hk (some (bb, xs)) (fun d hd => (le.A d hd).1) rfl (fun m => rfl) (Q3 x e1 (real_ne hri).symm) (fun m hm => Q3 _ (real_ne hrl) ?_) ?_
        · intro h; simp only [Id.g.injEq, true_and] at h; exact hm (h.trans hen.symm)
        · simp only
          intro v' hv'
          rw [hen, hv] at hv'; cases hv'
          refine SlAt.mono (fun d hd => le.A d hd) (fun d hd => ⟨?_, rfl⟩) s2
          simp only [Bool.false_eq_true, if_false] at hd
          rw [hen, Q2]; exact hd
      · rw [upd_ne _ _ e2] at hx
        have hrx := hs.real (i := x) (by rw [hx]; simp)
        refine .inl ⟨hx, Q3 x e1 (real_ne hrx).symm, fun _ _ => rfl, fun m => ⟨rfl, Q3 _ (real_ne hrl) ?_, fun _ _ => rfl⟩⟩
        intro h; simp only [Id.g.injEq] at h; exact e2 h.1
  · have h1 : x ≠ new := fun e => by rw [e, upd_same] at hx; cases hx
    rw [upd_ne _ _ h1] at hx
    have h2 : x ≠ i := fun e => by rw [e, upd_same] at hx; cases hx
    rw [upd_ne _ _ h2] at hx
    rw [Q3 x h1 (real_ne hr).symm]; exact hs.nodom x hr hx
  · have h1 : x ≠ new := fun e => by rw [e, upd_same] at hx; cases hx
    rw [upd_ne _ _ h1] at hx
    have h2 : x ≠ i := fun e => by rw [e, upd_same] at hx; cases hx
    rw [upd_ne _ _ h2] at hx
    rw [Q3 _ (real_ne hrl) (by intro h; simp only [Id.g.injEq] at h; exact h2 h.1)]; exact hs.gdom x m hx
  · rcases dec x d hx with ⟨h1, h2⟩ | ⟨h1, h2, h3⟩ <;> rcases dec y d hy with ⟨k1, k2⟩ | ⟨k1, k2, k3⟩
    · rw [h1, k1]
    · exact (k1 (hs.inj _ _ d k3 h2)).elim
    · exact (h1 (hs.inj _ _ d h3 k2)).elim
    · exact hs.inj x y d h3 k3
  · rcases dec x d hx with ⟨_, h⟩ | ⟨_, _, h⟩
    · exact hs.lt _ d h
    · exact hs.lt _ d h

theorem rowArg_sound : ∀ {args : List AV} {vals : List Value} {l1 : List AV} {i : Id} {n : Nat} {l2 : List AV}, RelVs w A ρ args vals → rowArg args = some (l1, i, n, l2) →
    ∃ v, ρ (.g i n) = some v ∧ ∀ (ρ' : Id → Option Value) (new : Id), (∀ x u, ρ x = some u → ρ' x = some u) → (∀ b, A b → A' b) → ρ' new = some v → RelVs w A' ρ' (l1 ++ .own new :: l2) vals
  | [], _, _, _, _, _, _, h => by simp [rowArg] at h
  | a :: args, vals, l1, i, n, l2, hv, h => by
    simp only [RelVs] at hv
    obtain ⟨u, r, rfl, g1, g2⟩ := hv
    have other : (rowArg args).bind (fun q => some (a :: q.1, q.2.1, q.2.2.1, q.2.2.2)) = some (l1, i, n, l2) →
        ∃ v, ρ (.g i n) = some v ∧ ∀ (ρ' : Id → Option Value) (new : Id), (∀ x u, ρ x = some u → ρ' x = some u) → (∀ b, A b → A' b) → ρ' new = some v → RelVs w A' ρ' (l1 ++ .own new :: l2) (u :: r) := by
      intro h
      obtain ⟨⟨m1, i', n', m2⟩, hq, h⟩ := Option.bind_eq_some_iff.1 h
      simp only [Option.some.injEq, Prod.mk.injEq] at h
      obtain ⟨rfl, rfl, rfl, rfl⟩ := h
      obtain ⟨v, k1, k2⟩ := rowArg_sound g2 hq
      refine ⟨v, k1, fun ρ' new hm hA hn => ?_⟩
      simp only [List.cons_append, RelVs]
      exact ⟨u, r, rfl, RelV.mono (fun b hb => ⟨hA b hb, rfl⟩) hm _ _ g1, k2 ρ' new hm hA hn⟩
    cases a
    case row i' n' =>
      simp only [rowArg, Option.some.injEq, Prod.mk.injEq] at h
      obtain ⟨rfl, rfl, rfl, rfl⟩ := h
      simp only [RelV] at g1
      refine ⟨u, g1, fun ρ' new hm hA hn => ?_⟩
      simp only [List.nil_append, RelVs]
      exact ⟨u, r, rfl, by simp only [RelV]; exact hn, RelVs.mono (fun b hb => ⟨hA b hb, rfl⟩) hm _ _ g2⟩
    all_goals exact other h

theorem callL_sound {R : Type} {An : Ann} {Or : Orc} (hO : OSound P An Or) {lend : Bool} {d : Nat} {f : FuncId} {args : List AV} {vals : List Value} {K : AV → Upd → Option R} {r : R} (hc : cc = none ∨ cc = some true) (hs : HS c w s.h ρ O) (hv : RelVs w (AA c w O) ρ args vals)
    (hk : callL lend P An Or s d cc f args K = some r) :
    ∃ v us fn body, K v us = some r ∧ P.funcs[f]? = some fn ∧ fn.body = some body ∧ fn.name ≠ "runtime.NumGoroutine" ∧
      (freshAt d s.h us = true → Calls P f vals.toArray w fun e w' => ∃ x, e = .returned x ∧ ∃ ρ' O', Le w ρ O w' ρ' O' ∧ HS c w' (updH s.h us) ρ' O' ∧ RelV w' (AA c w' O') ρ' v x) := by
  unfold callL at hk
  split at hk
  · exact callAV_sound hO hc hs hv hk
  · rename_i l1 i n l2 hq
    have hq : rowArg args = some (l1, i, n, l2) := by
      cases lend with
      | true => exact hq
      | false => cases hq
    split at hk
    · rename_i b sz col rsz nx es hi
      replace hk := gdK_some hk (.inl rfl); obtain ⟨p, hp, hk⟩ := hk
      cases hnew : s.h (.s (2500000 + d) 0) with
      | some x => rw [hnew] at hk; simp at hk
      | none =>
        rw [hnew] at hk
        simp only [Option.isNone_none, cond_true] at hk
        obtain ⟨v0, hv0, hargs⟩ := rowArg_sound (A' := AA c w O) hv hq
        obtain ⟨O1, le1, hs1⟩ := hs.lend (new := .s (2500000 + d) 0) hi hp hv0 hnew rfl
        have hv1 : RelVs w (AA c w O1) (upd ρ (.s (2500000 + d) 0) (some v0)) (l1 ++ .own (.s (2500000 + d) 0) :: l2) vals := by
          obtain ⟨v1, hv1, hargs'⟩ := rowArg_sound (A' := AA c w O1) hv hq
          rw [hv0] at hv1; cases hv1
          exact hargs' _ _ le1.rho (fun b hb => (le1.A b hb).1) (upd_same _ _ _)
        obtain ⟨v, us, fn, body, hk, hfn, hbody, hname, hcall⟩ := callAV_sound (s := ⟨s.t, _⟩) hO (cc := none) (.inl rfl) hs1 hv1 hk
        unfold backL at hk
        split at hk
        · rename_i b2 sz2 col2 rsz2 nx2 es2 rsz3 b3 xs3 e1 e2
          split at hk
          · rename_i hcond
            obtain ⟨rfl, rfl⟩ := hcond
            replace hk := gdK_some hk (.inl rfl); obtain ⟨u, hu, hk⟩ := hk
            refine ⟨v, _, fn, body, hk, hfn, hbody, hname, fun hfree => ?_⟩
            have hfr : freshAt d (upd (upd s.h i (some (.rows b sz col rsz3 nx (setR n none es)))) (.s (2500000 + d) 0) (some (.sl false rsz3 p.1 p.2))) us = true := by
              refine List.all_eq_true.2 fun q hq => ?_
              have := List.all_eq_true.1 hfree q (List.mem_append_left _ (List.mem_append_right _ hq))
              obtain ⟨x, y⟩ := q
              cases x with
              | s d' k =>
                simp only at this ⊢
                by_cases hd : d' = d
                · subst hd
                  have hn : s.h (.s d' k) = none := by simpa using this
                  have h1 : Id.s d' k ≠ .s (2500000 + d') 0 := by intro h; simp only [Id.s.injEq] at h; omega
                  have h2 : Id.s d' k ≠ i := fun h => by rw [← h, hn] at hi; cases hi
                  rw [upd_ne _ _ h1, upd_ne _ _ h2, hn]; simp
                · simp [hd]
              | c k => rfl
              | g j k => exact this
            refine (hcall hfr).mono ?_
            rintro e w' ⟨x, rfl, ρ', O', le2, hs2, hx⟩
            have hw : ρ' (.s (2500000 + d) 0) = some v0 := le2.rho _ _ (upd_same _ _ _)
            have hv2 : ρ' (.g i n) = some v0 := le2.rho _ _ (le1.rho _ _ hv0)
            rw [updH_append, updH_cons, updH_one] at e1 e2
            obtain ⟨O3, le3, hs3⟩ := hs2.back e1 hu e2 hv2 hw
            refine ⟨x, rfl, ρ', O3, le1.trans (le2.trans le3), ?_, RelV.mono (fun b hb => le3.A b hb) (fun _ _ h => h) _ _ hx⟩
            rw [updH_append, updH_append, updH_cons, updH_one, updH_cons, updH_one]
            exact hs3
          · simp at hk
        · simp at hk
    · simp at hk

end
end Go.Aev
