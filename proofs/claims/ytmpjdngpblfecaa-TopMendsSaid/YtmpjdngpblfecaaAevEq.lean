/-
  Equality of values, and of what may be nil.
-/
import Derived.Test.YtmpjdngpblfecaaAevOps
import Derived.ChangeKeysEq
set_option linter.unusedSimpArgs false
set_option linter.unusedVariables false
namespace Go.Aev
open Go

section
variable {P : Program} {w : World} {A : Nat → Prop}

def valOf (P : Program) (t : TypeId) (vs : List Value) : Value := if isAggT P t = true then .agg vs.toArray else vs.headD undef

theorem run_partA {t : TypeId} (ht : tyOk P t = true) (xs : Array Value) (off : Nat) (h1 : isAggT P t = false → P.cellsOf t = 1) (h2 : off + P.cellsOf t ≤ xs.size) (w : World) :
    (part t xs off).run P w = .ok (valOf P t ((xs.toList.drop off).take (P.cellsOf t))) w := by
  unfold part valOf
  simp only [Sem.run_bind, run_isAggA ht, Result.andThen_ok]
  cases hb : isAggT P t
  · simp only [Bool.false_eq_true, if_false]
    rw [h1 hb] at h2 ⊢
    have hlt : off < xs.size := by omega
    have : xs[off]? = some xs[off] := Array.getElem?_eq_getElem hlt
    rw [this]
    have hl : off < xs.toList.length := by simpa using hlt
    rw [List.drop_eq_getElem_cons hl]
    simp
  · simp only [if_true, Sem.run_bind, run_sizeA ht, Result.andThen_ok, Sem.run_pure]
    congr 2
    apply Array.ext'
    simp [Array.toList_extract, List.extract_eq_take_drop]

/-- The cells of one field's, or one element's, worth. -/
theorem RelTs.part {xs : List T} {vs : List Value} (h : RelTs w A xs vs) (off n : Nat) : RelTs w A ((xs.drop off).take n) ((vs.drop off).take n) := (h.drop off).take n

theorem eqCs_length {R : Type} {c : Option Bool} (hc : c = none ∨ c = some true) : ∀ {ts : List TypeId} {xs ys : List T} {K : Bool → Option R} {r : R}, eqCs P c ts xs ys K = some r → xs.length = ts.length ∧ ys.length = ts.length
  | [], [], [], _, _, _ => ⟨rfl, rfl⟩
  | t :: ts, x :: xs, y :: ys, K, r, h => by
    simp only [eqCs] at h
    have : ∃ b, eqCs P c ts xs ys (fun r => K (b && r)) = some r := by
      unfold eqC at h
      split at h
      · replace h := gdK_some h hc; obtain ⟨_, _, h⟩ := h
        replace h := gdK_some h hc; obtain ⟨_, _, h⟩ := h; exact ⟨_, h⟩
      · replace h := gdK_some h hc; obtain ⟨_, _, h⟩ := h
        replace h := gdK_some h hc; obtain ⟨_, _, h⟩ := h; exact ⟨_, h⟩
      · replace h := gdK_some h hc; obtain ⟨_, _, h⟩ := h
        replace h := gdK_some h hc; obtain ⟨_, _, h⟩ := h; exact ⟨_, h⟩
      · simp at h
    obtain ⟨b, hb⟩ := this
    obtain ⟨h1, h2⟩ := eqCs_length hc hb
    simp [h1, h2]
  | [], [], _ :: _, _, _, h => by simp [eqCs] at h
  | [], _ :: _, _, _, _, h => by simp [eqCs] at h
  | _ :: _, [], _, _, _, h => by simp [eqCs] at h
  | _ :: _, _ :: _, [], _, _, h => by simp [eqCs] at h

theorem flatTs_tyOk {n : Nat} {t : TypeId} {ts : List TypeId} (h : flatTs P n t = some ts) : tyOk P t = true := by
  cases n with
  | zero => simp [flatTs] at h
  | succ n =>
    simp only [flatTs] at h
    unfold tyOk
    cases hu : P.underlying t with
    | none => simp [hu] at h
    | some d => rfl
theorem flatTs_one {n : Nat} {t : TypeId} {ts : List TypeId} (h : flatTs P n t = some ts) (hb : isAggT P t = false) : ts = [t] := by
  cases n with
  | zero => simp [flatTs] at h
  | succ n =>
    simp only [flatTs] at h
    unfold isAggT at hb
    cases hu : P.underlying t with
    | none => simp [hu] at h
    | some d => cases d <;> simp_all

/-- The statement for one type. -/
def EqAt (P : Program) (w : World) (A : Nat → Prop) (n : Nat) : Prop := ∀ (t : TypeId) (ts : List TypeId), flatTs P n t = some ts → ∀ (d : Nat), n ≤ d →
  ∀ (R : Type) (c : Option Bool), c = none ∨ c = some true → ∀ (xs ys : List T) (vx vy : List Value) (K : Bool → Option R) (r : R), RelTs w A xs vx → RelTs w A ys vy → eqCs P c ts xs ys K = some r →
    ∃ b, K b = some r ∧ (Op.equalIn d t (valOf P t vx) (valOf P t vy)).run P w = .ok b w

theorem eqFields_sound {n d : Nat} (ih : EqAt P w A n) (hd : n ≤ d) {X Y : Array Value} {R : Type} {c : Option Bool} (hc : c = none ∨ c = some true) :
    ∀ (fs : List Field) (off : Nat) (ts : List TypeId), fsTs P (flatTs P n) fs off = some ts → ∀ (xs ys : List T) (K : Bool → Option R) (r : R), RelTs w A xs (X.toList.drop off) → RelTs w A ys (Y.toList.drop off) →
      eqCs P c ts xs ys K = some r → ∃ b, K b = some r ∧ (Op.eqFields d X Y fs).run P w = .ok b w
  | [], off, ts, h, xs, ys, K, r, hx, hy, hr => by
    simp only [fsTs, Option.some.injEq] at h; subst h
    obtain ⟨h1, h2⟩ := eqCs_length hc hr
    have := List.length_eq_zero_iff.1 h1; subst this
    have := List.length_eq_zero_iff.1 h2; subst this
    exact ⟨true, by simpa [eqCs] using hr, by simp [Op.eqFields]⟩
  | f :: fs, off, ts, h, xs, ys, K, r, hx, hy, hr => by
    simp only [fsTs] at h
    by_cases hf : f.offset = off ∧ f.name ≠ "_"
    · rw [if_pos hf] at h
      cases hl : flatTs P n f.type with
      | none => simp [hl] at h
      | some l =>
        simp only [hl, Option.bind_some] at h
        by_cases hs' : P.cellsOf f.type = l.length ∧ 0 < l.length
        · rw [if_pos hs'] at h
          obtain ⟨hs, hpos⟩ := hs'
          cases hq : fsTs P (flatTs P n) fs (off + l.length) with
          | none => simp [hq] at h
          | some q =>
            simp only [hq, Option.bind_some, Option.some.injEq] at h; subst h
            obtain ⟨lx, ly⟩ := eqCs_length hc hr
            simp only [List.length_append] at lx ly
            rw [eqCs_append] at hr
            obtain ⟨b1, hb1, e1⟩ := ih f.type l hl d hd R c hc _ _ _ _ _ _ (hx.take l.length) (hy.take l.length) hr
            have hx2 := hx.drop l.length
            have hy2 := hy.drop l.length
            rw [List.drop_drop] at hx2 hy2
            obtain ⟨b2, hb2, e2⟩ := eqFields_sound ih hd hc fs (off + l.length) q hq _ _ _ _ hx2 hy2 hb1
            have sx := hx.length
            have sy := hy.length
            simp only [List.length_drop, Array.length_toList] at sx sy
            have one : isAggT P f.type = false → P.cellsOf f.type = 1 := fun hb => by rw [hs, flatTs_one hl hb]; rfl
            refine ⟨b1 && b2, hb2, ?_⟩
            simp only [Op.eqFields, ne_eq, hf.2, not_false_eq_true, if_true, Sem.run_bind]
            rw [hf.1, run_partA (flatTs_tyOk hl) X off one (by rw [hs]; omega) w]
            simp only [Result.andThen_ok]
            rw [run_partA (flatTs_tyOk hl) Y off one (by rw [hs]; omega) w]
            simp only [Result.andThen_ok, hs, e1]
            cases b1
            · simp
            · simp [e2]
        · rw [if_neg hs'] at h; simp at h
    · rw [if_neg hf] at h; simp at h

theorem eqItems_sound {n d : Nat} (ih : EqAt P w A n) (hd : n ≤ d) {X Y : Array Value} {R : Type} {c : Option Bool} (hc : c = none ∨ c = some true) {e : TypeId} {l : List TypeId} (hl : flatTs P n e = some l) (hs : P.cellsOf e = l.length) :
    ∀ (m k : Nat) (xs ys : List T) (K : Bool → Option R) (r : R), RelTs w A xs (X.toList.drop (k * P.cellsOf e)) → RelTs w A ys (Y.toList.drop (k * P.cellsOf e)) →
      eqCs P c (List.replicate m l).flatten xs ys K = some r → ∃ b, K b = some r ∧ (Op.eqItems d e (P.cellsOf e) X Y (List.range' k m)).run P w = .ok b w
  | 0, k, xs, ys, K, r, hx, hy, hr => by
    obtain ⟨h1, h2⟩ := eqCs_length hc hr
    have := List.length_eq_zero_iff.1 h1; subst this
    have := List.length_eq_zero_iff.1 h2; subst this
    exact ⟨true, by simpa [eqCs] using hr, by simp [Op.eqItems]⟩
  | m + 1, k, xs, ys, K, r, hx, hy, hr => by
    simp only [List.replicate_succ, List.flatten_cons] at hr
    obtain ⟨lx, ly⟩ := eqCs_length hc hr
    simp only [List.length_append] at lx ly
    rw [eqCs_append] at hr
    obtain ⟨b1, hb1, e1⟩ := ih e l hl d hd R c hc _ _ _ _ _ _ (hx.take l.length) (hy.take l.length) hr
    have hx2 := hx.drop l.length
    have hy2 := hy.drop l.length
    have hk : k * P.cellsOf e + l.length = (k + 1) * P.cellsOf e := by rw [hs, Nat.succ_mul]
    rw [List.drop_drop, hk] at hx2 hy2
    obtain ⟨b2, hb2, e2⟩ := eqItems_sound ih hd hc hl hs m (k + 1) _ _ _ _ hx2 hy2 hb1
    have sx := hx.length
    have sy := hy.length
    simp only [List.length_drop, Array.length_toList] at sx sy
    have one : isAggT P e = false → P.cellsOf e = 1 := fun hb => by rw [hs, flatTs_one hl hb]; rfl
    by_cases h0 : l.length = 0
    · -- nothing is told apart: an element of no cells
      refine ⟨b1 && b2, hb2, ?_⟩
      have hagg : isAggT P e = true := by
        cases hb : isAggT P e
        · have := one hb; omega
        · rfl
      have pz : ∀ (Z : Array Value) (w : World), (part e Z (k * P.cellsOf e)).run P w = .ok (valOf P e []) w := by
        intro Z w
        unfold part valOf
        simp only [Sem.run_bind, run_isAggA (flatTs_tyOk hl), Result.andThen_ok, hagg, if_true, run_sizeA (flatTs_tyOk hl), Sem.run_pure, hs, h0]
        simp
      simp only [List.range'_succ, Op.eqItems, Sem.run_bind, pz, Result.andThen_ok]
      rw [h0] at e1
      simp only [List.take_zero] at e1
      rw [e1]
      cases b1
      · simp
      · simp [e2]
    · refine ⟨b1 && b2, hb2, ?_⟩
      simp only [List.range'_succ, Op.eqItems, Sem.run_bind]
      rw [run_partA (flatTs_tyOk hl) X _ one (by rw [hs] at sx ⊢; omega) w]
      simp only [Result.andThen_ok]
      rw [run_partA (flatTs_tyOk hl) Y _ one (by rw [hs] at sy ⊢; omega) w]
      simp only [Result.andThen_ok, hs]
      rw [hs] at e1 e2
      simp only [e1, Result.andThen_ok]
      cases b1
      · simp
      · simp [e2]

theorem eq_sound : ∀ n, EqAt P w A n
  | 0 => by intro t ts h; simp [flatTs] at h
  | n + 1 => by
    intro t ts h d hd R c hc xs ys vx vy K r hx hy hr
    obtain ⟨d, rfl⟩ : ∃ d', d = d' + 1 := ⟨d - 1, by omega⟩
    have ih := eq_sound n
    simp only [flatTs] at h
    have scalar : isAggT P t = false → ts = [t] → ∃ b, K b = some r ∧ (Op.equalIn (d + 1) t (valOf P t vx) (valOf P t vy)).run P w = .ok b w := by
      intro hb hts; subst hts
      obtain ⟨lx, ly⟩ := eqCs_length hc hr
      cases xs with
      | nil => simp at lx
      | cons x xs => cases ys with
        | nil => simp at ly
        | cons y ys =>
          simp only [List.length_cons, List.length_nil, Nat.zero_add, Nat.add_eq_right, List.length_eq_zero_iff] at lx ly
          subst lx; subst ly
          obtain ⟨v, q, rfl, h1, hq⟩ := hx
          obtain ⟨u, p, rfl, h2, hp⟩ := hy
          simp only [eqCs, Bool.and_true] at hr
          simpa [valOf, hb] using eqC_sound (d := d) hc h1 h2 hr
    cases hu : P.underlying t with
    | none => simp [hu] at h
    | some ds =>
      cases ds <;> simp only [hu, reduceCtorEq, Option.some.injEq] at h
      case int => exact scalar (by simp [isAggT, hu]) h.symm
      case bool => exact scalar (by simp [isAggT, hu]) h.symm
      case string => exact scalar (by simp [isAggT, hu]) h.symm
      case struct fs =>
        split at h
        · simp at h
        · rename_i hst
          have hagg : isAggT P t = true := by simp [isAggT, hu]
          have hfo : P.underlying t = some (.struct (P.fieldsOf t)) := by simp [Program.fieldsOf, hu]
          have hfs : P.fieldsOf t = fs := by simp [Program.fieldsOf, hu]
          simp only [valOf, hagg, if_true]
          rw [run_equalIn_struct w d t _ _ hfo (by simpa using hst), hfs]
          exact eqFields_sound ih (by omega) hc fs.toList 0 ts h xs ys K r (by simpa using hx) (by simpa using hy) hr
      case array m e =>
        cases hl : flatTs P n e with
        | none => simp [hl] at h
        | some l =>
          simp only [hl, Option.bind_some] at h
          split at h
          · rename_i hs
            simp only [Option.some.injEq] at h; subst h
            have hagg : isAggT P t = true := by simp [isAggT, hu]
            have hok := flatTs_tyOk hl
            unfold tyOk at hok
            obtain ⟨dd, hdd⟩ := Option.isSome_iff_exists.1 hok
            obtain ⟨i, hi, _⟩ := info_of_underlying hdd
            simp only [valOf, hagg, if_true]
            rw [run_equalIn_array w d _ _ hu hi, List.range_eq_range']
            exact eqItems_sound ih (by omega) hc hl hs m 0 xs ys K r (by simpa using hx) (by simpa using hy) hr
          · simp at h

theorem eqAV_sound {R : Type} {ρ : Id → Option Value} {t : TypeId} {c : Option Bool} {x y : AV} {K : Bool → Option R} {r : R} {vx vy : Value} (hc : c = none ∨ c = some true)
    (hx : RelV w A ρ x vx) (hy : RelV w A ρ y vy) (h : eqAV P c t x y K = some r) (ox oy : Operand) :
    ∃ b, K b = some r ∧ ((eqGuard .eql t ox oy vx vy).run P w = .ok () w ∧ (binOp .eql t vx vy).run P w = .ok (.bool b) w) ∧ ((eqGuard .neq t ox oy vx vy).run P w = .ok () w ∧ (binOp .neq t vx vy).run P w = .ok (.bool (!b)) w) := by
  unfold eqAV at h
  split at h
  · rename_i x y
    simp only [RelV] at hx hy
    cases hst : isStrT P t
    · simp only [hst, cond_false] at h
      have h' := h
      unfold eqC at h'
      split at h'
      · rename_i k hu
        replace h' := gdK_some h' hc; obtain ⟨a, ha, h'⟩ := h'
        replace h' := gdK_some h' hc; obtain ⟨b, hb, h'⟩ := h'
        have := T.int?_eq ha; subst this
        have := T.int?_eq hb; subst this
        simp only [RelT] at hx hy; subst hx; subst hy
        exact ⟨_, h', ⟨by simp [eqGuard], by simp [binOp, Op.intCmp]⟩, ⟨by simp [eqGuard], by simp [binOp, Op.intCmp, bne]⟩⟩
      · rename_i hu
        replace h' := gdK_some h' hc; obtain ⟨a, ha, h'⟩ := h'
        replace h' := gdK_some h' hc; obtain ⟨b, hb, h'⟩ := h'
        have := T.bool?_eq ha; subst this
        have := T.bool?_eq hb; subst this
        simp only [RelT] at hx hy; subst hx; subst hy
        exact ⟨_, h', ⟨by simp [eqGuard], run_eql_bool w t a b hu⟩, ⟨by simp [eqGuard], run_neq_bool w t a b hu⟩⟩
      · rename_i hu
        simp [isStrT, hu] at hst
      · simp at h'
    · simp only [hst, cond_true] at h
      replace h := gdK_some h hc; obtain ⟨a, ha, h⟩ := h
      replace h := gdK_some h hc; obtain ⟨b, hb, h⟩ := h
      have := T.str?_eq ha; subst this
      have := T.str?_eq hb; subst this
      simp only [RelT] at hx hy; subst hx; subst hy
      exact ⟨_, h, ⟨by simp [eqGuard], by simp [binOp, Op.stringOp]⟩, ⟨by simp [eqGuard], by simp [binOp, Op.stringOp]⟩⟩
  · rename_i xs ys
    cases hg : (P.eqGuardType P.depth t || !isAggT P t)
    · simp only [hg, cond_false] at h
      simp only [Bool.or_eq_false_iff, Bool.not_eq_false'] at hg
      obtain ⟨hg, hag⟩ := hg
      cases hxs : allT xs with
      | none => simp [hxs] at h
      | some xs' =>
        cases hys : allT ys with
        | none => simp [hxs, hys] at h
        | some ys' =>
          cases hts : flatTs P 8 t with
          | none => simp [hxs, hys, hts] at h
          | some ts =>
            simp only [hxs, hys, hts, Option.bind_some] at h
            simp only [RelV] at hx hy
            obtain ⟨wx, rfl, hx, _⟩ := hx
            obtain ⟨wy, rfl, hy, _⟩ := hy
            have hagg : isAggT P t = true := hag
            obtain ⟨b, hb, e⟩ := eq_sound 8 t ts hts 10000 (by omega) R c hc xs' ys' wx wy K r (RelTs.of_allT hxs hx) (RelTs.of_allT hys hy) h
            simp only [valOf, hagg, if_true] at e
            exact ⟨b, hb, ⟨run_eqGuard_agg w .eql t ox oy _ _ hg, by rw [run_eql_struct, e]; rfl⟩, ⟨run_eqGuard_agg w .neq t ox oy _ _ hg, by rw [run_neq_struct, e]; rfl⟩⟩
    · simp [hg] at h
  · simp at h

end
end Go.Aev
