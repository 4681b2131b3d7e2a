/-
  Each operation, over a world: what the abstract one tells holds of the real one. Numbers, strings, bools.
-/
import Derived.Test.YtmpjdngpblfecaaAevSim
set_option linter.unusedSimpArgs false
set_option linter.unusedVariables false
namespace Go.Aev
open Go

section
variable {P : Program} {w : World} {A : Nat → Prop}

theorem T.int?_eq {k : IntKind} {x : T} {n : Int} (h : x.int? k = some n) : x = .int k n := by
  cases x <;> simp only [T.int?, reduceCtorEq] at h
  split at h <;> simp_all
theorem T.bool?_eq {x : T} {b : Bool} (h : x.bool? = some b) : x = .bool b := by
  cases x <;> simp_all [T.bool?]
theorem T.str?_eq {x : T} {s : ByteArray} (h : x.str? = some s) : x = .str s := by
  cases x <;> simp_all [T.str?]
theorem T.ptr?_eq {x : T} {cs : List T} (h : x.ptr? = some cs) : x = .ptr cs := by
  cases x <;> simp_all [T.ptr?]
theorem T.lst?_eq {sz : Nat} {x : T} {p : Bool × List (List T)} (h : x.lst? sz = some p) : x = .lst sz p.1 p.2 ∨ (x = .emp p.1 ∧ p.2 = []) := by
  cases x <;> simp only [T.lst?, reduceCtorEq, Option.some.injEq] at h
  case lst sz' b xs => split at h <;> simp_all; subst h; simp
  case emp b => subst h; simp
theorem isNilT_rel {w : World} {A : Nat → Prop} {y : T} {v : Value} (h : isNilT y = true) (hr : RelT w A y v) : v = .slice none 0 0 := by
  unfold isNilT at h
  split at h
  · simp only [RelT] at hr
    rcases hr with ⟨_, h⟩ | ⟨h, _⟩
    · exact h
    · cases h
  · simp only [RelT] at hr
    rcases hr with ⟨_, _, h⟩ | ⟨h, _⟩
    · exact h
    · cases h
  · cases h
theorem AV.t?_eq {v : AV} {x : T} (h : v.t? = some x) : v = .t x := by cases v <;> simp_all [AV.t?]
theorem gdK_any {α R : Type} [Inhabited α] {c : Option Bool} {m : Option α} {k : α → Option R} {r : R} (h : gdK c m k = some r) :
    ∃ a, k a = some r ∧ (m = some a ∨ (m = none ∧ c = some false)) := by
  unfold gdK at h
  cases m with
  | some a => exact ⟨a, h, .inl rfl⟩
  | none => cases c with
    | none => simp at h
    | some b => cases b with
      | true => simp at h
      | false => exact ⟨_, h, .inr ⟨rfl, rfl⟩⟩

/-- What an operation comes to. -/
def Upon (P : Program) (R : Value → World → Prop) : Result Next → Prop
  | .ok (.value x) w' => R x w'
  | .ok .skip w' => R undef w'
  | .ok (.enter f args) w' => Calls P f args w' fun e w'' => ∃ x, e = .returned x ∧ R x w''
  | _ => False
def OpRes (P : Program) (o : Oper) (a : Act) (w : World) (R : Value → World → Prop) : Prop := Upon P R ((execOp a.eval o).run P w)

theorem OpRes.mono {o : Oper} {a : Act} {R R' : Value → World → Prop} (h : OpRes P o a w R) (hr : ∀ x w', R x w' → R' x w') : OpRes P o a w R' := by
  unfold OpRes at *
  generalize (execOp a.eval o).run P w = r at *
  cases r with
  | ok n w' =>
    cases n <;> simp only [Upon] at h ⊢
    case enter => exact h.mono fun e w'' ⟨x, e1, e2⟩ => ⟨x, e1, hr _ _ e2⟩
    all_goals exact hr _ _ h
  | halt x w' => simp [Upon] at h
theorem OpRes.wp {o : Oper} {a : Act} {R : Value → World → Prop} {K : Act → World → Prop} {Q : Exit → Act → World → Prop} (h : OpRes P o a w R) (hk : ∀ x w', R x w' → K (a.put o.dst x) w') : o.wp P a w K Q := by
  unfold OpRes at h
  unfold Oper.wp
  generalize (execOp a.eval o).run P w = r at *
  cases r with
  | ok n w' =>
    cases n <;> simp only [Upon] at h <;> simp only [Oper.upon]
    case enter => exact h.mono fun e w'' ⟨x, e1, e2⟩ => by subst e1; exact hk _ _ e2
    all_goals first | exact hk _ _ h | exact h.elim
  | halt x w' => simp [Upon] at h

theorem run_underlyingA {t : TypeId} {d : TypeDesc} (h : P.underlying t = some d) (w : World) : (underlying t).run P w = .ok d w := run_underlying h w
theorem info_of_underlying {t : TypeId} {d : TypeDesc} (h : P.underlying t = some d) : ∃ i, P.info? t = some i ∧ P.cellsOf t = i.size := by
  unfold Program.underlying at h
  cases hi : P.info? t with
  | none => simp [hi] at h
  | some i => exact ⟨i, rfl, by simp [Program.cellsOf, hi]⟩
theorem run_sizeA {t : TypeId} (h : tyOk P t = true) (w : World) : (sizeOf t).run P w = .ok (P.cellsOf t) w := by
  unfold tyOk at h
  obtain ⟨d, hd⟩ := Option.isSome_iff_exists.1 h
  obtain ⟨i, hi, hs⟩ := info_of_underlying hd
  rw [hs]; simp [sizeOf, typeInfo, hi]
theorem run_isAggA {t : TypeId} (h : tyOk P t = true) (w : World) : (isAgg t).run P w = .ok (isAggT P t) w := by
  unfold tyOk at h
  obtain ⟨d, hd⟩ := Option.isSome_iff_exists.1 h
  unfold isAgg isAggT
  simp only [Sem.run_bind, run_underlying hd, Result.andThen_ok, hd]
  cases d <;> rfl

theorem rel_int (k : IntKind) (n : Int) (w : World) (A : Nat → Prop) : RelT w A (.int k n) (.int k n) := by simp [RelT]
theorem rel_bool (b : Bool) (w : World) (A : Nat → Prop) : RelT w A (.bool b) (.bool b) := by simp [RelT]
theorem rel_str (b : ByteArray) (w : World) (A : Nat → Prop) : RelT w A (.str b) (.string b) := by simp [RelT]

/-! ### Numbers -/
theorem arithT_sound {R : Type} {op : BinOp} {k : IntKind} {c : Option Bool} {x y : T} {K : T → Option R} {r : R} {t : TypeId} {vx vy : Value} (hc : c = none ∨ c = some true)
    (hx : RelT w A x vx) (hy : RelT w A y vy) (h : arithT op k c x y K = some r) :
    ∃ z vz, K z = some r ∧ (∀ w A, RelT w A z vz) ∧ (binOp op t vx vy).run P w = .ok vz w := by
  unfold arithT at h
  replace h := gdK_some h hc; obtain ⟨a, ha, h⟩ := h
  replace h := gdK_some h hc; obtain ⟨b, hb, h⟩ := h
  have := T.int?_eq ha; subst this
  have := T.int?_eq hb; subst this
  simp only [RelT] at hx hy; subst hx; subst hy
  cases op <;> simp only [reduceCtorEq] at h
  case quo =>
    replace h := gdK_some h hc; obtain ⟨_, h0, h⟩ := h
    have hne : b ≠ 0 := by intro e; simp [e] at h0
    exact ⟨_, _, h, by first | exact rel_int _ _ | exact rel_bool _ | exact rel_str _, by simp [binOp, Op.intDiv, hne]⟩
  case rem =>
    replace h := gdK_some h hc; obtain ⟨_, h0, h⟩ := h
    have hne : b ≠ 0 := by intro e; simp [e] at h0
    exact ⟨_, _, h, by first | exact rel_int _ _ | exact rel_bool _ | exact rel_str _, by simp [binOp, Op.intDiv, hne]⟩
  all_goals exact ⟨_, _, h, by first | exact rel_int _ _ | exact rel_bool _ | exact rel_str _, by simp [binOp, Op.intArith, Op.intBits, Op.intCmp]⟩

theorem shiftT_sound {R : Type} {op : BinOp} {k ky : IntKind} {c : Option Bool} {x y : T} {K : T → Option R} {r : R} {t : TypeId} {vx vy : Value} (hc : c = none ∨ c = some true)
    (hx : RelT w A x vx) (hy : RelT w A y vy) (h : shiftT op k ky c x y K = some r) :
    ∃ z vz, K z = some r ∧ (∀ w A, RelT w A z vz) ∧ (binOp op t vx vy).run P w = .ok vz w := by
  unfold shiftT at h
  replace h := gdK_some h hc; obtain ⟨a, ha, h⟩ := h
  replace h := gdK_some h hc; obtain ⟨b, hb, h⟩ := h
  have := T.int?_eq ha; subst this
  have := T.int?_eq hb; subst this
  simp only [RelT] at hx hy; subst hx; subst hy
  replace h := gdK_some h hc; obtain ⟨_, h0, h⟩ := h
  have hne : ¬ b < 0 := by intro e; simp [e] at h0
  cases op <;> simp only [reduceCtorEq] at h
  all_goals exact ⟨_, _, h, by first | exact rel_int _ _ | exact rel_bool _ | exact rel_str _, by simp [binOp, Op.shift, hne]⟩

theorem strT_sound {R : Type} {op : BinOp} {c : Option Bool} {x y : T} {K : T → Option R} {r : R} {t : TypeId} {vx vy : Value} (hc : c = none ∨ c = some true)
    (hx : RelT w A x vx) (hy : RelT w A y vy) (h : strT op c x y K = some r) :
    ∃ z vz, K z = some r ∧ (∀ w A, RelT w A z vz) ∧ (binOp op t vx vy).run P w = .ok vz w := by
  unfold strT at h
  replace h := gdK_some h hc; obtain ⟨a, ha, h⟩ := h
  replace h := gdK_some h hc; obtain ⟨b, hb, h⟩ := h
  have := T.str?_eq ha; subst this
  have := T.str?_eq hb; subst this
  simp only [RelT] at hx hy; subst hx; subst hy
  cases op <;> simp only [reduceCtorEq] at h
  case add =>
    replace h := gdK_some h hc; obtain ⟨_, h0, h⟩ := h
    have hne : a.size + b.size ≤ 4294967296 := by
      by_cases e : a.size + b.size ≤ 4294967296
      · exact e
      · simp [e] at h0
    have hmax : ¬ (((a.size + b.size : Nat) : Int) > IntKind.i64.max) := by
      have : IntKind.i64.max = 9223372036854775807 := by decide
      rw [this]; omega
    exact ⟨_, _, h, by first | exact rel_int _ _ | exact rel_bool _ | exact rel_str _, by simp only [binOp, Op.stringOp, if_neg hmax]; rfl⟩
  all_goals exact ⟨_, _, h, by first | exact rel_int _ _ | exact rel_bool _ | exact rel_str _, by simp [binOp, Op.stringOp]⟩

theorem binT_sound {R : Type} {op : BinOp} {t ty : TypeId} {c : Option Bool} {x y : T} {K : T → Option R} {r : R} {vx vy : Value} (hc : c = none ∨ c = some true)
    (hx : RelT w A x vx) (hy : RelT w A y vy) (h : binT P op t ty c x y K = some r) :
    (op ≠ .eql ∧ op ≠ .neq) ∧ ∃ z vz, K z = some r ∧ (∀ w A, RelT w A z vz) ∧ (binOp op t vx vy).run P w = .ok vz w := by
  unfold binT at h
  cases op <;> simp only [reduceCtorEq] at h <;> refine ⟨⟨by simp, by simp⟩, ?_⟩ <;> split at h <;> first | exact arithT_sound hc hx hy h | exact shiftT_sound hc hx hy h | exact strT_sound hc hx hy h | simp at h

theorem unT0_sound {R : Type} {op : UnOp} {t : TypeId} {c : Option Bool} {x : T} {K : T → Option R} {r : R} {vx : Value} (hc : c = none ∨ c = some true)
    (hx : RelT w A x vx) (h : unT0 P op t c x K = some r) :
    ∃ z vz, K z = some r ∧ (∀ w A, RelT w A z vz) ∧ (Op.unary op vx).run P w = .ok vz w := by
  unfold unT0 at h
  split at h
  · replace h := gdK_some h hc; obtain ⟨a, ha, h⟩ := h
    have := T.int?_eq ha; subst this
    simp only [RelT] at hx; subst hx
    exact ⟨_, _, h, by first | exact rel_int _ _ | exact rel_bool _ | exact rel_str _, by simp [Op.unary, Op.intArith]⟩
  · replace h := gdK_some h hc; obtain ⟨a, ha, h⟩ := h
    have := T.int?_eq ha; subst this
    simp only [RelT] at hx; subst hx
    exact ⟨_, _, h, by first | exact rel_int _ _ | exact rel_bool _ | exact rel_str _, by simp [Op.unary, Op.intBits]⟩
  · replace h := gdK_some h hc; obtain ⟨a, ha, h⟩ := h
    have := T.bool?_eq ha; subst this
    simp only [RelT] at hx; subst hx
    exact ⟨_, _, h, by first | exact rel_int _ _ | exact rel_bool _ | exact rel_str _, by simp [Op.unary]⟩
  · simp at h

/-! ### Equality -/
theorem eqC_sound {R : Type} {d : Nat} {t : TypeId} {c : Option Bool} {x y : T} {K : Bool → Option R} {r : R} {vx vy : Value} (hc : c = none ∨ c = some true)
    (hx : RelT w A x vx) (hy : RelT w A y vy) (h : eqC P c t x y K = some r) : ∃ b, K b = some r ∧ (Op.equalIn (d + 1) t vx vy).run P w = .ok b w := by
  unfold eqC at h
  split at h
  · rename_i k hu
    replace h := gdK_some h hc; obtain ⟨a, ha, h⟩ := h
    replace h := gdK_some h hc; obtain ⟨b, hb, h⟩ := h
    have := T.int?_eq ha; subst this
    have := T.int?_eq hb; subst this
    simp only [RelT] at hx hy; subst hx; subst hy
    exact ⟨_, h, by simp [Op.equalIn, run_underlying hu]⟩
  · rename_i hu
    replace h := gdK_some h hc; obtain ⟨a, ha, h⟩ := h
    replace h := gdK_some h hc; obtain ⟨b, hb, h⟩ := h
    have := T.bool?_eq ha; subst this
    have := T.bool?_eq hb; subst this
    simp only [RelT] at hx hy; subst hx; subst hy
    exact ⟨_, h, by simp [Op.equalIn, run_underlying hu]⟩
  · rename_i hu
    replace h := gdK_some h hc; obtain ⟨a, ha, h⟩ := h
    replace h := gdK_some h hc; obtain ⟨b, hb, h⟩ := h
    have := T.str?_eq ha; subst this
    have := T.str?_eq hb; subst this
    simp only [RelT] at hx hy; subst hx; subst hy
    exact ⟨_, h, by simp [Op.equalIn, run_underlying hu]⟩
  · simp at h

theorem eqCs_append {R : Type} {c : Option Bool} (ts' : List TypeId) : ∀ (ts : List TypeId) (xs ys : List T) (K : Bool → Option R),
    eqCs P c (ts ++ ts') xs ys K = eqCs P c ts (xs.take ts.length) (ys.take ts.length) (fun q => eqCs P c ts' (xs.drop ts.length) (ys.drop ts.length) fun q' => K (q && q'))
  | [], xs, ys, K => by simp [eqCs]
  | t :: ts, [], ys, K => by simp [eqCs]
  | t :: ts, x :: xs, [], K => by simp [eqCs]
  | t :: ts, x :: xs, y :: ys, K => by
    simp only [List.cons_append, List.length_cons, List.take_succ_cons, List.drop_succ_cons, eqCs]
    congr 1; funext b
    rw [eqCs_append ts' ts xs ys]
    simp only [Bool.and_assoc]

theorem RelTs.take {cs : List T} {vs : List Value} (h : RelTs w A cs vs) : ∀ n, RelTs w A (cs.take n) (vs.take n) := by
  intro n
  induction n generalizing cs vs with
  | zero => simp [RelTs]
  | succ n ih =>
    cases cs with
    | nil => simp only [RelTs] at h; subst h; simp [RelTs]
    | cons c cs => obtain ⟨v, r, rfl, h1, h2⟩ := h; exact ⟨v, r.take n, rfl, h1, ih h2⟩
theorem RelTs.drop {cs : List T} {vs : List Value} (h : RelTs w A cs vs) : ∀ n, RelTs w A (cs.drop n) (vs.drop n) := by
  intro n
  induction n generalizing cs vs with
  | zero => simpa using h
  | succ n ih =>
    cases cs with
    | nil => simp only [RelTs] at h; subst h; simp [RelTs]
    | cons c cs => obtain ⟨v, r, rfl, h1, h2⟩ := h; exact ih h2

end
end Go.Aev
