/-
  The smaller operations.
-/
import Derived.Test.YtmpjdngpblfecaaAevApp
set_option linter.unusedSimpArgs false
set_option linter.unusedVariables false
namespace Go.Aev
open Go

section
variable {P : Program} {w w' : World} {A A' : Nat → Prop} {c : Ctx} {ρ : Id → Option Value} {O : Id → Option Nat} {s : St} {cc : Option Bool} {h : Id → Option Blk}

/-! ### nil -/
theorem isNil_sound {t : TypeId} {x : AV} {vx : Value} {b : Bool} (hs : HS c w s.h ρ O) (hx : RelV w (AA c w O) ρ x vx) (h : isNilAV P s t x = some b) (o : Operand) (ho : nilC P t o = true) (a : Act) (ox oy : Operand) :
    ((eqGuard .eql t ox oy vx (a.eval o)).run P w = .ok () w ∧ (binOp .eql t vx (a.eval o)).run P w = .ok (.bool b) w) ∧
    ((eqGuard .neq t ox oy vx (a.eval o)).run P w = .ok () w ∧ (binOp .neq t vx (a.eval o)).run P w = .ok (.bool (!b)) w) ∧
    ((eqGuard .eql t ox oy (a.eval o) vx).run P w = .ok () w ∧ (binOp .eql t (a.eval o) vx).run P w = .ok (.bool b) w) ∧
    ((eqGuard .neq t ox oy (a.eval o) vx).run P w = .ok () w ∧ (binOp .neq t (a.eval o) vx).run P w = .ok (.bool (!b)) w) := by
  unfold nilC at ho
  split at ho
  · rename_i e hu
    have key : ∃ p l cp, vx = .slice p l cp ∧ p.isNone = b := by
      unfold isNilAV at h
      rw [hu] at h
      dsimp only at h
      split at h
      · rename_i sz b' xs
        simp only [Option.some.injEq] at h; subst h
        simp only [RelV, RelT] at hx
        rcases hx with ⟨rfl, _, rfl⟩ | ⟨rfl, _, _, _, _, rfl, _⟩
        · exact ⟨_, _, _, rfl, rfl⟩
        · exact ⟨_, _, _, rfl, rfl⟩
      · simp only [Option.some.injEq] at h; subst h
        simp only [RelV, RelT] at hx
        rcases hx with ⟨rfl, rfl⟩ | ⟨rfl, _, _, _, rfl⟩
        · exact ⟨_, _, _, rfl, rfl⟩
        · exact ⟨_, _, _, rfl, rfl⟩
      · split at h
        · rename_i hi
          simp only [Option.some.injEq] at h; subst h
          obtain ⟨v', g1, a, cap, q1, q2, q3, q4, q5⟩ := sl_at' hs hi
          simp only [RelV] at hx
          rw [g1] at hx; simp only [Option.some.injEq] at hx; subst hx; subst q1
          refine ⟨_, _, _, rfl, ?_⟩
          cases a with
          | none => simpa using q3
          | some a => have : ¬ (_ = true) := fun e => by have := q3.2 e; simp at this
                      simpa using this
        · simp at h
      · simp at h
    obtain ⟨p, l, cp, rfl, rfl⟩ := key
    simp only [Act.eval]
    have E1 : (Op.equal t (.slice p l cp) (.slice none 0 0)).run P w = .ok p.isNone w := by
      have : ∀ d, (Op.equalIn (d + 1) t (.slice p l cp) (.slice none 0 0)).run P w = .ok p.isNone w := by intro d; cases p <;> simp [Op.equalIn, run_underlying hu]
      exact this 9999
    have E2 : (Op.equal t (.slice none 0 0) (.slice p l cp)).run P w = .ok p.isNone w := by
      have : ∀ d, (Op.equalIn (d + 1) t (.slice none 0 0) (.slice p l cp)).run P w = .ok p.isNone w := by intro d; simp [Op.equalIn, run_underlying hu]
      exact this 9999
    refine ⟨⟨by simp [eqGuard], ?_⟩, ⟨by simp [eqGuard], ?_⟩, ⟨by simp [eqGuard], ?_⟩, ⟨by simp [eqGuard], ?_⟩⟩ <;> simp only [binOp] <;> simp [E1, E2]
  · rename_i e hu
    have key : ∃ p, vx = .pointer p ∧ p.isNone = b := by
      unfold isNilAV at h
      rw [hu] at h
      dsimp only at h
      split at h
      · simp only [Option.some.injEq] at h; subst h
        simp only [RelV, RelT] at hx
        obtain ⟨_, _, rfl, _⟩ := hx
        exact ⟨_, rfl, rfl⟩
      · simp only [Option.some.injEq] at h; subst h
        simp only [RelV, RelT] at hx; subst hx
        exact ⟨_, rfl, rfl⟩
      · simp only [Option.some.injEq] at h; subst h
        simp only [RelV] at hx
        obtain ⟨_, _, rfl⟩ := hx
        exact ⟨_, rfl, rfl⟩
      · simp only [Option.some.injEq] at h; subst h
        simp only [RelV] at hx
        obtain ⟨_, _, _, _, _, rfl⟩ := hx
        exact ⟨_, rfl, rfl⟩
      · simp at h
    obtain ⟨p, rfl, rfl⟩ := key
    simp only [Act.eval]
    have E1 : (Op.equal t (.pointer p) (.pointer none)).run P w = .ok p.isNone w := by
      have : ∀ d, (Op.equalIn (d + 1) t (.pointer p) (.pointer none)).run P w = .ok p.isNone w := by intro d; cases p <;> simp [Op.equalIn, run_underlying hu]
      exact this 9999
    have E2 : (Op.equal t (.pointer none) (.pointer p)).run P w = .ok p.isNone w := by
      have : ∀ d, (Op.equalIn (d + 1) t (.pointer none) (.pointer p)).run P w = .ok p.isNone w := by intro d; simp [Op.equalIn, run_underlying hu]
      exact this 9999
    refine ⟨⟨by simp [eqGuard], ?_⟩, ⟨by simp [eqGuard], ?_⟩, ⟨by simp [eqGuard], ?_⟩, ⟨by simp [eqGuard], ?_⟩⟩ <;> simp only [binOp] <;> simp [E1, E2]
  · rename_i hu
    have key : (vx = .nilFunc ∧ b = true) ∨ (∃ f x y, vx = .func f x y ∧ b = false) := by
      unfold isNilAV at h
      rw [hu] at h
      dsimp only at h
      split at h
      · simp only [Option.some.injEq] at h; subst h
        simp only [RelV, RelT] at hx
        exact .inl ⟨hx, rfl⟩
      · simp only [Option.some.injEq] at h; subst h
        simp only [RelV] at hx
        obtain ⟨_, _, rfl, _⟩ := hx
        exact .inr ⟨_, _, _, rfl, rfl⟩
      · simp at h
    simp only [Act.eval]
    have E : (Op.equal t vx .nilFunc).run P w = .ok b w ∧ (Op.equal t .nilFunc vx).run P w = .ok b w := by
      constructor
      · have : ∀ d, (Op.equalIn (d + 1) t vx .nilFunc).run P w = .ok b w := by intro d; rcases key with ⟨rfl, rfl⟩ | ⟨f, x, y, rfl, rfl⟩ <;> simp [Op.equalIn, run_underlying hu]
        exact this 9999
      · have : ∀ d, (Op.equalIn (d + 1) t .nilFunc vx).run P w = .ok b w := by intro d; rcases key with ⟨rfl, rfl⟩ | ⟨f, x, y, rfl, rfl⟩ <;> simp [Op.equalIn, run_underlying hu]
        exact this 9999
    rcases key with ⟨rfl, rfl⟩ | ⟨f, x, y, rfl, rfl⟩ <;>
    refine ⟨⟨by simp [eqGuard], ?_⟩, ⟨by simp [eqGuard], ?_⟩, ⟨by simp [eqGuard], ?_⟩, ⟨by simp [eqGuard], ?_⟩⟩ <;> simp only [binOp] <;> simp [E.1, E.2]
  · rename_i hu
    have key : vx = .map none ∧ b = true := by
      unfold isNilAV at h
      rw [hu] at h
      dsimp only at h
      split at h
      · simp only [Option.some.injEq] at h; subst h
        simp only [RelV, RelT] at hx
        exact ⟨hx, rfl⟩
      · simp at h
    simp only [Act.eval]
    obtain ⟨rfl, rfl⟩ := key
    have E : (Op.equal t (.map none) (.map none)).run P w = .ok true w := by
      have : ∀ d, (Op.equalIn (d + 1) t (.map none) (.map none)).run P w = .ok true w := by intro d; simp [Op.equalIn, run_underlying hu]
      exact this 9999
    refine ⟨⟨by simp [eqGuard], ?_⟩, ⟨by simp [eqGuard], ?_⟩, ⟨by simp [eqGuard], ?_⟩, ⟨by simp [eqGuard], ?_⟩⟩ <;> simp only [binOp] <;> simp [E]
  · simp at ho

/-! ### Conversions -/
theorem convT_sound {R : Type} {src dst : TypeId} {x : T} {vx : Value} {K : T → Option R} {r : R} (hc : cc = none ∨ cc = some true) (hx : RelT w A x vx) (hk : convT P cc src dst x K = some r) :
    ∃ z v, K z = some r ∧ (convert src dst vx).run P w = .ok v w ∧ RelT w A z v := by
  unfold convT at hk
  split at hk
  · rename_i k k' hu hu'
    replace hk := gdK_some hk hc; obtain ⟨n, hn, hk⟩ := hk
    have := T.int?_eq hn; subst this
    simp only [RelT] at hx; subst hx
    exact ⟨_, _, hk, by simp [convert, run_underlying hu, run_underlying hu', Conv.intToInt], rel_int _ _ _ _⟩
  · rename_i hu hu'
    replace hk := gdK_some hk hc; obtain ⟨n, hn, hk⟩ := hk
    have := T.str?_eq hn; subst this
    simp only [RelT] at hx; subst hx
    exact ⟨_, _, hk, by simp [convert, run_underlying hu, run_underlying hu'], rel_str _ _ _⟩
  · simp at hk

theorem bytesOf_some : ∀ {xs : List (List T)} {l : List UInt8} {vss : List (List Value)}, bytesOf xs = some l → RelLs w A 1 xs vss → ∃ ns : List Int, vss.flatten = ns.map (Value.int .u8) ∧ l = ns.map (fun n => UInt8.ofNat n.toNat)
  | [], l, vss, e, h => by
    simp only [RelLs] at h; subst h
    simp only [bytesOf, Option.some.injEq] at e; subst e
    exact ⟨[], rfl, rfl⟩
  | cs :: xs, l, vss, e, ⟨vs, r, e1, e2, e3, e4⟩ => by
    subst e1
    simp only [bytesOf] at e
    obtain ⟨x, hx, e⟩ := Option.bind_eq_some_iff.1 e
    obtain ⟨n, hn, e⟩ := Option.bind_eq_some_iff.1 e
    obtain ⟨q, hq, e⟩ := Option.bind_eq_some_iff.1 e
    simp only [Option.some.injEq] at e; subst e
    obtain ⟨ns, g1, g2⟩ := bytesOf_some hq e4
    have := T.int?_eq hn; subst this
    cases cs with
    | nil => simp at e2
    | cons y cs =>
      simp only [List.head?_cons, Option.some.injEq] at hx; subst hx
      have : cs = [] := List.length_eq_zero_iff.1 (by simpa using e2)
      subst this
      obtain ⟨v, q', rfl, h3, h4⟩ := e3
      simp only [RelTs] at h4; subst h4
      simp only [RelT] at h3; subst h3
      exact ⟨n :: ns, by simp [g1], by simp [g2]⟩

theorem push_bytes : ∀ (ns : List Int) (b : ByteArray), ns.foldl (fun r n => r.push (UInt8.ofNat n.toNat)) b = ⟨b.data ++ (ns.map (fun n => UInt8.ofNat n.toNat)).toArray⟩
  | [], b => by simp
  | n :: ns, b => by
    rw [List.foldl_cons, push_bytes ns]
    simp [ByteArray.push]

theorem bytes_sound {src dst e : TypeId} {x : AV} {y : T} {vx : Value} {p : Bool × List (List T)} {l : List UInt8} (hs : HS c w s.h ρ O) (hu : P.underlying src = some (.slice e)) (hu' : P.underlying dst = some .string) (he : P.underlying e = some (.int .u8))
    (hx : RelV w (AA c w O) ρ x vx) (hy : snapOne s.h x = some y) (hp : y.lst? 1 = some p) (hl : bytesOf p.2 = some l) : (convert src dst vx).run P w = .ok (.string ⟨l.toArray⟩) w := by
  rcases snapOne_els hs hx hy hp with ⟨e1, rfl | ⟨a, cap, rfl⟩⟩ | ⟨blk, off, cap, rfl, hels⟩
  · rw [e1] at hl; simp only [bytesOf, Option.some.injEq] at hl; subst hl
    rw [run_convert_bytes_string w src dst e _ _ _ hu he hu']
    simp [Conv.bytesToString]; rfl
  · rw [e1] at hl; simp only [bytesOf, Option.some.injEq] at hl; subst hl
    rw [run_convert_bytes_string w src dst e _ _ _ hu he hu', run_bytesToString w a 0 cap [] (run_loadCells_list (P := P) w a [] (by simp))]
    rfl
  · obtain ⟨vss, h1, h2⟩ := hels.vals
    obtain ⟨l1, l2⟩ := h1.length
    obtain ⟨ns, g1, g2⟩ := bytesOf_some hl h1
    rw [run_convert_bytes_string w src dst e _ _ _ hu he hu', run_bytesToString w _ _ cap ns ?_, push_bytes]
    · rw [g2]; simp
    · rw [← g1]
      have hl2 := run_loadCells_list (P := P) w ⟨blk, off, none⟩ vss.flatten (fun j v hj => by rw [addr_add]; exact h2 j v hj)
      rw [l2, Nat.mul_one] at hl2
      exact hl2

/-! ### Fields and elements of values -/
theorem loadV_part {R : Type} {t : TypeId} (ht : tyOk P t = true) {cs : List AV} {arr : Array Value} {off : Nat} {K : AV → Option R} {r : R} (hr : RelVs w A ρ cs (arr.toList.drop off)) (h1 : ∀ u ∈ arr.toList, u.oneCell' = true ∧ u.cells = #[u]) (h : loadV P t cs K = some r) :
    ∃ av v, K av = some r ∧ (part t arr off).run P w = .ok v w ∧ RelV w A ρ av v := by
  unfold loadV at h
  unfold part
  simp only [Sem.run_bind, run_isAggA ht, Result.andThen_ok]
  cases hb : isAggT P t
  · simp only [hb, cond_false] at h
    cases cs with
    | nil => simp at h
    | cons y cs =>
      simp only [List.head?_cons, Option.bind_some] at h
      simp only [RelVs] at hr
      obtain ⟨v, q, e, h3, _⟩ := hr
      have hlt : off < arr.toList.length := by
        rcases Nat.lt_or_ge off arr.toList.length with g | g
        · exact g
        · rw [List.drop_eq_nil_of_le g] at e; simp at e
      rw [List.drop_eq_getElem_cons hlt] at e
      simp only [List.cons.injEq] at e
      have : arr[off]? = some v := by
        rw [Array.getElem?_eq_getElem (by simpa using hlt)]
        rw [← e.1]; simp
      simp only [Bool.false_eq_true, if_false, this]
      exact ⟨_, v, h, by simp, h3⟩
  · simp only [hb, cond_true] at h
    cases hq : takeAV (P.cellsOf t) cs with
    | none => simp [hq] at h
    | some l =>
      simp only [hq, Option.bind_some] at h
      obtain ⟨hl, hn⟩ := takeAV_some hq
      have h3 := hr.take (P.cellsOf t)
      rw [← hl] at h3
      refine ⟨_, .agg (arr.extract off (off + P.cellsOf t)), h, by simp only [if_true, Sem.run_bind, run_sizeA ht, Result.andThen_ok, Sem.run_pure], ?_⟩
      simp only [RelV]
      refine ⟨_, ?_, h3, fun u hu => h1 u (List.mem_of_mem_drop (List.mem_of_mem_take hu))⟩
      congr 1
      apply Array.ext'
      simp [Array.toList_extract, List.extract_eq_take_drop]

theorem fieldAV_sound {R : Type} {t : TypeId} {x : AV} {vx : Value} {f : Nat} {K : AV → Option R} {r : R} (hx : RelV w A ρ x vx) (h : fieldAV P t x f K = some r) :
    ∃ av v, K av = some r ∧ (Instr.field t vx f).run P w = .ok v w ∧ RelV w A ρ av v := by
  unfold fieldAV at h
  split at h
  · rename_i off u hf
    obtain ⟨fs, y, h1, h2, h3, h4⟩ := fieldT_some hf
    simp only [Prod.mk.injEq] at h3
    obtain ⟨rfl, rfl⟩ := h3
    split at h
    · rename_i vs
      simp only [RelV] at hx
      obtain ⟨ws, rfl, g1, g2⟩ := hx
      obtain ⟨av, v, k1, k2, k3⟩ := loadV_part (arr := ws.toArray) h4 (by simpa using g1.drop y.offset) (by simpa using g2) h
      exact ⟨av, v, k1, by simp [Instr.field, run_underlying h1, h2, asAgg, k2], k3⟩
    · simp at h
  · simp at h

theorem loadT_part {R : Type} {t : TypeId} (ht : tyOk P t = true) {cs : List T} {arr : Array Value} {off : Nat} {K : AV → Option R} {r : R} (hc : cc = none ∨ cc = some true) (hr : RelTs w A cs (arr.toList.drop off)) (h : loadT P t cc cs K = some r) :
    ∃ av v, K av = some r ∧ (part t arr off).run P w = .ok v w ∧ RelV w A ρ av v := by
  unfold loadT at h
  unfold part
  simp only [Sem.run_bind, run_isAggA ht, Result.andThen_ok]
  cases hb : isAggT P t
  · simp only [hb, cond_false] at h
    replace h := gdK_some h hc; obtain ⟨x, hx, h⟩ := h
    cases cs with
    | nil => simp at hx
    | cons y cs =>
      simp only [List.head?_cons, Option.some.injEq] at hx; subst hx
      obtain ⟨v, q, e, h3, _⟩ := hr
      have hlt : off < arr.toList.length := by
        rcases Nat.lt_or_ge off arr.toList.length with g | g
        · exact g
        · rw [List.drop_eq_nil_of_le g] at e; simp at e
      rw [List.drop_eq_getElem_cons hlt] at e
      simp only [List.cons.injEq] at e
      have : arr[off]? = some v := by
        rw [Array.getElem?_eq_getElem (by simpa using hlt)]
        rw [← e.1]; simp
      simp only [Bool.false_eq_true, if_false, this]
      obtain ⟨z, h, h3⟩ := typK_sound hc h3 h
      exact ⟨_, v, h, by simp, by simpa [RelV] using h3⟩
  · simp only [hb, cond_true] at h
    obtain ⟨l, hl, hn, h⟩ := takeK_some hc h
    have h3 := hr.take (P.cellsOf t)
    rw [← hl] at h3
    obtain ⟨ys, h, h5⟩ := typKs_sound hc h3 h
    refine ⟨_, .agg (arr.extract off (off + P.cellsOf t)), h, by simp only [if_true, Sem.run_bind, run_sizeA ht, Result.andThen_ok, Sem.run_pure], ?_⟩
    simp only [RelV]
    refine ⟨_, ?_, RelVs.of_ts h5, h3.one⟩
    congr 1
    apply Array.ext'
    simp [Array.toList_extract, List.extract_eq_take_drop]

/-! ### min and max -/
theorem minT_sound {R : Type} {k : IntKind} (hc : cc = none ∨ cc = some true) (isMax : Bool) : ∀ {l : List T} {a : Int} {vs : List Value} {K : T → Option R} {r : R}, RelTs w A l vs → minT k cc isMax a l K = some r →
    ∃ n, K (.int k n) = some r ∧ (vs.foldlM (cond isMax Builtin.max2 Builtin.min2) (.int k a)).run P w = .ok (.int k n) w
  | [], a, vs, K, r, hv, h => by
    simp only [RelTs] at hv; subst hv
    exact ⟨a, h, by simp⟩
  | y :: l, a, vs, K, r, ⟨v, q, e, h1, h2⟩, h => by
    subst e
    simp only [minT] at h
    replace h := gdK_some h hc; obtain ⟨b, hb, h⟩ := h
    have := T.int?_eq hb; subst this
    simp only [RelT] at h1; subst h1
    obtain ⟨n, e1, e2⟩ := minT_sound hc isMax h2 h
    refine ⟨n, e1, ?_⟩
    rw [List.foldlM_cons]
    have : ((cond isMax Builtin.max2 Builtin.min2) (.int k a) (.int k b)).run P w = .ok (.int k (mm isMax a b)) w := by
      cases isMax <;> simp [Builtin.max2, Builtin.min2, mm]
    simp only [Sem.run_bind, this, Result.andThen_ok]
    exact e2

end
end Go.Aev
