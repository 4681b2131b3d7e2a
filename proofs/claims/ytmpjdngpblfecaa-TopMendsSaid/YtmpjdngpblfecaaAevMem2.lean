/-
  Lengths, slices of slices, snaps; what is shut.
-/
import Derived.Test.YtmpjdngpblfecaaAevMem
set_option linter.unusedSimpArgs false
set_option linter.unusedVariables false
namespace Go.Aev
open Go

section
variable {P : Program} {w w' : World} {A A' : Nat → Prop} {c : Ctx} {ρ : Id → Option Value} {O : Id → Option Nat} {s : St} {cc : Option Bool}

theorem lenAV_sound {R : Type} {t ty : TypeId} {ts : Array TypeId} {x : AV} {vx : Value} {K : AV → Option R} {r : R} (hs : HS c w s.h ρ O) (hx : RelV w (AA c w O) ρ x vx) (hc : cc = none ∨ cc = some true) (h : lenAV P s cc t x K = some r)
    (hts : ts[0]? = some t) : ∃ av v, K av = some r ∧ (Builtin.len_ ts ty #[vx]).run P w = .ok v w ∧ RelV w (AA c w O) ρ av v := by
  unfold lenAV at h
  split at h
  · rename_i hu
    split at h
    · rename_i y
      replace h := gdK_some h hc; obtain ⟨b, hb, h⟩ := h
      have := T.str?_eq hb; subst this
      simp only [RelV, RelT] at hx; subst hx
      exact ⟨_, _, h, by simp [Builtin.len_, hts, run_underlying hu]; rfl, by simp only [RelV]; exact rel_int _ _ _ _⟩
    · simp at h
  · rename_i n e hu
    exact ⟨_, _, h, by simp [Builtin.len_, hts, run_underlying hu]; rfl, by simp only [RelV]; exact rel_int _ _ _ _⟩
  · rename_i e hu
    have run : ∀ a n cap, (Builtin.len_ ts ty #[.slice a n cap]).run P w = .ok (goInt n) w := by
      intro a n cap; simp [Builtin.len_, hts, run_underlying hu]
    split at h
    · rename_i j
      split at h
      · rename_i fz sz bb xs hj
        obtain ⟨v, g1, a', cap', q1, q2, q3, q4, q5⟩ := sl_at hs hj
        simp only [RelV] at hx
        rw [g1] at hx; simp only [Option.some.injEq] at hx; subst hx; subst q1
        exact ⟨_, _, h, run _ _ _, by simp only [RelV]; exact rel_int _ _ _ _⟩
      · rename_i bb sz col rsz nx es hj
        obtain ⟨a, cap, g1, _⟩ := hs.blk j _ hj
        simp only [RelV] at hx
        rw [g1] at hx; simp only [Option.some.injEq] at hx; subst hx
        exact ⟨_, _, h, run _ _ _, by simp only [RelV]; exact rel_int _ _ _ _⟩
      · simp at h
    · rename_i j n
      replace h := rowK_sound hs hc h; obtain ⟨rsz, bb, xs, v, h, hv, a', cap', q1, _⟩ := h
      simp only [RelV] at hx
      rw [hv] at hx; simp only [Option.some.injEq] at hx; subst hx; subst q1
      exact ⟨_, _, h, run _ _ _, by simp only [RelV]; exact rel_int _ _ _ _⟩
    · rename_i j sz off n
      simp only [RelV] at hx
      obtain ⟨a, L, cap, a', e1, e2, e3, rfl, e4⟩ := hx
      exact ⟨_, _, h, run _ _ _, by simp only [RelV]; exact rel_int _ _ _ _⟩
    · rename_i y
      replace h := gdK_some h hc; obtain ⟨p, hp, h⟩ := h
      rcases T.lst?_eq hp with rfl | ⟨rfl, hp2⟩
      · simp only [RelV, RelT] at hx
        rcases hx with ⟨_, e, rfl⟩ | ⟨_, blk, off, sp, cap, rfl, g1, g2, g3⟩
        · refine ⟨_, _, h, run _ _ _, ?_⟩
          simp only [RelV, e]; exact rel_int _ _ _ _
        · exact ⟨_, _, h, run _ _ _, by simp only [RelV]; exact rel_int _ _ _ _⟩
      · simp only [RelV, RelT] at hx
        rw [hp2] at h
        rcases hx with ⟨_, rfl⟩ | ⟨_, blk, off, sp, rfl⟩ <;> exact ⟨_, _, h, run _ _ _, by simp only [RelV]; exact rel_int _ _ _ _⟩
    · simp at h
  · simp at h

/-! ### Slices of slices -/
theorem anyInt_eq {x : T} {n : Int} (h : boundAV.anyInt x = some n) : ∃ k, x = .int k n := by
  cases x <;> simp_all [boundAV.anyInt]
/-- A bound as it stands. -/
def IsB (b : Option Int) (v : Option Value) : Prop := match b, v with
  | none, none => True
  | some n, some (.int _ m) => m = n
  | _, _ => False
theorem boundAV_sound {R : Type} {a : Act} {g : Option Gs} {o : Option Operand} {K : Option Int → Option R} {r : R} (ht : SS w A ρ s.t a.tmps) (hr : Runs a.tmps g) (hc : cc = none ∨ cc = some true) (h : boundAV s cc g o K = some r) :
    ∃ b, K b = some r ∧ IsB b (o.map a.eval) := by
  unfold boundAV at h
  split at h
  · exact ⟨none, h, trivial⟩
  · rename_i o
    cases hx : (s.get g o).t? with
    | none => simp [hx] at h
    | some x =>
      simp only [hx, Option.bind_some] at h
      replace h := gdK_some h hc; obtain ⟨n, hn, h⟩ := h
      obtain ⟨k, rfl⟩ := anyInt_eq hn
      have := SS.get (h := s.h) ht hr o
      rw [show (⟨s.t, s.h⟩ : St) = s from rfl, AV.t?_eq hx] at this
      simp only [RelV, RelT] at this
      exact ⟨some n, h, by simp [IsB, this]⟩

theorem inB_some {lo hi n : Int} (h : inB lo hi n = some ()) : 0 ≤ lo ∧ lo ≤ hi ∧ hi ≤ n := by
  unfold inB at h; split at h
  · assumption
  · simp at h

theorem IsB_none {v : Option Value} (h : IsB none v) : v = none := by cases v <;> simp_all [IsB]
theorem IsB_some {n : Int} {v : Option Value} (h : IsB (some n) v) : ∃ k, v = some (.int k n) := by
  cases v with
  | none => simp [IsB] at h
  | some v => cases v <;> simp_all [IsB]
theorem run_bound (k : IntKind) (n : Int) (y : Nat) (code : BoundsCode) (h0 : 0 ≤ n) (h1 : n ≤ y) : (Instr.sliceBound (.int k n) y code).run P w = .ok n.toNat w := run_sliceBound w k n y code h0 h1

theorem run_bounds (isS : Bool) {lo hi : Option Int} {vlo vhi : Option Value} {len cap : Nat} (hl : IsB lo vlo) (hh : IsB hi vhi) (h1 : 0 ≤ lo.getD 0) (h2 : lo.getD 0 ≤ hi.getD len) (h3 : hi.getD len ≤ cap) :
    (Instr.sliceBounds isS len cap vlo vhi none).run P w = .ok ((lo.getD 0).toNat, (hi.getD len).toNat, cap) w := by
  cases hi with
  | none =>
    have := IsB_none hh; subst this
    simp only [Option.getD_none] at h2 h3 ⊢
    cases lo with
    | none => have := IsB_none hl; subst this; simp [Instr.sliceBounds]
    | some n =>
      obtain ⟨k, rfl⟩ := IsB_some hl
      simp only [Option.getD_some] at h1 h2 ⊢
      have e := run_bound (P := P) (w := w) k n len .sliceB h1 h2
      simp [Instr.sliceBounds, e]
  | some m =>
    obtain ⟨k', rfl⟩ := IsB_some hh
    simp only [Option.getD_some] at h2 h3 ⊢
    have e' : ∀ code, (Instr.sliceBound (.int k' m) cap code).run P w = .ok m.toNat w := fun code => run_bound k' m cap code (by omega) h3
    cases lo with
    | none => have := IsB_none hl; subst this; simp [Instr.sliceBounds, e']
    | some n =>
      obtain ⟨k, rfl⟩ := IsB_some hl
      simp only [Option.getD_some] at h1 h2 ⊢
      have e := run_bound (P := P) (w := w) k n m.toNat .sliceB h1 (by omega)
      simp [Instr.sliceBounds, e, e']

theorem sliceAV_sound {R : Type} {t : TypeId} {x : AV} {vx : Value} {lo hi mx : Option Int} {vlo vhi vmx : Option Value} {K : AV → Option R} {r : R} (hs : HS c w s.h ρ O) (hx : RelV w (AA c w O) ρ x vx) (hc : cc = none ∨ cc = some true)
    (hl : IsB lo vlo) (hh : IsB hi vhi) (hm : IsB mx vmx) (h : sliceAV P s cc t x lo hi mx K = some r) :
    ∃ av v, K av = some r ∧ (Instr.sliceAt t vx vlo vhi vmx).run P w = .ok v w ∧ RelV w (AA c w O) ρ av v := by
  unfold sliceAV at h
  split at h
  · rename_i hu
    split at h
    · rename_i y
      replace h := gdK_some h hc; obtain ⟨b, hb, h⟩ := h
      have := T.str?_eq hb; subst this
      simp only [RelV, RelT] at hx; subst hx
      replace h := gdK_some h hc; obtain ⟨_, hb, h⟩ := h
      obtain ⟨h1, h2, h3⟩ := inB_some hb
      have hvm : vmx = none := by cases vmx with | none => rfl | some v => simp [IsB] at hm
      subst hvm
      refine ⟨_, _, h, ?_, by simp only [RelV]; exact rel_str _ _ _⟩
      have := run_bounds (P := P) (w := w) false (len := b.size) (cap := b.size) hl hh h1 h2 h3
      simp [Instr.sliceAt, Instr.slice, run_underlying hu, this]
    · simp at h
  · rename_i e hu
    split at h
    · have hvm : vmx = none := by cases vmx with | none => rfl | some v => simp [IsB] at hm
      subst hvm
      have run : tyOk P e = true → ∀ (a : Option Addr) (len cap : Nat), 0 ≤ lo.getD 0 → lo.getD 0 ≤ hi.getD len → hi.getD len ≤ cap →
          (Instr.sliceAt t (.slice a len cap) vlo vhi none).run P w = .ok (.slice (if cap = (lo.getD 0).toNat then a else a.map (·.add ((lo.getD 0).toNat * P.cellsOf e))) ((hi.getD len).toNat - (lo.getD 0).toNat) (cap - (lo.getD 0).toNat)) w := by
        intro hok a len cap h1 h2 h3
        have := run_bounds (P := P) (w := w) true hl hh h1 h2 h3
        simp [Instr.sliceAt, Instr.slice, run_underlying hu, this, run_sizeA hok]
      split at h
      · rename_i j
        split at h
        · rename_i fz sz bb xs hj
          split at h
          · rename_i hsz
            obtain ⟨hsz, hok⟩ := hsz
            subst hsz
            replace h := gdK_some h hc; obtain ⟨_, hb, h⟩ := h
            obtain ⟨h1, h2, h3⟩ := inB_some hb
            obtain ⟨v, g1, a', cap', q1, q2, q3, q4, q5⟩ := sl_at hs hj
            simp only [RelV] at hx
            rw [g1] at hx; simp only [Option.some.injEq] at hx; subst hx; subst q1
            refine ⟨_, _, h, run hok _ _ _ h1 h2 (by omega), ?_⟩
            simp only [RelV]
            refine ⟨a', _, cap', _, g1, by omega, q2, rfl, ?_⟩
            by_cases e0 : (lo.getD 0).toNat = 0
            · left; refine ⟨e0, ?_⟩
              rw [e0]; split
              · rfl
              · cases a' <;> simp [Addr.add]
            · by_cases e1 : cap' = (lo.getD 0).toNat
              · right; left; rw [if_pos e1]; exact ⟨e1.symm, Iff.rfl, q4⟩
              · right; right; rw [if_neg e1]
                rcases q5 with q5 | ⟨blk, off', arr, t', q6, _⟩
                · omega
                · subst q6; exact ⟨blk, off', rfl, by simp [addr_add]⟩
          · simp at h
        · simp at h
      · rename_i j sz off n
        split at h
        · rename_i fz sz' bb xs hj
          split at h
          · rename_i hsz
            obtain ⟨rfl, rfl, hok⟩ := hsz
            replace h := gdK_some h hc; obtain ⟨_, hb, h⟩ := h
            obtain ⟨h1, h2, h3⟩ := inB_some hb
            simp only [RelV] at hx
            obtain ⟨a, L, cap, a', e1, e2, e3, rfl, e4⟩ := hx
            obtain ⟨v, g1, a'', cap'', q1, q2, q3, q4, q5⟩ := sl_at hs hj
            rw [g1] at e1; simp only [Option.some.injEq] at e1; subst e1
            simp only [Value.slice.injEq] at q1
            obtain ⟨rfl, rfl, rfl⟩ := q1
            refine ⟨_, _, h, run hok _ _ _ h1 h2 (by omega), ?_⟩
            simp only [RelV]
            refine ⟨a, _, cap, _, g1, by omega, e3, by congr 1; omega, ?_⟩
            by_cases e0 : (lo.getD 0).toNat = 0
            · have : (if cap - off = (lo.getD 0).toNat then a' else a'.map (·.add ((lo.getD 0).toNat * P.cellsOf e))) = a' := by
                rw [e0]; split
                · rfl
                · cases a' <;> simp [Addr.add]
              rw [this, e0, Nat.add_zero]
              exact e4
            · by_cases e5 : cap - off = (lo.getD 0).toNat
              · right; left; rw [if_pos e5]
                refine ⟨by omega, ?_, ?_⟩
                · rcases e4 with ⟨_, rfl⟩ | ⟨_, e6, _⟩ | ⟨b, o, rfl, rfl⟩
                  · exact Iff.rfl
                  · exact e6
                  · simp
                · trivial
              · right; right; rw [if_neg e5]
                rcases q5 with q5 | ⟨blk, off', arr, t', q6, _⟩
                · omega
                · subst q6
                  rcases e4 with ⟨e7, rfl⟩ | ⟨e7, _⟩ | ⟨b, o, e6, rfl⟩
                  · subst e7; exact ⟨blk, off', rfl, by simp [addr_add]⟩
                  · omega
                  · exact ⟨b, o, e6, by simp [addr_add, Nat.add_mul, Nat.add_assoc]⟩
          · simp at h
        · simp at h
      · rename_i y
        split at h
        · rename_i hok
          replace h := gdK_some h hc; obtain ⟨p, hp, h⟩ := h
          replace h := gdK_some h hc; obtain ⟨_, hb, h⟩ := h
          obtain ⟨h1, h2, h3⟩ := inB_some hb
          rcases T.lst?_eq hp with rfl | ⟨rfl, hp2⟩
          · simp only [RelV, RelT] at hx
            rcases hx with ⟨e1, e, rfl⟩ | ⟨e1, blk, off, sp, cap, rfl, g1, g2, g3⟩
            · rw [e] at h2 h3 h
              refine ⟨_, _, h, run hok _ _ _ (by simpa using h1) (by simpa using h2) (by simpa using h3), ?_⟩
              simp only [List.length_nil, Int.natCast_zero] at h2 h3
              have e5 : (lo.getD 0).toNat = 0 := by omega
              have e6 : (hi.getD ((0 : Nat) : Int)).toNat = 0 := by
                have : hi.getD ((0 : Nat) : Int) = hi.getD 0 := by simp
                rw [this]; omega
              simp only [RelV, RelT, sub, List.drop_nil, List.take_nil]
              left; refine ⟨e1, trivial, ?_⟩
              rw [e6]; simp
            · refine ⟨_, _, h, run hok _ _ _ h1 h2 (by omega), ?_⟩
              simp only [RelV, RelT]
              right; refine ⟨e1, ?_⟩
              by_cases e5 : cap = (lo.getD 0).toNat
              · rw [if_pos e5]
                have e6 : (hi.getD ((p.2.length : Nat) : Int)).toNat - (lo.getD 0).toNat = 0 := by omega
                refine ⟨blk, off, sp, cap - (lo.getD 0).toNat, ?_, ?_, .inl ?_, ?_⟩
                · simp only [sub, e6, List.take_zero, List.length_nil]
                · simp only [sub, e6, List.take_zero, List.length_nil]; omega
                · simp [sub, e6]
                · simp [sub, e6, RelEls]
              · rw [if_neg e5]
                have hlen : (sub (lo.getD 0) (hi.getD ((p.2.length : Nat) : Int)) p.2).length = (hi.getD ((p.2.length : Nat) : Int)).toNat - (lo.getD 0).toNat := by
                  simp only [sub, List.length_take, List.length_drop]; omega
                rcases g2 with g2 | ⟨g2, g4⟩
                · have e7 : (lo.getD 0).toNat = 0 := by rw [g2] at h3; simp only [List.length_nil] at h3; rw [g2] at h2; simp only [List.length_nil] at h2; omega
                  refine ⟨blk, off, sp, cap - (lo.getD 0).toNat, ?_, ?_, .inl (by simp [sub, g2]), by simp [sub, g2, RelEls]⟩
                  · rw [hlen, e7]; simp [Addr.add]
                  · rw [hlen]; omega
                · subst g2
                  refine ⟨blk, off + (lo.getD 0).toNat * P.cellsOf e, none, cap - (lo.getD 0).toNat, ?_, ?_, .inr ⟨rfl, g4⟩, ?_⟩
                  · rw [hlen]; simp only [Option.map_some, addr_add]
                  · rw [hlen]; omega
                  · exact (g3.drop _).take _
          · rw [hp2] at h2 h3 h
            simp only [RelV, RelT] at hx
            simp only [List.length_nil, Int.natCast_zero] at h2 h3
            have e5 : (lo.getD 0).toNat = 0 := by omega
            have e6 : (hi.getD ((0 : Nat) : Int)).toNat = 0 := by
              have : hi.getD ((0 : Nat) : Int) = hi.getD 0 := by simp
              rw [this]; omega
            rcases hx with ⟨e1, rfl⟩ | ⟨e1, blk, off, sp, rfl⟩
            · refine ⟨_, _, h, run hok _ _ _ (by simpa using h1) (by simpa using h2) (by simpa using h3), ?_⟩
              simp only [RelV, RelT, sub, List.drop_nil, List.take_nil]
              left; refine ⟨e1, trivial, ?_⟩
              rw [e6]; simp
            · refine ⟨_, _, h, run hok _ _ _ (by simpa using h1) (by simpa using h2) (by simpa using h3), ?_⟩
              simp only [RelV, RelT, sub, List.drop_nil, List.take_nil, RelEls]
              right; refine ⟨e1, blk, off, sp, 0, ?_, by simp, .inl trivial, trivial⟩
              rw [e5, e6]; simp
        · simp at h
      · simp at h
    · rename_i m
      obtain ⟨km, rfl⟩ := IsB_some hm
      have run : tyOk P e = true → lo.getD 0 = 0 → hi.getD 1 = 0 → m = 0 → ∀ (a : Option Addr) (len cap : Nat),
          (Instr.sliceAt t (.slice a len cap) vlo vhi (some (.int km m))).run P w = .ok (.slice a 0 0) w := by
        intro hok h1 h2 h3 a len cap
        cases hi with
        | none => simp at h2
        | some hn =>
          obtain ⟨kh, rfl⟩ := IsB_some hh
          simp only [Option.getD_some] at h2; subst h2; subst h3
          have e1 : ∀ code, (Instr.sliceBound (.int km 0) cap code).run P w = .ok 0 w := fun code => run_bound km 0 cap code (by omega) (by omega)
          have e2 : ∀ code, (Instr.sliceBound (.int kh 0) 0 code).run P w = .ok 0 w := fun code => run_bound kh 0 0 code (by omega) (by omega)
          cases lo with
          | none =>
            have := IsB_none hl; subst this
            simp [Instr.sliceAt, Instr.slice, run_underlying hu, Instr.sliceBounds, e1, e2, run_sizeA hok]
          | some ln =>
            obtain ⟨kl, rfl⟩ := IsB_some hl
            simp only [Option.getD_some] at h1; subst h1
            have e3 : ∀ code, (Instr.sliceBound (.int kl 0) 0 code).run P w = .ok 0 w := fun code => run_bound kl 0 0 code (by omega) (by omega)
            simp [Instr.sliceAt, Instr.slice, run_underlying hu, Instr.sliceBounds, e1, e2, e3, run_sizeA hok]
      have zs : ∀ {a b d : Int} {u : Unit}, zero3 a b d = some u → a = 0 ∧ b = 0 ∧ d = 0 := by
        intro a b d u hz; unfold zero3 at hz; split at hz
        · assumption
        · simp at hz
      split at h
      · rename_i y
        split at h
        · rename_i hok
          replace h := gdK_some h hc; obtain ⟨p, hp, h⟩ := h
          replace h := gdK_some h hc; obtain ⟨_, hz, h⟩ := h
          obtain ⟨z1, z2, z3⟩ := zs hz
          rcases T.lst?_eq hp with rfl | ⟨rfl, hp2⟩
          · simp only [RelV, RelT] at hx
            rcases hx with ⟨e1, e, rfl⟩ | ⟨e1, blk, off, sp, cap, rfl, g1, g2, g3⟩
            · exact ⟨_, _, h, run hok z1 z2 z3 _ _ _, by simp only [RelV, RelT]; exact .inl ⟨e1, trivial⟩⟩
            · exact ⟨_, _, h, run hok z1 z2 z3 _ _ _, by simp only [RelV, RelT]; exact .inr ⟨e1, blk, off, sp, rfl⟩⟩
          · simp only [RelV, RelT] at hx
            rcases hx with ⟨e1, rfl⟩ | ⟨e1, blk, off, sp, rfl⟩
            · exact ⟨_, _, h, run hok z1 z2 z3 _ _ _, by simp only [RelV, RelT]; exact .inl ⟨e1, trivial⟩⟩
            · exact ⟨_, _, h, run hok z1 z2 z3 _ _ _, by simp only [RelV, RelT]; exact .inr ⟨e1, blk, off, sp, rfl⟩⟩
        · simp at h
      · rename_i j
        split at h
        · rename_i fz sz bb xs hj
          split at h
          · simp at h
          · rename_i hok
            simp only [Bool.not_eq_false] at hok
            replace h := gdK_some h hc; obtain ⟨_, hz, h⟩ := h
            obtain ⟨z1, z2, z3⟩ := zs hz
            obtain ⟨v, g1, a', cap', q1, q2, q3, q4, q5⟩ := sl_at hs hj
            simp only [RelV] at hx
            rw [g1] at hx; simp only [Option.some.injEq] at hx; subst hx; subst q1
            refine ⟨_, _, h, run hok z1 z2 z3 _ _ _, ?_⟩
            simp only [RelV, RelT]
            cases bb
            · right
              cases a' with
              | none => simp at q3
              | some x =>
                obtain ⟨b, o, sp⟩ := x
                exact ⟨rfl, b, o, sp, rfl⟩
            · left; exact ⟨rfl, by rw [q3.2 rfl]⟩
        · simp at h
      · simp at h
  · simp at h

end
end Go.Aev
