/-
  heap.terms as a call that is told to the evaluator.
-/
import Derived.Test.YtcjfkgkobblonaaHSort
import Derived.Test.YtcjfkgkobblonaaAevGlue
set_option linter.unusedSimpArgs false
set_option linter.unusedVariables false
namespace Go.Aev.Hp
open Go Go.Aev Go.Proofs.Ytcjfkgkobblonaa Go.RowKit
noncomputable abbrev PR := Go.Proofs.Try.prog

def int1? : List T → Option Int
  | [.int .i64 n] => some n
  | _ => none
def ints? : List (List T) → Option (List Int)
  | [] => some []
  | c :: r => (int1? c).bind fun n => (ints? r).bind fun l => some (n :: l)
def rowT (x : Int × Int) : List T := [.int .i64 x.1, .int .i64 x.2]
def extT : List AV → List Blk → Option (List T)
  | [.t x, .t y], [] => (x.lst? 1).bind fun p => (y.lst? 1).bind fun q => (ints? p.2).bind fun ls => (ints? q.2).bind fun os =>
      if ls.length = os.length ∧ ls.length ≤ 60 ∧ ls.all okL = true ∧ os.all okO = true then some [.lst 2 (termsF ls os).isEmpty ((termsF ls os).map rowT), .int .i64 (baseF ls os)] else none
  | _, _ => none

theorem ints_eq : ∀ {xs : List (List T)} {l : List Int}, ints? xs = some l → xs = l.map fun n => [.int .i64 n]
  | [], l, h => by simp [ints?] at h; subst h; rfl
  | c :: r, l, h => by
    simp only [ints?] at h
    cases h1 : int1? c with
    | none => simp [h1] at h
    | some n =>
      cases h2 : ints? r with
      | none => simp [h1, h2] at h
      | some l' =>
        simp only [h1, h2, Option.bind_some, Option.some.injEq] at h; subst h
        have e : c = [.int .i64 n] := by
          unfold int1? at h1
          split at h1
          · simp at h1; subst h1; rfl
          · cases h1
        rw [e, ints_eq h2]; rfl

/-- A slice of integers, as a value. -/
theorem slice_cases {w : World} {A : Nat → Prop} {x : T} {p : Bool × List (List T)} {l : List Int} {v : Value} (h : x.lst? 1 = some p) (hl : ints? p.2 = some l) (hr : RelT w A x v) :
    (l = [] ∧ ∃ a c, v = .slice a 0 c) ∨ (0 < l.length ∧ ∃ b o c, v = .slice (some ⟨b, o, none⟩) l.length c ∧ A b ∧ ∀ j, j < l.length → w.cell? ⟨b, o + j, none⟩ = some (.int .i64 (l.getD j 0))) := by
  have hx := ints_eq hl
  unfold T.lst? at h
  split at h
  · rename_i sz b xs
    split at h
    · rename_i e; subst e
      cases h
      simp only at hx
      subst hx
      simp only [RelT] at hr
      rcases hr with ⟨_, h2, rfl⟩ | ⟨_, blk, off, sp, cap, rfl, _, h3, h4⟩
      · exact .inl ⟨by simpa using h2, _, _, rfl⟩
      · by_cases e : l = []
        · subst e; exact .inl ⟨rfl, _, _, rfl⟩
        · rcases h3 with h3 | ⟨rfl, hA⟩
          · exact absurd (by simpa using h3) e
          · refine .inr ⟨List.length_pos_iff.2 e, blk, off, cap, by simp, hA, fun j hj => ?_⟩
            have hg := (h4.get (k := j) (cs := [.int .i64 (l.getD j 0)]) (by simp [hj])).2
            simp only [RelAt, RelT, Nat.mul_one] at hg
            obtain ⟨⟨v, hv, rfl⟩, _⟩ := hg
            exact hv
    · cases h
  · cases h
    simp only [List.map_eq_nil_iff] at hx
    have hx : l = [] := by simpa using hx.symm
    subst hx
    simp only [RelT] at hr
    rcases hr with ⟨_, rfl⟩ | ⟨_, blk, off, sp, rfl⟩ <;> exact .inl ⟨rfl, _, _, rfl⟩
  · cases h

theorem res40 : (Go.Proofs.Try.f40.resultTypes.toList.map (defSh PR)) = [.t (.l 2), .f (.i .i64)] := by kernel_rfl

theorem relEls_rows {w : World} {A : Nat → Prop} {g : Nat} : ∀ (L : List (Int × Int)) (off : Nat), (∀ j (h : j < L.length), w.cell? ⟨g, off + j * 2, none⟩ = some (.int .i64 L[j].1) ∧ w.cell? ⟨g, off + j * 2 + 1, none⟩ = some (.int .i64 L[j].2)) → RelEls w A g 2 off (L.map rowT)
  | [], _, _ => by simp [RelEls]
  | x :: r, off, h => by
    simp only [List.map_cons, RelEls]
    have h0 := h 0 (by simp)
    simp only [Nat.zero_mul, Nat.add_zero, List.getElem_cons_zero] at h0
    refine ⟨rfl, ?_, relEls_rows r (off + 2) fun j hj => ?_⟩
    · simp only [rowT, RelAt, RelT]
      exact ⟨⟨_, h0.1, rfl⟩, ⟨_, h0.2, rfl⟩, trivial⟩
    · have := h (j + 1) (by simpa using hj)
      simp only [List.getElem_cons_succ] at this
      rw [show off + 2 + j * 2 = off + (j + 1) * 2 by omega]
      exact this

theorem terms_ok {An : Ann} (hb : An.bref 40 = none) (hs : An.sig 40 = none) {vals : List AV} {blks : List Blk} {xs : List T} (h : extT vals blks = some xs) : CallOk PR An 40 Go.Proofs.Try.f40 vals blks xs := by
  unfold extT at h
  split at h
  · rename_i x y
    cases hp : x.lst? 1 with
    | none => simp [hp] at h
    | some p =>
      cases hq : y.lst? 1 with
      | none => simp [hp, hq] at h
      | some q =>
        cases hls : ints? p.2 with
        | none => simp [hp, hq, hls] at h
        | some ls =>
          cases hos : ints? q.2 with
          | none => simp [hp, hq, hls, hos] at h
          | some os =>
            simp only [hp, hq, hls, hos, Option.bind_some] at h
            split at h
            · rename_i hc
              obtain ⟨hlen, hn, hl, ho⟩ := hc
              cases h
              rw [List.all_eq_true] at hl ho
              intro c w ρ O args hN hs0 hv
              simp only [RelVs, RelV] at hv
              obtain ⟨v1, _, rfl, hv1, v2, _, rfl, hv2, rfl⟩ := hv
              have hres : resSh PR An 40 (disc (([] : List Blk).head?)) Go.Proofs.Try.f40 = [.t (.l 2), .f (.i .i64)] := by
                unfold resSh; rw [hb, hs]; exact res40
              have hout : outSh An 40 (disc (([] : List Blk).head?)) = [] := by unfold outSh; rw [hb]
              rw [hres, hout]
              have kp : ∀ w', Below w.heap.size w w' → KeepO w w' (Owned O) := fun w' h => ⟨h.os, h.output, h.tape, h.size, fun k hk _ => h.block k hk⟩
              rcases slice_cases hp hls hv1 with ⟨rfl, a, c1, rfl⟩ | ⟨h0, b1, o1, c1, rfl, hA1, hc1⟩
              · refine (terms_none a c1 v2 w).mono ?_
                rintro e w' ⟨rfl, hbl⟩
                have e1 : termsF ([] : List Int) os = [] := by
                  unfold termsF; rw [List.flatMap_eq_nil_iff]; intro v _; simp [amtP, term1]
                have e2 : baseF ([] : List Int) os = 0 := by
                  unfold baseF
                  have : ∀ l : List Int, sumZ (l.map fun v => low (amtP [] os v)) = 0 := by
                    intro l; induction l with
                    | nil => rfl
                    | cons x r ih => simp only [List.map_cons, sumZ, ih]; simp [amtP, low]
                  rw [this]; simp [negP]
                rw [e1, e2]
                refine ⟨[.slice none 0 0, .int .i64 0], _, [], [], [], rfl, kp w' hbl, (List.append_nil _).symm, List.nodup_nil, by simp, ?_, ⟨rfl, rfl⟩⟩
                exact ⟨_, _, _, _, none, [], rfl, rfl, rfl, ⟨by simp [RelT], rfl⟩, _, _, _, _, none, [], rfl, rfl, rfl, ⟨rfl, by simp [RelT], rfl⟩, rfl, rfl, rfl⟩
              · rcases slice_cases hq hos hv2 with ⟨rfl, a, c2, rfl⟩ | ⟨h02, b2, o2, c2, rfl, hA2, hc2⟩
                · rw [List.length_nil] at hlen; omega
                · refine (terms_any b1 o1 ls.length c1 b2 o2 c2 ls os w h0 (by have := hn; omega) (Nat.le_refl _) (by rw [hlen]; exact Nat.le_refl _) hA1.2.1 hA2.2.1 hc1 hc2 (fun n hm => WalkArith.wf_i64 (by have := okL_iff.1 (hl n hm); omega))).mono ?_
                  rintro e w' ⟨v, dn, d, rfl, hbl, hd, hall, hperm, hsort, hrow⟩
                  have hsp := spec_take ls os hlen hn hl ho ls.length (Nat.le_refl _)
                  have t2 : os.take ls.length = os := by rw [hlen, List.take_length]
                  rw [List.take_length, t2] at hsp
                  have eL : d.toList = termsF ls os := sorted_eq (hperm.trans (terms_perm hsp hn hl ho hd hall)) hsort
                  have eB := base_eq hsp hn hl ho hd hall
                  rw [eB]
                  refine ⟨[v, .int .i64 (baseF ls os)], _, [], [], [], rfl, kp w' hbl, (List.append_nil _).symm, List.nodup_nil, by simp, ?_, ⟨rfl, rfl⟩⟩
                  refine ⟨_, _, _, _, none, [], rfl, rfl, rfl, ⟨?_, rfl⟩, _, _, _, _, none, [], rfl, rfl, rfl, ⟨rfl, by simp [RelT], rfl⟩, rfl, rfl, rfl⟩
                  rw [← eL]
                  simp only [RelT]
                  rcases hrow with ⟨rfl, rfl⟩ | ⟨g, cap, hpos, rfl, hcap, hg1, hg2, hH⟩
                  · exact .inl ⟨rfl, rfl, rfl⟩
                  · refine .inr ⟨?_, g, 0, none, cap, by simp, by simpa using hcap, .inr ⟨rfl, .inr (.inr (by rw [hN]; exact hg1)), hg2, by simp⟩, relEls_rows _ 0 fun j hj => ?_⟩
                    · have : d.toList ≠ [] := by intro h; have := congrArg List.length h; rw [Array.length_toList, List.length_nil] at this; omega
                      simpa using this
                    · have hj' : j < d.size := by simpa using hj
                      have c0 := hH.cell (i := j) (c := 0) hj' (by omega)
                      have c1 := hH.cell (i := j) (c := 1) hj' (by omega)
                      have e3 : d[j]! = d.toList[j] := by simp [hj']
                      rw [e3] at c0 c1
                      refine ⟨by simpa [encT] using c0.1, by simpa [encT] using c1.1⟩
            · cases h
  · cases h

end Go.Aev.Hp
