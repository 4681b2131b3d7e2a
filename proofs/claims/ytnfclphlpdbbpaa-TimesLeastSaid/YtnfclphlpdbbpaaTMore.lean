/-
  More to wait for: no sooner. Less to do: no later.
-/
import Derived.Test.YtnfclphlpdbbpaaTLaws
set_option linter.unusedSimpArgs false
set_option linter.unusedVariables false
namespace Go.Aev.Gen
open Go Go.Aev Go.Proofs
open Classical

theorem scanW_ok {n : Int} : ∀ {ws : List W} {i : Nat}, (∀ w ∈ ws, ¬ badA n w ∧ ¬ badY w) → scanW n ws i = (0, 0)
  | [], _, _ => rfl
  | w :: ws, i, h => by
    have := h w List.mem_cons_self
    rw [scanW, if_neg this.1, if_neg this.2]
    exact scanW_ok fun u hu => h u (List.mem_cons_of_mem _ hu)
theorem scanJ_ok {n : Int} {ws : List W} : ∀ {js : List J} {i : Nat}, (∀ j ∈ js, ¬ badJ j) → (∀ w ∈ ws, ¬ badA n w ∧ ¬ badY w) → scanJ n ws js i = (0, 0)
  | [], _, _, h => scanW_ok h
  | j :: js, i, hj, h => by
    rw [scanJ, if_neg (hj j List.mem_cons_self)]
    exact scanJ_ok (fun u hu => hj u (List.mem_cons_of_mem _ hu)) h
theorem chk_ok {js : List J} {ws : List W} (hl : js.length ≤ 8) (hw : ws.length ≤ 60) (hj : ∀ j ∈ js, ¬ badJ j) (h : ∀ w ∈ ws, ¬ badA js.length w ∧ ¬ badY w) : chk js ws = (0, 0) := by
  rw [chk, if_neg (by omega), if_neg (by omega)]
  exact scanJ_ok hj h
theorem chk_parts {js : List J} {ws : List W} (h : (chk js ws).1 = 0) : js.length ≤ 8 ∧ ws.length ≤ 60 ∧ (∀ j ∈ js, ¬ badJ j) ∧ ∀ w ∈ ws, ¬ badA js.length w ∧ ¬ badY w := by
  unfold chk at h
  split at h
  · simp at h
  · split at h
    · simp at h
    · obtain ⟨g1, g2⟩ := scanJ_zero h
      exact ⟨by omega, by omega, g1, scanW_zero g2⟩

/-- The k-th job, half as long. -/
def half (js : List J) (k : Nat) : List J := js.set k ⟨(jat js k).l.tdiv 2, (jat js k).m, (jat js k).f⟩
theorem half_len {js : List J} {k : Nat} : (half js k).length = js.length := by simp [half]
theorem chk_half {js : List J} {ws : List W} {k : Nat} (hk : k < js.length) (h : (chk js ws).1 = 0) : (chk (half js k) ws).1 = 0 := by
  obtain ⟨h1, h2, h3, h4⟩ := chk_parts h
  rw [chk_ok (by rw [half_len]; exact h1) h2 (fun j hj => ?_) (by rw [half_len]; exact h4)]
  rcases List.mem_or_eq_of_mem_set hj with hj | rfl
  · exact h3 j hj
  · have := h3 _ (jat_mem (i := (k : Int)) (by simpa using hk))
    unfold badJ at this ⊢
    dsimp only
    rw [Int.tdiv_eq_ediv_of_nonneg (by omega)]
    omega
theorem half_at {js : List J} {k : Nat} (hj : ∀ i : Int, 0 ≤ (jat js i).l) (i : Int) : (jat (half js k) i).m = (jat js i).m ∧ (jat (half js k) i).f = (jat js i).f ∧ (jat (half js k) i).l ≤ (jat js i).l := by
  by_cases hi : i.toNat = k ∧ k < js.length
  · have e : jat (half js k) i = ⟨(jat js k).l.tdiv 2, (jat js k).m, (jat js k).f⟩ := by
      simp only [jat, half, List.getD_eq_getElem?_getD, hi.1]
      rw [List.getElem?_set_self (by exact hi.2)]; rfl
    have e2 : jat js i = jat js k := by simp only [jat, hi.1, Int.toNat_natCast]
    have h0 := hj k
    rw [e, e2]
    refine ⟨rfl, rfl, ?_⟩
    dsimp only
    rw [Int.tdiv_eq_ediv_of_nonneg h0]
    omega
  · have e : jat (half js k) i = jat js i := by
      simp only [jat, half, List.getD_eq_getElem?_getD]
      by_cases hk : k < js.length
      · rw [List.getElem?_set_ne (fun e => hi ⟨e.symm, hk⟩)]
      · rw [List.set_eq_of_length_le (by omega)]
    rw [e]
    exact ⟨rfl, rfl, Int.le_refl _⟩
theorem right_half {js : List J} {ws : List W} {k : Nat} {d : List Int} (hj : ∀ i : Int, 0 ≤ (jat js i).l) (h : RightP js ws d) : RightP (half js k) ws d := by
  refine ⟨fun i hi => ?_, h.2⟩
  rw [half_len] at hi
  obtain ⟨h1, h2⟩ := h.1 i hi
  have hi := half_at (k := k) hj i
  refine ⟨by rw [hi.2.1]; exact h1, fun a ha ho => h2 a ha ?_⟩
  have hA := half_at (k := k) hj a
  obtain ⟨⟨⟨⟨o1, o2⟩, o3⟩, o4⟩, o5⟩ := ho
  exact ⟨⟨⟨⟨by rw [← hi.1, ← hA.1]; exact o1, by omega⟩, by omega⟩, by omega⟩, by omega⟩
theorem span_half {js : List J} {k : Nat} {d : List Int} (hj : ∀ i : Int, 0 ≤ (jat js i).l) : span (half js k) d ≤ span js d :=
  spanL_less (Int.le_refl _) half_len fun i => (half_at (k := k) hj i).2.2
theorem eJs_set {js : List J} {k : Int} (hk : 0 ≤ k ∧ k < (js.length : Int)) : storeIn k.toNat 0 [ti ((jat js k).l.tdiv 2)] (eJs js) = some (eJs (half js k.toNat)) := by
  have h1 := eJs_at hk
  have e : jat js (k.toNat : Int) = jat js k := by simp only [jat, Int.toNat_natCast]
  simp only [storeIn, h1, half, e]
  simp [repl, eJs, List.map_set, eJ]

theorem s9all (js : List J) (ws : List W) (e e' : Bool) (he : e' = true → ws = []) :
    ∃ st la x d ec c a, Or (.call 9) [LJ e js, LW e' ws, I 2000] [] = some [ti st, ti la, x, ti c, ti a] ∧ x.lst? 1 = some (ec, d) ∧ (c = 0 → (chk js ws).1 = 0 ∧ ∃ d', Best js ws st la d') ∧ (¬ c = 0 → st = 0 ∧ ¬ (chk js ws).1 = 0) := by
  by_cases h : (chk js ws).1 = 0
  · obtain ⟨st, la, x, d, ec, h1, h2, h3⟩ := s9ok js ws e e' 2000 he h (by omega)
    exact ⟨st, la, x, enc d, ec, 0, 0, h1, h2, fun _ => ⟨h, d, h3⟩, fun h => absurd rfl h⟩
  · exact ⟨0, 0, T.emp true, [], true, _, _, s9bad js ws e e' 2000 h, by simp [T.lst?], fun h' => absurd h' h, fun h => ⟨rfl, h⟩⟩

theorem law5 (js : List J) (ws : List W) (w : W) (k : Int) (e e' : Bool) (he : e' = true → ws = []) (hb : ws.length * 24 ≤ reachBytes) : Or (.call 5) [LJ e js, LW e' ws, AV.agg [I w.a, I w.b, I w.y], I k] [] = some [tb true] := by
  refine orc_of ?_
  rw [e5]
  obtain ⟨st, la, x, d, ec, c, a, h9, hx, g1, g2⟩ := s9all js ws e e' he
  obtain ⟨st2, la2, x2, d2, ec2, c2, a2, h92, hx2, k1, k2⟩ := s9all js (ws ++ [w]) e false (by simp)
  obtain ⟨st3, la3, x3, d3, ec3, c3, a3, h93, hx3, m1, m2⟩ := s9all (half js k.toNat) ws (eJs js).isEmpty e' he
  unfold reachBytes at hb
  have sm1 : small 24 (eWs ws).length = some () := by unfold small; rw [eWs_len, if_pos (.inr ⟨by omega, by omega⟩)]
  have sm2 : small 24 ((eWs ws).length + [[ti w.a, ti w.b, ti w.y]].length) = some () := by
    unfold small; rw [eWs_len, if_pos (.inr ⟨by omega, by simp only [List.length_cons, List.length_nil]; omega⟩)]
  have ha : eWs ws ++ [[ti w.a, ti w.b, ti w.y]] = eWs (ws ++ [w]) := by simp [eWs, eW]
  have hA : c = 0 → ¬ ((c2 = 0 ∧ st2 = 1) ∧ (¬ st = 1 ∨ la2 < la)) := by
    rintro h0 ⟨⟨h1, h2⟩, h3⟩
    obtain ⟨_, d', B⟩ := g1 h0
    obtain ⟨_, d2', B2⟩ := k1 h1
    obtain ⟨r1, r2, r3, r4⟩ := B2.right h2
    obtain ⟨q1, q2⟩ := B.best d2' r1 (right_more r2)
    omega
  have hC : c = 0 → 0 ≤ k ∧ k < (js.length : Int) → (¬ st = 1 ∨ ((c3 = 0 ∧ st3 = 1) ∧ la3 ≤ la)) := by
    intro h0 hk
    by_cases h1 : st = 1
    · right
      obtain ⟨hc, d', B⟩ := g1 h0
      obtain ⟨r1, r2, r3, r4⟩ := B.right h1
      have hj : ∀ i : Int, 0 ≤ (jat js i).l := fun i => ((chk_good hc).1.job i).1
      have hc3 : c3 = 0 := Classical.byContradiction fun h => (m2 h).2 (chk_half (by omega) hc)
      obtain ⟨_, d3', B3⟩ := m1 hc3
      obtain ⟨q1, q2⟩ := B3.best d' (by rw [half_len]; exact r1) (right_half hj r2)
      have := span_half (k := k.toNat) (d := d') hj
      exact ⟨⟨hc3, q1⟩, by omega⟩
    · exact .inl h1
  have hB : c = 0 → (decide (c2 = 0 ∧ st2 = 1) && (!decide (st = 1) || decide (la2 < la))) = false := fun h => by
    have := hA h
    rw [← decide_not, ← Bool.decide_or, ← Bool.decide_and]
    exact decide_eq_false this
  have hD : c = 0 → 0 ≤ k ∧ k < (js.length : Int) → (!decide (st = 1) || decide ((c3 = 0 ∧ st3 = 1) ∧ la3 ≤ la)) = true := fun h h' => by
    have := hC h h'
    rw [← decide_not, ← Bool.decide_or]
    exact decide_eq_true this
  simp only [cor, cand, beq_dec, nbeq_dec, ← Bool.decide_or, ← Bool.decide_and]
  by_cases h5 : (js.length : Int) > 5
  · simp only [gd1, hd1, tl1, dr0, dr1, dr2, dr3, dr4, dr5, dr6, bo1, in1, st1, ls1, le1, pt1, fi1, fb1, fs1, ct1, cf1, nt1, nf1, ak0, akT, akF, cdec, cndec, cbeq, cnbeq, ↓reduceIte, beq_self_eq_true, Int.reduceBEq, Int.reduceEq, Bool.and_true, Bool.true_and, Bool.false_and, Bool.and_false, s8, eJs_len, h5, Bool.not_true]
  · by_cases hc : c = 0
    · have hA' := hB hc
      by_cases hk : k < 0 ∨ k ≥ (js.length : Int)
      · simp only [gd1, hd1, tl1, dr0, dr1, dr2, dr3, dr4, dr5, dr6, bo1, in1, st1, ls1, le1, pt1, fi1, fb1, fs1, ct1, cf1, nt1, nf1, ak0, akT, akF, cdec, cndec, cbeq, cnbeq, ↓reduceIte, beq_self_eq_true, Int.reduceBEq, Int.reduceEq, Bool.and_true, Bool.true_and, Bool.false_and, Bool.and_false, s8, eJs_len, h5, Bool.not_true, h9, hx, sm1, sm2, ha, h92, hx2, hc, hA', hk, not_true_eq_false]
      · have hk' : 0 ≤ k ∧ k < (js.length : Int) := by omega
        have hC' := hD hc hk'
        have sm3 : small 24 js.length = some () := small_ok (by omega)
        have hG : (chk js ws).1 = 0 := (g1 hc).1
        have hj := ((chk_good hG).1.job k)
        have hw : IntKind.i64.wrap ((jat js k).l.tdiv 2) = (jat js k).l.tdiv 2 := by
          rw [wr]
          rw [Int.tdiv_eq_ediv_of_nonneg hj.1]
          omega
        simp only [gd1, hd1, tl1, dr0, dr1, dr2, dr3, dr4, dr5, dr6, bo1, in1, st1, ls1, le1, pt1, fi1, fb1, fs1, ct1, cf1, nt1, nf1, ak0, akT, akF, cdec, cndec, cbeq, cnbeq, ↓reduceIte, beq_self_eq_true, Int.reduceBEq, Int.reduceEq, Bool.and_true, Bool.true_and, Bool.false_and, Bool.and_false, s8, eJs_len, h5, Bool.not_true, h9, hx, sm1, sm2, sm3, ha, h92, hx2, hc, hA', hk, hk', and_self, not_true_eq_false, eJs_at hk', hw, eJs_set hk', h93, hx3, hC', decide_true]
    · have := (g2 hc).1
      simp only [gd1, hd1, tl1, dr0, dr1, dr2, dr3, dr4, dr5, dr6, bo1, in1, st1, ls1, le1, pt1, fi1, fb1, fs1, ct1, cf1, nt1, nf1, ak0, akT, akF, cdec, cndec, cbeq, cnbeq, ↓reduceIte, beq_self_eq_true, Int.reduceBEq, Int.reduceEq, Bool.and_true, Bool.true_and, Bool.false_and, Bool.and_false, s8, eJs_len, h5, Bool.not_true, h9, hx, sm1, sm2, ha, h92, hx2, hc, not_false_eq_true, this, decide_true]
set_option maxRecDepth 1000000 in
theorem claim5 (vs : List AV) (h : ArgWt PROG (19 + 1) Try.f5.params.toList vs) : Or (.call 5) vs [] = some [.bool true] := by
  rw [Try.params5] at h
  obtain ⟨a, _, rfl, h1, b, _, rfl, h2, c, _, rfl, h3, d, _, rfl, h4, rfl⟩ := h
  obtain ⟨e, q, rfl⟩ := jobs_arg h1
  obtain ⟨e', r, rfl, he, hb⟩ := waits_argb h2
  obtain ⟨w, rfl⟩ := wait_arg h3
  obtain ⟨k, rfl⟩ := int_arg h4
  exact law5 q r w k e e' he hb
end Go.Aev.Gen
