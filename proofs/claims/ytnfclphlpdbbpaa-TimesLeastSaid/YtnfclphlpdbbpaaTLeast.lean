/-
  Of up to five jobs it is the least of all orders.
-/
import Derived.Test.YtnfclphlpdbbpaaTOrder
import Derived.Test.YtnfclphlpdbbpaaTPerm
set_option linter.unusedSimpArgs false
set_option linter.unusedVariables false
namespace Go.Aev.Gen
open Go Go.Aev Go.Proofs
open Classical

theorem OkO.ord {n : Nat} {o : List Int} (h : OkO n o) : Ord n o := ⟨h.len, fun i h0 h1 => by
  have := h.rng i.toNat (by omega)
  rwa [show ((i.toNat : Nat) : Int) = i from by omega] at this⟩
noncomputable def valO (js : List J) (ws : List W) (o : List Int) : Int := match rounds (ws ++ oc js o) (js.length + 1) (froms js) with
  | some d => span js d
  | none => -1
theorem resO_val (js : List J) (ws : List W) (o : List Int) : resO js (rounds (ws ++ oc js o) (js.length + 1) (froms js)) = [ti (valO js ws o)] := by
  unfold valO
  split <;> rename_i h <;> rw [h] <;> rfl
def updV (v e : Int) : Int := if e ≥ 0 ∧ (v < 0 ∨ e < v) then e else v
noncomputable def leastF (js : List J) (ws : List W) (L : List (List Int)) (v : Int) : Int := L.foldl (fun v o => updV v (valO js ws o)) v
theorem fold_ok (val : List Int → Int) : ∀ (L : List (List Int)) (v : Int),
    (L.foldl (fun v o => updV v (val o)) v < 0 → v < 0 ∧ ∀ o ∈ L, val o < 0) ∧
    (0 ≤ L.foldl (fun v o => updV v (val o)) v → (L.foldl (fun v o => updV v (val o)) v = v ∨ ∃ o ∈ L, val o = L.foldl (fun v o => updV v (val o)) v) ∧ (0 ≤ v → L.foldl (fun v o => updV v (val o)) v ≤ v) ∧ ∀ o ∈ L, 0 ≤ val o → L.foldl (fun v o => updV v (val o)) v ≤ val o)
  | [], v => ⟨fun h => ⟨h, by simp⟩, fun h => ⟨.inl rfl, fun _ => Int.le_refl _, by simp⟩⟩
  | o :: L, v => by
    rw [List.foldl_cons]
    obtain ⟨h1, h2⟩ := fold_ok val L (updV v (val o))
    generalize L.foldl (fun v o => updV v (val o)) (updV v (val o)) = r at h1 h2
    unfold updV at h1 h2
    refine ⟨fun hr => ?_, fun hr => ?_⟩
    · obtain ⟨g1, g2⟩ := h1 hr
      split at g1
      · omega
      · refine ⟨g1, fun p hp => ?_⟩
        rcases List.mem_cons.1 hp with rfl | hp
        · omega
        · exact g2 p hp
    · obtain ⟨g1, g2, g3⟩ := h2 hr
      refine ⟨?_, ?_, fun p hp hv => ?_⟩
      · rcases g1 with g1 | ⟨p, hp, g1⟩
        · split at g1
          · exact .inr ⟨o, List.mem_cons_self, g1.symm⟩
          · exact .inl g1
        · exact .inr ⟨p, List.mem_cons_of_mem _ hp, g1⟩
      · intro hv
        split at g2
        · have := g2 (by omega); omega
        · exact g2 hv
      · rcases List.mem_cons.1 hp with rfl | hp
        · split at g2
          · exact g2 hv
          · have := g2 (by omega); omega
        · exact g3 p hp hv

section
variable (js : List J) (e : Bool) (ws : List W) (e' : Bool)
abbrev nI : AV := I (js.length : Int)
theorem n14i (v : Int) (od : List Int) (R : List T) (hl : od.length = js.length) (hn : js.length ≤ 8) : ∀ (k : Nat) (z : Int), z = (k : Int) - 1 → k + 1 ≤ js.length → (fI od k < 0 → R = [ti v]) →
    (0 ≤ fI od k → Or K14n17 [LJ e js, LW e' ws, nI js, I v, o0, I (fI od k), I ((js.length : Int) - 1)] [bD false od] = some R) →
    Or K14n12 [LJ e js, LW e' ws, nI js, I v, o0, I z] [bD false od] = some R
  | 0, z, hz, hk, h1, h2 => by
    rw [h1 (by simp [fI])]
    refine orc_of ?_
    rw [e14n12]
    have g1 : ¬ z ≥ 0 := by omega
    have g2 : z < 0 := by omega
    simp only [gd1, hd1, tl1, dr0, dr1, dr2, dr3, dr4, dr5, dr6, bo1, in1, st1, ls1, le1, pt1, fi1, fb1, fs1, ct1, cf1, nt1, nf1, ak0, akT, akF, cdec, cndec, cbeq, cnbeq, ↓reduceIte, beq_self_eq_true, Int.reduceBEq, Int.reduceEq, Bool.and_true, Bool.true_and, Bool.false_and, Bool.and_false, gdF, g1, g2, decide_false, Bool.false_eq_true]
  | k + 1, z, hz, hk, h1, h2 => by
    have g1 : z ≥ 0 := by omega
    have g2 : ¬ z < 0 := by omega
    have g3 : 0 ≤ z ∧ z < (od.length : Int) := by omega
    have g4 : IntKind.i64.wrap (z + 1) = z + 1 := wr (by omega)
    have g5 : 0 ≤ z + 1 ∧ z + 1 < (od.length : Int) := by omega
    have g6 : IntKind.i64.wrap (z - 1) = z - 1 := wr (by omega)
    have g7 : IntKind.i64.wrap ((js.length : Int) - 1) = (js.length : Int) - 1 := wr (by omega)
    obtain rfl : z = (k : Int) := by omega
    have e1 := enc_at g3
    have e2 := enc_at g5
    simp only [fI] at h1 h2
    by_cases hc : at' od (k : Int) > at' od ((k : Int) + 1)
    · rw [if_pos hc] at h1 h2
      have := n14i v od R hl hn k ((k : Int) - 1) rfl (by omega) h1 h2
      refine orc_of ?_
      rw [e14n12]
      simp only [gd1, hd1, tl1, dr0, dr1, dr2, dr3, dr4, dr5, dr6, bo1, in1, st1, ls1, le1, pt1, fi1, fb1, fs1, ct1, cf1, nt1, nf1, ak0, akT, akF, cdec, cndec, cbeq, cnbeq, ↓reduceIte, beq_self_eq_true, Int.reduceBEq, Int.reduceEq, Bool.and_true, Bool.true_and, Bool.false_and, Bool.and_false, g1, g2, g3, g4, g5, g6, g7, enc_len, and_self, e1, e2, hc, decide_true]
      exact this
    · rw [if_neg hc] at h1 h2
      have := h2 (by omega)
      refine orc_of ?_
      rw [e14n12]
      simp only [gd1, hd1, tl1, dr0, dr1, dr2, dr3, dr4, dr5, dr6, bo1, in1, st1, ls1, le1, pt1, fi1, fb1, fs1, ct1, cf1, nt1, nf1, ak0, akT, akF, cdec, cndec, cbeq, cnbeq, ↓reduceIte, beq_self_eq_true, Int.reduceBEq, Int.reduceEq, Bool.and_true, Bool.true_and, Bool.false_and, Bool.and_false, g1, g2, g3, g4, g5, g6, g7, enc_len, and_self, e1, e2, hc, decide_true, decide_false, Bool.false_eq_true]
      exact this
theorem swap_len (od : List Int) (a b : Nat) : (swap od a b).length = od.length := by simp [swap]
theorem n14j (v : Int) (od : List Int) (R : List T) (hl : od.length = js.length) (hn : js.length ≤ 8) (i : Nat) (hi : i < js.length) (j : Nat)
    (h : Or K14n21 [LJ e js, LW e' ws, nI js, I v, o0, I ((i + 1 : Nat) : Int), I ((js.length : Int) - 1)] [bD false (swap od i j)] = some R) : ∀ (k : Nat) (z : Int), z = (k : Int) - 1 → k ≤ js.length → fJ od (i : Int) k = some j →
    Or K14n17 [LJ e js, LW e' ws, nI js, I v, o0, I (i : Int), I z] [bD false od] = some R
  | 0, z, hz, hk, hf => by cases hf
  | k + 1, z, hz, hk, hf => by
    obtain rfl : z = (k : Int) := by omega
    have g3 : 0 ≤ (k : Int) ∧ (k : Int) < (od.length : Int) := by omega
    have g4 : 0 ≤ (i : Int) ∧ (i : Int) < (od.length : Int) := by omega
    have g6 : IntKind.i64.wrap ((k : Int) - 1) = (k : Int) - 1 := wr (by omega)
    have g7 : IntKind.i64.wrap ((js.length : Int) - 1) = (js.length : Int) - 1 := wr (by omega)
    have e1 := enc_at g3
    have e2 := enc_at g4
    simp only [fJ] at hf
    refine orc_of ?_
    rw [e14n17]
    by_cases hc : at' od (k : Int) < at' od (i : Int)
    · rw [if_pos hc] at hf
      have := n14j v od R hl hn i hi j h k ((k : Int) - 1) rfl (by omega) hf
      simp only [gd1, hd1, tl1, dr0, dr1, dr2, dr3, dr4, dr5, dr6, bo1, in1, st1, ls1, le1, pt1, fi1, fb1, fs1, ct1, cf1, nt1, nf1, ak0, akT, akF, cdec, cndec, cbeq, cnbeq, ↓reduceIte, beq_self_eq_true, Int.reduceBEq, Int.reduceEq, Bool.and_true, Bool.true_and, Bool.false_and, Bool.and_false, g3, g4, g6, enc_len, and_self, e1, e2, hc]
      exact this
    · rw [if_neg hc] at hf
      simp only [Option.some.injEq] at hf
      subst hf
      have g5 : 0 ≤ (k : Int) ∧ (k : Int) < ((od.set (i : Int).toNat (at' od (k : Int))).length : Int) := by rw [List.length_set]; exact g3
      simp only [gd1, hd1, tl1, dr0, dr1, dr2, dr3, dr4, dr5, dr6, bo1, in1, st1, ls1, le1, pt1, fi1, fb1, fs1, ct1, cf1, nt1, nf1, ak0, akT, akF, cdec, cndec, cbeq, cnbeq, ↓reduceIte, beq_self_eq_true, Int.reduceBEq, Int.reduceEq, Bool.and_true, Bool.true_and, Bool.false_and, Bool.and_false, g3, g4, g5, g7, enc_len, and_self, e1, e2, hc, enc_set g4, enc_set g5, next i (by omega)]
      exact h
theorem n14r (v : Int) (R : List T) (hn : js.length ≤ 8) : ∀ (f : Nat) (od : List Int) (a b : Nat), od.length = js.length → b < js.length → b < a + f →
    Or K14n8 [LJ e js, LW e' ws, nI js, I v, o0] [bD false (rv f od a b)] = some R →
    Or K14n21 [LJ e js, LW e' ws, nI js, I v, o0, I (a : Int), I (b : Int)] [bD false od] = some R
  | 0, od, a, b, hl, hb, hf, h => by
    refine orc_of ?_
    rw [e14n21]
    have h1 : ¬ (a : Int) < (b : Int) := by omega
    simp only [gd1, hd1, tl1, dr0, dr1, dr2, dr3, dr4, dr5, dr6, bo1, in1, st1, ls1, le1, pt1, fi1, fb1, fs1, ct1, cf1, nt1, nf1, ak0, akT, akF, cdec, cndec, cbeq, cnbeq, ↓reduceIte, beq_self_eq_true, Int.reduceBEq, Int.reduceEq, Bool.and_true, Bool.true_and, Bool.false_and, Bool.and_false, h1]
    exact h
  | f + 1, od, a, b, hl, hb, hf, h => by
    refine orc_of ?_
    rw [e14n21]
    simp only [rv] at h
    by_cases hc : a < b
    · rw [if_pos hc] at h
      have h1 : (a : Int) < (b : Int) := by omega
      have g3 : 0 ≤ (a : Int) ∧ (a : Int) < (od.length : Int) := by omega
      have g4 : 0 ≤ (b : Int) ∧ (b : Int) < (od.length : Int) := by omega
      have g5 : 0 ≤ (b : Int) ∧ (b : Int) < ((od.set (a : Int).toNat (at' od (b : Int))).length : Int) := by rw [List.length_set]; exact g4
      have g6 : IntKind.i64.wrap ((b : Int) - 1) = ((b - 1 : Nat) : Int) := by rw [wr (by omega)]; omega
      have := n14r v R hn f (swap od a b) (a + 1) (b - 1) (by rw [swap_len]; exact hl) (by omega) (by omega) h
      simp only [gd1, hd1, tl1, dr0, dr1, dr2, dr3, dr4, dr5, dr6, bo1, in1, st1, ls1, le1, pt1, fi1, fb1, fs1, ct1, cf1, nt1, nf1, ak0, akT, akF, cdec, cndec, cbeq, cnbeq, ↓reduceIte, beq_self_eq_true, Int.reduceBEq, Int.reduceEq, Bool.and_true, Bool.true_and, Bool.false_and, Bool.and_false, h1, g3, g4, g5, g6, enc_len, and_self, enc_at g3, enc_at g4, enc_set g3, enc_set g5, next a (by omega)]
      exact this
    · rw [if_neg hc] at h
      have h1 : ¬ (a : Int) < (b : Int) := by omega
      simp only [gd1, hd1, tl1, dr0, dr1, dr2, dr3, dr4, dr5, dr6, bo1, in1, st1, ls1, le1, pt1, fi1, fb1, fs1, ct1, cf1, nt1, nf1, ak0, akT, akF, cdec, cndec, cbeq, cnbeq, ↓reduceIte, beq_self_eq_true, Int.reduceBEq, Int.reduceEq, Bool.and_true, Bool.true_and, Bool.false_and, Bool.and_false, h1]
      exact h
theorem rv_len : ∀ (f : Nat) (od : List Int) (a b : Nat), (rv f od a b).length = od.length
  | 0, _, _, _ => rfl
  | f + 1, od, a, b => by
    rw [rv]
    split
    · rw [rv_len f, swap_len]
    · rfl
theorem fI_lt (od : List Int) : ∀ k : Nat, fI od k < (k : Int)
  | 0 => by simp [fI]
  | k + 1 => by
    rw [fI]
    split
    · have := fI_lt od k; omega
    · omega
theorem n14o (hr : InR js.length ws) (hn : js.length ≤ 8) (hws : ws.length ≤ 60) (hj : ∀ i : Int, 0 ≤ (jat js i).l ∧ (jat js i).l ≤ 200 ∧ 0 ≤ (jat js i).f ∧ (jat js i).f ≤ 200) : ∀ (f : Nat) (od : List Int) (L : List (List Int)) (v : Int), orders js.length f od = some L → (∀ o ∈ L, Ord js.length o) →
    Or K14n8 [LJ e js, LW e' ws, nI js, I v, o0] [bD false od] = some [ti (leastF js ws L v)]
  | 0, _, _, _, h, _ => by cases h
  | f + 1, od, L, v, h, ho => by
    rw [orders] at h
    have hv2 : IntKind.i64.wrap ((js.length : Int) - 2) = (js.length : Int) - 2 := wr (by omega)
    have hod : Ord js.length od := by
      split at h
      · simp only [Option.some.injEq] at h; subst h; exact ho od (by simp)
      · split at h
        · cases h
        · simp only [Option.map_eq_some_iff] at h
          obtain ⟨L', _, rfl⟩ := h
          exact ho od (by simp)
    have h20 := s20 js ws od e e' false hr hn hws hj hod
    rw [resO_val] at h20
    have key : Or K14n12 [LJ e js, LW e' ws, nI js, I (updV v (valO js ws od)), o0, I ((js.length : Int) - 2)] [bD false od] = some [ti (leastF js ws L v)] := by
      by_cases h0 : js.length = 0
      · have hfi : fI od (js.length - 1) < 0 := by rw [h0]; simp [fI]
        rw [if_pos hfi] at h
        simp only [Option.some.injEq] at h; subst h
        refine orc_of ?_
        rw [e14n12]
        have g1 : ¬ (js.length : Int) - 2 ≥ 0 := by omega
        have g2 : (js.length : Int) - 2 < 0 := by omega
        simp only [gd1, hd1, tl1, dr0, dr1, dr2, dr3, dr4, dr5, dr6, bo1, in1, st1, ls1, le1, pt1, fi1, fb1, fs1, ct1, cf1, nt1, nf1, ak0, akT, akF, cdec, cndec, cbeq, cnbeq, ↓reduceIte, beq_self_eq_true, Int.reduceBEq, Int.reduceEq, Bool.and_true, Bool.true_and, Bool.false_and, Bool.and_false, gdF, g1, g2, decide_false, Bool.false_eq_true]
        rfl
      · refine n14i js e ws e' _ od _ hod.1 hn (js.length - 1) _ (by omega) (by omega) (fun hfi => ?_) (fun hfi => ?_)
        · rw [if_pos hfi] at h
          simp only [Option.some.injEq] at h; subst h
          rfl
        · rw [if_neg (by omega)] at h
          split at h
          · cases h
          · rename_i j hfj
            simp only [Option.map_eq_some_iff] at h
            obtain ⟨L', hL', rfl⟩ := h
            have hlt := fI_lt od (js.length - 1)
            have hfi' : fI od (js.length - 1) = (((fI od (js.length - 1)).toNat : Nat) : Int) := by omega
            rw [hfi'] at hfj ⊢
            generalize (fI od (js.length - 1)).toNat = i at *
            refine n14j js e ws e' _ od _ hod.1 hn i (by omega) j ?_ js.length _ rfl (Nat.le_refl _) hfj
            rw [show (js.length : Int) - 1 = ((js.length - 1 : Nat) : Int) from by omega]
            refine n14r js e ws e' _ _ hn js.length _ (i + 1) (js.length - 1) (by rw [swap_len]; exact hod.1) (by omega) (by omega) ?_
            have := n14o hr hn hws hj f _ L' (updV v (valO js ws od)) hL' (fun o ho' => ho o (List.mem_cons_of_mem _ ho'))
            exact this
    refine orc_of ?_
    rw [e14n8]
    simp only [cor, cand, ← Bool.decide_or, ← Bool.decide_and]
    by_cases hc : valO js ws od ≥ 0 ∧ (v < 0 ∨ valO js ws od < v)
    · rw [updV, if_pos hc] at key
      simp only [gd1, hd1, tl1, dr0, dr1, dr2, dr3, dr4, dr5, dr6, bo1, in1, st1, ls1, le1, pt1, fi1, fb1, fs1, ct1, cf1, nt1, nf1, ak0, akT, akF, cdec, cndec, cbeq, cnbeq, ↓reduceIte, beq_self_eq_true, Int.reduceBEq, Int.reduceEq, Bool.and_true, Bool.true_and, Bool.false_and, Bool.and_false, h20, hc, hv2]
      exact key
    · rw [updV, if_neg hc] at key
      simp only [gd1, hd1, tl1, dr0, dr1, dr2, dr3, dr4, dr5, dr6, bo1, in1, st1, ls1, le1, pt1, fi1, fb1, fs1, ct1, cf1, nt1, nf1, ak0, akT, akF, cdec, cndec, cbeq, cnbeq, ↓reduceIte, beq_self_eq_true, Int.reduceBEq, Int.reduceEq, Bool.and_true, Bool.true_and, Bool.false_and, Bool.and_false, h20, hc, hv2]
      exact key
def idI (n i : Nat) : List Int := (List.range n).map fun k : Nat => if k < i then (k : Int) else 0
theorem idI_set {n i : Nat} : (idI n i).set i (i : Int) = idI n (i + 1) := by
  apply List.ext_getElem
  · simp [idI]
  · intro k h1 h2
    simp only [List.getElem_set, idI, List.getElem_map, List.getElem_range]
    split <;> split <;> (try split) <;> omega
theorem idI_len {n i : Nat} : (idI n i).length = n := by simp [idI]
theorem idI_end {n : Nat} : idI n n = idL n := by
  apply List.ext_getElem
  · simp [idI, idL]
  · intro k h1 h2
    simp only [idI, idL, List.getElem_map, List.getElem_range]
    rw [if_pos (by simpa [idI] using h1)]
theorem idI_zero {n : Nat} : enc (idI n 0) = List.replicate n [ti 0] := by
  apply List.ext_getElem
  · simp [idI, enc]
  · intro k h1 h2
    simp [idI, enc]
theorem n14d (hn : js.length ≤ 8) (R : List T) (h : Or K14n8 [LJ e js, LW e' ws, nI js, I (-1), o0] [bD false (idL js.length)] = some R) : ∀ (r i : Nat), i + r = js.length →
    Or K14n5 [LJ e js, LW e' ws, nI js, I (-1), o0, I (i : Int)] [bD false (idI js.length i)] = some R
  | 0, i, hi => by
    refine orc_of ?_
    rw [e14n5]
    have h1 : ¬ (i : Int) < (js.length : Int) := by omega
    obtain rfl : i = js.length := by omega
    simp only [gd1, hd1, tl1, dr0, dr1, dr2, dr3, dr4, dr5, dr6, bo1, in1, st1, ls1, le1, pt1, fi1, fb1, fs1, ct1, cf1, nt1, nf1, ak0, akT, akF, cdec, cndec, cbeq, cnbeq, ↓reduceIte, beq_self_eq_true, Int.reduceBEq, Int.reduceEq, Bool.and_true, Bool.true_and, Bool.false_and, Bool.and_false, h1, idI_end]
    exact h
  | r + 1, i, hi => by
    refine orc_of ?_
    rw [e14n5]
    have h1 : (i : Int) < (js.length : Int) := by omega
    have g3 : 0 ≤ (i : Int) ∧ (i : Int) < ((idI js.length i).length : Int) := by rw [idI_len]; omega
    have hs := enc_set g3 (i : Int)
    rw [Int.toNat_natCast, idI_set] at hs
    have := n14d hn R h r (i + 1) (by omega)
    simp only [Int.toNat_natCast]
    simp only [gd1, hd1, tl1, dr0, dr1, dr2, dr3, dr4, dr5, dr6, bo1, in1, st1, ls1, le1, pt1, fi1, fb1, fs1, ct1, cf1, nt1, nf1, ak0, akT, akF, cdec, cndec, cbeq, cnbeq, ↓reduceIte, beq_self_eq_true, Int.reduceBEq, Int.reduceEq, Bool.and_true, Bool.true_and, Bool.false_and, Bool.and_false, h1, g3, enc_len, and_self, hs, next i (by omega)]
    exact this
theorem s14 (hr : InR js.length ws) (hn : js.length ≤ 8) (hws : ws.length ≤ 60) (hj : ∀ i : Int, 0 ≤ (jat js i).l ∧ (jat js i).l ≤ 200 ∧ 0 ≤ (jat js i).f ∧ (jat js i).f ≤ 200) (L : List (List Int)) (hL : orders js.length 200 (idL js.length) = some L) (ho : ∀ o ∈ L, Ord js.length o) :
    Or (.call 14) [LJ e js, LW e' ws] [] = some [ti (leastF js ws L (-1))] := by
  refine orc_of ?_
  rw [e14]
  have hmk : mkOk (js.length : Int) (js.length : Int) = some () := by unfold mkOk lim; rw [if_pos (by omega)]
  have := n14d js e ws e' hn _ (n14o js e ws e' hr hn hws hj 200 _ L (-1) hL ho) js.length 0 (by omega)
  rw [show bD false (idI js.length 0) = Blk.sl false 1 false (List.replicate js.length [ti 0]) from congrArg (Blk.sl false 1 false) idI_zero] at this
  simp only [gd1, hd1, tl1, dr0, dr1, dr2, dr3, dr4, dr5, dr6, bo1, in1, st1, ls1, le1, pt1, fi1, fb1, fs1, ct1, cf1, nt1, nf1, ak0, akT, akF, cdec, cndec, cbeq, cnbeq, ↓reduceIte, beq_self_eq_true, Int.reduceBEq, Int.reduceEq, Bool.and_true, Bool.true_and, Bool.false_and, Bool.and_false, eJs_len, hmk, Int.toNat_natCast]
  exact this
end

/-! ### Orders and schedules -/
theorem riv_symm {a b : J} (h : Riv a b) : Riv b a := ⟨⟨h.1.1.symm, h.2⟩, h.1.2⟩
theorem not_over {js : List J} {ws : List W} {d : List Int} (h : RightP js ws d) {a b : Nat} (ha : a < js.length) (hb : b < js.length) (hab : a ≠ b) (hr : Riv (jat js a) (jat js b)) (hle : at' d a ≤ at' d b) : at' d a + (jat js a).l ≤ at' d b := by
  have h2 := hr.2
  have h1 := hr.1.2
  rcases Nat.lt_or_gt_of_ne hab with hlt | hlt
  · have := (h.1 b hb).2 a hlt
    apply Classical.byContradiction
    intro hn
    exact this ⟨⟨riv_symm hr, by omega⟩, by omega⟩
  · have := (h.1 a ha).2 b hlt
    apply Classical.byContradiction
    intro hn
    exact this ⟨⟨hr, by omega⟩, by omega⟩
theorem waits_oc {js : List J} {ws : List W} {d o : List Int} (h : RightP js ws d) (hk : OkO js.length o) (hs : o.Pairwise (fun x y => at' d x ≤ at' d y)) : Waits (oc js o) d := by
  intro w hw
  obtain ⟨j, i, h1, h2, h3, rfl⟩ := oc_mem.1 hw
  have hl := hk.len
  have ra := hk.rng j (by omega)
  have rb := hk.rng i (by omega)
  have hne := hk.inj j i h1 (by omega)
  have hle := List.pairwise_iff_getElem.1 hs j i (by omega) h2 h1
  rw [← at_get (by omega : j < o.length), ← at_get h2] at hle
  dsimp only
  generalize at' o (j : Int) = a at *
  generalize at' o (i : Int) = b at *
  have ea : a = ((a.toNat : Nat) : Int) := by omega
  have eb : b = ((b.toNat : Nat) : Int) := by omega
  rw [ea, eb] at hle h3 ⊢
  exact not_over h (by omega) (by omega) (by omega) h3 hle
theorem val_le {js : List J} {ws : List W} {d : List Int} {L : List (List Int)} (hr : InR js.length ws) (hj : ∀ i : Int, 0 ≤ (jat js i).l ∧ (jat js i).l ≤ 200) (hL : ∀ o ∈ L, OkO js.length o) (hP : ∀ o ∈ perms (idL js.length), o ∈ L) (hl : d.length = js.length) (h : RightP js ws d) :
    ∃ o ∈ L, 0 ≤ valO js ws o ∧ valO js ws o ≤ span js d := by
  have hin : isort (at' d) (idL js.length) ∈ L := hP _ (isort_in _)
  refine ⟨_, hin, ?_⟩
  have hk := hL _ hin
  have hw := waits_oc h hk (isort_pw _)
  generalize isort (at' d) (idL js.length) = o at *
  have hr' : InR js.length (ws ++ oc js o) := fun w hw => by
    rcases List.mem_append.1 hw with h | h
    · exact hr w h
    · exact oc_inR hk.ord hj w h
  have hfe : Feas (ws ++ oc js o) (froms js) d := ⟨fun w hw' => by
    rcases List.mem_append.1 hw' with h' | h'
    · exact h.2 w h'
    · exact hw w h', (right_feas hl h).2⟩
  unfold valO
  split
  · rename_i d' hd
    obtain ⟨_, _, _, q⟩ := rounds_some hr' hd (by simp [froms])
    exact ⟨spanL_ge, spanL_mono (Int.le_refl _) (q d hfe.1 hfe.2)⟩
  · rename_i hd
    exact (rounds_none hr' (by simp [froms]) hd d hl hfe).elim
theorem val_right {js : List J} {ws : List W} {o : List Int} (hr : InR js.length ws) (hj : ∀ i : Int, 0 ≤ (jat js i).l ∧ (jat js i).l ≤ 200) (hk : OkO js.length o) (h0 : 0 ≤ valO js ws o) : ∃ d : List Int, d.length = js.length ∧ RightP js ws d ∧ span js d = valO js ws o := by
  have hr' : InR js.length (ws ++ oc js o) := fun w hw => by
    rcases List.mem_append.1 hw with h | h
    · exact hr w h
    · exact oc_inR hk.ord hj w h
  unfold valO at h0 ⊢
  split at h0
  · rename_i d hd
    obtain ⟨q1, q2, q3, _⟩ := rounds_some hr' hd (by simp [froms])
    refine ⟨d, q1, ⟨fun i hi => ⟨?_, fun k hki ho => ?_⟩, fun w hw => q2 w (List.mem_append_left _ hw)⟩, rfl⟩
    · rw [← froms_at]; exact q3 i (by omega)
    · obtain ⟨p, hp, ep⟩ := hk.sur i hi
      obtain ⟨q, hq, eq⟩ := hk.sur k (by omega)
      have hl := hk.len
      obtain ⟨⟨hv, o1⟩, o2⟩ := ho
      rcases Nat.lt_trichotomy p q with hlt | rfl | hlt
      · have := q2 ⟨at' o (p : Int), at' o (q : Int), (jat js (at' o (p : Int))).l⟩ (List.mem_append_right _ (oc_mem.2 ⟨p, q, hlt, by omega, by rw [ep, eq]; exact hv, rfl⟩))
        dsimp only at this
        rw [ep, eq] at this
        omega
      · rw [ep] at eq; omega
      · have := q2 ⟨at' o (q : Int), at' o (p : Int), (jat js (at' o (q : Int))).l⟩ (List.mem_append_right _ (oc_mem.2 ⟨q, p, hlt, by omega, by rw [ep, eq]; exact riv_symm hv, rfl⟩))
        dsimp only at this
        rw [ep, eq] at this
        omega
  · omega

theorem law4 (js : List J) (ws : List W) (e e' : Bool) (he : e' = true → ws = []) : Or (.call 4) [LJ e js, LW e' ws] [] = some [tb true] := by
  refine orc_of ?_
  rw [e4]
  have h10 := s10 js ws e e'
  by_cases h5 : (js.length : Int) > 5
  · simp only [gd1, hd1, tl1, dr0, dr1, dr2, dr3, dr4, dr5, dr6, bo1, in1, st1, ls1, le1, pt1, fi1, fb1, fs1, ct1, cf1, nt1, nf1, ak0, akT, akF, cdec, cndec, cbeq, cnbeq, ↓reduceIte, beq_self_eq_true, Int.reduceBEq, Int.reduceEq, Bool.and_true, Bool.true_and, Bool.false_and, Bool.and_false, gdF, s8, eJs_len, h5, Bool.not_true, decide_true]
  · by_cases h1 : (chk js ws).1 = 0
    · obtain ⟨G, hw⟩ := chk_good h1
      obtain ⟨st, la, x, d, ec, h9, hx, B⟩ := s9ok js ws e e' 2000 he h1 (by omega)
      have hr : InR js.length ws := fun w hw => by have := G.wait w hw; exact ⟨⟨this.1, this.2.1⟩, ⟨this.2.2.1, this.2.2.2.1⟩, this.2.2.2.2⟩
      have hj' : ∀ i : Int, 0 ≤ (jat js i).l ∧ (jat js i).l ≤ 200 := fun i => ⟨(G.job i).1, (G.job i).2.1⟩
      obtain ⟨L, hL, hok, hall⟩ := orders_ok (n := js.length) (by omega)
      have h14 := s14 js e ws e' hr G.n hw G.job L hL (fun o ho => (hok o ho).ord)
      obtain ⟨f1, f2⟩ := fold_ok (valO js ws) L (-1)
      have hlf : leastF js ws L (-1) = L.foldl (fun v o => updV v (valO js ws o)) (-1) := rfl
      rw [← hlf] at f1 f2
      generalize leastF js ws L (-1) = r at *
      by_cases hr0 : r < 0
      · have hst : st = 2 := by
          rcases B.yes with h | h
          · obtain ⟨d1, d2, d3, d4⟩ := B.right h
            obtain ⟨o, ho, v1, v2⟩ := val_le hr hj' hok hall d1 d2
            have := (f1 hr0).2 o ho
            omega
          · exact h
        subst hst
        simp only [gd1, hd1, tl1, dr0, dr1, dr2, dr3, dr4, dr5, dr6, bo1, in1, st1, ls1, le1, pt1, fi1, fb1, fs1, ct1, cf1, nt1, nf1, ak0, akT, akF, cdec, cndec, cbeq, cnbeq, ↓reduceIte, beq_self_eq_true, Int.reduceBEq, Int.reduceEq, Bool.and_true, Bool.true_and, Bool.false_and, Bool.and_false, s8, eJs_len, h5, h10, h1, Bool.not_true, Bool.not_false, decide_false, h9, hx, h14, hr0, not_true_eq_false]
      · obtain ⟨g1, _, g3⟩ := f2 (by omega)
        have hfin : st = 1 ∧ la = r := by
          rcases g1 with g1 | ⟨o, ho, g1⟩
          · omega
          · obtain ⟨d', q1, q2, q3⟩ := val_right hr hj' (hok o ho) (by omega)
            obtain ⟨b1, b2⟩ := B.best d' q1 q2
            obtain ⟨d1, d2, d3, d4⟩ := B.right b1
            obtain ⟨o', ho', v1, v2⟩ := val_le hr hj' hok hall d1 d2
            have := g3 o' ho' v1
            exact ⟨b1, by omega⟩
        obtain ⟨rfl, rfl⟩ := hfin
        simp only [gd1, hd1, tl1, dr0, dr1, dr2, dr3, dr4, dr5, dr6, bo1, in1, st1, ls1, le1, pt1, fi1, fb1, fs1, ct1, cf1, nt1, nf1, ak0, akT, akF, cdec, cndec, cbeq, cnbeq, ↓reduceIte, beq_self_eq_true, Int.reduceBEq, Int.reduceEq, Bool.and_true, Bool.true_and, Bool.false_and, Bool.and_false, s8, eJs_len, h5, h10, h1, Bool.not_true, Bool.not_false, decide_false, h9, hx, h14, hr0, not_true_eq_false]
    · simp only [gd1, hd1, tl1, dr0, dr1, dr2, dr3, dr4, dr5, dr6, bo1, in1, st1, ls1, le1, pt1, fi1, fb1, fs1, ct1, cf1, nt1, nf1, ak0, akT, akF, cdec, cndec, cbeq, cnbeq, ↓reduceIte, beq_self_eq_true, Int.reduceBEq, Int.reduceEq, Bool.and_true, Bool.true_and, Bool.false_and, Bool.and_false, s8, eJs_len, h5, h10, h1, Bool.not_true, Bool.not_false, decide_false, not_false_eq_true]
set_option maxRecDepth 1000000 in
theorem claim4 (vs : List AV) (h : ArgWt PROG (19 + 1) Try.f4.params.toList vs) : Or (.call 4) vs [] = some [.bool true] := by
  rw [Try.params4] at h
  obtain ⟨a, _, rfl, h1, b, _, rfl, h2, rfl⟩ := h
  obtain ⟨e, q, rfl⟩ := jobs_arg h1
  obtain ⟨e', r, rfl, he⟩ := waits_arg h2
  exact law4 q r e e' he
end Go.Aev.Gen
