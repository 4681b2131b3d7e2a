/-
  Are starts right?
-/
import Derived.Test.YtnfclphlpdbbpaaTSpec
set_option linter.unusedSimpArgs false
set_option linter.unusedVariables false
namespace Go.Aev.Gen
open Go Go.Aev
open Classical

theorem beq_dec (a b : Int) : (a == b) = decide (a = b) := by by_cases h : a = b <;> simp [h]
theorem nbeq_dec (a b : Int) : (!a == b) = decide (¬ a = b) := by by_cases h : a = b <;> simp [h]
theorem dec_iff {p q : Prop} [Decidable p] [Decidable q] (h : p ↔ q) : decide p = decide q := decide_eq_decide.2 h

def Riv (a b : J) : Prop := (a.m = b.m ∧ a.l > 0) ∧ b.l > 0
def Over (js : List J) (ss : List Int) (i k : Nat) : Prop := (Riv (jat js i) (jat js k) ∧ at' ss i + (jat js i).l > at' ss k) ∧ at' ss k + (jat js k).l > at' ss i
def Fine (js : List J) (ss : List Int) (i : Nat) : Prop := (jat js i).f ≤ at' ss i ∧ ∀ k, k < i → ¬ Over js ss i k
def Waits (ws : List W) (ss : List Int) : Prop := ∀ w ∈ ws, at' ss w.a + w.y ≤ at' ss w.b
def RightP (js : List J) (ws : List W) (ss : List Int) : Prop := (∀ i, i < js.length → Fine js ss i) ∧ Waits ws ss
/-- Jobs and waits that are fine. -/
structure Good (js : List J) (ws : List W) : Prop where
  n : js.length ≤ 8
  job : ∀ i : Int, 0 ≤ (jat js i).l ∧ (jat js i).l ≤ 200 ∧ 0 ≤ (jat js i).f ∧ (jat js i).f ≤ 200
  wait : ∀ w ∈ ws, 0 ≤ w.a ∧ w.a < (js.length : Int) ∧ 0 ≤ w.b ∧ w.b < (js.length : Int) ∧ -200 ≤ w.y ∧ w.y ≤ 200
def Mild (ss : List Int) : Prop := ∀ i : Int, -1000000 ≤ at' ss i ∧ at' ss i ≤ 1000000

theorem scanW_zero {n : Int} : ∀ {ws : List W} {i : Nat}, (scanW n ws i).1 = 0 → ∀ w ∈ ws, ¬ badA n w ∧ ¬ badY w
  | [], _, _, w, hw => by cases hw
  | w :: ws, i, h, u, hu => by
    simp only [scanW] at h
    split at h
    · simp at h
    · split at h
      · simp at h
      · rename_i h1 h2
        rcases List.mem_cons.1 hu with rfl | hu
        · exact ⟨h1, h2⟩
        · exact scanW_zero h u hu
theorem scanJ_zero {n : Int} {ws : List W} : ∀ {js : List J} {i : Nat}, (scanJ n ws js i).1 = 0 → (∀ j ∈ js, ¬ badJ j) ∧ (scanW n ws 0).1 = 0
  | [], _, h => ⟨by simp, h⟩
  | j :: js, i, h => by
    simp only [scanJ] at h
    split at h
    · simp at h
    · rename_i h1
      obtain ⟨g1, g2⟩ := scanJ_zero h
      refine ⟨fun u hu => ?_, g2⟩
      rcases List.mem_cons.1 hu with rfl | hu
      · exact h1
      · exact g1 u hu
theorem jat_mem {js : List J} {i : Int} (h : i.toNat < js.length) : jat js i ∈ js := by
  simp only [jat, List.getD_eq_getElem?_getD, List.getElem?_eq_getElem h, Option.getD_some]
  exact List.getElem_mem h
theorem chk_good {js : List J} {ws : List W} (h : (chk js ws).1 = 0) : Good js ws ∧ ws.length ≤ 60 := by
  unfold chk at h
  split at h
  · simp at h
  · split at h
    · simp at h
    · rename_i h1 h2
      obtain ⟨g1, g2⟩ := scanJ_zero h
      have g3 := scanW_zero g2
      refine ⟨⟨by omega, fun i => ?_, fun w hw => ?_⟩, by omega⟩
      · by_cases hi : i.toNat < js.length
        · have := g1 _ (jat_mem hi)
          unfold badJ at this; omega
        · have : jat js i = default := by simp [jat, List.getD_eq_getElem?_getD, List.getElem?_eq_none (Nat.le_of_not_lt hi)]
          rw [this]
          decide
      · obtain ⟨a1, a2⟩ := g3 w hw
        unfold badA at a1; unfold badY at a2; omega

theorem s21 (a b : J) : Or (.call 21) [AV.agg [I a.l, I a.m, I a.f], AV.agg [I b.l, I b.m, I b.f]] [] = some [tb (decide (Riv a b))] := by
  refine orc_of ?_
  rw [e21]
  simp only [cand, beq_dec, ← Bool.decide_and]
  exact congrArg (fun x => some [tb x]) (dec_iff (by unfold Riv; exact Iff.rfl))

/-! ### The program's answer -/
abbrev bJ (j : J) : Blk := Blk.box [I j.l, I j.m, I j.f]
abbrev bS (e : Bool) (ss : List Int) : Blk := Blk.box [AV.t (T.lst 1 e (enc ss))]
theorem s23 (w : W) (e : Bool) (ss : List Int) (ha : 0 ≤ w.a ∧ w.a < (ss.length : Int)) (hb : 0 ≤ w.b ∧ w.b < (ss.length : Int)) (hy : -200 ≤ w.y ∧ w.y ≤ 200) (hs : Mild ss) :
    Or (.call 23) [AV.agg [I w.a, I w.b, I w.y], AV.t (T.ptr [T.lst 1 e (enc ss)])] [] = some [tb (decide (¬ at' ss w.a + w.y ≤ at' ss w.b))] := by
  refine orc_of ?_
  rw [e23]
  have h1 := hs w.a
  simp only [gd1, hd1, tl1, dr0, dr1, dr2, dr3, dr4, dr5, dr6, bo1, in1, st1, ls1, le1, pt1, fi1, fb1, fs1, ct1, cf1, nt1, nf1, ak0, akT, akF, cdec, cndec, cbeq, cnbeq, ↓reduceIte, beq_self_eq_true, Int.reduceBEq, Int.reduceEq, Bool.and_true, Bool.true_and, Bool.false_and, Bool.and_false, enc_len, ha.1, ha.2, hb.1, hb.2, and_self, enc_at ha, enc_at hb]
  rw [wr (by omega)]
  exact congrArg (fun x => some [tb x]) (dec_iff (by omega))
theorem n27 (ws : List W) (e e' : Bool) (ss : List Int) (hl : ws.length ≤ 1000) (hw : ∀ w ∈ ws, (0 ≤ w.a ∧ w.a < (ss.length : Int)) ∧ (0 ≤ w.b ∧ w.b < (ss.length : Int)) ∧ -200 ≤ w.y ∧ w.y ≤ 200) (hs : Mild ss) : ∀ (rest : List W) (i : Nat), ws.drop i = rest →
    ∃ r : Int, Or K27n2 [LW e ws, AV.fn 23 [] [AV.t (T.ptr [T.lst 1 e' (enc ss)])], I (ws.length : Int), I (i : Int)] [] = some [ti r] ∧ (r ≥ 0 ↔ ¬ Waits rest ss) := by
  intro rest
  induction rest with
  | nil =>
    intro i h
    refine ⟨-1, orc_of ?_, by simp [Waits]⟩
    rw [e27n2]
    have h1 : ¬ (i : Int) < (ws.length : Int) := by have := at_end h; omega
    simp only [gd1, hd1, tl1, dr0, dr1, dr2, dr3, dr4, dr5, dr6, bo1, in1, st1, ls1, le1, pt1, fi1, fb1, fs1, ct1, cf1, nt1, nf1, ak0, akT, akF, cdec, cndec, cbeq, cnbeq, ↓reduceIte, beq_self_eq_true, Int.reduceBEq, Int.reduceEq, Bool.and_true, Bool.true_and, Bool.false_and, Bool.and_false, h1]
  | cons w rest ih =>
    intro i h
    obtain ⟨g1, g2, g3⟩ := at_drop h
    have h1 : (i : Int) < (ws.length : Int) := by omega
    have h0 : 0 ≤ (i : Int) := by omega
    obtain ⟨k1, k2, k3⟩ := hw w (List.mem_of_getElem? g1)
    have h23 := s23 w e' ss k1 k2 k3 hs
    by_cases hok : at' ss w.a + w.y ≤ at' ss w.b
    · obtain ⟨r, e1, e2⟩ := ih (i + 1) g3
      refine ⟨r, orc_of ?_, ?_⟩
      · rw [e27n2]
        simp only [gd1, hd1, tl1, dr0, dr1, dr2, dr3, dr4, dr5, dr6, bo1, in1, st1, ls1, le1, pt1, fi1, fb1, fs1, ct1, cf1, nt1, nf1, ak0, akT, akF, cdec, cndec, cbeq, cnbeq, ↓reduceIte, beq_self_eq_true, Int.reduceBEq, Int.reduceEq, Bool.and_true, Bool.true_and, Bool.false_and, Bool.and_false, h1, h0, and_self, eWs_len, eWs_get g1, h23, hok, not_true_eq_false, decide_false, next i (by omega), e1]
      · rw [e2]
        simp [Waits, hok]
    · refine ⟨i, orc_of ?_, ?_⟩
      · rw [e27n2]
        simp only [gd1, hd1, tl1, dr0, dr1, dr2, dr3, dr4, dr5, dr6, bo1, in1, st1, ls1, le1, pt1, fi1, fb1, fs1, ct1, cf1, nt1, nf1, ak0, akT, akF, cdec, cndec, cbeq, cnbeq, ↓reduceIte, beq_self_eq_true, Int.reduceBEq, Int.reduceEq, Bool.and_true, Bool.true_and, Bool.false_and, Bool.and_false, h1, h0, and_self, eWs_len, eWs_get g1, h23, hok, not_false_eq_true, decide_true]
      · simp [Waits, hok]
theorem s22 (ws : List W) (e e' : Bool) (ss : List Int) (hl : ws.length ≤ 1000) (hw : ∀ w ∈ ws, (0 ≤ w.a ∧ w.a < (ss.length : Int)) ∧ (0 ≤ w.b ∧ w.b < (ss.length : Int)) ∧ -200 ≤ w.y ∧ w.y ≤ 200) (hs : Mild ss) :
    Or (.call 22) [LW e ws, AV.fn 23 [] [AV.t (T.ptr [T.lst 1 e' (enc ss)])]] [] = some [tb (decide (¬ Waits ws ss))] := by
  obtain ⟨r, e1, e2⟩ := n27 ws e e' ss hl hw hs ws 0 rfl
  have h27 : Or (.call 27) [LW e ws, AV.fn 23 [] [AV.t (T.ptr [T.lst 1 e' (enc ss)])]] [] = some [ti r] := orc_of (by rw [e27, eWs_len]; exact e1)
  refine orc_of ?_
  rw [e22]
  simp only [gd1, hd1, tl1, dr0, dr1, dr2, dr3, dr4, dr5, dr6, bo1, in1, st1, ls1, le1, pt1, fi1, fb1, fs1, ct1, cf1, nt1, nf1, ak0, akT, akF, cdec, cndec, cbeq, cnbeq, ↓reduceIte, beq_self_eq_true, Int.reduceBEq, Int.reduceEq, Bool.and_true, Bool.true_and, Bool.false_and, Bool.and_false, h27]
  exact congrArg (fun x => some [tb x]) (dec_iff e2)

def From (js : List J) (ws : List W) (ss : List Int) (i : Nat) : Prop := (∀ i', i ≤ i' → i' < js.length → Fine js ss i') ∧ Waits ws ss
theorem n15v (js : List J) (ws : List W) (e e' e2 : Bool) (ss : List Int) (G : Good js ws) (hl : ss.length = js.length) (hs : Mild ss) (i : Nat) (hi : i < js.length)
    (hnext : Or K15n13 [LJ e js, LW e' ws, r0, r1, LJ e js, I (js.length : Int), I ((i + 1 : Nat) : Int)] [bS e2 ss, bx2 0 0] = some [tb (decide (From js ws ss (i + 1))), ti 0, ti 0]) (hf : (jat js i).f ≤ at' ss i) : ∀ (r k : Nat), k + r = i → (∀ k', k' < k → ¬ Over js ss i k') →
    Or K15n18 [LJ e js, LW e' ws, r0, r1, I (i : Int), AV.ref (Id.c 2) 0, LJ e js, I (js.length : Int), I (i : Int), LJ e (js.take i), I (i : Int), I (k : Int)] [bS e2 ss, bx2 0 0, bJ (jat js i)] =
      some [tb (decide (From js ws ss i)), ti 0, ti 0]
  | 0, k, hk, hb => by
    refine orc_of ?_
    rw [e15n18]
    have h1 : ¬ (k : Int) < (i : Int) := by omega
    have := G.n
    simp only [gd1, hd1, tl1, dr0, dr1, dr2, dr3, dr4, dr5, dr6, bo1, in1, st1, ls1, le1, pt1, fi1, fb1, fs1, ct1, cf1, nt1, nf1, ak0, akT, akF, cdec, cndec, cbeq, cnbeq, ↓reduceIte, beq_self_eq_true, Int.reduceBEq, Int.reduceEq, Bool.and_true, Bool.true_and, Bool.false_and, Bool.and_false, h1, next i (by omega), hnext]
    refine congrArg (fun x => some [tb x, ti 0, ti 0]) (dec_iff ⟨fun h => ⟨fun i' h1 h2 => ?_, h.2⟩, fun h => ⟨fun i' h1 h2 => h.1 i' (by omega) h2, h.2⟩⟩)
    by_cases e : i' = i
    · subst e; exact ⟨hf, fun k' hk' => hb k' (by omega)⟩
    · exact h.1 i' (by omega) h2
  | r + 1, k, hk, hb => by
    refine orc_of ?_
    rw [e15n18]
    have hn := G.n
    have h1 : (k : Int) < (i : Int) := by omega
    have h0 : 0 ≤ (k : Int) := by omega
    have hgk : (eJs (js.take i))[((k : Nat) : Int).toNat]? = some [ti (jat js k).l, ti (jat js k).m, ti (jat js k).f] := by
      have hlt : k < js.length := by omega
      have hki : k < i := by omega
      have : (js.take i)[k]? = some (jat js k) := by
        simp [List.getElem?_take, hki, jat, List.getD_eq_getElem?_getD, hlt]
      exact eJs_get this
    have hlen : ((eJs (js.take i)).length : Int) = (i : Int) := by rw [eJs_len, List.length_take]; omega
    have hai := enc_at (l := ss) (i := (i : Int)) ⟨by omega, by omega⟩
    have hak := enc_at (l := ss) (i := (k : Int)) ⟨by omega, by omega⟩
    have hi1 : (0 : Int) ≤ (i : Int) := by omega
    have hi2 : (i : Int) < (ss.length : Int) := by omega
    have hk2 : (k : Int) < (ss.length : Int) := by omega
    have b1 := G.job i; have b2 := G.job k; have b3 := hs i; have b4 := hs k
    have w1 : IntKind.i64.wrap (at' ss i + (jat js i).l) = at' ss i + (jat js i).l := wr (by omega)
    have w2 : IntKind.i64.wrap (at' ss k + (jat js k).l) = at' ss k + (jat js k).l := wr (by omega)
    have h21 := s21 (jat js i) (jat js k)
    simp only [cand]
    simp only [gd1, hd1, tl1, dr0, dr1, dr2, dr3, dr4, dr5, dr6, bo1, in1, st1, ls1, le1, pt1, fi1, fb1, fs1, ct1, cf1, nt1, nf1, ak0, akT, akF, cdec, cndec, cbeq, cnbeq, ↓reduceIte, beq_self_eq_true, Int.reduceBEq, Int.reduceEq, Bool.and_true, Bool.true_and, Bool.false_and, Bool.and_false, h1, h0, and_self, hlen, hgk, h21, enc_len, hai, hak, hi1, hi2, hk2]
    simp only [← Bool.decide_and, w1, w2]
    by_cases ho : Over js ss i k
    · have ho' : (Riv (jat js i) (jat js k) ∧ at' ss i + (jat js i).l > at' ss k) ∧ at' ss k + (jat js k).l > at' ss i := ho
      have hno : ¬ From js ws ss i := fun h => (h.1 i (Nat.le_refl _) hi).2 k (by omega) ho
      simp only [gd1, hd1, tl1, dr0, dr1, dr2, dr3, dr4, dr5, dr6, bo1, in1, st1, ls1, le1, pt1, fi1, fb1, fs1, ct1, cf1, nt1, nf1, ak0, akT, akF, cdec, cndec, cbeq, cnbeq, ↓reduceIte, beq_self_eq_true, Int.reduceBEq, Int.reduceEq, Bool.and_true, Bool.true_and, Bool.false_and, Bool.and_false, ho', hno, decide_false, and_self]
    · have ho' : ¬ ((Riv (jat js i) (jat js k) ∧ at' ss i + (jat js i).l > at' ss k) ∧ at' ss k + (jat js k).l > at' ss i) := ho
      have ih := n15v js ws e e' e2 ss G hl hs i hi hnext hf r (k + 1) (by omega) (fun k' hk' => by
        by_cases e : k' = k
        · subst e; exact ho
        · exact hb k' (by omega))
      simp only [ho', decide_false]
      simp only [gd1, hd1, tl1, dr0, dr1, dr2, dr3, dr4, dr5, dr6, bo1, in1, st1, ls1, le1, pt1, fi1, fb1, fs1, ct1, cf1, nt1, nf1, ak0, akT, akF, cdec, cndec, cbeq, cnbeq, ↓reduceIte, beq_self_eq_true, Int.reduceBEq, Int.reduceEq, Bool.and_true, Bool.true_and, Bool.false_and, Bool.and_false, next k (by omega), ih]
theorem n15j (js : List J) (ws : List W) (e e' e2 : Bool) (ss : List Int) (G : Good js ws) (hw : ws.length ≤ 60) (hl : ss.length = js.length) (hs : Mild ss) : ∀ (r i : Nat), i + r = js.length →
    Or K15n13 [LJ e js, LW e' ws, r0, r1, LJ e js, I (js.length : Int), I (i : Int)] [bS e2 ss, bx2 0 0] = some [tb (decide (From js ws ss i)), ti 0, ti 0]
  | 0, i, hi => by
    refine orc_of ?_
    rw [e15n13]
    have h1 : ¬ (i : Int) < (js.length : Int) := by omega
    have h22 := s22 ws e' e2 ss (by omega) (fun w hw => by have := G.wait w hw; rw [hl]; omega) hs
    simp only [gd1, hd1, tl1, dr0, dr1, dr2, dr3, dr4, dr5, dr6, bo1, in1, st1, ls1, le1, pt1, fi1, fb1, fs1, ct1, cf1, nt1, nf1, ak0, akT, akF, cdec, cndec, cbeq, cnbeq, ↓reduceIte, beq_self_eq_true, Int.reduceBEq, Int.reduceEq, Bool.and_true, Bool.true_and, Bool.false_and, Bool.and_false, h1, h22]
    refine congrArg (fun x => some [tb x, ti 0, ti 0]) ?_
    rw [← decide_not]
    refine dec_iff ⟨fun h => ⟨fun i' h1 h2 => by omega, Classical.not_not.1 h⟩, fun h => Classical.not_not.2 h.2⟩
  | r + 1, i, hi => by
    refine orc_of ?_
    rw [e15n13]
    have hn := G.n
    have h1 : (i : Int) < (js.length : Int) := by omega
    have h0 : 0 ≤ (i : Int) := by omega
    have hi2 : (i : Int) < (ss.length : Int) := by omega
    have hai := enc_at (l := ss) (i := (i : Int)) ⟨by omega, by omega⟩
    have haj := eJs_at (l := js) (i := (i : Int)) ⟨by omega, by omega⟩
    have hin : inB 0 (i : Int) (js.length : Int) = some () := inB_ok (by omega)
    have hsub : sub 0 (i : Int) (eJs js) = eJs (js.take i) := by simp [sub, eJs, List.map_take]
    have hln : (((eJs (js.take i)).length : Nat) : Int) = (i : Int) := by rw [eJs_len, List.length_take]; omega
    by_cases hf : at' ss i < (jat js i).f
    · have hno : ¬ From js ws ss i := fun h => by have := (h.1 i (Nat.le_refl _) (by omega)).1; omega
      simp only [gd1, hd1, tl1, dr0, dr1, dr2, dr3, dr4, dr5, dr6, bo1, in1, st1, ls1, le1, pt1, fi1, fb1, fs1, ct1, cf1, nt1, nf1, ak0, akT, akF, cdec, cndec, cbeq, cnbeq, ↓reduceIte, beq_self_eq_true, Int.reduceBEq, Int.reduceEq, Bool.and_true, Bool.true_and, Bool.false_and, Bool.and_false, h1, h0, and_self, eJs_len, haj, enc_len, hai, hi2, hf, hno, decide_false]
    · have ih := n15j js ws e e' e2 ss G hw hl hs r (i + 1) (by omega)
      have := n15v js ws e e' e2 ss G hl hs i (by omega) ih (by omega) i 0 (by omega) (by omega)
      simp only [gd1, hd1, tl1, dr0, dr1, dr2, dr3, dr4, dr5, dr6, bo1, in1, st1, ls1, le1, pt1, fi1, fb1, fs1, ct1, cf1, nt1, nf1, ak0, akT, akF, cdec, cndec, cbeq, cnbeq, ↓reduceIte, beq_self_eq_true, Int.reduceBEq, Int.reduceEq, Bool.and_true, Bool.true_and, Bool.false_and, Bool.and_false, h1, h0, and_self, eJs_len, haj, enc_len, hai, hi2, hf, hin, hsub]
      rw [show (((js.take i).length : Nat) : Int) = (i : Int) from by rw [List.length_take]; omega]
      exact this
/-! ### Faults of starts -/
def badS (x : Int) : Prop := x < -1000000 ∨ x > 1000000
instance (x : Int) : Decidable (badS x) := by unfold badS; infer_instance
def scanS : List Int → Nat → Option Nat
  | [], _ => none
  | x :: r, i => if badS x then some i else scanS r (i + 1)
theorem scanS_mild : ∀ {l : List Int} {i : Nat}, scanS l i = none → ∀ x ∈ l, -1000000 ≤ x ∧ x ≤ 1000000
  | [], _, _, x, hx => by cases hx
  | y :: l, i, h, x, hx => by
    simp only [scanS] at h
    split at h
    · cases h
    · rename_i h1
      rcases List.mem_cons.1 hx with rfl | hx
      · unfold badS at h1; omega
      · exact scanS_mild h x hx
theorem mild_of {l : List Int} (h : ∀ x ∈ l, -1000000 ≤ x ∧ x ≤ 1000000) : Mild l := by
  intro i
  by_cases hi : i.toNat < l.length
  · simp only [at', List.getD_eq_getElem?_getD, List.getElem?_eq_getElem hi, Option.getD_some]
    exact h _ (List.getElem_mem hi)
  · have : at' l i = 0 := by simp [at', List.getD_eq_getElem?_getD, List.getElem?_eq_none (Nat.le_of_not_lt hi)]
    omega
noncomputable def told (js : List J) (ws : List W) (ss : List Int) : Option Nat → List T
  | some i => [tb false, ti 3, ti i]
  | none => [tb (decide (RightP js ws ss)), ti 0, ti 0]
theorem n15s (js : List J) (ws : List W) (e e' e2 : Bool) (ss : List Int) (G : Good js ws) (hw : ws.length ≤ 60) (hl : ss.length = js.length) : ∀ (rest : List Int) (i : Nat), ss.drop i = rest → (∀ k x, k < i → ss[k]? = some x → ¬ badS x) →
    Or K15n7 [LJ e js, LW e' ws, r0, r1, lst e2 ss, I (ss.length : Int), I (i : Int)] [bS e2 ss, bx2 0 0] = some (told js ws ss (scanS rest i)) := by
  intro rest
  have hn := G.n
  induction rest with
  | nil =>
    intro i h hb
    refine orc_of ?_
    rw [e15n7]
    have h1 : ¬ (i : Int) < (ss.length : Int) := by have := at_end h; omega
    have hm : Mild ss := mild_of fun x hx => by
      obtain ⟨k, hk⟩ := List.mem_iff_getElem?.1 hx
      have hlt := (List.getElem?_eq_some_iff.1 hk).1
      have := hb k x (by omega) hk
      unfold badS at this; omega
    have := n15j js ws e e' e2 ss G hw hl hm js.length 0 (by omega)
    simp only [gd1, hd1, tl1, dr0, dr1, dr2, dr3, dr4, dr5, dr6, bo1, in1, st1, ls1, le1, pt1, fi1, fb1, fs1, ct1, cf1, nt1, nf1, ak0, akT, akF, cdec, cndec, cbeq, cnbeq, ↓reduceIte, beq_self_eq_true, Int.reduceBEq, Int.reduceEq, Bool.and_true, Bool.true_and, Bool.false_and, Bool.and_false, h1, scanS, told, eJs_len]
    refine this.trans ?_
    refine congrArg (fun x => some [tb x, ti 0, ti 0]) (dec_iff ⟨fun h => ⟨fun i' hi => h.1 i' (by omega) hi, h.2⟩, fun h => ⟨fun i' _ hi => h.1 i' hi, h.2⟩⟩)
  | cons x rest ih =>
    intro i h hb
    obtain ⟨g1, g2, g3⟩ := at_drop h
    refine orc_of ?_
    rw [e15n7]
    have h1 : (i : Int) < (ss.length : Int) := by omega
    have h0 : 0 ≤ (i : Int) := by omega
    simp only [cor, ← Bool.decide_or]
    simp only [gd1, hd1, tl1, dr0, dr1, dr2, dr3, dr4, dr5, dr6, bo1, in1, st1, ls1, le1, pt1, fi1, fb1, fs1, ct1, cf1, nt1, nf1, ak0, akT, akF, cdec, cndec, cbeq, cnbeq, ↓reduceIte, beq_self_eq_true, Int.reduceBEq, Int.reduceEq, Bool.and_true, Bool.true_and, Bool.false_and, Bool.and_false, h1, h0, and_self, enc_len, enc_get g1, scanS]
    by_cases hx : badS x
    · have hx' := hx
      unfold badS at hx'
      simp only [gd1, hd1, tl1, dr0, dr1, dr2, dr3, dr4, dr5, dr6, bo1, in1, st1, ls1, le1, pt1, fi1, fb1, fs1, ct1, cf1, nt1, nf1, ak0, akT, akF, cdec, cndec, cbeq, cnbeq, ↓reduceIte, beq_self_eq_true, Int.reduceBEq, Int.reduceEq, Bool.and_true, Bool.true_and, Bool.false_and, Bool.and_false, hx, hx', told]
    · have hx' := hx
      unfold badS at hx'
      have := ih (i + 1) g3 (fun k y hk hy => by
        by_cases e : k = i
        · subst e; rw [g1] at hy; cases hy; exact hx
        · exact hb k y (by omega) hy)
      simp only [gd1, hd1, tl1, dr0, dr1, dr2, dr3, dr4, dr5, dr6, bo1, in1, st1, ls1, le1, pt1, fi1, fb1, fs1, ct1, cf1, nt1, nf1, ak0, akT, akF, cdec, cndec, cbeq, cnbeq, ↓reduceIte, beq_self_eq_true, Int.reduceBEq, Int.reduceEq, Bool.and_true, Bool.true_and, Bool.false_and, Bool.and_false, hx, hx', next i (by omega), this]
noncomputable def rightF (js : List J) (ws : List W) (ss : List Int) : List T :=
  if (chk js ws).1 ≠ 0 then [tb false, ti (chk js ws).1, ti (chk js ws).2]
  else if ss.length ≠ js.length then [tb false, ti 9, ti 0] else told js ws ss (scanS ss 0)
theorem s15 (js : List J) (ws : List W) (ss : List Int) (e e' e2 : Bool) : Or (.call 15) [LJ e js, LW e' ws, lst e2 ss] [] = some (rightF js ws ss) := by
  refine orc_of ?_
  rw [e15]
  unfold rightF
  by_cases h1 : (chk js ws).1 = 0
  · obtain ⟨G, hw⟩ := chk_good h1
    by_cases h2 : ss.length = js.length
    · have h2' : (ss.length : Int) = (js.length : Int) := by omega
      have := n15s js ws e e' e2 ss G hw h2 ss 0 rfl (by intro k x hk; omega)
      rw [h2] at this
      simp only [gd1, hd1, tl1, dr0, dr1, dr2, dr3, dr4, dr5, dr6, bo1, in1, st1, ls1, le1, pt1, fi1, fb1, fs1, ct1, cf1, nt1, nf1, ak0, akT, akF, cdec, cndec, cbeq, cnbeq, ↓reduceIte, beq_self_eq_true, Int.reduceBEq, Int.reduceEq, Bool.and_true, Bool.true_and, Bool.false_and, Bool.and_false, s16, h1, enc_len, eJs_len, h2, ne_eq, not_true_eq_false]
      exact this
    · have h2' : ¬ (ss.length : Int) = (js.length : Int) := by omega
      simp only [gd1, hd1, tl1, dr0, dr1, dr2, dr3, dr4, dr5, dr6, bo1, in1, st1, ls1, le1, pt1, fi1, fb1, fs1, ct1, cf1, nt1, nf1, ak0, akT, akF, cdec, cndec, cbeq, cnbeq, ↓reduceIte, beq_self_eq_true, Int.reduceBEq, Int.reduceEq, Bool.and_true, Bool.true_and, Bool.false_and, Bool.and_false, s16, h1, enc_len, eJs_len, h2, h2', ne_eq, not_true_eq_false, not_false_eq_true]
  · simp only [gd1, hd1, tl1, dr0, dr1, dr2, dr3, dr4, dr5, dr6, bo1, in1, st1, ls1, le1, pt1, fi1, fb1, fs1, ct1, cf1, nt1, nf1, ak0, akT, akF, cdec, cndec, cbeq, cnbeq, ↓reduceIte, beq_self_eq_true, Int.reduceBEq, Int.reduceEq, Bool.and_true, Bool.true_and, Bool.false_and, Bool.and_false, s16, h1, ne_eq, not_false_eq_true]

/-! ### The document's answer -/
def Clash (js : List J) (ss : List Int) (i k : Nat) : Prop := ¬ i = k ∧ (jat js i).m = (jat js k).m ∧ ¬ (jat js i).l = 0 ∧ ¬ (jat js k).l = 0 ∧ at' ss i ≤ at' ss k ∧ at' ss i + (jat js i).l > at' ss k
def From2 (js : List J) (ws : List W) (ss : List Int) (k : Nat) : Prop := (∀ k', k ≤ k' → k' < js.length → (jat js k').f ≤ at' ss k' ∧ ∀ i, i < js.length → ¬ Clash js ss i k') ∧ Waits ws ss
theorem right_doc {js : List J} {ws : List W} {ss : List Int} (G : Good js ws) : From2 js ws ss 0 ↔ RightP js ws ss := by
  constructor
  · rintro ⟨h1, h2⟩
    refine ⟨fun i hi => ⟨(h1 i (by omega) hi).1, fun k hk ho => ?_⟩, h2⟩
    obtain ⟨⟨⟨⟨r1, r2⟩, r3⟩, o1⟩, o2⟩ := ho
    rcases Int.le_total (at' ss i) (at' ss k) with h | h
    · exact (h1 k (by omega) (by omega)).2 i hi ⟨by omega, r1, by omega, by omega, h, o1⟩
    · exact (h1 i (by omega) hi).2 k (by omega) ⟨by omega, r1.symm, by omega, by omega, h, o2⟩
  · rintro ⟨h1, h2⟩
    refine ⟨fun k _ hk => ⟨(h1 k hk).1, fun i hi hc => ?_⟩, h2⟩
    obtain ⟨c1, c2, c3, c4, c5, c6⟩ := hc
    have b1 := G.job i; have b2 := G.job k
    rcases Nat.lt_or_ge i k with h | h
    · exact (h1 k hk).2 i h ⟨⟨⟨⟨c2.symm, by omega⟩, by omega⟩, by omega⟩, c6⟩
    · exact (h1 i hi).2 k (by omega) ⟨⟨⟨⟨c2, by omega⟩, by omega⟩, c6⟩, by omega⟩

theorem n12w (ws : List W) (e e2 : Bool) (ss : List Int) (hl : ws.length ≤ 1000) (hw : ∀ w ∈ ws, (0 ≤ w.a ∧ w.a < (ss.length : Int)) ∧ (0 ≤ w.b ∧ w.b < (ss.length : Int)) ∧ -200 ≤ w.y ∧ w.y ≤ 200) (hs : Mild ss) : ∀ (rest : List W) (i : Nat), ws.drop i = rest →
    Or K12n13 [LW e ws, lst e2 ss, I (i : Int)] [] = some [tb (decide (Waits rest ss))] := by
  intro rest
  induction rest with
  | nil =>
    intro i h
    refine orc_of ?_
    rw [e12n13]
    have h1 : ¬ (i : Int) < (ws.length : Int) := by have := at_end h; omega
    simp only [gd1, hd1, tl1, dr0, dr1, dr2, dr3, dr4, dr5, dr6, bo1, in1, st1, ls1, le1, pt1, fi1, fb1, fs1, ct1, cf1, nt1, nf1, ak0, akT, akF, cdec, cndec, cbeq, cnbeq, ↓reduceIte, beq_self_eq_true, Int.reduceBEq, Int.reduceEq, Bool.and_true, Bool.true_and, Bool.false_and, Bool.and_false, h1, eWs_len]
    simp [Waits]
  | cons w rest ih =>
    intro i h
    obtain ⟨g1, g2, g3⟩ := at_drop h
    have h1 : (i : Int) < (ws.length : Int) := by omega
    have h0 : 0 ≤ (i : Int) := by omega
    obtain ⟨k1, k2, k3⟩ := hw w (List.mem_of_getElem? g1)
    have m1 := hs w.a; have m2 := hs w.b
    have w1 : IntKind.i64.wrap (at' ss w.b - at' ss w.a) = at' ss w.b - at' ss w.a := wr (by omega)
    refine orc_of ?_
    rw [e12n13]
    simp only [gd1, hd1, tl1, dr0, dr1, dr2, dr3, dr4, dr5, dr6, bo1, in1, st1, ls1, le1, pt1, fi1, fb1, fs1, ct1, cf1, nt1, nf1, ak0, akT, akF, cdec, cndec, cbeq, cnbeq, ↓reduceIte, beq_self_eq_true, Int.reduceBEq, Int.reduceEq, Bool.and_true, Bool.true_and, Bool.false_and, Bool.and_false, h1, h0, and_self, eWs_len, eWs_get g1, enc_len, k1.1, k1.2, k2.1, k2.2, enc_at k1, enc_at k2, w1]
    by_cases hok : at' ss w.a + w.y ≤ at' ss w.b
    · have : ¬ at' ss w.b - at' ss w.a < w.y := by omega
      simp only [gd1, hd1, tl1, dr0, dr1, dr2, dr3, dr4, dr5, dr6, bo1, in1, st1, ls1, le1, pt1, fi1, fb1, fs1, ct1, cf1, nt1, nf1, ak0, akT, akF, cdec, cndec, cbeq, cnbeq, ↓reduceIte, beq_self_eq_true, Int.reduceBEq, Int.reduceEq, Bool.and_true, Bool.true_and, Bool.false_and, Bool.and_false, this, next i (by omega), ih (i + 1) g3]
      exact congrArg (fun x => some [tb x]) (dec_iff (by simp [Waits, hok]))
    · have : at' ss w.b - at' ss w.a < w.y := by omega
      have hno : ¬ Waits (w :: rest) ss := fun h => hok (h w List.mem_cons_self)
      simp only [gd1, hd1, tl1, dr0, dr1, dr2, dr3, dr4, dr5, dr6, bo1, in1, st1, ls1, le1, pt1, fi1, fb1, fs1, ct1, cf1, nt1, nf1, ak0, akT, akF, cdec, cndec, cbeq, cnbeq, ↓reduceIte, beq_self_eq_true, Int.reduceBEq, Int.reduceEq, Bool.and_true, Bool.true_and, Bool.false_and, Bool.and_false, this, hno, decide_false]
theorem n12i (js : List J) (ws : List W) (e e' e2 : Bool) (ss : List Int) (G : Good js ws) (hl : ss.length = js.length) (hs : Mild ss) (k : Nat) (hk : k < js.length)
    (hnext : Or K12n2 [LJ e js, LW e' ws, lst e2 ss, I ((k + 1 : Nat) : Int)] [] = some [tb (decide (From2 js ws ss (k + 1)))]) (hf : (jat js k).f ≤ at' ss k) : ∀ (r i : Nat), i + r = js.length → (∀ i', i' < i → ¬ Clash js ss i' k) →
    Or K12n7 [LJ e js, LW e' ws, lst e2 ss, I (k : Int), I (i : Int)] [] = some [tb (decide (From2 js ws ss k))]
  | 0, i, hi, hb => by
    refine orc_of ?_
    rw [e12n7]
    have hn := G.n
    have h1 : ¬ (i : Int) < (js.length : Int) := by omega
    simp only [gd1, hd1, tl1, dr0, dr1, dr2, dr3, dr4, dr5, dr6, bo1, in1, st1, ls1, le1, pt1, fi1, fb1, fs1, ct1, cf1, nt1, nf1, ak0, akT, akF, cdec, cndec, cbeq, cnbeq, ↓reduceIte, beq_self_eq_true, Int.reduceBEq, Int.reduceEq, Bool.and_true, Bool.true_and, Bool.false_and, Bool.and_false, h1, eJs_len, next k (by omega), hnext]
    refine congrArg (fun x => some [tb x]) (dec_iff ⟨fun h => ⟨fun k' h1 h2 => ?_, h.2⟩, fun h => ⟨fun k' h1 h2 => h.1 k' (by omega) h2, h.2⟩⟩)
    by_cases e : k' = k
    · subst e; exact ⟨hf, fun i' hi' => hb i' (by omega)⟩
    · exact h.1 k' (by omega) h2
  | r + 1, i, hi, hb => by
    refine orc_of ?_
    rw [e12n7]
    have hn := G.n
    have h1 : (i : Int) < (js.length : Int) := by omega
    have h0 : 0 ≤ (i : Int) := by omega
    have k0 : (0 : Int) ≤ (k : Int) := by omega
    have k1 : (k : Int) < (js.length : Int) := by omega
    have si : (i : Int) < (ss.length : Int) := by omega
    have sk : (k : Int) < (ss.length : Int) := by omega
    have hai := enc_at (l := ss) (i := (i : Int)) ⟨by omega, by omega⟩
    have hak := enc_at (l := ss) (i := (k : Int)) ⟨by omega, by omega⟩
    have hji := eJs_at (l := js) (i := (i : Int)) ⟨by omega, by omega⟩
    have hjk := eJs_at (l := js) (i := (k : Int)) ⟨by omega, by omega⟩
    have b1 := G.job i; have b3 := hs i
    have w1 : IntKind.i64.wrap (at' ss i + (jat js i).l) = at' ss i + (jat js i).l := wr (by omega)
    simp only [cor, cand, beq_dec, ← decide_not, ← Bool.decide_or]
    simp only [gd1, hd1, tl1, dr0, dr1, dr2, dr3, dr4, dr5, dr6, bo1, in1, st1, ls1, le1, pt1, fi1, fb1, fs1, ct1, cf1, nt1, nf1, ak0, akT, akF, cdec, cndec, cbeq, cnbeq, ↓reduceIte, beq_self_eq_true, Int.reduceBEq, Int.reduceEq, Bool.and_true, Bool.true_and, Bool.false_and, Bool.and_false, h1, h0, k0, k1, si, sk, and_self, eJs_len, enc_len, hai, hak, hji, hjk, w1]
    simp only [← Bool.decide_and]
    by_cases hc : Clash js ss i k
    · obtain ⟨c1, c2, c3, c4, c5, c6⟩ := hc
      have hno : ¬ From2 js ws ss k := fun h => (h.1 k (Nat.le_refl _) hk).2 i (by omega) ⟨c1, c2, c3, c4, c5, c6⟩
      have g1 : ¬ (((((i : Int) = (k : Int)) ∨ ¬ (jat js i).m = (jat js k).m) ∨ (jat js i).l = 0) ∨ (jat js k).l = 0) := by
        rintro (((h | h) | h) | h)
        · exact c1 (by omega)
        · exact h c2
        · exact c3 h
        · exact c4 h
      have g2 : at' ss i ≤ at' ss k ∧ at' ss i + (jat js i).l > at' ss k := ⟨c5, c6⟩
      simp only [gd1, hd1, tl1, dr0, dr1, dr2, dr3, dr4, dr5, dr6, bo1, in1, st1, ls1, le1, pt1, fi1, fb1, fs1, ct1, cf1, nt1, nf1, ak0, akT, akF, cdec, cndec, cbeq, cnbeq, ↓reduceIte, beq_self_eq_true, Int.reduceBEq, Int.reduceEq, Bool.and_true, Bool.true_and, Bool.false_and, Bool.and_false, g1, g2, hno, decide_false, and_self]
    · have ih := n12i js ws e e' e2 ss G hl hs k hk hnext hf r (i + 1) (by omega) (fun i' hi' => by
        by_cases e : i' = i
        · subst e; exact hc
        · exact hb i' (by omega))
      by_cases g1 : (((((i : Int) = (k : Int)) ∨ ¬ (jat js i).m = (jat js k).m) ∨ (jat js i).l = 0) ∨ (jat js k).l = 0)
      · simp only [gd1, hd1, tl1, dr0, dr1, dr2, dr3, dr4, dr5, dr6, bo1, in1, st1, ls1, le1, pt1, fi1, fb1, fs1, ct1, cf1, nt1, nf1, ak0, akT, akF, cdec, cndec, cbeq, cnbeq, ↓reduceIte, beq_self_eq_true, Int.reduceBEq, Int.reduceEq, Bool.and_true, Bool.true_and, Bool.false_and, Bool.and_false, g1, next i (by omega), ih]
      · have g2 : ¬ (at' ss i ≤ at' ss k ∧ at' ss i + (jat js i).l > at' ss k) := fun ⟨a, b⟩ => by
          simp only [not_or, Classical.not_not] at g1
          obtain ⟨⟨⟨q1, q2⟩, q3⟩, q4⟩ := g1
          exact hc ⟨by omega, q2, q3, q4, a, b⟩
        simp only [gd1, hd1, tl1, dr0, dr1, dr2, dr3, dr4, dr5, dr6, bo1, in1, st1, ls1, le1, pt1, fi1, fb1, fs1, ct1, cf1, nt1, nf1, ak0, akT, akF, cdec, cndec, cbeq, cnbeq, ↓reduceIte, beq_self_eq_true, Int.reduceBEq, Int.reduceEq, Bool.and_true, Bool.true_and, Bool.false_and, Bool.and_false, g1, g2, next i (by omega), ih]
theorem n12k (js : List J) (ws : List W) (e e' e2 : Bool) (ss : List Int) (G : Good js ws) (hw : ws.length ≤ 1000) (hl : ss.length = js.length) (hs : Mild ss) : ∀ (r k : Nat), k + r = js.length →
    Or K12n2 [LJ e js, LW e' ws, lst e2 ss, I (k : Int)] [] = some [tb (decide (From2 js ws ss k))]
  | 0, k, hk => by
    refine orc_of ?_
    rw [e12n2]
    have h1 : ¬ (k : Int) < (js.length : Int) := by omega
    have := n12w ws e' e2 ss hw (fun w hw => by have := G.wait w hw; rw [hl]; omega) hs ws 0 rfl
    simp only [gd1, hd1, tl1, dr0, dr1, dr2, dr3, dr4, dr5, dr6, bo1, in1, st1, ls1, le1, pt1, fi1, fb1, fs1, ct1, cf1, nt1, nf1, ak0, akT, akF, cdec, cndec, cbeq, cnbeq, ↓reduceIte, beq_self_eq_true, Int.reduceBEq, Int.reduceEq, Bool.and_true, Bool.true_and, Bool.false_and, Bool.and_false, h1, eJs_len]
    refine this.trans (congrArg (fun x => some [tb x]) (dec_iff ⟨fun h => ⟨fun k' h1 h2 => by omega, h⟩, fun h => h.2⟩))
  | r + 1, k, hk => by
    refine orc_of ?_
    rw [e12n2]
    have hn := G.n
    have h1 : (k : Int) < (js.length : Int) := by omega
    have h0 : 0 ≤ (k : Int) := by omega
    have sk : (k : Int) < (ss.length : Int) := by omega
    have hak := enc_at (l := ss) (i := (k : Int)) ⟨by omega, by omega⟩
    have hjk := eJs_at (l := js) (i := (k : Int)) ⟨by omega, by omega⟩
    by_cases hf : at' ss k < (jat js k).f
    · have hno : ¬ From2 js ws ss k := fun h => by have := (h.1 k (Nat.le_refl _) (by omega)).1; omega
      simp only [gd1, hd1, tl1, dr0, dr1, dr2, dr3, dr4, dr5, dr6, bo1, in1, st1, ls1, le1, pt1, fi1, fb1, fs1, ct1, cf1, nt1, nf1, ak0, akT, akF, cdec, cndec, cbeq, cnbeq, ↓reduceIte, beq_self_eq_true, Int.reduceBEq, Int.reduceEq, Bool.and_true, Bool.true_and, Bool.false_and, Bool.and_false, h1, h0, sk, and_self, eJs_len, enc_len, hak, hjk, hf, hno, decide_false]
    · have ih := n12k js ws e e' e2 ss G hw hl hs r (k + 1) (by omega)
      have := n12i js ws e e' e2 ss G hl hs k (by omega) ih (by omega) js.length 0 (by omega) (by omega)
      simp only [gd1, hd1, tl1, dr0, dr1, dr2, dr3, dr4, dr5, dr6, bo1, in1, st1, ls1, le1, pt1, fi1, fb1, fs1, ct1, cf1, nt1, nf1, ak0, akT, akF, cdec, cndec, cbeq, cnbeq, ↓reduceIte, beq_self_eq_true, Int.reduceBEq, Int.reduceEq, Bool.and_true, Bool.true_and, Bool.false_and, Bool.and_false, h1, h0, sk, and_self, eJs_len, enc_len, hak, hjk, hf]
      exact this
theorem s12 (js : List J) (ws : List W) (e e' e2 : Bool) (ss : List Int) (G : Good js ws) (hw : ws.length ≤ 1000) (hl : ss.length = js.length) (hs : Mild ss) :
    Or (.call 12) [LJ e js, LW e' ws, lst e2 ss] [] = some [tb (decide (RightP js ws ss))] := by
  refine orc_of ?_
  rw [e12]
  refine (n12k js ws e e' e2 ss G hw hl hs js.length 0 (by omega)).trans (congrArg (fun x => some [tb x]) (dec_iff (right_doc G)))

/-! ### TimesSays -/
theorem s17 (n : Int) : Or (.call 17) [I n] [] = some [tb (decide (¬ badS n))] := by
  refine orc_of ?_
  rw [e17]
  simp only [cand, ← Bool.decide_and]
  exact congrArg (fun x => some [tb x]) (dec_iff (by unfold badS; omega))
theorem n6bad (js : List J) (ws : List W) (e e' e2 : Bool) (ss : List Int) (is : Bool) (f1 f2 g1 g2 i : Int) (hg : ¬ g1 = 0) :
    Or K6n9 [LJ e js, LW e' ws, lst e2 ss, B is, r0, r1, I i] [bx2 f1 f2, bx2 g1 g2] = some [tb (decide (f1 = g1 ∧ f2 = g2 ∧ is = false))] := by
  refine orc_of ?_
  rw [e6n9]
  simp only [cand, beq_dec, ← Bool.decide_and]
  simp only [gd1, hd1, tl1, dr0, dr1, dr2, dr3, dr4, dr5, dr6, bo1, in1, st1, ls1, le1, pt1, fi1, fb1, fs1, ct1, cf1, nt1, nf1, ak0, akT, akF, cdec, cndec, cbeq, cnbeq, ↓reduceIte, beq_self_eq_true, Int.reduceBEq, Int.reduceEq, Bool.and_true, Bool.true_and, Bool.false_and, Bool.and_false, hg, and_false, decide_false]
  cases is <;> simp [hg]
theorem n6ok (js : List J) (ws : List W) (e e' e2 : Bool) (ss : List Int) (is : Bool) (f1 f2 : Int) (hn : ss.length ≤ 8) : ∀ (rest : List Int) (i : Nat), ss.drop i = rest → ∀ d, scanS rest i = some d →
    Or K6n9 [LJ e js, LW e' ws, lst e2 ss, B is, r0, r1, I (i : Int)] [bx2 f1 f2, bx2 0 0] = some [tb (decide (f1 = 3 ∧ f2 = d ∧ is = false))] := by
  intro rest
  induction rest with
  | nil => intro i _ d h; simp [scanS] at h
  | cons x rest ih =>
    intro i h d hd
    obtain ⟨g1, g2, g3⟩ := at_drop h
    have h1 : (i : Int) < (ss.length : Int) := by omega
    have h0 : 0 ≤ (i : Int) := by omega
    refine orc_of ?_
    rw [e6n9]
    simp only [scanS] at hd
    by_cases hx : badS x
    · rw [if_pos hx] at hd
      simp only [Option.some.injEq] at hd; subst hd
      have := n6bad js ws e e' e2 ss is f1 f2 3 i ((i + 1 : Nat) : Int) (by decide)
      simp only [gd1, hd1, tl1, dr0, dr1, dr2, dr3, dr4, dr5, dr6, bo1, in1, st1, ls1, le1, pt1, fi1, fb1, fs1, ct1, cf1, nt1, nf1, ak0, akT, akF, cdec, cndec, cbeq, cnbeq, ↓reduceIte, beq_self_eq_true, Int.reduceBEq, Int.reduceEq, Bool.and_true, Bool.true_and, Bool.false_and, Bool.and_false, h1, h0, and_self, enc_len, enc_get g1, s17, hx, not_true_eq_false, decide_false, s11, next i (by omega), this]
    · rw [if_neg hx] at hd
      simp only [gd1, hd1, tl1, dr0, dr1, dr2, dr3, dr4, dr5, dr6, bo1, in1, st1, ls1, le1, pt1, fi1, fb1, fs1, ct1, cf1, nt1, nf1, ak0, akT, akF, cdec, cndec, cbeq, cnbeq, ↓reduceIte, beq_self_eq_true, Int.reduceBEq, Int.reduceEq, Bool.and_true, Bool.true_and, Bool.false_and, Bool.and_false, h1, h0, and_self, enc_len, enc_get g1, s17, hx, not_false_eq_true, decide_true, next i (by omega), ih (i + 1) g3 d hd]
theorem n6right (js : List J) (ws : List W) (e e' e2 : Bool) (ss : List Int) (is : Bool) (G : Good js ws) (hw : ws.length ≤ 60) (hl : ss.length = js.length) (hm : Mild ss) : ∀ (rest : List Int) (i : Nat), ss.drop i = rest → scanS rest i = none →
    Or K6n9 [LJ e js, LW e' ws, lst e2 ss, B is, r0, r1, I (i : Int)] [bx2 0 0, bx2 0 0] = some [tb (decide (is = decide (RightP js ws ss)))] := by
  intro rest
  have hn := G.n
  induction rest with
  | nil =>
    intro i h _
    have h1 : ¬ (i : Int) < (ss.length : Int) := by have := at_end h; omega
    refine orc_of ?_
    rw [e6n9]
    simp only [gd1, hd1, tl1, dr0, dr1, dr2, dr3, dr4, dr5, dr6, bo1, in1, st1, ls1, le1, pt1, fi1, fb1, fs1, ct1, cf1, nt1, nf1, ak0, akT, akF, cdec, cndec, cbeq, cnbeq, ↓reduceIte, beq_self_eq_true, Int.reduceBEq, Int.reduceEq, Bool.and_true, Bool.true_and, Bool.false_and, Bool.and_false, h1, enc_len, s12 js ws e e' e2 ss G (by omega) hl hm]
    cases is <;> cases decide (RightP js ws ss) <;> rfl
  | cons x rest ih =>
    intro i h hd
    obtain ⟨g1, g2, g3⟩ := at_drop h
    have h1 : (i : Int) < (ss.length : Int) := by omega
    have h0 : 0 ≤ (i : Int) := by omega
    refine orc_of ?_
    rw [e6n9]
    simp only [scanS] at hd
    by_cases hx : badS x
    · rw [if_pos hx] at hd; cases hd
    · rw [if_neg hx] at hd
      simp only [gd1, hd1, tl1, dr0, dr1, dr2, dr3, dr4, dr5, dr6, bo1, in1, st1, ls1, le1, pt1, fi1, fb1, fs1, ct1, cf1, nt1, nf1, ak0, akT, akF, cdec, cndec, cbeq, cnbeq, ↓reduceIte, beq_self_eq_true, Int.reduceBEq, Int.reduceEq, Bool.and_true, Bool.true_and, Bool.false_and, Bool.and_false, h1, h0, and_self, enc_len, enc_get g1, s17, hx, not_false_eq_true, decide_true, next i (by omega), ih (i + 1) g3 hd]

theorem scanW_two {n : Int} : ∀ {ws : List W} {i : Nat}, (scanW n ws i).1 = 0 → (scanW n ws i).2 = 0
  | [], _, _ => rfl
  | w :: ws, i, h => by
    simp only [scanW] at h ⊢
    split at h
    · simp at h
    · split at h
      · simp at h
      · rename_i h1 h2
        rw [if_neg h1, if_neg h2]
        exact scanW_two h
theorem scanJ_two {n : Int} {ws : List W} : ∀ {js : List J} {i : Nat}, (scanJ n ws js i).1 = 0 → (scanJ n ws js i).2 = 0
  | [], _, h => scanW_two h
  | j :: js, i, h => by
    simp only [scanJ] at h ⊢
    split at h
    · simp at h
    · rename_i h1
      rw [if_neg h1]
      exact scanJ_two h
theorem chk_zero {js : List J} {ws : List W} (h : (chk js ws).1 = 0) : (chk js ws).2 = 0 := by
  unfold chk at h ⊢
  split at h
  · simp at h
  · split at h
    · simp at h
    · rename_i h1 h2
      rw [if_neg h1, if_neg h2]
      exact scanJ_two h
theorem law6 (js : List J) (ws : List W) (ss : List Int) (e e' e2 : Bool) : Or (.call 6) [LJ e js, LW e' ws, lst e2 ss] [] = some [tb true] := by
  refine orc_of ?_
  rw [e6]
  have h15 := s15 js ws ss e e' e2
  have h16 := s16 js ws e e'
  have h10 := s10 js ws e e'
  unfold rightF at h15
  by_cases h1 : (chk js ws).1 = 0
  · obtain ⟨G, hw⟩ := chk_good h1
    have hn := G.n
    by_cases h2 : ss.length = js.length
    · have h2' : (ss.length : Int) = (js.length : Int) := by omega
      simp only [h1, ne_eq, not_true_eq_false, h2, ↓reduceIte] at h15
      have h02 : (chk js ws).2 = 0 := chk_zero h1
      cases hs : scanS ss 0 with
      | some d =>
        rw [hs] at h15
        have := n6ok js ws e e' e2 ss false 3 d (by omega) ss 0 rfl d hs
        simp only [told] at h15
        simp only [gd1, hd1, tl1, dr0, dr1, dr2, dr3, dr4, dr5, dr6, bo1, in1, st1, ls1, le1, pt1, fi1, fb1, fs1, ct1, cf1, nt1, nf1, ak0, akT, akF, cdec, cndec, cbeq, cnbeq, ↓reduceIte, beq_self_eq_true, Int.reduceBEq, Int.reduceEq, Bool.and_true, Bool.true_and, Bool.false_and, Bool.and_false, h15, s8, h16, h10, h1, h02, enc_len, eJs_len, h2', Bool.not_true, Bool.not_false]
        exact this.trans (by simp)
      | none =>
        rw [hs] at h15
        have hm : Mild ss := mild_of (scanS_mild hs)
        have := n6right js ws e e' e2 ss (decide (RightP js ws ss)) G hw h2 hm ss 0 rfl hs
        simp only [told] at h15
        simp only [gd1, hd1, tl1, dr0, dr1, dr2, dr3, dr4, dr5, dr6, bo1, in1, st1, ls1, le1, pt1, fi1, fb1, fs1, ct1, cf1, nt1, nf1, ak0, akT, akF, cdec, cndec, cbeq, cnbeq, ↓reduceIte, beq_self_eq_true, Int.reduceBEq, Int.reduceEq, Bool.and_true, Bool.true_and, Bool.false_and, Bool.and_false, h15, s8, h16, h10, h1, h02, enc_len, eJs_len, h2', Bool.not_true, Bool.not_false]
        exact this.trans (by simp)
    · have h2' : ¬ (ss.length : Int) = (js.length : Int) := by omega
      simp only [h1, ne_eq, not_true_eq_false, h2, not_false_eq_true, ↓reduceIte] at h15
      have := n6bad js ws e e' e2 ss false 9 0 9 0 0 (by decide)
      simp only [gd1, hd1, tl1, dr0, dr1, dr2, dr3, dr4, dr5, dr6, bo1, in1, st1, ls1, le1, pt1, fi1, fb1, fs1, ct1, cf1, nt1, nf1, ak0, akT, akF, cdec, cndec, cbeq, cnbeq, ↓reduceIte, beq_self_eq_true, Int.reduceBEq, Int.reduceEq, Bool.and_true, Bool.true_and, Bool.false_and, Bool.and_false, h15, s8, h16, h10, h1, enc_len, eJs_len, h2', Bool.not_true, Bool.not_false, s11]
      exact this.trans (by simp)
  · simp only [h1, ne_eq, not_false_eq_true, ↓reduceIte] at h15
    have := n6bad js ws e e' e2 ss false (chk js ws).1 (chk js ws).2 (chk js ws).1 (chk js ws).2 0 h1
    simp only [gd1, hd1, tl1, dr0, dr1, dr2, dr3, dr4, dr5, dr6, bo1, in1, st1, ls1, le1, pt1, fi1, fb1, fs1, ct1, cf1, nt1, nf1, ak0, akT, akF, cdec, cndec, cbeq, cnbeq, ↓reduceIte, beq_self_eq_true, Int.reduceBEq, Int.reduceEq, Bool.and_true, Bool.true_and, Bool.false_and, Bool.and_false, h15, s8, h16, h10, h1, enc_len, eJs_len, Bool.not_true, Bool.not_false]
    exact this.trans (by simp)
end Go.Aev.Gen
