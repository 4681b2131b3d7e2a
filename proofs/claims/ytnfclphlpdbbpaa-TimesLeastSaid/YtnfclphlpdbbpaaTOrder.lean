/-
  The soonest end where those of one machine go in an order.
-/
import Derived.Test.YtnfclphlpdbbpaaTMore
set_option linter.unusedSimpArgs false
set_option linter.unusedVariables false
namespace Go.Aev.Gen
open Go Go.Aev
open Classical

noncomputable def ocW (js : List J) (a b : Int) : List W := if Riv (jat js a) (jat js b) then [⟨a, b, (jat js a).l⟩] else []
noncomputable def inner (js : List J) (od : List Int) (i : Nat) : Nat → List W
  | 0 => []
  | k + 1 => ocW js (at' od ((i - (k + 1) : Nat) : Int)) (at' od (i : Int)) ++ inner js od i k
noncomputable def outer (js : List J) (od : List Int) : Nat → Nat → List W
  | 0, _ => []
  | k + 1, i => inner js od i i ++ outer js od k (i + 1)
noncomputable def oc (js : List J) (od : List Int) : List W := outer js od od.length 0
/-- Numbers of jobs. -/
def Ord (n : Nat) (od : List Int) : Prop := od.length = n ∧ ∀ i : Int, 0 ≤ i → i < (n : Int) → 0 ≤ at' od i ∧ at' od i < (n : Int)

theorem ocW_len (js : List J) (a b : Int) : (ocW js a b).length ≤ 1 := by unfold ocW; split <;> simp
theorem inner_len (js : List J) (od : List Int) (i : Nat) : ∀ k, (inner js od i k).length ≤ k
  | 0 => Nat.le_refl _
  | k + 1 => by
    have h1 := ocW_len js (at' od ((i - (k + 1) : Nat) : Int)) (at' od (i : Int))
    have h2 := inner_len js od i k
    simp only [inner, List.length_append]; omega
theorem outer_len (js : List J) (od : List Int) : ∀ k i, i + k ≤ 8 → (outer js od k i).length ≤ k * 8
  | 0, _, _ => by simp [outer]
  | k + 1, i, h => by
    have h1 := inner_len js od i i
    have h2 := outer_len js od k (i + 1) (by omega)
    simp only [outer, List.length_append]; omega
theorem inner_mem {js : List J} {od : List Int} {i : Nat} {w : W} : ∀ {k}, k ≤ i → (w ∈ inner js od i k ↔ ∃ j : Nat, i - k ≤ j ∧ j < i ∧ w ∈ ocW js (at' od (j : Int)) (at' od (i : Int)))
  | 0, _ => by
    simp only [inner, List.not_mem_nil, false_iff]
    rintro ⟨j, h1, h2, _⟩
    omega
  | k + 1, hk => by
    have ih := inner_mem (js := js) (od := od) (i := i) (w := w) (k := k) (by omega)
    simp only [inner, List.mem_append, ih]
    constructor
    · rintro (h | ⟨j, h1, h2, h3⟩)
      · exact ⟨i - (k + 1), by omega, by omega, h⟩
      · exact ⟨j, by omega, h2, h3⟩
    · rintro ⟨j, h1, h2, h3⟩
      by_cases e : j = i - (k + 1)
      · subst e; exact .inl h3
      · exact .inr ⟨j, by omega, h2, h3⟩
theorem outer_mem {js : List J} {od : List Int} {w : W} : ∀ {k i : Nat}, w ∈ outer js od k i ↔ ∃ a : Nat, i ≤ a ∧ a < i + k ∧ w ∈ inner js od a a
  | 0, i => by
    simp only [outer, List.not_mem_nil, false_iff]
    rintro ⟨j, h1, h2, _⟩
    omega
  | k + 1, i => by
    simp only [outer, List.mem_append, outer_mem (k := k)]
    constructor
    · rintro (h | ⟨j, h1, h2, h3⟩)
      · exact ⟨i, by omega, by omega, h⟩
      · exact ⟨j, by omega, by omega, h3⟩
    · rintro ⟨j, h1, h2, h3⟩
      by_cases e : j = i
      · subst e; exact .inl h3
      · exact .inr ⟨j, by omega, by omega, h3⟩
theorem oc_mem {js : List J} {od : List Int} {w : W} : w ∈ oc js od ↔ ∃ j i : Nat, j < i ∧ i < od.length ∧ Riv (jat js (at' od (j : Int))) (jat js (at' od (i : Int))) ∧ w = ⟨at' od (j : Int), at' od (i : Int), (jat js (at' od (j : Int))).l⟩ := by
  simp only [oc, outer_mem]
  constructor
  · rintro ⟨i, _, h2, h3⟩
    obtain ⟨j, _, h4, h5⟩ := (inner_mem (Nat.le_refl _)).1 h3
    unfold ocW at h5
    split at h5
    · rename_i hr
      exact ⟨j, i, h4, by omega, hr, by simpa using h5⟩
    · cases h5
  · rintro ⟨j, i, h1, h2, h3, h4⟩
    refine ⟨i, by omega, by omega, (inner_mem (Nat.le_refl _)).2 ⟨j, by omega, h1, ?_⟩⟩
    unfold ocW
    rw [if_pos h3]; simp [h4]
theorem oc_inR {js : List J} {od : List Int} (ho : Ord js.length od) (hj : ∀ i : Int, 0 ≤ (jat js i).l ∧ (jat js i).l ≤ 200) : InR js.length (oc js od) := by
  intro w hw
  obtain ⟨j, i, h1, h2, _, rfl⟩ := oc_mem.1 hw
  have := ho.1
  refine ⟨ho.2 j (by omega) (by omega), ho.2 i (by omega) (by omega), ?_⟩
  have := hj (at' od (j : Int))
  dsimp only
  omega

section
variable (js : List J) (e e2 : Bool) (od : List Int)
abbrev o0 : AV := AV.own (Id.c 0)
abbrev o1 : AV := AV.own (Id.c 1)
theorem n20i (hn : js.length ≤ 8) (ho : Ord js.length od) (i : Nat) (hi : i < od.length) (R : List T) : ∀ (k : Nat) (ws : List W) (ec : Bool), k ≤ i → ws.length + k ≤ 1000 →
    (∀ ec, Or K20n3 [LJ e js, lst e2 od, o0, I ((i + 1 : Nat) : Int)] [bW ec (ws ++ inner js od i k)] = some R) →
    Or K20n6 [LJ e js, lst e2 od, o0, I (i : Int), I ((i - k : Nat) : Int)] [bW ec ws] = some R
  | 0, ws, ec, hk, hw, h => by
    refine orc_of ?_
    rw [e20n6]
    have h1 : ¬ ((i - 0 : Nat) : Int) < (i : Int) := by omega
    have hi8 := ho.1
    have := h ec
    rw [inner, List.append_nil] at this
    simp only [gd1, hd1, tl1, dr0, dr1, dr2, dr3, dr4, dr5, dr6, bo1, in1, st1, ls1, le1, pt1, fi1, fb1, fs1, ct1, cf1, nt1, nf1, ak0, akT, akF, cdec, cndec, cbeq, cnbeq, ↓reduceIte, beq_self_eq_true, Int.reduceBEq, Int.reduceEq, Bool.and_true, Bool.true_and, Bool.false_and, Bool.and_false, h1, next i (by omega)]
    exact this
  | k + 1, ws, ec, hk, hw, h => by
    refine orc_of ?_
    rw [e20n6]
    have hl := ho.1
    have h1 : ((i - (k + 1) : Nat) : Int) < (i : Int) := by omega
    have hj : 0 ≤ ((i - (k + 1) : Nat) : Int) ∧ ((i - (k + 1) : Nat) : Int) < (od.length : Int) := by omega
    have hi' : 0 ≤ (i : Int) ∧ (i : Int) < (od.length : Int) := by omega
    have ha := ho.2 _ hj.1 (by omega)
    have hb := ho.2 _ hi'.1 (by omega)
    have hnx := next (i - (k + 1)) (by omega)
    rw [show i - (k + 1) + 1 = i - k from by omega] at hnx
    have h' := h
    rw [inner] at h'
    have g1 := enc_at hj
    have g2 := enc_at hi'
    generalize at' od ((i - (k + 1) : Nat) : Int) = a at *
    generalize at' od (i : Int) = b at *
    have q1 := eJs_at ha
    have q2 := eJs_at hb
    simp only [cand, beq_dec, ← Bool.decide_and]
    by_cases hr : Riv (jat js a) (jat js b)
    · have hr' := hr
      unfold Riv at hr'
      have hap : eWs ws ++ [[ti a, ti b, ti (jat js a).l]] = eWs (ws ++ [⟨a, b, (jat js a).l⟩]) := by simp [eWs, eW]
      have hsm : small 24 ((eWs ws).length + [[ti a, ti b, ti (jat js a).l]].length) = some () := small_ok (by simp [eWs]; omega)
      have := n20i hn ho i hi R k (ws ++ [⟨a, b, (jat js a).l⟩]) false (by omega) (by simp; omega) (fun ec => by
        have := h' ec
        rw [ocW, if_pos hr] at this
        rw [List.append_assoc]; exact this)
      simp only [gd1, hd1, tl1, dr0, dr1, dr2, dr3, dr4, dr5, dr6, bo1, in1, st1, ls1, le1, pt1, fi1, fb1, fs1, ct1, cf1, nt1, nf1, ak0, akT, akF, cdec, cndec, cbeq, cnbeq, ↓reduceIte, beq_self_eq_true, Int.reduceBEq, Int.reduceEq, Bool.and_true, Bool.true_and, Bool.false_and, Bool.and_false, h1, enc_len, hj, hi', and_self, g1, g2, eJs_len, ha, hb, q1, q2, hr', hsm, hap, hnx]
      exact this
    · have hr' := hr
      unfold Riv at hr'
      have := n20i hn ho i hi R k ws ec (by omega) (by omega) (fun ec => by
        have := h' ec
        rw [ocW, if_neg hr, List.nil_append] at this
        exact this)
      simp only [gd1, hd1, tl1, dr0, dr1, dr2, dr3, dr4, dr5, dr6, bo1, in1, st1, ls1, le1, pt1, fi1, fb1, fs1, ct1, cf1, nt1, nf1, ak0, akT, akF, cdec, cndec, cbeq, cnbeq, ↓reduceIte, beq_self_eq_true, Int.reduceBEq, Int.reduceEq, Bool.and_true, Bool.true_and, Bool.false_and, Bool.and_false, h1, enc_len, hj, hi', and_self, g1, g2, eJs_len, ha, hb, q1, q2, hr', hnx]
      exact this
theorem n20o (hn : js.length ≤ 8) (ho : Ord js.length od) (R : List T) : ∀ (k i : Nat) (ws : List W) (ec : Bool), i + k = od.length → ws.length + k * 8 ≤ 500 →
    (∀ ec, Or K20n13 [LJ e js, o0, o1, I 0] [bW ec (ws ++ outer js od k i), bD true []] = some R) →
    Or K20n3 [LJ e js, lst e2 od, o0, I (i : Int)] [bW ec ws] = some R
  | 0, i, ws, ec, hk, hw, h => by
    refine orc_of ?_
    rw [e20n3]
    have h1 : ¬ (i : Int) < (od.length : Int) := by omega
    have := h ec
    rw [outer, List.append_nil] at this
    simp only [gd1, hd1, tl1, dr0, dr1, dr2, dr3, dr4, dr5, dr6, bo1, in1, st1, ls1, le1, pt1, fi1, fb1, fs1, ct1, cf1, nt1, nf1, ak0, akT, akF, cdec, cndec, cbeq, cnbeq, ↓reduceIte, beq_self_eq_true, Int.reduceBEq, Int.reduceEq, Bool.and_true, Bool.true_and, Bool.false_and, Bool.and_false, enc_len, h1]
    exact this
  | k + 1, i, ws, ec, hk, hw, h => by
    refine orc_of ?_
    rw [e20n3]
    have hl := ho.1
    have h1 : (i : Int) < (od.length : Int) := by omega
    have hin := inner_len js od i i
    have := n20i js e e2 od hn ho i (by omega) R i ws ec (Nat.le_refl _) (by omega) fun ec => n20o hn ho R k (i + 1) (ws ++ inner js od i i) ec (by omega) (by simp only [List.length_append]; omega) fun ec => by
      have := h ec
      rw [outer] at this
      rw [List.append_assoc]; exact this
    rw [Nat.sub_self] at this
    simp only [gd1, hd1, tl1, dr0, dr1, dr2, dr3, dr4, dr5, dr6, bo1, in1, st1, ls1, le1, pt1, fi1, fb1, fs1, ct1, cf1, nt1, nf1, ak0, akT, akF, cdec, cndec, cbeq, cnbeq, ↓reduceIte, beq_self_eq_true, Int.reduceBEq, Int.reduceEq, Bool.and_true, Bool.true_and, Bool.false_and, Bool.and_false, enc_len, h1]
    exact this
end

section
variable (js : List J) (e ec : Bool) (ws : List W)
theorem n20f (hn : js.length ≤ 8) (R : List T) (h : ∀ e1, Or K20n17 [LJ e js, o0, o1, I 0] [bW ec ws, bD e1 (froms js)] = some R) : ∀ (rest : List J) (i : Nat) (e1 : Bool), js.drop i = rest →
    Or K20n13 [LJ e js, o0, o1, I (i : Int)] [bW ec ws, bD e1 (froms (js.take i))] = some R := by
  intro rest
  induction rest with
  | nil =>
    intro i e1 hd
    refine orc_of ?_
    rw [e20n13]
    have h1 : ¬ (i : Int) < (js.length : Int) := by have := at_end hd; omega
    have ht : js.take i = js := List.take_of_length_le (at_end hd)
    simp only [gd1, hd1, tl1, dr0, dr1, dr2, dr3, dr4, dr5, dr6, bo1, in1, st1, ls1, le1, pt1, fi1, fb1, fs1, ct1, cf1, nt1, nf1, ak0, akT, akF, cdec, cndec, cbeq, cnbeq, ↓reduceIte, beq_self_eq_true, Int.reduceBEq, Int.reduceEq, Bool.and_true, Bool.true_and, Bool.false_and, Bool.and_false, h1, eJs_len, ht]
    exact h e1
  | cons j rest ih =>
    intro i e1 hd
    obtain ⟨g1, g2, g3⟩ := at_drop hd
    have h1 : (i : Int) < (js.length : Int) := by omega
    have h0 : 0 ≤ (i : Int) := by omega
    refine orc_of ?_
    rw [e20n13]
    have hap : enc (froms (js.take i)) ++ [[ti j.f]] = enc (froms (js.take (i + 1))) := by
      rw [List.take_add_one, g1]; simp [enc, froms]
    have hs : small 8 ((enc (froms (js.take i))).length + [[ti j.f]].length) = some () := small_ok (by simp [enc, froms]; omega)
    have := ih (i + 1) false g3
    simp only [gd1, hd1, tl1, dr0, dr1, dr2, dr3, dr4, dr5, dr6, bo1, in1, st1, ls1, le1, pt1, fi1, fb1, fs1, ct1, cf1, nt1, nf1, ak0, akT, akF, cdec, cndec, cbeq, cnbeq, ↓reduceIte, beq_self_eq_true, Int.reduceBEq, Int.reduceEq, Bool.and_true, Bool.true_and, Bool.false_and, Bool.and_false, h1, h0, and_self, eJs_len, eJs_get g1, hs, hap, next i (by omega)]
    exact this
def resO (js : List J) : Option (List Int) → List T
  | some d => [ti (span js d)]
  | none => [ti (-1)]
theorem Bd.mild {c : Nat} {d : List Int} (h : Bd c d) (hc : c ≤ 4000) : Mild d := by
  intro i
  by_cases hi : 0 ≤ i
  · have := h i hi; omega
  · have e : at' d i = at' d 0 := by simp only [at', show i.toNat = (0 : Int).toNat from by omega]
    rw [e]
    have := h 0 (Int.le_refl _); omega
theorem n20w (hr : InR js.length ws) (hn : js.length ≤ 8) (hj : ∀ i : Int, 0 ≤ (jat js i).l ∧ (jat js i).l ≤ 200) (hws : ws.length ≤ 200) (e1 : Bool) (t k : Nat) (ht : t ≤ 100) (cN : Nat)
    (ih : ∀ d : List Int, d.length = js.length → Bd cN d → Or K20n17 [LJ e js, o0, o1, I ((t + 1 : Nat) : Int)] [bW ec ws, bD e1 d] = some (resO js (rounds ws k d))) :
    ∀ (rest : List W) (i : Nat) (p : List Int × Bool) (c : Nat), ws.drop i = rest → p.1.length = js.length → Bd c p.1 → c + rest.length ≤ cN → cN ≤ 4000 →
    Or K20n21 [LJ e js, o0, o1, I (t : Int), B p.2, I (i : Int)] [bW ec ws, bD e1 p.1] =
      some (resO js (if (pass rest p).2 = true then rounds ws k (pass rest p).1 else some (pass rest p).1)) := by
  intro rest
  induction rest with
  | nil =>
    intro i p c h hl hb hc hN
    refine orc_of ?_
    rw [e20n21]
    have h1 : ¬ (i : Int) < (ws.length : Int) := by have := at_end h; omega
    have hb' : Bd cN p.1 := fun i hi => by have := hb i hi; simp only [List.length_nil] at hc; omega
    cases hp : p.2
    · have := s13 js e e1 p.1 hn hl (hb'.mild (by omega)) hj
      simp only [gd1, hd1, tl1, dr0, dr1, dr2, dr3, dr4, dr5, dr6, bo1, in1, st1, ls1, le1, pt1, fi1, fb1, fs1, ct1, cf1, nt1, nf1, ak0, akT, akF, cdec, cndec, cbeq, cnbeq, ↓reduceIte, beq_self_eq_true, Int.reduceBEq, Int.reduceEq, Bool.and_true, Bool.true_and, Bool.false_and, Bool.and_false, eWs_len, h1, hp, pass, Bool.not_false, Bool.false_eq_true, resO, this]
    · simp only [gd1, hd1, tl1, dr0, dr1, dr2, dr3, dr4, dr5, dr6, bo1, in1, st1, ls1, le1, pt1, fi1, fb1, fs1, ct1, cf1, nt1, nf1, ak0, akT, akF, cdec, cndec, cbeq, cnbeq, ↓reduceIte, beq_self_eq_true, Int.reduceBEq, Int.reduceEq, Bool.and_true, Bool.true_and, Bool.false_and, Bool.and_false, eWs_len, h1, hp, pass, Bool.not_true, next t (by omega), ih p.1 hl hb']
  | cons w rest ihr =>
    intro i p c h hl hb hc hN
    obtain ⟨g1, g2, g3⟩ := at_drop h
    have h1 : (i : Int) < (ws.length : Int) := by omega
    have h0 : 0 ≤ (i : Int) := by omega
    have hw := hr w (List.mem_of_getElem? g1)
    have ha : 0 ≤ w.a ∧ w.a < (p.1.length : Int) := by rw [hl]; exact hw.1
    have hb2 : 0 ≤ w.b ∧ w.b < (p.1.length : Int) := by rw [hl]; exact hw.2.1
    have b1 := hb w.a ha.1
    simp only [List.length_cons] at hc
    have wv : IntKind.i64.wrap (at' p.1 w.a + w.y) = at' p.1 w.a + w.y := wr (by omega)
    have hstep := ihr (i + 1) (relax w p) (c + 1) g3 (by rw [relax_len]; exact hl) (relax_bd hw hl hb) (by omega) hN
    refine orc_of ?_
    rw [e20n21]
    rw [show pass (w :: rest) p = pass rest (relax w p) from rfl]
    by_cases hgt : at' p.1 w.a + w.y > at' p.1 w.b
    · have hrx : relax w p = (p.1.set w.b.toNat (at' p.1 w.a + w.y), true) := by unfold relax; rw [if_pos hgt]
      rw [hrx] at hstep ⊢
      simp only [gd1, hd1, tl1, dr0, dr1, dr2, dr3, dr4, dr5, dr6, bo1, in1, st1, ls1, le1, pt1, fi1, fb1, fs1, ct1, cf1, nt1, nf1, ak0, akT, akF, cdec, cndec, cbeq, cnbeq, ↓reduceIte, beq_self_eq_true, Int.reduceBEq, Int.reduceEq, Bool.and_true, Bool.true_and, Bool.false_and, Bool.and_false, h1, h0, and_self, eWs_len, eWs_get g1, enc_len, ha.1, ha.2, hb2.1, hb2.2, enc_at ha, enc_at hb2, wv, hgt, enc_set hb2, next i (by omega)]
      exact hstep
    · have hrx : relax w p = p := by unfold relax; rw [if_neg hgt]
      rw [hrx] at hstep ⊢
      simp only [gd1, hd1, tl1, dr0, dr1, dr2, dr3, dr4, dr5, dr6, bo1, in1, st1, ls1, le1, pt1, fi1, fb1, fs1, ct1, cf1, nt1, nf1, ak0, akT, akF, cdec, cndec, cbeq, cnbeq, ↓reduceIte, beq_self_eq_true, Int.reduceBEq, Int.reduceEq, Bool.and_true, Bool.true_and, Bool.false_and, Bool.and_false, h1, h0, and_self, eWs_len, eWs_get g1, enc_len, ha.1, ha.2, hb2.1, hb2.2, enc_at ha, enc_at hb2, wv, hgt, next i (by omega)]
      exact hstep
theorem n20r (hr : InR js.length ws) (hn : js.length ≤ 8) (hj : ∀ i : Int, 0 ≤ (jat js i).l ∧ (jat js i).l ≤ 200) (hws : ws.length ≤ 200) (e1 : Bool) : ∀ (k t : Nat) (d : List Int) (c : Nat), t + k = js.length + 1 → d.length = js.length → Bd c d → c + k * ws.length ≤ 4000 →
    Or K20n17 [LJ e js, o0, o1, I (t : Int)] [bW ec ws, bD e1 d] = some (resO js (rounds ws k d))
  | 0, t, d, c, ht, hl, hb, hc => by
    refine orc_of ?_
    rw [e20n17]
    have h1 : ¬ (t : Int) ≤ (js.length : Int) := by omega
    simp only [gd1, hd1, tl1, dr0, dr1, dr2, dr3, dr4, dr5, dr6, bo1, in1, st1, ls1, le1, pt1, fi1, fb1, fs1, ct1, cf1, nt1, nf1, ak0, akT, akF, cdec, cndec, cbeq, cnbeq, ↓reduceIte, beq_self_eq_true, Int.reduceBEq, Int.reduceEq, Bool.and_true, Bool.true_and, Bool.false_and, Bool.and_false, eJs_len, h1, rounds, resO]
  | k + 1, t, d, c, ht, hl, hb, hc => by
    refine orc_of ?_
    rw [e20n17]
    have h1 : (t : Int) ≤ (js.length : Int) := by omega
    have hm : (k + 1) * ws.length = k * ws.length + ws.length := Nat.succ_mul _ _
    have := n20w js e ec ws hr hn hj hws e1 t k (by omega) (c + ws.length) (fun d' hl' hb' => n20r hr hn hj hws e1 k (t + 1) d' (c + ws.length) (by omega) hl' hb' (by omega)) ws 0 (d, false) c rfl hl hb (Nat.le_refl _) (by omega)
    simp only [gd1, hd1, tl1, dr0, dr1, dr2, dr3, dr4, dr5, dr6, bo1, in1, st1, ls1, le1, pt1, fi1, fb1, fs1, ct1, cf1, nt1, nf1, ak0, akT, akF, cdec, cndec, cbeq, cnbeq, ↓reduceIte, beq_self_eq_true, Int.reduceBEq, Int.reduceEq, Bool.and_true, Bool.true_and, Bool.false_and, Bool.and_false, eJs_len, h1]
    exact this
end
theorem s20 (js : List J) (ws : List W) (od : List Int) (e e' e2 : Bool) (hr : InR js.length ws) (hn : js.length ≤ 8) (hws : ws.length ≤ 60) (hj : ∀ i : Int, 0 ≤ (jat js i).l ∧ (jat js i).l ≤ 200 ∧ 0 ≤ (jat js i).f ∧ (jat js i).f ≤ 200) (ho : Ord js.length od) :
    Or (.call 20) [LJ e js, LW e' ws, lst e2 od] [] = some (resO js (rounds (ws ++ oc js od) (js.length + 1) (froms js))) := by
  refine orc_of ?_
  rw [e20]
  have hl := ho.1
  have hsm : small 24 (eWs ws).length = some () := small_ok (by rw [eWs_len]; omega)
  have ho' := outer_len js od od.length 0 (by omega)
  have hj' : ∀ i : Int, 0 ≤ (jat js i).l ∧ (jat js i).l ≤ 200 := fun i => ⟨(hj i).1, (hj i).2.1⟩
  have hlen : (ws ++ oc js od).length ≤ 124 := by simp only [List.length_append, oc]; omega
  have hr' : InR js.length (ws ++ oc js od) := fun w hw => by
    rcases List.mem_append.1 hw with h | h
    · exact hr w h
    · exact oc_inR ho hj' w h
  have hm : (js.length + 1) * (ws ++ oc js od).length ≤ 9 * 124 := Nat.mul_le_mul (by omega) hlen
  have := n20o js e e2 od hn ho _ od.length 0 ws (eWs ws).isEmpty (by omega) (by omega) fun ec => n20f js e ec (ws ++ oc js od) hn _ (fun e1 => n20r js e ec (ws ++ oc js od) hr' hn hj' (by omega) e1 (js.length + 1) 0 (froms js) 0 (by omega) (by simp [froms]) (fun i hi => by rw [froms_at]; have := hj i; omega) (by omega)) js 0 true rfl
  simp only [gd1, hd1, tl1, dr0, dr1, dr2, dr3, dr4, dr5, dr6, bo1, in1, st1, ls1, le1, pt1, fi1, fb1, fs1, ct1, cf1, nt1, nf1, ak0, akT, akF, cdec, cndec, cbeq, cnbeq, ↓reduceIte, beq_self_eq_true, Int.reduceBEq, Int.reduceEq, Bool.and_true, Bool.true_and, Bool.false_and, Bool.and_false, hsm]
  exact this
end Go.Aev.Gen
