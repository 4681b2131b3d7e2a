/-
  The search for a schedule, as the program runs it.
-/
import Derived.Test.YtnfclphlpdbbpaaTEarly
set_option linter.unusedSimpArgs false
set_option linter.unusedVariables false
namespace Go.Aev.Gen
open Go Go.Aev
open Classical

def froms (js : List J) : List Int := js.map (·.f)
theorem froms_at {js : List J} (i : Int) : at' (froms js) i = (jat js i).f := by
  simp only [at', jat, froms, List.getD_eq_getElem?_getD, List.getElem?_map]
  cases js[i.toNat]? <;> rfl
theorem enc_set {d : List Int} {b : Int} (hb : 0 ≤ b ∧ b < (d.length : Int)) (v : Int) : storeIn b.toNat 0 [ti v] (enc d) = some (enc (d.set b.toNat v)) := by
  have h1 := enc_at hb
  simp only [storeIn, h1]
  simp [repl, enc, List.map_set]

/-! ### The earliest starts -/
abbrev bP (e : Bool) (js : List J) (fd : Bool) (la : Int) (x : T) (i : Nat) : Blk := Blk.box [LJ e js, AV.own (Id.c i), B fd, I la, AV.t x]
abbrev bW (ew : Bool) (ws : List W) : Blk := Blk.sl false 3 ew (eWs ws)
abbrev bD (ec : Bool) (d : List Int) : Blk := Blk.sl false 1 ec (enc d)
def resE (e : Bool) (js : List J) (ew : Bool) (ws : List W) (fd : Bool) (la : Int) (x : T) (ec : Bool) : Option (List Int) → List T
  | some d => [T.lst 1 ec (enc d), tb true, T.lst 3 e (eJs js), T.lst 3 ew (eWs ws), tb fd, ti la, x]
  | none => [T.emp true, tb false, T.lst 3 e (eJs js), T.lst 3 ew (eWs ws), tb fd, ti la, x]
def Bd (c : Nat) (d : List Int) : Prop := ∀ i : Int, 0 ≤ i → 0 ≤ at' d i ∧ at' d i ≤ 200 + 200 * (c : Int)
theorem relax_bd {n : Nat} {w : W} {p : List Int × Bool} {c : Nat} (hw : (0 ≤ w.a ∧ w.a < (n : Int)) ∧ (0 ≤ w.b ∧ w.b < (n : Int)) ∧ -200 ≤ w.y ∧ w.y ≤ 200) (hl : p.1.length = n) (h : Bd c p.1) : Bd (c + 1) (relax w p).1 := by
  intro i hi
  unfold relax
  split
  · rename_i hc
    show 0 ≤ at' (p.1.set w.b.toNat _) i ∧ _
    have hb : 0 ≤ w.b ∧ w.b < (p.1.length : Int) := by rw [hl]; exact hw.2.1
    rw [at_set hb _ i hi]
    have h1 := h w.a hw.1.1; have h2 := h w.b hb.1; have h3 := h i hi
    split <;> omega
  · have := h i hi
    omega

section
variable (js : List J) (e ew fd : Bool) (la : Int) (x : T) (ec : Bool) (ws : List W)
theorem n24w (hr : InR js.length ws) (hn : js.length ≤ 8) (hws : ws.length ≤ 1000) (t k : Nat) (ht : t ≤ 100) (cN : Nat)
    (ih : ∀ d : List Int, d.length = js.length → Bd cN d → Or K24n8m2 [r0, AV.own (Id.c 2), I ((js.length + 1 : Nat) : Int), I ((t + 1 : Nat) : Int)] [bP e js fd la x 1, bW ew ws, bD ec d] = some (resE e js ew ws fd la x ec (rounds ws k d))) :
    ∀ (rest : List W) (i : Nat) (p : List Int × Bool) (c : Nat), ws.drop i = rest → p.1.length = js.length → Bd c p.1 → c + rest.length ≤ cN → cN ≤ 100000 →
    Or K24n11m2 [r0, AV.own (Id.c 2), B p.2, I ((js.length + 1 : Nat) : Int), I (t : Int), AV.own (Id.c 1), I (ws.length : Int), I (i : Int)] [bP e js fd la x 1, bW ew ws, bD ec p.1] =
      some (resE e js ew ws fd la x ec (if (pass rest p).2 = true then rounds ws k (pass rest p).1 else some (pass rest p).1)) := by
  intro rest
  induction rest with
  | nil =>
    intro i p c h hl hb hc hN
    refine orc_of ?_
    rw [e24n11]
    have h1 : ¬ (i : Int) < (ws.length : Int) := by have := at_end h; omega
    have hb' : Bd cN p.1 := fun i hi => by have := hb i hi; simp only [List.length_nil] at hc; omega
    cases hp : p.2
    · simp only [gd1, hd1, tl1, dr0, dr1, dr2, dr3, dr4, dr5, dr6, bo1, in1, st1, ls1, le1, pt1, fi1, fb1, fs1, ct1, cf1, nt1, nf1, ak0, akT, akF, cdec, cndec, cbeq, cnbeq, ↓reduceIte, beq_self_eq_true, Int.reduceBEq, Int.reduceEq, Bool.and_true, Bool.true_and, Bool.false_and, Bool.and_false, h1, hp, pass, Bool.not_false, Bool.false_eq_true, resE]
    · simp only [gd1, hd1, tl1, dr0, dr1, dr2, dr3, dr4, dr5, dr6, bo1, in1, st1, ls1, le1, pt1, fi1, fb1, fs1, ct1, cf1, nt1, nf1, ak0, akT, akF, cdec, cndec, cbeq, cnbeq, ↓reduceIte, beq_self_eq_true, Int.reduceBEq, Int.reduceEq, Bool.and_true, Bool.true_and, Bool.false_and, Bool.and_false, h1, hp, pass, Bool.not_true, next t (by omega), ih p.1 hl hb']
  | cons w rest ihr =>
    intro i p c h hl hb hc hN
    obtain ⟨g1, g2, g3⟩ := at_drop h
    have h1 : (i : Int) < (ws.length : Int) := by omega
    have h0 : 0 ≤ (i : Int) := by omega
    have hw := hr w (List.mem_of_getElem? g1)
    have ha : 0 ≤ w.a ∧ w.a < (p.1.length : Int) := by rw [hl]; exact hw.1
    have hb2 : 0 ≤ w.b ∧ w.b < (p.1.length : Int) := by rw [hl]; exact hw.2.1
    have b1 := hb w.a ha.1
    simp only [List.length_cons] at hc
    have wv : IntKind.i64.wrap (at' p.1 w.a + w.y) = at' p.1 w.a + w.y := wr (by omega)
    have hstep := ihr (i + 1) (relax w p) (c + 1) g3 (by rw [relax_len]; exact hl) (relax_bd hw hl hb) (by omega) hN
    refine orc_of ?_
    rw [e24n11]
    rw [show pass (w :: rest) p = pass rest (relax w p) from rfl]
    by_cases hgt : at' p.1 w.a + w.y > at' p.1 w.b
    · have hrx : relax w p = (p.1.set w.b.toNat (at' p.1 w.a + w.y), true) := by unfold relax; rw [if_pos hgt]
      rw [hrx] at hstep ⊢
      simp only [gd1, hd1, tl1, dr0, dr1, dr2, dr3, dr4, dr5, dr6, bo1, in1, st1, ls1, le1, pt1, fi1, fb1, fs1, ct1, cf1, nt1, nf1, ak0, akT, akF, cdec, cndec, cbeq, cnbeq, ↓reduceIte, beq_self_eq_true, Int.reduceBEq, Int.reduceEq, Bool.and_true, Bool.true_and, Bool.false_and, Bool.and_false, h1, h0, and_self, eWs_len, eWs_get g1, enc_len, ha.1, ha.2, hb2.1, hb2.2, enc_at ha, enc_at hb2, wv, hgt, enc_set hb2, next i (by omega)]
      exact hstep
    · have hrx : relax w p = p := by unfold relax; rw [if_neg hgt]
      rw [hrx] at hstep ⊢
      simp only [gd1, hd1, tl1, dr0, dr1, dr2, dr3, dr4, dr5, dr6, bo1, in1, st1, ls1, le1, pt1, fi1, fb1, fs1, ct1, cf1, nt1, nf1, ak0, akT, akF, cdec, cndec, cbeq, cnbeq, ↓reduceIte, beq_self_eq_true, Int.reduceBEq, Int.reduceEq, Bool.and_true, Bool.true_and, Bool.false_and, Bool.and_false, h1, h0, and_self, eWs_len, eWs_get g1, enc_len, ha.1, ha.2, hb2.1, hb2.2, enc_at ha, enc_at hb2, wv, hgt, next i (by omega)]
      exact hstep
theorem n24r (hr : InR js.length ws) (hn : js.length ≤ 8) (hws : ws.length ≤ 1000) : ∀ (k t : Nat) (d : List Int) (c : Nat), t + k = js.length + 1 → d.length = js.length → Bd c d → c + k * ws.length ≤ 100000 →
    Or K24n8m2 [r0, AV.own (Id.c 2), I ((js.length + 1 : Nat) : Int), I (t : Int)] [bP e js fd la x 1, bW ew ws, bD ec d] = some (resE e js ew ws fd la x ec (rounds ws k d))
  | 0, t, d, c, ht, hl, hb, hc => by
    refine orc_of ?_
    rw [e24n8]
    have h1 : ¬ (t : Int) < ((js.length + 1 : Nat) : Int) := by omega
    simp only [gd1, hd1, tl1, dr0, dr1, dr2, dr3, dr4, dr5, dr6, bo1, in1, st1, ls1, le1, pt1, fi1, fb1, fs1, ct1, cf1, nt1, nf1, ak0, akT, akF, cdec, cndec, cbeq, cnbeq, ↓reduceIte, beq_self_eq_true, Int.reduceBEq, Int.reduceEq, Bool.and_true, Bool.true_and, Bool.false_and, Bool.and_false, h1, rounds, resE]
  | k + 1, t, d, c, ht, hl, hb, hc => by
    refine orc_of ?_
    rw [e24n8]
    have h1 : (t : Int) < ((js.length + 1 : Nat) : Int) := by omega
    have hm : (k + 1) * ws.length = k * ws.length + ws.length := Nat.succ_mul _ _
    have := n24w js e ew fd la x ec ws hr hn hws t k (by omega) (c + ws.length) (fun d' hl' hb' => n24r hr hn hws k (t + 1) d' (c + ws.length) (by omega) hl' hb' (by omega)) ws 0 (d, false) c rfl hl hb (Nat.le_refl _) (by omega)
    simp only [gd1, hd1, tl1, dr0, dr1, dr2, dr3, dr4, dr5, dr6, bo1, in1, st1, ls1, le1, pt1, fi1, fb1, fs1, ct1, cf1, nt1, nf1, ak0, akT, akF, cdec, cndec, cbeq, cnbeq, ↓reduceIte, beq_self_eq_true, Int.reduceBEq, Int.reduceEq, Bool.and_true, Bool.true_and, Bool.false_and, Bool.and_false, h1, eWs_len]
    exact this
theorem n24f (hr : InR js.length ws) (hn : js.length ≤ 8) (hws : ws.length ≤ 1000) (hf : ∀ i : Int, 0 ≤ (jat js i).f ∧ (jat js i).f ≤ 200) : ∀ (rest : List J) (i : Nat) (ec : Bool), js.drop i = rest →
    ∃ ec', Or K24n3m2 [r0, AV.own (Id.c 2), LJ e js, I (js.length : Int), I (i : Int)] [bP e js fd la x 1, bW ew ws, bD ec (froms (js.take i))] = some (resE e js ew ws fd la x ec' (rounds ws (js.length + 1) (froms js))) := by
  intro rest
  induction rest with
  | nil =>
    intro i ec h
    have h1 : ¬ (i : Int) < (js.length : Int) := by have := at_end h; omega
    have ht : js.take i = js := List.take_of_length_le (at_end h)
    refine ⟨ec, orc_of ?_⟩
    rw [e24n3]
    have hlen : ((js.length + 1) * ws.length) ≤ 9 * 1000 := Nat.mul_le_mul (by omega) hws
    have := n24r js e ew fd la x ec ws hr hn hws (js.length + 1) 0 (froms js) 0 (by omega) (by simp [froms]) (fun i hi => by rw [froms_at]; have := hf i; omega) (by omega)
    rw [ht]
    simp only [gd1, hd1, tl1, dr0, dr1, dr2, dr3, dr4, dr5, dr6, bo1, in1, st1, ls1, le1, pt1, fi1, fb1, fs1, ct1, cf1, nt1, nf1, ak0, akT, akF, cdec, cndec, cbeq, cnbeq, ↓reduceIte, beq_self_eq_true, Int.reduceBEq, Int.reduceEq, Bool.and_true, Bool.true_and, Bool.false_and, Bool.and_false, h1, eJs_len, next js.length (by omega)]
    exact this
  | cons j rest ih =>
    intro i ec h
    obtain ⟨g1, g2, g3⟩ := at_drop h
    have h1 : (i : Int) < (js.length : Int) := by omega
    have h0 : 0 ≤ (i : Int) := by omega
    obtain ⟨ec', e'⟩ := ih (i + 1) false g3
    refine ⟨ec', orc_of ?_⟩
    rw [e24n3]
    have hap : enc (froms (js.take i)) ++ [[ti j.f]] = enc (froms (js.take (i + 1))) := by
      rw [List.take_add_one, g1]; simp [enc, froms]
    have hs : small 8 ((enc (froms (js.take i))).length + [[ti j.f]].length) = some () := small_ok (by simp [enc, froms]; omega)
    simp only [gd1, hd1, tl1, dr0, dr1, dr2, dr3, dr4, dr5, dr6, bo1, in1, st1, ls1, le1, pt1, fi1, fb1, fs1, ct1, cf1, nt1, nf1, ak0, akT, akF, cdec, cndec, cbeq, cnbeq, ↓reduceIte, beq_self_eq_true, Int.reduceBEq, Int.reduceEq, Bool.and_true, Bool.true_and, Bool.false_and, Bool.and_false, h1, h0, and_self, eJs_len, eJs_get g1, hs, hap, next i (by omega)]
    exact e'
theorem s24 (hr : InR js.length ws) (hn : js.length ≤ 8) (hws : ws.length ≤ 1000) (hf : ∀ i : Int, 0 ≤ (jat js i).f ∧ (jat js i).f ≤ 200) :
    ∃ ec', Or (.call 24) [r0] [bP e js fd la x 1, bW ew ws] = some (resE e js ew ws fd la x ec' (rounds ws (js.length + 1) (froms js))) := by
  obtain ⟨ec', h⟩ := n24f js e ew fd la x ws hr hn hws hf js 0 true rfl
  refine ⟨ec', orc_of ?_⟩
  rw [e24, eJs_len]
  exact h
end

/-! ### The end -/
def spanL (ss : List Int) : List J → Nat → Int → Int
  | [], _, v => v
  | j :: r, i, v => spanL ss r (i + 1) (mm true v (at' ss i + j.l))
def span (js : List J) (ss : List Int) : Int := spanL ss js 0 0
theorem mm_max (a b : Int) : mm true a b = max a b := by simp only [mm, cond_true]; split <;> omega
theorem spanL_ge {ss : List Int} : ∀ {js : List J} {i : Nat} {v : Int}, v ≤ spanL ss js i v
  | [], _, v => Int.le_refl _
  | j :: js, i, v => by
    simp only [spanL]
    exact Int.le_trans (by rw [mm_max]; omega) spanL_ge
theorem spanL_mono {ss tt : List Int} : ∀ {js : List J} {i : Nat} {v u : Int}, v ≤ u → (∀ k : Int, 0 ≤ k → at' ss k ≤ at' tt k) → spanL ss js i v ≤ spanL tt js i u
  | [], _, _, _, h, _ => h
  | j :: js, i, v, u, h, hk => by
    simp only [spanL]
    refine spanL_mono ?_ hk
    have := hk i (by omega)
    rw [mm_max, mm_max]; omega
theorem spanL_less {ss : List Int} : ∀ {js js' : List J} {i : Nat} {v u : Int}, v ≤ u → js.length = js'.length → (∀ k, (js.getD k default).l ≤ (js'.getD k default).l) → spanL ss js i v ≤ spanL ss js' i u
  | [], [], _, _, _, h, _, _ => h
  | j :: js, j' :: js', i, v, u, h, hl, hk => by
    simp only [spanL]
    have := hk 0
    simp only [List.getD_cons_zero] at this
    refine spanL_less ?_ (by simpa using hl) fun k => by simpa using hk (k + 1)
    rw [mm_max, mm_max]; omega
theorem n25 (js : List J) (e e2 : Bool) (ss : List Int) (hn : js.length ≤ 8) (hl : ss.length = js.length) (hm : Mild ss) (hj : ∀ i : Int, 0 ≤ (jat js i).l ∧ (jat js i).l ≤ 200) : ∀ (rest : List J) (i : Nat) (v : Int), js.drop i = rest →
    Or K25n3 [lst e2 ss, I v, LJ e js, I (js.length : Int), I (i : Int)] [] = some [ti (spanL ss rest i v)] := by
  intro rest
  induction rest with
  | nil =>
    intro i v h
    have h1 : ¬ (i : Int) < (js.length : Int) := by have := at_end h; omega
    refine orc_of ?_
    rw [e25n3]
    simp only [gd1, hd1, tl1, dr0, dr1, dr2, dr3, dr4, dr5, dr6, bo1, in1, st1, ls1, le1, pt1, fi1, fb1, fs1, ct1, cf1, nt1, nf1, ak0, akT, akF, cdec, cndec, cbeq, cnbeq, ↓reduceIte, beq_self_eq_true, Int.reduceBEq, Int.reduceEq, Bool.and_true, Bool.true_and, Bool.false_and, Bool.and_false, h1, spanL]
  | cons j rest ih =>
    intro i v h
    obtain ⟨g1, g2, g3⟩ := at_drop h
    have h1 : (i : Int) < (js.length : Int) := by omega
    have h0 : 0 ≤ (i : Int) := by omega
    have si : (i : Int) < (ss.length : Int) := by omega
    have hai := enc_at (l := ss) (i := (i : Int)) ⟨h0, si⟩
    have hji : jat js i = j := by simp [jat, List.getD_eq_getElem?_getD, g1]
    have b1 := hm i; have b2 := hj i
    rw [hji] at b2
    have w1 : IntKind.i64.wrap (at' ss i + j.l) = at' ss i + j.l := wr (by omega)
    refine orc_of ?_
    rw [e25n3]
    simp only [gd1, hd1, tl1, dr0, dr1, dr2, dr3, dr4, dr5, dr6, bo1, in1, st1, ls1, le1, pt1, fi1, fb1, fs1, ct1, cf1, nt1, nf1, ak0, akT, akF, cdec, cndec, cbeq, cnbeq, ↓reduceIte, beq_self_eq_true, Int.reduceBEq, Int.reduceEq, Bool.and_true, Bool.true_and, Bool.false_and, Bool.and_false, h1, h0, si, and_self, eJs_len, eJs_get g1, enc_len, hai, w1, next i (by omega), ih (i + 1) _ g3, spanL]
theorem s25 (js : List J) (e e2 e' fd : Bool) (ws : List (List T)) (la : Int) (e4 : Bool) (x4 : List (List T)) (ss : List Int) (hn : js.length ≤ 8) (hl : ss.length = js.length) (hm : Mild ss) (hj : ∀ i : Int, 0 ≤ (jat js i).l ∧ (jat js i).l ≤ 200) :
    Or (.call 25) [AV.t (T.ptr [T.lst 3 e (eJs js), T.lst 3 e' ws, tb fd, ti la, T.lst 1 e4 x4]), lst e2 ss] [] = some [ti (span js ss)] := by
  refine orc_of ?_
  rw [e25, eJs_len]
  exact n25 js e e2 ss hn hl hm hj js 0 0 rfl
theorem n13 (js : List J) (e e2 : Bool) (ss : List Int) (hn : js.length ≤ 8) (hl : ss.length = js.length) (hm : Mild ss) (hj : ∀ i : Int, 0 ≤ (jat js i).l ∧ (jat js i).l ≤ 200) : ∀ (rest : List J) (i : Nat) (v : Int), js.drop i = rest →
    Or K13n3 [LJ e js, lst e2 ss, I v, I (i : Int)] [] = some [ti (spanL ss rest i v)] := by
  intro rest
  induction rest with
  | nil =>
    intro i v h
    have h1 : ¬ (i : Int) < (js.length : Int) := by have := at_end h; omega
    refine orc_of ?_
    rw [e13n3]
    simp only [gd1, hd1, tl1, dr0, dr1, dr2, dr3, dr4, dr5, dr6, bo1, in1, st1, ls1, le1, pt1, fi1, fb1, fs1, ct1, cf1, nt1, nf1, ak0, akT, akF, cdec, cndec, cbeq, cnbeq, ↓reduceIte, beq_self_eq_true, Int.reduceBEq, Int.reduceEq, Bool.and_true, Bool.true_and, Bool.false_and, Bool.and_false, h1, spanL, eJs_len]
  | cons j rest ih =>
    intro i v h
    obtain ⟨g1, g2, g3⟩ := at_drop h
    have h1 : (i : Int) < (js.length : Int) := by omega
    have h0 : 0 ≤ (i : Int) := by omega
    have si : (i : Int) < (ss.length : Int) := by omega
    have hai := enc_at (l := ss) (i := (i : Int)) ⟨h0, si⟩
    have hji : jat js i = j := by simp [jat, List.getD_eq_getElem?_getD, g1]
    have b1 := hm i; have b2 := hj i
    rw [hji] at b2
    have w1 : IntKind.i64.wrap (at' ss i + j.l) = at' ss i + j.l := wr (by omega)
    refine orc_of ?_
    rw [e13n3]
    simp only [gd1, hd1, tl1, dr0, dr1, dr2, dr3, dr4, dr5, dr6, bo1, in1, st1, ls1, le1, pt1, fi1, fb1, fs1, ct1, cf1, nt1, nf1, ak0, akT, akF, cdec, cndec, cbeq, cnbeq, ↓reduceIte, beq_self_eq_true, Int.reduceBEq, Int.reduceEq, Bool.and_true, Bool.true_and, Bool.false_and, Bool.and_false, h1, h0, si, and_self, eJs_len, eJs_get g1, enc_len, hai, w1, next i (by omega), ih (i + 1) _ g3, spanL]
theorem s13 (js : List J) (e e2 : Bool) (ss : List Int) (hn : js.length ≤ 8) (hl : ss.length = js.length) (hm : Mild ss) (hj : ∀ i : Int, 0 ≤ (jat js i).l ∧ (jat js i).l ≤ 200) : Or (.call 13) [LJ e js, lst e2 ss] [] = some [ti (span js ss)] := by
  refine orc_of ?_
  rw [e13]
  exact n13 js e e2 ss hn hl hm hj js 0 0 rfl

/-! ### Two jobs that overlap -/
def Found (js : List J) (ss : List Int) (k i : Int) (b : Bool) : Prop := (b = true → ∃ i' k' : Nat, i = i' ∧ k = k' ∧ k' < i' ∧ i' < js.length ∧ Over js ss i' k') ∧ (b = false → ∀ i' k' : Nat, i' < js.length → k' < i' → ¬ Over js ss i' k')
section
variable (js : List J) (e e2 e' fd : Bool) (ws : List (List T)) (la : Int) (e4 : Bool) (x4 : List (List T)) (ss : List Int)
abbrev pT : AV := AV.t (T.ptr [T.lst 3 e (eJs js), T.lst 3 e' ws, tb fd, ti la, T.lst 1 e4 x4])
theorem n26k (hn : js.length ≤ 8) (hl : ss.length = js.length) (hm : Mild ss) (hj : ∀ i : Int, 0 ≤ (jat js i).l ∧ (jat js i).l ≤ 200) (i : Nat) (hi : i < js.length) (hb : ∀ i' k' : Nat, i' < i → k' < i' → ¬ Over js ss i' k')
    (hnext : (∀ i' k' : Nat, i' < i + 1 → k' < i' → ¬ Over js ss i' k') → ∃ (a c : Int) (b : Bool), Or K26n2 [pT js e e' fd ws la e4 x4, lst e2 ss, LJ e js, I (js.length : Int), I ((i + 1 : Nat) : Int)] [] = some [ti a, ti c, tb b] ∧ Found js ss a c b) : ∀ (r k : Nat), k + r = i → (∀ k', k' < k → ¬ Over js ss i k') →
    ∃ (a c : Int) (b : Bool), Or K26n5 [pT js e e' fd ws la e4 x4, lst e2 ss, I (i : Int), r0, LJ e js, I (js.length : Int), I (i : Int), LJ e (js.take i), I (i : Int), I (k : Int)] [bJ (jat js i)] = some [ti a, ti c, tb b] ∧ Found js ss a c b
  | 0, k, hk, hbk => by
    obtain ⟨a, c, b, h, hf⟩ := hnext fun i' k' h1 h2 => by
      by_cases e : i' = i
      · subst e; exact hbk k' (by omega)
      · exact hb i' k' (by omega) h2
    refine ⟨a, c, b, orc_of ?_, hf⟩
    rw [e26n5]
    have h1 : ¬ (k : Int) < (i : Int) := by omega
    simp only [gd1, hd1, tl1, dr0, dr1, dr2, dr3, dr4, dr5, dr6, bo1, in1, st1, ls1, le1, pt1, fi1, fb1, fs1, ct1, cf1, nt1, nf1, ak0, akT, akF, cdec, cndec, cbeq, cnbeq, ↓reduceIte, beq_self_eq_true, Int.reduceBEq, Int.reduceEq, Bool.and_true, Bool.true_and, Bool.false_and, Bool.and_false, h1, next i (by omega), h]
  | r + 1, k, hk, hbk => by
    have h1 : (k : Int) < (i : Int) := by omega
    have h0 : 0 ≤ (k : Int) := by omega
    have hgk : (eJs (js.take i))[((k : Nat) : Int).toNat]? = some [ti (jat js k).l, ti (jat js k).m, ti (jat js k).f] := by
      have hlt : k < js.length := by omega
      have hki : k < i := by omega
      have : (js.take i)[k]? = some (jat js k) := by
        simp [List.getElem?_take, hki, jat, List.getD_eq_getElem?_getD, hlt]
      exact eJs_get this
    have hlen : ((eJs (js.take i)).length : Int) = (i : Int) := by rw [eJs_len, List.length_take]; omega
    have hai := enc_at (l := ss) (i := (i : Int)) ⟨by omega, by omega⟩
    have hak := enc_at (l := ss) (i := (k : Int)) ⟨by omega, by omega⟩
    have hi1 : (0 : Int) ≤ (i : Int) := by omega
    have hi2 : (i : Int) < (ss.length : Int) := by omega
    have hk2 : (k : Int) < (ss.length : Int) := by omega
    have b1 := hj i; have b2 := hj k; have b3 := hm i; have b4 := hm k
    have w1 : IntKind.i64.wrap (at' ss i + (jat js i).l) = at' ss i + (jat js i).l := wr (by omega)
    have w2 : IntKind.i64.wrap (at' ss k + (jat js k).l) = at' ss k + (jat js k).l := wr (by omega)
    have h21 := s21 (jat js i) (jat js k)
    by_cases ho : Over js ss i k
    · have ho' : (Riv (jat js i) (jat js k) ∧ at' ss i + (jat js i).l > at' ss k) ∧ at' ss k + (jat js k).l > at' ss i := ho
      refine ⟨k, i, true, orc_of ?_, ⟨fun _ => ⟨i, k, rfl, rfl, by omega, hi, ho⟩, fun h => by cases h⟩⟩
      rw [e26n5]
      simp only [cand]
      simp only [gd1, hd1, tl1, dr0, dr1, dr2, dr3, dr4, dr5, dr6, bo1, in1, st1, ls1, le1, pt1, fi1, fb1, fs1, ct1, cf1, nt1, nf1, ak0, akT, akF, cdec, cndec, cbeq, cnbeq, ↓reduceIte, beq_self_eq_true, Int.reduceBEq, Int.reduceEq, Bool.and_true, Bool.true_and, Bool.false_and, Bool.and_false, h1, h0, and_self, hlen, hgk, h21, enc_len, hai, hak, hi1, hi2, hk2]
      simp only [← Bool.decide_and, w1, w2]
      simp only [gd1, hd1, tl1, dr0, dr1, dr2, dr3, dr4, dr5, dr6, bo1, in1, st1, ls1, le1, pt1, fi1, fb1, fs1, ct1, cf1, nt1, nf1, ak0, akT, akF, cdec, cndec, cbeq, cnbeq, ↓reduceIte, beq_self_eq_true, Int.reduceBEq, Int.reduceEq, Bool.and_true, Bool.true_and, Bool.false_and, Bool.and_false, ho', and_self]
    · have ho' : ¬ ((Riv (jat js i) (jat js k) ∧ at' ss i + (jat js i).l > at' ss k) ∧ at' ss k + (jat js k).l > at' ss i) := ho
      obtain ⟨a, c, b, h, hf⟩ := n26k hn hl hm hj i hi hb hnext r (k + 1) (by omega) (fun k' hk' => by
        by_cases e : k' = k
        · subst e; exact ho
        · exact hbk k' (by omega))
      refine ⟨a, c, b, orc_of ?_, hf⟩
      rw [e26n5]
      simp only [cand]
      simp only [gd1, hd1, tl1, dr0, dr1, dr2, dr3, dr4, dr5, dr6, bo1, in1, st1, ls1, le1, pt1, fi1, fb1, fs1, ct1, cf1, nt1, nf1, ak0, akT, akF, cdec, cndec, cbeq, cnbeq, ↓reduceIte, beq_self_eq_true, Int.reduceBEq, Int.reduceEq, Bool.and_true, Bool.true_and, Bool.false_and, Bool.and_false, h1, h0, and_self, hlen, hgk, h21, enc_len, hai, hak, hi1, hi2, hk2]
      simp only [← Bool.decide_and, w1, w2]
      simp only [ho', decide_false]
      simp only [gd1, hd1, tl1, dr0, dr1, dr2, dr3, dr4, dr5, dr6, bo1, in1, st1, ls1, le1, pt1, fi1, fb1, fs1, ct1, cf1, nt1, nf1, ak0, akT, akF, cdec, cndec, cbeq, cnbeq, ↓reduceIte, beq_self_eq_true, Int.reduceBEq, Int.reduceEq, Bool.and_true, Bool.true_and, Bool.false_and, Bool.and_false, next k (by omega), h]
theorem n26 (hn : js.length ≤ 8) (hl : ss.length = js.length) (hm : Mild ss) (hj : ∀ i : Int, 0 ≤ (jat js i).l ∧ (jat js i).l ≤ 200) : ∀ (r i : Nat), i + r = js.length → (∀ i' k' : Nat, i' < i → k' < i' → ¬ Over js ss i' k') →
    ∃ (a c : Int) (b : Bool), Or K26n2 [pT js e e' fd ws la e4 x4, lst e2 ss, LJ e js, I (js.length : Int), I (i : Int)] [] = some [ti a, ti c, tb b] ∧ Found js ss a c b
  | 0, i, hi, hb => by
    refine ⟨0, 0, false, orc_of ?_, ⟨fun h => (by cases h), fun _ i' k' h1 h2 => hb i' k' (by omega) h2⟩⟩
    rw [e26n2]
    have h1 : ¬ (i : Int) < (js.length : Int) := by omega
    simp only [gd1, hd1, tl1, dr0, dr1, dr2, dr3, dr4, dr5, dr6, bo1, in1, st1, ls1, le1, pt1, fi1, fb1, fs1, ct1, cf1, nt1, nf1, ak0, akT, akF, cdec, cndec, cbeq, cnbeq, ↓reduceIte, beq_self_eq_true, Int.reduceBEq, Int.reduceEq, Bool.and_true, Bool.true_and, Bool.false_and, Bool.and_false, h1]
  | r + 1, i, hi, hb => by
    obtain ⟨a, c, b, h, hf⟩ := n26k js e e2 e' fd ws la e4 x4 ss hn hl hm hj i (by omega) hb (fun h => n26 hn hl hm hj r (i + 1) (by omega) h) i 0 (by omega) (by omega)
    refine ⟨a, c, b, orc_of ?_, hf⟩
    rw [e26n2]
    have h1 : (i : Int) < (js.length : Int) := by omega
    have h0 : 0 ≤ (i : Int) := by omega
    have haj := eJs_at (l := js) (i := (i : Int)) ⟨by omega, by omega⟩
    have hin : inB 0 (i : Int) (js.length : Int) = some () := inB_ok (by omega)
    have hsub : sub 0 (i : Int) (eJs js) = eJs (js.take i) := by simp [sub, eJs, List.map_take]
    simp only [gd1, hd1, tl1, dr0, dr1, dr2, dr3, dr4, dr5, dr6, bo1, in1, st1, ls1, le1, pt1, fi1, fb1, fs1, ct1, cf1, nt1, nf1, ak0, akT, akF, cdec, cndec, cbeq, cnbeq, ↓reduceIte, beq_self_eq_true, Int.reduceBEq, Int.reduceEq, Bool.and_true, Bool.true_and, Bool.false_and, Bool.and_false, h1, h0, and_self, eJs_len, haj, hin, hsub]
    rw [show (((js.take i).length : Nat) : Int) = (i : Int) from by rw [List.length_take]; omega]
    exact h
theorem s26 (hn : js.length ≤ 8) (hl : ss.length = js.length) (hm : Mild ss) (hj : ∀ i : Int, 0 ≤ (jat js i).l ∧ (jat js i).l ≤ 200) :
    ∃ (a c : Int) (b : Bool), Or (.call 26) [pT js e e' fd ws la e4 x4, lst e2 ss] [] = some [ti a, ti c, tb b] ∧ Found js ss a c b := by
  obtain ⟨a, c, b, h, hf⟩ := n26 js e e2 e' fd ws la e4 x4 ss hn hl hm hj js.length 0 (by omega) (by omega)
  refine ⟨a, c, b, orc_of ?_, hf⟩
  rw [e26, eJs_len]
  exact h
end
end Go.Aev.Gen
