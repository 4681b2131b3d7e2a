/-
  The variable of a rest of a heap; the clauses.
-/
import Derived.Test.YtcjfkgkobblonaaHCSort
import Derived.Test.YtcjfkgkobblonaaHCall
set_option linter.unusedSimpArgs false
set_option linter.unusedVariables false
namespace Go.Aev.Gen
open Go Go.Aev Go.Aev.Hp Go.RowKit

def encC (cl : List (List Int)) : List (List T) := cl.map fun l => [tm l]
def encM (es : List ((Int × Int) × Int)) : List (List T × T) := es.map fun p => ([ti p.1.1, ti p.1.2], ti p.2)
/-- The number of variables, the clauses, the variables that are known. -/
structure NS where
  n : Int
  cl : List (List Int)
  es : List ((Int × Int) × Int)
abbrev nb (e f em : Bool) (h : Hp) (m : List Int) (s : NS) : List Blk :=
  [Blk.box [lst e h.ls, lst f h.os, I h.at_, I s.n, AV.own (Id.c 1), AV.own (Id.c 2), AV.own (Id.c 3)], Blk.sl false 1 s.cl.isEmpty (encC s.cl), Blk.mp true [.i .i64, .i .i64] (.i .i64) (encM s.es), Blk.sl false 1 em (enc m)]
abbrev na (e f em : Bool) (h : Hp) (m : List Int) (s : NS) : List T :=
  [T.lst 1 e (enc h.ls), T.lst 1 f (enc h.os), ti h.at_, ti s.n, T.lst 1 s.cl.isEmpty (encC s.cl), T.nilp, T.lst 1 em (enc m), encE (encM s.es)]
def NS.add (s : NS) (c : List Int) : NS := { s with cl := s.cl ++ [srt c] }
theorem encC_len (cl : List (List Int)) : (encC cl).length = cl.length := by simp [encC]

theorem decEs_enc : ∀ (es : List (List T × T)), decEs (es.map fun p => [.ptr p.1, p.2]) = some es
  | [] => rfl
  | (k, v) :: r => by
    show (decEs (r.map fun p => [.ptr p.1, p.2])).bind _ = _
    rw [decEs_enc r]; rfl
theorem decE_enc (es : List (List T × T)) : decE (encE es) = some es := decEs_enc es
def lookM (k : Int × Int) : List ((Int × Int) × Int) → Option Int
  | [] => none
  | (p, v) :: r => if k = p then some v else lookM k r
theorem look_cons (k p : Int × Int) (v : Int) (r : List ((Int × Int) × Int)) : lookM k ((p, v) :: r) = if k = p then some v else lookM k r := rfl
theorem eqTs2 (a b c d : Int) : eqTs [ti a, ti b] [ti c, ti d] = decide ((a, b) = (c, d)) := by
  show ((a == c) && ((b == d) && true)) = _
  by_cases h1 : a = c <;> by_cases h2 : b = d <;> simp [h1, h2]
theorem find_enc (i a : Int) : ∀ (es : List ((Int × Int) × Int)), findM [ti i, ti a] (encM es) = (lookM (i, a) es).map fun v => ti v
  | [] => rfl
  | ((j, b), v) :: r => by
    have ih := find_enc i a r
    show cond (eqTs [ti i, ti a] [ti j, ti b]) (some (ti v)) (findM [ti i, ti a] (encM r)) = _
    rw [eqTs2, ih, look_cons]
    by_cases h : (i, a) = (j, b)
    · rw [decide_eq_true h, if_pos h]; rfl
    · rw [decide_eq_false h, if_neg h]; rfl
theorem put_enc (i a v : Int) : ∀ (es : List ((Int × Int) × Int)), lookM (i, a) es = none → putM [ti i, ti a] (ti v) (encM es) = encM (es ++ [((i, a), v)])
  | [], _ => rfl
  | ((j, b), u) :: r, h => by
    rw [look_cons] at h
    by_cases c : (i, a) = (j, b)
    · rw [if_pos c] at h; cases h
    · rw [if_neg c] at h
      have ih := put_enc i a v r h
      show cond (eqTs [ti i, ti a] [ti j, ti b]) _ (([ti j, ti b], ti u) :: putM [ti i, ti a] (ti v) (encM r)) = _
      rw [eqTs2, decide_eq_false c, ih]; rfl

theorem s38 (e f em : Bool) (h : Hp) (m : List Int) (s : NS) (k : List Int) (hk : k.length ≤ 3) (hb : ∀ x ∈ k, Bd x) (hc : s.cl.length ≤ 10000) :
    Or (.call 38) [r0, AV.t (tm k)] (nb e f em h m s) = some (na e f em h m (s.add k)) := by
  have h4 := s44 k hk hb
  refine orc_of ?_
  unfold tm at h4 ⊢
  rw [e38]
  have hs : small 24 ((encC s.cl).length + ([[T.lst 1 (srt k).isEmpty (enc (srt k))]] : List (List T)).length) = some () := small_ok (by rw [encC_len]; simp; omega)
  simp only [gd1, hd1, tl1, dr0, dr1, dr2, dr3, dr4, dr5, dr6, bo1, in1, st1, ls1, le1, pt1, fi1, fb1, fs1, ct1, cf1, nt1, nf1, ak0, akT, akF, cdec, cndec, cbeq, cnbeq, ↓reduceIte, beq_self_eq_true, Int.reduceBEq, Int.reduceEq, Bool.and_true, Bool.true_and, Bool.false_and, Bool.and_false, h4, hs]
  have e1 : (s.cl.isEmpty && false) = (s.add k).cl.isEmpty := by
    unfold NS.add; cases s.cl <;> rfl
  have e2 : encC s.cl ++ [[T.lst 1 (srt k).isEmpty (enc (srt k))]] = encC (s.add k).cl := by
    simp [encC, NS.add, tm]
  rw [Bool.and_false] at e1
  simp only [Bool.and_false, e2]
  rw [e1]
  rfl

def sumO : List (Int × Int) → Int
  | [] => 0
  | x :: r => x.2 + sumO r
def step (s : NS) (v l : Int) (r : Int × Bool) : NS := if r.2 = false then s.add [-v, l, r.1] else if r.1 < 0 then s.add [-v, l] else s
def nodeF : List (Int × Int) → Int → Int → NS → (Int × Bool) × NS
  | [], _, a, s => if a ≤ 0 then ((1, true), s) else ((-1, true), s)
  | (l, o) :: r, i, a, s =>
    if a ≤ 0 then ((1, true), s) else if o + sumO r < a then ((-1, true), s) else if s.n > 120 then ((1, true), s) else
    match lookM (i, a) s.es with
    | some v => ((v, false), s)
    | none =>
      let p := nodeF r (i + 1) (a - o) ⟨s.n + 1, s.cl, s.es ++ [((i, a), s.n + 1)]⟩
      let q := nodeF r (i + 1) a (step p.2 (s.n + 1) (-l) p.1)
      ((s.n + 1, false), step q.2 (s.n + 1) l q.1)

structure Inv (s : NS) : Prop where
  n : 0 ≤ s.n ∧ s.n ≤ 121
  cl : (s.cl.length : Int) ≤ 2 * s.n
  es : ∀ p ∈ s.es, 1 ≤ p.2 ∧ p.2 ≤ s.n
theorem lookM_mem {k : Int × Int} {v : Int} : ∀ {es : List ((Int × Int) × Int)}, lookM k es = some v → (k, v) ∈ es
  | [], h => by cases h
  | (p, u) :: r, h => by
    unfold lookM at h
    by_cases c : k = p
    · rw [if_pos c] at h; cases h; subst c; exact List.mem_cons_self ..
    · rw [if_neg c] at h; exact List.mem_cons_of_mem _ (lookM_mem h)
/-- What a call leaves: no less than there was, and few enough clauses. -/
structure Out (s : NS) (r : (Int × Bool) × NS) : Prop where
  es : ∀ p ∈ r.2.es, 1 ≤ p.2 ∧ p.2 ≤ r.2.n
  n : s.n ≤ r.2.n ∧ r.2.n ≤ 121
  cl : (r.2.cl.length : Int) + 2 * s.n ≤ s.cl.length + 2 * r.2.n
  c : r.1.2 = true → r.1.1 = 1 ∨ r.1.1 = -1
  v : r.1.2 = false → 1 ≤ r.1.1 ∧ r.1.1 ≤ r.2.n
theorem Inv.out {s : NS} (h : Inv s) {r : (Int × Bool) × NS} (o : Out s r) : Inv r.2 := ⟨⟨by have := h.n; have := o.n; omega, o.n.2⟩, by have := h.cl; have := o.cl; omega, o.es⟩
theorem step_n (s : NS) (v l : Int) (r : Int × Bool) : (step s v l r).n = s.n ∧ (step s v l r).es = s.es ∧ (step s v l r).cl.length ≤ s.cl.length + 1 := by
  unfold step NS.add
  split
  · simp
  · split <;> simp
theorem nodeF_out : ∀ (rem : List (Int × Int)) (i a : Int) (s : NS), Inv s → Out s (nodeF rem i a s)
  | [], i, a, s, h => by
    unfold nodeF
    split
    · exact ⟨h.es, ⟨Int.le_refl _, h.n.2⟩, Int.le_refl _, by simp, by simp⟩
    · exact ⟨h.es, ⟨Int.le_refl _, h.n.2⟩, Int.le_refl _, by simp, by simp⟩
  | (l, o) :: r, i, a, s, h => by
    unfold nodeF
    split
    · exact ⟨h.es, ⟨Int.le_refl _, h.n.2⟩, Int.le_refl _, by simp, by simp⟩
    · split
      · exact ⟨h.es, ⟨Int.le_refl _, h.n.2⟩, Int.le_refl _, by simp, by simp⟩
      · split
        · exact ⟨h.es, ⟨Int.le_refl _, h.n.2⟩, Int.le_refl _, by simp, by simp⟩
        · rename_i h120
          split
          · rename_i v hv
            exact ⟨h.es, ⟨Int.le_refl _, h.n.2⟩, Int.le_refl _, by simp, fun _ => h.es _ (lookM_mem hv)⟩
          · have h1 : Inv ⟨s.n + 1, s.cl, s.es ++ [((i, a), s.n + 1)]⟩ := by
              have := h.n
              refine ⟨by simp only; omega, by have := h.cl; simp only; omega, ?_⟩
              intro p hp
              simp only [List.mem_append, List.mem_singleton] at hp
              rcases hp with hp | rfl
              · have := h.es p hp; simp only; omega
              · simp only; omega
            have o1 := nodeF_out r (i + 1) (a - o) _ h1
            dsimp only
            generalize nodeF r (i + 1) (a - o) { n := s.n + 1, cl := s.cl, es := s.es ++ [((i, a), s.n + 1)] } = p at *
            have i1 := h1.out o1
            have t1 := step_n p.2 (s.n + 1) (-l) p.1
            have i2 : Inv (step p.2 (s.n + 1) (-l) p.1) := by
              have hn := o1.n
              have hcl := o1.cl
              have := h.cl
              have := h.n
              simp only at hn hcl
              refine ⟨by rw [t1.1]; exact i1.n, by rw [t1.1]; omega, by rw [t1.1, t1.2.1]; exact i1.es⟩
            have o2 := nodeF_out r (i + 1) a _ i2
            generalize nodeF r (i + 1) a (step p.2 (s.n + 1) (-l) p.1) = q at *
            have t2 := step_n q.2 (s.n + 1) l q.1
            have hn1 := o1.n
            have hcl1 := o1.cl
            have hn2 := o2.n
            have hcl2 := o2.cl
            simp only at hn1 hcl1
            rw [t1.1] at hn2 hcl2
            have := h.n
            refine ⟨by simp only; rw [t2.1, t2.2.1]; exact o2.es, by simp only; rw [t2.1]; omega, by simp only; rw [t2.1]; omega, by simp, fun _ => by simp only; rw [t2.1]; omega⟩

/-- The list of the sums of the weights from each one on. -/
def sufs : List Int → List Int
  | [] => [0]
  | o :: r => (o + (sufs r).headD 0) :: sufs r
def sumI : List Int → Int
  | [] => 0
  | o :: r => o + sumI r
theorem sufs_head : ∀ (os : List Int), (sufs os).headD 0 = sumI os
  | [] => rfl
  | o :: r => by simp only [sufs, List.headD_cons, sumI, sufs_head r]
theorem sufs_get : ∀ (os : List Int) (i : Nat), i ≤ os.length → (sufs os)[i]? = some (sumI (os.drop i))
  | [], i, h => by
    have : i = 0 := by simpa using h
    subst this; rfl
  | o :: r, 0, _ => by simp only [sufs, List.getElem?_cons_zero, List.drop_zero, sumI, sufs_head]
  | o :: r, i + 1, h => by
    simp only [sufs, List.getElem?_cons_succ, List.drop_succ_cons]
    exact sufs_get r i (by simpa using h)
theorem sufs_len : ∀ (os : List Int), (sufs os).length = os.length + 1
  | [] => rfl
  | o :: r => by simp only [sufs, List.length_cons, sufs_len r]
theorem sumO_zip : ∀ (ls os : List Int), ls.length = os.length → sumO (ls.zip os) = sumI os
  | [], [], _ => rfl
  | [], o :: os, h => by simp at h
  | l :: ls, [], h => by simp at h
  | l :: ls, o :: os, h => by simp only [List.zip_cons_cons, sumO, sumI, sumO_zip ls os (by simpa using h)]
theorem sumI_bd : ∀ (os : List Int), (∀ o ∈ os, 0 < o ∧ o ≤ 1000000) → 0 ≤ sumI os ∧ sumI os ≤ 1000000 * (os.length : Int)
  | [], _ => by simp [sumI]
  | o :: os, h => by
    have := sumI_bd os fun x hx => h x (List.mem_cons_of_mem _ hx)
    have := h o (List.mem_cons_self ..)
    simp only [sumI, List.length_cons]; omega

theorem step_case {s : NS} {v l : Int} {r : Int × Bool} (P : NS → Prop) (h1 : r.2 = false → P (s.add [-v, l, r.1])) (h2 : r.2 = true → r.1 < 0 → P (s.add [-v, l])) (h3 : r.2 = true → ¬ r.1 < 0 → P s) : P (step s v l r) := by
  unfold step
  split
  · rename_i h; exact h1 h
  · rename_i h
    split
    · rename_i g; exact h2 (by simpa using h) g
    · rename_i g; exact h3 (by simpa using h) g

theorem dr7 {α : Type} (a b c d e f g : α) (l : List α) : (a :: b :: c :: d :: e :: f :: g :: l).drop 7 = l := by cases l <;> rfl
abbrev nb2 (e f em : Bool) (h : Hp) (m : List Int) (s : NS) : List Blk :=
  [Blk.box [lst e h.ls, lst f h.os, I h.at_, I s.n, AV.own (Id.c 5), AV.own (Id.c 2), AV.own (Id.c 6)], Blk.dead, Blk.mp true [.i .i64, .i .i64] (.i .i64) (encM s.es), Blk.dead, Blk.sl false 1 false [[ti 1], [ti 0]], Blk.sl false 1 s.cl.isEmpty (encC s.cl), Blk.sl false 1 em (enc m)]
abbrev nb1 (e f em : Bool) (h : Hp) (m : List Int) (s : NS) : List Blk :=
  [Blk.box [lst e h.ls, lst f h.os, I h.at_, I s.n, AV.own (Id.c 1), AV.own (Id.c 2), AV.own (Id.c 3)], Blk.sl false 1 s.cl.isEmpty (encC s.cl), Blk.mp true [.i .i64, .i .i64] (.i .i64) (encM s.es), Blk.sl false 1 em (enc m), Blk.sl false 1 false [[ti 1], [ti 0]]]
theorem n37_2 (e f em : Bool) (h : Hp) (m : List Int) (s : NS) (i a v : Int) :
    Or K37n14m4 [r0, I i, I a, I v, AV.own (Id.c 4), I 2, I 2] (nb2 e f em h m s) = some (ti v :: tb false :: na e f em h m s) := by
  refine orc_of ?_
  rw [e37n14s2]
  have c : ¬ (2 : Int) < 2 := by omega
  simp only [gd1, hd1, tl1, dr0, dr1, dr2, dr3, dr4, dr5, dr6, bo1, in1, st1, ls1, le1, pt1, fi1, fb1, fs1, ct1, cf1, nt1, nf1, ak0, akT, akF, cdec, cndec, cbeq, cnbeq, ↓reduceIte, beq_self_eq_true, Int.reduceBEq, Int.reduceEq, Bool.and_true, Bool.true_and, Bool.false_and, Bool.and_false, c]
section
variable {e f em : Bool} {h : Hp} {m : List Int} {i a v l o : Int} {k : Nat}

theorem s38v {s : NS} {c1 c2 c3 : Int} (b1 : Bd c1) (b2 : Bd c2) (b3 : Bd c3) (hc : s.cl.length ≤ 10000) : Or (.call 38) [r0, AV.t (T.lst 1 false [[ti c1], [ti c2], [ti c3]])] (nb e f em h m s) = some (na e f em h m (s.add [c1, c2, c3])) :=
  s38 e f em h m s [c1, c2, c3] (by simp) (by simp [b1, b2, b3]) hc
theorem s38w {s : NS} {c1 c2 : Int} (b1 : Bd c1) (b2 : Bd c2) (hc : s.cl.length ≤ 10000) : Or (.call 38) [r0, AV.t (T.lst 1 false [[ti c1], [ti c2]])] (nb e f em h m s) = some (na e f em h m (s.add [c1, c2])) :=
  s38 e f em h m s [c1, c2] (by simp) (by simp [b1, b2]) hc

theorem n37_1 {s : NS} {q : (Int × Bool) × NS} (hk : k < 100) (g1 : h.ls[k]? = some l) (g2 : h.os[k]? = some o) (hl : -120 ≤ l ∧ l ≤ 120) (hv : 1 ≤ v ∧ v ≤ 121) (ho : 0 < o ∧ o ≤ 1000000) (ha : -2000000 ≤ a ∧ a ≤ 1000000)
    (hq : Or (.call 37) [r0, I ((k + 1 : Nat) : Int), I a] (nb e f em h m s) = some (ti q.1.1 :: tb q.1.2 :: na e f em h m q.2)) (hb : -1 ≤ q.1.1 ∧ q.1.1 ≤ 121) (hc : q.2.cl.length ≤ 10000) :
    Or K37n14m4 [r0, I (k : Int), I a, I v, AV.own (Id.c 4), I 2, I 1] (nb2 e f em h m s) = some (ti v :: tb false :: na e f em h m (step q.2 v l q.1)) := by
  have lk : k < h.ls.length := (List.getElem?_eq_some_iff.1 g1).1
  have lk2 : k < h.os.length := (List.getElem?_eq_some_iff.1 g2).1
  have c : (1 : Int) < 2 := by omega
  have c1 : (0 : Int) ≤ 1 ∧ (1 : Int) < (([[ti 1], [ti 0]] : List (List T)).length : Int) := by simp
  have c2 : ([[ti 1], [ti 0]] : List (List T))[(1 : Int).toNat]? = some [ti 0] := rfl
  have c3 : 0 ≤ (k : Int) ∧ (k : Int) < (h.ls.length : Int) := by omega
  have c4 : 0 ≤ (k : Int) ∧ (k : Int) < (h.os.length : Int) := by omega
  have w1 : wrap64 ((k : Int) + 1) = ((k + 1 : Nat) : Int) := by rw [w64 (by omega)]; omega
  have w2 : wrap64 (0 * o) = 0 := by rw [Int.zero_mul]; exact w64 (by omega)
  have w3 : wrap64 (a - 0) = a := by rw [Int.sub_zero]; exact w64 (by omega)
  have w4 : wrap64 (0 - v) = -v := by rw [w64 (by omega)]; omega
  have w5 : wrap64 (2 * 0) = 0 := w64 (by omega)
  have w6 : wrap64 (1 - 0) = 1 := w64 (by omega)
  have w7 : wrap64 (l * 1) = l := by rw [Int.mul_one]; exact w64 (by omega)
  have w8 : wrap64 (1 + 1) = 2 := w64 (by omega)
  have k1 := enc_get g1
  have k2 := enc_get g2
  have bv : Bd (-v) := by unfold Bd; omega
  have bl : Bd l := by unfold Bd; omega
  have bq : Bd q.1.1 := by unfold Bd; omega
  have hf := fun s => n37_2 e f em h m s (k : Int) a v
  have h3 := s38v (e := e) (f := f) (em := em) (h := h) (m := m) (s := q.2) bv bl bq hc
  have h2 := s38w (e := e) (f := f) (em := em) (h := h) (m := m) (s := q.2) bv bl hc
  refine orc_of ?_
  rw [e37n14s2]
  simp only [wr64]
  cases hb2 : q.1.2 with
  | false =>
    rw [hb2] at hq
    have es : step q.2 v l q.1 = q.2.add [-v, l, q.1.1] := by unfold step; rw [if_pos hb2]
    rw [es]
    simp only [gd1, hd1, tl1, dr0, dr1, dr2, dr3, dr4, dr5, dr6, bo1, in1, st1, ls1, le1, pt1, fi1, fb1, fs1, ct1, cf1, nt1, nf1, ak0, akT, akF, cdec, cndec, cbeq, cnbeq, ↓reduceIte, beq_self_eq_true, Int.reduceBEq, Int.reduceEq, Bool.and_true, Bool.true_and, Bool.false_and, Bool.and_false, dr7, c, c1, c2, c3, c4, and_self, enc_len, k1, k2, w1, w2, w3, w4, w5, w6, w7, w8, hq, decE_enc, Option.bind_some, h3]
    exact hf _
  | true =>
    rw [hb2] at hq
    by_cases hn : q.1.1 < 0
    · have es : step q.2 v l q.1 = q.2.add [-v, l] := by unfold step; rw [if_neg (by rw [hb2]; simp), if_pos hn]
      rw [es]
      simp only [gd1, hd1, tl1, dr0, dr1, dr2, dr3, dr4, dr5, dr6, bo1, in1, st1, ls1, le1, pt1, fi1, fb1, fs1, ct1, cf1, nt1, nf1, ak0, akT, akF, cdec, cndec, cbeq, cnbeq, ↓reduceIte, beq_self_eq_true, Int.reduceBEq, Int.reduceEq, Bool.and_true, Bool.true_and, Bool.false_and, Bool.and_false, dr7, c, c1, c2, c3, c4, and_self, enc_len, k1, k2, w1, w2, w3, w4, w5, w6, w7, w8, hq, decE_enc, Option.bind_some, hn, h2]
      exact hf _
    · have es : step q.2 v l q.1 = q.2 := by unfold step; rw [if_neg (by rw [hb2]; simp), if_neg hn]
      rw [es]
      simp only [gd1, hd1, tl1, dr0, dr1, dr2, dr3, dr4, dr5, dr6, bo1, in1, st1, ls1, le1, pt1, fi1, fb1, fs1, ct1, cf1, nt1, nf1, ak0, akT, akF, cdec, cndec, cbeq, cnbeq, ↓reduceIte, beq_self_eq_true, Int.reduceBEq, Int.reduceEq, Bool.and_true, Bool.true_and, Bool.false_and, Bool.and_false, dr7, c, c1, c2, c3, c4, and_self, enc_len, k1, k2, w1, w2, w3, w4, w5, w6, w7, w8, hq, decE_enc, Option.bind_some, hn]
      exact hf _
theorem n37_0 {s : NS} {q : (Int × Bool) × NS} {R : List T} (hk : k < 100) (g1 : h.ls[k]? = some l) (g2 : h.os[k]? = some o) (hl : -120 ≤ l ∧ l ≤ 120) (hv : 1 ≤ v ∧ v ≤ 121) (ho : 0 < o ∧ o ≤ 1000000) (ha : -1000000 ≤ a ∧ a ≤ 1000000)
    (hq : Or (.call 37) [r0, I ((k + 1 : Nat) : Int), I (a - o)] (nb e f em h m s) = some (ti q.1.1 :: tb q.1.2 :: na e f em h m q.2)) (hb : -1 ≤ q.1.1 ∧ q.1.1 ≤ 121) (hc : q.2.cl.length ≤ 10000)
    (hr : Or K37n14m4 [r0, I (k : Int), I a, I v, AV.own (Id.c 4), I 2, I 1] (nb2 e f em h m (step q.2 v (-l) q.1)) = some R) :
    Or K37n14m4 [r0, I (k : Int), I a, I v, AV.own (Id.c 4), I 2, I 0] (nb1 e f em h m s) = some R := by
  have lk : k < h.ls.length := (List.getElem?_eq_some_iff.1 g1).1
  have lk2 : k < h.os.length := (List.getElem?_eq_some_iff.1 g2).1
  have c : (0 : Int) < 2 := by omega
  have c1 : (0 : Int) ≤ 0 ∧ (0 : Int) < (([[ti 1], [ti 0]] : List (List T)).length : Int) := by simp
  have c2 : ([[ti 1], [ti 0]] : List (List T))[(0 : Int).toNat]? = some [ti 1] := rfl
  have c3 : 0 ≤ (k : Int) ∧ (k : Int) < (h.ls.length : Int) := by omega
  have c4 : 0 ≤ (k : Int) ∧ (k : Int) < (h.os.length : Int) := by omega
  have w1 : wrap64 ((k : Int) + 1) = ((k + 1 : Nat) : Int) := by rw [w64 (by omega)]; omega
  have w2 : wrap64 (1 * o) = o := by rw [Int.one_mul]; exact w64 (by omega)
  have w3 : wrap64 (a - o) = a - o := w64 (by omega)
  have w4 : wrap64 (0 - v) = -v := by rw [w64 (by omega)]; omega
  have w5 : wrap64 (2 * 1) = 2 := w64 (by omega)
  have w6 : wrap64 (1 - 2) = -1 := w64 (by omega)
  have w7 : wrap64 (l * -1) = -l := by rw [w64 (by omega)]; omega
  have w8 : wrap64 (0 + 1) = 1 := w64 (by omega)
  have k1 := enc_get g1
  have k2 := enc_get g2
  have bv : Bd (-v) := by unfold Bd; omega
  have bl : Bd (-l) := by unfold Bd; omega
  have bq : Bd q.1.1 := by unfold Bd; omega
  have h3 := s38v (e := e) (f := f) (em := em) (h := h) (m := m) (s := q.2) bv bl bq hc
  have h2 := s38w (e := e) (f := f) (em := em) (h := h) (m := m) (s := q.2) bv bl hc
  refine orc_of ?_
  rw [e37n14]
  simp only [wr64]
  cases hb2 : q.1.2 with
  | false =>
    rw [hb2] at hq
    have es : step q.2 v (-l) q.1 = q.2.add [-v, -l, q.1.1] := by unfold step; rw [if_pos hb2]
    rw [es] at hr
    simp only [gd1, hd1, tl1, dr0, dr1, dr2, dr3, dr4, dr5, dr6, bo1, in1, st1, ls1, le1, pt1, fi1, fb1, fs1, ct1, cf1, nt1, nf1, ak0, akT, akF, cdec, cndec, cbeq, cnbeq, ↓reduceIte, beq_self_eq_true, Int.reduceBEq, Int.reduceEq, Bool.and_true, Bool.true_and, Bool.false_and, Bool.and_false, dr7, c, c1, c2, c3, c4, and_self, enc_len, k1, k2, w1, w2, w3, w4, w5, w6, w7, w8, hq, decE_enc, Option.bind_some, h3]
    exact hr
  | true =>
    rw [hb2] at hq
    by_cases hn : q.1.1 < 0
    · have es : step q.2 v (-l) q.1 = q.2.add [-v, -l] := by unfold step; rw [if_neg (by rw [hb2]; simp), if_pos hn]
      rw [es] at hr
      simp only [gd1, hd1, tl1, dr0, dr1, dr2, dr3, dr4, dr5, dr6, bo1, in1, st1, ls1, le1, pt1, fi1, fb1, fs1, ct1, cf1, nt1, nf1, ak0, akT, akF, cdec, cndec, cbeq, cnbeq, ↓reduceIte, beq_self_eq_true, Int.reduceBEq, Int.reduceEq, Bool.and_true, Bool.true_and, Bool.false_and, Bool.and_false, dr7, c, c1, c2, c3, c4, and_self, enc_len, k1, k2, w1, w2, w3, w4, w5, w6, w7, w8, hq, decE_enc, Option.bind_some, hn, h2]
      exact hr
    · have es : step q.2 v (-l) q.1 = q.2 := by unfold step; rw [if_neg (by rw [hb2]; simp), if_neg hn]
      rw [es] at hr
      simp only [gd1, hd1, tl1, dr0, dr1, dr2, dr3, dr4, dr5, dr6, bo1, in1, st1, ls1, le1, pt1, fi1, fb1, fs1, ct1, cf1, nt1, nf1, ak0, akT, akF, cdec, cndec, cbeq, cnbeq, ↓reduceIte, beq_self_eq_true, Int.reduceBEq, Int.reduceEq, Bool.and_true, Bool.true_and, Bool.false_and, Bool.and_false, dr7, c, c1, c2, c3, c4, and_self, enc_len, k1, k2, w1, w2, w3, w4, w5, w6, w7, w8, hq, decE_enc, Option.bind_some, hn]
      exact hr
end

theorem zip_get {α β : Type} : ∀ {ls : List α} {os : List β} {pre : List (α × β)} {l : α} {o : β} {r : List (α × β)}, ls.zip os = pre ++ (l, o) :: r → ls[pre.length]? = some l ∧ os[pre.length]? = some o
  | [], os, pre, l, o, r, h => by simp at h
  | x :: ls, [], pre, l, o, r, h => by simp at h
  | x :: ls, y :: os, [], l, o, r, h => by
    simp only [List.zip_cons_cons, List.nil_append, List.cons.injEq, Prod.mk.injEq] at h
    simp [h.1.1, h.1.2]
  | x :: ls, y :: os, p :: pre, l, o, r, h => by
    simp only [List.zip_cons_cons, List.cons_append, List.cons.injEq] at h
    simpa using zip_get h.2
theorem zip_drop : ∀ {ls os : List Int} {pre rem : List (Int × Int)}, ls.length = os.length → ls.zip os = pre ++ rem → sumI (os.drop pre.length) = sumO rem
  | ls, os, [], rem, hlen, h => by
    rw [List.nil_append] at h
    rw [← h, sumO_zip _ _ hlen]; rfl
  | [], os, p :: pre, rem, hlen, h => by simp at h
  | x :: ls, [], p :: pre, rem, hlen, h => by simp at h
  | x :: ls, y :: os, p :: pre, rem, hlen, h => by
    simp only [List.zip_cons_cons, List.cons_append, List.cons.injEq] at h
    simpa using zip_drop (by simpa using hlen) h.2

theorem s37 {h : Hp} (e f em : Bool) (hlen : h.ls.length = h.os.length) (h24 : h.ls.length ≤ 24) (hl : ∀ l ∈ h.ls, -120 ≤ l ∧ l ≤ 120) (ho : ∀ o ∈ h.os, 0 < o ∧ o ≤ 1000000) :
    ∀ (rem pre : List (Int × Int)) (a : Int) (s : NS), h.ls.zip h.os = pre ++ rem → Inv s → -1000000 ≤ a → a ≤ 1000000 →
    Or (.call 37) [r0, I (pre.length : Int), I a] (nb e f em h (sufs h.os) s) = some (ti (nodeF rem (pre.length : Int) a s).1.1 :: tb (nodeF rem (pre.length : Int) a s).1.2 :: na e f em h (sufs h.os) (nodeF rem (pre.length : Int) a s).2) := by
  intro rem
  induction rem with
  | nil =>
    intro pre a s hz hi ha1 ha2
    have hpl : pre.length = h.os.length := by
      have := congrArg List.length hz
      simp only [List.length_zip, List.append_nil, hlen, Nat.min_self] at this; exact this.symm
    have hd := zip_drop hlen hz
    have hg := enc_get (sufs_get h.os pre.length (by omega))
    rw [hd] at hg
    have c1 : 0 ≤ (pre.length : Int) ∧ (pre.length : Int) < ((sufs h.os).length : Int) := by rw [sufs_len]; omega
    unfold nodeF
    refine orc_of ?_
    rw [e37]
    by_cases h0 : a ≤ 0
    · simp only [gd1, hd1, tl1, dr0, dr1, dr2, dr3, dr4, dr5, dr6, bo1, in1, st1, ls1, le1, pt1, fi1, fb1, fs1, ct1, cf1, nt1, nf1, ak0, akT, akF, cdec, cndec, cbeq, cnbeq, ↓reduceIte, beq_self_eq_true, Int.reduceBEq, Int.reduceEq, Bool.and_true, Bool.true_and, Bool.false_and, Bool.and_false, h0, if_true]
    · have h1 : sumO [] < a := by show (0 : Int) < a; omega
      simp only [gd1, hd1, tl1, dr0, dr1, dr2, dr3, dr4, dr5, dr6, bo1, in1, st1, ls1, le1, pt1, fi1, fb1, fs1, ct1, cf1, nt1, nf1, ak0, akT, akF, cdec, cndec, cbeq, cnbeq, ↓reduceIte, beq_self_eq_true, Int.reduceBEq, Int.reduceEq, Bool.and_true, Bool.true_and, Bool.false_and, Bool.and_false, h0, if_false, enc_len, c1, and_self, hg, h1]
  | cons x r ih =>
    obtain ⟨l, o⟩ := x
    intro pre a s hz hi ha1 ha2
    obtain ⟨g1, g2⟩ := zip_get hz
    have lk : pre.length < h.ls.length := (List.getElem?_eq_some_iff.1 g1).1
    have hlm := hl l (List.mem_of_getElem? g1)
    have hom := ho o (List.mem_of_getElem? g2)
    have hd := zip_drop hlen hz
    have hg := enc_get (sufs_get h.os pre.length (by omega))
    rw [hd] at hg
    have c1 : 0 ≤ (pre.length : Int) ∧ (pre.length : Int) < ((sufs h.os).length : Int) := by rw [sufs_len]; omega
    have hn := hi.n
    have hcl := hi.cl
    have h400 : ¬ ((encC s.cl).length : Int) > 400 := by rw [encC_len]; omega
    have hso : sumO ((l, o) :: r) = o + sumO r := rfl
    rw [hso] at hg
    unfold nodeF
    by_cases h0 : a ≤ 0
    · refine orc_of ?_
      rw [e37]
      simp only [gd1, hd1, tl1, dr0, dr1, dr2, dr3, dr4, dr5, dr6, bo1, in1, st1, ls1, le1, pt1, fi1, fb1, fs1, ct1, cf1, nt1, nf1, ak0, akT, akF, cdec, cndec, cbeq, cnbeq, ↓reduceIte, beq_self_eq_true, Int.reduceBEq, Int.reduceEq, Bool.and_true, Bool.true_and, Bool.false_and, Bool.and_false, h0, if_true]
    · by_cases h1 : o + sumO r < a
      · refine orc_of ?_
        rw [e37]
        simp only [gd1, hd1, tl1, dr0, dr1, dr2, dr3, dr4, dr5, dr6, bo1, in1, st1, ls1, le1, pt1, fi1, fb1, fs1, ct1, cf1, nt1, nf1, ak0, akT, akF, cdec, cndec, cbeq, cnbeq, ↓reduceIte, beq_self_eq_true, Int.reduceBEq, Int.reduceEq, Bool.and_true, Bool.true_and, Bool.false_and, Bool.and_false, h0, if_false, enc_len, c1, and_self, hg, h1, if_true]
      · by_cases h2 : s.n > 120
        · refine orc_of ?_
          rw [e37]
          simp only [cor]
          simp only [gd1, hd1, tl1, dr0, dr1, dr2, dr3, dr4, dr5, dr6, bo1, in1, st1, ls1, le1, pt1, fi1, fb1, fs1, ct1, cf1, nt1, nf1, ak0, akT, akF, cdec, cndec, cbeq, cnbeq, ↓reduceIte, beq_self_eq_true, Int.reduceBEq, Int.reduceEq, Bool.and_true, Bool.true_and, Bool.false_and, Bool.and_false, h0, if_false, enc_len, c1, and_self, hg, h1, h400, h2, decide_true, decide_false, Bool.or_true, if_true]
        · rw [if_neg h0, if_neg h1, if_neg h2]
          cases hf : lookM ((pre.length : Int), a) s.es with
          | some v =>
            have hfind := find_enc (pre.length : Int) a s.es
            rw [hf, Option.map_some] at hfind
            refine orc_of ?_
            rw [e37]
            simp only [cor]
            simp only [gd1, hd1, tl1, dr0, dr1, dr2, dr3, dr4, dr5, dr6, bo1, in1, st1, ls1, le1, pt1, fi1, fb1, fs1, ct1, cf1, nt1, nf1, ak0, akT, akF, cdec, cndec, cbeq, cnbeq, ↓reduceIte, beq_self_eq_true, Int.reduceBEq, Int.reduceEq, Bool.and_true, Bool.true_and, Bool.false_and, Bool.and_false, h0, if_false, enc_len, c1, and_self, hg, h1, h400, h2, decide_false, Bool.or_self, hfind, Option.getD_some, Option.isSome_some]
          | none =>
            have hfind := find_enc (pre.length : Int) a s.es
            rw [hf, Option.map_none] at hfind
            have hput := put_enc (pre.length : Int) a (s.n + 1) s.es hf
            have w1 : wrap64 (s.n + 1) = s.n + 1 := w64 (by omega)
            have i1 : Inv ⟨s.n + 1, s.cl, s.es ++ [(((pre.length : Int), a), s.n + 1)]⟩ := by
              refine ⟨by simp only; omega, by simp only; omega, ?_⟩
              intro p hp
              simp only [List.mem_append, List.mem_singleton] at hp
              rcases hp with hp | rfl
              · have := hi.es p hp; simp only; omega
              · simp only; omega
            have ep : (((pre ++ [(l, o)]).length : Nat) : Int) = (pre.length : Int) + 1 := by simp
            have en : (((pre.length + 1 : Nat)) : Int) = (pre.length : Int) + 1 := by simp
            have q1 := ih (pre ++ [(l, o)]) (a - o) _ (by rw [hz]; simp) i1 (by omega) (by omega)
            rw [ep] at q1
            have o1 := nodeF_out r ((pre.length : Int) + 1) (a - o) _ i1
            dsimp only
            generalize nodeF r ((pre.length : Int) + 1) (a - o) { n := s.n + 1, cl := s.cl, es := s.es ++ [(((pre.length : Int), a), s.n + 1)] } = p at *
            have j1 := i1.out o1
            have t1 := step_n p.2 (s.n + 1) (-l) p.1
            have hn1 := o1.n
            have hcl1 := o1.cl
            simp only at hn1 hcl1
            have i2 : Inv (step p.2 (s.n + 1) (-l) p.1) := ⟨by rw [t1.1]; exact j1.n, by rw [t1.1]; omega, by rw [t1.1, t1.2.1]; exact j1.es⟩
            have q2 := ih (pre ++ [(l, o)]) a _ (by rw [hz]; simp) i2 (by omega) (by omega)
            rw [ep] at q2
            have o2 := nodeF_out r ((pre.length : Int) + 1) a _ i2
            generalize nodeF r ((pre.length : Int) + 1) a (step p.2 (s.n + 1) (-l) p.1) = q at *
            have hn2 := o2.n
            have hcl2 := o2.cl
            have b1 : -1 ≤ p.1.1 ∧ p.1.1 ≤ 121 := by
              cases hc : p.1.2 with
              | true => have := o1.c hc; omega
              | false => have := o1.v hc; omega
            have b2 : -1 ≤ q.1.1 ∧ q.1.1 ≤ 121 := by
              cases hc : q.1.2 with
              | true => have := o2.c hc; omega
              | false => have := o2.v hc; omega
            rw [← en] at q1 q2
            have m1 := n37_1 (v := s.n + 1) (by omega) g1 g2 hlm (by omega) hom (by omega) q2 b2 (by have := hi.cl; rw [t1.1] at hcl2; omega)
            have m0 := n37_0 (v := s.n + 1) (by omega) g1 g2 hlm (by omega) hom (by omega) q1 b1 (by have := hi.cl; omega) m1
            refine orc_of ?_
            rw [e37]
            simp only [cor, wr64]
            simp only [gd1, hd1, tl1, dr0, dr1, dr2, dr3, dr4, dr5, dr6, bo1, in1, st1, ls1, le1, pt1, fi1, fb1, fs1, ct1, cf1, nt1, nf1, ak0, akT, akF, cdec, cndec, cbeq, cnbeq, ↓reduceIte, beq_self_eq_true, Int.reduceBEq, Int.reduceEq, Bool.and_true, Bool.true_and, Bool.false_and, Bool.and_false, h0, if_false, enc_len, c1, and_self, hg, h1, h400, h2, decide_false, Bool.or_self, hfind, Option.getD_none, Option.isSome_none, w1, hput]
            exact m0

/-! ### Clauses -/
def topF (r : (Int × Bool) × NS) : NS := if r.1.2 = false then r.2.add [r.1.1] else if r.1.1 < 0 then r.2.add [] else r.2
/-- What Clauses makes of a heap in normal form. -/
def clF (h : Hp) (n : Int) : NS := topF (nodeF (h.ls.zip h.os) 0 h.at_ ⟨n, [], []⟩)
def endF (s : NS) : List T := if s.n > 120 then [ti 0, T.emp true, ti 10, ti 0] else [ti s.n, T.lst 1 s.cl.isEmpty (encC s.cl), ti 0, ti 0]
abbrev nb3 (e f em : Bool) (h : Hp) (n : Int) (m : List Int) : List Blk :=
  [Blk.box [lst e h.ls, lst f h.os, I h.at_], Blk.box [I 0, AV.t (T.emp true)], Blk.box [I 0, I 0],
   Blk.box [lst e h.ls, lst f h.os, I h.at_, I n, AV.own (Id.c 4), AV.own (Id.c 5), AV.own (Id.c 6)], Blk.sl false 1 true [], Blk.mp true [.i .i64, .i .i64] (.i .i64) [], Blk.sl false 1 em (enc m)]
theorem n22e {h : Hp} {n v9 : Int} (e f em : Bool) (hv : ¬ v9 ≥ 0) (hlen : h.ls.length = h.os.length) (h24 : h.ls.length ≤ 24) (hl : ∀ l ∈ h.ls, -120 ≤ l ∧ l ≤ 120) (ho : ∀ o ∈ h.os, 0 < o ∧ o ≤ 1000000) (ha : -1000000 ≤ h.at_ ∧ h.at_ ≤ 1000000) (hn : 0 ≤ n ∧ n ≤ 120) :
    Or K22n9 [r0, r1, r2, r3, I v9] (nb3 e f em h n (sufs h.os)) = some (endF (clF h n)) := by
  have i0 : Inv ⟨n, [], []⟩ := ⟨by simp only; omega, by simp; omega, by simp⟩
  have h37 := s37 e f em hlen h24 hl ho (h.ls.zip h.os) [] h.at_ ⟨n, [], []⟩ rfl i0 ha.1 ha.2
  have o1 := nodeF_out (h.ls.zip h.os) 0 h.at_ _ i0
  change Or (.call 37) [r0, I 0, I h.at_] [Blk.box [lst e h.ls, lst f h.os, I h.at_, I n, AV.own (Id.c 1), AV.own (Id.c 2), AV.own (Id.c 3)], Blk.sl false 1 true [], Blk.mp true [.i .i64, .i .i64] (.i .i64) [], Blk.sl false 1 em (enc (sufs h.os))] = some (ti (nodeF (h.ls.zip h.os) 0 h.at_ ⟨n, [], []⟩).1.1 :: tb (nodeF (h.ls.zip h.os) 0 h.at_ ⟨n, [], []⟩).1.2 :: na e f em h (sufs h.os) (nodeF (h.ls.zip h.os) 0 h.at_ ⟨n, [], []⟩).2) at h37
  unfold clF
  generalize nodeF (h.ls.zip h.os) 0 h.at_ ⟨n, [], []⟩ = p at *
  have j1 := i0.out o1
  have hcl := o1.cl
  have hn1 := o1.n
  simp only [List.length_nil] at hcl hn1
  have hc : p.2.cl.length ≤ 10000 := by omega
  have b1 : -1 ≤ p.1.1 ∧ p.1.1 ≤ 121 := by
    cases hc : p.1.2 with
    | true => have := o1.c hc; omega
    | false => have := o1.v hc; omega
  have a1 : Or (.call 38) [r0, AV.t (T.lst 1 false [[ti p.1.1]])] (nb e f em h (sufs h.os) p.2) = some (na e f em h (sufs h.os) (p.2.add [p.1.1])) :=
    s38 e f em h (sufs h.os) p.2 [p.1.1] (by simp) (by simp [Bd]; omega) hc
  have a0 : Or (.call 38) [r0, AV.t (T.lst 1 true [])] (nb e f em h (sufs h.os) p.2) = some (na e f em h (sufs h.os) (p.2.add [])) :=
    s38 e f em h (sufs h.os) p.2 [] (by simp) (by simp) hc
  have l1 : ∀ k, ¬ ((encC (p.2.add k).cl).length : Int) > 400 := by
    intro k; rw [encC_len]; simp [NS.add]; omega
  have l0 : ¬ ((encC p.2.cl).length : Int) > 400 := by rw [encC_len]; omega
  have n1 : ∀ k, (p.2.add k).n = p.2.n := fun k => rfl
  refine orc_of ?_
  rw [e22n9]
  simp only [cor, beq_dec]
  unfold topF
  cases hb : p.1.2 with
  | false =>
    rw [hb] at h37
    rw [if_pos rfl]
    unfold endF
    by_cases hq : p.2.n > 120
    · simp only [gd1, hd1, tl1, dr0, dr1, dr2, dr3, dr4, dr5, dr6, bo1, in1, st1, ls1, le1, pt1, fi1, fb1, fs1, ct1, cf1, nt1, nf1, ak0, akT, akF, cdec, cndec, cbeq, cnbeq, ↓reduceIte, beq_self_eq_true, Int.reduceBEq, Int.reduceEq, Bool.and_true, Bool.true_and, Bool.false_and, Bool.and_false, hv, if_false, h37, dr7, Option.bind_some, decE_enc, a1, n1, hq, decide_true, Bool.true_or, if_true]
    · simp only [gd1, hd1, tl1, dr0, dr1, dr2, dr3, dr4, dr5, dr6, bo1, in1, st1, ls1, le1, pt1, fi1, fb1, fs1, ct1, cf1, nt1, nf1, ak0, akT, akF, cdec, cndec, cbeq, cnbeq, ↓reduceIte, beq_self_eq_true, Int.reduceBEq, Int.reduceEq, Bool.and_true, Bool.true_and, Bool.false_and, Bool.and_false, hv, if_false, h37, dr7, Option.bind_some, decE_enc, a1, n1, hq, l1, decide_false, Bool.or_self, if_false]
  | true =>
    rw [hb] at h37
    rw [if_neg (show ¬ (true = false) by simp)]
    by_cases hq0 : p.1.1 < 0
    · rw [if_pos hq0]
      unfold endF
      by_cases hq : p.2.n > 120
      · simp only [gd1, hd1, tl1, dr0, dr1, dr2, dr3, dr4, dr5, dr6, bo1, in1, st1, ls1, le1, pt1, fi1, fb1, fs1, ct1, cf1, nt1, nf1, ak0, akT, akF, cdec, cndec, cbeq, cnbeq, ↓reduceIte, beq_self_eq_true, Int.reduceBEq, Int.reduceEq, Bool.and_true, Bool.true_and, Bool.false_and, Bool.and_false, hv, if_false, h37, dr7, Option.bind_some, decE_enc, hq0, a0, n1, hq, decide_true, Bool.true_or, if_true]
      · simp only [gd1, hd1, tl1, dr0, dr1, dr2, dr3, dr4, dr5, dr6, bo1, in1, st1, ls1, le1, pt1, fi1, fb1, fs1, ct1, cf1, nt1, nf1, ak0, akT, akF, cdec, cndec, cbeq, cnbeq, ↓reduceIte, beq_self_eq_true, Int.reduceBEq, Int.reduceEq, Bool.and_true, Bool.true_and, Bool.false_and, Bool.and_false, hv, if_false, h37, dr7, Option.bind_some, decE_enc, hq0, a0, n1, hq, l1, decide_false, Bool.or_self, if_false]
    · rw [if_neg hq0]
      unfold endF
      by_cases hq : p.2.n > 120
      · simp only [gd1, hd1, tl1, dr0, dr1, dr2, dr3, dr4, dr5, dr6, bo1, in1, st1, ls1, le1, pt1, fi1, fb1, fs1, ct1, cf1, nt1, nf1, ak0, akT, akF, cdec, cndec, cbeq, cnbeq, ↓reduceIte, beq_self_eq_true, Int.reduceBEq, Int.reduceEq, Bool.and_true, Bool.true_and, Bool.false_and, Bool.and_false, hv, if_false, h37, dr7, Option.bind_some, decE_enc, hq0, hq, decide_true, Bool.true_or, if_true]
      · simp only [gd1, hd1, tl1, dr0, dr1, dr2, dr3, dr4, dr5, dr6, bo1, in1, st1, ls1, le1, pt1, fi1, fb1, fs1, ct1, cf1, nt1, nf1, ak0, akT, akF, cdec, cndec, cbeq, cnbeq, ↓reduceIte, beq_self_eq_true, Int.reduceBEq, Int.reduceEq, Bool.and_true, Bool.true_and, Bool.false_and, Bool.and_false, hv, if_false, h37, dr7, Option.bind_some, decE_enc, hq0, hq, l0, decide_false, Bool.or_self, if_false]

theorem n22 {h : Hp} {n : Int} (e f em : Bool) (hlen : h.ls.length = h.os.length) (h24 : h.ls.length ≤ 24) (hl : ∀ l ∈ h.ls, -120 ≤ l ∧ l ≤ 120) (ho : ∀ o ∈ h.os, 0 < o ∧ o ≤ 1000000) (ha : -1000000 ≤ h.at_ ∧ h.at_ ≤ 1000000) (hn : 0 ≤ n ∧ n ≤ 120) :
    ∀ (k : Nat), k ≤ h.os.length → Or K22n9 [r0, r1, r2, r3, I ((k : Int) - 1)] (nb3 e f em h n (List.replicate k 0 ++ sufs (h.os.drop k))) = some (endF (clF h n))
  | 0, _ => by
    have := n22e (h := h) (n := n) (v9 := -1) e f em (by omega) hlen h24 hl ho ha hn
    simpa using this
  | k + 1, hk => by
    have ih := n22 e f em hlen h24 hl ho ha hn k (by omega)
    have g1 : h.os[k]? = some h.os[k] := List.getElem?_eq_getElem (by omega)
    have hd : h.os.drop k = h.os[k] :: h.os.drop (k + 1) := List.drop_eq_getElem_cons (by omega)
    have hom := ho h.os[k] (List.getElem_mem _)
    have hL : (List.replicate (k + 1) (0 : Int) ++ sufs (h.os.drop (k + 1)))[k + 1]? = some (sumI (h.os.drop (k + 1))) := by
      rw [List.getElem?_append_right (by simp)]
      simp only [List.length_replicate, Nat.sub_self]
      have := sufs_get (h.os.drop (k + 1)) 0 (by omega)
      simpa using this
    have hlen2 : (List.replicate (k + 1) (0 : Int) ++ sufs (h.os.drop (k + 1))).length = h.os.length + 1 := by
      rw [List.length_append, sufs_len]; simp; omega
    have hsb := sumI_bd (h.os.drop (k + 1)) fun o h => ho o (List.mem_of_mem_drop h)
    have hdl : (h.os.drop (k + 1)).length ≤ 24 := by simp; omega
    have c0 : ((k + 1 : Nat) : Int) - 1 = (k : Int) := by omega
    rw [c0]
    have c1 : (k : Int) ≥ 0 := by omega
    have w1 : wrap64 ((k : Int) + 1) = ((k + 1 : Nat) : Int) := by rw [w64 (by omega)]; omega
    have c2 : 0 ≤ ((k + 1 : Nat) : Int) ∧ ((k + 1 : Nat) : Int) < ((h.os.length + 1 : Nat) : Int) := by omega
    have c3 : 0 ≤ (k : Int) ∧ (k : Int) < (h.os.length : Int) := by omega
    have c4 : 0 ≤ (k : Int) ∧ (k : Int) < ((h.os.length + 1 : Nat) : Int) := by omega
    have w2 : wrap64 (sumI (h.os.drop (k + 1)) + h.os[k]) = h.os[k] + sumI (h.os.drop (k + 1)) := by rw [w64 (by omega)]; omega
    have w3 : wrap64 ((k : Int) - 1) = (k : Int) - 1 := w64 (by omega)
    have k1 := enc_get hL
    have k2 := enc_get g1
    have hs := enc_set (l := List.replicate (k + 1) (0 : Int) ++ sufs (h.os.drop (k + 1))) (i := k) (by rw [hlen2]; omega) (h.os[k] + sumI (h.os.drop (k + 1)))
    have hset : (List.replicate (k + 1) (0 : Int) ++ sufs (h.os.drop (k + 1))).set k (h.os[k] + sumI (h.os.drop (k + 1))) = List.replicate k 0 ++ sufs (h.os.drop k) := by
      rw [hd, List.set_append_left _ _ (by simp)]
      have : (List.replicate (k + 1) (0 : Int)).set k (h.os[k] + sumI (h.os.drop (k + 1))) = List.replicate k 0 ++ [h.os[k] + sumI (h.os.drop (k + 1))] := by
        rw [List.replicate_succ', List.set_append_right _ _ (by simp)]
        simp
      rw [this, List.append_assoc, sufs, sufs_head]; rfl
    rw [hset] at hs
    refine orc_of ?_
    rw [e22n9]
    simp only [wr64]
    simp only [gd1, hd1, tl1, dr0, dr1, dr2, dr3, dr4, dr5, dr6, bo1, in1, st1, ls1, le1, pt1, fi1, fb1, fs1, ct1, cf1, nt1, nf1, ak0, akT, akF, cdec, cndec, cbeq, cnbeq, ↓reduceIte, beq_self_eq_true, Int.reduceBEq, Int.reduceEq, Bool.and_true, Bool.true_and, Bool.false_and, Bool.and_false, c1, w1, enc_len, hlen2, c2, c3, c4, and_self, k1, k2, w2, w3, hs]
    exact ih
/-- What comes out of Clauses: the number of variables, the clauses, the fault. -/
def clR (h : Hp) (n : Int) : List T :=
  if (chkH h n).1 = 0 then (if (fullR' h).2.1 = 0 then endF (clF (fullR' h).1 n) else [ti 0, T.emp true, ti (fullR' h).2.1, ti (fullR' h).2.2]) else [ti 0, T.emp true, ti (chkH h n).1, ti (chkH h n).2]
where fullR' (h : Hp) : Hp × Int × Int := if (tidyF h).2.1 = 0 then ((fullF (tidyF h).1).1, (fullF (tidyF h).1).2, 0) else (none_, (tidyF h).2)
theorem s22 (e f : Bool) (h : Hp) (n : Int) (hg : ∀ t, Td t → (fullF t).2 = 0 → Td (fullF t).1) : Or (.call 22) [hv e f h, I n] [] = some (clR h n) := by
  have hc := s16 h n e f
  obtain ⟨x, y, r11, i1, j1⟩ := s11 e f h
  change Or _ _ _ = some [x, y, ti (clR.fullR' h).1.at_, ti (clR.fullR' h).2.1, ti (clR.fullR' h).2.2] at r11
  change IsL x (clR.fullR' h).1.ls at i1
  change IsL y (clR.fullR' h).1.os at j1
  have htd : (clR.fullR' h).2.1 = 0 → Td (clR.fullR' h).1 := by
    unfold clR.fullR'
    by_cases c : (tidyF h).2.1 = 0
    · rw [if_pos c]; exact fun c2 => hg _ (Td.of c) c2
    · rw [if_neg c]; exact fun c2 => absurd c2 c
  unfold clR
  generalize clR.fullR' h = F at *
  have i1' : x.lst? 1 = _ := i1
  have j1' : y.lst? 1 = _ := j1
  by_cases c : (chkH h n).1 = 0
  · have gd := chk_ok c
    rw [if_pos c]
    by_cases c2 : F.2.1 = 0
    · rw [if_pos c2]
      have td := htd c2
      have hlen := td.len
      have h24 := td.few
      have w1 : wrap64 ((F.1.os.length : Int) + 1) = ((F.1.os.length + 1 : Nat) : Int) := by rw [w64 (by omega)]; omega
      have hm : mkOk ((F.1.os.length + 1 : Nat) : Int) ((F.1.os.length + 1 : Nat) : Int) = some () := by
        unfold mkOk; rw [if_pos ⟨by omega, by omega, by unfold lim; omega⟩]
      have w2 : wrap64 ((F.1.os.length : Int) - 1) = (F.1.os.length : Int) - 1 := w64 (by omega)
      have hl : ∀ l ∈ F.1.ls, -120 ≤ l ∧ l ≤ 120 := fun l hl => by have := okL_iff.1 (td.okl l hl); omega
      have h22 := n22 (n := n) F.1.ls.isEmpty F.1.os.isEmpty false hlen h24 hl td.os (by have := td.at_; omega) gd.n0 F.1.os.length (Nat.le_refl _)
      have er : enc (List.replicate F.1.os.length (0 : Int) ++ sufs (F.1.os.drop F.1.os.length)) = List.replicate (F.1.os.length + 1) [ti 0] := by
        rw [List.drop_length]
        show enc (List.replicate _ 0 ++ [0]) = _
        rw [← List.replicate_succ']; simp [enc]
      have tn : (((F.1.os.length + 1 : Nat)) : Int).toNat = F.1.os.length + 1 := by omega
      dsimp only [nb3] at h22
      rw [er] at h22
      refine orc_of ?_
      rw [e22]
      simp only [wr64]
      simp only [gd1, hd1, tl1, dr0, dr1, dr2, dr3, dr4, dr5, dr6, bo1, in1, st1, ls1, le1, pt1, fi1, fb1, fs1, ct1, cf1, nt1, nf1, ak0, akT, akF, cdec, cndec, cbeq, cnbeq, ↓reduceIte, beq_self_eq_true, Int.reduceBEq, Int.reduceEq, Bool.and_true, Bool.true_and, Bool.false_and, Bool.and_false, hc, c, r11, i1', j1', c2, enc_len, w1, w2, hm, tn]
      exact h22
    · rw [if_neg c2]
      refine orc_of ?_
      rw [e22]
      simp only [gd1, hd1, tl1, dr0, dr1, dr2, dr3, dr4, dr5, dr6, bo1, in1, st1, ls1, le1, pt1, fi1, fb1, fs1, ct1, cf1, nt1, nf1, ak0, akT, akF, cdec, cndec, cbeq, cnbeq, ↓reduceIte, beq_self_eq_true, Int.reduceBEq, Int.reduceEq, Bool.and_true, Bool.true_and, Bool.false_and, Bool.and_false, hc, c, r11, i1', j1', c2]
  · rw [if_neg c]
    refine orc_of ?_
    rw [e22]
    simp only [gd1, hd1, tl1, dr0, dr1, dr2, dr3, dr4, dr5, dr6, bo1, in1, st1, ls1, le1, pt1, fi1, fb1, fs1, ct1, cf1, nt1, nf1, ak0, akT, akF, cdec, cndec, cbeq, cnbeq, ↓reduceIte, beq_self_eq_true, Int.reduceBEq, Int.reduceEq, Bool.and_true, Bool.true_and, Bool.false_and, Bool.and_false, hc, c]
end Go.Aev.Gen
