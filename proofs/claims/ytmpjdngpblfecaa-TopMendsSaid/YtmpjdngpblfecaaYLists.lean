/-
  The least sets: what lists tells.
-/
import Derived.Test.YtmpjdngpblfecaaYOpen
set_option linter.unusedSimpArgs false
set_option linter.unusedVariables false
namespace Go.Aev.Gen
open Go Go.Aev

/-! ### The sort -/
theorem ints_enc : ∀ (l : List Int), Ys.ints? (enc l) = some l
  | [] => rfl
  | x :: l => by
    have ih := ints_enc l
    unfold enc at ih ⊢
    rw [List.map_cons, Ys.ints?, ih]; rfl
theorem rows_enc : ∀ {q : List (List Int)}, (∀ l ∈ q, l.length ≤ 1000000) → Ys.rows? (encC q) = some q
  | [], _ => rfl
  | l :: q, h => by
    have ih := rows_enc (q := q) fun l' h' => h l' (List.mem_cons_of_mem _ h')
    unfold encC at ih ⊢
    rw [List.map_cons]
    show (if 1 = 1 then (Ys.ints? (enc l)).bind fun l' => if l.isEmpty = l'.isEmpty ∧ l'.length ≤ 1000000 then (Ys.rows? (q.map Ys.rowC)).bind fun q' => some (l' :: q') else none else none) = _
    rw [if_pos rfl, ints_enc, Option.bind_some, if_pos ⟨rfl, h l List.mem_cons_self⟩, ih]; rfl
theorem s24 (e : Bool) (q : List (List Int)) (h : ∀ l ∈ q, l.length ≤ 1000000) (hn : q.length ≤ 1000000) : Or (.call 24) [o0, AV.fn 25 [] []] [Blk.sl false 1 e (encC q)] = some [T.lst 1 e (encC (Ys.sortL q))] := by
  refine orc_of ?_
  show (match Ys.extS [o0, AV.fn 25 [] []] [Blk.sl false 1 e (encC q)] with | some r => some r | none => _) = _
  have : Ys.extS [o0, AV.fn 25 [] []] [Blk.sl false 1 e (encC q)] = some [T.lst 1 e (encC (Ys.sortL q))] := by
    show (if 1 = 1 then (Ys.rows? (encC q)).bind fun q' => if q'.length ≤ 1000000 then some [T.lst 1 e ((Ys.sortL q').map Ys.rowC)] else none else none) = _
    rw [if_pos rfl, rows_enc h, Option.bind_some, if_pos hn]; rfl
  rw [this]
/-! ### Lists -/
theorem encB_set {l : List Bool} {i : Nat} {b : Bool} (h : i < l.length) : storeIn ((i : Nat) : Int).toNat 0 [tb b] (encB l) = some (encB (l.set i b)) := by
  rw [toN]
  unfold storeIn
  have g : (encB l)[i]? = some [tb (l[i])] := by simp [encB, h]
  rw [g]
  show (if 1 ≤ 1 then some ((encB l).set i [tb b]) else none) = _
  rw [if_pos (Nat.le_refl 1)]
  simp [encB]
def yesL (n : Nat) (f : Nat → Bool) (k : Nat) : List Bool := (List.range (2 ^ n)).map fun j => decide (j < k) && f j
theorem yesL_len (n : Nat) (f : Nat → Bool) (k : Nat) : (yesL n f k).length = 2 ^ n := by simp [yesL]
theorem yesL_0 (n : Nat) (f : Nat → Bool) : encB (yesL n f 0) = List.replicate (2 ^ n) [tb false] := by
  unfold yesL encB
  refine List.ext_getElem? fun j => ?_
  rw [List.getElem?_map, List.getElem?_map]
  by_cases hj : j < 2 ^ n
  · rw [List.getElem?_range hj, List.getElem?_replicate, if_pos hj]; simp
  · rw [List.getElem?_eq_none (by simpa using hj), List.getElem?_eq_none (by simpa using hj)]; rfl
theorem yesL_get {n : Nat} {f : Nat → Bool} {k j : Nat} (h : j < k) (hk : j < 2 ^ n) : (yesL n f k)[j]? = some (f j) := by
  unfold yesL
  rw [List.getElem?_map, List.getElem?_range hk]; simp [h]
theorem yesL_set {n : Nat} {f : Nat → Bool} {k : Nat} (h : k < 2 ^ n) : (yesL n f k).set k (f k) = yesL n f (k + 1) := by
  refine List.ext_getElem? fun j => ?_
  rw [List.getElem?_set]
  by_cases e : k = j
  · subst e
    rw [if_pos rfl, if_pos (by rw [yesL_len]; exact h), yesL_get (by omega) h]
  · rw [if_neg e]
    unfold yesL
    rw [List.getElem?_map, List.getElem?_map]
    by_cases hj : j < 2 ^ n
    · rw [List.getElem?_range hj, Option.map_some, Option.map_some]
      have : (j < k) ↔ (j < k + 1) := by omega
      simp only [this]
    · rw [List.getElem?_eq_none (by simpa using hj)]; rfl
def minP (f : Nat → Bool) (s i : Nat) : Bool := f s && (List.range i).all fun i => !s.testBit i || !f (clr s i)
theorem minP_next (f : Nat → Bool) (s i : Nat) : minP f s (i + 1) = (minP f s i && (!s.testBit i || !f (clr s i))) := by
  unfold minP
  rw [List.range_succ, List.all_append, List.all_cons, List.all_nil, Bool.and_true, Bool.and_assoc]
theorem bitsL_next (i s : Nat) : bitsL (i + 1) s = if s.testBit i then bitsL i s ++ [((i : Nat) : Int)] else bitsL i s := by
  unfold bitsL
  rw [List.range_succ, List.filter_append]
  split
  · rename_i h; simp [h]
  · rename_i h; simp [h]
theorem bitsL_len (i s : Nat) : (bitsL i s).length ≤ i := by
  unfold bitsL
  rw [List.length_map]
  exact Nat.le_trans (List.length_filter_le _ _) (by simp)
def lstK (n : Nat) (f : Nat → Bool) (k : Nat) : List (List Int) := ((List.range k).filter (minB n f)).map (bitsL n)
theorem lstK_next (n : Nat) (f : Nat → Bool) (k : Nat) : lstK n f (k + 1) = if minB n f k then lstK n f k ++ [bitsL n k] else lstK n f k := by
  unfold lstK
  rw [List.range_succ, List.filter_append]
  split
  · rename_i h; simp [h]
  · rename_i h; simp [h]
theorem lstK_len (n : Nat) (f : Nat → Bool) (k : Nat) : (lstK n f k).length ≤ k := by
  unfold lstK
  rw [List.length_map]
  exact Nat.le_trans (List.length_filter_le _ _) (by simp)
theorem p8 {n : Nat} (hn : n ≤ 8) : 2 ^ n ≤ 256 := Nat.pow_le_pow_right (by decide) hn
theorem encC_snoc (q : List (List Int)) (l : List Int) : encC q ++ [[T.lst 1 l.isEmpty (enc l)]] = encC (q ++ [l]) := by
  unfold encC; rw [List.map_append]; rfl
theorem enc_snoc (q : List Int) (x : Int) : enc q ++ [[ti x]] = enc (q ++ [x]) := by
  unfold enc; rw [List.map_append]; rfl
theorem emp_snoc {α : Type} (l : List α) (x : α) : (l ++ [x]).isEmpty = false := by cases l <;> rfl
/-! ### .. with one of the closures -/
theorem n11 {n : Nat} (hn : n ≤ 8) (f : Nat → Bool) (e0 : Bool) (c0 : List (List T)) (z : Int) (e1 : Bool) (c1 : List (List T)) {s : Nat} (hs : s < 2 ^ n) {R : List T}
    (hnext : Or K11n4 [I (n : Int), AV.fn 12 [] [AV.t (T.ptr [T.lst 1 e0 c0]), AV.t (T.ptr [ti z, T.lst 1 e1 c1])], o0, o1, I ((2 ^ n : Nat) : Int), I ((s + 1 : Nat) : Int)] [Blk.sl false 1 false (encB (yesL n f (s + 1))), Blk.sl false 1 (lstK n f (s + 1)).isEmpty (encC (lstK n f (s + 1)))] = some R) :
    ∀ (d i : Nat), d + i = n →
    Or K11n10 [I (n : Int), AV.fn 12 [] [AV.t (T.ptr [T.lst 1 e0 c0]), AV.t (T.ptr [ti z, T.lst 1 e1 c1])], o0, o1, I (s : Int), B (minP f s i), o2, I ((2 ^ n : Nat) : Int), I (s : Int), I (n : Int), I (i : Int)]
      [Blk.sl false 1 false (encB (yesL n f (s + 1))), Blk.sl false 1 (lstK n f s).isEmpty (encC (lstK n f s)), Blk.sl false 1 (bitsL i s).isEmpty (enc (bitsL i s))] = some R := by
  have h256 := p8 hn
  intro d
  induction d with
  | zero =>
    intro i hd
    obtain rfl : i = n := by omega
    have h1 : ¬ (i : Int) < (i : Int) := by omega
    have hl := lstK_len i f s
    have hm : minP f s i = minB i f s := rfl
    rw [lstK_next] at hnext
    refine orc_of ?_
    rw [e11n10, hm]
    cases hb : minB i f s with
    | false =>
      rw [hb] at hnext
      simp only [Bool.false_eq_true, if_false] at hnext
      simp only [gd1, hd1, tl1, dr0, dr1, dr2, dr3, dr4, dr5, dr6, bo1, in1, st1, ls1, le1, pt1, fi1, fb1, fs1, ct1, cf1, nt1, nf1, ak0, akT, akF, cdec, cndec, cbeq, cnbeq, ↓reduceIte, beq_self_eq_true, Int.reduceBEq, Int.reduceEq, Bool.and_true, Bool.true_and, Bool.false_and, Bool.and_false, h1, next s (by omega)]
      exact hnext
    | true =>
      rw [hb] at hnext
      simp only [if_true, emp_snoc] at hnext
      have sm : small 24 ((encC (lstK i f s)).length + [[T.lst 1 (bitsL i s).isEmpty (enc (bitsL i s))]].length) = some () := small_ok (by rw [encC_len]; simp; omega)
      simp only [gd1, hd1, tl1, dr0, dr1, dr2, dr3, dr4, dr5, dr6, bo1, in1, st1, ls1, le1, pt1, fi1, fb1, fs1, ct1, cf1, nt1, nf1, ak0, akT, akF, cdec, cndec, cbeq, cnbeq, ↓reduceIte, beq_self_eq_true, Int.reduceBEq, Int.reduceEq, Bool.and_true, Bool.true_and, Bool.false_and, Bool.and_false, h1, sm, encC_snoc, next s (by omega)]
      exact hnext
  | succ d ih =>
    intro i hd
    have hi : i < n := by omega
    have h1 : (i : Int) < (n : Int) := by omega
    have h0 : ¬ (i : Int) < 0 := by omega
    have hbit := bit_all s (by omega) i (by omega)
    have hclr := clr_all s (by omega) i (by omega)
    have ih' := ih (i + 1) (by omega)
    rw [minP_next, bitsL_next] at ih'
    refine orc_of ?_
    rw [e11n10, hbit, hclr]
    cases hb : s.testBit i with
    | false =>
      rw [hb] at ih'
      simp only [Bool.not_false, Bool.true_or, Bool.and_true, Bool.false_eq_true, if_false] at ih'
      have hz : (((0 : Int)) == 1) = false := rfl
      simp only [gdF, gd1, hd1, tl1, dr0, dr1, dr2, dr3, dr4, dr5, dr6, bo1, in1, st1, ls1, le1, pt1, fi1, fb1, fs1, ct1, cf1, nt1, nf1, ak0, akT, akF, cdec, cndec, cbeq, cnbeq, ↓reduceIte, beq_self_eq_true, Int.reduceBEq, Int.reduceEq, Bool.and_true, Bool.true_and, Bool.false_and, Bool.and_false, h1, h0, hz, Bool.false_eq_true, if_false, next i (by omega)]
      exact ih'
    | true =>
      rw [hb] at ih'
      simp only [Bool.not_true, Bool.false_or, if_true, emp_snoc] at ih'
      have hlt := clr_lt s (by omega) i (by omega) hb
      have hy := encB_get (yesL_get (n := n) (f := f) (k := s + 1) (j := clr s i) (by omega) (by omega))
      rw [toN] at hy
      have hc0 : 0 ≤ ((clr s i : Nat) : Int) ∧ ((clr s i : Nat) : Int) < ((2 ^ n : Nat) : Int) := by omega
      have hl := bitsL_len i s
      have sm : small 8 ((enc (bitsL i s)).length + [[ti (i : Int)]].length) = some () := small_ok (by rw [enc_len]; simp; omega)
      have hz : (((1 : Int)) == 1) = true := rfl
      cases hm : minP f s i with
      | false =>
        rw [hm] at ih'
        simp only [Bool.false_and] at ih'
        simp only [gdF, gd1, hd1, tl1, dr0, dr1, dr2, dr3, dr4, dr5, dr6, bo1, in1, st1, ls1, le1, pt1, fi1, fb1, fs1, ct1, cf1, nt1, nf1, ak0, akT, akF, cdec, cndec, cbeq, cnbeq, ↓reduceIte, beq_self_eq_true, Int.reduceBEq, Int.reduceEq, Bool.and_true, Bool.true_and, Bool.false_and, Bool.and_false, h1, h0, hz, if_true, sm, enc_snoc, Bool.and_false, next i (by omega)]
        exact ih'
      | true =>
        rw [hm] at ih'
        simp only [Bool.true_and] at ih'
        simp only [gdF, gd1, hd1, tl1, dr0, dr1, dr2, dr3, dr4, dr5, dr6, bo1, in1, st1, ls1, le1, pt1, fi1, fb1, fs1, ct1, cf1, nt1, nf1, ak0, akT, akF, cdec, cndec, cbeq, cnbeq, ↓reduceIte, beq_self_eq_true, Int.reduceBEq, Int.reduceEq, Bool.and_true, Bool.true_and, Bool.false_and, Bool.and_false, h1, h0, hz, if_true, sm, enc_snoc, Bool.and_false, encB_len, yesL_len, hc0, and_self, toN, hy, next i (by omega)]
        exact ih'
theorem n11o {n : Nat} (hn : n ≤ 8) (f : Nat → Bool) (e0 : Bool) (c0 : List (List T)) (z : Int) (e1 : Bool) (c1 : List (List T))
    (hf : ∀ s : Nat, s < 256 → Or (.call 12) [I (s : Int), AV.t (T.ptr [T.lst 1 e0 c0]), AV.t (T.ptr [ti z, T.lst 1 e1 c1])] [] = some [tb (f s)]) : ∀ (d s : Nat), d + s = 2 ^ n →
    Or K11n4 [I (n : Int), AV.fn 12 [] [AV.t (T.ptr [T.lst 1 e0 c0]), AV.t (T.ptr [ti z, T.lst 1 e1 c1])], o0, o1, I ((2 ^ n : Nat) : Int), I (s : Int)] [Blk.sl false 1 false (encB (yesL n f s)), Blk.sl false 1 (lstK n f s).isEmpty (encC (lstK n f s))] =
      some [T.lst 1 (lstF n f).isEmpty (encC (Ys.sortL (lstF n f)))] := by
  have h256 := p8 hn
  intro d
  induction d with
  | zero =>
    intro s hd
    obtain rfl : s = 2 ^ n := by omega
    have h1 : ¬ ((2 ^ n : Nat) : Int) < ((2 ^ n : Nat) : Int) := by omega
    have k24 := s24 (lstF n f).isEmpty (lstF n f) (fun l hl => by
      obtain ⟨s, _, rfl⟩ := List.mem_map.1 hl
      have := bitsL_len n s
      omega) (by have := lstK_len n f (2 ^ n); unfold lstK at this; unfold lstF; omega)
    have e : lstK n f (2 ^ n) = lstF n f := rfl
    rw [e]
    refine orc_of ?_
    rw [e11n4]
    simp only [gd1, hd1, tl1, dr0, dr1, dr2, dr3, dr4, dr5, dr6, bo1, in1, st1, ls1, le1, pt1, fi1, fb1, fs1, ct1, cf1, nt1, nf1, ak0, akT, akF, cdec, cndec, cbeq, cnbeq, ↓reduceIte, beq_self_eq_true, Int.reduceBEq, Int.reduceEq, Bool.and_true, Bool.true_and, Bool.false_and, Bool.and_false, h1, k24, Option.bind_some]
  | succ d ih =>
    intro s hd
    have hs : s < 2 ^ n := by omega
    have h1 : (s : Int) < ((2 ^ n : Nat) : Int) := by omega
    have h0 : 0 ≤ (s : Int) := by omega
    have k12 := hf s (by omega)
    have st := encB_set (l := yesL n f s) (i := s) (b := f s) (by rw [yesL_len]; exact hs)
    rw [yesL_set hs] at st
    have hy := encB_get (yesL_get (n := n) (f := f) (k := s + 1) (j := s) (by omega) hs)
    have k := n11 hn f e0 c0 z e1 c1 hs (ih (s + 1) (by omega)) n 0 (by omega)
    have hm : minP f s 0 = f s := by unfold minP; simp
    have hb0 : bitsL 0 s = [] := rfl
    rw [hm, hb0] at k
    refine orc_of ?_
    rw [e11n4]
    simp only [gd1, hd1, tl1, dr0, dr1, dr2, dr3, dr4, dr5, dr6, bo1, in1, st1, ls1, le1, pt1, fi1, fb1, fs1, ct1, cf1, nt1, nf1, ak0, akT, akF, cdec, cndec, cbeq, cnbeq, ↓reduceIte, beq_self_eq_true, Int.reduceBEq, Int.reduceEq, Bool.and_true, Bool.true_and, Bool.false_and, Bool.and_false, h1, h0, and_self, k12, encB_len, yesL_len, st, hy]
    exact k
/-- lists. -/
theorem s11 {n : Nat} (hn : n ≤ 8) (f : Nat → Bool) (e0 : Bool) (c0 : List (List T)) (z : Int) (e1 : Bool) (c1 : List (List T))
    (hf : ∀ s : Nat, s < 256 → Or (.call 12) [I (s : Int), AV.t (T.ptr [T.lst 1 e0 c0]), AV.t (T.ptr [ti z, T.lst 1 e1 c1])] [] = some [tb (f s)]) :
    Or (.call 11) [I (n : Int), AV.fn 12 [] [AV.t (T.ptr [T.lst 1 e0 c0]), AV.t (T.ptr [ti z, T.lst 1 e1 c1])]] [] = some [T.lst 1 (lstF n f).isEmpty (encC (Ys.sortL (lstF n f)))] := by
  have h256 := p8 hn
  have hp : IntKind.i64.wrap ((1 : Int) * (2 : Int) ^ min ((n : Nat) : Int).toNat 64) = ((2 ^ n : Nat) : Int) := by
    rw [Int.one_mul, toN, show min n 64 = n by omega]
    have : ((2 : Int) ^ n) = ((2 ^ n : Nat) : Int) := by rw [Int.natCast_pow]; rfl
    rw [this]
    generalize 2 ^ n = N at h256 ⊢
    rw [wr (by omega)]
  have h0 : ¬ (n : Int) < 0 := by omega
  have mk0 : mkOk ((2 ^ n : Nat) : Int) ((2 ^ n : Nat) : Int) = some () := by
    unfold mkOk lim
    generalize 2 ^ n = N at h256 ⊢
    rw [if_pos (by omega)]
  have k := n11o hn f e0 c0 z e1 c1 hf (2 ^ n) 0 (by omega)
  rw [yesL_0] at k
  have hl0 : lstK n f 0 = [] := rfl
  rw [hl0] at k
  refine orc_of ?_
  rw [e11]
  rw [hp]
  simp only [gdF, gd1, hd1, tl1, dr0, dr1, dr2, dr3, dr4, dr5, dr6, bo1, in1, st1, ls1, le1, pt1, fi1, fb1, fs1, ct1, cf1, nt1, nf1, ak0, akT, akF, cdec, cndec, cbeq, cnbeq, ↓reduceIte, beq_self_eq_true, Int.reduceBEq, Int.reduceEq, Bool.and_true, Bool.true_and, Bool.false_and, Bool.and_false, h0, mk0, toN, List.length_replicate]
  exact k
/-- Cores, or mends, of few clauses. -/
theorem s5 {v : Nat} (hv : v = 4 ∨ v = 1) (e : Bool) (cs : List (List Int)) (ok : ∀ l ∈ cs, ClOk v l) (hn : cs.length ≤ 8) :
    Or (.call 5) [AV.agg [I (v : Int), LC e cs]] [] = some [T.lst 1 (lstF cs.length (fun s => !(opB v (setsL v cs) (fun i => s.testBit i)))).isEmpty (encC (Ys.sortL (lstF cs.length (fun s => !(opB v (setsL v cs) (fun i => s.testBit i)))))), ti 0, ti 0] := by
  have hv16 : v ≤ 16 := by omega
  have k9 := s9 e v hv16 cs ok (by omega)
  have k10 := s10 hv e cs ok (by omega)
  have hsl : (setsL v cs).length = cs.length := by simp [setsL]
  have hb : ∀ w ∈ setsL v cs, w < 2 ^ 64 := fun w hw => by
    obtain ⟨l, _, rfl⟩ := List.mem_map.1 hw
    exact Nat.lt_trans (mk_lt _ _) (Nat.pow_lt_pow_right (by decide) (Nat.lt_of_le_of_lt (pv hv) (by decide)))
  have k11 := s11 (n := cs.length) hn (fun s => !(opB v (setsL v cs) (fun i => s.testBit i))) false (encW (setsL v cs)) (v : Int) e (encC cs) fun s hs => s12 hv (setsL v cs) hb (by omega) e (encC cs) hs
  refine orc_of ?_
  rw [e5]
  simp only [gd1, hd1, tl1, dr0, dr1, dr2, dr3, dr4, dr5, dr6, bo1, in1, st1, ls1, le1, pt1, fi1, fb1, fs1, ct1, cf1, nt1, nf1, ak0, akT, akF, cdec, cndec, cbeq, cnbeq, ↓reduceIte, beq_self_eq_true, Int.reduceBEq, Int.reduceEq, Bool.and_true, Bool.true_and, Bool.false_and, Bool.and_false, k9, k10, encW_len, hsl, k11]
/-! ### .. with one of the closures -/
theorem n11s2 {n : Nat} (hn : n ≤ 8) (f : Nat → Bool) (e0 : Bool) (c0 : List (List T)) (z : Int) (e1 : Bool) (c1 : List (List T)) {s : Nat} (hs : s < 2 ^ n) {R : List T}
    (hnext : Or K11n4 [I (n : Int), AV.fn 15 [] [AV.t (T.ptr [T.lst 1 e0 c0]), AV.t (T.ptr [ti z, T.lst 1 e1 c1])], o0, o1, I ((2 ^ n : Nat) : Int), I ((s + 1 : Nat) : Int)] [Blk.sl false 1 false (encB (yesL n f (s + 1))), Blk.sl false 1 (lstK n f (s + 1)).isEmpty (encC (lstK n f (s + 1)))] = some R) :
    ∀ (d i : Nat), d + i = n →
    Or K11n10 [I (n : Int), AV.fn 15 [] [AV.t (T.ptr [T.lst 1 e0 c0]), AV.t (T.ptr [ti z, T.lst 1 e1 c1])], o0, o1, I (s : Int), B (minP f s i), o2, I ((2 ^ n : Nat) : Int), I (s : Int), I (n : Int), I (i : Int)]
      [Blk.sl false 1 false (encB (yesL n f (s + 1))), Blk.sl false 1 (lstK n f s).isEmpty (encC (lstK n f s)), Blk.sl false 1 (bitsL i s).isEmpty (enc (bitsL i s))] = some R := by
  have h256 := p8 hn
  intro d
  induction d with
  | zero =>
    intro i hd
    obtain rfl : i = n := by omega
    have h1 : ¬ (i : Int) < (i : Int) := by omega
    have hl := lstK_len i f s
    have hm : minP f s i = minB i f s := rfl
    rw [lstK_next] at hnext
    refine orc_of ?_
    rw [e11n10s2, hm]
    cases hb : minB i f s with
    | false =>
      rw [hb] at hnext
      simp only [Bool.false_eq_true, if_false] at hnext
      simp only [gd1, hd1, tl1, dr0, dr1, dr2, dr3, dr4, dr5, dr6, bo1, in1, st1, ls1, le1, pt1, fi1, fb1, fs1, ct1, cf1, nt1, nf1, ak0, akT, akF, cdec, cndec, cbeq, cnbeq, ↓reduceIte, beq_self_eq_true, Int.reduceBEq, Int.reduceEq, Bool.and_true, Bool.true_and, Bool.false_and, Bool.and_false, h1, next s (by omega)]
      exact hnext
    | true =>
      rw [hb] at hnext
      simp only [if_true, emp_snoc] at hnext
      have sm : small 24 ((encC (lstK i f s)).length + [[T.lst 1 (bitsL i s).isEmpty (enc (bitsL i s))]].length) = some () := small_ok (by rw [encC_len]; simp; omega)
      simp only [gd1, hd1, tl1, dr0, dr1, dr2, dr3, dr4, dr5, dr6, bo1, in1, st1, ls1, le1, pt1, fi1, fb1, fs1, ct1, cf1, nt1, nf1, ak0, akT, akF, cdec, cndec, cbeq, cnbeq, ↓reduceIte, beq_self_eq_true, Int.reduceBEq, Int.reduceEq, Bool.and_true, Bool.true_and, Bool.false_and, Bool.and_false, h1, sm, encC_snoc, next s (by omega)]
      exact hnext
  | succ d ih =>
    intro i hd
    have hi : i < n := by omega
    have h1 : (i : Int) < (n : Int) := by omega
    have h0 : ¬ (i : Int) < 0 := by omega
    have hbit := bit_all s (by omega) i (by omega)
    have hclr := clr_all s (by omega) i (by omega)
    have ih' := ih (i + 1) (by omega)
    rw [minP_next, bitsL_next] at ih'
    refine orc_of ?_
    rw [e11n10s2, hbit, hclr]
    cases hb : s.testBit i with
    | false =>
      rw [hb] at ih'
      simp only [Bool.not_false, Bool.true_or, Bool.and_true, Bool.false_eq_true, if_false] at ih'
      have hz : (((0 : Int)) == 1) = false := rfl
      simp only [gdF, gd1, hd1, tl1, dr0, dr1, dr2, dr3, dr4, dr5, dr6, bo1, in1, st1, ls1, le1, pt1, fi1, fb1, fs1, ct1, cf1, nt1, nf1, ak0, akT, akF, cdec, cndec, cbeq, cnbeq, ↓reduceIte, beq_self_eq_true, Int.reduceBEq, Int.reduceEq, Bool.and_true, Bool.true_and, Bool.false_and, Bool.and_false, h1, h0, hz, Bool.false_eq_true, if_false, next i (by omega)]
      exact ih'
    | true =>
      rw [hb] at ih'
      simp only [Bool.not_true, Bool.false_or, if_true, emp_snoc] at ih'
      have hlt := clr_lt s (by omega) i (by omega) hb
      have hy := encB_get (yesL_get (n := n) (f := f) (k := s + 1) (j := clr s i) (by omega) (by omega))
      rw [toN] at hy
      have hc0 : 0 ≤ ((clr s i : Nat) : Int) ∧ ((clr s i : Nat) : Int) < ((2 ^ n : Nat) : Int) := by omega
      have hl := bitsL_len i s
      have sm : small 8 ((enc (bitsL i s)).length + [[ti (i : Int)]].length) = some () := small_ok (by rw [enc_len]; simp; omega)
      have hz : (((1 : Int)) == 1) = true := rfl
      cases hm : minP f s i with
      | false =>
        rw [hm] at ih'
        simp only [Bool.false_and] at ih'
        simp only [gdF, gd1, hd1, tl1, dr0, dr1, dr2, dr3, dr4, dr5, dr6, bo1, in1, st1, ls1, le1, pt1, fi1, fb1, fs1, ct1, cf1, nt1, nf1, ak0, akT, akF, cdec, cndec, cbeq, cnbeq, ↓reduceIte, beq_self_eq_true, Int.reduceBEq, Int.reduceEq, Bool.and_true, Bool.true_and, Bool.false_and, Bool.and_false, h1, h0, hz, if_true, sm, enc_snoc, Bool.and_false, next i (by omega)]
        exact ih'
      | true =>
        rw [hm] at ih'
        simp only [Bool.true_and] at ih'
        simp only [gdF, gd1, hd1, tl1, dr0, dr1, dr2, dr3, dr4, dr5, dr6, bo1, in1, st1, ls1, le1, pt1, fi1, fb1, fs1, ct1, cf1, nt1, nf1, ak0, akT, akF, cdec, cndec, cbeq, cnbeq, ↓reduceIte, beq_self_eq_true, Int.reduceBEq, Int.reduceEq, Bool.and_true, Bool.true_and, Bool.false_and, Bool.and_false, h1, h0, hz, if_true, sm, enc_snoc, Bool.and_false, encB_len, yesL_len, hc0, and_self, toN, hy, next i (by omega)]
        exact ih'
theorem n11os2 {n : Nat} (hn : n ≤ 8) (f : Nat → Bool) (e0 : Bool) (c0 : List (List T)) (z : Int) (e1 : Bool) (c1 : List (List T))
    (hf : ∀ s : Nat, s < 256 → Or (.call 15) [I (s : Int), AV.t (T.ptr [T.lst 1 e0 c0]), AV.t (T.ptr [ti z, T.lst 1 e1 c1])] [] = some [tb (f s)]) : ∀ (d s : Nat), d + s = 2 ^ n →
    Or K11n4 [I (n : Int), AV.fn 15 [] [AV.t (T.ptr [T.lst 1 e0 c0]), AV.t (T.ptr [ti z, T.lst 1 e1 c1])], o0, o1, I ((2 ^ n : Nat) : Int), I (s : Int)] [Blk.sl false 1 false (encB (yesL n f s)), Blk.sl false 1 (lstK n f s).isEmpty (encC (lstK n f s))] =
      some [T.lst 1 (lstF n f).isEmpty (encC (Ys.sortL (lstF n f)))] := by
  have h256 := p8 hn
  intro d
  induction d with
  | zero =>
    intro s hd
    obtain rfl : s = 2 ^ n := by omega
    have h1 : ¬ ((2 ^ n : Nat) : Int) < ((2 ^ n : Nat) : Int) := by omega
    have k24 := s24 (lstF n f).isEmpty (lstF n f) (fun l hl => by
      obtain ⟨s, _, rfl⟩ := List.mem_map.1 hl
      have := bitsL_len n s
      omega) (by have := lstK_len n f (2 ^ n); unfold lstK at this; unfold lstF; omega)
    have e : lstK n f (2 ^ n) = lstF n f := rfl
    rw [e]
    refine orc_of ?_
    rw [e11n4s2]
    simp only [gd1, hd1, tl1, dr0, dr1, dr2, dr3, dr4, dr5, dr6, bo1, in1, st1, ls1, le1, pt1, fi1, fb1, fs1, ct1, cf1, nt1, nf1, ak0, akT, akF, cdec, cndec, cbeq, cnbeq, ↓reduceIte, beq_self_eq_true, Int.reduceBEq, Int.reduceEq, Bool.and_true, Bool.true_and, Bool.false_and, Bool.and_false, h1, k24, Option.bind_some]
  | succ d ih =>
    intro s hd
    have hs : s < 2 ^ n := by omega
    have h1 : (s : Int) < ((2 ^ n : Nat) : Int) := by omega
    have h0 : 0 ≤ (s : Int) := by omega
    have k12 := hf s (by omega)
    have st := encB_set (l := yesL n f s) (i := s) (b := f s) (by rw [yesL_len]; exact hs)
    rw [yesL_set hs] at st
    have hy := encB_get (yesL_get (n := n) (f := f) (k := s + 1) (j := s) (by omega) hs)
    have k := n11s2 hn f e0 c0 z e1 c1 hs (ih (s + 1) (by omega)) n 0 (by omega)
    have hm : minP f s 0 = f s := by unfold minP; simp
    have hb0 : bitsL 0 s = [] := rfl
    rw [hm, hb0] at k
    refine orc_of ?_
    rw [e11n4s2]
    simp only [gd1, hd1, tl1, dr0, dr1, dr2, dr3, dr4, dr5, dr6, bo1, in1, st1, ls1, le1, pt1, fi1, fb1, fs1, ct1, cf1, nt1, nf1, ak0, akT, akF, cdec, cndec, cbeq, cnbeq, ↓reduceIte, beq_self_eq_true, Int.reduceBEq, Int.reduceEq, Bool.and_true, Bool.true_and, Bool.false_and, Bool.and_false, h1, h0, and_self, k12, encB_len, yesL_len, st, hy]
    exact k
/-- lists. -/
theorem s11s2 {n : Nat} (hn : n ≤ 8) (f : Nat → Bool) (e0 : Bool) (c0 : List (List T)) (z : Int) (e1 : Bool) (c1 : List (List T))
    (hf : ∀ s : Nat, s < 256 → Or (.call 15) [I (s : Int), AV.t (T.ptr [T.lst 1 e0 c0]), AV.t (T.ptr [ti z, T.lst 1 e1 c1])] [] = some [tb (f s)]) :
    Or (.call 11) [I (n : Int), AV.fn 15 [] [AV.t (T.ptr [T.lst 1 e0 c0]), AV.t (T.ptr [ti z, T.lst 1 e1 c1])]] [] = some [T.lst 1 (lstF n f).isEmpty (encC (Ys.sortL (lstF n f)))] := by
  have h256 := p8 hn
  have hp : IntKind.i64.wrap ((1 : Int) * (2 : Int) ^ min ((n : Nat) : Int).toNat 64) = ((2 ^ n : Nat) : Int) := by
    rw [Int.one_mul, toN, show min n 64 = n by omega]
    have : ((2 : Int) ^ n) = ((2 ^ n : Nat) : Int) := by rw [Int.natCast_pow]; rfl
    rw [this]
    generalize 2 ^ n = N at h256 ⊢
    rw [wr (by omega)]
  have h0 : ¬ (n : Int) < 0 := by omega
  have mk0 : mkOk ((2 ^ n : Nat) : Int) ((2 ^ n : Nat) : Int) = some () := by
    unfold mkOk lim
    generalize 2 ^ n = N at h256 ⊢
    rw [if_pos (by omega)]
  have k := n11os2 hn f e0 c0 z e1 c1 hf (2 ^ n) 0 (by omega)
  rw [yesL_0] at k
  have hl0 : lstK n f 0 = [] := rfl
  rw [hl0] at k
  refine orc_of ?_
  rw [e11s2]
  rw [hp]
  simp only [gdF, gd1, hd1, tl1, dr0, dr1, dr2, dr3, dr4, dr5, dr6, bo1, in1, st1, ls1, le1, pt1, fi1, fb1, fs1, ct1, cf1, nt1, nf1, ak0, akT, akF, cdec, cndec, cbeq, cnbeq, ↓reduceIte, beq_self_eq_true, Int.reduceBEq, Int.reduceEq, Bool.and_true, Bool.true_and, Bool.false_and, Bool.and_false, h0, mk0, toN, List.length_replicate]
  exact k
/-- Cores, or mends, of few clauses. -/
theorem s6 {v : Nat} (hv : v = 4 ∨ v = 1) (e : Bool) (cs : List (List Int)) (ok : ∀ l ∈ cs, ClOk v l) (hn : cs.length ≤ 8) :
    Or (.call 6) [AV.agg [I (v : Int), LC e cs]] [] = some [T.lst 1 (lstF cs.length (fun s => (opB v (setsL v cs) (fun i => !s.testBit i)))).isEmpty (encC (Ys.sortL (lstF cs.length (fun s => (opB v (setsL v cs) (fun i => !s.testBit i)))))), ti 0, ti 0] := by
  have hv16 : v ≤ 16 := by omega
  have k9 := s9 e v hv16 cs ok (by omega)
  have k10 := s10 hv e cs ok (by omega)
  have hsl : (setsL v cs).length = cs.length := by simp [setsL]
  have hb : ∀ w ∈ setsL v cs, w < 2 ^ 64 := fun w hw => by
    obtain ⟨l, _, rfl⟩ := List.mem_map.1 hw
    exact Nat.lt_trans (mk_lt _ _) (Nat.pow_lt_pow_right (by decide) (Nat.lt_of_le_of_lt (pv hv) (by decide)))
  have k11 := s11s2 (n := cs.length) hn (fun s => (opB v (setsL v cs) (fun i => !s.testBit i))) false (encW (setsL v cs)) (v : Int) e (encC cs) fun s hs => s15 hv (setsL v cs) hb (by omega) e (encC cs) hs
  refine orc_of ?_
  rw [e6]
  simp only [gd1, hd1, tl1, dr0, dr1, dr2, dr3, dr4, dr5, dr6, bo1, in1, st1, ls1, le1, pt1, fi1, fb1, fs1, ct1, cf1, nt1, nf1, ak0, akT, akF, cdec, cndec, cbeq, cnbeq, ↓reduceIte, beq_self_eq_true, Int.reduceBEq, Int.reduceEq, Bool.and_true, Bool.true_and, Bool.false_and, Bool.and_false, k9, k10, encW_len, hsl, k11]
end Go.Aev.Gen
