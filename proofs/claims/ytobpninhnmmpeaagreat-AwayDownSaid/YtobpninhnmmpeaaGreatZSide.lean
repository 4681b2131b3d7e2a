/-
  What bounds a number: the program's and the document's.
-/
import Derived.Test.YtobpninhnmmpeaaGreatZMix
set_option linter.unusedSimpArgs false
set_option linter.unusedVariables false
namespace Go.Aev.Gen
open Go Go.Aev

structure Bn where
  e : Bool
  of : List Int
  to : Int
  less : Bool
  frm : Int
def eB (b : Bn) : List T := [T.lst 1 b.e (enc b.of), ti b.to, tb b.less, ti b.frm]
def eBs (l : List Bn) : List (List T) := l.map eB
theorem eBs_len (l : List Bn) : (eBs l).length = l.length := by simp [eBs]
theorem eBs_get {l : List Bn} {i : Nat} {r : Bn} (h : l[i]? = some r) : (eBs l)[((i : Nat) : Int).toNat]? = some [T.lst 1 r.e (enc r.of), ti r.to, tb r.less, ti r.frm] := by simp [eBs, h, eB]
def Bn.s (b : Bn) : Bn := ⟨true, b.of, b.to, b.less, b.frm⟩
abbrev toC (r : R) : List Int × Int × Int := (r.of, r.kd, r.tv)
def Bn.c (b : Bn) : List Int × Int × Int := (b.of, if b.less then 2 else 1, b.to)
def padL (n : Nat) (l : List Int) : List Int := l ++ List.replicate (n - l.length) 0
theorem padL_len {n : Nat} {l : List Int} (h : l.length ≤ n) : (padL n l).length = n := by simp [padL]; omega
theorem padL_bd {n : Nat} {l : List Int} (h : Bd 1000000 l) : Bd 1000000 (padL n l) := by
  intro x hx
  rcases List.mem_append.1 hx with h1 | h1
  · exact h x h1
  · rw [(List.mem_replicate.1 h1).2]; omega
theorem padL_at (n : Nat) (l : List Int) (k : Nat) : (padL n l).getD k 0 = l.getD k 0 := by
  simp only [padL, List.getD_eq_getElem?_getD]
  by_cases h : k < l.length
  · rw [List.getElem?_append_left h]
  · rw [List.getElem?_append_right (by omega), List.getElem?_eq_none (l := l) (by omega)]
    by_cases h2 : k - l.length < n - l.length
    · rw [List.getElem?_replicate, if_pos h2]; rfl
    · rw [List.getElem?_replicate, if_neg h2]
theorem getD_get {l : List Int} {k : Nat} (h : k < l.length) : l[k]? = some (l.getD k 0) := by
  simp [List.getD_eq_getElem?_getD, h]
theorem s39 (e : Bool) (l : List Int) (n : Nat) (he : e = true → l = []) (hl : l.length ≤ n) (hn : n ≤ 12) : ∃ e', Or (.call 46) [lst e l, I (n : Int)] [] = some [T.lst 1 e' (enc (padL n l))] := by
  obtain ⟨x, e', k1, k2⟩ := s73 l e he (by omega)
  have hw : IntKind.i64.wrap ((n : Int) - (l.length : Int)) = ((n - l.length : Nat) : Int) := by rw [wr (by omega)]; omega
  have hm : mkOk ((n - l.length : Nat) : Int) ((n - l.length : Nat) : Int) = some () := by unfold mkOk; rw [if_pos (by unfold lim; omega)]
  have hs : small 8 (l.length + (List.replicate ((n - l.length : Nat) : Int).toNat [ti 0]).length) = some () := small_ok (by simp; omega)
  have ha : enc l ++ List.replicate ((n - l.length : Nat) : Int).toNat [ti 0] = enc (padL n l) := by simp [enc, padL]
  refine ⟨e' && (List.replicate ((n - l.length : Nat) : Int).toNat [ti 0]).isEmpty, orc_of ?_⟩
  rw [e39]
  simp only [gd1, hd1, tl1, dr0, dr1, dr2, dr3, dr4, dr5, dr6, bo1, in1, st1, ls1, le1, pt1, fi1, fb1, fs1, ct1, cf1, nt1, nf1, ak0, akT, akF, cdec, cndec, cbeq, cnbeq, ↓reduceIte, beq_self_eq_true, Int.reduceBEq, Int.reduceEq, Bool.and_true, Bool.true_and, Bool.false_and, Bool.and_false, k1, k2, enc_len, hw, hm, hs, ha]
theorem n40 (e : Bool) (l : List Int) (hb : Bd 1000000 l) (hn : l.length ≤ 1000) : ∀ (rest : List Int) (i : Nat) (done : List Int) (e1 : Bool), l.drop i = rest → done.length ≤ i →
    ∃ e', Or K40n3 [o0, lst e l, I (l.length : Int), I (i : Int)] [Blk.sl false 1 e1 (enc done)] = some [T.lst 1 e' (enc (done ++ negL rest))] := by
  intro rest
  induction rest with
  | nil =>
    intro i done e1 h hl
    have h1 : ¬ (i : Int) < (l.length : Int) := by have := at_end h; omega
    refine ⟨e1, orc_of ?_⟩
    rw [e40n3]
    simp only [gd1, hd1, tl1, dr0, dr1, dr2, dr3, dr4, dr5, dr6, bo1, in1, st1, ls1, le1, pt1, fi1, fb1, fs1, ct1, cf1, nt1, nf1, ak0, akT, akF, cdec, cndec, cbeq, cnbeq, ↓reduceIte, beq_self_eq_true, Int.reduceBEq, Int.reduceEq, Bool.and_true, Bool.true_and, Bool.false_and, Bool.and_false, h1]
    simp [negL]
  | cons x rest ih =>
    intro i done e1 h hl
    obtain ⟨g1, g2, g3⟩ := at_drop h
    have h1 : (i : Int) < (l.length : Int) := by omega
    have h0 : 0 ≤ (i : Int) := by omega
    have hx := hb x (List.mem_of_getElem? g1)
    have hw : IntKind.i64.wrap (0 - x) = -x := by rw [wr (by omega)]; omega
    have hsm : small 8 (done.length + [[ti (-x)]].length) = some () := small_ok (by simp; omega)
    have happ : enc done ++ [[ti (-x)]] = enc (done ++ [-x]) := by simp [enc]
    obtain ⟨e', k⟩ := ih (i + 1) (done ++ [-x]) (e1 && false) g3 (by simp; omega)
    refine ⟨e', orc_of ?_⟩
    rw [e40n3]
    rw [Bool.and_false, List.append_assoc, List.singleton_append] at k
    simp only [gd1, hd1, tl1, dr0, dr1, dr2, dr3, dr4, dr5, dr6, bo1, in1, st1, ls1, le1, pt1, fi1, fb1, fs1, ct1, cf1, nt1, nf1, ak0, akT, akF, cdec, cndec, cbeq, cnbeq, ↓reduceIte, beq_self_eq_true, Int.reduceBEq, Int.reduceEq, Bool.and_true, Bool.true_and, Bool.false_and, Bool.and_false, h1, h0, and_self, enc_len, enc_get g1, hw, hsm, happ, next i (by omega)]
    exact k
theorem s40 (e : Bool) (l : List Int) (hb : Bd 1000000 l) (hn : l.length ≤ 1000) : ∃ e', Or (.call 47) [lst e l] [] = some [T.lst 1 e' (enc (negL l))] := by
  obtain ⟨e', k⟩ := n40 e l hb hn l 0 [] true rfl (by simp)
  refine ⟨e', orc_of ?_⟩
  rw [e40, enc_len]
  exact k
def upB (n k i : Nat) (r : R) : List Bn :=
  if r.of.getD k 0 > 0 then [⟨true, padL n r.of, r.tv, r.kd == 2, (i : Int)⟩] else if r.of.getD k 0 < 0 ∧ r.kd = 3 then [⟨true, negL (padL n r.of), -r.tv, false, (i : Int)⟩] else []
def dnB (n k i : Nat) (r : R) : List Bn :=
  if r.of.getD k 0 < 0 then [⟨true, padL n r.of, r.tv, r.kd == 2, (i : Int)⟩] else if r.of.getD k 0 > 0 ∧ r.kd = 3 then [⟨true, negL (padL n r.of), -r.tv, false, (i : Int)⟩] else []
def ups (n k : Nat) : List R → Nat → List Bn
  | [], _ => []
  | r :: rs, i => upB n k i r ++ ups n k rs (i + 1)
def dns (n k : Nat) : List R → Nat → List Bn
  | [], _ => []
  | r :: rs, i => dnB n k i r ++ dns n k rs (i + 1)
structure OkR (n : Nat) (r : R) : Prop where
  e : r.e = true → r.of = []
  kd : r.kd = 1 ∨ r.kd = 2 ∨ r.kd = 3
  len : r.of.length ≤ n
  of : Bd 1000000 r.of
  tv : -1000000 ≤ r.tv ∧ r.tv ≤ 1000000
abbrev bK (k : Nat) : Blk := Blk.box [I (k : Int)]
abbrev LB (e : Bool) (l : List Bn) : Blk := Blk.sl false 4 e (eBs l)
theorem s38 (k : Nat) (b : Bn) (hs ls : List Bn) (eh el : Bool) (hk : k < b.of.length) (h1 : hs.length ≤ 1000) (h2 : ls.length ≤ 1000) :
    Or (.call 45) [AV.agg [AV.t (T.lst 1 b.e (enc b.of)), I b.to, B b.less, I b.frm], r0, AV.ref (Id.c 1) 0, AV.ref (Id.c 2) 0] [bK k, Blk.box [AV.own (Id.c 3)], Blk.box [AV.own (Id.c 4)], LB eh hs, LB el ls] =
      if b.of.getD k 0 > 0 then some [ti k, T.lst 4 false (eBs (hs ++ [b])), T.lst 4 el (eBs ls)] else some [ti k, T.lst 4 eh (eBs hs), T.lst 4 false (eBs (ls ++ [b]))] := by
  have h0 : 0 ≤ (k : Int) ∧ (k : Int) < (b.of.length : Int) := by omega
  have hg := enc_get (getD_get hk)
  have hsa : small 48 (hs.length + [eB b].length) = some () := small_ok (by simp; omega)
  have hsb : small 48 (ls.length + [eB b].length) = some () := small_ok (by simp; omega)
  have ha : eBs hs ++ [eB b] = eBs (hs ++ [b]) := by simp [eBs]
  have hb : eBs ls ++ [eB b] = eBs (ls ++ [b]) := by simp [eBs]
  have key : ∀ r, stepO PROG ann Or (.call 45) [AV.agg [AV.t (T.lst 1 b.e (enc b.of)), I b.to, B b.less, I b.frm], r0, AV.ref (Id.c 1) 0, AV.ref (Id.c 2) 0] [bK k, Blk.box [AV.own (Id.c 3)], Blk.box [AV.own (Id.c 4)], LB eh hs, LB el ls] = some r →
      Or (.call 45) [AV.agg [AV.t (T.lst 1 b.e (enc b.of)), I b.to, B b.less, I b.frm], r0, AV.ref (Id.c 1) 0, AV.ref (Id.c 2) 0] [bK k, Blk.box [AV.own (Id.c 3)], Blk.box [AV.own (Id.c 4)], LB eh hs, LB el ls] = some r := fun r h => orc_of h
  unfold eB at hsa hsb ha hb
  by_cases hp : b.of.getD k 0 > 0
  · rw [if_pos hp]
    refine key _ ?_
    rw [e38]
    simp only [gd1, hd1, tl1, dr0, dr1, dr2, dr3, dr4, dr5, dr6, bo1, in1, st1, ls1, le1, pt1, fi1, fb1, fs1, ct1, cf1, nt1, nf1, ak0, akT, akF, cdec, cndec, cbeq, cnbeq, ↓reduceIte, beq_self_eq_true, Int.reduceBEq, Int.reduceEq, Bool.and_true, Bool.true_and, Bool.false_and, Bool.and_false, h0, and_self, enc_len, hg, hp, eBs_len, hsa, ha]
  · rw [if_neg hp]
    refine key _ ?_
    rw [e38]
    simp only [gd1, hd1, tl1, dr0, dr1, dr2, dr3, dr4, dr5, dr6, bo1, in1, st1, ls1, le1, pt1, fi1, fb1, fs1, ct1, cf1, nt1, nf1, ak0, akT, akF, cdec, cndec, cbeq, cnbeq, ↓reduceIte, beq_self_eq_true, Int.reduceBEq, Int.reduceEq, Bool.and_true, Bool.true_and, Bool.false_and, Bool.and_false, h0, and_self, enc_len, hg, hp, eBs_len, hsb, hb]
theorem negL_at (l : List Int) (k : Nat) : (negL l).getD k 0 = -(l.getD k 0) := by
  simp only [negL, List.getD_eq_getElem?_getD, List.getElem?_map]
  cases l[k]? <;> simp
theorem n17 (rows : List R) (e : Bool) (n k : Nat) (hn : n ≤ 12) (hk : k < n) (hr : ∀ r ∈ rows, OkR n r) (hl : rows.length ≤ 40) : ∀ (rest : List R) (i : Nat) (hs ls : List Bn) (eh el : Bool), rows.drop i = rest → hs.length ≤ i → ls.length ≤ i →
    ∃ hs' ls' eh' el', Or K17n4 [I (n : Int), r0, AV.ref (Id.c 1) 0, AV.ref (Id.c 2) 0, AV.fn 45 [] [r0, AV.ref (Id.c 1) 0, AV.ref (Id.c 2) 0], LR e rows, I (rows.length : Int), I (i : Int)] [bK k, Blk.box [AV.own (Id.c 3)], Blk.box [AV.own (Id.c 4)], LB eh hs, LB el ls] =
      some [T.lst 4 eh' (eBs hs'), T.lst 4 el' (eBs ls')] ∧ hs'.map Bn.s = hs.map Bn.s ++ ups n k rest i ∧ ls'.map Bn.s = ls.map Bn.s ++ dns n k rest i := by
  intro rest
  induction rest with
  | nil =>
    intro i hs ls eh el h h1 h2
    refine ⟨hs, ls, eh, el, orc_of ?_, by simp [ups], by simp [dns]⟩
    rw [e17n4]
    have h1 : ¬ (i : Int) < (rows.length : Int) := by have := at_end h; omega
    simp only [gd1, hd1, tl1, dr0, dr1, dr2, dr3, dr4, dr5, dr6, bo1, in1, st1, ls1, le1, pt1, fi1, fb1, fs1, ct1, cf1, nt1, nf1, ak0, akT, akF, cdec, cndec, cbeq, cnbeq, ↓reduceIte, beq_self_eq_true, Int.reduceBEq, Int.reduceEq, Bool.and_true, Bool.true_and, Bool.false_and, Bool.and_false, h1]
  | cons r rest ih =>
    intro i hs ls eh el h hh1 hh2
    obtain ⟨g1, g2, g3⟩ := at_drop h
    have h1 : (i : Int) < (rows.length : Int) := by omega
    have h0 : 0 ≤ (i : Int) := by omega
    have ok := hr r (List.mem_of_getElem? g1)
    obtain ⟨e', k1⟩ := s39 r.e r.of n ok.e ok.len hn
    have hpl := padL_len ok.len
    have hkk : k < (padL n r.of).length := by omega
    have hk0 : 0 ≤ (k : Int) ∧ (k : Int) < (n : Int) := by omega
    have hget := enc_get (getD_get hkk)
    rw [padL_at] at hget
    by_cases hz : r.of.getD k 0 = 0
    · obtain ⟨hs', ls', eh', el', m1, m2, m3⟩ := ih (i + 1) hs ls eh el g3 (by omega) (by omega)
      have hu : upB n k i r = [] := by unfold upB; rw [if_neg (by omega), if_neg (by omega)]
      have hd : dnB n k i r = [] := by unfold dnB; rw [if_neg (by omega), if_neg (by omega)]
      refine ⟨hs', ls', eh', el', orc_of ?_, by rw [m2, ups, hu, List.nil_append], by rw [m3, dns, hd, List.nil_append]⟩
      rw [e17n4]
      simp only [gd1, hd1, tl1, dr0, dr1, dr2, dr3, dr4, dr5, dr6, bo1, in1, st1, ls1, le1, pt1, fi1, fb1, fs1, ct1, cf1, nt1, nf1, ak0, akT, akF, cdec, cndec, cbeq, cnbeq, ↓reduceIte, beq_self_eq_true, Int.reduceBEq, Int.reduceEq, Bool.and_true, Bool.true_and, Bool.false_and, Bool.and_false, h1, h0, and_self, eRs_len, eRs_get g1, k1, enc_len, hpl, hk0, hget, hz, next i (by omega)]
      exact m1
    · have k2 := s38 k ⟨e', padL n r.of, r.tv, r.kd == 2, (i : Int)⟩ hs ls eh el hkk (by omega) (by omega)
      simp only [padL_at] at k2
      by_cases h3 : r.kd = 3
      · have hless : (r.kd == 2) = false := by rw [h3]; rfl
        rw [hless] at k2
        obtain ⟨e2, k3⟩ := s40 e' (padL n r.of) (padL_bd ok.of) (by omega)
        have hw : IntKind.i64.wrap (0 - r.tv) = -r.tv := by have := ok.tv; rw [wr (by omega)]; omega
        have hnl : k < (negL (padL n r.of)).length := by simp [negL]; omega
        by_cases hp : r.of.getD k 0 > 0
        · rw [if_pos hp] at k2
          have k4 := s38 k ⟨e2, negL (padL n r.of), -r.tv, false, (i : Int)⟩ (hs ++ [⟨e', padL n r.of, r.tv, false, (i : Int)⟩]) ls false el hnl (by simp; omega) (by omega)
          simp only [negL_at, padL_at] at k4
          rw [if_neg (by omega)] at k4
          obtain ⟨hs', ls', eh', el', m1, m2, m3⟩ := ih (i + 1) (hs ++ [⟨e', padL n r.of, r.tv, false, (i : Int)⟩]) (ls ++ [⟨e2, negL (padL n r.of), -r.tv, false, (i : Int)⟩]) false false g3 (by simp; omega) (by simp; omega)
          refine ⟨hs', ls', eh', el', orc_of ?_, ?_, ?_⟩
          · rw [e17n4]
            simp only [gd1, hd1, tl1, dr0, dr1, dr2, dr3, dr4, dr5, dr6, bo1, in1, st1, ls1, le1, pt1, fi1, fb1, fs1, ct1, cf1, nt1, nf1, ak0, akT, akF, cdec, cndec, cbeq, cnbeq, ↓reduceIte, beq_self_eq_true, Int.reduceBEq, Int.reduceEq, Bool.and_true, Bool.true_and, Bool.false_and, Bool.and_false, h1, h0, and_self, eRs_len, eRs_get g1, k1, enc_len, hpl, hk0, hget, hz, k2, h3, k3, hw]
            simp only [gd1, hd1, tl1, dr0, dr1, dr2, dr3, dr4, dr5, dr6, bo1, in1, st1, ls1, le1, pt1, fi1, fb1, fs1, ct1, cf1, nt1, nf1, ak0, akT, akF, cdec, cndec, cbeq, cnbeq, ↓reduceIte, beq_self_eq_true, Int.reduceBEq, Int.reduceEq, Bool.and_true, Bool.true_and, Bool.false_and, Bool.and_false, k4, next i (by omega)]
            exact m1
          · rw [m2, ups]
            simp only [upB, if_pos hp]
            simp [Bn.s, hless]
          · rw [m3, dns]
            have : ¬ r.of.getD k 0 < 0 := by omega
            simp only [dnB, if_neg this, if_pos (And.intro hp h3)]
            simp [Bn.s]
        · rw [if_neg hp] at k2
          have hlt : r.of.getD k 0 < 0 := by omega
          have k4 := s38 k ⟨e2, negL (padL n r.of), -r.tv, false, (i : Int)⟩ hs (ls ++ [⟨e', padL n r.of, r.tv, false, (i : Int)⟩]) eh false hnl (by omega) (by simp; omega)
          simp only [negL_at, padL_at] at k4
          rw [if_pos (by omega)] at k4
          obtain ⟨hs', ls', eh', el', m1, m2, m3⟩ := ih (i + 1) (hs ++ [⟨e2, negL (padL n r.of), -r.tv, false, (i : Int)⟩]) (ls ++ [⟨e', padL n r.of, r.tv, false, (i : Int)⟩]) false false g3 (by simp; omega) (by simp; omega)
          refine ⟨hs', ls', eh', el', orc_of ?_, ?_, ?_⟩
          · rw [e17n4]
            simp only [gd1, hd1, tl1, dr0, dr1, dr2, dr3, dr4, dr5, dr6, bo1, in1, st1, ls1, le1, pt1, fi1, fb1, fs1, ct1, cf1, nt1, nf1, ak0, akT, akF, cdec, cndec, cbeq, cnbeq, ↓reduceIte, beq_self_eq_true, Int.reduceBEq, Int.reduceEq, Bool.and_true, Bool.true_and, Bool.false_and, Bool.and_false, h1, h0, and_self, eRs_len, eRs_get g1, k1, enc_len, hpl, hk0, hget, hz, k2, h3, k3, hw]
            simp only [gd1, hd1, tl1, dr0, dr1, dr2, dr3, dr4, dr5, dr6, bo1, in1, st1, ls1, le1, pt1, fi1, fb1, fs1, ct1, cf1, nt1, nf1, ak0, akT, akF, cdec, cndec, cbeq, cnbeq, ↓reduceIte, beq_self_eq_true, Int.reduceBEq, Int.reduceEq, Bool.and_true, Bool.true_and, Bool.false_and, Bool.and_false, k4, next i (by omega)]
            exact m1
          · rw [m2, ups]
            simp only [upB, if_neg hp, if_pos (And.intro hlt h3)]
            simp [Bn.s]
          · rw [m3, dns]
            simp only [dnB, if_pos hlt]
            simp [Bn.s, hless]
      · by_cases hp : r.of.getD k 0 > 0
        · rw [if_pos hp] at k2
          obtain ⟨hs', ls', eh', el', m1, m2, m3⟩ := ih (i + 1) (hs ++ [⟨e', padL n r.of, r.tv, r.kd == 2, (i : Int)⟩]) ls false el g3 (by simp; omega) (by omega)
          refine ⟨hs', ls', eh', el', orc_of ?_, ?_, ?_⟩
          · rw [e17n4]
            simp only [gd1, hd1, tl1, dr0, dr1, dr2, dr3, dr4, dr5, dr6, bo1, in1, st1, ls1, le1, pt1, fi1, fb1, fs1, ct1, cf1, nt1, nf1, ak0, akT, akF, cdec, cndec, cbeq, cnbeq, ↓reduceIte, beq_self_eq_true, Int.reduceBEq, Int.reduceEq, Bool.and_true, Bool.true_and, Bool.false_and, Bool.and_false, h1, h0, and_self, eRs_len, eRs_get g1, k1, enc_len, hpl, hk0, hget, hz, k2, h3, next i (by omega)]
            exact m1
          · rw [m2, ups]
            simp only [upB, if_pos hp]
            simp [Bn.s]
          · rw [m3, dns]
            have : ¬ r.of.getD k 0 < 0 := by omega
            simp only [dnB, if_neg this, if_neg (fun h : r.of.getD k 0 > 0 ∧ r.kd = 3 => h3 h.2)]
            simp
        · rw [if_neg hp] at k2
          have hlt : r.of.getD k 0 < 0 := by omega
          obtain ⟨hs', ls', eh', el', m1, m2, m3⟩ := ih (i + 1) hs (ls ++ [⟨e', padL n r.of, r.tv, r.kd == 2, (i : Int)⟩]) eh false g3 (by omega) (by simp; omega)
          refine ⟨hs', ls', eh', el', orc_of ?_, ?_, ?_⟩
          · rw [e17n4]
            simp only [gd1, hd1, tl1, dr0, dr1, dr2, dr3, dr4, dr5, dr6, bo1, in1, st1, ls1, le1, pt1, fi1, fb1, fs1, ct1, cf1, nt1, nf1, ak0, akT, akF, cdec, cndec, cbeq, cnbeq, ↓reduceIte, beq_self_eq_true, Int.reduceBEq, Int.reduceEq, Bool.and_true, Bool.true_and, Bool.false_and, Bool.and_false, h1, h0, and_self, eRs_len, eRs_get g1, k1, enc_len, hpl, hk0, hget, hz, k2, h3, next i (by omega)]
            exact m1
          · rw [m2, ups]
            simp only [upB, if_neg hp, if_neg (fun h : r.of.getD k 0 < 0 ∧ r.kd = 3 => h3 h.2)]
            simp
          · rw [m3, dns]
            simp only [dnB, if_pos hlt]
            simp [Bn.s]
theorem s17 (rows : List R) (e : Bool) (n k : Nat) (hn : n ≤ 12) (hk : k < n) (hr : ∀ r ∈ rows, OkR n r) (hl : rows.length ≤ 40) :
    ∃ hs ls eh el, Or (.call 17) [LR e rows, I (n : Int), I (k : Int)] [] = some [T.lst 4 eh (eBs hs), T.lst 4 el (eBs ls)] ∧ hs.map Bn.s = ups n k rows 0 ∧ ls.map Bn.s = dns n k rows 0 := by
  obtain ⟨hs, ls, eh, el, k1, k2, k3⟩ := n17 rows e n k hn hk hr hl rows 0 [] [] true true rfl (by simp) (by simp)
  refine ⟨hs, ls, eh, el, orc_of ?_, by simpa using k2, by simpa using k3⟩
  rw [e17, eRs_len]
  exact k1
end Go.Aev.Gen
