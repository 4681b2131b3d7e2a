/-
  Tidy: the document's.
-/
import Derived.Test.YtobpninhnmmpeaaATidy
set_option linter.unusedSimpArgs false
set_option linter.unusedVariables false
namespace Go.Aev.Gen
open Go Go.Aev

theorem n47g (e : Bool) (l : List Int) (k : Int) (hk : -1 ≤ k ∧ k ≤ 1000) (res : List T) : ∀ (m : Nat) (a b : Int), b.natAbs ≤ m → 0 ≤ a ∧ a ≤ 1000000000000000 → 0 ≤ b ∧ b ≤ 1000000000000000 →
    Or K47n3 [lst e l, I (Nat.gcd a.natAbs b.natAbs : Nat), I (k + 1)] [] = some res → Or K47n6 [lst e l, I k, I a, I b] [] = some res
  | m, a, b, hm, ha, hb, hres => by
    refine orc_of ?_
    rw [e47n6]
    by_cases h0 : b = 0
    · subst h0
      have h1 : ¬ (0 : Int) > 0 := by omega
      have : ((Nat.gcd a.natAbs (0 : Int).natAbs : Nat) : Int) = a := by
        rw [Int.natAbs_zero, Nat.gcd_zero_right]; omega
      rw [this] at hres
      simp only [gd1, hd1, tl1, dr0, dr1, dr2, dr3, dr4, dr5, dr6, bo1, in1, st1, ls1, le1, pt1, fi1, fb1, fs1, ct1, cf1, nt1, nf1, ak0, akT, akF, cdec, cndec, cbeq, cnbeq, ↓reduceIte, beq_self_eq_true, Int.reduceBEq, Int.reduceEq, Bool.and_true, Bool.true_and, Bool.false_and, Bool.and_false, h1, wr (v := k + 1) (by omega)]
      exact hres
    · have ht := natAbs_tmod a b
      have hlt : (a.tmod b).natAbs < b.natAbs := by rw [ht]; exact Nat.mod_lt _ (by omega)
      have hnn : 0 ≤ a.tmod b := Int.tmod_nonneg b ha.1
      have hpos : b > 0 := by omega
      match m with
      | 0 => omega
      | m + 1 =>
        have := n47g e l k hk res m b (a.tmod b) (by omega) hb (by omega) (by rw [gcd_tmod]; exact hres)
        simp only [gd1, hd1, tl1, dr0, dr1, dr2, dr3, dr4, dr5, dr6, bo1, in1, st1, ls1, le1, pt1, fi1, fb1, fs1, ct1, cf1, nt1, nf1, ak0, akT, akF, cdec, cndec, cbeq, cnbeq, ↓reduceIte, beq_self_eq_true, Int.reduceBEq, Int.reduceEq, Bool.and_true, Bool.true_and, Bool.false_and, Bool.and_false, h0, hpos]
        exact this
theorem n47 (e : Bool) (l : List Int) (hn : l.length ≤ 999) (hb : Bd 1000000 l) : ∀ (rest : List Int) (i g : Nat), l.drop i = rest → g ≤ 1000000 → Or K47n3 [lst e l, I (g : Int), I (i : Int)] [] = some [ti (gl g rest : Nat)] := by
  intro rest
  induction rest with
  | nil =>
    intro i g h hg
    refine orc_of ?_
    rw [e47n3]
    have h1 : ¬ (i : Int) < (l.length : Int) := by have := at_end h; omega
    simp only [gd1, hd1, tl1, dr0, dr1, dr2, dr3, dr4, dr5, dr6, bo1, in1, st1, ls1, le1, pt1, fi1, fb1, fs1, ct1, cf1, nt1, nf1, ak0, akT, akF, cdec, cndec, cbeq, cnbeq, ↓reduceIte, beq_self_eq_true, Int.reduceBEq, Int.reduceEq, Bool.and_true, Bool.true_and, Bool.false_and, Bool.and_false, h1, enc_len, gl]
  | cons x rest ih =>
    intro i g h hg
    obtain ⟨g1, g2, g3⟩ := at_drop h
    have h1 : (i : Int) < (l.length : Int) := by omega
    have h0 : 0 ≤ (i : Int) := by omega
    have hx := hb x (List.mem_of_getElem? g1)
    have hw : IntKind.i64.wrap (0 - x) = -x := by rw [wr (by omega)]; omega
    have hm : mm true x (-x) = (x.natAbs : Int) := by rw [mm_max]; omega
    have hle : Nat.gcd g x.natAbs ≤ 1000000 := by
      rcases Nat.eq_zero_or_pos g with h | h
      · subst h; rw [Nat.gcd_zero_left]; omega
      · exact Nat.le_trans (Nat.gcd_le_left _ h) hg
    have k1 := ih (i + 1) (Nat.gcd g x.natAbs) g3 hle
    have := n47g e l (i : Int) (by omega) _ x.natAbs (g : Int) (x.natAbs : Int) (by omega) (by omega) (by omega) (by
      rw [Int.natAbs_natCast, Int.natAbs_natCast]; exact k1)
    refine orc_of ?_
    rw [e47n3]
    simp only [gd1, hd1, tl1, dr0, dr1, dr2, dr3, dr4, dr5, dr6, bo1, in1, st1, ls1, le1, pt1, fi1, fb1, fs1, ct1, cf1, nt1, nf1, ak0, akT, akF, cdec, cndec, cbeq, cnbeq, ↓reduceIte, beq_self_eq_true, Int.reduceBEq, Int.reduceEq, Bool.and_true, Bool.true_and, Bool.false_and, Bool.and_false, h1, h0, and_self, enc_len, enc_get g1, hw, hm]
    exact this
theorem s47 (e : Bool) (l : List Int) (hn : l.length ≤ 999) (hb : Bd 1000000 l) : Or (.call 47) [lst e l] [] = some [ti (gl 0 l : Nat)] := by
  refine orc_of ?_
  rw [e47]
  exact n47 e l hn hb l 0 0 rfl (by omega)
def s1 (x : Int) : Int := if x < 0 then -1 else 1
theorem s1_b (x : Int) : -1 ≤ s1 x ∧ s1 x ≤ 1 := by unfold s1; split <;> omega
theorem n46 (B0 : Blk) (e : Bool) (l : List Int) (kd tv g : Int) (e0 : Bool) (hn : l.length ≤ 1000) (h0 : B0 = Blk.box [AV.t (T.emp e0), I 0, I 0]) (res : List T)
    (hres : Or K46n13 [lst e l, I tv, I g, r0, I (sg kd l), AV.ref (Id.c 1) 0, I 0] [B0, Blk.box [AV.own (Id.c 2), I kd, I 0], Blk.sl false 1 true []] = some res) :
    ∀ (k : Nat), k ≤ l.length → Or K46n3 [lst e l, I kd, I tv, I g, r0, I (s1 (fnz (l.drop k))), I ((k : Int) - 1)] [B0] = some res
  | 0, _ => by
    subst h0
    refine orc_of ?_
    rw [e46n3]
    have h1 : ¬ ((0 : Nat) : Int) - 1 ≥ 0 := by omega
    rw [List.drop_zero]
    unfold sg at hres
    by_cases hk : kd = 3
    · have : s1 (fnz l) = if kd = 3 ∧ fnz l < 0 then -1 else 1 := by
        unfold s1; simp only [hk, true_and]
      rw [← this] at hres
      simp only [gd1, hd1, tl1, dr0, dr1, dr2, dr3, dr4, dr5, dr6, bo1, in1, st1, ls1, le1, pt1, fi1, fb1, fs1, ct1, cf1, nt1, nf1, ak0, akT, akF, cdec, cndec, cbeq, cnbeq, ↓reduceIte, beq_self_eq_true, Int.reduceBEq, Int.reduceEq, Bool.and_true, Bool.true_and, Bool.false_and, Bool.and_false, h1, hk]
      rw [hk] at hres
      exact hres
    · rw [if_neg (fun h => hk h.1)] at hres
      simp only [gd1, hd1, tl1, dr0, dr1, dr2, dr3, dr4, dr5, dr6, bo1, in1, st1, ls1, le1, pt1, fi1, fb1, fs1, ct1, cf1, nt1, nf1, ak0, akT, akF, cdec, cndec, cbeq, cnbeq, ↓reduceIte, beq_self_eq_true, Int.reduceBEq, Int.reduceEq, Bool.and_true, Bool.true_and, Bool.false_and, Bool.and_false, h1, hk]
      exact hres
  | k + 1, hk => by
    have ih := n46 B0 e l kd tv g e0 hn h0 res hres k (by omega)
    subst h0
    have hlt : k < l.length := by omega
    have hd : l.drop k = l[k] :: l.drop (k + 1) := List.drop_eq_getElem_cons hlt
    have hge : ((k + 1 : Nat) : Int) - 1 ≥ 0 := by omega
    have hkk : ((k + 1 : Nat) : Int) - 1 = (k : Int) := by omega
    have hw : IntKind.i64.wrap ((k : Int) - 1) = (k : Int) - 1 := wr (by omega)
    have h2 : 0 ≤ (k : Int) ∧ (k : Int) < (l.length : Int) := by omega
    have hge' : (k : Int) ≥ 0 := by omega
    have hget := enc_get (List.getElem?_eq_getElem hlt)
    rw [hd, fnz] at ih
    rw [hkk]
    refine orc_of ?_
    rw [e46n3]
    by_cases hneg : l[k] < 0
    · have hnp : ¬ l[k] > 0 := by omega
      have hne : ¬ l[k] = 0 := by omega
      rw [if_neg hne] at ih
      have hs : s1 l[k] = -1 := by unfold s1; rw [if_pos hneg]
      rw [hs] at ih
      simp only [gd1, hd1, tl1, dr0, dr1, dr2, dr3, dr4, dr5, dr6, bo1, in1, st1, ls1, le1, pt1, fi1, fb1, fs1, ct1, cf1, nt1, nf1, ak0, akT, akF, cdec, cndec, cbeq, cnbeq, ↓reduceIte, beq_self_eq_true, Int.reduceBEq, Int.reduceEq, Bool.and_true, Bool.true_and, Bool.false_and, Bool.and_false, hge', h2, and_self, enc_len, hget, hneg, hnp, hw]
      exact ih
    · by_cases hp : l[k] > 0
      · have hne : ¬ l[k] = 0 := by omega
        rw [if_neg hne] at ih
        have hs : s1 l[k] = 1 := by unfold s1; rw [if_neg hneg]
        rw [hs] at ih
        simp only [gd1, hd1, tl1, dr0, dr1, dr2, dr3, dr4, dr5, dr6, bo1, in1, st1, ls1, le1, pt1, fi1, fb1, fs1, ct1, cf1, nt1, nf1, ak0, akT, akF, cdec, cndec, cbeq, cnbeq, ↓reduceIte, beq_self_eq_true, Int.reduceBEq, Int.reduceEq, Bool.and_true, Bool.true_and, Bool.false_and, Bool.and_false, hge', h2, and_self, enc_len, hget, hneg, hp, hw]
        exact ih
      · have hz : l[k] = 0 := by omega
        rw [if_pos hz] at ih
        simp only [gd1, hd1, tl1, dr0, dr1, dr2, dr3, dr4, dr5, dr6, bo1, in1, st1, ls1, le1, pt1, fi1, fb1, fs1, ct1, cf1, nt1, nf1, ak0, akT, akF, cdec, cndec, cbeq, cnbeq, ↓reduceIte, beq_self_eq_true, Int.reduceBEq, Int.reduceEq, Bool.and_true, Bool.true_and, Bool.false_and, Bool.and_false, hge', h2, and_self, enc_len, hget, hneg, hp, hw]
        exact ih
theorem sg_b (kd : Int) (l : List Int) : -1 ≤ sg kd l ∧ sg kd l ≤ 1 := by unfold sg; split <;> omega
theorem sg_two (kd : Int) (l : List Int) : sg kd l = -1 ∨ sg kd l = 1 := by unfold sg; split <;> simp
theorem sgm {s x b : Int} (hs : s = -1 ∨ s = 1) (hx : -b ≤ x ∧ x ≤ b) : -b ≤ s * x ∧ s * x ≤ b := by rcases hs with rfl | rfl <;> omega
theorem sgd {s g x : Int} (hg : 0 < g) (h : g ∣ x) : g ∣ s * x ∧ s * x / g = s * (x / g) := by
  obtain ⟨c, rfl⟩ := h
  refine ⟨⟨s * c, by rw [← Int.mul_assoc, Int.mul_comm s g, Int.mul_assoc]⟩, ?_⟩
  rw [Int.mul_ediv_cancel_left _ (by omega), show s * (g * c) = g * (s * c) by rw [← Int.mul_assoc, Int.mul_comm s g, Int.mul_assoc], Int.mul_ediv_cancel_left _ (by omega)]
theorem n46e (B0 : Blk) (e : Bool) (l : List Int) (kd tv g s : Int) (e0 : Bool) (hn : l.length ≤ 1000) (h0 : B0 = Blk.box [AV.t (T.emp e0), I 0, I 0]) (hg : 0 < g ∧ g ≤ 1000000) (hb : Bd 1000000 l) (hd : ∀ x ∈ l, g ∣ x) (ht : -1000000 ≤ tv ∧ tv ≤ 1000000) (hdt : g ∣ tv) (hs : s = -1 ∨ s = 1) :
    ∀ (rest : List Int) (i : Nat) (done : List Int) (e1 : Bool), l.drop i = rest → done.length ≤ i → ∃ e', Or K46n13 [lst e l, I tv, I g, r0, I s, AV.ref (Id.c 1) 0, I (i : Int)] [B0, Blk.box [AV.own (Id.c 2), I kd, I 0], Blk.sl false 1 e1 (enc done)] = some [T.lst 1 e' (enc (done ++ rest.map (fun x => s * (x / g)))), ti kd, ti (s * (tv / g))] := by
  subst h0
  intro rest
  induction rest with
  | nil =>
    intro i done e1 h hl
    have h1 : ¬ (i : Int) < (l.length : Int) := by have := at_end h; omega
    have hst := sgm hs ht
    obtain ⟨hd1', hd2⟩ := sgd (s := s) hg.1 hdt
    obtain ⟨x, k1, x1⟩ := Wd.s35 (s * tv) (by omega)
    obtain ⟨y, k2, y1⟩ := Wd.s35 g (by omega)
    obtain ⟨sx, ex, dx, rfl, rx⟩ := x1
    obtain ⟨sy, ey, dy, rfl, ry⟩ := y1
    obtain ⟨sz, ez, dz, k3, rz, lz⟩ := Wd.s38 false (T.emp true) sx ex sy ey dx dy (s * tv) g rx ry (by omega) (by omega)
    have hq := div_bd hg.1 hst (by omega)
    have k4 := Wd.s39 sz ez dz (s * tv / g) rz (by omega)
    refine ⟨e1, orc_of ?_⟩
    rw [e46n13]
    simp only [gd1, hd1, tl1, dr0, dr1, dr2, dr3, dr4, dr5, dr6, bo1, in1, st1, ls1, le1, pt1, fi1, fb1, fs1, ct1, cf1, nt1, nf1, ak0, akT, akF, cdec, cndec, cbeq, cnbeq, ↓reduceIte, beq_self_eq_true, Int.reduceBEq, Int.reduceEq, Bool.and_true, Bool.true_and, Bool.false_and, Bool.and_false, h1, enc_len, wr (v := s * tv) (by omega), k1, k2, k3, k4]
    simp [hd2]
  | cons x rest ih =>
    intro i done e1 h hl
    obtain ⟨g1, g2, g3⟩ := at_drop h
    have h1 : (i : Int) < (l.length : Int) := by omega
    have h0 : 0 ≤ (i : Int) := by omega
    have hx := hb x (List.mem_of_getElem? g1)
    have hsx := sgm hs hx
    obtain ⟨d1, d2⟩ := sgd (s := s) hg.1 (hd x (List.mem_of_getElem? g1))
    have hq := div_bd hg.1 hsx (by omega)
    have hsm : ∀ v : Int, small 8 (done.length + [[ti v]].length) = some () := fun v => small_ok (by simp; omega)
    obtain ⟨e', k⟩ := ih (i + 1) (done ++ [s * (x / g)]) (e1 && false) g3 (by simp; omega)
    refine ⟨e', orc_of ?_⟩
    rw [e46n13]
    have hg0 : ¬ g = 0 := by omega
    have happ : enc done ++ [[ti (s * (x / g))]] = enc (done ++ [s * (x / g)]) := by simp [enc]
    rw [Bool.and_false, List.append_assoc, List.singleton_append] at k
    simp only [gd1, hd1, tl1, dr0, dr1, dr2, dr3, dr4, dr5, dr6, bo1, in1, st1, ls1, le1, pt1, fi1, fb1, fs1, ct1, cf1, nt1, nf1, ak0, akT, akF, cdec, cndec, cbeq, cnbeq, ↓reduceIte, beq_self_eq_true, Int.reduceBEq, Int.reduceEq, Bool.and_true, Bool.true_and, Bool.false_and, Bool.and_false, h1, h0, and_self, enc_len, enc_get g1, hg0, wr (v := s * x) (by omega), tdiv_dvd d1, d2, wr (v := s * (x / g)) (by rw [← d2]; omega), hsm, happ, next i (by omega)]
    exact k
theorem s20 (r : R) (hk : r.kd = 1 ∨ r.kd = 2 ∨ r.kd = 3) (hb : Bd 1000000 r.of) (ht : -1000000 ≤ r.tv ∧ r.tv ≤ 1000000) (hn : r.of.length ≤ 900) :
    ∃ e', Or (.call 20) [AV.agg [lst r.e r.of, I r.kd, I r.tv]] [] = some [T.lst 1 e' (enc (tidyF r.of r.kd r.tv).1), ti r.kd, ti (tidyF r.of r.kd r.tv).2] := by
  have k1 := s44 r.e r.of (by omega)
  unfold tidyF
  by_cases hz : bz r.of = []
  · refine ⟨true, orc_of ?_⟩
    rw [e20, if_pos hz]
    have hl : ((enc (bz r.of)).length : Int) = 0 := by rw [hz]; rfl
    simp only [gd1, hd1, tl1, dr0, dr1, dr2, dr3, dr4, dr5, dr6, bo1, in1, st1, ls1, le1, pt1, fi1, fb1, fs1, ct1, cf1, nt1, nf1, ak0, akT, akF, cdec, cndec, cbeq, cnbeq, ↓reduceIte, beq_self_eq_true, Int.reduceBEq, Int.reduceEq, Bool.and_true, Bool.true_and, Bool.false_and, Bool.and_false, k1, hl, s45 r.kd r.tv hk]
    rfl
  · rw [if_neg hz]
    have hbz := bz_bd hb
    have hle := bz_len r.of
    obtain ⟨x, hx, h0⟩ := bz_last hz
    have hgp := gl_pos (g := r.tv.natAbs) hx h0
    have hgl : gl r.tv.natAbs (bz r.of) ≤ 1000000 := gl_le (by omega) (by simpa using hbz)
    have hdv : ∀ x ∈ bz r.of, (gl r.tv.natAbs (bz r.of) : Int) ∣ x := fun x hx => gl_dvd hx
    have hdt : (gl r.tv.natAbs (bz r.of) : Int) ∣ r.tv := Int.ofNat_dvd_left.2 (gl_dvd0 (bz r.of) r.tv.natAbs)
    have k2 := s47 (r.e && false) (bz r.of ++ [r.tv]) (by simp; omega) (fun y hy => by
      rcases List.mem_append.1 hy with h | h
      · exact hbz y h
      · rw [List.mem_singleton.1 h]; exact ht)
    have hgg : gl 0 (bz r.of ++ [r.tv]) = gl r.tv.natAbs (bz r.of) := by
      rw [gl_app, gl, gl, gl_gcd (bz r.of) r.tv.natAbs, Nat.gcd_comm]
    rw [hgg] at k2
    obtain ⟨e', k3⟩ := n46e _ r.e (bz r.of) r.kd r.tv (gl r.tv.natAbs (bz r.of) : Nat) (sg r.kd (bz r.of)) true (by omega) rfl (by omega) hbz hdv ht hdt (sg_two _ _) (bz r.of) 0 [] true rfl (by simp)
    have k4 := n46 _ r.e (bz r.of) r.kd r.tv (gl r.tv.natAbs (bz r.of) : Nat) true (by omega) rfl _ k3 (bz r.of).length (Nat.le_refl _)
    have hs1 : s1 (fnz ((bz r.of).drop (bz r.of).length)) = 1 := by rw [List.drop_length]; rfl
    rw [hs1] at k4
    have k5 : Or (.call 46) [lst r.e (bz r.of), I r.kd, I r.tv, I (gl r.tv.natAbs (bz r.of) : Nat)] [] = some [T.lst 1 e' (enc ((bz r.of).map (fun x => sg r.kd (bz r.of) * (x / (gl r.tv.natAbs (bz r.of) : Int))))), ti r.kd, ti (sg r.kd (bz r.of) * (r.tv / (gl r.tv.natAbs (bz r.of) : Int)))] := by
      refine orc_of ?_
      rw [e46]
      simp only [enc_len, wr (v := ((bz r.of).length : Int) - 1) (by omega)]
      exact k4
    refine ⟨e', orc_of ?_⟩
    rw [e20]
    have hl : ¬ ((bz r.of).length : Int) = 0 := by
      intro h
      exact hz (List.length_eq_zero_iff.1 (by omega))
    have hsa : small 8 (bz r.of).length = some () := small_ok (by omega)
    have hsb : small 8 ((bz r.of).length + [[ti r.tv]].length) = some () := small_ok (by simp; omega)
    have happ : enc (bz r.of) ++ [[ti r.tv]] = enc (bz r.of ++ [r.tv]) := by simp [enc]
    rw [Bool.and_false] at k2
    simp only [gd1, hd1, tl1, dr0, dr1, dr2, dr3, dr4, dr5, dr6, bo1, in1, st1, ls1, le1, pt1, fi1, fb1, fs1, ct1, cf1, nt1, nf1, ak0, akT, akF, cdec, cndec, cbeq, cnbeq, ↓reduceIte, beq_self_eq_true, Int.reduceBEq, Int.reduceEq, Bool.and_true, Bool.true_and, Bool.false_and, Bool.and_false, k1, enc_len, hl, hsa, hsb, happ, k2, k5]
end Go.Aev.Gen
