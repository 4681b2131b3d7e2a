/-
  What two bounds give together, in its plainest form; the program's and the document's.
-/
import Derived.Test.YtobpninhnmmpeaaGreatZTidy
set_option linter.unusedSimpArgs false
set_option linter.unusedVariables false
namespace Go.Aev.Gen
open Go Go.Aev

def fits' (x : Int) : Bool := decide (x ≥ -1000000 ∧ x ≤ 1000000)
def clampF (x : Int) : Int := max (min x 1) (-1)
def mixG (of : List Int) (to : Int) : Nat := gl to.natAbs (bz of)
def mixL (of : List Int) (to : Int) : List Int := divL (mixG of to) (bz of)
def mixT (of : List Int) (kd to : Int) : Int := if bz of = [] then noneF kd (clampF to) else to / (mixG of to : Int)
def mixK (of : List Int) (to : Int) : Bool := if bz of = [] then true else fits' (to / (mixG of to : Int)) && (mixL of to).all fits'
theorem clamp_b (x : Int) : -1000000 ≤ clampF x ∧ clampF x ≤ 1000000 := by unfold clampF; omega
theorem bz_split (l : List Int) : ∃ k, l = bz l ++ List.replicate k 0 := by
  have gen : ∀ k, k ≤ l.length → ∃ j, l.take k = l.take (bzN l k) ++ List.replicate j 0 := by
    intro k
    induction k with
    | zero => intro _; exact ⟨0, by simp [bzN]⟩
    | succ k ih =>
      intro hk
      rw [bzN]
      by_cases hz : l.getD k 0 = 0
      · obtain ⟨j, hj⟩ := ih (by omega)
        refine ⟨j + 1, ?_⟩
        have hkl : k < l.length := by omega
        have hx : l[k]? = some 0 := by
          simp only [List.getD_eq_getElem?_getD, List.getElem?_eq_getElem hkl, Option.getD_some] at hz
          rw [List.getElem?_eq_getElem hkl, hz]
        rw [if_pos hz, List.take_add_one, hj, hx, List.append_assoc, List.replicate_succ', Option.toList_some]
      · exact ⟨0, by rw [if_neg hz]; simp⟩
  obtain ⟨j, hj⟩ := gen l.length (Nat.le_refl _)
  rw [List.take_length] at hj
  exact ⟨j, hj⟩
theorem gl_zeros (g : Nat) : ∀ k, gl g (List.replicate k 0) = g
  | 0 => rfl
  | k + 1 => by rw [List.replicate_succ, gl, Int.natAbs_zero, Nat.gcd_zero_right]; exact gl_zeros g k
theorem gl_bz (g : Nat) (l : List Int) : gl g (bz l) = gl g l := by
  obtain ⟨k, hk⟩ := bz_split l
  have : gl g l = gl g (bz l ++ List.replicate k 0) := congrArg (gl g) hk
  rw [this, gl_app, gl_zeros]
theorem gl_mul (g : Nat) : ∀ (l : List Int) (a : Nat), (∀ x ∈ l, (g : Int) ∣ x) → 0 < g → gl (g * a) l = g * gl a (divL g l)
  | [], a, _, _ => rfl
  | x :: l, a, h, hg => by
    obtain ⟨c, rfl⟩ := h x List.mem_cons_self
    have ih := gl_mul g l (Nat.gcd a c.natAbs) (fun y hy => h y (List.mem_cons_of_mem _ hy)) hg
    have hq : (g : Int) * c / (g : Int) = c := Int.mul_ediv_cancel_left _ (by omega)
    show gl (Nat.gcd (g * a) ((g : Int) * c).natAbs) l = g * gl (Nat.gcd a ((g : Int) * c / (g : Int)).natAbs) (divL g l)
    rw [hq, Int.natAbs_mul, Int.natAbs_natCast, Nat.gcd_mul_left]
    exact ih
theorem n42g (B0 B1 : Blk) (e : Bool) (l : List Int) (to kd : Int) (e0 e1 : Bool) (hb : Bd 4000000000000 l) (hn : l.length ≤ 1000) (res : List T)
    (h0 : B0 = Blk.box [AV.t (T.emp e0), I 0, I 0]) (h1 : B1 = Blk.box [AV.t (T.emp e1), I kd, I 0]) : ∀ (rest : List Int) (i : Nat) (g : Nat), l.drop i = rest → i ≤ l.length → g ≤ 4000000000000 →
    Or K42n12 [lst e l, I to, r0, AV.ref (Id.c 1) 0, I (gl g rest : Nat), lst e l, I (l.length : Int), I (l.length : Int)] [B0, B1] = some res →
    Or K42n12 [lst e l, I to, r0, AV.ref (Id.c 1) 0, I (g : Int), lst e l, I (l.length : Int), I (i : Int)] [B0, B1] = some res := by
  subst h0 h1
  intro rest
  induction rest with
  | nil =>
    intro i g h hi hg hk
    have hle := at_end h
    obtain rfl : i = l.length := by omega
    exact hk
  | cons x rest ih =>
    intro i g h hi hg hk
    obtain ⟨g1, g2, g3⟩ := at_drop h
    have h1 : (i : Int) < (l.length : Int) := by omega
    have h0 : 0 ≤ (i : Int) := by omega
    have hx := hb x (List.mem_of_getElem? g1)
    have k1 := s41 (g : Int) x (by omega) (by omega)
    rw [Int.natAbs_natCast] at k1
    have hle : Nat.gcd g x.natAbs ≤ 4000000000000 := by
      rcases Nat.eq_zero_or_pos g with h | h
      · subst h; rw [Nat.gcd_zero_left]; omega
      · exact Nat.le_trans (Nat.gcd_le_left _ h) hg
    have := ih (i + 1) (Nat.gcd g x.natAbs) g3 (by omega) hle hk
    refine orc_of ?_
    rw [e42n12]
    simp only [gd1, hd1, tl1, dr0, dr1, dr2, dr3, dr4, dr5, dr6, bo1, in1, st1, ls1, le1, pt1, fi1, fb1, fs1, ct1, cf1, nt1, nf1, ak0, akT, akF, cdec, cndec, cbeq, cnbeq, ↓reduceIte, beq_self_eq_true, Int.reduceBEq, Int.reduceEq, Bool.and_true, Bool.true_and, Bool.false_and, Bool.and_false, h1, h0, and_self, enc_len, enc_get g1, k1, next i (by omega)]
    exact this
theorem s77 (c : Int) : Or (.call 111) [I c] [] = some [tb (fits' c)] := by
  refine orc_of ?_
  rw [e77]
  simp only [cand, ← Bool.decide_and]
  rfl
theorem n42a (B0 : Blk) (e : Bool) (l : List Int) (to kd g : Int) (e0 : Bool) (hb : Bd 4000000000000 l) (hn : l.length ≤ 1000) (hg : 0 < g) (hd : ∀ x ∈ l, g ∣ x) (hto : -4000000000000 ≤ to ∧ to ≤ 4000000000000) (hdt : g ∣ to)
    (h0 : B0 = Blk.box [AV.t (T.emp e0), I 0, I 0]) : ∀ (rest : List Int) (i : Nat) (done : List Int) (e2 v : Bool), l.drop i = rest → done.length ≤ i → (e2 = true → done = []) →
    ∃ e', (e' = true → done ++ divL g rest = []) ∧ Or K42n19 [I to, r0, AV.ref (Id.c 1) 0, I g, AV.fn 111 [] [], B v, lst e l, I (l.length : Int), I (i : Int)] [B0, Blk.box [AV.own (Id.c 2), I kd, I 0], Blk.sl false 1 e2 (enc done)] =
      some [T.lst 1 e' (enc (done ++ divL g rest)), ti kd, ti (to / g), tb (v && (divL g rest).all fits')] := by
  subst h0
  intro rest
  induction rest with
  | nil =>
    intro i done e2 v h hl he2
    have h1 : ¬ (i : Int) < (l.length : Int) := by have := at_end h; omega
    have hg0 : ¬ g = 0 := by omega
    have hq := div_bd hg hto (by omega)
    refine ⟨e2, fun h => by simpa [divL] using he2 h, orc_of ?_⟩
    rw [e42n19]
    simp only [gd1, hd1, tl1, dr0, dr1, dr2, dr3, dr4, dr5, dr6, bo1, in1, st1, ls1, le1, pt1, fi1, fb1, fs1, ct1, cf1, nt1, nf1, ak0, akT, akF, cdec, cndec, cbeq, cnbeq, ↓reduceIte, beq_self_eq_true, Int.reduceBEq, Int.reduceEq, Bool.and_true, Bool.true_and, Bool.false_and, Bool.and_false, h1, hg0, tdiv_dvd hdt, wr (v := to / g) (by omega)]
    simp [divL]
  | cons x rest ih =>
    intro i done e2 v h hl he2
    obtain ⟨g1, g2, g3⟩ := at_drop h
    have h1 : (i : Int) < (l.length : Int) := by omega
    have h0 : 0 ≤ (i : Int) := by omega
    have hg0 : ¬ g = 0 := by omega
    have hx := hb x (List.mem_of_getElem? g1)
    have hq := div_bd hg hx (by omega)
    have hsm : ∀ v : Int, small 8 (done.length + [[ti v]].length) = some () := fun v => small_ok (by simp; omega)
    have happ : enc done ++ [[ti (x / g)]] = enc (done ++ [x / g]) := by simp [enc]
    have hw : IntKind.i64.wrap (x / g) = x / g := wr (by omega)
    cases v with
    | true =>
      obtain ⟨e', ke, k⟩ := ih (i + 1) (done ++ [x / g]) (e2 && false) (fits' (x / g)) g3 (by simp; omega) (by simp)
      refine ⟨e', fun h => by simpa [divL] using ke h, orc_of ?_⟩
      rw [e42n19]
      rw [Bool.and_false, List.append_assoc, List.singleton_append] at k
      simp only [gd1, hd1, tl1, dr0, dr1, dr2, dr3, dr4, dr5, dr6, bo1, in1, st1, ls1, le1, pt1, fi1, fb1, fs1, ct1, cf1, nt1, nf1, ak0, akT, akF, cdec, cndec, cbeq, cnbeq, ↓reduceIte, beq_self_eq_true, Int.reduceBEq, Int.reduceEq, Bool.and_true, Bool.true_and, Bool.false_and, Bool.and_false, h1, h0, and_self, enc_len, enc_get g1, hg0, tdiv_dvd (hd x (List.mem_of_getElem? g1)), hw, hsm, happ, s77, next i (by omega)]
      refine k.trans ?_
      simp [divL]
    | false =>
      obtain ⟨e', ke, k⟩ := ih (i + 1) (done ++ [x / g]) (e2 && false) false g3 (by simp; omega) (by simp)
      refine ⟨e', fun h => by simpa [divL] using ke h, orc_of ?_⟩
      rw [e42n19]
      rw [Bool.and_false, List.append_assoc, List.singleton_append] at k
      simp only [gd1, hd1, tl1, dr0, dr1, dr2, dr3, dr4, dr5, dr6, bo1, in1, st1, ls1, le1, pt1, fi1, fb1, fs1, ct1, cf1, nt1, nf1, ak0, akT, akF, cdec, cndec, cbeq, cnbeq, ↓reduceIte, beq_self_eq_true, Int.reduceBEq, Int.reduceEq, Bool.and_true, Bool.true_and, Bool.false_and, Bool.and_false, h1, h0, and_self, enc_len, enc_get g1, hg0, tdiv_dvd (hd x (List.mem_of_getElem? g1)), hw, hsm, happ, next i (by omega)]
      refine k.trans ?_
      simp [divL]
theorem chk_none (kd t : Int) (hk : kd = 1 ∨ kd = 2) (ht : -1000000 ≤ t ∧ t ≤ 1000000) : (chkR 12 ⟨true, [], kd, t⟩).1 = 0 := by
  unfold chkR
  have h1 : ¬ ((¬ kd = 1 ∧ ¬ kd = 2) ∧ ¬ kd = 3) := by omega
  have h2 : t ≥ -1000000 ∧ t ≤ 1000000 := by omega
  simp [h1, chkI, h2]
theorem tidy_none (kd t : Int) : tidyF [] kd t = ([], noneF kd t) := by simp [tidyF, bz, bzN]
theorem n42 (B0 B1 : Blk) (e : Bool) (l : List Int) (to kd : Int) (hb : Bd 4000000000000 l) (hn : l.length ≤ 900) (hk : kd = 1 ∨ kd = 2) (hto : -4000000000000 ≤ to ∧ to ≤ 4000000000000)
    (h0 : B0 = Blk.box [AV.t (T.emp true), I 0, I 0]) (h1 : B1 = Blk.box [AV.t (T.emp true), I kd, I 0]) : ∀ (k : Nat), k ≤ l.length → bz l = l.take (bzN l k) →
    ∃ e', (e' = true → mixL l to = []) ∧ Or K42n4 [lst e (l.take k), I to, r0, AV.ref (Id.c 1) 0] [B0, B1] = some [T.lst 1 e' (enc (mixL l to)), ti kd, ti (mixT l kd to), tb (mixK l to)]
  | 0, hk0, hz => by
    subst h0 h1
    have hz' : bz l = [] := by rw [hz]; rfl
    obtain ⟨e', _, k1⟩ := s16 ⟨true, [], kd, clampF to⟩ (fun _ => rfl) (chk_none kd _ hk (clamp_b to)) (fun x hx => by cases hx) (clamp_b to) (by simp)
    rw [tidy_none] at k1
    have hm : mm true (mm false to 1) (-1) = clampF to := by rw [mm_max, mm_min]; rfl
    have hL : mixL l to = [] := by unfold mixL; rw [hz']; rfl
    have hT : mixT l kd to = noneF kd (clampF to) := by unfold mixT; rw [if_pos hz']
    have hK : mixK l to = true := by unfold mixK; rw [if_pos hz']
    refine ⟨e', fun _ => hL, orc_of ?_⟩
    rw [e42n4, hL, hT, hK]
    have h0 : ¬ ((0 : Nat) : Int) > 0 := by omega
    have h00 : ((0 : Nat) : Int) = 0 := rfl
    have hl0 : (lst true []) = AV.t (T.lst 1 true []) := rfl
    simp only [hl0] at k1
    simp only [gd1, hd1, tl1, dr0, dr1, dr2, dr3, dr4, dr5, dr6, bo1, in1, st1, ls1, le1, pt1, fi1, fb1, fs1, ct1, cf1, nt1, nf1, ak0, akT, akF, cdec, cndec, cbeq, cnbeq, ↓reduceIte, beq_self_eq_true, Int.reduceBEq, Int.reduceEq, Bool.and_true, Bool.true_and, Bool.false_and, Bool.and_false, gdF, enc_len, take_len hk0, h0, h00, decide_false, hm, k1]
    simp only [Int.lt_irrefl, gt_iff_lt, decide_false, gdF, gd1, hd1, tl1, dr0, dr1, dr2, dr3, dr4, dr5, dr6, bo1, in1, st1, ls1, le1, pt1, fi1, fb1, fs1, ct1, cf1, nt1, nf1, ak0, akT, akF, cdec, cndec, cbeq, cnbeq, ↓reduceIte, beq_self_eq_true, Int.reduceBEq, Int.reduceEq, Bool.and_true, Bool.true_and, Bool.false_and, Bool.and_false, k1]
  | k + 1, hkl, hz => by
    have h0' : ((k + 1 : Nat) : Int) > 0 := by omega
    have h00 : ¬ ((k + 1 : Nat) : Int) = 0 := by omega
    have hw : IntKind.i64.wrap (((k + 1 : Nat) : Int) - 1) = (k : Int) := by rw [wr (by omega)]; omega
    have h2 : 0 ≤ (k : Int) ∧ (k : Int) < ((k + 1 : Nat) : Int) := by omega
    have hi : inB 0 (k : Int) ((k + 1 : Nat) : Int) = some () := inB_ok (by omega)
    have hg := enc_get (take_get (l := l) (k := k) (by omega))
    have ht : (l.take (k + 1)).take k = l.take k := by rw [List.take_take]; congr 1; omega
    by_cases hx : l.getD k 0 = 0
    · obtain ⟨e', ke, k1⟩ := n42 B0 B1 e l to kd hb hn hk hto h0 h1 k (by omega) (by rw [hz, bzN, if_pos hx])
      subst h0 h1
      refine ⟨e', ke, orc_of ?_⟩
      rw [e42n4]
      simp only [gd1, hd1, tl1, dr0, dr1, dr2, dr3, dr4, dr5, dr6, bo1, in1, st1, ls1, le1, pt1, fi1, fb1, fs1, ct1, cf1, nt1, nf1, ak0, akT, akF, cdec, cndec, cbeq, cnbeq, ↓reduceIte, beq_self_eq_true, Int.reduceBEq, Int.reduceEq, Bool.and_true, Bool.true_and, Bool.false_and, Bool.and_false, enc_len, take_len hkl, h0', decide_true, hw, h2, and_self, hg, hx, hi, sub_enc, ht]
      exact k1
    · have hbz : bz l = l.take (k + 1) := by rw [hz, bzN, if_neg hx]
      have hne : bz l ≠ [] := by
        intro h
        rw [hbz] at h
        have := congrArg List.length h
        rw [take_len hkl] at this
        simp at this
      obtain ⟨x, hxm, hx0⟩ := bz_last hne
      have hgp := gl_pos (g := to.natAbs) hxm hx0
      have hbb := bz_bd hb
      have hlen := bz_len l
      have hdv : ∀ x ∈ bz l, (mixG l to : Int) ∣ x := fun x hx => gl_dvd hx
      have hdt : (mixG l to : Int) ∣ to := Int.ofNat_dvd_left.2 (gl_dvd0 (bz l) to.natAbs)
      have hg0 : (0 : Int) < (mixG l to : Int) := by unfold mixG; omega
      have hgn : ¬ (mixG l to : Int) = 0 := by omega
      have hq := div_bd hg0 hto (by omega)
      obtain ⟨e', ke, k1⟩ := n42a B0 e (bz l) to kd (mixG l to : Int) true hbb (by omega) hg0 hdv hto hdt h0 (bz l) 0 [] true (fits' (to / (mixG l to : Int))) rfl (by simp) (fun _ => rfl)
      have k2 : Or K42n12 [lst e (bz l), I to, r0, AV.ref (Id.c 1) 0, I (gl to.natAbs (bz l) : Nat), lst e (bz l), I ((bz l).length : Int), I ((bz l).length : Int)] [B0, B1] = some [T.lst 1 e' (enc (mixL l to)), ti kd, ti (mixT l kd to), tb (mixK l to)] := by
        subst h0 h1
        refine orc_of ?_
        rw [e42n12]
        have h9 : ¬ ((bz l).length : Int) < ((bz l).length : Int) := by omega
        have hT : mixT l kd to = to / (mixG l to : Int) := by unfold mixT; rw [if_neg hne]
        have hK : mixK l to = (fits' (to / (mixG l to : Int)) && (mixL l to).all fits') := by unfold mixK; rw [if_neg hne]
        rw [hT, hK]
        have hGG : gl to.natAbs (bz l) = mixG l to := rfl
        simp only [hGG]
        simp only [gd1, hd1, tl1, dr0, dr1, dr2, dr3, dr4, dr5, dr6, bo1, in1, st1, ls1, le1, pt1, fi1, fb1, fs1, ct1, cf1, nt1, nf1, ak0, akT, akF, cdec, cndec, cbeq, cnbeq, ↓reduceIte, beq_self_eq_true, Int.reduceBEq, Int.reduceEq, Bool.and_true, Bool.true_and, Bool.false_and, Bool.and_false, h9, hgn, tdiv_dvd hdt, wr (v := to / (mixG l to : Int)) (by omega), s77, enc_len]
        exact k1
      have k3 := n42g B0 B1 e (bz l) to kd true true hbb (by omega) _ h0 h1 (bz l) 0 to.natAbs rfl (by omega) (by omega) k2
      have k4 := s41 to 0 (by omega) (by omega)
      rw [Int.natAbs_zero, Nat.gcd_zero_right] at k4
      refine ⟨e', fun h => by simpa [mixL] using ke h, orc_of ?_⟩
      subst h0 h1
      rw [e42n4]
      simp only [gd1, hd1, tl1, dr0, dr1, dr2, dr3, dr4, dr5, dr6, bo1, in1, st1, ls1, le1, pt1, fi1, fb1, fs1, ct1, cf1, nt1, nf1, ak0, akT, akF, cdec, cndec, cbeq, cnbeq, ↓reduceIte, beq_self_eq_true, Int.reduceBEq, Int.reduceEq, Bool.and_true, Bool.true_and, Bool.false_and, Bool.and_false, enc_len, take_len hkl, h0', decide_true, hw, h2, and_self, hg, hx, h00, k4]
      rw [hbz, take_len hkl] at k3
      exact k3
theorem s42 (e : Bool) (l : List Int) (to : Int) (less : Bool) (hb : Bd 4000000000000 l) (hn : l.length ≤ 900) (hto : -4000000000000 ≤ to ∧ to ≤ 4000000000000) :
    ∃ e', (e' = true → mixL l to = []) ∧ Or (.call 84) [lst e l, I to, B less] [] = some [T.lst 1 e' (enc (mixL l to)), ti (if less then 2 else 1), ti (mixT l (if less then 2 else 1) to), tb (mixK l to)] := by
  cases less with
  | true =>
    obtain ⟨e', ke, k⟩ := n42 _ _ e l to 2 hb hn (by omega) hto rfl rfl l.length (Nat.le_refl _) rfl
    rw [List.take_length] at k
    refine ⟨e', ke, orc_of ?_⟩
    rw [e42]
    simp only [gd1, hd1, tl1, dr0, dr1, dr2, dr3, dr4, dr5, dr6, bo1, in1, st1, ls1, le1, pt1, fi1, fb1, fs1, ct1, cf1, nt1, nf1, ak0, akT, akF, cdec, cndec, cbeq, cnbeq, ↓reduceIte, beq_self_eq_true, Int.reduceBEq, Int.reduceEq, Bool.and_true, Bool.true_and, Bool.false_and, Bool.and_false]
    exact k
  | false =>
    obtain ⟨e', ke, k⟩ := n42 _ _ e l to 1 hb hn (by omega) hto rfl rfl l.length (Nat.le_refl _) rfl
    rw [List.take_length] at k
    refine ⟨e', ke, orc_of ?_⟩
    rw [e42]
    simp only [gd1, hd1, tl1, dr0, dr1, dr2, dr3, dr4, dr5, dr6, bo1, in1, st1, ls1, le1, pt1, fi1, fb1, fs1, ct1, cf1, nt1, nf1, ak0, akT, akF, cdec, cndec, cbeq, cnbeq, ↓reduceIte, beq_self_eq_true, Int.reduceBEq, Int.reduceEq, Bool.and_true, Bool.true_and, Bool.false_and, Bool.and_false]
    exact k
end Go.Aev.Gen
