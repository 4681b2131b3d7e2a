/-
  What two bounds give together; the document's.
-/
import Derived.Test.YtobpninhnmmpeaaAMix
set_option linter.unusedSimpArgs false
set_option linter.unusedVariables false
namespace Go.Aev.Gen
open Go Go.Aev

theorem divL_len (g : Int) (l : List Int) : (divL g l).length = l.length := by simp [divL]
theorem bzN_div {g : Int} (hg : 0 < g) {l : List Int} (h : ∀ x ∈ l, g ∣ x) : ∀ k, k ≤ l.length → bzN (divL g l) k = bzN l k
  | 0, _ => rfl
  | k + 1, hk => by
    have hkl : k < l.length := by omega
    have hd := h l[k] (List.getElem_mem hkl)
    have h1 : (divL g l).getD k 0 = l[k] / g := by simp [divL, List.getD_eq_getElem?_getD, hkl]
    have h2 : l.getD k 0 = l[k] := by simp [List.getD_eq_getElem?_getD, hkl]
    have h3 : l[k] / g = 0 ↔ l[k] = 0 := by
      obtain ⟨c, hc⟩ := hd
      rw [hc, Int.mul_ediv_cancel_left _ (by omega)]
      constructor
      · intro h; subst h; simp
      · intro h
        rcases Int.mul_eq_zero.1 h with h | h
        · omega
        · exact h
    rw [bzN, bzN, h1, h2, bzN_div hg h k (by omega)]
    simp only [h3]
theorem bz_div {g : Int} (hg : 0 < g) {l : List Int} (h : ∀ x ∈ l, g ∣ x) : bz (divL g l) = divL g (bz l) := by
  unfold bz
  rw [divL_len, bzN_div hg h _ (Nat.le_refl _)]
  simp [divL, List.map_take]
theorem tidy_div {l : List Int} {kd tv : Int} (hk : kd = 1 ∨ kd = 2) (hz : bz l ≠ []) :
    tidyF (divL (mixG l tv : Int) l) kd (tv / (mixG l tv : Int)) = (mixL l tv, tv / (mixG l tv : Int)) := by
  obtain ⟨x, hxm, hx0⟩ := bz_last hz
  have hgp := gl_pos (g := tv.natAbs) hxm hx0
  have hg0 : (0 : Int) < (mixG l tv : Int) := by unfold mixG; omega
  have hall : ∀ x ∈ l, (mixG l tv : Int) ∣ x := by
    unfold mixG; rw [gl_bz]; exact fun x hx => gl_dvd hx
  have hbz : ∀ x ∈ bz l, (mixG l tv : Int) ∣ x := fun x hx => gl_dvd hx
  have hne : divL (mixG l tv : Int) (bz l) ≠ [] := by
    intro h
    have := congrArg List.length h
    rw [divL_len] at this
    exact hz (List.length_eq_zero_iff.1 this)
  obtain ⟨c, hc⟩ := Int.ofNat_dvd_left.2 (gl_dvd0 (bz l) tv.natAbs)
  have hc' : tv = (mixG l tv : Int) * c := hc
  have hq : tv / (mixG l tv : Int) = c := by
    have : (mixG l tv : Int) * c / (mixG l tv : Int) = c := Int.mul_ediv_cancel_left _ (by omega)
    rw [← hc'] at this
    exact this
  have hone : gl (tv / (mixG l tv : Int)).natAbs (divL (mixG l tv : Int) (bz l)) = 1 := by
    rw [hq]
    have h1 := gl_mul (mixG l tv) (bz l) c.natAbs hbz (by omega)
    have h2 : mixG l tv * c.natAbs = tv.natAbs := by
      have := congrArg Int.natAbs hc'
      rw [Int.natAbs_mul, Int.natAbs_natCast] at this
      exact this.symm
    rw [h2] at h1
    have h3 : gl tv.natAbs (bz l) = mixG l tv := rfl
    rw [h3] at h1
    have h4 : mixG l tv * gl c.natAbs (divL (mixG l tv : Int) (bz l)) = mixG l tv * 1 := by omega
    exact Nat.eq_of_mul_eq_mul_left (by omega) h4
  have hs : sg kd (divL (mixG l tv : Int) (bz l)) = 1 := by
    unfold sg; rw [if_neg (by omega)]
  unfold tidyF
  rw [bz_div hg0 hall, if_neg hne, hone, hs]
  simp [mixL]
theorem all_zero (l : List Int) : l.all (· == 0) = decide (bz l = []) := by
  obtain ⟨k, hk⟩ := bz_split l
  by_cases hz : bz l = []
  · rw [hz, List.nil_append] at hk
    rw [hz, hk]
    simp
  · obtain ⟨x, hxm, hx0⟩ := bz_last hz
    rw [decide_eq_false hz]
    rw [List.all_eq_false]
    refine ⟨x, List.mem_of_mem_take hxm, by simpa using hx0⟩
theorem fits_bz {g : Int} (l : List Int) : (divL g l).all fits' = (divL g (bz l)).all fits' := by
  obtain ⟨k, hk⟩ := bz_split l
  have : (divL g l).all fits' = (divL g (bz l ++ List.replicate k 0)).all fits' := congrArg (fun m => (divL g m).all fits') hk
  rw [this]
  simp only [divL, List.map_append, List.all_append, List.map_replicate, Int.zero_ediv]
  have : (List.replicate k (0 : Int)).all fits' = true := by
    rw [List.all_eq_true]
    intro x hx
    rw [(List.mem_replicate.1 hx).2]
    rfl
  rw [this, Bool.and_true]
theorem s43' (c : Int) : Or (.call 43) [I c] [] = some [tb (fits' c)] := by
  rw [s43]
  unfold fits'
  congr 3
  exact decide_eq_decide.2 ⟨fun h => ⟨h.2, h.1⟩, fun h => ⟨h.2, h.1⟩⟩
theorem n22g (B0 B1 : Blk) (e0 : Bool) (l : List Int) (kd tv : Int) (e1 : Bool) (v : Bool) (k : Int) (hk : -1 ≤ k ∧ k ≤ 1000) (res : List T)
    (h0 : B0 = Blk.box [lst e0 l, I kd, I tv]) (h1 : B1 = Blk.box [AV.t (T.emp e1), I 0, I 0]) : ∀ (m : Nat) (a b : Int), b.natAbs ≤ m → 0 ≤ a ∧ a ≤ 1000000000000000 → 0 ≤ b ∧ b ≤ 1000000000000000 →
    Or K22n4 [r0, AV.ref (Id.c 1) 0, I (Nat.gcd a.natAbs b.natAbs : Nat), B v, I (k + 1)] [B0, B1] = some res → Or K22n8 [r0, AV.ref (Id.c 1) 0, B v, I k, I a, I b] [B0, B1] = some res
  | m, a, b, hm, ha, hb, hres => by
    by_cases hb0 : b = 0
    · subst hb0
      subst h0 h1
      refine orc_of ?_
      rw [e22n8]
      have h1 : ¬ (0 : Int) > 0 := by omega
      have : ((Nat.gcd a.natAbs (0 : Int).natAbs : Nat) : Int) = a := by
        rw [Int.natAbs_zero, Nat.gcd_zero_right]; omega
      rw [this] at hres
      simp only [gd1, hd1, tl1, dr0, dr1, dr2, dr3, dr4, dr5, dr6, bo1, in1, st1, ls1, le1, pt1, fi1, fb1, fs1, ct1, cf1, nt1, nf1, ak0, akT, akF, cdec, cndec, cbeq, cnbeq, ↓reduceIte, beq_self_eq_true, Int.reduceBEq, Int.reduceEq, Bool.and_true, Bool.true_and, Bool.false_and, Bool.and_false, h1, wr (v := k + 1) (by omega)]
      exact hres
    · have ht := natAbs_tmod a b
      have hlt : (a.tmod b).natAbs < b.natAbs := by rw [ht]; exact Nat.mod_lt _ (by omega)
      have hnn : 0 ≤ a.tmod b := Int.tmod_nonneg b ha.1
      have hpos : b > 0 := by omega
      match m with
      | 0 => omega
      | m + 1 =>
        have := n22g B0 B1 e0 l kd tv e1 v k hk res h0 h1 m b (a.tmod b) (by omega) hb (by omega) (by rw [gcd_tmod]; exact hres)
        subst h0 h1
        refine orc_of ?_
        rw [e22n8]
        simp only [gd1, hd1, tl1, dr0, dr1, dr2, dr3, dr4, dr5, dr6, bo1, in1, st1, ls1, le1, pt1, fi1, fb1, fs1, ct1, cf1, nt1, nf1, ak0, akT, akF, cdec, cndec, cbeq, cnbeq, ↓reduceIte, beq_self_eq_true, Int.reduceBEq, Int.reduceEq, Bool.and_true, Bool.true_and, Bool.false_and, Bool.and_false, hb0, hpos]
        exact this
theorem n22 (B0 B1 : Blk) (e0 : Bool) (l : List Int) (kd tv : Int) (e1 : Bool) (hb : Bd 4000000000000 l) (hn : l.length ≤ 900) (res : List T)
    (h0 : B0 = Blk.box [lst e0 l, I kd, I tv]) (h1 : B1 = Blk.box [AV.t (T.emp e1), I 0, I 0]) : ∀ (rest : List Int) (i : Nat) (g : Nat) (v : Bool), l.drop i = rest → i ≤ l.length → g ≤ 4000000000000 →
    Or K22n4 [r0, AV.ref (Id.c 1) 0, I (gl g rest : Nat), B (v && rest.all (· == 0)), I (l.length : Int)] [B0, B1] = some res →
    Or K22n4 [r0, AV.ref (Id.c 1) 0, I (g : Int), B v, I (i : Int)] [B0, B1] = some res := by
  intro rest
  induction rest with
  | nil =>
    intro i g v h hi hg hk
    have hle := at_end h
    obtain rfl : i = l.length := by omega
    simpa [gl] using hk
  | cons x rest ih =>
    intro i g v h hi hg hk
    obtain ⟨g1, g2, g3⟩ := at_drop h
    have h1' : (i : Int) < (l.length : Int) := by omega
    have h0' : 0 ≤ (i : Int) := by omega
    have hx := hb x (List.mem_of_getElem? g1)
    have hle : Nat.gcd g x.natAbs ≤ 4000000000000 := by
      rcases Nat.eq_zero_or_pos g with h | h
      · subst h; rw [Nat.gcd_zero_left]; omega
      · exact Nat.le_trans (Nat.gcd_le_left _ h) hg
    have hw : IntKind.i64.wrap (0 - x) = -x := by rw [wr (by omega)]; omega
    have hm : mm true x (-x) = (x.natAbs : Int) := by rw [mm_max]; omega
    have k1 := ih (i + 1) (Nat.gcd g x.natAbs) (v && (x == 0)) g3 (by omega) hle (by
      simp only [List.all_cons, gl, ← Bool.and_assoc] at hk
      exact hk)
    have k2 := n22g B0 B1 e0 l kd tv e1 (v && (x == 0)) (i : Int) (by omega) res h0 h1 x.natAbs (g : Int) (x.natAbs : Int) (by omega) (by omega) (by omega) (by
      rw [Int.natAbs_natCast, Int.natAbs_natCast]; exact k1)
    subst h0 h1
    refine orc_of ?_
    rw [e22n4]
    cases v with
    | true =>
      simp only [gd1, hd1, tl1, dr0, dr1, dr2, dr3, dr4, dr5, dr6, bo1, in1, st1, ls1, le1, pt1, fi1, fb1, fs1, ct1, cf1, nt1, nf1, ak0, akT, akF, cdec, cndec, cbeq, cnbeq, ↓reduceIte, beq_self_eq_true, Int.reduceBEq, Int.reduceEq, Bool.and_true, Bool.true_and, Bool.false_and, Bool.and_false, h1', h0', and_self, enc_len, enc_get g1, hw, hm]
      simpa only [Bool.true_and] using k2
    | false =>
      simp only [gd1, hd1, tl1, dr0, dr1, dr2, dr3, dr4, dr5, dr6, bo1, in1, st1, ls1, le1, pt1, fi1, fb1, fs1, ct1, cf1, nt1, nf1, ak0, akT, akF, cdec, cndec, cbeq, cnbeq, ↓reduceIte, beq_self_eq_true, Int.reduceBEq, Int.reduceEq, Bool.and_true, Bool.true_and, Bool.false_and, Bool.and_false, gdF, h1', h0', and_self, enc_len, enc_get g1, hw, hm]
      simpa only [Bool.false_and] using k2
theorem n22a (B0 B1 B2 : Blk) (e0 : Bool) (l : List Int) (kd tv g : Int) (e1 : Bool) (hb : Bd 4000000000000 l) (hn : l.length ≤ 900) (hg : 0 < g) (hd : ∀ x ∈ l, g ∣ x) (Pr : List T → Prop)
    (h0 : B0 = Blk.box [lst e0 l, I kd, I tv]) (h1 : B1 = Blk.box [AV.t (T.emp e1), I 0, I 0]) (h2 : B2 = Blk.box [AV.own (Id.c 3), I kd, I tv]) : ∀ (rest : List Int) (i : Nat) (done : List Int) (e3 v : Bool), l.drop i = rest → done.length = i → i ≤ l.length →
    (∀ e', ∃ r, Or K22n17 [r0, AV.ref (Id.c 1) 0, I g, AV.ref (Id.c 2) 0, B (v && (divL g rest).all fits'), I (l.length : Int)] [B0, B1, B2, Blk.sl false 1 e' (enc (done ++ divL g rest))] = some r ∧ Pr r) →
    ∃ r, Or K22n17 [r0, AV.ref (Id.c 1) 0, I g, AV.ref (Id.c 2) 0, B v, I (i : Int)] [B0, B1, B2, Blk.sl false 1 e3 (enc done)] = some r ∧ Pr r := by
  intro rest
  induction rest with
  | nil =>
    intro i done e3 v h hl hi hk
    have hle := at_end h
    obtain rfl : i = l.length := by omega
    simpa [divL] using hk e3
  | cons x rest ih =>
    intro i done e3 v h hl hi hk
    obtain ⟨g1, g2, g3⟩ := at_drop h
    have h1' : (i : Int) < (l.length : Int) := by omega
    have h0' : 0 ≤ (i : Int) := by omega
    have hg0 : ¬ g = 0 := by omega
    have hx := hb x (List.mem_of_getElem? g1)
    have hq := div_bd hg hx (by omega)
    have hw : IntKind.i64.wrap (x / g) = x / g := wr (by omega)
    have hsm : small 8 (done.length + [[ti (x / g)]].length) = some () := small_ok (by simp; omega)
    have happ : enc done ++ [[ti (x / g)]] = enc (done ++ [x / g]) := by simp [enc]
    have hget : (done ++ [x / g])[i]? = some (x / g) := by rw [← hl]; simp
    have hlt : (i : Int) < ((done ++ [x / g]).length : Int) := by simp; omega
    obtain ⟨r, k1, k2⟩ := ih (i + 1) (done ++ [x / g]) (e3 && false) (v && fits' (x / g)) g3 (by simp; omega) (by omega) (by
      intro e'
      have := hk e'
      simpa only [divL, List.map_cons, List.all_cons, ← Bool.and_assoc, List.append_assoc, List.singleton_append] using this)
    refine ⟨r, orc_of ?_, k2⟩
    subst h0 h1 h2
    rw [e22n17]
    rw [Bool.and_false] at k1
    cases v with
    | true =>
      simp only [gd1, hd1, tl1, dr0, dr1, dr2, dr3, dr4, dr5, dr6, bo1, in1, st1, ls1, le1, pt1, fi1, fb1, fs1, ct1, cf1, nt1, nf1, ak0, akT, akF, cdec, cndec, cbeq, cnbeq, ↓reduceIte, beq_self_eq_true, Int.reduceBEq, Int.reduceEq, Bool.and_true, Bool.true_and, Bool.false_and, Bool.and_false, h1', h0', and_self, enc_len, enc_get g1, hg0, tdiv_dvd (hd x (List.mem_of_getElem? g1)), hw, hsm, happ, hlt, enc_get hget, s43', next i (by omega)]
      simpa only [Bool.true_and] using k1
    | false =>
      simp only [gd1, hd1, tl1, dr0, dr1, dr2, dr3, dr4, dr5, dr6, bo1, in1, st1, ls1, le1, pt1, fi1, fb1, fs1, ct1, cf1, nt1, nf1, ak0, akT, akF, cdec, cndec, cbeq, cnbeq, ↓reduceIte, beq_self_eq_true, Int.reduceBEq, Int.reduceEq, Bool.and_true, Bool.true_and, Bool.false_and, Bool.and_false, gdF, h1', h0', and_self, enc_len, enc_get g1, hg0, tdiv_dvd (hd x (List.mem_of_getElem? g1)), hw, hsm, happ, next i (by omega)]
      simpa only [Bool.false_and] using k1
/-- What the document's answers. -/
def MixA (l : List Int) (kd tv : Int) (r : List T) : Prop :=
  (mixK l tv = true ∧ ∃ e', r = [T.lst 1 e' (enc (mixL l tv)), ti kd, ti (mixT l kd tv), tb true]) ∨ (mixK l tv = false ∧ r = [T.emp true, ti 0, ti 0, tb false])
theorem s22 (e0 : Bool) (l : List Int) (kd tv : Int) (hb : Bd 4000000000000 l) (hn : l.length ≤ 900) (hk : kd = 1 ∨ kd = 2) (ht : -4000000000000 ≤ tv ∧ tv ≤ 4000000000000) :
    ∃ r, Or (.call 22) [AV.agg [lst e0 l, I kd, I tv]] [] = some r ∧ MixA l kd tv r := by
  have hw : IntKind.i64.wrap (0 - tv) = -tv := by rw [wr (by omega)]; omega
  have hm : mm true tv (-tv) = (tv.natAbs : Int) := by rw [mm_max]; omega
  have hlast : ¬ (l.length : Int) < (l.length : Int) := by omega
  have hk3 : kd = 1 ∨ kd = 2 ∨ kd = 3 := by omega
  have key : ∃ r, Or K22n4 [r0, AV.ref (Id.c 1) 0, I (gl tv.natAbs l : Nat), B (true && l.all (· == 0)), I (l.length : Int)] [Blk.box [lst e0 l, I kd, I tv], Blk.box [AV.t (T.emp true), I 0, I 0]] = some r ∧ MixA l kd tv r := by
    rw [Bool.true_and, all_zero]
    by_cases hz : bz l = []
    · have hmm : mm true (-1) (mm false tv 1) = clampF tv := by rw [mm_max, mm_min]; unfold clampF; omega
      obtain ⟨e', k1⟩ := s20 ⟨true, [], kd, clampF tv⟩ hk3 (fun x hx => by cases hx) (clamp_b tv) (by simp)
      rw [tidy_none] at k1
      have hL : mixL l tv = [] := by unfold mixL; rw [hz]; rfl
      have hT : mixT l kd tv = noneF kd (clampF tv) := by unfold mixT; rw [if_pos hz]
      have hK : mixK l tv = true := by unfold mixK; rw [if_pos hz]
      have hl0 : (lst true []) = AV.t (T.lst 1 true []) := rfl
      simp only [hl0] at k1
      refine ⟨[T.lst 1 e' (enc []), ti kd, ti (noneF kd (clampF tv)), tb true], orc_of ?_, .inl ⟨hK, e', by rw [hL, hT]⟩⟩
      rw [e22n4]
      simp only [gd1, hd1, tl1, dr0, dr1, dr2, dr3, dr4, dr5, dr6, bo1, in1, st1, ls1, le1, pt1, fi1, fb1, fs1, ct1, cf1, nt1, nf1, ak0, akT, akF, cdec, cndec, cbeq, cnbeq, ↓reduceIte, beq_self_eq_true, Int.reduceBEq, Int.reduceEq, Bool.and_true, Bool.true_and, Bool.false_and, Bool.and_false, enc_len, hlast, hz, decide_true, hmm, k1]
    · obtain ⟨x, hxm, hx0⟩ := bz_last hz
      have hgp := gl_pos (g := tv.natAbs) hxm hx0
      have hG : gl tv.natAbs l = mixG l tv := (gl_bz _ _).symm
      have hg0 : (0 : Int) < (mixG l tv : Int) := by unfold mixG; omega
      have hgn : ¬ (mixG l tv : Int) = 0 := by omega
      have hdv : ∀ x ∈ l, (mixG l tv : Int) ∣ x := by rw [← hG]; exact fun x hx => gl_dvd hx
      have hdt : (mixG l tv : Int) ∣ tv := Int.ofNat_dvd_left.2 (gl_dvd0 (bz l) tv.natAbs)
      have hq := div_bd hg0 ht (by omega)
      have hwq : IntKind.i64.wrap (tv / (mixG l tv : Int)) = tv / (mixG l tv : Int) := wr (by omega)
      have hT : mixT l kd tv = tv / (mixG l tv : Int) := by unfold mixT; rw [if_neg hz]
      have hK : mixK l tv = (fits' (tv / (mixG l tv : Int)) && (divL (mixG l tv : Int) l).all fits') := by unfold mixK mixL; rw [if_neg hz, ← fits_bz l]
      obtain ⟨r, k1, k2⟩ := n22a _ _ _ e0 l kd tv (mixG l tv : Int) true hb hn hg0 hdv (MixA l kd tv) rfl rfl rfl l 0 [] true true rfl rfl (by omega) (by
        intro e'
        simp only [Bool.true_and, List.nil_append]
        cases hf : (divL (mixG l tv : Int) l).all fits' with
        | false =>
          refine ⟨_, orc_of ?_, .inr ⟨by rw [hK, hf, Bool.and_false], rfl⟩⟩
          rw [e22n17]
          simp only [gd1, hd1, tl1, dr0, dr1, dr2, dr3, dr4, dr5, dr6, bo1, in1, st1, ls1, le1, pt1, fi1, fb1, fs1, ct1, cf1, nt1, nf1, ak0, akT, akF, cdec, cndec, cbeq, cnbeq, ↓reduceIte, beq_self_eq_true, Int.reduceBEq, Int.reduceEq, Bool.and_true, Bool.true_and, Bool.false_and, Bool.and_false, gdF, enc_len, hlast, hgn]
        | true =>
          cases hf2 : fits' (tv / (mixG l tv : Int)) with
          | false =>
            refine ⟨_, orc_of ?_, .inr ⟨by rw [hK, hf2, Bool.false_and], rfl⟩⟩
            rw [e22n17]
            simp only [gd1, hd1, tl1, dr0, dr1, dr2, dr3, dr4, dr5, dr6, bo1, in1, st1, ls1, le1, pt1, fi1, fb1, fs1, ct1, cf1, nt1, nf1, ak0, akT, akF, cdec, cndec, cbeq, cnbeq, ↓reduceIte, beq_self_eq_true, Int.reduceBEq, Int.reduceEq, Bool.and_true, Bool.true_and, Bool.false_and, Bool.and_false, enc_len, hlast, hgn, tdiv_dvd hdt, hwq, s43', hf2]
          | true =>
            have hfit : ∀ x ∈ divL (mixG l tv : Int) l, -1000000 ≤ x ∧ x ≤ 1000000 := by
              intro x hx
              have := List.all_eq_true.1 hf x hx
              simpa [fits'] using this
            have hft : -1000000 ≤ tv / (mixG l tv : Int) ∧ tv / (mixG l tv : Int) ≤ 1000000 := by simpa [fits'] using hf2
            obtain ⟨e2, k1⟩ := s20 ⟨e', divL (mixG l tv : Int) l, kd, tv / (mixG l tv : Int)⟩ hk3 hfit hft (by simp [divL]; omega)
            rw [tidy_div hk hz] at k1
            refine ⟨[T.lst 1 e2 (enc (mixL l tv)), ti kd, ti (tv / (mixG l tv : Int)), tb true], orc_of ?_, .inl ⟨by rw [hK, hf, hf2]; rfl, e2, by rw [hT]⟩⟩
            rw [e22n17]
            simp only [gd1, hd1, tl1, dr0, dr1, dr2, dr3, dr4, dr5, dr6, bo1, in1, st1, ls1, le1, pt1, fi1, fb1, fs1, ct1, cf1, nt1, nf1, ak0, akT, akF, cdec, cndec, cbeq, cnbeq, ↓reduceIte, beq_self_eq_true, Int.reduceBEq, Int.reduceEq, Bool.and_true, Bool.true_and, Bool.false_and, Bool.and_false, enc_len, hlast, hgn, tdiv_dvd hdt, hwq, s43', hf2, k1])
      refine ⟨r, orc_of ?_, k2⟩
      rw [e22n4, hG]
      simp only [gd1, hd1, tl1, dr0, dr1, dr2, dr3, dr4, dr5, dr6, bo1, in1, st1, ls1, le1, pt1, fi1, fb1, fs1, ct1, cf1, nt1, nf1, ak0, akT, akF, cdec, cndec, cbeq, cnbeq, ↓reduceIte, beq_self_eq_true, Int.reduceBEq, Int.reduceEq, Bool.and_true, Bool.true_and, Bool.false_and, Bool.and_false, enc_len, hlast, hz, decide_false]
      exact k1
  obtain ⟨r, k1, k2⟩ := key
  have k3 := n22 _ _ e0 l kd tv true hb hn r rfl rfl l 0 tv.natAbs true rfl (by omega) (by omega) k1
  refine ⟨r, orc_of ?_, k2⟩
  rw [e22]
  simp only [gd1, hd1, tl1, dr0, dr1, dr2, dr3, dr4, dr5, dr6, bo1, in1, st1, ls1, le1, pt1, fi1, fb1, fs1, ct1, cf1, nt1, nf1, ak0, akT, akF, cdec, cndec, cbeq, cnbeq, ↓reduceIte, beq_self_eq_true, Int.reduceBEq, Int.reduceEq, Bool.and_true, Bool.true_and, Bool.false_and, Bool.and_false, hw, hm]
  exact k3
end Go.Aev.Gen
