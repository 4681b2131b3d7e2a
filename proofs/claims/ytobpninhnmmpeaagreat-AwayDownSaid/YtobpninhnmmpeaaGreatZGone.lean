/-
  The number is gone: what is left without it, taken out again.
-/
import Derived.Test.YtobpninhnmmpeaaGreatZLaw
import Derived.Test.YtobpninhnmmpeaaGreatZFact
set_option linter.unusedSimpArgs false
set_option linter.unusedVariables false
namespace Go.Aev.Gen
open Go Go.Aev Go.Proofs

/-! ### What all rows that are left have -/
theorem inn_P {k : Nat} {P : C → Prop} {a : Bn} : ∀ (ls : List Bn) (acc : List C), (∀ b ∈ ls, cOk a b k = true → P (cC a b k)) → (∀ c ∈ acc, P c) → ∀ c ∈ (innF k a ls acc).2, P c
  | [], acc, _, h => h
  | b :: ls, acc, hp, h => by
    have hp' : ∀ b ∈ ls, cOk a b k = true → P (cC a b k) := fun b hb => hp b (List.mem_cons_of_mem _ hb)
    rw [innF]
    split
    · exact inn_P ls acc hp' h
    · split
      · intro c hc; cases hc
      · rename_i ho
        split
        · intro c hc; cases hc
        · refine inn_P ls _ hp' fun c hc => ?_
          rcases List.mem_append.1 hc with hc | hc
          · exact h c hc
          · rw [List.mem_singleton.1 hc]; exact hp b List.mem_cons_self (by simpa using ho)
theorem out_P {k : Nat} {P : C → Prop} (ls : List Bn) : ∀ (hs : List Bn) (acc : List C), (∀ a ∈ hs, ∀ b ∈ ls, cOk a b k = true → P (cC a b k)) → (∀ c ∈ acc, P c) → ∀ c ∈ (outF k ls hs acc).2, P c
  | [], acc, _, h => h
  | a :: hs, acc, hp, h => by
    rw [outF]
    have := inn_P (k := k) ls acc (hp a List.mem_cons_self) h
    split
    · exact out_P ls hs _ (fun a ha => hp a (List.mem_cons_of_mem _ ha)) this
    · exact this
theorem firsts_P {k : Nat} {P : C → Prop} : ∀ rows : List R, (∀ r ∈ rows, r.of.getD k 0 = 0 → P (tidyC r)) → ∀ c ∈ firsts k rows, P c
  | [], _, c, hc => by cases hc
  | r :: rs, h, c, hc => by
    have ih := firsts_P rs (fun r hr => h r (List.mem_cons_of_mem _ hr))
    rw [firsts] at hc
    split at hc
    · rename_i hz
      rcases List.mem_cons.1 hc with rfl | hc
      · exact h r List.mem_cons_self hz
      · exact ih c hc
    · exact ih c hc
theorem away_P {n k : Nat} {P : C → Prop} {rows : List R} (h1 : ∀ r ∈ rows, r.of.getD k 0 = 0 → P (tidyC r)) (h2 : ∀ a ∈ ups n k rows 0, ∀ b ∈ dns n k rows 0, cOk a b k = true → P (cC a b k)) : ∀ c ∈ (awayF n k rows).2, P c :=
  out_P _ _ _ h2 (firsts_P rows h1)
theorem inn_bad {k : Nat} {a : Bn} : ∀ (ls : List Bn) (acc : List C), (innF k a ls acc).1 ≠ 0 → (innF k a ls acc).2 = []
  | [], acc, h => absurd rfl h
  | b :: ls, acc, h => by
    rw [innF] at h ⊢
    split at h
    · rename_i h1; rw [if_pos h1]; exact inn_bad ls acc h
    · rename_i h1
      rw [if_neg h1]
      split at h
      · rename_i h2; rw [if_pos h2]
      · rename_i h2
        rw [if_neg h2]
        split at h
        · rename_i h3; rw [if_pos h3]
        · rename_i h3; rw [if_neg h3]; exact inn_bad ls _ h
theorem out_bad {k : Nat} (ls : List Bn) : ∀ (hs : List Bn) (acc : List C), (outF k ls hs acc).1 ≠ 0 → (outF k ls hs acc).2 = []
  | [], acc, h => absurd rfl h
  | a :: hs, acc, h => by
    rw [outF] at h ⊢
    split at h
    · rename_i h1; rw [if_pos h1]; exact out_bad ls hs _ h
    · rename_i h1; rw [if_neg h1]; exact inn_bad ls acc h

/-! ### Tidied twice -/
theorem bz_id {l : List Int} (h : l ≠ [] → l.getD (l.length - 1) 0 ≠ 0) : bz l = l := by
  unfold bz
  cases hl : l.length with
  | zero => rw [List.length_eq_zero_iff.1 hl]; rfl
  | succ m =>
    have := h (fun e => by rw [e] at hl; cases hl)
    rw [hl, Nat.add_sub_cancel] at this
    rw [bzN, if_neg this, ← hl, List.take_length]
theorem bz_lastD {l : List Int} (h : bz l ≠ []) : (bz l).getD ((bz l).length - 1) 0 ≠ 0 := by
  unfold bz at h ⊢
  cases hk : bzN l l.length with
  | zero => rw [hk] at h; exact absurd rfl h
  | succ j =>
    obtain ⟨h1, h2⟩ := bzN_last (Nat.le_refl _) hk
    rw [take_len (by omega), Nat.add_sub_cancel, List.getD_eq_getElem?_getD, take_get h2]
    exact h1
theorem map_getD {f : Int → Int} (hf : f 0 = 0) (l : List Int) (k : Nat) : (l.map f).getD k 0 = f (l.getD k 0) := by
  simp only [List.getD_eq_getElem?_getD, List.getElem?_map]
  cases l[k]? <;> simp [hf]
theorem bz_at {l : List Int} {k : Nat} (h : l.getD k 0 = 0) : (bz l).getD k 0 = 0 := by
  unfold bz
  simp only [List.getD_eq_getElem?_getD, List.getElem?_take] at h ⊢
  split
  · exact h
  · rfl
theorem sg_or (kd : Int) (l : List Int) : sg kd l = 1 ∨ sg kd l = -1 := by unfold sg; split <;> simp
theorem gl_sg {s : Int} (hs : s = 1 ∨ s = -1) : ∀ (l : List Int) (g : Nat), gl g (l.map (s * ·)) = gl g l
  | [], _ => rfl
  | x :: l, g => by
    have : (s * x).natAbs = x.natAbs := by rcases hs with rfl | rfl <;> simp
    rw [List.map_cons, gl, gl, this, gl_sg hs l]
theorem fnz_sg {s : Int} (hs : s = 1 ∨ s = -1) : ∀ (l : List Int), fnz (l.map (s * ·)) = s * fnz l
  | [] => by simp [fnz]
  | x :: l => by
    rw [List.map_cons, fnz, fnz]
    by_cases hx : x = 0
    · subst hx; rw [if_pos (by simp), if_pos rfl, fnz_sg hs l]
    · rw [if_neg (by rcases hs with rfl | rfl <;> omega), if_neg hx]
theorem noneF_idem (kd tv : Int) : noneF kd (noneF kd tv) = noneF kd tv := by
  unfold noneF
  by_cases h1 : kd = 1 ∧ tv < 0
  · rw [if_pos h1]; simp [h1.1]
  · rw [if_neg h1]
    by_cases h2 : kd = 2 ∧ tv > 0
    · rw [if_pos h2]; simp [h2.1]
    · rw [if_neg h2]
      by_cases h3 : kd = 3 ∧ tv ≠ 0
      · rw [if_pos h3]; simp [h3.1]
      · rw [if_neg h3]; simp
theorem noneF_b (kd tv : Int) : -1 ≤ noneF kd tv ∧ noneF kd tv ≤ 1 := by unfold noneF; split <;> (try split) <;> (try split) <;> omega
theorem tidyF_some {of : List Int} {kd tv : Int} (hz : bz of ≠ []) : tidyF of kd tv = ((divL (gl tv.natAbs (bz of)) (bz of)).map (sg kd (bz of) * ·), sg kd (bz of) * (tv / (gl tv.natAbs (bz of) : Int))) := by
  unfold tidyF
  rw [if_neg hz]
  simp [divL, Function.comp_def]
theorem tidyF_none {of : List Int} {kd tv : Int} (hz : bz of = []) : tidyF of kd tv = ([], noneF kd tv) := by unfold tidyF; rw [if_pos hz]
theorem gl_quot {l : List Int} {tv : Int} (hg : 0 < gl tv.natAbs l) : gl (tv / (gl tv.natAbs l : Int)).natAbs (divL (gl tv.natAbs l) l) = 1 := by
  have hd : (gl tv.natAbs l : Int) ∣ tv := Int.ofNat_dvd_left.2 (gl_dvd0 l tv.natAbs)
  have h1 := gl_mul (gl tv.natAbs l) l (tv / (gl tv.natAbs l : Int)).natAbs (fun x hx => gl_dvd hx) hg
  have h2 : gl tv.natAbs l * (tv / (gl tv.natAbs l : Int)).natAbs = tv.natAbs := by
    have h3 : ((gl tv.natAbs l : Int) * (tv / (gl tv.natAbs l : Int))).natAbs = tv.natAbs := by rw [Int.mul_ediv_cancel' hd]
    rw [Int.natAbs_mul, Int.natAbs_natCast] at h3
    exact h3
  rw [h2] at h1
  have h4 : gl tv.natAbs l * 1 = gl tv.natAbs l * gl (tv / (gl tv.natAbs l : Int)).natAbs (divL (gl tv.natAbs l) l) := by rw [Nat.mul_one]; exact h1
  exact (Nat.eq_of_mul_eq_mul_left hg h4).symm
theorem tidyF_idem (of : List Int) (kd tv : Int) : tidyF (tidyF of kd tv).1 kd (tidyF of kd tv).2 = tidyF of kd tv := by
  by_cases hz : bz of = []
  · rw [tidyF_none hz]
    show tidyF [] kd (noneF kd tv) = _
    rw [tidy_none, noneF_idem]
  · have hs := sg_or kd (bz of)
    obtain ⟨x, hx, h0⟩ := bz_last hz
    have hgp := gl_pos (g := tv.natAbs) hx h0
    have hdv : ∀ x ∈ bz of, (gl tv.natAbs (bz of) : Int) ∣ x := fun x hx => gl_dvd hx
    have hlast := bz_lastD hz
    have hfz := bz_fnz hz
    rw [tidyF_some hz]
    dsimp only
    have hq := gl_quot (l := bz of) (tv := tv) hgp
    have hsd := sg_div (kd := kd) (show (0 : Int) < (gl tv.natAbs (bz of) : Int) by omega) hdv
    have hfd := fnz_div (show (0 : Int) < (gl tv.natAbs (bz of) : Int) by omega) hdv
    have hmem : (bz of).getD ((bz of).length - 1) 0 ∈ bz of := by
      have : 0 < (bz of).length := List.length_pos_iff.2 hz
      exact List.mem_of_getElem? (getD_get (l := bz of) (k := (bz of).length - 1) (by omega))
    have hlen : ((divL (gl tv.natAbs (bz of)) (bz of)).map (sg kd (bz of) * ·)).length = (bz of).length := by simp [divL]
    have hne : (divL (gl tv.natAbs (bz of)) (bz of)).map (sg kd (bz of) * ·) ≠ [] := by
      intro h
      rw [h] at hlen
      exact hz (List.length_eq_zero_iff.1 hlen.symm)
    have hbz : bz ((divL (gl tv.natAbs (bz of)) (bz of)).map (sg kd (bz of) * ·)) = (divL (gl tv.natAbs (bz of)) (bz of)).map (sg kd (bz of) * ·) := by
      refine bz_id fun _ => ?_
      rw [hlen, map_getD (by simp)]
      unfold divL
      rw [map_getD (by simp)]
      obtain ⟨c, hc⟩ := hdv _ hmem
      rw [hc, Int.mul_ediv_cancel_left _ (by omega)]
      intro h
      have : c = 0 := by rcases hs with h' | h' <;> rw [h'] at h <;> omega
      rw [this] at hc
      exact hlast (by simpa using hc)
    have hgl : gl (sg kd (bz of) * (tv / (gl tv.natAbs (bz of) : Int))).natAbs ((divL (gl tv.natAbs (bz of)) (bz of)).map (sg kd (bz of) * ·)) = 1 := by
      rw [gl_sg hs]
      have : (sg kd (bz of) * (tv / (gl tv.natAbs (bz of) : Int))).natAbs = (tv / (gl tv.natAbs (bz of) : Int)).natAbs := by rcases hs with h' | h' <;> rw [h'] <;> simp
      rw [this]; exact hq
    have hsg : sg kd ((divL (gl tv.natAbs (bz of)) (bz of)).map (sg kd (bz of) * ·)) = 1 := by
      have hw : sg kd ((divL (gl tv.natAbs (bz of)) (bz of)).map (sg kd (bz of) * ·)) = if kd = 3 ∧ sg kd (bz of) * fnz (divL (gl tv.natAbs (bz of)) (bz of)) < 0 then -1 else 1 := by
        rw [← fnz_sg hs]; rfl
      rw [hw]
      rw [if_neg]
      rintro ⟨h3, hn⟩
      have h5 : sg kd (divL (gl tv.natAbs (bz of)) (bz of)) = sg kd (bz of) := hsd
      unfold sg at h5 hn
      by_cases hneg : fnz (divL (gl tv.natAbs (bz of)) (bz of)) < 0
      · by_cases hb : fnz (bz of) < 0
        · rw [if_pos ⟨h3, hb⟩] at hn; omega
        · rw [if_pos ⟨h3, hneg⟩, if_neg (fun h => hb h.2)] at h5; omega
      · by_cases hb : fnz (bz of) < 0
        · rw [if_neg (fun h => hneg h.2), if_pos ⟨h3, hb⟩] at h5; omega
        · rw [if_neg (fun h => hb h.2)] at hn; omega
    rw [tidyF_some (by rw [hbz]; exact hne), hbz, hgl, hsg]
    simp [divL]

/-! ### What is left is in its plainest form -/
structure Good (n k : Nat) (c : C) : Prop where
  kd : c.2.1 = 1 ∨ c.2.1 = 2 ∨ c.2.1 = 3
  len : c.1.length ≤ n
  of : Bd 1000000 c.1
  tv : -1000000 ≤ c.2.2 ∧ c.2.2 ≤ 1000000
  gone : c.1.getD k 0 = 0
  tidy : tidyF c.1 c.2.1 c.2.2 = (c.1, c.2.2)
theorem sg_bd {s x b : Int} (hs : s = 1 ∨ s = -1) (hx : -b ≤ x ∧ x ≤ b) : -b ≤ s * x ∧ s * x ≤ b := by rcases hs with rfl | rfl <;> omega
theorem tidyF_bd {of : List Int} {kd tv b : Int} (hb : Bd b of) (h1 : 1 ≤ b) (ht : -b ≤ tv ∧ tv ≤ b) : Bd b (tidyF of kd tv).1 ∧ -b ≤ (tidyF of kd tv).2 ∧ (tidyF of kd tv).2 ≤ b := by
  by_cases hz : bz of = []
  · rw [tidyF_none hz]
    have := noneF_b kd tv
    exact ⟨fun x hx => by simp at hx, by dsimp only; omega, by dsimp only; omega⟩
  · obtain ⟨x, hx, h0⟩ := bz_last hz
    have hgp := gl_pos (g := tv.natAbs) hx h0
    rw [tidyF_some hz]
    refine ⟨fun y hy => ?_, sg_bd (sg_or kd _) (div_bd (by omega) ht (by omega))⟩
    obtain ⟨z, hz1, rfl⟩ := List.mem_map.1 hy
    obtain ⟨w, hw, rfl⟩ := List.mem_map.1 hz1
    exact sg_bd (sg_or kd _) (div_bd (by omega) (bz_bd hb w hw) (by omega))
theorem tidyF_at {of : List Int} {kd tv : Int} {k : Nat} (h : of.getD k 0 = 0) : (tidyF of kd tv).1.getD k 0 = 0 := by
  by_cases hz : bz of = []
  · rw [tidyF_none hz]; simp
  · rw [tidyF_some hz]
    unfold divL
    rw [map_getD (by simp), map_getD (by simp), bz_at h]; simp
theorem good_first {n k : Nat} {r : R} (ok : OkR n r) (h : r.of.getD k 0 = 0) : Good n k (tidyC r) := by
  have hb := tidyF_bd (kd := r.kd) (tv := r.tv) ok.of (by omega) ok.tv
  have := tidyF_len r.of r.kd r.tv
  have := ok.len
  exact ⟨ok.kd, by show (tidyF r.of r.kd r.tv).1.length ≤ n; omega, hb.1, hb.2, tidyF_at h, tidyF_idem r.of r.kd r.tv⟩
theorem cL_at {n k : Nat} {a b : Bn} (ha : Up n k a) (hb : Dn n k b) (hk : k < n) : (cL a b k).getD k 0 = 0 := by
  obtain ⟨hg, _, _⟩ := pq ha hb
  have g1 := getD_get (l := a.of) (k := k) (by rw [ha.len]; exact hk)
  have g2 := getD_get (l := b.of) (k := k) (by rw [hb.len]; exact hk)
  have d1 : (cG a b k : Int) ∣ a.of.getD k 0 := Int.ofNat_dvd_left.2 (Nat.gcd_dvd_left _ _)
  have d2 : (cG a b k : Int) ∣ -(b.of.getD k 0) := Int.ofNat_dvd_left.2 (Nat.gcd_dvd_right _ _)
  have h1 : (cG a b k : Int) * cP a b k = a.of.getD k 0 := Int.mul_ediv_cancel' d1
  have h2 : (cG a b k : Int) * cQ a b k = -(b.of.getD k 0) := Int.mul_ediv_cancel' d2
  have hz : (cL a b k)[k]? = some (cQ a b k * a.of.getD k 0 + cP a b k * b.of.getD k 0) := by
    unfold cL
    rw [List.getElem?_zipWith, g1, g2]
  rw [List.getD_eq_getElem?_getD, hz, Option.getD_some, ← h1]
  have h3 : b.of.getD k 0 = -((cG a b k : Int) * cQ a b k) := by omega
  rw [h3]
  grind
theorem good_pair {n k : Nat} {a b : Bn} (hn : n ≤ 12) (hk : k < n) (ha : Up n k a) (hb : Dn n k b) (ho : cOk a b k = true) : Good n k (cC a b k) := by
  have hkd : cKd a b = 1 ∨ cKd a b = 2 := by unfold cKd; split <;> simp
  have hlen := cC_len (k := k) (b := b) ha.len
  have h0 := cL_at ha hb hk
  by_cases hz : bz (cL a b k) = []
  · have e1 : (cC a b k).1 = [] := by show divL _ (bz (cL a b k)) = []; rw [hz]; rfl
    have e2 : (cC a b k).2.2 = noneF (cKd a b) (clampF (cT a b k)) := by show mixT _ _ _ = _; unfold mixT; rw [if_pos hz]
    have hb := noneF_b (cKd a b) (clampF (cT a b k))
    refine ⟨by show cKd a b = 1 ∨ cKd a b = 2 ∨ cKd a b = 3; omega, hlen, (by rw [e1]; intro x hx; cases hx), (by rw [e2]; omega), (by rw [e1]; rfl), ?_⟩
    rw [e1, e2]
    show tidyF [] (cKd a b) _ = _
    rw [tidy_none, noneF_idem]
  · have hsg : sg (cKd a b) (bz (cL a b k)) = 1 := by unfold sg; rw [if_neg (by omega)]
    have e0 : tidyF (cL a b k) (cKd a b) (cT a b k) = (mixL (cL a b k) (cT a b k), mixT (cL a b k) (cKd a b) (cT a b k)) := by
      rw [tidyF_some hz, hsg]
      unfold mixL mixT mixG
      rw [if_neg hz]
      simp
    have hok : (fits' (cT a b k / (mixG (cL a b k) (cT a b k) : Int)) && (mixL (cL a b k) (cT a b k)).all fits') = true := by
      have : mixK (cL a b k) (cT a b k) = true := ho
      unfold mixK at this; rw [if_neg hz] at this; exact this
    rw [Bool.and_eq_true] at hok
    have hT : mixT (cL a b k) (cKd a b) (cT a b k) = cT a b k / (mixG (cL a b k) (cT a b k) : Int) := by unfold mixT; rw [if_neg hz]
    refine ⟨by show cKd a b = 1 ∨ cKd a b = 2 ∨ cKd a b = 3; omega, hlen, fun x hx => ?_, ?_, ?_, ?_⟩
    · have := List.all_eq_true.1 hok.2 x hx
      unfold fits' at this
      have := of_decide_eq_true this
      omega
    · have : fits' (cT a b k / (mixG (cL a b k) (cT a b k) : Int)) = true := hok.1
      unfold fits' at this
      have := of_decide_eq_true this
      show -1000000 ≤ mixT (cL a b k) (cKd a b) (cT a b k) ∧ mixT (cL a b k) (cKd a b) (cT a b k) ≤ 1000000
      rw [hT]; omega
    · have := tidyF_at (kd := cKd a b) (tv := cT a b k) h0
      rw [e0] at this
      exact this
    · have := tidyF_idem (cL a b k) (cKd a b) (cT a b k)
      rw [e0] at this
      exact this
theorem away_good {n k : Nat} (hn : n ≤ 12) (hk : k < n) {rows : List R} (hr : ∀ r ∈ rows, OkR n r) : ∀ c ∈ (awayF n k rows).2, Good n k c :=
  away_P (fun r h => good_first (hr r h)) (fun a ha b hb => good_pair hn hk (up_ok hk rows 0 hr a ha) (dn_ok hk rows 0 hr b hb))
theorem again {n k : Nat} : ∀ (rs : List R) (i : Nat), (∀ r ∈ rs, Good n k (toC r)) → firsts k rs = rs.map toC ∧ ups n k rs i = [] ∧ dns n k rs i = []
  | [], _, _ => ⟨rfl, rfl, rfl⟩
  | r :: rs, i, h => by
    have g := h r List.mem_cons_self
    have gz : r.of.getD k 0 = 0 := g.gone
    obtain ⟨a, b, c⟩ := again rs (i + 1) (fun r hr => h r (List.mem_cons_of_mem _ hr))
    have ht : tidyF r.of r.kd r.tv = (r.of, r.tv) := g.tidy
    have hu : upB n k i r = [] := by unfold upB; rw [if_neg (by omega), if_neg (by omega)]
    have hd : dnB n k i r = [] := by unfold dnB; rw [if_neg (by omega), if_neg (by omega)]
    refine ⟨?_, by rw [ups, hu, b]; rfl, by rw [dns, hd, c]; rfl⟩
    rw [firsts, if_pos gz, a, List.map_cons]
    congr 1
    show ((tidyF r.of r.kd r.tv).1, r.kd, (tidyF r.of r.kd r.tv).2) = _
    rw [ht]
theorem chkR_of {n : Nat} {r : R} (ok : OkR n r) : (chkR n r).1 = 0 := by
  unfold chkR
  have h1 := ok.kd
  have h2 := ok.len
  rw [if_neg (by omega), if_neg (by omega)]
  refine chkI_of fun x hx => ?_
  rcases List.mem_append.1 hx with hx | hx
  · exact ok.of x hx
  · rw [List.mem_singleton.1 hx]; exact ok.tv
theorem chkRs_of {n : Nat} : ∀ {rows : List R} {i : Nat}, (∀ r ∈ rows, OkR n r) → (chkRs n rows i).1 = 0
  | [], _, _ => rfl
  | r :: rows, i, h => by
    rw [chkRs, if_pos (chkR_of (h r List.mem_cons_self))]
    exact chkRs_of fun r hr => h r (List.mem_cons_of_mem _ hr)
theorem chkK_of {n k : Nat} {rows : List R} (hn : n ≤ 12) (hk : k < n) (hl : rows.length ≤ 40) (h : ∀ r ∈ rows, OkR n r) : (chkK (n : Int) (k : Int) rows).1 = 0 := by
  have h1 : (chkN (n : Int) rows).1 = 0 := by
    unfold chkN chkT
    rw [if_neg (by omega), if_neg (by omega), Int.toNat_natCast]
    exact chkRs_of h
  unfold chkK
  rw [if_pos h1, if_neg (by omega)]
theorem good_ok {n k : Nat} {r : R} (g : Good n k (toC r)) (he : r.e = true → r.of = []) : OkR n r := ⟨he, g.kd, g.len, g.of, g.tv⟩
end Go.Aev.Gen
