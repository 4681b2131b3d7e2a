import Derived.Test.YtobpninhnmmpeaaGreatAwayUpQ10
import Derived.Test.YtobpninhnmmpeaaGreatAwayUpQ4
import Derived.Test.YtobpninhnmmpeaaGreatAwayUpQ14
set_option linter.unusedSimpArgs false
set_option linter.unusedVariables false
namespace Go.Aev.Gen
open Go Go.Aev Go.Proofs

set_option maxRecDepth 1000000 in
theorem int_wt {n : Nat} {ts : List T} (h : Wt PROG (n + 1) 3 ts) : ∃ m : Int, ts = [ti m] := by
  have hu : PROG.underlying 3 = some (.int .i64) := Tryz.underlying3
  have h3 := @wt_int PROG n 3 ts .i64 hu h
  obtain ⟨m, h2, _⟩ := h3
  exact ⟨m, h2⟩
theorem cellsI : PROG.cellsOf 3 = 1 := by kernel_rfl
theorem cellsR : PROG.cellsOf 58 = 3 := by kernel_rfl
theorem cellsF : PROG.cellsOf 25 = 2 := by kernel_rfl
set_option maxRecDepth 1000000 in
theorem row_wt {n : Nat} {ts : List T} (h : Wt PROG (n + 3) 58 ts) : ∃ j : { r : R // r.e = true → r.of = [] }, ts = eR j.1 := by
  have hu := (Tryz.underlying58 : PROG.underlying 58 = _)
  have h1 := wt_struct hu h
  obtain ⟨a, b, rfl, g1, c, d, rfl, g2, e, f, rfl, g3, rfl⟩ := h1
  have hu2 := (Tryz.underlying56 : PROG.underlying 56 = _)
  obtain ⟨b, l, h2, h4, _⟩ := wt_list (fun z : Int => [ti z]) hu2 g1 (fun cs hc => int_wt hc)
  rw [cellsI] at h2
  subst h2
  obtain ⟨y, rfl⟩ := int_wt g2
  obtain ⟨z, rfl⟩ := int_wt g3
  exact ⟨⟨⟨b, l, y, z⟩, h4⟩, rfl⟩
set_option maxRecDepth 1000000 in
theorem frac_wt {n : Nat} {ts : List T} (h : Wt PROG (n + 2) 25 ts) : ∃ x : Fr, ts = [ti x.1, ti x.2] := by
  have hu := (Tryz.underlying25 : PROG.underlying 25 = _)
  have h1 := wt_struct hu h
  obtain ⟨a, b, rfl, g1, c, d, rfl, g2, rfl⟩ := h1
  obtain ⟨y, rfl⟩ := int_wt g1
  obtain ⟨z, rfl⟩ := int_wt g2
  exact ⟨(y, z), rfl⟩
set_option maxRecDepth 1000000 in
theorem rows_arg {n : Nat} {a : AV} (h : (isAggT PROG 22 = true ∧ ∃ l, Wt PROG (n + 4) 22 l ∧ a = .agg (l.map .t)) ∨ (isAggT PROG 22 = false ∧ ∃ x, Wt PROG (n + 4) 22 [x] ∧ a = .t x)) : ∃ e l, a = LR e l ∧ (∀ r ∈ l, r.e = true → r.of = []) := by
  obtain ⟨x, h1, rfl⟩ := arg_one h (by kernel_rfl)
  have hu := (Tryz.underlying22 : PROG.underlying 22 = _)
  obtain ⟨b, l, h2, _⟩ := wt_list (fun j : { r : R // r.e = true → r.of = [] } => eR j.1) hu h1 (fun cs hc => row_wt hc)
  rw [cellsR] at h2
  simp only [List.cons.injEq, and_true] at h2
  subst h2
  refine ⟨b, l.map (·.1), ?_, fun r hr => ?_⟩
  · simp only [LR, eRs, List.map_map]; rfl
  · obtain ⟨j, _, rfl⟩ := List.mem_map.1 hr
    exact j.2
set_option maxRecDepth 1000000 in
theorem fracs_arg {n : Nat} {a : AV} (h : (isAggT PROG 23 = true ∧ ∃ l, Wt PROG (n + 4) 23 l ∧ a = .agg (l.map .t)) ∨ (isAggT PROG 23 = false ∧ ∃ x, Wt PROG (n + 4) 23 [x] ∧ a = .t x)) : ∃ e l, a = LN e l ∧ (e = true → l = []) := by
  obtain ⟨x, h1, rfl⟩ := arg_one h (by kernel_rfl)
  have hu := (Tryz.underlying23 : PROG.underlying 23 = _)
  obtain ⟨b, l, h2, h4, _⟩ := wt_list (fun x : Fr => [ti x.1, ti x.2]) hu h1 (fun cs hc => frac_wt (n := n + 1) hc)
  rw [cellsF] at h2
  simp only [List.cons.injEq, and_true] at h2
  subst h2
  exact ⟨b, l, rfl, h4⟩
set_option maxRecDepth 1000000 in
theorem int_arg {n : Nat} {a : AV} (h : (isAggT PROG 3 = true ∧ ∃ l, Wt PROG (n + 1) 3 l ∧ a = .agg (l.map .t)) ∨ (isAggT PROG 3 = false ∧ ∃ x, Wt PROG (n + 1) 3 [x] ∧ a = .t x)) : ∃ m, a = I m := by
  obtain ⟨x, h1, rfl⟩ := arg_one h (by kernel_rfl)
  obtain ⟨m, h2⟩ := int_wt h1
  simp only [List.cons.injEq, and_true] at h2
  subst h2
  exact ⟨m, rfl⟩
end Go.Aev.Gen
namespace Go.Aev.Wd.Lg
open Go Go.Aev Go.Aev.Gen Go.Aev.Wd

theorem two_ex (h l : Rat) (p q : Bool) : ∃ a b c d, two h l p q = [ti a, ti b, ti c, ti d] := by
  unfold two
  split
  · exact ⟨_, _, _, _, rfl⟩
  · exact frac_ex _
theorem back_ex (k : Nat) (nums : List Fr) : ∀ us ds : List Bn, ∃ a b c d, backF k nums us ds = [ti a, ti b, ti c, ti d]
  | [], [] => ⟨_, _, _, _, rfl⟩
  | u :: us, [] => frac_ex _
  | [], d :: ds => frac_ex _
  | u :: us, d :: ds => two_ex _ _ _ _
abbrev bx (a b : Int) : Blk := Blk.box [I a, I b]
theorem n3x (rows : List R) (e en : Bool) (n k : Int) (nums : List Fr) (c d i : Int) (hc : c ≠ 0) :
    Or Kq3n11 [LR e rows, I n, I k, LN en nums, r0, AV.ref (Id.c 1) 0, AV.ref (Id.c 2) 0, I i] [bx 0 0, bx c d, bx c d] = some [tb true] := by
  have hcb : (c == 0) = false := by simpa using hc
  refine orc_of ?_
  rw [eq3n11]
  by_cases h1 : i < (nums.length : Int)
  · simp only [STL, ↓reduceIte, Int.reduceBEq, Int.reduceEq, encF_len, h1, hc, hcb]
    try rfl
  · simp only [STL, ↓reduceIte, Int.reduceBEq, Int.reduceEq, encF_len, h1, hc, hcb]
    try rfl
theorem n3 (rows : List R) (e en : Bool) (n k : Int) (nums : List Fr) (hl : nums.length ≤ 12) (a b c d w : Int)
    (h5 : ∀ j, nmF k nums 0 = some j → a = 0 ∧ b = 0 ∧ c = 5 ∧ d = j)
    (h10 : nmF k nums 0 = none → Or (.call 10) [LR e rows, I n, I k, LN en nums] [] = some [ti a, ti b, ti c, ti d]) :
    ∀ (rest : List Fr) (i : Nat), nums.drop i = rest → nmF k nums 0 = nmF k rest (i : Int) →
    Or Kq3n11 [LR e rows, I n, I k, LN en nums, r0, AV.ref (Id.c 1) 0, AV.ref (Id.c 2) 0, I (i : Int)] [bx a b, bx c d, bx 0 w] = some [tb true] := by
  intro rest
  induction rest with
  | nil =>
    intro i h hf
    have h1 : ¬ (i : Int) < (nums.length : Int) := by have := at_end h; omega
    have := h10 hf
    refine orc_of ?_
    rw [eq3n11]
    simp only [STL, ↓reduceIte, Int.reduceBEq, Int.reduceEq, encF_len, h1, this]
    try rfl
  | cons x rest ih =>
    intro i h hf
    obtain ⟨g1, g2, g3⟩ := at_drop h
    have h1 : (i : Int) < (nums.length : Int) := by omega
    have h0 : 0 ≤ (i : Int) := by omega
    have k1 := s9f x
    have k8 := Gen.s8 5 (i : Int)
    have hcast : ((i : Int) + 1) = ((i + 1 : Nat) : Int) := by omega
    by_cases hk : (i : Int) = k
    · have hm : nmF k (x :: rest) (i : Int) = nmF k rest ((i + 1 : Nat) : Int) := by rw [nmF, if_neg (fun h => h.1 hk), hcast]
      rw [hm] at hf
      have := ih (i + 1) g3 hf
      subst hk
      refine orc_of ?_
      rw [eq3n11]
      simp only [STL, ↓reduceIte, Int.reduceBEq, Int.reduceEq, gdF, h1, h0, and_self, encF_len, encF_get g1, k1, Bool.not_true, next i (by omega)]
      exact this
    · have hkb : ((i : Int) == k) = false := by simpa using hk
      by_cases hr : FrR x
      · have hm : nmF k (x :: rest) (i : Int) = nmF k rest ((i + 1 : Nat) : Int) := by rw [nmF, if_neg (fun h => h.2 hr), hcast]
        rw [hm] at hf
        have := ih (i + 1) g3 hf
        rw [decide_eq_true hr] at k1
        refine orc_of ?_
        rw [eq3n11]
        simp only [STL, ↓reduceIte, Int.reduceBEq, Int.reduceEq, h1, h0, and_self, encF_len, encF_get g1, hkb, k1, next i (by omega)]
        exact this
      · have hm : nmF k (x :: rest) (i : Int) = some (i : Int) := by rw [nmF, if_pos ⟨hk, hr⟩]
        rw [hm] at hf
        obtain ⟨rfl, rfl, rfl, rfl⟩ := h5 _ hf
        rw [decide_eq_false hr] at k1
        have := n3x rows e en n k nums 5 (i : Int) ((i + 1 : Nat) : Int) (by omega)
        refine orc_of ?_
        rw [eq3n11]
        simp only [STL, ↓reduceIte, Int.reduceBEq, Int.reduceEq, h1, h0, and_self, encF_len, encF_get g1, hkb, k1, k8, next i (by omega)]
        exact this
end Go.Aev.Wd.Lg
namespace Go.Aev.Gen
open Go Go.Aev Go.Proofs
end Go.Aev.Gen
namespace Go.Aev.Wd.Lg
open Go Go.Aev Go.Aev.Gen Go.Aev.Wd

theorem dot_set (v : Rat) : ∀ (of : List Int) (xs : List Rat) (k : Nat) (y : Rat), xs[k]? = some y → dotQ of (xs.set k v) = dotQ of xs + (v - y) * ((of.getD k 0 : Int) : Rat)
  | [], xs, k, y, h => by
    have h1 : (([] : List Int).getD k 0 : Int) = 0 := by simp
    have h0 : ((0 : Int) : Rat) = 0 := rfl
    rw [dot_nil, dot_nil, h1, h0]; grind
  | c :: of, [], k, y, h => by simp at h
  | c :: of, x :: xs, 0, y, h => by
    simp only [List.getElem?_cons_zero, Option.some.injEq] at h
    subst h
    have h1 : ((c :: of).getD 0 0 : Int) = c := rfl
    rw [List.set_cons_zero, dotQ, dotQ, h1]; grind
  | c :: of, x :: xs, k + 1, y, h => by
    have ih := dot_set v of xs k y (by simpa using h)
    have h1 : ((c :: of).getD (k + 1) 0 : Int) = of.getD k 0 := by simp
    rw [List.set_cons_succ, dotQ, dotQ, ih, h1]; grind
theorem rs_dot (k : Nat) : ∀ (of : List Int) (xs : List Fr) (i : Nat) (acc : Rat), (∀ j x, xs[j]? = some x → i + j = k → frQ x = 0) → rsQ k of xs i acc = acc - dotQ of (xs.map frQ)
  | [], xs, i, acc, _ => by
    have h1 : rsQ k [] xs i acc = acc := by cases xs <;> rfl
    rw [h1, dot_nil]; grind
  | c :: of, [], i, acc, _ => by
    show acc = acc - 0
    grind
  | c :: of, x :: xs, i, acc, h => by
    have ih := fun acc => rs_dot k of xs (i + 1) acc (fun j x hj hk => h (j + 1) x (by simpa using hj) (by omega))
    rw [rsQ, ih, List.map_cons, dotQ]
    by_cases hi : i = k
    · have := h 0 x rfl (by omega)
      rw [if_pos hi, this]; grind
    · rw [if_neg hi]; grind
theorem frQ01 : frQ ((0, 1) : Fr) = 0 := by
  unfold frQ
  exact Rat.zero_divInt 1
/-- The number that a bound leaves, where the others stand so. -/
def bv (k : Nat) (X : List Rat) (b : Bn) : Rat := ((b.to : Rat) - dotQ b.of X) / ((b.of.getD k 0 : Int) : Rat)
theorem bq_bv (k : Nat) (nums : List Fr) (b : Bn) : bq b.of b.to k nums = bv k ((nums.set k ((0, 1) : Fr)).map frQ) b := by
  rw [← bq_set b.of b.to k nums (0, 1)]
  unfold bq bv
  rw [rs_dot]
  intro j x hj hk
  have : j = k := by omega
  subst this
  rw [List.getElem?_set] at hj
  simp at hj
  rw [← hj.2]
  exact frQ01
theorem bv_mul {k : Nat} {X : List Rat} {b : Bn} (h : ((b.of.getD k 0 : Int) : Rat) ≠ 0) : bv k X b * ((b.of.getD k 0 : Int) : Rat) = (b.to : Rat) - dotQ b.of X := by
  unfold bv
  rw [Rat.div_def, Rat.mul_assoc, Rat.inv_mul_cancel _ h, Rat.mul_one]
theorem pos_ne {c : Rat} (h : 0 < c) : c ≠ 0 := fun e => by rw [e] at h; exact absurd h Rat.lt_irrefl
theorem neg_cast {c : Int} (h : c < 0) : 0 < -((c : Int) : Rat) := by
  have := cast_pos (g := -c) (by omega)
  rwa [Rat.intCast_neg] at this
theorem bh_up {k : Nat} {X : List Rat} {b : Bn} {v : Rat} (hX : X[k]? = some 0) (hp : b.of.getD k 0 > 0) (h : v ≤ bv k X b) (hs : b.less = true → v < bv k X b) : BH b (X.set k v) := by
  have hc := cast_pos hp
  have hm := bv_mul (k := k) (X := X) (b := b) (pos_ne hc)
  have hd := dot_set v b.of X k 0 hX
  unfold BH
  rw [hd]
  generalize bv k X b = q at *
  generalize ((b.of.getD k 0 : Int) : Rat) = c at *
  refine ⟨?_, fun hl => ?_⟩
  · have := Rat.mul_le_mul_of_nonneg_left h (Rat.le_of_lt hc)
    grind
  · have := Rat.mul_lt_mul_of_pos_left (hs hl) hc
    grind
theorem bh_dn {k : Nat} {X : List Rat} {b : Bn} {v : Rat} (hX : X[k]? = some 0) (hp : b.of.getD k 0 < 0) (h : bv k X b ≤ v) (hs : b.less = true → bv k X b < v) : BH b (X.set k v) := by
  have hc := neg_cast hp
  have hne : ((b.of.getD k 0 : Int) : Rat) ≠ 0 := fun e => by rw [e] at hc; exact absurd hc (by decide)
  have hm := bv_mul (k := k) (X := X) (b := b) hne
  have hd := dot_set v b.of X k 0 hX
  unfold BH
  rw [hd]
  generalize bv k X b = q at *
  generalize ((b.of.getD k 0 : Int) : Rat) = c at *
  refine ⟨?_, fun hl => ?_⟩
  · have := Rat.mul_le_mul_of_nonneg_left h (Rat.le_of_lt hc)
    grind
  · have := Rat.mul_lt_mul_of_pos_left (hs hl) hc
    grind
theorem pair_bv {n k : Nat} {a b : Bn} {X : List Rat} (ha : Up n k a) (hb : Dn n k b) (h : holdC (cC a b k) X) : bv k X b ≤ bv k X a ∧ ((a.less || b.less) = true → bv k X b < bv k X a) := by
  obtain ⟨hg, _, _⟩ := pq ha hb
  have d1 : (cG a b k : Int) ∣ a.of.getD k 0 := Int.ofNat_dvd_left.2 (Nat.gcd_dvd_left _ _)
  have e1 : (cG a b k : Int) * cP a b k = a.of.getD k 0 := Int.mul_ediv_cancel' d1
  have d2 : (cG a b k : Int) ∣ -(b.of.getD k 0) := Int.ofNat_dvd_left.2 (Nat.gcd_dvd_right _ _)
  have e2 : (cG a b k : Int) * cQ a b k = -(b.of.getD k 0) := Int.mul_ediv_cancel' d2
  have hA := ha.at'
  have hB := hb.at'
  have hP : 0 < cP a b k := by
    have := hA
    rw [← e1] at this
    rw [gt_iff_lt, Int.mul_comm] at this
    exact Int.pos_of_mul_pos_left this hg
  have hQ : 0 < cQ a b k := by
    have h4 : 0 < (cG a b k : Int) * cQ a b k := by rw [e2]; omega
    rw [Int.mul_comm] at h4
    exact Int.pos_of_mul_pos_left h4 hg
  have hsum : dotQ (cL a b k) X = (cQ a b k : Rat) * dotQ a.of X + (cP a b k : Rat) * dotQ b.of X := dot_zip _ _ _ _ _ (by rw [ha.len, hb.len])
  have hT : (cT a b k : Rat) = (cQ a b k : Rat) * (a.to : Rat) + (cP a b k : Rat) * (b.to : Rat) := by unfold cT; rw [Rat.intCast_add, Rat.intCast_mul, Rat.intCast_mul]
  have hkd : (cC a b k).2.1 = if (a.less || b.less) = true then 2 else 1 := rfl
  have hmain : dotQ (cL a b k) X ≤ (cT a b k : Rat) ∧ ((a.less || b.less) = true → dotQ (cL a b k) X < (cT a b k : Rat)) := by
    by_cases hz : bz (cL a b k) = []
    · have h0 : dotQ (cL a b k) X = 0 := by rw [← dot_bz, hz, dot_nil]
      have f1 : (cC a b k).1 = [] := by show divL _ (bz (cL a b k)) = []; rw [hz]; rfl
      have f2 : (cC a b k).2.2 = noneF (cKd a b) (clampF (cT a b k)) := by show mixT _ _ _ = _; unfold mixT; rw [if_pos hz]
      unfold holdC at h
      rw [f1, dot_nil, f2, hkd] at h
      rw [h0]
      have c0 : ∀ m : Int, ((0 : Rat) < (m : Rat) ↔ 0 < m) := fun m => by
        have : ((0 : Int) : Rat) < (m : Rat) ↔ 0 < m := Rat.intCast_lt_intCast
        exact this
      have c1 : ∀ m : Int, ((0 : Rat) = (m : Rat) ↔ 0 = m) := fun m => by
        have : ((0 : Int) : Rat) = (m : Rat) ↔ 0 = m := Rat.intCast_inj
        exact this
      have c2 : ∀ m : Int, ((0 : Rat) ≤ (m : Rat) ↔ 0 ≤ m) := fun m => by
        have : ((0 : Int) : Rat) ≤ (m : Rat) ↔ 0 ≤ m := Rat.intCast_le_intCast
        exact this
      rw [c0, c1] at h
      rw [c2, c0]
      unfold cKd noneF clampF at h
      by_cases hls : (a.less || b.less) = true
      · simp only [hls, if_true] at h
        have : 0 < cT a b k := by
          rcases h with ⟨h, _⟩ | ⟨_, h⟩
          · simp at h
            split at h <;> omega
          · exact absurd rfl h
        exact ⟨by omega, fun _ => this⟩
      · simp only [hls] at h
        have : 0 ≤ cT a b k := by
          rcases h with ⟨h, _⟩ | ⟨h, _⟩
          · simp at h
            omega
          · simp at h
            omega
        exact ⟨this, fun h => absurd h hls⟩
    · obtain ⟨x, hx, h0⟩ := bz_last hz
      have hgp := gl_pos (g := (cT a b k).natAbs) hx h0
      have hG : (0 : Int) < (mixG (cL a b k) (cT a b k) : Int) := by unfold mixG; omega
      have hdv : ∀ x ∈ bz (cL a b k), (mixG (cL a b k) (cT a b k) : Int) ∣ x := fun x hx => gl_dvd hx
      have hdt : (mixG (cL a b k) (cT a b k) : Int) ∣ cT a b k := Int.ofNat_dvd_left.2 (gl_dvd0 _ _)
      have j1 := dot_div X hdv
      rw [dot_bz] at j1
      have j2 := cast_div hdt
      have f1 : (cC a b k).1 = divL (mixG (cL a b k) (cT a b k) : Int) (bz (cL a b k)) := rfl
      have f2 : (cC a b k).2.2 = cT a b k / (mixG (cL a b k) (cT a b k) : Int) := by show mixT _ _ _ = _; unfold mixT; rw [if_neg hz]
      unfold holdC at h
      rw [f1, f2, hkd] at h
      rw [← j1, ← j2]
      rcases h with ⟨h, _⟩ | ⟨h, h2⟩
      · have := (scale hG).2 h
        exact ⟨Rat.le_of_lt this, fun _ => this⟩
      · rw [h]
        refine ⟨Rat.le_refl, fun hls => ?_⟩
        rw [if_pos hls] at h2
        exact absurd rfl h2
  rw [hsum, hT] at hmain
  have hg' := cast_pos hg
  have hP' := cast_pos hP
  have hQ' := cast_pos hQ
  have m1 := bv_mul (k := k) (X := X) (b := a) (pos_ne (cast_pos hA))
  have hcn := neg_cast hB
  have m2 := bv_mul (k := k) (X := X) (b := b) (fun e => by rw [e] at hcn; exact absurd hcn (by decide))
  have eA : ((a.of.getD k 0 : Int) : Rat) = ((cG a b k : Nat) : Int) * (cP a b k : Rat) := by rw [← e1, Rat.intCast_mul]
  have eB : ((b.of.getD k 0 : Int) : Rat) = -((((cG a b k : Nat) : Int) : Rat) * (cQ a b k : Rat)) := by
    rw [← Rat.intCast_mul, ← Rat.intCast_neg]; congr 1; omega
  rw [eA] at m1
  rw [eB] at m2
  have hK : (0 : Rat) < (((cG a b k : Nat) : Int) : Rat) * (cP a b k : Rat) * (cQ a b k : Rat) := Rat.mul_pos (Rat.mul_pos hg' hP') hQ'
  generalize bv k X a = x at *
  generalize bv k X b = y at *
  generalize (((cG a b k : Nat) : Int) : Rat) = G at *
  generalize (cP a b k : Rat) = P at *
  generalize (cQ a b k : Rat) = Q at *
  have key : G * P * Q * (x - y) = (Q * (a.to : Rat) + P * (b.to : Rat)) - (Q * dotQ a.of X + P * dotQ b.of X) := by grind
  refine ⟨?_, fun hls => ?_⟩
  · refine Rat.le_of_mul_le_mul_left (c := G * P * Q) ?_ hK
    have := hmain.1
    grind
  · refine (Rat.mul_lt_mul_left hK).1 ?_
    have := hmain.2 hls
    grind
theorem up_frm {n k : Nat} : ∀ (rows : List R) (i : Nat), ∀ b ∈ ups n k rows i, (i : Int) ≤ b.frm
  | [], _, b, h => by simp [ups] at h
  | r :: rs, i, b, h => by
    rw [ups] at h
    rcases List.mem_append.1 h with h | h
    · unfold upB at h
      split at h
      · rw [List.mem_singleton] at h; subst h; exact Int.le_refl _
      · split at h
        · rw [List.mem_singleton] at h; subst h; exact Int.le_refl _
        · cases h
    · have := up_frm rs (i + 1) b h; omega
theorem dn_frm {n k : Nat} : ∀ (rows : List R) (i : Nat), ∀ b ∈ dns n k rows i, (i : Int) ≤ b.frm
  | [], _, b, h => by simp [dns] at h
  | r :: rs, i, b, h => by
    rw [dns] at h
    rcases List.mem_append.1 h with h | h
    · unfold dnB at h
      split at h
      · rw [List.mem_singleton] at h; subst h; exact Int.le_refl _
      · split at h
        · rw [List.mem_singleton] at h; subst h; exact Int.le_refl _
        · cases h
    · have := dn_frm rs (i + 1) b h; omega
theorem upB_frm {n k i : Nat} {r : R} {b : Bn} (h : b ∈ upB n k i r) : b.frm = (i : Int) := by
  unfold upB at h
  split at h
  · rw [List.mem_singleton] at h; subst h; rfl
  · split at h
    · rw [List.mem_singleton] at h; subst h; rfl
    · cases h
theorem dnB_frm {n k i : Nat} {r : R} {b : Bn} (h : b ∈ dnB n k i r) : b.frm = (i : Int) := by
  unfold dnB at h
  split at h
  · rw [List.mem_singleton] at h; subst h; rfl
  · split at h
    · rw [List.mem_singleton] at h; subst h; rfl
    · cases h
def Opp (a b : Bn) : Prop := ((a.of = negL b.of ∧ a.to = -b.to) ∨ (b.of = negL a.of ∧ b.to = -a.to)) ∧ a.less = false ∧ b.less = false
theorem same_row {n k : Nat} : ∀ (rows : List R) (i : Nat), ∀ a ∈ ups n k rows i, ∀ b ∈ dns n k rows i, a.frm = b.frm → Opp a b
  | [], _, a, ha, _, _, _ => by simp [ups] at ha
  | r :: rs, i, a, ha, b, hb, h => by
    rw [ups] at ha
    rw [dns] at hb
    rcases List.mem_append.1 ha with ha | ha
    · rcases List.mem_append.1 hb with hb | hb
      · unfold upB at ha
        unfold dnB at hb
        by_cases hp : r.of.getD k 0 > 0
        · rw [if_pos hp, List.mem_singleton] at ha
          rw [if_neg (by omega)] at hb
          split at hb
          · rename_i h3
            rw [List.mem_singleton] at hb
            subst ha hb
            exact ⟨.inr ⟨rfl, rfl⟩, by rw [h3.2]; rfl, rfl⟩
          · cases hb
        · rw [if_neg hp] at ha
          split at ha
          · rename_i h3
            rw [if_pos h3.1, List.mem_singleton] at hb
            rw [List.mem_singleton] at ha
            subst ha hb
            exact ⟨.inl ⟨rfl, rfl⟩, rfl, by rw [h3.2]; rfl⟩
          · cases ha
      · have h1 := upB_frm ha
        have h2 := dn_frm rs (i + 1) b hb
        omega
    · rcases List.mem_append.1 hb with hb | hb
      · have h1 := dnB_frm hb
        have h2 := up_frm rs (i + 1) a ha
        omega
      · exact same_row rs (i + 1) a ha b hb h
theorem opp_bv {k : Nat} {a b : Bn} {X : List Rat} (h : Opp a b) (hA : a.of.getD k 0 > 0) : bv k X b = bv k X a := by
  have gen : ∀ p q : Bn, q.of = negL p.of → q.to = -p.to → p.of.getD k 0 ≠ 0 → bv k X q = bv k X p := by
    intro p q h1 h2 h0
    have hk : q.of.getD k 0 = -(p.of.getD k 0) := by rw [h1, negL_at]
    have c0 : ((p.of.getD k 0 : Int) : Rat) ≠ 0 := fun e => h0 (Rat.intCast_eq_zero_iff.1 e)
    have c1 : ((q.of.getD k 0 : Int) : Rat) = -((p.of.getD k 0 : Int) : Rat) := by rw [hk, Rat.intCast_neg]
    have m1 := bv_mul (k := k) (X := X) (b := p) c0
    have m2 := bv_mul (k := k) (X := X) (b := q) (by rw [c1]; intro e; apply c0; grind)
    rw [c1, h1, dot_neg, h2, Rat.intCast_neg] at m2
    generalize bv k X p = x at *
    generalize bv k X q = y at *
    generalize ((p.of.getD k 0 : Int) : Rat) = c at *
    grind
  rcases h.1 with ⟨h1, h2⟩ | ⟨h1, h2⟩
  · have : b.of.getD k 0 ≠ 0 := by
      have := hA
      rw [h1, negL_at] at this; omega
    exact (gen b a h1 h2 this).symm
  · exact gen a b h1 h2 (by omega)
theorem inn_mem {k : Nat} {a : Bn} : ∀ (ls : List Bn) (acc : List C), (innF k a ls acc).1 = 0 → (∀ c ∈ acc, c ∈ (innF k a ls acc).2) ∧ ∀ b ∈ ls, a.frm ≠ b.frm → cC a b k ∈ (innF k a ls acc).2
  | [], acc, _ => ⟨fun c h => h, fun b h => by cases h⟩
  | b :: ls, acc, h => by
    rw [innF] at h ⊢
    by_cases h1 : a.frm = b.frm
    · rw [if_pos h1] at h ⊢
      obtain ⟨i1, i2⟩ := inn_mem ls acc h
      refine ⟨i1, fun c hc hn => ?_⟩
      rcases List.mem_cons.1 hc with rfl | hc
      · exact absurd h1 hn
      · exact i2 c hc hn
    · rw [if_neg h1] at h ⊢
      by_cases h2 : cOk a b k = false
      · rw [if_pos h2] at h; cases h
      · rw [if_neg h2] at h ⊢
        by_cases h3 : acc.length + 1 > 40
        · rw [if_pos h3] at h; cases h
        · rw [if_neg h3] at h ⊢
          obtain ⟨i1, i2⟩ := inn_mem ls (acc ++ [cC a b k]) h
          refine ⟨fun c hc => i1 c (List.mem_append_left _ hc), fun c hc hn => ?_⟩
          rcases List.mem_cons.1 hc with rfl | hc
          · exact i1 _ (List.mem_append_right _ (List.mem_singleton.2 rfl))
          · exact i2 c hc hn
theorem out_mem {k : Nat} (ls : List Bn) : ∀ (hs : List Bn) (acc : List C), (outF k ls hs acc).1 = 0 → (∀ c ∈ acc, c ∈ (outF k ls hs acc).2) ∧ ∀ a ∈ hs, ∀ b ∈ ls, a.frm ≠ b.frm → cC a b k ∈ (outF k ls hs acc).2
  | [], acc, _ => ⟨fun c h => h, fun a h => by cases h⟩
  | a :: hs, acc, h => by
    rw [outF] at h ⊢
    by_cases h1 : (innF k a ls acc).1 = 0
    · rw [if_pos h1] at h ⊢
      obtain ⟨i1, i2⟩ := inn_mem ls acc h1
      obtain ⟨o1, o2⟩ := out_mem ls hs _ h
      refine ⟨fun c hc => o1 c (i1 c hc), fun x hx b hb hn => ?_⟩
      rcases List.mem_cons.1 hx with rfl | hx
      · exact o1 _ (i2 b hb hn)
      · exact o2 x hx b hb hn
    · rw [if_neg h1] at h
      exact absurd h h1
theorem firsts_mem {k : Nat} : ∀ (rows : List R), ∀ r ∈ rows, r.of.getD k 0 = 0 → tidyC r ∈ firsts k rows
  | [], r, h, _ => by cases h
  | q :: rs, r, h, h0 => by
    rw [firsts]
    rcases List.mem_cons.1 h with rfl | h
    · rw [if_pos h0]; exact List.mem_cons_self
    · have := firsts_mem rs r h h0
      split
      · exact List.mem_cons_of_mem _ this
      · exact this
theorem bst_ex {w : Int} {k : Nat} {nums : List Fr} : ∀ (bs : List Bn) (q : Rat), bst w k nums bs q = q ∨ ∃ c ∈ bs, bq c.of c.to k nums = bst w k nums bs q
  | [], q => .inl rfl
  | b :: bs, q => by
    rw [bst]
    split
    · rcases bst_ex (w := w) (k := k) (nums := nums) bs (bq b.of b.to k nums) with h | ⟨c, hc, h⟩
      · exact .inr ⟨b, List.mem_cons_self, h.symm⟩
      · exact .inr ⟨c, List.mem_cons_of_mem _ hc, h⟩
    · rcases bst_ex (w := w) (k := k) (nums := nums) bs q with h | ⟨c, hc, h⟩
      · exact .inl h
      · exact .inr ⟨c, List.mem_cons_of_mem _ hc, h⟩
theorem btr_le {w : Int} {a b c : Rat} (h1 : ¬ btr w a b) (h2 : ¬ btr w b c) : ¬ btr w a c := by
  unfold btr at *
  split
  · rename_i h
    rw [if_pos h] at h1 h2
    exact Rat.not_lt.2 (Rat.le_trans (Rat.not_lt.1 h2) (Rat.not_lt.1 h1))
  · rename_i h
    rw [if_neg h] at h1 h2
    exact Rat.not_lt.2 (Rat.le_trans (Rat.not_lt.1 h1) (Rat.not_lt.1 h2))
theorem bst_all {w : Int} {k : Nat} {nums : List Fr} : ∀ (bs : List Bn) (q : Rat), ∀ c ∈ bs, ¬ btr w (bq c.of c.to k nums) (bst w k nums bs q)
  | [], _, c, h => by cases h
  | b :: bs, q, c, h => by
    rw [bst]
    rcases List.mem_cons.1 h with rfl | h
    · split
      · exact bst_le bs _
      · rename_i hn
        exact btr_le hn (bst_le bs q)
    · split
      · exact bst_all bs _ c h
      · exact bst_all bs _ c h
theorem tgt_spec {w : Int} (hw : w = 1 ∨ w = -1) (k : Nat) (nums : List Fr) (u : Bn) (us : List Bn) :
    (∀ c ∈ u :: us, ¬ btr w (bq c.of c.to k nums) (tgt w k nums u us).1) ∧ (∃ c ∈ u :: us, bq c.of c.to k nums = (tgt w k nums u us).1) ∧ ((tgt w k nums u us).2 = true ↔ ∃ c ∈ u :: us, c.less = true ∧ bq c.of c.to k nums = (tgt w k nums u us).1) := by
  obtain ⟨t1, t2⟩ := tg_bst (w := w) (k := k) (nums := nums) hw us (bq u.of u.to k nums) u.less
  have e1 : (tgt w k nums u us).1 = bst w k nums us (bq u.of u.to k nums) := t1
  have e2 : (tgt w k nums u us).2 = lsF k nums (bst w k nums us (bq u.of u.to k nums)) (u :: us) := t2
  rw [e1, e2]
  refine ⟨fun c hc => ?_, ?_, ?_⟩
  · rcases List.mem_cons.1 hc with rfl | hc
    · exact bst_le us _
    · exact bst_all us _ c hc
  · rcases bst_ex (w := w) (k := k) (nums := nums) us (bq u.of u.to k nums) with h | ⟨c, hc, h⟩
    · exact ⟨u, List.mem_cons_self, h.symm⟩
    · exact ⟨c, List.mem_cons_of_mem _ hc, h⟩
  · unfold lsF
    rw [List.any_eq_true]
    simp only [Bool.and_eq_true, decide_eq_true_eq]
theorem up_spec (k : Nat) (nums : List Fr) (u : Bn) (us : List Bn) : (∀ c ∈ u :: us, (tgt 1 k nums u us).1 ≤ bq c.of c.to k nums) := fun c hc => by
  have := (tgt_spec (w := 1) (.inl rfl) k nums u us).1 c hc
  unfold btr at this
  rw [if_pos rfl] at this
  exact Rat.not_lt.1 this
theorem dn_spec (k : Nat) (nums : List Fr) (u : Bn) (us : List Bn) : (∀ c ∈ u :: us, bq c.of c.to k nums ≤ (tgt (-1) k nums u us).1) := fun c hc => by
  have := (tgt_spec (w := -1) (.inr rfl) k nums u us).1 c hc
  unfold btr at this
  rw [if_neg (by decide)] at this
  exact Rat.not_lt.1 this
theorem frac0 : fracF 0 = [ti 0, ti 1, ti 0, ti 0] := frac_y (by decide)
theorem one_cast : ((1 : Int) : Rat) = 1 := rfl
theorem two_cast : ((2 : Int) : Rat) = 2 := rfl
theorem back_v (k : Nat) (nums : List Fr) (X : List Rat) (hX : X[k]? = some 0) (hq : ∀ b : Bn, bq b.of b.to k nums = bv k X b) : ∀ (us ds : List Bn), (∀ a ∈ us, a.of.getD k 0 > 0) → (∀ b ∈ ds, b.of.getD k 0 < 0) →
    (∀ a ∈ us, ∀ b ∈ ds, bv k X b ≤ bv k X a ∧ ((a.less || b.less) = true → bv k X b < bv k X a)) →
    ∃ v, backF k nums us ds = fracF v ∧ (∀ a ∈ us, BH a (X.set k v)) ∧ ∀ b ∈ ds, BH b (X.set k v)
  | [], [], _, _, _ => ⟨0, frac0.symm, (fun a h => by cases h), fun a h => by cases h⟩
  | u :: us, [], hu, _, _ => by
    refine ⟨_, rfl, fun a h => ?_, fun a h => by cases h⟩
    have := up_spec k nums u us a h
    rw [hq] at this
    have hlt : (tgt 1 k nums u us).1 - ((1 : Int) : Rat) < bv k X a := by rw [one_cast]; grind
    exact bh_up hX (hu a h) (Rat.le_of_lt hlt) fun _ => hlt
  | [], d :: ds, _, hd, _ => by
    refine ⟨_, rfl, (fun a h => by cases h), fun a h => ?_⟩
    have := dn_spec k nums d ds a h
    rw [hq] at this
    have hlt : bv k X a < (tgt (-1) k nums d ds).1 + ((1 : Int) : Rat) := by rw [one_cast]; grind
    exact bh_dn hX (hd a h) (Rat.le_of_lt hlt) fun _ => hlt
  | u :: us, d :: ds, hu, hd, hp => by
    have u1 := up_spec k nums u us
    have d1 := dn_spec k nums d ds
    obtain ⟨_, ⟨a0, ha0, ea0⟩, u3⟩ := tgt_spec (w := 1) (.inl rfl) k nums u us
    obtain ⟨_, ⟨b0, hb0, eb0⟩, d3⟩ := tgt_spec (w := -1) (.inr rfl) k nums d ds
    simp only [backF]
    generalize tgt 1 k nums u us = H at *
    generalize tgt (-1) k nums d ds = L at *
    obtain ⟨h, p⟩ := H
    obtain ⟨l, q⟩ := L
    dsimp only at *
    rw [hq] at ea0 eb0
    have hlh : l ≤ h := by have := (hp a0 ha0 b0 hb0).1; rw [ea0, eb0] at this; exact this
    have hpn : l = h → p = false := fun e => by
      cases hpp : p with
      | false => rfl
      | true =>
        obtain ⟨c, hc, hc1, hc2⟩ := u3.1 hpp
        rw [hq] at hc2
        have := (hp c hc b0 hb0).2 (by rw [hc1]; rfl)
        rw [hc2, eb0, e] at this
        exact absurd this Rat.lt_irrefl
    have hqn : l = h → q = false := fun e => by
      cases hqq : q with
      | false => rfl
      | true =>
        obtain ⟨c, hc, hc1, hc2⟩ := d3.1 hqq
        rw [hq] at hc2
        have := (hp a0 ha0 c hc).2 (by rw [hc1, Bool.or_true])
        rw [hc2, ea0, e] at this
        exact absurd this Rat.lt_irrefl
    have hcond : ¬ (h < l ∨ (l = h ∧ (p || q) = true)) := by
      rintro (hc | ⟨hc, hc2⟩)
      · exact absurd hc (Rat.not_lt.2 hlh)
      · rw [hpn hc, hqn hc] at hc2; cases hc2
    have ht : two h l p q = fracF ((l + h) / ((2 : Int) : Rat)) := by unfold two; rw [if_neg hcond]
    rw [ht]
    have hv : (l + h) / ((2 : Int) : Rat) * 2 = l + h := by
      rw [two_cast, Rat.div_def, Rat.mul_assoc, Rat.inv_mul_cancel _ (by decide), Rat.mul_one]
    refine ⟨_, rfl, ?_⟩
    generalize (l + h) / ((2 : Int) : Rat) = v at *
    by_cases he : l = h
    · have hvh : v = h := by grind
      have hvl : v = l := by grind
      refine ⟨fun a ha => ?_, fun b hb => ?_⟩
      · have h1 := u1 a ha
        rw [hq] at h1
        refine bh_up hX (hu a ha) (by rw [hvh]; exact h1) fun hls => ?_
        rw [hvh]
        rcases Rat.le_iff_lt_or_eq.1 h1 with h' | h'
        · exact h'
        · have := u3.2 ⟨a, ha, hls, by rw [hq]; exact h'.symm⟩
          rw [hpn he] at this; cases this
      · have h1 := d1 b hb
        rw [hq] at h1
        refine bh_dn hX (hd b hb) (by rw [hvl]; exact h1) fun hls => ?_
        rw [hvl]
        rcases Rat.le_iff_lt_or_eq.1 h1 with h' | h'
        · exact h'
        · have := d3.2 ⟨b, hb, hls, by rw [hq]; exact h'⟩
          rw [hqn he] at this; cases this
    · have hlt : l < h := by
        rcases Rat.le_iff_lt_or_eq.1 hlh with h' | h'
        · exact h'
        · exact absurd h' he
      have hvh : v < h := by grind
      have hvl : l < v := by grind
      refine ⟨fun a ha => ?_, fun b hb => ?_⟩
      · have h1 := u1 a ha
        rw [hq] at h1
        have h2 : v < bv k X a := by grind
        exact bh_up hX (hu a ha) (Rat.le_of_lt h2) fun _ => h2
      · have h1 := d1 b hb
        rw [hq] at h1
        have h2 : bv k X b < v := by grind
        exact bh_dn hX (hd b hb) (Rat.le_of_lt h2) fun _ => h2
theorem rows_hold {n k : Nat} {xs : List Rat} : ∀ (rows : List R) (i : Nat), (∀ r ∈ rows, OkR n r) → (∀ b ∈ ups n k rows i, BH b xs) → (∀ b ∈ dns n k rows i, BH b xs) → (∀ r ∈ rows, r.of.getD k 0 = 0 → holdC (toC r) xs) → ∀ r ∈ rows, holdC (toC r) xs
  | [], _, _, _, _, _, r, h => by cases h
  | q :: rs, i, ok, hu, hd, h0, r, h => by
    rw [ups] at hu
    rw [dns] at hd
    rcases List.mem_cons.1 h with rfl | h
    · have hkd := (ok r List.mem_cons_self).kd
      have u1 : ∀ b ∈ upB n k i r, BH b xs := fun b hb => hu b (List.mem_append_left _ hb)
      have d1 : ∀ b ∈ dnB n k i r, BH b xs := fun b hb => hd b (List.mem_append_left _ hb)
      unfold upB at u1
      unfold dnB at d1
      -- the row itself is a bound
      have own : ∀ b : Bn, b = ⟨true, padL n r.of, r.tv, r.kd == 2, (i : Int)⟩ → BH b xs → (r.kd = 3 → BH ⟨true, negL (padL n r.of), -r.tv, false, (i : Int)⟩ xs) → holdC (toC r) xs := by
        intro b hb h1 h2
        subst hb
        unfold BH at h1
        unfold holdC
        simp only [toC, dot_pad, beq_iff_eq] at h1 ⊢
        rcases hkd with h3 | h3 | h3
        · rcases Rat.le_iff_lt_or_eq.1 h1.1 with h' | h'
          · exact .inl ⟨h', by omega⟩
          · exact .inr ⟨h', by omega⟩
        · exact .inl ⟨h1.2 h3, by omega⟩
        · have h4 := h2 h3
          unfold BH at h4
          simp only [dot_neg, dot_pad, Rat.intCast_neg] at h4
          have h5 := h1.1
          have h6 := h4.1
          refine .inr ⟨Rat.le_antisymm h5 ?_, by omega⟩
          grind
      by_cases hp : r.of.getD k 0 > 0
      · rw [if_pos hp] at u1
        rw [if_neg (by omega)] at d1
        refine own _ rfl (u1 _ (List.mem_singleton.2 rfl)) fun h3 => ?_
        rw [if_pos ⟨hp, h3⟩] at d1
        exact d1 _ (List.mem_singleton.2 rfl)
      · by_cases hm : r.of.getD k 0 < 0
        · rw [if_neg hp] at u1
          rw [if_pos hm] at d1
          refine own _ rfl (d1 _ (List.mem_singleton.2 rfl)) fun h3 => ?_
          rw [if_pos ⟨hm, h3⟩] at u1
          exact u1 _ (List.mem_singleton.2 rfl)
        · exact h0 r List.mem_cons_self (by omega)
    · exact rows_hold rs (i + 1) (fun r hr => ok r (List.mem_cons_of_mem _ hr)) (fun b hb => hu b (List.mem_append_right _ hb)) (fun b hb => hd b (List.mem_append_right _ hb)) (fun r hr => h0 r (List.mem_cons_of_mem _ hr)) r h
theorem back_hold {n k : Nat} {rows : List R} {nums : List Fr} (hk : k < n) (hl : n = nums.length) (hr : ∀ r ∈ rows, OkR n r) (hc : (awayF n k rows).1 = 0)
    (h : ∀ c ∈ (awayF n k rows).2, holdC c ((nums.set k ((0, 1) : Fr)).map frQ)) :
    ∃ v, backF k nums (ups n k rows 0) (dns n k rows 0) = fracF v ∧ ∀ r ∈ rows, holdC (toC r) (((nums.set k ((0, 1) : Fr)).map frQ).set k v) := by
  have hX : ((nums.set k ((0, 1) : Fr)).map frQ)[k]? = some 0 := by
    rw [List.getElem?_map, List.getElem?_set_self (by omega)]
    show some (frQ (0, 1)) = some 0
    rw [frQ01]
  have hq := bq_bv k nums
  generalize (nums.set k ((0, 1) : Fr)).map frQ = X at *
  obtain ⟨m1, m2⟩ := out_mem (k := k) (dns n k rows 0) (ups n k rows 0) (firsts k rows) hc
  have hu := up_ok hk rows 0 hr
  have hd := dn_ok hk rows 0 hr
  obtain ⟨v, v1, v2, v3⟩ := back_v k nums X hX hq (ups n k rows 0) (dns n k rows 0) (fun a ha => (hu a ha).at') (fun b hb => (hd b hb).at') (fun a ha b hb => by
    by_cases hf : a.frm = b.frm
    · have ho := same_row rows 0 a ha b hb hf
      have he := opp_bv (X := X) ho (hu a ha).at'
      rw [he]
      refine ⟨Rat.le_refl, fun hl => ?_⟩
      rw [ho.2.1, ho.2.2] at hl; cases hl
    · exact pair_bv (hu a ha) (hd b hb) (h _ (m2 a ha b hb hf)))
  refine ⟨v, v1, rows_hold rows 0 hr v2 v3 fun r hm h0 => ?_⟩
  have h1 := (hold_first (hr r hm).kd).1 (h _ (m1 _ (firsts_mem rows r hm h0)))
  unfold holdC at h1 ⊢
  have hd := dot_set v r.of X k 0 hX
  rw [h0] at hd
  have hz : dotQ (toC r).1 (X.set k v) = dotQ (toC r).1 X := by
    show dotQ r.of (X.set k v) = dotQ r.of X
    have z0 : ((0 : Int) : Rat) = 0 := rfl
    rw [hd, z0]; grind
  rw [hz]
  exact h1
open Go Go.Aev Go.Aev.Gen Go.Aev.Wd

theorem frQ_v (v : Rat) : frQ ((v.num, (v.den : Int)) : Fr) = v := by
  unfold frQ
  exact Rat.num_divInt_den v
theorem lawUp (rows : List R) (e : Bool) (n k : Int) (ep : Bool) (p : List Fr) (hr : ∀ r ∈ rows, r.e = true → r.of = []) : Or (.call 5) [LR e rows, I n, I k, LN ep p] [] = some [tb true] := by
  have kb := s6p rows e ep n k p hr
  by_cases hK : (chkK n k rows).1 = 0
  · have hc : (chkN n rows).1 = 0 := by
      unfold chkK at hK
      split at hK
      · rename_i h; exact h
      · exact hK
    obtain ⟨n0, n12, hl, ok⟩ := chkN_ok hr hc
    have hk : ¬ (k < 0 ∨ k ≥ n) := by
      intro h
      unfold chkK at hK
      rw [if_pos hc, if_pos h] at hK
      simp at hK
    obtain ⟨n, rfl⟩ := Int.eq_ofNat_of_zero_le n0
    obtain ⟨k, rfl⟩ := Int.eq_ofNat_of_zero_le (show 0 ≤ k by omega)
    rw [Int.toNat_natCast] at ok
    have hkn : k < n := by omega
    have hn : n ≤ 12 := by omega
    have hk1 : ¬ (k : Int) < 0 := by omega
    have hk2 : ¬ (k : Int) ≥ (n : Int) := by omega
    obtain ⟨x, ex, rs, a1, a2, a3, a4⟩ := s6b rows e n k hn hkn ok hl hK
    have h90 : ((9 : Int) == 0) = false := rfl
    have h96 : ((9 : Int) == 6) = false := rfl
    have h50 : ((5 : Int) == 0) = false := rfl
    have h56 : ((5 : Int) == 6) = false := rfl
    by_cases hM : (awayF n k rows).1 = 0
    · by_cases hp : (p.length : Int) = (n : Int)
      · have hpl : n = p.length := by omega
        subst hpl
        have hk0 : 0 ≤ (k : Int) := by omega
        cases hm : nmF (k : Int) p 0 with
        | some j =>
          have hb : backA p.length k rows p = [ti 0, ti 0, ti 5, ti j] := by unfold backA; rw [if_pos hK, if_pos hp, hm]
          rw [hb] at kb
          refine orc_of ?_
          rw [eq5]
          simp only [STL, ↓reduceIte, Int.reduceBEq, Int.reduceEq, gdF, Gen.s11, a1, a2, hM, kb, h50, h56]
          try rfl
        | none =>
          have hb : backA p.length k rows p = backF k p (ups p.length k rows 0) (dns p.length k rows 0) := by unfold backA; rw [if_pos hK, if_pos hp, hm, Int.toNat_natCast]; rfl
          rw [hb] at kb
          obtain ⟨a, b, c, d, hbf⟩ := back_ex k p (ups p.length k rows 0) (dns p.length k rows 0)
          rw [hbf] at kb
          have hg : ∀ r ∈ rs, Gen.Good p.length k (toC r) := fun r hr => away_good hn hkn ok _ (by rw [← a3]; exact List.mem_map_of_mem hr)
          have hok : ∀ r ∈ rs, OkR p.length r := fun r hr => good_ok (hg r hr) (a4 r hr)
          have hlen : rs.length ≤ 40 := by
            have := away_len (n := p.length) (k := k) hl
            rw [← a3, List.length_map] at this; exact this
          have hsm : small 16 p.length = some () := small_ok (by omega)
          have hkl : k < p.length := by omega
          have hkr : (k : Int) < (p.length : Int) := by omega
          have hst := encF_set hkl ((0, 1) : Fr)
          have hsl : (p.set k ((0, 1) : Fr)).length = p.length := by simp
          have set_ok : ∀ y : Fr, FrR y → ∀ x ∈ p.set k y, FrR x := fun y hy x h => by
            obtain ⟨i, hi, rfl⟩ := List.mem_iff_getElem.1 h
            rw [List.getElem_set]
            split
            · exact hy
            · rename_i hne
              rw [List.length_set] at hi
              exact nm_none (i := 0) hm i _ (List.getElem?_eq_getElem hi) (by omega)
          have hx := set_ok (0, 1) (by unfold FrR; decide)
          have k2 := s14q ex rs (encF p).isEmpty (p.set k ((0, 1) : Fr)) (by omega) (by rw [hsl]; exact hok) hx hlen
          by_cases hc06 : c = 0 ∨ c = 6
          · cases hall : rs.all fun r => holdB (toC r) (p.set k ((0, 1) : Fr)) with
            | false =>
              rw [hall] at k2
              refine orc_of ?_
              rw [eq5]
              rcases hc06 with rfl | rfl
              · simp only [STL, ↓reduceIte, Int.reduceBEq, Int.reduceEq, Gen.s11, a1, a2, hM, kb, encF_len, List.length_set, Int.toNat_natCast, hk0, and_self, hk1, hk2, hkr, hsm, hst, k2, decide_false]
                try rfl
              · have h60 : ((6 : Int) == 0) = false := rfl
                simp only [STL, ↓reduceIte, Int.reduceBEq, Int.reduceEq, Gen.s11, a1, a2, hM, kb, encF_len, List.length_set, Int.toNat_natCast, hk0, and_self, hk1, hk2, hkr, hsm, hst, k2, h60, decide_false]
                try rfl
            | true =>
              rw [hall] at k2
              have hh : ∀ c ∈ (awayF p.length k rows).2, holdC c ((p.set k ((0, 1) : Fr)).map frQ) := fun c hc => by
                rw [← a3] at hc
                obtain ⟨r, hr, rfl⟩ := List.mem_map.1 hc
                exact (holdB_iff _ _).1 (List.all_eq_true.1 hall r hr)
              obtain ⟨v, v1, v2⟩ := back_hold hkn rfl ok hM hh
              rw [v1] at hbf
              by_cases hf : fitQ v = true
              · rw [frac_y hf] at hbf
                simp only [List.cons.injEq, T.int.injEq, true_and, and_true] at hbf
                obtain ⟨rfl, rfl, rfl, rfl⟩ := hbf
                have hfr : FrR (v.num, (v.den : Int)) := (fit_right v).2 hf
                have hst2 := encF_set (l := p.set k ((0, 1) : Fr)) (i := k) (by omega) ((v.num, (v.den : Int)) : Fr)
                have hset : (p.set k ((0, 1) : Fr)).set k (v.num, (v.den : Int)) = p.set k (v.num, (v.den : Int)) := List.set_set _
                rw [hset] at hst2
                have k3 := s14q e rows (encF p).isEmpty (p.set k ((v.num, (v.den : Int)) : Fr)) (by simp; omega) (by rw [List.length_set]; exact ok) (set_ok _ hfr) hl
                have hall2 : (rows.all fun r => holdB (toC r) (p.set k ((v.num, (v.den : Int)) : Fr))) = true := List.all_eq_true.2 fun r hr => (holdB_iff _ _).2 (by
                  have := v2 r hr
                  have e1 : (p.set k ((v.num, (v.den : Int)) : Fr)).map frQ = ((p.set k ((0, 1) : Fr)).map frQ).set k v := by
                    rw [← hset, List.map_set, frQ_v]
                  rw [e1]; exact this)
                rw [hall2] at k3
                refine orc_of ?_
                rw [eq5]
                simp only [STL, ↓reduceIte, Int.reduceBEq, Int.reduceEq, Gen.s11, a1, a2, hM, kb, encF_len, List.length_set, Int.toNat_natCast, hk0, and_self, hk1, hk2, hkr, hsm, hst, hst2, k2, k3, decide_false]
                try rfl
              · rw [frac_n hf] at hbf
                simp only [List.cons.injEq, T.int.injEq, true_and, and_true] at hbf
                omega
          · have c0 : (c == 0) = false := by simpa using fun h => hc06 (.inl h)
            have cn0 : ¬ c = 0 := fun h => hc06 (.inl h)
            have c6 : (c == 6) = false := by simpa using fun h => hc06 (.inr h)
            refine orc_of ?_
            rw [eq5]
            simp only [STL, ↓reduceIte, Int.reduceBEq, Int.reduceEq, gdF, Gen.s11, a1, a2, hM, kb, c0, cn0, c6]
            try rfl
      · have hpb : ((p.length : Int) == (n : Int)) = false := by simpa using hp
        have hb : backA n k rows p = [ti 0, ti 0, ti 9, ti 0] := by unfold backA; rw [if_pos hK, if_neg hp]
        rw [hb] at kb
        refine orc_of ?_
        rw [eq5]
        simp only [STL, ↓reduceIte, Int.reduceBEq, Int.reduceEq, gdF, Gen.s11, a1, a2, hM, kb, h90, h96]
        try rfl
    · have hnil : (awayF n k rows).2 = [] := out_bad _ _ _ hM
      rw [hnil] at a3
      have : rs = [] := by simpa using a3
      subst this
      have hMb : ((awayF n k rows).1 == 0) = false := by simpa using hM
      have hb : ∃ a b c d, backA n k rows p = [ti a, ti b, ti c, ti d] := by
        unfold backA
        rw [if_pos hK]
        split
        · split
          · exact ⟨_, _, _, _, rfl⟩
          · exact back_ex _ _ _ _
        · exact ⟨_, _, _, _, rfl⟩
      obtain ⟨a, b, c, d, hb⟩ := hb
      rw [hb] at kb
      refine orc_of ?_
      rw [eq5]
      simp only [STL, ↓reduceIte, Int.reduceBEq, Int.reduceEq, Gen.s11, a1, a2, hM, hMb, kb]
      try rfl
  · have h6 := s6a rows e n k hr hK
    have hKb : ((chkK n k rows).1 == 0) = false := by simpa using hK
    have hb : backA n k rows p = [ti 0, ti 0, ti (chkK n k rows).1, ti (chkK n k rows).2] := by unfold backA; rw [if_neg hK]
    rw [hb] at kb
    refine orc_of ?_
    rw [eq5]
    simp only [STL, ↓reduceIte, Int.reduceBEq, Int.reduceEq, Gen.s11, h6, hK, hKb, kb]
    try rfl
end Go.Aev.Wd.Lg
namespace Go.Aev.Gen
open Go Go.Aev Go.Proofs
set_option maxRecDepth 1000000 in
theorem claim5 (vs : List AV) (h : ArgWt PROG (19 + 1) Tryz.f5.params.toList vs) : Or (.call 5) vs [] = some [.bool true] := by
  rw [Tryz.params5] at h
  obtain ⟨a, _, rfl, h1, b, _, rfl, h2, c, _, rfl, h3, d, _, rfl, h4, rfl⟩ := h
  obtain ⟨e, q, rfl, hq⟩ := rows_arg h1
  obtain ⟨n, rfl⟩ := int_arg h2
  obtain ⟨k, rfl⟩ := int_arg h3
  obtain ⟨ep, p, rfl, _⟩ := fracs_arg h4
  exact Wd.Lg.lawUp q e n k ep p hq
end Go.Aev.Gen
