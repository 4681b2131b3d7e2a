import Derived.Test.YtobpninhnmmpeaaGreatAwayUpQ12
import Derived.Test.YtobpninhnmmpeaaGreatAwayUpQ10
import Derived.Test.YtobpninhnmmpeaaGreatAwayUpQ13
set_option linter.unusedSimpArgs false
set_option linter.unusedVariables false
namespace Go.Aev.Wd.Lg
open Go Go.Aev Go.Aev.Gen Go.Aev.Wd

/-- What package frac takes. -/
def fitQ (q : Rat) : Bool := decide (-1073741824 ≤ q.num ∧ q.num ≤ 1073741824 ∧ (q.den : Int) ≤ 1073741824)
theorem q_gcd (q : Rat) : Int.gcd q.num (q.den : Int) = 1 := q.reduced
theorem fit_right (q : Rat) : FrR (q.num, (q.den : Int)) ↔ fitQ q = true := by
  have h1 := q.den_pos
  have h2 := q_gcd q
  unfold FrR fitQ
  rw [decide_eq_true_iff]
  constructor
  · rintro ⟨a, b, c, d, _⟩; exact ⟨c, d, b⟩
  · rintro ⟨a, b, c⟩; exact ⟨by dsimp only; omega, c, a, b, h2⟩
theorem s24 {m : Nat} {q : Rat} (hq : QB m q) (h : m ≤ 6300) : Or (.call 24) [EQ q] [] = some (if fitQ q = true then [ti q.num, ti (q.den : Int), tb true] else [ti 0, ti 0, tb false]) := by
  obtain ⟨a1, a2⟩ := QB.ln hq h
  have k1 := s56 q.num (by omega)
  have k2 := s54 q
  have k3 := s56 (q.den : Int) (by omega)
  have k4 := s16 (q.num, (q.den : Int))
  have hd := q.den_pos
  unfold RZ at k2
  refine orc_of ?_
  rw [e24]
  by_cases hf : fitQ q = true
  · have hr := (fit_right q).2 hf
    rw [if_pos hr] at k4
    rw [if_pos hf]
    unfold fitQ at hf
    have hf' := of_decide_eq_true hf
    rw [if_pos (by omega)] at k1 k3
    simp only [STL, ↓reduceIte, Int.reduceBEq, Int.reduceEq, k1, k2, k3, k4]
  · have hr : ¬ FrR (q.num, (q.den : Int)) := fun h => hf ((fit_right q).1 h)
    rw [if_neg hr] at k4
    rw [if_neg hf]
    by_cases h1 : -9223372036854775808 ≤ q.num ∧ q.num < 9223372036854775808
    · by_cases h2 : -9223372036854775808 ≤ (q.den : Int) ∧ (q.den : Int) < 9223372036854775808
      · rw [if_pos h1] at k1
        rw [if_pos h2] at k3
        have h30 : ((3 : Int) == 0) = false := rfl
        simp only [STL, ↓reduceIte, Int.reduceBEq, Int.reduceEq, k1, k2, k3, k4, h30]
        try rfl
      · rw [if_pos h1] at k1
        rw [if_neg h2] at k3
        simp only [STL, ↓reduceIte, Int.reduceBEq, Int.reduceEq, gdF, k1, k2, k3]
        try rfl
    · rw [if_neg h1] at k1
      by_cases h2 : -9223372036854775808 ≤ (q.den : Int) ∧ (q.den : Int) < 9223372036854775808
      · rw [if_pos h2] at k3
        simp only [STL, ↓reduceIte, Int.reduceBEq, Int.reduceEq, gdF, k1, k2, k3]
        try rfl
      · rw [if_neg h2] at k3
        simp only [STL, ↓reduceIte, Int.reduceBEq, Int.reduceEq, gdF, k1, k2, k3]
        try rfl
/-- The zero value. -/
theorem s24z : Or (.call 24) [AV.agg [B false, AV.t (T.str (ByteArray.mk #[])), B false, AV.t (T.str (ByteArray.mk #[]))]] [] = some [ti 0, ti 1, tb true] := by
  have hz : LZ 0 = AV.agg [B false, AV.t (T.str (ByteArray.mk #[]))] := rfl
  have k1 := s56 0 (by decide)
  have k5 := s91z 0
  rw [hz] at k1 k5
  have k0 := s50 1 (by omega)
  have k2 : Or (.call 54) [AV.agg [B false, AV.t (T.str (ByteArray.mk #[])), B false, AV.t (T.str (ByteArray.mk #[]))]] [] = some (RZ 1) := by
    unfold RZ at k0 ⊢
    refine orc_of ?_
    rw [e54]
    have h0 : Int.sign 0 = 0 := rfl
    rw [h0] at k5
    simp only [STL, ↓reduceIte, Int.reduceBEq, Int.reduceEq, k5, k0]
  have k3 := s56 1 (by decide)
  have k4 := s16 (0, 1)
  have hr : FrR (0, 1) := by unfold FrR; decide
  rw [if_pos hr] at k4
  rw [if_pos (by omega)] at k1 k3
  unfold RZ at k2
  refine orc_of ?_
  rw [e24]
  simp only [STL, ↓reduceIte, Int.reduceBEq, Int.reduceEq, k1, k2, k3, k4]
def rsQ (k : Nat) : List Int → List Fr → Nat → Rat → Rat
  | c :: of, x :: xs, i, acc => rsQ k of xs (i + 1) (if i = k then acc else acc - (c : Rat) * frQ x)
  | _, _, _, acc => acc
def bq (of : List Int) (to : Int) (k : Nat) (nums : List Fr) : Rat := rsQ k of nums 0 (to : Rat) / ((of.getD k 0 : Int) : Rat)
/-- Fractions that are not too great, but for one place. -/
def OkN (k : Nat) (nums : List Fr) : Prop := ∀ i x, i ≠ k → nums[i]? = some x → FrB x
theorem int_QB {m : Nat} {c : Int} (h : c.natAbs ≤ 2 ^ m) : QB m (c : Rat) := ⟨h, Nat.one_le_two_pow⟩
theorem rs_QB (k : Nat) (nums : List Fr) (hx : OkN k nums) : ∀ (rest : List Int) (i m : Nat) (acc : Rat), (∀ c ∈ rest, -1000000 ≤ c ∧ c ≤ 1000000) → QB m acc → QB (m + 51 * rest.length) (rsQ k rest (nums.drop i) i acc)
  | [], i, m, acc, _, ha => by
    have : rsQ k [] (nums.drop i) i acc = acc := by cases nums.drop i <;> rfl
    rw [this]; exact ha
  | c :: rest, i, m, acc, hc, ha => by
    have hcb := hc c List.mem_cons_self
    cases hd : nums.drop i with
    | nil => exact ha.mono (by omega)
    | cons x xs =>
      obtain ⟨g1, g2, g3⟩ := at_drop hd
      rw [rsQ, ← g3, List.length_cons]
      by_cases hi : i = k
      · rw [if_pos hi]
        exact (rs_QB k nums hx rest (i + 1) m acc (fun c h => hc c (List.mem_cons_of_mem _ h)) ha).mono (by omega)
      · rw [if_neg hi]
        have hxb := hx i x hi g1
        have q1 : QB (20 + 30) ((c : Rat) * frQ x) := (int_QB (by omega)).mul (frQ_b hxb.1 hxb.2)
        exact (rs_QB k nums hx rest (i + 1) (m + 50 + 1) _ (fun c h => hc c (List.mem_cons_of_mem _ h)) (ha.sub q1)).mono (by omega)
theorem bq_QB {of : List Int} {to : Int} {k : Nat} {nums : List Fr} (hx : OkN k nums) (hb : ∀ c ∈ of, -1000000 ≤ c ∧ c ≤ 1000000) (ht : -1000000 ≤ to ∧ to ≤ 1000000) (hl : of.length ≤ 12) (hk : k < of.length) (h0 : of.getD k 0 ≠ 0) : QB 652 (bq of to k nums) := by
  have h1 := rs_QB k nums hx of 0 20 (to : Rat) hb (int_QB (by omega))
  rw [List.drop_zero] at h1
  have hm := List.mem_of_getElem? (getD_get hk)
  have hcb := hb _ hm
  have hne : ((of.getD k 0 : Int) : Rat) ≠ 0 := fun h => h0 (Rat.intCast_eq_zero_iff.1 h)
  have h2 := s23 (m := 632) (k := 20) (q := ((of.getD k 0 : Int) : Rat)) (h1.mono (by omega)) (int_QB (by omega)) (by omega) hne
  exact h2.2
abbrev bxQ (q : Rat) : Blk := Blk.box [B (decide (q.num < 0)), AV.t (T.str (encS (dz q.num))), B (decide ((q.den : Int) < 0)), AV.t (T.str (encS (dz (q.den : Int))))]
abbrev bx0 : Blk := Blk.box [B false, AV.t (T.str (ByteArray.mk #[])), B false, AV.t (T.str (ByteArray.mk #[]))]
theorem nq_list (q : Rat) : NQ q = [tb (decide (q.num < 0)), T.str (encS (dz q.num)), tb (decide ((q.den : Int) < 0)), T.str (encS (dz (q.den : Int)))] := rfl
theorem n48p (b : Bn) (e en : Bool) (nums : List Fr) (k : Nat) (hx : OkN k nums) (hb : ∀ c ∈ b.of, -1000000 ≤ c ∧ c ≤ 1000000) (hl : b.of.length = nums.length) (hn : nums.length ≤ 12) (hk : k < nums.length) (h0 : b.of.getD k 0 ≠ 0) : ∀ (rest : List Int) (i m : Nat) (acc : Rat), b.of.drop i = rest → QB m acc → m + 51 * rest.length ≤ 700 →
    Or K48n3 [I (k : Int), LN en nums, r0, AV.ref (Id.c 1) 0, AV.ref (Id.c 2) 0, lst e b.of, I (b.of.length : Int), I (i : Int)] [Blk.box [lst e b.of, I b.to, B b.less, I b.frm], bx0, bxQ acc] =
      some (NQ (rsQ k rest (nums.drop i) i acc / ((b.of.getD k 0 : Int) : Rat))) := by
  have hkl : k < b.of.length := by omega
  have hcb := hb _ (List.mem_of_getElem? (getD_get hkl))
  have hne : ((b.of.getD k 0 : Int) : Rat) ≠ 0 := fun h => h0 (Rat.intCast_eq_zero_iff.1 h)
  intro rest
  induction rest with
  | nil =>
    intro i m acc h ha hm
    have h1 : ¬ (i : Int) < (b.of.length : Int) := by have := at_end h; omega
    have hkr : 0 ≤ (k : Int) ∧ (k : Int) < (b.of.length : Int) := by omega
    have k1 := s20 (b.of.getD k 0) (by omega)
    have k2 := (s23 (m := m) (k := 20) ha (int_QB (c := b.of.getD k 0) (by omega)) (by omega) hne).1
    have hr : rsQ k [] (nums.drop i) i acc = acc := by cases nums.drop i <;> rfl
    rw [hr]
    rw [nq_list] at k1 k2 ⊢
    refine orc_of ?_
    rw [e48n3]
    simp only [STL, ↓reduceIte, Int.reduceBEq, Int.reduceEq, h1, enc_len, hkr, and_self, enc_get (getD_get hkl), k1, k2]
  | cons c rest ih =>
    intro i m acc h ha hm
    obtain ⟨g1, g2, g3⟩ := at_drop h
    have h1 : (i : Int) < (b.of.length : Int) := by omega
    have h2 : (i : Int) < (nums.length : Int) := by omega
    have hi0 : 0 ≤ (i : Int) := by omega
    have hc := hb c (List.mem_of_getElem? g1)
    obtain ⟨x, hxi⟩ : ∃ x, nums[i]? = some x := ⟨_, List.getElem?_eq_getElem (by omega)⟩
    have hd : nums.drop i = x :: nums.drop (i + 1) := by
      rw [List.drop_eq_getElem_cons (by omega)]
      congr 1
      rw [List.getElem?_eq_getElem (by omega)] at hxi
      simpa using hxi
    simp only [List.length_cons] at hm
    rw [hd, rsQ]
    by_cases hik : i = k
    · subst hik
      rw [if_pos rfl]
      have := ih (i + 1) m acc g3 ha (by omega)
      refine orc_of ?_
      rw [e48n3]
      simp only [STL, ↓reduceIte, Int.reduceBEq, Int.reduceEq, h1, hi0, and_self, enc_len, enc_get g1, next i (by omega)]
      exact this
    · have hik' : ¬ (i : Int) = (k : Int) := by omega
      rw [if_neg hik]
      have hxb := hx i x hik hxi
      have hfb := frQ_b hxb.1 hxb.2
      unfold FrB at hxb
      have k1 := s20 c (by omega)
      have k2 := s88 x.1 x.2 (by omega) (by omega) (by omega)
      have k3 := s87 (m := 20) (k := 30) (p := (c : Rat)) (q := frQ x) (int_QB (by omega)) hfb (by omega)
      have qm : QB (20 + 30) ((c : Rat) * frQ x) := (int_QB (by omega)).mul hfb
      have k4 := s19 (m := m) (k := 50) ha qm (by omega)
      have := ih (i + 1) (m + 50 + 1) _ g3 (ha.sub qm) (by omega)
      have hfr : Rat.divInt x.1 x.2 = frQ x := rfl
      rw [hfr] at k2
      rw [nq_list] at k1 k2 k3 k4
      refine orc_of ?_
      rw [e48n3]
      simp only [STL, ↓reduceIte, Int.reduceBEq, Int.reduceEq, h1, h2, hi0, and_self, enc_len, enc_get g1, hik', encF_len, encF_get hxi, k1, k2, k3, k4, next i (by omega)]
      exact this
theorem s48p (b : Bn) (n k : Nat) (en : Bool) (nums : List Fr) (hx : OkN k nums) (ok : OkB n k b) (hl : n = nums.length) (hn : nums.length ≤ 12) (hk : k < nums.length) (h0 : b.of.getD k 0 ≠ 0) :
    Or (.call 48) [AV.agg [AV.t (T.lst 1 b.e (enc b.of)), I b.to, B b.less, I b.frm], I (k : Int), LN en nums] [] = some (NQ (bq b.of b.to k nums)) := by
  have hlen := ok.len
  have ht := ok.to
  have k1 := s20 b.to (by omega)
  have := n48p b b.e en nums k hx ok.of (by omega) hn hk h0 b.of 0 20 (b.to : Rat) rfl (int_QB (by omega)) (by omega)
  rw [List.drop_zero] at this
  rw [nq_list] at k1
  refine orc_of ?_
  rw [e48]
  simp only [STL, ↓reduceIte, Int.reduceBEq, Int.reduceEq, k1, enc_len]
  exact this
def btr (w : Int) (x q : Rat) : Prop := if w = 1 then x < q else q < x
instance (w : Int) (x q : Rat) : Decidable (btr w x q) := by unfold btr; infer_instance
def tgF (w : Int) (k : Nat) (nums : List Fr) : List Bn → Rat → Bool → Rat × Bool
  | [], q, s => (q, s)
  | b :: r, q, s => if btr w (bq b.of b.to k nums) q then tgF w k nums r (bq b.of b.to k nums) b.less else if bq b.of b.to k nums = q then tgF w k nums r q (s || b.less) else tgF w k nums r q s
abbrev ABn (e : Bool) (l : List Bn) : AV := AV.t (T.lst 4 e (eBs l))
theorem n18p (bs : List Bn) (eb en : Bool) (n k : Nat) (nums : List Fr) (w : Int) (hw : w = 1 ∨ w = -1) (hx : OkN k nums) (hok : ∀ b ∈ bs, OkB n k b ∧ b.of.getD k 0 ≠ 0) (hl : n = nums.length) (hn : nums.length ≤ 12) (hk : k < nums.length) (hbl : bs.length ≤ 40) :
    ∀ (rest : List Bn) (i : Nat) (q : Rat) (s : Bool), bs.drop i = rest → 0 < i → QB 652 q →
    Or K18n4 [I (k : Int), LN en nums, I w, r0, AV.ref (Id.c 1) 0, B s, ABn eb bs, I (bs.length : Int), I (i : Int)] [bx0, bxQ q] = some (NQ (tgF w k nums rest q s).1 ++ [tb (tgF w k nums rest q s).2]) := by
  intro rest
  induction rest with
  | nil =>
    intro i q s h hi hq
    have h1 : ¬ (i : Int) < (bs.length : Int) := by have := at_end h; omega
    refine orc_of ?_
    rw [e18n4]
    simp only [STL, ↓reduceIte, Int.reduceBEq, Int.reduceEq, h1, tgF]
    rfl
  | cons b rest ih =>
    intro i q s h hi hq
    obtain ⟨g1, g2, g3⟩ := at_drop h
    have h1 : (i : Int) < (bs.length : Int) := by omega
    have hi0 : 0 ≤ (i : Int) := by omega
    have hip : (i : Int) > 0 := by omega
    obtain ⟨ok, h0⟩ := hok b (List.mem_of_getElem? g1)
    have hlen := ok.len
    have k1 := s48p b n k en nums hx ok hl hn hk h0
    have hxq := bq_QB (nums := nums) hx ok.of ok.to (by omega) (show k < b.of.length by omega) h0
    have k2 := s22 (m := 652) (k := 652) hxq hq (by omega)
    rw [nq_list] at k1
    rw [tgF]
    refine orc_of ?_
    rw [e18n4]
    by_cases hb : btr w (bq b.of b.to k nums) q
    · rw [if_pos hb]
      have hc : IntKind.i64.wrap (w * (if bq b.of b.to k nums < q then -1 else if bq b.of b.to k nums = q then 0 else 1)) < 0 := by
        unfold btr at hb
        rcases hw with rfl | rfl
        · rw [if_pos rfl] at hb
          rw [if_pos hb]; decide
        · rw [if_neg (by decide)] at hb
          have h2 : ¬ bq b.of b.to k nums < q := Rat.not_lt.2 (Rat.le_of_lt hb)
          have h3 : ¬ bq b.of b.to k nums = q := fun h => by rw [h] at hb; exact absurd hb Rat.lt_irrefl
          rw [if_neg h2, if_neg h3]; decide
      have := ih (i + 1) (bq b.of b.to k nums) b.less g3 (by omega) hxq
      simp only [STL, ↓reduceIte, Int.reduceBEq, Int.reduceEq, h1, hi0, and_self, eBs_len, eBs_get g1, k1, hip, k2, hc, next i (by omega)]
      exact this
    · rw [if_neg hb]
      by_cases he : bq b.of b.to k nums = q
      · rw [if_pos he]
        have hlt : ¬ bq b.of b.to k nums < q := fun h => by rw [he] at h; exact absurd h Rat.lt_irrefl
        have hc : IntKind.i64.wrap (w * 0) = 0 := by rw [Int.mul_zero]; decide
        have hc0 : ¬ (0 : Int) < 0 := by omega
        have := ih (i + 1) q (s || b.less) g3 (by omega) hq
        rw [if_neg hlt, if_pos he] at k2
        simp only [cor]
        simp only [STL, ↓reduceIte, Int.reduceBEq, Int.reduceEq, h1, hi0, and_self, eBs_len, eBs_get g1, k1, hip, k2, hc, hc0, next i (by omega)]
        exact this
      · rw [if_neg he]
        have hc : ¬ IntKind.i64.wrap (w * (if bq b.of b.to k nums < q then -1 else if bq b.of b.to k nums = q then 0 else 1)) < 0 ∧ ¬ IntKind.i64.wrap (w * (if bq b.of b.to k nums < q then -1 else if bq b.of b.to k nums = q then 0 else 1)) = 0 := by
          unfold btr at hb
          rcases hw with rfl | rfl
          · rw [if_pos rfl] at hb
            rw [if_neg hb, if_neg he]; decide
          · rw [if_neg (by decide)] at hb
            have h2 : bq b.of b.to k nums < q := by
              rcases Rat.le_iff_lt_or_eq.1 (Rat.not_lt.1 hb) with h | h
              · exact h
              · exact absurd h he
            rw [if_pos h2]; decide
        have := ih (i + 1) q s g3 (by omega) hq
        simp only [STL, ↓reduceIte, Int.reduceBEq, Int.reduceEq, h1, hi0, and_self, eBs_len, eBs_get g1, k1, hip, k2, hc.1, hc.2, next i (by omega)]
        exact this
/-- Of no bounds: the zero value. -/
theorem s18z (eb en : Bool) (k : Nat) (nums : List Fr) (w : Int) : Or (.call 18) [ABn eb [], I (k : Int), LN en nums, I w] [] = some [tb false, T.str (ByteArray.mk #[]), tb false, T.str (ByteArray.mk #[]), tb false] := by
  refine orc_of ?_
  rw [e18]
  refine orc_of ?_
  rw [e18n4]
  have h1 : ¬ (0 : Int) < (([] : List Bn).length : Int) := by simp
  simp only [STL, ↓reduceIte, Int.reduceBEq, Int.reduceEq, eBs_len, h1]
theorem s18p (b : Bn) (bs : List Bn) (eb en : Bool) (n k : Nat) (nums : List Fr) (w : Int) (hw : w = 1 ∨ w = -1) (hx : OkN k nums) (hok : ∀ c ∈ b :: bs, OkB n k c ∧ c.of.getD k 0 ≠ 0) (hl : n = nums.length) (hn : nums.length ≤ 12) (hk : k < nums.length) (hbl : (b :: bs).length ≤ 40) :
    Or (.call 18) [ABn eb (b :: bs), I (k : Int), LN en nums, I w] [] = some (NQ (tgF w k nums bs (bq b.of b.to k nums) b.less).1 ++ [tb (tgF w k nums bs (bq b.of b.to k nums) b.less).2]) := by
  obtain ⟨ok, h0⟩ := hok b List.mem_cons_self
  have hlen := ok.len
  have k1 := s48p b n k en nums hx ok hl hn hk h0
  have hxq := bq_QB (nums := nums) hx ok.of ok.to (by omega) (show k < b.of.length by omega) h0
  have := n18p (b :: bs) eb en n k nums w hw hx hok hl hn hk hbl bs 1 (bq b.of b.to k nums) b.less rfl (by omega) hxq
  rw [nq_list] at k1
  refine orc_of ?_
  rw [e18]
  refine orc_of ?_
  rw [e18n4]
  have h1 : (0 : Int) < ((b :: bs).length : Int) := by simp
  have hr : (0 : Int) ≤ 0 ∧ (0 : Int) < ((b :: bs).length : Int) := by omega
  have hg : (eBs (b :: bs))[(0 : Int).toNat]? = some [T.lst 1 b.e (enc b.of), ti b.to, tb b.less, ti b.frm] := rfl
  have hn1 : IntKind.i64.wrap (0 + 1) = ((1 : Nat) : Int) := by decide
  have h00 : ¬ (0 : Int) > 0 := by omega
  simp only [STL, ↓reduceIte, Int.reduceBEq, Int.reduceEq, eBs_len, h1, hr, and_self, hg, k1, h00, hn1]
  exact this
theorem tg_QB {w : Int} {n k : Nat} {nums : List Fr} (hx : OkN k nums) (hn : n ≤ 12) (hk : k < n) : ∀ (bs : List Bn) (q : Rat) (s : Bool), (∀ c ∈ bs, OkB n k c ∧ c.of.getD k 0 ≠ 0) → QB 652 q → QB 652 (tgF w k nums bs q s).1
  | [], q, s, _, h => h
  | b :: bs, q, s, hok, h => by
    obtain ⟨ok, h0⟩ := hok b List.mem_cons_self
    have hlen := ok.len
    have hxq := bq_QB (nums := nums) hx ok.of ok.to (by omega) (show k < b.of.length by omega) h0
    have hok' := fun c hc => hok c (List.mem_cons_of_mem _ hc)
    rw [tgF]
    split
    · exact tg_QB hx hn hk bs _ _ hok' hxq
    · split
      · exact tg_QB hx hn hk bs _ _ hok' h
      · exact tg_QB hx hn hk bs _ _ hok' h
open Go Go.Aev Go.Aev.Gen Go.Aev.Wd

def fracF (q : Rat) : List T := if fitQ q = true then [ti q.num, ti (q.den : Int), ti 0, ti 0] else [ti 0, ti 0, ti 10, ti 0]
/-- The tightest of some bounds. -/
def tgt (w : Int) (k : Nat) (nums : List Fr) (b : Bn) (bs : List Bn) : Rat × Bool := tgF w k nums bs (bq b.of b.to k nums) b.less
/-- Between the one and the other. -/
def two (h l : Rat) (p q : Bool) : List T := if h < l ∨ (l = h ∧ (p || q) = true) then [ti 0, ti 0, ti 6, ti 0] else fracF ((l + h) / ((2 : Int) : Rat))
def backF (k : Nat) (nums : List Fr) : List Bn → List Bn → List T
  | [], [] => [ti 0, ti 1, ti 0, ti 0]
  | u :: us, [] => fracF ((tgt 1 k nums u us).1 - ((1 : Int) : Rat))
  | [], d :: ds => fracF ((tgt (-1) k nums d ds).1 + ((1 : Int) : Rat))
  | u :: us, d :: ds => two (tgt 1 k nums u us).1 (tgt (-1) k nums d ds).1 (tgt 1 k nums u us).2 (tgt (-1) k nums d ds).2
/-- What the numbers handed in are, but for one place. -/
def nmF (k : Int) : List Fr → Int → Option Int
  | [], _ => none
  | x :: r, i => if i ≠ k ∧ ¬ FrR x then some i else nmF k r (i + 1)
theorem frac_y {q : Rat} (h : fitQ q = true) : fracF q = [ti q.num, ti (q.den : Int), ti 0, ti 0] := by unfold fracF; rw [if_pos h]
theorem frac_n {q : Rat} (h : ¬ fitQ q = true) : fracF q = [ti 0, ti 0, ti 10, ti 0] := by unfold fracF; rw [if_neg h]
theorem bk_s (k : Nat) (nums : List Fr) (w : Int) : ∀ (bs : List Bn) (q : Rat) (s : Bool), tgF w k nums (bs.map Bn.s) q s = tgF w k nums bs q s
  | [], _, _ => rfl
  | b :: bs, q, s => by
    rw [List.map_cons, tgF, tgF, bk_s k nums w bs, bk_s k nums w bs, bk_s k nums w bs]
    rfl
theorem back_s (k : Nat) (nums : List Fr) : ∀ (us ds : List Bn), backF k nums (us.map Bn.s) (ds.map Bn.s) = backF k nums us ds
  | [], [] => rfl
  | u :: us, [] => by simp only [List.map_cons, List.map_nil, backF, tgt, bk_s]; rfl
  | [], d :: ds => by simp only [List.map_cons, List.map_nil, backF, tgt, bk_s]; rfl
  | u :: us, d :: ds => by simp only [List.map_cons, backF, tgt, bk_s]; rfl
theorem int_QBz (c : Int) (h : -1048576 ≤ c ∧ c ≤ 1048576) : QB 20 (c : Rat) := int_QB (by omega)
theorem n6p (rows : List R) (e en : Bool) (n k : Nat) (nums : List Fr) (hn : n ≤ 12) (hk : k < n) (hl : n = nums.length) (hr : ∀ r ∈ rows, OkR n r) (hrl : rows.length ≤ 40) (hx : OkN k nums) :
    Or K6n7 [LR e rows, I (n : Int), I (k : Int), LN en nums, r0, AV.ref (Id.c 1) 0, LN en nums, I (nums.length : Int), I (nums.length : Int)] [bF, bF] = some (backF k nums (ups n k rows 0) (dns n k rows 0)) := by
  obtain ⟨hs, ls, eh, el, k1, k2, k3⟩ := s17 rows e n k hn hk hr hrl
  have hhs : ∀ b ∈ hs, OkB n k b ∧ b.of.getD k 0 ≠ 0 := fun b hb => by
    have := s_up (up_ok hk rows 0 hr _ (by rw [← k2]; exact List.mem_map_of_mem hb))
    exact ⟨this.toOkB, by have := this.at'; omega⟩
  have hls : ∀ b ∈ ls, OkB n k b ∧ b.of.getD k 0 ≠ 0 := fun b hb => by
    have := s_dn (dn_ok hk rows 0 hr _ (by rw [← k3]; exact List.mem_map_of_mem hb))
    exact ⟨this.toOkB, by have := this.at'; omega⟩
  have hhl : hs.length ≤ 40 := by
    have := ups_len n k rows 0
    rw [← k2, List.length_map] at this; omega
  have hll : ls.length ≤ 40 := by
    have := dns_len n k rows 0
    rw [← k3, List.length_map] at this; omega
  rw [← k2, ← k3, back_s]
  clear k2 k3
  have h1 : ¬ (nums.length : Int) < (nums.length : Int) := by omega
  have c1 := s20 1 (by omega)
  have c2 := s20 2 (by omega)
  rw [nq_list] at c1 c2
  have hkl : k < nums.length := by omega
  refine orc_of ?_
  rw [e6n7]
  match hs, ls, hhs, hls, hhl, hll, k1 with
  | [], [], _, _, _, _, k1 =>
    have a1 := s18z eh en k nums 1
    have a2 := s18z el en k nums (-1)
    have a3 := s24z
    have hl0 : (([] : List Bn).length : Int) = 0 := rfl
    simp only [STL, ↓reduceIte, Int.reduceBEq, Int.reduceEq, h1, k1, a1, a2, eBs_len, hl0, a3, backF]
    try rfl
  | u :: us, [], hhs, _, hhl, _, k1 =>
    have a1 := s18p u us eh en n k nums 1 (.inl rfl) hx hhs hl (by omega) hkl hhl
    have a2 := s18z el en k nums (-1)
    have hq := tg_QB (w := 1) (nums := nums) hx hn hk us (bq u.of u.to k nums) u.less (fun c hc => hhs c (List.mem_cons_of_mem _ hc)) (bq_QB hx (hhs u List.mem_cons_self).1.of (hhs u List.mem_cons_self).1.to (by have := (hhs u List.mem_cons_self).1.len; omega) (by have := (hhs u List.mem_cons_self).1.len; omega) (hhs u List.mem_cons_self).2)
    have a3 := s19 (m := 652) (k := 20) hq (int_QBz 1 (by omega)) (by omega)
    have a4 := s24 (hq.sub (int_QBz 1 (by omega))) (by omega)
    have hl0 : (([] : List Bn).length : Int) = 0 := rfl
    have hl1 : ¬ ((u :: us).length : Int) = 0 := by rw [List.length_cons]; omega
    have hl1b : (((u :: us).length : Int) == 0) = false := by simpa using hl1
    rw [nq_list] at a1 a3
    simp only [List.cons_append, List.nil_append] at a1
    simp only [backF, tgt]
    by_cases hf : fitQ ((tgF 1 k nums us (bq u.of u.to k nums) u.less).1 - ((1 : Int) : Rat)) = true
    · rw [frac_y hf]
      rw [if_pos hf] at a4
      simp only [STL, ↓reduceIte, Int.reduceBEq, Int.reduceEq, h1, k1, a1, a2, eBs_len, hl0, hl1, hl1b, c1, a3, a4, dr4]
    · rw [frac_n hf]
      rw [if_neg hf] at a4
      simp only [STL, ↓reduceIte, Int.reduceBEq, Int.reduceEq, h1, k1, a1, a2, eBs_len, hl0, hl1, hl1b, c1, a3, a4, dr4]
  | [], d :: ds, _, hls, _, hll, k1 =>
    have a1 := s18z eh en k nums 1
    have a2 := s18p d ds el en n k nums (-1) (.inr rfl) hx hls hl (by omega) hkl hll
    have hq := tg_QB (w := -1) (nums := nums) hx hn hk ds (bq d.of d.to k nums) d.less (fun c hc => hls c (List.mem_cons_of_mem _ hc)) (bq_QB hx (hls d List.mem_cons_self).1.of (hls d List.mem_cons_self).1.to (by have := (hls d List.mem_cons_self).1.len; omega) (by have := (hls d List.mem_cons_self).1.len; omega) (hls d List.mem_cons_self).2)
    have a3 := s21 (m := 652) (k := 20) hq (int_QBz 1 (by omega)) (by omega)
    have a4 := s24 (hq.add (int_QBz 1 (by omega))) (by omega)
    have hl0 : (([] : List Bn).length : Int) = 0 := rfl
    have hl1 : ¬ ((d :: ds).length : Int) = 0 := by rw [List.length_cons]; omega
    have hl1b : (((d :: ds).length : Int) == 0) = false := by simpa using hl1
    rw [nq_list] at a2 a3
    simp only [List.cons_append, List.nil_append] at a2
    simp only [backF, tgt]
    by_cases hf : fitQ ((tgF (-1) k nums ds (bq d.of d.to k nums) d.less).1 + ((1 : Int) : Rat)) = true
    · rw [frac_y hf]
      rw [if_pos hf] at a4
      simp only [STL, ↓reduceIte, Int.reduceBEq, Int.reduceEq, h1, k1, a1, a2, eBs_len, hl0, hl1, hl1b, c1, a3, a4, dr4]
    · rw [frac_n hf]
      rw [if_neg hf] at a4
      simp only [STL, ↓reduceIte, Int.reduceBEq, Int.reduceEq, h1, k1, a1, a2, eBs_len, hl0, hl1, hl1b, c1, a3, a4, dr4]
  | u :: us, d :: ds, hhs, hls, hhl, hll, k1 =>
    have a1 := s18p u us eh en n k nums 1 (.inl rfl) hx hhs hl (by omega) hkl hhl
    have a2 := s18p d ds el en n k nums (-1) (.inr rfl) hx hls hl (by omega) hkl hll
    have hq1 := tg_QB (w := 1) (nums := nums) hx hn hk us (bq u.of u.to k nums) u.less (fun c hc => hhs c (List.mem_cons_of_mem _ hc)) (bq_QB hx (hhs u List.mem_cons_self).1.of (hhs u List.mem_cons_self).1.to (by have := (hhs u List.mem_cons_self).1.len; omega) (by have := (hhs u List.mem_cons_self).1.len; omega) (hhs u List.mem_cons_self).2)
    have hq2 := tg_QB (w := -1) (nums := nums) hx hn hk ds (bq d.of d.to k nums) d.less (fun c hc => hls c (List.mem_cons_of_mem _ hc)) (bq_QB hx (hls d List.mem_cons_self).1.of (hls d List.mem_cons_self).1.to (by have := (hls d List.mem_cons_self).1.len; omega) (by have := (hls d List.mem_cons_self).1.len; omega) (hls d List.mem_cons_self).2)
    have hl1 : ¬ ((u :: us).length : Int) = 0 := by rw [List.length_cons]; omega
    have hl2 : ¬ ((d :: ds).length : Int) = 0 := by rw [List.length_cons]; omega
    have hl1b : (((u :: us).length : Int) == 0) = false := by simpa using hl1
    have hl2b : (((d :: ds).length : Int) == 0) = false := by simpa using hl2
    rw [nq_list] at a1 a2
    simp only [List.cons_append, List.nil_append] at a1 a2
    simp only [backF, tgt]
    clear hhs hls hr hrl
    generalize tgF 1 k nums us (bq u.of u.to k nums) u.less = H at a1 hq1 ⊢
    generalize tgF (-1) k nums ds (bq d.of d.to k nums) d.less = L at a2 hq2 ⊢
    obtain ⟨h, p⟩ := H
    obtain ⟨l, q⟩ := L
    dsimp only at a1 a2 hq1 hq2 ⊢
    have a5 := s22 (m := 652) (k := 652) hq2 hq1 (by omega)
    have two0 : ((2 : Int) : Rat) ≠ 0 := by decide
    have a6 := s21 (m := 652) (k := 652) hq2 hq1 (by omega)
    have a7 := s23 (m := 652 + 652 + 1) (k := 20) (hq2.add hq1) (int_QBz 2 (by omega)) (by omega) two0
    have a8 := s24 a7.2 (by omega)
    have a7' := a7.1
    rw [nq_list] at a6 a7'
    by_cases hc : h < l ∨ (l = h ∧ (p || q) = true)
    · have ht : two h l p q = [ti 0, ti 0, ti 6, ti 0] := by unfold two; rw [if_pos hc]
      rw [ht]
      rcases hc with hc | ⟨hc, hpq⟩
      · have n1 : ¬ l < h := Rat.not_lt.2 (Rat.le_of_lt hc)
        have n2 : ¬ l = h := fun e => by rw [e] at hc; exact absurd hc Rat.lt_irrefl
        rw [if_neg n1, if_neg n2] at a5
        have h1g : (1 : Int) > 0 := by omega
        simp only [cor, cand]
        simp only [STL, ↓reduceIte, Int.reduceBEq, Int.reduceEq, h1, k1, a1, a2, eBs_len, hl1, hl2, hl1b, hl2b, a5, h1g, decide_true, Bool.true_or, dr4]
        try rfl
      · have n1 : ¬ l < h := fun e => by rw [hc] at e; exact absurd e Rat.lt_irrefl
        rw [if_neg n1, if_pos hc] at a5
        simp only [cor, cand]
        simp only [STL, ↓reduceIte, Int.reduceBEq, Int.reduceEq, h1, k1, a1, a2, eBs_len, hl1, hl2, hl1b, hl2b, a5, hpq, Bool.or_true, dr4]
        try rfl
    · have ht : two h l p q = fracF ((l + h) / ((2 : Int) : Rat)) := by unfold two; rw [if_neg hc]
      rw [ht]
      have hcond : ∃ c : Int, Or (.call 22) [EQ l, EQ h] [] = some [ti c] ∧ (decide (c > 0) || (c == 0 && (p || q))) = false := by
        by_cases hlt : l < h
        · rw [if_pos hlt] at a5; exact ⟨-1, a5, by simp⟩
        · by_cases he : l = h
          · rw [if_neg hlt, if_pos he] at a5
            refine ⟨0, a5, ?_⟩
            have hpq : (p || q) = false := by
              cases hp : (p || q) with
              | false => rfl
              | true => exact absurd (.inr ⟨he, hp⟩) hc
            rw [hpq]; rfl
          · exfalso
            apply hc
            left
            rcases Rat.le_iff_lt_or_eq.1 (Rat.not_lt.1 hlt) with h' | h'
            · exact h'
            · exact absurd h'.symm he
      obtain ⟨c, a5', hcf⟩ := hcond
      by_cases hf : fitQ ((l + h) / ((2 : Int) : Rat)) = true
      · rw [frac_y hf]
        rw [if_pos hf] at a8
        simp only [cor, cand]
        simp only [STL, ↓reduceIte, Int.reduceBEq, Int.reduceEq, h1, k1, a1, a2, eBs_len, hl1, hl2, hl1b, hl2b, a5', hcf, a6, c2, a7', a8, dr4]
      · rw [frac_n hf]
        rw [if_neg hf] at a8
        simp only [cor, cand]
        simp only [STL, ↓reduceIte, Int.reduceBEq, Int.reduceEq, h1, k1, a1, a2, eBs_len, hl1, hl2, hl1b, hl2b, a5', hcf, a6, c2, a7', a8, dr4]
/-- The numbers one by one. -/
theorem n6n (rows : List R) (e en : Bool) (n k : Int) (nums : List Fr) (hl : nums.length ≤ 12) (X : List T)
    (hend : nmF k nums 0 = none → Or K6n7 [LR e rows, I n, I k, LN en nums, r0, AV.ref (Id.c 1) 0, LN en nums, I (nums.length : Int), I (nums.length : Int)] [bF, bF] = some X) : ∀ (rest : List Fr) (i : Nat), nums.drop i = rest → i ≤ nums.length → (nmF k nums 0 = nmF k rest (i : Int)) →
    Or K6n7 [LR e rows, I n, I k, LN en nums, r0, AV.ref (Id.c 1) 0, LN en nums, I (nums.length : Int), I (i : Int)] [bF, bF] = some (match nmF k rest (i : Int) with | some j => [ti 0, ti 0, ti 5, ti j] | none => X) := by
  intro rest
  induction rest with
  | nil =>
    intro i h hi hf
    have hle := at_end h
    obtain rfl : i = nums.length := by omega
    exact hend hf
  | cons x rest ih =>
    intro i h hi hf
    obtain ⟨g1, g2, g3⟩ := at_drop h
    have h1 : (i : Int) < (nums.length : Int) := by omega
    have h0 : 0 ≤ (i : Int) := by omega
    have k1 := s16 x
    have hcast : ((i : Int) + 1) = ((i + 1 : Nat) : Int) := by omega
    by_cases hk : (i : Int) = k
    · have hm : nmF k (x :: rest) (i : Int) = nmF k rest ((i + 1 : Nat) : Int) := by rw [nmF, if_neg (fun h => h.1 hk), hcast]
      rw [hm] at hf ⊢
      have := ih (i + 1) g3 (by omega) hf
      subst hk
      refine orc_of ?_
      rw [e6n7]
      simp only [STL, ↓reduceIte, Int.reduceBEq, Int.reduceEq, gdF, h1, h0, and_self, encF_len, encF_get g1, next i (by omega)]
      exact this
    · have hkb : ((i : Int) == k) = false := by simpa using hk
      by_cases hr : FrR x
      · have hm : nmF k (x :: rest) (i : Int) = nmF k rest ((i + 1 : Nat) : Int) := by rw [nmF, if_neg (fun h => h.2 hr), hcast]
        rw [hm] at hf ⊢
        have := ih (i + 1) g3 (by omega) hf
        rw [if_pos hr] at k1
        refine orc_of ?_
        rw [e6n7]
        simp only [STL, ↓reduceIte, Int.reduceBEq, Int.reduceEq, h1, h0, and_self, encF_len, encF_get g1, hkb, k1, next i (by omega)]
        exact this
      · have hm : nmF k (x :: rest) (i : Int) = some (i : Int) := by rw [nmF, if_pos ⟨hk, hr⟩]
        rw [hm]
        rw [if_neg hr] at k1
        have h30 : ((3 : Int) == 0) = false := rfl
        refine orc_of ?_
        rw [e6n7]
        simp only [STL, ↓reduceIte, Int.reduceBEq, Int.reduceEq, h1, h0, and_self, encF_len, encF_get g1, hkb, k1, h30]
theorem nm_none {k : Int} : ∀ {nums : List Fr} {i : Nat}, nmF k nums (i : Int) = none → ∀ j x, nums[j]? = some x → ((i + j : Nat) : Int) ≠ k → FrR x
  | [], _, _, j, x, h, _ => by simp at h
  | y :: nums, i, hn, j, x, h, hj => by
    rw [nmF] at hn
    split at hn
    · cases hn
    · rename_i hc
      cases j with
      | zero =>
        simp only [List.getElem?_cons_zero, Option.some.injEq] at h
        subst h
        rcases Decidable.em (FrR y) with h' | h'
        · exact h'
        · exact absurd ⟨by simpa using hj, h'⟩ hc
      | succ j =>
        have hcast : ((i : Int) + 1) = ((i + 1 : Nat) : Int) := by omega
        rw [hcast] at hn
        exact nm_none hn j x (by simpa using h) (by rw [show i + 1 + j = i + (j + 1) from by omega]; exact hj)
theorem okn_of {k : Nat} {nums : List Fr} (h : nmF (k : Int) nums 0 = none) : OkN k nums := fun i x hi hx => by
  have := nm_none (i := 0) h i x hx (by omega)
  exact this.b
/-- Back tells a fault of what was handed in, or a number. -/
def backA (n k : Int) (rows : List R) (nums : List Fr) : List T :=
  if (chkK n k rows).1 = 0 then (if (nums.length : Int) = n then (match nmF k nums 0 with | some j => [ti 0, ti 0, ti 5, ti j] | none => backF k.toNat nums (ups n.toNat k.toNat rows 0) (dns n.toNat k.toNat rows 0)) else [ti 0, ti 0, ti 9, ti 0]) else [ti 0, ti 0, ti (chkK n k rows).1, ti (chkK n k rows).2]
theorem s6p (rows : List R) (e en : Bool) (n k : Int) (nums : List Fr) (hr : ∀ r ∈ rows, r.e = true → r.of = []) : Or (.call 6) [LR e rows, I n, I k, LN en nums] [] = some (backA n k rows nums) := by
  have k1 := s15 rows e n k hr
  unfold backA
  by_cases hK : (chkK n k rows).1 = 0
  · rw [if_pos hK]
    have hc : (chkN n rows).1 = 0 := by
      unfold chkK at hK
      split at hK
      · rename_i h; exact h
      · exact hK
    obtain ⟨n0, n12, hl, ok⟩ := chkN_ok hr hc
    have hk : ¬ (k < 0 ∨ k ≥ n) := by
      intro h
      unfold chkK at hK
      rw [if_pos hc, if_pos h] at hK
      simp at hK
    by_cases hn : (nums.length : Int) = n
    · rw [if_pos hn]
      obtain ⟨n, rfl⟩ := Int.eq_ofNat_of_zero_le n0
      obtain ⟨k, rfl⟩ := Int.eq_ofNat_of_zero_le (show 0 ≤ k by omega)
      rw [Int.toNat_natCast] at ok
      have hkn : k < n := by omega
      have hnl : n = nums.length := by omega
      have := n6n rows e en (n : Int) (k : Int) nums (by omega) (backF k nums (ups n k rows 0) (dns n k rows 0)) (fun h => n6p rows e en n k nums (by omega) hkn hnl ok hl (okn_of h)) nums 0 rfl (by omega) rfl
      refine orc_of ?_
      rw [e6]
      simp only [STL, ↓reduceIte, Int.reduceBEq, Int.reduceEq, k1, hK, encF_len, hn]
      rw [hn] at this
      exact this
    · rw [if_neg hn]
      refine orc_of ?_
      rw [e6]
      simp only [STL, ↓reduceIte, Int.reduceBEq, Int.reduceEq, k1, hK, encF_len, hn]
  · rw [if_neg hK]
    refine orc_of ?_
    rw [e6]
    simp only [STL, ↓reduceIte, Int.reduceBEq, Int.reduceEq, k1, hK]
open Go Go.Aev Go.Aev.Gen Go.Aev.Wd

theorem inv_frac {q : Rat} (hq : q ≠ 0) : Rat.divInt (q.den : Int) q.num = q⁻¹ := by
  conv => rhs; rw [← Rat.num_divInt_den q]
  rw [Rat.inv_divInt]
theorem g121 {q : Rat} {x : T} (hx : WR q x) (lq : LQ q) (hq : q ≠ 0) : SetsQ q⁻¹ (Or (.call 121) [r0, AV.t x] [z4]) := by
  obtain ⟨a, a1, a2⟩ := g74 hx lq
  obtain ⟨b, b1, b2⟩ := g75 hx lq
  obtain ⟨s1, e1, D1, s2, e2, D2, k1, k2, k3⟩ := g61 false (T.emp true) false (T.emp true) true [] le0 b2 a2 lq.2 lq.1 (num_ne hq)
  rw [inv_frac hq] at k2 k3
  obtain ⟨_, _, _, _, _, _, rfl, _, _⟩ := hx
  refine ⟨s1, e1, D1, s2, e2, D2, orc_of ?_, k2, k3⟩
  rw [eq121]
  simp only [STL, ↓reduceIte, Int.reduceBEq, Int.reduceEq, a1, b1, k1]
theorem inv_QB {m : Nat} {q : Rat} (h : QB m q) (hq : q ≠ 0) : QB m q⁻¹ := by
  rw [← inv_frac hq]
  exact QB.divInt (num_ne hq) (by rw [Int.natAbs_natCast]; exact h.2) h.1
theorem g101 {m k : Nat} {p q : Rat} {x y : T} (hx : WR p x) (hy : WR q y) (hp : QB m p) (hq : QB k q) (h : m + k ≤ 6300) (h0 : q ≠ 0) : SetsQ (p / q) (Or (.call 101) [r0, AV.t x, AV.t y] [z4]) := by
  obtain ⟨s1, e1, D1, s2, e2, D2, k1, k2, k3⟩ := g121 hy (hq.lq (by omega)) h0
  obtain ⟨⟨t1, f1, E1, t2, f2, E2, j1, j2, j3⟩, _⟩ := mulQ hx (wr (e := e1) (e' := e2) k2 k3) hp (inv_QB hq h0) h
  rw [← Rat.div_def] at j2 j3
  obtain ⟨_, _, _, _, _, _, rfl, _, _⟩ := hx
  obtain ⟨_, _, _, _, _, _, rfl, _, _⟩ := hy
  refine ⟨t1, f1, E1, t2, f2, E2, orc_of ?_, j2, j3⟩
  rw [eq101]
  simp only [STL, ↓reduceIte, Int.reduceBEq, Int.reduceEq, k1, j1]
theorem n68 (of : List Int) (kd to : Int) (e en : Bool) (nums : List Fr) (k : Nat) (hx : ∀ x ∈ nums, FrB x) (hb : ∀ c ∈ of, -1000000 ≤ c ∧ c ≤ 1000000) (hl : of.length = nums.length) (hn : nums.length ≤ 12) (hk : k < nums.length) (h0 : of.getD k 0 ≠ 0) : ∀ (rest : List Int) (i m : Nat) (acc : Rat) (v : T), of.drop i = rest → WR acc v → QB m acc → m + 51 * rest.length ≤ 700 →
    ∃ y, Or Kq68n3 [I (k : Int), LN en nums, r0, AV.t v, I (i : Int)] [Blk.box [lst e of, I kd, I to]] = some [y] ∧ WR (rsQ k rest (nums.drop i) i acc / ((of.getD k 0 : Int) : Rat)) y := by
  have hkl : k < of.length := by omega
  have hcb := hb _ (List.mem_of_getElem? (getD_get hkl))
  have hne : ((of.getD k 0 : Int) : Rat) ≠ 0 := fun h => h0 (Rat.intCast_eq_zero_iff.1 h)
  intro rest
  induction rest with
  | nil =>
    intro i m acc v h hv ha hm
    have h1 : ¬ (i : Int) < (of.length : Int) := by have := at_end h; omega
    have hkr : 0 ≤ (k : Int) ∧ (k : Int) < (of.length : Int) := by omega
    obtain ⟨b, b1, b2⟩ := g43 (of.getD k 0) 1 (by unfold Sm; omega) (by unfold Sm; omega) (by omega)
    rw [div1] at b2
    obtain ⟨s1, e1, D1, s2, e2, D2, k1, k2, k3⟩ := g101 (m := m) (k := 20) hv b2 ha (int_QB (by omega)) (by omega) hne
    have hr : rsQ k [] (nums.drop i) i acc = acc := by cases nums.drop i <;> rfl
    rw [hr]
    refine ⟨_, orc_of ?_, wr (e := e1) (e' := e2) k2 k3⟩
    rw [eq68n3]
    simp only [STL, ↓reduceIte, Int.reduceBEq, Int.reduceEq, h1, enc_len, hkr, and_self, enc_get (getD_get hkl), b1, k1]
  | cons c rest ih =>
    intro i m acc v h hv ha hm
    obtain ⟨g1, g2, g3⟩ := at_drop h
    have h1 : (i : Int) < (of.length : Int) := by omega
    have h2 : (i : Int) < (nums.length : Int) := by omega
    have hi0 : 0 ≤ (i : Int) := by omega
    have hc := hb c (List.mem_of_getElem? g1)
    obtain ⟨x, hxi⟩ : ∃ x, nums[i]? = some x := ⟨_, List.getElem?_eq_getElem (by omega)⟩
    have hd : nums.drop i = x :: nums.drop (i + 1) := by
      rw [List.drop_eq_getElem_cons (by omega)]
      congr 1
      rw [List.getElem?_eq_getElem (by omega)] at hxi
      simpa using hxi
    simp only [List.length_cons] at hm
    rw [hd, rsQ]
    by_cases hik : i = k
    · subst hik
      rw [if_pos rfl]
      obtain ⟨y, y1, y2⟩ := ih (i + 1) m acc v g3 hv ha (by omega)
      refine ⟨y, orc_of ?_, y2⟩
      rw [eq68n3]
      simp only [STL, ↓reduceIte, Int.reduceBEq, Int.reduceEq, h1, enc_len, next i (by omega)]
      exact y1
    · have hik' : ¬ (i : Int) = (k : Int) := by omega
      rw [if_neg hik]
      have hxb := hx x (List.mem_of_getElem? hxi)
      have hfb := frQ_b hxb.1 hxb.2
      unfold FrB at hxb
      obtain ⟨a, a1, a2⟩ := g57 x.1 x.2 (by unfold Sm; omega) (by unfold Sm; omega) (by omega)
      obtain ⟨b, b1, b2⟩ := g43 c 1 (by unfold Sm; omega) (by unfold Sm; omega) (by omega)
      rw [div1] at b2
      obtain ⟨⟨s1, e1, D1, s2, e2, D2, k1, k2, k3⟩, kq⟩ := mulQ (m := 30) (k := 20) (p := frQ x) (q := (c : Rat)) a2 b2 hfb (int_QB (by omega)) (by omega)
      obtain ⟨⟨t1, f1, E1, t2, f2, E2, j1, j2, j3⟩, jq⟩ := subQ (m := m) (k := 50) hv (wr (e := e1) (e' := e2) k2 k3) ha kq (by omega)
      obtain ⟨y, y1, y2⟩ := ih (i + 1) (m + 50 + 1) _ _ g3 (wr (e := f1) (e' := f2) j2 j3) jq (by omega)
      have hcm : (c : Rat) * frQ x = frQ x * (c : Rat) := Rat.mul_comm _ _
      rw [hcm]
      refine ⟨y, orc_of ?_, y2⟩
      rw [eq68n3]
      simp only [STL, ↓reduceIte, Int.reduceBEq, Int.reduceEq, h1, h2, hi0, and_self, enc_len, enc_get g1, hik', encF_len, encF_get hxi, a1, b1, k1, j1, next i (by omega)]
      exact y1
theorem s68 (r : R) (b : Bn) (n k : Nat) (en : Bool) (nums : List Fr) (hx : ∀ x ∈ nums, FrB x) (ok : OkB n k b) (ho : r.of = b.of) (ht : r.tv = b.to) (hl : n = nums.length) (hn : nums.length ≤ 12) (hk : k < nums.length) (h0 : b.of.getD k 0 ≠ 0) :
    ∃ y, Or (.call 68) [AV.agg [lst r.e r.of, I r.kd, I r.tv], I (k : Int), LN en nums] [] = some [y] ∧ WR (bq b.of b.to k nums) y := by
  have hlen := ok.len
  have hto := ok.to
  rw [ho, ht]
  obtain ⟨a, a1, a2⟩ := g43 b.to 1 (by unfold Sm; omega) (by unfold Sm; omega) (by omega)
  rw [div1] at a2
  obtain ⟨y, y1, y2⟩ := n68 b.of r.kd b.to r.e en nums k hx ok.of (by omega) hn hk h0 b.of 0 20 (b.to : Rat) a rfl a2 (int_QB (by omega)) (by omega)
  refine ⟨y, orc_of ?_, y2⟩
  rw [eq68]
  simp only [STL, ↓reduceIte, Int.reduceBEq, Int.reduceEq, a1]
  exact y1
def bst (w : Int) (k : Nat) (nums : List Fr) : List Bn → Rat → Rat
  | [], q => q
  | b :: r, q => if btr w (bq b.of b.to k nums) q then bst w k nums r (bq b.of b.to k nums) else bst w k nums r q
def lsF (k : Nat) (nums : List Fr) (q : Rat) (bs : List Bn) : Bool := bs.any fun b => b.less && decide (bq b.of b.to k nums = q)
theorem btr_irr {w : Int} {q : Rat} : ¬ btr w q q := by unfold btr; split <;> exact Rat.lt_irrefl
theorem bst_le {w : Int} {k : Nat} {nums : List Fr} : ∀ (bs : List Bn) (q : Rat), ¬ btr w q (bst w k nums bs q)
  | [], q => btr_irr
  | b :: bs, q => by
    rw [bst]
    split
    · rename_i h
      intro h'
      have h2 := bst_le (w := w) (k := k) (nums := nums) bs (bq b.of b.to k nums)
      -- q better than the best, the best no worse than b, b better than q
      exact h2 (by
        unfold btr at *
        split
        · rename_i hw; rw [if_pos hw] at h h'; grind
        · rename_i hw; rw [if_neg hw] at h h'; grind)
    · exact bst_le bs q
theorem tg_bst {w : Int} {k : Nat} {nums : List Fr} (hw : w = 1 ∨ w = -1) : ∀ (bs : List Bn) (q : Rat) (s : Bool), (tgF w k nums bs q s).1 = bst w k nums bs q ∧ (tgF w k nums bs q s).2 = ((s && decide (q = bst w k nums bs q)) || lsF k nums (bst w k nums bs q) bs)
  | [], q, s => by simp [tgF, bst, lsF]
  | b :: bs, q, s => by
    rw [tgF, bst]
    have hcons : ∀ z, lsF k nums z (b :: bs) = ((b.less && decide (bq b.of b.to k nums = z)) || lsF k nums z bs) := fun z => rfl
    rw [hcons]
    by_cases hb : btr w (bq b.of b.to k nums) q
    · rw [if_pos hb, if_pos hb]
      obtain ⟨i1, i2⟩ := tg_bst hw bs (bq b.of b.to k nums) b.less
      refine ⟨i1, ?_⟩
      rw [i2]
      have hne : ¬ q = bst w k nums bs (bq b.of b.to k nums) := by
        intro h
        have := bst_le (w := w) (k := k) (nums := nums) bs (bq b.of b.to k nums)
        rw [← h] at this
        exact this hb
      simp [hne]
    · rw [if_neg hb, if_neg hb]
      by_cases he : bq b.of b.to k nums = q
      · rw [if_pos he]
        obtain ⟨i1, i2⟩ := tg_bst hw bs q (s || b.less)
        refine ⟨i1, ?_⟩
        rw [i2, he]
        cases s <;> cases b.less <;> cases decide (q = bst w k nums bs q) <;> simp
      · rw [if_neg he]
        obtain ⟨i1, i2⟩ := tg_bst hw bs q s
        refine ⟨i1, ?_⟩
        rw [i2]
        have hne : ¬ bq b.of b.to k nums = bst w k nums bs q := by
          intro h
          have := bst_le (w := w) (k := k) (nums := nums) bs q
          rw [← h] at this
          apply he
          unfold btr at hb this
          rcases hw with rfl | rfl
          · rw [if_pos rfl] at hb this; exact Rat.le_antisymm (Rat.not_lt.1 this) (Rat.not_lt.1 hb)
          · rw [if_neg (by decide)] at hb this; exact Rat.le_antisymm (Rat.not_lt.1 hb) (Rat.not_lt.1 this)
        simp [hne]
open Go Go.Aev Go.Aev.Gen Go.Aev.Wd

section
variable (U : List R) (bs : List Bn) (eu en : Bool) (n k : Nat) (nums : List Fr)
end
theorem rs_set (k : Nat) (y : Fr) : ∀ (of : List Int) (xs : List Fr) (i : Nat) (acc : Rat), i ≤ k → rsQ k of (xs.set (k - i) y) i acc = rsQ k of xs i acc
  | [], xs, i, acc, _ => by
    have : ∀ l : List Fr, rsQ k [] l i acc = acc := fun l => by cases l <;> rfl
    rw [this, this]
  | c :: of, [], i, acc, _ => rfl
  | c :: of, x :: xs, i, acc, hi => by
    by_cases h : i = k
    · subst h
      rw [Nat.sub_self, List.set_cons_zero, rsQ, rsQ, if_pos rfl, if_pos rfl]
    · obtain ⟨m, hm⟩ : ∃ m, k - i = m + 1 := ⟨k - i - 1, by omega⟩
      rw [hm, List.set_cons_succ, rsQ, rsQ, if_neg h]
      have := rs_set k y of xs (i + 1) (acc - (c : Rat) * frQ x) (by omega)
      rw [show k - (i + 1) = m from by omega] at this
      exact this
theorem bq_set (of : List Int) (to : Int) (k : Nat) (nums : List Fr) (y : Fr) : bq of to k (nums.set k y) = bq of to k nums := by
  unfold bq
  have := rs_set k y of nums 0 (to : Rat) (by omega)
  rw [Nat.sub_zero] at this
  rw [this]
theorem frac_ex (q : Rat) : ∃ a b c d, fracF q = [ti a, ti b, ti c, ti d] := by
  by_cases h : fitQ q = true
  · exact ⟨_, _, _, _, frac_y h⟩
  · exact ⟨_, _, _, _, frac_n h⟩
theorem encF_set {l : List Fr} {i : Nat} (hi : i < l.length) (x : Fr) : storeIn i 0 [ti x.1, ti x.2] (encF l) = some (encF (l.set i x)) := by
  have h1 : (encF l)[i]? = some [ti l[i].1, ti l[i].2] := by
    have := encF_get (List.getElem?_eq_getElem hi)
    rwa [Int.toNat_natCast] at this
  simp only [storeIn, h1]
  simp [repl, encF, List.map_set]
end Go.Aev.Wd.Lg
