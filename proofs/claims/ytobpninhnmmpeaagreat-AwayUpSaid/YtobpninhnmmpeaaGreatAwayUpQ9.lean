import Derived.Test.YtobpninhnmmpeaaGreatAwayUpQ5
set_option linter.unusedSimpArgs false
set_option linter.unusedVariables false
namespace Go.Aev.Gen
open Go Go.Aev

abbrev fl (p : Int × Int) : Option (List T) := some [ti p.1, ti p.2]
theorem s8 (a b : Int) : Or (.call 8) [I a, I b] [] = some [ti a, ti b] := orc_of (by rw [e8])
theorem s43 (a : Int) : Or (.call 57) [I a] [] = some [tb (decide (a ≤ 1000000 ∧ a ≥ -1000000))] := by
  refine orc_of ?_
  rw [e43]
  simp only [cand, ← Bool.decide_and]
theorem s74 (c : Int) : Or (.call 108) [I c] [] = some [tb (decide (c ≥ -1000000 ∧ c ≤ 1000000))] := by
  refine orc_of ?_
  rw [e74]
  simp only [cand, ← Bool.decide_and]
theorem s73e (l : List Int) (e : Bool) (he : e = true → l = []) (hl : l.length ≤ 1000) : ∃ x e', Or (.call 86) [lst e l] [] = some [x] ∧ x.lst? 1 = some (e', enc l) ∧ (e' = true → l = []) := by
  cases e with
  | true =>
    obtain rfl := he rfl
    exact ⟨T.emp true, true, orc_of (by rw [e73]; simp only [STL, ↓reduceIte, Int.reduceBEq, Int.reduceEq]), by simp [T.lst?, enc], fun _ => rfl⟩
  | false =>
    refine ⟨T.lst 1 false (enc l), false, orc_of ?_, ls1 _ _ _, fun h => by cases h⟩
    have : small 8 (0 + l.length) = some () := small_ok (by omega)
    rw [e73]
    simp only [STL, ↓reduceIte, Int.reduceBEq, Int.reduceEq, enc_len, this]
theorem s73 (l : List Int) (e : Bool) (he : e = true → l = []) (hl : l.length ≤ 1000) : ∃ x e', Or (.call 86) [lst e l] [] = some [x] ∧ x.lst? 1 = some (e', enc l) := by
  obtain ⟨x, e', a, b, _⟩ := s73e l e he hl
  exact ⟨x, e', a, b⟩
def chkI : List Int → Nat → Int × Int
  | [], _ => (0, 0)
  | x :: r, i => if x ≥ -1000000 ∧ x ≤ 1000000 then chkI r (i + 1) else (3, (i : Int))
def chkR (n : Nat) (r : R) : Int × Int :=
  if (¬ r.kd = 1 ∧ ¬ r.kd = 2) ∧ ¬ r.kd = 3 then (4, 0) else if r.of.length > n then (9, 0) else chkI (r.of ++ [r.tv]) 0
def chkRs (n : Nat) : List R → Nat → Int × Int
  | [], _ => (0, 0)
  | r :: rs, i => if (chkR n r).1 = 0 then chkRs n rs (i + 1) else ((chkR n r).1, (i : Int))
def chkT (n : Nat) (rows : List R) : Int × Int := if rows.length > 40 then (2, 0) else chkRs n rows 0
theorem n33x (xs : List Int) (e : Bool) (hn : xs.length ≤ 1000) : ∀ (rest : List Int) (i : Nat), xs.drop i = rest → Or K33n8 [r0, o1, I (xs.length : Int), I (i : Int)] [Blk.box [I 0, I 0], Blk.sl false 1 e (enc xs)] = fl (chkI rest i) := by
  intro rest
  induction rest with
  | nil =>
    intro i h
    refine orc_of ?_
    rw [e33n8]
    have h1 : ¬ (i : Int) < (xs.length : Int) := by have := at_end h; omega
    simp only [STL, ↓reduceIte, Int.reduceBEq, Int.reduceEq, h1, chkI]
  | cons x rest ih =>
    intro i h
    obtain ⟨g1, g2, g3⟩ := at_drop h
    have h1 : (i : Int) < (xs.length : Int) := by omega
    have h0 : 0 ≤ (i : Int) := by omega
    refine orc_of ?_
    rw [e33n8, chkI]
    by_cases hb : x ≥ -1000000 ∧ x ≤ 1000000
    · simp only [STL, ↓reduceIte, Int.reduceBEq, Int.reduceEq, h1, h0, and_self, enc_len, enc_get g1, s74, hb, decide_true, Bool.not_true, next i (by omega), ih (i + 1) g3]
    · simp only [STL, ↓reduceIte, Int.reduceBEq, Int.reduceEq, h1, h0, and_self, enc_len, enc_get g1, s74, hb, decide_false, Bool.not_false]
theorem s33x (r : R) (n : Nat) (hn : n ≤ 12) (he : r.e = true → r.of = []) : Or (.call 78) [AV.agg [lst r.e r.of, I r.kd, I r.tv], I (n : Int)] [] = fl (chkR n r) := by
  have h1 : ¬ ((n : Int) < 0 ∨ (n : Int) > 12) := by omega
  refine orc_of ?_
  rw [e33]
  unfold chkR
  by_cases hk : (¬ r.kd = 1 ∧ ¬ r.kd = 2) ∧ ¬ r.kd = 3
  · simp only [cor, cand, beq_dec, ← decide_not, ← Bool.decide_or, ← Bool.decide_and]
    simp only [STL, ↓reduceIte, Int.reduceBEq, Int.reduceEq, h1, hk, not_false_eq_true, and_self]
  · rw [if_neg hk]
    by_cases hl : (r.of.length : Int) > (n : Int)
    · rw [if_pos (by omega)]
      simp only [cor, cand, beq_dec, ← decide_not, ← Bool.decide_or, ← Bool.decide_and]
      simp only [STL, ↓reduceIte, Int.reduceBEq, Int.reduceEq, h1, hk, enc_len, hl]
    · rw [if_neg (by omega)]
      obtain ⟨x, e', k1, k2⟩ := s73 r.of r.e he (by omega)
      have k3 := n33x (r.of ++ [r.tv]) (e' && false) (by simp; omega) (r.of ++ [r.tv]) 0 rfl
      have hap : enc r.of ++ [[ti r.tv]] = enc (r.of ++ [r.tv]) := by simp [enc]
      have hs : small 8 (r.of.length + [[ti r.tv]].length) = some () := small_ok (by simp; omega)
      simp only [Bool.and_false] at k3
      simp only [cor, cand, beq_dec, ← decide_not, ← Bool.decide_or, ← Bool.decide_and]
      simp only [STL, ↓reduceIte, Int.reduceBEq, Int.reduceEq, h1, hk, enc_len, hl, k1, k2, hs, hap]
      exact k3
theorem n19x (of : List Int) (e : Bool) (kd tv : Int) (hn : of.length ≤ 1000) : ∀ (rest : List Int) (i : Nat), of.drop i = rest → i ≤ of.length → Or K19n8 [r0, AV.ref (Id.c 1) 0, I (i : Int)] [Blk.box [lst e of, I kd, I tv], Blk.box [I 0, I 0]] = fl (chkI (rest ++ [tv]) i) := by
  intro rest
  induction rest with
  | nil =>
    intro i h hi
    have hle := at_end h
    obtain rfl : i = of.length := by omega
    have h1 : ¬ (of.length : Int) < (of.length : Int) := by omega
    refine orc_of ?_
    rw [e19n8]
    simp only [List.nil_append, chkI]
    by_cases ha : tv ≤ 1000000 ∧ tv ≥ -1000000
    · have hx : tv ≥ -1000000 ∧ tv ≤ 1000000 := by omega
      simp only [STL, ↓reduceIte, Int.reduceBEq, Int.reduceEq, enc_len, h1, s43, ha, hx, and_self, decide_true]
    · have hx : ¬ (tv ≥ -1000000 ∧ tv ≤ 1000000) := by omega
      simp only [STL, ↓reduceIte, Int.reduceBEq, Int.reduceEq, enc_len, h1, s43, ha, hx, decide_false, s8]
  | cons x rest ih =>
    intro i h hi
    obtain ⟨g1, g2, g3⟩ := at_drop h
    have h1 : (i : Int) < (of.length : Int) := by omega
    have h0 : 0 ≤ (i : Int) := by omega
    refine orc_of ?_
    rw [e19n8, List.cons_append, chkI]
    by_cases ha : x ≤ 1000000 ∧ x ≥ -1000000
    · have hx : x ≥ -1000000 ∧ x ≤ 1000000 := by omega
      simp only [STL, ↓reduceIte, Int.reduceBEq, Int.reduceEq, h1, h0, and_self, enc_len, enc_get g1, s43, ha, hx, decide_true, next i (by omega), ih (i + 1) g3 (by omega)]
    · have hx : ¬ (x ≥ -1000000 ∧ x ≤ 1000000) := by omega
      simp only [STL, ↓reduceIte, Int.reduceBEq, Int.reduceEq, h1, h0, and_self, enc_len, enc_get g1, s43, ha, hx, decide_false, s8]
theorem s19x (r : R) (n : Nat) (hn : n ≤ 12) : Or (.call 25) [AV.agg [lst r.e r.of, I r.kd, I r.tv], I (n : Int)] [] = fl (chkR n r) := by
  have h1 : ¬ ((n : Int) < 0 ∨ (n : Int) > 12) := by omega
  refine orc_of ?_
  rw [e19]
  unfold chkR
  by_cases hk : (¬ r.kd = 1 ∧ ¬ r.kd = 2) ∧ ¬ r.kd = 3
  · simp only [cor, cand, beq_dec, ← decide_not, ← Bool.decide_or, ← Bool.decide_and]
    simp only [STL, ↓reduceIte, Int.reduceBEq, Int.reduceEq, h1, hk, not_false_eq_true, and_self, s8]
  · rw [if_neg hk]
    by_cases hl : (r.of.length : Int) > (n : Int)
    · rw [if_pos (by omega)]
      simp only [cor, cand, beq_dec, ← decide_not, ← Bool.decide_or, ← Bool.decide_and]
      simp only [STL, ↓reduceIte, Int.reduceBEq, Int.reduceEq, h1, hk, enc_len, hl, s8]
    · rw [if_neg (by omega)]
      have k3 := n19x r.of r.e r.kd r.tv (by omega) r.of 0 rfl (by omega)
      simp only [cor, cand, beq_dec, ← decide_not, ← Bool.decide_or, ← Bool.decide_and]
      simp only [STL, ↓reduceIte, Int.reduceBEq, Int.reduceEq, h1, hk, enc_len, hl]
      exact k3
theorem n25x (rows : List R) (n : Nat) (e : Bool) (hn : n ≤ 12) (hr : ∀ r ∈ rows, r.e = true → r.of = []) (hlen : rows.length ≤ 1000) : ∀ (rest : List R) (i : Nat), rows.drop i = rest →
    Or K25n6 [I (n : Int), r0, LR e rows, I (rows.length : Int), I (i : Int)] [Blk.box [I 0, I 0]] = fl (chkRs n rest i) := by
  intro rest
  induction rest with
  | nil =>
    intro i h
    refine orc_of ?_
    rw [e25n6]
    have h1 : ¬ (i : Int) < (rows.length : Int) := by have := at_end h; omega
    simp only [STL, ↓reduceIte, Int.reduceBEq, Int.reduceEq, h1, chkRs]
  | cons r rest ih =>
    intro i h
    obtain ⟨g1, g2, g3⟩ := at_drop h
    have h1 : (i : Int) < (rows.length : Int) := by omega
    have h0 : 0 ≤ (i : Int) := by omega
    have k1 := s33x r n hn (hr r (List.mem_of_getElem? g1))
    refine orc_of ?_
    rw [e25n6, chkRs]
    by_cases hc : (chkR n r).1 = 0
    · rw [if_pos hc]
      simp only [STL, ↓reduceIte, Int.reduceBEq, Int.reduceEq, h1, h0, and_self, eRs_len, eRs_get g1, k1, hc, next i (by omega), ih (i + 1) g3]
    · rw [if_neg hc]
      simp only [STL, ↓reduceIte, Int.reduceBEq, Int.reduceEq, h1, h0, and_self, eRs_len, eRs_get g1, k1, hc]
theorem s25x (rows : List R) (n : Nat) (e : Bool) (hn : n ≤ 12) (hr : ∀ r ∈ rows, r.e = true → r.of = []) : Or (.call 42) [LR e rows, I (n : Int)] [] = fl (chkT n rows) := by
  have h1 : ¬ ((n : Int) < 0 ∨ (n : Int) > 12) := by omega
  refine orc_of ?_
  rw [e25]
  unfold chkT
  simp only [cor, ← Bool.decide_or]
  by_cases h40 : (rows.length : Int) > 40
  · rw [if_pos (by omega)]
    simp only [STL, ↓reduceIte, Int.reduceBEq, Int.reduceEq, h1, eRs_len, h40]
  · rw [if_neg (by omega)]
    simp only [STL, ↓reduceIte, Int.reduceBEq, Int.reduceEq, h1, eRs_len, h40]
    exact n25x rows n e hn hr (by omega) rows 0 rfl
open Go Go.Aev

def Bd (b : Int) (l : List Int) : Prop := ∀ x ∈ l, -b ≤ x ∧ x ≤ b
theorem inB_ok {lo hi n : Int} (h : 0 ≤ lo ∧ lo ≤ hi ∧ hi ≤ n) : inB lo hi n = some () := by unfold inB; rw [if_pos h]
theorem sub_enc (l : List Int) (j : Nat) : sub 0 (j : Int) (enc l) = enc (l.take j) := by
  simp [sub, enc, List.map_take]
theorem enc_set {l : List Int} {i : Nat} (hi : i < l.length) (v : Int) : storeIn (i : Int).toNat 0 [ti v] (enc l) = some (enc (l.set i v)) := by
  have h1 : (enc l)[((i : Nat) : Int).toNat]? = some [ti l[i]] := enc_get (List.getElem?_eq_getElem hi)
  simp only [storeIn, h1]
  simp [repl, enc, List.map_set]
theorem set_mid (a : List Int) (b v : Int) (r : List Int) (i : Nat) (h : a.length = i) : (a ++ b :: r).set i v = a ++ v :: r := by
  subst h; simp
def bzN (l : List Int) : Nat → Nat
  | 0 => 0
  | k + 1 => if l.getD k 0 = 0 then bzN l k else k + 1
def bz (l : List Int) : List Int := l.take (bzN l l.length)
theorem bz_len (l : List Int) : (bz l).length ≤ l.length := by unfold bz; rw [List.length_take]; omega
theorem bz_bd {b : Int} {l : List Int} (h : Bd b l) : Bd b (bz l) := fun x hx => h x (List.mem_of_mem_take hx)
theorem take_get {l : List Int} {k : Nat} (hk : k < l.length) : (l.take (k + 1))[k]? = some (l.getD k 0) := by
  rw [List.getElem?_take, if_pos (by omega), List.getElem?_eq_getElem hk]
  simp [List.getD_eq_getElem?_getD, hk]
theorem take_len {l : List Int} {k : Nat} (hk : k ≤ l.length) : (l.take k).length = k := by rw [List.length_take]; omega
theorem n34 (e : Bool) (l : List Int) (he : e = true → l = []) (hn : l.length ≤ 1000) : ∀ k, k ≤ l.length → ∃ e', (e' = true → l.take (bzN l k) = []) ∧ Or K34n1 [lst e (l.take k)] [] = some [T.lst 1 e' (enc (l.take (bzN l k)))]
  | 0, hk => by
    obtain ⟨x, e', k1, k2, k3⟩ := s73e [] e (fun _ => rfl) (by simp)
    refine ⟨e', fun _ => by simp [bzN], orc_of ?_⟩
    rw [e34n1]
    have h0 : ¬ ((0 : Nat) : Int) > 0 := by omega
    simp only [List.take_zero, bzN]
    simp only [STL, ↓reduceIte, Int.reduceBEq, Int.reduceEq, gdF, enc_len, List.length_nil, h0, decide_false, k1, k2]
  | k + 1, hk => by
    obtain ⟨e1, ihe, ih⟩ := n34 e l he hn k (by omega)
    have h0 : ((k + 1 : Nat) : Int) > 0 := by omega
    have hw : IntKind.i64.wrap (((k + 1 : Nat) : Int) - 1) = (k : Int) := by rw [wr (by omega)]; omega
    have h2 : 0 ≤ (k : Int) ∧ (k : Int) < ((k + 1 : Nat) : Int) := by omega
    have hi : inB 0 (k : Int) ((k + 1 : Nat) : Int) = some () := inB_ok (by omega)
    have hg := enc_get (take_get (l := l) (k := k) (by omega))
    have ht : (l.take (k + 1)).take k = l.take k := by rw [List.take_take]; congr 1; omega
    rw [bzN]
    by_cases hz : l.getD k 0 = 0
    · rw [if_pos hz]
      refine ⟨e1, ihe, orc_of ?_⟩
      rw [e34n1]
      simp only [STL, ↓reduceIte, Int.reduceBEq, Int.reduceEq, enc_len, take_len hk, h0, decide_true, hw, h2, and_self, hg, hz, hi, sub_enc, ht]
      exact ih
    · rw [if_neg hz]
      obtain ⟨x, e', k1, k2, k3⟩ := s73e (l.take (k + 1)) e (fun h => by rw [he h]; simp) (by rw [take_len hk]; omega)
      refine ⟨e', k3, orc_of ?_⟩
      rw [e34n1]
      simp only [STL, ↓reduceIte, Int.reduceBEq, Int.reduceEq, enc_len, take_len hk, h0, decide_true, hw, h2, and_self, hg, hz, k1, k2]
theorem s34 (e : Bool) (l : List Int) (he : e = true → l = []) (hn : l.length ≤ 1000) : ∃ e', (e' = true → bz l = []) ∧ Or (.call 79) [lst e l] [] = some [T.lst 1 e' (enc (bz l))] := by
  obtain ⟨e', k3, this⟩ := n34 e l he hn l.length (Nat.le_refl _)
  rw [List.take_length] at this
  refine ⟨e', k3, orc_of ?_⟩
  rw [e34]
  exact this
def gl (g : Nat) : List Int → Nat
  | [] => g
  | x :: l => gl (Nat.gcd g x.natAbs) l
theorem natAbs_tmod (a b : Int) : (a.tmod b).natAbs = a.natAbs % b.natAbs := Int.natAbs_tmod a b
theorem gcd_tmod (a b : Int) : Nat.gcd b.natAbs (a.tmod b).natAbs = Nat.gcd a.natAbs b.natAbs := by
  rw [natAbs_tmod, Nat.gcd_comm b.natAbs, ← Nat.gcd_rec, Nat.gcd_comm]
theorem n36 : ∀ (m : Nat) (a b : Int), b.natAbs ≤ m → -1000000000000000 ≤ a ∧ a ≤ 1000000000000000 → -1000000000000000 ≤ b ∧ b ≤ 1000000000000000 → Or K36n1 [I a, I b] [] = some [ti (Nat.gcd a.natAbs b.natAbs : Nat)]
  | m, a, b, hm, ha, hb => by
    refine orc_of ?_
    rw [e36n1]
    by_cases h0 : b = 0
    · subst h0
      have hw : IntKind.i64.wrap (0 - a) = -a := by rw [wr (by omega)]; omega
      have : mm true a (-a) = ((Nat.gcd a.natAbs (0 : Int).natAbs : Nat) : Int) := by
        rw [mm_max, Int.natAbs_zero, Nat.gcd_zero_right]; omega
      simp only [STL, ↓reduceIte, Int.reduceBEq, Int.reduceEq, hw, this]
    · have ht := natAbs_tmod a b
      have hlt : (a.tmod b).natAbs < b.natAbs := by rw [ht]; exact Nat.mod_lt _ (by omega)
      match m with
      | 0 => omega
      | m + 1 =>
        have := n36 m b (a.tmod b) (by omega) hb (by omega)
        rw [gcd_tmod] at this
        simp only [STL, ↓reduceIte, Int.reduceBEq, Int.reduceEq, h0]
        exact this
theorem s36 (a b : Int) (ha : -1000000000000000 ≤ a ∧ a ≤ 1000000000000000) (hb : -1000000000000000 ≤ b ∧ b ≤ 1000000000000000) : Or (.call 81) [I a, I b] [] = some [ti (Nat.gcd a.natAbs b.natAbs : Nat)] :=
  orc_of (by rw [e36]; exact n36 b.natAbs a b (Nat.le_refl _) ha hb)
theorem n41 : ∀ (m : Nat) (a b : Int), b.natAbs ≤ m → -1000000000000000 ≤ a ∧ a ≤ 1000000000000000 → -1000000000000000 ≤ b ∧ b ≤ 1000000000000000 → Or K41n1 [I a, I b] [] = some [ti (Nat.gcd a.natAbs b.natAbs : Nat)]
  | m, a, b, hm, ha, hb => by
    refine orc_of ?_
    rw [e41n1]
    by_cases h0 : b = 0
    · subst h0
      have hw : IntKind.i64.wrap (0 - a) = -a := by rw [wr (by omega)]; omega
      have : mm true a (-a) = ((Nat.gcd a.natAbs (0 : Int).natAbs : Nat) : Int) := by
        rw [mm_max, Int.natAbs_zero, Nat.gcd_zero_right]; omega
      simp only [STL, ↓reduceIte, Int.reduceBEq, Int.reduceEq, hw, this]
    · have ht := natAbs_tmod a b
      have hlt : (a.tmod b).natAbs < b.natAbs := by rw [ht]; exact Nat.mod_lt _ (by omega)
      match m with
      | 0 => omega
      | m + 1 =>
        have := n41 m b (a.tmod b) (by omega) hb (by omega)
        rw [gcd_tmod] at this
        simp only [STL, ↓reduceIte, Int.reduceBEq, Int.reduceEq, h0]
        exact this
theorem s41 (a b : Int) (ha : -1000000000000000 ≤ a ∧ a ≤ 1000000000000000) (hb : -1000000000000000 ≤ b ∧ b ≤ 1000000000000000) : Or (.call 83) [I a, I b] [] = some [ti (Nat.gcd a.natAbs b.natAbs : Nat)] :=
  orc_of (by rw [e41]; exact n41 b.natAbs a b (Nat.le_refl _) ha hb)
theorem gl_le {b : Nat} : ∀ {l : List Int} {g : Nat}, g ≤ b → Bd b l → gl g l ≤ b
  | [], g, hg, _ => hg
  | x :: l, g, hg, hl => by
    rw [gl]
    refine gl_le ?_ (fun y hy => hl y (List.mem_cons_of_mem _ hy))
    have h1 := hl x List.mem_cons_self
    rcases Nat.eq_zero_or_pos g with h | h
    · subst h; rw [Nat.gcd_zero_left]; omega
    · exact Nat.le_trans (Nat.gcd_le_left _ h) hg
theorem gl_gcd : ∀ (l : List Int) (g : Nat), gl g l = Nat.gcd g (gl 0 l)
  | [], g => by simp [gl]
  | x :: l, g => by
    rw [gl, gl_gcd l, gl, gl_gcd l (Nat.gcd 0 _), Nat.gcd_zero_left, Nat.gcd_assoc]
theorem gl_dvd : ∀ {l : List Int} {g : Nat} {x : Int}, x ∈ l → (gl g l : Int) ∣ x
  | y :: l, g, x, hx => by
    rw [gl]
    rcases List.mem_cons.1 hx with rfl | h
    · rw [gl_gcd]
      exact Int.ofNat_dvd_left.2 (Nat.dvd_trans (Nat.gcd_dvd_left _ _) (Nat.gcd_dvd_right _ _))
    · exact gl_dvd h
theorem gl_dvd0 (l : List Int) (g : Nat) : gl g l ∣ g := by rw [gl_gcd]; exact Nat.gcd_dvd_left _ _
theorem gl_pos {l : List Int} {g : Nat} {x : Int} (hx : x ∈ l) (h0 : x ≠ 0) : 0 < gl g l := by
  rcases Nat.eq_zero_or_pos (gl g l) with h | h
  · have := gl_dvd (g := g) hx
    rw [h] at this
    exact absurd (by simpa using this) h0
  · exact h
open Go Go.Aev

def fnz : List Int → Int
  | [] => 0
  | x :: r => if x = 0 then fnz r else x
def sg (kd : Int) (l : List Int) : Int := if kd = 3 ∧ fnz l < 0 then -1 else 1
def noneF (kd tv : Int) : Int := if kd = 1 ∧ tv < 0 then -1 else if kd = 2 ∧ tv > 0 then 1 else if kd = 3 ∧ tv ≠ 0 then 1 else 0
def tidyF (of : List Int) (kd tv : Int) : List Int × Int :=
  if bz of = [] then ([], noneF kd tv) else
    ((bz of).map (fun x => sg kd (bz of) * (x / (gl tv.natAbs (bz of) : Int))), sg kd (bz of) * (tv / (gl tv.natAbs (bz of) : Int)))
def divL (g : Int) (l : List Int) : List Int := l.map (· / g)
theorem tdiv_dvd {a b : Int} (h : b ∣ a) : a.tdiv b = a / b := Int.tdiv_eq_ediv_of_dvd h
theorem div_bd {x g b : Int} (hg : 0 < g) (hx : -b ≤ x ∧ x ≤ b) (hb : 0 ≤ b) : -b ≤ x / g ∧ x / g ≤ b := by
  constructor
  · apply Int.le_ediv_of_mul_le hg
    have : -b * g ≤ -b * 1 := Int.mul_le_mul_of_nonpos_left (by omega) (by omega)
    omega
  · apply Int.ediv_le_of_le_mul hg
    have : b * 1 ≤ b * g := Int.mul_le_mul_of_nonneg_left (by omega) (by omega)
    omega
theorem s35 (kd tv : Int) : Or (.call 80) [I kd, I tv] [] = some [T.emp true, ti kd, ti (noneF kd tv)] := by
  refine orc_of ?_
  rw [e35]
  unfold noneF
  simp only [cand, beq_dec, ← decide_not, ← Bool.decide_and]
  by_cases h1 : kd = 1 ∧ tv < 0
  · simp only [STL, ↓reduceIte, Int.reduceBEq, Int.reduceEq, h1, and_self]
  · rw [if_neg h1]
    by_cases h2 : kd = 2 ∧ tv > 0
    · have : ¬ (kd = 1 ∧ tv < 0) := h1
      simp only [STL, ↓reduceIte, Int.reduceBEq, Int.reduceEq, this, h2, and_self]
      simp only [Int.reduceEq, false_and, ↓reduceIte]
    · rw [if_neg h2]
      by_cases h3 : kd = 3 ∧ tv ≠ 0
      · rw [if_pos h3]
        simp only [STL, ↓reduceIte, Int.reduceBEq, Int.reduceEq, h1, h2, h3, and_self, ne_eq, not_false_eq_true]
        simp only [Int.reduceEq, false_and, ↓reduceIte]
      · rw [if_neg h3]
        have h3' : ¬ (kd = 3 ∧ ¬ tv = 0) := h3
        simp only [STL, ↓reduceIte, Int.reduceBEq, Int.reduceEq, h1, h2, h3']
theorem n16g (B0 B1 B2 : Blk) (e : Bool) (l : List Int) (kd tv : Int) (e0 : Bool) (of : List Int) (e1 : Bool) (hb : Bd 1000000 l) (hn : l.length ≤ 1000) (res : List T)
    (h0 : B0 = Blk.box [lst e0 of, I kd, I tv]) (h1 : B1 = Blk.box [AV.t (T.emp e1), I 0, I 0]) (h2 : B2 = Blk.box [I 0, I 0]) : ∀ (rest : List Int) (i : Nat) (g : Nat), l.drop i = rest → g ≤ 1000000 →
    Or K16n14 [r0, AV.ref (Id.c 1) 0, AV.ref (Id.c 2) 0, AV.own (Id.c 3), I (gl g rest : Nat), I (l.length : Int), I 0] [B0, B1, B2, Blk.sl false 1 e (enc l)] = some res →
    Or K16n9 [r0, AV.ref (Id.c 1) 0, AV.ref (Id.c 2) 0, AV.own (Id.c 3), I (g : Int), AV.own (Id.c 3), I (l.length : Int), I (i : Int)] [B0, B1, B2, Blk.sl false 1 e (enc l)] = some res := by
  subst h0 h1 h2
  intro rest
  induction rest with
  | nil =>
    intro i g h hg hk
    refine orc_of ?_
    rw [e16n9]
    have h1 : ¬ (i : Int) < (l.length : Int) := by have := at_end h; omega
    simp only [STL, ↓reduceIte, Int.reduceBEq, Int.reduceEq, h1, enc_len]
    exact hk
  | cons x rest ih =>
    intro i g h hg hk
    obtain ⟨g1, g2, g3⟩ := at_drop h
    have h1 : (i : Int) < (l.length : Int) := by omega
    have h0 : 0 ≤ (i : Int) := by omega
    have hx := hb x (List.mem_of_getElem? g1)
    have k1 := s36 (g : Int) x (by omega) (by omega)
    rw [Int.natAbs_natCast] at k1
    have hle : Nat.gcd g x.natAbs ≤ 1000000 := by
      rcases Nat.eq_zero_or_pos g with h | h
      · subst h; rw [Nat.gcd_zero_left]; omega
      · exact Nat.le_trans (Nat.gcd_le_left _ h) hg
    have := ih (i + 1) (Nat.gcd g x.natAbs) g3 hle hk
    refine orc_of ?_
    rw [e16n9]
    simp only [STL, ↓reduceIte, Int.reduceBEq, Int.reduceEq, h1, h0, and_self, enc_len, enc_get g1, k1, next i (by omega)]
    exact this
theorem n16d (B0 B1 B2 : Blk) (e : Bool) (kd tv g : Int) (e0 : Bool) (of : List Int) (e1 : Bool) (hg : 0 < g) (res : List T) (len : Nat) (hn : len ≤ 1000)
    (h0 : B0 = Blk.box [lst e0 of, I kd, I tv]) (h1 : B1 = Blk.box [AV.t (T.emp e1), I 0, I 0]) (h2 : B2 = Blk.box [I 0, I 0]) : ∀ (rest done : List Int), done.length + rest.length = len → Bd 1000000 rest → (∀ x ∈ rest, g ∣ x) →
    Or K16n14 [r0, AV.ref (Id.c 1) 0, AV.ref (Id.c 2) 0, AV.own (Id.c 3), I g, I (len : Int), I (len : Int)] [B0, B1, B2, Blk.sl false 1 e (enc (done ++ divL g rest))] = some res →
    Or K16n14 [r0, AV.ref (Id.c 1) 0, AV.ref (Id.c 2) 0, AV.own (Id.c 3), I g, I (len : Int), I (done.length : Int)] [B0, B1, B2, Blk.sl false 1 e (enc (done ++ rest))] = some res := by
  subst h0 h1 h2
  intro rest
  induction rest with
  | nil =>
    intro done hl _ _ hk
    have : done.length = len := by simpa using hl
    simp only [divL, List.map_nil] at hk
    rw [this]
    exact hk
  | cons x rest ih =>
    intro done hl hb hd hk
    have hl' : done.length + (rest.length + 1) = len := by simpa using hl
    have h1 : (done.length : Int) < (len : Int) := by omega
    have h0 : 0 ≤ (done.length : Int) := by omega
    have hx := hb x List.mem_cons_self
    have hdx := hd x List.mem_cons_self
    have hq := div_bd hg hx (by omega)
    have hget : (done ++ x :: rest)[done.length]? = some x := by simp
    have hlen : (done.length : Int) < ((done ++ x :: rest).length : Int) := by simp; omega
    have hst : storeIn (done.length : Int).toNat 0 [ti (x / g)] (enc (done ++ x :: rest)) = some (enc ((done ++ [x / g]) ++ rest)) := by
      rw [enc_set (by simp), set_mid _ _ _ _ _ rfl]; simp
    have := ih (done ++ [x / g]) (by simp; omega) (fun y hy => hb y (List.mem_cons_of_mem _ hy)) (fun y hy => hd y (List.mem_cons_of_mem _ hy)) (by
      simpa [divL] using hk)
    rw [List.length_append, List.length_singleton] at this
    refine orc_of ?_
    rw [e16n14]
    have hg0 : ¬ g = 0 := by omega
    simp only [STL, ↓reduceIte, Int.reduceBEq, Int.reduceEq, h1, h0, and_self, enc_len, hlen, enc_get hget, hg0, tdiv_dvd hdx, wr (v := x / g) (by omega), hst, next done.length (by omega)]
    exact this
def fi : List Int → Nat → Int
  | [], _ => -1
  | x :: r, i => if x = 0 then fi r (i + 1) else (i : Int)
theorem s76 (x : Int) : Or (.call 110) [I x] [] = some [tb (!x == 0)] := orc_of (by rw [e76])
theorem n75 (e : Bool) (l : List Int) (hn : l.length ≤ 1000) : ∀ (rest : List Int) (i : Nat), l.drop i = rest → Or K75n2 [lst e l, AV.fn 110 [] [], I (l.length : Int), I (i : Int)] [] = some [ti (fi rest i)] := by
  intro rest
  induction rest with
  | nil =>
    intro i h
    refine orc_of ?_
    rw [e75n2]
    have h1 : ¬ (i : Int) < (l.length : Int) := by have := at_end h; omega
    simp only [STL, ↓reduceIte, Int.reduceBEq, Int.reduceEq, h1, fi]
  | cons x rest ih =>
    intro i h
    obtain ⟨g1, g2, g3⟩ := at_drop h
    have h1 : (i : Int) < (l.length : Int) := by omega
    have h0 : 0 ≤ (i : Int) := by omega
    refine orc_of ?_
    rw [e75n2, fi]
    by_cases hz : x = 0
    · subst hz
      simp only [STL, ↓reduceIte, Int.reduceBEq, Int.reduceEq, h1, h0, and_self, enc_len, enc_get g1, s76, next i (by omega), ih (i + 1) g3]
    · have hb : (x == 0) = false := by simpa using hz
      simp only [STL, ↓reduceIte, Int.reduceBEq, Int.reduceEq, h1, h0, and_self, enc_len, enc_get g1, s76, hb, hz]
theorem s75 (e : Bool) (l : List Int) (hn : l.length ≤ 1000) : Or (.call 109) [lst e l, AV.fn 110 [] []] [] = some [ti (fi l 0)] := by
  refine orc_of ?_
  rw [e75, enc_len]
  exact n75 e l hn l 0 rfl
theorem fi_at : ∀ {l : List Int} (i : Nat), fnz l ≠ 0 → ∃ n, fi l i = ((i + n : Nat) : Int) ∧ l[n]? = some (fnz l) ∧ n < l.length
  | [], _, h => absurd rfl h
  | x :: r, i, h => by
    rw [fnz] at h ⊢
    rw [fi]
    by_cases hx : x = 0
    · rw [if_pos hx] at h
      obtain ⟨n, a, b, c⟩ := fi_at (i + 1) h
      rw [if_pos hx, if_pos hx]
      exact ⟨n + 1, by rw [a]; congr 1; omega, by simpa using b, by simpa using c⟩
    · rw [if_neg hx, if_neg hx]
      exact ⟨0, by simp, by simp, by simp⟩
def negL (l : List Int) : List Int := l.map (fun x => -x)
theorem n37 (B1 B2 : Blk) (e : Bool) (kd tv : Int) (e1 : Bool) (len : Nat) (hn : len ≤ 1000) (ht : -1000000 ≤ tv ∧ tv ≤ 1000000)
    (h1 : B1 = Blk.box [AV.own (Id.c 0), I kd, I tv]) (h2 : B2 = Blk.box [AV.t (T.emp e1), I 0, I 0]) : ∀ (rest done : List Int), done.length + rest.length = len → Bd 1000000 rest →
    Or K37n4m1 [AV.ref (Id.c 1) 0, AV.ref (Id.c 2) 0, I (len : Int), I (done.length : Int)] [Blk.sl false 1 e (enc (done ++ rest)), B1, B2] = some [T.lst 1 e (enc (done ++ negL rest)), ti kd, ti (-tv)] := by
  subst h1 h2
  intro rest
  induction rest with
  | nil =>
    intro done hl _
    have hl' : done.length = len := by simpa using hl
    refine orc_of ?_
    rw [e37n4]
    have h1 : ¬ (done.length : Int) < (len : Int) := by omega
    have hw : IntKind.i64.wrap (0 - tv) = -tv := by rw [wr (by omega)]; omega
    simp only [STL, ↓reduceIte, Int.reduceBEq, Int.reduceEq, h1, hw, negL, List.map_nil]
  | cons x rest ih =>
    intro done hl hb
    have hl' : done.length + (rest.length + 1) = len := by simpa using hl
    have h1 : (done.length : Int) < (len : Int) := by omega
    have h0 : 0 ≤ (done.length : Int) := by omega
    have hx := hb x List.mem_cons_self
    have hw : IntKind.i64.wrap (0 - x) = -x := by rw [wr (by omega)]; omega
    have hget : (done ++ x :: rest)[done.length]? = some x := by simp
    have hlen : (done.length : Int) < ((done ++ x :: rest).length : Int) := by simp; omega
    have hst : storeIn (done.length : Int).toNat 0 [ti (-x)] (enc (done ++ x :: rest)) = some (enc ((done ++ [-x]) ++ rest)) := by
      rw [enc_set (by simp), set_mid _ _ _ _ _ rfl]; simp
    have := ih (done ++ [-x]) (by simp; omega) (fun y hy => hb y (List.mem_cons_of_mem _ hy))
    rw [List.length_append, List.length_singleton] at this
    refine orc_of ?_
    rw [e37n4]
    simp only [STL, ↓reduceIte, Int.reduceBEq, Int.reduceEq, h1, h0, and_self, enc_len, hlen, enc_get hget, hw, hst, next done.length (by omega)]
    exact this.trans (by simp [negL])
theorem s37 (e : Bool) (l : List Int) (kd tv : Int) (hn : l.length ≤ 1000) (hb : Bd 1000000 l) (ht : -1000000 ≤ tv ∧ tv ≤ 1000000) (hz : fnz l ≠ 0) :
    Or (.call 82) [AV.agg [o0, I kd, I tv]] [Blk.sl false 1 e (enc l)] = some [T.lst 1 e (enc (l.map (sg kd l * ·))), ti kd, ti (sg kd l * tv)] := by
  obtain ⟨n, a, b, c⟩ := fi_at 0 hz
  rw [Nat.zero_add] at a
  have h0 : 0 ≤ (n : Int) ∧ (n : Int) < (l.length : Int) := by omega
  refine orc_of ?_
  rw [e37]
  unfold sg
  by_cases hk : kd = 3
  · subst hk
    by_cases hf : fnz l < 0
    · rw [if_pos ⟨rfl, hf⟩]
      have := n37 _ _ e 3 tv true l.length hn ht rfl rfl l [] (by simp) hb
      simp only [List.length_nil, List.nil_append] at this
      have h3 : ((3 : Int) == 3) = true := rfl
      simp only [h3]
      simp only [STL, ↓reduceIte, Int.reduceBEq, Int.reduceEq, s75 e l hn, a, h0, and_self, enc_len, enc_get b, hf, decide_true]
      exact this.trans (by simp [negL])
    · have hc : ¬ ((3 : Int) = 3 ∧ fnz l < 0) := fun h => hf h.2
      rw [if_neg hc]
      have h3 : ((3 : Int) == 3) = true := rfl
      simp only [h3]
      simp only [STL, ↓reduceIte, Int.reduceBEq, Int.reduceEq, s75 e l hn, a, h0, and_self, enc_len, enc_get b, hf, decide_false]
      simp
  · have hc : ¬ (kd = 3 ∧ fnz l < 0) := fun h => hk h.1
    rw [if_neg hc]
    have h3 : (kd == 3) = false := by simpa using hk
    simp only [h3]
    simp only [STL, ↓reduceIte, Int.reduceBEq, Int.reduceEq, gdF, s75 e l hn]
    simp
theorem fnz_zero : ∀ {l : List Int}, fnz l = 0 → ∀ x ∈ l, x = 0
  | [], _, x, hx => by cases hx
  | y :: r, h, x, hx => by
    rw [fnz] at h
    split at h
    · rename_i hy
      rcases List.mem_cons.1 hx with rfl | hx
      · exact hy
      · exact fnz_zero h x hx
    · rename_i hy; exact absurd h hy
theorem bzN_last {l : List Int} : ∀ {k j : Nat}, k ≤ l.length → bzN l k = j + 1 → l.getD j 0 ≠ 0 ∧ j < k
  | 0, j, _, h => by simp [bzN] at h
  | k + 1, j, hk, h => by
    rw [bzN] at h
    split at h
    · have := bzN_last (by omega) h; exact ⟨this.1, by omega⟩
    · rename_i hz
      obtain rfl : k = j := by omega
      exact ⟨hz, by omega⟩
theorem bz_last {l : List Int} (h : bz l ≠ []) : ∃ x ∈ bz l, x ≠ 0 := by
  unfold bz at h ⊢
  cases hk : bzN l l.length with
  | zero => rw [hk] at h; exact absurd rfl h
  | succ j =>
    obtain ⟨h1, h2⟩ := bzN_last (Nat.le_refl _) hk
    exact ⟨_, List.mem_of_getElem? (take_get h2), h1⟩
theorem bz_fnz {l : List Int} (h : bz l ≠ []) : fnz (bz l) ≠ 0 := by
  obtain ⟨x, hx, h0⟩ := bz_last h
  exact fun hf => h0 (fnz_zero hf x hx)
theorem fnz_div {g : Int} (hg : 0 < g) : ∀ {l : List Int}, (∀ x ∈ l, g ∣ x) → fnz (divL g l) = fnz l / g
  | [], _ => by simp [divL, fnz]
  | x :: r, h => by
    have hd := h x List.mem_cons_self
    have ih := fnz_div hg (fun y hy => h y (List.mem_cons_of_mem _ hy))
    simp only [divL, List.map_cons, fnz] at ih ⊢
    by_cases hx : x = 0
    · subst hx; simpa using ih
    · obtain ⟨c, rfl⟩ := hd
      have : g * c / g ≠ 0 := by
        rw [Int.mul_ediv_cancel_left _ (by omega)]
        intro h; subst h; simp at hx
      rw [if_neg this, if_neg hx]
theorem sg_div {g kd : Int} (hg : 0 < g) {l : List Int} (h : ∀ x ∈ l, g ∣ x) : sg kd (divL g l) = sg kd l := by
  unfold sg
  rw [fnz_div hg h]
  have : fnz l / g < 0 ↔ fnz l < 0 := by
    rw [Int.ediv_lt_iff_lt_mul hg]; simp
  simp only [this]
theorem s16 (r : R) (he : r.e = true → r.of = []) (hc : (chkR 12 r).1 = 0) (hb : Bd 1000000 r.of) (ht : -1000000 ≤ r.tv ∧ r.tv ≤ 1000000) (hn : r.of.length ≤ 12) :
    ∃ e', (e' = true → (tidyF r.of r.kd r.tv).1 = []) ∧ Or (.call 38) [AV.agg [lst r.e r.of, I r.kd, I r.tv]] [] = some [T.lst 1 e' (enc (tidyF r.of r.kd r.tv).1), ti r.kd, ti (tidyF r.of r.kd r.tv).2, ti 0, ti 0] := by
  have k1 := s33x r 12 (by omega) he
  obtain ⟨e', k2e, k2⟩ := s34 r.e r.of he (by omega)
  unfold tidyF
  by_cases hz : bz r.of = []
  · refine ⟨true, fun _ => by rw [if_pos hz], orc_of ?_⟩
    rw [e16, if_pos hz]
    simp only [show ((12 : Nat) : Int) = 12 from rfl] at k1
    have hl : ((enc (bz r.of)).length : Int) = 0 := by rw [hz]; rfl
    simp only [STL, ↓reduceIte, Int.reduceBEq, Int.reduceEq, k1, hc, k2, hl, s35]
    rfl
  · rw [if_neg hz]
    have hbz := bz_bd hb
    have hle := bz_len r.of
    obtain ⟨x, hx, h0⟩ := bz_last hz
    have hgp := gl_pos (g := r.tv.natAbs) hx h0
    have hgl : gl r.tv.natAbs (bz r.of) ≤ 1000000 := gl_le (by omega) (by simpa using hbz)
    have hdv : ∀ x ∈ bz r.of, (gl r.tv.natAbs (bz r.of) : Int) ∣ x := fun x hx => gl_dvd hx
    have hdt : (gl r.tv.natAbs (bz r.of) : Int) ∣ r.tv := by
      have := gl_dvd0 (bz r.of) r.tv.natAbs
      exact Int.ofNat_dvd_left.2 this
    have hg0 : (0 : Int) < (gl r.tv.natAbs (bz r.of) : Int) := by omega
    have hq := div_bd hg0 ht (by omega)
    have k3 := s36 r.tv 0 (by omega) (by omega)
    rw [Int.natAbs_zero, Nat.gcd_zero_right] at k3
    have hfz : fnz (divL (gl r.tv.natAbs (bz r.of)) (bz r.of)) ≠ 0 := by
      rw [fnz_div hg0 hdv]
      have hf := bz_fnz hz
      obtain ⟨y, hy, hyy⟩ : ∃ y ∈ bz r.of, y = fnz (bz r.of) := by
        obtain ⟨n, _, b, _⟩ := fi_at 0 hf
        exact ⟨_, List.mem_of_getElem? b, rfl⟩
      have hd := hdv y hy
      rw [hyy] at hd
      obtain ⟨c, hc⟩ := hd
      rw [hc] at hf ⊢
      rw [Int.mul_ediv_cancel_left _ (by omega)]
      intro h; subst h; simp at hf
    have hbd : Bd 1000000 (divL (gl r.tv.natAbs (bz r.of)) (bz r.of)) := by
      intro y hy
      obtain ⟨z, hz, rfl⟩ := List.mem_map.1 hy
      exact div_bd hg0 (hbz z hz) (by omega)
    have hlen : (divL (gl r.tv.natAbs (bz r.of)) (bz r.of)).length = (bz r.of).length := by simp [divL]
    have k4 := s37 e' (divL (gl r.tv.natAbs (bz r.of)) (bz r.of)) r.kd (r.tv / (gl r.tv.natAbs (bz r.of) : Int)) (by omega) hbd hq hfz
    rw [sg_div hg0 hdv] at k4
    refine ⟨e', fun h => absurd (k2e h) hz, orc_of ?_⟩
    have k5 : Or K16n14 [r0, AV.ref (Id.c 1) 0, AV.ref (Id.c 2) 0, AV.own (Id.c 3), I (gl r.tv.natAbs (bz r.of) : Nat), I ((bz r.of).length : Int), I ((bz r.of).length : Int)] [Blk.box [lst r.e r.of, I r.kd, I r.tv], Blk.box [AV.t (T.emp true), I 0, I 0], Blk.box [I 0, I 0], Blk.sl false 1 e' (enc (divL (gl r.tv.natAbs (bz r.of)) (bz r.of)))] = some [T.lst 1 e' (enc ((bz r.of).map (fun x => sg r.kd (bz r.of) * (x / (gl r.tv.natAbs (bz r.of) : Int))))), ti r.kd, ti (sg r.kd (bz r.of) * (r.tv / (gl r.tv.natAbs (bz r.of) : Int))), ti 0, ti 0] := by
      refine orc_of ?_
      rw [e16n14]
      have h1 : ¬ ((bz r.of).length : Int) < ((bz r.of).length : Int) := by omega
      have hgn : ¬ ((gl r.tv.natAbs (bz r.of) : Nat) : Int) = 0 := by omega
      simp only [STL, ↓reduceIte, Int.reduceBEq, Int.reduceEq, h1, hgn, tdiv_dvd hdt, wr (v := r.tv / (gl r.tv.natAbs (bz r.of) : Int)) (by omega), k4]
      simp [divL, Function.comp_def]
    have k6 := n16d _ _ _ e' r.kd r.tv (gl r.tv.natAbs (bz r.of) : Nat) r.e r.of true hg0 _ (bz r.of).length (by omega) rfl rfl rfl (bz r.of) [] (by simp) hbz hdv (by simpa using k5)
    have k7 := n16g _ _ _ e' (bz r.of) r.kd r.tv r.e r.of true hbz (by omega) _ rfl rfl rfl (bz r.of) 0 r.tv.natAbs rfl (by omega) (by simpa using k6)
    rw [e16]
    simp only [show ((12 : Nat) : Int) = 12 from rfl] at k1
    have hl : ¬ ((bz r.of).length : Int) = 0 := by
      intro h
      exact hz (List.length_eq_zero_iff.1 (by omega))
    simp only [STL, ↓reduceIte, Int.reduceBEq, Int.reduceEq, k1, hc, k2, enc_len, hl, k3]
    exact k7
open Go Go.Aev

def fits' (x : Int) : Bool := decide (x ≥ -1000000 ∧ x ≤ 1000000)
def clampF (x : Int) : Int := max (min x 1) (-1)
def mixG (of : List Int) (to : Int) : Nat := gl to.natAbs (bz of)
def mixL (of : List Int) (to : Int) : List Int := divL (mixG of to) (bz of)
def mixT (of : List Int) (kd to : Int) : Int := if bz of = [] then noneF kd (clampF to) else to / (mixG of to : Int)
def mixK (of : List Int) (to : Int) : Bool := if bz of = [] then true else fits' (to / (mixG of to : Int)) && (mixL of to).all fits'
theorem clamp_b (x : Int) : -1000000 ≤ clampF x ∧ clampF x ≤ 1000000 := by unfold clampF; omega
theorem bz_split (l : List Int) : ∃ k, l = bz l ++ List.replicate k 0 := by
  have gen : ∀ k, k ≤ l.length → ∃ j, l.take k = l.take (bzN l k) ++ List.replicate j 0 := by
    intro k
    induction k with
    | zero => intro _; exact ⟨0, by simp [bzN]⟩
    | succ k ih =>
      intro hk
      rw [bzN]
      by_cases hz : l.getD k 0 = 0
      · obtain ⟨j, hj⟩ := ih (by omega)
        refine ⟨j + 1, ?_⟩
        have hkl : k < l.length := by omega
        have hx : l[k]? = some 0 := by
          simp only [List.getD_eq_getElem?_getD, List.getElem?_eq_getElem hkl, Option.getD_some] at hz
          rw [List.getElem?_eq_getElem hkl, hz]
        rw [if_pos hz, List.take_add_one, hj, hx, List.append_assoc, List.replicate_succ', Option.toList_some]
      · exact ⟨0, by rw [if_neg hz]; simp⟩
  obtain ⟨j, hj⟩ := gen l.length (Nat.le_refl _)
  rw [List.take_length] at hj
  exact ⟨j, hj⟩
theorem gl_mul (g : Nat) : ∀ (l : List Int) (a : Nat), (∀ x ∈ l, (g : Int) ∣ x) → 0 < g → gl (g * a) l = g * gl a (divL g l)
  | [], a, _, _ => rfl
  | x :: l, a, h, hg => by
    obtain ⟨c, rfl⟩ := h x List.mem_cons_self
    have ih := gl_mul g l (Nat.gcd a c.natAbs) (fun y hy => h y (List.mem_cons_of_mem _ hy)) hg
    have hq : (g : Int) * c / (g : Int) = c := Int.mul_ediv_cancel_left _ (by omega)
    show gl (Nat.gcd (g * a) ((g : Int) * c).natAbs) l = g * gl (Nat.gcd a ((g : Int) * c / (g : Int)).natAbs) (divL g l)
    rw [hq, Int.natAbs_mul, Int.natAbs_natCast, Nat.gcd_mul_left]
    exact ih
theorem n42g (B0 B1 : Blk) (e : Bool) (l : List Int) (to kd : Int) (e0 e1 : Bool) (hb : Bd 4000000000000 l) (hn : l.length ≤ 1000) (res : List T)
    (h0 : B0 = Blk.box [AV.t (T.emp e0), I 0, I 0]) (h1 : B1 = Blk.box [AV.t (T.emp e1), I kd, I 0]) : ∀ (rest : List Int) (i : Nat) (g : Nat), l.drop i = rest → i ≤ l.length → g ≤ 4000000000000 →
    Or K42n12 [lst e l, I to, r0, AV.ref (Id.c 1) 0, I (gl g rest : Nat), lst e l, I (l.length : Int), I (l.length : Int)] [B0, B1] = some res →
    Or K42n12 [lst e l, I to, r0, AV.ref (Id.c 1) 0, I (g : Int), lst e l, I (l.length : Int), I (i : Int)] [B0, B1] = some res := by
  subst h0 h1
  intro rest
  induction rest with
  | nil =>
    intro i g h hi hg hk
    have hle := at_end h
    obtain rfl : i = l.length := by omega
    exact hk
  | cons x rest ih =>
    intro i g h hi hg hk
    obtain ⟨g1, g2, g3⟩ := at_drop h
    have h1 : (i : Int) < (l.length : Int) := by omega
    have h0 : 0 ≤ (i : Int) := by omega
    have hx := hb x (List.mem_of_getElem? g1)
    have k1 := s41 (g : Int) x (by omega) (by omega)
    rw [Int.natAbs_natCast] at k1
    have hle : Nat.gcd g x.natAbs ≤ 4000000000000 := by
      rcases Nat.eq_zero_or_pos g with h | h
      · subst h; rw [Nat.gcd_zero_left]; omega
      · exact Nat.le_trans (Nat.gcd_le_left _ h) hg
    have := ih (i + 1) (Nat.gcd g x.natAbs) g3 (by omega) hle hk
    refine orc_of ?_
    rw [e42n12]
    simp only [STL, ↓reduceIte, Int.reduceBEq, Int.reduceEq, h1, h0, and_self, enc_len, enc_get g1, k1, next i (by omega)]
    exact this
theorem s77 (c : Int) : Or (.call 111) [I c] [] = some [tb (fits' c)] := by
  refine orc_of ?_
  rw [e77]
  simp only [cand, ← Bool.decide_and]
  rfl
theorem n42a (B0 : Blk) (e : Bool) (l : List Int) (to kd g : Int) (e0 : Bool) (hb : Bd 4000000000000 l) (hn : l.length ≤ 1000) (hg : 0 < g) (hd : ∀ x ∈ l, g ∣ x) (hto : -4000000000000 ≤ to ∧ to ≤ 4000000000000) (hdt : g ∣ to)
    (h0 : B0 = Blk.box [AV.t (T.emp e0), I 0, I 0]) : ∀ (rest : List Int) (i : Nat) (done : List Int) (e2 v : Bool), l.drop i = rest → done.length ≤ i → (e2 = true → done = []) →
    ∃ e', (e' = true → done ++ divL g rest = []) ∧ Or K42n19 [I to, r0, AV.ref (Id.c 1) 0, I g, AV.fn 111 [] [], B v, lst e l, I (l.length : Int), I (i : Int)] [B0, Blk.box [AV.own (Id.c 2), I kd, I 0], Blk.sl false 1 e2 (enc done)] =
      some [T.lst 1 e' (enc (done ++ divL g rest)), ti kd, ti (to / g), tb (v && (divL g rest).all fits')] := by
  subst h0
  intro rest
  induction rest with
  | nil =>
    intro i done e2 v h hl he2
    have h1 : ¬ (i : Int) < (l.length : Int) := by have := at_end h; omega
    have hg0 : ¬ g = 0 := by omega
    have hq := div_bd hg hto (by omega)
    refine ⟨e2, fun h => by simpa [divL] using he2 h, orc_of ?_⟩
    rw [e42n19]
    simp only [STL, ↓reduceIte, Int.reduceBEq, Int.reduceEq, h1, hg0, tdiv_dvd hdt, wr (v := to / g) (by omega)]
    simp [divL]
  | cons x rest ih =>
    intro i done e2 v h hl he2
    obtain ⟨g1, g2, g3⟩ := at_drop h
    have h1 : (i : Int) < (l.length : Int) := by omega
    have h0 : 0 ≤ (i : Int) := by omega
    have hg0 : ¬ g = 0 := by omega
    have hx := hb x (List.mem_of_getElem? g1)
    have hq := div_bd hg hx (by omega)
    have hsm : ∀ v : Int, small 8 (done.length + [[ti v]].length) = some () := fun v => small_ok (by simp; omega)
    have happ : enc done ++ [[ti (x / g)]] = enc (done ++ [x / g]) := by simp [enc]
    have hw : IntKind.i64.wrap (x / g) = x / g := wr (by omega)
    cases v with
    | true =>
      obtain ⟨e', ke, k⟩ := ih (i + 1) (done ++ [x / g]) (e2 && false) (fits' (x / g)) g3 (by simp; omega) (by simp)
      refine ⟨e', fun h => by simpa [divL] using ke h, orc_of ?_⟩
      rw [e42n19]
      rw [Bool.and_false, List.append_assoc, List.singleton_append] at k
      simp only [STL, ↓reduceIte, Int.reduceBEq, Int.reduceEq, h1, h0, and_self, enc_len, enc_get g1, hg0, tdiv_dvd (hd x (List.mem_of_getElem? g1)), hw, hsm, happ, s77, next i (by omega)]
      refine k.trans ?_
      simp [divL]
    | false =>
      obtain ⟨e', ke, k⟩ := ih (i + 1) (done ++ [x / g]) (e2 && false) false g3 (by simp; omega) (by simp)
      refine ⟨e', fun h => by simpa [divL] using ke h, orc_of ?_⟩
      rw [e42n19]
      rw [Bool.and_false, List.append_assoc, List.singleton_append] at k
      simp only [STL, ↓reduceIte, Int.reduceBEq, Int.reduceEq, h1, h0, and_self, enc_len, enc_get g1, hg0, tdiv_dvd (hd x (List.mem_of_getElem? g1)), hw, hsm, happ, next i (by omega)]
      refine k.trans ?_
      simp [divL]
theorem chk_none (kd t : Int) (hk : kd = 1 ∨ kd = 2) (ht : -1000000 ≤ t ∧ t ≤ 1000000) : (chkR 12 ⟨true, [], kd, t⟩).1 = 0 := by
  unfold chkR
  have h1 : ¬ ((¬ kd = 1 ∧ ¬ kd = 2) ∧ ¬ kd = 3) := by omega
  have h2 : t ≥ -1000000 ∧ t ≤ 1000000 := by omega
  simp [h1, chkI, h2]
theorem tidy_none (kd t : Int) : tidyF [] kd t = ([], noneF kd t) := by simp [tidyF, bz, bzN]
theorem n42 (B0 B1 : Blk) (e : Bool) (l : List Int) (to kd : Int) (hb : Bd 4000000000000 l) (hn : l.length ≤ 900) (hk : kd = 1 ∨ kd = 2) (hto : -4000000000000 ≤ to ∧ to ≤ 4000000000000)
    (h0 : B0 = Blk.box [AV.t (T.emp true), I 0, I 0]) (h1 : B1 = Blk.box [AV.t (T.emp true), I kd, I 0]) : ∀ (k : Nat), k ≤ l.length → bz l = l.take (bzN l k) →
    ∃ e', (e' = true → mixL l to = []) ∧ Or K42n4 [lst e (l.take k), I to, r0, AV.ref (Id.c 1) 0] [B0, B1] = some [T.lst 1 e' (enc (mixL l to)), ti kd, ti (mixT l kd to), tb (mixK l to)]
  | 0, hk0, hz => by
    subst h0 h1
    have hz' : bz l = [] := by rw [hz]; rfl
    obtain ⟨e', _, k1⟩ := s16 ⟨true, [], kd, clampF to⟩ (fun _ => rfl) (chk_none kd _ hk (clamp_b to)) (fun x hx => by cases hx) (clamp_b to) (by simp)
    rw [tidy_none] at k1
    have hm : mm true (mm false to 1) (-1) = clampF to := by rw [mm_max, mm_min]; rfl
    have hL : mixL l to = [] := by unfold mixL; rw [hz']; rfl
    have hT : mixT l kd to = noneF kd (clampF to) := by unfold mixT; rw [if_pos hz']
    have hK : mixK l to = true := by unfold mixK; rw [if_pos hz']
    refine ⟨e', fun _ => hL, orc_of ?_⟩
    rw [e42n4, hL, hT, hK]
    have h0 : ¬ ((0 : Nat) : Int) > 0 := by omega
    have h00 : ((0 : Nat) : Int) = 0 := rfl
    have hl0 : (lst true []) = AV.t (T.lst 1 true []) := rfl
    simp only [hl0] at k1
    simp only [STL, ↓reduceIte, Int.reduceBEq, Int.reduceEq, gdF, enc_len, take_len hk0, h0, h00, decide_false, hm, k1]
    simp only [Int.lt_irrefl, gt_iff_lt, decide_false, gdF, STL, ↓reduceIte, Int.reduceBEq, Int.reduceEq, k1]
  | k + 1, hkl, hz => by
    have h0' : ((k + 1 : Nat) : Int) > 0 := by omega
    have h00 : ¬ ((k + 1 : Nat) : Int) = 0 := by omega
    have hw : IntKind.i64.wrap (((k + 1 : Nat) : Int) - 1) = (k : Int) := by rw [wr (by omega)]; omega
    have h2 : 0 ≤ (k : Int) ∧ (k : Int) < ((k + 1 : Nat) : Int) := by omega
    have hi : inB 0 (k : Int) ((k + 1 : Nat) : Int) = some () := inB_ok (by omega)
    have hg := enc_get (take_get (l := l) (k := k) (by omega))
    have ht : (l.take (k + 1)).take k = l.take k := by rw [List.take_take]; congr 1; omega
    by_cases hx : l.getD k 0 = 0
    · obtain ⟨e', ke, k1⟩ := n42 B0 B1 e l to kd hb hn hk hto h0 h1 k (by omega) (by rw [hz, bzN, if_pos hx])
      subst h0 h1
      refine ⟨e', ke, orc_of ?_⟩
      rw [e42n4]
      simp only [STL, ↓reduceIte, Int.reduceBEq, Int.reduceEq, enc_len, take_len hkl, h0', decide_true, hw, h2, and_self, hg, hx, hi, sub_enc, ht]
      exact k1
    · have hbz : bz l = l.take (k + 1) := by rw [hz, bzN, if_neg hx]
      have hne : bz l ≠ [] := by
        intro h
        rw [hbz] at h
        have := congrArg List.length h
        rw [take_len hkl] at this
        simp at this
      obtain ⟨x, hxm, hx0⟩ := bz_last hne
      have hgp := gl_pos (g := to.natAbs) hxm hx0
      have hbb := bz_bd hb
      have hlen := bz_len l
      have hdv : ∀ x ∈ bz l, (mixG l to : Int) ∣ x := fun x hx => gl_dvd hx
      have hdt : (mixG l to : Int) ∣ to := Int.ofNat_dvd_left.2 (gl_dvd0 (bz l) to.natAbs)
      have hg0 : (0 : Int) < (mixG l to : Int) := by unfold mixG; omega
      have hgn : ¬ (mixG l to : Int) = 0 := by omega
      have hq := div_bd hg0 hto (by omega)
      obtain ⟨e', ke, k1⟩ := n42a B0 e (bz l) to kd (mixG l to : Int) true hbb (by omega) hg0 hdv hto hdt h0 (bz l) 0 [] true (fits' (to / (mixG l to : Int))) rfl (by simp) (fun _ => rfl)
      have k2 : Or K42n12 [lst e (bz l), I to, r0, AV.ref (Id.c 1) 0, I (gl to.natAbs (bz l) : Nat), lst e (bz l), I ((bz l).length : Int), I ((bz l).length : Int)] [B0, B1] = some [T.lst 1 e' (enc (mixL l to)), ti kd, ti (mixT l kd to), tb (mixK l to)] := by
        subst h0 h1
        refine orc_of ?_
        rw [e42n12]
        have h9 : ¬ ((bz l).length : Int) < ((bz l).length : Int) := by omega
        have hT : mixT l kd to = to / (mixG l to : Int) := by unfold mixT; rw [if_neg hne]
        have hK : mixK l to = (fits' (to / (mixG l to : Int)) && (mixL l to).all fits') := by unfold mixK; rw [if_neg hne]
        rw [hT, hK]
        have hGG : gl to.natAbs (bz l) = mixG l to := rfl
        simp only [hGG]
        simp only [STL, ↓reduceIte, Int.reduceBEq, Int.reduceEq, h9, hgn, tdiv_dvd hdt, wr (v := to / (mixG l to : Int)) (by omega), s77, enc_len]
        exact k1
      have k3 := n42g B0 B1 e (bz l) to kd true true hbb (by omega) _ h0 h1 (bz l) 0 to.natAbs rfl (by omega) (by omega) k2
      have k4 := s41 to 0 (by omega) (by omega)
      rw [Int.natAbs_zero, Nat.gcd_zero_right] at k4
      refine ⟨e', fun h => by simpa [mixL] using ke h, orc_of ?_⟩
      subst h0 h1
      rw [e42n4]
      simp only [STL, ↓reduceIte, Int.reduceBEq, Int.reduceEq, enc_len, take_len hkl, h0', decide_true, hw, h2, and_self, hg, hx, h00, k4]
      rw [hbz, take_len hkl] at k3
      exact k3
theorem s42 (e : Bool) (l : List Int) (to : Int) (less : Bool) (hb : Bd 4000000000000 l) (hn : l.length ≤ 900) (hto : -4000000000000 ≤ to ∧ to ≤ 4000000000000) :
    ∃ e', (e' = true → mixL l to = []) ∧ Or (.call 84) [lst e l, I to, B less] [] = some [T.lst 1 e' (enc (mixL l to)), ti (if less then 2 else 1), ti (mixT l (if less then 2 else 1) to), tb (mixK l to)] := by
  cases less with
  | true =>
    obtain ⟨e', ke, k⟩ := n42 _ _ e l to 2 hb hn (by omega) hto rfl rfl l.length (Nat.le_refl _) rfl
    rw [List.take_length] at k
    refine ⟨e', ke, orc_of ?_⟩
    rw [e42]
    simp only [STL, ↓reduceIte, Int.reduceBEq, Int.reduceEq]
    exact k
  | false =>
    obtain ⟨e', ke, k⟩ := n42 _ _ e l to 1 hb hn (by omega) hto rfl rfl l.length (Nat.le_refl _) rfl
    rw [List.take_length] at k
    refine ⟨e', ke, orc_of ?_⟩
    rw [e42]
    simp only [STL, ↓reduceIte, Int.reduceBEq, Int.reduceEq]
    exact k
open Go Go.Aev

structure Bn where
  e : Bool
  of : List Int
  to : Int
  less : Bool
  frm : Int
def eB (b : Bn) : List T := [T.lst 1 b.e (enc b.of), ti b.to, tb b.less, ti b.frm]
def eBs (l : List Bn) : List (List T) := l.map eB
theorem eBs_len (l : List Bn) : (eBs l).length = l.length := by simp [eBs]
theorem eBs_get {l : List Bn} {i : Nat} {r : Bn} (h : l[i]? = some r) : (eBs l)[((i : Nat) : Int).toNat]? = some [T.lst 1 r.e (enc r.of), ti r.to, tb r.less, ti r.frm] := by simp [eBs, h, eB]
def Bn.s (b : Bn) : Bn := ⟨true, b.of, b.to, b.less, b.frm⟩
abbrev toC (r : R) : List Int × Int × Int := (r.of, r.kd, r.tv)
def Bn.c (b : Bn) : List Int × Int × Int := (b.of, if b.less then 2 else 1, b.to)
def padL (n : Nat) (l : List Int) : List Int := l ++ List.replicate (n - l.length) 0
theorem padL_len {n : Nat} {l : List Int} (h : l.length ≤ n) : (padL n l).length = n := by simp [padL]; omega
theorem padL_bd {n : Nat} {l : List Int} (h : Bd 1000000 l) : Bd 1000000 (padL n l) := by
  intro x hx
  rcases List.mem_append.1 hx with h1 | h1
  · exact h x h1
  · rw [(List.mem_replicate.1 h1).2]; omega
theorem padL_at (n : Nat) (l : List Int) (k : Nat) : (padL n l).getD k 0 = l.getD k 0 := by
  simp only [padL, List.getD_eq_getElem?_getD]
  by_cases h : k < l.length
  · rw [List.getElem?_append_left h]
  · rw [List.getElem?_append_right (by omega), List.getElem?_eq_none (l := l) (by omega)]
    by_cases h2 : k - l.length < n - l.length
    · rw [List.getElem?_replicate, if_pos h2]; rfl
    · rw [List.getElem?_replicate, if_neg h2]
theorem getD_get {l : List Int} {k : Nat} (h : k < l.length) : l[k]? = some (l.getD k 0) := by
  simp [List.getD_eq_getElem?_getD, h]
theorem s39 (e : Bool) (l : List Int) (n : Nat) (he : e = true → l = []) (hl : l.length ≤ n) (hn : n ≤ 12) : ∃ e', Or (.call 46) [lst e l, I (n : Int)] [] = some [T.lst 1 e' (enc (padL n l))] := by
  obtain ⟨x, e', k1, k2⟩ := s73 l e he (by omega)
  have hw : IntKind.i64.wrap ((n : Int) - (l.length : Int)) = ((n - l.length : Nat) : Int) := by rw [wr (by omega)]; omega
  have hm : mkOk ((n - l.length : Nat) : Int) ((n - l.length : Nat) : Int) = some () := by unfold mkOk; rw [if_pos (by unfold lim; omega)]
  have hs : small 8 (l.length + (List.replicate ((n - l.length : Nat) : Int).toNat [ti 0]).length) = some () := small_ok (by simp; omega)
  have ha : enc l ++ List.replicate ((n - l.length : Nat) : Int).toNat [ti 0] = enc (padL n l) := by simp [enc, padL]
  refine ⟨e' && (List.replicate ((n - l.length : Nat) : Int).toNat [ti 0]).isEmpty, orc_of ?_⟩
  rw [e39]
  simp only [STL, ↓reduceIte, Int.reduceBEq, Int.reduceEq, k1, k2, enc_len, hw, hm, hs, ha]
theorem n40 (e : Bool) (l : List Int) (hb : Bd 1000000 l) (hn : l.length ≤ 1000) : ∀ (rest : List Int) (i : Nat) (done : List Int) (e1 : Bool), l.drop i = rest → done.length ≤ i →
    ∃ e', Or K40n3 [o0, lst e l, I (l.length : Int), I (i : Int)] [Blk.sl false 1 e1 (enc done)] = some [T.lst 1 e' (enc (done ++ negL rest))] := by
  intro rest
  induction rest with
  | nil =>
    intro i done e1 h hl
    have h1 : ¬ (i : Int) < (l.length : Int) := by have := at_end h; omega
    refine ⟨e1, orc_of ?_⟩
    rw [e40n3]
    simp only [STL, ↓reduceIte, Int.reduceBEq, Int.reduceEq, h1]
    simp [negL]
  | cons x rest ih =>
    intro i done e1 h hl
    obtain ⟨g1, g2, g3⟩ := at_drop h
    have h1 : (i : Int) < (l.length : Int) := by omega
    have h0 : 0 ≤ (i : Int) := by omega
    have hx := hb x (List.mem_of_getElem? g1)
    have hw : IntKind.i64.wrap (0 - x) = -x := by rw [wr (by omega)]; omega
    have hsm : small 8 (done.length + [[ti (-x)]].length) = some () := small_ok (by simp; omega)
    have happ : enc done ++ [[ti (-x)]] = enc (done ++ [-x]) := by simp [enc]
    obtain ⟨e', k⟩ := ih (i + 1) (done ++ [-x]) (e1 && false) g3 (by simp; omega)
    refine ⟨e', orc_of ?_⟩
    rw [e40n3]
    rw [Bool.and_false, List.append_assoc, List.singleton_append] at k
    simp only [STL, ↓reduceIte, Int.reduceBEq, Int.reduceEq, h1, h0, and_self, enc_len, enc_get g1, hw, hsm, happ, next i (by omega)]
    exact k
theorem s40 (e : Bool) (l : List Int) (hb : Bd 1000000 l) (hn : l.length ≤ 1000) : ∃ e', Or (.call 47) [lst e l] [] = some [T.lst 1 e' (enc (negL l))] := by
  obtain ⟨e', k⟩ := n40 e l hb hn l 0 [] true rfl (by simp)
  refine ⟨e', orc_of ?_⟩
  rw [e40, enc_len]
  exact k
def upB (n k i : Nat) (r : R) : List Bn :=
  if r.of.getD k 0 > 0 then [⟨true, padL n r.of, r.tv, r.kd == 2, (i : Int)⟩] else if r.of.getD k 0 < 0 ∧ r.kd = 3 then [⟨true, negL (padL n r.of), -r.tv, false, (i : Int)⟩] else []
def dnB (n k i : Nat) (r : R) : List Bn :=
  if r.of.getD k 0 < 0 then [⟨true, padL n r.of, r.tv, r.kd == 2, (i : Int)⟩] else if r.of.getD k 0 > 0 ∧ r.kd = 3 then [⟨true, negL (padL n r.of), -r.tv, false, (i : Int)⟩] else []
def ups (n k : Nat) : List R → Nat → List Bn
  | [], _ => []
  | r :: rs, i => upB n k i r ++ ups n k rs (i + 1)
def dns (n k : Nat) : List R → Nat → List Bn
  | [], _ => []
  | r :: rs, i => dnB n k i r ++ dns n k rs (i + 1)
structure OkR (n : Nat) (r : R) : Prop where
  e : r.e = true → r.of = []
  kd : r.kd = 1 ∨ r.kd = 2 ∨ r.kd = 3
  len : r.of.length ≤ n
  of : Bd 1000000 r.of
  tv : -1000000 ≤ r.tv ∧ r.tv ≤ 1000000
abbrev bK (k : Nat) : Blk := Blk.box [I (k : Int)]
abbrev LB (e : Bool) (l : List Bn) : Blk := Blk.sl false 4 e (eBs l)
theorem s38 (k : Nat) (b : Bn) (hs ls : List Bn) (eh el : Bool) (hk : k < b.of.length) (h1 : hs.length ≤ 1000) (h2 : ls.length ≤ 1000) :
    Or (.call 45) [AV.agg [AV.t (T.lst 1 b.e (enc b.of)), I b.to, B b.less, I b.frm], r0, AV.ref (Id.c 1) 0, AV.ref (Id.c 2) 0] [bK k, Blk.box [AV.own (Id.c 3)], Blk.box [AV.own (Id.c 4)], LB eh hs, LB el ls] =
      if b.of.getD k 0 > 0 then some [ti k, T.lst 4 false (eBs (hs ++ [b])), T.lst 4 el (eBs ls)] else some [ti k, T.lst 4 eh (eBs hs), T.lst 4 false (eBs (ls ++ [b]))] := by
  have h0 : 0 ≤ (k : Int) ∧ (k : Int) < (b.of.length : Int) := by omega
  have hg := enc_get (getD_get hk)
  have hsa : small 48 (hs.length + [eB b].length) = some () := small_ok (by simp; omega)
  have hsb : small 48 (ls.length + [eB b].length) = some () := small_ok (by simp; omega)
  have ha : eBs hs ++ [eB b] = eBs (hs ++ [b]) := by simp [eBs]
  have hb : eBs ls ++ [eB b] = eBs (ls ++ [b]) := by simp [eBs]
  have key : ∀ r, stepO PROG ann Or (.call 45) [AV.agg [AV.t (T.lst 1 b.e (enc b.of)), I b.to, B b.less, I b.frm], r0, AV.ref (Id.c 1) 0, AV.ref (Id.c 2) 0] [bK k, Blk.box [AV.own (Id.c 3)], Blk.box [AV.own (Id.c 4)], LB eh hs, LB el ls] = some r →
      Or (.call 45) [AV.agg [AV.t (T.lst 1 b.e (enc b.of)), I b.to, B b.less, I b.frm], r0, AV.ref (Id.c 1) 0, AV.ref (Id.c 2) 0] [bK k, Blk.box [AV.own (Id.c 3)], Blk.box [AV.own (Id.c 4)], LB eh hs, LB el ls] = some r := fun r h => orc_of h
  unfold eB at hsa hsb ha hb
  by_cases hp : b.of.getD k 0 > 0
  · rw [if_pos hp]
    refine key _ ?_
    rw [e38]
    simp only [STL, ↓reduceIte, Int.reduceBEq, Int.reduceEq, h0, and_self, enc_len, hg, hp, eBs_len, hsa, ha]
  · rw [if_neg hp]
    refine key _ ?_
    rw [e38]
    simp only [STL, ↓reduceIte, Int.reduceBEq, Int.reduceEq, h0, and_self, enc_len, hg, hp, eBs_len, hsb, hb]
theorem negL_at (l : List Int) (k : Nat) : (negL l).getD k 0 = -(l.getD k 0) := by
  simp only [negL, List.getD_eq_getElem?_getD, List.getElem?_map]
  cases l[k]? <;> simp
theorem n17 (rows : List R) (e : Bool) (n k : Nat) (hn : n ≤ 12) (hk : k < n) (hr : ∀ r ∈ rows, OkR n r) (hl : rows.length ≤ 40) : ∀ (rest : List R) (i : Nat) (hs ls : List Bn) (eh el : Bool), rows.drop i = rest → hs.length ≤ i → ls.length ≤ i →
    ∃ hs' ls' eh' el', Or K17n4 [I (n : Int), r0, AV.ref (Id.c 1) 0, AV.ref (Id.c 2) 0, AV.fn 45 [] [r0, AV.ref (Id.c 1) 0, AV.ref (Id.c 2) 0], LR e rows, I (rows.length : Int), I (i : Int)] [bK k, Blk.box [AV.own (Id.c 3)], Blk.box [AV.own (Id.c 4)], LB eh hs, LB el ls] =
      some [T.lst 4 eh' (eBs hs'), T.lst 4 el' (eBs ls')] ∧ hs'.map Bn.s = hs.map Bn.s ++ ups n k rest i ∧ ls'.map Bn.s = ls.map Bn.s ++ dns n k rest i := by
  intro rest
  induction rest with
  | nil =>
    intro i hs ls eh el h h1 h2
    refine ⟨hs, ls, eh, el, orc_of ?_, by simp [ups], by simp [dns]⟩
    rw [e17n4]
    have h1 : ¬ (i : Int) < (rows.length : Int) := by have := at_end h; omega
    simp only [STL, ↓reduceIte, Int.reduceBEq, Int.reduceEq, h1]
  | cons r rest ih =>
    intro i hs ls eh el h hh1 hh2
    obtain ⟨g1, g2, g3⟩ := at_drop h
    have h1 : (i : Int) < (rows.length : Int) := by omega
    have h0 : 0 ≤ (i : Int) := by omega
    have ok := hr r (List.mem_of_getElem? g1)
    obtain ⟨e', k1⟩ := s39 r.e r.of n ok.e ok.len hn
    have hpl := padL_len ok.len
    have hkk : k < (padL n r.of).length := by omega
    have hk0 : 0 ≤ (k : Int) ∧ (k : Int) < (n : Int) := by omega
    have hget := enc_get (getD_get hkk)
    rw [padL_at] at hget
    by_cases hz : r.of.getD k 0 = 0
    · obtain ⟨hs', ls', eh', el', m1, m2, m3⟩ := ih (i + 1) hs ls eh el g3 (by omega) (by omega)
      have hu : upB n k i r = [] := by unfold upB; rw [if_neg (by omega), if_neg (by omega)]
      have hd : dnB n k i r = [] := by unfold dnB; rw [if_neg (by omega), if_neg (by omega)]
      refine ⟨hs', ls', eh', el', orc_of ?_, by rw [m2, ups, hu, List.nil_append], by rw [m3, dns, hd, List.nil_append]⟩
      rw [e17n4]
      simp only [STL, ↓reduceIte, Int.reduceBEq, Int.reduceEq, h1, h0, and_self, eRs_len, eRs_get g1, k1, enc_len, hpl, hk0, hget, hz, next i (by omega)]
      exact m1
    · have k2 := s38 k ⟨e', padL n r.of, r.tv, r.kd == 2, (i : Int)⟩ hs ls eh el hkk (by omega) (by omega)
      simp only [padL_at] at k2
      by_cases h3 : r.kd = 3
      · have hless : (r.kd == 2) = false := by rw [h3]; rfl
        rw [hless] at k2
        obtain ⟨e2, k3⟩ := s40 e' (padL n r.of) (padL_bd ok.of) (by omega)
        have hw : IntKind.i64.wrap (0 - r.tv) = -r.tv := by have := ok.tv; rw [wr (by omega)]; omega
        have hnl : k < (negL (padL n r.of)).length := by simp [negL]; omega
        by_cases hp : r.of.getD k 0 > 0
        · rw [if_pos hp] at k2
          have k4 := s38 k ⟨e2, negL (padL n r.of), -r.tv, false, (i : Int)⟩ (hs ++ [⟨e', padL n r.of, r.tv, false, (i : Int)⟩]) ls false el hnl (by simp; omega) (by omega)
          simp only [negL_at, padL_at] at k4
          rw [if_neg (by omega)] at k4
          obtain ⟨hs', ls', eh', el', m1, m2, m3⟩ := ih (i + 1) (hs ++ [⟨e', padL n r.of, r.tv, false, (i : Int)⟩]) (ls ++ [⟨e2, negL (padL n r.of), -r.tv, false, (i : Int)⟩]) false false g3 (by simp; omega) (by simp; omega)
          refine ⟨hs', ls', eh', el', orc_of ?_, ?_, ?_⟩
          · rw [e17n4]
            simp only [STL, ↓reduceIte, Int.reduceBEq, Int.reduceEq, h1, h0, and_self, eRs_len, eRs_get g1, k1, enc_len, hpl, hk0, hget, hz, k2, h3, k3, hw]
            simp only [STL, ↓reduceIte, Int.reduceBEq, Int.reduceEq, k4, next i (by omega)]
            exact m1
          · rw [m2, ups]
            simp only [upB, if_pos hp]
            simp [Bn.s, hless]
          · rw [m3, dns]
            have : ¬ r.of.getD k 0 < 0 := by omega
            simp only [dnB, if_neg this, if_pos (And.intro hp h3)]
            simp [Bn.s]
        · rw [if_neg hp] at k2
          have hlt : r.of.getD k 0 < 0 := by omega
          have k4 := s38 k ⟨e2, negL (padL n r.of), -r.tv, false, (i : Int)⟩ hs (ls ++ [⟨e', padL n r.of, r.tv, false, (i : Int)⟩]) eh false hnl (by omega) (by simp; omega)
          simp only [negL_at, padL_at] at k4
          rw [if_pos (by omega)] at k4
          obtain ⟨hs', ls', eh', el', m1, m2, m3⟩ := ih (i + 1) (hs ++ [⟨e2, negL (padL n r.of), -r.tv, false, (i : Int)⟩]) (ls ++ [⟨e', padL n r.of, r.tv, false, (i : Int)⟩]) false false g3 (by simp; omega) (by simp; omega)
          refine ⟨hs', ls', eh', el', orc_of ?_, ?_, ?_⟩
          · rw [e17n4]
            simp only [STL, ↓reduceIte, Int.reduceBEq, Int.reduceEq, h1, h0, and_self, eRs_len, eRs_get g1, k1, enc_len, hpl, hk0, hget, hz, k2, h3, k3, hw]
            simp only [STL, ↓reduceIte, Int.reduceBEq, Int.reduceEq, k4, next i (by omega)]
            exact m1
          · rw [m2, ups]
            simp only [upB, if_neg hp, if_pos (And.intro hlt h3)]
            simp [Bn.s]
          · rw [m3, dns]
            simp only [dnB, if_pos hlt]
            simp [Bn.s, hless]
      · by_cases hp : r.of.getD k 0 > 0
        · rw [if_pos hp] at k2
          obtain ⟨hs', ls', eh', el', m1, m2, m3⟩ := ih (i + 1) (hs ++ [⟨e', padL n r.of, r.tv, r.kd == 2, (i : Int)⟩]) ls false el g3 (by simp; omega) (by omega)
          refine ⟨hs', ls', eh', el', orc_of ?_, ?_, ?_⟩
          · rw [e17n4]
            simp only [STL, ↓reduceIte, Int.reduceBEq, Int.reduceEq, h1, h0, and_self, eRs_len, eRs_get g1, k1, enc_len, hpl, hk0, hget, hz, k2, h3, next i (by omega)]
            exact m1
          · rw [m2, ups]
            simp only [upB, if_pos hp]
            simp [Bn.s]
          · rw [m3, dns]
            have : ¬ r.of.getD k 0 < 0 := by omega
            simp only [dnB, if_neg this, if_neg (fun h : r.of.getD k 0 > 0 ∧ r.kd = 3 => h3 h.2)]
            simp
        · rw [if_neg hp] at k2
          have hlt : r.of.getD k 0 < 0 := by omega
          obtain ⟨hs', ls', eh', el', m1, m2, m3⟩ := ih (i + 1) hs (ls ++ [⟨e', padL n r.of, r.tv, r.kd == 2, (i : Int)⟩]) eh false g3 (by omega) (by simp; omega)
          refine ⟨hs', ls', eh', el', orc_of ?_, ?_, ?_⟩
          · rw [e17n4]
            simp only [STL, ↓reduceIte, Int.reduceBEq, Int.reduceEq, h1, h0, and_self, eRs_len, eRs_get g1, k1, enc_len, hpl, hk0, hget, hz, k2, h3, next i (by omega)]
            exact m1
          · rw [m2, ups]
            simp only [upB, if_neg hp, if_neg (fun h : r.of.getD k 0 < 0 ∧ r.kd = 3 => h3 h.2)]
            simp
          · rw [m3, dns]
            simp only [dnB, if_pos hlt]
            simp [Bn.s]
theorem s17 (rows : List R) (e : Bool) (n k : Nat) (hn : n ≤ 12) (hk : k < n) (hr : ∀ r ∈ rows, OkR n r) (hl : rows.length ≤ 40) :
    ∃ hs ls eh el, Or (.call 17) [LR e rows, I (n : Int), I (k : Int)] [] = some [T.lst 4 eh (eBs hs), T.lst 4 el (eBs ls)] ∧ hs.map Bn.s = ups n k rows 0 ∧ ls.map Bn.s = dns n k rows 0 := by
  obtain ⟨hs, ls, eh, el, k1, k2, k3⟩ := n17 rows e n k hn hk hr hl rows 0 [] [] true true rfl (by simp) (by simp)
  refine ⟨hs, ls, eh, el, orc_of ?_, by simpa using k2, by simpa using k3⟩
  rw [e17, eRs_len]
  exact k1
end Go.Aev.Gen
