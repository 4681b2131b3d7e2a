/-
  What the program's words do.
-/
import Derived.Test.YtldfekaodgfgmaaMGen
import Derived.Test.YtldfekaodgfgmaaAevStep
set_option linter.unusedSimpArgs false
set_option linter.unusedVariables false
namespace Go.Aev.Gen
open Go Go.Aev

noncomputable abbrev Or : Orc := orc PROG ann
abbrev ti (n : Int) : T := .int .i64 n
abbrev tb (b : Bool) : T := .bool b

theorem at_drop {α : Type} {l : List α} {i : Nat} {r : α} {rest : List α} (h : l.drop i = r :: rest) : l[i]? = some r ∧ i < l.length ∧ l.drop (i + 1) = rest := by
  have hlt : i < l.length := by
    rcases Nat.lt_or_ge i l.length with g | g
    · exact g
    · rw [List.drop_eq_nil_of_le g] at h; cases h
  rw [List.drop_eq_getElem_cons hlt] at h
  simp only [List.cons.injEq] at h
  exact ⟨by rw [List.getElem?_eq_getElem hlt, h.1], hlt, h.2⟩
theorem at_end {α : Type} {l : List α} {i : Nat} (h : l.drop i = []) : l.length ≤ i := by simpa using h
def enc (l : List Int) : List (List T) := l.map fun r => [ti r]
theorem enc_len (l : List Int) : (enc l).length = l.length := by simp [enc]
theorem enc_get {l : List Int} {i : Nat} {r : Int} (h : l[i]? = some r) : (enc l)[((i : Nat) : Int).toNat]? = some [ti r] := by simp [enc, h]
abbrev lst (e : Bool) (l : List Int) : AV := AV.t (T.lst 1 e (enc l))
abbrev r0 : AV := AV.ref (Id.c 0) 0
abbrev bx2 (a b : Int) : Blk := Blk.box [I a, I b]

def Wid (b : Int) : Prop := 1 ≤ b ∧ b ≤ 8
instance (b : Int) : Decidable (Wid b) := by unfold Wid; infer_instance
/-- 2 to the power of the bits. -/
def pw (b : Int) : Int := 2 ^ b.toNat
theorem pw_cases {b : Int} (hb : Wid b) : pw b = 2 ∨ pw b = 4 ∨ pw b = 8 ∨ pw b = 16 ∨ pw b = 32 ∨ pw b = 64 ∨ pw b = 128 ∨ pw b = 256 := by
  have : b = 1 ∨ b = 2 ∨ b = 3 ∨ b = 4 ∨ b = 5 ∨ b = 6 ∨ b = 7 ∨ b = 8 := by unfold Wid at hb; omega
  unfold pw
  rcases this with rfl | rfl | rfl | rfl | rfl | rfl | rfl | rfl <;> simp
theorem pw_shift {b : Int} (hb : Wid b) : IntKind.i64.wrap (1 * 2 ^ min b.toNat 64) = pw b := by
  have : b = 1 ∨ b = 2 ∨ b = 3 ∨ b = 4 ∨ b = 5 ∨ b = 6 ∨ b = 7 ∨ b = 8 := by unfold Wid at hb; omega
  rcases this with rfl | rfl | rfl | rfl | rfl | rfl | rfl | rfl <;> decide
theorem pw_shift' {b : Int} (hb : Wid b) : IntKind.i64.wrap (1 * 2 ^ min (IntKind.u64.wrap b).toNat 64) = pw b := by
  have : b = 1 ∨ b = 2 ∨ b = 3 ∨ b = 4 ∨ b = 5 ∨ b = 6 ∨ b = 7 ∨ b = 8 := by unfold Wid at hb; omega
  rcases this with rfl | rfl | rfl | rfl | rfl | rfl | rfl | rfl <;> decide
theorem u64_pos {b : Int} (hb : Wid b) : ¬ IntKind.u64.wrap b < 0 := by
  have : b = 1 ∨ b = 2 ∨ b = 3 ∨ b = 4 ∨ b = 5 ∨ b = 6 ∨ b = 7 ∨ b = 8 := by unfold Wid at hb; omega
  rcases this with rfl | rfl | rfl | rfl | rfl | rfl | rfl | rfl <;> decide
def InW (w b : Int) : Prop := 0 ≤ w ∧ w < pw b
instance (w b : Int) : Decidable (InW w b) := by unfold InW; infer_instance
theorem s14 (c a : Int) : Or (.call 14) [I c, I a] [] = some [ti c, ti a] := orc_of (by rw [e14])
theorem s17 (b : Int) : Or (.call 17) [I b] [] = some [tb (decide (Wid b))] := by
  refine orc_of ?_
  rw [e17]
  simp only [cand, ge_iff_le, ← Bool.decide_and, Wid]
def opsF (o : Int) : Int := if o = 15 then 0 else if o = 16 ∨ o = 23 then 1 else 2
theorem s18 (o : Int) : Or (.call 18) [I o] [] = some [ti (opsF o)] := by
  refine orc_of ?_
  rw [e18]
  unfold opsF
  by_cases h1 : o = 15
  · simp only [gd1, hd1, tl1, dr0, dr1, dr2, dr3, dr4, dr5, dr6, bo1, in1, st1, ls1, le1, pt1, fi1, fb1, fs1, ct1, cf1, nt1, nf1, ak0, akT, akF, cdec, cndec, cbeq, cnbeq, ↓reduceIte, beq_self_eq_true, Int.reduceBEq, Int.reduceEq, Bool.and_true, Bool.true_and, Bool.false_and, Bool.and_false, h1]
  · by_cases h2 : o = 16
    · simp only [gd1, hd1, tl1, dr0, dr1, dr2, dr3, dr4, dr5, dr6, bo1, in1, st1, ls1, le1, pt1, fi1, fb1, fs1, ct1, cf1, nt1, nf1, ak0, akT, akF, cdec, cndec, cbeq, cnbeq, ↓reduceIte, beq_self_eq_true, Int.reduceBEq, Int.reduceEq, Bool.and_true, Bool.true_and, Bool.false_and, Bool.and_false, h2, true_or]
    · by_cases h3 : o = 23
      · simp only [gd1, hd1, tl1, dr0, dr1, dr2, dr3, dr4, dr5, dr6, bo1, in1, st1, ls1, le1, pt1, fi1, fb1, fs1, ct1, cf1, nt1, nf1, ak0, akT, akF, cdec, cndec, cbeq, cnbeq, ↓reduceIte, beq_self_eq_true, Int.reduceBEq, Int.reduceEq, Bool.and_true, Bool.true_and, Bool.false_and, Bool.and_false, h3, or_true]
      · simp only [gd1, hd1, tl1, dr0, dr1, dr2, dr3, dr4, dr5, dr6, bo1, in1, st1, ls1, le1, pt1, fi1, fb1, fs1, ct1, cf1, nt1, nf1, ak0, akT, akF, cdec, cndec, cbeq, cnbeq, ↓reduceIte, beq_self_eq_true, Int.reduceBEq, Int.reduceEq, Bool.and_true, Bool.true_and, Bool.false_and, Bool.and_false, h1, h2, h3, or_self]
theorem s19 (w b : Int) (hb : Wid b) : Or (.call 19) [I w, I b] [] = some [tb (decide (InW w b))] := by
  refine orc_of ?_
  rw [e19, pw_shift hb]
  have h0 : ¬ b < 0 := by unfold Wid at hb; omega
  simp only [cand, ge_iff_le, ← Bool.decide_and]
  simp only [gd1, hd1, tl1, dr0, dr1, dr2, dr3, dr4, dr5, dr6, bo1, in1, st1, ls1, le1, pt1, fi1, fb1, fs1, ct1, cf1, nt1, nf1, ak0, akT, akF, cdec, cndec, cbeq, cnbeq, ↓reduceIte, beq_self_eq_true, Int.reduceBEq, Int.reduceEq, Bool.and_true, Bool.true_and, Bool.false_and, Bool.and_false, h0, InW]
def FitO (o b n : Int) : Prop := if o = 15 then InW n b else if o = 23 then 0 ≤ n ∧ n ≤ 8 else n = 0
instance (o b n : Int) : Decidable (FitO o b n) := by unfold FitO; infer_instance
theorem s20 (o b n : Int) (hb : Wid b) : Or (.call 20) [I o, I b, I n] [] = some [tb (decide (FitO o b n))] := by
  refine orc_of ?_
  rw [e20]
  unfold FitO
  by_cases h1 : o = 15
  · simp only [gd1, hd1, tl1, dr0, dr1, dr2, dr3, dr4, dr5, dr6, bo1, in1, st1, ls1, le1, pt1, fi1, fb1, fs1, ct1, cf1, nt1, nf1, ak0, akT, akF, cdec, cndec, cbeq, cnbeq, ↓reduceIte, beq_self_eq_true, Int.reduceBEq, Int.reduceEq, Bool.and_true, Bool.true_and, Bool.false_and, Bool.and_false, h1, s19 n b hb]
  · by_cases h2 : o = 23
    · simp only [cand, ge_iff_le, ← Bool.decide_and]
      simp only [gd1, hd1, tl1, dr0, dr1, dr2, dr3, dr4, dr5, dr6, bo1, in1, st1, ls1, le1, pt1, fi1, fb1, fs1, ct1, cf1, nt1, nf1, ak0, akT, akF, cdec, cndec, cbeq, cnbeq, ↓reduceIte, beq_self_eq_true, Int.reduceBEq, Int.reduceEq, Bool.and_true, Bool.true_and, Bool.false_and, Bool.and_false, h2]
    · simp only [gd1, hd1, tl1, dr0, dr1, dr2, dr3, dr4, dr5, dr6, bo1, in1, st1, ls1, le1, pt1, fi1, fb1, fs1, ct1, cf1, nt1, nf1, ak0, akT, akF, cdec, cndec, cbeq, cnbeq, ↓reduceIte, beq_self_eq_true, Int.reduceBEq, Int.reduceEq, Bool.and_true, Bool.true_and, Bool.false_and, Bool.and_false, h1, h2]
      rfl

/-- A number's lowest bits. -/
theorem mask_mod (b v : Int) (hb : Wid b) : IntKind.i64.wrap (BitVec.ofInt 64 v &&& BitVec.ofInt 64 (IntKind.i64.wrap (pw b - 1))).toNat = v % pw b := by
  have key : ∀ k : Nat, k ≤ 8 → ((BitVec.ofInt 64 v &&& BitVec.ofNat 64 (2 ^ k - 1)).toNat : Int) = v % 2 ^ k := by
    intro k hk
    have hlt : 2 ^ k - 1 < 2 ^ 64 := by
      have : 2 ^ k ≤ 2 ^ 8 := Nat.pow_le_pow_right (by decide) hk
      omega
    rw [BitVec.toNat_and, BitVec.toNat_ofNat, Nat.mod_eq_of_lt hlt, Nat.and_two_pow_sub_one_eq_mod, BitVec.toNat_ofInt]
    have hd : (2 ^ k : Int) ∣ 2 ^ 64 := ⟨2 ^ (64 - k), by rw [← Int.pow_add]; congr 1; omega⟩
    have hp : (0 : Int) ≤ v % 2 ^ 64 := Int.emod_nonneg _ (by decide)
    rw [Int.natCast_emod]
    show ((v % 2 ^ 64).toNat : Int) % ((2 ^ k : Nat) : Int) = _
    rw [Int.toNat_of_nonneg hp]
    rw [show ((2 ^ k : Nat) : Int) = (2 : Int) ^ k from by simp]
    exact Int.emod_emod_of_dvd _ hd
  have fin : ∀ k : Nat, k ≤ 8 → b.toNat = k → BitVec.ofInt 64 (IntKind.i64.wrap (2 ^ k - 1)) = BitVec.ofNat 64 (2 ^ k - 1) → IntKind.i64.wrap (BitVec.ofInt 64 v &&& BitVec.ofInt 64 (IntKind.i64.wrap (pw b - 1))).toNat = v % pw b := by
    intro k hk hb' he
    unfold pw
    rw [hb', he, key k hk]
    have hpos : (0 : Int) < 2 ^ k := Int.pow_pos (by decide)
    have h1 := Int.emod_nonneg v (Int.ne_of_gt hpos)
    have h2 := Int.emod_lt_of_pos v hpos
    have h3 : (2 : Int) ^ k ≤ 256 := by
      have h := Nat.pow_le_pow_right (n := 2) (by decide) hk
      have : ((2 ^ k : Nat) : Int) ≤ ((2 ^ 8 : Nat) : Int) := Int.ofNat_le.2 h
      simpa using this
    exact wr (by omega)
  have : b = 1 ∨ b = 2 ∨ b = 3 ∨ b = 4 ∨ b = 5 ∨ b = 6 ∨ b = 7 ∨ b = 8 := by unfold Wid at hb; omega
  rcases this with rfl | rfl | rfl | rfl | rfl | rfl | rfl | rfl
  · exact fin 1 (by decide) rfl (by decide)
  · exact fin 2 (by decide) rfl (by decide)
  · exact fin 3 (by decide) rfl (by decide)
  · exact fin 4 (by decide) rfl (by decide)
  · exact fin 5 (by decide) rfl (by decide)
  · exact fin 6 (by decide) rfl (by decide)
  · exact fin 7 (by decide) rfl (by decide)
  · exact fin 8 (by decide) rfl (by decide)
theorem wrap_mod (v b : Int) (hb : Wid b) : IntKind.i64.wrap v % pw b = v % pw b := by
  have hd : pw b ∣ 18446744073709551616 := by rcases pw_cases hb with h | h | h | h | h | h | h | h <;> rw [h] <;> decide
  have : ∃ k, IntKind.i64.wrap v = v + 18446744073709551616 * k := by
    simp only [IntKind.wrap, IntKind.signed, IntKind.bits]
    simp
    split
    · exact ⟨-(v / 18446744073709551616) - 1, by omega⟩
    · exact ⟨-(v / 18446744073709551616), by omega⟩
  obtain ⟨k, hk⟩ := this
  obtain ⟨d, hd⟩ := hd
  rw [hk, hd, Int.mul_assoc, Int.add_mul_emod_self_left]
theorem u8_small {n : Int} (h : 0 ≤ n ∧ n < 256) : (BitVec.ofInt 64 n).toNat = n.toNat := by
  rw [BitVec.toNat_ofInt]
  show (n % 18446744073709551616).toNat = n.toNat
  rw [Int.emod_eq_of_lt h.1 (by omega)]

/-! ### Do -/
/-- What an operation makes. -/
def valF (o b : Int) (ks : List Int) (n : Int) : Int :=
  let k0 := ks.getD 0 0
  let k1 := ks.getD 1 0
  if o = 16 then (-1 - k0) % pw b
  else if o = 17 then ((k0.toNat &&& k1.toNat : Nat) : Int)
  else if o = 18 then ((k0.toNat ||| k1.toNat : Nat) : Int)
  else if o = 19 then ((k0.toNat ^^^ k1.toNat : Nat) : Int)
  else if o = 20 then (k0 + k1) % pw b
  else if o = 21 then (k0 * k1) % pw b
  else if o = 23 then (k0 * 2 ^ n.toNat) % pw b
  else if o = 22 then (if k0 < k1 then 1 else 0)
  else n
def badK (b : Int) : List Int → Nat → Option Nat
  | [], _ => none
  | k :: ks, i => if InW k b then badK b ks (i + 1) else some i
def doF (o b : Int) (ks : List Int) (n : Int) : List T :=
  if o < 15 ∨ o > 23 then [ti 0, ti 4, ti 0]
  else if ¬ Wid b then [ti 0, ti 3, ti (-1)]
  else if ¬ (ks.length : Int) = opsF o then [ti 0, ti 9, ti 0]
  else match badK b ks 0 with
    | some i => [ti 0, ti 3, ti i]
    | none => if FitO o b n then [ti (valF o b ks n), ti 0, ti 0] else [ti 0, ti 5, ti 0]

theorem pw_two (b : Int) : pw b = ((2 ^ b.toNat : Nat) : Int) := by simp [pw]
theorem toNat_lt {k b : Int} (h : InW k b) : k.toNat < 2 ^ b.toNat := by
  have := h.2
  rw [pw_two] at this
  have h0 := h.1
  omega
theorem small_mod {x : Nat} {b : Int} (h : x < 2 ^ b.toNat) : (x : Int) % pw b = (x : Int) := by
  rw [pw_two]
  exact Int.emod_eq_of_lt (by omega) (by omega)
theorem w256 {k b : Int} (hb : Wid b) (h : InW k b) : 0 ≤ k ∧ k < 256 := by
  have h0 := h.1; have h1 := h.2
  rcases pw_cases hb with e | e | e | e | e | e | e | e <;> rw [e] at h1 <;> omega
theorem not64 {k : Int} (h : 0 ≤ k ∧ k < 256) : IntKind.i64.wrap (BitVec.ofInt 64 (if IntKind.i64.signed = true then -1 else IntKind.i64.max) ^^^ BitVec.ofInt 64 k).toNat = -1 - k := by
  have e : BitVec.ofInt 64 (if IntKind.i64.signed = true then -1 else IntKind.i64.max) = BitVec.allOnes 64 := by decide
  rw [e, BitVec.xor_comm, BitVec.xor_allOnes, BitVec.toNat_not, u8_small h]
  simp only [IntKind.wrap, IntKind.signed, IntKind.bits]
  simp
  omega

theorem badK_none {b : Int} : ∀ {ks : List Int} {i : Nat}, badK b ks i = none → ∀ k ∈ ks, InW k b
  | [], _, _, k, hk => by cases hk
  | a :: ks, i, h, k, hk => by
    simp only [badK] at h
    by_cases ha : InW a b
    · rw [if_pos ha] at h
      rcases List.mem_cons.1 hk with rfl | hk
      · exact ha
      · exact badK_none h k hk
    · rw [if_neg ha] at h; cases h
abbrev vals8 (o b : Int) (e : Bool) (ks : List Int) (n i : Int) : List AV := [I o, I b, lst e ks, I n, r0, lst e ks, I (ks.length : Int), I i]
theorem n8bad (o b : Int) (hb : Wid b) (e : Bool) (ks : List Int) (n : Int) (hl : ks.length ≤ 2) (j : Nat) : ∀ (rest : List Int) (i : Nat), ks.drop i = rest → badK b rest i = some j →
    Or K8n8 (vals8 o b e ks n (i : Int)) [bx2 0 0] = some [ti 0, ti 3, ti j] := by
  intro rest
  induction rest with
  | nil => intro i _ h; simp [badK] at h
  | cons k rest ih =>
    intro i hd hbad
    obtain ⟨h1, h2, h3⟩ := at_drop hd
    refine orc_of ?_
    rw [e8n8]
    have h : (i : Int) < (ks.length : Int) := by omega
    have h0 : (0 : Int) ≤ (i : Int) := by omega
    have w : IntKind.i64.wrap ((i : Int) + 1) = ((i + 1 : Nat) : Int) := by rw [wr (by omega)]; omega
    simp only [badK] at hbad
    by_cases hk : InW k b
    · rw [if_pos hk] at hbad
      simp only [gd1, hd1, tl1, dr0, dr1, dr2, dr3, dr4, dr5, dr6, bo1, in1, st1, ls1, le1, pt1, fi1, fb1, fs1, ct1, cf1, nt1, nf1, ak0, akT, akF, cdec, cndec, cbeq, cnbeq, ↓reduceIte, beq_self_eq_true, Int.reduceBEq, Int.reduceEq, Bool.and_true, Bool.true_and, Bool.false_and, Bool.and_false, h, h0, and_self, enc_len, enc_get h1, s19 k b hb, hk, decide_true, w, ih (i + 1) h3 hbad]
    · rw [if_neg hk] at hbad
      simp only [Option.some.injEq] at hbad; subst hbad
      simp only [gd1, hd1, tl1, dr0, dr1, dr2, dr3, dr4, dr5, dr6, bo1, in1, st1, ls1, le1, pt1, fi1, fb1, fs1, ct1, cf1, nt1, nf1, ak0, akT, akF, cdec, cndec, cbeq, cnbeq, ↓reduceIte, beq_self_eq_true, Int.reduceBEq, Int.reduceEq, Bool.and_true, Bool.true_and, Bool.false_and, Bool.and_false, h, h0, and_self, enc_len, enc_get h1, s19 k b hb, hk, decide_false]
theorem g0 (k : Int) (r : List Int) : (enc (k :: r))[0]? = some [ti k] := by simp [enc]
theorem g1 (k l : Int) (r : List Int) : (enc (k :: l :: r))[1]? = some [ti l] := by simp [enc]
theorem l10 (k : Int) : (0 : Int) < (([k] : List Int).length : Int) := by simp
theorem l20 (k l : Int) : (0 : Int) < (([k, l] : List Int).length : Int) := by simp
theorem l21 (k l : Int) : (1 : Int) < (([k, l] : List Int).length : Int) := by simp
theorem l01 : (0 : Int) ≤ 0 := by decide
theorem l02 : (0 : Int) ≤ 1 := by decide
theorem n8end (o b : Int) (hb : Wid b) (ho : 15 ≤ o ∧ o ≤ 23) (e : Bool) (ks : List Int) (n : Int) (hl : (ks.length : Int) = opsF o) (hall : ∀ k ∈ ks, InW k b) :
    Or K8n8 (vals8 o b e ks n (ks.length : Int)) [bx2 0 0] = some (if FitO o b n then [ti (valF o b ks n), ti 0, ti 0] else [ti 0, ti 5, ti 0]) := by
  refine orc_of ?_
  rw [e8n8]
  have h : ¬ (ks.length : Int) < (ks.length : Int) := by omega
  have hb0 : ¬ b < 0 := by unfold Wid at hb; omega
  by_cases hf : FitO o b n
  · have one : opsF o = 1 → ∃ k, ks = [k] ∧ InW k b := by
      intro h1
      rw [h1] at hl
      obtain ⟨k, rfl⟩ := List.length_eq_one_iff.1 (show ks.length = 1 by omega)
      exact ⟨k, rfl, hall k (by simp)⟩
    have two : opsF o = 2 → ∃ k l, ks = [k, l] ∧ InW k b ∧ InW l b := by
      intro h1
      rw [h1] at hl
      match ks, hl, hall with
      | [k, l], _, hall => exact ⟨k, l, rfl, hall k (by simp), hall l (by simp)⟩
    have : o = 15 ∨ o = 16 ∨ o = 17 ∨ o = 18 ∨ o = 19 ∨ o = 20 ∨ o = 21 ∨ o = 22 ∨ o = 23 := by omega
    rcases this with rfl | rfl | rfl | rfl | rfl | rfl | rfl | rfl | rfl
    · have hn : InW n b := by simpa [FitO] using hf
      have hm : n % pw b = n := Int.emod_eq_of_lt hn.1 hn.2
      simp only [gd1, hd1, tl1, dr0, dr1, dr2, dr3, dr4, dr5, dr6, bo1, in1, st1, ls1, le1, pt1, fi1, fb1, fs1, ct1, cf1, nt1, nf1, ak0, akT, akF, cdec, cndec, cbeq, cnbeq, ↓reduceIte, beq_self_eq_true, Int.reduceBEq, Int.reduceEq, Bool.and_true, Bool.true_and, Bool.false_and, Bool.and_false, h, s20 15 b n hb, hf, decide_true, hb0, pw_shift hb, mask_mod b _ hb, valF, hm]
    · obtain ⟨k, rfl, hk⟩ := one (by decide)
      simp only [gd1, hd1, tl1, dr0, dr1, dr2, dr3, dr4, dr5, dr6, bo1, in1, st1, ls1, le1, pt1, fi1, fb1, fs1, ct1, cf1, nt1, nf1, ak0, akT, akF, cdec, cndec, cbeq, cnbeq, ↓reduceIte, beq_self_eq_true, Int.reduceBEq, Int.reduceEq, Bool.and_true, Bool.true_and, Bool.false_and, Bool.and_false, h, s20 16 b n hb, hf, decide_true, hb0, pw_shift hb, mask_mod b _ hb, valF, enc_len, l01, l10, and_self, g0, not64 (w256 hb hk), List.getD_cons_zero]
    · obtain ⟨k, l, rfl, hk, hl'⟩ := two (by decide)
      have hx : IntKind.i64.wrap (((k.toNat &&& l.toNat : Nat) : Nat) : Int) % pw b = ((k.toNat &&& l.toNat : Nat) : Int) := by
        rw [wrap_mod _ _ hb, small_mod (Nat.and_lt_two_pow _ (toNat_lt hl'))]
      simp only [gd1, hd1, tl1, dr0, dr1, dr2, dr3, dr4, dr5, dr6, bo1, in1, st1, ls1, le1, pt1, fi1, fb1, fs1, ct1, cf1, nt1, nf1, ak0, akT, akF, cdec, cndec, cbeq, cnbeq, ↓reduceIte, beq_self_eq_true, Int.reduceBEq, Int.reduceEq, Bool.and_true, Bool.true_and, Bool.false_and, Bool.and_false, h, s20 17 b n hb, hf, decide_true, hb0, pw_shift hb, mask_mod b _ hb, valF, enc_len, l01, l02, l20, l21, and_self, g0, g1, List.getD_cons_zero, List.getD_cons_succ]
      simp only [BitVec.toNat_and, u8_small (w256 hb hk), u8_small (w256 hb hl'), hx]
    · obtain ⟨k, l, rfl, hk, hl'⟩ := two (by decide)
      have hx : IntKind.i64.wrap (((k.toNat ||| l.toNat : Nat) : Nat) : Int) % pw b = ((k.toNat ||| l.toNat : Nat) : Int) := by
        rw [wrap_mod _ _ hb, small_mod (Nat.or_lt_two_pow (toNat_lt hk) (toNat_lt hl'))]
      simp only [gd1, hd1, tl1, dr0, dr1, dr2, dr3, dr4, dr5, dr6, bo1, in1, st1, ls1, le1, pt1, fi1, fb1, fs1, ct1, cf1, nt1, nf1, ak0, akT, akF, cdec, cndec, cbeq, cnbeq, ↓reduceIte, beq_self_eq_true, Int.reduceBEq, Int.reduceEq, Bool.and_true, Bool.true_and, Bool.false_and, Bool.and_false, h, s20 18 b n hb, hf, decide_true, hb0, pw_shift hb, mask_mod b _ hb, valF, enc_len, l01, l02, l20, l21, and_self, g0, g1, List.getD_cons_zero, List.getD_cons_succ]
      simp only [BitVec.toNat_or, u8_small (w256 hb hk), u8_small (w256 hb hl'), hx]
    · obtain ⟨k, l, rfl, hk, hl'⟩ := two (by decide)
      have hx : IntKind.i64.wrap (((k.toNat ^^^ l.toNat : Nat) : Nat) : Int) % pw b = ((k.toNat ^^^ l.toNat : Nat) : Int) := by
        rw [wrap_mod _ _ hb, small_mod (Nat.xor_lt_two_pow (toNat_lt hk) (toNat_lt hl'))]
      simp only [gd1, hd1, tl1, dr0, dr1, dr2, dr3, dr4, dr5, dr6, bo1, in1, st1, ls1, le1, pt1, fi1, fb1, fs1, ct1, cf1, nt1, nf1, ak0, akT, akF, cdec, cndec, cbeq, cnbeq, ↓reduceIte, beq_self_eq_true, Int.reduceBEq, Int.reduceEq, Bool.and_true, Bool.true_and, Bool.false_and, Bool.and_false, h, s20 19 b n hb, hf, decide_true, hb0, pw_shift hb, mask_mod b _ hb, valF, enc_len, l01, l02, l20, l21, and_self, g0, g1, List.getD_cons_zero, List.getD_cons_succ]
      simp only [BitVec.toNat_xor, u8_small (w256 hb hk), u8_small (w256 hb hl'), hx]
    · obtain ⟨k, l, rfl, hk, hl'⟩ := two (by decide)
      simp only [gd1, hd1, tl1, dr0, dr1, dr2, dr3, dr4, dr5, dr6, bo1, in1, st1, ls1, le1, pt1, fi1, fb1, fs1, ct1, cf1, nt1, nf1, ak0, akT, akF, cdec, cndec, cbeq, cnbeq, ↓reduceIte, beq_self_eq_true, Int.reduceBEq, Int.reduceEq, Bool.and_true, Bool.true_and, Bool.false_and, Bool.and_false, h, s20 20 b n hb, hf, decide_true, hb0, pw_shift hb, mask_mod b _ hb, valF, enc_len, l01, l02, l20, l21, and_self, g0, g1, wrap_mod _ _ hb, List.getD_cons_zero, List.getD_cons_succ]
    · obtain ⟨k, l, rfl, hk, hl'⟩ := two (by decide)
      simp only [gd1, hd1, tl1, dr0, dr1, dr2, dr3, dr4, dr5, dr6, bo1, in1, st1, ls1, le1, pt1, fi1, fb1, fs1, ct1, cf1, nt1, nf1, ak0, akT, akF, cdec, cndec, cbeq, cnbeq, ↓reduceIte, beq_self_eq_true, Int.reduceBEq, Int.reduceEq, Bool.and_true, Bool.true_and, Bool.false_and, Bool.and_false, h, s20 21 b n hb, hf, decide_true, hb0, pw_shift hb, mask_mod b _ hb, valF, enc_len, l01, l02, l20, l21, and_self, g0, g1, wrap_mod _ _ hb, List.getD_cons_zero, List.getD_cons_succ]
    · obtain ⟨k, l, rfl, hk, hl'⟩ := two (by decide)
      have m1 : (1 : Int) % pw b = 1 := by rcases pw_cases hb with e | e | e | e | e | e | e | e <;> rw [e] <;> decide
      have m0 : (0 : Int) % pw b = 0 := by simp
      by_cases hkl : k < l
      · simp only [gd1, hd1, tl1, dr0, dr1, dr2, dr3, dr4, dr5, dr6, bo1, in1, st1, ls1, le1, pt1, fi1, fb1, fs1, ct1, cf1, nt1, nf1, ak0, akT, akF, cdec, cndec, cbeq, cnbeq, ↓reduceIte, beq_self_eq_true, Int.reduceBEq, Int.reduceEq, Bool.and_true, Bool.true_and, Bool.false_and, Bool.and_false, h, s20 22 b n hb, hf, decide_true, hb0, pw_shift hb, mask_mod b _ hb, valF, enc_len, l01, l02, l20, l21, and_self, g0, g1, hkl, m1, List.getD_cons_zero, List.getD_cons_succ]
      · simp only [gd1, hd1, tl1, dr0, dr1, dr2, dr3, dr4, dr5, dr6, bo1, in1, st1, ls1, le1, pt1, fi1, fb1, fs1, ct1, cf1, nt1, nf1, ak0, akT, akF, cdec, cndec, cbeq, cnbeq, ↓reduceIte, beq_self_eq_true, Int.reduceBEq, Int.reduceEq, Bool.and_true, Bool.true_and, Bool.false_and, Bool.and_false, h, s20 22 b n hb, hf, decide_true, hb0, pw_shift hb, mask_mod b _ hb, valF, enc_len, l01, l02, l20, l21, and_self, g0, g1, hkl, m0, List.getD_cons_zero, List.getD_cons_succ]
    · obtain ⟨k, rfl, hk⟩ := one (by decide)
      have hn : 0 ≤ n ∧ n ≤ 8 := by simpa [FitO] using hf
      have hn0 : ¬ n < 0 := by omega
      have hmin : min n.toNat 64 = n.toNat := by omega
      simp only [gd1, hd1, tl1, dr0, dr1, dr2, dr3, dr4, dr5, dr6, bo1, in1, st1, ls1, le1, pt1, fi1, fb1, fs1, ct1, cf1, nt1, nf1, ak0, akT, akF, cdec, cndec, cbeq, cnbeq, ↓reduceIte, beq_self_eq_true, Int.reduceBEq, Int.reduceEq, Bool.and_true, Bool.true_and, Bool.false_and, Bool.and_false, h, s20 23 b n hb, hf, decide_true, hb0, hn0, pw_shift hb, mask_mod b _ hb, valF, enc_len, l01, l10, and_self, g0, hmin, wrap_mod _ _ hb, List.getD_cons_zero]
  · simp only [gd1, hd1, tl1, dr0, dr1, dr2, dr3, dr4, dr5, dr6, bo1, in1, st1, ls1, le1, pt1, fi1, fb1, fs1, ct1, cf1, nt1, nf1, ak0, akT, akF, cdec, cndec, cbeq, cnbeq, ↓reduceIte, beq_self_eq_true, Int.reduceBEq, Int.reduceEq, Bool.and_true, Bool.true_and, Bool.false_and, Bool.and_false, h, s20 o b n hb, hf, decide_false]
theorem n8ok (o b : Int) (hb : Wid b) (ho : 15 ≤ o ∧ o ≤ 23) (e : Bool) (ks : List Int) (n : Int) (hl : (ks.length : Int) = opsF o) (hlen : ks.length ≤ 2) (hall : ∀ k ∈ ks, InW k b) : ∀ (rest : List Int) (i : Nat), ks.drop i = rest → i ≤ ks.length →
    Or K8n8 (vals8 o b e ks n (i : Int)) [bx2 0 0] = some (if FitO o b n then [ti (valF o b ks n), ti 0, ti 0] else [ti 0, ti 5, ti 0]) := by
  intro rest
  induction rest with
  | nil =>
    intro i hd hi
    have := at_end hd
    have : i = ks.length := by omega
    subst this
    exact n8end o b hb ho e ks n hl hall
  | cons k rest ih =>
    intro i hd hi
    obtain ⟨h1, h2, h3⟩ := at_drop hd
    have hk := hall k (List.mem_of_getElem? h1)
    refine orc_of ?_
    rw [e8n8]
    have h : (i : Int) < (ks.length : Int) := by omega
    have h0 : (0 : Int) ≤ (i : Int) := by omega
    have w : IntKind.i64.wrap ((i : Int) + 1) = ((i + 1 : Nat) : Int) := by rw [wr (by omega)]; omega
    simp only [gd1, hd1, tl1, dr0, dr1, dr2, dr3, dr4, dr5, dr6, bo1, in1, st1, ls1, le1, pt1, fi1, fb1, fs1, ct1, cf1, nt1, nf1, ak0, akT, akF, cdec, cndec, cbeq, cnbeq, ↓reduceIte, beq_self_eq_true, Int.reduceBEq, Int.reduceEq, Bool.and_true, Bool.true_and, Bool.false_and, Bool.and_false, h, h0, and_self, enc_len, enc_get h1, s19 k b hb, hk, decide_true, w, ih (i + 1) h3 (by omega)]
theorem ops_le (o : Int) : opsF o ≤ 2 := by unfold opsF; split <;> (try split) <;> omega
theorem s8 (o b : Int) (e : Bool) (ks : List Int) (n : Int) : Or (.call 8) [I o, I b, lst e ks, I n] [] = some (doF o b ks n) := by
  refine orc_of ?_
  rw [e8]
  unfold doF
  have hoo : (bif decide (o < 15) then true else decide (o > 23)) = decide (o < 15 ∨ o > 23) := by rw [cor, ← Bool.decide_or]
  rw [hoo]
  by_cases h1 : o < 15 ∨ o > 23
  · simp only [gd1, hd1, tl1, dr0, dr1, dr2, dr3, dr4, dr5, dr6, bo1, in1, st1, ls1, le1, pt1, fi1, fb1, fs1, ct1, cf1, nt1, nf1, ak0, akT, akF, cdec, cndec, cbeq, cnbeq, ↓reduceIte, beq_self_eq_true, Int.reduceBEq, Int.reduceEq, Bool.and_true, Bool.true_and, Bool.false_and, Bool.and_false, h1, decide_true]
  · by_cases hb : Wid b
    · by_cases hl : (ks.length : Int) = opsF o
      · have hlen : ks.length ≤ 2 := by have := ops_le o; omega
        cases hbad : badK b ks 0 with
        | some j =>
          have := n8bad o b hb e ks n hlen j ks 0 rfl hbad
          simp only [gd1, hd1, tl1, dr0, dr1, dr2, dr3, dr4, dr5, dr6, bo1, in1, st1, ls1, le1, pt1, fi1, fb1, fs1, ct1, cf1, nt1, nf1, ak0, akT, akF, cdec, cndec, cbeq, cnbeq, ↓reduceIte, beq_self_eq_true, Int.reduceBEq, Int.reduceEq, Bool.and_true, Bool.true_and, Bool.false_and, Bool.and_false, h1, hb, hl, decide_true, decide_false, not_true_eq_false, s17, s18, enc_len]
          rw [← hl]
          exact this
        | none =>
          have := n8ok o b hb (by omega) e ks n hl hlen (badK_none hbad) ks 0 rfl (Nat.zero_le _)
          simp only [gd1, hd1, tl1, dr0, dr1, dr2, dr3, dr4, dr5, dr6, bo1, in1, st1, ls1, le1, pt1, fi1, fb1, fs1, ct1, cf1, nt1, nf1, ak0, akT, akF, cdec, cndec, cbeq, cnbeq, ↓reduceIte, beq_self_eq_true, Int.reduceBEq, Int.reduceEq, Bool.and_true, Bool.true_and, Bool.false_and, Bool.and_false, h1, hb, hl, decide_true, decide_false, not_true_eq_false, s17, s18, enc_len]
          rw [← hl]
          exact this
      · simp only [gd1, hd1, tl1, dr0, dr1, dr2, dr3, dr4, dr5, dr6, bo1, in1, st1, ls1, le1, pt1, fi1, fb1, fs1, ct1, cf1, nt1, nf1, ak0, akT, akF, cdec, cndec, cbeq, cnbeq, ↓reduceIte, beq_self_eq_true, Int.reduceBEq, Int.reduceEq, Bool.and_true, Bool.true_and, Bool.false_and, Bool.and_false, h1, hb, hl, decide_true, decide_false, not_true_eq_false, not_false_eq_true, s17, s18, enc_len]
    · simp only [gd1, hd1, tl1, dr0, dr1, dr2, dr3, dr4, dr5, dr6, bo1, in1, st1, ls1, le1, pt1, fi1, fb1, fs1, ct1, cf1, nt1, nf1, ak0, akT, akF, cdec, cndec, cbeq, cnbeq, ↓reduceIte, beq_self_eq_true, Int.reduceBEq, Int.reduceEq, Bool.and_true, Bool.true_and, Bool.false_and, Bool.and_false, h1, hb, decide_false, not_false_eq_true, s17]
end Go.Aev.Gen
