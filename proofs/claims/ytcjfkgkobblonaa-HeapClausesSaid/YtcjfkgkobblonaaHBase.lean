/-
  Heaps: what is passed on; the greatest common divisor.
-/
import Derived.Test.YtcjfkgkobblonaaHGen
set_option linter.unusedSimpArgs false
set_option linter.unusedVariables false
namespace Go.Aev.Gen
open Go Go.Aev Go.Aev.Hp Go.RowKit

noncomputable abbrev Or : Orc := orc PROG ann
abbrev ti (n : Int) : T := .int .i64 n
abbrev tb (b : Bool) : T := .bool b
abbrev o0 : AV := AV.own (Id.c 0)
abbrev r0 : AV := AV.ref (Id.c 0) 0
abbrev r1 : AV := AV.ref (Id.c 1) 0
abbrev r2 : AV := AV.ref (Id.c 2) 0
abbrev r3 : AV := AV.ref (Id.c 3) 0

theorem at_drop {α : Type} {l : List α} {i : Nat} {r : α} {rest : List α} (h : l.drop i = r :: rest) : l[i]? = some r ∧ i < l.length ∧ l.drop (i + 1) = rest := by
  have hlt : i < l.length := by
    rcases Nat.lt_or_ge i l.length with g | g
    · exact g
    · rw [List.drop_eq_nil_of_le g] at h; cases h
  rw [List.drop_eq_getElem_cons hlt] at h
  simp only [List.cons.injEq] at h
  exact ⟨by rw [List.getElem?_eq_getElem hlt, h.1], hlt, h.2⟩
theorem at_end {α : Type} {l : List α} {i : Nat} (h : l.drop i = []) : l.length ≤ i := by simpa using h
def enc (l : List Int) : List (List T) := l.map fun r => [ti r]
theorem enc_len (l : List Int) : (enc l).length = l.length := by simp [enc]
theorem enc_get {l : List Int} {i : Nat} {r : Int} (h : l[i]? = some r) : (enc l)[((i : Nat) : Int).toNat]? = some [ti r] := by simp [enc, h]
theorem enc_append (a b : List Int) : enc (a ++ b) = enc a ++ enc b := by simp [enc]
theorem enc_emp (l : List Int) : (enc l).isEmpty = l.isEmpty := by cases l <;> rfl
theorem enc_set {l : List Int} {i : Nat} (h : i < l.length) (x : Int) : storeIn ((i : Nat) : Int).toNat 0 [ti x] (enc l) = some (enc (l.set i x)) := by
  unfold storeIn
  have h1 : (enc l)[((i : Nat) : Int).toNat]? = some [ti l[i]] := enc_get (by rw [List.getElem?_eq_getElem h])
  rw [h1]
  simp [repl, enc, List.map_set]
theorem ints_enc : ∀ (l : List Int), ints? (enc l) = some l
  | [] => rfl
  | x :: r => by
    show (int1? [ti x]).bind (fun n => (ints? (enc r)).bind fun l => some (n :: l)) = _
    rw [ints_enc r]; rfl
abbrev lst (e : Bool) (l : List Int) : AV := AV.t (T.lst 1 e (enc l))
theorem next (i : Nat) (h : i ≤ 100000) : IntKind.i64.wrap ((i : Int) + 1) = ((i + 1 : Nat) : Int) := by rw [wr (by omega)]; omega
theorem small_ok {bs n : Nat} (h : n ≤ 100000) : small bs n = some () := by unfold small; rw [if_pos (.inl (by unfold lim; omega))]
theorem beq_dec (a b : Int) : (a == b) = decide (a = b) := by by_cases h : a = b <;> simp [h]
theorem mm_max (a b : Int) : mm true a b = max a b := by simp only [mm, cond_true]; split <;> omega
theorem mm_min (a b : Int) : mm false a b = min a b := by simp only [mm, cond_false]; split <;> omega
theorem wr64 (n : Int) : IntKind.i64.wrap n = wrap64 n := IntWalk.i64_left n
theorem w6 {n : Int} (h : -9000000000000000000 ≤ n ∧ n ≤ 9000000000000000000) : IntKind.i64.wrap n = n := wr (by omega)

/-- A heap. -/
structure Hp where
  ls : List Int
  os : List Int
  at_ : Int
  deriving Inhabited
abbrev hv (e f : Bool) (h : Hp) : AV := AV.agg [lst e h.ls, lst f h.os, I h.at_]
/-- A list, as it is handed back: nil where it is empty. -/
def tl (l : List Int) : T := if l = [] then T.emp true else T.lst 1 false (enc l)
theorem tl_lst (l : List Int) : (tl l).lst? 1 = some (l.isEmpty, enc l) := by
  unfold tl
  cases l with
  | nil => rfl
  | cons x r => rw [if_neg (by simp)]; exact ls1 _ _ _
/-- How a list comes out of a call: T.emp or T.lst. -/
def tm (l : List Int) : T := T.lst 1 l.isEmpty (enc l)
theorem tm_lst (l : List Int) : (tm l).lst? 1 = some (l.isEmpty, enc l) := ls1 _ _ _

/-- The greatest common divisor. -/
def gc (a b : Int) : Int := ((Int.gcd a b : Nat) : Int)
theorem gc_step {a b : Int} (hb : 0 < b) (ha : 0 ≤ a) : gc b (a.tmod b) = gc a b := by
  obtain ⟨m, rfl⟩ := Int.eq_ofNat_of_zero_le ha
  obtain ⟨n, rfl⟩ := Int.eq_ofNat_of_zero_le (Int.le_of_lt hb)
  have : ((m : Int).tmod n) = ((m % n : Nat) : Int) := by simp [Int.tmod]
  unfold gc
  rw [this]
  simp only [Int.gcd, Int.natAbs_natCast]
  congr 1
  rw [Nat.gcd_comm m n, Nat.gcd_rec n m, Nat.gcd_comm]
theorem gc_zero {a : Int} (ha : 0 ≤ a) : gc a 0 = a := by unfold gc; simp [Int.gcd]; omega
theorem tmod_lt {a b : Int} (ha : 0 ≤ a) (hb : 0 < b) : 0 ≤ a.tmod b ∧ a.tmod b < b := by
  rw [Int.tmod_eq_emod_of_nonneg ha]
  exact ⟨Int.emod_nonneg _ (by omega), Int.emod_lt_of_pos _ hb⟩
theorem n41 : ∀ (n : Nat) (a b : Int), 0 ≤ a → 0 ≤ b → b.toNat ≤ n → Or K41n1 [I a, I b] [] = some [ti (gc a b)]
  | 0, a, b, ha, hb, h => by
    have : b = 0 := by omega
    subst this
    refine orc_of ?_
    rw [e41n1]
    simp only [gd1, hd1, tl1, dr0, dr1, dr2, dr3, dr4, dr5, dr6, bo1, in1, st1, ls1, le1, pt1, fi1, fb1, fs1, ct1, cf1, nt1, nf1, ak0, akT, akF, cdec, cndec, cbeq, cnbeq, ↓reduceIte, beq_self_eq_true, Int.reduceBEq, Int.reduceEq, Bool.and_true, Bool.true_and, Bool.false_and, Bool.and_false, gc_zero ha]
  | n + 1, a, b, ha, hb, h => by
    by_cases h0 : b = 0
    · subst h0
      refine orc_of ?_
      rw [e41n1]
      simp only [gd1, hd1, tl1, dr0, dr1, dr2, dr3, dr4, dr5, dr6, bo1, in1, st1, ls1, le1, pt1, fi1, fb1, fs1, ct1, cf1, nt1, nf1, ak0, akT, akF, cdec, cndec, cbeq, cnbeq, ↓reduceIte, beq_self_eq_true, Int.reduceBEq, Int.reduceEq, Bool.and_true, Bool.true_and, Bool.false_and, Bool.and_false, gc_zero ha]
    · have hp : 0 < b := by omega
      have ht := tmod_lt ha hp
      refine orc_of ?_
      rw [e41n1]
      simp only [gd1, hd1, tl1, dr0, dr1, dr2, dr3, dr4, dr5, dr6, bo1, in1, st1, ls1, le1, pt1, fi1, fb1, fs1, ct1, cf1, nt1, nf1, ak0, akT, akF, cdec, cndec, cbeq, cnbeq, ↓reduceIte, beq_self_eq_true, Int.reduceBEq, Int.reduceEq, Bool.and_true, Bool.true_and, Bool.false_and, Bool.and_false, h0, n41 n b (a.tmod b) hb ht.1 (by omega), gc_step hp ha]
theorem s41 (a b : Int) (ha : 0 ≤ a) (hb : 0 ≤ b) : Or (.call 41) [I a, I b] [] = some [ti (gc a b)] := by
  refine orc_of ?_
  rw [e41]
  exact n41 _ a b ha hb (Nat.le_refl _)
theorem s23 (a b : Int) : Or (.call 23) [I a, I b] [] = some [ti a, ti b] := orc_of (by rw [e23])
theorem s31 (a : Int) : Or (.call 31) [I a] [] = some [tb (decide (a ≤ 1000000 ∧ a ≥ -1000000))] := by
  refine orc_of ?_
  rw [e31]
  simp only [cand, ← Bool.decide_and]
theorem s35 (a : Int) : Or (.call 35) [I a] [] = some [tb (decide (a ≥ -1000000 ∧ a ≤ 1000000))] := by
  refine orc_of ?_
  rw [e35]
  simp only [cand, ← Bool.decide_and]
theorem s40 (e f : Bool) (ls os : List Int) (h1 : ls.length = os.length) (h2 : ls.length ≤ 60) (h3 : ls.all okL = true) (h4 : os.all okO = true) :
    Or (.call 40) [lst e ls, lst f os] [] = some [.lst 2 (termsF ls os).isEmpty ((termsF ls os).map rowT), ti (baseF ls os)] := by
  refine orc_of ?_
  show (match extT [lst e ls, lst f os] [] with | some r => some r | none => _) = _
  have : extT [lst e ls, lst f os] [] = some [.lst 2 (termsF ls os).isEmpty ((termsF ls os).map rowT), ti (baseF ls os)] := by
    simp only [extT, ls1, Option.bind_some, ints_enc]
    rw [if_pos ⟨h1, h2, h3, h4⟩]
  rw [this]
end Go.Aev.Gen
