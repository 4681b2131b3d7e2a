/-
  Rows: what is passed on.
-/
import Derived.Test.YtobpninhnmmpeaaGreatZGen
import Derived.Test.YtobpninhnmmpeaaGreatAevStep
set_option linter.unusedSimpArgs false
set_option linter.unusedVariables false
namespace Go.Aev.Gen
open Go Go.Aev

noncomputable abbrev Or : Orc := orc PROG ann
abbrev ti (n : Int) : T := .int .i64 n
abbrev tb (b : Bool) : T := .bool b
abbrev o0 : AV := AV.own (Id.c 0)
abbrev o1 : AV := AV.own (Id.c 1)
abbrev r0 : AV := AV.ref (Id.c 0) 0

theorem at_drop {α : Type} {l : List α} {i : Nat} {r : α} {rest : List α} (h : l.drop i = r :: rest) : l[i]? = some r ∧ i < l.length ∧ l.drop (i + 1) = rest := by
  have hlt : i < l.length := by
    rcases Nat.lt_or_ge i l.length with g | g
    · exact g
    · rw [List.drop_eq_nil_of_le g] at h; cases h
  rw [List.drop_eq_getElem_cons hlt] at h
  simp only [List.cons.injEq] at h
  exact ⟨by rw [List.getElem?_eq_getElem hlt, h.1], hlt, h.2⟩
theorem at_end {α : Type} {l : List α} {i : Nat} (h : l.drop i = []) : l.length ≤ i := by simpa using h
def enc (l : List Int) : List (List T) := l.map fun r => [ti r]
theorem enc_len (l : List Int) : (enc l).length = l.length := by simp [enc]
theorem enc_get {l : List Int} {i : Nat} {r : Int} (h : l[i]? = some r) : (enc l)[((i : Nat) : Int).toNat]? = some [ti r] := by simp [enc, h]
abbrev lst (e : Bool) (l : List Int) : AV := AV.t (T.lst 1 e (enc l))

structure R where
  e : Bool
  of : List Int
  kd : Int
  tv : Int
  deriving Inhabited
def eR (r : R) : List T := [T.lst 1 r.e (enc r.of), ti r.kd, ti r.tv]
def eRs (l : List R) : List (List T) := l.map eR
theorem eRs_len (l : List R) : (eRs l).length = l.length := by simp [eRs]
theorem eRs_get {l : List R} {i : Nat} {r : R} (h : l[i]? = some r) : (eRs l)[((i : Nat) : Int).toNat]? = some [T.lst 1 r.e (enc r.of), ti r.kd, ti r.tv] := by simp [eRs, h, eR]
abbrev LR (e : Bool) (l : List R) : AV := AV.t (T.lst 3 e (eRs l))
theorem next (i : Nat) (h : i ≤ 100000) : IntKind.i64.wrap ((i : Int) + 1) = ((i + 1 : Nat) : Int) := by rw [wr (by omega)]; omega
theorem small_ok {bs n : Nat} (h : n ≤ 100000) : small bs n = some () := by unfold small; rw [if_pos (.inl (by unfold lim; omega))]
theorem beq_dec (a b : Int) : (a == b) = decide (a = b) := by by_cases h : a = b <;> simp [h]
theorem mulb {a b : Int} (ha : -1000000 ≤ a ∧ a ≤ 1000000) (hb : -1000000 ≤ b ∧ b ≤ 1000000) : -1000000000000 ≤ a * b ∧ a * b ≤ 1000000000000 := by
  have h1 : a.natAbs * b.natAbs ≤ 1000000 * 1000000 := Nat.mul_le_mul (by omega) (by omega)
  rw [← Int.natAbs_mul] at h1
  omega
theorem mm_max (a b : Int) : mm true a b = max a b := by simp only [mm, cond_true]; split <;> omega
theorem mm_min (a b : Int) : mm false a b = min a b := by simp only [mm, cond_false]; split <;> omega
end Go.Aev.Gen
