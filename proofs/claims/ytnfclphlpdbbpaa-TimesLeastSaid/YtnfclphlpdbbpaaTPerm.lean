/-
  All orders of up to five, one behind the other. No program here.
-/
import Derived.Test.YtnfclphlpdbbpaaTSpec
set_option linter.unusedSimpArgs false
set_option linter.unusedVariables false
namespace Go.Aev.Gen
open Go Go.Aev

def fI (od : List Int) : Nat → Int
  | 0 => -1
  | k + 1 => if at' od (k : Int) > at' od ((k : Int) + 1) then fI od k else (k : Int)
def fJ (od : List Int) (i : Int) : Nat → Option Nat
  | 0 => none
  | k + 1 => if at' od (k : Int) < at' od i then fJ od i k else some k
def swap (od : List Int) (a b : Nat) : List Int := (od.set a (at' od (b : Int))).set b (at' od (a : Int))
def rv : Nat → List Int → Nat → Nat → List Int
  | 0, od, _, _ => od
  | f + 1, od, a, b => if a < b then rv f (swap od a b) (a + 1) (b - 1) else od
/-- The orders that are gone through, from one on. -/
def orders (n : Nat) : Nat → List Int → Option (List (List Int))
  | 0, _ => none
  | f + 1, od => if fI od (n - 1) < 0 then some [od] else
    match fJ od (fI od (n - 1)) n with
    | none => none
    | some j => (orders n f (rv n (swap od (fI od (n - 1)).toNat j) ((fI od (n - 1)).toNat + 1) (n - 1))).map (od :: ·)
def idL (n : Nat) : List Int := (List.range n).map fun i : Nat => (i : Int)

def inserts (a : Int) : List Int → List (List Int)
  | [] => [[a]]
  | b :: l => (a :: b :: l) :: (inserts a l).map (b :: ·)
def perms : List Int → List (List Int)
  | [] => [[]]
  | a :: l => (perms l).flatMap (inserts a)
def okB (n : Nat) (o : List Int) : Bool :=
  o.length == n && ((List.range n).all fun i => decide (0 ≤ at' o (i : Int) ∧ at' o (i : Int) < (n : Int))) &&
    ((List.range n).all fun i => (List.range i).all fun j => decide (at' o (j : Int) ≠ at' o (i : Int))) &&
    ((List.range n).all fun i => (List.range n).any fun p => decide (at' o (p : Int) = (i : Int)))
def allB (n : Nat) : Bool := match orders n 200 (idL n) with
  | none => false
  | some L => L.all (okB n) && (perms (idL n)).all fun o => L.contains o
theorem allB_ok : ∀ n, n ≤ 5 → allB n = true
  | 0, _ => by kernel_rfl
  | 1, _ => by kernel_rfl
  | 2, _ => by kernel_rfl
  | 3, _ => by kernel_rfl
  | 4, _ => by kernel_rfl
  | 5, _ => by kernel_rfl
  | n + 6, h => absurd h (by omega)

/-- An order of n jobs. -/
structure OkO (n : Nat) (o : List Int) : Prop where
  len : o.length = n
  rng : ∀ i : Nat, i < n → 0 ≤ at' o (i : Int) ∧ at' o (i : Int) < (n : Int)
  inj : ∀ j i : Nat, j < i → i < n → at' o (j : Int) ≠ at' o (i : Int)
  sur : ∀ i : Nat, i < n → ∃ p : Nat, p < n ∧ at' o (p : Int) = (i : Int)
theorem okO_of {n : Nat} {o : List Int} (h : okB n o = true) : OkO n o := by
  simp only [okB, Bool.and_eq_true, beq_iff_eq, List.all_eq_true, List.any_eq_true, List.mem_range, decide_eq_true_eq] at h
  obtain ⟨⟨⟨h1, h2⟩, h3⟩, h4⟩ := h
  exact ⟨h1, h2, fun j i hj hi => h3 i hi j hj, h4⟩
theorem orders_ok {n : Nat} (h : n ≤ 5) : ∃ L, orders n 200 (idL n) = some L ∧ (∀ o ∈ L, OkO n o) ∧ ∀ o ∈ perms (idL n), o ∈ L := by
  have := allB_ok n h
  unfold allB at this
  split at this
  · cases this
  · rename_i L hL
    simp only [Bool.and_eq_true, List.all_eq_true, List.contains_eq_mem, decide_eq_true_eq] at this
    exact ⟨L, hL, fun o ho => okO_of (this.1 o ho), this.2⟩

/-! ### Sorting -/
def ins (f : Int → Int) (a : Int) : List Int → List Int
  | [] => [a]
  | b :: l => if f a ≤ f b then a :: b :: l else b :: ins f a l
def isort (f : Int → Int) : List Int → List Int
  | [] => []
  | a :: l => ins f a (isort f l)
theorem ins_in {f : Int → Int} {a : Int} : ∀ l, ins f a l ∈ inserts a l
  | [] => by simp [ins, inserts]
  | b :: l => by
    unfold ins
    split
    · simp [inserts]
    · simp only [inserts, List.mem_cons, List.mem_map]
      exact .inr ⟨_, ins_in l, rfl⟩
theorem isort_in {f : Int → Int} : ∀ l, isort f l ∈ perms l
  | [] => by simp [isort, perms]
  | a :: l => List.mem_flatMap.2 ⟨_, isort_in l, ins_in _⟩
theorem ins_mem {f : Int → Int} {a x : Int} : ∀ {l}, x ∈ ins f a l → x = a ∨ x ∈ l
  | [], h => by simpa [ins] using h
  | b :: l, h => by
    unfold ins at h
    split at h
    · simpa using h
    · rcases List.mem_cons.1 h with h | h
      · exact .inr (List.mem_cons.2 (.inl h))
      · rcases ins_mem h with h | h
        · exact .inl h
        · exact .inr (List.mem_cons_of_mem _ h)
theorem ins_pw {f : Int → Int} {a : Int} : ∀ {l : List Int}, l.Pairwise (fun x y => f x ≤ f y) → (ins f a l).Pairwise (fun x y => f x ≤ f y)
  | [], _ => by simp [ins]
  | b :: l, h => by
    have hb := List.pairwise_cons.1 h
    unfold ins
    split
    · rename_i hc
      refine List.pairwise_cons.2 ⟨fun x hx => ?_, h⟩
      rcases List.mem_cons.1 hx with rfl | hx
      · exact hc
      · exact Int.le_trans hc (hb.1 x hx)
    · rename_i hc
      refine List.pairwise_cons.2 ⟨fun x hx => ?_, ins_pw hb.2⟩
      rcases ins_mem hx with rfl | hx
      · omega
      · exact hb.1 x hx
theorem isort_pw {f : Int → Int} : ∀ l : List Int, (isort f l).Pairwise (fun x y => f x ≤ f y)
  | [] => List.Pairwise.nil
  | a :: l => ins_pw (isort_pw l)
theorem at_get {l : List Int} {i : Nat} (h : i < l.length) : at' l (i : Int) = l[i] := by
  simp [at', List.getD_eq_getElem?_getD, h]
end Go.Aev.Gen
