/-
  slices.Compare of two slices of integers: walked with the library's own tactics.
-/
import Derived.Test.YtmpjdngpblfecaaChecked
import Derived.WalkKit
import Derived.LoopTactic
import Derived.Below
set_option linter.unusedSimpArgs false
set_option linter.unusedVariables false
namespace Go.Proofs.Ytmpjdngpblfecaa
open Go Go.RowKit Go.Proofs

/-- The order of two lists. -/
def lexI : List Int → List Int → Int
  | [], [] => 0
  | [], _ :: _ => -1
  | _ :: _, [] => 1
  | x :: xs, y :: ys => if x < y then -1 else if x > y then 1 else lexI xs ys
theorem lexI_at {xs ys : List Int} {k : Nat} (h1 : k < xs.length) (h2 : k < ys.length) : lexI (xs.drop k) (ys.drop k) = if xs.getD k 0 < ys.getD k 0 then -1 else if xs.getD k 0 > ys.getD k 0 then 1 else lexI (xs.drop (k + 1)) (ys.drop (k + 1)) := by
  rw [List.drop_eq_getElem_cons h1, List.drop_eq_getElem_cons h2, lexI, List.getD_eq_getElem?_getD, List.getD_eq_getElem?_getD, List.getElem?_eq_getElem h1, List.getElem?_eq_getElem h2]
  rfl
theorem lexI_l {xs ys : List Int} {k : Nat} (h1 : k < xs.length) (h2 : ys.length ≤ k) : lexI (xs.drop k) (ys.drop k) = 1 := by
  rw [List.drop_eq_getElem_cons h1, List.drop_eq_nil_of_le h2]; rfl
theorem lexI_e {xs ys : List Int} {k : Nat} (h1 : xs.length ≤ k) (h2 : ys.length ≤ k) : lexI (xs.drop k) (ys.drop k) = 0 := by
  rw [List.drop_eq_nil_of_le h1, List.drop_eq_nil_of_le h2]; rfl
theorem lexI_r {xs ys : List Int} {k : Nat} (h1 : xs.length ≤ k) (h2 : k < ys.length) : lexI (xs.drop k) (ys.drop k) = -1 := by
  rw [List.drop_eq_nil_of_le h1, List.drop_eq_getElem_cons h2]; rfl
set_option maxHeartbeats 1000000 in
/-- Both hold something. -/
theorem cmp25 (b1 o1 n1 c1 b2 o2 n2 c2 : Nat) (xs ys : List Int) (w : World) (e1 : xs.length = n1) (e2 : ys.length = n2) (l1 : n1 ≤ 1000000) (l2 : n2 ≤ 1000000)
    (hc1 : ∀ j, j < n1 → w.cell? ⟨b1, o1 + j, none⟩ = some (.int .i64 (xs.getD j 0))) (hc2 : ∀ j, j < n2 → w.cell? ⟨b2, o2 + j, none⟩ = some (.int .i64 (ys.getD j 0))) :
    Calls Try.prog 25 #[.slice (some ⟨b1, o1, none⟩) n1 c1, .slice (some ⟨b2, o2, none⟩) n2 c2] w fun e w' => e = .returned (.int .i64 (lexI xs ys)) ∧ w' = w := by
  generalize hR : lexI xs ys = R
  replace hR : Hid (lexI xs ys = R) := hR
  go_enter Try.func25, Try.ntmps25
  go_wp2
  go_loop [11] (fun i => ∃ k : Nat, k ≤ n1 ∧ i = .int .i64 k ∧ Hid (lexI (xs.drop k) (ys.drop k) = R)) (fun i => n1 - (intOf i).toNat)
  case atStart => exact ⟨0, Nat.zero_le _, rfl, hR⟩
  case round =>
    obtain ⟨k, hk, rfl, hl⟩ := hrel
    have hx : k < n1 → w.cell? ⟨b1, o1 + k, none⟩ = some (.int .i64 (xs.getD k 0)) := fun _ => hc1 k (by omega)
    have hy : ¬ n2 ≤ k → w.cell? ⟨b2, o2 + k, none⟩ = some (.int .i64 (ys.getD k 0)) := fun _ => hc2 k (by omega)
    have hlt : Hid (k < n1 → k < n2 → (if xs.getD k 0 < ys.getD k 0 then -1 else if xs.getD k 0 > ys.getD k 0 then 1 else lexI (xs.drop (k + 1)) (ys.drop (k + 1))) = R) := fun h h' => (lexI_at (by omega) (by omega)).symm.trans hl
    generalize xs.getD k 0 = x at hx hlt
    generalize ys.getD k 0 = y at hy hlt
    clear hc1 hc2
    go_wp2
    · obtain rfl : R = 1 := by
        rw [← hl.out, lexI_l (by omega) (by omega)]
      go_ret
      exact ⟨rfl, rfl⟩
    · have h3 : x < y := by assumption
      have := hlt.out (by assumption) (by omega)
      rw [if_pos h3] at this
      subst this
      go_ret
      exact ⟨rfl, rfl⟩
    · have h3 : y < x := by assumption
      have := hlt.out (by assumption) (by omega)
      rw [if_neg (by omega), if_pos h3] at this
      subst this
      go_ret
      exact ⟨rfl, rfl⟩
    · have h3 : y ≤ x := by assumption
      have h4 : x ≤ y := by assumption
      have := hlt.out (by assumption) (by omega)
      rw [if_neg (by omega), if_neg (by omega)] at this
      refine ⟨⟨k + 1, by omega, by go_num, this⟩, by simp [intOf]; omega⟩
    · obtain rfl : R = -1 := by
        rw [← hl.out, lexI_r (by omega) (by omega)]
      go_ret
      exact ⟨rfl, rfl⟩
    · obtain rfl : R = 0 := by
        rw [← hl.out, lexI_e (by omega) (by omega)]
      go_ret
      exact ⟨rfl, rfl⟩
set_option maxHeartbeats 1000000 in
/-- The first holds nothing. -/
theorem cmp25l (a1 a2 : Option Addr) (c1 n2 c2 : Nat) (ys : List Int) (w : World) (e2 : ys.length = n2) (l2 : n2 ≤ 1000000) :
    Calls Try.prog 25 #[.slice a1 0 c1, .slice a2 n2 c2] w fun e w' => e = .returned (.int .i64 (lexI [] ys)) ∧ w' = w := by
  generalize hR : lexI [] ys = R
  replace hR : Hid (lexI [] ys = R) := hR
  go_enter Try.func25, Try.ntmps25
  go_wp2
  go_loop [11] (fun i => i = .int .i64 0) (fun i => 0)
  case atStart => rfl
  case round =>
    subst hrel
    go_wp2
    · obtain rfl : R = -1 := by
        rw [← hR.out]
        cases ys with
        | nil => simp at e2; omega
        | cons y ys => rfl
      go_ret
      exact ⟨rfl, rfl⟩
    · obtain rfl : R = 0 := by
        rw [← hR.out]
        cases ys with
        | nil => rfl
        | cons y ys => simp at e2; omega
      go_ret
      exact ⟨rfl, rfl⟩
set_option maxHeartbeats 1000000 in
/-- The second holds nothing. -/
theorem cmp25r (b1 o1 n1 c1 c2 : Nat) (a2 : Option Addr) (x : Int) (w : World) (h1 : 0 < n1) (l1 : n1 ≤ 1000000) (hc1 : w.cell? ⟨b1, o1, none⟩ = some (.int .i64 x)) :
    Calls Try.prog 25 #[.slice (some ⟨b1, o1, none⟩) n1 c1, .slice a2 0 c2] w fun e w' => e = .returned (.int .i64 1) ∧ w' = w := by
  go_enter Try.func25, Try.ntmps25
  go_wp2
  go_loop [11] (fun i => i = .int .i64 0) (fun i => 0)
  case atStart => rfl
  case round =>
    subst hrel
    have hx : w.cell? ⟨b1, o1 + 0, none⟩ = some (.int .i64 x) := hc1
    go_wp2
    go_ret
    exact ⟨rfl, rfl⟩
end Go.Proofs.Ytmpjdngpblfecaa
