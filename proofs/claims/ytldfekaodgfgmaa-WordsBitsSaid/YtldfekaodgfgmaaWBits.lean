/-
  Plain laws of numbers' bits, as lists, the lowest one first.
-/
set_option linter.unusedSimpArgs false
set_option linter.unusedVariables false
namespace Go.Num

def vl : List Bool → Nat
  | [] => 0
  | x :: l => x.toNat + 2 * vl l
def bl : Nat → Nat → List Bool
  | 0, _ => []
  | b + 1, w => (w % 2 == 1) :: bl b (w / 2)
theorem bl_len : ∀ (b w : Nat), (bl b w).length = b
  | 0, _ => rfl
  | b + 1, w => by simp [bl, bl_len b]
theorem vl_lt : ∀ (l : List Bool), vl l < 2 ^ l.length
  | [] => by simp [vl]
  | x :: l => by
    have := vl_lt l
    simp only [vl, List.length_cons, Nat.pow_succ]
    cases x <;> simp <;> omega
theorem mod_half (w b : Nat) : w % 2 ^ (b + 1) = w % 2 + 2 * (w / 2 % 2 ^ b) := by
  rw [Nat.pow_succ, Nat.mul_comm, Nat.mod_mul]
theorem toNat_odd (w : Nat) : (w % 2 == 1).toNat = w % 2 := by
  have : w % 2 = 0 ∨ w % 2 = 1 := by omega
  rcases this with h | h <;> simp [h]
theorem vl_bl : ∀ (b w : Nat), vl (bl b w) = w % 2 ^ b
  | 0, w => by simp [bl, vl, Nat.mod_one]
  | b + 1, w => by rw [bl, vl, vl_bl b, mod_half, toNat_odd]
theorem bl_get : ∀ (b w k : Nat), k < b → (bl b w)[k]? = some (w / 2 ^ k % 2 == 1)
  | 0, w, k, h => by omega
  | b + 1, w, 0, h => by simp [bl]
  | b + 1, w, k + 1, h => by
    simp only [bl, List.getElem?_cons_succ]
    rw [bl_get b (w / 2) k (by omega), Nat.div_div_eq_div_mul, Nat.pow_succ, Nat.mul_comm 2]
theorem bl_take : ∀ (b w k : Nat), k ≤ b → (bl b w).take k = bl k w
  | b, w, 0, _ => by simp [bl]
  | 0, w, k + 1, h => by omega
  | b + 1, w, k + 1, h => by simp [bl, bl_take b (w / 2) k (by omega)]
theorem bl_snoc : ∀ (k w : Nat), bl (k + 1) w = bl k w ++ [w / 2 ^ k % 2 == 1]
  | 0, w => by simp [bl]
  | k + 1, w => by
    have := bl_snoc k (w / 2)
    rw [bl, this, bl, Nat.div_div_eq_div_mul, Nat.pow_succ, Nat.mul_comm 2]
    rfl
theorem vl_snoc : ∀ (l : List Bool) (x : Bool), vl (l ++ [x]) = vl l + x.toNat * 2 ^ l.length
  | [], x => by simp [vl]
  | y :: l, x => by
    rw [List.cons_append, vl, vl, vl_snoc l x, List.length_cons, Nat.pow_succ]
    rw [Nat.mul_add, ← Nat.mul_assoc, Nat.mul_comm 2 (x.toNat), Nat.mul_assoc, Nat.mul_comm 2 (2 ^ l.length)]
    omega
theorem vl_take {l : List Bool} {k : Nat} {x : Bool} (h : l[k]? = some x) : vl (l.take (k + 1)) = vl (l.take k) + x.toNat * 2 ^ k := by
  have hk := (List.getElem?_eq_some_iff.1 h).1
  rw [List.take_add_one, h]
  simp only [Option.toList_some]
  rw [vl_snoc, List.length_take, Nat.min_eq_left (by omega)]

/-! ### Sums -/
def addL : Bool → List Bool → List Bool → List Bool
  | c, x :: l, y :: m => ((x != y) != c) :: addL (x && y || x && c || y && c) l m
  | _, _, _ => []
theorem addL_len : ∀ (c : Bool) (l m : List Bool), l.length = m.length → (addL c l m).length = l.length
  | _, [], [], _ => rfl
  | c, x :: l, y :: m, h => by simp [addL, addL_len _ l m (by simpa using h)]
  | _, [], _ :: _, h => by simp at h
  | _, _ :: _, [], h => by simp at h
theorem vl_add : ∀ (c : Bool) (l m : List Bool), l.length = m.length → vl (addL c l m) = (vl l + vl m + c.toNat) % 2 ^ l.length
  | c, [], [], _ => by simp [addL, vl, Nat.mod_one]
  | c, x :: l, y :: m, h => by
    have ih := vl_add (x && y || x && c || y && c) l m (by simpa using h)
    rw [addL, vl, ih, List.length_cons, mod_half]
    have e : (vl (x :: l) + vl (y :: m) + c.toNat) % 2 = ((x != y) != c).toNat ∧ (vl (x :: l) + vl (y :: m) + c.toNat) / 2 = vl l + vl m + (x && y || x && c || y && c).toNat := by
      simp only [vl]
      cases x <;> cases y <;> cases c <;> simp <;> omega
    rw [e.1, e.2]
  | _, [], _ :: _, h => by simp at h
  | _, _ :: _, [], h => by simp at h
def leftL (l : List Bool) : List Bool := false :: l.dropLast
theorem vl_dropLast : ∀ (l : List Bool), vl l.dropLast = vl l % 2 ^ (l.length - 1)
  | [] => by simp [vl]
  | [x] => by simp [vl, Nat.mod_one]
  | x :: y :: l => by
    have ih := vl_dropLast (y :: l)
    rw [List.dropLast_cons_cons, vl, ih]
    simp only [List.length_cons, Nat.add_sub_cancel]
    rw [mod_half]
    have e : (vl (x :: y :: l)) % 2 = x.toNat ∧ vl (x :: y :: l) / 2 = vl (y :: l) := by
      rw [show vl (x :: y :: l) = x.toNat + 2 * vl (y :: l) from rfl]
      cases x <;> simp <;> omega
    rw [e.1, e.2]
theorem vl_left {l : List Bool} (h : l ≠ []) : vl (leftL l) = (2 * vl l) % 2 ^ l.length := by
  have hl : l.length = (l.length - 1) + 1 := by
    have : 0 < l.length := List.length_pos_iff.2 h
    omega
  rw [leftL, vl, vl_dropLast, hl, mod_half]
  simp
theorem leftL_len {l : List Bool} (h : l ≠ []) : (leftL l).length = l.length := by
  have : 0 < l.length := List.length_pos_iff.2 h
  simp [leftL]; omega

/-! ### Bit by bit -/
theorem vl_not : ∀ (l : List Bool), vl (l.map (!·)) + vl l + 1 = 2 ^ l.length
  | [] => by simp [vl]
  | x :: l => by
    have := vl_not l
    simp only [List.map_cons, vl, List.length_cons, Nat.pow_succ]
    cases x <;> simp <;> omega
theorem vl_zip (f : Bool → Bool → Bool) (g : Nat → Nat → Nat) (hd : ∀ x y, g x y / 2 = g (x / 2) (y / 2)) (hm : ∀ x y, g x y % 2 = (f (x % 2 == 1) (y % 2 == 1)).toNat) :
    ∀ (b x y : Nat), vl (List.zipWith f (bl b x) (bl b y)) = g x y % 2 ^ b
  | 0, x, y => by simp [bl, vl, Nat.mod_one]
  | b + 1, x, y => by
    simp only [bl, List.zipWith_cons_cons, vl]
    rw [vl_zip f g hd hm b, mod_half, hm, hd]
theorem two (x : Nat) : x % 2 = 0 ∨ x % 2 = 1 := by omega
theorem and_odd (x y : Nat) : (x &&& y) % 2 = ((x % 2 == 1) && (y % 2 == 1)).toNat := by
  have t := Nat.and_mod_two_eq_one (a := x) (b := y)
  have z := two (x &&& y)
  rcases two x with p | p <;> rcases two y with q | q <;> rcases z with z | z <;> rw [p, q, z] at t <;> rw [p, q, z] <;> simp at t ⊢
theorem or_odd (x y : Nat) : (x ||| y) % 2 = ((x % 2 == 1) || (y % 2 == 1)).toNat := by
  have t := Nat.or_mod_two_eq_one (a := x) (b := y)
  have z := two (x ||| y)
  rcases two x with p | p <;> rcases two y with q | q <;> rcases z with z | z <;> rw [p, q, z] at t <;> rw [p, q, z] <;> simp at t ⊢
theorem xor_odd (x y : Nat) : (x ^^^ y) % 2 = ((x % 2 == 1) != (y % 2 == 1)).toNat := by
  have t := Nat.xor_mod_two_eq_one (a := x) (b := y)
  have z := two (x ^^^ y)
  rcases two x with p | p <;> rcases two y with q | q <;> rcases z with z | z <;> rw [p, q, z] at t <;> rw [p, q, z] <;> simp at t ⊢
theorem vl_and (b x y : Nat) : vl (List.zipWith (· && ·) (bl b x) (bl b y)) = (x &&& y) % 2 ^ b := vl_zip _ (· &&& ·) (fun _ _ => Nat.and_div_two) and_odd b x y
theorem vl_or (b x y : Nat) : vl (List.zipWith (· || ·) (bl b x) (bl b y)) = (x ||| y) % 2 ^ b := vl_zip _ (· ||| ·) (fun _ _ => Nat.or_div_two) or_odd b x y
theorem vl_xor (b x y : Nat) : vl (List.zipWith (· != ·) (bl b x) (bl b y)) = (x ^^^ y) % 2 ^ b := vl_zip _ (· ^^^ ·) (fun _ _ => Nat.xor_div_two) xor_odd b x y
/-- Which one is less is told by the highest place where they differ. -/
theorem less_step {l m : List Bool} {k : Nat} {x y : Bool} (h1 : l[k]? = some x) (h2 : m[k]? = some y) (hl : k ≤ l.length) (hm : k ≤ m.length) :
    decide (vl (l.take (k + 1)) < vl (m.take (k + 1))) = if x = y then decide (vl (l.take k) < vl (m.take k)) else y := by
  rw [vl_take h1, vl_take h2]
  have a := vl_lt (l.take k)
  have b := vl_lt (m.take k)
  rw [List.length_take, Nat.min_eq_left hl] at a
  rw [List.length_take, Nat.min_eq_left hm] at b
  cases x <;> cases y <;> simp <;> omega
end Go.Num
