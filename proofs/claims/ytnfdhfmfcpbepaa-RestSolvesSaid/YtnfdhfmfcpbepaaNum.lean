/-
  Plain laws of whole numbers: remainders, greatest common divisors, classes of rests.
-/
set_option linter.unusedSimpArgs false
set_option linter.unusedVariables false
namespace Go.Num

theorem tmod_zero {a b : Int} : a.tmod b = 0 ↔ b ∣ a := (Int.dvd_iff_tmod_eq_zero).symm
theorem tdiv_of_dvd {a b : Int} (h : b ∣ a) : a.tdiv b = a / b := Int.tdiv_eq_ediv_of_dvd h

theorem tmod_lt {a b : Int} (hb : 0 < b) : -b < a.tmod b ∧ a.tmod b < b := by
  have h1 := Int.tmod_lt_of_pos a hb
  have h2 : -b < a.tmod b := by
    have h3 := Int.tmod_lt_of_pos (-a) hb
    rw [Int.neg_tmod] at h3; omega
  exact ⟨h2, h1⟩
theorem tmod_emod (a b : Int) : a.tmod b % b = a % b := by
  have h := Int.tmod_def a b
  rw [h]
  rw [Int.sub_mul_emod_self_left]
/-- What the program calls 'mod'. -/
theorem mod2 {a b : Int} (hb : 0 < b) : (a.tmod b + b).tmod b = a % b := by
  obtain ⟨h1, h2⟩ := tmod_lt (a := a) hb
  rw [Int.tmod_eq_emod_of_nonneg (by omega), Int.add_emod_right, tmod_emod]

theorem gcd_pos {a b : Int} (hb : 0 < b) : 0 < (Int.gcd a b : Int) := by
  have := Int.gcd_pos_of_ne_zero_right a (b := b) (by omega)
  omega
theorem gcd_rec (a b : Int) : Int.gcd b (a % b) = Int.gcd a b := by
  rw [Int.gcd_comm a b]
  apply Int.gcd_right_eq_iff.2
  intro c hc
  rw [Int.emod_def]
  constructor
  · intro h
    have := Int.dvd_add h (Int.dvd_mul_of_dvd_left hc (c := a / b))
    simpa using this
  · intro h
    exact Int.dvd_sub h (Int.dvd_mul_of_dvd_left hc)

theorem dvd_small {d z : Int} (h : d ∣ z) (h1 : -d < z) (h2 : z < d) : z = 0 := by
  obtain ⟨k, rfl⟩ := h
  have hd : 0 < d := by omega
  have h3 : k < 1 := by
    rcases Int.lt_or_le k 1 with h | h
    · exact h
    · have := Int.mul_le_mul_of_nonneg_left h (Int.le_of_lt hd); simp at this; omega
  have h4 : -1 < k := by
    rcases Int.lt_or_le (-1) k with h | h
    · exact h
    · have := Int.mul_le_mul_of_nonneg_left h (Int.le_of_lt hd); simp at this; omega
  have : k = 0 := by omega
  subst this; simp

/-- The least common multiple, as the programs reckon it. -/
theorem lcm_div {o p : Int} (ho : 0 < o) (hp : 0 < p) : o * (p / (Int.gcd o p : Int)) = (Int.lcm o p : Int) := by
  have hg := gcd_pos (a := o) hp
  rw [Int.lcm_eq_mul_div]
  have e1 : (o.natAbs : Int) = o := by omega
  have e2 : (p.natAbs : Int) = p := by omega
  have hd : (Int.gcd o p : Int) ∣ p := Int.gcd_dvd_right o p
  rw [Int.natCast_ediv, Int.natCast_mul, e1, e2, Int.mul_ediv_assoc o hd]
theorem lcm_div' {o p : Int} (ho : 0 < o) (hp : 0 < p) : o / (Int.gcd o p : Int) * p = (Int.lcm o p : Int) := by
  rw [← lcm_div ho hp]
  obtain ⟨a, ha⟩ := Int.gcd_dvd_left o p
  obtain ⟨b, hb⟩ := Int.gcd_dvd_right o p
  have hg := gcd_pos (a := o) hp
  generalize (Int.gcd o p : Int) = g at *
  rw [ha, hb, Int.mul_ediv_cancel_left _ (by omega), Int.mul_ediv_cancel_left _ (by omega), Int.mul_comm g a, Int.mul_comm g b, Int.mul_assoc, Int.mul_comm b g]
theorem lcm_pos {o p : Int} (ho : 0 < o) (hp : 0 < p) : 0 < (Int.lcm o p : Int) := by
  have := Int.lcm_pos (m := o) (n := p) (by omega) (by omega); omega

/-! ### Two classes -/
def Meet (n o m p z : Int) : Prop := o ∣ z - n ∧ p ∣ z - m
theorem meet_dvd {n o m p z : Int} (h : Meet n o m p z) : (Int.gcd o p : Int) ∣ m - n := by
  have h1 := Int.dvd_trans (Int.gcd_dvd_left o p) h.1
  have h2 := Int.dvd_trans (Int.gcd_dvd_right o p) h.2
  have := Int.dvd_sub h1 h2
  have e : z - n - (z - m) = m - n := by omega
  rwa [e] at this
theorem meet_iff {n o m p z y : Int} (h : Meet n o m p z) : Meet n o m p y ↔ (Int.lcm o p : Int) ∣ y - z := by
  constructor
  · intro h'
    refine Int.coe_lcm_dvd ?_ ?_
    · have := Int.dvd_sub h'.1 h.1
      have e : y - n - (z - n) = y - z := by omega
      rwa [e] at this
    · have := Int.dvd_sub h'.2 h.2
      have e : y - m - (z - m) = y - z := by omega
      rwa [e] at this
  · intro h'
    refine ⟨?_, ?_⟩
    · have := Int.dvd_add (Int.dvd_trans (Int.dvd_lcm_left o p) h') h.1
      have e : y - z + (z - n) = y - n := by omega
      rwa [e] at this
    · have := Int.dvd_add (Int.dvd_trans (Int.dvd_lcm_right o p) h') h.2
      have e : y - z + (z - m) = y - m := by omega
      rwa [e] at this
theorem meet_unique {n o m p z y : Int} (h : Meet n o m p z) (h' : Meet n o m p y) (hz : 0 ≤ z ∧ z < (Int.lcm o p : Int)) (hy : 0 ≤ y ∧ y < (Int.lcm o p : Int)) : y = z := by
  have := dvd_small ((meet_iff h).1 h') (by omega) (by omega)
  omega
/-- The number that the program finds. -/
theorem meet_found {n o m p x k : Int} (ho : 0 < o) (hp : 0 < p) (hd : (Int.gcd o p : Int) ∣ m - n) (hx : p ∣ o * x - (Int.gcd o p : Int))
    (hk : k = ((m - n) / (Int.gcd o p : Int) % (p / (Int.gcd o p : Int)) * (x % (p / (Int.gcd o p : Int)))) % (p / (Int.gcd o p : Int))) : Meet n o m p (n + k * o) := by
  have hg := gcd_pos (a := o) hp
  obtain ⟨a, ha⟩ := Int.gcd_dvd_left o p
  obtain ⟨b, hb⟩ := Int.gcd_dvd_right o p
  obtain ⟨d, hd⟩ := hd
  refine ⟨⟨k, by rw [Int.mul_comm]; omega⟩, ?_⟩
  generalize (Int.gcd o p : Int) = g at *
  have hg0 : g ≠ 0 := by omega
  have e1 : p / g = b := by rw [hb, Int.mul_ediv_cancel_left _ hg0]
  have e2 : (m - n) / g = d := by rw [hd, Int.mul_ediv_cancel_left _ hg0]
  rw [e1, e2] at hk
  -- b divides a * x - 1
  have h1 : b ∣ a * x - 1 := by
    obtain ⟨c, hc⟩ := hx
    refine ⟨c, ?_⟩
    have : g * (a * x - 1) = g * (b * c) := by
      rw [Int.mul_sub, ← Int.mul_assoc, ← Int.mul_assoc, ← ha, ← hb, Int.mul_one]; exact hc
    exact Int.eq_of_mul_eq_mul_left hg0 this
  have h2 : b ∣ k - d * x := by
    have : k % b = (d * x) % b := by rw [hk, Int.emod_emod, ← Int.mul_emod]
    exact Int.dvd_of_emod_eq_zero (by rw [Int.sub_emod, this]; simp)
  have h3 : b ∣ k * a - d := by
    have e : k * a - d = (k - d * x) * a + d * (a * x - 1) := by
      rw [Int.sub_mul, Int.mul_sub]
      have : d * x * a = d * (a * x) := by rw [Int.mul_assoc, Int.mul_comm x a]
      omega
    rw [e]
    exact Int.dvd_add (Int.dvd_mul_of_dvd_left h2) (Int.dvd_mul_of_dvd_right h1)
  have e : n + k * o - m = g * (k * a - d) := by
    rw [Int.mul_sub, ← hd, ha]
    have : k * (g * a) = g * (k * a) := by rw [← Int.mul_assoc, Int.mul_comm k g, Int.mul_assoc]
    omega
  rw [e, hb]
  exact Int.mul_dvd_mul_left g h3

theorem mul_bound {g k b : Int} (hg : 1 ≤ g) (h1 : -b ≤ g * k) (h2 : g * k ≤ b) : -b ≤ k ∧ k ≤ b := by
  rcases Int.le_total 0 k with h | h
  · have := Int.mul_le_mul_of_nonneg_right hg h
    omega
  · have := Int.mul_le_mul_of_nonneg_right hg (show 0 ≤ -k by omega)
    have e : g * -k = -(g * k) := Int.mul_neg g k
    omega
theorem emod_iff {p m z : Int} (hm : 0 ≤ m ∧ m < p) : z % p = m ↔ p ∣ z - m := by
  rw [← Int.emod_emod_of_dvd z (Int.dvd_refl p)]
  constructor
  · intro h
    refine Int.dvd_of_emod_eq_zero ?_
    rw [Int.sub_emod, ← Int.emod_emod_of_dvd z (Int.dvd_refl p), h]
    simp
  · intro h
    rw [Int.emod_emod_of_dvd _ (Int.dvd_refl p)]
    have e : z = (z - m) + m := by omega
    rw [e, Int.add_emod, Int.emod_eq_zero_of_dvd h, Int.zero_add, Int.emod_emod_of_dvd _ (Int.dvd_refl p)]
    exact Int.emod_eq_of_lt hm.1 hm.2
open Classical in
noncomputable def crt (n o m p : Int) : Int := if h : ∃ z, (0 ≤ z ∧ z < (Int.lcm o p : Int)) ∧ Meet n o m p z then Classical.choose h else 0
theorem crt_eq {n o m p z : Int} (h : Meet n o m p z) (hz : 0 ≤ z ∧ z < (Int.lcm o p : Int)) : crt n o m p = z := by
  unfold crt
  have hex : ∃ z, (0 ≤ z ∧ z < (Int.lcm o p : Int)) ∧ Meet n o m p z := ⟨z, hz, h⟩
  rw [dif_pos hex]
  have := Classical.choose_spec hex
  exact meet_unique h this.2 hz this.1
theorem Meet.symm {n o m p z : Int} (h : Meet n o m p z) : Meet m p n o z := ⟨h.2, h.1⟩

/-! ### More than two -/
theorem nat_gcd_lcm_dvd {x y b M : Nat} (h1 : Nat.gcd x b ∣ M) (h2 : Nat.gcd y b ∣ M) : Nat.gcd (Nat.lcm x y) b ∣ M := by
  have hdl : Nat.gcd (Nat.lcm x y) b ∣ Nat.lcm x y := Nat.gcd_dvd_left _ _
  have hdb : Nat.gcd (Nat.lcm x y) b ∣ b := Nat.gcd_dvd_right _ _
  generalize Nat.gcd (Nat.lcm x y) b = d at *
  have hp : Nat.gcd d x ∣ M := Nat.dvd_trans (Nat.dvd_gcd (Nat.gcd_dvd_right _ _) (Nat.dvd_trans (Nat.gcd_dvd_left _ _) hdb)) h1
  have hq : Nat.gcd d y ∣ M := Nat.dvd_trans (Nat.dvd_gcd (Nat.gcd_dvd_right _ _) (Nat.dvd_trans (Nat.gcd_dvd_left _ _) hdb)) h2
  refine Nat.dvd_trans ?_ (Nat.lcm_dvd hp hq)
  have e : Nat.gcd (Nat.gcd d x) (Nat.gcd d y) ∣ Nat.gcd x y :=
    Nat.dvd_gcd (Nat.dvd_trans (Nat.gcd_dvd_left _ _) (Nat.gcd_dvd_right _ _)) (Nat.dvd_trans (Nat.gcd_dvd_right _ _) (Nat.gcd_dvd_right _ _))
  have ed : Nat.gcd (Nat.gcd d x) (Nat.gcd d y) ∣ d := Nat.dvd_trans (Nat.gcd_dvd_left _ _) (Nat.gcd_dvd_left _ _)
  have c : d * Nat.gcd (Nat.gcd d x) (Nat.gcd d y) ∣ Nat.gcd d x * Nat.gcd d y := by
    generalize hG : Nat.gcd (Nat.gcd d x) (Nat.gcd d y) = G at e ed
    have c1 : d * G ∣ Nat.gcd d x * y := by
      rw [← Nat.gcd_mul_right]
      refine Nat.dvd_gcd (Nat.mul_dvd_mul_left d (Nat.dvd_trans e (Nat.gcd_dvd_right _ _))) ?_
      rw [← Nat.gcd_mul_lcm x y, Nat.mul_comm (Nat.gcd x y)]
      exact Nat.mul_dvd_mul hdl e
    have c2 : d * G ∣ Nat.gcd d x * d := by
      rw [← Nat.gcd_mul_right]
      refine Nat.dvd_gcd (Nat.mul_dvd_mul_left d ed) ?_
      rw [Nat.mul_comm x d]
      exact Nat.mul_dvd_mul_left d (Nat.dvd_trans e (Nat.gcd_dvd_left _ _))
    rw [← Nat.gcd_mul_left]
    exact Nat.dvd_gcd c2 c1
  rcases Nat.eq_zero_or_pos (Nat.gcd (Nat.gcd d x) (Nat.gcd d y)) with h0 | h0
  · have h3 := Nat.eq_zero_of_gcd_eq_zero_left h0
    have h4 := Nat.eq_zero_of_gcd_eq_zero_left h3
    rw [h4]; simp
    exact .inl (Nat.eq_zero_of_gcd_eq_zero_right h3)
  · rw [← Nat.gcd_mul_lcm (Nat.gcd d x) (Nat.gcd d y), Nat.mul_comm d] at c
    exact Nat.dvd_of_mul_dvd_mul_left h0 c
theorem gcd_lcm_dvd {x y b M : Int} (h1 : (Int.gcd x b : Int) ∣ M) (h2 : (Int.gcd y b : Int) ∣ M) : (Int.gcd (Int.lcm x y : Int) b : Int) ∣ M := by
  exact Int.ofNat_dvd_left.2 (nat_gcd_lcm_dvd (Int.ofNat_dvd_left.1 h1) (Int.ofNat_dvd_left.1 h2))
end Go.Num
