/-
  Long division: the plain part.
-/
import Derived.Test.YtobpninhnmmpeaaGreatZDiv
set_option linter.unusedSimpArgs false
set_option linter.unusedVariables false
namespace Go.Aev.Wd
open Go Go.Aev Go.Aev.Gen

/-! ### The guess of a digit -/
section
variable {U V P w0 v0 u2 v2 v1 Tt q qh rh : Int}
theorem guess0 (hP : 0 < P) (hU : U = w0 + P * u2 + 4294967296 * (P * Tt)) (hV : V = v0 + P * v2 + 4294967296 * (P * v1)) (hw : 0 ≤ w0 ∧ w0 < P) (hv0 : 0 ≤ v0) (hu2 : u2 < 4294967296) (hv2 : 0 ≤ v2) (hq : 0 ≤ q) (hqV : q * V ≤ U) : q * v1 ≤ Tt := by
  rcases Int.lt_or_le Tt (q * v1) with h | h
  · exfalso
    have h1 : P * (Tt + 1) ≤ P * (q * v1) := Int.mul_le_mul_of_nonneg_left (by omega) (by omega)
    have h2 : P * u2 ≤ P * 4294967295 := Int.mul_le_mul_of_nonneg_left (by omega) (by omega)
    have h3 : 0 ≤ q * v0 := Int.mul_nonneg hq hv0
    have h4 : 0 ≤ P * (q * v2) := Int.mul_nonneg (by omega) (Int.mul_nonneg hq hv2)
    have e : q * V = q * v0 + P * (q * v2) + 4294967296 * (P * (q * v1)) := by
      rw [hV, Int.mul_add, Int.mul_add, Int.mul_left_comm q P, Int.mul_left_comm q 4294967296, Int.mul_left_comm q P]
    rw [Int.mul_add] at h1
    omega
  · exact h
theorem guess1 (hP : 0 < P) (hU : U = w0 + P * u2 + 4294967296 * (P * Tt)) (hV : V = v0 + P * v2 + 4294967296 * (P * v1)) (hw : 0 ≤ w0 ∧ w0 < P) (hv0 : 0 ≤ v0) (hqh : 0 ≤ qh) (hT : qh * v1 + rh = Tt) (hq : q * V ≤ U) (hc : qh * v2 > rh * 4294967296 + u2) (hVp : 0 < V) : q ≤ qh - 1 := by
  have h1 : U < qh * V := by
    have e : qh * V = qh * v0 + P * (qh * v2) + 4294967296 * (P * (qh * v1)) := by
      rw [hV, Int.mul_add, Int.mul_add, Int.mul_left_comm qh P, Int.mul_left_comm qh 4294967296, Int.mul_left_comm qh P]
    have h2 : P * (rh * 4294967296 + u2 + 1) ≤ P * (qh * v2) := Int.mul_le_mul_of_nonneg_left (by omega) (by omega)
    have h3 : 0 ≤ qh * v0 := Int.mul_nonneg hqh hv0
    have e2 : P * Tt = P * (qh * v1) + P * rh := by rw [← hT, Int.mul_add]
    have e3 : P * (rh * 4294967296 + u2 + 1) = 4294967296 * (P * rh) + P * u2 + P := by
      rw [Int.mul_add, Int.mul_add, Int.mul_one, ← Int.mul_assoc P rh, Int.mul_comm (P * rh)]
    omega
  rcases Int.lt_or_le (qh - 1) q with h | h
  · exfalso
    have : qh * V ≤ q * V := Int.mul_le_mul_of_nonneg_right (by omega) (by omega)
    omega
  · exact h
theorem guess2 (hP : 0 < P) (hU : U = w0 + P * u2 + 4294967296 * (P * Tt)) (hV : V = v0 + P * v2 + 4294967296 * (P * v1)) (hw : 0 ≤ w0) (hv0 : 0 ≤ v0 ∧ v0 < P) (hv2 : 0 ≤ v2) (hv1 : 1 ≤ v1) (hqh : 0 ≤ qh ∧ qh ≤ 4294967296) (hT : qh * v1 + rh = Tt) (hc : qh * v2 ≤ rh * 4294967296 + u2) : (qh - 1) * V ≤ U := by
  have e : qh * V = qh * v0 + P * (qh * v2) + 4294967296 * (P * (qh * v1)) := by
    rw [hV, Int.mul_add, Int.mul_add, Int.mul_left_comm qh P, Int.mul_left_comm qh 4294967296, Int.mul_left_comm qh P]
  have h2 : P * (qh * v2) ≤ P * (rh * 4294967296 + u2) := Int.mul_le_mul_of_nonneg_left hc (by omega)
  have e3 : P * (rh * 4294967296 + u2) = 4294967296 * (P * rh) + P * u2 := by
    rw [Int.mul_add, ← Int.mul_assoc P rh, Int.mul_comm (P * rh)]
  have e2 : P * Tt = P * (qh * v1) + P * rh := by rw [← hT, Int.mul_add]
  have h3 : qh * v0 ≤ 4294967296 * v0 := Int.mul_le_mul_of_nonneg_right hqh.2 hv0.1
  have h4 : P * 1 ≤ P * v1 := Int.mul_le_mul_of_nonneg_left hv1 (by omega)
  have h5 : 0 ≤ P * v2 := Int.mul_nonneg (by omega) hv2
  have e4 : (qh - 1) * V = qh * V - V := by rw [Int.sub_mul, Int.one_mul]
  omega
end
theorem Dg.append {a b : List Int} (ha : Dg a) (hb : Dg b) : Dg (a ++ b) := fun u hu => by
  rcases List.mem_append.1 hu with hu | hu
  · exact ha u hu
  · exact hb u hu
theorem Dg.left {a b : List Int} (h : Dg (a ++ b)) : Dg a := fun u hu => h u (List.mem_append_left _ hu)
theorem Dg.right {a b : List Int} (h : Dg (a ++ b)) : Dg b := fun u hu => h u (List.mem_append_right _ hu)
/-! ### A multiple taken away -/
def msL (q : Int) : List Int → List Int → Int → Int → List Int
  | x :: us, a :: vs, c, b => ((x - (c + q * a) % 4294967296 - b) % 4294967296) :: msL q us vs ((c + q * a) / 4294967296) (bor (x - (c + q * a) % 4294967296 - b))
  | us, _, _, _ => us
def msC (q : Int) : List Int → List Int → Int → Int → Int × Int
  | x :: us, a :: vs, c, b => msC q us vs ((c + q * a) / 4294967296) (bor (x - (c + q * a) % 4294967296 - b))
  | _, _, c, b => (c, b)
theorem bor_b (v : Int) : 0 ≤ bor v ∧ bor v ≤ 1 := by unfold bor; split <;> omega
theorem ms_spec {q : Int} (hq : 0 ≤ q ∧ q < 4294967296) : ∀ {us vs : List Int} {c b : Int}, us.length = vs.length → Dg us → Dg vs → 0 ≤ c ∧ c < 4294967296 → 0 ≤ b ∧ b ≤ 1 →
    val (msL q us vs c b) = val us - q * val vs - c - b + 4294967296 ^ us.length * ((msC q us vs c b).1 + (msC q us vs c b).2) ∧ (msL q us vs c b).length = us.length ∧ Dg (msL q us vs c b) ∧ 0 ≤ (msC q us vs c b).1 ∧ (msC q us vs c b).1 < 4294967296 ∧ 0 ≤ (msC q us vs c b).2 ∧ (msC q us vs c b).2 ≤ 1
  | [], [], c, b, _, _, _, hc, hb => by
    refine ⟨by simp [msL, msC, val]; omega, rfl, (by intro a ha; cases ha), hc.1, hc.2, hb.1, hb.2⟩
  | [], a :: vs, c, b, h, _, _, _, _ => by simp at h
  | x :: us, [], c, b, h, _, _, _, _ => by simp at h
  | x :: us, a :: vs, c, b, h, hu, hv, hc, hb => by
    have hx := hu x List.mem_cons_self
    have ha := mul_b hq (hv a List.mem_cons_self)
    obtain ⟨i1, i2, i3, i4⟩ := ms_spec hq (us := us) (vs := vs) (c := (c + q * a) / 4294967296) (b := bor (x - (c + q * a) % 4294967296 - b)) (by simpa using h) hu.tail hv.tail (by omega) (bor_b _)
    refine ⟨?_, by simp [msL, i2], ?_, by rw [msC]; exact i4⟩
    · simp only [msL, msC, val, List.length_cons, Int.pow_succ]
      rw [i1]
      have e1 : q * (a + 4294967296 * val vs) = q * a + 4294967296 * (q * val vs) := by rw [Int.mul_add, Int.mul_left_comm]
      rw [e1, Int.mul_comm ((4294967296 : Int) ^ us.length) 4294967296, Int.mul_assoc]
      generalize (4294967296 : Int) ^ us.length * _ = K
      unfold bor
      split <;> omega
    · intro u hu'
      simp only [msL] at hu'
      rcases List.mem_cons.1 hu' with rfl | hu'
      · omega
      · exact i3 u hu'
/-! ### The divisor added again -/
def abL : List Int → List Int → Int → List Int
  | x :: us, a :: vs, c => ((c + (x + a)) % 4294967296) :: abL us vs ((c + (x + a)) / 4294967296)
  | us, _, _ => us
def abC : List Int → List Int → Int → Int
  | x :: us, a :: vs, c => abC us vs ((c + (x + a)) / 4294967296)
  | _, _, c => c
theorem ab_spec : ∀ {us vs : List Int} {c : Int}, us.length = vs.length → Dg us → Dg vs → 0 ≤ c ∧ c ≤ 1 →
    val (abL us vs c) + 4294967296 ^ us.length * abC us vs c = val us + val vs + c ∧ (abL us vs c).length = us.length ∧ Dg (abL us vs c) ∧ 0 ≤ abC us vs c ∧ abC us vs c ≤ 1
  | [], [], c, _, _, _, hc => by
    exact ⟨by simp [abL, abC, val], rfl, (by intro a ha; cases ha), hc.1, hc.2⟩
  | [], a :: vs, c, h, _, _, _ => by simp at h
  | x :: us, [], c, h, _, _, _ => by simp at h
  | x :: us, a :: vs, c, h, hu, hv, hc => by
    have hx := hu x List.mem_cons_self
    have ha := hv a List.mem_cons_self
    obtain ⟨i1, i2, i3, i4⟩ := ab_spec (us := us) (vs := vs) (c := (c + (x + a)) / 4294967296) (by simpa using h) hu.tail hv.tail (by omega)
    refine ⟨?_, by simp [abL, i2], ?_, by rw [abC]; exact i4⟩
    · simp only [abL, abC, val, List.length_cons, Int.pow_succ]
      rw [Int.mul_comm ((4294967296 : Int) ^ us.length) 4294967296, Int.mul_assoc]
      generalize (4294967296 : Int) ^ us.length * _ = K at i1 ⊢
      omega
    · intro u hu'
      simp only [abL] at hu'
      rcases List.mem_cons.1 hu' with rfl | hu'
      · omega
      · exact i3 u hu'
/-! ### Shifts -/
theorem mod_mul {a k m : Int} (hm : 0 < m) : (a * m) % (k * m) = (a % k) * m := by
  rw [Int.mul_comm a m, Int.mul_comm k m, Int.mul_emod_mul_of_pos _ _ hm, Int.mul_comm]
def shlL (m : Int) : List Int → Int → List Int
  | [], c => [c]
  | a :: x, c => ((a * m) % 4294967296 + c) :: shlL m x (a * m / 4294967296)
theorem shl_spec {m k : Int} (hm : 0 < m) (hk : 4294967296 = k * m) : ∀ {x : List Int} {c : Int}, Dg x → 0 ≤ c ∧ c < m → val (shlL m x c) = val x * m + c ∧ (shlL m x c).length = x.length + 1 ∧ Dg (shlL m x c)
  | [], c, _, hc => by
    have hkp : 0 < k := by
      rcases Int.lt_or_le 0 k with h | h
      · exact h
      · have := Int.mul_nonneg (Int.neg_nonneg_of_nonpos h) (Int.le_of_lt hm); rw [Int.neg_mul] at this; omega
    have hmk : m * 1 ≤ m * k := Int.mul_le_mul_of_nonneg_left (by omega) (by omega)
    rw [Int.mul_comm m k, ← hk] at hmk
    refine ⟨by simp [shlL, val], rfl, fun a ha => ?_⟩
    simp only [shlL, List.mem_singleton] at ha
    subst ha; omega
  | a :: x, c, h, hc => by
    have ha := h a List.mem_cons_self
    have h0 : 0 ≤ a * m := Int.mul_nonneg ha.1 (by omega)
    have h1 : a * m < 4294967296 * m := Int.mul_lt_mul_of_pos_right ha.2 hm
    have h2 : a * m / 4294967296 < m := by
      rw [Int.ediv_lt_iff_lt_mul (by decide), Int.mul_comm m]; exact h1
    have h3 : 0 ≤ a * m / 4294967296 := Int.ediv_nonneg h0 (by decide)
    obtain ⟨i1, i2, i3⟩ := shl_spec hm hk (x := x) (c := a * m / 4294967296) h.tail ⟨h3, h2⟩
    refine ⟨?_, by simp [shlL, i2], ?_⟩
    · simp only [shlL, val]
      rw [i1, Int.add_mul, Int.mul_assoc 4294967296 (val x) m]
      omega
    · intro u hu
      simp only [shlL] at hu
      rcases List.mem_cons.1 hu with rfl | hu
      · -- the digit is a multiple of m, less than 2^32
        have hd : (a * m) % 4294967296 = (a % k) * m := by
          conv => lhs; rw [hk]
          rw [mod_mul hm]
        have hkp : 0 < k := by
          rcases Int.lt_or_le 0 k with h | h
          · exact h
          · have := Int.mul_nonneg (Int.neg_nonneg_of_nonpos h) (Int.le_of_lt hm); rw [Int.neg_mul] at this; omega
        have h5 := Int.emod_lt_of_pos a hkp
        have h6 := Int.emod_nonneg a (show k ≠ 0 by omega)
        have h7 : (a % k + 1) * m ≤ k * m := Int.mul_le_mul_of_nonneg_right (by omega) (by omega)
        have h8 : 0 ≤ (a % k) * m := Int.mul_nonneg h6 (by omega)
        rw [Int.add_mul, Int.one_mul, ← hk] at h7
        rw [hd]
        omega
      · exact i3 u hu
def shrL (m k : Int) : List Int → List Int
  | [] => []
  | [a] => [a / m]
  | a :: b :: r => (a / m + (b * k) % 4294967296) :: shrL m k (b :: r)
theorem shr_spec {m k : Int} (hm : 0 < m) (hk : 4294967296 = k * m) (hkp : 0 < k) : ∀ {x : List Int}, Dg x → val (shrL m k x) = val x / m ∧ (shrL m k x).length = x.length ∧ Dg (shrL m k x)
  | [], _ => by simp [shrL, val, Dg]
  | [a], h => by
    have ha := h a List.mem_cons_self
    have h1 : 0 ≤ a / m := Int.ediv_nonneg ha.1 (by omega)
    have h2 : a / m ≤ a := Int.ediv_le_self _ ha.1
    refine ⟨by simp [shrL, val], rfl, fun u hu => ?_⟩
    simp only [shrL, List.mem_singleton] at hu
    subst hu; omega
  | a :: b :: r, h => by
    obtain ⟨i1, i2, i3⟩ := shr_spec hm hk hkp (x := b :: r) h.tail
    have ha := h a List.mem_cons_self
    have hb := h b (by simp)
    have hbd : (b * k) % 4294967296 = (b % m) * k := by
      conv => lhs; rw [hk, Int.mul_comm k m]
      rw [mod_mul hkp]
    refine ⟨?_, by rw [shrL, List.length_cons, i2]; rfl, ?_⟩
    · have e1 : val (a :: b :: r) / m = a / m + k * val (b :: r) := by
        rw [show val (a :: b :: r) = a + 4294967296 * val (b :: r) from rfl]
        conv => lhs; rw [hk, Int.mul_comm k m, Int.mul_assoc]
        rw [Int.add_mul_ediv_left _ _ (by omega)]
      have e2 : val (b :: r) / m = b / m + k * val r := by
        rw [show val (b :: r) = b + 4294967296 * val r from rfl]
        conv => lhs; rw [hk, Int.mul_comm k m, Int.mul_assoc]
        rw [Int.add_mul_ediv_left _ _ (by omega)]
      have e3 := Int.mul_ediv_add_emod b m
      rw [e1]
      simp only [shrL, val]
      rw [i1, e2, hbd]
      have e4 : 4294967296 * (b / m + k * val r) = k * (m * (b / m)) + 4294967296 * (k * val r) := by
        rw [Int.mul_add]
        conv => lhs; rw [hk, Int.mul_assoc]
        rw [← hk]
      have e5 : k * (b + 4294967296 * val r) = k * (m * (b / m)) + (b % m) * k + 4294967296 * (k * val r) := by
        rw [Int.mul_add, Int.mul_left_comm k 4294967296]
        conv => lhs; rw [← e3, Int.mul_add, Int.mul_comm k (b % m)]
      rw [e4, e5]; omega
    · intro u hu
      simp only [shrL] at hu
      rcases List.mem_cons.1 hu with rfl | hu
      · rw [hbd]
        have h5 := Int.emod_lt_of_pos b hm
        have h6 := Int.emod_nonneg b (show m ≠ 0 by omega)
        have h7 : (b % m + 1) * k ≤ m * k := Int.mul_le_mul_of_nonneg_right (by omega) (by omega)
        have h8 : 0 ≤ (b % m) * k := Int.mul_nonneg h6 (by omega)
        rw [Int.add_mul, Int.one_mul, Int.mul_comm m k, ← hk] at h7
        have h9 : 0 ≤ a / m := Int.ediv_nonneg ha.1 (by omega)
        have h10 : a / m < k := by
          rw [Int.ediv_lt_iff_lt_mul hm, ← hk]; exact ha.2
        omega
      · exact i3 u hu
end Go.Aev.Wd
