/-
  Under which assignments clauses hold.
-/
import Derived.Test.YtmpjdngpblfecaaYChk
set_option linter.unusedSimpArgs false
set_option linter.unusedVariables false
namespace Go.Aev.Gen
open Go Go.Aev

/-- An assignment by its number. -/
def asg (v k : Nat) : List Bool := (List.range v).map fun i => k.testBit (v - 1 - i)
theorem asg_len (v k : Nat) : (asg v k).length = v := by simp [asg]
theorem s22a : ∀ k : Nat, k < 16 → Or (.call 22) [I ((4 : Nat) : Int), I (k : Int)] [] = some [T.lst 1 false (encB (asg 4 k))]
  | 0, _ => orc_of_N (n := 20) (by kernel_rfl)
  | 1, _ => orc_of_N (n := 20) (by kernel_rfl)
  | 2, _ => orc_of_N (n := 20) (by kernel_rfl)
  | 3, _ => orc_of_N (n := 20) (by kernel_rfl)
  | 4, _ => orc_of_N (n := 20) (by kernel_rfl)
  | 5, _ => orc_of_N (n := 20) (by kernel_rfl)
  | 6, _ => orc_of_N (n := 20) (by kernel_rfl)
  | 7, _ => orc_of_N (n := 20) (by kernel_rfl)
  | 8, _ => orc_of_N (n := 20) (by kernel_rfl)
  | 9, _ => orc_of_N (n := 20) (by kernel_rfl)
  | 10, _ => orc_of_N (n := 20) (by kernel_rfl)
  | 11, _ => orc_of_N (n := 20) (by kernel_rfl)
  | 12, _ => orc_of_N (n := 20) (by kernel_rfl)
  | 13, _ => orc_of_N (n := 20) (by kernel_rfl)
  | 14, _ => orc_of_N (n := 20) (by kernel_rfl)
  | 15, _ => orc_of_N (n := 20) (by kernel_rfl)
  | n + 16, h => by omega
theorem s22b : ∀ k : Nat, k < 2 → Or (.call 22) [I ((1 : Nat) : Int), I (k : Int)] [] = some [T.lst 1 false (encB (asg 1 k))]
  | 0, _ => orc_of_N (n := 20) (by kernel_rfl)
  | 1, _ => orc_of_N (n := 20) (by kernel_rfl)
  | n + 2, h => by omega
theorem s22 {v k : Nat} (hv : v = 4 ∨ v = 1) (hk : k < 2 ^ v) : Or (.call 22) [I (v : Int), I (k : Int)] [] = some [T.lst 1 false (encB (asg v k))] := by
  rcases hv with rfl | rfl
  · exact s22a k hk
  · exact s22b k hk
/-- The document's. -/
def asgD (k : Nat) : List Bool := (List.range 4).map fun i => k.testBit i
theorem s18 : ∀ k : Nat, k < 16 → Or (.call 18) [I (k : Int), I (4 : Int)] [] = some [T.lst 1 false (encB (asgD k))]
  | 0, _ => orc_of_N (n := 20) (by kernel_rfl)
  | 1, _ => orc_of_N (n := 20) (by kernel_rfl)
  | 2, _ => orc_of_N (n := 20) (by kernel_rfl)
  | 3, _ => orc_of_N (n := 20) (by kernel_rfl)
  | 4, _ => orc_of_N (n := 20) (by kernel_rfl)
  | 5, _ => orc_of_N (n := 20) (by kernel_rfl)
  | 6, _ => orc_of_N (n := 20) (by kernel_rfl)
  | 7, _ => orc_of_N (n := 20) (by kernel_rfl)
  | 8, _ => orc_of_N (n := 20) (by kernel_rfl)
  | 9, _ => orc_of_N (n := 20) (by kernel_rfl)
  | 10, _ => orc_of_N (n := 20) (by kernel_rfl)
  | 11, _ => orc_of_N (n := 20) (by kernel_rfl)
  | 12, _ => orc_of_N (n := 20) (by kernel_rfl)
  | 13, _ => orc_of_N (n := 20) (by kernel_rfl)
  | 14, _ => orc_of_N (n := 20) (by kernel_rfl)
  | 15, _ => orc_of_N (n := 20) (by kernel_rfl)
  | n + 16, h => by omega
theorem pw {v : Nat} (hv : v = 4 ∨ v = 1) : IntKind.i64.wrap ((1 : Int) * (2 : Int) ^ min ((v : Nat) : Int).toNat 64) = ((2 ^ v : Nat) : Int) := by rcases hv with rfl | rfl <;> decide
theorem pw1 {v : Nat} (hv : v = 4 ∨ v = 1) : IntKind.i64.wrap ((IntKind.i64.wrap (((2 ^ v : Nat) : Int) + (63 : Int))).tdiv (64 : Int)) = 1 := by rcases hv with rfl | rfl <;> decide
theorem pv {v : Nat} (hv : v = 4 ∨ v = 1) : 2 ^ v ≤ 16 := by rcases hv with rfl | rfl <;> decide
/-! ### Rows -/
def rowsW (n : Nat) : List Nat → Nat → List Row
  | [], _ => []
  | w :: ws, j => ⟨n + j, [.nilp], some (false, [[T.int .u64 (w : Int)]])⟩ :: rowsW n ws (j + 1)
theorem rowsW_len (n : Nat) : ∀ (ws : List Nat) (j : Nat), (rowsW n ws j).length = ws.length
  | [], _ => rfl
  | w :: ws, j => by rw [rowsW, List.length_cons, rowsW_len n ws, List.length_cons]
theorem rowsW_get (n : Nat) : ∀ {ws : List Nat} {j i w : Nat}, ws[i]? = some w → (rowsW n ws j)[i]? = some ⟨n + (j + i), [.nilp], some (false, [[T.int .u64 (w : Int)]])⟩
  | [], _, _, _, h => by simp at h
  | u :: ws, j, 0, w, h => by simp at h; subst h; rfl
  | u :: ws, j, i + 1, w, h => by
    rw [rowsW, List.getElem?_cons_succ, rowsW_get n (j := j + 1) (by simpa using h)]
    rw [show j + 1 + i = j + (i + 1) by omega]
theorem rowsW_find (n : Nat) : ∀ {ws : List Nat} {j i w : Nat}, ws[i]? = some w → findR (n + (j + i)) (rowsW n ws j) = some (false, [[T.int .u64 (w : Int)]])
  | [], _, _, _, h => by simp at h
  | u :: ws, j, 0, w, h => by simp at h; subst h; simp [rowsW, findR]
  | u :: ws, j, i + 1, w, h => by
    have ih := rowsW_find n (j := j + 1) (i := i) (ws := ws) (w := w) (by simpa using h)
    rw [show n + (j + 1 + i) = n + (j + (i + 1)) by omega] at ih
    rw [rowsW, findR, if_neg (by simp), ih]
theorem rowsW_set (n : Nat) (w' : Nat) : ∀ {ws : List Nat} {j i : Nat}, i < ws.length → setR (n + (j + i)) (some (false, [[T.int .u64 (w' : Int)]])) (rowsW n ws j) = rowsW n (ws.set i w') j
  | [], _, _, h => by simp at h
  | u :: ws, j, 0, h => by simp [rowsW, setR]
  | u :: ws, j, i + 1, h => by
    have ih := rowsW_set n w' (j := j + 1) (i := i) (ws := ws) (by simpa using h)
    rw [show n + (j + 1 + i) = n + (j + (i + 1)) by omega] at ih
    rw [rowsW, setR, if_neg (by simp), ih, List.set_cons_succ, rowsW]
theorem rowsW_own (n : Nat) : ∀ (ws : List Nat) (j : Nat), allOwn (rowsW n ws j) = true
  | [], _ => rfl
  | w :: ws, j => by
    have ih := rowsW_own n ws (j + 1)
    unfold allOwn at ih ⊢
    rw [rowsW, List.all_cons, ih]; rfl
def encW (ws : List Nat) : List (List T) := ws.map fun w : Nat => [T.lst 1 false [[T.int .u64 ((w : Nat) : Int)]]]
theorem encW_len (ws : List Nat) : (encW ws).length = ws.length := by simp [encW]
theorem encW_get {ws : List Nat} {i w : Nat} (h : ws[i]? = some w) : (encW ws)[((i : Nat) : Int).toNat]? = some [T.lst 1 false [[T.int .u64 (w : Int)]]] := by simp [encW, h]
theorem rowsW_T (n : Nat) : ∀ (ws : List Nat) (j : Nat), (rowsW n ws j).map (rowT 0 1) = encW ws
  | [], _ => rfl
  | w :: ws, j => by rw [rowsW, List.map_cons, rowsW_T n ws]; rfl
/-- Rows as they are made. -/
def rowsN (n i : Nat) : List Row := rowsW n (List.replicate i 0) 0 ++ ((List.range n).drop i).map fun k => ⟨k, [.nilp], some (true, [])⟩
theorem rowsN_0 (n : Nat) : rowsN n 0 = nilRows n := rfl
theorem rowsN_end (n : Nat) : rowsN n n = rowsW n (List.replicate n 0) 0 := by
  unfold rowsN
  rw [List.drop_eq_nil_of_le (by simp)]; simp
theorem rowsW_snoc (n : Nat) : ∀ (i j : Nat), rowsW n (List.replicate (i + 1) 0) j = rowsW n (List.replicate i 0) j ++ [⟨n + (j + i), [.nilp], some (false, [[T.int .u64 ((0 : Nat) : Int)]])⟩]
  | 0, j => rfl
  | i + 1, j => by
    rw [List.replicate_succ, rowsW, rowsW_snoc n i (j + 1), List.replicate_succ, rowsW, show j + 1 + i = j + (i + 1) by omega]; rfl
theorem rowsN_len (n i : Nat) (h : i ≤ n) : (rowsN n i).length = n := by
  unfold rowsN
  rw [List.length_append, rowsW_len, List.length_replicate, List.length_map, List.length_drop, List.length_range]; omega
theorem rowsN_get {n i : Nat} (h : i < n) : (rowsN n i)[i]? = some ⟨i, [.nilp], some (true, [])⟩ := by
  unfold rowsN
  rw [List.getElem?_append_right (by rw [rowsW_len]; simp), rowsW_len, List.length_replicate, Nat.sub_self, List.getElem?_map, List.getElem?_drop, List.getElem?_range (by omega)]; rfl
theorem rowsN_set {n i : Nat} (h : i < n) : (rowsN n i).set i ⟨n + i, [.nilp], some (false, [[T.int .u64 0]])⟩ = rowsN n (i + 1) := by
  unfold rowsN
  rw [List.set_append_right _ _ (by rw [rowsW_len]; simp), rowsW_len, List.length_replicate, Nat.sub_self, rowsW_snoc, List.append_assoc]
  congr 1
  have e : (List.range n).drop i = i :: (List.range n).drop (i + 1) := by
    rw [List.drop_eq_getElem_cons (by simpa using h)]; simp
  rw [e, List.map_cons, List.set_cons_zero, Nat.zero_add]; rfl
theorem n10a {v : Nat} (hv : v = 4 ∨ v = 1) (e : Bool) (cs : List (List Int)) (hn : cs.length ≤ 12) {R : List T}
    (hend : Or K10n8 [r0, o1, I ((2 ^ v : Nat) : Int), I 0] [Blk.box [I (v : Int), LC e cs], Blk.rows false 1 0 1 (cs.length + cs.length) (rowsN cs.length cs.length)] = some R) : ∀ (d i : Nat), d + i = cs.length →
    Or K10n3 [r0, o1, I (cs.length : Int), I (i : Int)] [Blk.box [I (v : Int), LC e cs], Blk.rows false 1 0 1 (cs.length + i) (rowsN cs.length i)] = some R := by
  have hv0 : ¬ (v : Int) < 0 := by omega
  have mk1 : mkOk 1 1 = some () := by decide
  intro d
  induction d with
  | zero =>
    intro i hd
    obtain rfl : i = cs.length := by omega
    have h1 : ¬ (cs.length : Int) < (cs.length : Int) := by omega
    refine orc_of ?_
    rw [e10n3]
    simp only [gdF, gd1, hd1, tl1, dr0, dr1, dr2, dr3, dr4, dr5, dr6, bo1, in1, st1, ls1, le1, pt1, fi1, fb1, fs1, ct1, cf1, nt1, nf1, ak0, akT, akF, cdec, cndec, cbeq, cnbeq, ↓reduceIte, beq_self_eq_true, Int.reduceBEq, Int.reduceEq, Bool.and_true, Bool.true_and, Bool.false_and, Bool.and_false, h1, hv0, pw hv]
    exact hend
  | succ d ih =>
    intro i hd
    have h1 : (i : Int) < (cs.length : Int) := by omega
    have h0 : 0 ≤ (i : Int) := by omega
    have hi : ((i : Nat) : Int).toNat = i := by omega
    have hr : (List.replicate (1 : Int).toNat [T.int .u64 (0 : Int)]) = [[T.int .u64 (0 : Int)]] := rfl
    have := ih (i + 1) (by omega)
    refine orc_of ?_
    rw [e10n3]
    simp only [gdF, gd1, hd1, tl1, dr0, dr1, dr2, dr3, dr4, dr5, dr6, bo1, in1, st1, ls1, le1, pt1, fi1, fb1, fs1, ct1, cf1, nt1, nf1, ak0, akT, akF, cdec, cndec, cbeq, cnbeq, ↓reduceIte, beq_self_eq_true, Int.reduceBEq, Int.reduceEq, Bool.and_true, Bool.true_and, Bool.false_and, Bool.and_false, h1, h0, and_self, hv0, pw hv, pw1 hv, mk1, rowsN_len cs.length i (by omega), hi, rowsN_get (show i < cs.length by omega), next i (by omega), hr, rowsN_set (show i < cs.length by omega)]
    exact this
/-! ### The words -/
theorem set_same {α : Type} {l : List α} {i : Nat} {a : α} (h : l[i]? = some a) : l.set i a = l := by
  have hi : i < l.length := (List.getElem?_eq_some_iff.1 h).1
  refine List.ext_getElem? fun j => ?_
  rw [List.getElem?_set]
  by_cases e : i = j
  · subst e; rw [if_pos rfl, if_pos hi, h]
  · rw [if_neg e]
def satB (v : Nat) (l : List Int) (k : Nat) : Bool := l.any (litB (asg v k))
def wsK (v : Nat) (cs : List (List Int)) (k i : Nat) : List Nat := (List.range cs.length).map fun j => mk (satB v (cs.getD j [])) (if j < i then k + 1 else k)
theorem wsK_len (v : Nat) (cs : List (List Int)) (k i : Nat) : (wsK v cs k i).length = cs.length := by simp [wsK]
theorem wsK_get {v : Nat} {cs : List (List Int)} {k i : Nat} {l : List Int} (h : cs[i]? = some l) : (wsK v cs k i)[i]? = some (mk (satB v l) k) := by
  have hi : i < cs.length := (List.getElem?_eq_some_iff.1 h).1
  unfold wsK
  rw [List.getElem?_map, List.getElem?_range hi, Option.map_some, if_neg (by omega), List.getD_eq_getElem?_getD, h]; rfl
theorem wsK_next {v : Nat} {cs : List (List Int)} {k i : Nat} {l : List Int} (h : cs[i]? = some l) : (wsK v cs k i).set i (mk (satB v l) (k + 1)) = wsK v cs k (i + 1) := by
  have hi : i < cs.length := (List.getElem?_eq_some_iff.1 h).1
  refine List.ext_getElem? fun j => ?_
  unfold wsK
  rw [List.getElem?_set]
  by_cases e : i = j
  · subst e
    rw [if_pos rfl, if_pos (by simpa using hi), List.getElem?_map, List.getElem?_range hi, Option.map_some, if_pos (by omega), List.getD_eq_getElem?_getD, h]; rfl
  · rw [if_neg e, List.getElem?_map, List.getElem?_map]
    by_cases hj : j < cs.length
    · rw [List.getElem?_range hj, Option.map_some, Option.map_some]
      have : (j < i) ↔ (j < i + 1) := by omega
      simp only [this]
    · rw [List.getElem?_eq_none (by simpa using hj)]; rfl
theorem wsK_same {v : Nat} {cs : List (List Int)} {k i : Nat} {l : List Int} (h : cs[i]? = some l) (hs : satB v l k = false) : wsK v cs k i = wsK v cs k (i + 1) := by
  rw [← wsK_next h, mk, hs]
  simp only [Bool.false_eq_true, if_false]
  exact (set_same (wsK_get h)).symm
theorem wsK_end (v : Nat) (cs : List (List Int)) (k : Nat) : wsK v cs k cs.length = wsK v cs (k + 1) 0 := by
  unfold wsK
  refine List.map_congr_left fun j hj => ?_
  rw [if_pos (by simpa using hj), if_neg (by omega)]
/-! ### sets -/
theorem clit {v : Nat} {l : List Int} (ok : ClOk v l) (k : Nat) : ∀ x ∈ l, LOk (asg v k).length x := by rw [asg_len]; exact ok.lit
theorem n10c {v : Nat} (hv : v = 4 ∨ v = 1) (e : Bool) (cs : List (List Int)) (ok : ∀ l ∈ cs, ClOk v l) (hn : cs.length ≤ 12) {k : Nat} (hk : k < 2 ^ v) {R : List T}
    (hnext : Or K10n8 [r0, o1, I ((2 ^ v : Nat) : Int), I ((k + 1 : Nat) : Int)] [Blk.box [I (v : Int), LC e cs], Blk.rows false 1 0 1 (cs.length + cs.length) (rowsW cs.length (wsK v cs (k + 1) 0) 0)] = some R) : ∀ (d i : Nat), d + i = cs.length →
    Or K10n12 [r0, o1, I (k : Int), LB false (asg v k), I ((2 ^ v : Nat) : Int), I (k : Int), LC e cs, I (cs.length : Int), I (i : Int)] [Blk.box [I (v : Int), LC e cs], Blk.rows false 1 0 1 (cs.length + cs.length) (rowsW cs.length (wsK v cs k i) 0)] = some R := by
  have hk16 : k < 16 := Nat.lt_of_lt_of_le hk (pv hv)
  intro d
  induction d with
  | zero =>
    intro i hd
    obtain rfl : i = cs.length := by omega
    have h1 : ¬ (cs.length : Int) < (cs.length : Int) := by omega
    rw [wsK_end]
    refine orc_of ?_
    rw [e10n12]
    simp only [gd1, hd1, tl1, dr0, dr1, dr2, dr3, dr4, dr5, dr6, bo1, in1, st1, ls1, le1, pt1, fi1, fb1, fs1, ct1, cf1, nt1, nf1, ak0, akT, akF, cdec, cndec, cbeq, cnbeq, ↓reduceIte, beq_self_eq_true, Int.reduceBEq, Int.reduceEq, Bool.and_true, Bool.true_and, Bool.false_and, Bool.and_false, h1, next k (by omega)]
    exact hnext
  | succ d ih =>
    intro i hd
    have hi : i < cs.length := by omega
    have h1 : (i : Int) < (cs.length : Int) := by omega
    have h0 : 0 ≤ (i : Int) := by omega
    have hti : ((i : Nat) : Int).toNat = i := by omega
    obtain ⟨l, hl⟩ : ∃ l, cs[i]? = some l := ⟨_, List.getElem?_eq_getElem hi⟩
    have okl := ok l (List.mem_of_getElem? hl)
    have k23 := s23 l.isEmpty l false (asg v k) (clit okl k) (by rw [asg_len]; rcases hv with rfl | rfl <;> decide) (by have := okl.len; omega)
    have hw := wsK_get (v := v) (k := k) hl
    have hrg := rowsW_get cs.length (j := 0) hw
    have hrf := rowsW_find cs.length (j := 0) hw
    rw [Nat.zero_add] at hrg hrf
    have := ih (i + 1) (by omega)
    cases hs : l.any (litB (asg v k)) with
    | false =>
      rw [hs] at k23
      rw [wsK_same hl hs]
      refine orc_of ?_
      rw [e10n12]
      simp only [gd1, hd1, tl1, dr0, dr1, dr2, dr3, dr4, dr5, dr6, bo1, in1, st1, ls1, le1, pt1, fi1, fb1, fs1, ct1, cf1, nt1, nf1, ak0, akT, akF, cdec, cndec, cbeq, cnbeq, ↓reduceIte, beq_self_eq_true, Int.reduceBEq, Int.reduceEq, Bool.and_true, Bool.true_and, Bool.false_and, Bool.and_false, h1, h0, and_self, encC_len, encC_get hl, k23, next i (by omega)]
      exact this
    | true =>
      rw [hs] at k23
      have hm : mk (satB v l) k < 2 ^ 64 := Nat.lt_trans (mk_lt _ k) (Nat.pow_lt_pow_right (by decide) (by omega))
      have hp : 2 ^ k < 2 ^ 64 := Nat.pow_lt_pow_right (by decide) (by omega)
      have t1 : ((k : Nat) : Int).tdiv 64 = 0 := Int.tdiv_eq_zero_of_lt (by omega) (by omega)
      have t2 : ((k : Nat) : Int).tmod 64 = (k : Int) := Int.tmod_eq_of_lt (by omega) (by omega)
      have t3 : IntKind.i64.wrap 0 = 0 := by decide
      have t4 : ¬ ((k : Nat) : Int) < 0 := by omega
      have t5 : IntKind.u64.wrap ((1 : Int) * (2 : Int) ^ min ((k : Nat) : Int).toNat 64) = ((2 ^ k : Nat) : Int) := by
        rw [Int.one_mul, toN, show min k 64 = k by omega]
        have : ((2 : Int) ^ k) = ((2 ^ k : Nat) : Int) := by rw [Int.natCast_pow]; rfl
        rw [this, wrU hp]
      have t6 : mk (satB v l) k ||| 2 ^ k = mk (satB v l) (k + 1) := by
        rw [mk]
        have : satB v l k = true := hs
        rw [this]; rfl
      have t7 : mk (satB v l) (k + 1) < 2 ^ 64 := Nat.lt_trans (mk_lt _ (k + 1)) (Nat.pow_lt_pow_right (by decide) (by omega))
      have c0 : (0 : Int) ≤ 0 ∧ (0 : Int) < (([[T.int .u64 ((mk (satB v l) k : Nat) : Int)]] : List (List T)).length : Int) := ⟨Int.le_refl 0, by show (0 : Int) < 1; omega⟩
      have g0 : ([[T.int .u64 ((mk (satB v l) k : Nat) : Int)]] : List (List T))[(0 : Int).toNat]? = some [T.int .u64 ((mk (satB v l) k : Nat) : Int)] := rfl
      have gi : T.int? .u64 (T.int .u64 ((mk (satB v l) k : Nat) : Int)) = some ((mk (satB v l) k : Nat) : Int) := rfl
      have st : storeIn (0 : Int).toNat 0 [T.int .u64 ((mk (satB v l) (k + 1) : Nat) : Int)] [[T.int .u64 ((mk (satB v l) k : Nat) : Int)]] = some [[T.int .u64 ((mk (satB v l) (k + 1) : Nat) : Int)]] := rfl
      have hset := rowsW_set cs.length (mk (satB v l) (k + 1)) (j := 0) (i := i) (ws := wsK v cs k i) (by rw [wsK_len]; exact hi)
      rw [wsK_next hl, Nat.zero_add] at hset
      have hcl : (i : Int) < ((rowsW cs.length (wsK v cs k i) 0).length : Int) := by rw [rowsW_len, wsK_len]; omega
      have hci := encC_get hl
      rw [toN] at hci
      refine orc_of ?_
      rw [e10n12]
      simp only [gdF, gd1, hd1, tl1, dr0, dr1, dr2, dr3, dr4, dr5, dr6, bo1, in1, st1, ls1, le1, pt1, fi1, fb1, fs1, ct1, cf1, nt1, nf1, ak0, akT, akF, cdec, cndec, cbeq, cnbeq, ↓reduceIte, beq_self_eq_true, Int.reduceBEq, Int.reduceEq, Bool.and_true, Bool.true_and, Bool.false_and, Bool.and_false, h1, h0, and_self, encC_len, hci, k23, hcl, hti, hrg, hrf, t1, t2, t3, t4, t5, orN hm hp, t6, wrU t7, c0, g0, gi, st, hset, next i (by omega)]
      exact this
theorem n10b {v : Nat} (hv : v = 4 ∨ v = 1) (e : Bool) (cs : List (List Int)) (ok : ∀ l ∈ cs, ClOk v l) (hn : cs.length ≤ 12) : ∀ (d k : Nat), d + k = 2 ^ v →
    Or K10n8 [r0, o1, I ((2 ^ v : Nat) : Int), I (k : Int)] [Blk.box [I (v : Int), LC e cs], Blk.rows false 1 0 1 (cs.length + cs.length) (rowsW cs.length (wsK v cs k 0) 0)] = some [T.lst 1 false (encW (wsK v cs (2 ^ v) 0))] := by
  intro d
  induction d with
  | zero =>
    intro k hd
    obtain rfl : k = 2 ^ v := by omega
    have h1 : ¬ ((2 ^ v : Nat) : Int) < ((2 ^ v : Nat) : Int) := by omega
    refine orc_of ?_
    rw [e10n8]
    simp only [gd1, hd1, tl1, dr0, dr1, dr2, dr3, dr4, dr5, dr6, bo1, in1, st1, ls1, le1, pt1, fi1, fb1, fs1, ct1, cf1, nt1, nf1, ak0, akT, akF, cdec, cndec, cbeq, cnbeq, ↓reduceIte, beq_self_eq_true, Int.reduceBEq, Int.reduceEq, Bool.and_true, Bool.true_and, Bool.false_and, Bool.and_false, h1, rowsW_own, rowsW_T]
  | succ d ih =>
    intro k hd
    have hk : k < 2 ^ v := by omega
    have h1 : (k : Int) < ((2 ^ v : Nat) : Int) := by omega
    have k22 := s22 hv hk
    have := n10c hv e cs ok hn hk (ih (k + 1) (by omega)) cs.length 0 (by omega)
    refine orc_of ?_
    rw [e10n8]
    simp only [gd1, hd1, tl1, dr0, dr1, dr2, dr3, dr4, dr5, dr6, bo1, in1, st1, ls1, le1, pt1, fi1, fb1, fs1, ct1, cf1, nt1, nf1, ak0, akT, akF, cdec, cndec, cbeq, cnbeq, ↓reduceIte, beq_self_eq_true, Int.reduceBEq, Int.reduceEq, Bool.and_true, Bool.true_and, Bool.false_and, Bool.and_false, h1, k22, encC_len]
    exact this
/-- Under which assignments each clause holds. -/
def setsL (v : Nat) (cs : List (List Int)) : List Nat := cs.map fun l => mk (satB v l) (2 ^ v)
theorem wsK_all (v : Nat) (cs : List (List Int)) : wsK v cs (2 ^ v) 0 = setsL v cs := by
  refine List.ext_getElem? fun j => ?_
  unfold wsK setsL
  rw [List.getElem?_map, List.getElem?_map]
  by_cases hj : j < cs.length
  · rw [List.getElem?_range hj, Option.map_some, if_neg (by omega), List.getD_eq_getElem?_getD, List.getElem?_eq_getElem hj]; rfl
  · rw [List.getElem?_eq_none (by simpa using hj), List.getElem?_eq_none (by simpa using hj)]; rfl
theorem s10 {v : Nat} (hv : v = 4 ∨ v = 1) (e : Bool) (cs : List (List Int)) (ok : ∀ l ∈ cs, ClOk v l) (hn : cs.length ≤ 12) : Or (.call 10) [AV.agg [I (v : Int), LC e cs]] [] = some [T.lst 1 false (encW (setsL v cs))] := by
  have hw0 : wsK v cs 0 0 = List.replicate cs.length 0 := by
    refine List.ext_getElem? fun j => ?_
    unfold wsK
    rw [List.getElem?_map]
    by_cases hj : j < cs.length
    · rw [List.getElem?_range hj, List.getElem?_replicate, if_pos hj]; rfl
    · rw [List.getElem?_eq_none (by simpa using hj), List.getElem?_eq_none (by simpa using hj)]; rfl
  have k2 := n10b hv e cs ok hn (2 ^ v) 0 (by omega)
  rw [hw0, ← rowsN_end, wsK_all] at k2
  have k1 := n10a hv e cs hn k2 cs.length 0 (by omega)
  rw [rowsN_0] at k1
  have mk0 : mkOk (cs.length : Int) (cs.length : Int) = some () := by unfold mkOk lim; rw [if_pos (by omega)]
  have hnl : (nilRows cs.length).length = cs.length := by unfold nilRows; simp
  refine orc_of ?_
  rw [e10]
  simp only [gd1, hd1, tl1, dr0, dr1, dr2, dr3, dr4, dr5, dr6, bo1, in1, st1, ls1, le1, pt1, fi1, fb1, fs1, ct1, cf1, nt1, nf1, ak0, akT, akF, cdec, cndec, cbeq, cnbeq, ↓reduceIte, beq_self_eq_true, Int.reduceBEq, Int.reduceEq, Bool.and_true, Bool.true_and, Bool.false_and, Bool.and_false, encC_len, mk0, toN, hnl]
  exact k1
end Go.Aev.Gen
