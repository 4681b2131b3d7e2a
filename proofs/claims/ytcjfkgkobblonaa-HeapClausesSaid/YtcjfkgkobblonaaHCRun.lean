/-
  The document's search for a model: the walk.
-/
import Derived.Test.YtcjfkgkobblonaaHCSome
set_option linter.unusedSimpArgs false
set_option linter.unusedVariables false
namespace Go.Aev.Gen
open Go Go.Aev Go.Aev.Hp Go.RowKit

abbrev o1 : AV := AV.own (Id.c 1)
abbrev b26 (n : Int) (ec eb : Bool) (cl : List (List Int)) (now : List Int) : List Blk := [Blk.box [I n, AV.t (T.lst 1 ec (encC cl))], Blk.sl false 1 eb (enc now)]
section
variable {n : Int} {ec eb : Bool} {cl : List (List Int)} {m : Nat}
theorem n26a {k : Nat} {c : List Int} {ag : Bool} {now : List Int} {R : List T} (g : cl[k]? = some c) (hk : k < 1000) (hc : c.length ≤ 1000) (hl : Lits m c) (hm : m ≤ 1000) (ho : Ok m now) : ∀ (suf pre : List Int) (op many : Int) (hs : Bool), c = pre ++ suf → 0 ≤ many → many ≤ (pre.length : Int) → (many = 0 ∨ (-1000 ≤ op ∧ op ≤ 1000 ∧ 1 ≤ ab op ∧ ab op ≤ (m : Int))) →
    (if ((hs || anyP now suf) || decide (many + cnt now suf > 1)) = true then Or K26n6 [r0, o1, B ag, I ((k + 1 : Nat) : Int)] (b26 n ec eb cl now) else if many + cnt now suf = 0 then some [tb false] else Or K26n6 [r0, o1, B true, I ((k + 1 : Nat) : Int)] (b26 n ec eb cl (setU now (opn now suf op)))) = some R →
    Or K26n10 [r0, o1, B ag, I (k : Int), I op, I many, B hs, I (pre.length : Int)] (b26 n ec eb cl now) = some R
  | [], pre, op, many, hs, hp, h0, h1, hop, hr => by
    rw [List.append_nil] at hp
    have lk : k < cl.length := (List.getElem?_eq_some_iff.1 g).1
    have c1 : 0 ≤ (k : Int) ∧ (k : Int) < (cl.length : Int) := by omega
    have c2 : ¬ (pre.length : Int) < (c.length : Int) := by rw [hp]; omega
    have w : wrap64 ((k : Int) + 1) = ((k + 1 : Nat) : Int) := by rw [w64 (by omega)]; omega
    have k1 := encC_get g
    have ea : anyP now [] = false := rfl
    have ec' : many + cnt now [] = many := by simp [cnt]
    rw [ea, Bool.or_false, ec'] at hr
    refine orc_of ?_
    rw [e26n10]
    simp only [cor, wr64, beq_dec]
    by_cases hd : (hs || decide (many > 1)) = true
    · rw [if_pos hd] at hr
      simp only [gd1, hd1, tl1, dr0, dr1, dr2, dr3, dr4, dr5, dr6, bo1, in1, st1, ls1, le1, pt1, fi1, fb1, fs1, ct1, cf1, nt1, nf1, ak0, akT, akF, cdec, cndec, cbeq, cnbeq, ↓reduceIte, beq_self_eq_true, Int.reduceBEq, Int.reduceEq, Bool.and_true, Bool.true_and, Bool.false_and, Bool.and_false, encC_len, c1, and_self, k1, tm_lst, enc_len, c2, hd, w]
      exact hr
    · have hd' : (hs || decide (many > 1)) = false := by simpa using hd
      rw [if_neg hd] at hr
      by_cases hz : many = 0
      · rw [if_pos hz] at hr
        subst hz
        simp only [gd1, hd1, tl1, dr0, dr1, dr2, dr3, dr4, dr5, dr6, bo1, in1, st1, ls1, le1, pt1, fi1, fb1, fs1, ct1, cf1, nt1, nf1, ak0, akT, akF, cdec, cndec, cbeq, cnbeq, ↓reduceIte, beq_self_eq_true, Int.reduceBEq, Int.reduceEq, Bool.and_true, Bool.true_and, Bool.false_and, Bool.and_false, encC_len, c1, and_self, k1, tm_lst, enc_len, c2, hd', w, if_true]
        exact hr
      · rw [if_neg hz] at hr
        obtain ⟨b1, b2, b3, b4⟩ := hop.resolve_left hz
        have eo : opn now [] op = op := rfl
        rw [eo] at hr
        have h39 := s39 op (by omega)
        have hlen := ho.len
        have w1 : wrap64 (ab op - 1) = ab op - 1 := w64 (by omega)
        have d1 : 0 ≤ ab op - 1 ∧ ab op - 1 < (now.length : Int) := by omega
        have s1 := enc_set (l := now) (i := (ab op - 1).toNat) (by omega) 1
        have et : (((ab op - 1).toNat : Nat) : Int) = ab op - 1 := by omega
        rw [et] at s1
        unfold setU at hr
        by_cases hneg : op < 0
        · rw [if_pos hneg] at hr
          have w2 : wrap64 (wrap64 (0 - op) - 1) = ab op - 1 := by rw [w64 (n := 0 - op) (by omega), w64 (by omega)]; unfold ab; omega
          have s2 := enc_set (l := now.set (ab op - 1).toNat 1) (i := (ab op - 1).toNat) (by simp; omega) (-1)
          rw [et, List.set_set] at s2
          have d2 : 0 ≤ ab op - 1 ∧ ab op - 1 < ((now.set (ab op - 1).toNat 1).length : Int) := by rw [List.length_set]; omega
          simp only [gd1, hd1, tl1, dr0, dr1, dr2, dr3, dr4, dr5, dr6, bo1, in1, st1, ls1, le1, pt1, fi1, fb1, fs1, ct1, cf1, nt1, nf1, ak0, akT, akF, cdec, cndec, cbeq, cnbeq, ↓reduceIte, beq_self_eq_true, Int.reduceBEq, Int.reduceEq, Bool.and_true, Bool.true_and, Bool.false_and, Bool.and_false, encC_len, c1, and_self, k1, tm_lst, enc_len, c2, hd', w, hz, if_false, h39, w1, d1, s1, hneg, if_true, w2, d2, s2]
          exact hr
        · rw [if_neg hneg] at hr
          simp only [gd1, hd1, tl1, dr0, dr1, dr2, dr3, dr4, dr5, dr6, bo1, in1, st1, ls1, le1, pt1, fi1, fb1, fs1, ct1, cf1, nt1, nf1, ak0, akT, akF, cdec, cndec, cbeq, cnbeq, ↓reduceIte, beq_self_eq_true, Int.reduceBEq, Int.reduceEq, Bool.and_true, Bool.true_and, Bool.false_and, Bool.and_false, encC_len, c1, and_self, k1, tm_lst, enc_len, c2, hd', w, hz, if_false, h39, w1, d1, s1, hneg]
          exact hr
  | x :: r, pre, op, many, hs, hp, h0, h1, hop, hr => by
    have lk : k < cl.length := (List.getElem?_eq_some_iff.1 g).1
    have c1 : 0 ≤ (k : Int) ∧ (k : Int) < (cl.length : Int) := by omega
    have hlen : c.length = pre.length + (r.length + 1) := by rw [hp]; simp
    have c2 : (pre.length : Int) < (c.length : Int) := by omega
    have c0 : 0 ≤ (pre.length : Int) := by omega
    have k1 := encC_get g
    have g2 : c[pre.length]? = some x := by rw [hp]; simp
    have k2 := enc_get g2
    have hx := hl x (by rw [hp]; simp)
    have bx : -1000 ≤ x ∧ x ≤ 1000 := by unfold ab at hx; omega
    have h39 := s39 x (by omega)
    have hol := ho.len
    have w1 : wrap64 (ab x - 1) = ab x - 1 := w64 (by omega)
    have d1 : 0 ≤ ab x - 1 ∧ ab x - 1 < (now.length : Int) := by omega
    have g3 : now[(ab x - 1).toNat]? = some (now.getD (ab x - 1).toNat 0) := getD_some (by omega) rfl
    have k3 := enc_get g3
    have et : (((ab x - 1).toNat : Nat) : Int) = ab x - 1 := by omega
    rw [et] at k3
    have hv := ho.get (ab x - 1).toNat
    have w2 : wrap64 (0 - now.getD (ab x - 1).toNat 0) = -(now.getD (ab x - 1).toNat 0) := by rw [w64 (by omega)]; omega
    have w3 : wrap64 (many + 1) = many + 1 := w64 (by omega)
    have en : wrap64 ((pre.length : Int) + 1) = ((pre ++ [x]).length : Int) := by rw [w64 (by omega)]; simp
    have ea : (hs || anyP now (x :: r)) = ((hs || decide (sg now x > 0)) || anyP now r) := by simp [anyP, Bool.or_assoc]
    rw [ea] at hr
    have ecn : many + cnt now (x :: r) = (if sg now x = 0 then many + 1 else many) + cnt now r := by simp only [cnt]; split <;> omega
    rw [ecn] at hr
    have eo : opn now (x :: r) op = opn now r (if sg now x = 0 then x else op) := rfl
    rw [eo] at hr
    have ih := n26a g hk hc hl hm ho r (pre ++ [x]) (if sg now x = 0 then x else op) (if sg now x = 0 then many + 1 else many) (hs || decide (sg now x > 0)) (by rw [hp]; simp) (by split <;> omega) (by simp only [List.length_append, List.length_singleton]; split <;> omega)
      (by by_cases e : sg now x = 0
          · rw [if_pos e, if_pos e]; exact .inr ⟨bx.1, bx.2, hx.1, hx.2⟩
          · rw [if_neg e, if_neg e]; exact hop) hr
    refine orc_of ?_
    rw [e26n10]
    simp only [cor, wr64, beq_dec]
    simp only [gd1, hd1, tl1, dr0, dr1, dr2, dr3, dr4, dr5, dr6, bo1, in1, st1, ls1, le1, pt1, fi1, fb1, fs1, ct1, cf1, nt1, nf1, ak0, akT, akF, cdec, cndec, cbeq, cnbeq, ↓reduceIte, beq_self_eq_true, Int.reduceBEq, Int.reduceEq, Bool.and_true, Bool.true_and, Bool.false_and, Bool.and_false, encC_len, c1, and_self, k1, tm_lst, enc_len, c2, c0, k2, h39, w1, d1, k3, w2, w3, en]
    unfold sg at ih
    by_cases hneg : x < 0
    · simp only [if_pos hneg] at ih
      simp only [hneg, if_true]
      by_cases e : -(now.getD (ab x - 1).toNat 0) = 0
      · rw [if_pos e, if_pos e] at ih
        rw [if_pos e]; exact ih
      · rw [if_neg e, if_neg e] at ih
        rw [if_neg e]; exact ih
    · simp only [if_neg hneg] at ih
      simp only [hneg, if_false]
      by_cases e : now.getD (ab x - 1).toNat 0 = 0
      · rw [if_pos e, if_pos e] at ih
        rw [if_pos e]; exact ih
      · rw [if_neg e, if_neg e] at ih
        rw [if_neg e]; exact ih

theorem n26b (hn : cl.length ≤ 900) (hw : ∀ c ∈ cl, c.length ≤ 1000 ∧ Lits m c) (hm : m ≤ 1000) : ∀ (cls pre : List (List Int)) (now : List Int) (ag : Bool) {R : List T}, cl = pre ++ cls → Ok m now →
    (match unitF cls now ag with
      | none => some [tb false]
      | some p => Or K26n3 [r0, o1, B p.2] (b26 n ec eb cl p.1)) = some R →
    Or K26n6 [r0, o1, B ag, I (pre.length : Int)] (b26 n ec eb cl now) = some R
  | [], pre, now, ag, R, hp, ho, hr => by
    rw [List.append_nil] at hp
    have c : ¬ (pre.length : Int) < (cl.length : Int) := by rw [hp]; omega
    refine orc_of ?_
    rw [e26n6]
    simp only [gd1, hd1, tl1, dr0, dr1, dr2, dr3, dr4, dr5, dr6, bo1, in1, st1, ls1, le1, pt1, fi1, fb1, fs1, ct1, cf1, nt1, nf1, ak0, akT, akF, cdec, cndec, cbeq, cnbeq, ↓reduceIte, beq_self_eq_true, Int.reduceBEq, Int.reduceEq, Bool.and_true, Bool.true_and, Bool.false_and, Bool.and_false, encC_len, c]
    exact hr
  | c :: r, pre, now, ag, R, hp, ho, hr => by
    have hl : cl.length = pre.length + (r.length + 1) := by rw [hp]; simp
    have g : cl[pre.length]? = some c := by rw [hp]; simp
    have c1 : (pre.length : Int) < (cl.length : Int) := by omega
    have hc := hw c (by rw [hp]; simp)
    have el : (pre ++ [c]).length = pre.length + 1 := by simp
    simp only [unitF] at hr
    have key : Or K26n10 [r0, o1, B ag, I (pre.length : Int), I 0, I 0, B false, I 0] (b26 n ec eb cl now) = some R := by
      refine n26a g (by omega) hc.1 hc.2 hm ho c [] 0 0 false rfl (by omega) (by simp) (.inl rfl) ?_
      rw [Bool.false_or, Int.zero_add]
      by_cases h1 : (anyP now c || decide (cnt now c > 1)) = true
      · rw [if_pos h1] at hr ⊢
        have := n26b hn hw hm r (pre ++ [c]) now ag (by rw [hp]; simp) ho hr
        rw [el] at this; exact this
      · rw [if_neg h1] at hr ⊢
        by_cases h2 : cnt now c = 0
        · rw [if_pos h2] at hr ⊢
          exact hr
        · rw [if_neg h2] at hr ⊢
          have := n26b hn hw hm r (pre ++ [c]) (setU now (opn now c 0)) true (by rw [hp]; simp) (ho.set _ (by split <;> omega)) hr
          rw [el] at this; exact this
    refine orc_of ?_
    rw [e26n6]
    simp only [gd1, hd1, tl1, dr0, dr1, dr2, dr3, dr4, dr5, dr6, bo1, in1, st1, ls1, le1, pt1, fi1, fb1, fs1, ct1, cf1, nt1, nf1, ak0, akT, akF, cdec, cndec, cbeq, cnbeq, ↓reduceIte, beq_self_eq_true, Int.reduceBEq, Int.reduceEq, Bool.and_true, Bool.true_and, Bool.false_and, Bool.and_false, encC_len, c1]
    exact key

open Classical in
noncomputable def md (cl : List (List Int)) (now : List Int) : Bool := decide (Mod cl now)
theorem md_iff {cl : List (List Int)} {a b : List Int} (h : Mod cl a ↔ Mod cl b) : md cl a = md cl b := by
  unfold md
  by_cases c : Mod cl a
  · have := h.1 c; simp [c, this]
  · have c2 : ¬ Mod cl b := fun e => c (h.2 e)
    simp [c, c2]
theorem md_false {cl : List (List Int)} {a : List Int} (h : ¬ Mod cl a) : md cl a = false := by unfold md; simp [h]
theorem md_true {cl : List (List Int)} {a : List Int} (h : Mod cl a) : md cl a = true := by unfold md; simp [h]
theorem split_or {cl : List (List Int)} {now : List Int} {k : Nat} (hk : now.getD k 0 = 0) (hlt : k < now.length) : Mod cl now ↔ (Mod cl (now.set k 1) ∨ Mod cl (now.set k (-1))) := by
  constructor
  · rintro ⟨g, ha, hs⟩
    cases hg : g ((k : Int) + 1) with
    | true =>
      refine .inl ⟨g, fun v hv => ?_, hs⟩
      rw [getD_set]
      by_cases e : k = v ∧ v < now.length
      · rw [if_pos e, ← e.1]; exact ⟨fun _ => hg, fun h => by omega⟩
      · rw [if_neg e]; exact ha v (by simpa using hv)
    | false =>
      refine .inr ⟨g, fun v hv => ?_, hs⟩
      rw [getD_set]
      by_cases e : k = v ∧ v < now.length
      · rw [if_pos e, ← e.1]; exact ⟨fun h => by omega, fun _ => hg⟩
      · rw [if_neg e]; exact ha v (by simpa using hv)
  · have back : ∀ y : Int, Mod cl (now.set k y) → Mod cl now := by
      rintro y ⟨g, ha, hs⟩
      refine ⟨g, fun v hv => ?_, hs⟩
      have := ha v (by simpa using hv)
      rw [getD_set] at this
      by_cases e : k = v ∧ v < now.length
      · rw [← e.1, hk]; exact ⟨fun h => by omega, fun h => by omega⟩
      · rw [if_neg e] at this; exact this
    rintro (h | h) <;> exact back _ h
theorem all_told {now : List Int} (ho : Ok m now) (hw : ∀ c ∈ cl, Lits m c) (hz : ∀ x ∈ now, x ≠ 0) (hh : ∀ c ∈ cl, (anyP now c || decide (cnt now c > 1)) = true) : Mod cl now := by
  refine ⟨fun v => decide (now.getD (v - 1).toNat 0 = 1), fun v hv => ?_, fun c hc => ?_⟩
  · have : ((v : Int) + 1 - 1).toNat = v := by omega
    try dsimp only
    rw [this]
    exact ⟨fun h => by rw [h]; rfl, fun h => by rw [h]; rfl⟩
  · have hcnt : cnt now c = 0 := by
      have : ∀ d : List Int, Lits m d → cnt now d = 0 := by
        intro d
        induction d with
        | nil => intro _; rfl
        | cons x r ih =>
          intro hd
          have hx := hd x (List.mem_cons_self ..)
          have hne : sg now x ≠ 0 := by
            intro e
            have e2 := sg_zero e
            have := getD_some (l := now) (i := (ab x - 1).toNat) (by rw [ho.len]; omega) e2
            exact hz 0 (List.mem_of_getElem? this) rfl
          simp only [cnt, if_neg hne, ih fun y hy => hd y (List.mem_cons_of_mem _ hy)]; rfl
      exact this c (hw c hc)
    have h1 := hh c hc
    rw [hcnt] at h1
    have : anyP now c = true := by simpa using h1
    obtain ⟨x, hx, hp⟩ := List.any_eq_true.1 this
    have hp : sg now x > 0 := by simpa using hp
    have hb := sg_bd ho x
    refine ⟨x, hx, (sg_lit ho (fun v hv => ?_) (hw c hc x hx)).1 (by omega)⟩
    have : ((v : Int) + 1 - 1).toNat = v := by omega
    try dsimp only
    rw [this]
    exact ⟨fun h => by rw [h]; rfl, fun h => by rw [h]; rfl⟩

theorem n26c {now : List Int} (hm : m ≤ 1000) (ho : Ok m now) (hw : ∀ c ∈ cl, Lits m c) (hh : ∀ c ∈ cl, (anyP now c || decide (cnt now c > 1)) = true)
    (hrec : ∀ (now' : List Int) (e : Bool), Ok m now' → zs now' < zs now → Or (.call 26) [AV.agg [I n, AV.t (T.lst 1 ec (encC cl))], AV.t (T.lst 1 e (enc now'))] [] = some [tb (md cl now')]) :
    ∀ (suf pre : List Int), now = pre ++ suf → (∀ x ∈ pre, x ≠ 0) → Or K26n28 [r0, o1, I (pre.length : Int)] (b26 n ec eb cl now) = some [tb (md cl now)]
  | [], pre, hp, hz => by
    rw [List.append_nil] at hp
    have c : ¬ (pre.length : Int) < (now.length : Int) := by rw [hp]; omega
    have := md_true (all_told ho hw (by rw [hp]; exact hz) hh)
    refine orc_of ?_
    rw [e26n28, this]
    simp only [gd1, hd1, tl1, dr0, dr1, dr2, dr3, dr4, dr5, dr6, bo1, in1, st1, ls1, le1, pt1, fi1, fb1, fs1, ct1, cf1, nt1, nf1, ak0, akT, akF, cdec, cndec, cbeq, cnbeq, ↓reduceIte, beq_self_eq_true, Int.reduceBEq, Int.reduceEq, Bool.and_true, Bool.true_and, Bool.false_and, Bool.and_false, enc_len, c]
  | x :: r, pre, hp, hz => by
    have hlen := ho.len
    have hl : now.length = pre.length + (r.length + 1) := by rw [hp]; simp
    have g : now[pre.length]? = some x := by rw [hp]; simp
    have k := enc_get g
    have c1 : (pre.length : Int) < (now.length : Int) := by omega
    have c0 : 0 ≤ (pre.length : Int) := by omega
    have en : wrap64 ((pre.length : Int) + 1) = ((pre ++ [x]).length : Int) := by rw [w64 (by omega)]; simp
    by_cases hx : x = 0
    · subst hx
      have h1 := zs_set (l := now) (i := pre.length) (y := 1) g (by omega)
      have h2 := zs_set (l := now) (i := pre.length) (y := -1) g (by omega)
      have q1 := hrec (now.set pre.length 1) (enc now).isEmpty (ho.set _ (by omega)) (by omega)
      have q2 := hrec (now.set pre.length (-1)) eb (ho.set _ (by omega)) (by omega)
      have s1 := enc_set (l := now) (i := pre.length) (by omega) 1
      have s2 := enc_set (l := now) (i := pre.length) (by omega) (-1)
      have hs : small 8 now.length = some () := small_ok (by omega)
      have hg : now.getD pre.length 0 = 0 := by rw [List.getD_eq_getElem?_getD, g]; rfl
      have hsp := split_or (cl := cl) hg (by omega)
      have hres : md cl now = (md cl (now.set pre.length 1) || md cl (now.set pre.length (-1))) := by
        unfold md
        by_cases e1 : Mod cl (now.set pre.length 1) <;> by_cases e2 : Mod cl (now.set pre.length (-1)) <;> simp [hsp, e1, e2]
      refine orc_of ?_
      rw [e26n28, hres]
      simp only [beq_dec]
      cases hb : md cl (now.set pre.length 1) with
      | true =>
        rw [hb] at q1
        simp only [gd1, hd1, tl1, dr0, dr1, dr2, dr3, dr4, dr5, dr6, bo1, in1, st1, ls1, le1, pt1, fi1, fb1, fs1, ct1, cf1, nt1, nf1, ak0, akT, akF, cdec, cndec, cbeq, cnbeq, ↓reduceIte, beq_self_eq_true, Int.reduceBEq, Int.reduceEq, Bool.and_true, Bool.true_and, Bool.false_and, Bool.and_false, enc_len, c1, c0, and_self, k, decide_true, hs, s1, q1, Bool.true_or]
      | false =>
        rw [hb] at q1
        simp only [gd1, hd1, tl1, dr0, dr1, dr2, dr3, dr4, dr5, dr6, bo1, in1, st1, ls1, le1, pt1, fi1, fb1, fs1, ct1, cf1, nt1, nf1, ak0, akT, akF, cdec, cndec, cbeq, cnbeq, ↓reduceIte, beq_self_eq_true, Int.reduceBEq, Int.reduceEq, Bool.and_true, Bool.true_and, Bool.false_and, Bool.and_false, enc_len, c1, c0, and_self, k, decide_true, hs, s1, q1, s2, q2, Bool.false_or]
    · have ih := n26c hm ho hw hh hrec r (pre ++ [x]) (by rw [hp]; simp) (fun y hy => by
        rcases List.mem_append.1 hy with hy | hy
        · exact hz y hy
        · simp at hy; subst hy; exact hx)
      refine orc_of ?_
      rw [e26n28]
      simp only [wr64, beq_dec]
      simp only [gd1, hd1, tl1, dr0, dr1, dr2, dr3, dr4, dr5, dr6, bo1, in1, st1, ls1, le1, pt1, fi1, fb1, fs1, ct1, cf1, nt1, nf1, ak0, akT, akF, cdec, cndec, cbeq, cnbeq, ↓reduceIte, beq_self_eq_true, Int.reduceBEq, Int.reduceEq, Bool.and_true, Bool.true_and, Bool.false_and, Bool.and_false, enc_len, c1, c0, and_self, k, decide_false, hx, en]
      exact ih

theorem n26 (hn : cl.length ≤ 900) (hw : ∀ c ∈ cl, c.length ≤ 1000 ∧ Lits m c) (hm : m ≤ 1000) : ∀ (z : Nat) (now : List Int) (eb : Bool), zs now ≤ z → Ok m now → Or K26n3 [r0, o1, B true] (b26 n ec eb cl now) = some [tb (md cl now)] := by
  intro z
  induction z with
  | zero =>
    intro now eb hz ho
    refine orc_of ?_
    rw [e26n3, ct1]
    refine n26b hn hw hm cl [] now false rfl ho ?_
    cases hu : unitF cl now false with
    | none => simp only; rw [md_false (unit_none (fun c hc => (hw c hc).2) cl now false (fun c h => h) ho hu)]
    | some p =>
      obtain ⟨now', ag'⟩ := p
      obtain ⟨a1, a2, a3, a4, a5⟩ := unit_some (fun c hc => (hw c hc).2) cl now now' false ag' (fun c h => h) ho hu
      cases ag' with
      | true => exfalso; rcases a3 rfl with h | h; cases h; omega
      | false =>
        obtain ⟨rfl, a6⟩ := a5 rfl
        simp only
        refine orc_of ?_
        rw [e26n3, cf1]
        exact n26c hm ho (fun c hc => (hw c hc).2) a6 (fun now' e _ h => by omega) now' [] rfl (by simp)
  | succ z ih =>
    intro now eb hz ho
    refine orc_of ?_
    rw [e26n3, ct1]
    refine n26b hn hw hm cl [] now false rfl ho ?_
    cases hu : unitF cl now false with
    | none => simp only; rw [md_false (unit_none (fun c hc => (hw c hc).2) cl now false (fun c h => h) ho hu)]
    | some p =>
      obtain ⟨now', ag'⟩ := p
      obtain ⟨a1, a2, a3, a4, a5⟩ := unit_some (fun c hc => (hw c hc).2) cl now now' false ag' (fun c h => h) ho hu
      cases ag' with
      | true =>
        have : zs now' < zs now := (a3 rfl).resolve_left (by simp)
        simp only
        rw [ih now' eb (by omega) a1, md_iff a2]
      | false =>
        obtain ⟨rfl, a6⟩ := a5 rfl
        simp only
        refine orc_of ?_
        rw [e26n3, cf1]
        refine n26c hm ho (fun c hc => (hw c hc).2) a6 (fun now2 e ho2 h => ?_) now' [] rfl (by simp)
        have hs : small 8 (enc now2).length = some () := small_ok (by rw [enc_len, ho2.len]; omega)
        refine orc_of ?_
        rw [e26]
        simp only [gd1, hd1, tl1, dr0, dr1, dr2, dr3, dr4, dr5, dr6, bo1, in1, st1, ls1, le1, pt1, fi1, fb1, fs1, ct1, cf1, nt1, nf1, ak0, akT, akF, cdec, cndec, cbeq, cnbeq, ↓reduceIte, beq_self_eq_true, Int.reduceBEq, Int.reduceEq, Bool.and_true, Bool.true_and, Bool.false_and, Bool.and_false, hs]
        exact ih now2 (enc now2).isEmpty (by omega) ho2
theorem s26 {now : List Int} (e : Bool) (hn : cl.length ≤ 900) (hw : ∀ c ∈ cl, c.length ≤ 1000 ∧ Lits m c) (hm : m ≤ 1000) (ho : Ok m now) : Or (.call 26) [AV.agg [I n, AV.t (T.lst 1 ec (encC cl))], AV.t (T.lst 1 e (enc now))] [] = some [tb (md cl now)] := by
  have hs : small 8 (enc now).length = some () := small_ok (by rw [enc_len, ho.len]; omega)
  refine orc_of ?_
  rw [e26]
  simp only [gd1, hd1, tl1, dr0, dr1, dr2, dr3, dr4, dr5, dr6, bo1, in1, st1, ls1, le1, pt1, fi1, fb1, fs1, ct1, cf1, nt1, nf1, ak0, akT, akF, cdec, cndec, cbeq, cnbeq, ↓reduceIte, beq_self_eq_true, Int.reduceBEq, Int.reduceEq, Bool.and_true, Bool.true_and, Bool.false_and, Bool.and_false, hs]
  exact n26 hn hw hm _ now (enc now).isEmpty (Nat.le_refl _) ho
end
end Go.Aev.Gen
