import Derived.Test.YtobpninhnmmpeaaGreatAwayUpQ9
import Derived.Test.YtobpninhnmmpeaaGreatAwayUpQ4
import Derived.Test.YtobpninhnmmpeaaGreatAwayUpQ5
import Derived.Test.YtobpninhnmmpeaaGreatAwayUpQ8
set_option linter.unusedSimpArgs false
set_option linter.unusedVariables false
namespace Go.Aev.Gen
open Go Go.Aev

abbrev C := List Int × Int × Int
def cG (a b : Bn) (k : Nat) : Nat := Nat.gcd (a.of.getD k 0).natAbs (-(b.of.getD k 0)).natAbs
def cP (a b : Bn) (k : Nat) : Int := a.of.getD k 0 / (cG a b k : Int)
def cQ (a b : Bn) (k : Nat) : Int := -(b.of.getD k 0) / (cG a b k : Int)
def cL (a b : Bn) (k : Nat) : List Int := List.zipWith (fun x y => cQ a b k * x + cP a b k * y) a.of b.of
def cT (a b : Bn) (k : Nat) : Int := cQ a b k * a.to + cP a b k * b.to
def cKd (a b : Bn) : Int := if a.less || b.less then 2 else 1
def cC (a b : Bn) (k : Nat) : C := (mixL (cL a b k) (cT a b k), cKd a b, mixT (cL a b k) (cKd a b) (cT a b k))
def cOk (a b : Bn) (k : Nat) : Bool := mixK (cL a b k) (cT a b k)
def innF (k : Nat) (a : Bn) : List Bn → List C → Int × List C
  | [], acc => (0, acc)
  | b :: r, acc => if a.frm = b.frm then innF k a r acc else if cOk a b k = false then (10, []) else if acc.length + 1 > 40 then (2, []) else innF k a r (acc ++ [cC a b k])
def outF (k : Nat) (ls : List Bn) : List Bn → List C → Int × List C
  | [], acc => (0, acc)
  | a :: r, acc => if (innF k a ls acc).1 = 0 then outF k ls r (innF k a ls acc).2 else innF k a ls acc
def tidyC (r : R) : C := ((tidyF r.of r.kd r.tv).1, r.kd, (tidyF r.of r.kd r.tv).2)
def firsts (k : Nat) : List R → List C
  | [] => []
  | r :: rs => if r.of.getD k 0 = 0 then tidyC r :: firsts k rs else firsts k rs
structure OkB (n k : Nat) (b : Bn) : Prop where
  len : b.of.length = n
  of : Bd 1000000 b.of
  to : -1000000 ≤ b.to ∧ b.to ≤ 1000000
structure Up (n k : Nat) (b : Bn) : Prop extends OkB n k b where
  at' : b.of.getD k 0 > 0
structure Dn (n k : Nat) (b : Bn) : Prop extends OkB n k b where
  at' : b.of.getD k 0 < 0
theorem zip_bd {f : Int → Int → Int} {A : Int} : ∀ {x y : List Int}, (∀ a ∈ x, ∀ b ∈ y, -A ≤ f a b ∧ f a b ≤ A) → Bd A (List.zipWith f x y)
  | [], _, _ => by intro z hz; simp at hz
  | _ :: _, [], _ => by intro z hz; simp at hz
  | a :: x, b :: y, h => by
    intro z hz
    rw [List.zipWith_cons_cons] at hz
    rcases List.mem_cons.1 hz with rfl | hz
    · exact h a List.mem_cons_self b List.mem_cons_self
    · exact zip_bd (fun a ha b hb => h a (List.mem_cons_of_mem _ ha) b (List.mem_cons_of_mem _ hb)) z hz
theorem at_bd {b : Int} {l : List Int} {k : Nat} (h : Bd b l) (hb : 0 ≤ b) : -b ≤ l.getD k 0 ∧ l.getD k 0 ≤ b := by
  by_cases hk : k < l.length
  · exact h _ (List.mem_of_getElem? (getD_get hk))
  · rw [List.getD_eq_getElem?_getD, List.getElem?_eq_none (by omega)]; simp; omega
theorem pq {n k : Nat} {a b : Bn} (ha : Up n k a) (hb : Dn n k b) : 0 < (cG a b k : Int) ∧ (-1000000 ≤ cP a b k ∧ cP a b k ≤ 1000000) ∧ (-1000000 ≤ cQ a b k ∧ cQ a b k ≤ 1000000) := by
  have h1 := ha.at'
  have h2 := hb.at'
  have b1 := at_bd (k := k) ha.of (by omega)
  have b2 := at_bd (k := k) hb.of (by omega)
  have hg : 0 < cG a b k := Nat.gcd_pos_of_pos_left _ (by omega)
  have hg' : 0 < (cG a b k : Int) := by omega
  exact ⟨hg', div_bd hg' b1 (by omega), div_bd hg' (by omega) (by omega)⟩
theorem n18 (a b : Bn) (B2 : Blk) (k : Nat) (P Q : Int) (e2 : Bool) (n : Nat) (hn : n ≤ 12) (hP : -1000000 ≤ P ∧ P ≤ 1000000) (hQ : -1000000 ≤ Q ∧ Q ≤ 1000000) (ha : OkB n k a) (hb : OkB n k b)
    (h2 : B2 = Blk.box [AV.t (T.emp e2), I 0, I 0]) (e' : Bool) (L : List Int) (kd tv : Int) (ok : Bool) (full : List Int)
    (h42 : Or (.call 84) [lst false full, I (Q * a.to + P * b.to), B (a.less || b.less)] [] = some [T.lst 1 e' (enc L), ti kd, ti tv, tb ok]) : ∀ (ar br done : List Int), a.of.drop done.length = ar → b.of.drop done.length = br → full = done ++ List.zipWith (fun x y => Q * x + P * y) ar br →
    Or K18n6 [r0, AV.ref (Id.c 1) 0, AV.ref (Id.c 2) 0, I P, I Q, AV.own (Id.c 3), I (n : Int), I (done.length : Int)] [Blk.box [lst a.e a.of, I a.to, B a.less, I a.frm], Blk.box [lst b.e b.of, I b.to, B b.less, I b.frm], B2, Blk.sl false 1 false (enc (done ++ List.replicate ar.length 0))] =
      some [T.lst 1 e' (enc L), ti kd, ti tv, tb ok] := by
  subst h2
  intro ar
  induction ar with
  | nil =>
    intro br done h1 h2 hf
    have hle := at_end h1
    have hla := ha.len
    have hx : ¬ (done.length : Int) < (n : Int) := by omega
    have hw1 := mulb hQ ha.to
    have hw2 := mulb hP hb.to
    simp only [List.zipWith_nil_left, List.append_nil] at hf
    subst hf
    refine orc_of ?_
    rw [e18n6]
    simp only [cor]
    simp only [STL, ↓reduceIte, Int.reduceBEq, Int.reduceEq, hx, wr (v := Q * a.to) (by omega), wr (v := P * b.to) (by omega), wr (v := Q * a.to + P * b.to) (by omega), List.length_nil, List.replicate_zero, List.append_nil, h42]
  | cons x ar ih =>
    intro br done h1 h2 hf
    obtain ⟨g1, g2, g3⟩ := at_drop h1
    have hla := ha.len
    have hlb := hb.len
    obtain ⟨y, br', rfl⟩ : ∃ y br', br = y :: br' := by
      cases br with
      | nil => have := at_end h2; omega
      | cons y br' => exact ⟨y, br', rfl⟩
    obtain ⟨f1, f2, f3⟩ := at_drop h2
    have hlt : (done.length : Int) < (n : Int) := by omega
    have hlta : (done.length : Int) < (a.of.length : Int) := by omega
    have hltb : (done.length : Int) < (b.of.length : Int) := by omega
    have h0 : 0 ≤ (done.length : Int) := by omega
    have hx := ha.of x (List.mem_of_getElem? g1)
    have hy := hb.of y (List.mem_of_getElem? f1)
    have hw1 := mulb hQ hx
    have hw2 := mulb hP hy
    have hst : storeIn (done.length : Int).toNat 0 [ti (Q * x + P * y)] (enc (done ++ List.replicate (x :: ar).length 0)) = some (enc ((done ++ [Q * x + P * y]) ++ List.replicate ar.length 0)) := by
      rw [List.length_cons, List.replicate_succ, enc_set (by simp), set_mid _ _ _ _ _ rfl]; simp
    have hl3 : (done.length : Int) < ((done ++ List.replicate (x :: ar).length 0).length : Int) := by simp; omega
    have hn1 : (done ++ [Q * x + P * y]).length = done.length + 1 := by simp
    have := ih br' (done ++ [Q * x + P * y]) (by rw [hn1]; exact g3) (by rw [hn1]; exact f3) (by rw [hf]; simp)
    rw [hn1] at this
    refine orc_of ?_
    rw [e18n6]
    simp only [STL, ↓reduceIte, Int.reduceBEq, Int.reduceEq, hlt, hlta, hltb, hl3, h0, and_self, enc_len, enc_get g1, enc_get f1, wr (v := Q * x) (by omega), wr (v := P * y) (by omega), wr (v := Q * x + P * y) (by omega), hst, next done.length (by omega)]
    exact this
theorem s18 (a b : Bn) (n k : Nat) (hn : n ≤ 12) (hk : k < n) (ha : Up n k a) (hb : Dn n k b) :
    ∃ e', (e' = true → (cC a b k).1 = []) ∧ Or (.call 39) [AV.agg [lst a.e a.of, I a.to, B a.less, I a.frm], AV.agg [lst b.e b.of, I b.to, B b.less, I b.frm], I (k : Int)] [] =
      some [T.lst 1 e' (enc (cC a b k).1), ti (cC a b k).2.1, ti (cC a b k).2.2, tb (cOk a b k)] := by
  obtain ⟨hg, hP, hQ⟩ := pq ha hb
  have hla := ha.len
  have hlb := hb.len
  have h1 := ha.at'
  have h2 := hb.at'
  have b1 := at_bd (k := k) ha.of (by omega)
  have b2 := at_bd (k := k) hb.of (by omega)
  have hgn : ¬ (cG a b k : Int) = 0 := by omega
  have k1 := s41 (a.of.getD k 0) (-(b.of.getD k 0)) (by omega) (by omega)
  have dv1 : (cG a b k : Int) ∣ a.of.getD k 0 := Int.ofNat_dvd_left.2 (Nat.gcd_dvd_left _ _)
  have dv2 : (cG a b k : Int) ∣ -(b.of.getD k 0) := Int.ofNat_dvd_left.2 (Nat.gcd_dvd_right _ _)
  have t1 := mulb hQ ha.to
  have t2 := mulb hP hb.to
  obtain ⟨e', k2e, k2⟩ := s42 false (cL a b k) (cT a b k) (a.less || b.less) (zip_bd fun x hx y hy => by
      have := mulb hQ (ha.of x hx)
      have := mulb hP (hb.of y hy)
      omega) (by simp [cL]; omega) (by unfold cT; omega)
  have k3 := n18 a b _ k (cP a b k) (cQ a b k) true n hn hP hQ ha.toOkB hb.toOkB rfl e' _ _ _ _ (cL a b k) k2 a.of b.of [] rfl rfl rfl
  refine ⟨e', k2e, orc_of ?_⟩
  rw [e18]
  have ka : 0 ≤ (k : Int) ∧ (k : Int) < (a.of.length : Int) := by omega
  have kb : 0 ≤ (k : Int) ∧ (k : Int) < (b.of.length : Int) := by omega
  have hga := enc_get (getD_get (l := a.of) (k := k) (by omega))
  have hgb := enc_get (getD_get (l := b.of) (k := k) (by omega))
  have hw : IntKind.i64.wrap (0 - b.of.getD k 0) = -(b.of.getD k 0) := by rw [wr (by omega)]; omega
  have hmk : mkOk (a.of.length : Int) (a.of.length : Int) = some () := by unfold mkOk; rw [if_pos (by unfold lim; omega)]
  have hGG : ((Nat.gcd (a.of.getD k 0).natAbs (-(b.of.getD k 0)).natAbs : Nat) : Int) = (cG a b k : Int) := rfl
  have hpp : a.of.getD k 0 / (cG a b k : Int) = cP a b k := rfl
  have hqq : -(b.of.getD k 0) / (cG a b k : Int) = cQ a b k := rfl
  have hrep : List.replicate (a.of.length : Int).toNat [ti 0] = enc (List.replicate a.of.length 0) := by simp [enc]
  have hrl : ((enc (List.replicate a.of.length 0)).length : Int) = (n : Int) := by simp [enc]; omega
  rw [hGG] at k1
  simp only [STL, ↓reduceIte, Int.reduceBEq, Int.reduceEq, enc_len, ka, kb, and_self, hga, hgb, hw, k1, hgn, hmk, tdiv_dvd dv1, tdiv_dvd dv2, hpp, hqq, wr (v := cP a b k) (by omega), wr (v := cQ a b k) (by omega), hrep]
  simp only [enc_len, List.length_replicate, hla]
  simp only [List.nil_append, hla, List.length_nil] at k3
  exact k3
open Go Go.Aev

/-- The same, and the rows' lists are nil only where they are empty. -/
def EOk (l : List R) : Prop := ∀ r ∈ l, r.e = true → r.of = []
theorem eok_nil : EOk [] := fun r h => by cases h
theorem eok_app {l : List R} {r : R} (h : EOk l) (h' : r.e = true → r.of = []) : EOk (l ++ [r]) := by
  intro q hq
  rcases List.mem_append.1 hq with hq | hq
  · exact h q hq
  · rw [List.mem_singleton.1 hq]; exact h'
def AnsE (o : Option (List T)) (m : Int × List C) : Prop := ∃ x e rs, o = some [x, ti m.1, ti 0] ∧ x.lst? 3 = some (e, eRs rs) ∧ rs.map toC = m.2 ∧ EOk rs
theorem ansE_of {k : Key} {vs : List AV} {bs : List Blk} {m : Int × List C} (h : AnsE (stepO PROG ann Or k vs bs) m) : AnsE (Or k vs bs) m := by
  obtain ⟨x, e, rs, h1, h2, h3, h4⟩ := h
  exact ⟨x, e, rs, orc_of h1, h2, h3, h4⟩
theorem ansE_lst {e : Bool} {rs : List R} {m : Int × List C} (h : (0, rs.map toC) = m) (h4 : EOk rs) : AnsE (some [T.lst 3 e (eRs rs), ti 0, ti 0]) m := by
  subst h; exact ⟨_, e, rs, rfl, ls1 _ _ _, rfl, h4⟩
theorem ansE_emp {c : Int} {m : Int × List C} (h : (c, []) = m) : AnsE (some [T.emp true, ti c, ti 0]) m := by
  subst h; exact ⟨_, true, [], rfl, le1 _ _, rfl, eok_nil⟩
abbrev AB (e : Bool) (l : List Bn) : AV := AV.t (T.lst 4 e (eBs l))
abbrev bF : Blk := Blk.box [I 0, I 0]
abbrev SR (e : Bool) (l : List R) : Blk := Blk.sl false 3 e (eRs l)
theorem n617 (n k : Nat) (hn : n ≤ 12) (hk : k < n) (hs ls : List Bn) (eh el : Bool) (a : Bn) (i : Nat) (ha : Up n k a) (hls : ∀ b ∈ ls, Dn n k b) (hll : ls.length ≤ 40) (M : Int × List C) :
    ∀ (rest : List Bn) (j : Nat) (acc : List R) (ea : Bool), ls.drop j = rest → acc.length ≤ 40 → i ≤ 40 → EOk acc →
    (∀ acc' ea', innF k a rest (acc.map toC) = (0, acc'.map toC) → acc'.length ≤ 40 → EOk acc' → AnsE (Or K6n14 [I (k : Int), r0, o1, AB el ls, AB eh hs, I (hs.length : Int), I ((i + 1 : Nat) : Int)] [bF, SR ea' acc']) M) →
    ((innF k a rest (acc.map toC)).1 ≠ 0 → M = innF k a rest (acc.map toC)) →
    AnsE (Or K6n17 [I (k : Int), r0, o1, AB el ls, AV.ref (Id.c 2) 0, AB eh hs, I (hs.length : Int), I (i : Int), AB el ls, I (ls.length : Int), I (j : Int)] [bF, SR ea acc, Blk.box [lst a.e a.of, I a.to, B a.less, I a.frm]]) M := by
  intro rest
  induction rest with
  | nil =>
    intro j acc ea h hl hi he hnext hbad
    have h1 : ¬ (j : Int) < (ls.length : Int) := by have := at_end h; omega
    refine ansE_of ?_
    rw [e6n17]
    simp only [STL, ↓reduceIte, Int.reduceBEq, Int.reduceEq, h1, next i (by omega)]
    exact hnext acc ea rfl hl he
  | cons b rest ih =>
    intro j acc ea h hl hi he hnext hbad
    obtain ⟨g1, g2, g3⟩ := at_drop h
    have h1 : (j : Int) < (ls.length : Int) := by omega
    have h0 : 0 ≤ (j : Int) := by omega
    have hb := hls b (List.mem_of_getElem? g1)
    rw [innF] at hnext hbad
    by_cases hf : a.frm = b.frm
    · rw [if_pos hf] at hnext hbad
      have := ih (j + 1) acc ea g3 hl hi he hnext hbad
      refine ansE_of ?_
      rw [e6n17]
      simp only [STL, ↓reduceIte, Int.reduceBEq, Int.reduceEq, h1, h0, and_self, eBs_len, eBs_get g1, hf, next j (by omega)]
      rw [hf] at this
      exact this
    · rw [if_neg hf] at hnext hbad
      obtain ⟨e', k1e, k1⟩ := s18 a b n k hn hk ha hb
      by_cases ho : cOk a b k = false
      · rw [if_pos ho] at hbad
        refine ansE_of ?_
        rw [e6n17]
        simp only [STL, ↓reduceIte, Int.reduceBEq, Int.reduceEq, h1, h0, and_self, eBs_len, eBs_get g1, hf, k1, ho]
        exact ansE_emp (hbad (by simp)).symm
      · rw [if_neg ho] at hnext hbad
        have ho' : cOk a b k = true := by simpa using ho
        have hsm : small 40 (acc.length + [eR ⟨e', (cC a b k).1, (cC a b k).2.1, (cC a b k).2.2⟩].length) = some () := small_ok (by simp; omega)
        have happ : eRs acc ++ [eR ⟨e', (cC a b k).1, (cC a b k).2.1, (cC a b k).2.2⟩] = eRs (acc ++ [⟨e', (cC a b k).1, (cC a b k).2.1, (cC a b k).2.2⟩]) := by simp [eRs]
        have hlen : ((acc ++ [⟨e', (cC a b k).1, (cC a b k).2.1, (cC a b k).2.2⟩] : List R).length : Int) = (acc.length : Int) + 1 := by simp
        unfold eR at hsm happ
        rw [List.length_map] at hnext hbad
        by_cases hc : acc.length + 1 > 40
        · rw [if_pos hc] at hbad
          have hc' : (acc.length : Int) + 1 > 40 := by omega
          refine ansE_of ?_
          rw [e6n17]
          simp only [STL, ↓reduceIte, Int.reduceBEq, Int.reduceEq, h1, h0, and_self, eBs_len, eBs_get g1, hf, k1, ho', hsm, happ, eRs_len, hlen, hc']
          exact ansE_emp (hbad (by simp)).symm
        · rw [if_neg hc] at hnext hbad
          have hc' : ¬ (acc.length : Int) + 1 > 40 := by omega
          have hmap : (acc ++ [⟨e', (cC a b k).1, (cC a b k).2.1, (cC a b k).2.2⟩] : List R).map toC = acc.map toC ++ [cC a b k] := by simp
          have := ih (j + 1) (acc ++ [⟨e', (cC a b k).1, (cC a b k).2.1, (cC a b k).2.2⟩]) (ea && false) g3 (by simp; omega) hi (eok_app he k1e) (by rw [hmap]; exact hnext) (by rw [hmap]; exact hbad)
          rw [Bool.and_false] at this
          refine ansE_of ?_
          rw [e6n17]
          simp only [STL, ↓reduceIte, Int.reduceBEq, Int.reduceEq, h1, h0, and_self, eBs_len, eBs_get g1, hf, k1, ho', hsm, happ, eRs_len, hlen, hc', next j (by omega)]
          exact this
theorem inn_len (k : Nat) (a : Bn) : ∀ (rest : List Bn) (acc : List C), acc.length ≤ 40 → (innF k a rest acc).2.length ≤ 40
  | [], _, h => h
  | b :: rest, acc, h => by
    rw [innF]
    split
    · exact inn_len k a rest acc h
    · split
      · simp
      · split
        · simp
        · exact inn_len k a rest _ (by simp; omega)
theorem n614 (n k : Nat) (hn : n ≤ 12) (hk : k < n) (hs ls : List Bn) (eh el : Bool) (hhs : ∀ b ∈ hs, Up n k b) (hls : ∀ b ∈ ls, Dn n k b) (hhl : hs.length ≤ 40) (hll : ls.length ≤ 40) :
    ∀ (rest : List Bn) (i : Nat) (acc : List R) (ea : Bool), hs.drop i = rest → acc.length ≤ 40 → EOk acc →
    AnsE (Or K6n14 [I (k : Int), r0, o1, AB el ls, AB eh hs, I (hs.length : Int), I (i : Int)] [bF, SR ea acc]) (outF k ls rest (acc.map toC)) := by
  intro rest
  induction rest with
  | nil =>
    intro i acc ea h hl he
    have h1 : ¬ (i : Int) < (hs.length : Int) := by have := at_end h; omega
    refine ansE_of ?_
    rw [e6n14]
    simp only [STL, ↓reduceIte, Int.reduceBEq, Int.reduceEq, h1]
    exact ansE_lst rfl he
  | cons a rest ih =>
    intro i acc ea h hl he
    obtain ⟨g1, g2, g3⟩ := at_drop h
    have h1 : (i : Int) < (hs.length : Int) := by omega
    have h0 : 0 ≤ (i : Int) := by omega
    have ha := hhs a (List.mem_of_getElem? g1)
    have := n617 n k hn hk hs ls eh el a i ha hls hll (outF k ls (a :: rest) (acc.map toC)) ls 0 acc ea rfl hl (by omega) he (by
      intro acc' ea' he hl' hE
      have := ih (i + 1) acc' ea' g3 hl' hE
      rw [outF, he]
      exact this) (by
      intro hne
      rw [outF, if_neg hne])
    refine ansE_of ?_
    rw [e6n14]
    simp only [STL, ↓reduceIte, Int.reduceBEq, Int.reduceEq, h1, h0, and_self, eBs_len, eBs_get g1]
    exact this
theorem n66 (rows : List R) (e : Bool) (n k : Nat) (hn : n ≤ 12) (hk : k < n) (hr : ∀ r ∈ rows, OkR n r) (hc : ∀ r ∈ rows, (chkR 12 r).1 = 0) (hl : rows.length ≤ 40) (M : Int × List C)
    (hend : ∀ (acc : List R) (ea : Bool), acc.map toC = firsts k rows → acc.length ≤ 40 → EOk acc → AnsE (Or K6n6 [LR e rows, I (n : Int), I (k : Int), r0, o1, LR e rows, I (rows.length : Int), I (rows.length : Int)] [bF, SR ea acc]) M) :
    ∀ (rest : List R) (i : Nat) (acc : List R) (ea : Bool), rows.drop i = rest → i ≤ rows.length → acc.length ≤ i → acc.map toC ++ firsts k rest = firsts k rows → EOk acc →
    AnsE (Or K6n6 [LR e rows, I (n : Int), I (k : Int), r0, o1, LR e rows, I (rows.length : Int), I (i : Int)] [bF, SR ea acc]) M := by
  intro rest
  induction rest with
  | nil =>
    intro i acc ea h hi hla hf he
    have hle := at_end h
    obtain rfl : i = rows.length := by omega
    exact hend acc ea (by simpa [firsts] using hf) (by omega) he
  | cons r rest ih =>
    intro i acc ea h hi hla hf he
    obtain ⟨g1, g2, g3⟩ := at_drop h
    have h1 : (i : Int) < (rows.length : Int) := by omega
    have h0 : 0 ≤ (i : Int) := by omega
    have hmem := List.mem_of_getElem? g1
    have ok := hr r hmem
    obtain ⟨e', k1e, k1⟩ := s16 r ok.e (hc r hmem) ok.of ok.tv (by have := ok.len; omega)
    have hsm : small 40 (acc.length + [eR ⟨e', (tidyF r.of r.kd r.tv).1, r.kd, (tidyF r.of r.kd r.tv).2⟩].length) = some () := small_ok (by simp; omega)
    have happ : eRs acc ++ [eR ⟨e', (tidyF r.of r.kd r.tv).1, r.kd, (tidyF r.of r.kd r.tv).2⟩] = eRs (acc ++ [⟨e', (tidyF r.of r.kd r.tv).1, r.kd, (tidyF r.of r.kd r.tv).2⟩]) := by simp [eRs]
    unfold eR at hsm happ
    rw [firsts] at hf
    by_cases hz : r.of.getD k 0 = 0
    · rw [if_pos hz] at hf
      have := ih (i + 1) (acc ++ [⟨e', (tidyF r.of r.kd r.tv).1, r.kd, (tidyF r.of r.kd r.tv).2⟩]) (ea && false) g3 (by omega) (by simp; omega) (by
        rw [← hf]; simp [tidyC]) (eok_app he k1e)
      rw [Bool.and_false] at this
      refine ansE_of ?_
      rw [e6n6]
      by_cases hkl : k < r.of.length
      · have c1 : ¬ (k : Int) ≥ (r.of.length : Int) := by omega
        have c2 : 0 ≤ (k : Int) ∧ (k : Int) < (r.of.length : Int) := by omega
        have hg := enc_get (getD_get hkl)
        rw [hz] at hg
        simp only [STL, ↓reduceIte, Int.reduceBEq, Int.reduceEq, h1, h0, and_self, eRs_len, eRs_get g1, enc_len, c1, c2, hg, decide_false, k1, hsm, happ, next i (by omega)]
        exact this
      · have c1 : (k : Int) ≥ (r.of.length : Int) := by omega
        simp only [STL, ↓reduceIte, Int.reduceBEq, Int.reduceEq, gdF, h1, h0, and_self, eRs_len, eRs_get g1, enc_len, c1, decide_true, k1, hsm, happ, next i (by omega)]
        exact this
    · rw [if_neg hz] at hf
      have := ih (i + 1) acc ea g3 (by omega) (by omega) hf he
      have hkl : k < r.of.length := by
        rcases Nat.lt_or_ge k r.of.length with h | h
        · exact h
        · exfalso; apply hz; rw [List.getD_eq_getElem?_getD, List.getElem?_eq_none h]; rfl
      have c1 : ¬ (k : Int) ≥ (r.of.length : Int) := by omega
      have c2 : 0 ≤ (k : Int) ∧ (k : Int) < (r.of.length : Int) := by omega
      have hg := enc_get (getD_get hkl)
      refine ansE_of ?_
      rw [e6n6]
      simp only [STL, ↓reduceIte, Int.reduceBEq, Int.reduceEq, h1, h0, and_self, eRs_len, eRs_get g1, enc_len, c1, c2, hg, decide_false, hz, next i (by omega)]
      exact this
theorem inn_s (k : Nat) (a : Bn) : ∀ (ls : List Bn) (acc : List C), innF k a.s (ls.map Bn.s) acc = innF k a ls acc
  | [], _ => rfl
  | b :: ls, acc => by
    rw [List.map_cons, innF, innF, inn_s k a ls, inn_s k a ls]
    rfl
theorem out_s (k : Nat) (ls : List Bn) : ∀ (hs : List Bn) (acc : List C), outF k (ls.map Bn.s) (hs.map Bn.s) acc = outF k ls hs acc
  | [], _ => rfl
  | a :: hs, acc => by
    rw [List.map_cons, outF, outF, inn_s, out_s k ls hs]
/-- What is left without a number. -/
def awayF (n k : Nat) (rows : List R) : Int × List C := outF k (dns n k rows 0) (ups n k rows 0) (firsts k rows)
theorem upB_len (n k i : Nat) (r : R) : (upB n k i r).length ≤ 1 := by unfold upB; split <;> (try split) <;> simp
theorem dnB_len (n k i : Nat) (r : R) : (dnB n k i r).length ≤ 1 := by unfold dnB; split <;> (try split) <;> simp
theorem ups_len (n k : Nat) : ∀ (rows : List R) (i : Nat), (ups n k rows i).length ≤ rows.length
  | [], _ => by simp [ups]
  | r :: rs, i => by have := upB_len n k i r; have := ups_len n k rs (i + 1); rw [ups, List.length_append, List.length_cons]; omega
theorem dns_len (n k : Nat) : ∀ (rows : List R) (i : Nat), (dns n k rows i).length ≤ rows.length
  | [], _ => by simp [dns]
  | r :: rs, i => by have := dnB_len n k i r; have := dns_len n k rs (i + 1); rw [dns, List.length_append, List.length_cons]; omega
theorem negL_bd {b : Int} {l : List Int} (h : Bd b l) : Bd b (negL l) := by
  intro x hx
  obtain ⟨y, hy, rfl⟩ := List.mem_map.1 hx
  have := h y hy
  omega
theorem up_ok {n k : Nat} (hk : k < n) : ∀ (rows : List R) (i : Nat), (∀ r ∈ rows, OkR n r) → ∀ b ∈ ups n k rows i, Up n k b
  | [], _, _, b, hb => by simp [ups] at hb
  | r :: rs, i, h, b, hb => by
    rw [ups] at hb
    rcases List.mem_append.1 hb with hb | hb
    · have ok := h r List.mem_cons_self
      have hpl := padL_len ok.len
      unfold upB at hb
      split at hb
      · rename_i hp
        rw [List.mem_singleton] at hb; subst hb
        exact ⟨⟨hpl, padL_bd ok.of, ok.tv⟩, by simpa only [padL_at] using hp⟩
      · split at hb
        · rename_i hp
          rw [List.mem_singleton] at hb; subst hb
          have := ok.tv
          refine ⟨⟨by simpa [negL] using hpl, negL_bd (padL_bd ok.of), by dsimp only; omega⟩, ?_⟩
          simp only [negL_at, padL_at]; omega
        · cases hb
    · exact up_ok hk rs (i + 1) (fun r hr => h r (List.mem_cons_of_mem _ hr)) b hb
theorem dn_ok {n k : Nat} (hk : k < n) : ∀ (rows : List R) (i : Nat), (∀ r ∈ rows, OkR n r) → ∀ b ∈ dns n k rows i, Dn n k b
  | [], _, _, b, hb => by simp [dns] at hb
  | r :: rs, i, h, b, hb => by
    rw [dns] at hb
    rcases List.mem_append.1 hb with hb | hb
    · have ok := h r List.mem_cons_self
      have hpl := padL_len ok.len
      unfold dnB at hb
      split at hb
      · rename_i hp
        rw [List.mem_singleton] at hb; subst hb
        exact ⟨⟨hpl, padL_bd ok.of, ok.tv⟩, by simpa only [padL_at] using hp⟩
      · split at hb
        · rename_i hp
          rw [List.mem_singleton] at hb; subst hb
          have := ok.tv
          refine ⟨⟨by simpa [negL] using hpl, negL_bd (padL_bd ok.of), by dsimp only; omega⟩, ?_⟩
          simp only [negL_at, padL_at]; omega
        · cases hb
    · exact dn_ok hk rs (i + 1) (fun r hr => h r (List.mem_cons_of_mem _ hr)) b hb
theorem s_up {n k : Nat} {b : Bn} (h : Up n k b.s) : Up n k b := ⟨⟨h.len, h.of, h.to⟩, h.at'⟩
theorem s_dn {n k : Nat} {b : Bn} (h : Dn n k b.s) : Dn n k b := ⟨⟨h.len, h.of, h.to⟩, h.at'⟩
theorem n6 (rows : List R) (e : Bool) (n k : Nat) (hn : n ≤ 12) (hk : k < n) (hr : ∀ r ∈ rows, OkR n r) (hc : ∀ r ∈ rows, (chkR 12 r).1 = 0) (hl : rows.length ≤ 40) :
    AnsE (Or K6n6 [LR e rows, I (n : Int), I (k : Int), r0, o1, LR e rows, I (rows.length : Int), I 0] [bF, SR true []]) (awayF n k rows) := by
  refine n66 rows e n k hn hk hr hc hl (awayF n k rows) ?_ rows 0 [] true rfl (by omega) (by simp) (by simp) eok_nil
  intro acc ea ha hla hE
  obtain ⟨hs, ls, eh, el, k1, k2, k3⟩ := s17 rows e n k hn hk hr hl
  have hhs : ∀ b ∈ hs, Up n k b := fun b hb => s_up (up_ok hk rows 0 hr _ (by rw [← k2]; exact List.mem_map_of_mem hb))
  have hls : ∀ b ∈ ls, Dn n k b := fun b hb => s_dn (dn_ok hk rows 0 hr _ (by rw [← k3]; exact List.mem_map_of_mem hb))
  have hhl : hs.length ≤ 40 := by
    have := ups_len n k rows 0
    rw [← k2, List.length_map] at this; omega
  have hll : ls.length ≤ 40 := by
    have := dns_len n k rows 0
    rw [← k3, List.length_map] at this; omega
  have := n614 n k hn hk hs ls eh el hhs hls hhl hll hs 0 acc ea rfl hla hE
  rw [ha, ← out_s, k2, k3] at this
  refine ansE_of ?_
  rw [e6n6]
  have h1 : ¬ (rows.length : Int) < (rows.length : Int) := by omega
  simp only [STL, ↓reduceIte, Int.reduceBEq, Int.reduceEq, h1, k1, eBs_len]
  exact this
open Go Go.Aev Go.Proofs

theorem chkI_ok : ∀ {l : List Int} {i : Nat}, (chkI l i).1 = 0 → ∀ x ∈ l, -1000000 ≤ x ∧ x ≤ 1000000
  | [], _, _, x, hx => by cases hx
  | y :: l, i, h, x, hx => by
    rw [chkI] at h
    split at h
    · rename_i hy
      rcases List.mem_cons.1 hx with rfl | hx
      · exact hy
      · exact chkI_ok h x hx
    · simp at h
theorem chkI_of : ∀ {l : List Int} {i : Nat}, (∀ x ∈ l, -1000000 ≤ x ∧ x ≤ 1000000) → (chkI l i).1 = 0
  | [], _, _ => rfl
  | y :: l, i, h => by
    rw [chkI, if_pos (h y List.mem_cons_self)]
    exact chkI_of (fun x hx => h x (List.mem_cons_of_mem _ hx))
theorem chkR_ok {n : Nat} {r : R} (he : r.e = true → r.of = []) (h : (chkR n r).1 = 0) : OkR n r := by
  unfold chkR at h
  split at h
  · simp at h
  · rename_i hk
    split at h
    · simp at h
    · have := chkI_ok h
      exact ⟨he, by omega, by omega, fun x hx => this x (List.mem_append_left _ hx), this r.tv (by simp)⟩
theorem chkR_12 {n : Nat} (hn : n ≤ 12) {r : R} (ok : OkR n r) : (chkR 12 r).1 = 0 := by
  unfold chkR
  have h1 := ok.kd
  have h2 := ok.len
  rw [if_neg (by omega), if_neg (by omega)]
  refine chkI_of fun x hx => ?_
  rcases List.mem_append.1 hx with hx | hx
  · exact ok.of x hx
  · rw [List.mem_singleton.1 hx]; exact ok.tv
theorem chkRs_ok {n : Nat} : ∀ {rows : List R} {i : Nat}, (∀ r ∈ rows, r.e = true → r.of = []) → (chkRs n rows i).1 = 0 → ∀ r ∈ rows, OkR n r
  | [], _, _, _, r, hr => by cases hr
  | q :: rows, i, he, h, r, hr => by
    rw [chkRs] at h
    split at h
    · rename_i hq
      rcases List.mem_cons.1 hr with rfl | hr
      · exact chkR_ok (he _ List.mem_cons_self) hq
      · exact chkRs_ok (fun r hr => he r (List.mem_cons_of_mem _ hr)) h r hr
    · rename_i hq; exact absurd h hq
def chkN (n : Int) (rows : List R) : Int × Int := if n < 0 ∨ n > 12 then (3, -1) else chkT n.toNat rows
def chkK (n k : Int) (rows : List R) : Int × Int := if (chkN n rows).1 = 0 then (if k < 0 ∨ k ≥ n then (3, -1) else (0, 0)) else chkN n rows
theorem s25n (rows : List R) (e : Bool) (n : Int) (hr : ∀ r ∈ rows, r.e = true → r.of = []) : Or (.call 42) [LR e rows, I n] [] = fl (chkN n rows) := by
  unfold chkN
  by_cases h : n < 0 ∨ n > 12
  · rw [if_pos h]
    refine orc_of ?_
    rw [e25]
    simp only [cor, ← Bool.decide_or]
    simp only [STL, ↓reduceIte, Int.reduceBEq, Int.reduceEq, h]
  · rw [if_neg h]
    have := s25x rows n.toNat e (by omega) hr
    rw [Int.toNat_of_nonneg (by omega)] at this
    exact this
theorem s15 (rows : List R) (e : Bool) (n k : Int) (hr : ∀ r ∈ rows, r.e = true → r.of = []) : Or (.call 15) [LR e rows, I n, I k] [] = fl (chkK n k rows) := by
  have h1 := s25n rows e n hr
  unfold chkK
  by_cases hc : (chkN n rows).1 = 0
  · rw [if_pos hc]
    by_cases hk : k < 0 ∨ k ≥ n
    · rw [if_pos hk]
      refine orc_of ?_
      rw [e15]
      simp only [cor, ← Bool.decide_or]
      simp only [STL, ↓reduceIte, Int.reduceBEq, Int.reduceEq, h1, hc, hk]
    · rw [if_neg hk]
      refine orc_of ?_
      rw [e15]
      simp only [cor, ← Bool.decide_or]
      simp only [STL, ↓reduceIte, Int.reduceBEq, Int.reduceEq, h1, hc, hk]
  · rw [if_neg hc]
    refine orc_of ?_
    rw [e15]
    simp only [STL, ↓reduceIte, Int.reduceBEq, Int.reduceEq, h1, hc]
theorem chkN_ok {n : Int} {rows : List R} (hr : ∀ r ∈ rows, r.e = true → r.of = []) (h : (chkN n rows).1 = 0) : 0 ≤ n ∧ n ≤ 12 ∧ rows.length ≤ 40 ∧ ∀ r ∈ rows, OkR n.toNat r := by
  unfold chkN at h
  split at h
  · simp at h
  · unfold chkT at h
    split at h
    · simp at h
    · exact ⟨by omega, by omega, by omega, chkRs_ok hr h⟩
theorem s6a (rows : List R) (e : Bool) (n k : Int) (hr : ∀ r ∈ rows, r.e = true → r.of = []) (h : ¬ (chkK n k rows).1 = 0) : Or (.call 12) [LR e rows, I n, I k] [] = some [T.emp true, ti (chkK n k rows).1, ti (chkK n k rows).2] := by
  refine orc_of ?_
  rw [e6]
  simp only [STL, ↓reduceIte, Int.reduceBEq, Int.reduceEq, s15 rows e n k hr, h]
theorem s6b (rows : List R) (e : Bool) (n k : Nat) (hn : n ≤ 12) (hk : k < n) (hr : ∀ r ∈ rows, OkR n r) (hl : rows.length ≤ 40) (h : (chkK n k rows).1 = 0) : AnsE (Or (.call 12) [LR e rows, I (n : Int), I (k : Int)] []) (awayF n k rows) := by
  have := n6 rows e n k hn hk hr (fun r h => chkR_12 hn (hr r h)) hl
  refine ansE_of ?_
  rw [e6]
  simp only [STL, ↓reduceIte, Int.reduceBEq, Int.reduceEq, s15 rows e n k (fun r h => (hr r h).e), h, eRs_len]
  exact this
theorem divL_len (g : Int) (l : List Int) : (divL g l).length = l.length := by simp [divL]
theorem zip_len (f : Int → Int → Int) (x y : List Int) : (List.zipWith f x y).length ≤ x.length := by simp; omega
theorem cC_len {n k : Nat} {a b : Bn} (ha : a.of.length = n) : (cC a b k).1.length ≤ n := by
  show (divL _ (bz (cL a b k))).length ≤ n
  rw [divL_len]
  have := bz_len (cL a b k)
  have := zip_len (fun x y => cQ a b k * x + cP a b k * y) a.of b.of
  unfold cL at *
  omega
theorem out_len (k : Nat) (ls : List Bn) : ∀ (hs : List Bn) (acc : List C), acc.length ≤ 40 → (outF k ls hs acc).2.length ≤ 40
  | [], _, h => h
  | a :: hs, acc, h => by
    rw [outF]
    have := inn_len k a ls acc h
    split
    · exact out_len k ls hs _ this
    · exact this
theorem firsts_len (k : Nat) : ∀ rows : List R, (firsts k rows).length ≤ rows.length
  | [] => by simp [firsts]
  | r :: rs => by
    have := firsts_len k rs
    rw [firsts]
    split <;> simp <;> omega
theorem tidyF_len (of : List Int) (kd tv : Int) : (tidyF of kd tv).1.length ≤ of.length := by
  unfold tidyF
  split
  · simp
  · have := bz_len of; simpa using this
theorem away_len {n k : Nat} {rows : List R} (hl : rows.length ≤ 40) : (awayF n k rows).2.length ≤ 40 :=
  out_len _ _ _ _ (by have := firsts_len k rows; omega)
open Go Go.Aev
theorem s11 : Or (.call 11) [] [] = some [tb true] := orc_of_N (n := 60) (by kernel_rfl)
open Go Go.Aev Go.Proofs

theorem inn_P {k : Nat} {P : C → Prop} {a : Bn} : ∀ (ls : List Bn) (acc : List C), (∀ b ∈ ls, cOk a b k = true → P (cC a b k)) → (∀ c ∈ acc, P c) → ∀ c ∈ (innF k a ls acc).2, P c
  | [], acc, _, h => h
  | b :: ls, acc, hp, h => by
    have hp' : ∀ b ∈ ls, cOk a b k = true → P (cC a b k) := fun b hb => hp b (List.mem_cons_of_mem _ hb)
    rw [innF]
    split
    · exact inn_P ls acc hp' h
    · split
      · intro c hc; cases hc
      · rename_i ho
        split
        · intro c hc; cases hc
        · refine inn_P ls _ hp' fun c hc => ?_
          rcases List.mem_append.1 hc with hc | hc
          · exact h c hc
          · rw [List.mem_singleton.1 hc]; exact hp b List.mem_cons_self (by simpa using ho)
theorem out_P {k : Nat} {P : C → Prop} (ls : List Bn) : ∀ (hs : List Bn) (acc : List C), (∀ a ∈ hs, ∀ b ∈ ls, cOk a b k = true → P (cC a b k)) → (∀ c ∈ acc, P c) → ∀ c ∈ (outF k ls hs acc).2, P c
  | [], acc, _, h => h
  | a :: hs, acc, hp, h => by
    rw [outF]
    have := inn_P (k := k) ls acc (hp a List.mem_cons_self) h
    split
    · exact out_P ls hs _ (fun a ha => hp a (List.mem_cons_of_mem _ ha)) this
    · exact this
theorem firsts_P {k : Nat} {P : C → Prop} : ∀ rows : List R, (∀ r ∈ rows, r.of.getD k 0 = 0 → P (tidyC r)) → ∀ c ∈ firsts k rows, P c
  | [], _, c, hc => by cases hc
  | r :: rs, h, c, hc => by
    have ih := firsts_P rs (fun r hr => h r (List.mem_cons_of_mem _ hr))
    rw [firsts] at hc
    split at hc
    · rename_i hz
      rcases List.mem_cons.1 hc with rfl | hc
      · exact h r List.mem_cons_self hz
      · exact ih c hc
    · exact ih c hc
theorem away_P {n k : Nat} {P : C → Prop} {rows : List R} (h1 : ∀ r ∈ rows, r.of.getD k 0 = 0 → P (tidyC r)) (h2 : ∀ a ∈ ups n k rows 0, ∀ b ∈ dns n k rows 0, cOk a b k = true → P (cC a b k)) : ∀ c ∈ (awayF n k rows).2, P c :=
  out_P _ _ _ h2 (firsts_P rows h1)
theorem inn_bad {k : Nat} {a : Bn} : ∀ (ls : List Bn) (acc : List C), (innF k a ls acc).1 ≠ 0 → (innF k a ls acc).2 = []
  | [], acc, h => absurd rfl h
  | b :: ls, acc, h => by
    rw [innF] at h ⊢
    split at h
    · rename_i h1; rw [if_pos h1]; exact inn_bad ls acc h
    · rename_i h1
      rw [if_neg h1]
      split at h
      · rename_i h2; rw [if_pos h2]
      · rename_i h2
        rw [if_neg h2]
        split at h
        · rename_i h3; rw [if_pos h3]
        · rename_i h3; rw [if_neg h3]; exact inn_bad ls _ h
theorem out_bad {k : Nat} (ls : List Bn) : ∀ (hs : List Bn) (acc : List C), (outF k ls hs acc).1 ≠ 0 → (outF k ls hs acc).2 = []
  | [], acc, h => absurd rfl h
  | a :: hs, acc, h => by
    rw [outF] at h ⊢
    split at h
    · rename_i h1; rw [if_pos h1]; exact out_bad ls hs _ h
    · rename_i h1; rw [if_neg h1]; exact inn_bad ls acc h

theorem bz_id {l : List Int} (h : l ≠ [] → l.getD (l.length - 1) 0 ≠ 0) : bz l = l := by
  unfold bz
  cases hl : l.length with
  | zero => rw [List.length_eq_zero_iff.1 hl]; rfl
  | succ m =>
    have := h (fun e => by rw [e] at hl; cases hl)
    rw [hl, Nat.add_sub_cancel] at this
    rw [bzN, if_neg this, ← hl, List.take_length]
theorem bz_lastD {l : List Int} (h : bz l ≠ []) : (bz l).getD ((bz l).length - 1) 0 ≠ 0 := by
  unfold bz at h ⊢
  cases hk : bzN l l.length with
  | zero => rw [hk] at h; exact absurd rfl h
  | succ j =>
    obtain ⟨h1, h2⟩ := bzN_last (Nat.le_refl _) hk
    rw [take_len (by omega), Nat.add_sub_cancel, List.getD_eq_getElem?_getD, take_get h2]
    exact h1
theorem map_getD {f : Int → Int} (hf : f 0 = 0) (l : List Int) (k : Nat) : (l.map f).getD k 0 = f (l.getD k 0) := by
  simp only [List.getD_eq_getElem?_getD, List.getElem?_map]
  cases l[k]? <;> simp [hf]
theorem bz_at {l : List Int} {k : Nat} (h : l.getD k 0 = 0) : (bz l).getD k 0 = 0 := by
  unfold bz
  simp only [List.getD_eq_getElem?_getD, List.getElem?_take] at h ⊢
  split
  · exact h
  · rfl
theorem sg_or (kd : Int) (l : List Int) : sg kd l = 1 ∨ sg kd l = -1 := by unfold sg; split <;> simp
theorem gl_sg {s : Int} (hs : s = 1 ∨ s = -1) : ∀ (l : List Int) (g : Nat), gl g (l.map (s * ·)) = gl g l
  | [], _ => rfl
  | x :: l, g => by
    have : (s * x).natAbs = x.natAbs := by rcases hs with rfl | rfl <;> simp
    rw [List.map_cons, gl, gl, this, gl_sg hs l]
theorem fnz_sg {s : Int} (hs : s = 1 ∨ s = -1) : ∀ (l : List Int), fnz (l.map (s * ·)) = s * fnz l
  | [] => by simp [fnz]
  | x :: l => by
    rw [List.map_cons, fnz, fnz]
    by_cases hx : x = 0
    · subst hx; rw [if_pos (by simp), if_pos rfl, fnz_sg hs l]
    · rw [if_neg (by rcases hs with rfl | rfl <;> omega), if_neg hx]
theorem noneF_idem (kd tv : Int) : noneF kd (noneF kd tv) = noneF kd tv := by
  unfold noneF
  by_cases h1 : kd = 1 ∧ tv < 0
  · rw [if_pos h1]; simp [h1.1]
  · rw [if_neg h1]
    by_cases h2 : kd = 2 ∧ tv > 0
    · rw [if_pos h2]; simp [h2.1]
    · rw [if_neg h2]
      by_cases h3 : kd = 3 ∧ tv ≠ 0
      · rw [if_pos h3]; simp [h3.1]
      · rw [if_neg h3]; simp
theorem noneF_b (kd tv : Int) : -1 ≤ noneF kd tv ∧ noneF kd tv ≤ 1 := by unfold noneF; split <;> (try split) <;> (try split) <;> omega
theorem tidyF_some {of : List Int} {kd tv : Int} (hz : bz of ≠ []) : tidyF of kd tv = ((divL (gl tv.natAbs (bz of)) (bz of)).map (sg kd (bz of) * ·), sg kd (bz of) * (tv / (gl tv.natAbs (bz of) : Int))) := by
  unfold tidyF
  rw [if_neg hz]
  simp [divL, Function.comp_def]
theorem tidyF_none {of : List Int} {kd tv : Int} (hz : bz of = []) : tidyF of kd tv = ([], noneF kd tv) := by unfold tidyF; rw [if_pos hz]
theorem gl_quot {l : List Int} {tv : Int} (hg : 0 < gl tv.natAbs l) : gl (tv / (gl tv.natAbs l : Int)).natAbs (divL (gl tv.natAbs l) l) = 1 := by
  have hd : (gl tv.natAbs l : Int) ∣ tv := Int.ofNat_dvd_left.2 (gl_dvd0 l tv.natAbs)
  have h1 := gl_mul (gl tv.natAbs l) l (tv / (gl tv.natAbs l : Int)).natAbs (fun x hx => gl_dvd hx) hg
  have h2 : gl tv.natAbs l * (tv / (gl tv.natAbs l : Int)).natAbs = tv.natAbs := by
    have h3 : ((gl tv.natAbs l : Int) * (tv / (gl tv.natAbs l : Int))).natAbs = tv.natAbs := by rw [Int.mul_ediv_cancel' hd]
    rw [Int.natAbs_mul, Int.natAbs_natCast] at h3
    exact h3
  rw [h2] at h1
  have h4 : gl tv.natAbs l * 1 = gl tv.natAbs l * gl (tv / (gl tv.natAbs l : Int)).natAbs (divL (gl tv.natAbs l) l) := by rw [Nat.mul_one]; exact h1
  exact (Nat.eq_of_mul_eq_mul_left hg h4).symm
theorem tidyF_idem (of : List Int) (kd tv : Int) : tidyF (tidyF of kd tv).1 kd (tidyF of kd tv).2 = tidyF of kd tv := by
  by_cases hz : bz of = []
  · rw [tidyF_none hz]
    show tidyF [] kd (noneF kd tv) = _
    rw [tidy_none, noneF_idem]
  · have hs := sg_or kd (bz of)
    obtain ⟨x, hx, h0⟩ := bz_last hz
    have hgp := gl_pos (g := tv.natAbs) hx h0
    have hdv : ∀ x ∈ bz of, (gl tv.natAbs (bz of) : Int) ∣ x := fun x hx => gl_dvd hx
    have hlast := bz_lastD hz
    have hfz := bz_fnz hz
    rw [tidyF_some hz]
    dsimp only
    have hq := gl_quot (l := bz of) (tv := tv) hgp
    have hsd := sg_div (kd := kd) (show (0 : Int) < (gl tv.natAbs (bz of) : Int) by omega) hdv
    have hfd := fnz_div (show (0 : Int) < (gl tv.natAbs (bz of) : Int) by omega) hdv
    have hmem : (bz of).getD ((bz of).length - 1) 0 ∈ bz of := by
      have : 0 < (bz of).length := List.length_pos_iff.2 hz
      exact List.mem_of_getElem? (getD_get (l := bz of) (k := (bz of).length - 1) (by omega))
    have hlen : ((divL (gl tv.natAbs (bz of)) (bz of)).map (sg kd (bz of) * ·)).length = (bz of).length := by simp [divL]
    have hne : (divL (gl tv.natAbs (bz of)) (bz of)).map (sg kd (bz of) * ·) ≠ [] := by
      intro h
      rw [h] at hlen
      exact hz (List.length_eq_zero_iff.1 hlen.symm)
    have hbz : bz ((divL (gl tv.natAbs (bz of)) (bz of)).map (sg kd (bz of) * ·)) = (divL (gl tv.natAbs (bz of)) (bz of)).map (sg kd (bz of) * ·) := by
      refine bz_id fun _ => ?_
      rw [hlen, map_getD (by simp)]
      unfold divL
      rw [map_getD (by simp)]
      obtain ⟨c, hc⟩ := hdv _ hmem
      rw [hc, Int.mul_ediv_cancel_left _ (by omega)]
      intro h
      have : c = 0 := by rcases hs with h' | h' <;> rw [h'] at h <;> omega
      rw [this] at hc
      exact hlast (by simpa using hc)
    have hgl : gl (sg kd (bz of) * (tv / (gl tv.natAbs (bz of) : Int))).natAbs ((divL (gl tv.natAbs (bz of)) (bz of)).map (sg kd (bz of) * ·)) = 1 := by
      rw [gl_sg hs]
      have : (sg kd (bz of) * (tv / (gl tv.natAbs (bz of) : Int))).natAbs = (tv / (gl tv.natAbs (bz of) : Int)).natAbs := by rcases hs with h' | h' <;> rw [h'] <;> simp
      rw [this]; exact hq
    have hsg : sg kd ((divL (gl tv.natAbs (bz of)) (bz of)).map (sg kd (bz of) * ·)) = 1 := by
      have hw : sg kd ((divL (gl tv.natAbs (bz of)) (bz of)).map (sg kd (bz of) * ·)) = if kd = 3 ∧ sg kd (bz of) * fnz (divL (gl tv.natAbs (bz of)) (bz of)) < 0 then -1 else 1 := by
        rw [← fnz_sg hs]; rfl
      rw [hw]
      rw [if_neg]
      rintro ⟨h3, hn⟩
      have h5 : sg kd (divL (gl tv.natAbs (bz of)) (bz of)) = sg kd (bz of) := hsd
      unfold sg at h5 hn
      by_cases hneg : fnz (divL (gl tv.natAbs (bz of)) (bz of)) < 0
      · by_cases hb : fnz (bz of) < 0
        · rw [if_pos ⟨h3, hb⟩] at hn; omega
        · rw [if_pos ⟨h3, hneg⟩, if_neg (fun h => hb h.2)] at h5; omega
      · by_cases hb : fnz (bz of) < 0
        · rw [if_neg (fun h => hneg h.2), if_pos ⟨h3, hb⟩] at h5; omega
        · rw [if_neg (fun h => hb h.2)] at hn; omega
    rw [tidyF_some (by rw [hbz]; exact hne), hbz, hgl, hsg]
    simp [divL]

structure Good (n k : Nat) (c : C) : Prop where
  kd : c.2.1 = 1 ∨ c.2.1 = 2 ∨ c.2.1 = 3
  len : c.1.length ≤ n
  of : Bd 1000000 c.1
  tv : -1000000 ≤ c.2.2 ∧ c.2.2 ≤ 1000000
  gone : c.1.getD k 0 = 0
  tidy : tidyF c.1 c.2.1 c.2.2 = (c.1, c.2.2)
theorem sg_bd {s x b : Int} (hs : s = 1 ∨ s = -1) (hx : -b ≤ x ∧ x ≤ b) : -b ≤ s * x ∧ s * x ≤ b := by rcases hs with rfl | rfl <;> omega
theorem tidyF_bd {of : List Int} {kd tv b : Int} (hb : Bd b of) (h1 : 1 ≤ b) (ht : -b ≤ tv ∧ tv ≤ b) : Bd b (tidyF of kd tv).1 ∧ -b ≤ (tidyF of kd tv).2 ∧ (tidyF of kd tv).2 ≤ b := by
  by_cases hz : bz of = []
  · rw [tidyF_none hz]
    have := noneF_b kd tv
    exact ⟨fun x hx => by simp at hx, by dsimp only; omega, by dsimp only; omega⟩
  · obtain ⟨x, hx, h0⟩ := bz_last hz
    have hgp := gl_pos (g := tv.natAbs) hx h0
    rw [tidyF_some hz]
    refine ⟨fun y hy => ?_, sg_bd (sg_or kd _) (div_bd (by omega) ht (by omega))⟩
    obtain ⟨z, hz1, rfl⟩ := List.mem_map.1 hy
    obtain ⟨w, hw, rfl⟩ := List.mem_map.1 hz1
    exact sg_bd (sg_or kd _) (div_bd (by omega) (bz_bd hb w hw) (by omega))
theorem tidyF_at {of : List Int} {kd tv : Int} {k : Nat} (h : of.getD k 0 = 0) : (tidyF of kd tv).1.getD k 0 = 0 := by
  by_cases hz : bz of = []
  · rw [tidyF_none hz]; simp
  · rw [tidyF_some hz]
    unfold divL
    rw [map_getD (by simp), map_getD (by simp), bz_at h]; simp
theorem good_first {n k : Nat} {r : R} (ok : OkR n r) (h : r.of.getD k 0 = 0) : Good n k (tidyC r) := by
  have hb := tidyF_bd (kd := r.kd) (tv := r.tv) ok.of (by omega) ok.tv
  have := tidyF_len r.of r.kd r.tv
  have := ok.len
  exact ⟨ok.kd, by show (tidyF r.of r.kd r.tv).1.length ≤ n; omega, hb.1, hb.2, tidyF_at h, tidyF_idem r.of r.kd r.tv⟩
theorem cL_at {n k : Nat} {a b : Bn} (ha : Up n k a) (hb : Dn n k b) (hk : k < n) : (cL a b k).getD k 0 = 0 := by
  obtain ⟨hg, _, _⟩ := pq ha hb
  have g1 := getD_get (l := a.of) (k := k) (by rw [ha.len]; exact hk)
  have g2 := getD_get (l := b.of) (k := k) (by rw [hb.len]; exact hk)
  have d1 : (cG a b k : Int) ∣ a.of.getD k 0 := Int.ofNat_dvd_left.2 (Nat.gcd_dvd_left _ _)
  have d2 : (cG a b k : Int) ∣ -(b.of.getD k 0) := Int.ofNat_dvd_left.2 (Nat.gcd_dvd_right _ _)
  have h1 : (cG a b k : Int) * cP a b k = a.of.getD k 0 := Int.mul_ediv_cancel' d1
  have h2 : (cG a b k : Int) * cQ a b k = -(b.of.getD k 0) := Int.mul_ediv_cancel' d2
  have hz : (cL a b k)[k]? = some (cQ a b k * a.of.getD k 0 + cP a b k * b.of.getD k 0) := by
    unfold cL
    rw [List.getElem?_zipWith, g1, g2]
  rw [List.getD_eq_getElem?_getD, hz, Option.getD_some, ← h1]
  have h3 : b.of.getD k 0 = -((cG a b k : Int) * cQ a b k) := by omega
  rw [h3]
  grind
theorem good_pair {n k : Nat} {a b : Bn} (hn : n ≤ 12) (hk : k < n) (ha : Up n k a) (hb : Dn n k b) (ho : cOk a b k = true) : Good n k (cC a b k) := by
  have hkd : cKd a b = 1 ∨ cKd a b = 2 := by unfold cKd; split <;> simp
  have hlen := cC_len (k := k) (b := b) ha.len
  have h0 := cL_at ha hb hk
  by_cases hz : bz (cL a b k) = []
  · have e1 : (cC a b k).1 = [] := by show divL _ (bz (cL a b k)) = []; rw [hz]; rfl
    have e2 : (cC a b k).2.2 = noneF (cKd a b) (clampF (cT a b k)) := by show mixT _ _ _ = _; unfold mixT; rw [if_pos hz]
    have hb := noneF_b (cKd a b) (clampF (cT a b k))
    refine ⟨by show cKd a b = 1 ∨ cKd a b = 2 ∨ cKd a b = 3; omega, hlen, (by rw [e1]; intro x hx; cases hx), (by rw [e2]; omega), (by rw [e1]; rfl), ?_⟩
    rw [e1, e2]
    show tidyF [] (cKd a b) _ = _
    rw [tidy_none, noneF_idem]
  · have hsg : sg (cKd a b) (bz (cL a b k)) = 1 := by unfold sg; rw [if_neg (by omega)]
    have e0 : tidyF (cL a b k) (cKd a b) (cT a b k) = (mixL (cL a b k) (cT a b k), mixT (cL a b k) (cKd a b) (cT a b k)) := by
      rw [tidyF_some hz, hsg]
      unfold mixL mixT mixG
      rw [if_neg hz]
      simp
    have hok : (fits' (cT a b k / (mixG (cL a b k) (cT a b k) : Int)) && (mixL (cL a b k) (cT a b k)).all fits') = true := by
      have : mixK (cL a b k) (cT a b k) = true := ho
      unfold mixK at this; rw [if_neg hz] at this; exact this
    rw [Bool.and_eq_true] at hok
    have hT : mixT (cL a b k) (cKd a b) (cT a b k) = cT a b k / (mixG (cL a b k) (cT a b k) : Int) := by unfold mixT; rw [if_neg hz]
    refine ⟨by show cKd a b = 1 ∨ cKd a b = 2 ∨ cKd a b = 3; omega, hlen, fun x hx => ?_, ?_, ?_, ?_⟩
    · have := List.all_eq_true.1 hok.2 x hx
      unfold fits' at this
      have := of_decide_eq_true this
      omega
    · have : fits' (cT a b k / (mixG (cL a b k) (cT a b k) : Int)) = true := hok.1
      unfold fits' at this
      have := of_decide_eq_true this
      show -1000000 ≤ mixT (cL a b k) (cKd a b) (cT a b k) ∧ mixT (cL a b k) (cKd a b) (cT a b k) ≤ 1000000
      rw [hT]; omega
    · have := tidyF_at (kd := cKd a b) (tv := cT a b k) h0
      rw [e0] at this
      exact this
    · have := tidyF_idem (cL a b k) (cKd a b) (cT a b k)
      rw [e0] at this
      exact this
theorem away_good {n k : Nat} (hn : n ≤ 12) (hk : k < n) {rows : List R} (hr : ∀ r ∈ rows, OkR n r) : ∀ c ∈ (awayF n k rows).2, Good n k c :=
  away_P (fun r h => good_first (hr r h)) (fun a ha b hb => good_pair hn hk (up_ok hk rows 0 hr a ha) (dn_ok hk rows 0 hr b hb))
theorem again {n k : Nat} : ∀ (rs : List R) (i : Nat), (∀ r ∈ rs, Good n k (toC r)) → firsts k rs = rs.map toC ∧ ups n k rs i = [] ∧ dns n k rs i = []
  | [], _, _ => ⟨rfl, rfl, rfl⟩
  | r :: rs, i, h => by
    have g := h r List.mem_cons_self
    have gz : r.of.getD k 0 = 0 := g.gone
    obtain ⟨a, b, c⟩ := again rs (i + 1) (fun r hr => h r (List.mem_cons_of_mem _ hr))
    have ht : tidyF r.of r.kd r.tv = (r.of, r.tv) := g.tidy
    have hu : upB n k i r = [] := by unfold upB; rw [if_neg (by omega), if_neg (by omega)]
    have hd : dnB n k i r = [] := by unfold dnB; rw [if_neg (by omega), if_neg (by omega)]
    refine ⟨?_, by rw [ups, hu, b]; rfl, by rw [dns, hd, c]; rfl⟩
    rw [firsts, if_pos gz, a, List.map_cons]
    congr 1
    show ((tidyF r.of r.kd r.tv).1, r.kd, (tidyF r.of r.kd r.tv).2) = _
    rw [ht]
theorem good_ok {n k : Nat} {r : R} (g : Good n k (toC r)) (he : r.e = true → r.of = []) : OkR n r := ⟨he, g.kd, g.len, g.of, g.tv⟩
open Go Go.Aev Go.Proofs

theorem div1 (c : Int) : Rat.divInt c 1 = (c : Rat) := Rat.num_divInt_den (c : Rat)
abbrev Fr := Int × Int
abbrev FrR (x : Fr) : Prop := Wd.FrR x
abbrev LN (e : Bool) (l : List Fr) : AV := AV.t (T.lst 2 e (Wd.encF l))
theorem s9f (x : Fr) : Or (.call 9) [AV.agg [I x.1, I x.2]] [] = some [tb (decide (Wd.FrR x))] := by
  obtain ⟨b, h1, h2⟩ := Wd.g40 x.1 x.2
  rw [h1]
  have : b = decide (Wd.FrR x) := by
    rw [Bool.eq_iff_iff, h2, decide_eq_true_iff]; rfl
  rw [this]
theorem n40q (e : Bool) (l : List Fr) (hl : l.length ≤ 100) (hx : ∀ x ∈ l, Wd.FrR x) : ∀ (rest : List Fr) (i : Nat), l.drop i = rest → Or Kq40n3 [LN e l, r0, AV.ref (Id.c 1) 0, I (i : Int)] [Blk.box [I 0, I 0], Blk.box [I 0, I 0]] = some [ti 0, ti 0] := by
  intro rest
  induction rest with
  | nil =>
    intro i h
    have h1 : ¬ (i : Int) < (l.length : Int) := by have := at_end h; omega
    refine orc_of ?_
    rw [eq40n3]
    simp only [STL, ↓reduceIte, Int.reduceBEq, Int.reduceEq, h1, Wd.encF_len, decide_false]
  | cons x rest ih =>
    intro i h
    obtain ⟨g1, g2, g3⟩ := at_drop h
    have h1 : (i : Int) < (l.length : Int) := by omega
    have h0 : 0 ≤ (i : Int) := by omega
    have k1 := s9f x
    rw [decide_eq_true (hx x (List.mem_of_getElem? g1))] at k1
    refine orc_of ?_
    rw [eq40n3]
    simp only [STL, ↓reduceIte, Int.reduceBEq, Int.reduceEq, h1, h0, and_self, Wd.encF_len, Wd.encF_get g1, k1, decide_true, next i (by omega)]
    exact ih (i + 1) g3
theorem s40q (r : R) (e : Bool) (l : List Fr) (hn : l.length ≤ 12) (ok : OkR l.length r) (hx : ∀ x ∈ l, Wd.FrR x) : Or (.call 40) [AV.agg [lst r.e r.of, I r.kd, I r.tv], LN e l] [] = some [ti 0, ti 0] := by
  have k1 := s19x r l.length hn
  have hc : chkR l.length r = (0, 0) := by
    have h1 := ok.kd
    have h2 := ok.len
    unfold chkR
    rw [if_neg (by omega), if_neg (by omega)]
    have : ∀ (m : List Int) (i : Nat), (∀ x ∈ m, -1000000 ≤ x ∧ x ≤ 1000000) → chkI m i = (0, 0) := by
      intro m
      induction m with
      | nil => intro i _; rfl
      | cons y m ih =>
        intro i h
        rw [chkI, if_pos (h y List.mem_cons_self)]
        exact ih _ fun x hx => h x (List.mem_cons_of_mem _ hx)
    refine this _ 0 fun x hx => ?_
    rcases List.mem_append.1 hx with hx | hx
    · exact ok.of x hx
    · rw [List.mem_singleton.1 hx]; exact ok.tv
  rw [hc] at k1
  refine orc_of ?_
  rw [eq40]
  simp only [STL, ↓reduceIte, Int.reduceBEq, Int.reduceEq, Wd.encF_len, k1]
  exact n40q e l (by omega) hx l 0 rfl
/-- Does a row hold at a point? -/
def holdB (r : C) (l : List Fr) : Bool := decide ((Wd.sumQ r.1 l 0 < (r.2.2 : Rat) ∧ r.2.1 ≠ 3) ∨ (Wd.sumQ r.1 l 0 = (r.2.2 : Rat) ∧ r.2.1 ≠ 2))
theorem s41q (r : R) (e : Bool) (l : List Fr) (hn : l.length ≤ 12) (ok : OkR l.length r) (hx : ∀ x ∈ l, Wd.FrR x) : Or (.call 41) [AV.agg [lst r.e r.of, I r.kd, I r.tv], LN e l] [] = some [tb (holdB (toC r) l)] := by
  have hlen := ok.len
  obtain ⟨y, y1, y2, y3⟩ := Wd.s41 r.e e r.of l ok.of (fun x h => (hx x h).b) ok.len (by omega)
  have htv := ok.tv
  obtain ⟨b, b1, b2⟩ := Wd.g43 r.tv 1 (by unfold Wd.Sm; omega) (by unfold Wd.Sm; omega) (by omega)
  have hq : Rat.divInt r.tv 1 = (r.tv : Rat) := div1 _
  have k1 := Wd.cmpQs (m := 51 * r.of.length) (k := 20) y2 b2 y3 (Wd.QB.divInt (by omega) (by omega) (by omega)) (by omega)
  have hlt := Wd.cmpQ_lt (Wd.sumQ r.of l 0) (Rat.divInt r.tv 1)
  have heq := Wd.cmpQ_eq (Wd.sumQ r.of l 0) (Rat.divInt r.tv 1)
  rw [hq] at hlt heq
  refine orc_of ?_
  rw [eq41]
  simp only [STL, ↓reduceIte, Int.reduceBEq, Int.reduceEq, y1, b1, k1, hq]
  unfold holdB
  congr 2
  congr 1
  simp only [hlt, heq]
  by_cases hA : Wd.sumQ r.of l 0 < (r.tv : Rat) <;> by_cases hB : Wd.sumQ r.of l 0 = (r.tv : Rat) <;> simp [hA, hB, toC, beq_dec]
theorem n14q (er : Bool) (rs : List R) (e : Bool) (l : List Fr) (hn : l.length ≤ 12) (ok : ∀ r ∈ rs, OkR l.length r) (hx : ∀ x ∈ l, Wd.FrR x) (hl : rs.length ≤ 40) : ∀ (rest : List R) (i : Nat), rs.drop i = rest → Or Kq14n2 [LR er rs, LN e l, I (i : Int)] [] = some [tb (rest.all fun r => holdB (toC r) l)] := by
  intro rest
  induction rest with
  | nil =>
    intro i h
    have h1 : ¬ (i : Int) < (rs.length : Int) := by have := at_end h; omega
    refine orc_of ?_
    rw [eq14n2]
    simp only [STL, ↓reduceIte, Int.reduceBEq, Int.reduceEq, h1, eRs_len]
    rfl
  | cons r rest ih =>
    intro i h
    obtain ⟨g1, g2, g3⟩ := at_drop h
    have h1 : (i : Int) < (rs.length : Int) := by omega
    have h0 : 0 ≤ (i : Int) := by omega
    have k0 := s40q r e l hn (ok r (List.mem_of_getElem? g1)) hx
    have k1 := s41q r e l hn (ok r (List.mem_of_getElem? g1)) hx
    refine orc_of ?_
    rw [eq14n2]
    cases hb : holdB (toC r) l with
    | false =>
      rw [hb] at k1
      simp only [STL, ↓reduceIte, Int.reduceBEq, Int.reduceEq, h1, h0, and_self, eRs_len, eRs_get g1, k0, k1]
      simp [hb]
    | true =>
      rw [hb] at k1
      simp only [STL, ↓reduceIte, Int.reduceBEq, Int.reduceEq, h1, h0, and_self, eRs_len, eRs_get g1, k0, k1, next i (by omega), ih (i + 1) g3]
      simp [hb]
theorem s14q (er : Bool) (rs : List R) (e : Bool) (l : List Fr) (hn : l.length ≤ 12) (ok : ∀ r ∈ rs, OkR l.length r) (hx : ∀ x ∈ l, Wd.FrR x) (hl : rs.length ≤ 40) : Or (.call 14) [LR er rs, LN e l] [] = some [tb (rs.all fun r => holdB (toC r) l)] := by
  refine orc_of ?_
  rw [eq14]
  exact n14q er rs e l hn ok hx hl rs 0 rfl
def dotQ : List Int → List Rat → Rat
  | c :: of, x :: xs => x * (c : Rat) + dotQ of xs
  | _, _ => 0
theorem dot_nil (xs : List Rat) : dotQ [] xs = 0 := by cases xs <;> rfl
theorem sum_dot : ∀ (of : List Int) (l : List Fr) (acc : Rat), Wd.sumQ of l acc = acc + dotQ of (l.map Wd.frQ)
  | [], l, acc => by rw [dot_nil, Wd.sumQ]; grind
  | c :: of, [], acc => by simp only [Wd.sumQ, List.map_nil, dotQ]; grind
  | c :: of, x :: l, acc => by
    have h1 : Rat.divInt c 1 = (c : Rat) := div1 _
    rw [Wd.sumQ, sum_dot of l, h1, List.map_cons, dotQ]; grind
theorem dot_zeros (k : Nat) : ∀ (l : List Int) (xs : List Rat), dotQ (l ++ List.replicate k 0) xs = dotQ l xs
  | [], xs => by
    rw [List.nil_append, dot_nil]
    induction k generalizing xs with
    | zero => rw [List.replicate_zero, dot_nil]
    | succ k ih =>
      cases xs with
      | nil => rfl
      | cons x xs =>
        rw [List.replicate_succ, dotQ, ih xs]
        have : ((0 : Int) : Rat) = 0 := rfl
        rw [this]; grind
  | c :: l, [] => by simp [dotQ]
  | c :: l, x :: xs => by rw [List.cons_append, dotQ, dotQ, dot_zeros k l xs]
theorem dot_bz (l : List Int) (xs : List Rat) : dotQ (bz l) xs = dotQ l xs := by
  obtain ⟨k, hk⟩ := bz_split l
  have := dot_zeros k (bz l) xs
  rw [← hk] at this
  exact this.symm
theorem dot_pad (n : Nat) (l : List Int) (xs : List Rat) : dotQ (padL n l) xs = dotQ l xs := dot_zeros _ l xs
theorem dot_mul (s : Int) : ∀ (l : List Int) (xs : List Rat), dotQ (l.map (s * ·)) xs = (s : Rat) * dotQ l xs
  | [], xs => by rw [List.map_nil, dot_nil]; grind
  | c :: l, [] => by simp only [List.map_cons, dotQ]; grind
  | c :: l, x :: xs => by
    rw [List.map_cons, dotQ, dotQ, dot_mul s l xs, Rat.intCast_mul]; grind
theorem dot_neg (l : List Int) (xs : List Rat) : dotQ (negL l) xs = -dotQ l xs := by
  have h1 : negL l = l.map ((-1 : Int) * ·) := by unfold negL; congr 1; funext x; omega
  rw [h1, dot_mul]
  have : ((-1 : Int) : Rat) = -1 := rfl
  rw [this]; grind
theorem dot_div {g : Int} : ∀ {l : List Int} (xs : List Rat), (∀ x ∈ l, g ∣ x) → (g : Rat) * dotQ (divL g l) xs = dotQ l xs
  | [], xs, _ => by unfold divL; rw [List.map_nil, dot_nil]; grind
  | c :: l, [], _ => by simp only [divL, List.map_cons, dotQ]; grind
  | c :: l, x :: xs, h => by
    have ih := dot_div (l := l) xs (fun y hy => h y (List.mem_cons_of_mem _ hy))
    have hc : g * (c / g) = c := Int.mul_ediv_cancel' (h c List.mem_cons_self)
    have hq : (g : Rat) * ((c / g : Int) : Rat) = (c : Rat) := by rw [← Rat.intCast_mul, hc]
    unfold divL at ih ⊢
    rw [List.map_cons, dotQ, dotQ]
    grind
theorem dot_zip (p q : Int) : ∀ (a b : List Int) (xs : List Rat), a.length = b.length → dotQ (List.zipWith (fun x y => q * x + p * y) a b) xs = (q : Rat) * dotQ a xs + (p : Rat) * dotQ b xs
  | [], [], xs, _ => by simp only [List.zipWith_nil_left, dot_nil]; grind
  | [], _ :: _, _, h => by cases h
  | _ :: _, [], _, h => by cases h
  | c :: a, d :: b, [], _ => by simp only [List.zipWith_cons_cons, dotQ]; grind
  | c :: a, d :: b, x :: xs, h => by
    have ih := dot_zip p q a b xs (by simpa using h)
    rw [List.zipWith_cons_cons, dotQ, dotQ, dotQ, ih, Rat.intCast_add, Rat.intCast_mul, Rat.intCast_mul]; grind
/-- A row holds. -/
def holdC (c : C) (xs : List Rat) : Prop := (dotQ c.1 xs < (c.2.2 : Rat) ∧ c.2.1 ≠ 3) ∨ (dotQ c.1 xs = (c.2.2 : Rat) ∧ c.2.1 ≠ 2)
theorem holdB_iff (c : C) (l : List Fr) : holdB c l = true ↔ holdC c (l.map Wd.frQ) := by
  unfold holdB holdC
  rw [decide_eq_true_iff, sum_dot]
  have : (0 : Rat) + dotQ c.1 (l.map Wd.frQ) = dotQ c.1 (l.map Wd.frQ) := by grind
  rw [this]
/-- A bound holds. -/
def BH (b : Bn) (xs : List Rat) : Prop := dotQ b.of xs ≤ (b.to : Rat) ∧ (b.less = true → dotQ b.of xs < (b.to : Rat))
theorem cast_pos {g : Int} (h : 0 < g) : (0 : Rat) < (g : Rat) := by
  have : ((0 : Int) : Rat) < (g : Rat) := Rat.intCast_lt_intCast.2 h
  exact this
/-- What is divided holds where it held. -/
theorem scale {g : Int} (hg : 0 < g) {x y : Rat} : (g : Rat) * x < (g : Rat) * y ↔ x < y := Rat.mul_lt_mul_left (cast_pos hg)
theorem cast_div {g t : Int} (h : g ∣ t) : (g : Rat) * ((t / g : Int) : Rat) = (t : Rat) := by rw [← Rat.intCast_mul, Int.mul_ediv_cancel' h]
theorem hold_first {r : R} {xs : List Rat} (hk : r.kd = 1 ∨ r.kd = 2 ∨ r.kd = 3) : holdC (tidyC r) xs ↔ holdC (toC r) xs := by
  by_cases hz : bz r.of = []
  · have h0 : dotQ r.of xs = 0 := by rw [← dot_bz, hz, dot_nil]
    have e1 : tidyC r = ([], r.kd, noneF r.kd r.tv) := by unfold tidyC; rw [tidyF_none hz]
    rw [e1]
    unfold holdC
    simp only [toC, dot_nil, h0]
    have c0 : ∀ m : Int, ((0 : Rat) < (m : Rat) ↔ 0 < m) := fun m => by
      have : ((0 : Int) : Rat) < (m : Rat) ↔ 0 < m := Rat.intCast_lt_intCast
      exact this
    have c1 : ∀ m : Int, ((0 : Rat) = (m : Rat) ↔ 0 = m) := fun m => by
      have : ((0 : Int) : Rat) = (m : Rat) ↔ 0 = m := Rat.intCast_inj
      exact this
    rw [c0, c0, c1, c1]
    unfold noneF
    rcases hk with h | h | h <;> rw [h] <;> simp <;> (try split) <;> omega
  · obtain ⟨x, hx, h0⟩ := bz_last hz
    have hgp := gl_pos (g := r.tv.natAbs) hx h0
    have hg : (0 : Int) < (gl r.tv.natAbs (bz r.of) : Int) := by omega
    have hdv : ∀ x ∈ bz r.of, (gl r.tv.natAbs (bz r.of) : Int) ∣ x := fun x hx => gl_dvd hx
    have hdt : (gl r.tv.natAbs (bz r.of) : Int) ∣ r.tv := Int.ofNat_dvd_left.2 (gl_dvd0 _ r.tv.natAbs)
    have d1 := dot_div xs hdv
    rw [dot_bz] at d1
    have d2 := cast_div hdt
    have hg' := cast_pos hg
    have e1 : tidyC r = ((divL (gl r.tv.natAbs (bz r.of)) (bz r.of)).map (sg r.kd (bz r.of) * ·), r.kd, sg r.kd (bz r.of) * (r.tv / (gl r.tv.natAbs (bz r.of) : Int))) := by unfold tidyC; rw [tidyF_some hz]
    rw [e1]
    unfold holdC
    simp only [toC, dot_mul, Rat.intCast_mul]
    generalize dotQ (divL (gl r.tv.natAbs (bz r.of) : Int) (bz r.of)) xs = X at *
    generalize ((r.tv / (gl r.tv.natAbs (bz r.of) : Int) : Int) : Rat) = Y at *
    generalize (((gl r.tv.natAbs (bz r.of) : Nat) : Int) : Rat) = G at *
    rw [← d1, ← d2]
    rcases sg_or r.kd (bz r.of) with h | h
    · rw [h]
      have : ((1 : Int) : Rat) = 1 := rfl
      rw [this, Rat.mul_lt_mul_left hg']
      have e2 : (1 * X = 1 * Y) ↔ (G * X = G * Y) := ⟨fun h => by grind, fun h => by
        have : G ≠ 0 := fun h0 => by rw [h0] at hg'; exact absurd hg' (Rat.lt_irrefl)
        grind⟩
      rw [e2]
      have e3 : (1 * X < 1 * Y) ↔ X < Y := by rw [Rat.one_mul, Rat.one_mul]
      rw [e3]
    · have h3 : r.kd = 3 := by
        unfold sg at h
        split at h
        · rename_i h'; exact h'.1
        · cases h
      rw [h, h3]
      have : ((-1 : Int) : Rat) = -1 := rfl
      rw [this]
      have e2 : (-1 * X = -1 * Y) ↔ (G * X = G * Y) := ⟨fun h => by grind, fun h => by
        have : G ≠ 0 := fun h0 => by rw [h0] at hg'; exact absurd hg' (Rat.lt_irrefl)
        grind⟩
      rw [e2]
      simp
end Go.Aev.Gen
