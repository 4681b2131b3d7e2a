/-
  Out: the program's.
-/
import Derived.Test.YtobpninhnmmpeaaGreatZSide
set_option linter.unusedSimpArgs false
set_option linter.unusedVariables false
namespace Go.Aev.Gen
open Go Go.Aev

abbrev C := List Int × Int × Int
def cG (a b : Bn) (k : Nat) : Nat := Nat.gcd (a.of.getD k 0).natAbs (-(b.of.getD k 0)).natAbs
def cP (a b : Bn) (k : Nat) : Int := a.of.getD k 0 / (cG a b k : Int)
def cQ (a b : Bn) (k : Nat) : Int := -(b.of.getD k 0) / (cG a b k : Int)
def cL (a b : Bn) (k : Nat) : List Int := List.zipWith (fun x y => cQ a b k * x + cP a b k * y) a.of b.of
def cT (a b : Bn) (k : Nat) : Int := cQ a b k * a.to + cP a b k * b.to
def cKd (a b : Bn) : Int := if a.less || b.less then 2 else 1
def cC (a b : Bn) (k : Nat) : C := (mixL (cL a b k) (cT a b k), cKd a b, mixT (cL a b k) (cKd a b) (cT a b k))
def cOk (a b : Bn) (k : Nat) : Bool := mixK (cL a b k) (cT a b k)
def innF (k : Nat) (a : Bn) : List Bn → List C → Int × List C
  | [], acc => (0, acc)
  | b :: r, acc => if a.frm = b.frm then innF k a r acc else if cOk a b k = false then (10, []) else if acc.length + 1 > 40 then (2, []) else innF k a r (acc ++ [cC a b k])
def outF (k : Nat) (ls : List Bn) : List Bn → List C → Int × List C
  | [], acc => (0, acc)
  | a :: r, acc => if (innF k a ls acc).1 = 0 then outF k ls r (innF k a ls acc).2 else innF k a ls acc
def tidyC (r : R) : C := ((tidyF r.of r.kd r.tv).1, r.kd, (tidyF r.of r.kd r.tv).2)
def firsts (k : Nat) : List R → List C
  | [] => []
  | r :: rs => if r.of.getD k 0 = 0 then tidyC r :: firsts k rs else firsts k rs
structure OkB (n k : Nat) (b : Bn) : Prop where
  len : b.of.length = n
  of : Bd 1000000 b.of
  to : -1000000 ≤ b.to ∧ b.to ≤ 1000000
structure Up (n k : Nat) (b : Bn) : Prop extends OkB n k b where
  at' : b.of.getD k 0 > 0
structure Dn (n k : Nat) (b : Bn) : Prop extends OkB n k b where
  at' : b.of.getD k 0 < 0
theorem zip_bd {f : Int → Int → Int} {A : Int} : ∀ {x y : List Int}, (∀ a ∈ x, ∀ b ∈ y, -A ≤ f a b ∧ f a b ≤ A) → Bd A (List.zipWith f x y)
  | [], _, _ => by intro z hz; simp at hz
  | _ :: _, [], _ => by intro z hz; simp at hz
  | a :: x, b :: y, h => by
    intro z hz
    rw [List.zipWith_cons_cons] at hz
    rcases List.mem_cons.1 hz with rfl | hz
    · exact h a List.mem_cons_self b List.mem_cons_self
    · exact zip_bd (fun a ha b hb => h a (List.mem_cons_of_mem _ ha) b (List.mem_cons_of_mem _ hb)) z hz
theorem at_bd {b : Int} {l : List Int} {k : Nat} (h : Bd b l) (hb : 0 ≤ b) : -b ≤ l.getD k 0 ∧ l.getD k 0 ≤ b := by
  by_cases hk : k < l.length
  · exact h _ (List.mem_of_getElem? (getD_get hk))
  · rw [List.getD_eq_getElem?_getD, List.getElem?_eq_none (by omega)]; simp; omega
theorem pq {n k : Nat} {a b : Bn} (ha : Up n k a) (hb : Dn n k b) : 0 < (cG a b k : Int) ∧ (-1000000 ≤ cP a b k ∧ cP a b k ≤ 1000000) ∧ (-1000000 ≤ cQ a b k ∧ cQ a b k ≤ 1000000) := by
  have h1 := ha.at'
  have h2 := hb.at'
  have b1 := at_bd (k := k) ha.of (by omega)
  have b2 := at_bd (k := k) hb.of (by omega)
  have hg : 0 < cG a b k := Nat.gcd_pos_of_pos_left _ (by omega)
  have hg' : 0 < (cG a b k : Int) := by omega
  exact ⟨hg', div_bd hg' b1 (by omega), div_bd hg' (by omega) (by omega)⟩
theorem n18 (a b : Bn) (B2 : Blk) (k : Nat) (P Q : Int) (e2 : Bool) (n : Nat) (hn : n ≤ 12) (hP : -1000000 ≤ P ∧ P ≤ 1000000) (hQ : -1000000 ≤ Q ∧ Q ≤ 1000000) (ha : OkB n k a) (hb : OkB n k b)
    (h2 : B2 = Blk.box [AV.t (T.emp e2), I 0, I 0]) (e' : Bool) (L : List Int) (kd tv : Int) (ok : Bool) (full : List Int)
    (h42 : Or (.call 84) [lst false full, I (Q * a.to + P * b.to), B (a.less || b.less)] [] = some [T.lst 1 e' (enc L), ti kd, ti tv, tb ok]) : ∀ (ar br done : List Int), a.of.drop done.length = ar → b.of.drop done.length = br → full = done ++ List.zipWith (fun x y => Q * x + P * y) ar br →
    Or K18n6 [r0, AV.ref (Id.c 1) 0, AV.ref (Id.c 2) 0, I P, I Q, AV.own (Id.c 3), I (n : Int), I (done.length : Int)] [Blk.box [lst a.e a.of, I a.to, B a.less, I a.frm], Blk.box [lst b.e b.of, I b.to, B b.less, I b.frm], B2, Blk.sl false 1 false (enc (done ++ List.replicate ar.length 0))] =
      some [T.lst 1 e' (enc L), ti kd, ti tv, tb ok] := by
  subst h2
  intro ar
  induction ar with
  | nil =>
    intro br done h1 h2 hf
    have hle := at_end h1
    have hla := ha.len
    have hx : ¬ (done.length : Int) < (n : Int) := by omega
    have hw1 := mulb hQ ha.to
    have hw2 := mulb hP hb.to
    simp only [List.zipWith_nil_left, List.append_nil] at hf
    subst hf
    refine orc_of ?_
    rw [e18n6]
    simp only [cor]
    simp only [gd1, hd1, tl1, dr0, dr1, dr2, dr3, dr4, dr5, dr6, bo1, in1, st1, ls1, le1, pt1, fi1, fb1, fs1, ct1, cf1, nt1, nf1, ak0, akT, akF, cdec, cndec, cbeq, cnbeq, ↓reduceIte, beq_self_eq_true, Int.reduceBEq, Int.reduceEq, Bool.and_true, Bool.true_and, Bool.false_and, Bool.and_false, hx, wr (v := Q * a.to) (by omega), wr (v := P * b.to) (by omega), wr (v := Q * a.to + P * b.to) (by omega), List.length_nil, List.replicate_zero, List.append_nil, h42]
  | cons x ar ih =>
    intro br done h1 h2 hf
    obtain ⟨g1, g2, g3⟩ := at_drop h1
    have hla := ha.len
    have hlb := hb.len
    obtain ⟨y, br', rfl⟩ : ∃ y br', br = y :: br' := by
      cases br with
      | nil => have := at_end h2; omega
      | cons y br' => exact ⟨y, br', rfl⟩
    obtain ⟨f1, f2, f3⟩ := at_drop h2
    have hlt : (done.length : Int) < (n : Int) := by omega
    have hlta : (done.length : Int) < (a.of.length : Int) := by omega
    have hltb : (done.length : Int) < (b.of.length : Int) := by omega
    have h0 : 0 ≤ (done.length : Int) := by omega
    have hx := ha.of x (List.mem_of_getElem? g1)
    have hy := hb.of y (List.mem_of_getElem? f1)
    have hw1 := mulb hQ hx
    have hw2 := mulb hP hy
    have hst : storeIn (done.length : Int).toNat 0 [ti (Q * x + P * y)] (enc (done ++ List.replicate (x :: ar).length 0)) = some (enc ((done ++ [Q * x + P * y]) ++ List.replicate ar.length 0)) := by
      rw [List.length_cons, List.replicate_succ, enc_set (by simp), set_mid _ _ _ _ _ rfl]; simp
    have hl3 : (done.length : Int) < ((done ++ List.replicate (x :: ar).length 0).length : Int) := by simp; omega
    have hn1 : (done ++ [Q * x + P * y]).length = done.length + 1 := by simp
    have := ih br' (done ++ [Q * x + P * y]) (by rw [hn1]; exact g3) (by rw [hn1]; exact f3) (by rw [hf]; simp)
    rw [hn1] at this
    refine orc_of ?_
    rw [e18n6]
    simp only [gd1, hd1, tl1, dr0, dr1, dr2, dr3, dr4, dr5, dr6, bo1, in1, st1, ls1, le1, pt1, fi1, fb1, fs1, ct1, cf1, nt1, nf1, ak0, akT, akF, cdec, cndec, cbeq, cnbeq, ↓reduceIte, beq_self_eq_true, Int.reduceBEq, Int.reduceEq, Bool.and_true, Bool.true_and, Bool.false_and, Bool.and_false, hlt, hlta, hltb, hl3, h0, and_self, enc_len, enc_get g1, enc_get f1, wr (v := Q * x) (by omega), wr (v := P * y) (by omega), wr (v := Q * x + P * y) (by omega), hst, next done.length (by omega)]
    exact this
theorem s18 (a b : Bn) (n k : Nat) (hn : n ≤ 12) (hk : k < n) (ha : Up n k a) (hb : Dn n k b) :
    ∃ e', (e' = true → (cC a b k).1 = []) ∧ Or (.call 39) [AV.agg [lst a.e a.of, I a.to, B a.less, I a.frm], AV.agg [lst b.e b.of, I b.to, B b.less, I b.frm], I (k : Int)] [] =
      some [T.lst 1 e' (enc (cC a b k).1), ti (cC a b k).2.1, ti (cC a b k).2.2, tb (cOk a b k)] := by
  obtain ⟨hg, hP, hQ⟩ := pq ha hb
  have hla := ha.len
  have hlb := hb.len
  have h1 := ha.at'
  have h2 := hb.at'
  have b1 := at_bd (k := k) ha.of (by omega)
  have b2 := at_bd (k := k) hb.of (by omega)
  have hgn : ¬ (cG a b k : Int) = 0 := by omega
  have k1 := s41 (a.of.getD k 0) (-(b.of.getD k 0)) (by omega) (by omega)
  have dv1 : (cG a b k : Int) ∣ a.of.getD k 0 := Int.ofNat_dvd_left.2 (Nat.gcd_dvd_left _ _)
  have dv2 : (cG a b k : Int) ∣ -(b.of.getD k 0) := Int.ofNat_dvd_left.2 (Nat.gcd_dvd_right _ _)
  have t1 := mulb hQ ha.to
  have t2 := mulb hP hb.to
  obtain ⟨e', k2e, k2⟩ := s42 false (cL a b k) (cT a b k) (a.less || b.less) (zip_bd fun x hx y hy => by
      have := mulb hQ (ha.of x hx)
      have := mulb hP (hb.of y hy)
      omega) (by simp [cL]; omega) (by unfold cT; omega)
  have k3 := n18 a b _ k (cP a b k) (cQ a b k) true n hn hP hQ ha.toOkB hb.toOkB rfl e' _ _ _ _ (cL a b k) k2 a.of b.of [] rfl rfl rfl
  refine ⟨e', k2e, orc_of ?_⟩
  rw [e18]
  have ka : 0 ≤ (k : Int) ∧ (k : Int) < (a.of.length : Int) := by omega
  have kb : 0 ≤ (k : Int) ∧ (k : Int) < (b.of.length : Int) := by omega
  have hga := enc_get (getD_get (l := a.of) (k := k) (by omega))
  have hgb := enc_get (getD_get (l := b.of) (k := k) (by omega))
  have hw : IntKind.i64.wrap (0 - b.of.getD k 0) = -(b.of.getD k 0) := by rw [wr (by omega)]; omega
  have hmk : mkOk (a.of.length : Int) (a.of.length : Int) = some () := by unfold mkOk; rw [if_pos (by unfold lim; omega)]
  have hGG : ((Nat.gcd (a.of.getD k 0).natAbs (-(b.of.getD k 0)).natAbs : Nat) : Int) = (cG a b k : Int) := rfl
  have hpp : a.of.getD k 0 / (cG a b k : Int) = cP a b k := rfl
  have hqq : -(b.of.getD k 0) / (cG a b k : Int) = cQ a b k := rfl
  have hrep : List.replicate (a.of.length : Int).toNat [ti 0] = enc (List.replicate a.of.length 0) := by simp [enc]
  have hrl : ((enc (List.replicate a.of.length 0)).length : Int) = (n : Int) := by simp [enc]; omega
  rw [hGG] at k1
  simp only [gd1, hd1, tl1, dr0, dr1, dr2, dr3, dr4, dr5, dr6, bo1, in1, st1, ls1, le1, pt1, fi1, fb1, fs1, ct1, cf1, nt1, nf1, ak0, akT, akF, cdec, cndec, cbeq, cnbeq, ↓reduceIte, beq_self_eq_true, Int.reduceBEq, Int.reduceEq, Bool.and_true, Bool.true_and, Bool.false_and, Bool.and_false, enc_len, ka, kb, and_self, hga, hgb, hw, k1, hgn, hmk, tdiv_dvd dv1, tdiv_dvd dv2, hpp, hqq, wr (v := cP a b k) (by omega), wr (v := cQ a b k) (by omega), hrep]
  simp only [enc_len, List.length_replicate, hla]
  simp only [List.nil_append, hla, List.length_nil] at k3
  exact k3
end Go.Aev.Gen
