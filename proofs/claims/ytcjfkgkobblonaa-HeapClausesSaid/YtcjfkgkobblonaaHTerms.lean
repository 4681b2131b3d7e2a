/-
  What heap.terms returns (a map, ranged over, and sorted): walked with the library's own tactics.
-/
import Derived.Test.YtcjfkgkobblonaaHLay
import Derived.Maps.OwnOps
import Derived.Maps.RangeWalk
import Derived.Maps.AppendAt
import Derived.WalkKit
import Derived.Deep.QuietTactic
import Derived.BigQuiet
import Derived.StillTailTactics
set_option linter.unusedSimpArgs false
set_option linter.unusedVariables false
namespace Go.Proofs.Ytcjfkgkobblonaa
open Go Go.Shelf Go.RowKit Go.Lib Go.Sort Go.Maps Go.Proofs

def varF (x : Int) : Int := max x (wrap64 (-x))
def cmpF (x y : Int × Int) : Int := Lib.compareInt (varF x.1) (varF y.1)
def encT (x : Int × Int) : List Value := [.int .i64 x.1, .int .i64 x.2]

set_option maxHeartbeats 1000000 in
theorem var34 (x : Int) (W : World) : Calls Try.prog 34 #[.int .i64 x] W fun e w' => e = .returned (.int .i64 (varF x)) ∧ w' = W := by
  go_enter Try.func34, Try.ntmps34
  go_wp2
  go_ret
  exact ⟨rfl, rfl⟩


set_option maxHeartbeats 1000000 in
theorem closure46 (x y : Int × Int) (W : World) : Calls Try.prog 46 #[.agg #[.int .i64 x.1, .int .i64 x.2], .agg #[.int .i64 y.1, .int .i64 y.2]] W fun e w' => e = .returned (.int .i64 (cmpF x y)) ∧ ∃ q os', w' = grow (W.drewN q) os' := by
  have hcon := fun a b W' => AnyG.cmp_Compare_int cmpInt a b W'
  change ∀ a b W', Calls Try.prog 47 _ _ _ at hcon
  unfold cmpF
  go_enter Try.func46, Try.ntmps46
  go_wp2
  have c1 : ((W.alloc (.cells #[.int .i64 x.1, .int .i64 x.2] 68)).alloc (.cells #[.int .i64 y.1, .int .i64 y.2] 68)).cell? ⟨W.heap.size, 0, none⟩ = some (.int .i64 x.1) := by
    unfold World.cell?
    rw [Below.heap_alloc _ _ _ (by simp), heap_alloc_new]; rfl
  have c2 : ((W.alloc (.cells #[.int .i64 x.1, .int .i64 x.2] 68)).alloc (.cells #[.int .i64 y.1, .int .i64 y.2] 68)).cell? ⟨W.heap.size + 1, 0, none⟩ = some (.int .i64 y.1) := by
    have e : W.heap.size + 1 = (W.alloc (.cells #[.int .i64 x.1, .int .i64 x.2] 68)).heap.size := by simp
    unfold World.cell?
    rw [e, heap_alloc_new]; rfl
  have hgr : (W.alloc (.cells #[.int .i64 x.1, .int .i64 x.2] 68)).alloc (.cells #[.int .i64 y.1, .int .i64 y.2] 68) = grow W #[.cells #[.int .i64 x.1, .int .i64 x.2] 68, .cells #[.int .i64 y.1, .int .i64 y.2] 68] := by
    rw [alloc_eq_grow, alloc_eq_grow, grow_grow]; rfl
  generalize (W.alloc (.cells #[.int .i64 x.1, .int .i64 x.2] 68)).alloc (.cells #[.int .i64 y.1, .int .i64 y.2] 68) = w2 at c1 c2 hgr ⊢
  replace hgr : Hid (w2 = grow W #[.cells #[.int .i64 x.1, .int .i64 x.2] 68, .cells #[.int .i64 y.1, .int .i64 y.2] 68]) := hgr
  go_quiet (first | (go_at_call 34; refine Calls.quiet_of_same (var34 _ _)) | (go_at_call 47; refine Calls.quiet_of_same (hcon _ _ _)))
  go_wp2
  go_ret
  exact ⟨rfl, _, _, by rw [show w2 = _ from hgr]; rfl⟩

theorem cmpLays46 (blk off size : Nat) (w : World) : CmpLays Try.prog 46 #[] encT 2 cmpF blk off size w := fun _ _ _ _ x y => closure46 x y _

theorem ltF (x y : Int × Int) : ltOf cmpF x y = decide (varF x.1 < varF y.1) := by
  unfold ltOf cmpF Lib.compareInt
  by_cases h1 : varF x.1 < varF y.1
  · simp [h1]
  · by_cases h2 : varF y.1 < varF x.1 <;> simp [h1, h2]
theorem swoF : SWO (ltOf cmpF) where
  irrefl x := by rw [ltF]; simp
  trans x y z h1 h2 := by rw [ltF] at *; simp at *; omega
  ntrans x y z h1 h2 := by rw [ltF] at *; simp at *; omega

/-! ### The first loop: what the map holds behind k rounds -/
structure Tm where
  amt : Int → Int
  has : Int → Bool
  base : Int
def tmStep (s : Tm) (l o : Int) : Tm :=
  if 0 < l then ⟨fun v => if v = l then wrap64 (s.amt l + o) else s.amt v, fun v => v == l || s.has v, s.base⟩
  else ⟨fun v => if v = wrap64 (-l) then wrap64 (s.amt (wrap64 (-l)) - o) else s.amt v, fun v => v == wrap64 (-l) || s.has v, wrap64 (s.base + o)⟩
def tmF (ls os : List Int) : Nat → Tm
  | 0 => ⟨fun _ => 0, fun _ => false, 0⟩
  | k + 1 => tmStep (tmF ls os k) (ls.getD k 0) (os.getD k 0)

abbrev DU := DataW Unit
/-- The map's datum is what 's' says. -/
def TmD (s : Tm) (D : DU) : Prop := IsMap D ∧ ∀ v : Int, (Lit.int .i64 v).wf = true → D.atKey (.int .i64 v) (.lit (.int .i64 0)) = .lit (.int .i64 (s.amt v)) ∧ Maps.has D (.int .i64 v) = s.has v
theorem tmD_start (ls os : List Int) : TmD (tmF ls os 0) (.map []) := ⟨isMap_empty, fun v _ => ⟨rfl, rfl⟩⟩
theorem tmD_put {s : Tm} {D : DU} (h : TmD s D) (l a : Int) : TmD ⟨fun v => if v = l then a else s.amt v, fun v => v == l || s.has v, s.base⟩ (D.put (.int .i64 l) (.lit (.int .i64 a))) := by
  refine ⟨h.1.put _ _, fun v hv => ?_⟩
  by_cases e : v = l
  · subst e
    have hkl : WideAt.IsKeyLit (.int .i64 v) := trivial
    exact ⟨by rw [atKey_put_same h.1 hkl]; simp, by rw [has_put_same h.1 hkl]; simp⟩
  · have hne : (Lit.int .i64 v) ≠ (Lit.int .i64 l) := by intro h; injection h with _ h; exact e h
    exact ⟨by rw [atKey_put_other hne, (h.2 v hv).1]; simp [e], by rw [has_put_other hne, (h.2 v hv).2]; simp [e]⟩
theorem tmD_base {s : Tm} {D : DU} (h : TmD s D) (b : Int) : TmD ⟨s.amt, s.has, b⟩ D := h

theorem wfAt {zs : List Int} (hwz : ∀ n ∈ zs, (Lit.int .i64 n).wf = true) (k : Nat) : (Lit.int .i64 (zs.getD k 0)).wf = true := by
  by_cases hk : k < zs.length
  · rw [List.getD, List.getElem?_eq_getElem hk]
    exact hwz _ (List.getElem_mem hk)
  · rw [List.getD, List.getElem?_eq_none (by omega)]
    decide

theorem law3 : Keyed Try.prog 3 := int_keyed Try.underlying3
theorem zero3 (w : World) : (zeroValue 3).run Try.prog w = .ok (.int .i64 0) w := by kernel_rfl
theorem info68 : (Try.prog.info? 68).map (fun i => (i.zero, i.size, i.bytes)) = some (some (.agg #[.int .i64 0, .int .i64 0]), 2, 16) := by kernel_rfl

theorem tmD_pos {s : Tm} {D : DU} (h : TmD s D) {l x c : Int} (h0 : 0 < l) (hw : (Lit.int .i64 l).wf = true) (hc : D.atKey (.int .i64 l) (.lit (.int .i64 0)) = .lit (.int .i64 c)) :
    TmD (tmStep s l x) (D.put (.int .i64 l) (.lit (.int .i64 (wrap64 (c + x))))) := by
  have e : c = s.amt l := by
    have := (h.2 l hw).1; rw [hc] at this; simpa using this
  subst e
  unfold tmStep; rw [if_pos h0]
  exact tmD_put h l _
theorem tmD_neg {s : Tm} {D : DU} (h : TmD s D) {l x c : Int} (h0 : ¬ 0 < l) (hc : D.atKey (.int .i64 (wrap64 (-l))) (.lit (.int .i64 0)) = .lit (.int .i64 c)) :
    TmD (tmStep s l x) (D.put (.int .i64 (wrap64 (-l))) (.lit (.int .i64 (wrap64 (c - x))))) := by
  have e : c = s.amt (wrap64 (-l)) := by
    have := (h.2 _ (wrap64_wf (-l))).1; rw [hc] at this; simpa using this
  subst e
  unfold tmStep; rw [if_neg h0]
  exact tmD_base (tmD_put h (wrap64 (-l)) _) _

/-- What the loops leave. -/
def termL (s : Tm) : List Int → List (Int × Int)
  | [] => []
  | v :: r => if 0 < s.amt v then (v, s.amt v) :: termL s r else if s.amt v < 0 then (wrap64 (-v), wrap64 (-s.amt v)) :: termL s r else termL s r
def baseL (s : Tm) : List Int → Int → Int
  | [], b => b
  | v :: r, b => baseL s r (if s.amt v < 0 then wrap64 (b + s.amt v) else b)

def flatT (L : List (Int × Int)) : List Value := L.flatMap encT
theorem flatT_append (a b : List (Int × Int)) : flatT (a ++ b) = flatT a ++ flatT b := by simp [flatT]
theorem flatT_length (L : List (Int × Int)) : (flatT L).length = L.length * 2 := by
  induction L with
  | nil => rfl
  | cons x r ih => simp only [flatT, List.flatMap_cons, List.length_append] at ih ⊢; rw [ih]; simp [encT]; omega
theorem termL_append (s : Tm) (a b : List Int) : termL s (a ++ b) = termL s a ++ termL s b := by
  induction a with
  | nil => rfl
  | cons v r ih => simp only [List.cons_append, termL, ih]; (repeat' split) <;> rfl
theorem baseL_append (s : Tm) (a c : List Int) (b : Int) : baseL s (a ++ c) b = baseL s c (baseL s a b) := by
  induction a generalizing b with
  | nil => rfl
  | cons v r ih => simp only [List.cons_append, baseL, ih]
theorem termL_length (s : Tm) (a : List Int) : (termL s a).length ≤ a.length := by
  induction a with
  | nil => simp [termL]
  | cons v r ih => simp only [termL]; (repeat' split) <;> simp only [List.length_cons] <;> omega

theorem size_le {w : World} {b n : Nat} {D : DU} (h : w.ownsMap Try.prog 3 (plainElem Try.prog 3) b n D) : Maps.size D ≤ n := by
  obtain ⟨es, clock, hb, F, hs, rfl⟩ := h
  simp [Maps.size, length_sorted]; exact hs

theorem cells_new2 (w : World) (x y : Value) (t : TypeId) : ∀ j u, [x, y][j]? = some u → (w.alloc (.cells #[x, y] t)).cell? ((⟨w.heap.size, 0, none⟩ : Addr).add j) = some u := by
  intro j u h
  have hb : ((⟨w.heap.size, 0, none⟩ : Addr).add j) = ⟨w.heap.size, j, none⟩ := by unfold Addr.add; split <;> simp_all
  rw [hb]
  unfold World.cell?
  rw [heap_alloc_new]
  match j, h with
  | 0, h => simpa using h
  | 1, h => simpa using h

structure DnOk (s : Tm) (dn : List Int) : Prop where
  nodup : dn.Nodup
  mem : ∀ v ∈ dn, s.has v = true ∧ (Lit.int .i64 v).wf = true

theorem dnOk_snoc {s : Tm} {dn : List Int} {x : Int} (h : DnOk s dn) (hw : (Lit.int .i64 x).wf = true) (hl : (s.has x && !dn.contains x) = true) : DnOk s (dn ++ [x]) := by
  simp only [Bool.and_eq_true, Bool.not_eq_true', List.contains_eq_mem, decide_eq_false_iff_not] at hl
  refine ⟨?_, fun v hv => ?_⟩
  · rw [List.nodup_append]
    exact ⟨h.nodup, by simp, fun a ha b hb => by simp at hb; subst hb; exact fun e => hl.2 (e ▸ ha)⟩
  · rcases List.mem_append.1 hv with hv | hv
    · exact h.mem v hv
    · simp at hv; subst hv; exact ⟨hl.1, hw⟩

/-- What the slice holds that is handed back. -/
def RowT (w' : World) (B : Nat) (v : Value) (d : Array (Int × Int)) : Prop :=
  (v = .slice none 0 0 ∧ d = #[]) ∨ ∃ g cap, 0 < d.size ∧ v = .slice (some ⟨g, 0, none⟩) d.size cap ∧ d.size ≤ cap ∧ B ≤ g ∧ g < w'.heap.size ∧ HoldsK encT 2 w' g 0 d

theorem get_flatT : ∀ (L : List (Int × Int)) (t : Nat), (h : t / 2 < L.length) → (flatT L)[t]? = some ((encT L[t / 2])[t % 2]?.getD undef)
  | [], t, h => by simp at h
  | x :: r, t, h => by
    match t with
    | 0 => simp [flatT, encT]
    | 1 => simp [flatT, encT]
    | t + 2 =>
      have e : (t + 2) / 2 = t / 2 + 1 := by omega
      have h' : t / 2 < r.length := by rw [e] at h; simpa using h
      have ih := get_flatT r t h'
      have e3 : (t + 2) % 2 = t % 2 := by omega
      have e2 : (flatT (x :: r))[t + 2]? = (flatT r)[t]? := by simp [flatT, encT]
      rw [e2, ih, e3]
      simp [e]

theorem holdsK_row {w : World} {g : Nat} {cur : Array Value} {e : TypeId} (L : List (Int × Int)) (h : w.heap[g]? = some (.cells cur e (0, 0))) (ht : cur.toList.take (L.length * 2) = flatT L) : HoldsK encT 2 w g 0 L.toArray := by
  intro j hj
  have hj2 : j < L.length * 2 := by simpa [flatK] using hj
  have hd : j / 2 < L.length := by omega
  refine ⟨?_, by simp [World.frozen?, h]⟩
  have h1 : cur.toList[j]? = (flatT L)[j]? := by rw [← ht, List.getElem?_take, if_pos hj2]
  rw [get_flatT L j hd] at h1
  rw [get_flatK _ _ _ j (by simpa using hj2)]
  simp only [World.cell?, h, Nat.zero_add]
  rw [show cur[j]? = cur.toList[j]? by simp, h1]
  have e4 : L.toArray[j / 2]! = L[j / 2] := by simp [hd]
  rw [e4]
  have : j % 2 = 0 ∨ j % 2 = 1 := by omega
  rcases this with e | e <;> rw [e] <;> rfl

theorem below_sort {B blk m : Nat} {w w1 : World} {d : Array (Int × Int)} {os : Array Obj} (h : Below B w w1) (hb : B ≤ blk) (hs : B ≤ w1.heap.size) : Below B w (sortWorldK encT 2 w1 blk 0 m d os) := by
  refine ⟨h.os, h.tape, h.output, Nat.le_trans h.size (by simp [sortWorldK, putRowK, putRow, mapBlock, ahead, grow]), fun k hk => ?_⟩
  rw [← h.block k hk]
  have hk1 : k < w1.heap.size := Nat.lt_of_lt_of_le hk hs
  simp only [sortWorldK, putRowK, putRow, mapBlock, ahead, grow]
  rw [Array.getElem?_append_left (by simpa [Sort.ahead] using hk1), Array.getElem?_modify, if_neg (by omega)]; rfl

theorem round_end {w w1 w2 : World} {D : DU} {left : Lit → Bool} {r k cnt n : Nat} {v : Value} {xs : List Value} {o : Obj} (hrg : w1.ranges Try.prog 3 (plainElem Try.prog 3) w.heap.size r k D left cnt) (hnx : Below w.heap.size w w1)
    (hrow : w1.ownsRow (r + 1) 68 2 v n xs) (hrs : r + 1 ≤ w1.heap.size) (hrb : w.heap.size < r) (hg : (w1.alloc o).grownBy w2 v.ownBlock) :
    w2.ranges Try.prog 3 (plainElem Try.prog 3) w.heap.size r k D left cnt ∧ Below w.heap.size w w2 ∧ r + 1 ≤ w2.heap.size := by
  have hne : ∀ b, b ≤ r → some b ≠ v.ownBlock := fun b hb e => by
    have := (hrow.lt b e.symm).1; omega
  have hall := (World.grownBy_alloc w1 o v.ownBlock).trans hg
  exact ⟨(hrg.alloc o).kept hg (hne _ (by omega)) (hne _ (by omega)), hnx.grown hall (by omega) (fun j hj => by have := (hrow.lt j hj).1; omega), Nat.le_trans hrs hall.size⟩

set_option maxRecDepth 100000 in
set_option maxHeartbeats 4000000 in
theorem terms_any (b1 o1 len c1 b2 o2 c2 : Nat) (ls os : List Int) (w : World) (h0 : 0 < len) (hreach : len * 16 ≤ 1000000) (hl : len ≤ ls.length) (ho : len ≤ os.length) (hb1 : b1 < w.heap.size) (hb2 : b2 < w.heap.size)
    (hc1 : ∀ j, j < ls.length → w.cell? ⟨b1, o1 + j, none⟩ = some (.int .i64 (ls.getD j 0))) (hc2 : ∀ j, j < os.length → w.cell? ⟨b2, o2 + j, none⟩ = some (.int .i64 (os.getD j 0)))
    (hw1 : ∀ n ∈ ls, (Lit.int .i64 n).wf = true) :
    Calls Try.prog 40 #[.slice (some ⟨b1, o1, none⟩) len c1, .slice (some ⟨b2, o2, none⟩) os.length c2] w fun e w' => ∃ (v : Value) (dn : List Int) (d : Array (Int × Int)), e = .returned (.tuple #[v, .int .i64 (baseL (tmF ls os len) dn (tmF ls os len).base)]) ∧ Below w.heap.size w w' ∧
      DnOk (tmF ls os len) dn ∧ (∀ v, (Lit.int .i64 v).wf = true → (tmF ls os len).has v = true → v ∈ dn) ∧ d.toList.Perm (termL (tmF ls os len) dn) ∧ SortedIn (ltOf cmpF) 0 d.size d ∧ RowT w' w.heap.size v d := by
  have hmm := @run_makeMap Try.prog
  obtain ⟨i0, hi, hz0, hz1, hz2⟩ := info_parts info68
  go_enter Try.func40, Try.ntmps40
  go_wp2
  go_loopw [16, 7] (fun i bs wr => ∃ (k : Nat) (D : DU), k ≤ len ∧ i = .int .i64 k ∧ bs = .int .i64 (tmF ls os k).base ∧ wr.ownsMap Try.prog 3 (plainElem Try.prog 3) w.heap.size k D ∧ TmD (tmF ls os k) D ∧ Below w.heap.size w wr)
    (fun i _ _ => len - (intOf i).toNat)
  case atStart => exact ⟨0, .map [], Nat.zero_le _, rfl, rfl, World.ownsMap_made _ _ _ _, tmD_start _ _, (Below.refl _ _).alloc (Nat.le_refl _) _⟩
  case round =>
    obtain ⟨k, D, hk, rfl, rfl, hown, htm, hnx⟩ := hrel
    have hkl : k < len → tmF ls os (k + 1) = tmStep (tmF ls os k) (ls.getD k 0) (os.getD k 0) := fun _ => rfl
    have hcx : k < len → wr.cell? ⟨b1, o1 + k, none⟩ = some (.int .i64 (ls.getD k 0)) := fun _ => (hnx.cell (by exact hb1)).trans (hc1 k (by omega))
    have hcy : k < len → wr.cell? ⟨b2, o2 + k, none⟩ = some (.int .i64 (os.getD k 0)) := fun _ => (hnx.cell (by exact hb2)).trans (hc2 k (by omega))
    have hwx : (Lit.int .i64 (ls.getD k 0)).wf = true := wfAt hw1 k
    generalize ls.getD k 0 = l at hkl hcx hwx
    generalize os.getD k 0 = x at hkl hcy
    have hownd := hown.drew
    have hnxd := hnx.drew
    have hsz := size_le hown
    have hcxd : k < len → wr.drew.cell? ⟨b1, o1 + k, none⟩ = some (.int .i64 l) := hcx
    have hcyd : k < len → wr.drew.cell? ⟨b2, o2 + k, none⟩ = some (.int .i64 x) := hcy
    go_wp2_with (first | (at_range; refine wpList_range_own _ rfl _ 74 rfl 3 3 law3 Try.underlying74 _ w.heap.size k _ rfl hown ?_; intro w0 hrg0 hg0 hs0) | go_in)
    · have hko : k < os.length := by omega
      have hkl2 := hkl (by assumption)
      have hl0 : 0 < l := by assumption
      refine wp_region_still_tail 8 (by kernel_rfl) (by kernel_rfl) ?_
      change wpStill _ _ wr.drew (fun a' => wpList _ _ _ _ a' wr.drew) _ _
      clear hown hnx hcx hcy
      generalize wr.drew = wd at hownd hnxd hcxd hcyd ⊢
      obtain ⟨c, hrunc, hatc, hwc⟩ := hownd.lookup_int law3 Try.underlying74 Try.underlying3 (zero3 _) (keyOf_int_mk Try.underlying3 hwx)
      simp only [List.take_succ_cons, List.take_zero, List.drop_succ_cons, List.drop_zero]
      repeat (still_step; try simp only [IntWalk.i64_left])
      refine wpStill_nil ?_
      refine wpList_mapUpdate_own _ rfl _ _ _ 74 rfl 3 3 law3 Try.underlying74 _ w.heap.size k _ rfl hownd (by unfold maxLen; omega) _ _ _ rfl rfl (keyOf_int_mk Try.underlying3 hwx) (.lit (.int .i64 (wrap64 (c + x)))) [] (plainElem_int Try.underlying3 (wrap64_wf (c + x))) ?_; intro w1 hown1 hgrow1; go_wp2
      go_roundw
      case rel => exact ⟨k + 1, _, by omega, by go_num, by rw [hkl2]; simp [tmStep, hl0], hown1, by rw [hkl2]; exact tmD_pos htm hl0 hwx hatc, hnxd.grown hgrow1 hnxd.size (fun j hj => by cases hj; exact Nat.le_refl _)⟩
      case measure => simp [intOf]; omega
    · have hko : k < os.length := by omega
      have hkl2 := hkl (by assumption)
      have hl0 : ¬ 0 < l := by omega
      refine wp_region_still_tail 8 (by kernel_rfl) (by kernel_rfl) ?_
      change wpStill _ _ wr.drew (fun a' => wpList _ _ _ _ a' wr.drew) _ _
      clear hown hnx hcx hcy
      generalize wr.drew = wd at hownd hnxd hcxd hcyd ⊢
      obtain ⟨c, hrunc, hatc, hwc⟩ := hownd.lookup_int law3 Try.underlying74 Try.underlying3 (zero3 _) (keyOf_int_mk Try.underlying3 (wrap64_wf (-l)))
      simp only [List.take_succ_cons, List.take_zero, List.drop_succ_cons, List.drop_zero]
      repeat (still_step; try simp only [IntWalk.i64_left])
      refine wpStill_nil ?_
      go_wp2_with (first | (at_mapUpdate; refine wpList_mapUpdate_own _ rfl _ _ _ 74 rfl 3 3 law3 Try.underlying74 _ w.heap.size k _ rfl hownd (by unfold maxLen; omega) _ _ _ rfl rfl (keyOf_int_mk Try.underlying3 (wrap64_wf (-l))) (.lit (.int .i64 (wrap64 (c - x)))) [] (plainElem_int Try.underlying3 (wrap64_wf (c - x))) ?_; intro w1 hown1 hgrow1; have hcy1 : w1.cell? ⟨b2, o2 + k, none⟩ = some (.int .i64 x) := hgrow1.cell (hcyd (by assumption)) (by simp; omega)) | go_in)
      go_roundw
      case rel => exact ⟨k + 1, _, by omega, by go_num, by rw [hkl2]; simp [tmStep, hl0], hown1, by rw [hkl2]; exact tmD_neg htm hl0 hatc, hnxd.grown hgrow1 hnxd.size (fun j hj => by cases hj; exact Nat.le_refl _)⟩
      case measure => simp [intOf]; omega
    · have hkk : k = len := by omega
      subst hkk
      clear hcx hcy hkl hwx hcxd hcyd hownd hnxd
      have hnx0 := hnx.grown hg0 hnx.size (fun j hj => by cases hj)
      have hrb : w.heap.size < wr.heap.size := hown.lt
      generalize hsE : tmF ls os k = s at htm ⊢
      generalize wr.heap.size = r at hrg0 hs0 hrb ⊢
      clear hnx hown hg0 hmm hc1 hc2
      go_frame
      generalize Value.bool (decide (k < k)) = vbb
      go_loopw [10, 7] (fun v bs wl => ∃ (dn : List Int) (left : Lit → Bool) (cnt : Nat), bs = .int .i64 (baseL s dn s.base) ∧ wl.ranges Try.prog 3 (plainElem Try.prog 3) w.heap.size r k D left cnt ∧ DnOk s dn ∧
          (∀ z : Int, (Lit.int .i64 z).wf = true → left (.int .i64 z) = (s.has z && !dn.contains z)) ∧ dn.length + cnt ≤ k ∧ wl.ownsRow (r + 1) 68 2 v (termL s dn).length (flatT (termL s dn)) ∧ r + 1 ≤ wl.heap.size ∧ Below w.heap.size w wl ∧ (termL s dn = [] → v = .slice none 0 0))
        (fun _ _ wl => wl.rangeLeft w.heap.size r)
      case atStart =>
        refine ⟨[], _, _, rfl, hrg0, ⟨List.nodup_nil, by simp⟩, fun z hz => by simp [(htm.2 z hz).2], by simpa using hsz, World.ownsRow_nil _ _ _ _, by omega, hnx0, fun _ => rfl⟩
      case round =>
        obtain ⟨dn, left, cnt, rfl, hrg, hdn, hleft, hcnt, hrow, hrs, hnx, hnilv⟩ := hrel
        go_wp2_with (first
          | (at_next; refine wpList_next_ranges_ii _ rfl _ rfl 3 3 .i64 .i64 law3 Try.underlying3 Try.underlying3 w.heap.size r k _ _ _ rfl hrg ?_ ?_)
          | go_in)
        · intro _ hl0
          have hall : ∀ z : Int, (Lit.int .i64 z).wf = true → s.has z = true → z ∈ dn := fun z hz hs => by
            have := hleft z hz
            rw [hl0] at this
            simpa [hs] using this.symm
          have hlen := termL_length s dn
          clear hleft htm hrg hrg0 hnx0 hl0
          rcases hrow.2 with ⟨rfl, hn0⟩ | ⟨g, cap, cur, rfl, hg, hgc, hnc, hcm, hcs, htake⟩
          · have hcon := fun W => AnyF.slices_SortFunc_none sortT none 0 (.func (.func 46) #[] #[]) W
            change ∀ W, Calls Try.prog 45 _ _ _ at hcon
            go_wp2_with (go_at_call 45; refine (hcon _).mono ?_; rintro e w' ⟨rfl, rfl⟩)
            go_ret2
            simp only [hsE]
            refine ⟨.slice none 0 0, dn, #[], by simp, hnx, hdn, hall, ?_, ?_, .inl ⟨rfl, rfl⟩⟩
            · have : termL s dn = [] := List.eq_nil_of_length_eq_zero hn0
              rw [this]
            · intro i j _ _ h; simp at h
          · have hpos : 0 < (termL s dn).length := by
              rcases h : termL s dn with _ | ⟨x, r'⟩
              · have := hnilv h; simp at this
              · simp
            clear hnilv
            have hgl : g < wr.heap.size := (Array.getElem?_eq_some_iff.1 hgc).1
            have hH := holdsK_row (termL s dn) hgc htake
            have eg : ∀ args w, (callFunc 46 args).run Try.prog w = .ok (.enter 46 args) w := enters_of Try.func46 (by kernel_rfl) rfl
            have hcon := AnyQ.slices_SortFunc sortT 2 Try.isAgg68 Try.sizeOf68 encT (fun _ => rfl) (fun x v hv => by simp [encT] at hv; rcases hv with rfl | rfl <;> rfl) cmpF swoF 46 #[] g 0 cap (termL s dn).toArray wr eg (cmpLays46 g 0 _ wr) hH hgl (by simp; omega)
            change Calls Try.prog 45 _ _ _ at hcon
            simp only [List.size_toArray] at hcon
            go_wp2_with (go_at_call 45; refine hcon.mono ?_; rintro e w' ⟨rfl, d', n, os', hp, hs, rfl⟩)
            go_ret2
            simp only [hsE]
            have hsz' : d'.size = (termL s dn).length := by simpa using hp.1
            have hwo := size_sortWorldK_c encT 2 wr g 0 n d' os'
            refine ⟨.slice (some ⟨g, 0, none⟩) (termL s dn).length cap, dn, d', by simp, below_sort hnx (by omega) (by omega), hdn, hall, ?_, by rw [hsz']; exact hs, .inr ⟨g, cap, by rw [hsz']; exact hpos, by rw [hsz'], by rw [hsz']; exact hnc, by omega, by omega, holdsK_sortWorldK_c encT 2 wr g 0 _ d' n os' hH hgl hp.1⟩⟩
            have := hp.2.2
            rw [← hsz', Array.extract_size, show (d'.size) = (termL s dn).toArray.size by simp [hsz'], Array.extract_size] at this
            exact this
        · intro x c w1 cnt1 hwx hwc hlx hat hrg1 hlt hg1 hs1 hen
          have hc : c = s.amt x := by
            have h1 := (htm.2 x hwx).1
            rw [hat] at h1; simpa using h1
          subst hc
          have hnx1 := hnx.grown hg1 (by omega) (fun j hj => by cases hj; omega)
          have hrow1 := hrow.kept hg1 (by
            rcases hob : Value.ownBlock u10 with _ | q
            · exact .inl rfl
            · refine .inr fun e => ?_
              have := (hrow.lt q hob).1
              cases e; omega)
          have hlx2 := hleft x hwx
          rw [hlx] at hlx2
          have hdn' : DnOk s (dn ++ [x]) := dnOk_snoc hdn hwx hlx2.symm
          clear hlx2
          have hrs1 : r + 1 ≤ w1.heap.size := by omega
          clear hs1
          have hlen := termL_length s dn
          have hleft' : ∀ z : Int, (Lit.int .i64 z).wf = true → (left (.int .i64 z) && !(Lit.int .i64 z).sameKey (.int .i64 x)) = (s.has z && !(dn ++ [x]).contains z) := fun z hz => by
            rw [hleft z hz]; simp [Lit.sameKey, Bool.and_assoc]
          go_wp2_with (first
            | (at_builtin; refine wpList_append_own_at _ rfl _ _ 64 rfl (r + 1) 68 i0 (.agg #[.int .i64 0, .int .i64 0]) 2 16 Try.underlying64 hi hz0 hz1 hz2 rfl (by decide) _ _ _ rfl (hrow1.alloc _) ⟨w1.heap.size, 0, none⟩ 1 1 [.int .i64 x, .int .i64 (s.amt x)] rfl rfl (cells_new2 _ _ _ _) (by intro u hu; simp at hu; rcases hu with rfl | rfl <;> rfl) (by unfold maxLen; omega) (by omega) (by simp; omega) ?_; intro v' w2 hown' hgrow hnil hloc)
            | (at_builtin; refine wpList_append_own_at _ rfl _ _ 64 rfl (r + 1) 68 i0 (.agg #[.int .i64 0, .int .i64 0]) 2 16 Try.underlying64 hi hz0 hz1 hz2 rfl (by decide) _ _ _ rfl (hrow1.alloc _) ⟨w1.heap.size, 0, none⟩ 1 1 [.int .i64 (wrap64 (-x)), .int .i64 (wrap64 (-s.amt x))] rfl rfl (cells_new2 _ _ _ _) (by intro u hu; simp at hu; rcases hu with rfl | rfl <;> rfl) (by unfold maxLen; omega) (by omega) (by simp; omega) ?_; intro v' w2 hown' hgrow hnil hloc)
            | go_in)
          · have hpos : 0 < s.amt x := by assumption
            have hneg : ¬ s.amt x < 0 := by omega
            have hT : termL s (dn ++ [x]) = termL s dn ++ [(x, s.amt x)] := by rw [termL_append]; simp [termL, hpos]
            have hB : baseL s (dn ++ [x]) s.base = baseL s dn s.base := by rw [baseL_append]; simp [baseL, hneg]
            obtain ⟨hrg2, hnx2, hs2⟩ := round_end hrg1 hnx1 hrow1 hrs1 hrb hgrow
            go_roundw
            case rel =>
              refine ⟨dn ++ [x], _, cnt1, by rw [hB], hrg2, hdn', hleft', by simp; omega, ?_, hs2, hnx2, fun h => by rw [hT] at h; simp at h⟩
              rw [hT, flatT_append, List.length_append]; exact hown'
            case measure => rw [hrg2.left_eq, hrg.left_eq]; omega
          · have hneg : s.amt x < 0 := by assumption
            have hpos : ¬ 0 < s.amt x := by omega
            have hT : termL s (dn ++ [x]) = termL s dn ++ [(wrap64 (-x), wrap64 (-s.amt x))] := by rw [termL_append]; simp [termL, hpos, hneg]
            have hB : baseL s (dn ++ [x]) s.base = wrap64 (baseL s dn s.base + s.amt x) := by rw [baseL_append]; simp [baseL, hneg]
            obtain ⟨hrg2, hnx2, hs2⟩ := round_end hrg1 hnx1 hrow1 hrs1 hrb hgrow
            go_roundw
            case rel =>
              refine ⟨dn ++ [x], _, cnt1, by rw [hB], hrg2, hdn', hleft', by simp; omega, ?_, hs2, hnx2, fun h => by rw [hT] at h; simp at h⟩
              rw [hT, flatT_append, List.length_append]; exact hown'
            case measure => rw [hrg2.left_eq, hrg.left_eq]; omega
          · have hpos : ¬ 0 < s.amt x := by omega
            have hneg : ¬ s.amt x < 0 := by omega
            have hT : termL s (dn ++ [x]) = termL s dn := by rw [termL_append]; simp [termL, hpos, hneg]
            have hB : baseL s (dn ++ [x]) s.base = baseL s dn s.base := by rw [baseL_append]; simp [baseL, hneg]
            go_roundw
            case rel =>
              refine ⟨dn ++ [x], _, cnt1, by rw [hB], hrg1, hdn', hleft', by simp; omega, ?_, hrs1, hnx1, fun h => hnilv (by rwa [hT] at h)⟩
              rw [hT]; exact hrow1
            case measure => rw [hrg1.left_eq, hrg.left_eq]; omega

set_option maxRecDepth 100000 in
set_option maxHeartbeats 4000000 in
/-- No literals. -/
theorem terms_none (a : Option Addr) (c1 : Nat) (v2 : Value) (w : World) :
    Calls Try.prog 40 #[.slice a 0 c1, v2] w fun e w' => e = .returned (.tuple #[.slice none 0 0, .int .i64 0]) ∧ Below w.heap.size w w' := by
  have hmm := @run_makeMap Try.prog
  go_enter Try.func40, Try.ntmps40
  go_wp2
  refine wp_loop_rounds 1 ?_
  rw [rounds_succ]
  have hown : (w.alloc (.map #[] 0)).ownsMap Try.prog 3 (plainElem (H := Unit) Try.prog 3) w.heap.size 0 (.map []) := World.ownsMap_made _ _ _ _
  have hnx : Below w.heap.size w (w.alloc (.map #[] 0)) := (Below.refl _ _).alloc (Nat.le_refl _) _
  have hwm : w.heap.size ≤ (w.alloc (.map #[] 0)).heap.size := by simp
  generalize w.alloc (.map #[] 0) = wm at hown hnx hwm ⊢
  go_wp2_with (first | (at_range; refine wpList_range_own _ rfl _ 74 rfl 3 3 law3 Try.underlying74 _ w.heap.size 0 _ rfl hown ?_; intro w0 hrg0 hg0 hs0) | go_in)
  go_frame
  refine wp_loop_rounds 1 ?_
  rw [rounds_succ]
  have hnx0 := hnx.grown hg0 hwm (fun j hj => by cases hj)
  go_wp2_with (first
    | (at_next; refine wpList_next_ranges_ii _ rfl _ rfl 3 3 .i64 .i64 law3 Try.underlying3 Try.underlying3 w.heap.size wm.heap.size 0 _ _ _ rfl hrg0 ?_ ?_)
    | go_in)
  · intro _ hl0
    have hcon := fun W => AnyF.slices_SortFunc_none sortT none 0 (.func (.func 46) #[] #[]) W
    change ∀ W, Calls Try.prog 45 _ _ _ at hcon
    go_wp2_with (go_at_call 45; refine (hcon _).mono ?_; rintro e w' ⟨rfl, rfl⟩)
    go_ret2
    exact ⟨rfl, hnx0⟩
  · intro x c w1 cnt1 hwx hwc hlx hat hrg1 hlt hg1 hs1 hen
    simp [Maps.has] at hlx
end Go.Proofs.Ytcjfkgkobblonaa
