/-
  What follows may be taken out of every step: the evaluator with what follows, and the evaluator that tells what it has found, are one.
-/
import Derived.Test.YtmpjdngpblfecaaAevMach
set_option linter.unusedSimpArgs false
set_option linter.unusedVariables false
namespace Go.Aev
open Go

section
variable {R S α : Type}

theorem gdK_nat [Inhabited α] (c : Option Bool) (m : Option α) (k : α → Option R) (f : R → Option S) : (gdK c m k).bind f = gdK c m fun a => (k a).bind f := by
  unfold gdK
  cases m with
  | some a => rfl
  | none => cases c with
    | none => rfl
    | some b => cases b <;> rfl
theorem gdK_some [Inhabited α] {c : Option Bool} {m : Option α} {k : α → Option R} {r : R} (h : gdK c m k = some r) (hc : c = none ∨ c = some true) : ∃ a, m = some a ∧ k a = some r := by
  unfold gdK at h
  cases m with
  | some a => exact ⟨a, rfl, h⟩
  | none => rcases hc with rfl | rfl <;> simp at h
theorem cond_nat (c : Bool) (x y : Option R) (f : R → Option S) : (cond c x y).bind f = cond c (x.bind f) (y.bind f) := by cases c <;> rfl
theorem ite_nat (c : Prop) [Decidable c] (x y : Option R) (f : R → Option S) : (if c then x else y).bind f = if c then x.bind f else y.bind f := by split <;> rfl
theorem none_nat (f : R → Option S) : (none : Option R).bind f = none := rfl

theorem takeK_nat (c : Option Bool) : ∀ (n : Nat) (cs : List T) (K : List T → Option R) (f : R → Option S), (takeK c n cs K).bind f = takeK c n cs fun x => (K x).bind f
  | 0, _, _, _ => rfl
  | n + 1, cs, K, f => by simp only [takeK, gdK_nat, takeK_nat c n]
theorem typK_nat (k : Ck) (c : Option Bool) (x : T) (K : T → Option R) (f : R → Option S) : (typK k c x K).bind f = typK k c x fun x => (K x).bind f := by
  unfold typK; cases k <;> simp only [gdK_nat]
theorem typKs_nat (c : Option Bool) : ∀ (ks : List Ck) (xs : List T) (K : List T → Option R) (f : R → Option S), (typKs c ks xs K).bind f = typKs c ks xs fun x => (K x).bind f
  | [], _, _, _ => rfl
  | _ :: _, [], _, _ => rfl
  | k :: ks, x :: xs, K, f => by simp only [typKs, typK_nat, typKs_nat c ks xs]
theorem arithT_nat (op : BinOp) (k : IntKind) (c : Option Bool) (x y : T) (K : T → Option R) (f : R → Option S) : (arithT op k c x y K).bind f = arithT op k c x y fun x => (K x).bind f := by
  unfold arithT; cases op <;> simp only [gdK_nat, none_nat]
theorem shiftT_nat (op : BinOp) (k ky : IntKind) (c : Option Bool) (x y : T) (K : T → Option R) (f : R → Option S) : (shiftT op k ky c x y K).bind f = shiftT op k ky c x y fun x => (K x).bind f := by
  unfold shiftT; cases op <;> simp only [gdK_nat, none_nat]
theorem strT_nat (op : BinOp) (c : Option Bool) (x y : T) (K : T → Option R) (f : R → Option S) : (strT op c x y K).bind f = strT op c x y fun x => (K x).bind f := by
  unfold strT; cases op <;> simp only [gdK_nat, none_nat]
theorem eqC_nat (P : Program) (c : Option Bool) (t : TypeId) (x y : T) (K : Bool → Option R) (f : R → Option S) : (eqC P c t x y K).bind f = eqC P c t x y fun x => (K x).bind f := by
  unfold eqC; split <;> simp only [gdK_nat, none_nat]
theorem eqCs_nat (P : Program) (c : Option Bool) : ∀ (ts : List TypeId) (xs ys : List T) (K : Bool → Option R) (f : R → Option S), (eqCs P c ts xs ys K).bind f = eqCs P c ts xs ys fun x => (K x).bind f
  | [], [], [], _, _ => rfl
  | t :: ts, x :: xs, y :: ys, K, f => by simp only [eqCs, eqC_nat, eqCs_nat P c ts xs ys]
  | [], [], _ :: _, _, _ => rfl
  | [], _ :: _, _, _, _ => rfl
  | _ :: _, [], _, _, _ => rfl
  | _ :: _, _ :: _, [], _, _ => rfl
theorem binT_nat (P : Program) (op : BinOp) (t ty : TypeId) (c : Option Bool) (x y : T) (K : T → Option R) (f : R → Option S) : (binT P op t ty c x y K).bind f = binT P op t ty c x y fun x => (K x).bind f := by
  unfold binT; cases op <;> simp only [] <;> first | rfl | (split <;> simp only [arithT_nat, shiftT_nat, strT_nat, none_nat])
theorem eqAV_nat (P : Program) (c : Option Bool) (t : TypeId) (x y : AV) (K : Bool → Option R) (f : R → Option S) : (eqAV P c t x y K).bind f = eqAV P c t x y fun x => (K x).bind f := by
  unfold eqAV; split <;> simp only [cond_nat, gdK_nat, eqC_nat, eqCs_nat, Option.bind_assoc, none_nat]
theorem unT0_nat (P : Program) (op : UnOp) (t : TypeId) (c : Option Bool) (x : T) (K : T → Option R) (f : R → Option S) : (unT0 P op t c x K).bind f = unT0 P op t c x fun x => (K x).bind f := by
  unfold unT0; split <;> simp only [gdK_nat, none_nat]
theorem loadT_nat (P : Program) (t : TypeId) (c : Option Bool) (cs : List T) (K : AV → Option R) (f : R → Option S) : (loadT P t c cs K).bind f = loadT P t c cs fun x => (K x).bind f := by
  unfold loadT; simp only [cond_nat, gdK_nat, takeK_nat, typK_nat, typKs_nat]
theorem loadV_nat (P : Program) (t : TypeId) (cs : List AV) (K : AV → Option R) (f : R → Option S) : (loadV P t cs K).bind f = loadV P t cs fun x => (K x).bind f := by
  unfold loadV; simp only [cond_nat, Option.bind_assoc]
theorem rowK_nat (h : Id → Option Blk) (c : Option Bool) (i : Id) (n : Nat) (K : Nat → Bool → List (List T) → Option R) (f : R → Option S) : (rowK h c i n K).bind f = rowK h c i n fun a b l => (K a b l).bind f := by
  unfold rowK; split <;> simp only [gdK_nat, none_nat]
theorem loadR_nat (P : Program) (t : TypeId) (c : Option Bool) (i : Id) (sz col off : Nat) (e : Row) (K : AV → Option R) (f : R → Option S) : (loadR P t c i sz col off e K).bind f = loadR P t c i sz col off e fun x => (K x).bind f := by
  unfold loadR; simp only [cond_nat, ite_nat, gdK_nat, takeK_nat, typK_nat, typKs_nat, none_nat]
theorem loadAV_nat (P : Program) (s : St) (c : Option Bool) (t : TypeId) (a : AV) (K : AV → Option R) (f : R → Option S) : (loadAV P s c t a K).bind f = loadAV P s c t a fun x => (K x).bind f := by
  unfold loadAV; rw [cond_nat]; congr 1; split
  · split <;> simp only [loadV_nat, loadT_nat, none_nat]
  · split <;> simp only [ite_nat, gdK_nat, loadT_nat, loadR_nat, none_nat]
  · simp only [rowK_nat, ite_nat, gdK_nat, loadT_nat, none_nat]
  · simp only [gdK_nat, loadT_nat]
  · rfl
theorem storeAV_nat (P : Program) (s : St) (t : TypeId) (a v : AV) (K : Upd → Option R) (f : R → Option S) : (storeAV P s t a v K).bind f = storeAV P s t a v fun x => (K x).bind f := by
  unfold storeAV; rw [cond_nat]; congr 1; split
  · split <;> simp only [ite_nat, none_nat]
  · split
    · simp only [Option.bind_assoc, ite_nat, gdK_nat, none_nat]
    · split
      · split <;> simp only [ite_nat, gdK_nat, none_nat]
      · rfl
    · rfl
  · split <;> simp only [Option.bind_assoc, ite_nat, gdK_nat, none_nat]
  · rfl
theorem idxOk_nat (c : Option Bool) (i : Int) (n : Nat) (K : Option R) (f : R → Option S) : (idxOk c i n K).bind f = idxOk c i n (K.bind f) := by
  unfold idxOk; simp only [gdK_nat]
theorem indexAddrAV_nat (P : Program) (s : St) (c : Option Bool) (t : TypeId) (x : AV) (i : Int) (K : AV → Option R) (f : R → Option S) : (indexAddrAV P s c t x i K).bind f = indexAddrAV P s c t x i fun x => (K x).bind f := by
  unfold indexAddrAV; split
  · split
    · split <;> simp only [ite_nat, idxOk_nat, none_nat]
    · simp only [rowK_nat, ite_nat, idxOk_nat, none_nat]
    · split <;> simp only [ite_nat, idxOk_nat, none_nat]
    · simp only [gdK_nat, idxOk_nat]
    · rfl
  · split
    · rw [idxOk_nat]; congr 1; split <;> simp only [gdK_nat, none_nat]
    · rfl
theorem fieldAddrAV_nat (P : Program) (c : Option Bool) (t : TypeId) (x : AV) (k : Nat) (K : AV → Option R) (f : R → Option S) : (fieldAddrAV P c t x k K).bind f = fieldAddrAV P c t x k fun x => (K x).bind f := by
  unfold fieldAddrAV; split
  · rw [ite_nat]; congr 1; split <;> simp only [gdK_nat, none_nat]
  · rfl
theorem fieldAV_nat (P : Program) (t : TypeId) (x : AV) (k : Nat) (K : AV → Option R) (f : R → Option S) : (fieldAV P t x k K).bind f = fieldAV P t x k fun x => (K x).bind f := by
  unfold fieldAV; split
  · split <;> simp only [loadV_nat, none_nat]
  · rfl
theorem lenAV_nat (P : Program) (s : St) (c : Option Bool) (t : TypeId) (x : AV) (K : AV → Option R) (f : R → Option S) : (lenAV P s c t x K).bind f = lenAV P s c t x fun x => (K x).bind f := by
  unfold lenAV; split
  · split <;> simp only [gdK_nat, none_nat]
  · rfl
  · split
    · split <;> rfl
    · simp only [rowK_nat]
    · rfl
    · simp only [gdK_nat]
    · rfl
  · rfl
theorem boundAV_nat (s : St) (c : Option Bool) (g : Option Gs) (o : Option Operand) (K : Option Int → Option R) (f : R → Option S) : (boundAV s c g o K).bind f = boundAV s c g o fun x => (K x).bind f := by
  unfold boundAV; split
  · rfl
  · simp only [Option.bind_assoc, gdK_nat]
theorem sliceAV_nat (P : Program) (s : St) (c : Option Bool) (t : TypeId) (x : AV) (lo hi mx : Option Int) (K : AV → Option R) (f : R → Option S) : (sliceAV P s c t x lo hi mx K).bind f = sliceAV P s c t x lo hi mx fun x => (K x).bind f := by
  unfold sliceAV; split
  · split <;> simp only [gdK_nat, none_nat]
  · split
    · split
      · split <;> simp only [ite_nat, gdK_nat, none_nat]
      · split <;> simp only [ite_nat, gdK_nat, none_nat]
      · simp only [ite_nat, gdK_nat, none_nat]
      · rfl
    · split
      · simp only [ite_nat, gdK_nat, none_nat]
      · split <;> simp only [ite_nat, gdK_nat, none_nat]
      · rfl
  · rfl
theorem appended_nat (P : Program) (s : St) (t : TypeId) (sz : Nat) (zs : List T) (y : AV) (K : List (List T) → Option R) (f : R → Option S) : (appended P s t sz zs y K).bind f = appended P s t sz zs y fun x => (K x).bind f := by
  unfold appended; split <;> simp only [Option.bind_assoc, ite_nat, gdK_nat, none_nat]
theorem appendR_nat (P : Program) (s : St) (d : Nat) (e : TypeId) (i : Id) (sz col rsz nx : Nat) (es : List Row) (j : Id) (cs : List AV) (K : AV → Upd → Option R) (f : R → Option S) : (appendR P s d e i sz col rsz nx es j cs K).bind f = appendR P s d e i sz col rsz nx es j cs fun v u => (K v u).bind f := by
  unfold appendR; rw [ite_nat]; congr 1; rw [Option.bind_assoc]; congr 1; funext l; split
  · split <;> simp only [ite_nat, gdK_nat, none_nat]
  · split <;> simp only [ite_nat, gdK_nat, none_nat]
  · rfl
theorem appendAV_nat (P : Program) (s : St) (d : Nat) (rw : Bool) (t ty : TypeId) (x y : AV) (K : AV → Upd → Option R) (f : R → Option S) : (appendAV P s d rw t ty x y K).bind f = appendAV P s d rw t ty x y fun v u => (K v u).bind f := by
  unfold appendAV; rw [Option.bind_assoc]; congr 1; funext e; rw [Option.bind_assoc]; congr 1; funext zs; rw [ite_nat]; congr 1
  split
  · split <;> simp only [appendR_nat, none_nat]
  · rw [appended_nat]; congr 1; funext ys
    split
    · split <;> simp only [ite_nat, gdK_nat, none_nat]
    · split <;> simp only [ite_nat, gdK_nat, none_nat]
    · simp only [Option.bind_assoc, gdK_nat]
    · rfl
theorem makeAV_nat (P : Program) (d : Nat) (t : TypeId) (ns : Nat) (n m : T) (K : AV → Upd → Option R) (f : R → Option S) : (makeAV P d t ns n m K).bind f = makeAV P d t ns n m fun v u => (K v u).bind f := by
  unfold makeAV
  rw [Option.bind_assoc]; congr 1; funext e; rw [Option.bind_assoc]; congr 1; funext zs; rw [gdK_nat]; congr 1; funext n; rw [gdK_nat]; congr 1; funext m; rw [ite_nat]; congr 1; rw [gdK_nat]; congr 1; funext _; rw [cond_nat]; congr 1
  split <;> simp only [ite_nat, none_nat]
theorem keyC_nat (P : Program) (k : TypeId) (c : Option Bool) (v : AV) (K : Bool → List Ck → List T → Option R) (f : R → Option S) : (keyC P k c v K).bind f = keyC P k c v fun a b l => (K a b l).bind f := by
  unfold keyC; rw [Option.bind_assoc]; congr 1; funext q; split <;> simp only [typKs_nat, Option.bind_assoc, ite_nat, none_nat]
theorem lookupAV_nat (P : Program) (s : St) (c : Option Bool) (t : TypeId) (x k : AV) (ok : Bool) (K : AV → Option R) (f : R → Option S) : (lookupAV P s c t x k ok K).bind f = lookupAV P s c t x k ok fun v => (K v).bind f := by
  unfold lookupAV; rw [Option.bind_assoc]; congr 1; funext q; rw [Option.bind_assoc]; congr 1; funext z; rw [keyC_nat]; congr 1; funext a b l
  split
  · split
    · rw [ite_nat]; simp only [typK_nat, none_nat]
    · rfl
  · rfl
theorem makeMapAV_nat (P : Program) (d : Nat) (t : TypeId) (K : AV → Upd → Option R) (f : R → Option S) : (makeMapAV P d t K).bind f = makeMapAV P d t fun v u => (K v u).bind f := by
  unfold makeMapAV; simp only [Option.bind_assoc, ite_nat, none_nat]
theorem delAV_nat (P : Program) (s : St) (t : TypeId) (x k : AV) (K : Upd → Option R) (f : R → Option S) : (delAV P s t x k K).bind f = delAV P s t x k fun u => (K u).bind f := by
  unfold delAV; rw [Option.bind_assoc]; congr 1; funext q; rw [keyC_nat]; congr 1; funext a b l
  split
  · split
    · rw [ite_nat]; rfl
    · rfl
  · rfl
theorem putAV_nat (P : Program) (s : St) (t : TypeId) (x k v : AV) (K : Upd → Option R) (f : R → Option S) : (putAV P s t x k v K).bind f = putAV P s t x k v fun u => (K u).bind f := by
  unfold putAV; rw [Option.bind_assoc]; congr 1; funext q; rw [keyC_nat]; congr 1; funext a b l
  split
  · split
    · rw [ite_nat]; simp only [Option.bind_assoc, typK_nat, none_nat]
    · rfl
  · rfl
theorem minT_nat (k : IntKind) (c : Option Bool) (b : Bool) : ∀ (l : List T) (a : Int) (K : T → Option R) (f : R → Option S), (minT k c b a l K).bind f = minT k c b a l fun x => (K x).bind f
  | [], _, _, _ => rfl
  | y :: r, a, K, f => by simp only [minT, gdK_nat, minT_nat k c b r]
theorem convT_nat (P : Program) (c : Option Bool) (a b : TypeId) (x : T) (K : T → Option R) (f : R → Option S) : (convT P c a b x K).bind f = convT P c a b x fun x => (K x).bind f := by
  unfold convT; split <;> simp only [gdK_nat, none_nat]
theorem decR_nat (ids : List Id) (d : Nat) (c : Option Bool) (j : Nat) (r : RSh) (x : T) (K : AV → Upd → Nat → Option R) (f : R → Option S) : (decR ids d c j r x K).bind f = decR ids d c j r x fun v u j => (K v u j).bind f := by
  unfold decR; split
  · exact typK_nat _ _ _ _ _
  · exact typK_nat _ _ _ _ _
  · split <;> simp only [gdK_nat, none_nat]
  · split <;> simp only [none_nat]
  · split <;> simp only [none_nat]
  · split <;> simp only [gdK_nat, none_nat]
  · split <;> simp only [gdK_nat, none_nat]
  · rfl
  · rfl
  · rfl
theorem decL1_nat (ids : List Id) (d : Nat) (c : Option Bool) : ∀ (rs : List RSh) (j : Nat) (xs : List T) (K : List AV → Upd → Nat → Option R) (f : R → Option S), (decL1 ids d c j rs xs K).bind f = decL1 ids d c j rs xs fun v u j => (K v u j).bind f
  | [], _, _, _, _ => rfl
  | r :: rs, j, xs, K, f => by simp only [decL1, gdK_nat, decR_nat, decL1_nat ids d c rs]
theorem decL_nat (ids : List Id) (d : Nat) (c : Option Bool) : ∀ (rs : List RSh) (j : Nat) (xs : List T) (K : List AV → Upd → Nat → Option R) (f : R → Option S), (decL ids d c j rs xs K).bind f = decL ids d c j rs xs fun v u j => (K v u j).bind f
  | [], _, _, _, _ => rfl
  | r :: rs, j, xs, K, f => by
    cases r
    case new l => cases c <;> simp only [decL, decL1_nat, decL_nat ids d _ rs, none_nat]
    all_goals simp only [decL, gdK_nat, decR_nat, decL1_nat, decL_nat ids d c rs]
theorem decOuts_nat (all : List Id) (d : Nat) : ∀ (rs : List BSh) (is : List Id) (j : Nat) (xs : List T) (K : Upd → Option R) (f : R → Option S), (decOuts all d j is rs xs K).bind f = decOuts all d j is rs xs fun u => (K u).bind f
  | [], [], _, _, _, _ => rfl
  | [], _ :: _, _, _, _, _ => rfl
  | r :: rs, [], _, _, _, _ => by cases r <;> rfl
  | r :: rs, i :: is, j, xs, K, f => by cases r <;> simp only [decOuts, gdK_nat, decL1_nat, decOuts_nat all d rs]
theorem typV_nat (P : Program) (c : Option Bool) (t : TypeId) (v : AV) (K : AV → Option R) (f : R → Option S) : (typV P c t v K).bind f = typV P c t v fun x => (K x).bind f := by
  unfold typV; split
  · exact typK_nat _ _ _ _ _
  · split
    · exact typKs_nat _ _ _ _ _
    · rfl
  · rfl
theorem typVs_nat (P : Program) (c : Option Bool) : ∀ (ts : List TypeId) (vs : List AV) (K : List AV → Option R) (f : R → Option S), (typVs P c ts vs K).bind f = typVs P c ts vs fun x => (K x).bind f
  | [], _, _, _ => rfl
  | _ :: _, [], _, _ => rfl
  | t :: ts, v :: vs, K, f => by simp only [typVs, typV_nat, typVs_nat P c ts vs]
theorem callAV_nat (P : Program) (A : Ann) (O : Orc) (s : St) (d : Nat) (c : Option Bool) (g : FuncId) (args : List AV) (K : AV → Upd → Option R) (f : R → Option S) :
    (callAV P A O s d c g args K).bind f = callAV P A O s d c g args fun v u => (K v u).bind f := by
  unfold callAV; split
  · rfl
  · split
    · simp only [Option.bind_assoc, gdK_nat, decL_nat, typVs_nat]
    · split
      · rfl
      · simp only [Option.bind_assoc, cond_nat, none_nat, gdK_nat, decL_nat, decOuts_nat, typVs_nat]
theorem backL_nat (h : Id → Option Blk) (i new : Id) (n rsz : Nat) (K : Upd → Option R) (f : R → Option S) : (backL h i new n rsz K).bind f = backL h i new n rsz fun u => (K u).bind f := by
  unfold backL; split
  · rw [ite_nat]; simp only [gdK_nat, none_nat]
  · rfl
theorem callL_nat (lend : Bool) (P : Program) (A : Ann) (O : Orc) (s : St) (d : Nat) (c : Option Bool) (g : FuncId) (args : List AV) (K : AV → Upd → Option R) (f : R → Option S) :
    (callL lend P A O s d c g args K).bind f = callL lend P A O s d c g args fun v u => (K v u).bind f := by
  unfold callL; split
  · exact callAV_nat _ _ _ _ _ _ _ _ _ _
  · split
    · simp only [gdK_nat, cond_nat, callAV_nat, backL_nat, none_nat]
    · rfl
theorem int1_nat (c : Option Bool) (v : AV) (K : Int → Option R) (f : R → Option S) : (int1 c v K).bind f = int1 c v fun x => (K x).bind f := by
  unfold int1; simp only [Option.bind_assoc, gdK_nat]

theorem aop_nat (P : Program) (A : Ann) (O : Orc) (g : Option Gs) (o : Oper) (s : St) (K : AV → Upd → Option R) (f : R → Option S) :
    (aop P A O g o s K).bind f = aop P A O g o s fun v u => (K v u).bind f := by
  unfold aop
  cases o.op <;> dsimp only
  case pick => simp only [Option.bind_assoc, gdK_nat]
  case alloc => split <;> simp only [Option.bind_assoc, none_nat]
  case box => split <;> simp only [ite_nat, none_nat]
  case build => simp only [Option.bind_assoc]
  case buildSlice =>
    rw [Option.bind_assoc]; congr 1; funext e; rw [ite_nat]; congr 1
    · split <;> simp only [ite_nat, none_nat]
    rw [ite_nat]; congr 1; rw [ite_nat]; congr 1; rw [Option.bind_assoc]; congr 1; funext q; split <;> rfl
  case load => simp only [loadAV_nat]
  case store => split <;> simp only [storeAV_nat, none_nat]
  case nilCheck => split <;> simp only [gdK_nat, none_nat]
  case binOp => split <;> simp only [Option.bind_assoc, eqAV_nat, binT_nat]
  case unOp => simp only [Option.bind_assoc, unT0_nat]
  case convert =>
    split
    · split <;> simp only [Option.bind_assoc, gdK_nat, none_nat]
    · simp only [Option.bind_assoc, convT_nat]
  case makeFunc => split <;> simp_all
  case makeSlice => split <;> simp only [Option.bind_assoc, makeAV_nat, none_nat]
  case makeMap => split <;> simp only [makeMapAV_nat, none_nat]
  case lookup => simp only [lookupAV_nat]
  case mapUpdate => split <;> simp only [putAV_nat, none_nat]
  case slice => simp only [boundAV_nat, sliceAV_nat]
  case fieldAddr => simp only [fieldAddrAV_nat]
  case field => simp only [fieldAV_nat]
  case indexAddr => simp only [int1_nat, indexAddrAV_nat]
  case index =>
    simp only [int1_nat]; congr 1; funext n; split
    · simp only [Option.bind_assoc, gdK_nat, idxOk_nat]
    · split <;> simp only [cond_nat, Option.bind_assoc, idxOk_nat, loadT_nat, none_nat]
    · rfl
  case extract => split <;> simp only [Option.bind_assoc, none_nat]
  case call cl =>
    split
    · split <;> simp only [lenAV_nat, none_nat]
    · split <;> simp only [appendAV_nat, none_nat]
    · split
      · rw [Option.bind_assoc]; congr 1; funext l; split <;> simp only [gdK_nat, minT_nat, none_nat]
      · rfl
    · split
      · rw [Option.bind_assoc]; congr 1; funext l; split <;> simp only [gdK_nat, minT_nat, none_nat]
      · rfl
    · split <;> simp only [delAV_nat, none_nat]
    · (repeat' split) <;> simp only [cond_nat, none_nat]
    · split <;> simp only [callL_nat, none_nat]
    · rfl
  all_goals rfl

/-- What an operation finds. -/
def aopD (P : Program) (A : Ann) (O : Orc) (g : Option Gs) (o : Oper) (s : St) : Option (AV × Upd) := aop P A O g o s fun v u => some (v, u)
theorem aop_eq (P : Program) (A : Ann) (O : Orc) (g : Option Gs) (o : Oper) (s : St) (K : AV → Upd → Option R) : aop P A O g o s K = (aopD P A O g o s).bind fun p => K p.1 p.2 := by
  unfold aopD; rw [aop_nat]; rfl
theorem guardOf_nat (ops : Array Oper) (o : Oper) (s : St) (K : Option Gs → Option R) (f : R → Option S) : (guardOf ops o s K).bind f = guardOf ops o s fun g => (K g).bind f := by
  unfold guardOf; split
  · rfl
  · split
    · rfl
    · simp only [Option.bind_assoc, gdK_nat]
theorem guardOf_eq (ops : Array Oper) (o : Oper) (s : St) (K : Option Gs → Option R) : guardOf ops o s K = (guardOf ops o s some).bind K := by
  rw [guardOf_nat]; rfl
def oneD (P : Program) (A : Ann) (O : Orc) (draw : Bool) (nt : Nat) (ops : Array Oper) (o : Oper) (s : St) : Option St := oneOp P A O draw nt ops o s some
theorem oneOp_eq (P : Program) (A : Ann) (O : Orc) (draw : Bool) (nt : Nat) (ops : Array Oper) (o : Oper) (s : St) (K : St → Option R) : oneOp P A O draw nt ops o s K = (oneD P A O draw nt ops o s).bind K := by
  unfold oneD oneOp
  rw [guardOf_nat]; congr 1; funext g
  cases splitG A draw o g with
  | none =>
    dsimp only
    rw [aop_nat]; congr 1; funext v u
    rw [ite_nat]; rfl
  | some gs =>
    dsimp only
    cases dstOk nt o gs with
    | false => rfl
    | true =>
      cases gs.c with
      | false => rfl
      | true =>
        simp only [cond_true]
        rw [aop_nat]; congr 1; funext v u
        rw [ite_nat]; rfl
def ropsD (P : Program) (A : Ann) (O : Orc) (draw : Bool) (nt : Nat) (ops : Array Oper) : List Oper → St → Option St
  | [], s => some s
  | o :: r, s => (oneD P A O draw nt ops o s).bind (ropsD P A O draw nt ops r)
theorem rops_eq (P : Program) (A : Ann) (O : Orc) (draw : Bool) (nt : Nat) (ops : Array Oper) : ∀ (l : List Oper) (s : St) (K : St → Option R), rops P A O draw nt ops l s K = (ropsD P A O draw nt ops l s).bind K
  | [], _, _ => rfl
  | o :: r, s, K => by
    simp only [rops, ropsD, oneOp_eq, Option.bind_assoc]; congr 1; funext s'; exact rops_eq P A O draw nt ops r s' K
end
end Go.Aev
