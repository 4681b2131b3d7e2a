/-
  What the limit answers: a fixed point, from below.
-/
import Derived.Test.YtmpjdngpblfecaaAevEv
set_option linter.unusedSimpArgs false
set_option linter.unusedVariables false
namespace Go.Aev
open Go

abbrev Ask := Key × List AV × List Blk × List T
def Agrees (O : Orc) (L : List Ask) : Prop := ∀ q ∈ L, O q.1 q.2.1 q.2.2.1 = some q.2.2.2
def Det {R : Type} (F : Orc → Option R) : Prop := ∀ O r, F O = some r → ∃ L, Agrees O L ∧ ∀ O', Agrees O' L → F O' = some r

section
variable {P : Program} {A : Ann} {R S : Type}

theorem Det.const (m : Option R) : Det (fun _ => m) := fun _ r h => ⟨[], (by intro q hq; cases hq), fun _ _ => h⟩
theorem Det.bind {F : Orc → Option R} {G : R → Orc → Option S} (h1 : Det F) (h2 : ∀ a, Det (G a)) : Det (fun O => (F O).bind fun a => G a O) := by
  intro O r h
  obtain ⟨a, ha, h⟩ := Option.bind_eq_some_iff.1 h
  obtain ⟨L1, e1, g1⟩ := h1 O a ha
  obtain ⟨L2, e2, g2⟩ := h2 a O r h
  refine ⟨L1 ++ L2, fun q hq => ?_, fun O' hO => ?_⟩
  · rcases List.mem_append.1 hq with hq | hq
    · exact e1 q hq
    · exact e2 q hq
  · have := g1 O' (fun q hq => hO q (List.mem_append_left _ hq))
    simp only [this, Option.bind_some]
    exact g2 O' (fun q hq => hO q (List.mem_append_right _ hq))
theorem Det.ask (k : Key) (vs : List AV) (bs : List Blk) : Det (fun O => O k vs bs) := fun O r h => ⟨[(k, vs, bs, r)], (by intro q hq; simp only [List.mem_singleton] at hq; subst hq; exact h),
  fun O' hO => hO _ (List.mem_singleton.2 rfl)⟩
theorem Det.cond {b : Bool} {F G : Orc → Option R} (h1 : Det F) (h2 : Det G) : Det (fun O => cond b (F O) (G O)) := by cases b <;> assumption
theorem Det.ite {p : Prop} [Decidable p] {F G : Orc → Option R} (h1 : Det F) (h2 : Det G) : Det (fun O => if p then F O else G O) := by
  by_cases hp : p
  · simp only [hp, if_true]; exact h1
  · simp only [hp, if_false]; exact h2
theorem Det.gdK {α : Type} [Inhabited α] {c : Option Bool} {m : Option α} {K : α → Orc → Option R} (h : ∀ a, Det (K a)) : Det (fun O => gdK c m fun a => K a O) := by
  unfold Aev.gdK
  cases m with
  | some a => exact h a
  | none => cases c with
    | none => exact Det.const none
    | some b => exact Det.cond (Det.const none) (h default)

theorem Det.typK {k : Ck} {c : Option Bool} {x : T} {K : T → Orc → Option R} (h : ∀ a, Det (K a)) : Det (fun O => typK k c x fun a => K a O) := by
  unfold Aev.typK
  cases k <;> (try dsimp only)
  case x => exact h x
  all_goals exact Det.gdK fun a => h _
theorem Det.typKs {c : Option Bool} : ∀ {ks : List Ck} {xs : List T} {K : List T → Orc → Option R}, (∀ a, Det (K a)) → Det (fun O => typKs c ks xs fun a => K a O)
  | [], xs, K, h => h xs
  | _ :: _, [], K, h => h []
  | k :: ks, x :: xs, K, h => by
    simp only [Aev.typKs]
    exact Det.typK (K := fun y O => Aev.typKs c ks xs fun ys => K (y :: ys) O) fun y => Det.typKs (K := fun ys O => K (y :: ys) O) fun ys => h _
theorem Det.typV {c : Option Bool} {t : TypeId} {v : AV} {K : AV → Orc → Option R} (h : ∀ a, Det (K a)) : Det (fun O => typV P c t v fun a => K a O) := by
  unfold Aev.typV
  cases v <;> (try exact h _)
  case t x => exact Det.typK (K := fun y O => K (.t y) O) fun y => h _
  case agg vs =>
    dsimp only
    cases allT vs with
    | none => exact h _
    | some l => exact Det.typKs (K := fun l O => K (.agg (l.map .t)) O) fun y => h _
theorem Det.typVs {c : Option Bool} : ∀ {ts : List TypeId} {vs : List AV} {K : List AV → Orc → Option R}, (∀ a, Det (K a)) → Det (fun O => typVs P c ts vs fun a => K a O)
  | [], vs, K, h => h vs
  | _ :: _, [], K, h => h []
  | t :: ts, v :: vs, K, h => by
    simp only [Aev.typVs]
    exact Det.typV (K := fun u O => Aev.typVs P c ts vs fun us => K (u :: us) O) fun u => Det.typVs (K := fun us O => K (u :: us) O) fun us => h _
theorem Det.callAV {s : St} {d : Nat} {c : Option Bool} {f : FuncId} {args : List AV} {K : AV → Upd → Option R} : Det (fun O => callAV P A O s d c f args K) := by
  unfold Aev.callAV
  cases P.funcs[f]? with
  | none => exact Det.const none
  | some fn =>
    dsimp only
    have e : ∀ (m : Option (List T)) (k : List T → Option R), Aev.gdK none m k = m.bind k := by intro m k; cases m <;> rfl
    cases A.bref f with
    | none =>
      dsimp only
      refine Det.bind (F := fun _ => argVs ((resSh P A f 0 fn).all flatSh) (A.deep f) s.h args) (Det.const _) fun p => ?_
      simp only [e]
      refine Det.typVs fun q => ?_
      refine Det.bind (F := fun O => askO c (O (.call f) q [])) ?_ fun xs => Det.const _
      unfold askO
      cases c with
      | none => exact Det.ask _ _ _
      | some b => exact Det.cond (Det.ask _ _ _) (Det.const _)
    | some fl =>
      cases c with
      | some b => exact Det.const none
      | none =>
        dsimp only
        refine Det.bind (F := fun _ => argRs s.h (byRef fl args) fl args) (Det.const _) fun p => ?_
        refine Det.bind (F := fun _ => prep (2000000 + d) 0 (updH s.h p.2) (reqs (dedup (idsL p.1) []) (outSh A f (disc ((idsL p.1).head?.bind (updH s.h p.2)))))) (Det.const _) fun us => ?_
        refine Det.bind (F := fun _ => reach (updH (updH s.h p.2) us) 1000 (idsL p.1) []) (Det.const _) fun seen => ?_
        refine Det.cond ?_ (Det.const none)
        simp only [e]
        refine Det.typVs fun q => ?_
        exact Det.bind (Det.ask _ _ _) fun xs => Det.const _

theorem Det.callL {lend : Bool} {s : St} {d : Nat} {c : Option Bool} {f : FuncId} {args : List AV} {K : AV → Upd → Option R} : Det (fun O => callL lend P A O s d c f args K) := by
  unfold Aev.callL
  cases _root_.cond lend (rowArg args) none with
  | none => exact Det.callAV
  | some q =>
    obtain ⟨l1, i, n, l2⟩ := q
    cases c with
    | some b => exact Det.const none
    | none =>
      dsimp only
      cases s.h i with
      | none => exact Det.const none
      | some b =>
        cases b with
        | rows b sz col rsz nx es =>
          dsimp only
          cases findR n es with
          | none => exact Det.const none
          | some p => exact Det.cond Det.callAV (Det.const none)
        | _ => exact Det.const none
theorem Det.aopD {g : Option Gs} {o : Oper} {s : St} : Det (fun O => aopD P A O g o s) := by
  unfold Aev.aopD aop
  cases o.op <;> (try dsimp only) <;> try exact Det.const _
  case makeFunc fn a b => cases fn <;> (try dsimp only) <;> exact Det.const _
  case call cl =>
    cases cl.callee <;> (try dsimp only)
    case value fo =>
      cases s.get g fo <;> (try dsimp only) <;> first | exact Det.callL | exact Det.const _
    case builtin b => cases b <;> (try dsimp only) <;> exact Det.const _
    all_goals exact Det.const _

theorem Det.oneD {draw : Bool} {nt : Nat} {ops : Array Oper} {o : Oper} {s : St} : Det (fun O => oneD P A O draw nt ops o s) := by
  unfold Aev.oneD oneOp
  have key : ∀ {G : Orc → Option Gs → Option St}, (∀ g, Det (fun O => G O g)) → Det (fun O => guardOf ops o s (G O)) := fun {G} hG => by
    rw [show (fun O => guardOf ops o s (G O)) = fun O => (guardOf ops o s some).bind (G O) from funext fun O => guardOf_eq _ _ _ _]
    exact Det.bind (Det.const _) hG
  refine key fun g => ?_
  cases splitG A draw o g with
  | none =>
    simp only [aop_eq]
    exact Det.bind Det.aopD fun p => Det.const _
  | some gs =>
    simp only [aop_eq]
    exact Det.cond (Det.cond (Det.bind Det.aopD fun p => Det.const _) (Det.const _)) (Det.const _)

theorem Det.ropsD {draw : Bool} {nt : Nat} {ops : Array Oper} : ∀ (l : List Oper) (s : St), Det (fun O => ropsD P A O draw nt ops l s)
  | [], s => Det.const _
  | o :: r, s => Det.bind (F := fun O => Aev.oneD P A O draw nt ops o s) Det.oneD fun s' => Det.ropsD r s'

theorem Det.region {nt : Nat} {draw : Bool} {ops : Array Oper} {s : St} {K : St → Orc → Option R} (h : ∀ s, Det (K s)) : Det (fun O => region P A O nt draw ops s fun s' => K s' O) := by
  unfold Aev.region
  refine Det.cond ?_ (Det.const none)
  have : (fun O => rops P A O draw nt ops ops.toList s fun s' => K s'.clear O) = fun O => (Aev.ropsD P A O draw nt ops ops.toList s).bind fun s' => K s'.clear O := by
    funext O; rw [rops_eq]
  rw [this]
  exact Det.bind (Det.ropsD _ _) fun s' => h _

theorem Det.toNode {f : FuncId} {todo : List Item} {live : List (Nat × Option Nat)} {m : Nat × Nat} {s : St} : Det (fun O => toNode O f todo live m s) := by
  unfold Aev.toNode
  refine Det.bind (Det.const _) fun us => ?_
  unfold Aev.toNode1
  refine Det.bind (Det.const _) fun p => Det.ite ?_ (Det.const none)
  exact Det.bind (Det.const _) fun seen => Det.ask _ _ _

theorem Det.ev {f : FuncId} {fn : Func} {m : Nat × Nat} : ∀ (n : Nat) (cut : Bool) (todo : List Item) (s : St), Det (fun O => ev P A O f fn m n cut todo s)
  | 0, cut, todo, s => by simp only [Aev.ev]; exact Det.const none
  | n + 1, cut, [], s => by simp only [Aev.ev]; exact Det.const _
  | n + 1, cut, .code .skip :: k, s => by simp only [Aev.ev]; exact Det.ev n _ _ _
  | n + 1, cut, .code (.seq x y) :: k, s => by simp only [Aev.ev]; exact Det.ev n _ _ _
  | n + 1, cut, .code (.region id ops draw) :: k, s => by
    simp only [Aev.ev]
    cases hj : (bif cut then A.join f id else none) with
    | some live => exact Det.toNode
    | none => exact Det.region fun s' => Det.ev n _ _ _
  | n + 1, cut, .code (.cond x p q) :: k, s => by
    simp only [Aev.ev]
    refine Det.bind (F := fun _ => (s.get none x).t?) (Det.const _) fun y => Det.gdK fun t => Det.cond (Det.ev n _ _ _) (Det.ev n _ _ _)
  | n + 1, cut, .code (.block id b) :: k, s => by simp only [Aev.ev]; exact Det.ev n _ _ _
  | n + 1, cut, .code (.loop b) :: k, s => by
    simp only [Aev.ev]
    cases A.live f (rid b) with
    | some live => exact Det.toNode
    | none => exact Det.const none
  | n + 1, cut, .code (.exit id) :: k, s => by
    simp only [Aev.ev]
    cases exitTo id k with
    | some k' => exact Det.ev n _ _ _
    | none => exact Det.const none
  | n + 1, cut, .code .ret :: k, s => by simp only [Aev.ev]; exact Det.const _
  | n + 1, cut, .inBlock id :: k, s => by simp only [Aev.ev]; exact Det.ev n _ _ _
  | n + 1, cut, .inLoop b :: k, s => by
    simp only [Aev.ev]
    cases A.live f (rid b) with
    | some live => exact Det.toNode
    | none => exact Det.const none
  | n + 1, cut, .code (.label _) :: k, s => by simp only [Aev.ev]; exact Det.const _
  | n + 1, cut, .code (.goto _) :: k, s => by simp only [Aev.ev]; exact Det.const _
  | n + 1, cut, .code (.rangeFunc ..) :: k, s => by simp only [Aev.ev]; exact Det.const _
  | n + 1, cut, .code (.scope _) :: k, s => by simp only [Aev.ev]; exact Det.const _
  | n + 1, cut, .code (.refuse _) :: k, s => by simp only [Aev.ev]; exact Det.const _
  | n + 1, cut, .inRegion .. :: k, s => by simp only [Aev.ev]; exact Det.const _
  | n + 1, cut, .inScope _ :: k, s => by simp only [Aev.ev]; exact Det.const _
  | n + 1, cut, .inRangeFunc _ :: k, s => by simp only [Aev.ev]; exact Det.const _
  | n + 1, cut, .endRangeFunc _ :: k, s => by simp only [Aev.ev]; exact Det.const _
  | n + 1, cut, .beginRound :: k, s => by simp only [Aev.ev]; exact Det.const _
  | n + 1, cut, .extern .. :: k, s => by simp only [Aev.ev]; exact Det.const _
  | n + 1, cut, .call .. :: k, s => by simp only [Aev.ev]; exact Det.const _

theorem Det.stepO (k : Key) (vs : List AV) (bs : List Blk) : Det (fun O => stepO P A O k vs bs) := by
  cases k with
  | call f =>
    simp only [Aev.stepO]
    cases A.ext f vs bs with
    | some r => exact Det.const _
    | none =>
      dsimp only
      cases P.funcs[f]? with
      | none => exact Det.const _
      | some fn =>
        dsimp only
        cases fn.body with
        | none => exact Det.const _
        | some c => exact Det.ite (Det.ev _ _ _ _) (Det.const _)
  | node f todo live m =>
    simp only [Aev.stepO]
    cases P.funcs[f]? with
    | none => exact Det.const _
    | some fn =>
      dsimp only
      split
      · exact Det.ev _ _ _ _
      · exact Det.ev _ _ _ _

theorem orcN_succ : ∀ (n : Nat) {k : Key} {vs : List AV} {bs : List Blk} {r : List T}, orcN P A n k vs bs = some r → orcN P A (n + 1) k vs bs = some r
  | 0, k, vs, bs, r, h => by simp [orcN] at h
  | n + 1, k, vs, bs, r, h => by
    obtain ⟨L, e, g⟩ := Det.stepO (P := P) (A := A) k vs bs _ r h
    exact g _ fun q hq => orcN_succ n (e q hq)
theorem orcN_mono {n m : Nat} (hnm : n ≤ m) {k : Key} {vs : List AV} {bs : List Blk} {r : List T} (h : orcN P A n k vs bs = some r) : orcN P A m k vs bs = some r := by
  induction hnm with
  | refl => exact h
  | step _ ih => exact orcN_succ _ ih
theorem orc_of_N {n : Nat} {k : Key} {vs : List AV} {bs : List Blk} {r : List T} (h : orcN P A n k vs bs = some r) : orc P A k vs bs = some r := by
  unfold orc
  have hex : ∃ n r, orcN P A n k vs bs = some r := ⟨n, r, h⟩
  rw [dif_pos hex]
  have h2 := Classical.choose_spec (Classical.choose_spec hex)
  have a := orcN_mono (Nat.le_max_left n (Classical.choose hex)) h
  have b := orcN_mono (Nat.le_max_right n (Classical.choose hex)) h2
  rw [a] at b
  exact b.symm

/-- What one step finds over the limit, the limit answers. -/
theorem orc_of {k : Key} {vs : List AV} {bs : List Blk} {r : List T} (h : stepO P A (orc P A) k vs bs = some r) : orc P A k vs bs = some r := by
  obtain ⟨L, e, g⟩ := Det.stepO (P := P) (A := A) k vs bs _ r h
  have : ∃ n, Agrees (orcN P A n) L := by
    clear g h
    induction L with
    | nil => exact ⟨0, (by intro q hq; cases hq)⟩
    | cons q L ih =>
      obtain ⟨n, hn⟩ := ih fun q' hq => e q' (List.mem_cons_of_mem _ hq)
      obtain ⟨m, hm⟩ := orc_some (e q List.mem_cons_self)
      refine ⟨max n m, fun q' hq => ?_⟩
      rcases List.mem_cons.1 hq with rfl | hq
      · exact orcN_mono (Nat.le_max_right _ _) hm
      · exact orcN_mono (Nat.le_max_left _ _) (hn q' hq)
  obtain ⟨n, hn⟩ := this
  exact orc_of_N (n := n + 1) (g _ hn)

end
end Go.Aev
