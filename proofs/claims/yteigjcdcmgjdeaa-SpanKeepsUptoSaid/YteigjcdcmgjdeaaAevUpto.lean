/-
  The frame of a law whose slices are short. No program is named here.
-/
import Derived.Test.YteigjcdcmgjdeaaAevFrame
import Derived.Deep.CondSized
import Derived.JoinedCond
set_option linter.unusedSimpArgs false
set_option linter.unusedVariables false
namespace Go.Aev
open Go Go.ChangeShapes Go.WideShapes Go.ChangeAt Go.RowKit

section
variable {H : Type} {enc : TypeId × Value → H} {P : Program} {W W' : World} {sp : Nat → Bool} {held : Bool}
theorem args_len {base : Nat} {A : Nat → Prop} {ρ : Id → Option Value} : ∀ {ts : List TypeId} {vs : List Value} {ds : List (DataW H)} {ps : List MemPlace} {as : List AV}, DataW.TrodAll enc P W base sp held ts vs ds ps → RelVs W A ρ as vs →
    ∀ (j : Nat) (t e : TypeId) (sz : Nat) (b : Bool) (xs : List (List T)), ts[j]? = some t → P.underlying t = some (.slice e) → as[j]? = some (.t (.lst sz b xs)) → xs = [] ∨ ∃ el sp, ds[j]? = some (.slice el sp) ∧ el.length = xs.length
  | [], vs, ds, ps, as, _, _, j, t, e, sz, b, xs, h1, _, _ => by simp at h1
  | t0 :: ts, vs, ds, ps, as, hA, hr, j, t, e, sz, b, xs, h1, h2, h3 => by
    obtain ⟨v, vs', d, ds', p, q, rfl, rfl, rfl, g1, g2⟩ := trodAll_cons hA
    cases as with
    | nil => simp at h3
    | cons a as =>
      simp only [RelVs] at hr
      obtain ⟨u, us, hu, r1, r2⟩ := hr
      simp only [List.cons.injEq] at hu
      obtain ⟨rfl, rfl⟩ := hu
      cases j with
      | zero =>
        simp only [List.getElem?_cons_zero, Option.some.injEq] at h1 h3
        subst h1 h3
        simp only [RelV, RelT] at r1
        rcases r1 with ⟨_, h, _⟩ | ⟨_, blk, off, s, cap, hv, _⟩
        · exact .inl h
        · right
          subst hv
          obtain ⟨m, hm⟩ := g1
          rcases Go.Deep.open_slice h2 hm with ⟨h, _⟩ | ⟨a, len, cap', k, n', D, Pl, hc, _, _, _, _, hx, _⟩
          · simp [Value.cells] at h
          · simp [Value.cells] at hc
            obtain ⟨_, h4, _⟩ := hc
            simp only [Prod.mk.injEq] at hx
            refine ⟨_, _, by rw [List.getElem?_cons_zero, hx.1], ?_⟩
            simp [h4]
      | succ j =>
        simp only [List.getElem?_cons_succ] at h1 h3 ⊢
        exact args_len g2 r2 j t e sz b xs h1 h2 h3
/-- The frame of a law whose slices are short. -/
theorem law_contract_upto {n : Nat} {B : Nat} {fn : Func} {s : ChangeSpec} {An : Ann} {f : FuncId} {tb : TypeId} (hm : P.follows .mixedOrders = true) (hn : (P.funcs.toList.all fun fn => fn.name != "runtime.NumGoroutine") = true) (hl : laidOutB P = true)
    (hfn : P.funcs[f]? = some fn) (hout : An.bref f = none) (hres : resSh P An f 0 fn = [.f .b]) (hub : P.underlying tb = some .bool) (hrt : fn.resultTypes = #[tb])
    (hok : fn.params.toList.all (okT P (n + 1)) = true) (hread : (fn.params.toList.all fun t => P.readableRec t && decide (t < P.types.size)) = true)
    (hvars : s.vars = []) (hspec : ∀ (ds : List (DataW H)), ds.length = fn.params.toList.length → s.fn H ds = { results := [.lit (.bool true)], args := ds })
    (claim : ∀ as, ArgWt P (n + 1) fn.params.toList as → (∀ (j : Nat) (t e : TypeId) (sz : Nat) (b : Bool) (xs : List (List T)), fn.params.toList[j]? = some t → P.underlying t = some (.slice e) → as[j]? = some (AV.t (T.lst sz b xs)) → xs.length ≤ B) → orc P An (.call f) as [] = some [.bool true])
    (W : World) (base : Nat) (args : Array Value) (ds gs : List (DataW H)) (before : List MemPlace) (hval : ∀ (j : Nat) t v, fn.params[j]? = some t → args[j]? = some v → Value.okWide P W .any base t v)
    (hW : DataW.Whole enc P fn.params.toList s.vars false W args.toList ds gs before)
    (hk : ∀ el sp, DataW.slice el sp ∈ ds → el.length ≤ B)
    (hsz : (DataW.weightsEach P (fn.params.toList ++ s.plain.varTypes P) (ds ++ gs)).all (· ≤ reachBytes) = true) :
    Calls P f args W fun e W' => ∃ v, e = .returned v ∧ s.post enc P fn false true false false W args v W' := by
  have hW' := hW
  obtain ⟨p, q, hA, hV, rfl, hz, hnd⟩ := hW
  rw [hvars] at hV
  obtain ⟨rfl, rfl⟩ := trodVars_none hV
  obtain ⟨as, ha, hr⟩ := open_args hok (fun j t v ht hv => hval j t v (by rw [← Array.getElem?_toList]; exact ht) (by rw [← Array.getElem?_toList]; exact hv)) hA (fun k hk => by simpa using List.all_eq_true.1 hsz k (weightsEach_left hk))
  have hlen : ds.length = fn.params.toList.length := by
    clear hW' hr ha hval hz hnd hV hread hok claim hsz hk
    generalize fn.params.toList = ts at hA
    generalize args.toList = vs at hA
    induction ts generalizing vs ds p with
    | nil => obtain ⟨_, rfl, _⟩ := trodAll_nil hA; rfl
    | cons t ts ih =>
      obtain ⟨v, vs', d, ds', p', q', _, rfl, _, _, h2⟩ := trodAll_cons hA
      simp [ih _ _ _ h2]
  have hnn : ∀ (f : FuncId) (fn : Func), P.funcs[f]? = some fn → fn.name ≠ "runtime.NumGoroutine" := by
    intro f fn h
    have := List.all_eq_true.1 hn fn (List.mem_of_getElem? (i := f) (by rw [Array.getElem?_toList]; exact h))
    simpa using this
  have := calls_true (w := W) (A0 := fun b => b < W.heap.size) hm hnn hfn hout hres (fun _ h => h) hr (claim as ha fun j t e sz b xs h1 h2 h3 => by
    rcases args_len hA hr j t e sz b xs h1 h2 h3 with h | ⟨el, sp, h4, h5⟩
    · rw [h]; exact Nat.zero_le _
    · rw [← h5]; exact hk el sp (List.mem_of_getElem? h4))
  rw [show args.toList.toArray = args from by simp] at this
  refine this.mono fun e W' ⟨he, hb⟩ => ⟨.bool true, he, ?_⟩
  have hsp := hspec ds hlen
  refine ⟨ds, [], p ++ [], [], p, [], hW', ?_, ?_, ?_, below_kept hb _, fun h => by cases h⟩
  · rw [List.append_nil, hsp, hrt]
    exact trodAll_cons_mk (shut_bool hub true) trodAll_mk0
  · rw [List.append_nil, hsp]
    exact shut_args hl hb hread hA (fun x hx => hW'.lt x (by simpa using hx))
  · rw [List.append_nil, hsp, hvars]
    rfl
end

end Go.Aev
