/-
  A law that answers true, as its row asks it.
-/
import Derived.Test.YtmpjdngpblfecaaAevFix
import Derived.Below
set_option linter.unusedSimpArgs false
set_option linter.unusedVariables false
namespace Go.Aev
open Go

section
variable {P : Program} {An : Ann} {w w' : World}

theorem Keep.below (k : Keep w w') : Go.RowKit.Below w.heap.size w w' := ⟨k.os, k.tape, k.output, k.size, k.blk⟩

theorem calls_true {f : FuncId} {fn : Func} {vals : List AV} {args : List Value} {A0 : Nat → Prop} (hX : ESound P An) (hm : P.follows .mixedOrders = true) (hn : ∀ (f : FuncId) (fn : Func), P.funcs[f]? = some fn → fn.name ≠ "runtime.NumGoroutine")
    (hfn : P.funcs[f]? = some fn) (hout : An.bref f = none) (hres : resSh P An f 0 fn = [.f .b]) (hA : ∀ b, A0 b → b < w.heap.size) (hrel : RelVs w A0 (fun _ => none) vals args)
    (e : orc P An (.call f) vals [] = some [.bool true]) : Calls P f args.toArray w fun e w' => e = .returned (.bool true) ∧ Go.RowKit.Below w.heap.size w w' := by
  obtain ⟨fn', body, h1, _, _, h2⟩ := orc_sound hX hm hn f vals [] _ e
  rw [hfn] at h1; simp only [Option.some.injEq] at h1; subst h1
  refine (h2.values hout A0 w args hA hrel).mono fun e w' ⟨rs, own, he, kp, _, _, hr⟩ => ?_
  rw [hres] at hr
  obtain ⟨x, xs', v, vs', ob, own', e1, rfl, _, h3, e2, rfl, _⟩ := hr
  simp only [List.cons.injEq] at e1
  obtain ⟨rfl, rfl⟩ := e1
  obtain ⟨_, h4, _⟩ := h3
  simp only [RelT] at h4; subst h4
  exact ⟨he, kp.below⟩

theorem relVs_ints {A : Nat → Prop} {ρ : Id → Option Value} (k : IntKind) : ∀ (l : List Int), RelVs w A ρ (l.map fun n => AV.t (.int k n)) (l.map fun n => Value.int k n)
  | [] => by simp [RelVs]
  | n :: l => by
    simp only [List.map_cons, RelVs]
    exact ⟨_, _, rfl, by simp [RelV, RelT], relVs_ints k l⟩
end
end Go.Aev
