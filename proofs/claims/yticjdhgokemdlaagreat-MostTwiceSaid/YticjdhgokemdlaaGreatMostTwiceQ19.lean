import Derived.Test.YticjdhgokemdlaaGreatMostTwiceQ18
set_option linter.all false
namespace Go.Aev.Wd.Lg
open Go Go.Aev Go.Aev.Gen Go.Aev.Wd Go.Aev.Tb
open Go Go.Aev Go.Aev.Gen Go.Aev.Wd Go.Aev.Tb
theorem q1:Rat.divInt 0 1=0:=rfl
section
variable (rows:List R) (er eg ep et:Bool) (n:Nat) (gl:List Int) (v:Fr) (point times:List Fr)
theorem vR(q:Rat):(q.num.sign > 0)↔0 < q:=by
 have h1:=s8 q;have a:=gu q;rcases pJ q with e | e | e
 .rw [e] at h1 a⊢;refine⟨λ_=> ?_,λ_=>by decide⟩;have c:¬q < 0:=λh=>absurd (h1.2 h) (by decide);have b:q≠0:=λh=>absurd (a.2 h) (by decide);grind
 .rw [e] at h1⊢;refine⟨λh=>absurd h (by decide),λh=> ?_⟩;have:=h1.1 (by decide);exact absurd h (by grind)
 .rw [e] at a⊢;refine⟨λh=>absurd h (by decide),λh=> ?_⟩;have:=a.1 rfl;rw [this] at h;exact absurd h (by grind)
end
end Go.Aev.Wd.Lg
