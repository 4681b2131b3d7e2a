import Derived.Test.YticjdhgokemdlaaGreatMostWeakQ18
set_option linter.all false
namespace Go.Aev.Wd.Lg
open Go Go.Aev Go.Aev.Gen Go.Aev.Wd Go.Aev.Tb
theorem Mi(x:Fr):Or (.call 34) [Av x] []=some [tb (decide (bg x))]:=Ka x
open Go Go.Aev Go.Aev.Gen Go.Aev.Wd Go.Aev.Tb
theorem q1:Rat.divInt 0 1=0:=rfl
theorem Pt(r:R)(l:List Fr)(f:r.kd=1\/r.kd=2\/r.kd=3):oO (qI r) l=fU r (bt r.of (l.map aW)):=by
 have hs:∀(of:List Int) (l:List Fr) (a:Rat),fj of l a=a+bt of (l.map aW):=by
  intro of;induction of with
  | nil=>intro l a;rw [oG,fj];grind
  | cons c of g=>
   intro l a;cases l with
   | nil=>show a=a+0;grind
   | cons x l=>have h1:Rat.divInt c 1= (c:Rat):=Bw _;rw [fj,g l,h1,U5,bt];grind
 unfold oO fU;have b:=hs r.of l 0;rw [XA] at b;show decide ((fj r.of l 0 < (r.tv:Rat)/\r.kd≠3)\/(fj r.of l 0= (r.tv:Rat)/\r.kd≠2))=_;rw [b];generalize bt r.of (l.map aW)=q;rcases f with e | e | e
 .rw [if_pos e];refine decide_eq_decide.2 ?_;rw [e];constructor
  .rintro(⟨h,_⟩ | ⟨h,_⟩) <;> grind
  .intro h;by_cases d:q= (r.tv:Rat)
   .exact .inr ⟨d,by decide⟩
   .exact .inl ⟨by grind,by decide⟩
 .rw [if_neg (by omega),if_pos e];refine decide_eq_decide.2 ?_;rw [e];constructor
  .rintro(⟨h,_⟩ | ⟨_,h⟩)
   .exact h
   .exact absurd rfl h
  .intro h;exact .inl ⟨h,by decide⟩
 .rw [if_neg (by omega),if_neg (by omega)];refine decide_eq_decide.2 ?_;rw [e];constructor
  .rintro(⟨_,h⟩ | ⟨h,_⟩)
   .exact absurd rfl h
   .exact h
  .intro h;exact .inr ⟨h,by decide⟩
theorem SM:∀(of:List Int) (l:List Fr),fj of l 0=bt of (l.map aW):=by
 have hs:∀(of:List Int) (l:List Fr) (a:Rat),fj of l a=a+bt of (l.map aW):=by
  intro of;induction of with
  | nil=>intro l a;rw [oG,fj];grind
  | cons c of b=>
   intro l a;cases l with
   | nil=>show a=a+0;grind
   | cons x l=>have h1:Rat.divInt c 1= (c:Rat):=Bw _;rw [fj,b l,h1,U5,bt];grind
 intro of l;have:=hs of l 0;rwa [XA] at this
section
variable (rows:List R) (er eg ep et:Bool) (n:Nat) (gl:List Int) (v:Fr) (point times:List Fr)
theorem vo(q:Rat):(q.num.sign > 0)↔0 < q:=by
 have h1:=sG q;have a:=fY q;rcases pn q with e | e | e
 .rw [e] at h1 a⊢;refine⟨λ_=> ?_,λ_=>by decide⟩;have c:¬q < 0:=λh=>absurd (h1.2 h) (by decide);have b:q≠0:=λh=>absurd (a.2 h) (by decide);grind
 .rw [e] at h1⊢;refine⟨λh=>absurd h (by decide),λh=> ?_⟩;have:=h1.1 (by decide);exact absurd h (by grind)
 .rw [e] at a⊢;refine⟨λh=>absurd h (by decide),λh=> ?_⟩;have:=a.1 rfl;rw [this] at h;exact absurd h (by grind)
end
end Go.Aev.Wd.Lg
