import Derived.Test.YtgkhhafdkdmlpaaGreatTopMostQ16
import Derived.Test.YtgkhhafdkdmlpaaGreatTopMostQ5
import Derived.Test.YtgkhhafdkdmlpaaGreatTopMostQ20
set_option linter.all false
namespace Go.Aev.Wd.Lg
open Go Go.Aev Go.Aev.Gen Go.Aev.Wd Go.Proofs
set_option maxRecDepth 1000000 in
theorem FZ{n:Nat}{ts:List T}(h:Wt ar (n+1) 3 ts):∃m:Int,ts= [ti m]:=by have c:ar.underlying 3=some (.int .i64):=Tryz.underlying3;have b:=@Ri ar n 3 ts .i64 c h;obtain⟨m,a,_⟩:=b;exact⟨m,a⟩
theorem J6:ar.cellsOf 3=1:=by kernel_rfl
set_option maxRecDepth 1000000 in
theorem MP{n:Nat}{a:AV}(h:(bt ar 22=true/\∃l,Wt ar (n+2) 22 l/\a= .agg (l.map .t))\/(bt ar 22=false/\∃x,Wt ar (n+2) 22 [x]/\a= .t x)):∃e l,a=ae e l:=by obtain⟨x,h1,rfl⟩:=Di h (by kernel_rfl);have f:=(Tryz.underlying22:ar.underlying 22=_);obtain⟨b,l,c,_,g⟩:=Rj (λr:Int=> [ti r]) f h1 (λcs d=>FZ d);rw [J6] at c;simp only [TD,and_true] at c;subst c;exact⟨b,l,rfl⟩
set_option maxRecDepth 1000000 in
theorem xo{n:Nat}{a:AV}(h:(bt ar 3=true/\∃l,Wt ar (n+1) 3 l/\a= .agg (l.map .t))\/(bt ar 3=false/\∃x,Wt ar (n+1) 3 [x]/\a= .t x)):∃m,a=I m:=by obtain⟨x,h1,rfl⟩:=Di h (by kernel_rfl);obtain⟨m,b⟩:=FZ h1;simp only [TD,and_true] at b;subst b;exact⟨m,rfl⟩
end Go.Aev.Wd.Lg
namespace Go.Aev.Gen
open Go Go.Aev Go.Aev.Wd Go.Aev.Wd.Lg Go.Proofs
set_option maxRecDepth 1000000 in
theorem claim3(vs:List AV)(h:uL ar (19+1) Tryz.f3.params.toList vs):Or (.call 3) vs []=some [.bool true]:=by rw [Tryz.params3] at h;obtain⟨a,_,rfl,h1,b,_,rfl,g,c,_,rfl,i,d,_,rfl,j,f,_,rfl,k,rfl⟩:=h;obtain⟨e,l,rfl⟩:=MP h1;obtain⟨x,rfl⟩:=xo g;obtain⟨y,rfl⟩:=xo i;obtain⟨z,rfl⟩:=xo j;obtain⟨w,rfl⟩:=xo k;exact Go.Aev.Aa.MX e l x y z w
end Go.Aev.Gen
