import Derived.Test.YtcjplcpngagalaaDoorBlastNoneQ13
import Derived.Test.YtcjplcpngagalaaDoorBlastNoneQ5
import Derived.Test.YtcjplcpngagalaaDoorBlastNoneQ9
import Derived.Test.YtcjplcpngagalaaDoorBlastNoneQ15
set_option linter.all false
namespace Go.Aev.Gen
open Go Go.Aev Go.Proofs
set_option maxRecDepth 1000000
theorem u3:aq.underlying 3=some (.int .i64):=Tryd.underlying3
theorem u9:aq.underlying 9=some .string:=Tryd.underlying9
theorem K6:aq.underlying 24=some (.slice 3):=Tryd.underlying24
theorem K4:aq.underlying 22=some (.slice 45):=Tryd.underlying22
theorem K5:aq.underlying 23=some (.slice 43):=Tryd.underlying23
theorem c3:aq.cellsOf 3=1:=by kernel_rfl
theorem Eo:aq.cellsOf 45=3:=by kernel_rfl
theorem Em:aq.cellsOf 43=5:=by kernel_rfl
theorem qg{n:Nat}{ts:List T}(h:Wt aq (n+1) 3 ts):∃m:Int,ts= [ti m]:=by obtain⟨m,a,_⟩:=@Lf aq n 3 ts .i64 u3 h;exact⟨m,a⟩
theorem vK{n:Nat}{ts:List T}(h:Wt aq (n+2) 24 ts):∃e l,ts= [T.ad 1 e (enc l)]/\(e=true->l= []):=by obtain⟨b,l,a,c,_⟩:=@xE aq (n+1) 24 ts Int (λx:Int=> [ti x]) 3 K6 h (λcs d=>qg d);rw [c3] at a;exact⟨b,l,a,c⟩
structure Lm (v:Va):Prop where
 em:v.em=false
 cl:v.cs.length<=ML
 ce:v.ec=true->v.cs= []
theorem Bu{b c:Type}{p:b->Prop}(g:b->c)(l:List {a:b // p a}):l.map (λa=>g a.1)= (l.map Subtype.val).map g:=by simp
def gD(d:Dc):List T:= [T.str d.nm,T.ad 1 d.ea (enc d.ar),ti d.so]
theorem EE{n:Nat}{ts:List T}(h:Wt aq (n+3) 45 ts):∃d:{d:Dc // (d.ea=true->d.ar= [])/\d.nm.size<=9223372036854775807},ts=gD d.1:=by obtain⟨a,b,rfl,g,c,d,rfl,i,p,q,rfl,j,rfl⟩:=@xF aq (n+2) 45 ts _ Tryd.underlying45 h;obtain⟨s,rfl,hs⟩:=@DI aq (n+1) 9 a u9 g;obtain⟨e,l,rfl,f⟩:=vK i;obtain⟨z,rfl⟩:=qg j;exact⟨⟨⟨s,e,l,z⟩,f,by unfold maxLen at hs;exact hs⟩,rfl⟩
def gN(x:Nd):List T:= [ti x.op,T.ad 1 x.ek (enc x.ks),ti x.n,ti x.d,T.str x.nm]
theorem IE{n:Nat}{ts:List T}(h:Wt aq (n+3) 43 ts):∃x:{x:Nd // x.ek=true->x.ks= []},ts=gN x.1:=by obtain⟨a,b,rfl,g,c,d,rfl,i,p,q,rfl,j,r,t,rfl,k,o,u,rfl,m,rfl⟩:=@xF aq (n+2) 43 ts _ Tryd.underlying43 h;obtain⟨x,rfl⟩:=qg g;obtain⟨e,l,rfl,f⟩:=vK i;obtain⟨y,rfl⟩:=qg j;obtain⟨z,rfl⟩:=qg k;obtain⟨s,rfl,hs⟩:=@DI aq (n+1) 9 o u9 m;exact⟨⟨⟨x,e,l,y,z,s⟩,f⟩,rfl⟩
theorem D8{n:Nat}{a:AV}(h:(bt aq 26=true/\∃l,Wt aq (n+5) 26 l/\a= .agg (l.map .t))\/(bt aq 26=false/\∃x,Wt aq (n+5) 26 [x]/\a= .t x)):∃x:As,a=AG x/\lD x/\∀d∈x.ds,d.nm.size<=9223372036854775807:=by
 obtain⟨l,u,rfl⟩:=D5 h (by kernel_rfl);obtain⟨a,b,rfl,v,c,d,rfl,w,p,q,rfl,z,rfl⟩:=@xF aq (n+4) 26 l _ Tryd.underlying26 u;obtain⟨m,g,i,_⟩:=@xE aq (n+3) 22 a {d:Dc // (d.ea=true->d.ar= [])/\d.nm.size<=9223372036854775807} (λd=>gD d.1) 45 K4 v (λcs e=>EE e);obtain⟨o,k,j,_⟩:=@xE aq (n+3) 23 c {x:Nd // x.ek=true->x.ks= []} (λx=>gN x.1) 43 K5 w (λcs e=>IE e);obtain⟨r,B,rfl,s⟩:=vK (n:=n+2) z;rw [Eo,Bu] at i;rw [Em,Bu] at j;subst i j;refine⟨⟨m,g.map Subtype.val,o,k.map Subtype.val,r,B⟩,rfl,⟨λd f=> ?_,λx A=> ?_,s⟩,λd f=> ?_⟩
 .obtain⟨y,_,rfl⟩:=L4.1 (show d∈g.map Subtype.val from f);exact y.2.1
 .obtain⟨y,_,rfl⟩:=L4.1 (show x∈k.map Subtype.val from A);exact y.2
 .obtain⟨y,_,rfl⟩:=L4.1 (show d∈g.map Subtype.val from f);exact y.2.2
open Go Go.Aev
theorem Gz:jB aq ann (.call 5) [] []=some [.bool true]:=wK (n:=60) (by kernel_rfl)
open Go Go.Aev Go.Proofs
theorem claim4(vs:List AV)(h:rr aq (19+1) Tryd.f4.params.toList vs):Or (.call 4) vs []=some [.bool true]:=by rw [Tryd.params4] at h;obtain⟨a,_,rfl,b,rfl⟩:=h;obtain⟨x,rfl,c,d⟩:=D8 b;exact Hb c d Gz
end Go.Aev.Gen
