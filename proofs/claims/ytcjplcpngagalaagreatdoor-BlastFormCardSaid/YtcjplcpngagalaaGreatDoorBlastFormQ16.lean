import Derived.Test.YtcjplcpngagalaaGreatDoorBlastFormQ13
import Derived.Test.YtcjplcpngagalaaGreatDoorBlastFormQ5
import Derived.Test.YtcjplcpngagalaaGreatDoorBlastFormQ9
import Derived.Test.YtcjplcpngagalaaGreatDoorBlastFormQ15
set_option linter.all false
namespace Go.Aev.Gen
open Go Go.Aev Go.Proofs
set_option maxRecDepth 1000000
theorem u3:ao.underlying 3=some (.int .i64):=Tryz.underlying3
theorem u9:ao.underlying 9=some .string:=Tryz.underlying9
theorem ME:ao.underlying 24=some (.slice 3):=Tryz.underlying24
theorem MC:ao.underlying 22=some (.slice 55):=Tryz.underlying22
theorem MD:ao.underlying 23=some (.slice 53):=Tryz.underlying23
theorem c3:ao.cellsOf 3=1:=by kernel_rfl
theorem Fx:ao.cellsOf 55=3:=by kernel_rfl
theorem Fw:ao.cellsOf 53=5:=by kernel_rfl
theorem qL{n:Nat}{ts:List T}(h:Wt ao (n+1) 3 ts):∃m:Int,ts= [ti m]:=by obtain⟨m,a,_⟩:=@MR ao n 3 ts .i64 u3 h;exact⟨m,a⟩
theorem wK{n:Nat}{ts:List T}(h:Wt ao (n+2) 24 ts):∃e l,ts= [T.ad 1 e (enc l)]/\(e=true->l= []):=by obtain⟨b,l,a,c,_⟩:=@yv ao (n+1) 24 ts Int (λx:Int=> [ti x]) 3 ME h (λcs d=>qL d);rw [c3] at a;exact⟨b,l,a,c⟩
structure MY (v:Va):Prop where
 em:v.em=false
 cl:v.cs.length<=ML
 ce:v.ec=true->v.cs= []
theorem Cl{b c:Type}{p:b->Prop}(g:b->c)(l:List {a:b // p a}):l.map (λa=>g a.1)= (l.map Subtype.val).map g:=by simp
def gD(d:Dc):List T:= [T.str d.nm,T.ad 1 d.ea (enc d.ar),ti d.so]
theorem FP{n:Nat}{ts:List T}(h:Wt ao (n+3) 55 ts):∃d:{d:Dc // (d.ea=true->d.ar= [])/\d.nm.size<=9223372036854775807},ts=gD d.1:=by obtain⟨a,b,rfl,g,c,d,rfl,i,p,q,rfl,j,rfl⟩:=@yw ao (n+2) 55 ts _ Tryz.underlying55 h;obtain⟨s,rfl,hs⟩:=@EJ ao (n+1) 9 a u9 g;obtain⟨e,l,rfl,f⟩:=wK i;obtain⟨z,rfl⟩:=qL j;exact⟨⟨⟨s,e,l,z⟩,f,by unfold maxLen at hs;exact hs⟩,rfl⟩
def gN(x:Nd):List T:= [ti x.op,T.ad 1 x.ek (enc x.ks),ti x.n,ti x.d,T.str x.nm]
theorem JT{n:Nat}{ts:List T}(h:Wt ao (n+3) 53 ts):∃x:{x:Nd // x.ek=true->x.ks= []},ts=gN x.1:=by obtain⟨a,b,rfl,g,c,d,rfl,i,p,q,rfl,j,r,t,rfl,k,o,u,rfl,m,rfl⟩:=@yw ao (n+2) 53 ts _ Tryz.underlying53 h;obtain⟨x,rfl⟩:=qL g;obtain⟨e,l,rfl,f⟩:=wK i;obtain⟨y,rfl⟩:=qL j;obtain⟨z,rfl⟩:=qL k;obtain⟨s,rfl,hs⟩:=@EJ ao (n+1) 9 o u9 m;exact⟨⟨⟨x,e,l,y,z,s⟩,f⟩,rfl⟩
theorem Ff{n:Nat}{a:AV}(h:(bD ao 26=true/\∃l,Wt ao (n+5) 26 l/\a= .agg (l.map .t))\/(bD ao 26=false/\∃x,Wt ao (n+5) 26 [x]/\a= .t x)):∃x:As,a=AG x/\lX x/\∀d∈x.ds,d.nm.size<=9223372036854775807:=by
 obtain⟨l,s,rfl⟩:=Fb h (by kernel_rfl);obtain⟨a,b,rfl,u,c,d,rfl,v,p,q,rfl,w,rfl⟩:=@yw ao (n+4) 26 l _ Tryz.underlying26 s;obtain⟨m,g,i,_⟩:=@yv ao (n+3) 22 a {d:Dc // (d.ea=true->d.ar= [])/\d.nm.size<=9223372036854775807} (λd=>gD d.1) 55 MC u (λcs e=>FP e);obtain⟨o,k,j,_⟩:=@yv ao (n+3) 23 c {x:Nd // x.ek=true->x.ks= []} (λx=>gN x.1) 53 MD v (λcs e=>JT e);obtain⟨e3,A,rfl,r⟩:=wK (n:=n+2) w;rw [Fx,Cl] at i;rw [Fw,Cl] at j;subst i j;refine⟨⟨m,g.map Subtype.val,o,k.map Subtype.val,e3,A⟩,rfl,⟨λd f=> ?_,λx z=> ?_,r⟩,λd f=> ?_⟩
 .obtain⟨y,_,rfl⟩:=NG.1 (show d∈g.map Subtype.val from f);exact y.2.1
 .obtain⟨y,_,rfl⟩:=NG.1 (show x∈k.map Subtype.val from z);exact y.2
 .obtain⟨y,_,rfl⟩:=NG.1 (show d∈g.map Subtype.val from f);exact y.2.2
open Go Go.Aev
theorem HL:jN ao ann (.call 6) [] []=some [.bool true]:=xz (n:=60) (by kernel_rfl)
open Go Go.Aev Go.Proofs
theorem claim5(vs:List AV)(h:rY ao (19+1) Tryz.f5.params.toList vs):Or (.call 5) vs []=some [.bool true]:=by rw [Tryz.params5] at h;obtain⟨a,_,rfl,b,rfl⟩:=h;obtain⟨x,rfl,c,d⟩:=Ff b;exact Iq c d HL
end Go.Aev.Gen
