import Derived.Test.YtcjplcpngagalaaDoorBlastRoundQ13
import Derived.Test.YtcjplcpngagalaaDoorBlastRoundQ5
import Derived.Test.YtcjplcpngagalaaDoorBlastRoundQ9
import Derived.Test.YtcjplcpngagalaaDoorBlastRoundQ16
set_option linter.all false
namespace Go.Aev.Gen
open Go Go.Aev Go.Proofs
set_option maxRecDepth 1000000
theorem u3:ak.underlying 3=some (.int .i64):=Tryd.underlying3
theorem u9:ak.underlying 9=some .string:=Tryd.underlying9
theorem Qi:ak.underlying 24=some (.slice 3):=Tryd.underlying24
theorem Qg:ak.underlying 22=some (.slice 45):=Tryd.underlying22
theorem Qh:ak.underlying 23=some (.slice 43):=Tryd.underlying23
theorem Qj:ak.underlying 27=some (.slice 53):=Tryd.underlying27
theorem Qk:ak.underlying 48=some (.slice 85):=Tryd.underlying48
theorem Ql:ak.underlying 51=some (.slice 60):=Tryd.underlying51
theorem c3:ak.cellsOf 3=1:=by kernel_rfl
theorem HP:ak.cellsOf 45=3:=by kernel_rfl
theorem HO:ak.cellsOf 43=5:=by kernel_rfl
theorem HQ:ak.cellsOf 53=5:=by kernel_rfl
theorem HT:ak.cellsOf 85=2:=by kernel_rfl
theorem HR:ak.cellsOf 60=5:=by kernel_rfl
theorem Hx:ak.bytesOf 85=16:=by kernel_rfl
theorem lM{n:Nat}{ts:List T}(h:Wt ak (n+1) 3 ts):∃m:Int,ts= [ti m]:=by obtain⟨m,a,_⟩:=@Qu ak n 3 ts .i64 u3 h;exact⟨m,a⟩
theorem u7{n:Nat}{ts:List T}(h:Wt ak (n+2) 24 ts):∃e l,ts= [T.ab 1 e (enc l)]/\(e=true->l= []):=by obtain⟨b,l,a,c,_⟩:=@rB ak (n+1) 24 ts Int (λx:Int=> [ti x]) 3 Qi h (λcs d=>lM d);rw [c3] at a;exact⟨b,l,a,c⟩
theorem H4{n:Nat}{ts:List T}(h:Wt ak (n+2) 85 ts):∃p:Int×Int,ts= [ti p.1,ti p.2]:=by obtain⟨a,b,rfl,e,c,d,rfl,f,rfl⟩:=@mL ak (n+1) 85 ts _ Tryd.underlying85 h;obtain⟨x,rfl⟩:=lM e;obtain⟨y,rfl⟩:=lM f;exact⟨(x,y),rfl⟩
theorem H5{n:Nat}{ts:List T}(h:Wt ak (n+3) 48 ts):∃e l,ts= [T.ab 2 e (bV l)]/\(e=true->l= [])/\l.length<=ML:=by obtain⟨b,l,a,d,_,c⟩:=@rB ak (n+2) 48 ts (Int×Int) (λp:Int×Int=> [ti p.1,ti p.2]) 85 Qk h (λcs f=>H4 f);rw [HT] at a;rw [Hx] at c;refine⟨b,l,a,d, ?_⟩;unfold reachBytes at c;unfold ML;omega
structure tS (v:Va):Prop where
 em:v.em=false
 cl:v.cs.length<=ML
 ce:v.ec=true->v.cs= []
theorem G2{n:Nat}{ts:List T}(h:Wt ak (n+4) 50 ts):∃v:Va,ts= [ti v.n,ti v.d,T.ab 2 v.ec (bV v.cs),ti v.r]/\tS v:=by obtain⟨a,b,rfl,i,c,d,rfl,j,p,q,rfl,k,rfl⟩:=@mL ak (n+3) 50 ts _ Tryd.underlying50 h;obtain⟨s,t,rfl,m,u,w,rfl,o,rfl⟩:=@mL ak (n+2) 47 a _ Tryd.underlying47 i;obtain⟨x,rfl⟩:=lM m;obtain⟨y,rfl⟩:=lM o;obtain⟨e,l,rfl,f,g⟩:=H5 j;obtain⟨z,rfl⟩:=lM k;exact⟨⟨false,x,y,e,l,z⟩,rfl,rfl,g,f⟩
def gE(e:En):List T:= [T.ab 1 e.ea (enc e.ar),ti e.to.n,ti e.to.d,cT e.to,ti e.to.r]
theorem Kv{n:Nat}{ts:List T}(h:Wt ak (n+5) 60 ts):∃e:{e:En // (e.ea=true->e.ar= [])/\tS e.to},ts=gE e.1:=by
 obtain⟨a,b,rfl,i,c,d,rfl,j,rfl⟩:=@mL ak (n+4) 60 ts _ Tryd.underlying60 h;obtain⟨e,l,rfl,g⟩:=u7 (n:=n+2) i;obtain⟨v,rfl,f⟩:=G2 j;refine⟨⟨⟨e,l,v⟩,g,f⟩, ?_⟩;have k:cT v=T.ab 2 v.ec (bV v.cs):=by unfold cT;rw [f.em];rfl
 show _= [T.ab 1 e (enc l),ti v.n,ti v.d,cT v,ti v.r];rw [k];rfl
theorem vu{b c:Type}{p:b->Prop}(g:b->c)(l:List {a:b // p a}):l.map (λa=>g a.1)= (l.map Subtype.val).map g:=by simp
theorem Ku{n:Nat}{ts:List T}(h:Wt ak (n+6) 51 ts):∃e l,ts= [T.ab 5 e (aH l)]/\∀x∈l,(x.ea=true->x.ar= [])/\tS x.to:=by obtain⟨b,l,a,_⟩:=@rB ak (n+5) 51 ts {e:En // (e.ea=true->e.ar= [])/\tS e.to} (λe=>gE e.1) 60 Ql h (λcs c=>Kv c);rw [HR,vu] at a;refine⟨b,l.map Subtype.val,a,λx d=> ?_⟩;obtain⟨y,_,rfl⟩:=Rb.1 d;exact y.2
def gM(m:Me):List T:= [mT m,ti m.re.n,ti m.re.d,cT m.re,ti m.re.r]
theorem LI{n:Nat}{ts:List T}(h:Wt ak (n+7) 53 ts):∃m:{m:Me // dQ m},ts=gM m.1:=by
 obtain⟨a,b,rfl,j,c,d,rfl,k,rfl⟩:=@mL ak (n+6) 53 ts _ Tryd.underlying53 h;obtain⟨e,l,rfl,g⟩:=Ku j;obtain⟨v,rfl,i⟩:=G2 (n:=n+2) k;refine⟨⟨⟨false,e,l,v⟩,⟨i.cl,λx f=>(g x f).2.cl,i.ce,λx f=>(g x f).2.ce,λx f=>(g x f).1⟩⟩, ?_⟩;have o:cT v=T.ab 2 v.ec (bV v.cs):=by unfold cT;rw [i.em];rfl
 show _= [T.ab 5 e (aH l),ti v.n,ti v.d,cT v,ti v.r];rw [o];rfl
theorem Qs{n:Nat}{a:AV}(h:(bD ak 29=true/\∃l,Wt ak (n+9) 29 l/\a= .agg (l.map .t))\/(bD ak 29=false/\∃x,Wt ak (n+9) 29 [x]/\a= .t x)):∃e ms,a=WG e ms/\∀m∈ms,dQ m:=by obtain⟨l,d,rfl⟩:=AR h (by kernel_rfl);obtain⟨a,b,rfl,f,rfl⟩:=@mL ak (n+8) 29 l _ Tryd.underlying29 d;obtain⟨e,l,c,_⟩:=@rB ak (n+7) 27 a {m:Me // dQ m} (λm=>gM m.1) 53 Qj f (λcs g=>LI g);rw [HQ,vu] at c;subst c;refine⟨e,l.map Subtype.val,rfl,λm hm=> ?_⟩;obtain⟨y,_,rfl⟩:=Rb.1 hm;exact y.2
def gD(d:Dc):List T:= [T.str d.nm,T.ab 1 d.ea (enc d.ar),ti d.so]
theorem If{n:Nat}{ts:List T}(h:Wt ak (n+3) 45 ts):∃d:{d:Dc // (d.ea=true->d.ar= [])/\d.nm.size<=9223372036854775807},ts=gD d.1:=by obtain⟨a,b,rfl,g,c,d,rfl,i,p,q,rfl,j,rfl⟩:=@mL ak (n+2) 45 ts _ Tryd.underlying45 h;obtain⟨s,rfl,hs⟩:=@G6 ak (n+1) 9 a u9 g;obtain⟨e,l,rfl,f⟩:=u7 i;obtain⟨z,rfl⟩:=lM j;exact⟨⟨⟨s,e,l,z⟩,f,by unfold maxLen at hs;exact hs⟩,rfl⟩
def gN(x:Nd):List T:= [ti x.op,T.ab 1 x.ek (enc x.ks),ti x.n,ti x.d,T.str x.nm]
theorem Nl{n:Nat}{ts:List T}(h:Wt ak (n+3) 43 ts):∃x:{x:Nd // x.ek=true->x.ks= []},ts=gN x.1:=by obtain⟨a,b,rfl,g,c,d,rfl,i,p,q,rfl,j,r,t,rfl,k,o,u,rfl,m,rfl⟩:=@mL ak (n+2) 43 ts _ Tryd.underlying43 h;obtain⟨x,rfl⟩:=lM g;obtain⟨e,l,rfl,f⟩:=u7 i;obtain⟨y,rfl⟩:=lM j;obtain⟨z,rfl⟩:=lM k;obtain⟨s,rfl,hs⟩:=@G6 ak (n+1) 9 o u9 m;exact⟨⟨⟨x,e,l,y,z,s⟩,f⟩,rfl⟩
theorem Hv{n:Nat}{a:AV}(h:(bD ak 26=true/\∃l,Wt ak (n+5) 26 l/\a= .agg (l.map .t))\/(bD ak 26=false/\∃x,Wt ak (n+5) 26 [x]/\a= .t x)):∃x:As,a=AG x/\n7 x/\∀d∈x.ds,d.nm.size<=9223372036854775807:=by
 obtain⟨l,s,rfl⟩:=AR h (by kernel_rfl);obtain⟨a,b,rfl,u,c,d,rfl,v,p,q,rfl,w,rfl⟩:=@mL ak (n+4) 26 l _ Tryd.underlying26 s;obtain⟨m,g,i,_⟩:=@rB ak (n+3) 22 a {d:Dc // (d.ea=true->d.ar= [])/\d.nm.size<=9223372036854775807} (λd=>gD d.1) 45 Qg u (λcs e=>If e);obtain⟨o,k,j,_⟩:=@rB ak (n+3) 23 c {x:Nd // x.ek=true->x.ks= []} (λx=>gN x.1) 43 Qh v (λcs e=>Nl e);obtain⟨e3,A,rfl,r⟩:=u7 (n:=n+2) w;rw [HP,vu] at i;rw [HO,vu] at j;subst i j;refine⟨⟨m,g.map Subtype.val,o,k.map Subtype.val,e3,A⟩,rfl,⟨λd f=> ?_,λx z=> ?_,r⟩,λd f=> ?_⟩
 .obtain⟨y,_,rfl⟩:=Rb.1 (show d∈g.map Subtype.val from f);exact y.2.1
 .obtain⟨y,_,rfl⟩:=Rb.1 (show x∈k.map Subtype.val from z);exact y.2
 .obtain⟨y,_,rfl⟩:=Rb.1 (show d∈g.map Subtype.val from f);exact y.2.2
open Go Go.Aev
theorem KD:kS ak ann (.call 5) [] []=some [.bool true]:=zi (n:=60) (by kernel_rfl)
open Go Go.Aev Go.Proofs
theorem claim3(vs:List AV)(h:tu ak (19+1) Tryd.f3.params.toList vs):Or (.call 3) vs []=some [.bool true]:=by rw [Tryd.params3] at h;obtain⟨a,_,rfl,c,b,_,rfl,d,rfl⟩:=h;obtain⟨x,rfl,f,g⟩:=Hv c;obtain⟨e,ms,rfl,i⟩:=Qs d;exact Lg ⟨f,g,i⟩ KD
end Go.Aev.Gen
