import Derived.Test.YtcjplcpngagalaaGreatDoorBlastUpsQ13
import Derived.Test.YtcjplcpngagalaaGreatDoorBlastUpsQ5
import Derived.Test.YtcjplcpngagalaaGreatDoorBlastUpsQ9
set_option linter.all false
namespace Go.Aev.Gen
open Go Go.Aev Go.Proofs
set_option maxRecDepth 1000000
theorem u3:ai.underlying 3=some (.int .i64):=Tryz.underlying3
theorem u9:ai.underlying 9=some .string:=Tryz.underlying9
theorem Nu:ai.underlying 24=some (.slice 3):=Tryz.underlying24
theorem Ns:ai.underlying 22=some (.slice 55):=Tryz.underlying22
theorem Nt:ai.underlying 23=some (.slice 53):=Tryz.underlying23
theorem Nv:ai.underlying 27=some (.slice 63):=Tryz.underlying27
theorem Nw:ai.underlying 58=some (.slice 98):=Tryz.underlying58
theorem Nx:ai.underlying 61=some (.slice 69):=Tryz.underlying61
theorem c3:ai.cellsOf 3=1:=by kernel_rfl
theorem FG:ai.cellsOf 55=3:=by kernel_rfl
theorem FF:ai.cellsOf 53=5:=by kernel_rfl
theorem FH:ai.cellsOf 63=5:=by kernel_rfl
theorem FJ:ai.cellsOf 98=2:=by kernel_rfl
theorem FI:ai.cellsOf 69=5:=by kernel_rfl
theorem Fs:ai.bytesOf 98=16:=by kernel_rfl
theorem kJ{n:Nat}{ts:List T}(h:Wt ai (n+1) 3 ts):∃m:Int,ts= [ti m]:=by obtain⟨m,a,_⟩:=@NG ai n 3 ts .i64 u3 h;exact⟨m,a⟩
theorem tP{n:Nat}{ts:List T}(h:Wt ai (n+2) 24 ts):∃e l,ts= [T.ab 1 e (enc l)]/\(e=true->l= []):=by obtain⟨b,l,a,c,_⟩:=@qe ai (n+1) 24 ts Int (λx:Int=> [ti x]) 3 Nu h (λcs d=>kJ d);rw [c3] at a;exact⟨b,l,a,c⟩
theorem FT{n:Nat}{ts:List T}(h:Wt ai (n+2) 98 ts):∃p:Int×Int,ts= [ti p.1,ti p.2]:=by obtain⟨a,b,rfl,e,c,d,rfl,f,rfl⟩:=@ma ai (n+1) 98 ts _ Tryz.underlying98 h;obtain⟨x,rfl⟩:=kJ e;obtain⟨y,rfl⟩:=kJ f;exact⟨(x,y),rfl⟩
theorem FU{n:Nat}{ts:List T}(h:Wt ai (n+3) 58 ts):∃e l,ts= [T.ab 2 e (cz l)]/\(e=true->l= [])/\l.length<=ML:=by obtain⟨b,l,a,d,_,c⟩:=@qe ai (n+2) 58 ts (Int×Int) (λp:Int×Int=> [ti p.1,ti p.2]) 98 Nw h (λcs f=>FT f);rw [FJ] at a;rw [Fs] at c;refine⟨b,l,a,d, ?_⟩;unfold reachBytes at c;unfold ML;omega
structure sK (v:Va):Prop where
 em:v.em=false
 cl:v.cs.length<=ML
 ce:v.ec=true->v.cs= []
theorem ET{n:Nat}{ts:List T}(h:Wt ai (n+4) 60 ts):∃v:Va,ts= [ti v.n,ti v.d,T.ab 2 v.ec (cz v.cs),ti v.r]/\sK v:=by obtain⟨a,b,rfl,i,c,d,rfl,j,p,q,rfl,k,rfl⟩:=@ma ai (n+3) 60 ts _ Tryz.underlying60 h;obtain⟨s,t,rfl,m,u,w,rfl,o,rfl⟩:=@ma ai (n+2) 57 a _ Tryz.underlying57 i;obtain⟨x,rfl⟩:=kJ m;obtain⟨y,rfl⟩:=kJ o;obtain⟨e,l,rfl,f,g⟩:=FU j;obtain⟨z,rfl⟩:=kJ k;exact⟨⟨false,x,y,e,l,z⟩,rfl,rfl,g,f⟩
def gE(e:En):List T:= [T.ab 1 e.ea (enc e.ar),ti e.to.n,ti e.to.d,cT e.to,ti e.to.r]
theorem Il{n:Nat}{ts:List T}(h:Wt ai (n+5) 69 ts):∃e:{e:En // (e.ea=true->e.ar= [])/\sK e.to},ts=gE e.1:=by
 obtain⟨a,b,rfl,i,c,d,rfl,j,rfl⟩:=@ma ai (n+4) 69 ts _ Tryz.underlying69 h;obtain⟨e,l,rfl,g⟩:=tP (n:=n+2) i;obtain⟨v,rfl,f⟩:=ET j;refine⟨⟨⟨e,l,v⟩,g,f⟩, ?_⟩;have k:cT v=T.ab 2 v.ec (cz v.cs):=by unfold cT;rw [f.em];rfl
 show _= [T.ab 1 e (enc l),ti v.n,ti v.d,cT v,ti v.r];rw [k];rfl
theorem uf{b c:Type}{p:b->Prop}(g:b->c)(l:List {a:b // p a}):l.map (λa=>g a.1)= (l.map Subtype.val).map g:=by simp
theorem Ik{n:Nat}{ts:List T}(h:Wt ai (n+6) 61 ts):∃e l,ts= [T.ab 5 e (aC l)]/\∀x∈l,(x.ea=true->x.ar= [])/\sK x.to:=by obtain⟨b,l,a,_⟩:=@qe ai (n+5) 61 ts {e:En // (e.ea=true->e.ar= [])/\sK e.to} (λe=>gE e.1) 69 Nx h (λcs c=>Il c);rw [FI,uf] at a;refine⟨b,l.map Subtype.val,a,λx d=> ?_⟩;obtain⟨y,_,rfl⟩:=Ou.1 d;exact y.2
def gM(m:Me):List T:= [mT m,ti m.re.n,ti m.re.d,cT m.re,ti m.re.r]
theorem Jn{n:Nat}{ts:List T}(h:Wt ai (n+7) 63 ts):∃m:{m:Me // fJ m},ts=gM m.1:=by
 obtain⟨a,b,rfl,j,c,d,rfl,k,rfl⟩:=@ma ai (n+6) 63 ts _ Tryz.underlying63 h;obtain⟨e,l,rfl,g⟩:=Ik j;obtain⟨v,rfl,i⟩:=ET (n:=n+2) k;refine⟨⟨⟨false,e,l,v⟩,⟨i.cl,λx f=>(g x f).2.cl,i.ce,λx f=>(g x f).2.ce,λx f=>(g x f).1⟩⟩, ?_⟩;have o:cT v=T.ab 2 v.ec (cz v.cs):=by unfold cT;rw [i.em];rfl
 show _= [T.ab 5 e (aC l),ti v.n,ti v.d,cT v,ti v.r];rw [o];rfl
theorem ND{n:Nat}{a:AV}(h:(bI ai 29=true/\∃l,Wt ai (n+9) 29 l/\a= .agg (l.map .t))\/(bI ai 29=false/\∃x,Wt ai (n+9) 29 [x]/\a= .t x)):∃e ms,a=WG e ms/\∀m∈ms,fJ m:=by obtain⟨l,d,rfl⟩:=zd h (by kernel_rfl);obtain⟨a,b,rfl,f,rfl⟩:=@ma ai (n+8) 29 l _ Tryz.underlying29 d;obtain⟨e,l,c,_⟩:=@qe ai (n+7) 27 a {m:Me // fJ m} (λm=>gM m.1) 63 Nv f (λcs g=>Jn g);rw [FH,uf] at c;subst c;refine⟨e,l.map Subtype.val,rfl,λm hm=> ?_⟩;obtain⟨y,_,rfl⟩:=Ou.1 hm;exact y.2
def gD(d:Dc):List T:= [T.str d.nm,T.ab 1 d.ea (enc d.ar),ti d.so]
theorem F2{n:Nat}{ts:List T}(h:Wt ai (n+3) 55 ts):∃d:{d:Dc // (d.ea=true->d.ar= [])/\d.nm.size<=9223372036854775807},ts=gD d.1:=by obtain⟨a,b,rfl,g,c,d,rfl,i,p,q,rfl,j,rfl⟩:=@ma ai (n+2) 55 ts _ Tryz.underlying55 h;obtain⟨s,rfl,hs⟩:=@EW ai (n+1) 9 a u9 g;obtain⟨e,l,rfl,f⟩:=tP i;obtain⟨z,rfl⟩:=kJ j;exact⟨⟨⟨s,e,l,z⟩,f,by unfold maxLen at hs;exact hs⟩,rfl⟩
def gN(x:Nd):List T:= [ti x.op,T.ab 1 x.ek (enc x.ks),ti x.n,ti x.d,T.str x.nm]
theorem KG{n:Nat}{ts:List T}(h:Wt ai (n+3) 53 ts):∃x:{x:Nd // x.ek=true->x.ks= []},ts=gN x.1:=by obtain⟨a,b,rfl,g,c,d,rfl,i,p,q,rfl,j,r,t,rfl,k,o,u,rfl,m,rfl⟩:=@ma ai (n+2) 53 ts _ Tryz.underlying53 h;obtain⟨x,rfl⟩:=kJ g;obtain⟨e,l,rfl,f⟩:=tP i;obtain⟨y,rfl⟩:=kJ j;obtain⟨z,rfl⟩:=kJ k;obtain⟨s,rfl,hs⟩:=@EW ai (n+1) 9 o u9 m;exact⟨⟨⟨x,e,l,y,z,s⟩,f⟩,rfl⟩
theorem Fq{n:Nat}{a:AV}(h:(bI ai 26=true/\∃l,Wt ai (n+5) 26 l/\a= .agg (l.map .t))\/(bI ai 26=false/\∃x,Wt ai (n+5) 26 [x]/\a= .t x)):∃x:As,a=AG x/\qf x/\∀d∈x.ds,d.nm.size<=9223372036854775807:=by
 obtain⟨l,s,rfl⟩:=zd h (by kernel_rfl);obtain⟨a,b,rfl,u,c,d,rfl,v,p,q,rfl,w,rfl⟩:=@ma ai (n+4) 26 l _ Tryz.underlying26 s;obtain⟨m,g,i,_⟩:=@qe ai (n+3) 22 a {d:Dc // (d.ea=true->d.ar= [])/\d.nm.size<=9223372036854775807} (λd=>gD d.1) 55 Ns u (λcs e=>F2 e);obtain⟨o,k,j,_⟩:=@qe ai (n+3) 23 c {x:Nd // x.ek=true->x.ks= []} (λx=>gN x.1) 53 Nt v (λcs e=>KG e);obtain⟨e3,A,rfl,r⟩:=tP (n:=n+2) w;rw [FG,uf] at i;rw [FF,uf] at j;subst i j;refine⟨⟨m,g.map Subtype.val,o,k.map Subtype.val,e3,A⟩,rfl,⟨λd f=> ?_,λx z=> ?_,r⟩,λd f=> ?_⟩
 .obtain⟨y,_,rfl⟩:=Ou.1 (show d∈g.map Subtype.val from f);exact y.2.1
 .obtain⟨y,_,rfl⟩:=Ou.1 (show x∈k.map Subtype.val from z);exact y.2
 .obtain⟨y,_,rfl⟩:=Ou.1 (show d∈g.map Subtype.val from f);exact y.2.2
open Go Go.Aev
theorem It:jP ai ann (.call 6) [] []=some [.bool true]:=xN (n:=60) (by kernel_rfl)
end Go.Aev.Gen
