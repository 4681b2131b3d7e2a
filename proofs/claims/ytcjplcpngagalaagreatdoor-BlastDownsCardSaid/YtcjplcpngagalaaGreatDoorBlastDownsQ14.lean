import Derived.Test.YtcjplcpngagalaaGreatDoorBlastDownsQ13
import Derived.Test.YtcjplcpngagalaaGreatDoorBlastDownsQ5
import Derived.Test.YtcjplcpngagalaaGreatDoorBlastDownsQ9
set_option linter.all false
namespace Go.Aev.Gen
open Go Go.Aev Go.Proofs
set_option maxRecDepth 1000000
theorem u3:ak.underlying 3=some (.int .i64):=Tryz.underlying3
theorem u9:ak.underlying 9=some .string:=Tryz.underlying9
theorem Mc:ak.underlying 24=some (.slice 3):=Tryz.underlying24
theorem Ma:ak.underlying 22=some (.slice 55):=Tryz.underlying22
theorem Mb:ak.underlying 23=some (.slice 53):=Tryz.underlying23
theorem Md:ak.underlying 27=some (.slice 63):=Tryz.underlying27
theorem Mf:ak.underlying 58=some (.slice 98):=Tryz.underlying58
theorem Mg:ak.underlying 61=some (.slice 69):=Tryz.underlying61
theorem c3:ak.cellsOf 3=1:=by kernel_rfl
theorem Ew:ak.cellsOf 55=3:=by kernel_rfl
theorem Ev:ak.cellsOf 53=5:=by kernel_rfl
theorem Ex:ak.cellsOf 63=5:=by kernel_rfl
theorem Ez:ak.cellsOf 98=2:=by kernel_rfl
theorem Ey:ak.cellsOf 69=5:=by kernel_rfl
theorem Eg:ak.bytesOf 98=16:=by kernel_rfl
theorem ku{n:Nat}{ts:List T}(h:Wt ak (n+1) 3 ts):∃m:Int,ts= [ti m]:=by obtain⟨m,a,_⟩:=@Mp ak n 3 ts .i64 u3 h;exact⟨m,a⟩
theorem s7{n:Nat}{ts:List T}(h:Wt ak (n+2) 24 ts):∃e l,ts= [T.ab 1 e (enc l)]/\(e=true->l= []):=by obtain⟨b,l,a,c,_⟩:=@pT ak (n+1) 24 ts Int (λx:Int=> [ti x]) 3 Mc h (λcs d=>ku d);rw [c3] at a;exact⟨b,l,a,c⟩
theorem EJ{n:Nat}{ts:List T}(h:Wt ak (n+2) 98 ts):∃p:Int×Int,ts= [ti p.1,ti p.2]:=by obtain⟨a,b,rfl,e,c,d,rfl,f,rfl⟩:=@lP ak (n+1) 98 ts _ Tryz.underlying98 h;obtain⟨x,rfl⟩:=ku e;obtain⟨y,rfl⟩:=ku f;exact⟨(x,y),rfl⟩
theorem EK{n:Nat}{ts:List T}(h:Wt ak (n+3) 58 ts):∃e l,ts= [T.ab 2 e (bB l)]/\(e=true->l= [])/\l.length<=ML:=by obtain⟨b,l,a,d,_,c⟩:=@pT ak (n+2) 58 ts (Int×Int) (λp:Int×Int=> [ti p.1,ti p.2]) 98 Mf h (λcs f=>EJ f);rw [Ez] at a;rw [Eg] at c;refine⟨b,l,a,d, ?_⟩;unfold reachBytes at c;unfold ML;omega
structure r7 (v:Va):Prop where
 em:v.em=false
 cl:v.cs.length<=ML
 ce:v.ec=true->v.cs= []
theorem DN{n:Nat}{ts:List T}(h:Wt ak (n+4) 60 ts):∃v:Va,ts= [ti v.n,ti v.d,T.ab 2 v.ec (bB v.cs),ti v.r]/\r7 v:=by obtain⟨a,b,rfl,i,c,d,rfl,j,p,q,rfl,k,rfl⟩:=@lP ak (n+3) 60 ts _ Tryz.underlying60 h;obtain⟨s,t,rfl,m,u,w,rfl,o,rfl⟩:=@lP ak (n+2) 57 a _ Tryz.underlying57 i;obtain⟨x,rfl⟩:=ku m;obtain⟨y,rfl⟩:=ku o;obtain⟨e,l,rfl,f,g⟩:=EK j;obtain⟨z,rfl⟩:=ku k;exact⟨⟨false,x,y,e,l,z⟩,rfl,rfl,g,f⟩
def gE(e:En):List T:= [T.ab 1 e.ea (enc e.ar),ti e.to.n,ti e.to.d,cT e.to,ti e.to.r]
theorem He{n:Nat}{ts:List T}(h:Wt ak (n+5) 69 ts):∃e:{e:En // (e.ea=true->e.ar= [])/\r7 e.to},ts=gE e.1:=by
 obtain⟨a,b,rfl,i,c,d,rfl,j,rfl⟩:=@lP ak (n+4) 69 ts _ Tryz.underlying69 h;obtain⟨e,l,rfl,g⟩:=s7 (n:=n+2) i;obtain⟨v,rfl,f⟩:=DN j;refine⟨⟨⟨e,l,v⟩,g,f⟩, ?_⟩;have k:cT v=T.ab 2 v.ec (bB v.cs):=by unfold cT;rw [f.em];rfl
 show _= [T.ab 1 e (enc l),ti v.n,ti v.d,cT v,ti v.r];rw [k];rfl
theorem tv{b c:Type}{p:b->Prop}(g:b->c)(l:List {a:b // p a}):l.map (λa=>g a.1)= (l.map Subtype.val).map g:=by simp
theorem Hd{n:Nat}{ts:List T}(h:Wt ak (n+6) 61 ts):∃e l,ts= [T.ab 5 e (aG l)]/\∀x∈l,(x.ea=true->x.ar= [])/\r7 x.to:=by obtain⟨b,l,a,_⟩:=@pT ak (n+5) 61 ts {e:En // (e.ea=true->e.ar= [])/\r7 e.to} (λe=>gE e.1) 69 Mg h (λcs c=>He c);rw [Ey,tv] at a;refine⟨b,l.map Subtype.val,a,λx d=> ?_⟩;obtain⟨y,_,rfl⟩:=M7.1 d;exact y.2
def gM(m:Me):List T:= [mT m,ti m.re.n,ti m.re.d,cT m.re,ti m.re.r]
theorem Ig{n:Nat}{ts:List T}(h:Wt ak (n+7) 63 ts):∃m:{m:Me // ff m},ts=gM m.1:=by
 obtain⟨a,b,rfl,j,c,d,rfl,k,rfl⟩:=@lP ak (n+6) 63 ts _ Tryz.underlying63 h;obtain⟨e,l,rfl,g⟩:=Hd j;obtain⟨v,rfl,i⟩:=DN (n:=n+2) k;refine⟨⟨⟨false,e,l,v⟩,⟨i.cl,λx f=>(g x f).2.cl,i.ce,λx f=>(g x f).2.ce,λx f=>(g x f).1⟩⟩, ?_⟩;have o:cT v=T.ab 2 v.ec (bB v.cs):=by unfold cT;rw [i.em];rfl
 show _= [T.ab 5 e (aG l),ti v.n,ti v.d,cT v,ti v.r];rw [o];rfl
theorem Mn{n:Nat}{a:AV}(h:(bz ak 29=true/\∃l,Wt ak (n+9) 29 l/\a= .agg (l.map .t))\/(bz ak 29=false/\∃x,Wt ak (n+9) 29 [x]/\a= .t x)):∃e ms,a=WG e ms/\∀m∈ms,ff m:=by obtain⟨l,d,rfl⟩:=yp h (by kernel_rfl);obtain⟨a,b,rfl,f,rfl⟩:=@lP ak (n+8) 29 l _ Tryz.underlying29 d;obtain⟨e,l,c,_⟩:=@pT ak (n+7) 27 a {m:Me // ff m} (λm=>gM m.1) 63 Md f (λcs g=>Ig g);rw [Ex,tv] at c;subst c;refine⟨e,l.map Subtype.val,rfl,λm hm=> ?_⟩;obtain⟨y,_,rfl⟩:=M7.1 hm;exact y.2
def gD(d:Dc):List T:= [T.str d.nm,T.ab 1 d.ea (enc d.ar),ti d.so]
theorem ET{n:Nat}{ts:List T}(h:Wt ak (n+3) 55 ts):∃d:{d:Dc // (d.ea=true->d.ar= [])/\d.nm.size<=9223372036854775807},ts=gD d.1:=by obtain⟨a,b,rfl,g,c,d,rfl,i,p,q,rfl,j,rfl⟩:=@lP ak (n+2) 55 ts _ Tryz.underlying55 h;obtain⟨s,rfl,hs⟩:=@DR ak (n+1) 9 a u9 g;obtain⟨e,l,rfl,f⟩:=s7 i;obtain⟨z,rfl⟩:=ku j;exact⟨⟨⟨s,e,l,z⟩,f,by unfold maxLen at hs;exact hs⟩,rfl⟩
def gN(x:Nd):List T:= [ti x.op,T.ab 1 x.ek (enc x.ks),ti x.n,ti x.d,T.str x.nm]
theorem JE{n:Nat}{ts:List T}(h:Wt ak (n+3) 53 ts):∃x:{x:Nd // x.ek=true->x.ks= []},ts=gN x.1:=by obtain⟨a,b,rfl,g,c,d,rfl,i,p,q,rfl,j,r,t,rfl,k,o,u,rfl,m,rfl⟩:=@lP ak (n+2) 53 ts _ Tryz.underlying53 h;obtain⟨x,rfl⟩:=ku g;obtain⟨e,l,rfl,f⟩:=s7 i;obtain⟨y,rfl⟩:=ku j;obtain⟨z,rfl⟩:=ku k;obtain⟨s,rfl,hs⟩:=@DR ak (n+1) 9 o u9 m;exact⟨⟨⟨x,e,l,y,z,s⟩,f⟩,rfl⟩
theorem Ef{n:Nat}{a:AV}(h:(bz ak 26=true/\∃l,Wt ak (n+5) 26 l/\a= .agg (l.map .t))\/(bz ak 26=false/\∃x,Wt ak (n+5) 26 [x]/\a= .t x)):∃x:As,a=AG x/\pU x/\∀d∈x.ds,d.nm.size<=9223372036854775807:=by
 obtain⟨l,s,rfl⟩:=yp h (by kernel_rfl);obtain⟨a,b,rfl,u,c,d,rfl,v,p,q,rfl,w,rfl⟩:=@lP ak (n+4) 26 l _ Tryz.underlying26 s;obtain⟨m,g,i,_⟩:=@pT ak (n+3) 22 a {d:Dc // (d.ea=true->d.ar= [])/\d.nm.size<=9223372036854775807} (λd=>gD d.1) 55 Ma u (λcs e=>ET e);obtain⟨o,k,j,_⟩:=@pT ak (n+3) 23 c {x:Nd // x.ek=true->x.ks= []} (λx=>gN x.1) 53 Mb v (λcs e=>JE e);obtain⟨e3,A,rfl,r⟩:=s7 (n:=n+2) w;rw [Ew,tv] at i;rw [Ev,tv] at j;subst i j;refine⟨⟨m,g.map Subtype.val,o,k.map Subtype.val,e3,A⟩,rfl,⟨λd f=> ?_,λx z=> ?_,r⟩,λd f=> ?_⟩
 .obtain⟨y,_,rfl⟩:=M7.1 (show d∈g.map Subtype.val from f);exact y.2.1
 .obtain⟨y,_,rfl⟩:=M7.1 (show x∈k.map Subtype.val from z);exact y.2
 .obtain⟨y,_,rfl⟩:=M7.1 (show d∈g.map Subtype.val from f);exact y.2.2
open Go Go.Aev
theorem Hl:jI ak ann (.call 6) [] []=some [.bool true]:=w8 (n:=60) (by kernel_rfl)
end Go.Aev.Gen
