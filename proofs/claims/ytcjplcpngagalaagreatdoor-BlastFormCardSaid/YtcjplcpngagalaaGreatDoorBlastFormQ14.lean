import Derived.Test.YtcjplcpngagalaaGreatDoorBlastFormQ12
set_option linter.all false
namespace Go.Aev.Gen
open Go Go.Aev
abbrev bl(s:ByteArray):List UInt8:=s.data.toList
theorem l9(a b:ByteArray):bl (a++b)=bl a++bl b:=by simp [bl,ByteArray.data_append]
theorem ma(n:Int):bl (it n)=Go.Lib.itoa n:=by simp [bl,it]
theorem qv{a b:ByteArray}(h:bl a=bl b):a=b:=by obtain⟨⟨a⟩⟩:=a;obtain⟨⟨b⟩⟩:=b;simp only [bl] at h;subst h;rfl
theorem oR(u:Nat):∀c∈Go.Lib.decDigits u,48<=c.toNat/\c.toNat<=57:=by
 induction u using Nat.strongRecOn with
 | _ u b=>
  intro c a;rw [Go.Lib.decDigits] at a;split at a
  .rename_i h;simp only [Ng] at a;subst a;rw [PE];omega
  .rename_i h;rcases Nq.1 a with a | a
   .exact b (u / 10) (by omega) c a
   .simp only [Ng] at a;subst a;rw [PE];omega
def vA(l:List UInt8):Nat:=l.foldl (λa c=>a * 10+ (c.toNat - 48)) 0
theorem zD(u:Nat):vA (Go.Lib.decDigits u)=u:=by
 induction u using Nat.strongRecOn with
 | _ u a=>
  rw [Go.Lib.decDigits];split
  .rename_i h;simp only [vA,P8,List.foldl_nil,PE];omega
  .rename_i h;have:=a (u / 10) (by omega);unfold vA at this⊢;rw [List.foldl_append,this];simp only [P8,List.foldl_nil,PE];omega
theorem zw{u v:Nat}(h:Go.Lib.decDigits u=Go.Lib.decDigits v):u=v:=by rw [<-zD u,h,zD]
theorem FW(u:Nat):∃c r,Go.Lib.decDigits u=c::r:=by
 have h:=Go.Lib.decDigits_length u;have b:=Go.Lib.nDigits_pos u;cases a:Go.Lib.decDigits u with
 | nil=>rw [a] at h;simp at h;omega
 | cons c r=>exact⟨c,r,rfl⟩
theorem BN(n:Int):∀c∈Go.Lib.itoa n,c=45\/(48<=c.toNat/\c.toNat<=57):=by
 intro c a;unfold Go.Lib.itoa at a;split at a
 .rcases Nj.1 a with rfl | a
  .exact .inl rfl
  .exact .inr (oR _ c a)
 .exact .inr (oR _ c a)
theorem pq{m n:Int}(h:Go.Lib.itoa m=Go.Lib.itoa n):m=n:=by
 have neg:∀u v:Nat,(45::Go.Lib.decDigits u:List UInt8)≠Go.Lib.decDigits v:=λu v e=>by have:=oR v 45 (by rw [<-e];exact M3);simp at this
 unfold Go.Lib.itoa at h;split at h <;> split at h
 .simp only [Oa,true_and] at h;have:=zw h;omega
 .exact absurd h (neg _ _)
 .exact absurd h.symm (neg _ _)
 .have:=zw h;omega
theorem mB(n:Int):(32:UInt8)∉Go.Lib.itoa n:=λh=>by
 rcases BN n _ h with e | e
 .exact absurd e (by decide)
 .simp at e
theorem BO(n:Int):(95:UInt8)∉Go.Lib.itoa n:=λh=>by
 rcases BN n _ h with e | e
 .exact absurd e (by decide)
 .simp at e
theorem oQ{z:UInt8}:∀{a e b d:List UInt8},z∉a->z∉e->a++z::b=e++z::d->a=e/\b=d
 | [],[],b,d,_,_,h=>by simpa using h
 | [],c::e,b,d,_,f,h=>by simp only [Ow,NR,Oa] at h;exact absurd (h.1▸M3) f
 | c::a,[],b,d,f,_,h=>by simp only [Ow,NR,Oa] at h;exact absurd (h.1▸M3) f
 | c::a,c'::e,b,d,g,j,h=>by simp only [NR,Oa] at h;obtain⟨l,m⟩:=oQ (λx=>g (M4 _ x)) (λx=>j (M4 _ x)) h.2;exact⟨by rw [h.1,l],m⟩
def kT(ks:List Int):List UInt8:=ks.flatMap λk=>32::Go.Lib.itoa k
theorem B1:∀(ks:List Int) (k:ByteArray),bl (jJ k ks)=bl k++kT ks
 | [],k=>by simp [jJ,kT]
 | x::r,k=>by rw [jJ,B1 r,l9,l9,ma];simp [kT,bl,sp]
theorem B2(op:Int)(nm:ByteArray)(n d:Int)(ks:List Int):bl (jl op nm n d ks)=Go.Lib.itoa op++32:: (bl nm++32:: (Go.Lib.itoa n++32:: (Go.Lib.itoa d++kT ks))):=by unfold jl;rw [B1];simp only [l9,ma];simp [bl,sp]
theorem BP:∀{ks c:List Int} {a b:Int},Go.Lib.itoa a++kT ks=Go.Lib.itoa b++kT c->a=b/\ks=c
 | [],[],a,b,h=>by simp only [kT,P7,Nz] at h;exact⟨pq h,rfl⟩
 | [],k::r,a,b,h=>by simp only [kT,P7,Nz,List.flatMap_cons] at h;exact absurd (h▸(by simp)) (mB a)
 | k::r,[],a,b,h=>by simp only [kT,P7,Nz,List.flatMap_cons] at h;exact absurd (h▸(by simp)) (mB b)
 | k::r,l::m,a,b,h=>by
  have e:∀(k:Int) (r:List Int),kT (k::r)=32:: (Go.Lib.itoa k++kT r):=λk r=>by simp [kT]
  rw [e,e] at h;obtain⟨d,f⟩:=oQ (mB a) (mB b) h;obtain⟨g,j⟩:=BP f;exact⟨pq d,by rw [g,j]⟩
def jb(s:ByteArray):Prop:=(32:UInt8)∉bl s
theorem Ip{op c n j d f:Int}{nm a:ByteArray}{ks b:List Int}(h:jb nm)(m:jb a)(e:jl op nm n d ks=jl c a j f b):op=c/\nm=a/\n=j/\d=f/\ks=b:=by have g:=congrArg bl e;rw [B2,B2] at g;obtain⟨o,l⟩:=oQ (mB _) (mB _) g;obtain⟨p,e3⟩:=oQ h m l;obtain⟨q,e4⟩:=oQ (mB _) (mB _) e3;obtain⟨r,s⟩:=BP e4;exact⟨pq o,qv p,pq q,r,s⟩
open Go Go.Aev
abbrev bn(σ:List Int)(a s:Int):Prop:=0<=a/\σ[a.toNat]? =some s
theorem bn.mono{σ b:List Int}{a s:Int}(p:σ <+:b)(h:bn σ a s):bn b a s:=by obtain⟨t,rfl⟩:=p;exact⟨h.1,by rw [Nu (M5.1 h.2).1];exact h.2⟩
theorem bn.lt{σ:List Int}{a s:Int}(h:bn σ a s):a < (σ.length:Int):=by have:=(M5.1 h.2).1;have:=h.1;omega
theorem bn.getD{σ:List Int}{a s:Int}(h:bn σ a s):σ.getD a.toNat 0=s:=by rw [Na,h.2];rfl
theorem Bc{x:Nd}{ss t:List Int}{da:List Int}{so:Int}(h:∀k∈x.ks,0<=k/\k < (ss.length:Int)):cP x ((ss++t).length:Int) (ss++t) da so=cP x (ss.length:Int) ss da so:=by
 have a:(x.ks.any λk=>decide (k < 0) || decide (k>=((ss++t).length:Int)))=false:=by rw [NV];intro k hk;have:=h k hk;rw [N6];simp;omega
 have b:(x.ks.any λk=>decide (k < 0) || decide (k>=(ss.length:Int)))=false:=by rw [NV];intro k hk;have:=h k hk;simp;omega
 have e3:(x.ks.map λk=>(ss++t).getD k.toNat 0)=x.ks.map λk=>ss.getD k.toNat 0:=by apply N9;intro k hk;have:=h k hk;rw [Na,Na,Nu (by omega)]
 unfold cP;rw [a,b,e3]
theorem Bd{x:Nd}{i:Int}{ss da:List Int}{so s:Int}(h:cP x i ss da so= (s,0)):∀k∈x.ks,0<=k/\k < i:=by
 unfold cP at h;split at h
 .simp at h
 .rename_i e;rw [PI] at e;intro k hk;have:=NV.1 e k hk;simp at this;omega
theorem xp{D:List Dc}{x:Nd}{i:Int}{ss:List Int}{s:Int}(h:bT D x i ss= (s,0)):∀k∈x.ks,0<=k/\k < i:=by
 unfold bT at h;split at h
 .simp at h
 split at h
 .split at h
  .simp at h
  .split at h
   .simp at h
   .exact Bd h
 .split at h
  .simp at h
  .exact Bd h
theorem JS{D:List Dc}{x:Nd}{ss:List Int}{s:Int}(t:List Int)(h:bT D x (ss.length:Int) ss= (s,0)):bT D x ((ss++t).length:Int) (ss++t)= (s,0):=by have a:=xp h;rw [<-h];unfold bT;rw [Bc a,Bc a]
theorem JR{D:List Dc}{x y:Nd}{i:Int}{ss:List Int}(a:x.op=y.op)(b:x.ks=y.ks)(c:x.n=y.n)(e:x.d=y.d)(f:x.nm=y.nm):bT D x i ss=bT D y i ss:=by unfold bT cP eX eB;rw [a,b,c,e,f]
structure Good (D:List Dc) (σ:List Int) (x:Nd) (s:Int):Prop where
 ch:bT D x (σ.length:Int) σ = (s,0)
 so:aF s=false
 op:x.op < 15\/23 < x.op
 nm:jb x.nm
theorem Good.mono{D:List Dc}{σ:List Int}{x:Nd}{s:Int}(h:Good D σ x s)(t:List Int):Good D (σ ++t) x s:=⟨JS t h.ch,h.so,h.op,h.nm⟩
structure Ty (D:List Dc) (M:Mk) (σ:List Int):Prop where
 len:σ.length=M.N.length
 nd:∀(i:Nat) (x:Nd) (s:Int),M.N[i]? =some x->σ[i]? =some s->Good D (σ.take i) x s
 ky:∀p∈M.K,∃(i:Nat) (x:Nd),p.2= (i:Int)/\M.N[i]? =some x/\p.1=jl x.op x.nm x.n x.d x.ks
def dh(D:List Dc)(σ:List Int)(p:Int×Mk)(s:Int):Prop:= ∃a,Ty D p.2 a/\σ <+:a/\bn a p.1 s
def dy(D:List Dc)(σ:List Int)(p:List Int×Mk):Prop:= ∃b,Ty D p.2 b/\σ <+:b/\∀a∈p.1,bn b a 1
theorem fL{σ b:List Int}{l:List Int}(p:σ <+:b)(h:∀a∈l,bn σ a 1):∀a∈l,bn b a 1:=λa c=>(h a c).mono p
theorem dh.same{D:List Dc}{M:Mk}{σ:List Int}{a s:Int}(t:Ty D M σ)(h:bn σ a s):dh D σ (a,M) s:=⟨σ,t,OO _,h⟩
theorem Cc{s:ByteArray}:∀{K:List (ByteArray×Int)} {v:Int},lk s K=some v->(s,v)∈K
 | (k,u)::r,v,h=>by
  rw [lk] at h;split at h
  .rename_i e;simp only [M1] at h;subst e h;exact M3
  .exact M4 _ (Cc h)
theorem mO{D:List Dc}{M:Mk}{σ:List Int}(ty:Ty D M σ){op:Int}{nm:ByteArray}{n d:Int}{ks:List Int}{s:Int}(g:Good D σ ⟨op,ks.isEmpty,ks,n,d,nm⟩ s):dh D σ (cI M op nm n d ks) s:=by
 unfold cI;cases r:lk (jl op nm n d ks) M.K with
 | some v=>
  obtain⟨i,x,c,e,h⟩:=ty.ky _ (Cc r);have a:i < σ.length:=by rw [ty.len];exact(M5.1 e).1
  have l:=ty.nd i x σ[i] e (Nc a);obtain⟨o,q,e3,e4,e5⟩:=Ip (show jb nm from g.nm) l.nm h;have j:=(l.mono (σ.drop i)).ch;rw [List.take_append_drop] at j;have:bT D ⟨op,ks.isEmpty,ks,n,d,nm⟩ (σ.length:Int) σ =bT D x (σ.length:Int) σ:=JR o e5 e3 e4 q;rw [g.ch,j] at this;simp only [NL,and_true] at this;replace c:v= (i:Int):=c;subst c;exact dh.same ty ⟨by omega,by rw [NM,this];exact Nc a⟩
 | none=>
  refine⟨σ ++ [s],⟨by simp [ty.len],λi x s' f hs=> ?_,λp b=> ?_⟩,⟨_,rfl⟩,by simp, ?_⟩
  .rcases PS i σ.length with a | a
   .rw [Nu (by rw [<-ty.len];exact a)] at f;rw [Nu a] at hs;rw [OT (by omega)];exact ty.nd i x s' f hs
   .have m:=(M5.1 hs).1;rw [N6,Nk] at m;obtain rfl:i=σ.length:=by omega
    rw [NI (by rw [ty.len];exact Ns _),ty.len,OE] at f;rw [NI (Ns _),OE] at hs;simp only [N5,M1] at f hs;subst f hs;rw [OT (Ns _),PK];exact g
  .rcases Nq.1 b with b | b
   .obtain⟨i,x,c,e,h⟩:=ty.ky p b;exact⟨i,x,c,by rw [Nu (M5.1 e).1];exact e,h⟩
   .simp only [Ng] at b;subst b;exact⟨M.N.length,⟨op,ks.isEmpty,ks,n,d,nm⟩,rfl,by simp,rfl⟩
  .show(σ ++ [s])[((M.N.length:Nat):Int).toNat]? =some s;rw [NM,<-ty.len];simp
theorem n5:jb s0:=by intro h;cases h
theorem n6{D:List Dc}{x:Nd}{i:Int}{ss:List Int}(b: 1<=x.op/\x.op<=25)(a:x.op≠9)(hk:(x.ks.length:Int)=dF x.op\/dF x.op < 0)(c:x.ks.length<=8):bT D x i ss=cP x i ss [] 0:=by unfold bT;rw [if_neg (by omega),if_neg a,if_neg (by omega)]
theorem mq{x:Nd}{σ:List Int}{da:List Int}{so:Int}{l:List Int}{s:Int}(hk:x.ks.map (λk=>σ.getD k.toNat 0)=l)(a:∀k∈x.ks,0<=k/\k < (σ.length:Int))(c:eX x=true)(e:eB x=true)(hs:aY x.op x.d l da so=s)(h0:s≠0):cP x (σ.length:Int) σ da so= (s,0):=by
 have b:(x.ks.any λk=>decide (k < 0) || decide (k>=(σ.length:Int)))=false:=by rw [NV];intro k hk;have:=a k hk;simp;omega
 unfold cP;rw [b,c,e,hk,hs,if_neg (by decide),if_neg (by decide),if_neg (by decide),if_neg h0]
theorem H8(D:List Dc)(σ:List Int)(b:Bool):Good D σ ⟨if b then 1 else 2,([]:List Int).isEmpty,[],0,0,s0⟩ 1:=by
 refine⟨?_,by decide,by cases b <;> decide,n5⟩;cases b
 .rw [n6 (by decide) (by decide) (by decide) (by decide)];exact mq (l:= []) rfl (λk hk=>by cases hk) (by decide) (by decide) (by decide) (by decide)
 .rw [n6 (by decide) (by decide) (by decide) (by decide)];exact mq (l:= []) rfl (λk hk=>by cases hk) (by decide) (by decide) (by decide) (by decide)
theorem H5{D:List Dc}{σ:List Int}{a:Int}(h:bn σ a 1):Good D σ ⟨3,[a].isEmpty,[a],0,0,s0⟩ 1:=by refine⟨?_,by decide,by dsimp only;omega,n5⟩;rw [n6 (by dsimp only;omega) (by dsimp only;omega) (.inl (by rfl)) (by simp)];exact mq (l:= [1]) (by simp only [NH,Oe,h.getD]) (λk hk=>by simp only [Ng] at hk;subst hk;exact⟨h.1,h.lt⟩) (by simp [eX]) (by simp [eB]) (by simp [aY,pB]) (by decide)
theorem wE{D:List Dc}{σ:List Int}{a b op:Int}(ho:op=4\/op=5\/op=6)(h:bn σ a 1)(d:bn σ b 1):Good D σ ⟨op,[a,b].isEmpty,[a,b],0,0,s0⟩ 1:=by
 have c:∀k∈[a,b],0<=k/\k < (σ.length:Int):=λk hk=>by
  simp only [Nj,Ol,or_false] at hk;rcases hk with rfl | rfl
  .exact⟨h.1,h.lt⟩
  .exact⟨d.1,d.lt⟩
 have hm: [a,b].map (λk=>σ.getD k.toNat 0)= [1,1]:=by simp only [NH,Oe,h.getD,d.getD]
 rcases ho with rfl | rfl | rfl
 .refine⟨?_,by decide,by dsimp only;omega,n5⟩;rw [n6 (by dsimp only;omega) (by dsimp only;omega) (.inr (show dF 4 < 0 by decide)) (by simp)];exact mq hm c (by simp [eX]) (by simp [eB]) (by simp [aY,pB]) (by decide)
 .refine⟨?_,by decide,by dsimp only;omega,n5⟩;rw [n6 (by dsimp only;omega) (by dsimp only;omega) (.inr (show dF 5 < 0 by decide)) (by simp)];exact mq hm c (by simp [eX]) (by simp [eB]) (by simp [aY,pB]) (by decide)
 .refine⟨?_,by decide,by dsimp only;omega,n5⟩;rw [n6 (by dsimp only;omega) (by dsimp only;omega) (.inl (by rfl)) (by simp)];exact mq hm c (by simp [eX]) (by simp [eB]) (by simp [aY,pB]) (by decide)
theorem H6{D:List Dc}{σ:List Int}{c a b:Int}(e:bn σ c 1)(h:bn σ a 1)(d:bn σ b 1):Good D σ ⟨7,[c,a,b].isEmpty,[c,a,b],0,0,s0⟩ 1:=by
 refine⟨?_,by decide,by dsimp only;omega,n5⟩;rw [n6 (by dsimp only;omega) (by dsimp only;omega) (.inl (by rfl)) (by simp)];refine mq (l:= [1,1,1]) (by simp only [NH,Oe,h.getD,d.getD,e.getD]) (λk hk=> ?_) (by simp [eX]) (by simp [eB]) (by simp [aY]) (by decide);simp only [Nj,Ol,or_false] at hk;rcases hk with rfl | rfl | rfl
 .exact⟨e.1,e.lt⟩
 .exact⟨h.1,h.lt⟩
 .exact⟨d.1,d.lt⟩
section
variable {D:List Dc} {M:Mk} {σ:List Int}
theorem me(ty:Ty D M σ)(b:Bool):dh D σ (bV M b) 1:=mO ty (H8 D σ b)
theorem Fg{a o:Int}(ty:Ty D M σ)(h:bn σ a 1)(e:cj M a=o):∃x,M.N[a.toNat]? =some x/\x.op=o/\Good D (σ.take a.toNat) x 1:=by
 have hl:a.toNat < M.N.length:=by rw [<-ty.len];exact(M5.1 h.2).1
 have b:M.N[a.toNat]? =some M.N[a.toNat]:=Nc hl;unfold cj at e;rw [b] at e;exact⟨_,b,e,ty.nd _ _ _ b h.2⟩
theorem Mf{d w:Int}(h:¬aY 3 d [w] [] 0=0):w=1:=by
 by_cases a:w=1
 .exact a
 .exact absurd (by simp [aY,pB,a]) h
theorem rr{a:Int}(ty:Ty D M σ)(h:bn σ a 1):dh D σ (bR M a) 1:=by
 unfold bR;split
 .exact me ty _
 .split
  .exact me ty _
  .split
   .rename_i e;obtain⟨x,n,ho,g⟩:=Fg ty h e;have b:=g.ch;have l:=xp b;unfold bT at b;rw [if_neg (by omega),if_neg (by omega)] at b;have m:dF x.op=1:=by rw [ho];decide
    split at b
    .simp at b
    .rename_i hl;rw [m] at hl;obtain⟨k,hk⟩:∃k,x.ks= [k]:=by
      have:x.ks.length=1:=by omega
      exact OX.1 this
     have d:=l k (by rw [hk];exact M3);have f:pr M a=k:=by unfold pr;rw [n];show x.ks.headD 0=k;rw [hk];rfl
     rw [f];refine dh.same ty ⟨d.1, ?_⟩;unfold cP at b;rw [ho,hk] at b;split at b
     .simp at b
     split at b
     .simp at b
     split at b
     .simp at b
     split at b
     .simp at b
     rename_i hs;have c:(σ.take a.toNat).getD k.toNat 0=1:=Mf hs;rw [Na,Pc] at c;rw [N2] at d;rw [if_pos (by have:=h.1;omega)] at c;cases j:σ[k.toNat]? with
     | none=>rw [j] at c;cases c
     | some v=>rw [j] at c;simp only [OM] at c;rw [c]
   .exact mO ty (H5 h)
theorem nB{a b:Int}(ty:Ty D M σ)(h:bn σ a 1)(c:bn σ b 1):dh D σ (bc M a b) 1:=by
 unfold bc;split
 .exact dh.same ty h
 .split
  .exact dh.same ty c
  .exact mO ty (wE (.inl rfl) h c)
theorem xy{a b:Int}(ty:Ty D M σ)(h:bn σ a 1)(c:bn σ b 1):dh D σ (cY M a b) 1:=by
 unfold cY;split
 .exact dh.same ty h
 .split
  .exact dh.same ty c
  .exact mO ty (wE (.inr (.inl rfl)) h c)
theorem wI{a b:Int}(ty:Ty D M σ)(h:bn σ a 1)(c:bn σ b 1):dh D σ (bY M a b) 1:=by
 unfold bY;split
 .exact me ty _
 .split
  .exact dh.same ty c
  .split
   .exact dh.same ty h
   .split
    .exact rr ty c
    .split
     .exact rr ty h
     .exact mO ty (wE (.inr (.inr rfl)) h c)
theorem yy{a b:Int}(ty:Ty D M σ)(h:bn σ a 1)(d:bn σ b 1):dh D σ (aO M a b) 1:=by obtain⟨n,l,g,e⟩:=wI ty h d;obtain⟨c,m,j,f⟩:=rr l e;exact⟨c,m,g.trans j,f⟩
theorem Kd{c a b:Int}(ty:Ty D M σ)(e:bn σ c 1)(h:bn σ a 1)(d:bn σ b 1):dh D σ (cE c M a b) 1:=by
 unfold cE;split
 .exact dh.same ty h
 .exact mO ty (H6 e h d)
end
section
variable {D:List Dc}
theorem wc{f:Mk->Int->Int->Int×Mk}{P:List Int->Prop}(g:∀σ e,σ <+:e->P σ->P e)(m:∀M σ a b,Ty D M σ->P σ->bn σ a 1->bn σ b 1->dh D σ (f M a b) 1):∀{a b:List Int} {M:Mk} {σ:List Int},Ty D M σ->P σ->(∀x∈a,bn σ x 1)->(∀x∈b,bn σ x 1)->dy D σ (aK f M a b)
 | [],b,M,σ,ty,_,_,_=>by rw [show aK f M [] b= ([],M) by simp [aK]];exact⟨σ,ty,OO _,λx h=>by cases h⟩
 | x::a,[],M,σ,ty,_,_,_=>by rw [show aK f M (x::a) []= ([],M) by simp [aK]];exact⟨σ,ty,OO _,λx h=>by cases h⟩
 | x::a,y::b,M,σ,ty,n,j,l=>by
  obtain⟨u,s,d,q⟩:=m M σ x y ty n (j x M3) (l y M3);obtain⟨p,t,o,r⟩:=wc g m (a:=a) (b:=b) s (g _ _ d n) (λz c=>(j z (M4 _ c)).mono d) (λz c=>(l z (M4 _ c)).mono d);refine⟨p,t,d.trans o,λz c=> ?_⟩;rcases Nj.1 c with rfl | c
  .exact q.mono o
  .exact r z c
theorem Em:∀{a b:List Int} {M:Mk} {σ:List Int} {c:Int},Ty D M σ->bn σ c 1->(∀x∈a,bn σ x 1)->(∀x∈b,bn σ x 1)->dy D σ (dQ M c a b)
 | [],b,M,σ,c,ty,_,_,_=>by rw [rT];exact⟨σ,ty,OO _,λx h=>by cases h⟩
 | x::a,[],M,σ,c,ty,_,_,_=>by rw [show dQ M c (x::a) []= ([],M) by simp [dQ]];exact⟨σ,ty,OO _,λx h=>by cases h⟩
 | x::a,y::b,M,σ,c,ty,p,n,o=>by
  have q:=n x M3;have r:=o y M3;obtain⟨Q,J,s,l⟩:=yy ty q r;obtain⟨B,A,t,m⟩:=yy J l (p.mono s);have e:=s.trans t;rw [dQ];dsimp only;split
  .refine⟨B,A,e,λz d=> ?_⟩;simp only [Ng] at d;subst d;exact m
  .obtain⟨R,K,j,E⟩:=nB A (q.mono e) (r.mono e);have u:=t.trans j;obtain⟨S,L,v,F⟩:=nB K (l.mono u) (p.mono (e.trans j));obtain⟨T,O,I,G⟩:=xy L (E.mono v) F;have g:=j.trans (v.trans I);have f:=e.trans g;obtain⟨C,P,w,H⟩:=Em (a:=a) (b:=b) O G (λz d=>(n z (M4 _ d)).mono f) (λz d=>(o z (M4 _ d)).mono f);refine⟨C,P,f.trans w,λz d=> ?_⟩;rcases Nj.1 d with rfl | d
   .exact m.mono (g.trans w)
   .exact H z d
theorem Es{a b:List Int}{M:Mk}{σ:List Int}(ty:Ty D M σ)(g:∀x∈a,bn σ x 1)(h:∀x∈b,bn σ x 1):dy D σ (cN M a b):=by obtain⟨n,l,c,e⟩:=me ty false;obtain⟨d,m,j,f⟩:=Em l e (fL c g) (fL c h);exact⟨d,m,c.trans j,f⟩
end
open Go Go.Aev
section
variable {D:List Dc}
theorem dy.none{M:Mk}{σ:List Int}(ty:Ty D M σ):dy D σ ([],M):=⟨σ,ty,OO _,λx h=>by cases h⟩
theorem dy.cons{M c:Mk}{σ:List Int}{x:Int}{l:List Int}(h:dh D σ (x,M) 1)(j:∀a,Ty D M a->σ <+:a->dy D a (l,c)):dy D σ (x::l,c):=by
 obtain⟨f,o,d,m⟩:=h;obtain⟨g,p,e,n⟩:=j f o d;refine⟨g,p,d.trans e,λz b=> ?_⟩;rcases Nj.1 b with rfl | b
 .exact m.mono e
 .exact n z b
theorem wW{n:Int}(h0: 0<=n){a:List Int}:∀(k i:Nat) {M:Mk} {σ:List Int},Ty D M σ->(∀x∈a,bn σ x 1)->i+k<=a.length->dy D σ (cQ M a n i k)
 | 0,i,M,σ,ty,_,_=>dy.none ty
 | k+1,i,M,σ,ty,b,hk=>by
  rw [cQ];split
  .exact dy.cons (me ty false) λd t p=>wW h0 k (i+1) t (fL p b) (by omega)
  .refine dy.cons (dh.same ty ?_) λd t p=>wW h0 k (i+1) t (fL p b) (by omega);have c:((i:Int) - n).toNat < a.length:=by omega
   rw [Na,Nc c];exact b _ (Pb c)
theorem w6{n:Int}(h0: 0<=n){a:List Int}{M:Mk}{σ:List Int}(ty:Ty D M σ)(b:∀x∈a,bn σ x 1):dy D σ (aW M a n):=wW h0 _ _ ty b (by omega)
theorem C2:∀{l:List Int} {M:Mk} {σ:List Int} {x:Int},Ty D M σ->bn σ x 1->(∀y∈l,bn σ y 1)->dy D σ (bU M x l)
 | [],M,σ,x,ty,_,_=>dy.none ty
 | y::l,M,σ,x,ty,a,hl=>by rw [bU];exact dy.cons (nB ty a (hl y M3)) λc t p=>C2 t (a.mono p) (fL p λz b=>hl z (M4 _ b))
theorem Ev{a:List Int}:∀{b:List Int} {i:Nat} {M:Mk} {σ:List Int} {out:List Int},Ty D M σ->(∀x∈a,bn σ x 1)->(∀x∈out,bn σ x 1)->(∀x∈b,bn σ x 1)->dy D σ (fy M a out i b)
 | [],i,M,σ,out,ty,_,ho,_=>by rw [fy];exact⟨σ,ty,OO _,ho⟩
 | x::b,i,M,σ,out,ty,e,ho,f=>by obtain⟨y,t,g,j⟩:=w6 (n:=(i:Int)) (by omega) ty e;obtain⟨A,u,q,l⟩:=C2 t ((f x M3).mono g) j;have d:=g.trans q;obtain⟨B,v,r,m⟩:=Es u (fL d ho) l;have c:=d.trans r;obtain⟨h,w,s,o⟩:=Ev (b:=b) (i:=i+1) v (fL c e) m (fL c λz p=>f z (M4 _ p));rw [fy];exact⟨h,w,c.trans s,o⟩
theorem Mw{a b:List Int}{M:Mk}{σ:List Int}(ty:Ty D M σ)(d:∀x∈a,bn σ x 1)(h:∀x∈b,bn σ x 1):dy D σ (gy M a b):=by obtain⟨o,l,c,f⟩:=w6 (n:=(a.length:Int)) (by omega) ty d;obtain⟨e,m,j,g⟩:=Ev (i:=0) l (fL c d) f (fL c h);exact⟨e,m,c.trans j,g⟩
theorem B9:∀{a b:List Int} {M:Mk} {σ:List Int} {c:Int},Ty D M σ->bn σ c 1->(∀x∈a,bn σ x 1)->(∀x∈b,bn σ x 1)->dh D σ (eR M c a b) 1
 | [],b,M,σ,c,ty,d,_,_=>by rw [show eR M c [] b= (c,M) by simp [eR]];exact dh.same ty d
 | x::a,[],M,σ,c,ty,d,_,_=>by rw [show eR M c (x::a) []= (c,M) by simp [eR]];exact dh.same ty d
 | x::a,y::b,M,σ,c,ty,d,j,l=>by have m:=j x M3;have n:=l y M3;obtain⟨L,F,o,s⟩:=rr ty m;obtain⟨O,G,B,t⟩:=nB F s (n.mono o);have e:=o.trans B;obtain⟨P,H,p,u⟩:=wI G (m.mono e) (n.mono e);have g:=e.trans p;obtain⟨Q,I,q,v⟩:=nB H u (d.mono g);obtain⟨R,J,C,w⟩:=xy I (t.mono (p.trans q)) v;have f:=g.trans (q.trans C);obtain⟨r,K,E,A⟩:=B9 (a:=a) (b:=b) J w (fL f λz h=>j z (M4 _ h)) (fL f λz h=>l z (M4 _ h));rw [eR];exact⟨r,K,f.trans E,A⟩
theorem Iw{a b:List Int}{M:Mk}{σ:List Int}(ty:Ty D M σ)(g:∀x∈a,bn σ x 1)(h:∀x∈b,bn σ x 1):dh D σ (iP M a b) 1:=by obtain⟨n,l,c,e⟩:=me ty false;obtain⟨d,m,j,f⟩:=B9 l e (fL c g) (fL c h);exact⟨d,m,c.trans j,f⟩
theorem CL:∀{l:List Int} {M:Mk} {σ:List Int},Ty D M σ->(∀y∈l,bn σ y 1)->dy D σ (eA M l)
 | [],M,σ,ty,_=>dy.none ty
 | y::l,M,σ,ty,hl=>by rw [eA];exact dy.cons (rr ty (hl y M3)) λb t p=>CL t (fL p λz a=>hl z (M4 _ a))
theorem zj{n:Int}:∀(k b:Nat) {M:Mk} {σ:List Int},Ty D M σ->dy D σ (eu M n b k)
 | 0,b,M,σ,ty=>dy.none ty
 | k+1,b,M,σ,ty=>by rw [eu];exact dy.cons (me ty _) λa t _=>zj k (b+1) t
theorem yF:∀{l:List Int} {M:Mk} {σ:List Int} {acc:Int},Ty D M σ->bn σ acc 1->(∀y∈l,bn σ y 1)->dh D σ (gJ M acc l) 1
 | [],M,σ,acc,ty,h,_=>dh.same ty h
 | y::l,M,σ,acc,ty,h,hl=>by obtain⟨m,g,a,c⟩:=nB ty h (hl y M3);obtain⟨b,j,f,d⟩:=yF (l:=l) g c (fL a λz e=>hl z (M4 _ e));rw [gJ];exact⟨b,j,a.trans f,d⟩
theorem sW{f:Mk->Int->Int->Int×Mk}(g:∀M σ a b,Ty D M σ->bn σ a 1->bn σ b 1->dh D σ (f M a b) 1){a b:List Int}{M:Mk}{σ:List Int}(ty:Ty D M σ)(d:∀x∈a,bn σ x 1)(e:∀x∈b,bn σ x 1):dy D σ (aK f M a b):=
 wc (P:=λ_=>True) (λ_ _ _ _=>trivial) (λM σ a b t _ h c=>g M σ a b t h c) ty trivial d e
theorem LX{a b:List Int}{M:Mk}{σ:List Int}(ty:Ty D M σ)(m:∀x∈a,bn σ x 1)(n:∀x∈b,bn σ x 1):dh D σ (kF M a b) 1:=by obtain⟨s,p,c,g⟩:=me ty true;obtain⟨u,q,d,j⟩:=sW (λM σ a b t h f=>wI t h f) p (fL c m) (fL c n);obtain⟨e,r,o,l⟩:=yF q (g.mono d) j;exact⟨e,r,(c.trans d).trans o,l⟩
abbrev lG:Dc:=⟨s0,true,[],0⟩
structure Fn (D:List Dc) (nm:ByteArray) (ar:List Int) (so:Int):Prop where
 h0: 0<=bf D nm
 ar:(D.getD (bf D nm).toNat lG).ar=ar
 so:(D.getD (bf D nm).toNat lG).so=so
theorem H7{σ:List Int}{nm:ByteArray}{ks ar:List Int}(f:Fn D nm ar 1)(hk:ks.map (λk=>σ.getD k.toNat 0)=ar)(a:∀k∈ks,0<=k/\k < (σ.length:Int))(b:ks.length<=8)(hs:jb nm):Good D σ ⟨9,ks.isEmpty,ks,0,0,nm⟩ 1:=by
 refine⟨?_,by decide,by dsimp only;omega,hs⟩;unfold bT;dsimp only;have hl:ks.length=ar.length:=by rw [<-hk,N3]
 rw [if_neg (by omega),if_pos rfl,if_neg (by have:=f.h0;omega),f.ar,f.so,if_neg (by omega)];refine mq hk a ?_ ?_ ?_ (by decide)
 .simp [eX]
 .simp [eB]
 .show aY 9 0 ar ar 1=1;simp [aY]
theorem CA{pre:ByteArray}{kids ar:List Int}(e:kids.length<=8):∀(k b:Nat) {M:Mk} {σ:List Int},Ty D M σ->(∀c,b<=c->c < b+k->Fn D (pre++it (c:Int)) ar 1/\jb (pre++it (c:Int)))->(kids.map (λk=>σ.getD k.toNat 0)=ar)->(∀x∈kids,0<=x/\x < (σ.length:Int))->dy D σ (cL M pre kids b k)
 | 0,b,M,σ,ty,_,_,_=>dy.none ty
 | k+1,b,M,σ,ty,f,hk,a=>by
  rw [cL];obtain⟨g,h⟩:=f b (by omega) (by omega);refine dy.cons (mO ty (H7 g hk a e h)) λj t p=>CA e k (b+1) t (λc l m=>f c (by omega) (by omega)) ?_ ?_
  .rw [<-hk];obtain⟨q,rfl⟩:=p;apply N9;intro x d;have:=a x d;rw [Na,Na,Nu (by omega)]
  .intro x d;have:=a x d;obtain⟨q,rfl⟩:=p;rw [N6];omega
end
theorem CH{D p:List Dc}{x y:Nd}{i i':Int}{ss g:List Int}{s:Int}(h:bT D x i ss= (s,0))(l:s≠0)(m:y.op=x.op)(q:y.ks.map (λk=>g.getD k.toNat 0)=x.ks.map (λk=>ss.getD k.toNat 0))(r:y.n=x.n)(o:y.d=x.d)(t:y.nm=x.nm)(w:∀k∈y.ks,0<=k/\k < i')(H:x.op=9->0<=bf D x.nm->(D.getD (bf D x.nm).toNat lG).so=s->Fn p x.nm (D.getD (bf D x.nm).toNat lG).ar s):bT p y i' g= (s,0):=by
 have hl:y.ks.length=x.ks.length:=by simpa using congrArg List.length q
 have E:(y.ks.any λk=>decide (k < 0) || decide (k>=i'))=false:=by rw [NV];intro k hk;have:=w k hk;simp;omega
 have v:∀{da:List Int} {so:Int} {c:Int},cP x i ss da so= (s,0)->(x.op≠9->c=so)->(x.op=9->c=s)->cP y i' g da c= (s,0):=by
  intro da so c A u G;have j:=nN (x:=x) (i:=i) (ss:=ss) (da:=da) (so:=so) (by rw [A]);obtain⟨_,I,J,a,B⟩:=j;rw [A] at a;have F:eX y=true:=by rw [<-I];unfold eX;rw [m,r,o,t]
  have e3:eB y=true:=by rw [<-J];unfold eB;rw [m,r,o]
  have e4:aY y.op y.d (y.ks.map λk=>g.getD k.toNat 0) da c=s:=by
   rw [q,m,o];by_cases b:x.op=9
   .rw [G b];rw [b] at a B⊢;replace a:s=if(x.ks.map λk=>ss.getD k.toNat 0)=da then so else 0:=a;show(if(x.ks.map λk=>ss.getD k.toNat 0)=da then s else 0)=s;split at a
    .rename_i e;rw [if_pos e]
    .exact absurd a l
   .rw [u b];exact a.symm
  unfold cP;rw [E,F,e3,e4,if_neg (by decide),if_neg (by decide),if_neg (by decide),if_neg l]
 unfold bT at h⊢;rw [m,t,hl];split at h
 .simp at h
 rename_i C;rw [if_neg C];split at h
 .rename_i b;rw [if_pos b];split at h
  .simp at h
  rename_i K;split at h
  .simp at h
  rename_i c3;have z:(D.getD (bf D x.nm).toNat lG).so=s:=by
   have j:=nN (by rw [h]);obtain⟨_,_,_,a,B⟩:=j;rw [h,b] at a;replace a:s=if(x.ks.map λk=>ss.getD k.toNat 0)= (D.getD (bf D x.nm).toNat lG).ar then(D.getD (bf D x.nm).toNat lG).so else 0:=a;split at a
   .exact a.symm
   .exact absurd a l
  have f:=H b (by omega) z;rw [if_neg (by have:=f.h0;omega),f.ar,f.so,if_neg c3];exact v h (λe=>absurd b e) (λ_=>rfl)
 .rename_i b;rw [if_neg b];split at h
  .simp at h
  rename_i c3;rw [if_neg c3];exact v h (λ_=>rfl) (λe=>absurd e b)
open Go Go.Aev
structure r7 (ds D:List Dc) (p:ByteArray):Prop where
 pl:∀d∈ds,aF d.so=false->Fn D d.nm d.ar d.so
 wd:∀(k:Nat) (d:Dc),ds[k]? =some d->aF d.so=true->∀b:Nat,b < (d.so - 10).toNat->Fn D (p++it (k:Int)++us++it (b:Int)) d.ar 1
 sp:∀d∈ds,jb d.nm
 sw:∀k b:Nat,jb (p++it (k:Int)++us++it (b:Int))
 a4:∀d∈ds,d.ar.length<=8/\∀s∈d.ar,s=4
structure iF (c:Cx) (t:Tr) (σ:List Int) (i:Nat):Prop where
 w:∀(k:Nat) (s:Int),k < i->c.ss[k]? =some s->aF s=true->∀b,t.bits[k]? =some b->∀x∈b,bn σ x 1
 p:∀(k:Nat) (s:Int),k < i->c.ss[k]? =some s->aF s=false->∀v,t.to[k]? =some v->bn σ v s
theorem iF.mono{c:Cx}{t:Tr}{σ a:List Int}{i:Nat}(h:iF c t σ i)(p:σ <+:a):iF c t a i:=
 ⟨λk s d e f b g x j=>(h.w k s d e f b g x j).mono p,λk s d e f v g=>(h.p k s d e f v g).mono p⟩
theorem KW.jx{c:Cx}{t:Tr}{M:Mk}{σ:List Int}{i:Nat}{k s:Int}(h:KW c i k s)(b:cy c t M i)(ty:iF c t σ i)(a:aF s=true):∀x∈aB t k,bn σ x 1:=
 ty.w k.toNat s (by have:=h.h0;have:=h.lt;omega) h.so a _ (h.word b a).1
theorem KW.oc{c:Cx}{t:Tr}{M:Mk}{σ:List Int}{i:Nat}{k s:Int}(h:KW c i k s)(b:cy c t M i)(ty:iF c t σ i)(a:aF s=false):bn σ (bm t k) s:=
 ty.p k.toNat s (by have:=h.h0;have:=h.lt;omega) h.so a _ (h.plain b a).2.1
def sA(c:Cx)(i:Nat)(x:Nd)(s:Int):Prop:=bT c.ds x (i:Int) (c.ss.take i)= (s,0)
theorem nD{c:Cx}{i:Nat}{k s:Int}(h:KW c i k s):(c.ss.take i).getD k.toNat 0=s:=by have:=h.h0;have:=h.lt;rw [Na,PD (by omega),h.so];rfl
theorem Bl{ds:List Dc}{nm:ByteArray}(h: 0<=bf ds nm):∃(k:Nat) (d:Dc),bf ds nm= (k:Int)/\ds[k]? =some d/\d.nm=nm/\ds.getD (bf ds nm).toNat lG=d:=by
 obtain⟨j,d,c,a,e⟩:=td (i:=0) h;have b:bf ds nm= (j:Int):=by unfold bf;rw [c,NF]
 exact⟨j,d,b,a,e,by rw [b,NM,Na,a];rfl⟩
theorem xl{ds:List Dc}{x:Nd}{i:Int}{ss:List Int}{s:Int}(h:bT ds x i ss= (s,0))(f:x.op=9)(b:s≠0):∃(k:Nat) (d:Dc),bf ds x.nm= (k:Int)/\ds[k]? =some d/\d.nm=x.nm/\d.so=s/\(x.ks.map λk=>ss.getD k.toNat 0)=d.ar/\ds.getD (bf ds x.nm).toNat lG=d:=by
 unfold bT at h;split at h
 .simp at h
 split at h
 .simp at h
 rename_i m;split at h
 .simp at h
 obtain⟨k,d,g,j,l,c⟩:=Bl (ds:=ds) (nm:=x.nm) (by omega);obtain⟨_,_,_,a,n⟩:=nN (by rw [h]);rw [h,f] at a;rw [show ds.getD (bf ds x.nm).toNat ⟨s0,true,[],0⟩=d from c] at a;replace a:s=if(x.ks.map λk=>ss.getD k.toNat 0)=d.ar then d.so else 0:=a;split at a
 .rename_i e;exact⟨k,d,g,j,l,a.symm,e,c⟩
 .exact absurd a b
theorem xo{ds:List Dc}{x:Nd}{i:Int}{ss:List Int}{s:Int}(h:bT ds x i ss= (s,0)):s≠0/\eX x=true/\eB x=true:=by
 have key:∀{da:List Int} {so:Int},cP x i ss da so= (s,0)->s≠0/\eX x=true/\eB x=true:=by intro da so h;obtain⟨_,b,c,a,d⟩:=nN (by rw [h]);rw [h] at a;exact⟨by rw [show s=_ from a];exact d,b,c⟩
 unfold bT at h;split at h
 .simp at h
 split at h
 .split at h
  .simp at h
  split at h
  .simp at h
  exact key h
 .split at h
  .simp at h
  exact key h
theorem jx{c:Cx}{D:List Dc}(F:r7 c.ds D c.p){t:Tr}{M:Mk}{σ:List Int}{i:Nat}{x:Nd}{s:Int}(ok:kR c i x s)(E:sA c i x s)(f:aF s=true)(g:cy c t M i)(j:iF c t σ i)(ty:Ty D M σ):dy D σ (eG c t M x s):=by
 have R:=(xo E).1;have one:∀{a:Int},x.ks= [a]->x.ks.getD 0 0=a:=λh=>by rw [h];rfl
 have I:∀{a b:Int},x.ks= [a,b]->x.ks.getD 0 0=a:=λh=>by rw [h];rfl
 have J:∀{a b:Int},x.ks= [a,b]->x.ks.getD 1 0=b:=λh=>by rw [h];rfl
 unfold eG;by_cases u:x.op=9
 .rw [if_pos u];obtain⟨k,d,S,K,Z,L,O,f6⟩:=xl E u R;have U:d∈c.ds:=Nh K;obtain⟨Y,a4⟩:=F.a4 d U;have C:∀y∈x.ks,KW c i y 4/\bn σ (bm t y) 4:=λy q=>by
   obtain⟨s',hk⟩:=ok.k y q;have G:=nD hk;have:s'=4:=a4 _ (by rw [<-O];exact NG.2 ⟨y,q,G⟩);subst this;exact⟨hk,hk.oc g j rfl⟩
  rw [S];refine CA (ar:=d.ar) (by rw [N3];exact ok.kl) _ 0 ty (λb _ o=>⟨F.wd k d K (by rw [L];exact f) b (by rw [L];omega),F.sw k b⟩) ?_ ?_
  .rw [<-O,PR];apply N9;intro y q;obtain⟨G,v⟩:=C y q;show σ.getD (bm t y).toNat 0=_;rw [v.getD,nD G]
  .intro y q;obtain⟨z,W,rfl⟩:=NG.1 q;have v:=(C z W).2;exact⟨v.1,v.lt⟩
 rw [if_neg u];by_cases c7:x.op=7
 .rw [if_pos c7];obtain⟨a,b,d,e,m,H,X⟩:=ok.c7 c7;rw [e];show dy D σ (aK (cE (bm t a)) M (aB t b) (aB t d));have T:=m.oc g j rfl;exact wc (P:=λσ =>bn σ (bm t a) 1) (λ_ _ p h=>h.mono p) (λM σ y z n V h l=>Kd n V h l) ty T (H.jx g j f) (X.jx g j f)
 rw [if_neg c7];by_cases eH:x.op=15
 .rw [if_pos eH];exact zj _ _ ty
 rw [if_neg eH];by_cases dR:x.op=16
 .rw [if_pos dR];obtain⟨_,a,e,m⟩:=ok.dR (.inl dR);rw [one e];exact CL ty (m.jx g j f)
 rw [if_neg dR];by_cases bq:x.op=23
 .rw [if_neg (by omega),if_neg (by omega),if_neg (by omega),if_neg (by omega),if_neg (by omega)];obtain⟨_,a,e,m⟩:=ok.dR (.inr bq);rw [one e];exact w6 (ok.bq bq).1 ty (m.jx g j f)
 have Q: 17<=x.op/\x.op<=21:=by
  rcases PC (17<=x.op/\x.op<=21) with h | h
  .exact h
  exfalso;have:=ok.op;by_cases c8:x.op=8
  .rw [(ok.c8 c8).1] at f;cases f
  by_cases du:x.op=22
  .rw [(ok.du du).1] at f;cases f
  have:=(ok.pl c7 c8 (by omega)).1 u;rw [this] at f;cases f
 obtain⟨_,a,b,e,m,H⟩:=ok.fj Q.1 Q.2;rw [I e,J e];have r:=m.jx g j f;have o:=H.jx g j f;by_cases fj:x.op=17
 .rw [if_pos fj];exact sW (λM σ y z n h l=>nB n h l) ty r o
 rw [if_neg fj];by_cases w:x.op=18
 .rw [if_pos w];exact sW (λM σ y z n h l=>xy n h l) ty r o
 rw [if_neg w];by_cases A:x.op=19
 .rw [if_pos A];exact sW (λM σ y z n h l=>yy n h l) ty r o
 rw [if_neg A];by_cases B:x.op=20
 .rw [if_pos B];exact Es ty r o
 rw [if_neg B,if_pos (by omega)];exact Mw ty r o
theorem oc{c:Cx}{D:List Dc}(K:r7 c.ds D c.p){t:Tr}{M:Mk}{σ:List Int}{i:Nat}{x:Nd}{s:Int}(ok:kR c i x s)(l:sA c i x s)(g:aF s=false)(m:cy c t M i)(u:iF c t σ i)(ty:Ty D M σ):dh D σ (fc t M x) s:=by
 obtain⟨v,C,I⟩:=xo l;have w:∀{a b:Int},x.ks= [a,b]->x.ks.getD 0 0=a:=λh=>by rw [h];rfl
 have z:∀{a b:Int},x.ks= [a,b]->x.ks.getD 1 0=b:=λh=>by rw [h];rfl
 have E:∀{da:List Int} {so:Int},x.op≠9->bT c.ds x (i:Int) (c.ss.take i)= (s,0)->s=aY x.op x.d (x.ks.map λk=>(c.ss.take i).getD k.toNat 0) [] 0:=λX h=>by
  unfold bT at h;split at h
  .simp at h
  split at h
  .simp at h
  obtain⟨_,_,_,Q,_⟩:=nN (by rw [h]);rw [h] at Q;exact Q
 have q:(∀k∈x.ks,∃s',KW c i k s'/\aF s'=false)->(x.op < 15\/23 < x.op)->dh D σ (cI M x.op x.nm x.n x.d (x.ks.map (bm t))) s:=λhk ho=>by
  refine mO ty ⟨?_,g,ho, ?_⟩
  .refine CH l v rfl ?_ rfl rfl rfl ?_ ?_
   .show(x.ks.map (bm t)).map _=_;rw [PR];apply N9;intro y J;obtain⟨s',o,B⟩:=hk y J;show σ.getD (bm t y).toNat 0=_;rw [(o.oc m u B).getD,nD o]
   .intro k O;obtain⟨y,J,rfl⟩:=NG.1 (show k∈x.ks.map (bm t) from O);obtain⟨s',o,B⟩:=hk y J;exact⟨(o.oc m u B).1,(o.oc m u B).lt⟩
   .intro A _ W;obtain⟨k,d,R,F,G,H,S,L⟩:=xl l A v;have:=K.pl d (Nh F) (by rw [H];exact g);rw [G,H] at this;rw [L];exact this
  .by_cases A:x.op=9
   .obtain⟨k,d,R,F,G,H,S,L⟩:=xl l A v;have:=K.sp d (Nh F);rw [G] at this;exact this
   .rcases(wq C I).2.2 with e | e
    .show jb x.nm;rw [e];exact n5
    .exact absurd e A
 unfold fc;by_cases du:x.op=22
 .rw [if_pos du];obtain⟨_,a,b,s',f,e,j,r⟩:=ok.du du;have hs:s=1:=by
   have:=E (da:= []) (so:=0) (by omega) l;rw [du,e] at this;simp only [NH,Oe,nD j,nD r] at this;rw [this];simp [aY,f]
  subst hs;rw [w e,z e];exact Iw ty (j.jx m u f) (r.jx m u f)
 rw [if_neg du];by_cases c8:x.op=8
 .obtain⟨_,a,b,s',e,h⟩:=ok.c8 c8;rw [w e,z e];rcases h with⟨f,j,r⟩ | h
  .have hl:=(j.word m f).2.1;have o:=e8 f;rw [if_pos ⟨c8,xm (by omega)⟩];have hs:s=1:=by
    have:=E (da:= []) (so:=0) (by omega) l;rw [c8,e] at this;simp only [NH,Oe,nD j,nD r] at this;rw [this];simp [aY,f]
   subst hs;exact LX ty (j.jx m u f) (r.jx m u f)
  .obtain⟨Y,j,P⟩:=h a (by rw [e];exact M3);have T:aB t a= []:=by
    have:=(j.plain m P).1;unfold aB;rw [Na,this];rfl
   rw [if_neg (by rw [T];simp)];exact q h (by omega)
 rw [if_neg (by omega)];by_cases c7:x.op=7
 .obtain⟨a,b,d,e,j,r,V⟩:=ok.c7 c7;refine q (λk hk=> ?_) (by omega);rw [e] at hk;simp only [Nj,Ol,or_false] at hk;rcases hk with rfl | rfl | rfl
  .exact⟨1,j,rfl⟩
  .exact⟨s,r,g⟩
  .exact⟨s,V,g⟩
 have U:x.op < 15\/24<=x.op:=by
  rcases PC (x.op < 15\/24<=x.op) with h | h
  .exact h
  exfalso;by_cases eH:x.op=15
  .have:=ok.eH eH;have o:aF s=true:=by unfold aF;simp;omega
   rw [o] at g;cases g
  by_cases dR:x.op=16\/x.op=23
  .rw [(ok.dR dR).1] at g;cases g
  rw [(ok.fj (by omega) (by omega)).1] at g;cases g
 exact q (ok.pl c7 c8 U).2 (by omega)
theorem iF.snoc{c:Cx}{t:Tr}{M:Mk}{σ:List Int}{i:Nat}{s:Int}{w:List Int}{v:Int}(h:iF c t σ i)(d:cy c t M i)(hs:c.ss[i]? =some s)(l:aF s=true->∀x∈w,bn σ x 1)(m:aF s=false->bn σ v s):iF c ⟨t.bits++ [w],t.to++ [v]⟩ σ (i+1):=by
 refine⟨λk s' hk a j b f=> ?_,λk s' hk a j u g=> ?_⟩
 .by_cases e:k=i
  .subst e;rw [hs] at a;simp only [M1] at a;subst a;rw [NI (by rw [d.bl];exact Ns _),d.bl,OE] at f;simp only [N5,M1] at f;subst f;exact l j
  .rw [Nu (by rw [d.bl];omega)] at f;exact h.w k s' (by omega) a j b f
 .by_cases e:k=i
  .subst e;rw [hs] at a;simp only [M1] at a;subst a;rw [NI (by rw [d.tl];exact Ns _),d.tl,OE] at g;simp only [N5,M1] at g;subst g;exact m j
  .rw [Nu (by rw [d.tl];omega)] at g;exact h.p k s' (by omega) a j u g
theorem Cj{c:Cx}(ok:nc c){D:List Dc}(o:r7 c.ds D c.p)(y:c.p.size<=100)(hold:∀(i:Nat) (x:Nd) (s:Int),c.ns[i]? =some x->c.ss[i]? =some s->sA c i x s):
  ∀(rn:List Nd) (rs:List Int) (i:Nat) (t:Tr) (M:Mk) (σ:List Int),c.ns.drop i=rn->c.ss.drop i=rs->i<=c.ns.length->cy c t M i->M.N.length<=800->Ty D M σ->iF c t σ i->(ft c rn rs t M).2.N.length<=800->
   ∃a,Ty D (ft c rn rs t M).2 a/\iF c (ft c rn rs t M).1 a c.ns.length/\cy c (ft c rn rs t M).1 (ft c rn rs t M).2 c.ns.length
 | [],rs,i,t,M,σ,g,j,w,b,v,ty,d,_=>by
  have:i=c.ns.length:=by have:=bx g;omega
  subst this;rw [show ft c [] rs t M= (t,M) by simp [ft]];exact⟨σ,ty,d,b⟩
 | x::rn,[],i,t,M,σ,g,j,w,b,v,ty,d,_=>by have l:=(bz g).2.1;have F:=bx j;have:=ok.sl;omega
 | x::rn,s::rs,i,t,M,σ,g,j,w,b,v,ty,d,hl=>by
  obtain⟨q,E,B⟩:=bz g;obtain⟨f,_,u⟩:=bz j;obtain⟨st,up⟩:=yl ok q f b y (by omega);have z:=ok.nd i x s q f;have n:=hold i x s q f;have key:∃a,Ty D (fJ c t M x s).2 a/\iF c (fJ c t M x s).1 a (i+1):=by
   unfold fJ;cases m:aF s with
   | true=>obtain⟨a,h,r,l⟩:=jx o z n m b d ty;exact⟨a,h,(d.mono r).snoc b f (λ_=>l) (λe=>by rw [m] at e;cases e)⟩
   | false=>obtain⟨a,h,r,l⟩:=oc o z n m b d ty;exact⟨a,h,(d.mono r).snoc b f (λe=>by rw [m] at e;cases e) (λ_=>l)⟩
  rw [ft] at hl⊢;split at hl
  .omega
  rename_i C;rw [if_neg C];obtain⟨a,h,A⟩:=key;exact Cj ok o y hold rn rs (i+1) _ _ a B u (by omega) st (by omega) h A hl
open Go Go.Aev
abbrev eL(need:List Bool)(j:Nat):Bool:=need.getD j false
theorem LY{need:List Bool}{k j:Nat}(h:eL need j=true):eL (need.set k true) j=true:=by
 unfold eL at h⊢;rw [Na] at h⊢;rw [On];by_cases e:k=j
 .subst e;rw [if_pos rfl];by_cases hl:k < need.length
  .rw [if_pos hl];rfl
  .rw [Ov (by omega)] at h;cases h
 .rw [if_neg e];exact h
theorem xe:∀(ks:List Int) (need:List Bool) {j:Nat},eL need j=true->eL (dG need ks) j=true
 | [],_,_,h=>h
 | _::r,_,_,h=>xe r _ (LY h)
theorem xd:∀{ks:List Int} {need:List Bool} {k:Int},k∈ks->k.toNat < need.length->eL (dG need ks) k.toNat=true
 | [],_,_,h,_=>by cases h
 | a::r,need,k,h,hl=>by
  rw [dG];rcases Nj.1 h with rfl | h
  .exact xe r _ (by unfold eL;rw [Na,OK hl];rfl)
  .exact xd h (by rw [O6];exact hl)
theorem Cm:∀{ks:List Int} {need:List Bool} {j:Nat},(∀k∈ks,k.toNat≠j)->eL (dG need ks) j=eL need j
 | [],_,_,_=>rfl
 | k::r,need,j,h=>by rw [dG,Cm (ks:=r) λy a=>h y (M4 _ a)];unfold eL;rw [Na,Na,Pu (h k M3)]
abbrev FY:Nd:=⟨0,true,[],0,0,s0⟩
theorem H0{N:List Nd}(hk:∀(i:Nat) (x:Nd),N[i]? =some x->∀k∈x.ks,0<=k/\k < (i:Int))(i:Nat):∀k∈(N.getD i FY).ks,0<=k/\k < (i:Int):=by
 rw [Na];cases h:N[i]? with
 | none=>intro k a;cases a
 | some x=>exact hk i x h
section
variable {N:List Nd} (hk:∀(i:Nat) (x:Nd),N[i]? =some x->∀k∈x.ks,0<=k/\k < (i:Int))
include hk
theorem yY:∀(i:Nat) (need:List Bool) {j:Nat},i<=j->eL (back N need i) j=eL need j
 | 0,_,_,_=>rfl
 | i+1,need,j,h=>by
  rw [back,yY i _ (by omega)];split
  .exact Cm λk a=>by have:=H0 hk i k a;omega
  .rfl
omit hk in
theorem uY:∀(i:Nat) (need:List Bool) {j:Nat},eL need j=true->eL (back N need i) j=true
 | 0,_,_,h=>h
 | i+1,need,j,h=>by
  rw [back];apply uY i;split
  .exact xe _ _ h
  .exact h
theorem yW:∀(i:Nat) (need:List Bool),i<=need.length->∀(j:Nat) (x:Nd),j < i->N[j]? =some x->eL (back N need i) j=true->∀k∈x.ks,eL (back N need i) k.toNat=true
 | 0,_,_,j,_,h,_,_=>by omega
 | i+1,need,hl,j,x,h,c,ho=>by
  intro k a;rw [back] at ho⊢;by_cases e:j=i
  .subst e;rw [yY hk j _ (Ns _)] at ho;have d:=hk j x c k a;by_cases b:eL need j=true
   .rw [if_pos b] at ho⊢;apply uY;refine xd ?_ (by omega);rw [Na,c];exact a
   .rw [if_neg b] at ho;exact absurd ho b
  .refine yW i _ ?_ j x (by omega) c ho k a;split
   .rw [pC];omega
   .omega
end
structure Kp (D:List Dc) (σ:List Int) (need:List Bool) (n i:Nat) (to:List Int) (out:List Nd) (τ:List Int):Prop where
 tl:to.length=n
 to:∀j,j < i->eL need j=true->bn τ (to.getD j 0) (σ.getD j 0)
 len:τ.length=out.length
 nd:∀(m:Nat) (y:Nd) (s:Int),out[m]? =some y->τ[m]? =some s->bT D y (m:Int) (τ.take m)= (s,0)/\aF s=false/\(y.op < 15\/23 < y.op)/\(y.ek=true->y.ks= [])
theorem Ty.in{D:List Dc}{M:Mk}{σ:List Int}(ty:Ty D M σ):∀(i:Nat) (x:Nd),M.N[i]? =some x->∀k∈x.ks,0<=k/\k < (i:Int):=λi x a k hk=>by
 have b:i < σ.length:=by rw [ty.len];exact(M5.1 a).1
 have:=xp (ty.nd i x _ a (Nc b)).ch k hk;rw [N2] at this;omega
theorem wR{D:List Dc}{M:Mk}{σ:List Int}(ty:Ty D M σ)(h:∀x∈M.N,x.ek=true->x.ks= []){need:List Bool}(f:∀(j:Nat) (x:Nd),M.N[j]? =some x->eL need j=true->∀k∈x.ks,eL need k.toNat=true):
  ∀(r:List Nd) (i:Nat) (to:List Int) (out:List Nd) (τ:List Int),M.N.drop i=r->i<=M.N.length->Kp D σ need M.N.length i to out τ->∃c,Kp D σ need M.N.length M.N.length (dA need i r to out).1 (dA need i r to out).2 c/\(dA need i r to out).2.length<=out.length+r.length
 | [],i,to,out,τ,g,G,a=>by
  have:i=M.N.length:=by have:=bx g;omega
  subst this;exact⟨τ,a,by simp [dA]⟩
 | x::r,i,to,out,τ,g,G,a=>by
  obtain⟨p,A,B⟩:=bz g;have u:i < σ.length:=by rw [ty.len];exact A
  rw [dA];by_cases q:eL need i=true
  .rw [if_pos q];have gd:=ty.nd i x _ p (Nc u);have l:=ty.in i x p;have e:∀k∈x.ks,(to.set i (out.length:Int)).getD k.toNat 0=to.getD k.toNat 0:=λk hk=>by
    have:=l k hk;rw [Na,Na,Pu (by omega)]
   have hk:∀k∈x.ks,bn τ (to.getD k.toNat 0) (σ.getD k.toNat 0):=λk hk=>a.to k.toNat (by have:=l k hk;omega) (f i x p q k hk);have o:bT D ⟨x.op,x.ek,x.ks.map λk=>(to.set i (out.length:Int)).getD k.toNat 0,x.n,x.d,x.nm⟩ (out.length:Int) τ = (σ[i],0):=by
    refine CH gd.ch (xo gd.ch).1 rfl ?_ rfl rfl rfl ?_ ?_
    .show(x.ks.map _).map _=_;rw [PR];apply N9;intro k b;have:=l k b;show τ.getD ((to.set i (out.length:Int)).getD k.toNat 0).toNat 0=_;rw [e k b,(hk k b).getD,Na,Na,PD (by omega)]
    .intro k b;obtain⟨y,o,rfl⟩:=NG.1 (show k∈x.ks.map _ from b);rw [e y o];exact⟨(hk y o).1,by rw [<-a.len];exact(hk y o).lt⟩
    .intro _ h0 E;exact⟨h0,rfl,E⟩
   obtain⟨c,w,z⟩:=wR ty h f r (i+1) (to.set i (out.length:Int)) (out++ [⟨x.op,x.ek,x.ks.map λk=>(to.set i (out.length:Int)).getD k.toNat 0,x.n,x.d,x.nm⟩]) (τ ++ [σ[i]]) B (by omega) (by
    refine⟨by rw [O6];exact a.tl,λj H ho=> ?_,by simp [a.len],λm y s hm hs=> ?_⟩
    .by_cases v:j=i
     .subst v;rw [Na,OK (by rw [a.tl];exact A),Na,Nc u];refine⟨Int.natCast_nonneg _, ?_⟩;show(τ ++ [σ[j]])[((out.length:Nat):Int).toNat]? =some σ[j];rw [NM,<-a.len];simp
     .have:=(a.to j (by omega) ho).mono (PA τ [σ[i]]);rw [Na,Pu (by omega),<-Na];exact this
    .rcases PS m out.length with t | I
     .rw [Nu t] at hm;rw [Nu (by rw [a.len];exact t)] at hs;rw [OT (by rw [a.len];omega)];exact a.nd m y s hm hs
     .have C:=(M5.1 hm).1;rw [N6,Nk] at C;obtain rfl:m=out.length:=by omega
      rw [NI (Ns _),OE] at hm;rw [<-a.len,NI (Ns _),OE] at hs;simp only [N5,M1] at hm hs;subst hm hs;rw [OT (by rw [a.len];exact Ns _),<-a.len,PK,a.len];exact⟨o,gd.so,gd.op,λF=>by
       have:=h x (Nh p) F;show x.ks.map _= [];rw [this];rfl⟩)
   exact⟨c,w,by simp at z⊢;omega⟩
  .rw [if_neg q];obtain⟨c,w,z⟩:=wR ty h f r (i+1) to out τ B (by omega) ⟨a.tl,λj H ho=>by
    by_cases v:j=i
    .subst v;exact absurd ho q
    .exact a.to j (by omega) ho,a.len,a.nd⟩
   exact⟨c,w,by simp at z⊢;omega⟩
theorem Eb{D:List Dc}{N:List Nd}{τ:List Int}(hl:τ.length=N.length)(a:∀(m:Nat) (y:Nd) (s:Int),N[m]? =some y->τ[m]? =some s->bT D y (m:Int) (τ.take m)= (s,0)):∀(r:List Nd) (i:Nat),N.drop i=r->i<=N.length->dH D r i (τ.take i)= (τ,0,0)
 | [],i,g,d=>by
  have:i=N.length:=by have:=bx g;omega
  subst this;rw [dH,<-hl,PK]
 | x::r,i,g,d=>by
  obtain⟨c,e,b⟩:=bz g;have hs:i < τ.length:=by omega
  have h:=a i x _ c (Nc hs);rw [dH,h,if_pos rfl];show dH D r (i+1) (τ.take i++ [τ[i]])=_;rw [List.take_append_getElem hs];exact Eb hl a r (i+1) b (by omega)
theorem MN{D:List Dc}{M:Mk}{σ:List Int}(ty:Ty D M σ)(g:∀x∈M.N,x.ek=true->x.ks= []){hold:List Int}(q:∀k∈hold,bn σ k 1):
  ∃τ,dH D (hJ M.N hold).1 0 []= (τ,0,0)/\τ.length= (hJ M.N hold).1.length/\(∀s∈τ,aF s=false)/\(∀y∈(hJ M.N hold).1,(y.op < 15\/23 < y.op)/\(y.ek=true->y.ks= []))/\(∀k∈(hJ M.N hold).2,bn τ k 1)/\(hJ M.N hold).1.length<=M.N.length:=by
 have hl:(dG (List.replicate M.N.length false) hold).length=M.N.length:=by rw [pC,OC]
 have l:=ty.in;have f:∀(j:Nat) (x:Nd),M.N[j]? =some x->eL (back M.N (dG (List.replicate M.N.length false) hold) M.N.length) j=true->∀k∈x.ks,eL (back M.N (dG (List.replicate M.N.length false) hold) M.N.length) k.toNat=true:=
  λj x o ho k hk=>yW l M.N.length _ (by omega) j x (M5.1 o).1 o ho k hk
 obtain⟨τ,a,n⟩:=wR ty g f M.N 0 (List.replicate M.N.length 0) [] [] rfl (OY _) ⟨by simp,λj t=>by omega,rfl,λm y s hm=>by simp at hm⟩;refine⟨τ, ?_,a.len,λs hs=> ?_,λy r=> ?_,λk hk=> ?_,by have h:=n;rw [Nw,NF] at h;exact h⟩
 .have:=Eb (D:=D) a.len (λm y s c b=>(a.nd m y s c b).1) _ 0 rfl (OY _);exact this
 .obtain⟨m,hm⟩:=Oi hs;have d:m < (hJ M.N hold).1.length:=by
   have:=(M5.1 hm).1;have b:=a.len;unfold hJ;dsimp only;omega
  exact(a.nd m _ s (Nc d) hm).2.1
 .obtain⟨m,hm⟩:=Oi r;have d:m < τ.length:=by rw [a.len];exact(M5.1 hm).1
  obtain⟨_,_,c,b⟩:=a.nd m y _ hm (Nc d);exact⟨c,b⟩
 .obtain⟨z,p,rfl⟩:=NG.1 (show k∈hold.map _ from hk);have c:=q z p;have e:z.toNat < M.N.length:=by rw [<-ty.len];exact(M5.1 c.2).1
  have b:=a.to z.toNat e (uY _ _ (xd p (by rw [OC];exact e)));rw [c.getD] at b;exact b
open Go Go.Aev
abbrev NW(p:ByteArray)(k b:Nat):ByteArray:=p++it (k:Int)++us++it (b:Int)
theorem pF(p:ByteArray)(k b:Nat):bl (NW p k b)=bl p++ (Go.Lib.itoa (k:Int)++95::Go.Lib.itoa (b:Int)):=by unfold NW;simp only [l9,ma];simp [bl,us]
theorem CP{p:ByteArray}{k d b a:Nat}(h:NW p k b=NW p d a):k=d/\b=a:=by have c:=congrArg bl h;rw [pF,pF] at c;obtain⟨e,f⟩:=oQ (BO _) (BO _) (List.append_cancel_left c);have g:=pq e;have j:=pq f;omega
theorem nX(k:Nat):Go.Lib.itoa (k:Int)=Go.Lib.decDigits k:=by unfold Go.Lib.itoa;rw [if_neg (by omega)];simp
theorem u7(s:ByteArray):s.size= (bl s).length:=by show s.data.size=s.data.toList.length;simp
theorem HK(p q:ByteArray):(p++q).extract 0 p.size=p:=by
 apply qv;have:bl ((p++q).extract 0 p.size)= (bl (p++q)).take p.size:=by show((p++q).extract 0 p.size).data.toList=_;rw [ByteArray.data_extract,Po];rfl
 rw [this,l9,u7 p];exact List.take_left
theorem JY(p:ByteArray)(k b:Nat):hH (NW p k b) p=true:=by
 have e:NW p k b=p++ (it (k:Int)++us++it (b:Int)):=by apply qv;rw [pF];simp only [l9,ma];simp [bl,us]
 have d:iL (NW p k b) p=true:=by unfold iL;rw [e,HK];simp only [Np,M7,decide_eq_true_eq,and_true];omega
 obtain⟨c,r,a⟩:=FW k;have f:(NW p k b).data.toList[p.size]? =some c:=by show(bl (NW p k b))[p.size]? =some c;rw [pF,nX,a,u7,NI (Ns _),OE];rfl
 have g:=oR k c (by rw [a];exact M3);unfold hH;rw [d,f];simp only [N1,M7,decide_eq_true_eq];omega
theorem CQ{ds:List Dc}{p:ByteArray}(h:fR ds p=false){d:Dc}(a:d∈ds)(k b:Nat):d.nm≠NW p k b:=λe=>by have:=NV.1 h d a;rw [e,JY] at this;exact this rfl
theorem Da{ds:List Dc}:∀(k:Nat) (p:ByteArray) (n:Nat),bl p=List.replicate n (95:UInt8)->1<=n->∃m,1<=m/\bl (gT ds k p)=List.replicate m (95:UInt8)
 | 0,p,n,h,a=>⟨n,a,h⟩
 | k+1,p,n,h,a=>by
  rw [gT];split
  .refine Da k (p++us) (n+1) ?_ (by omega);rw [l9,h,List.replicate_succ']
  .exact⟨n,a,h⟩
theorem Kg(ds:List Dc):∃m,1<=m/\bl (cM ds)=List.replicate m (95:UInt8):=Da 11 us 1 rfl (Ns _)
theorem C9{ds:List Dc}(hs:∀d∈ds,d.nm.size<=12):∀(k:Nat) (p:ByteArray),12<=p.size+k->fR ds (gT ds k p)=false
 | 0,p,h=>by
  rw [gT];cases a:fR ds p with
  | false=>rfl
  | true=>have:=p7 hs a;omega
 | k+1,p,h=>by
  rw [gT];split
  .exact C9 hs k _ (by rw [Np,dW];omega)
  .rename_i a;simpa using a
theorem Kf{ds:List Dc}(hs:∀d∈ds,d.nm.size<=12):fR ds (cM ds)=false:=C9 hs 11 us (by rw [dW];omega)
theorem y9:∀(l:List UInt8) (i:Nat),1<=i->(∀c∈l,c=95\/(48<=c.toNat/\c.toNat<=57))->jC i l=true
 | [],_,_,_=>rfl
 | c::r,i,g,h=>by
  rw [jC,y9 r (i+1) (by omega) λx d=>h x (M4 _ d),Og];rcases h c M3 with rfl | ⟨e,f⟩
  .simp [mb]
  .have a:(((i:Nat):Int)==0)=false:=by simp;omega
   have b:decide (((c.toNat:Nat):Int) < 48)=false:=by simp;omega
   have e3:decide (((c.toNat:Nat):Int) > 57)=false:=by simp;omega
   unfold mb;rw [a,b,e3];simp
theorem CO{p:ByteArray}{m:Nat}(d:bl p=List.replicate m (95:UInt8))(k b:Nat):∀c∈bl (NW p k b),c=95\/(48<=c.toNat/\c.toNat<=57):=λc a=>by
 rw [pF,d,nX,nX] at a;rcases Nq.1 a with a | a
 .exact .inl (P4 a)
 rcases Nq.1 a with a | a
 .exact .inr (oR _ c a)
 rcases Nj.1 a with a | a
 .exact .inl a
 .exact .inr (oR _ c a)
theorem JW{p:ByteArray}{m:Nat}(hm: 1<=m)(c:bl p=List.replicate m (95:UInt8)){k b:Nat}(hs:(NW p k b).size<=12):iO (NW p k b)=true:=by
 obtain⟨m,rfl⟩:∃n,m=n+1:=⟨m - 1,by omega⟩;have a:=CO c k b;have e:∃r,bl (NW p k b)=95::r:=by rw [pF,c,Om];exact⟨_,rfl⟩
 obtain⟨r,d⟩:=e;have h: 1<=(NW p k b).size:=by rw [u7,d];simp
 unfold iO;show(jC 0 (bl (NW p k b)) && _)=true;rw [d] at a⊢;rw [jC,y9 r (0+1) (Ns _) λx g=>a x (M4 _ g)];have f:mb 0 95=true:=by decide
 rw [f];simp only [N1,M7,decide_eq_true_eq];omega
theorem za:∀{l:List UInt8} {i:Nat},jC i l=true->(32:UInt8)∉l
 | [],_,_=>by simp
 | c::r,i,h=>by
  rw [jC,M7] at h;intro hm;rcases Nj.1 hm with e | hm
  .rw [<-e] at h;have:=h.1;simp [mb] at this
  .exact za h.2 hm
theorem Ik{s:ByteArray}(h:iO s=true):jb s:=by unfold iO at h;rw [M7] at h;exact za h.1
theorem JX{p:ByteArray}{m:Nat}(a:bl p=List.replicate m (95:UInt8))(k b:Nat):jb (NW p k b):=λh=>by
 rcases CO a k b _ h with e | e
 .exact absurd e (by decide)
 .simp at e
theorem CT{p:ByteArray}{k:Nat}:∀(n b:Nat) (ok:Bool),eS p k b n ok=true->ok=true/\∀c,b<=c->c < b+n->(NW p k c).size<=12
 | 0,b,ok,h=>⟨h,λc a d=>by omega⟩
 | n+1,b,ok,h=>by
  rw [eS] at h;obtain⟨a,d⟩:=CT n (b+1) _ h;rw [M7,decide_eq_true_eq] at a;refine⟨a.1,λc f g=> ?_⟩;by_cases e:c=b
  .subst e;have j:(((NW p k c).size:Nat):Int)<=12:=a.2;omega
  .exact d c (by omega) (by omega)
theorem CU{p:ByteArray}:∀(ds:List Dc) (k:Nat) (ok:Bool),cD p k ds ok=true->ok=true/\∀(j:Nat) (d:Dc),ds[j]? =some d->aF d.so=true->∀c,c < (d.so - 10).toNat->(NW p (k+j) c).size<=12
 | [],k,ok,h=>⟨h,λj d a=>by simp at a⟩
 | d::r,k,ok,h=>by
  rw [cD] at h;obtain⟨f,m⟩:=CU r (k+1) _ h;have key:ok=true/\(aF d.so=true->∀c,c < (d.so - 10).toNat->(NW p k c).size<=12):=by
   split at f
   .obtain⟨n,o⟩:=CT _ _ _ f;exact⟨n,λ_ c g=>o c (by omega) (by omega)⟩
   .rename_i b;exact⟨f,λe=>absurd e b⟩
  refine⟨key.1,λj l a b c g=> ?_⟩;cases j with
  | zero=>simp only [N5,M1] at a;subst a;exact key.2 b c g
  | succ j=>have:=m j l (by simpa using a) b c g;rw [show k+1+j=k+ (j+1) by omega] at this;exact this
theorem qu{p:ByteArray}{k:Nat}{d:Dc}:∀{n b:Nat} {x:Dc},x∈dz p k d b n↔∃c,b<=c/\c < b+n/\x= ⟨NW p k c,d.ea,d.ar,1⟩
 | 0,b,x=>by
  rw [dz];constructor
  .intro h;cases h
  .rintro⟨c,f,g,_⟩;omega
 | n+1,b,x=>by
  rw [dz,Nj,qu];constructor
  .rintro(h | ⟨c,f,g,a⟩)
   .exact⟨b,Ns _,by omega,h⟩
   .exact⟨c,by omega,by omega,a⟩
  .rintro⟨c,f,g,a⟩;by_cases e:c=b
   .subst e;exact .inl a
   .exact .inr ⟨c,by omega,by omega,a⟩
theorem mg{p:ByteArray}:∀{ds:List Dc} {k:Nat} {x:Dc},x∈bS p k ds↔(x∈ds/\aF x.so=false)\/∃(j:Nat) (d:Dc) (c:Nat),ds[j]? =some d/\aF d.so=true/\c < (d.so - 10).toNat/\x= ⟨NW p (k+j) c,d.ea,d.ar,1⟩
 | [],k,x=>by
  rw [bS];constructor
  .intro h;cases h
  .rintro(⟨h,_⟩ | ⟨j,d,c,h,_⟩)
   .cases h
   .simp at h
 | d::r,k,x=>by
  rw [bS,Nq,mg];constructor
  .rintro(h | ⟨a,b⟩ | ⟨j,g,c,a,b,e,f⟩)
   .split at h
    .rename_i l;obtain⟨c,_,b,e⟩:=qu.1 h;exact .inr ⟨0,d,c,rfl,l,by omega,e⟩
    .rename_i l;rw [Ng] at h;subst h;exact .inl ⟨M3,by simpa using l⟩
   .exact .inl ⟨M4 _ a,b⟩
   .exact .inr ⟨j+1,g,c,by simpa using a,b,e,by rw [f,show k+1+j=k+ (j+1) by omega]⟩
  .rintro(⟨a,b⟩ | ⟨j,g,c,a,b,e,f⟩)
   .rcases Nj.1 a with rfl | a
    .left;rw [if_neg (by rw [b];decide)];exact Ng.2 rfl
    .exact .inr (.inl ⟨a,b⟩)
   .cases j with
    | zero=>simp only [N5,M1] at a;subst a;left;rw [if_pos b];exact qu.2 ⟨c,by omega,by omega,f⟩
    | succ j=>exact .inr (.inr ⟨j,g,c,by simpa using a,b,e,by rw [f,show k+1+j=k+ (j+1) by omega]⟩)
abbrev kQ(ds:List Dc):Prop:=ds.Pairwise λa b=>a.nm≠b.nm
theorem yZ{p:ByteArray}{k:Nat}{d:Dc}:∀(n b:Nat),kQ (dz p k d b n)
 | 0,b=>List.Pairwise.nil
 | n+1,b=>by rw [dz];refine List.Pairwise.cons (λx f e=> ?_) (yZ n (b+1));obtain⟨c,g,_,a⟩:=qu.1 f;rw [a] at e;have:=CP (show NW p k b=NW p k c from e);omega
theorem zr{p:ByteArray}{f:List Dc}(g:fR f p=false):∀(ds:List Dc) (k:Nat),(∀d∈ds,d∈f)->kQ ds->kQ (bS p k ds)
 | [],k,_,_=>List.Pairwise.nil
 | d::r,k,hs,h=>by
  obtain⟨q,s⟩:=List.pairwise_cons.1 h;rw [bS];refine PU.2 ⟨?_,zr g r (k+1) (λx a=>hs x (M4 _ a)) s,λx a y l=> ?_⟩
  .split
   .exact yZ _ _
   .exact List.pairwise_singleton _ _
  .have t:=λz (u:z∈r)=>hs z (M4 _ u);split at a
   .obtain⟨c,_,_,rfl⟩:=qu.1 a;rcases mg.1 l with⟨b,_⟩ | ⟨j,m,c',b,n,o,rfl⟩
    .exact λe=>CQ g (t y b) k c e.symm
    .intro e;have:=CP (show NW p k c=NW p (k+1+j) c' from e);omega
   .rw [Ng] at a;subst a;rcases mg.1 l with⟨b,_⟩ | ⟨j,m,c',b,n,o,rfl⟩
    .exact q y b
    .exact CQ g (hs x M3) _ _
theorem Dl:∀{D:List Dc},kQ D->∀x∈D,∀y∈D,x.nm=y.nm->x=y
 | [],_,x,c,_,_,_=>by cases c
 | d::r,h,x,c,y,m,e=>by
  obtain⟨j,l⟩:=List.pairwise_cons.1 h;rcases Nj.1 c with f | a <;> rcases Nj.1 m with g | b
  .rw [f,g]
  .rw [f] at e;exact absurd e (j y b)
  .rw [g] at e;exact absurd e.symm (j x a)
  .exact Dl l x a y b e
theorem Bm{nm:ByteArray}:∀{D:List Dc} {i:Nat},(∃x∈D,x.nm=nm)->0<=gO nm i D
 | [],_,⟨x,a,_⟩=>by cases a
 | d::r,i,⟨x,a,e⟩=>by
  rw [gO];split
  .omega
  .rename_i b;rcases Nj.1 a with rfl | a
   .exact absurd e b
   .exact Bm ⟨x,a,e⟩
theorem Bk{D:List Dc}(h:kQ D){x:Dc}(b:x∈D):Fn D x.nm x.ar x.so:=by have h0: 0<=bf D x.nm:=Bm ⟨x,b,rfl⟩;obtain⟨k,d,f,c,e,a⟩:=Bl h0;have:=Dl h d (Nh c) x b e;subst this;exact⟨h0,by rw [a],by rw [a]⟩
theorem zd{ds:List Dc}:∀{r:List Dc} {a:List Dc} {i:Nat},(dY a i r).1=0->kQ a->kQ (a++r)
 | [],a,_,_,b=>by rw [Nz];exact b
 | x::r,a,i,h,b=>by
  rw [dY] at h;split at h
  .rename_i h0;have d:=(vt h0).2.2.2.2.2.1;have:=zd (ds:=ds) h (PU.2 ⟨b,List.pairwise_singleton _ _,λy e z c=>by
    rw [Ng] at c;subst c;have:=NV.1 d y e;simpa using this⟩)
   rw [Nx] at this;exact this
  .rename_i h0;exact absurd h h0
theorem FN{a:List Dc}{d:Dc}(f:iO d.nm=true)(g:∀x∈a,x.nm≠d.nm)(o:d.ar.length<=8)(j:lB d.so=true)(l:∀s∈d.ar,s=4)(m:d.so=5->d.ar= []):eW a d=0:=by
 unfold eW;have c:(a.any λx=>decide (x.nm=d.nm))=false:=by rw [NV];intro x n;simp [g x n]
 have e:(d.ar.any λs=> !(s==4))=false:=by rw [NV];intro s hs;simp [l s hs]
 rw [f,c,e,j,if_neg (by decide),if_neg (by decide),if_neg (by omega),if_neg];rintro(h | h | ⟨h,b⟩)
 .cases h
 .cases h
 .rw [m h] at b;simp at b
theorem zb:∀{r:List Dc} {a:List Dc} {i:Nat},kQ (a++r)->(∀d∈r,iO d.nm=true/\d.ar.length<=8/\lB d.so=true/\(∀s∈d.ar,s=4)/\(d.so=5->d.ar= []))->dY a i r= (0,0)
 | [],_,_,_,_=>rfl
 | d::r,a,i,h,c=>by obtain⟨e,f,g,j,l⟩:=c d M3;obtain⟨_,_,m⟩:=PU.1 h;rw [dY,if_pos (FN e (λx b=>m x b d M3) f g j l)];exact zb (by rw [Nx];exact h) λx b=>c x (M4 _ b)
theorem FQ{ds:List Dc}(h:(dY [] 0 ds).1=0)(y:cD (cM ds) 0 ds true=true):r7 ds (bS (cM ds) 0 ds) (cM ds)/\dY [] 0 (bS (cM ds) 0 ds)= (0,0)/\∀d∈bS (cM ds) 0 ds,aF d.so=false:=by
 have f:∀d∈ds,d.nm.size<=12/\d.ar.length<=8/\(∀s∈d.ar,s=4)/\iO d.nm=true/\lB d.so=true/\(d.so=5->d.ar= []):=λd a=>by obtain⟨j,C⟩:=Oi a;obtain⟨H,o,p,r,t,_,u⟩:=vt (vo h j d C);exact⟨H,o,p,r,t,u⟩
 have A:kQ ds:=by simpa using zd (ds:=ds) h List.Pairwise.nil
 have E:=Kf λd a=>(f d a).1;obtain⟨m,hm,z⟩:=Kg ds;have q:=zr E ds 0 (λd a=>a) A;have F:∀d∈bS (cM ds) 0 ds,aF d.so=false:=λd a=>by
  rcases mg.1 a with⟨_,g⟩ | ⟨j,I,c,l,v,w,rfl⟩
  .exact g
  .rfl
 refine⟨⟨λd a n=>Bk q (mg.2 (.inl ⟨a,n⟩)),λk d hk n b B=> ?_,λd a=>Ik (f d a).2.2.2.1,λk b=>JX z k b,λd a=>⟨(f d a).2.1,(f d a).2.2.1⟩⟩,zb (by simpa using q) λx G=> ?_,F⟩
 .have:(⟨NW (cM ds) (0+k) b,d.ea,d.ar,1⟩:Dc)∈bS (cM ds) 0 ds:=mg.2 (.inr ⟨k,d,b,hk,n,B,rfl⟩);have:=Bk q this;rw [NF] at this;exact this
 .rcases mg.1 G with⟨l,_⟩ | ⟨j,d,c,l,v,w,rfl⟩
  .obtain⟨_,o,p,r,t,u⟩:=f x l;exact⟨r,o,t,p,u⟩
  .obtain⟨_,o,p,_,_,_⟩:=f d (Nh l);refine⟨JW hm z ((CU ds 0 true y).2 j d l v c w),o,rfl,p,λe=>absurd (show(1:Int)=5 from e) (by decide)⟩
open Go Go.Aev
theorem BE{ss:List Int}:∀{r:List Int} {j:Nat},(∀k∈r,bn ss k 1)->dZ ss r j= (0,0)
 | [],_,_=>rfl
 | k::r,j,h=>by have a:=h k M3;have c:=a.1;have d:=a.lt;rw [dZ,if_neg (by omega),if_neg (by rw [a.getD];simp)];exact BE λx b=>h x (M4 _ b)
theorem Mg{b:As}{τ:List Int}(f:b.ds.length<=30)(a:dY [] 0 b.ds= (0,0))(g:b.ns.length<=200)(c:dH b.ds b.ns 0 []= (τ,0,0))(h:b.hs.length<=200)(d:∀k∈b.hs,bn τ k 1):br b= (τ,0,0):=by unfold br;rw [if_neg (by omega),if_neg (by rw [a];simp),if_neg (by omega),c];unfold hF;have e:dZ τ b.hs 0= (0,0):=BE d;rw [if_neg (by simp),if_neg (by omega),if_neg (by rw [e];simp)]
theorem Ea{a:As}(h:(br a).2.1=0):a.ds.length<=30/\(dY [] 0 a.ds).1=0/\a.ns.length<=200/\a.hs.length<=200/\dH a.ds a.ns 0 []= ((br a).1,0,0):=by
 unfold br at h⊢;by_cases e: 30 < a.ds.length
 .rw [if_pos e] at h;exact absurd (show(2:Int)=0 from h) (by decide)
 rw [if_neg e] at h⊢;by_cases b:(dY [] 0 a.ds).1≠0
 .rw [if_pos b] at h;exact absurd h b
 rw [if_neg b] at h⊢;by_cases c3: 200 < a.ns.length
 .rw [if_pos c3] at h;exact absurd (show(2:Int)=0 from h) (by decide)
 rw [if_neg c3] at h⊢;unfold hF at h⊢;by_cases c:(dH a.ds a.ns 0 []).2.1≠0
 .rw [if_pos c] at h;exact absurd h c
 rw [if_neg c] at h⊢;by_cases f: 200 < a.hs.length
 .rw [if_pos f] at h;exact absurd (show(2:Int)=0 from h) (by decide)
 rw [if_neg f] at h⊢;by_cases d:(dZ (dH a.ds a.ns 0 []).1 a.hs 0).1≠0
 .rw [if_pos d] at h;exact absurd h d
 rw [if_neg d];obtain⟨t,g,j,l⟩:=uC (ds:=a.ds) (r:=a.ns) (i:=0) (ss:= []) rfl (by simpa using c);refine⟨by omega,by simpa using b,by omega,by omega, ?_⟩;rw [g]
theorem J2{a:As}{es:Bool}(h:(br a).2.1=0):∀(i:Nat) (x:Nd) (s:Int),a.ns[i]? =some x->(br a).1[i]? =some s->sA (jf a es (br a).1) i x s:=λi x s g hs=>by obtain⟨_,_,_,_,c⟩:=Ea h;obtain⟨t,b,j,f⟩:=uC (ds:=a.ds) (r:=a.ns) (i:=0) (ss:= []) rfl (by rw [c]);rw [c,Ow,NL] at b;obtain⟨d,e⟩:=f i x g;rw [NF,Ow] at d e;rw [b.1] at hs;show bT a.ds x (i:Int) ((br a).1.take i)= (s,0);rw [b.1];rw [e] at hs;simp only [M1] at hs;exact Prod.ext hs d
def kV(a:As):List Dc:=bS (cM a.ds) 0 a.ds
def mf(a:As):Cx:=jf a (br a).1.isEmpty (br a).1
def fU(a:As):Tr×Mk:=ft (mf a) a.ns (br a).1 ⟨[],[]⟩ ⟨[],[]⟩
def lU(a:As):List Nd×List Int:=lV (mf a) (fU a)
def jr(a:As):Bool:=cD (cM a.ds) 0 a.ds true && decide ((((kV a).length:Nat):Int)<=30)
def ja(a:As):Bool:=ot a.ds (br a).1
def lF(a:As):Bool:=ja a && (!jr a || (decide (800 < (fU a).2.N.length) || decide (200 < (lU a).1.length)))
def bF(a:As):As:=
 if ja a then⟨(kV a).isEmpty,kV a,(lU a).1.isEmpty,(lU a).1,(lU a).2.isEmpty,(lU a).2⟩
 else⟨a.ds.isEmpty,a.ds,a.ns.isEmpty,a.ns,a.eh,a.hs⟩
abbrev J7(b:As):List T:= [T.ad 3 b.ed (aI b.ds),T.ad 5 b.en (aV b.ns),T.ad 1 b.eh (enc b.hs),ti 0,ti 0]
theorem FZ{a:As}(h:(br a).2.1=0):oS a=if lF a then qZ else J7 (bF a):=by
 unfold oS;rw [if_pos h];unfold sO lF bF;show(if ja a then jQ (mf a) (kV a) (jr a) (fU a) else _)=_;cases e:ja a with
 | false=>rfl
 | true=>
  unfold jQ;simp only [if_true,N1];cases hk:jr a with
  | false=>simp
  | true=>
   by_cases d: 800 < (fU a).2.N.length
   .simp [d]
   .by_cases c: 200 < (lU a).1.length
    .have b: 200 < (lV (mf a) (fU a)).1.length:=c;simp [d,c,b]
    .have b:¬200 < (lV (mf a) (fU a)).1.length:=c;simp only [d,c,b,decide_false,M8,Bool.or_false,Bool.true_eq_false,or_self,if_false,NA];rfl
structure EL (a b:As):Prop where
 wf:lX b
 so:∃τ,br b= (τ,0,0)/\τ.length=b.ns.length/\∀s∈τ,aF s=false
 op:∀y∈b.ns,y.op < 15\/23 < y.op
 dw:∀d∈b.ds,aF d.so=false
 hl:b.hs.length=a.hs.length
 ed:b.ed=b.ds.isEmpty
 en:b.en=b.ns.isEmpty
theorem CS:Ok ⟨[],[]⟩:=⟨λi x h=>by simp at h,λi x h=>by simp at h,λp h=>(by cases h),λi x h=>by simp at h,λi x h=>by simp at h⟩
theorem Fi{a:As}(wf:lX a)(h:(br a).2.1=0)(hm:lF a=false):EL a (bF a):=by
 obtain⟨ok,hda⟩:=qx (es:=(br a).1.isEmpty) h;obtain⟨g1,T,g3,U,g5⟩:=Ea h;have I:∀d∈a.ds,d.nm.size<=12:=ok.ds;unfold bF;cases g:ja a with
 | true=>
  rw [if_pos rfl];unfold lF at hm;rw [g,N1,OF,OF] at hm;obtain⟨m1,m2,m3⟩:=hm;have m:jr a=true:=by simpa using m1
  unfold jr at m;rw [M7,decide_eq_true_eq] at m;have O:(fU a).2.N.length<=800:=by simpa using m2
  have P:(lU a).1.length<=200:=by simpa using m3
  have hps:(cM a.ds).size<=12:=rE I 11 us (by rw [dW];omega);obtain⟨S,H,J⟩:=FQ T m.1;obtain⟨σ,ty,tt,L⟩:=Cj (c:=mf a) ok (D:=kV a) S (by show(cM a.ds).size<=100;omega) (J2 h) a.ns (br a).1 0 ⟨[],[]⟩ ⟨[],[]⟩ [] rfl rfl (OY _) ⟨CS,rfl,rfl,λk s hk=>by omega,λk s hk=>by omega⟩ (by simp) ⟨rfl,λi x s l=>by simp at l,λp Y=>by cases Y⟩ ⟨λk s hk=>by omega,λk s hk=>by omega⟩ O;have X:∀k∈a.hs.map (bm (fU a).1),bn σ k 1:=λk hk=>by
   obtain⟨z,Z,rfl⟩:=NG.1 hk;obtain⟨z0,G⟩:=ok.ho z Z;have A:z.toNat < a.ns.length:=by have:=(M5.1 G).1;have o:(jf a (br a).1.isEmpty (br a).1).ss.length=a.ns.length:=ok.sl;omega
   obtain⟨_,v,o,_⟩:=L.p z.toNat 1 A G rfl;have W:=tt.p z.toNat 1 A G rfl v o;unfold bm;rw [Na,show(fU a).1.to[z.toNat]? =some v from o];exact W
  obtain⟨τ,u1,u2,u3,Q,u5,u6⟩:=MN (M:=(fU a).2) ty (λx l f=>by
   obtain⟨i,r⟩:=Oi l;have:=L.ok.ek i x r;rw [f] at this;exact ON.1 this.symm) X
  refine⟨⟨λd B f=> ?_,λx l=>(Q x l).2,λf=>ON.1 f⟩,⟨τ,Mg (by show(kV a).length<=30;omega) H P u1 (by show((a.hs.map (bm (fU a).1)).map _).length<=200;rw [N3,N3];exact U) u5,u2,u3⟩,λy C=>(Q y C).1,J, ?_,rfl,rfl⟩
  .rcases mg.1 (show d∈bS (cM a.ds) 0 a.ds from B) with⟨E,_⟩ | ⟨j,R,c,E,_,_,rfl⟩
   .exact wf.d d E f
   .exact wf.d R (Nh E) f
  .show((a.hs.map (bm (fU a).1)).map _).length=_;rw [N3,N3]
 | false=>
  rw [if_neg (by decide)];unfold ja ot at g;rw [OF] at g;have F:∀s∈(br a).1,aF s=false:=λs hs=>by simpa using NV.1 g.1 s hs
  have w2:∀d∈a.ds,aF d.so=false:=λd B=>by simpa using NV.1 g.2 d B
  have hs:br ⟨a.ds.isEmpty,a.ds,a.ns.isEmpty,a.ns,a.eh,a.hs⟩=br a:=rfl;refine⟨⟨wf.d,wf.n,wf.h⟩,⟨(br a).1, ?_,ok.sl,F⟩,λy C=> ?_,w2,rfl,rfl,rfl⟩
  .rw [hs];exact Prod.ext rfl (Prod.ext h (yf h))
  .obtain⟨i,r⟩:=Oi (show y∈a.ns from C);have u:i < (br a).1.length:=by
    have o:(br a).1.length=a.ns.length:=ok.sl;have:=(M5.1 r).1;omega
   have K:(br a).1[i]? =some (br a).1[i]:=Nc u;have t:=ok.nd i y _ r K;have b:=F _ (Pb u);rcases PC (y.op < 15\/23 < y.op) with e | e
   .exact e
   exfalso;by_cases eH:y.op=15
   .have:=t.eH eH;have V:aF (br a).1[i]=true:=by unfold aF;simp;omega
    rw [V] at b;cases b
   by_cases dR:y.op=16\/y.op=23
   .rw [(t.dR dR).1] at b;cases b
   by_cases du:y.op=22
   .obtain⟨_,p,q,s',w,_,k1,_⟩:=t.du du;have:=F s' (Nh k1.so);rw [this] at w;cases w
   rw [(t.fj (by omega) (by omega)).1] at b;cases b
end Go.Aev.Gen
