import Derived.Test.YtcjplcpngagalaaDoorBlastNoneQ12
set_option linter.all false
namespace Go.Aev.Gen
open Go Go.Aev
abbrev bl(s:ByteArray):List UInt8:=s.data.toList
theorem mR(a b:ByteArray):bl (a++b)=bl a++bl b:=by simp [bl,ByteArray.data_append]
theorem rR(n:Int):bl (it n)=Go.Lib.itoa n:=by simp [bl,it]
theorem ur{a b:ByteArray}(h:bl a=bl b):a=b:=by obtain⟨⟨a⟩⟩:=a;obtain⟨⟨b⟩⟩:=b;simp only [bl] at h;subst h;rfl
theorem ot(u:Nat):∀c∈Go.Lib.decDigits u,48<=c.toNat/\c.toNat<=57:=by
 induction u using Nat.strongRecOn with
 | _ u b=>
  intro c a;rw [Go.Lib.decDigits] at a;split at a
  .rename_i h;simp only [Lz] at a;subst a;rw [N1];omega
  .rename_i h;rcases LI.1 a with a | a
   .exact b (u / 10) (by omega) c a
   .simp only [Lz] at a;subst a;rw [N1];omega
def uJ(l:List UInt8):Nat:=l.foldl (λa c=>a * 10+ (c.toNat - 48)) 0
theorem yO(u:Nat):uJ (Go.Lib.decDigits u)=u:=by
 induction u using Nat.strongRecOn with
 | _ u a=>
  rw [Go.Lib.decDigits];split
  .rename_i h;simp only [uJ,OA,List.foldl_nil,N1];omega
  .rename_i h;have:=a (u / 10) (by omega);unfold uJ at this⊢;rw [List.foldl_append,this];simp only [OA,List.foldl_nil,N1];omega
theorem yH{u v:Nat}(h:Go.Lib.decDigits u=Go.Lib.decDigits v):u=v:=by rw [<-yO u,h,yO]
theorem EK(u:Nat):∃c r,Go.Lib.decDigits u=c::r:=by
 have h:=Go.Lib.decDigits_length u;have b:=Go.Lib.nDigits_pos u;cases a:Go.Lib.decDigits u with
 | nil=>rw [a] at h;simp at h;omega
 | cons c r=>exact⟨c,r,rfl⟩
theorem AZ(n:Int):∀c∈Go.Lib.itoa n,c=45\/(48<=c.toNat/\c.toNat<=57):=by
 intro c a;unfold Go.Lib.itoa at a;split at a
 .rcases LC.1 a with rfl | a
  .exact .inl rfl
  .exact .inr (ot _ c a)
 .exact .inr (ot _ c a)
theorem oQ{m n:Int}(h:Go.Lib.itoa m=Go.Lib.itoa n):m=n:=by
 have neg:∀u v:Nat,(45::Go.Lib.decDigits u:List UInt8)≠Go.Lib.decDigits v:=λu v e=>by have:=ot v 45 (by rw [<-e];exact Lq);simp at this
 unfold Go.Lib.itoa at h;split at h <;> split at h
 .simp only [My,true_and] at h;have:=yH h;omega
 .exact absurd h (neg _ _)
 .exact absurd h.symm (neg _ _)
 .have:=yH h;omega
theorem l4(n:Int):(32:UInt8)∉Go.Lib.itoa n:=λh=>by
 rcases AZ n _ h with e | e
 .exact absurd e (by decide)
 .simp at e
theorem A2(n:Int):(95:UInt8)∉Go.Lib.itoa n:=λh=>by
 rcases AZ n _ h with e | e
 .exact absurd e (by decide)
 .simp at e
theorem oo{z:UInt8}:∀{a e b d:List UInt8},z∉a->z∉e->a++z::b=e++z::d->a=e/\b=d
 | [],[],b,d,_,_,h=>by simpa using h
 | [],c::e,b,d,_,f,h=>by simp only [MP,Mi,My] at h;exact absurd (h.1▸Lq) f
 | c::a,[],b,d,f,_,h=>by simp only [MP,Mi,My] at h;exact absurd (h.1▸Lq) f
 | c::a,c'::e,b,d,g,i,h=>by simp only [Mi,My] at h;obtain⟨j,k⟩:=oo (λx=>g (Lr _ x)) (λx=>i (Lr _ x)) h.2;exact⟨by rw [h.1,j],k⟩
def kT(ks:List Int):List UInt8:=ks.flatMap λk=>32::Go.Lib.itoa k
theorem Bf:∀(ks:List Int) (k:ByteArray),bl (jw k ks)=bl k++kT ks
 | [],k=>by simp [jw,kT]
 | x::r,k=>by rw [jw,Bf r,mR,mR,rR];simp [kT,bl,sp]
theorem Bg(op:Int)(nm:ByteArray)(n d:Int)(ks:List Int):bl (jZ op nm n d ks)=Go.Lib.itoa op++32:: (bl nm++32:: (Go.Lib.itoa n++32:: (Go.Lib.itoa d++kT ks))):=by unfold jZ;rw [Bf];simp only [mR,rR];simp [bl,sp]
theorem A3:∀{ks c:List Int} {a b:Int},Go.Lib.itoa a++kT ks=Go.Lib.itoa b++kT c->a=b/\ks=c
 | [],[],a,b,h=>by simp only [kT,Oz,LW] at h;exact⟨oQ h,rfl⟩
 | [],k::r,a,b,h=>by simp only [kT,Oz,LW,List.flatMap_cons] at h;exact absurd (h▸(by simp)) (l4 a)
 | k::r,[],a,b,h=>by simp only [kT,Oz,LW,List.flatMap_cons] at h;exact absurd (h▸(by simp)) (l4 b)
 | k::r,j::l,a,b,h=>by
  have e:∀(k:Int) (r:List Int),kT (k::r)=32:: (Go.Lib.itoa k++kT r):=λk r=>by simp [kT]
  rw [e,e] at h;obtain⟨d,f⟩:=oo (l4 a) (l4 b) h;obtain⟨g,i⟩:=A3 f;exact⟨oQ d,by rw [g,i]⟩
def iN(s:ByteArray):Prop:=(32:UInt8)∉bl s
theorem Ha{op c n i d f:Int}{nm a:ByteArray}{ks b:List Int}(h:iN nm)(m:iN a)(e:jZ op nm n d ks=jZ c a i f b):op=c/\nm=a/\n=i/\d=f/\ks=b:=by have g:=congrArg bl e;rw [Bg,Bg] at g;obtain⟨o,j⟩:=oo (l4 _) (l4 _) g;obtain⟨p,k⟩:=oo h m j;obtain⟨q,l⟩:=oo (l4 _) (l4 _) k;obtain⟨r,s⟩:=A3 l;exact⟨oQ o,ur p,oQ q,r,s⟩
open Go Go.Aev
abbrev bf(σ:List Int)(a s:Int):Prop:=0<=a/\σ[a.toNat]? =some s
theorem bf.mono{σ b:List Int}{a s:Int}(p:σ <+:b)(h:bf σ a s):bf b a s:=by obtain⟨t,rfl⟩:=p;exact⟨h.1,by rw [LL (Ls.1 h.2).1];exact h.2⟩
theorem bf.lt{σ:List Int}{a s:Int}(h:bf σ a s):a < (σ.length:Int):=by have:=(Ls.1 h.2).1;have:=h.1;omega
theorem bf.getD{σ:List Int}{a s:Int}(h:bf σ a s):σ.getD a.toNat 0=s:=by rw [Lw,h.2];rfl
theorem Ai{x:Nd}{ss t:List Int}{da:List Int}{so:Int}(h:∀k∈x.ks,0<=k/\k < (ss.length:Int)):cF x ((ss++t).length:Int) (ss++t) da so=cF x (ss.length:Int) ss da so:=by
 have b:(x.ks.any λk=>decide (k < 0) || decide (k>=((ss++t).length:Int)))=false:=by rw [Mh];intro k a;have:=h k a;rw [Mw];simp;omega
 have c:(x.ks.any λk=>decide (k < 0) || decide (k>=(ss.length:Int)))=false:=by rw [Mh];intro k a;have:=h k a;simp;omega
 have d:(x.ks.map λk=>(ss++t).getD k.toNat 0)=x.ks.map λk=>ss.getD k.toNat 0:=by apply Mx;intro k a;have:=h k a;rw [Lw,Lw,LL (by omega)]
 unfold cF;rw [b,c,d]
theorem Aj{x:Nd}{i:Int}{ss da:List Int}{so s:Int}(h:cF x i ss da so= (s,0)):∀k∈x.ks,0<=k/\k < i:=by
 unfold cF at h;split at h
 .simp at h
 .rename_i e;rw [N5] at e;intro k a;have:=Mh.1 e k a;simp at this;omega
theorem wC{D:List Dc}{x:Nd}{i:Int}{ss:List Int}{s:Int}(h:bM D x i ss= (s,0)):∀k∈x.ks,0<=k/\k < i:=by
 unfold bM at h;split at h
 .simp at h
 split at h
 .split at h
  .simp at h
  .split at h
   .simp at h
   .exact Aj h
 .split at h
  .simp at h
  .exact Aj h
theorem ID{D:List Dc}{x:Nd}{ss:List Int}{s:Int}(t:List Int)(h:bM D x (ss.length:Int) ss= (s,0)):bM D x ((ss++t).length:Int) (ss++t)= (s,0):=by have a:=wC h;rw [<-h];unfold bM;rw [Ai a,Ai a]
theorem IC{D:List Dc}{x y:Nd}{i:Int}{ss:List Int}(a:x.op=y.op)(b:x.ks=y.ks)(c:x.n=y.n)(e:x.d=y.d)(f:x.nm=y.nm):bM D x i ss=bM D y i ss:=by unfold bM cF eL dT;rw [a,b,c,e,f]
structure Good (D:List Dc) (σ:List Int) (x:Nd) (s:Int):Prop where
 ch:bM D x (σ.length:Int) σ = (s,0)
 so:aH s=false
 op:x.op < 15\/23 < x.op
 nm:iN x.nm
theorem Good.mono{D:List Dc}{σ:List Int}{x:Nd}{s:Int}(h:Good D σ x s)(t:List Int):Good D (σ ++t) x s:=⟨ID t h.ch,h.so,h.op,h.nm⟩
structure Ty (D:List Dc) (M:Mk) (σ:List Int):Prop where
 len:σ.length=M.N.length
 nd:∀(i:Nat) (x:Nd) (s:Int),M.N[i]? =some x->σ[i]? =some s->Good D (σ.take i) x s
 ky:∀p∈M.K,∃(i:Nat) (x:Nd),p.2= (i:Int)/\M.N[i]? =some x/\p.1=jZ x.op x.nm x.n x.d x.ks
def cX(D:List Dc)(σ:List Int)(p:Int×Mk)(s:Int):Prop:= ∃a,Ty D p.2 a/\σ <+:a/\bf a p.1 s
def dm(D:List Dc)(σ:List Int)(p:List Int×Mk):Prop:= ∃b,Ty D p.2 b/\σ <+:b/\∀a∈p.1,bf b a 1
theorem fp{σ b:List Int}{l:List Int}(p:σ <+:b)(h:∀a∈l,bf σ a 1):∀a∈l,bf b a 1:=λa c=>(h a c).mono p
theorem cX.same{D:List Dc}{M:Mk}{σ:List Int}{a s:Int}(t:Ty D M σ)(h:bf σ a s):cX D σ (a,M) s:=⟨σ,t,M7 _,h⟩
theorem Bo{s:ByteArray}:∀{K:List (ByteArray×Int)} {v:Int},lk s K=some v->(s,v)∈K
 | (k,u)::r,v,h=>by
  rw [lk] at h;split at h
  .rename_i e;simp only [Lo] at h;subst e h;exact Lq
  .exact Lr _ (Bo h)
theorem mh{D:List Dc}{M:Mk}{σ:List Int}(ty:Ty D M σ){op:Int}{nm:ByteArray}{n d:Int}{ks:List Int}{s:Int}(g:Good D σ ⟨op,ks.isEmpty,ks,n,d,nm⟩ s):cX D σ (cR M op nm n d ks) s:=by
 unfold cR;cases u:lk (jZ op nm n d ks) M.K with
 | some v=>
  obtain⟨i,x,c,e,h⟩:=ty.ky _ (Bo u);have a:i < σ.length:=by rw [ty.len];exact(Ls.1 e).1
  have k:=ty.nd i x σ[i] e (Ly a);obtain⟨m,o,q,r,t⟩:=Ha (show iN nm from g.nm) k.nm h;have j:=(k.mono (σ.drop i)).ch;rw [List.take_append_drop] at j;have:bM D ⟨op,ks.isEmpty,ks,n,d,nm⟩ (σ.length:Int) σ =bM D x (σ.length:Int) σ:=IC m t q r o;rw [g.ch,j] at this;simp only [Ma,and_true] at this;replace c:v= (i:Int):=c;subst c;exact cX.same ty ⟨by omega,by rw [Mb,this];exact Ly a⟩
 | none=>
  refine⟨σ ++ [s],⟨by simp [ty.len],λi x s' f hs=> ?_,λp b=> ?_⟩,⟨_,rfl⟩,by simp, ?_⟩
  .rcases Oe i σ.length with a | a
   .rw [LL (by rw [<-ty.len];exact a)] at f;rw [LL a] at hs;rw [Nf (by omega)];exact ty.nd i x s' f hs
   .have l:=(Ls.1 hs).1;rw [Mw,LG] at l;obtain rfl:i=σ.length:=by omega
    rw [L7 (by rw [ty.len];exact LM _),ty.len,MY] at f;rw [L7 (LM _),MY] at hs;simp only [Ms,Lo] at f hs;subst f hs;rw [Nf (LM _),N7];exact g
  .rcases LI.1 b with b | b
   .obtain⟨i,x,c,e,h⟩:=ty.ky p b;exact⟨i,x,c,by rw [LL (Ls.1 e).1];exact e,h⟩
   .simp only [Lz] at b;subst b;exact⟨M.N.length,⟨op,ks.isEmpty,ks,n,d,nm⟩,rfl,by simp,rfl⟩
  .show(σ ++ [s])[((M.N.length:Nat):Int).toNat]? =some s;rw [Mb,<-ty.len];simp
theorem nz:iN s0:=by intro h;cases h
theorem nA{D:List Dc}{x:Nd}{i:Int}{ss:List Int}(b: 1<=x.op/\x.op<=25)(a:x.op≠9)(d:(x.ks.length:Int)=dx x.op\/dx x.op < 0)(c:x.ks.length<=8):bM D x i ss=cF x i ss [] 0:=by unfold bM;rw [if_neg (by omega),if_neg a,if_neg (by omega)]
theorem lT{x:Nd}{σ:List Int}{da:List Int}{so:Int}{l:List Int}{s:Int}(a:x.ks.map (λk=>σ.getD k.toNat 0)=l)(b:∀k∈x.ks,0<=k/\k < (σ.length:Int))(e:eL x=true)(f:dT x=true)(hs:aW x.op x.d l da so=s)(h0:s≠0):cF x (σ.length:Int) σ da so= (s,0):=by
 have c:(x.ks.any λk=>decide (k < 0) || decide (k>=(σ.length:Int)))=false:=by rw [Mh];intro k a;have:=b k a;simp;omega
 unfold cF;rw [c,e,f,a,hs,if_neg (by decide),if_neg (by decide),if_neg (by decide),if_neg h0]
theorem GX(D:List Dc)(σ:List Int)(b:Bool):Good D σ ⟨if b then 1 else 2,([]:List Int).isEmpty,[],0,0,s0⟩ 1:=by
 refine⟨?_,by decide,by cases b <;> decide,nz⟩;cases b
 .rw [nA (by decide) (by decide) (by decide) (by decide)];exact lT (l:= []) rfl (λk a=>by cases a) (by decide) (by decide) (by decide) (by decide)
 .rw [nA (by decide) (by decide) (by decide) (by decide)];exact lT (l:= []) rfl (λk a=>by cases a) (by decide) (by decide) (by decide) (by decide)
theorem GU{D:List Dc}{σ:List Int}{a:Int}(h:bf σ a 1):Good D σ ⟨3,[a].isEmpty,[a],0,0,s0⟩ 1:=by refine⟨?_,by decide,by dsimp only;omega,nz⟩;rw [nA (by dsimp only;omega) (by dsimp only;omega) (.inl (by rfl)) (by simp)];exact lT (l:= [1]) (by simp only [L6,MD,h.getD]) (λk b=>by simp only [Lz] at b;subst b;exact⟨h.1,h.lt⟩) (by simp [eL]) (by simp [dT]) (by simp [aW,pB]) (by decide)
theorem vF{D:List Dc}{σ:List Int}{a b op:Int}(ho:op=4\/op=5\/op=6)(h:bf σ a 1)(d:bf σ b 1):Good D σ ⟨op,[a,b].isEmpty,[a,b],0,0,s0⟩ 1:=by
 have c:∀k∈[a,b],0<=k/\k < (σ.length:Int):=λk e=>by
  simp only [LC,MH,or_false] at e;rcases e with rfl | rfl
  .exact⟨h.1,h.lt⟩
  .exact⟨d.1,d.lt⟩
 have hm: [a,b].map (λk=>σ.getD k.toNat 0)= [1,1]:=by simp only [L6,MD,h.getD,d.getD]
 rcases ho with rfl | rfl | rfl
 .refine⟨?_,by decide,by dsimp only;omega,nz⟩;rw [nA (by dsimp only;omega) (by dsimp only;omega) (.inr (show dx 4 < 0 by decide)) (by simp)];exact lT hm c (by simp [eL]) (by simp [dT]) (by simp [aW,pB]) (by decide)
 .refine⟨?_,by decide,by dsimp only;omega,nz⟩;rw [nA (by dsimp only;omega) (by dsimp only;omega) (.inr (show dx 5 < 0 by decide)) (by simp)];exact lT hm c (by simp [eL]) (by simp [dT]) (by simp [aW,pB]) (by decide)
 .refine⟨?_,by decide,by dsimp only;omega,nz⟩;rw [nA (by dsimp only;omega) (by dsimp only;omega) (.inl (by rfl)) (by simp)];exact lT hm c (by simp [eL]) (by simp [dT]) (by simp [aW,pB]) (by decide)
theorem GV{D:List Dc}{σ:List Int}{c a b:Int}(e:bf σ c 1)(h:bf σ a 1)(d:bf σ b 1):Good D σ ⟨7,[c,a,b].isEmpty,[c,a,b],0,0,s0⟩ 1:=by
 refine⟨?_,by decide,by dsimp only;omega,nz⟩;rw [nA (by dsimp only;omega) (by dsimp only;omega) (.inl (by rfl)) (by simp)];refine lT (l:= [1,1,1]) (by simp only [L6,MD,h.getD,d.getD,e.getD]) (λk f=> ?_) (by simp [eL]) (by simp [dT]) (by simp [aW]) (by decide);simp only [LC,MH,or_false] at f;rcases f with rfl | rfl | rfl
 .exact⟨e.1,e.lt⟩
 .exact⟨h.1,h.lt⟩
 .exact⟨d.1,d.lt⟩
section
variable {D:List Dc} {M:Mk} {σ:List Int}
theorem lN(ty:Ty D M σ)(b:Bool):cX D σ (cE M b) 1:=mh ty (GX D σ b)
theorem D9{a o:Int}(ty:Ty D M σ)(h:bf σ a 1)(e:bV M a=o):∃x,M.N[a.toNat]? =some x/\x.op=o/\Good D (σ.take a.toNat) x 1:=by
 have hl:a.toNat < M.N.length:=by rw [<-ty.len];exact(Ls.1 h.2).1
 have b:M.N[a.toNat]? =some M.N[a.toNat]:=Ly hl;unfold bV at e;rw [b] at e;exact⟨_,b,e,ty.nd _ _ _ b h.2⟩
theorem KJ{d w:Int}(h:¬aW 3 d [w] [] 0=0):w=1:=by
 by_cases a:w=1
 .exact a
 .exact absurd (by simp [aW,pB,a]) h
theorem qC{a:Int}(ty:Ty D M σ)(h:bf σ a 1):cX D σ (fy M a) 1:=by
 unfold fy;split
 .exact lN ty _
 .split
  .exact lN ty _
  .split
   .rename_i e;obtain⟨x,n,ho,g⟩:=D9 ty h e;have b:=g.ch;have l:=wC b;unfold bM at b;rw [if_neg (by omega),if_neg (by omega)] at b;have m:dx x.op=1:=by rw [ho];decide
    split at b
    .simp at b
    .rename_i hl;rw [m] at hl;obtain⟨k,f⟩:∃k,x.ks= [k]:=by
      have:x.ks.length=1:=by omega
      exact Nn.1 this
     have d:=l k (by rw [f];exact Lq);have i:oR M a=k:=by unfold oR;rw [n];show x.ks.headD 0=k;rw [f];rfl
     rw [i];refine cX.same ty ⟨d.1, ?_⟩;unfold cF at b;rw [ho,f] at b;split at b
     .simp at b
     split at b
     .simp at b
     split at b
     .simp at b
     split at b
     .simp at b
     rename_i hs;have c:(σ.take a.toNat).getD k.toNat 0=1:=KJ hs;rw [Lw,Ny] at c;rw [Mp] at d;rw [if_pos (by have:=h.1;omega)] at c;cases j:σ[k.toNat]? with
     | none=>rw [j] at c;cases c
     | some v=>rw [j] at c;simp only [M6] at c;rw [c]
   .exact mh ty (GU h)
theorem mO{a b:Int}(ty:Ty D M σ)(h:bf σ a 1)(c:bf σ b 1):cX D σ (bW M a b) 1:=by
 unfold bW;split
 .exact cX.same ty h
 .split
  .exact cX.same ty c
  .exact mh ty (vF (.inl rfl) h c)
theorem wJ{a b:Int}(ty:Ty D M σ)(h:bf σ a 1)(c:bf σ b 1):cX D σ (dI M a b) 1:=by
 unfold dI;split
 .exact cX.same ty h
 .split
  .exact cX.same ty c
  .exact mh ty (vF (.inr (.inl rfl)) h c)
theorem vI{a b:Int}(ty:Ty D M σ)(h:bf σ a 1)(c:bf σ b 1):cX D σ (du M a b) 1:=by
 unfold du;split
 .exact lN ty _
 .split
  .exact cX.same ty c
  .split
   .exact cX.same ty h
   .split
    .exact qC ty c
    .split
     .exact qC ty h
     .exact mh ty (vF (.inr (.inr rfl)) h c)
theorem xG{a b:Int}(ty:Ty D M σ)(h:bf σ a 1)(d:bf σ b 1):cX D σ (bm M a b) 1:=by obtain⟨l,j,g,e⟩:=vI ty h d;obtain⟨c,k,i,f⟩:=qC j e;exact⟨c,k,g.trans i,f⟩
theorem IY{c a b:Int}(ty:Ty D M σ)(e:bf σ c 1)(h:bf σ a 1)(d:bf σ b 1):cX D σ (cG c M a b) 1:=by
 unfold cG;split
 .exact cX.same ty h
 .exact mh ty (GV e h d)
end
section
variable {D:List Dc}
theorem vh{f:Mk->Int->Int->Int×Mk}{P:List Int->Prop}(g:∀σ e,σ <+:e->P σ->P e)(k:∀M σ a b,Ty D M σ->P σ->bf σ a 1->bf σ b 1->cX D σ (f M a b) 1):∀{a b:List Int} {M:Mk} {σ:List Int},Ty D M σ->P σ->(∀x∈a,bf σ x 1)->(∀x∈b,bf σ x 1)->dm D σ (aP f M a b)
 | [],b,M,σ,ty,_,_,_=>by rw [show aP f M [] b= ([],M) by simp [aP]];exact⟨σ,ty,M7 _,λx h=>by cases h⟩
 | x::a,[],M,σ,ty,_,_,_=>by rw [show aP f M (x::a) []= ([],M) by simp [aP]];exact⟨σ,ty,M7 _,λx h=>by cases h⟩
 | x::a,y::b,M,σ,ty,l,i,j=>by
  obtain⟨s,q,d,o⟩:=k M σ x y ty l (i x Lq) (j y Lq);obtain⟨n,r,m,p⟩:=vh g k (a:=a) (b:=b) q (g _ _ d l) (λz c=>(i z (Lr _ c)).mono d) (λz c=>(j z (Lr _ c)).mono d);refine⟨n,r,d.trans m,λz c=> ?_⟩;rcases LC.1 c with rfl | c
  .exact o.mono m
  .exact p z c
theorem Dq:∀{a b:List Int} {M:Mk} {σ:List Int} {c:Int},Ty D M σ->bf σ c 1->(∀x∈a,bf σ x 1)->(∀x∈b,bf σ x 1)->dm D σ (eG M c a b)
 | [],b,M,σ,c,ty,_,_,_=>by rw [xw];exact⟨σ,ty,M7 _,λx h=>by cases h⟩
 | x::a,[],M,σ,c,ty,_,_,_=>by rw [show eG M c (x::a) []= ([],M) by simp [eG]];exact⟨σ,ty,M7 _,λx h=>by cases h⟩
 | x::a,y::b,M,σ,c,ty,n,l,m=>by
  have o:=l x Lq;have p:=m y Lq;obtain⟨N,H,q,j⟩:=xG ty o p;obtain⟨w,v,r,k⟩:=xG H j (n.mono q);have e:=q.trans r;rw [eG];dsimp only;split
  .refine⟨w,v,e,λz d=> ?_⟩;simp only [Lz] at d;subst d;exact k
  .obtain⟨O,I,i,B⟩:=mO v (o.mono e) (p.mono e);have s:=r.trans i;obtain⟨P,J,t,C⟩:=mO I (j.mono s) (n.mono (e.trans i));obtain⟨Q,K,G,E⟩:=wJ J (B.mono t) C;have g:=i.trans (t.trans G);have f:=e.trans g;obtain⟨A,L,u,F⟩:=Dq (a:=a) (b:=b) K E (λz d=>(l z (Lr _ d)).mono f) (λz d=>(m z (Lr _ d)).mono f);refine⟨A,L,f.trans u,λz d=> ?_⟩;rcases LC.1 d with rfl | d
   .exact k.mono (g.trans u)
   .exact F z d
theorem Ds{a b:List Int}{M:Mk}{σ:List Int}(ty:Ty D M σ)(g:∀x∈a,bf σ x 1)(h:∀x∈b,bf σ x 1):dm D σ (df M a b):=by obtain⟨l,j,c,e⟩:=lN ty false;obtain⟨d,k,i,f⟩:=Dq j e (fp c g) (fp c h);exact⟨d,k,c.trans i,f⟩
end
open Go Go.Aev
section
variable {D:List Dc}
theorem dm.none{M:Mk}{σ:List Int}(ty:Ty D M σ):dm D σ ([],M):=⟨σ,ty,M7 _,λx h=>by cases h⟩
theorem dm.cons{M c:Mk}{σ:List Int}{x:Int}{l:List Int}(h:cX D σ (x,M) 1)(i:∀a,Ty D M a->σ <+:a->dm D a (l,c)):dm D σ (x::l,c):=by
 obtain⟨f,m,d,j⟩:=h;obtain⟨g,n,e,k⟩:=i f m d;refine⟨g,n,d.trans e,λz b=> ?_⟩;rcases LC.1 b with rfl | b
 .exact j.mono e
 .exact k z b
theorem vW{n:Int}(h0: 0<=n){a:List Int}:∀(k i:Nat) {M:Mk} {σ:List Int},Ty D M σ->(∀x∈a,bf σ x 1)->i+k<=a.length->dm D σ (dV M a n i k)
 | 0,i,M,σ,ty,_,_=>dm.none ty
 | k+1,i,M,σ,ty,b,e=>by
  rw [dV];split
  .exact dm.cons (lN ty false) λd t p=>vW h0 k (i+1) t (fp p b) (by omega)
  .refine dm.cons (cX.same ty ?_) λd t p=>vW h0 k (i+1) t (fp p b) (by omega);have c:((i:Int) - n).toNat < a.length:=by omega
   rw [Lw,Ly c];exact b _ (NP c)
theorem vY{n:Int}(h0: 0<=n){a:List Int}{M:Mk}{σ:List Int}(ty:Ty D M σ)(b:∀x∈a,bf σ x 1):dm D σ (bg M a n):=vW h0 _ _ ty b (by omega)
theorem B4:∀{l:List Int} {M:Mk} {σ:List Int} {x:Int},Ty D M σ->bf σ x 1->(∀y∈l,bf σ y 1)->dm D σ (cr M x l)
 | [],M,σ,x,ty,_,_=>dm.none ty
 | y::l,M,σ,x,ty,a,hl=>by rw [cr];exact dm.cons (mO ty a (hl y Lq)) λc t p=>B4 t (a.mono p) (fp p λz b=>hl z (Lr _ b))
theorem Dv{a:List Int}:∀{b:List Int} {i:Nat} {M:Mk} {σ:List Int} {out:List Int},Ty D M σ->(∀x∈a,bf σ x 1)->(∀x∈out,bf σ x 1)->(∀x∈b,bf σ x 1)->dm D σ (fI M a out i b)
 | [],i,M,σ,out,ty,_,ho,_=>by rw [fI];exact⟨σ,ty,M7 _,ho⟩
 | x::b,i,M,σ,out,ty,e,ho,f=>by obtain⟨w,s,g,j⟩:=vY (n:=(i:Int)) (by omega) ty e;obtain⟨y,t,p,k⟩:=B4 s ((f x Lq).mono g) j;have d:=g.trans p;obtain⟨A,u,q,l⟩:=Ds t (fp d ho) k;have c:=d.trans q;obtain⟨h,v,r,m⟩:=Dv (b:=b) (i:=i+1) u (fp c e) l (fp c λz o=>f z (Lr _ o));rw [fI];exact⟨h,v,c.trans r,m⟩
theorem KY{a b:List Int}{M:Mk}{σ:List Int}(ty:Ty D M σ)(d:∀x∈a,bf σ x 1)(h:∀x∈b,bf σ x 1):dm D σ (ik M a b):=by obtain⟨m,k,c,f⟩:=vY (n:=(a.length:Int)) (by omega) ty d;obtain⟨e,l,j,g⟩:=Dv (i:=0) k (fp c d) f (fp c h);exact⟨e,l,c.trans j,g⟩
theorem Bl:∀{a b:List Int} {M:Mk} {σ:List Int} {c:Int},Ty D M σ->bf σ c 1->(∀x∈a,bf σ x 1)->(∀x∈b,bf σ x 1)->cX D σ (fS M c a b) 1
 | [],b,M,σ,c,ty,d,_,_=>by rw [show fS M c [] b= (c,M) by simp [fS]];exact cX.same ty d
 | x::a,[],M,σ,c,ty,d,_,_=>by rw [show fS M c (x::a) []= (c,M) by simp [fS]];exact cX.same ty d
 | x::a,y::b,M,σ,c,ty,d,i,j=>by have k:=i x Lq;have l:=j y Lq;obtain⟨J,C,m,q⟩:=qC ty k;obtain⟨K,E,w,r⟩:=mO C q (l.mono m);have e:=m.trans w;obtain⟨L,F,n,s⟩:=vI E (k.mono e) (l.mono e);have g:=e.trans n;obtain⟨N,G,o,t⟩:=mO F s (d.mono g);obtain⟨O,H,A,u⟩:=wJ G (r.mono (n.trans o)) t;have f:=g.trans (o.trans A);obtain⟨p,I,B,v⟩:=Bl (a:=a) (b:=b) H u (fp f λz h=>i z (Lr _ h)) (fp f λz h=>j z (Lr _ h));rw [fS];exact⟨p,I,f.trans B,v⟩
theorem Hg{a b:List Int}{M:Mk}{σ:List Int}(ty:Ty D M σ)(g:∀x∈a,bf σ x 1)(h:∀x∈b,bf σ x 1):cX D σ (jx M a b) 1:=by obtain⟨l,j,c,e⟩:=lN ty false;obtain⟨d,k,i,f⟩:=Bl j e (fp c g) (fp c h);exact⟨d,k,c.trans i,f⟩
theorem BO:∀{l:List Int} {M:Mk} {σ:List Int},Ty D M σ->(∀y∈l,bf σ y 1)->dm D σ (eF M l)
 | [],M,σ,ty,_=>dm.none ty
 | y::l,M,σ,ty,hl=>by rw [eF];exact dm.cons (qC ty (hl y Lq)) λb t p=>BO t (fp p λz a=>hl z (Lr _ a))
theorem yv{n:Int}:∀(k b:Nat) {M:Mk} {σ:List Int},Ty D M σ->dm D σ (eB M n b k)
 | 0,b,M,σ,ty=>dm.none ty
 | k+1,b,M,σ,ty=>by rw [eB];exact dm.cons (lN ty _) λa t _=>yv k (b+1) t
theorem xN:∀{l:List Int} {M:Mk} {σ:List Int} {a:Int},Ty D M σ->bf σ a 1->(∀y∈l,bf σ y 1)->cX D σ (iP M a l) 1
 | [],M,σ,a,ty,h,_=>cX.same ty h
 | y::l,M,σ,a,ty,h,hl=>by obtain⟨k,i,b,d⟩:=mO ty h (hl y Lq);obtain⟨c,j,g,e⟩:=xN (l:=l) i d (fp b λz f=>hl z (Lr _ f));rw [iP];exact⟨c,j,b.trans g,e⟩
theorem sf{f:Mk->Int->Int->Int×Mk}(g:∀M σ a b,Ty D M σ->bf σ a 1->bf σ b 1->cX D σ (f M a b) 1){a b:List Int}{M:Mk}{σ:List Int}(ty:Ty D M σ)(d:∀x∈a,bf σ x 1)(e:∀x∈b,bf σ x 1):dm D σ (aP f M a b):=
 vh (P:=λ_=>True) (λ_ _ _ _=>trivial) (λM σ a b t _ h c=>g M σ a b t h c) ty trivial d e
theorem Kx{a b:List Int}{M:Mk}{σ:List Int}(ty:Ty D M σ)(k:∀x∈a,bf σ x 1)(l:∀x∈b,bf σ x 1):cX D σ (mr M a b) 1:=by obtain⟨q,n,c,g⟩:=lN ty true;obtain⟨r,o,d,i⟩:=sf (λM σ a b t h f=>vI t h f) n (fp c k) (fp c l);obtain⟨e,p,m,j⟩:=xN o (g.mono d) i;exact⟨e,p,(c.trans d).trans m,j⟩
abbrev kS:Dc:=⟨s0,true,[],0⟩
structure Fn (D:List Dc) (nm:ByteArray) (ar:List Int) (so:Int):Prop where
 h0: 0<=bc D nm
 ar:(D.getD (bc D nm).toNat kS).ar=ar
 so:(D.getD (bc D nm).toNat kS).so=so
theorem GW{σ:List Int}{nm:ByteArray}{ks ar:List Int}(f:Fn D nm ar 1)(b:ks.map (λk=>σ.getD k.toNat 0)=ar)(a:∀k∈ks,0<=k/\k < (σ.length:Int))(c:ks.length<=8)(hs:iN nm):Good D σ ⟨9,ks.isEmpty,ks,0,0,nm⟩ 1:=by
 refine⟨?_,by decide,by dsimp only;omega,hs⟩;unfold bM;dsimp only;have hl:ks.length=ar.length:=by rw [<-b,Mq]
 rw [if_neg (by omega),if_pos rfl,if_neg (by have:=f.h0;omega),f.ar,f.so,if_neg (by omega)];refine lT b a ?_ ?_ ?_ (by decide)
 .simp [eL]
 .simp [dT]
 .show aW 9 0 ar ar 1=1;simp [aW]
theorem BF{pre:ByteArray}{kids ar:List Int}(e:kids.length<=8):∀(k b:Nat) {M:Mk} {σ:List Int},Ty D M σ->(∀c,b<=c->c < b+k->Fn D (pre++it (c:Int)) ar 1/\iN (pre++it (c:Int)))->(kids.map (λk=>σ.getD k.toNat 0)=ar)->(∀x∈kids,0<=x/\x < (σ.length:Int))->dm D σ (cM M pre kids b k)
 | 0,b,M,σ,ty,_,_,_=>dm.none ty
 | k+1,b,M,σ,ty,f,g,a=>by
  rw [cM];obtain⟨h,i⟩:=f b (by omega) (by omega);refine dm.cons (mh ty (GW h g a e i)) λj t p=>BF e k (b+1) t (λc l m=>f c (by omega) (by omega)) ?_ ?_
  .rw [<-g];obtain⟨q,rfl⟩:=p;apply Mx;intro x d;have:=a x d;rw [Lw,Lw,LL (by omega)]
  .intro x d;have:=a x d;obtain⟨q,rfl⟩:=p;rw [Mw];omega
end
theorem BL{D p:List Dc}{x y:Nd}{i i':Int}{ss g:List Int}{s:Int}(h:bM D x i ss= (s,0))(l:s≠0)(m:y.op=x.op)(q:y.ks.map (λk=>g.getD k.toNat 0)=x.ks.map (λk=>ss.getD k.toNat 0))(r:y.n=x.n)(o:y.d=x.d)(t:y.nm=x.nm)(w:∀k∈y.ks,0<=k/\k < i')(J:x.op=9->0<=bc D x.nm->(D.getD (bc D x.nm).toNat kS).so=s->Fn p x.nm (D.getD (bc D x.nm).toNat kS).ar s):bM p y i' g= (s,0):=by
 have hl:y.ks.length=x.ks.length:=by simpa using congrArg List.length q
 have E:(y.ks.any λk=>decide (k < 0) || decide (k>=i'))=false:=by rw [Mh];intro k K;have:=w k K;simp;omega
 have v:∀{da:List Int} {so:Int} {c:Int},cF x i ss da so= (s,0)->(x.op≠9->c=so)->(x.op=9->c=s)->cF y i' g da c= (s,0):=by
  intro da so c A u I;have j:=nb (x:=x) (i:=i) (ss:=ss) (da:=da) (so:=so) (by rw [A]);obtain⟨_,L,N,a,B⟩:=j;rw [A] at a;have F:eL y=true:=by rw [<-L];unfold eL;rw [m,r,o,t]
  have G:dT y=true:=by rw [<-N];unfold dT;rw [m,r,o]
  have H:aW y.op y.d (y.ks.map λk=>g.getD k.toNat 0) da c=s:=by
   rw [q,m,o];by_cases b:x.op=9
   .rw [I b];rw [b] at a B⊢;replace a:s=if(x.ks.map λk=>ss.getD k.toNat 0)=da then so else 0:=a;show(if(x.ks.map λk=>ss.getD k.toNat 0)=da then s else 0)=s;split at a
    .rename_i e;rw [if_pos e]
    .exact absurd a l
   .rw [u b];exact a.symm
  unfold cF;rw [E,F,G,H,if_neg (by decide),if_neg (by decide),if_neg (by decide),if_neg l]
 unfold bM at h⊢;rw [m,t,hl];split at h
 .simp at h
 rename_i C;rw [if_neg C];split at h
 .rename_i b;rw [if_pos b];split at h
  .simp at h
  rename_i O;split at h
  .simp at h
  rename_i c3;have z:(D.getD (bc D x.nm).toNat kS).so=s:=by
   have j:=nb (by rw [h]);obtain⟨_,_,_,a,B⟩:=j;rw [h,b] at a;replace a:s=if(x.ks.map λk=>ss.getD k.toNat 0)= (D.getD (bc D x.nm).toNat kS).ar then(D.getD (bc D x.nm).toNat kS).so else 0:=a;split at a
   .exact a.symm
   .exact absurd a l
  have f:=J b (by omega) z;rw [if_neg (by have:=f.h0;omega),f.ar,f.so,if_neg c3];exact v h (λe=>absurd b e) (λ_=>rfl)
 .rename_i b;rw [if_neg b];split at h
  .simp at h
  rename_i c3;rw [if_neg c3];exact v h (λ_=>rfl) (λe=>absurd e b)
open Go Go.Aev
structure ry (ds D:List Dc) (p:ByteArray):Prop where
 pl:∀d∈ds,aH d.so=false->Fn D d.nm d.ar d.so
 wd:∀(k:Nat) (d:Dc),ds[k]? =some d->aH d.so=true->∀b:Nat,b < (d.so - 10).toNat->Fn D (p++it (k:Int)++us++it (b:Int)) d.ar 1
 sp:∀d∈ds,iN d.nm
 sw:∀k b:Nat,iN (p++it (k:Int)++us++it (b:Int))
 a4:∀d∈ds,d.ar.length<=8/\∀s∈d.ar,s=4
structure iu (c:Cx) (t:Tr) (σ:List Int) (i:Nat):Prop where
 w:∀(k:Nat) (s:Int),k < i->c.ss[k]? =some s->aH s=true->∀b,t.bits[k]? =some b->∀x∈b,bf σ x 1
 p:∀(k:Nat) (s:Int),k < i->c.ss[k]? =some s->aH s=false->∀v,t.to[k]? =some v->bf σ v s
theorem iu.mono{c:Cx}{t:Tr}{σ a:List Int}{i:Nat}(h:iu c t σ i)(p:σ <+:a):iu c t a i:=
 ⟨λk s d e f b g x j=>(h.w k s d e f b g x j).mono p,λk s d e f v g=>(h.p k s d e f v g).mono p⟩
theorem KW.ji{c:Cx}{t:Tr}{M:Mk}{σ:List Int}{i:Nat}{k s:Int}(h:KW c i k s)(b:cy c t M i)(ty:iu c t σ i)(a:aH s=true):∀x∈aE t k,bf σ x 1:=
 ty.w k.toNat s (by have:=h.h0;have:=h.lt;omega) h.so a _ (h.word b a).1
theorem KW.nF{c:Cx}{t:Tr}{M:Mk}{σ:List Int}{i:Nat}{k s:Int}(h:KW c i k s)(b:cy c t M i)(ty:iu c t σ i)(a:aH s=false):bf σ (bh t k) s:=
 ty.p k.toNat s (by have:=h.h0;have:=h.lt;omega) h.so a _ (h.plain b a).2.1
def rL(c:Cx)(i:Nat)(x:Nd)(s:Int):Prop:=bM c.ds x (i:Int) (c.ss.take i)= (s,0)
theorem mQ{c:Cx}{i:Nat}{k s:Int}(h:KW c i k s):(c.ss.take i).getD k.toNat 0=s:=by have:=h.h0;have:=h.lt;rw [Lw,NZ (by omega),h.so];rfl
theorem At{ds:List Dc}{nm:ByteArray}(h: 0<=bc ds nm):∃(k:Nat) (d:Dc),bc ds nm= (k:Int)/\ds[k]? =some d/\d.nm=nm/\ds.getD (bc ds nm).toNat kS=d:=by
 obtain⟨j,d,c,a,e⟩:=sE (i:=0) h;have b:bc ds nm= (j:Int):=by unfold bc;rw [c,L5]
 exact⟨j,d,b,a,e,by rw [b,Mb,Lw,a];rfl⟩
theorem wv{ds:List Dc}{x:Nd}{i:Int}{ss:List Int}{s:Int}(h:bM ds x i ss= (s,0))(f:x.op=9)(b:s≠0):∃(k:Nat) (d:Dc),bc ds x.nm= (k:Int)/\ds[k]? =some d/\d.nm=x.nm/\d.so=s/\(x.ks.map λk=>ss.getD k.toNat 0)=d.ar/\ds.getD (bc ds x.nm).toNat kS=d:=by
 unfold bM at h;split at h
 .simp at h
 split at h
 .simp at h
 rename_i m;split at h
 .simp at h
 obtain⟨k,d,g,j,l,c⟩:=At (ds:=ds) (nm:=x.nm) (by omega);obtain⟨_,_,_,a,n⟩:=nb (by rw [h]);rw [h,f] at a;rw [show ds.getD (bc ds x.nm).toNat ⟨s0,true,[],0⟩=d from c] at a;replace a:s=if(x.ks.map λk=>ss.getD k.toNat 0)=d.ar then d.so else 0:=a;split at a
 .rename_i e;exact⟨k,d,g,j,l,a.symm,e,c⟩
 .exact absurd a b
theorem wB{ds:List Dc}{x:Nd}{i:Int}{ss:List Int}{s:Int}(h:bM ds x i ss= (s,0)):s≠0/\eL x=true/\dT x=true:=by
 have key:∀{da:List Int} {so:Int},cF x i ss da so= (s,0)->s≠0/\eL x=true/\dT x=true:=by intro da so h;obtain⟨_,b,c,a,d⟩:=nb (by rw [h]);rw [h] at a;exact⟨by rw [show s=_ from a];exact d,b,c⟩
 unfold bM at h;split at h
 .simp at h
 split at h
 .split at h
  .simp at h
  split at h
  .simp at h
  exact key h
 .split at h
  .simp at h
  exact key h
theorem ji{c:Cx}{D:List Dc}(F:ry c.ds D c.p){t:Tr}{M:Mk}{σ:List Int}{i:Nat}{x:Nd}{s:Int}(ok:nZ c i x s)(E:rL c i x s)(f:aH s=true)(g:cy c t M i)(j:iu c t σ i)(ty:Ty D M σ):dm D σ (eO c t M x s):=by
 have R:=(wB E).1;have one:∀{a:Int},x.ks= [a]->x.ks.getD 0 0=a:=λh=>by rw [h];rfl
 have J:∀{a b:Int},x.ks= [a,b]->x.ks.getD 0 0=a:=λh=>by rw [h];rfl
 have K:∀{a b:Int},x.ks= [a,b]->x.ks.getD 1 0=b:=λh=>by rw [h];rfl
 unfold eO;by_cases u:x.op=9
 .rw [if_pos u];obtain⟨k,d,S,L,Z,N,O,f6⟩:=wv E u R;have U:d∈c.ds:=LB L;obtain⟨Y,a4⟩:=F.a4 d U;have C:∀y∈x.ks,KW c i y 4/\bf σ (bh t y) 4:=λy q=>by
   obtain⟨s',H⟩:=ok.k y q;have G:=mQ H;have:s'=4:=a4 _ (by rw [<-O];exact L4.2 ⟨y,q,G⟩);subst this;exact⟨H,H.nF g j rfl⟩
  rw [S];refine BF (ar:=d.ar) (by rw [Mq];exact ok.kl) _ 0 ty (λb _ o=>⟨F.wd k d L (by rw [N];exact f) b (by rw [N];omega),F.sw k b⟩) ?_ ?_
  .rw [<-O,Od];apply Mx;intro y q;obtain⟨G,v⟩:=C y q;show σ.getD (bh t y).toNat 0=_;rw [v.getD,mQ G]
  .intro y q;obtain⟨z,W,rfl⟩:=L4.1 q;have v:=(C z W).2;exact⟨v.1,v.lt⟩
 rw [if_neg u];by_cases c7:x.op=7
 .rw [if_pos c7];obtain⟨a,b,d,e,m,I,X⟩:=ok.c7 c7;rw [e];show dm D σ (aP (cG (bh t a)) M (aE t b) (aE t d));have T:=m.nF g j rfl;exact vh (P:=λσ =>bf σ (bh t a) 1) (λ_ _ p h=>h.mono p) (λM σ y z n V h l=>IY n V h l) ty T (I.ji g j f) (X.ji g j f)
 rw [if_neg c7];by_cases fq:x.op=15
 .rw [if_pos fq];exact yv _ _ ty
 rw [if_neg fq];by_cases eA:x.op=16
 .rw [if_pos eA];obtain⟨_,a,e,m⟩:=ok.eA (.inl eA);rw [one e];exact BO ty (m.ji g j f)
 rw [if_neg eA];by_cases bn:x.op=23
 .rw [if_neg (by omega),if_neg (by omega),if_neg (by omega),if_neg (by omega),if_neg (by omega)];obtain⟨_,a,e,m⟩:=ok.eA (.inr bn);rw [one e];exact vY (ok.bn bn).1 ty (m.ji g j f)
 have Q: 17<=x.op/\x.op<=21:=by
  rcases Oh (17<=x.op/\x.op<=21) with h | h
  .exact h
  exfalso;have:=ok.op;by_cases c8:x.op=8
  .rw [(ok.c8 c8).1] at f;cases f
  by_cases dZ:x.op=22
  .rw [(ok.dZ dZ).1] at f;cases f
  have:=(ok.pl c7 c8 (by omega)).1 u;rw [this] at f;cases f
 obtain⟨_,a,b,e,m,I⟩:=ok.fO Q.1 Q.2;rw [J e,K e];have r:=m.ji g j f;have o:=I.ji g j f;by_cases fO:x.op=17
 .rw [if_pos fO];exact sf (λM σ y z n h l=>mO n h l) ty r o
 rw [if_neg fO];by_cases w:x.op=18
 .rw [if_pos w];exact sf (λM σ y z n h l=>wJ n h l) ty r o
 rw [if_neg w];by_cases A:x.op=19
 .rw [if_pos A];exact sf (λM σ y z n h l=>xG n h l) ty r o
 rw [if_neg A];by_cases B:x.op=20
 .rw [if_pos B];exact Ds ty r o
 rw [if_neg B,if_pos (by omega)];exact KY ty r o
theorem nF{c:Cx}{D:List Dc}(L:ry c.ds D c.p){t:Tr}{M:Mk}{σ:List Int}{i:Nat}{x:Nd}{s:Int}(ok:nZ c i x s)(l:rL c i x s)(g:aH s=false)(m:cy c t M i)(u:iu c t σ i)(ty:Ty D M σ):cX D σ (fB t M x) s:=by
 obtain⟨w,E,J⟩:=wB l;have z:∀{a b:Int},x.ks= [a,b]->x.ks.getD 0 0=a:=λh=>by rw [h];rfl
 have A:∀{a b:Int},x.ks= [a,b]->x.ks.getD 1 0=b:=λh=>by rw [h];rfl
 have F:∀{da:List Int} {so:Int},x.op≠9->bM c.ds x (i:Int) (c.ss.take i)= (s,0)->s=aW x.op x.d (x.ks.map λk=>(c.ss.take i).getD k.toNat 0) [] 0:=λX h=>by
  unfold bM at h;split at h
  .simp at h
  split at h
  .simp at h
  obtain⟨_,_,_,Q,_⟩:=nb (by rw [h]);rw [h] at Q;exact Q
 have q:(∀k∈x.ks,∃s',KW c i k s'/\aH s'=false)->(x.op < 15\/23 < x.op)->cX D σ (cR M x.op x.nm x.n x.d (x.ks.map (bh t))) s:=λv ho=>by
  refine mh ty ⟨?_,g,ho, ?_⟩
  .refine BL l w rfl ?_ rfl rfl rfl ?_ ?_
   .show(x.ks.map (bh t)).map _=_;rw [Od];apply Mx;intro y K;obtain⟨s',o,C⟩:=v y K;show σ.getD (bh t y).toNat 0=_;rw [(o.nF m u C).getD,mQ o]
   .intro k O;obtain⟨y,K,rfl⟩:=L4.1 (show k∈x.ks.map (bh t) from O);obtain⟨s',o,C⟩:=v y K;exact⟨(o.nF m u C).1,(o.nF m u C).lt⟩
   .intro B _ W;obtain⟨k,d,R,G,H,I,S,N⟩:=wv l B w;have:=L.pl d (LB G) (by rw [I];exact g);rw [H,I] at this;rw [N];exact this
  .by_cases B:x.op=9
   .obtain⟨k,d,R,G,H,I,S,N⟩:=wv l B w;have:=L.sp d (LB G);rw [H] at this;exact this
   .rcases(vt E J).2.2 with e | e
    .show iN x.nm;rw [e];exact nz
    .exact absurd e B
 unfold fB;by_cases dZ:x.op=22
 .rw [if_pos dZ];obtain⟨_,a,b,s',f,e,j,r⟩:=ok.dZ dZ;have hs:s=1:=by
   have:=F (da:= []) (so:=0) (by omega) l;rw [dZ,e] at this;simp only [L6,MD,mQ j,mQ r] at this;rw [this];simp [aW,f]
  subst hs;rw [z e,A e];exact Hg ty (j.ji m u f) (r.ji m u f)
 rw [if_neg dZ];by_cases c8:x.op=8
 .obtain⟨_,a,b,s',e,h⟩:=ok.c8 c8;rw [z e,A e];rcases h with⟨f,j,r⟩ | h
  .have hl:=(j.word m f).2.1;have o:=fv f;rw [if_pos ⟨c8,wz (by omega)⟩];have hs:s=1:=by
    have:=F (da:= []) (so:=0) (by omega) l;rw [c8,e] at this;simp only [L6,MD,mQ j,mQ r] at this;rw [this];simp [aW,f]
   subst hs;exact Kx ty (j.ji m u f) (r.ji m u f)
  .obtain⟨Y,j,P⟩:=h a (by rw [e];exact Lq);have T:aE t a= []:=by
    have:=(j.plain m P).1;unfold aE;rw [Lw,this];rfl
   rw [if_neg (by rw [T];simp)];exact q h (by omega)
 rw [if_neg (by omega)];by_cases c7:x.op=7
 .obtain⟨a,b,d,e,j,r,V⟩:=ok.c7 c7;refine q (λk v=> ?_) (by omega);rw [e] at v;simp only [LC,MH,or_false] at v;rcases v with rfl | rfl | rfl
  .exact⟨1,j,rfl⟩
  .exact⟨s,r,g⟩
  .exact⟨s,V,g⟩
 have U:x.op < 15\/24<=x.op:=by
  rcases Oh (x.op < 15\/24<=x.op) with h | h
  .exact h
  exfalso;by_cases fq:x.op=15
  .have:=ok.fq fq;have o:aH s=true:=by unfold aH;simp;omega
   rw [o] at g;cases g
  by_cases eA:x.op=16\/x.op=23
  .rw [(ok.eA eA).1] at g;cases g
  rw [(ok.fO (by omega) (by omega)).1] at g;cases g
 exact q (ok.pl c7 c8 U).2 (by omega)
theorem iu.snoc{c:Cx}{t:Tr}{M:Mk}{σ:List Int}{i:Nat}{s:Int}{w:List Int}{v:Int}(h:iu c t σ i)(d:cy c t M i)(hs:c.ss[i]? =some s)(l:aH s=true->∀x∈w,bf σ x 1)(m:aH s=false->bf σ v s):iu c ⟨t.bits++ [w],t.to++ [v]⟩ σ (i+1):=by
 refine⟨λk s' n a j b f=> ?_,λk s' n a j u g=> ?_⟩
 .by_cases e:k=i
  .subst e;rw [hs] at a;simp only [Lo] at a;subst a;rw [L7 (by rw [d.bl];exact LM _),d.bl,MY] at f;simp only [Ms,Lo] at f;subst f;exact l j
  .rw [LL (by rw [d.bl];omega)] at f;exact h.w k s' (by omega) a j b f
 .by_cases e:k=i
  .subst e;rw [hs] at a;simp only [Lo] at a;subst a;rw [L7 (by rw [d.tl];exact LM _),d.tl,MY] at g;simp only [Ms,Lo] at g;subst g;exact m j
  .rw [LL (by rw [d.tl];omega)] at g;exact h.p k s' (by omega) a j u g
theorem Bt{c:Cx}(ok:nP c){D:List Dc}(n:ry c.ds D c.p)(w:c.p.size<=100)(hold:∀(i:Nat) (x:Nd) (s:Int),c.ns[i]? =some x->c.ss[i]? =some s->rL c i x s):
  ∀(rn:List Nd) (rs:List Int) (i:Nat) (t:Tr) (M:Mk) (σ:List Int),c.ns.drop i=rn->c.ss.drop i=rs->i<=c.ns.length->cy c t M i->M.N.length<=800->Ty D M σ->iu c t σ i->(fT c rn rs t M).2.N.length<=800->
   ∃a,Ty D (fT c rn rs t M).2 a/\iu c (fT c rn rs t M).1 a c.ns.length/\cy c (fT c rn rs t M).1 (fT c rn rs t M).2 c.ns.length
 | [],rs,i,t,M,σ,g,j,v,b,u,ty,d,_=>by
  have:i=c.ns.length:=by have:=br g;omega
  subst this;rw [show fT c [] rs t M= (t,M) by simp [fT]];exact⟨σ,ty,d,b⟩
 | x::rn,[],i,t,M,σ,g,j,v,b,u,ty,d,_=>by have k:=(bu g).2.1;have E:=br j;have:=ok.sl;omega
 | x::rn,s::rs,i,t,M,σ,g,j,v,b,u,ty,d,hl=>by
  obtain⟨o,C,A⟩:=bu g;obtain⟨f,_,r⟩:=bu j;obtain⟨st,up⟩:=Dm ok o f b w (by omega);have y:=ok.nd i x s o f;have m:=hold i x s o f;have key:∃a,Ty D (gP c t M x s).2 a/\iu c (gP c t M x s).1 a (i+1):=by
   unfold gP;cases l:aH s with
   | true=>obtain⟨a,h,q,k⟩:=ji n y m l b d ty;exact⟨a,h,(d.mono q).snoc b f (λ_=>k) (λe=>by rw [l] at e;cases e)⟩
   | false=>obtain⟨a,h,q,k⟩:=nF n y m l b d ty;exact⟨a,h,(d.mono q).snoc b f (λe=>by rw [l] at e;cases e) (λ_=>k)⟩
  rw [fT] at hl⊢;split at hl
  .omega
  rename_i B;rw [if_neg B];obtain⟨a,h,z⟩:=key;exact Bt ok n w hold rn rs (i+1) _ _ a A r (by omega) st (by omega) h z hl
open Go Go.Aev
abbrev ew(need:List Bool)(j:Nat):Bool:=need.getD j false
theorem Ky{need:List Bool}{k j:Nat}(h:ew need j=true):ew (need.set k true) j=true:=by
 unfold ew at h⊢;rw [Lw] at h⊢;rw [MJ];by_cases e:k=j
 .subst e;rw [if_pos rfl];by_cases hl:k < need.length
  .rw [if_pos hl];rfl
  .rw [MV (by omega)] at h;cases h
 .rw [if_neg e];exact h
theorem wk:∀(ks:List Int) (need:List Bool) {j:Nat},ew need j=true->ew (dE need ks) j=true
 | [],_,_,h=>h
 | _::r,_,_,h=>wk r _ (Ky h)
theorem wh:∀{ks:List Int} {need:List Bool} {k:Int},k∈ks->k.toNat < need.length->ew (dE need ks) k.toNat=true
 | [],_,_,h,_=>by cases h
 | a::r,need,k,h,hl=>by
  rw [dE];rcases LC.1 h with rfl | h
  .exact wk r _ (by unfold ew;rw [Lw,M4 hl];rfl)
  .exact wh h (by rw [Nr];exact hl)
theorem Bv:∀{ks:List Int} {need:List Bool} {j:Nat},(∀k∈ks,k.toNat≠j)->ew (dE need ks) j=ew need j
 | [],_,_,_=>rfl
 | k::r,need,j,h=>by rw [dE,Bv (ks:=r) λy a=>h y (Lr _ a)];unfold ew;rw [Lw,Lw,NQ (h k Lq)]
abbrev EL:Nd:=⟨0,true,[],0,0,s0⟩
theorem GP{N:List Nd}(b:∀(i:Nat) (x:Nd),N[i]? =some x->∀k∈x.ks,0<=k/\k < (i:Int))(i:Nat):∀k∈(N.getD i EL).ks,0<=k/\k < (i:Int):=by
 rw [Lw];cases h:N[i]? with
 | none=>intro k a;cases a
 | some x=>exact b i x h
theorem yd{N:List Nd}(a:∀(i:Nat) (x:Nd),N[i]? =some x->∀k∈x.ks,0<=k/\k < (i:Int)):∀(i:Nat) (need:List Bool) {j:Nat},i<=j->ew (back N need i) j=ew need j
 | 0,_,_,_=>rfl
 | i+1,need,j,h=>by
  rw [back,yd a i _ (by omega)];split
  .exact Bv λk b=>by have:=GP a i k b;omega
  .rfl
theorem um{N:List Nd}:∀(i:Nat) (need:List Bool) {j:Nat},ew need j=true->ew (back N need i) j=true
 | 0,_,_,h=>h
 | i+1,need,j,h=>by
  rw [back];apply um i;split
  .exact wk _ _ h
  .exact h
theorem x9{N:List Nd}(b:∀(i:Nat) (x:Nd),N[i]? =some x->∀k∈x.ks,0<=k/\k < (i:Int)):∀(i:Nat) (need:List Bool),i<=need.length->∀(j:Nat) (x:Nd),j < i->N[j]? =some x->ew (back N need i) j=true->∀k∈x.ks,ew (back N need i) k.toNat=true
 | 0,_,_,j,_,h,_,_=>by omega
 | i+1,need,hl,j,x,h,d,ho=>by
  intro k a;rw [back] at ho⊢;by_cases e:j=i
  .subst e;rw [yd b j _ (LM _)] at ho;have f:=b j x d k a;by_cases c:ew need j=true
   .rw [if_pos c] at ho⊢;apply um;refine wh ?_ (by omega);rw [Lw,d];exact a
   .rw [if_neg c] at ho;exact absurd ho c
  .refine x9 b i _ ?_ j x (by omega) d ho k a;split
   .rw [oW];omega
   .omega
structure Kp (D:List Dc) (σ:List Int) (need:List Bool) (n i:Nat) (to:List Int) (out:List Nd) (τ:List Int):Prop where
 tl:to.length=n
 to:∀j,j < i->ew need j=true->bf τ (to.getD j 0) (σ.getD j 0)
 len:τ.length=out.length
 nd:∀(m:Nat) (y:Nd) (s:Int),out[m]? =some y->τ[m]? =some s->bM D y (m:Int) (τ.take m)= (s,0)/\aH s=false/\(y.op < 15\/23 < y.op)/\(y.ek=true->y.ks= [])
theorem Ty.in{D:List Dc}{M:Mk}{σ:List Int}(ty:Ty D M σ):∀(i:Nat) (x:Nd),M.N[i]? =some x->∀k∈x.ks,0<=k/\k < (i:Int):=λi x a k c=>by
 have b:i < σ.length:=by rw [ty.len];exact(Ls.1 a).1
 have:=wC (ty.nd i x _ a (Ly b)).ch k c;rw [Mp] at this;omega
theorem vR{D:List Dc}{M:Mk}{σ:List Int}(ty:Ty D M σ)(o:∀x∈M.N,x.ek=true->x.ks= []){need:List Bool}(l:∀(j:Nat) (x:Nd),M.N[j]? =some x->ew need j=true->∀k∈x.ks,ew need k.toNat=true):
  ∀(r:List Nd) (i:Nat) (to:List Int) (out:List Nd) (b:List Int),M.N.drop i=r->i<=M.N.length->Kp D σ need M.N.length i to out b->∃h,Kp D σ need M.N.length M.N.length (dH need i r to out).1 (dH need i r to out).2 h/\(dH need i r to out).2.length<=out.length+r.length
 | [],i,to,out,b,g,I,a=>by
  have:i=M.N.length:=by have:=br g;omega
  subst this;exact⟨b,a,by simp [dH]⟩
 | x::r,i,to,out,b,g,I,a=>by
  obtain⟨t,C,E⟩:=bu g;have w:i < σ.length:=by rw [ty.len];exact C
  rw [dH];by_cases u:ew need i=true
  .rw [if_pos u];have gd:=ty.nd i x _ t (Ly w);have p:=ty.in i x t;have e:∀k∈x.ks,(to.set i (out.length:Int)).getD k.toNat 0=to.getD k.toNat 0:=λk c=>by
    have:=p k c;rw [Lw,Lw,NQ (by omega)]
   have c:∀k∈x.ks,bf b (to.getD k.toNat 0) (σ.getD k.toNat 0):=λk c=>a.to k.toNat (by have:=p k c;omega) (l i x t u k c);have q:bM D ⟨x.op,x.ek,x.ks.map λk=>(to.set i (out.length:Int)).getD k.toNat 0,x.n,x.d,x.nm⟩ (out.length:Int) b = (σ[i],0):=by
    refine BL gd.ch (wB gd.ch).1 rfl ?_ rfl rfl rfl ?_ ?_
    .show(x.ks.map _).map _=_;rw [Od];apply Mx;intro k f;have:=p k f;show b.getD ((to.set i (out.length:Int)).getD k.toNat 0).toNat 0=_;rw [e k f,(c k f).getD,Lw,Lw,NZ (by omega)]
    .intro k f;obtain⟨y,q,rfl⟩:=L4.1 (show k∈x.ks.map _ from f);rw [e y q];exact⟨(c y q).1,by rw [<-a.len];exact(c y q).lt⟩
    .intro _ h0 G;exact⟨h0,rfl,G⟩
   obtain⟨h,A,B⟩:=vR ty o l r (i+1) (to.set i (out.length:Int)) (out++ [⟨x.op,x.ek,x.ks.map λk=>(to.set i (out.length:Int)).getD k.toNat 0,x.n,x.d,x.nm⟩]) (b ++ [σ[i]]) E (by omega) (by
    refine⟨by rw [Nr];exact a.tl,λj J ho=> ?_,by simp [a.len],λm y s hm hs=> ?_⟩
    .by_cases z:j=i
     .subst z;rw [Lw,M4 (by rw [a.tl];exact C),Lw,Ly w];refine⟨Int.natCast_nonneg _, ?_⟩;show(b ++ [σ[j]])[((out.length:Nat):Int).toNat]? =some σ[j];rw [Mb,<-a.len];simp
     .have:=(a.to j (by omega) ho).mono (NX b [σ[i]]);rw [Lw,NQ (by omega),<-Lw];exact this
    .rcases Oe m out.length with v | K
     .rw [LL v] at hm;rw [LL (by rw [a.len];exact v)] at hs;rw [Nf (by rw [a.len];omega)];exact a.nd m y s hm hs
     .have F:=(Ls.1 hm).1;rw [Mw,LG] at F;obtain rfl:m=out.length:=by omega
      rw [L7 (LM _),MY] at hm;rw [<-a.len,L7 (LM _),MY] at hs;simp only [Ms,Lo] at hm hs;subst hm hs;rw [Nf (by rw [a.len];exact LM _),<-a.len,N7,a.len];exact⟨q,gd.so,gd.op,λH=>by
       have:=o x (LB t) H;show x.ks.map _= [];rw [this];rfl⟩)
   exact⟨h,A,by simp at B⊢;omega⟩
  .rw [if_neg u];obtain⟨h,A,B⟩:=vR ty o l r (i+1) to out b E (by omega) ⟨a.tl,λj J ho=>by
    by_cases z:j=i
    .subst z;exact absurd ho u
    .exact a.to j (by omega) ho,a.len,a.nd⟩
   exact⟨h,A,by simp at B⊢;omega⟩
theorem De{D:List Dc}{N:List Nd}{a:List Int}(hl:a.length=N.length)(b:∀(m:Nat) (y:Nd) (s:Int),N[m]? =some y->a[m]? =some s->bM D y (m:Int) (a.take m)= (s,0)):∀(r:List Nd) (i:Nat),N.drop i=r->i<=N.length->dy D r i (a.take i)= (a,0,0)
 | [],i,g,e=>by
  have:i=N.length:=by have:=br g;omega
  subst this;rw [dy,<-hl,N7]
 | x::r,i,g,e=>by
  obtain⟨d,f,c⟩:=bu g;have hs:i < a.length:=by omega
  have h:=b i x _ d (Ly hs);rw [dy,h,if_pos rfl];show dy D r (i+1) (a.take i++ [a[i]])=_;rw [List.take_append_getElem hs];exact De hl b r (i+1) c (by omega)
theorem Lc{D:List Dc}{M:Mk}{σ:List Int}(ty:Ty D M σ)(l:∀x∈M.N,x.ek=true->x.ks= []){hold:List Int}(r:∀k∈hold,bf σ k 1):
  ∃c,dy D (il M.N hold).1 0 []= (c,0,0)/\c.length= (il M.N hold).1.length/\(∀s∈c,aH s=false)/\(∀y∈(il M.N hold).1,(y.op < 15\/23 < y.op)/\(y.ek=true->y.ks= []))/\(∀k∈(il M.N hold).2,bf c k 1)/\(il M.N hold).1.length<=M.N.length:=by
 have hl:(dE (List.replicate M.N.length false) hold).length=M.N.length:=by rw [oW,MW]
 have n:=ty.in;have i:∀(j:Nat) (x:Nd),M.N[j]? =some x->ew (back M.N (dE (List.replicate M.N.length false) hold) M.N.length) j=true->∀k∈x.ks,ew (back M.N (dE (List.replicate M.N.length false) hold) M.N.length) k.toNat=true:=
  λj x p ho k g=>x9 n M.N.length _ (by omega) j x (Ls.1 p).1 p ho k g
 obtain⟨c,a,o⟩:=vR ty l i M.N 0 (List.replicate M.N.length 0) [] [] rfl (Nv _) ⟨by simp,λj u=>by omega,rfl,λm y s hm=>by simp at hm⟩;refine⟨c, ?_,a.len,λs hs=> ?_,λy t=> ?_,λk g=> ?_,by have h:=o;rw [LS,L5] at h;exact h⟩
 .have:=De (D:=D) a.len (λm y s d b=>(a.nd m y s d b).1) _ 0 rfl (Nv _);exact this
 .obtain⟨m,hm⟩:=MA hs;have e:m < (il M.N hold).1.length:=by
   have:=(Ls.1 hm).1;have b:=a.len;unfold il;dsimp only;omega
  exact(a.nd m _ s (Ly e) hm).2.1
 .obtain⟨m,hm⟩:=MA t;have e:m < c.length:=by rw [a.len];exact(Ls.1 hm).1
  obtain⟨_,_,d,b⟩:=a.nd m y _ hm (Ly e);exact⟨d,b⟩
 .obtain⟨z,q,rfl⟩:=L4.1 (show k∈hold.map _ from g);have d:=r z q;have f:z.toNat < M.N.length:=by rw [<-ty.len];exact(Ls.1 d.2).1
  have b:=a.to z.toNat f (um _ _ (wh q (by rw [MW];exact f)));rw [d.getD] at b;exact b
open Go Go.Aev
abbrev NW(p:ByteArray)(k b:Nat):ByteArray:=p++it (k:Int)++us++it (b:Int)
theorem o6(p:ByteArray)(k b:Nat):bl (NW p k b)=bl p++ (Go.Lib.itoa (k:Int)++95::Go.Lib.itoa (b:Int)):=by unfold NW;simp only [mR,rR];simp [bl,us]
theorem BS{p:ByteArray}{k d b a:Nat}(h:NW p k b=NW p d a):k=d/\b=a:=by have c:=congrArg bl h;rw [o6,o6] at c;obtain⟨e,f⟩:=oo (A2 _) (A2 _) (List.append_cancel_left c);have g:=oQ e;have i:=oQ f;omega
theorem vN(k:Nat):Go.Lib.itoa (k:Int)=Go.Lib.decDigits k:=by unfold Go.Lib.itoa;rw [if_neg (by omega)];simp
theorem uu(s:ByteArray):s.size= (bl s).length:=by show s.data.size=s.data.toList.length;simp
theorem Gy(p q:ByteArray):(p++q).extract 0 p.size=p:=by
 apply ur;have:bl ((p++q).extract 0 p.size)= (bl (p++q)).take p.size:=by show((p++q).extract 0 p.size).data.toList=_;rw [ByteArray.data_extract,NJ];rfl
 rw [this,mR,uu p];exact List.take_left
theorem IJ(p:ByteArray)(k b:Nat):mv (NW p k b) p=true:=by
 have e:NW p k b=p++ (it (k:Int)++us++it (b:Int)):=by apply ur;rw [o6];simp only [mR,rR];simp [bl,us]
 have d:jv (NW p k b) p=true:=by unfold jv;rw [e,Gy];simp only [LQ,Lu,decide_eq_true_eq,and_true];omega
 obtain⟨c,r,a⟩:=EK k;have f:(NW p k b).data.toList[p.size]? =some c:=by show(bl (NW p k b))[p.size]? =some c;rw [o6,vN,a,uu,L7 (LM _),MY];rfl
 have g:=ot k c (by rw [a];exact Lq);unfold mv;rw [d,f];simp only [MC,Lu,decide_eq_true_eq];omega
theorem BT{ds:List Dc}{p:ByteArray}(h:ij ds p=false){d:Dc}(a:d∈ds)(k b:Nat):d.nm≠NW p k b:=λe=>by have:=Mh.1 h d a;rw [e,IJ] at this;exact this rfl
theorem Cb{ds:List Dc}:∀(k:Nat) (p:ByteArray) (n:Nat),bl p=List.replicate n (95:UInt8)->1<=n->∃m,1<=m/\bl (jc ds k p)=List.replicate m (95:UInt8)
 | 0,p,n,h,a=>⟨n,a,h⟩
 | k+1,p,n,h,a=>by
  rw [jc];split
  .refine Cb k (p++us) (n+1) ?_ (by omega);rw [mR,h,List.replicate_succ']
  .exact⟨n,a,h⟩
theorem I0(ds:List Dc):∃m,1<=m/\bl (cQ ds)=List.replicate m (95:UInt8):=Cb 11 us 1 rfl (LM _)
theorem Ca{ds:List Dc}(hs:∀d∈ds,d.nm.size<=12):∀(k:Nat) (p:ByteArray),12<=p.size+k->ij ds (jc ds k p)=false
 | 0,p,h=>by
  rw [jc];cases a:ij ds p with
  | false=>rfl
  | true=>have:=tO hs a;omega
 | k+1,p,h=>by
  rw [jc];split
  .exact Ca hs k _ (by rw [LQ,fk];omega)
  .rename_i a;simpa using a
theorem IZ{ds:List Dc}(hs:∀d∈ds,d.nm.size<=12):ij ds (cQ ds)=false:=Ca hs 11 us (by rw [fk];omega)
theorem ym:∀(l:List UInt8) (i:Nat),1<=i->(∀c∈l,c=95\/(48<=c.toNat/\c.toNat<=57))->jo i l=true
 | [],_,_,_=>rfl
 | c::r,i,j,h=>by
  rw [jo,ym r (i+1) (by omega) λx e=>h x (Lr _ e),Nc];rcases h c Lq with rfl | ⟨f,g⟩
  .simp [lM]
  .have a:(((i:Nat):Int)==0)=false:=by simp;omega
   have b:decide (((c.toNat:Nat):Int) < 48)=false:=by simp;omega
   have d:decide (((c.toNat:Nat):Int) > 57)=false:=by simp;omega
   unfold lM;rw [a,b,d];simp
theorem BR{p:ByteArray}{m:Nat}(d:bl p=List.replicate m (95:UInt8))(k b:Nat):∀c∈bl (NW p k b),c=95\/(48<=c.toNat/\c.toNat<=57):=λc a=>by
 rw [o6,d,vN,vN] at a;rcases LI.1 a with a | a
 .exact .inl (Ow a)
 rcases LI.1 a with a | a
 .exact .inr (ot _ c a)
 rcases LC.1 a with a | a
 .exact .inl a
 .exact .inr (ot _ c a)
theorem IH{p:ByteArray}{m:Nat}(hm: 1<=m)(c:bl p=List.replicate m (95:UInt8)){k b:Nat}(hs:(NW p k b).size<=12):iC (NW p k b)=true:=by
 obtain⟨m,rfl⟩:∃n,m=n+1:=⟨m - 1,by omega⟩;have a:=BR c k b;have e:∃r,bl (NW p k b)=95::r:=by rw [o6,c,MI];exact⟨_,rfl⟩
 obtain⟨r,d⟩:=e;have h: 1<=(NW p k b).size:=by rw [uu,d];simp
 unfold iC;show(jo 0 (bl (NW p k b)) && _)=true;rw [d] at a⊢;rw [jo,ym r (0+1) (LM _) λx g=>a x (Lr _ g)];have f:lM 0 95=true:=by decide
 rw [f];simp only [MC,Lu,decide_eq_true_eq];omega
theorem yn:∀{l:List UInt8} {i:Nat},jo i l=true->(32:UInt8)∉l
 | [],_,_=>by simp
 | c::r,i,h=>by
  rw [jo,Lu] at h;intro hm;rcases LC.1 hm with e | hm
  .rw [<-e] at h;have:=h.1;simp [lM] at this
  .exact yn h.2 hm
theorem G8{s:ByteArray}(h:iC s=true):iN s:=by unfold iC at h;rw [Lu] at h;exact yn h.1
theorem II{p:ByteArray}{m:Nat}(a:bl p=List.replicate m (95:UInt8))(k b:Nat):iN (NW p k b):=λh=>by
 rcases BR a k b _ h with e | e
 .exact absurd e (by decide)
 .simp at e
theorem BV{p:ByteArray}{k:Nat}:∀(n b:Nat) (ok:Bool),kg p k b n ok=true->ok=true/\∀c,b<=c->c < b+n->(NW p k c).size<=12
 | 0,b,ok,h=>⟨h,λc a d=>by omega⟩
 | n+1,b,ok,h=>by
  rw [kg] at h;obtain⟨a,d⟩:=BV n (b+1) _ h;rw [Lu,decide_eq_true_eq] at a;refine⟨a.1,λc f g=> ?_⟩;by_cases e:c=b
  .subst e;have i:(((NW p k c).size:Nat):Int)<=12:=a.2;omega
  .exact d c (by omega) (by omega)
theorem BW{p:ByteArray}:∀(ds:List Dc) (k:Nat) (ok:Bool),fU p k ds ok=true->ok=true/\∀(j:Nat) (d:Dc),ds[j]? =some d->aH d.so=true->∀c,c < (d.so - 10).toNat->(NW p (k+j) c).size<=12
 | [],k,ok,h=>⟨h,λj d a=>by simp at a⟩
 | d::r,k,ok,h=>by
  rw [fU] at h;obtain⟨f,l⟩:=BW r (k+1) _ h;have key:ok=true/\(aH d.so=true->∀c,c < (d.so - 10).toNat->(NW p k c).size<=12):=by
   split at f
   .obtain⟨m,n⟩:=BV _ _ _ f;exact⟨m,λ_ c g=>n c (by omega) (by omega)⟩
   .rename_i b;exact⟨f,λe=>absurd e b⟩
  refine⟨key.1,λj i a b c g=> ?_⟩;cases j with
  | zero=>simp only [Ms,Lo] at a;subst a;exact key.2 b c g
  | succ j=>have:=l j i (by simpa using a) b c g;rw [show k+1+j=k+ (j+1) by omega] at this;exact this
theorem pR{p:ByteArray}{k:Nat}{d:Dc}:∀{n b:Nat} {x:Dc},x∈fF p k d b n↔∃c,b<=c/\c < b+n/\x= ⟨NW p k c,d.ea,d.ar,1⟩
 | 0,b,x=>by
  rw [fF];constructor
  .intro h;cases h
  .rintro⟨c,f,g,_⟩;omega
 | n+1,b,x=>by
  rw [fF,LC,pR];constructor
  .rintro(h | ⟨c,f,g,a⟩)
   .exact⟨b,LM _,by omega,h⟩
   .exact⟨c,by omega,by omega,a⟩
  .rintro⟨c,f,g,a⟩;by_cases e:c=b
   .subst e;exact .inl a
   .exact .inr ⟨c,by omega,by omega,a⟩
theorem lO{p:ByteArray}:∀{ds:List Dc} {k:Nat} {x:Dc},x∈cC p k ds↔(x∈ds/\aH x.so=false)\/∃(j:Nat) (d:Dc) (c:Nat),ds[j]? =some d/\aH d.so=true/\c < (d.so - 10).toNat/\x= ⟨NW p (k+j) c,d.ea,d.ar,1⟩
 | [],k,x=>by
  rw [cC];constructor
  .intro h;cases h
  .rintro(⟨h,_⟩ | ⟨j,d,c,h,_⟩)
   .cases h
   .simp at h
 | d::r,k,x=>by
  rw [cC,LI,lO];constructor
  .rintro(h | ⟨a,b⟩ | ⟨j,g,c,a,b,e,f⟩)
   .split at h
    .rename_i i;obtain⟨c,_,b,e⟩:=pR.1 h;exact .inr ⟨0,d,c,rfl,i,by omega,e⟩
    .rename_i i;rw [Lz] at h;subst h;exact .inl ⟨Lq,by simpa using i⟩
   .exact .inl ⟨Lr _ a,b⟩
   .exact .inr ⟨j+1,g,c,by simpa using a,b,e,by rw [f,show k+1+j=k+ (j+1) by omega]⟩
  .rintro(⟨a,b⟩ | ⟨j,g,c,a,b,e,f⟩)
   .rcases LC.1 a with rfl | a
    .left;rw [if_neg (by rw [b];decide)];exact Lz.2 rfl
    .exact .inr (.inl ⟨a,b⟩)
   .cases j with
    | zero=>simp only [Ms,Lo] at a;subst a;left;rw [if_pos b];exact pR.2 ⟨c,by omega,by omega,f⟩
    | succ j=>exact .inr (.inr ⟨j,g,c,by simpa using a,b,e,by rw [f,show k+1+j=k+ (j+1) by omega]⟩)
abbrev kC(ds:List Dc):Prop:=ds.Pairwise λa b=>a.nm≠b.nm
theorem ye{p:ByteArray}{k:Nat}{d:Dc}:∀(n b:Nat),kC (fF p k d b n)
 | 0,b=>List.Pairwise.nil
 | n+1,b=>by rw [fF];refine List.Pairwise.cons (λx f e=> ?_) (ye n (b+1));obtain⟨c,g,_,a⟩:=pR.1 f;rw [a] at e;have:=BS (show NW p k b=NW p k c from e);omega
theorem yE{p:ByteArray}{f:List Dc}(g:ij f p=false):∀(ds:List Dc) (k:Nat),(∀d∈ds,d∈f)->kC ds->kC (cC p k ds)
 | [],k,_,_=>List.Pairwise.nil
 | d::r,k,hs,h=>by
  obtain⟨o,q⟩:=List.pairwise_cons.1 h;rw [cC];refine Oi.2 ⟨?_,yE g r (k+1) (λx a=>hs x (Lr _ a)) q,λx a y i=> ?_⟩
  .split
   .exact ye _ _
   .exact List.pairwise_singleton _ _
  .have s:=λz (t:z∈r)=>hs z (Lr _ t);split at a
   .obtain⟨c,_,_,rfl⟩:=pR.1 a;rcases lO.1 i with⟨b,_⟩ | ⟨j,l,c',b,m,n,rfl⟩
    .exact λe=>BT g (s y b) k c e.symm
    .intro e;have:=BS (show NW p k c=NW p (k+1+j) c' from e);omega
   .rw [Lz] at a;subst a;rcases lO.1 i with⟨b,_⟩ | ⟨j,l,c',b,m,n,rfl⟩
    .exact o y b
    .exact BT g (hs x Lq) _ _
theorem Cm:∀{D:List Dc},kC D->∀x∈D,∀y∈D,x.nm=y.nm->x=y
 | [],_,x,c,_,_,_=>by cases c
 | d::r,h,x,c,y,k,e=>by
  obtain⟨i,j⟩:=List.pairwise_cons.1 h;rcases LC.1 c with f | a <;> rcases LC.1 k with g | b
  .rw [f,g]
  .rw [f] at e;exact absurd e (i y b)
  .rw [g] at e;exact absurd e.symm (i x a)
  .exact Cm j x a y b e
theorem Au{nm:ByteArray}:∀{D:List Dc} {i:Nat},(∃x∈D,x.nm=nm)->0<=gA nm i D
 | [],_,⟨x,a,_⟩=>by cases a
 | d::r,i,⟨x,a,e⟩=>by
  rw [gA];split
  .omega
  .rename_i b;rcases LC.1 a with rfl | a
   .exact absurd e b
   .exact Au ⟨x,a,e⟩
theorem Ar{D:List Dc}(h:kC D){x:Dc}(b:x∈D):Fn D x.nm x.ar x.so:=by have h0: 0<=bc D x.nm:=Au ⟨x,b,rfl⟩;obtain⟨k,d,f,c,e,a⟩:=At h0;have:=Cm h d (LB c) x b e;subst this;exact⟨h0,by rw [a],by rw [a]⟩
theorem yp{ds:List Dc}:∀{r:List Dc} {a:List Dc} {i:Nat},(dM a i r).1=0->kC a->kC (a++r)
 | [],a,_,_,b=>by rw [LW];exact b
 | x::r,a,i,h,b=>by
  rw [dM] at h;split at h
  .rename_i h0;have d:=(uG h0).2.2.2.2.2.1;have:=yp (ds:=ds) h (Oi.2 ⟨b,List.pairwise_singleton _ _,λy e z c=>by
    rw [Lz] at c;subst c;have:=Mh.1 d y e;simpa using this⟩)
   rw [LV] at this;exact this
  .rename_i h0;exact absurd h h0
theorem EC{a:List Dc}{d:Dc}(f:iC d.nm=true)(g:∀x∈a,x.nm≠d.nm)(m:d.ar.length<=8)(i:kO d.so=true)(j:∀s∈d.ar,s=4)(k:d.so=5->d.ar= []):eK a d=0:=by
 unfold eK;have c:(a.any λx=>decide (x.nm=d.nm))=false:=by rw [Mh];intro x l;simp [g x l]
 have e:(d.ar.any λs=> !(s==4))=false:=by rw [Mh];intro s hs;simp [j s hs]
 rw [f,c,e,i,if_neg (by decide),if_neg (by decide),if_neg (by omega),if_neg];rintro(h | h | ⟨h,b⟩)
 .cases h
 .cases h
 .rw [k h] at b;simp at b
theorem yo:∀{r:List Dc} {a:List Dc} {i:Nat},kC (a++r)->(∀d∈r,iC d.nm=true/\d.ar.length<=8/\kO d.so=true/\(∀s∈d.ar,s=4)/\(d.so=5->d.ar= []))->dM a i r= (0,0)
 | [],_,_,_,_=>rfl
 | d::r,a,i,h,c=>by obtain⟨e,f,g,j,k⟩:=c d Lq;obtain⟨_,_,l⟩:=Oi.1 h;rw [dM,if_pos (EC e (λx b=>l x b d Lq) f g j k)];exact yo (by rw [LV];exact h) λx b=>c x (Lr _ b)
theorem EF{ds:List Dc}(h:(dM [] 0 ds).1=0)(w:fU (cQ ds) 0 ds true=true):ry ds (cC (cQ ds) 0 ds) (cQ ds)/\dM [] 0 (cC (cQ ds) 0 ds)= (0,0)/\∀d∈cC (cQ ds) 0 ds,aH d.so=false:=by
 have f:∀d∈ds,d.nm.size<=12/\d.ar.length<=8/\(∀s∈d.ar,s=4)/\iC d.nm=true/\kO d.so=true/\(d.so=5->d.ar= []):=λd a=>by obtain⟨j,B⟩:=MA a;obtain⟨H,n,o,q,r,_,t⟩:=uG (uB h j d B);exact⟨H,n,o,q,r,t⟩
 have z:kC ds:=by simpa using yp (ds:=ds) h List.Pairwise.nil
 have E:=IZ λd a=>(f d a).1;obtain⟨m,hm,y⟩:=I0 ds;have p:=yE E ds 0 (λd a=>a) z;have F:∀d∈cC (cQ ds) 0 ds,aH d.so=false:=λd a=>by
  rcases lO.1 a with⟨_,g⟩ | ⟨j,I,c,i,u,v,rfl⟩
  .exact g
  .rfl
 refine⟨⟨λd a l=>Ar p (lO.2 (.inl ⟨a,l⟩)),λk d C l b A=> ?_,λd a=>G8 (f d a).2.2.2.1,λk b=>II y k b,λd a=>⟨(f d a).2.1,(f d a).2.2.1⟩⟩,yo (by simpa using p) λx G=> ?_,F⟩
 .have:(⟨NW (cQ ds) (0+k) b,d.ea,d.ar,1⟩:Dc)∈cC (cQ ds) 0 ds:=lO.2 (.inr ⟨k,d,b,C,l,A,rfl⟩);have:=Ar p this;rw [L5] at this;exact this
 .rcases lO.1 G with⟨i,_⟩ | ⟨j,d,c,i,u,v,rfl⟩
  .obtain⟨_,n,o,q,r,t⟩:=f x i;exact⟨q,n,r,o,t⟩
  .obtain⟨_,n,o,_,_,_⟩:=f d (LB i);refine⟨IH hm y ((BW ds 0 true w).2 j d i u c v),n,rfl,o,λe=>absurd (show(1:Int)=5 from e) (by decide)⟩
open Go Go.Aev
theorem AP{ss:List Int}:∀{r:List Int} {j:Nat},(∀k∈r,bf ss k 1)->dN ss r j= (0,0)
 | [],_,_=>rfl
 | k::r,j,h=>by have a:=h k Lq;have c:=a.1;have d:=a.lt;rw [dN,if_neg (by omega),if_neg (by rw [a.getD];simp)];exact AP λx b=>h x (Lr _ b)
theorem KK{b:As}{a:List Int}(g:b.ds.length<=30)(c:dM [] 0 b.ds= (0,0))(h:b.ns.length<=200)(d:dy b.ds b.ns 0 []= (a,0,0))(i:b.hs.length<=200)(e:∀k∈b.hs,bf a k 1):bL b= (a,0,0):=by unfold bL;rw [if_neg (by omega),if_neg (by rw [c];simp),if_neg (by omega),d];unfold gR;have f:dN a b.hs 0= (0,0):=AP e;rw [if_neg (by simp),if_neg (by omega),if_neg (by rw [f];simp)]
theorem Dd{a:As}(h:(bL a).2.1=0):a.ds.length<=30/\(dM [] 0 a.ds).1=0/\a.ns.length<=200/\a.hs.length<=200/\dy a.ds a.ns 0 []= ((bL a).1,0,0):=by
 unfold bL at h⊢;by_cases e: 30 < a.ds.length
 .rw [if_pos e] at h;exact absurd (show(2:Int)=0 from h) (by decide)
 rw [if_neg e] at h⊢;by_cases b:(dM [] 0 a.ds).1≠0
 .rw [if_pos b] at h;exact absurd h b
 rw [if_neg b] at h⊢;by_cases c3: 200 < a.ns.length
 .rw [if_pos c3] at h;exact absurd (show(2:Int)=0 from h) (by decide)
 rw [if_neg c3] at h⊢;unfold gR at h⊢;by_cases c:(dy a.ds a.ns 0 []).2.1≠0
 .rw [if_pos c] at h;exact absurd h c
 rw [if_neg c] at h⊢;by_cases f: 200 < a.hs.length
 .rw [if_pos f] at h;exact absurd (show(2:Int)=0 from h) (by decide)
 rw [if_neg f] at h⊢;by_cases d:(dN (dy a.ds a.ns 0 []).1 a.hs 0).1≠0
 .rw [if_pos d] at h;exact absurd h d
 rw [if_neg d];obtain⟨t,g,j,k⟩:=tL (ds:=a.ds) (r:=a.ns) (i:=0) (ss:= []) rfl (by simpa using c);refine⟨by omega,by simpa using b,by omega,by omega, ?_⟩;rw [g]
theorem IN{a:As}{es:Bool}(h:(bL a).2.1=0):∀(i:Nat) (x:Nd) (s:Int),a.ns[i]? =some x->(bL a).1[i]? =some s->rL (iT a es (bL a).1) i x s:=λi x s g hs=>by obtain⟨_,_,_,_,c⟩:=Dd h;obtain⟨t,b,j,f⟩:=tL (ds:=a.ds) (r:=a.ns) (i:=0) (ss:= []) rfl (by rw [c]);rw [c,MP,Ma] at b;obtain⟨d,e⟩:=f i x g;rw [L5,MP] at d e;rw [b.1] at hs;show bM a.ds x (i:Int) ((bL a).1.take i)= (s,0);rw [b.1];rw [e] at hs;simp only [Lo] at hs;exact Prod.ext hs d
def ou(a:As):List Dc:=cC (cQ a.ds) 0 a.ds
def oq(a:As):Cx:=iT a (bL a).1.isEmpty (bL a).1
def iY(a:As):Tr×Mk:=fT (oq a) a.ns (bL a).1 ⟨[],[]⟩ ⟨[],[]⟩
def nM(a:As):List Nd×List Int:=lB (oq a) (iY a)
def qH(a:As):Bool:=fU (cQ a.ds) 0 a.ds true && decide ((((ou a).length:Nat):Int)<=30)
def mz(a:As):Bool:=nN a.ds (bL a).1
def oX(a:As):Bool:=mz a && (!qH a || (decide (800 < (iY a).2.N.length) || decide (200 < (nM a).1.length)))
def bF(a:As):As:=
 if mz a then⟨(ou a).isEmpty,ou a,(nM a).1.isEmpty,(nM a).1,(nM a).2.isEmpty,(nM a).2⟩
 else⟨a.ds.isEmpty,a.ds,a.ns.isEmpty,a.ns,a.eh,a.hs⟩
abbrev B2(b:As):List T:= [T.ad 3 b.ed (aJ b.ds),T.ad 5 b.en (aU b.ns),T.ad 1 b.eh (enc b.hs),ti 0,ti 0]
theorem yI{a:As}(h:(bL a).2.1=0):lP a=if oX a then qy else B2 (bF a):=by
 unfold lP;rw [if_pos h];unfold r6 oX bF;show(if mz a then jE (oq a) (ou a) (qH a) (iY a) else _)=_;cases f:mz a with
 | false=>rfl
 | true=>
  unfold jE;simp only [if_true,MC];cases e:qH a with
  | false=>simp
  | true=>
   by_cases d: 800 < (iY a).2.N.length
   .simp [d]
   .by_cases c: 200 < (nM a).1.length
    .have b: 200 < (lB (oq a) (iY a)).1.length:=c;simp [d,c,b]
    .have b:¬200 < (lB (oq a) (iY a)).1.length:=c;simp only [d,c,b,decide_false,Lv,Bool.or_false,Bool.true_eq_false,or_self,if_false,LY];rfl
structure xI (a b:As):Prop where
 wf:lD b
 so:∃τ,bL b= (τ,0,0)/\τ.length=b.ns.length/\∀s∈τ,aH s=false
 op:∀y∈b.ns,y.op < 15\/23 < y.op
 dw:∀d∈b.ds,aH d.so=false
 hl:b.hs.length=a.hs.length
 ed:b.ed=b.ds.isEmpty
 en:b.en=b.ns.isEmpty
theorem IM:Ok ⟨[],[]⟩:=⟨λi x h=>by simp at h,λi x h=>by simp at h,λp h=>(by cases h),λi x h=>by simp at h,λi x h=>by simp at h⟩
theorem Ea{a:As}(wf:lD a)(h:(bL a).2.1=0)(hm:oX a=false):xI a (bF a):=by
 obtain⟨ok,hda⟩:=uF (es:=(bL a).1.isEmpty) h;obtain⟨g1,U,g3,V,g5⟩:=Dd h;have J:∀d∈a.ds,d.nm.size<=12:=ok.ds;unfold bF;cases l:mz a with
 | true=>
  rw [if_pos rfl];unfold oX at hm;rw [l,MC,MZ,MZ] at hm;obtain⟨m1,m2,m3⟩:=hm;have o:qH a=true:=by simpa using m1
  unfold qH at o;rw [Lu,decide_eq_true_eq] at o;have P:(iY a).2.N.length<=800:=by simpa using m2
  have Q:(nM a).1.length<=200:=by simpa using m3
  have hps:(cQ a.ds).size<=12:=wM J 11 us (by rw [fk];omega);obtain⟨T,I,K⟩:=EF U o.1;obtain⟨σ,ty,tt,O⟩:=Bt (c:=oq a) ok (D:=ou a) T (by show(cQ a.ds).size<=100;omega) (IN h) a.ns (bL a).1 0 ⟨[],[]⟩ ⟨[],[]⟩ [] rfl rfl (Nv _) ⟨IM,rfl,rfl,λk s g=>by omega,λk s g=>by omega⟩ (by simp) ⟨rfl,λi x s m=>by simp at m,λp Z=>by cases Z⟩ ⟨λk s g=>by omega,λk s g=>by omega⟩ P;have Y:∀k∈a.hs.map (bh (iY a).1),bf σ k 1:=λk g=>by
   obtain⟨z,hz,rfl⟩:=L4.1 g;obtain⟨z0,H⟩:=ok.ho z hz;have B:z.toNat < a.ns.length:=by have:=(Ls.1 H).1;have r:(iT a (bL a).1.isEmpty (bL a).1).ss.length=a.ns.length:=ok.sl;omega
   obtain⟨_,v,r,_⟩:=O.p z.toNat 1 B H rfl;have X:=tt.p z.toNat 1 B H rfl v r;unfold bh;rw [Lw,show(iY a).1.to[z.toNat]? =some v from r];exact X
  obtain⟨τ,u1,u2,u3,R,u5,u6⟩:=Lc (M:=(iY a).2) ty (λx m f=>by
   obtain⟨i,t⟩:=MA m;have:=O.ok.ek i x t;rw [f] at this;exact Ng.1 this.symm) Y
  refine⟨⟨λd C f=> ?_,λx m=>(R x m).2,λf=>Ng.1 f⟩,⟨τ,KK (by show(ou a).length<=30;omega) I Q u1 (by show((a.hs.map (bh (iY a).1)).map _).length<=200;rw [Mq,Mq];exact V) u5,u2,u3⟩,λy E=>(R y E).1,K, ?_,rfl,rfl⟩
  .rcases lO.1 (show d∈cC (cQ a.ds) 0 a.ds from C) with⟨F,_⟩ | ⟨j,S,c,F,_,_,rfl⟩
   .exact wf.d d F f
   .exact wf.d S (LB F) f
  .show((a.hs.map (bh (iY a).1)).map _).length=_;rw [Mq,Mq]
 | false=>
  rw [if_neg (by decide)];unfold mz nN at l;rw [MZ] at l;have G:∀s∈(bL a).1,aH s=false:=λs hs=>by simpa using Mh.1 l.1 s hs
  have w2:∀d∈a.ds,aH d.so=false:=λd C=>by simpa using Mh.1 l.2 d C
  have hs:bL ⟨a.ds.isEmpty,a.ds,a.ns.isEmpty,a.ns,a.eh,a.hs⟩=bL a:=rfl;refine⟨⟨wf.d,wf.n,wf.h⟩,⟨(bL a).1, ?_,ok.sl,G⟩,λy E=> ?_,w2,rfl,rfl,rfl⟩
  .rw [hs];exact Prod.ext rfl (Prod.ext h (Db h))
  .obtain⟨i,t⟩:=MA (show y∈a.ns from E);have w:i < (bL a).1.length:=by
    have r:(bL a).1.length=a.ns.length:=ok.sl;have:=(Ls.1 t).1;omega
   have L:(bL a).1[i]? =some (bL a).1[i]:=Ly w;have u:=ok.nd i y _ t L;have b:=G _ (NP w);rcases Oh (y.op < 15\/23 < y.op) with e | e
   .exact e
   exfalso;by_cases fq:y.op=15
   .have:=u.fq fq;have W:aH (bL a).1[i]=true:=by unfold aH;simp;omega
    rw [W] at b;cases b
   by_cases eA:y.op=16\/y.op=23
   .rw [(u.eA eA).1] at b;cases b
   by_cases dZ:y.op=22
   .obtain⟨_,p,q,s',A,_,k1,_⟩:=u.dZ dZ;have:=G s' (LB k1.so);rw [this] at A;cases A
   rw [(u.fO (by omega) (by omega)).1] at b;cases b
theorem EN{a b:As}(h:xI a b):lP b=B2 b:=by
 obtain⟨i,hs,hl,g⟩:=h.so;have h0:(bL b).2.1=0:=by rw [hs]
 have e:mz b=false:=by unfold mz nN;rw [hs,MZ];exact⟨Mh.2 λs c=>by rw [g s c];decide,Mh.2 λd f=>by rw [h.dw d f];decide⟩
 rw [yI h0];unfold oX bF;rw [e,<-h.ed,<-h.en];rfl
end Go.Aev.Gen
