import Derived.Test.YtcjplcpngagalaaDoorBlastRoundQ12
import Derived.Test.YtcjplcpngagalaaDoorBlastRoundQ14
set_option linter.all false
namespace Go.Aev.Gen
open Go Go.Aev
abbrev bl(s:ByteArray):List UInt8:=s.data.toList
theorem oF(a b:ByteArray):bl (a++b)=bl a++bl b:=by simp [bl,ByteArray.data_append]
theorem tZ(n:Int):bl (it n)=Go.Lib.itoa n:=by simp [bl,it]
theorem w7{a b:ByteArray}(h:bl a=bl b):a=b:=by obtain⟨⟨a⟩⟩:=a;obtain⟨⟨b⟩⟩:=b;simp only [bl] at h;subst h;rfl
theorem p7(u:Nat):∀c∈Go.Lib.decDigits u,48<=c.toNat/\c.toNat<=57:=by
 induction u using Nat.strongRecOn with
 | _ u b=>
  intro c a;rw [Go.Lib.decDigits] at a;split at a
  .rename_i h;simp only [QL] at a;subst a;rw [S8];omega
  .rename_i h;rcases QR.1 a with a | a
   .exact b (u / 10) (by omega) c a
   .simp only [QL] at a;subst a;rw [S8];omega
def xv(l:List UInt8):Nat:=l.foldl (λa c=>a * 10+ (c.toNat - 48)) 0
theorem Bz(u:Nat):xv (Go.Lib.decDigits u)=u:=by
 induction u using Nat.strongRecOn with
 | _ u a=>
  rw [Go.Lib.decDigits];split
  .rename_i h;simp only [xv,TH,List.foldl_nil,S8];omega
  .rename_i h;have:=a (u / 10) (by omega);unfold xv at this⊢;rw [List.foldl_append,this];simp only [TH,List.foldl_nil,S8];omega
theorem Bq{u v:Nat}(h:Go.Lib.decDigits u=Go.Lib.decDigits v):u=v:=by rw [<-Bz u,h,Bz]
theorem Il(u:Nat):∃c r,Go.Lib.decDigits u=c::r:=by
 have h:=Go.Lib.decDigits_length u;have b:=Go.Lib.nDigits_pos u;cases a:Go.Lib.decDigits u with
 | nil=>rw [a] at h;simp at h;omega
 | cons c r=>exact⟨c,r,rfl⟩
theorem DR(n:Int):∀c∈Go.Lib.itoa n,c=45\/(48<=c.toNat/\c.toNat<=57):=by
 intro c a;unfold Go.Lib.itoa at a;split at a
 .rcases QN.1 a with rfl | a
  .exact .inl rfl
  .exact .inr (p7 _ c a)
 .exact .inr (p7 _ c a)
theorem qB{m n:Int}(h:Go.Lib.itoa m=Go.Lib.itoa n):m=n:=by
 have neg:∀u v:Nat,(45::Go.Lib.decDigits u:List UInt8)≠Go.Lib.decDigits v:=λu v e=>by have:=p7 v 45 (by rw [<-e];exact QA);simp at this
 unfold Go.Lib.itoa at h;split at h <;> split at h
 .simp only [RH,true_and] at h;have:=Bq h;omega
 .exact absurd h (neg _ _)
 .exact absurd h.symm (neg _ _)
 .have:=Bq h;omega
theorem nB(n:Int):(32:UInt8)∉Go.Lib.itoa n:=λh=>by
 rcases DR n _ h with e | e
 .exact absurd e (by decide)
 .simp at e
theorem DS(n:Int):(95:UInt8)∉Go.Lib.itoa n:=λh=>by
 rcases DR n _ h with e | e
 .exact absurd e (by decide)
 .simp at e
theorem pX{z:UInt8}:∀{a e b d:List UInt8},z∉a->z∉e->a++z::b=e++z::d->a=e/\b=d
 | [],[],b,d,_,_,h=>by simpa using h
 | [],c::e,b,d,_,f,h=>by simp only [RO,Rs,RH] at h;exact absurd (h.1▸QA) f
 | c::a,[],b,d,f,_,h=>by simp only [RO,Rs,RH] at h;exact absurd (h.1▸QA) f
 | c::a,c'::e,b,d,g,i,h=>by simp only [Rs,RH] at h;obtain⟨j,k⟩:=pX (λx=>g (QB _ x)) (λx=>i (QB _ x)) h.2;exact⟨by rw [h.1,j],k⟩
def kT(ks:List Int):List UInt8:=ks.flatMap λk=>32::Go.Lib.itoa k
theorem Eb:∀(ks:List Int) (k:ByteArray),bl (kN k ks)=bl k++kT ks
 | [],k=>by simp [kN,kT]
 | x::r,k=>by rw [kN,Eb r,oF,oF,tZ];simp [kT,bl]
theorem Ec(op:Int)(nm:ByteArray)(n d:Int)(ks:List Int):bl (lO op nm n d ks)=Go.Lib.itoa op++32:: (bl nm++32:: (Go.Lib.itoa n++32:: (Go.Lib.itoa d++kT ks))):=by unfold lO;rw [Eb];simp only [oF,tZ];simp [bl]
theorem DZ:∀{ks c:List Int} {a b:Int},Go.Lib.itoa a++kT ks=Go.Lib.itoa b++kT c->a=b/\ks=c
 | [],[],a,b,h=>by simp only [kT,TF,QX] at h;exact⟨qB h,rfl⟩
 | [],k::r,a,b,h=>by simp only [kT,TF,QX,List.flatMap_cons] at h;exact absurd (h▸(by simp)) (nB a)
 | k::r,[],a,b,h=>by simp only [kT,TF,QX,List.flatMap_cons] at h;exact absurd (h▸(by simp)) (nB b)
 | k::r,j::l,a,b,h=>by
  have e:∀(k:Int) (r:List Int),kT (k::r)=32:: (Go.Lib.itoa k++kT r):=λk r=>by simp [kT]
  rw [e,e] at h;obtain⟨d,f⟩:=pX (nB a) (nB b) h;obtain⟨g,i⟩:=DZ f;exact⟨qB d,by rw [g,i]⟩
def jN(s:ByteArray):Prop:=(32:UInt8)∉bl s
theorem Lf{op c n i d f:Int}{nm a:ByteArray}{ks b:List Int}(h:jN nm)(l:jN a)(e:lO op nm n d ks=lO c a i f b):op=c/\nm=a/\n=i/\d=f/\ks=b:=by have g:=congrArg bl e;rw [Ec,Ec] at g;obtain⟨m,j⟩:=pX (nB _) (nB _) g;obtain⟨o,e3⟩:=pX h l j;obtain⟨p,k⟩:=pX (nB _) (nB _) e3;obtain⟨q,r⟩:=DZ k;exact⟨qB m,w7 o,qB p,q,r⟩
open Go Go.Aev
abbrev br(σ:List Int)(a s:Int):Prop:=0<=a/\σ[a.toNat]? =some s
theorem br.mono{σ b:List Int}{a s:Int}(p:σ <+:b)(h:br σ a s):br b a s:=by obtain⟨t,rfl⟩:=p;exact⟨h.1,by rw [QT (QC.1 h.2).1];exact h.2⟩
theorem br.lt{σ:List Int}{a s:Int}(h:br σ a s):a < (σ.length:Int):=by have:=(QC.1 h.2).1;have:=h.1;omega
theorem br.getD{σ:List Int}{a s:Int}(h:br σ a s):σ.getD a.toNat 0=s:=by rw [QI,h.2];rfl
theorem Da{x:Nd}{ss t:List Int}{da:List Int}{so:Int}(h:∀k∈x.ks,0<=k/\k < (ss.length:Int)):cR x ((ss++t).length:Int) (ss++t) da so=cR x (ss.length:Int) ss da so:=by
 have b:(x.ks.any λk=>decide (k < 0) || decide (k>=((ss++t).length:Int)))=false:=by rw [Rm];intro k a;have:=h k a;rw [Ro];simp;omega
 have c:(x.ks.any λk=>decide (k < 0) || decide (k>=(ss.length:Int)))=false:=by rw [Rm];intro k a;have:=h k a;simp;omega
 have e3:(x.ks.map λk=>(ss++t).getD k.toNat 0)=x.ks.map λk=>ss.getD k.toNat 0:=by apply RG;intro k a;have:=h k a;rw [QI,QI,QT (by omega)]
 unfold cR;rw [b,c,e3]
theorem Db{x:Nd}{i:Int}{ss da:List Int}{so s:Int}(h:cR x i ss da so= (s,0)):∀k∈x.ks,0<=k/\k < i:=by
 unfold cR at h;split at h
 .simp at h
 .rename_i e;rw [Si] at e;intro k a;have:=Rm.1 e k a;simp at this;omega
theorem y9{D:List Dc}{x:Nd}{i:Int}{ss:List Int}{s:Int}(h:bW D x i ss= (s,0)):∀k∈x.ks,0<=k/\k < i:=by
 unfold bW at h;split at h
 .simp at h
 split at h
 .split at h
  .simp at h
  .split at h
   .simp at h
   .exact Db h
 .split at h
  .simp at h
  .exact Db h
theorem Nk{D:List Dc}{x:Nd}{ss:List Int}{s:Int}(t:List Int)(h:bW D x (ss.length:Int) ss= (s,0)):bW D x ((ss++t).length:Int) (ss++t)= (s,0):=by have a:=y9 h;rw [<-h];unfold bW;rw [Da a,Da a]
theorem Nj{D:List Dc}{x y:Nd}{i:Int}{ss:List Int}(a:x.op=y.op)(b:x.ks=y.ks)(c:x.n=y.n)(e:x.d=y.d)(f:x.nm=y.nm):bW D x i ss=bW D y i ss:=by unfold bW cR fy eL;rw [a,b,c,e,f]
structure Good (D:List Dc) (σ:List Int) (x:Nd) (s:Int):Prop where
 ch:bW D x (σ.length:Int) σ = (s,0)
 so:aE s=false
 op:x.op < 15\/23 < x.op
 nm:jN x.nm
theorem Good.mono{D:List Dc}{σ:List Int}{x:Nd}{s:Int}(h:Good D σ x s)(t:List Int):Good D (σ ++t) x s:=⟨Nk t h.ch,h.so,h.op,h.nm⟩
structure Ty (D:List Dc) (M:Mk) (σ:List Int):Prop where
 len:σ.length=M.N.length
 nd:∀(i:Nat) (x:Nd) (s:Int),M.N[i]? =some x->σ[i]? =some s->Good D (σ.take i) x s
 ky:∀p∈M.K,∃(i:Nat) (x:Nd),p.2= (i:Int)/\M.N[i]? =some x/\p.1=lO x.op x.nm x.n x.d x.ks
def du(D:List Dc)(σ:List Int)(p:Int×Mk)(s:Int):Prop:= ∃a,Ty D p.2 a/\σ <+:a/\br a p.1 s
def dD(D:List Dc)(σ:List Int)(p:List Int×Mk):Prop:= ∃b,Ty D p.2 b/\σ <+:b/\∀a∈p.1,br b a 1
theorem gp{σ b:List Int}{l:List Int}(p:σ <+:b)(h:∀a∈l,br σ a 1):∀a∈l,br b a 1:=λa c=>(h a c).mono p
theorem du.same{D:List Dc}{M:Mk}{σ:List Int}{a s:Int}(t:Ty D M σ)(h:br σ a s):du D σ (a,M) s:=⟨σ,t,Sk _,h⟩
theorem Ek{s:ByteArray}:∀{K:List (ByteArray×Int)} {v:Int},lk s K=some v->(s,v)∈K
 | (k,u)::r,v,h=>by
  rw [lk] at h;split at h
  .rename_i e;simp only [Qy] at h;subst e h;exact QA
  .exact QB _ (Ek h)
theorem nO{D:List Dc}{M:Mk}{σ:List Int}(ty:Ty D M σ){op:Int}{nm:ByteArray}{n d:Int}{ks:List Int}{s:Int}(g:Good D σ ⟨op,ks.isEmpty,ks,n,d,nm⟩ s):du D σ (dq M op nm n d ks) s:=by
 unfold dq;cases t:lk (lO op nm n d ks) M.K with
 | some v=>
  obtain⟨i,x,c,e,h⟩:=ty.ky _ (Ek t);have a:i < σ.length:=by rw [ty.len];exact(QC.1 e).1
  have k:=ty.nd i x σ[i] e (QK a);obtain⟨m,o,e3,q,r⟩:=Lf (show jN nm from g.nm) k.nm h;have j:=(k.mono (σ.drop i)).ch;rw [List.take_append_drop] at j;have:bW D ⟨op,ks.isEmpty,ks,n,d,nm⟩ (σ.length:Int) σ =bW D x (σ.length:Int) σ:=Nj m r e3 q o;rw [g.ch,j] at this;simp only [Rk,and_true] at this;replace c:v= (i:Int):=c;subst c;exact du.same ty ⟨by omega,by rw [Q8,this];exact QK a⟩
 | none=>
  refine⟨σ ++ [s],⟨by simp [ty.len],λi x s' f hs=> ?_,λp b=> ?_⟩,⟨_,rfl⟩,by simp, ?_⟩
  .rcases Tl i σ.length with a | a
   .rw [QT (by rw [<-ty.len];exact a)] at f;rw [QT a] at hs;rw [Sr (by omega)];exact ty.nd i x s' f hs
   .have l:=(QC.1 hs).1;rw [Ro,QM] at l;obtain rfl:i=σ.length:=by omega
    rw [Rg (by rw [ty.len];exact QV _),ty.len,Sc] at f;rw [Rg (QV _),Sc] at hs;simp only [RE,Qy] at f hs;subst f hs;rw [Sr (QV _),Tf];exact g
  .rcases QR.1 b with b | b
   .obtain⟨i,x,c,e,h⟩:=ty.ky p b;exact⟨i,x,c,by rw [QT (QC.1 e).1];exact e,h⟩
   .simp only [QL] at b;subst b;exact⟨M.N.length,⟨op,ks.isEmpty,ks,n,d,nm⟩,rfl,by simp,rfl⟩
  .show(σ ++ [s])[((M.N.length:Nat):Int).toNat]? =some s;rw [Q8,<-ty.len];simp
theorem o7:jN s0:=by intro h;cases h
theorem o8{D:List Dc}{x:Nd}{i:Int}{ss:List Int}(b: 1<=x.op/\x.op<=25)(a:x.op≠9)(d:(x.ks.length:Int)=dM x.op\/dM x.op < 0)(c:x.ks.length<=8):bW D x i ss=cR x i ss [] 0:=by unfold bW;rw [if_neg (by omega),if_neg a,if_neg (by omega)]
theorem nn{x:Nd}{σ:List Int}{da:List Int}{so:Int}{l:List Int}{s:Int}(a:x.ks.map (λk=>σ.getD k.toNat 0)=l)(b:∀k∈x.ks,0<=k/\k < (σ.length:Int))(e:fy x=true)(f:eL x=true)(hs:aY x.op x.d l da so=s)(h0:s≠0):cR x (σ.length:Int) σ da so= (s,0):=by
 have c:(x.ks.any λk=>decide (k < 0) || decide (k>=(σ.length:Int)))=false:=by rw [Rm];intro k a;have:=b k a;simp;omega
 unfold cR;rw [c,e,f,a,hs,if_neg (by decide),if_neg (by decide),if_neg (by decide),if_neg h0]
theorem KY(D:List Dc)(σ:List Int)(b:Bool):Good D σ ⟨if b then 1 else 2,([]:List Int).isEmpty,[],0,0,s0⟩ 1:=by
 refine⟨?_,by decide,by cases b <;> decide,o7⟩;cases b
 .rw [o8 (by decide) (by decide) (by decide) (by decide)];exact nn (l:= []) rfl (λk a=>by cases a) (by decide) (by decide) (by decide) (by decide)
 .rw [o8 (by decide) (by decide) (by decide) (by decide)];exact nn (l:= []) rfl (λk a=>by cases a) (by decide) (by decide) (by decide) (by decide)
theorem KU{D:List Dc}{σ:List Int}{a:Int}(h:br σ a 1):Good D σ ⟨3,[a].isEmpty,[a],0,0,s0⟩ 1:=by refine⟨?_,by decide,by dsimp only;omega,o7⟩;rw [o8 (by dsimp only;omega) (by dsimp only;omega) (.inl (by rfl)) (by simp)];exact nn (l:= [1]) (by simp only [Rc,Rz,h.getD]) (λk b=>by simp only [QL] at b;subst b;exact⟨h.1,h.lt⟩) (by simp [fy]) (by simp [eL]) (by simp [aY,pB]) (by decide)
theorem yv{D:List Dc}{σ:List Int}{a b op:Int}(ho:op=4\/op=5\/op=6)(h:br σ a 1)(d:br σ b 1):Good D σ ⟨op,[a,b].isEmpty,[a,b],0,0,s0⟩ 1:=by
 have c:∀k∈[a,b],0<=k/\k < (σ.length:Int):=λk e=>by
  simp only [QN,RR,or_false] at e;rcases e with rfl | rfl
  .exact⟨h.1,h.lt⟩
  .exact⟨d.1,d.lt⟩
 have hm: [a,b].map (λk=>σ.getD k.toNat 0)= [1,1]:=by simp only [Rc,Rz,h.getD,d.getD]
 rcases ho with rfl | rfl | rfl
 .refine⟨?_,by decide,by dsimp only;omega,o7⟩;rw [o8 (by dsimp only;omega) (by dsimp only;omega) (.inr (show dM 4 < 0 by decide)) (by simp)];exact nn hm c (by simp [fy]) (by simp [eL]) (by simp [aY,pB]) (by decide)
 .refine⟨?_,by decide,by dsimp only;omega,o7⟩;rw [o8 (by dsimp only;omega) (by dsimp only;omega) (.inr (show dM 5 < 0 by decide)) (by simp)];exact nn hm c (by simp [fy]) (by simp [eL]) (by simp [aY,pB]) (by decide)
 .refine⟨?_,by decide,by dsimp only;omega,o7⟩;rw [o8 (by dsimp only;omega) (by dsimp only;omega) (.inl (by rfl)) (by simp)];exact nn hm c (by simp [fy]) (by simp [eL]) (by simp [aY,pB]) (by decide)
theorem KV{D:List Dc}{σ:List Int}{c a b:Int}(e:br σ c 1)(h:br σ a 1)(d:br σ b 1):Good D σ ⟨7,[c,a,b].isEmpty,[c,a,b],0,0,s0⟩ 1:=by
 refine⟨?_,by decide,by dsimp only;omega,o7⟩;rw [o8 (by dsimp only;omega) (by dsimp only;omega) (.inl (by rfl)) (by simp)];refine nn (l:= [1,1,1]) (by simp only [Rc,Rz,h.getD,d.getD,e.getD]) (λk f=> ?_) (by simp [fy]) (by simp [eL]) (by simp [aY]) (by decide);simp only [QN,RR,or_false] at f;rcases f with rfl | rfl | rfl
 .exact⟨e.1,e.lt⟩
 .exact⟨h.1,h.lt⟩
 .exact⟨d.1,d.lt⟩
section
variable {D:List Dc} {M:Mk} {σ:List Int}
theorem mZ(ty:Ty D M σ)(b:Bool):du D σ (cQ M b) 1:=nO ty (KY D σ b)
theorem Hw{a o:Int}(ty:Ty D M σ)(h:br σ a 1)(e:cf M a=o):∃x,M.N[a.toNat]? =some x/\x.op=o/\Good D (σ.take a.toNat) x 1:=by
 have hl:a.toNat < M.N.length:=by rw [<-ty.len];exact(QC.1 h.2).1
 have b:M.N[a.toNat]? =some M.N[a.toNat]:=QK hl;unfold cf at e;rw [b] at e;exact⟨_,b,e,ty.nd _ _ _ b h.2⟩
theorem PV{d w:Int}(h:¬aY 3 d [w] [] 0=0):w=1:=by
 by_cases a:w=1
 .exact a
 .exact absurd (by simp [aY,pB,a]) h
theorem sL{a:Int}(ty:Ty D M σ)(h:br σ a 1):du D σ (gz M a) 1:=by
 unfold gz;split
 .exact mZ ty _
 .split
  .exact mZ ty _
  .split
   .rename_i e;obtain⟨x,n,ho,g⟩:=Hw ty h e;have b:=g.ch;have l:=y9 b;unfold bW at b;rw [if_neg (by omega),if_neg (by omega)] at b;have m:dM x.op=1:=by rw [ho];decide
    split at b
    .simp at b
    .rename_i hl;rw [m] at hl;obtain⟨k,f⟩:∃k,x.ks= [k]:=by
      have:x.ks.length=1:=by omega
      exact Sw.1 this
     have d:=l k (by rw [f];exact QA);have i:qC M a=k:=by unfold qC;rw [n];show x.ks.headD 0=k;rw [f];rfl
     rw [i];refine du.same ty ⟨d.1, ?_⟩;unfold cR at b;rw [ho,f] at b;split at b
     .simp at b
     split at b
     .simp at b
     split at b
     .simp at b
     split at b
     .simp at b
     rename_i hs;have c:(σ.take a.toNat).getD k.toNat 0=1:=PV hs;rw [QI,Sy] at c;rw [Rw] at d;rw [if_pos (by have:=h.1;omega)] at c;cases j:σ[k.toNat]? with
     | none=>rw [j] at c;cases c
     | some v=>rw [j] at c;simp only [Sj] at c;rw [c]
   .exact nO ty (KU h)
theorem oA{a b:Int}(ty:Ty D M σ)(h:br σ a 1)(c:br σ b 1):du D σ (cg M a b) 1:=by
 unfold cg;split
 .exact du.same ty h
 .split
  .exact du.same ty c
  .exact nO ty (yv (.inl rfl) h c)
theorem zh{a b:Int}(ty:Ty D M σ)(h:br σ a 1)(c:br σ b 1):du D σ (eC M a b) 1:=by
 unfold eC;split
 .exact du.same ty h
 .split
  .exact du.same ty c
  .exact nO ty (yv (.inr (.inl rfl)) h c)
theorem yy{a b:Int}(ty:Ty D M σ)(h:br σ a 1)(c:br σ b 1):du D σ (dK M a b) 1:=by
 unfold dK;split
 .exact mZ ty _
 .split
  .exact du.same ty c
  .split
   .exact du.same ty h
   .split
    .exact sL ty c
    .split
     .exact sL ty h
     .exact nO ty (yv (.inr (.inr rfl)) h c)
theorem Aj{a b:Int}(ty:Ty D M σ)(h:br σ a 1)(d:br σ b 1):du D σ (bw M a b) 1:=by obtain⟨l,j,g,e⟩:=yy ty h d;obtain⟨c,k,i,f⟩:=sL j e;exact⟨c,k,g.trans i,f⟩
theorem NH{c a b:Int}(ty:Ty D M σ)(e:br σ c 1)(h:br σ a 1)(d:br σ b 1):du D σ (cS c M a b) 1:=by
 unfold cS;split
 .exact du.same ty h
 .exact nO ty (KV e h d)
end
section
variable {D:List Dc}
theorem x9{f:Mk->Int->Int->Int×Mk}{P:List Int->Prop}(g:∀σ e,σ <+:e->P σ->P e)(k:∀M σ a b,Ty D M σ->P σ->br σ a 1->br σ b 1->du D σ (f M a b) 1):∀{a b:List Int} {M:Mk} {σ:List Int},Ty D M σ->P σ->(∀x∈a,br σ x 1)->(∀x∈b,br σ x 1)->dD D σ (aR f M a b)
 | [],b,M,σ,ty,_,_,_=>by rw [show aR f M [] b= ([],M) by simp [aR]];exact⟨σ,ty,Sk _,λx h=>by cases h⟩
 | x::a,[],M,σ,ty,_,_,_=>by rw [show aR f M (x::a) []= ([],M) by simp [aR]];exact⟨σ,ty,Sk _,λx h=>by cases h⟩
 | x::a,y::b,M,σ,ty,l,i,j=>by
  obtain⟨s,q,d,o⟩:=k M σ x y ty l (i x QA) (j y QA);obtain⟨n,r,m,p⟩:=x9 g k (a:=a) (b:=b) q (g _ _ d l) (λz c=>(i z (QB _ c)).mono d) (λz c=>(j z (QB _ c)).mono d);refine⟨n,r,d.trans m,λz c=> ?_⟩;rcases QN.1 c with rfl | c
  .exact o.mono m
  .exact p z c
theorem GG:∀{a b:List Int} {M:Mk} {σ:List Int} {c:Int},Ty D M σ->br σ c 1->(∀x∈a,br σ x 1)->(∀x∈b,br σ x 1)->dD D σ (ft M c a b)
 | [],b,M,σ,c,ty,_,_,_=>by rw [zZ];exact⟨σ,ty,Sk _,λx h=>by cases h⟩
 | x::a,[],M,σ,c,ty,_,_,_=>by rw [show ft M c (x::a) []= ([],M) by simp [ft]];exact⟨σ,ty,Sk _,λx h=>by cases h⟩
 | x::a,y::b,M,σ,c,ty,n,l,m=>by
  have o:=l x QA;have p:=m y QA;obtain⟨N,H,q,j⟩:=Aj ty o p;obtain⟨w,v,r,k⟩:=Aj H j (n.mono q);have e:=q.trans r;rw [ft];dsimp only;split
  .refine⟨w,v,e,λz d=> ?_⟩;simp only [QL] at d;subst d;exact k
  .obtain⟨O,I,i,B⟩:=oA v (o.mono e) (p.mono e);have s:=r.trans i;obtain⟨P,J,t,C⟩:=oA I (j.mono s) (n.mono (e.trans i));obtain⟨Q,K,G,E⟩:=zh J (B.mono t) C;have g:=i.trans (t.trans G);have f:=e.trans g;obtain⟨A,L,u,F⟩:=GG (a:=a) (b:=b) K E (λz d=>(l z (QB _ d)).mono f) (λz d=>(m z (QB _ d)).mono f);refine⟨A,L,f.trans u,λz d=> ?_⟩;rcases QN.1 d with rfl | d
   .exact k.mono (g.trans u)
   .exact F z d
theorem GI{a b:List Int}{M:Mk}{σ:List Int}(ty:Ty D M σ)(g:∀x∈a,br σ x 1)(h:∀x∈b,br σ x 1):dD D σ (dB M a b):=by obtain⟨l,j,c,e⟩:=mZ ty false;obtain⟨d,k,i,f⟩:=GG j e (gp c g) (gp c h);exact⟨d,k,c.trans i,f⟩
end
open Go Go.Aev
section
variable {D:List Dc}
theorem dD.none{M:Mk}{σ:List Int}(ty:Ty D M σ):dD D σ ([],M):=⟨σ,ty,Sk _,λx h=>by cases h⟩
theorem dD.cons{M c:Mk}{σ:List Int}{x:Int}{l:List Int}(h:du D σ (x,M) 1)(i:∀a,Ty D M a->σ <+:a->dD D a (l,c)):dD D σ (x::l,c):=by
 obtain⟨f,m,d,j⟩:=h;obtain⟨g,n,e,k⟩:=i f m d;refine⟨g,n,d.trans e,λz b=> ?_⟩;rcases QN.1 b with rfl | b
 .exact j.mono e
 .exact k z b
theorem yM{n:Int}(h0: 0<=n){a:List Int}:∀(k i:Nat) {M:Mk} {σ:List Int},Ty D M σ->(∀x∈a,br σ x 1)->i+k<=a.length->dD D σ (eP M a n i k)
 | 0,i,M,σ,ty,_,_=>dD.none ty
 | k+1,i,M,σ,ty,b,e=>by
  rw [eP];split
  .exact dD.cons (mZ ty false) λd t p=>yM h0 k (i+1) t (gp p b) (by omega)
  .refine dD.cons (du.same ty ?_) λd t p=>yM h0 k (i+1) t (gp p b) (by omega);have c:((i:Int) - n).toNat < a.length:=by omega
   rw [QI,QK c];exact b _ (Su c)
theorem yO{n:Int}(h0: 0<=n){a:List Int}{M:Mk}{σ:List Int}(ty:Ty D M σ)(b:∀x∈a,br σ x 1):dD D σ (bt M a n):=yM h0 _ _ ty b (by omega)
theorem Fc:∀{l:List Int} {M:Mk} {σ:List Int} {x:Int},Ty D M σ->br σ x 1->(∀y∈l,br σ y 1)->dD D σ (cB M x l)
 | [],M,σ,x,ty,_,_=>dD.none ty
 | y::l,M,σ,x,ty,a,hl=>by rw [cB];exact dD.cons (oA ty a (hl y QA)) λc t p=>Fc t (a.mono p) (gp p λz b=>hl z (QB _ b))
theorem GO{a:List Int}:∀{b:List Int} {i:Nat} {M:Mk} {σ:List Int} {out:List Int},Ty D M σ->(∀x∈a,br σ x 1)->(∀x∈out,br σ x 1)->(∀x∈b,br σ x 1)->dD D σ (gO M a out i b)
 | [],i,M,σ,out,ty,_,ho,_=>by rw [gO];exact⟨σ,ty,Sk _,ho⟩
 | x::b,i,M,σ,out,ty,e,ho,f=>by obtain⟨w,s,g,j⟩:=yO (n:=(i:Int)) (by omega) ty e;obtain⟨y,t,p,k⟩:=Fc s ((f x QA).mono g) j;have d:=g.trans p;obtain⟨A,u,q,l⟩:=GI t (gp d ho) k;have c:=d.trans q;obtain⟨h,v,r,m⟩:=GO (b:=b) (i:=i+1) u (gp c e) l (gp c λz o=>f z (QB _ o));rw [gO];exact⟨h,v,c.trans r,m⟩
theorem Qa{a b:List Int}{M:Mk}{σ:List Int}(ty:Ty D M σ)(d:∀x∈a,br σ x 1)(h:∀x∈b,br σ x 1):dD D σ (je M a b):=by obtain⟨m,k,c,f⟩:=yO (n:=(a.length:Int)) (by omega) ty d;obtain⟨e,l,j,g⟩:=GO (i:=0) k (gp c d) f (gp c h);exact⟨e,l,c.trans j,g⟩
theorem Eh:∀{a b:List Int} {M:Mk} {σ:List Int} {c:Int},Ty D M σ->br σ c 1->(∀x∈a,br σ x 1)->(∀x∈b,br σ x 1)->du D σ (gZ M c a b) 1
 | [],b,M,σ,c,ty,d,_,_=>by rw [show gZ M c [] b= (c,M) by simp [gZ]];exact du.same ty d
 | x::a,[],M,σ,c,ty,d,_,_=>by rw [show gZ M c (x::a) []= (c,M) by simp [gZ]];exact du.same ty d
 | x::a,y::b,M,σ,c,ty,d,i,j=>by have k:=i x QA;have l:=j y QA;obtain⟨J,C,m,q⟩:=sL ty k;obtain⟨K,E,w,r⟩:=oA C q (l.mono m);have e:=m.trans w;obtain⟨L,F,n,s⟩:=yy E (k.mono e) (l.mono e);have g:=e.trans n;obtain⟨N,G,o,t⟩:=oA F s (d.mono g);obtain⟨O,H,A,u⟩:=zh G (r.mono (n.trans o)) t;have f:=g.trans (o.trans A);obtain⟨p,I,B,v⟩:=Eh (a:=a) (b:=b) H u (gp f λz h=>i z (QB _ h)) (gp f λz h=>j z (QB _ h));rw [gZ];exact⟨p,I,f.trans B,v⟩
theorem Ll{a b:List Int}{M:Mk}{σ:List Int}(ty:Ty D M σ)(g:∀x∈a,br σ x 1)(h:∀x∈b,br σ x 1):du D σ (kO M a b) 1:=by obtain⟨l,j,c,e⟩:=mZ ty false;obtain⟨d,k,i,f⟩:=Eh j e (gp c g) (gp c h);exact⟨d,k,c.trans i,f⟩
theorem EU:∀{l:List Int} {M:Mk} {σ:List Int},Ty D M σ->(∀y∈l,br σ y 1)->dD D σ (fq M l)
 | [],M,σ,ty,_=>dD.none ty
 | y::l,M,σ,ty,hl=>by rw [fq];exact dD.cons (sL ty (hl y QA)) λb t p=>EU t (gp p λz a=>hl z (QB _ a))
theorem Bg{n:Int}:∀(k b:Nat) {M:Mk} {σ:List Int},Ty D M σ->dD D σ (fg M n b k)
 | 0,b,M,σ,ty=>dD.none ty
 | k+1,b,M,σ,ty=>by rw [fg];exact dD.cons (mZ ty _) λa t _=>Bg k (b+1) t
theorem Az:∀{l:List Int} {M:Mk} {σ:List Int} {a:Int},Ty D M σ->br σ a 1->(∀y∈l,br σ y 1)->du D σ (jP M a l) 1
 | [],M,σ,a,ty,h,_=>du.same ty h
 | y::l,M,σ,a,ty,h,hl=>by obtain⟨k,i,b,d⟩:=oA ty h (hl y QA);obtain⟨c,j,g,e⟩:=Az (l:=l) i d (gp b λz f=>hl z (QB _ f));rw [jP];exact⟨c,j,b.trans g,e⟩
theorem uE{f:Mk->Int->Int->Int×Mk}(g:∀M σ a b,Ty D M σ->br σ a 1->br σ b 1->du D σ (f M a b) 1){a b:List Int}{M:Mk}{σ:List Int}(ty:Ty D M σ)(d:∀x∈a,br σ x 1)(e:∀x∈b,br σ x 1):dD D σ (aR f M a b):=
 x9 (P:=λ_=>True) (λ_ _ _ _=>trivial) (λM σ a b t _ h c=>g M σ a b t h c) ty trivial d e
theorem PH{a b:List Int}{M:Mk}{σ:List Int}(ty:Ty D M σ)(k:∀x∈a,br σ x 1)(l:∀x∈b,br σ x 1):du D σ (nT M a b) 1:=by obtain⟨q,n,c,g⟩:=mZ ty true;obtain⟨r,o,d,i⟩:=uE (λM σ a b t h f=>yy t h f) n (gp c k) (gp c l);obtain⟨e,p,m,j⟩:=Az o (g.mono d) i;exact⟨e,p,(c.trans d).trans m,j⟩
abbrev mu:Dc:=⟨s0,true,[],0⟩
structure Fn (D:List Dc) (nm:ByteArray) (ar:List Int) (so:Int):Prop where
 h0: 0<=bf D nm
 ar:(D.getD (bf D nm).toNat mu).ar=ar
 so:(D.getD (bf D nm).toNat mu).so=so
theorem KX{σ:List Int}{nm:ByteArray}{ks ar:List Int}(f:Fn D nm ar 1)(b:ks.map (λk=>σ.getD k.toNat 0)=ar)(a:∀k∈ks,0<=k/\k < (σ.length:Int))(c:ks.length<=8)(hs:jN nm):Good D σ ⟨9,ks.isEmpty,ks,0,0,nm⟩ 1:=by
 refine⟨?_,by decide,by dsimp only;omega,hs⟩;unfold bW;dsimp only;have hl:ks.length=ar.length:=by rw [<-b,Rr]
 rw [if_neg (by omega),if_pos rfl,if_neg (by have:=f.h0;omega),f.ar,f.so,if_neg (by omega)];refine nn b a ?_ ?_ ?_ (by decide)
 .simp [fy]
 .simp [eL]
 .show aY 9 0 ar ar 1=1;simp [aY]
theorem EI{pre:ByteArray}{kids ar:List Int}(e:kids.length<=8):∀(k b:Nat) {M:Mk} {σ:List Int},Ty D M σ->(∀c,b<=c->c < b+k->Fn D (pre++it (c:Int)) ar 1/\jN (pre++it (c:Int)))->(kids.map (λk=>σ.getD k.toNat 0)=ar)->(∀x∈kids,0<=x/\x < (σ.length:Int))->dD D σ (dc M pre kids b k)
 | 0,b,M,σ,ty,_,_,_=>dD.none ty
 | k+1,b,M,σ,ty,f,g,a=>by
  rw [dc];obtain⟨h,i⟩:=f b (by omega) (by omega);refine dD.cons (nO ty (KX h g a e i)) λj t p=>EI e k (b+1) t (λc l m=>f c (by omega) (by omega)) ?_ ?_
  .rw [<-g];obtain⟨q,rfl⟩:=p;apply RG;intro x d;have:=a x d;rw [QI,QI,QT (by omega)]
  .intro x d;have:=a x d;obtain⟨q,rfl⟩:=p;rw [Ro];omega
end
theorem ER{D p:List Dc}{x y:Nd}{i i':Int}{ss g:List Int}{s:Int}(h:bW D x i ss= (s,0))(l:s≠0)(m:y.op=x.op)(q:y.ks.map (λk=>g.getD k.toNat 0)=x.ks.map (λk=>ss.getD k.toNat 0))(r:y.n=x.n)(o:y.d=x.d)(t:y.nm=x.nm)(w:∀k∈y.ks,0<=k/\k < i')(I:x.op=9->0<=bf D x.nm->(D.getD (bf D x.nm).toNat mu).so=s->Fn p x.nm (D.getD (bf D x.nm).toNat mu).ar s):bW p y i' g= (s,0):=by
 have hl:y.ks.length=x.ks.length:=by simpa using congrArg List.length q
 have E:(y.ks.any λk=>decide (k < 0) || decide (k>=i'))=false:=by rw [Rm];intro k J;have:=w k J;simp;omega
 have v:∀{da:List Int} {so:Int} {c:Int},cR x i ss da so= (s,0)->(x.op≠9->c=so)->(x.op=9->c=s)->cR y i' g da c= (s,0):=by
  intro da so c A u H;have j:=oP (x:=x) (i:=i) (ss:=ss) (da:=da) (so:=so) (by rw [A]);obtain⟨_,K,L,a,B⟩:=j;rw [A] at a;have F:fy y=true:=by rw [<-K];unfold fy;rw [m,r,o,t]
  have e3:eL y=true:=by rw [<-L];unfold eL;rw [m,r,o]
  have G:aY y.op y.d (y.ks.map λk=>g.getD k.toNat 0) da c=s:=by
   rw [q,m,o];by_cases b:x.op=9
   .rw [H b];rw [b] at a B⊢;replace a:s=if(x.ks.map λk=>ss.getD k.toNat 0)=da then so else 0:=a;show(if(x.ks.map λk=>ss.getD k.toNat 0)=da then s else 0)=s;split at a
    .rename_i e;rw [if_pos e]
    .exact absurd a l
   .rw [u b];exact a.symm
  unfold cR;rw [E,F,e3,G,if_neg (by decide),if_neg (by decide),if_neg (by decide),if_neg l]
 unfold bW at h⊢;rw [m,t,hl];split at h
 .simp at h
 rename_i C;rw [if_neg C];split at h
 .rename_i b;rw [if_pos b];split at h
  .simp at h
  rename_i N;split at h
  .simp at h
  rename_i c3;have z:(D.getD (bf D x.nm).toNat mu).so=s:=by
   have j:=oP (by rw [h]);obtain⟨_,_,_,a,B⟩:=j;rw [h,b] at a;replace a:s=if(x.ks.map λk=>ss.getD k.toNat 0)= (D.getD (bf D x.nm).toNat mu).ar then(D.getD (bf D x.nm).toNat mu).so else 0:=a;split at a
   .exact a.symm
   .exact absurd a l
  have f:=I b (by omega) z;rw [if_neg (by have:=f.h0;omega),f.ar,f.so,if_neg c3];exact v h (λe=>absurd b e) (λ_=>rfl)
 .rename_i b;rw [if_neg b];split at h
  .simp at h
  rename_i c3;rw [if_neg c3];exact v h (λ_=>rfl) (λe=>absurd e b)
open Go Go.Aev
structure tz (ds D:List Dc) (p:ByteArray):Prop where
 pl:∀d∈ds,aE d.so=false->Fn D d.nm d.ar d.so
 wd:∀(k:Nat) (d:Dc),ds[k]? =some d->aE d.so=true->∀b:Nat,b < (d.so - 10).toNat->Fn D (p++it (k:Int)++us++it (b:Int)) d.ar 1
 sp:∀d∈ds,jN d.nm
 sw:∀k b:Nat,jN (p++it (k:Int)++us++it (b:Int))
 a4:∀d∈ds,d.ar.length<=8/\∀s∈d.ar,s=4
structure jl (c:Cx) (t:Tr) (σ:List Int) (i:Nat):Prop where
 w:∀(k:Nat) (s:Int),k < i->c.ss[k]? =some s->aE s=true->∀b,t.bits[k]? =some b->∀x∈b,br σ x 1
 p:∀(k:Nat) (s:Int),k < i->c.ss[k]? =some s->aE s=false->∀v,t.to[k]? =some v->br σ v s
theorem jl.mono{c:Cx}{t:Tr}{σ a:List Int}{i:Nat}(h:jl c t σ i)(p:σ <+:a):jl c t a i:=
 ⟨λk s d e f b g x j=>(h.w k s d e f b g x j).mono p,λk s d e f v g=>(h.p k s d e f v g).mono p⟩
theorem KW.kx{c:Cx}{t:Tr}{M:Mk}{σ:List Int}{i:Nat}{k s:Int}(h:KW c i k s)(b:cJ c t M i)(ty:jl c t σ i)(a:aE s=true):∀x∈aD t k,br σ x 1:=
 ty.w k.toNat s (by have:=h.h0;have:=h.lt;omega) h.so a _ (h.word b a).1
theorem KW.pf{c:Cx}{t:Tr}{M:Mk}{σ:List Int}{i:Nat}{k s:Int}(h:KW c i k s)(b:cJ c t M i)(ty:jl c t σ i)(a:aE s=false):br σ (bu t k) s:=
 ty.p k.toNat s (by have:=h.h0;have:=h.lt;omega) h.so a _ (h.plain b a).2.1
def tR(c:Cx)(i:Nat)(x:Nd)(s:Int):Prop:=bW c.ds x (i:Int) (c.ss.take i)= (s,0)
theorem oC{c:Cx}{i:Nat}{k s:Int}(h:KW c i k s):(c.ss.take i).getD k.toNat 0=s:=by have:=h.h0;have:=h.lt;rw [QI,S7 (by omega),h.so];rfl
theorem Dk{ds:List Dc}{nm:ByteArray}(h: 0<=bf ds nm):∃(k:Nat) (d:Dc),bf ds nm= (k:Int)/\ds[k]? =some d/\d.nm=nm/\ds.getD (bf ds nm).toNat mu=d:=by
 obtain⟨j,d,c,a,e⟩:=uQ (i:=0) h;have b:bf ds nm= (j:Int):=by unfold bf;rw [c,Rh]
 exact⟨j,d,b,a,e,by rw [b,Q8,QI,a];rfl⟩
theorem y5{ds:List Dc}{x:Nd}{i:Int}{ss:List Int}{s:Int}(h:bW ds x i ss= (s,0))(f:x.op=9)(b:s≠0):∃(k:Nat) (d:Dc),bf ds x.nm= (k:Int)/\ds[k]? =some d/\d.nm=x.nm/\d.so=s/\(x.ks.map λk=>ss.getD k.toNat 0)=d.ar/\ds.getD (bf ds x.nm).toNat mu=d:=by
 unfold bW at h;split at h
 .simp at h
 split at h
 .simp at h
 rename_i m;split at h
 .simp at h
 obtain⟨k,d,g,j,l,c⟩:=Dk (ds:=ds) (nm:=x.nm) (by omega);obtain⟨_,_,_,a,n⟩:=oP (by rw [h]);rw [h,f] at a;rw [show ds.getD (bf ds x.nm).toNat ⟨s0,true,[],0⟩=d from c] at a;replace a:s=if(x.ks.map λk=>ss.getD k.toNat 0)=d.ar then d.so else 0:=a;split at a
 .rename_i e;exact⟨k,d,g,j,l,a.symm,e,c⟩
 .exact absurd a b
theorem y8{ds:List Dc}{x:Nd}{i:Int}{ss:List Int}{s:Int}(h:bW ds x i ss= (s,0)):s≠0/\fy x=true/\eL x=true:=by
 have key:∀{da:List Int} {so:Int},cR x i ss da so= (s,0)->s≠0/\fy x=true/\eL x=true:=by intro da so h;obtain⟨_,b,c,a,d⟩:=oP (by rw [h]);rw [h] at a;exact⟨by rw [show s=_ from a];exact d,b,c⟩
 unfold bW at h;split at h
 .simp at h
 split at h
 .split at h
  .simp at h
  split at h
  .simp at h
  exact key h
 .split at h
  .simp at h
  exact key h
theorem kx{c:Cx}{D:List Dc}(F:tz c.ds D c.p){t:Tr}{M:Mk}{σ:List Int}{i:Nat}{x:Nd}{s:Int}(ok:pL c i x s)(E:tR c i x s)(f:aE s=true)(g:cJ c t M i)(j:jl c t σ i)(ty:Ty D M σ):dD D σ (fC c t M x s):=by
 have R:=(y8 E).1;have one:∀{a:Int},x.ks= [a]->x.ks.getD 0 0=a:=λh=>by rw [h];rfl
 have J:∀{a b:Int},x.ks= [a,b]->x.ks.getD 0 0=a:=λh=>by rw [h];rfl
 have K:∀{a b:Int},x.ks= [a,b]->x.ks.getD 1 0=b:=λh=>by rw [h];rfl
 unfold fC;by_cases u:x.op=9
 .rw [if_pos u];obtain⟨k,d,S,L,Z,N,O,f6⟩:=y5 E u R;have U:d∈c.ds:=QH L;obtain⟨Y,a4⟩:=F.a4 d U;have C:∀y∈x.ks,KW c i y 4/\br σ (bu t y) 4:=λy q=>by
   obtain⟨s',H⟩:=ok.k y q;have G:=oC H;have:s'=4:=a4 _ (by rw [<-O];exact Rb.2 ⟨y,q,G⟩);subst this;exact⟨H,H.pf g j rfl⟩
  rw [S];refine EI (ar:=d.ar) (by rw [Rr];exact ok.kl) _ 0 ty (λb _ o=>⟨F.wd k d L (by rw [N];exact f) b (by rw [N];omega),F.sw k b⟩) ?_ ?_
  .rw [<-O,SQ];apply RG;intro y q;obtain⟨G,v⟩:=C y q;show σ.getD (bu t y).toNat 0=_;rw [v.getD,oC G]
  .intro y q;obtain⟨z,W,rfl⟩:=Rb.1 q;have v:=(C z W).2;exact⟨v.1,v.lt⟩
 rw [if_neg u];by_cases c7:x.op=7
 .rw [if_pos c7];obtain⟨a,b,d,e,m,I,X⟩:=ok.c7 c7;rw [e];show dD D σ (aR (cS (bu t a)) M (aD t b) (aD t d));have T:=m.pf g j rfl;exact x9 (P:=λσ =>br σ (bu t a) 1) (λ_ _ p h=>h.mono p) (λM σ y z n V h l=>NH n V h l) ty T (I.kx g j f) (X.kx g j f)
 rw [if_neg c7];by_cases gq:x.op=15
 .rw [if_pos gq];exact Bg _ _ ty
 rw [if_neg gq];by_cases ff:x.op=16
 .rw [if_pos ff];obtain⟨_,a,e,m⟩:=ok.ff (.inl ff);rw [one e];exact EU ty (m.kx g j f)
 rw [if_neg ff];by_cases bx:x.op=23
 .rw [if_neg (by omega),if_neg (by omega),if_neg (by omega),if_neg (by omega),if_neg (by omega)];obtain⟨_,a,e,m⟩:=ok.ff (.inr bx);rw [one e];exact yO (ok.bx bx).1 ty (m.kx g j f)
 have Q: 17<=x.op/\x.op<=21:=by
  rcases Tn (17<=x.op/\x.op<=21) with h | h
  .exact h
  exfalso;have:=ok.op;by_cases c8:x.op=8
  .rw [(ok.c8 c8).1] at f;cases f
  by_cases eW:x.op=22
  .rw [(ok.eW eW).1] at f;cases f
  have:=(ok.pl c7 c8 (by omega)).1 u;rw [this] at f;cases f
 obtain⟨_,a,b,e,m,I⟩:=ok.gT Q.1 Q.2;rw [J e,K e];have r:=m.kx g j f;have o:=I.kx g j f;by_cases gT:x.op=17
 .rw [if_pos gT];exact uE (λM σ y z n h l=>oA n h l) ty r o
 rw [if_neg gT];by_cases w:x.op=18
 .rw [if_pos w];exact uE (λM σ y z n h l=>zh n h l) ty r o
 rw [if_neg w];by_cases A:x.op=19
 .rw [if_pos A];exact uE (λM σ y z n h l=>Aj n h l) ty r o
 rw [if_neg A];by_cases B:x.op=20
 .rw [if_pos B];exact GI ty r o
 rw [if_neg B,if_pos (by omega)];exact Qa ty r o
theorem pf{c:Cx}{D:List Dc}(L:tz c.ds D c.p){t:Tr}{M:Mk}{σ:List Int}{i:Nat}{x:Nd}{s:Int}(ok:pL c i x s)(l:tR c i x s)(g:aE s=false)(m:cJ c t M i)(u:jl c t σ i)(ty:Ty D M σ):du D σ (gB t M x) s:=by
 obtain⟨w,E,J⟩:=y8 l;have z:∀{a b:Int},x.ks= [a,b]->x.ks.getD 0 0=a:=λh=>by rw [h];rfl
 have A:∀{a b:Int},x.ks= [a,b]->x.ks.getD 1 0=b:=λh=>by rw [h];rfl
 have F:∀{da:List Int} {so:Int},x.op≠9->bW c.ds x (i:Int) (c.ss.take i)= (s,0)->s=aY x.op x.d (x.ks.map λk=>(c.ss.take i).getD k.toNat 0) [] 0:=λX h=>by
  unfold bW at h;split at h
  .simp at h
  split at h
  .simp at h
  obtain⟨_,_,_,Q,_⟩:=oP (by rw [h]);rw [h] at Q;exact Q
 have q:(∀k∈x.ks,∃s',KW c i k s'/\aE s'=false)->(x.op < 15\/23 < x.op)->du D σ (dq M x.op x.nm x.n x.d (x.ks.map (bu t))) s:=λv ho=>by
  refine nO ty ⟨?_,g,ho, ?_⟩
  .refine ER l w rfl ?_ rfl rfl rfl ?_ ?_
   .show(x.ks.map (bu t)).map _=_;rw [SQ];apply RG;intro y K;obtain⟨s',o,C⟩:=v y K;show σ.getD (bu t y).toNat 0=_;rw [(o.pf m u C).getD,oC o]
   .intro k O;obtain⟨y,K,rfl⟩:=Rb.1 (show k∈x.ks.map (bu t) from O);obtain⟨s',o,C⟩:=v y K;exact⟨(o.pf m u C).1,(o.pf m u C).lt⟩
   .intro B _ W;obtain⟨k,d,R,G,H,I,S,N⟩:=y5 l B w;have:=L.pl d (QH G) (by rw [I];exact g);rw [H,I] at this;rw [N];exact this
  .by_cases B:x.op=9
   .obtain⟨k,d,R,G,H,I,S,N⟩:=y5 l B w;have:=L.sp d (QH G);rw [H] at this;exact this
   .rcases(ym E J).2.2 with e | e
    .show jN x.nm;rw [e];exact o7
    .exact absurd e B
 unfold gB;by_cases eW:x.op=22
 .rw [if_pos eW];obtain⟨_,a,b,s',f,e,j,r⟩:=ok.eW eW;have hs:s=1:=by
   have:=F (da:= []) (so:=0) (by omega) l;rw [eW,e] at this;simp only [Rc,Rz,oC j,oC r] at this;rw [this];simp [aY,f]
  subst hs;rw [z e,A e];exact Ll ty (j.kx m u f) (r.kx m u f)
 rw [if_neg eW];by_cases c8:x.op=8
 .obtain⟨_,a,b,s',e,h⟩:=ok.c8 c8;rw [z e,A e];rcases h with⟨f,j,r⟩ | h
  .have hl:=(j.word m f).2.1;have o:=gw f;rw [if_pos ⟨c8,y6 (by omega)⟩];have hs:s=1:=by
    have:=F (da:= []) (so:=0) (by omega) l;rw [c8,e] at this;simp only [Rc,Rz,oC j,oC r] at this;rw [this];simp [aY,f]
   subst hs;exact PH ty (j.kx m u f) (r.kx m u f)
  .obtain⟨Y,j,P⟩:=h a (by rw [e];exact QA);have T:aD t a= []:=by
    have:=(j.plain m P).1;unfold aD;rw [QI,this];rfl
   rw [if_neg (by rw [T];simp)];exact q h (by omega)
 rw [if_neg (by omega)];by_cases c7:x.op=7
 .obtain⟨a,b,d,e,j,r,V⟩:=ok.c7 c7;refine q (λk v=> ?_) (by omega);rw [e] at v;simp only [QN,RR,or_false] at v;rcases v with rfl | rfl | rfl
  .exact⟨1,j,rfl⟩
  .exact⟨s,r,g⟩
  .exact⟨s,V,g⟩
 have U:x.op < 15\/24<=x.op:=by
  rcases Tn (x.op < 15\/24<=x.op) with h | h
  .exact h
  exfalso;by_cases gq:x.op=15
  .have:=ok.gq gq;have o:aE s=true:=by unfold aE;simp;omega
   rw [o] at g;cases g
  by_cases ff:x.op=16\/x.op=23
  .rw [(ok.ff ff).1] at g;cases g
  rw [(ok.gT (by omega) (by omega)).1] at g;cases g
 exact q (ok.pl c7 c8 U).2 (by omega)
theorem jl.snoc{c:Cx}{t:Tr}{M:Mk}{σ:List Int}{i:Nat}{s:Int}{w:List Int}{v:Int}(h:jl c t σ i)(d:cJ c t M i)(hs:c.ss[i]? =some s)(l:aE s=true->∀x∈w,br σ x 1)(m:aE s=false->br σ v s):jl c ⟨t.bits++ [w],t.to++ [v]⟩ σ (i+1):=by
 refine⟨λk s' n a j b f=> ?_,λk s' n a j u g=> ?_⟩
 .by_cases e:k=i
  .subst e;rw [hs] at a;simp only [Qy] at a;subst a;rw [Rg (by rw [d.bl];exact QV _),d.bl,Sc] at f;simp only [RE,Qy] at f;subst f;exact l j
  .rw [QT (by rw [d.bl];omega)] at f;exact h.w k s' (by omega) a j b f
 .by_cases e:k=i
  .subst e;rw [hs] at a;simp only [Qy] at a;subst a;rw [Rg (by rw [d.tl];exact QV _),d.tl,Sc] at g;simp only [RE,Qy] at g;subst g;exact m j
  .rw [QT (by rw [d.tl];omega)] at g;exact h.p k s' (by omega) a j u g
theorem Er{c:Cx}(ok:px c){D:List Dc}(n:tz c.ds D c.p)(w:c.p.size<=100)(hold:∀(i:Nat) (x:Nd) (s:Int),c.ns[i]? =some x->c.ss[i]? =some s->tR c i x s):
  ∀(rn:List Nd) (rs:List Int) (i:Nat) (t:Tr) (M:Mk) (σ:List Int),c.ns.drop i=rn->c.ss.drop i=rs->i<=c.ns.length->cJ c t M i->M.N.length<=800->Ty D M σ->jl c t σ i->(hF c rn rs t M).2.N.length<=800->
   ∃a,Ty D (hF c rn rs t M).2 a/\jl c (hF c rn rs t M).1 a c.ns.length/\cJ c (hF c rn rs t M).1 (hF c rn rs t M).2 c.ns.length
 | [],rs,i,t,M,σ,g,j,v,b,u,ty,d,_=>by
  have:i=c.ns.length:=by have:=bh g;omega
  subst this;rw [show hF c [] rs t M= (t,M) by simp [hF]];exact⟨σ,ty,d,b⟩
 | x::rn,[],i,t,M,σ,g,j,v,b,u,ty,d,_=>by have k:=(bm g).2.1;have E:=bh j;have:=ok.sl;omega
 | x::rn,s::rs,i,t,M,σ,g,j,v,b,u,ty,d,hl=>by
  obtain⟨o,C,A⟩:=bm g;obtain⟨f,_,r⟩:=bm j;obtain⟨st,up⟩:=GB ok o f b w (by omega);have y:=ok.nd i x s o f;have m:=hold i x s o f;have key:∃a,Ty D (iG c t M x s).2 a/\jl c (iG c t M x s).1 a (i+1):=by
   unfold iG;cases l:aE s with
   | true=>obtain⟨a,h,q,k⟩:=kx n y m l b d ty;exact⟨a,h,(d.mono q).snoc b f (λ_=>k) (λe=>by rw [l] at e;cases e)⟩
   | false=>obtain⟨a,h,q,k⟩:=pf n y m l b d ty;exact⟨a,h,(d.mono q).snoc b f (λe=>by rw [l] at e;cases e) (λ_=>k)⟩
  rw [hF] at hl⊢;split at hl
  .omega
  rename_i B;rw [if_neg B];obtain⟨a,h,z⟩:=key;exact Er ok n w hold rn rs (i+1) _ _ a A r (by omega) st (by omega) h z hl
open Go Go.Aev
abbrev eZ(need:List Bool)(j:Nat):Bool:=need.getD j false
theorem PI{need:List Bool}{k j:Nat}(h:eZ need j=true):eZ (need.set k true) j=true:=by
 unfold eZ at h⊢;rw [QI] at h⊢;rw [RT];by_cases e:k=j
 .subst e;rw [if_pos rfl];by_cases hl:k < need.length
  .rw [if_pos hl];rfl
  .rw [R7 (by omega)] at h;cases h
 .rw [if_neg e];exact h
theorem yV:∀(ks:List Int) (need:List Bool) {j:Nat},eZ need j=true->eZ (dX need ks) j=true
 | [],_,_,h=>h
 | _::r,_,_,h=>yV r _ (PI h)
theorem yU:∀{ks:List Int} {need:List Bool} {k:Int},k∈ks->k.toNat < need.length->eZ (dX need ks) k.toNat=true
 | [],_,_,h,_=>by cases h
 | a::r,need,k,h,hl=>by
  rw [dX];rcases QN.1 h with rfl | h
  .exact yV r _ (by unfold eZ;rw [QI,Sg hl];rfl)
  .exact yU h (by rw [SE];exact hl)
theorem Es:∀{ks:List Int} {need:List Bool} {j:Nat},(∀k∈ks,k.toNat≠j)->eZ (dX need ks) j=eZ need j
 | [],_,_,_=>rfl
 | k::r,need,j,h=>by rw [dX,Es (ks:=r) λy a=>h y (QB _ a)];unfold eZ;rw [QI,QI,SY (h k QA)]
abbrev Io:Nd:=⟨0,true,[],0,0,s0⟩
theorem KR{N:List Nd}(b:∀(i:Nat) (x:Nd),N[i]? =some x->∀k∈x.ks,0<=k/\k < (i:Int))(i:Nat):∀k∈(N.getD i Io).ks,0<=k/\k < (i:Int):=by
 rw [QI];cases h:N[i]? with
 | none=>intro k a;cases a
 | some x=>exact b i x h
theorem AX{N:List Nd}(a:∀(i:Nat) (x:Nd),N[i]? =some x->∀k∈x.ks,0<=k/\k < (i:Int)):∀(i:Nat) (need:List Bool) {j:Nat},i<=j->eZ (back N need i) j=eZ need j
 | 0,_,_,_=>rfl
 | i+1,need,j,h=>by
  rw [back,AX a i _ (by omega)];split
  .exact Es λk b=>by have:=KR a i k b;omega
  .rfl
theorem wX{N:List Nd}:∀(i:Nat) (need:List Bool) {j:Nat},eZ need j=true->eZ (back N need i) j=true
 | 0,_,_,h=>h
 | i+1,need,j,h=>by
  rw [back];apply wX i;split
  .exact yV _ _ h
  .exact h
theorem AU{N:List Nd}(b:∀(i:Nat) (x:Nd),N[i]? =some x->∀k∈x.ks,0<=k/\k < (i:Int)):∀(i:Nat) (need:List Bool),i<=need.length->∀(j:Nat) (x:Nd),j < i->N[j]? =some x->eZ (back N need i) j=true->∀k∈x.ks,eZ (back N need i) k.toNat=true
 | 0,_,_,j,_,h,_,_=>by omega
 | i+1,need,hl,j,x,h,d,ho=>by
  intro k a;rw [back] at ho⊢;by_cases e:j=i
  .subst e;rw [AX b j _ (QV _)] at ho;have f:=b j x d k a;by_cases c:eZ need j=true
   .rw [if_pos c] at ho⊢;apply wX;refine yU ?_ (by omega);rw [QI,d];exact a
   .rw [if_neg c] at ho;exact absurd ho c
  .refine AU b i _ ?_ j x (by omega) d ho k a;split
   .rw [qH];omega
   .omega
structure Kp (D:List Dc) (σ:List Int) (need:List Bool) (n i:Nat) (to:List Int) (out:List Nd) (τ:List Int):Prop where
 tl:to.length=n
 to:∀j,j < i->eZ need j=true->br τ (to.getD j 0) (σ.getD j 0)
 len:τ.length=out.length
 nd:∀(m:Nat) (y:Nd) (s:Int),out[m]? =some y->τ[m]? =some s->bW D y (m:Int) (τ.take m)= (s,0)/\aE s=false/\(y.op < 15\/23 < y.op)/\(y.ek=true->y.ks= [])
theorem Ty.in{D:List Dc}{M:Mk}{σ:List Int}(ty:Ty D M σ):∀(i:Nat) (x:Nd),M.N[i]? =some x->∀k∈x.ks,0<=k/\k < (i:Int):=λi x a k c=>by
 have b:i < σ.length:=by rw [ty.len];exact(QC.1 a).1
 have:=y9 (ty.nd i x _ a (QK b)).ch k c;rw [Rw] at this;omega
theorem yH{D:List Dc}{M:Mk}{σ:List Int}(ty:Ty D M σ)(o:∀x∈M.N,x.ek=true->x.ks= []){need:List Bool}(l:∀(j:Nat) (x:Nd),M.N[j]? =some x->eZ need j=true->∀k∈x.ks,eZ need k.toNat=true):
  ∀(r:List Nd) (i:Nat) (to:List Int) (out:List Nd) (b:List Int),M.N.drop i=r->i<=M.N.length->Kp D σ need M.N.length i to out b->∃h,Kp D σ need M.N.length M.N.length (eA need i r to out).1 (eA need i r to out).2 h/\(eA need i r to out).2.length<=out.length+r.length
 | [],i,to,out,b,g,I,a=>by
  have:i=M.N.length:=by have:=bh g;omega
  subst this;exact⟨b,a,by simp [eA]⟩
 | x::r,i,to,out,b,g,I,a=>by
  obtain⟨t,C,E⟩:=bm g;have w:i < σ.length:=by rw [ty.len];exact C
  rw [eA];by_cases u:eZ need i=true
  .rw [if_pos u];have gd:=ty.nd i x _ t (QK w);have p:=ty.in i x t;have e:∀k∈x.ks,(to.set i (out.length:Int)).getD k.toNat 0=to.getD k.toNat 0:=λk c=>by
    have:=p k c;rw [QI,QI,SY (by omega)]
   have c:∀k∈x.ks,br b (to.getD k.toNat 0) (σ.getD k.toNat 0):=λk c=>a.to k.toNat (by have:=p k c;omega) (l i x t u k c);have q:bW D ⟨x.op,x.ek,x.ks.map λk=>(to.set i (out.length:Int)).getD k.toNat 0,x.n,x.d,x.nm⟩ (out.length:Int) b = (σ[i],0):=by
    refine ER gd.ch (y8 gd.ch).1 rfl ?_ rfl rfl rfl ?_ ?_
    .show(x.ks.map _).map _=_;rw [SQ];apply RG;intro k f;have:=p k f;show b.getD ((to.set i (out.length:Int)).getD k.toNat 0).toNat 0=_;rw [e k f,(c k f).getD,QI,QI,S7 (by omega)]
    .intro k f;obtain⟨y,q,rfl⟩:=Rb.1 (show k∈x.ks.map _ from f);rw [e y q];exact⟨(c y q).1,by rw [<-a.len];exact(c y q).lt⟩
    .intro _ h0 G;exact⟨h0,rfl,G⟩
   obtain⟨h,A,B⟩:=yH ty o l r (i+1) (to.set i (out.length:Int)) (out++ [⟨x.op,x.ek,x.ks.map λk=>(to.set i (out.length:Int)).getD k.toNat 0,x.n,x.d,x.nm⟩]) (b ++ [σ[i]]) E (by omega) (by
    refine⟨by rw [SE];exact a.tl,λj J ho=> ?_,by simp [a.len],λm y s hm hs=> ?_⟩
    .by_cases z:j=i
     .subst z;rw [QI,Sg (by rw [a.tl];exact C),QI,QK w];refine⟨Int.natCast_nonneg _, ?_⟩;show(b ++ [σ[j]])[((out.length:Nat):Int).toNat]? =some σ[j];rw [Q8,<-a.len];simp
     .have:=(a.to j (by omega) ho).mono (S5 b [σ[i]]);rw [QI,SY (by omega),<-QI];exact this
    .rcases Tl m out.length with v | K
     .rw [QT v] at hm;rw [QT (by rw [a.len];exact v)] at hs;rw [Sr (by rw [a.len];omega)];exact a.nd m y s hm hs
     .have F:=(QC.1 hm).1;rw [Ro,QM] at F;obtain rfl:m=out.length:=by omega
      rw [Rg (QV _),Sc] at hm;rw [<-a.len,Rg (QV _),Sc] at hs;simp only [RE,Qy] at hm hs;subst hm hs;rw [Sr (by rw [a.len];exact QV _),<-a.len,Tf,a.len];exact⟨q,gd.so,gd.op,λH=>by
       have:=o x (QH t) H;show x.ks.map _= [];rw [this];rfl⟩)
   exact⟨h,A,by simp at B⊢;omega⟩
  .rw [if_neg u];obtain⟨h,A,B⟩:=yH ty o l r (i+1) to out b E (by omega) ⟨a.tl,λj J ho=>by
    by_cases z:j=i
    .subst z;exact absurd ho u
    .exact a.to j (by omega) ho,a.len,a.nd⟩
   exact⟨h,A,by simp at B⊢;omega⟩
theorem Gt{D:List Dc}{N:List Nd}{a:List Int}(hl:a.length=N.length)(b:∀(m:Nat) (y:Nd) (s:Int),N[m]? =some y->a[m]? =some s->bW D y (m:Int) (a.take m)= (s,0)):∀(r:List Nd) (i:Nat),N.drop i=r->i<=N.length->dN D r i (a.take i)= (a,0,0)
 | [],i,g,e=>by
  have:i=N.length:=by have:=bh g;omega
  subst this;rw [dN,<-hl,Tf]
 | x::r,i,g,e=>by
  obtain⟨d,f,c⟩:=bm g;have hs:i < a.length:=by omega
  have h:=b i x _ d (QK hs);rw [dN,h,if_pos rfl];show dN D r (i+1) (a.take i++ [a[i]])=_;rw [List.take_append_getElem hs];exact Gt hl b r (i+1) c (by omega)
theorem Qr{D:List Dc}{M:Mk}{σ:List Int}(ty:Ty D M σ)(l:∀x∈M.N,x.ek=true->x.ks= []){hold:List Int}(r:∀k∈hold,br σ k 1):
  ∃c,dN D (jf M.N hold).1 0 []= (c,0,0)/\c.length= (jf M.N hold).1.length/\(∀s∈c,aE s=false)/\(∀y∈(jf M.N hold).1,(y.op < 15\/23 < y.op)/\(y.ek=true->y.ks= []))/\(∀k∈(jf M.N hold).2,br c k 1)/\(jf M.N hold).1.length<=M.N.length:=by
 have hl:(dX (List.replicate M.N.length false) hold).length=M.N.length:=by rw [qH,R8]
 have n:=ty.in;have i:∀(j:Nat) (x:Nd),M.N[j]? =some x->eZ (back M.N (dX (List.replicate M.N.length false) hold) M.N.length) j=true->∀k∈x.ks,eZ (back M.N (dX (List.replicate M.N.length false) hold) M.N.length) k.toNat=true:=
  λj x p ho k g=>AU n M.N.length _ (by omega) j x (QC.1 p).1 p ho k g
 obtain⟨c,a,o⟩:=yH ty l i M.N 0 (List.replicate M.N.length 0) [] [] rfl (RL _) ⟨by simp,λj u=>by omega,rfl,λm y s hm=>by simp at hm⟩;refine⟨c, ?_,a.len,λs hs=> ?_,λy t=> ?_,λk g=> ?_,by have h:=o;rw [QW,Rh] at h;exact h⟩
 .have:=Gt (D:=D) a.len (λm y s d b=>(a.nd m y s d b).1) _ 0 rfl (RL _);exact this
 .obtain⟨m,hm⟩:=RJ hs;have e:m < (jf M.N hold).1.length:=by
   have:=(QC.1 hm).1;have b:=a.len;unfold jf;dsimp only;omega
  exact(a.nd m _ s (QK e) hm).2.1
 .obtain⟨m,hm⟩:=RJ t;have e:m < c.length:=by rw [a.len];exact(QC.1 hm).1
  obtain⟨_,_,d,b⟩:=a.nd m y _ hm (QK e);exact⟨d,b⟩
 .obtain⟨z,q,rfl⟩:=Rb.1 (show k∈hold.map _ from g);have d:=r z q;have f:z.toNat < M.N.length:=by rw [<-ty.len];exact(QC.1 d.2).1
  have b:=a.to z.toNat f (wX _ _ (yU q (by rw [R8];exact f)));rw [d.getD] at b;exact b
open Go Go.Aev
abbrev NW(p:ByteArray)(k b:Nat):ByteArray:=p++it (k:Int)++us++it (b:Int)
theorem qK(p:ByteArray)(k b:Nat):bl (NW p k b)=bl p++ (Go.Lib.itoa (k:Int)++95::Go.Lib.itoa (b:Int)):=by unfold NW;simp only [oF,tZ];simp [bl]
theorem EY{p:ByteArray}{k d b a:Nat}(h:NW p k b=NW p d a):k=d/\b=a:=by have c:=congrArg bl h;rw [qK,qK] at c;obtain⟨e,f⟩:=pX (DS _) (DS _) (List.append_cancel_left c);have g:=qB e;have i:=qB f;omega
theorem yD(k:Nat):Go.Lib.itoa (k:Int)=Go.Lib.decDigits k:=by unfold Go.Lib.itoa;rw [if_neg (by omega)];simp
theorem w8(s:ByteArray):s.size= (bl s).length:=by show s.data.size=s.data.toList.length;simp
theorem KC(p q:ByteArray):(p++q).extract 0 p.size=p:=by
 apply w7;have:bl ((p++q).extract 0 p.size)= (bl (p++q)).take p.size:=by show((p++q).extract 0 p.size).data.toList=_;rw [ByteArray.data_extract,SR];rfl
 rw [this,oF,w8 p];exact List.take_left
theorem Ns(p:ByteArray)(k b:Nat):nW (NW p k b) p=true:=by
 have e:NW p k b=p++ (it (k:Int)++us++it (b:Int)):=by apply w7;rw [qK];simp only [oF,tZ];simp [bl]
 have d:kM (NW p k b) p=true:=by unfold kM;rw [e,KC];simp only [QZ,QF,decide_eq_true_eq,and_true];omega
 obtain⟨c,r,a⟩:=Il k;have f:(NW p k b).data.toList[p.size]? =some c:=by show(bl (NW p k b))[p.size]? =some c;rw [qK,yD,a,w8,Rg (QV _),Sc];rfl
 have g:=p7 k c (by rw [a];exact QA);unfold nW;rw [d,f];simp only [RB,QF,decide_eq_true_eq];omega
theorem EZ{ds:List Dc}{p:ByteArray}(h:jd ds p=false){d:Dc}(a:d∈ds)(k b:Nat):d.nm≠NW p k b:=λe=>by have:=Rm.1 h d a;rw [e,Ns] at this;exact this rfl
theorem Fk{ds:List Dc}:∀(k:Nat) (p:ByteArray) (n:Nat),bl p=List.replicate n (95:UInt8)->1<=n->∃m,1<=m/\bl (kg ds k p)=List.replicate m (95:UInt8)
 | 0,p,n,h,a=>⟨n,a,h⟩
 | k+1,p,n,h,a=>by
  rw [kg];split
  .refine Fk k (p++us) (n+1) ?_ (by omega);rw [oF,h,List.replicate_succ']
  .exact⟨n,a,h⟩
theorem NK(ds:List Dc):∃m,1<=m/\bl (dm ds)=List.replicate m (95:UInt8):=Fk 11 us 1 rfl (QV _)
theorem Fj{ds:List Dc}(hs:∀d∈ds,d.nm.size<=12):∀(k:Nat) (p:ByteArray),12<=p.size+k->jd ds (kg ds k p)=false
 | 0,p,h=>by
  rw [kg];cases a:jd ds p with
  | false=>rfl
  | true=>have:=wB hs a;omega
 | k+1,p,h=>by
  rw [kg];split
  .exact Fj hs k _ (by rw [QZ,gf];omega)
  .rename_i a;simpa using a
theorem NJ{ds:List Dc}(hs:∀d∈ds,d.nm.size<=12):jd ds (dm ds)=false:=Fj hs 11 us (by rw [gf];omega)
theorem A8:∀(l:List UInt8) (i:Nat),1<=i->(∀c∈l,c=95\/(48<=c.toNat/\c.toNat<=57))->kE i l=true
 | [],_,_,_=>rfl
 | c::r,i,g,h=>by
  rw [kE,A8 r (i+1) (by omega) λx d=>h x (QB _ d),R1];rcases h c QA with rfl | ⟨e,f⟩
  .simp [mY]
  .have a:(((i:Nat):Int)==0)=false:=by simp;omega
   have b:decide (((c.toNat:Nat):Int) < 48)=false:=by simp;omega
   have e3:decide (((c.toNat:Nat):Int) > 57)=false:=by simp;omega
   unfold mY;rw [a,b,e3];simp
theorem EX{p:ByteArray}{m:Nat}(d:bl p=List.replicate m (95:UInt8))(k b:Nat):∀c∈bl (NW p k b),c=95\/(48<=c.toNat/\c.toNat<=57):=λc a=>by
 rw [qK,d,yD,yD] at a;rcases QR.1 a with a | a
 .exact .inl (TC a)
 rcases QR.1 a with a | a
 .exact .inr (p7 _ c a)
 rcases QN.1 a with a | a
 .exact .inl a
 .exact .inr (p7 _ c a)
theorem Nq{p:ByteArray}{m:Nat}(hm: 1<=m)(c:bl p=List.replicate m (95:UInt8)){k b:Nat}(hs:(NW p k b).size<=12):jx (NW p k b)=true:=by
 obtain⟨m,rfl⟩:∃n,m=n+1:=⟨m - 1,by omega⟩;have a:=EX c k b;have e:∃r,bl (NW p k b)=95::r:=by rw [qK,c,RS];exact⟨_,rfl⟩
 obtain⟨r,d⟩:=e;have h: 1<=(NW p k b).size:=by rw [w8,d];simp
 unfold jx;show(kE 0 (bl (NW p k b)) && _)=true;rw [d] at a⊢;rw [kE,A8 r (0+1) (QV _) λx g=>a x (QB _ g)];have f:mY 0 95=true:=by decide
 rw [f];simp only [RB,QF,decide_eq_true_eq];omega
theorem A9:∀{l:List UInt8} {i:Nat},kE i l=true->(32:UInt8)∉l
 | [],_,_=>by simp
 | c::r,i,h=>by
  rw [kE,QF] at h;intro hm;rcases QN.1 hm with e | hm
  .rw [<-e] at h;have:=h.1;simp [mY] at this
  .exact A9 h.2 hm
theorem K9{s:ByteArray}(h:jx s=true):jN s:=by unfold jx at h;rw [QF] at h;exact A9 h.1
theorem Nr{p:ByteArray}{m:Nat}(a:bl p=List.replicate m (95:UInt8))(k b:Nat):jN (NW p k b):=λh=>by
 rcases EX a k b _ h with e | e
 .exact absurd e (by decide)
 .simp at e
theorem E3{p:ByteArray}{k:Nat}:∀(n b:Nat) (ok:Bool),lS p k b n ok=true->ok=true/\∀c,b<=c->c < b+n->(NW p k c).size<=12
 | 0,b,ok,h=>⟨h,λc a d=>by omega⟩
 | n+1,b,ok,h=>by
  rw [lS] at h;obtain⟨a,d⟩:=E3 n (b+1) _ h;rw [QF,decide_eq_true_eq] at a;refine⟨a.1,λc f g=> ?_⟩;by_cases e:c=b
  .subst e;have i:(((NW p k c).size:Nat):Int)<=12:=a.2;omega
  .exact d c (by omega) (by omega)
theorem E4{p:ByteArray}:∀(ds:List Dc) (k:Nat) (ok:Bool),hH p k ds ok=true->ok=true/\∀(j:Nat) (d:Dc),ds[j]? =some d->aE d.so=true->∀c,c < (d.so - 10).toNat->(NW p (k+j) c).size<=12
 | [],k,ok,h=>⟨h,λj d a=>by simp at a⟩
 | d::r,k,ok,h=>by
  rw [hH] at h;obtain⟨f,l⟩:=E4 r (k+1) _ h;have key:ok=true/\(aE d.so=true->∀c,c < (d.so - 10).toNat->(NW p k c).size<=12):=by
   split at f
   .obtain⟨m,n⟩:=E3 _ _ _ f;exact⟨m,λ_ c g=>n c (by omega) (by omega)⟩
   .rename_i b;exact⟨f,λe=>absurd e b⟩
  refine⟨key.1,λj i a b c g=> ?_⟩;cases j with
  | zero=>simp only [RE,Qy] at a;subst a;exact key.2 b c g
  | succ j=>have:=l j i (by simpa using a) b c g;rw [show k+1+j=k+ (j+1) by omega] at this;exact this
theorem rR{p:ByteArray}{k:Nat}{d:Dc}:∀{n b:Nat} {x:Dc},x∈fG p k d b n↔∃c,b<=c/\c < b+n/\x= ⟨NW p k c,d.ea,d.ar,1⟩
 | 0,b,x=>by
  rw [fG];constructor
  .intro h;cases h
  .rintro⟨c,f,g,_⟩;omega
 | n+1,b,x=>by
  rw [fG,QN,rR];constructor
  .rintro(h | ⟨c,f,g,a⟩)
   .exact⟨b,QV _,by omega,h⟩
   .exact⟨c,by omega,by omega,a⟩
  .rintro⟨c,f,g,a⟩;by_cases e:c=b
   .subst e;exact .inl a
   .exact .inr ⟨c,by omega,by omega,a⟩
theorem na{p:ByteArray}:∀{ds:List Dc} {k:Nat} {x:Dc},x∈cD p k ds↔(x∈ds/\aE x.so=false)\/∃(j:Nat) (d:Dc) (c:Nat),ds[j]? =some d/\aE d.so=true/\c < (d.so - 10).toNat/\x= ⟨NW p (k+j) c,d.ea,d.ar,1⟩
 | [],k,x=>by
  rw [cD];constructor
  .intro h;cases h
  .rintro(⟨h,_⟩ | ⟨j,d,c,h,_⟩)
   .cases h
   .simp at h
 | d::r,k,x=>by
  rw [cD,QR,na];constructor
  .rintro(h | ⟨a,b⟩ | ⟨j,g,c,a,b,e,f⟩)
   .split at h
    .rename_i i;obtain⟨c,_,b,e⟩:=rR.1 h;exact .inr ⟨0,d,c,rfl,i,by omega,e⟩
    .rename_i i;rw [QL] at h;subst h;exact .inl ⟨QA,by simpa using i⟩
   .exact .inl ⟨QB _ a,b⟩
   .exact .inr ⟨j+1,g,c,by simpa using a,b,e,by rw [f,show k+1+j=k+ (j+1) by omega]⟩
  .rintro(⟨a,b⟩ | ⟨j,g,c,a,b,e,f⟩)
   .rcases QN.1 a with rfl | a
    .left;rw [if_neg (by rw [b];decide)];exact QL.2 rfl
    .exact .inr (.inl ⟨a,b⟩)
   .cases j with
    | zero=>simp only [RE,Qy] at a;subst a;left;rw [if_pos b];exact rR.2 ⟨c,by omega,by omega,f⟩
    | succ j=>exact .inr (.inr ⟨j,g,c,by simpa using a,b,e,by rw [f,show k+1+j=k+ (j+1) by omega]⟩)
abbrev l7(ds:List Dc):Prop:=ds.Pairwise λa b=>a.nm≠b.nm
theorem A2{p:ByteArray}{k:Nat}{d:Dc}:∀(n b:Nat),l7 (fG p k d b n)
 | 0,b=>List.Pairwise.nil
 | n+1,b=>by rw [fG];refine List.Pairwise.cons (λx f e=> ?_) (A2 n (b+1));obtain⟨c,g,_,a⟩:=rR.1 f;rw [a] at e;have:=EY (show NW p k b=NW p k c from e);omega
theorem Bn{p:ByteArray}{f:List Dc}(g:jd f p=false):∀(ds:List Dc) (k:Nat),(∀d∈ds,d∈f)->l7 ds->l7 (cD p k ds)
 | [],k,_,_=>List.Pairwise.nil
 | d::r,k,hs,h=>by
  obtain⟨o,q⟩:=List.pairwise_cons.1 h;rw [cD];refine Tq.2 ⟨?_,Bn g r (k+1) (λx a=>hs x (QB _ a)) q,λx a y i=> ?_⟩
  .split
   .exact A2 _ _
   .exact List.pairwise_singleton _ _
  .have s:=λz (t:z∈r)=>hs z (QB _ t);split at a
   .obtain⟨c,_,_,rfl⟩:=rR.1 a;rcases na.1 i with⟨b,_⟩ | ⟨j,l,c',b,m,n,rfl⟩
    .exact λe=>EZ g (s y b) k c e.symm
    .intro e;have:=EY (show NW p k c=NW p (k+1+j) c' from e);omega
   .rw [QL] at a;subst a;rcases na.1 i with⟨b,_⟩ | ⟨j,l,c',b,m,n,rfl⟩
    .exact o y b
    .exact EZ g (hs x QA) _ _
theorem Fw:∀{D:List Dc},l7 D->∀x∈D,∀y∈D,x.nm=y.nm->x=y
 | [],_,x,c,_,_,_=>by cases c
 | d::r,h,x,c,y,k,e=>by
  obtain⟨i,j⟩:=List.pairwise_cons.1 h;rcases QN.1 c with f | a <;> rcases QN.1 k with g | b
  .rw [f,g]
  .rw [f] at e;exact absurd e (i y b)
  .rw [g] at e;exact absurd e.symm (i x a)
  .exact Fw j x a y b e
theorem Dl{nm:ByteArray}:∀{D:List Dc} {i:Nat},(∃x∈D,x.nm=nm)->0<=iv nm i D
 | [],_,⟨x,a,_⟩=>by cases a
 | d::r,i,⟨x,a,e⟩=>by
  rw [iv];split
  .omega
  .rename_i b;rcases QN.1 a with rfl | a
   .exact absurd e b
   .exact Dl ⟨x,a,e⟩
theorem Dj{D:List Dc}(h:l7 D){x:Dc}(b:x∈D):Fn D x.nm x.ar x.so:=by have h0: 0<=bf D x.nm:=Dl ⟨x,b,rfl⟩;obtain⟨k,d,f,c,e,a⟩:=Dk h0;have:=Fw h d (QH c) x b e;subst this;exact⟨h0,by rw [a],by rw [a]⟩
theorem Bb{ds:List Dc}:∀{r:List Dc} {a:List Dc} {i:Nat},(eG a i r).1=0->l7 a->l7 (a++r)
 | [],a,_,_,b=>by rw [QX];exact b
 | x::r,a,i,h,b=>by
  rw [eG] at h;split at h
  .rename_i h0;have d:=(xr h0).2.2.2.2.2.1;have:=Bb (ds:=ds) h (Tq.2 ⟨b,List.pairwise_singleton _ _,λy e z c=>by
    rw [QL] at c;subst c;have:=Rm.1 d y e;simpa using this⟩)
   rw [Q6] at this;exact this
  .rename_i h0;exact absurd h h0
theorem Ic{a:List Dc}{d:Dc}(f:jx d.nm=true)(g:∀x∈a,x.nm≠d.nm)(m:d.ar.length<=8)(i:mn d.so=true)(j:∀s∈d.ar,s=4)(k:d.so=5->d.ar= []):fx a d=0:=by
 unfold fx;have c:(a.any λx=>decide (x.nm=d.nm))=false:=by rw [Rm];intro x l;simp [g x l]
 have e:(d.ar.any λs=> !(s==4))=false:=by rw [Rm];intro s hs;simp [j s hs]
 rw [f,c,e,i,if_neg (by decide),if_neg (by decide),if_neg (by omega),if_neg];rintro(h | h | ⟨h,b⟩)
 .cases h
 .cases h
 .rw [k h] at b;simp at b
theorem Ba:∀{r:List Dc} {a:List Dc} {i:Nat},l7 (a++r)->(∀d∈r,jx d.nm=true/\d.ar.length<=8/\mn d.so=true/\(∀s∈d.ar,s=4)/\(d.so=5->d.ar= []))->eG a i r= (0,0)
 | [],_,_,_,_=>rfl
 | d::r,a,i,h,c=>by obtain⟨e,f,g,j,k⟩:=c d QA;obtain⟨_,_,l⟩:=Tq.1 h;rw [eG,if_pos (Ic e (λx b=>l x b d QA) f g j k)];exact Ba (by rw [Q6];exact h) λx b=>c x (QB _ b)
theorem Ig{ds:List Dc}(h:(eG [] 0 ds).1=0)(w:hH (dm ds) 0 ds true=true):tz ds (cD (dm ds) 0 ds) (dm ds)/\eG [] 0 (cD (dm ds) 0 ds)= (0,0)/\∀d∈cD (dm ds) 0 ds,aE d.so=false:=by
 have f:∀d∈ds,d.nm.size<=12/\d.ar.length<=8/\(∀s∈d.ar,s=4)/\jx d.nm=true/\mn d.so=true/\(d.so=5->d.ar= []):=λd a=>by obtain⟨j,B⟩:=RJ a;obtain⟨H,n,o,q,r,_,t⟩:=xr (xl h j d B);exact⟨H,n,o,q,r,t⟩
 have z:l7 ds:=by simpa using Bb (ds:=ds) h List.Pairwise.nil
 have E:=NJ λd a=>(f d a).1;obtain⟨m,hm,y⟩:=NK ds;have p:=Bn E ds 0 (λd a=>a) z;have F:∀d∈cD (dm ds) 0 ds,aE d.so=false:=λd a=>by
  rcases na.1 a with⟨_,g⟩ | ⟨j,I,c,i,u,v,rfl⟩
  .exact g
  .rfl
 refine⟨⟨λd a l=>Dj p (na.2 (.inl ⟨a,l⟩)),λk d C l b A=> ?_,λd a=>K9 (f d a).2.2.2.1,λk b=>Nr y k b,λd a=>⟨(f d a).2.1,(f d a).2.2.1⟩⟩,Ba (by simpa using p) λx G=> ?_,F⟩
 .have:(⟨NW (dm ds) (0+k) b,d.ea,d.ar,1⟩:Dc)∈cD (dm ds) 0 ds:=na.2 (.inr ⟨k,d,b,C,l,A,rfl⟩);have:=Dj p this;rw [Rh] at this;exact this
 .rcases na.1 G with⟨i,_⟩ | ⟨j,d,c,i,u,v,rfl⟩
  .obtain⟨_,n,o,q,r,t⟩:=f x i;exact⟨q,n,r,o,t⟩
  .obtain⟨_,n,o,_,_,_⟩:=f d (QH i);refine⟨Nq hm y ((E4 ds 0 true w).2 j d i u c v),n,rfl,o,λe=>absurd (show(1:Int)=5 from e) (by decide)⟩
open Go Go.Aev
theorem DE{ss:List Int}:∀{r:List Int} {j:Nat},(∀k∈r,br ss k 1)->eH ss r j= (0,0)
 | [],_,_=>rfl
 | k::r,j,h=>by have a:=h k QA;have c:=a.1;have d:=a.lt;rw [eH,if_neg (by omega),if_neg (by rw [a.getD];simp)];exact DE λx b=>h x (QB _ b)
theorem PW{b:As}{a:List Int}(g:b.ds.length<=30)(c:eG [] 0 b.ds= (0,0))(h:b.ns.length<=200)(d:dN b.ds b.ns 0 []= (a,0,0))(i:b.hs.length<=200)(e:∀k∈b.hs,br a k 1):bE b= (a,0,0):=by unfold bE;rw [if_neg (by omega),if_neg (by rw [c];simp),if_neg (by omega),d];unfold iI;have f:eH a b.hs 0= (0,0):=DE e;rw [if_neg (by simp),if_neg (by omega),if_neg (by rw [f];simp)]
theorem Gr{a:As}(h:(bE a).2.1=0):a.ds.length<=30/\(eG [] 0 a.ds).1=0/\a.ns.length<=200/\a.hs.length<=200/\dN a.ds a.ns 0 []= ((bE a).1,0,0):=by
 unfold bE at h⊢;by_cases e: 30 < a.ds.length
 .rw [if_pos e] at h;exact absurd (show(2:Int)=0 from h) (by decide)
 rw [if_neg e] at h⊢;by_cases b:(eG [] 0 a.ds).1≠0
 .rw [if_pos b] at h;exact absurd h b
 rw [if_neg b] at h⊢;by_cases c3: 200 < a.ns.length
 .rw [if_pos c3] at h;exact absurd (show(2:Int)=0 from h) (by decide)
 rw [if_neg c3] at h⊢;unfold iI at h⊢;by_cases c:(dN a.ds a.ns 0 []).2.1≠0
 .rw [if_pos c] at h;exact absurd h c
 rw [if_neg c] at h⊢;by_cases f: 200 < a.hs.length
 .rw [if_pos f] at h;exact absurd (show(2:Int)=0 from h) (by decide)
 rw [if_neg f] at h⊢;by_cases d:(eH (dN a.ds a.ns 0 []).1 a.hs 0).1≠0
 .rw [if_pos d] at h;exact absurd h d
 rw [if_neg d];obtain⟨t,g,j,k⟩:=wu (ds:=a.ds) (r:=a.ns) (i:=0) (ss:= []) rfl (by simpa using c);refine⟨by omega,by simpa using b,by omega,by omega, ?_⟩;rw [g]
theorem Nw{a:As}{es:Bool}(h:(bE a).2.1=0):∀(i:Nat) (x:Nd) (s:Int),a.ns[i]? =some x->(bE a).1[i]? =some s->tR (jT a es (bE a).1) i x s:=λi x s g hs=>by obtain⟨_,_,_,_,c⟩:=Gr h;obtain⟨t,b,j,f⟩:=wu (ds:=a.ds) (r:=a.ns) (i:=0) (ss:= []) rfl (by rw [c]);rw [c,RO,Rk] at b;obtain⟨d,e⟩:=f i x g;rw [Rh,RO] at d e;rw [b.1] at hs;show bW a.ds x (i:Int) ((bE a).1.take i)= (s,0);rw [b.1];rw [e] at hs;simp only [Qy] at hs;exact Prod.ext hs d
def p8(a:As):List Dc:=cD (dm a.ds) 0 a.ds
def pY(a:As):Cx:=jT a (bE a).1.isEmpty (bE a).1
def jY(a:As):Tr×Mk:=hF (pY a) a.ns (bE a).1 ⟨[],[]⟩ ⟨[],[]⟩
def pq(a:As):List Nd×List Int:=mK (pY a) (jY a)
def sQ(a:As):Bool:=hH (dm a.ds) 0 a.ds true && decide ((((p8 a).length:Nat):Int)<=30)
def nZ(a:As):Bool:=pr a.ds (bE a).1
def sG(a:As):Bool:=nZ a && (!sQ a || (decide (800 < (jY a).2.N.length) || decide (200 < (pq a).1.length)))
def bF(a:As):As:=
 if nZ a then⟨(p8 a).isEmpty,p8 a,(pq a).1.isEmpty,(pq a).1,(pq a).2.isEmpty,(pq a).2⟩
 else⟨a.ds.isEmpty,a.ds,a.ns.isEmpty,a.ns,a.eh,a.hs⟩
abbrev NB(b:As):List T:= [T.ab 3 b.ed (aI b.ds),T.ab 5 b.en (aW b.ns),T.ab 1 b.eh (enc b.hs),ti 0,ti 0]
theorem Ip{a:As}(h:(bE a).2.1=0):uu a=if sG a then sH else NB (bF a):=by
 unfold uu;rw [if_pos h];unfold uv sG bF;show(if nZ a then kW (pY a) (p8 a) (sQ a) (jY a) else _)=_;cases f:nZ a with
 | false=>rfl
 | true=>
  unfold kW;simp only [if_true,RB];cases e:sQ a with
  | false=>simp
  | true=>
   by_cases d: 800 < (jY a).2.N.length
   .simp [d]
   .by_cases c: 200 < (pq a).1.length
    .have b: 200 < (mK (pY a) (jY a)).1.length:=c;simp [d,c,b]
    .have b:¬200 < (mK (pY a) (jY a)).1.length:=c;simp only [d,c,b,decide_false,QE,Bool.or_false,Bool.true_eq_false,or_self,if_false,Q9];rfl
structure G8 (a b:As):Prop where
 wf:n7 b
 so:∃τ,bE b= (τ,0,0)/\τ.length=b.ns.length/\∀s∈τ,aE s=false
 op:∀y∈b.ns,y.op < 15\/23 < y.op
 dw:∀d∈b.ds,aE d.so=false
 hl:b.hs.length=a.hs.length
 ed:b.ed=b.ds.isEmpty
 en:b.en=b.ns.isEmpty
theorem Nv:Ok ⟨[],[]⟩:=⟨λi x h=>by simp at h,λi x h=>by simp at h,λp h=>(by cases h),λi x h=>by simp at h,λi x h=>by simp at h⟩
theorem Hz{a:As}(wf:n7 a)(h:(bE a).2.1=0)(hm:sG a=false):G8 a (bF a):=by
 obtain⟨ok,hda⟩:=pZ (es:=(bE a).1.isEmpty) h;obtain⟨g1,U,g3,V,g5⟩:=Gr h;have J:∀d∈a.ds,d.nm.size<=12:=ok.ds;unfold bF;cases l:nZ a with
 | true=>
  rw [if_pos rfl];unfold sG at hm;rw [l,RB,RD,RD] at hm;obtain⟨m1,m2,m3⟩:=hm;have o:sQ a=true:=by simpa using m1
  unfold sQ at o;rw [QF,decide_eq_true_eq] at o;have P:(jY a).2.N.length<=800:=by simpa using m2
  have Q:(pq a).1.length<=200:=by simpa using m3
  have hps:(dm a.ds).size<=12:=zk J 11 us (by rw [gf];omega);obtain⟨T,I,K⟩:=Ig U o.1;obtain⟨σ,ty,tt,O⟩:=Er (c:=pY a) ok (D:=p8 a) T (by show(dm a.ds).size<=100;omega) (Nw h) a.ns (bE a).1 0 ⟨[],[]⟩ ⟨[],[]⟩ [] rfl rfl (RL _) ⟨Nv,rfl,rfl,λk s g=>by omega,λk s g=>by omega⟩ (by simp) ⟨rfl,λi x s m=>by simp at m,λp Z=>by cases Z⟩ ⟨λk s g=>by omega,λk s g=>by omega⟩ P;have Y:∀k∈a.hs.map (bu (jY a).1),br σ k 1:=λk g=>by
   obtain⟨z,hz,rfl⟩:=Rb.1 g;obtain⟨z0,H⟩:=ok.ho z hz;have B:z.toNat < a.ns.length:=by have:=(QC.1 H).1;have r:(jT a (bE a).1.isEmpty (bE a).1).ss.length=a.ns.length:=ok.sl;omega
   obtain⟨_,v,r,_⟩:=O.p z.toNat 1 B H rfl;have X:=tt.p z.toNat 1 B H rfl v r;unfold bu;rw [QI,show(jY a).1.to[z.toNat]? =some v from r];exact X
  obtain⟨τ,u1,u2,u3,R,u5,u6⟩:=Qr (M:=(jY a).2) ty (λx m f=>by
   obtain⟨i,t⟩:=RJ m;have:=O.ok.ek i x t;rw [f] at this;exact Sb.1 this.symm) Y
  refine⟨⟨λd C f=> ?_,λx m=>(R x m).2,λf=>Sb.1 f⟩,⟨τ,PW (by show(p8 a).length<=30;omega) I Q u1 (by show((a.hs.map (bu (jY a).1)).map _).length<=200;rw [Rr,Rr];exact V) u5,u2,u3⟩,λy E=>(R y E).1,K, ?_,rfl,rfl⟩
  .rcases na.1 (show d∈cD (dm a.ds) 0 a.ds from C) with⟨F,_⟩ | ⟨j,S,c,F,_,_,rfl⟩
   .exact wf.d d F f
   .exact wf.d S (QH F) f
  .show((a.hs.map (bu (jY a).1)).map _).length=_;rw [Rr,Rr]
 | false=>
  rw [if_neg (by decide)];unfold nZ pr at l;rw [RD] at l;have G:∀s∈(bE a).1,aE s=false:=λs hs=>by simpa using Rm.1 l.1 s hs
  have w2:∀d∈a.ds,aE d.so=false:=λd C=>by simpa using Rm.1 l.2 d C
  have hs:bE ⟨a.ds.isEmpty,a.ds,a.ns.isEmpty,a.ns,a.eh,a.hs⟩=bE a:=rfl;refine⟨⟨wf.d,wf.n,wf.h⟩,⟨(bE a).1, ?_,ok.sl,G⟩,λy E=> ?_,w2,rfl,rfl,rfl⟩
  .rw [hs];exact Prod.ext rfl (Prod.ext h (Gq h))
  .obtain⟨i,t⟩:=RJ (show y∈a.ns from E);have w:i < (bE a).1.length:=by
    have r:(bE a).1.length=a.ns.length:=ok.sl;have:=(QC.1 t).1;omega
   have L:(bE a).1[i]? =some (bE a).1[i]:=QK w;have u:=ok.nd i y _ t L;have b:=G _ (Su w);rcases Tn (y.op < 15\/23 < y.op) with e | e
   .exact e
   exfalso;by_cases gq:y.op=15
   .have:=u.gq gq;have W:aE (bE a).1[i]=true:=by unfold aE;simp;omega
    rw [W] at b;cases b
   by_cases ff:y.op=16\/y.op=23
   .rw [(u.ff ff).1] at b;cases b
   by_cases eW:y.op=22
   .obtain⟨_,p,q,s',A,_,k1,_⟩:=u.eW eW;have:=G s' (QH k1.so);rw [this] at A;cases A
   rw [(u.gT (by omega) (by omega)).1] at b;cases b
open Go Go.Aev
theorem HG:∀x:_root_.Fin 256,∀b:_root_.Fin 8,dZ ((x.val:Nat):Int) b.val= (((x.val / 2 ^ b.val) % 2:Nat):Int):=by decide+kernel
theorem HF{x b:Nat}(c:x < 256)(a:b < 8):dZ (x:Int) b= ((x / 2 ^ b % 2:Nat):Int):=HG ⟨x,c⟩ ⟨b,a⟩
def oD(n:Int):Nat->Nat->List Int
 | _,0=> []
 | b,k+1=>dZ n b::oD n (b+1) k
theorem G5{x:Nat}(a:x < 256):∀(k b:Nat),b+k<=8->jM b (oD (x:Int) b k)= ((x / 2 ^ b % 2 ^ k * 2 ^ b:Nat):Int)
 | 0,b,_=>by simp [oD,jM,Nat.mod_one]
 | k+1,b,h=>by
  rw [oD,jM,G5 a k (b+1) (by omega),HF a (by omega)];have c:x / 2 ^ b % 2 ^ (k+1)=x / 2 ^ b % 2+2 * (x / 2 ^ b / 2 % 2 ^ k):=by rw [Nat.pow_succ',Nat.mod_mul]
  have d:x / 2 ^ (b+1)=x / 2 ^ b / 2:=by rw [Nat.pow_succ,Nat.div_div_eq_div_mul]
  have e3:(2:Nat) ^ (b+1)=2 ^ b * 2:=Nat.pow_succ ..;rw [c,d,e3];generalize x / 2 ^ b / 2 % 2 ^ k=u;generalize x / 2 ^ b % 2=v;have e:((2:Int) ^ b)= ((2 ^ b:Nat):Int):=by simp
  rw [e];generalize (2:Nat) ^ b=w;rw [<-Int.natCast_mul,<-Int.natCast_add];congr 1;rw [So,Nat.mul_comm w 2,<-Nat.mul_assoc,Nat.mul_comm u 2]
theorem DY{n:Int}{w:Nat}(h0: 0<=n)(c:n < 2 ^ w)(d:w<=8):jM 0 (oD n 0 w)=n:=by
 obtain⟨x,rfl⟩:=Tb h0;have a:x < 2 ^ w:=by exact_mod_cast c
 have b:x < 256:=RC a (Nat.pow_le_pow_right (by decide) d: 2 ^ w<=2 ^ 8);rw [G5 b w 0 (by omega),Nat.pow_zero,Nat.div_one,Nat.mul_one,SV a]
theorem HE(n:Int)(b:Nat):dZ n b=0\/dZ n b=1:=by
 unfold dZ;have:(BitVec.ofInt 64 (n.fdiv (2 ^ min b 64)) &&& BitVec.ofInt 64 1).toNat<=1:=by rw [BitVec.toNat_and];exact Nat.and_le_right
 generalize (BitVec.ofInt 64 (n.fdiv (2 ^ min b 64)) &&& BitVec.ofInt 64 1).toNat=u at this;rw [wr (by omega)];omega
theorem DK{v:Va}{b:Nat}:cY 1 (oE v b)=true:=by
 have:cY 1 ⟨false,0,1,true,[],0⟩=true/\cY 1 ⟨false,1,1,true,[],0⟩=true:=by decide+kernel
 unfold oE;rcases HE v.n b with e | e <;> rw [e]
 .exact this.1
 .exact this.2
theorem yA{s:Int}{v:Va}(a:aE s=true)(h:cY s v=true):v.cs= []/\v.r=0/\v.d=1/\0<=v.n/\v.n < 2 ^ (s - 10).toNat:=by
 have hs:=qA.1 a;unfold cY at h;rw [if_neg (by omega)] at h;split at h
 .cases h
 rename_i c;rw [if_neg (by omega),if_neg (by omega),QF,decide_eq_true_eq,decide_eq_true_eq] at h;refine⟨S3 λe=>c (.inl e),S3 λe=>c (.inr (.inl e)),S3 λe=>c (.inr (.inr (.inr ⟨by omega,e⟩))),h.1,h.2⟩
structure Am (d:Dc) (m:Me):Prop where
 l:m.rs.length<=1000
 a:(m.rs.any λe=> !((e.ar.length:Int)== (d.ar.length:Int)))=false
 t:(m.rs.any λe=>e.ar.any λn=> !dO n)=false
 u:fI [] m.rs=false
 r:cY d.so m.re=true
 v:(m.rs.any λe=> !cY d.so e.to)=false
theorem yW{d:Dc}{m:Me}(h:eQ d m=0):Am d m:=by
 unfold eQ at h;split at h
 .exact absurd h (by decide)
 rename_i f;split at h
 .exact absurd h (by decide)
 rename_i a;split at h
 .exact absurd h (by decide)
 rename_i c3;split at h
 .exact absurd h (by decide)
 rename_i b;split at h
 .exact absurd h (by decide)
 rename_i c;split at h
 .exact absurd h (by decide)
 rename_i e;exact⟨by omega,by simpa using a,by simpa using c3,by simpa using b,by simpa using c,by simpa using e⟩
theorem Eu{d:Dc}{m:Me}(h:Am d m):eQ d m=0:=by unfold eQ;rw [if_neg (by have:=h.l;omega),h.a,h.t,h.u,h.r,h.v];rfl
theorem rN{f:En->En}{P:List Int->Bool}(a:∀e,(f e).ar=e.ar)(l:List En):((l.map f).any λe=>P e.ar)=l.any λe=>P e.ar:=by rw [TG];congr 1;funext e;show P (f e).ar=P e.ar;rw [a]
theorem ux{f:En->En}(c:∀e,(f e).ar=e.ar):∀(r b:List En),fI (b.map f) (r.map f)=fI b r
 | [],b=>rfl
 | e::r,b=>by rw [Rc,fI,fI,c e,rN (P:=λa=>decide (a=e.ar)) c];have:=ux c r (b++ [e]);rw [SD,Rc,Rz] at this;rw [this]
theorem LG{d:Dc}{m:Me}{nm:ByteArray}{b:Nat}(h:eQ d m=0):eQ ⟨nm,d.ea,d.ar,1⟩ (cF m b)=0:=by
 have k:=yW h;have c:∀e,(cr b e).ar=e.ar:=λe=>rfl;refine Eu ⟨by show(m.rs.map (cr b)).length<=1000;rw [Rr];exact k.l, ?_, ?_, ?_,DK, ?_⟩
 .show((m.rs.map (cr b)).any λe=> !((e.ar.length:Int)== (d.ar.length:Int)))=false;rw [rN (P:=λa=> !((a.length:Int)== (d.ar.length:Int))) c];exact k.a
 .show((m.rs.map (cr b)).any λe=>e.ar.any λn=> !dO n)=false;rw [rN (P:=λa=>a.any λn=> !dO n) c];exact k.t
 .show fI (List.map (cr b) []) (m.rs.map (cr b))=false;rw [ux c];exact k.u
 .show((m.rs.map (cr b)).any λe=> !cY 1 e.to)=false;rw [TG,Rm];intro e _;show ¬(!cY 1 (oE e.to b))=true;rw [DK];decide
theorem Et{d:Dc}{m:Me}(h:eQ d m=0):eQ d (dS m)=0:=by
 have k:=yW h;have b:∀e,(nE e).ar=e.ar:=λe=>rfl;refine Eu ⟨by show(m.rs.map nE).length<=1000;rw [Rr];exact k.l, ?_, ?_, ?_,k.r, ?_⟩
 .show((m.rs.map nE).any λe=> !((e.ar.length:Int)== (d.ar.length:Int)))=false;rw [rN (P:=λa=> !((a.length:Int)== (d.ar.length:Int))) b];exact k.a
 .show((m.rs.map nE).any λe=>e.ar.any λn=> !dO n)=false;rw [rN (P:=λa=>a.any λn=> !dO n) b];exact k.t
 .show fI (List.map nE []) (m.rs.map nE)=false;rw [ux b];exact k.u
 .show((m.rs.map nE).any λe=> !cY d.so e.to)=false;rw [TG];exact k.v
def iK:List Dc->List Me->Prop
 | [],[]=>True
 | d::ds,m::ms=>eQ d m=0/\iK ds ms
 | _,_=>False
theorem Av:∀{ds:List Dc} {ms:List Me},ms.length=ds.length->(∀(j:Nat) (d:Dc) (m:Me),ds[j]? =some d->ms[j]? =some m->eQ d m=0)->iK ds ms
 | [],[],_,_=>trivial
 | [],_::_,h,_=>by simp at h
 | _::_,[],h,_=>by simp at h
 | d::ds,m::ms,h,a=>⟨a 0 d m rfl rfl,Av (by simpa using h) λj b f c e=>a (j+1) b f (by simpa using c) (by simpa using e)⟩
theorem At:∀{ds:List Dc} {ms:List Me},iK ds ms->ms.length=ds.length/\∀i,lE i ds ms= (0,0)
 | [],[],_=>⟨rfl,λi=>rfl⟩
 | [],_::_,h=>h.elim
 | _::_,[],h=>h.elim
 | d::ds,m::ms,h=>by obtain⟨a,b⟩:=At h.2;exact⟨by rw [QJ,QJ,a],λi=>by rw [lE,if_pos h.1];exact b _⟩
theorem Aq:∀{a:List Dc} {x:List Me} {b:List Dc} {y:List Me},iK a x->iK b y->iK (a++b) (x++y)
 | [],[],_,_,_,h=>h
 | [],_::_,_,_,h,_=>h.elim
 | _::_,[],_,_,h,_=>h.elim
 | d::ds,m::ms,_,_,h,c=>⟨h.1,Aq h.2 c⟩
theorem Ar{p:ByteArray}{k:Nat}{d:Dc}{m:Me}(h:eQ d m=0):∀(n b:Nat),iK (fG p k d b n) (ef m b n)
 | 0,_=>trivial
 | n+1,b=>⟨LG h,Ar h n (b+1)⟩
theorem Au{p:ByteArray}:∀{ds:List Dc} {ms:List Me} (k:Nat),iK ds ms->iK (cD p k ds) (dT ds ms)
 | [],[],_,_=>trivial
 | [],_::_,_,h=>h.elim
 | _::_,[],_,h=>h.elim
 | d::ds,m::ms,k,h=>by
  rw [cD,dT];refine Aq ?_ (Au (k+1) h.2);unfold gI bB;split
  .exact Ar h.1 _ _
  .exact⟨Et h.1,trivial⟩
theorem Aw:∀{ds:List Dc} {ms:List Me},(∀d∈ds,aE d.so=false)->iK ds ms->iK ds (dT ds ms)
 | [],[],_,_=>trivial
 | [],_::_,_,h=>h.elim
 | _::_,[],_,h=>h.elim
 | d::ds,m::ms,a,h=>by rw [dT];unfold gI;rw [if_neg (by rw [a d QA];decide)];exact⟨Et h.1,Aw (λx b=>a x (QB _ b)) h.2⟩
theorem P8{m:Me}{b:Nat}{x:List Int}:kv (cF m b) x=dZ (kv m x) b:=by
 unfold kv;show jJ (m.rs.map (cr b)) (dZ m.re.n b) x=_;induction m.rs with
 | nil=>rfl
 | cons e r a=>
  rw [Rc,jJ,jJ];show(if e.ar=x then dZ e.to.n b else _)=_;split
  .rfl
  .exact a
theorem w6{m:Me}{f:Me->Int}{g:Int}(a:∀b,f (cF m b)=dZ g b):∀(k b:Nat),(ef m b k).map f=oD g b k
 | 0,_=>rfl
 | k+1,b=>by rw [ef,Rc,a,oD,w6 a k (b+1)]
theorem DW{q:Bool}{val:List Int->Int}:∀(r b c:List En),(∀a:List Int,(b.any λx=>decide (x.ar=a))=c.any λx=>decide (x.ar=a))->fI c r=false->eO q val b r=b++r.map λe=>⟨e.ea,e.ar,nu q (val e.ar)⟩
 | [],b,c,_,_=>by rw [eO,Rz,QX]
 | e::r,b,c,h,d=>by rw [fI,RD] at d;rw [eO,h e.ar,d.1,if_neg (by decide),DW r _ (c++ [e]) (λa=>by rw [List.any_append,List.any_append,h a];rfl) d.2,Q6];rfl
theorem DX{q:Bool}{val:List Int->Int}:∀(r a:List En),(∀e∈r,(a.any λx=>decide (x.ar=e.ar))=true)->eO q val a r=a
 | [],a,_=>by rw [eO]
 | e::r,a,h=>by rw [eO,if_pos (h e QA)];exact DX r a λx b=>h x (QB _ b)
theorem DV{q:Bool}{val:List Int->Int}{m:Me}{a:List En}(h:∀e∈m.rs,(a.any λx=>decide (x.ar=e.ar))=true):∀(k b:Nat),gX q val a (ef m b k)=a
 | 0,_=>rfl
 | k+1,b=>by
  rw [ef,gX,DX _ a λe c=>by
   obtain⟨x,d,rfl⟩:=Rb.1 (show e∈m.rs.map (cr b) from c);exact h x d]
  exact DV h k (b+1)
theorem Lb{q:Bool}{m:Me}{w:Nat}(c:fI [] m.rs=false)(g: 1<=w):gY q (ef m 0 w)=m.rs.map λe=>⟨e.ea,e.ar,nu q (fW (ef m 0 w) e.ar)⟩:=by
 unfold gY;generalize fW (ef m 0 w)=val;obtain⟨w,rfl⟩:∃k,w=k+1:=⟨w - 1,by omega⟩;rw [ef,gX];have b:eO q val [] (cF m 0).rs=m.rs.map λe=>⟨e.ea,e.ar,nu q (val e.ar)⟩:=by show eO q val [] (m.rs.map (cr 0))=_;rw [DW (m.rs.map (cr 0)) [] (List.map (cr 0) []) (λa=>rfl) (by rw [ux (f:=cr 0) λe=>rfl];exact c),RO,SQ];rfl
 rw [b];refine DV (λe d=> ?_) w (0+1);rw [TG];exact Sl.2 ⟨e,d,by simp⟩
theorem By:∀(a r:List En) (x e:En),x∈a->e∈r->fI a r=false->x.ar≠e.ar
 | a,[],x,e,_,b,_=>by cases b
 | a,y::r,x,e,d,b,h=>by
  rw [fI,RD] at h;rcases QN.1 b with rfl | c
  .have:=Rm.1 h.1 x d;simpa using this
  .exact By (a++ [y]) r x e (QQ _ d) c h.2
theorem GN:∀{rs:List En} {d:Int} (a:List En),fI a rs=false->∀e∈rs,jJ rs d e.ar=e.to.n
 | [],_,_,_,e,c=>by cases c
 | x::r,d,a,h,e,c=>by
  rw [fI,RD] at h;rw [jJ];rcases QN.1 c with rfl | b
  .rw [if_pos rfl]
  .have f:x.ar≠e.ar:=By (a++ [x]) r x e (QP _ (QL.2 rfl)) b h.2;rw [if_neg f];exact GN (a++ [x]) h.2 e b
theorem ye{f:En->En}:∀{l:List En},(∀e∈l,(f e).ar=e.ar/\oO (f e).to e.to)->kK (l.map f) l
 | [],_=>trivial
 | e::r,h=>⟨⟨(h e QA).1,(h e QA).2⟩,ye λx a=>h x (QB _ a)⟩
theorem Ld{d:Dc}{m:Me}(i:aE d.so=true)(h:eQ d m=0):kK (fX false (ef m 0 (bB d.so))).rs m.rs/\oO (fX false (ef m 0 (bB d.so))).re m.re/\(fX false (ef m 0 (bB d.so))).rs.length<=1000:=by
 have k:=yW h;have hs:=qA.1 i;have c: 1<=bB d.so/\bB d.so<=8:=by unfold bB;omega
 have j:=Lb (q:=false) k.u c.1;have w:∀e∈m.rs,cY d.so e.to=true:=λe a=>by have:=Rm.1 k.v e a;simpa using this
 have t:∀{x:List Int} {v:Va},cY d.so v=true->kv m x=v.n->fW (ef m 0 (bB d.so)) x=v.n:=λ{x v} E F=>by obtain⟨_,_,_,B,C⟩:=yA i E;unfold fW;rw [w6 (f:=λy=>kv y x) (g:=kv m x) (λb=>P8),F];exact DY B C c.2
 refine⟨?_, ?_, ?_⟩
 .show kK (gY false (ef m 0 (bB d.so))) m.rs;rw [j];refine ye λe a=>⟨rfl, ?_⟩;obtain⟨o,p,s,_,_⟩:=yA i (w e a);exact⟨t (w e a) (GN [] k.u e a),s.symm,o.symm,p.symm⟩
 .obtain⟨o,p,s,z,A⟩:=yA i k.r;refine⟨?_,s.symm,o.symm,p.symm⟩;show se (ef m 0 (bB d.so))=m.re.n;unfold se;rw [w6 (f:=λy=>y.re.n) (g:=m.re.n) (λb=>rfl)];exact DY z A c.2
 .show(gY false (ef m 0 (bB d.so))).length<=1000;rw [j,Rr];exact k.l
theorem GY:∀{ds:List Dc} {ms:List Me},iK ds ms->∃l,Ae ds (dT ds ms)=some l/\jt l ms
 | [],[],_=>⟨[],rfl,trivial⟩
 | [],_::_,h=>h.elim
 | _::_,[],h=>h.elim
 | d::ds,m::ms,h=>by
  obtain⟨l,b,c⟩:=GY h.2;rw [dT];unfold gI;show ∃l,jK (fX false) dS (d::ds) _=some l/\_;rw [jK];cases f:aE d.so with
  | true=>rw [if_pos rfl,if_pos rfl];have a:=wZ m (bB d.so) 0;rw [List.take_left' a,List.drop_left' a];obtain⟨g,i,j⟩:=Ld f h.1;rw [if_neg (by omega),show jK (fX false) dS ds (dT ds ms)=some l from b];exact⟨_,rfl,⟨g,i⟩,c⟩
  | false=>rw [if_neg (by decide),if_neg (by decide)];show ∃l,((jK (fX false) dS ds (dT ds ms)).map (dS (dS m)::·))=some l/\_;rw [show jK (fX false) dS ds (dT ds ms)=some l from b];refine⟨_,rfl,⟨?_, .refl _, .refl _, .refl _, .refl _⟩,c⟩;show kK ((m.rs.map nE).map nE) m.rs;rw [SQ];exact ye λe _=>⟨rfl, .refl _, .refl _, .refl _, .refl _⟩
theorem A3{m:Me}(h:dQ m)(o:eU m):∀(k b:Nat),∀x∈ef m b k,dQ x/\eU x
 | 0,_,x,c=>by cases c
 | k+1,b,x,c=>by
  rw [ef] at c;rcases QN.1 c with rfl | c
  .have key:∀e∈(cF m b).rs,∃y∈m.rs,e=cr b y:=λe a=>by
    obtain⟨y,d,rfl⟩:=Rb.1 (show e∈m.rs.map (cr b) from a);exact⟨y,d,rfl⟩
   refine⟨⟨RL _,λe a=> ?_,λ_=>rfl,λe a=> ?_,λe a=> ?_⟩,⟨?_,λe a=> ?_⟩⟩
   .obtain⟨y,_,rfl⟩:=key e a;exact RL _
   .obtain⟨y,_,rfl⟩:=key e a;exact λ_=>rfl
   .obtain⟨y,d,rfl⟩:=key e a;exact h.ea y d
   .show(m.rs.map (cr b)).length<=1000;rw [Rr];exact o.rl
   .obtain⟨y,d,rfl⟩:=key e a;exact o.al y d
  .exact A3 h o k (b+1) x c
theorem Ia{m:Me}(h:dQ m)(o:eU m):dQ (dS m)/\eU (dS m):=by
 have key:∀e∈(dS m).rs,∃y∈m.rs,e=nE y:=λe a=>by obtain⟨y,b,rfl⟩:=Rb.1 (show e∈m.rs.map nE from a);exact⟨y,b,rfl⟩
 refine⟨⟨h.re,λe a=> ?_,h.rcc,λe a=> ?_,λe a=> ?_⟩,⟨?_,λe a=> ?_⟩⟩
 .obtain⟨y,b,rfl⟩:=key e a;exact h.rs y b
 .obtain⟨y,b,rfl⟩:=key e a;exact h.zG y b
 .obtain⟨y,b,rfl⟩:=key e a;exact h.ea y b
 .show(m.rs.map nE).length<=1000;rw [Rr];exact o.rl
 .obtain⟨y,b,rfl⟩:=key e a;exact o.al y b
theorem Bs:∀{ds:List Dc} {ms:List Me},(∀m∈ms,dQ m/\eU m)->∀x∈dT ds ms,dQ x/\eU x
 | [],ms,_,x,a=>by simp [dT] at a
 | d::ds,[],_,x,a=>by simp [dT] at a
 | d::ds,m::ms,h,x,a=>by
  obtain⟨w,o⟩:=h m QA;rw [dT] at a;rcases QR.1 a with a | a
  .unfold gI at a;split at a
   .exact A3 w o _ _ x a
   .rw [QL] at a;subst a;exact Ia w o
  .exact Bs (λy b=>h y (QB _ b)) x a
end Go.Aev.Gen
