import Derived.Test.YtcffabneepdohaaGreatDoorBlastBackQ13
set_option linter.all false
namespace Go.Aev.Gen
open Go Go.Aev Go.IntKind
theorem yr{e:List Dc}{d:Dc}(h:gL e d=0):d.nm.size<=12/\d.ar.length<=8/\(∀s∈d.ar,s=4)/\lG d.nm=true/\nR d.so=true/\(e.any λx=>decide (x.nm=d.nm))=false/\(d.so=5->d.ar= []):=by
 unfold gL at h;split at h
 .cases h
 rename_i i;split at h
 .cases h
 rename_i j;split at h
 .cases h
 rename_i l;split at h
 .cases h
 rename_i f;have g:lG d.nm=true:=by simpa using i
 refine⟨?_,by omega,λs hs=> ?_,g, ?_,by simpa using j,λk=> ?_⟩
 .unfold lG at g;simp only [Xf,decide_eq_true_eq] at g;omega
 .have:(d.ar.any λs=> !(s==4))=false:=by
   cases c:d.ar.any λs=> !(s==4) with
   | false=>rfl
   | true=>exact absurd (.inr (.inl c)) f
  rw [XJ] at this;have:=this s hs;simpa using this
 .cases c:nR d.so with
  | true=>rfl
  | false=>exact absurd (.inl c) f
 .cases c:d.ar with
  | nil=>rfl
  | cons a b=>exact absurd (.inr (.inr ⟨k,by rw [c];simp⟩)) f
theorem ye:∀{r:List Dc} {a:List Dc} {i:Nat},(eS a i r).1=0->∀(j:Nat) (d:Dc),r[j]? =some d->gL (a++r.take j) d=0
 | [],_,_,_,j,d,h=>by simp at h
 | x::r,a,i,h,j,d,b=>by
  rw [eS] at h;split at h
  .rename_i h0;cases j with
   | zero=>simp at b;subst b;simpa using h0
   | succ j=>have:=ye h j d (by simpa using b);simpa using this
  .rename_i h0;exact absurd h h0
theorem HM{ss:List Int}:∀{r:List Int} {j:Nat},(fB ss r j).1=0->∀k∈r,0<=k/\ss[k.toNat]? =some 1
 | [],_,_,k,h=>by cases h
 | x::r,j,h,k,b=>by
  rw [fB] at h;split at h
  .exact absurd (show(3:Int)=0 from h) (by decide)
  rename_i d;split at h
  .exact absurd (show(8:Int)=0 from h) (by decide)
  rename_i c;rcases Xl.1 b with rfl | b
  .refine⟨by omega, ?_⟩;have a:ss.getD k.toNat 0=1:=by simpa using c
   rw [Xa] at a;rw [Xd (by omega)] at a⊢;exact congrArg some a
  .exact HM h k b
theorem Ah{ds:List Dc}:∀{r:List Nd} {i:Nat} {ss:List Int},ss.length=i->(fc ds r i ss).2.1=0->
  ∃t,fc ds r i ss= (ss++t,0,0)/\t.length=r.length/\∀(j:Nat) (x:Nd),r[j]? =some x->(bX ds x ((i+j:Nat):Int) (ss++t.take j)).2=0/\t[j]? =some (bX ds x ((i+j:Nat):Int) (ss++t.take j)).1
 | [],i,ss,hs,_=>⟨[],by rw [fc,XA],rfl,λj x h=>by simp at h⟩
 | y::r,i,ss,hs,h=>by
  rw [fc] at h⊢;split at h
  .rename_i h0;rw [if_pos h0];obtain⟨t,b,c,d⟩:=Ah (r:=r) (i:=i+1) (ss:=ss++ [(bX ds y (i:Int) ss).1]) (by simp [hs]) h;refine⟨(bX ds y (i:Int) ss).1::t,by rw [b];simp,by simp [c],λj x a=> ?_⟩;cases j with
   | zero=>simp at a;subst a;simp [h0]
   | succ j=>have:=d j x (by simpa using a);rw [show i+1+j=i+ (j+1) by omega] at this;simpa using this
  .rename_i h0;exact absurd h h0
theorem l7{x:Nd}{i:Int}{ss da:List Int}{so:Int}(h:(dB x i ss da so).2=0):
  (∀k∈x.ks,0<=k/\k < i)/\gg x=true/\fI x=true/\(dB x i ss da so).1=be x.op x.d (x.ks.map λk=>ss.getD k.toNat 0) da so/\be x.op x.d (x.ks.map λk=>ss.getD k.toNat 0) da so≠0:=by
 unfold dB at h⊢;split at h
 .exact absurd (show(3:Int)=0 from h) (by decide)
 rename_i a;split at h
 .exact absurd (show(5:Int)=0 from h) (by decide)
 rename_i b;split at h
 .exact absurd (show(3:Int)=0 from h) (by decide)
 rename_i c;split at h
 .exact absurd (show(8:Int)=0 from h) (by decide)
 rename_i e;rw [if_neg a,if_neg b,if_neg c,if_neg e];refine⟨λk g=> ?_,by simpa using b,by simpa using c,rfl,e⟩;have f:(x.ks.any λk=>decide (k < 0) || decide (k>=i))=false:=by simpa using a
 rw [XJ] at f;have:=f k g;simp at this;omega
theorem yS{x:Nd}(b:gg x=true)(a:fI x=true):(-1000000<=x.n/\x.n<=1000000)/\(-1000000<=x.d/\x.d<=1000000)/\(x.nm=s0\/x.op=9):=by
 unfold gg at b;simp only [Xf,XT,decide_eq_true_eq,beq_iff_eq] at b;obtain⟨⟨e,i⟩,j⟩:=b;refine⟨?_, ?_,e⟩ <;>
 .unfold fI at a;split at a
  .unfold xc at a;simp only [Xf,decide_eq_true_eq] at a;omega
  rename_i g;split at a
  .simp only [Xf,decide_eq_true_eq] at a;rename_i c;have k:i64.wrap (1 * 2 ^ min x.d.toNat 64)<=256:=by
    have f:x.d.toNat=1\/x.d.toNat=2\/x.d.toNat=3\/x.d.toNat=4\/x.d.toNat=5\/x.d.toNat=6\/x.d.toNat=7\/x.d.toNat=8:=by omega
    rcases f with h | h | h | h | h | h | h | h <;> rw [h] <;> decide
   omega
  rename_i c;split at a
  .simp only [Xf,decide_eq_true_eq] at a;omega
  rename_i c3;omega
theorem wW{s:Int}(h:pN s=true):aG s=false:=by unfold pN at h;simp only [XT,beq_iff_eq] at h;rcases h with rfl | rfl <;> rfl
theorem zE{s:Int}(h:pB s=true):aG s=false:=by unfold pB at h;simp only [beq_iff_eq] at h;subst h;rfl
theorem Sr{c:Cx}{x:Nd}{i:Nat}{pre:List Int}(hpre:pre.length=i)(R:∀k,k < i->c.ss[k]? =pre[k]?)(Y:∀d∈c.ds,d.nm.size<=12/\d.ar.length<=8/\∀s∈d.ar,s=4)(h:(bX c.ds x (i:Int) pre).2=0):ov c i x (bX c.ds x (i:Int) pre).1:=by
 unfold bX at h⊢;by_cases U:x.op < 1\/25 < x.op
 .rw [if_pos U] at h;exact absurd (show(4:Int)=0 from h) (by decide)
 rw [if_neg U] at h⊢;have p: 1<=x.op/\x.op<=25:=by omega
 have A:∀k,0<=k->k < (i:Int)->KW c i k (pre.getD k.toNat 0):=λk h1 K=>⟨h1,K,by
  rw [R k.toNat (by omega),Xa,Xd (by omega)];rfl⟩
 by_cases J:x.op=9
 .rw [if_pos J] at h⊢;by_cases O:bp c.ds x.nm < 0
  .rw [if_pos O] at h;exact absurd (show(6:Int)=0 from h) (by decide)
  rw [if_neg O] at h⊢;by_cases c3:(x.ks.length≠((c.ds.getD (bp c.ds x.nm).toNat ⟨s0,true,[],0⟩).ar).length)\/8 < x.ks.length
  .rw [if_pos c3] at h;exact absurd (show(9:Int)=0 from h) (by decide)
  rw [if_neg c3] at h⊢;obtain⟨j,d,h3,X,h5⟩:=yR (nm:=x.nm) (i:=0) (ds:=c.ds) (by unfold bp at O;omega);have hf:bp c.ds x.nm= ((j:Nat):Int):=by unfold bp;rw [h3,XF]
  have Q:c.ds.getD (bp c.ds x.nm).toNat ⟨s0,true,[],0⟩=d:=by rw [hf,Xv,Xa,X];rfl
  rw [Q] at h c3⊢;obtain⟨m,T,I,N,g⟩:=l7 h;rw [N];obtain⟨g1,y,W⟩:=yS T I;obtain⟨d1,d2,d3⟩:=Y d (Xg X);have es:be x.op x.d (x.ks.map λk=>pre.getD k.toNat 0) d.ar d.so=if(x.ks.map λk=>pre.getD k.toNat 0)=d.ar then d.so else 0:=by rw [J];rfl
  rw [es] at g⊢;by_cases e:(x.ks.map λk=>pre.getD k.toNat 0)=d.ar
  .have Z:∀k∈x.ks,∃s',KW c i k s'/\aG s'=false:=λk z=>by
    refine⟨_,A k (m k z).1 (m k z).2, ?_⟩;have:pre.getD k.toNat 0=4:=d3 _ (by rw [<-e];exact XB.2 ⟨k,z,rfl⟩);rw [this];rfl
   exact⟨p,by omega,g1,y,by rw [<-h5];exact d1,λk z=>⟨_,A k (m k z).1 (m k z).2⟩,by omega,by omega,by omega,by omega,by omega,by omega,by omega,by omega,λ_ _ _=>⟨λe=>absurd J e,Z⟩⟩
  .rw [if_neg e] at g;exact absurd rfl g
 .rw [if_neg J] at h⊢;by_cases c3:(0<=dW x.op/\(x.ks.length:Int)≠dW x.op)\/8 < x.ks.length
  .rw [if_pos c3] at h;exact absurd (show(9:Int)=0 from h) (by decide)
  rw [if_neg c3] at h⊢;obtain⟨m,T,I,N,g⟩:=l7 h;rw [N];obtain⟨g1,y,W⟩:=yS T I;have t:x.nm.size<=12:=by
   rcases W with e | e
   .rw [e];decide
   .exact absurd e J
  have q:∀k∈x.ks,∃s',KW c i k s':=λk z=>⟨_,A k (m k z).1 (m k z).2⟩;have r:x.ks.length<=8:=by omega
  have u: 0<=dW x.op->(x.ks.length:Int)=dW x.op:=λe=>by omega
  have l:(∀s∈(x.ks.map λk=>pre.getD k.toNat 0),aG s=false)->∀k∈x.ks,∃s',KW c i k s'/\aG s'=false:=λP k z=>⟨_,A k (m k z).1 (m k z).2,P _ (XB.2 ⟨k,z,rfl⟩)⟩;have E:(x.ks.length:Int)=0->x.ks= []:=λh=>Xz.1 (by omega);have F:(x.ks.length:Int)=1->∃a,x.ks= [a]:=λh=>YF.1 (by omega);have C:(x.ks.length:Int)=2->∃a b,x.ks= [a,b]:=λh=>by
   have K:x.ks.length=2:=by omega
   match hh:x.ks,K with
   | [a,b],_=>exact⟨a,b,rfl⟩
  have S:(x.ks.length:Int)=3->∃a b d,x.ks= [a,b,d]:=λh=>by
   have K:x.ks.length=3:=by omega
   match hh:x.ks,K with
   | [a,b,d],_=>exact⟨a,b,d,rfl⟩
  clear h N;rcases ux p with o | o | o | o | o | o | o | o | o | o | o | o | o | o | o | o | o | o | o | o | o | o | o | o | o
  ·
   have hl:(x.ks.length:Int)=0:=by have:=u (by rw [o];decide);rw [o] at this;exact this
   have G:=E hl;have es:be x.op x.d (x.ks.map λk=>pre.getD k.toNat 0) [] 0=1:=by rw [o];rfl
   rw [es];exact⟨p,r,g1,y,t,q,by omega,by omega,by omega,by omega,by omega,by omega,by omega,by omega,λ_ _ _=>⟨λ_=>rfl,λk z=>by rw [G] at z;cases z⟩⟩
  ·
   have hl:(x.ks.length:Int)=0:=by have:=u (by rw [o];decide);rw [o] at this;exact this
   have G:=E hl;have es:be x.op x.d (x.ks.map λk=>pre.getD k.toNat 0) [] 0=1:=by rw [o];rfl
   rw [es];exact⟨p,r,g1,y,t,q,by omega,by omega,by omega,by omega,by omega,by omega,by omega,by omega,λ_ _ _=>⟨λ_=>rfl,λk z=>by rw [G] at z;cases z⟩⟩
  ·
   have hl:(x.ks.length:Int)=1:=by have:=u (by rw [o];decide);rw [o] at this;exact this
   have es:be x.op x.d (x.ks.map λk=>pre.getD k.toNat 0) [] 0=if(x.ks.map λk=>pre.getD k.toNat 0).all pB=true then 1 else 0:=by rw [o];rfl
   rw [es] at g⊢;cases v:(x.ks.map λk=>pre.getD k.toNat 0).all pB with
   | false=>rw [v] at g;exact absurd rfl g
   | true=>have B:=l (λs hs=>zE (Xw.1 v s hs));rw [if_pos rfl];exact⟨p,r,g1,y,t,q,λ_=>by obtain⟨a,P⟩:=F hl;exact⟨a,[],P⟩,by omega,by omega,by omega,by omega,by omega,by omega,by omega,λ_ _ _=>⟨λ_=>rfl,B⟩⟩
  ·
   have es:be x.op x.d (x.ks.map λk=>pre.getD k.toNat 0) [] 0=if(x.ks.map λk=>pre.getD k.toNat 0).all pB=true then 1 else 0:=by rw [o];rfl
   rw [es] at g⊢;cases v:(x.ks.map λk=>pre.getD k.toNat 0).all pB with
   | false=>rw [v] at g;exact absurd rfl g
   | true=>have B:=l (λs hs=>zE (Xw.1 v s hs));rw [if_pos rfl];exact⟨p,r,g1,y,t,q,by omega,by omega,by omega,by omega,by omega,by omega,by omega,by omega,λ_ _ _=>⟨λ_=>rfl,B⟩⟩
  ·
   have es:be x.op x.d (x.ks.map λk=>pre.getD k.toNat 0) [] 0=if(x.ks.map λk=>pre.getD k.toNat 0).all pB=true then 1 else 0:=by rw [o];rfl
   rw [es] at g⊢;cases v:(x.ks.map λk=>pre.getD k.toNat 0).all pB with
   | false=>rw [v] at g;exact absurd rfl g
   | true=>have B:=l (λs hs=>zE (Xw.1 v s hs));rw [if_pos rfl];exact⟨p,r,g1,y,t,q,by omega,by omega,by omega,by omega,by omega,by omega,by omega,by omega,λ_ _ _=>⟨λ_=>rfl,B⟩⟩
  ·
   have hl:(x.ks.length:Int)=2:=by have:=u (by rw [o];decide);rw [o] at this;exact this
   have es:be x.op x.d (x.ks.map λk=>pre.getD k.toNat 0) [] 0=if(x.ks.map λk=>pre.getD k.toNat 0).all pB=true then 1 else 0:=by rw [o];rfl
   rw [es] at g⊢;cases v:(x.ks.map λk=>pre.getD k.toNat 0).all pB with
   | false=>rw [v] at g;exact absurd rfl g
   | true=>have B:=l (λs hs=>zE (Xw.1 v s hs));rw [if_pos rfl];exact⟨p,r,g1,y,t,q,by omega,by omega,by omega,by omega,by omega,by omega,by omega,by omega,λ_ _ _=>⟨λ_=>rfl,B⟩⟩
  ·
   have hl:(x.ks.length:Int)=3:=by have:=u (by rw [o];decide);rw [o] at this;exact this
   obtain⟨a,b,d,f⟩:=S hl;have es:be x.op x.d (x.ks.map λk=>pre.getD k.toNat 0) [] 0=if pre.getD a.toNat 0=1/\pre.getD b.toNat 0=pre.getD d.toNat 0/\pre.getD b.toNat 0≠5 then pre.getD b.toNat 0 else 0:=by rw [o,f];rfl
   rw [es] at g⊢;by_cases e:pre.getD a.toNat 0=1/\pre.getD b.toNat 0=pre.getD d.toNat 0/\pre.getD b.toNat 0≠5
   .rw [if_pos e];have ka:=A a (m a (by rw [f];simp)).1 (m a (by rw [f];simp)).2;have kb:=A b (m b (by rw [f];simp)).1 (m b (by rw [f];simp)).2;have kd:=A d (m d (by rw [f];simp)).1 (m d (by rw [f];simp)).2;rw [e.1] at ka;rw [<-e.2.1] at kd;exact⟨p,r,g1,y,t,q,by omega,λ_=>⟨a,b,d,f,ka,kb,kd⟩,by omega,by omega,by omega,by omega,by omega,by omega,λe=>absurd o e⟩
   .rw [if_neg e] at g;exact absurd rfl g
  ·
   have hl:(x.ks.length:Int)=2:=by have:=u (by rw [o];decide);rw [o] at this;exact this
   obtain⟨a,b,f⟩:=C hl;have ka:=A a (m a (by rw [f];simp)).1 (m a (by rw [f];simp)).2;have kb:=A b (m b (by rw [f];simp)).1 (m b (by rw [f];simp)).2;have es:be x.op x.d (x.ks.map λk=>pre.getD k.toNat 0) [] 0=if(x.ks.map λk=>pre.getD k.toNat 0).all pN=true\/(pre.getD a.toNat 0=pre.getD b.toNat 0/\(pre.getD a.toNat 0=4\/aG (pre.getD a.toNat 0)=true)) then 1 else 0:=by rw [o,f];rfl
   rw [es] at g⊢;by_cases e:(x.ks.map λk=>pre.getD k.toNat 0).all pN=true\/(pre.getD a.toNat 0=pre.getD b.toNat 0/\(pre.getD a.toNat 0=4\/aG (pre.getD a.toNat 0)=true))
   .rw [if_pos e];have c8:aG 1=false/\∃a b s',x.ks= [a,b]/\((aG s'=true/\KW c i a s'/\KW c i b s')\/∀k∈x.ks,∃s',KW c i k s'/\aG s'=false):=by
     refine⟨rfl,a,b,pre.getD a.toNat 0,f, ?_⟩;rcases e with e | ⟨V,L | L⟩
     .exact .inr (l λs hs=>wW (Xw.1 e s hs))
     .right;intro k z;rw [f] at z;simp only [Xl,Yj,or_false] at z;rcases z with rfl | rfl
      .exact⟨_,ka,by rw [L];rfl⟩
      .exact⟨_,kb,by rw [<-V,L];rfl⟩
     .left;rw [<-V] at kb;exact⟨L,ka,kb⟩
    exact⟨p,r,g1,y,t,q,by omega,by omega,λ_=>c8,by omega,by omega,by omega,by omega,by omega,λ_ e=>absurd o e⟩
   .rw [if_neg e] at g;exact absurd rfl g
  ·
   exact absurd o J
  ·
   have hl:(x.ks.length:Int)=0:=by have:=u (by rw [o];decide);rw [o] at this;exact this
   have G:=E hl;have es:be x.op x.d (x.ks.map λk=>pre.getD k.toNat 0) [] 0=if x.d=1 then 2 else 3:=by rw [o];rfl
   rw [es];have H:aG (if x.d=1 then 2 else 3)=false:=by split <;> rfl
   exact⟨p,r,g1,y,t,q,by omega,by omega,by omega,by omega,by omega,by omega,by omega,by omega,λ_ _ _=>⟨λ_=>H,λk z=>by rw [G] at z;cases z⟩⟩
  ·
   have es:be x.op x.d (x.ks.map λk=>pre.getD k.toNat 0) [] 0=if(x.ks.map λk=>pre.getD k.toNat 0).all pN=true then(if(x.ks.map λk=>pre.getD k.toNat 0).all pI=true then 2 else 3) else 0:=by rw [o];rfl
   rw [es] at g⊢;cases v:(x.ks.map λk=>pre.getD k.toNat 0).all pN with
   | false=>rw [v] at g;exact absurd rfl g
   | true=>
    have B:=l (λs hs=>wW (Xw.1 v s hs));rw [if_pos rfl];have H:aG (if(x.ks.map λk=>pre.getD k.toNat 0).all pI=true then 2 else 3)=false:=by split <;> rfl
    exact⟨p,r,g1,y,t,q,by omega,by omega,by omega,by omega,by omega,by omega,by omega,by omega,λ_ _ _=>⟨λ_=>H,B⟩⟩
  ·
   have hl:(x.ks.length:Int)=1:=by have:=u (by rw [o];decide);rw [o] at this;exact this
   obtain⟨a,f⟩:=F hl;have es:be x.op x.d (x.ks.map λk=>pre.getD k.toNat 0) [] 0=if pN (pre.getD a.toNat 0)=true then(if pre.getD a.toNat 0=2/\x.d=1 then 2 else 3) else 0:=by rw [o,f];rfl
   rw [es] at g⊢;cases v:pN (pre.getD a.toNat 0) with
   | false=>rw [v] at g;exact absurd rfl g
   | true=>
    have B:=l (λs hs=>by rw [f] at hs;simp only [Xq,XY,Xi] at hs;subst hs;exact wW v);rw [if_pos rfl];have H:aG (if pre.getD a.toNat 0=2/\x.d=1 then 2 else 3)=false:=by split <;> rfl
    exact⟨p,r,g1,y,t,q,by omega,by omega,by omega,by omega,by omega,by omega,by omega,by omega,λ_ _ _=>⟨λ_=>H,B⟩⟩
  ·
   have hl:(x.ks.length:Int)=2:=by have:=u (by rw [o];decide);rw [o] at this;exact this
   have es:be x.op x.d (x.ks.map λk=>pre.getD k.toNat 0) [] 0=if(x.ks.map λk=>pre.getD k.toNat 0).all pN=true then 1 else 0:=by rw [o];rfl
   rw [es] at g⊢;cases v:(x.ks.map λk=>pre.getD k.toNat 0).all pN with
   | false=>rw [v] at g;exact absurd rfl g
   | true=>have B:=l (λs hs=>wW (Xw.1 v s hs));rw [if_pos rfl];exact⟨p,r,g1,y,t,q,by omega,by omega,by omega,by omega,by omega,by omega,by omega,by omega,λ_ _ _=>⟨λ_=>rfl,B⟩⟩
  ·
   have hl:(x.ks.length:Int)=2:=by have:=u (by rw [o];decide);rw [o] at this;exact this
   have es:be x.op x.d (x.ks.map λk=>pre.getD k.toNat 0) [] 0=if(x.ks.map λk=>pre.getD k.toNat 0).all pN=true then 1 else 0:=by rw [o];rfl
   rw [es] at g⊢;cases v:(x.ks.map λk=>pre.getD k.toNat 0).all pN with
   | false=>rw [v] at g;exact absurd rfl g
   | true=>have B:=l (λs hs=>wW (Xw.1 v s hs));rw [if_pos rfl];exact⟨p,r,g1,y,t,q,by omega,by omega,by omega,by omega,by omega,by omega,by omega,by omega,λ_ _ _=>⟨λ_=>rfl,B⟩⟩
  ·
   have hl:(x.ks.length:Int)=0:=by have:=u (by rw [o];decide);rw [o] at this;exact this
   have G:=E hl;have es:be x.op x.d (x.ks.map λk=>pre.getD k.toNat 0) [] 0=10+x.d:=by rw [o];rfl
   rw [es];obtain⟨w1,w2,w3,w4⟩:=uu I o;have w5:x.n < 2 ^ x.d.toNat:=by
    have Q:x.d.toNat=1\/x.d.toNat=2\/x.d.toNat=3\/x.d.toNat=4\/x.d.toNat=5\/x.d.toNat=6\/x.d.toNat=7\/x.d.toNat=8:=by omega
    have H:i64.wrap (1 * 2 ^ min x.d.toNat 64)=2 ^ x.d.toNat:=by rcases Q with h | h | h | h | h | h | h | h <;> rw [h] <;> decide
    rw [H] at w4;exact w4
   exact⟨p,r,g1,y,t,q,by omega,by omega,by omega,λ_=>⟨G,w1,w2,w3,w5,rfl⟩,by omega,by omega,by omega,by omega,by omega⟩
  ·
   have hl:(x.ks.length:Int)=1:=by have:=u (by rw [o];decide);rw [o] at this;exact this
   obtain⟨a,f⟩:=F hl;have ka:=A a (m a (by rw [f];simp)).1 (m a (by rw [f];simp)).2;have es:be x.op x.d (x.ks.map λk=>pre.getD k.toNat 0) [] 0=if aG (pre.getD a.toNat 0)=true then pre.getD a.toNat 0 else 0:=by rw [o,f];rfl
   rw [es] at g⊢;cases v:aG (pre.getD a.toNat 0) with
   | false=>rw [v] at g;exact absurd rfl g
   | true=>rw [if_pos rfl];exact⟨p,r,g1,y,t,q,by omega,by omega,by omega,by omega,λ_=>⟨v,a,f,ka⟩,by omega,by omega,by omega,by omega⟩
  ·
   have hl:(x.ks.length:Int)=2:=by have:=u (by rw [o];decide);rw [o] at this;exact this
   obtain⟨a,b,f⟩:=C hl;have ka:=A a (m a (by rw [f];simp)).1 (m a (by rw [f];simp)).2;have kb:=A b (m b (by rw [f];simp)).1 (m b (by rw [f];simp)).2;have es:be x.op x.d (x.ks.map λk=>pre.getD k.toNat 0) [] 0=if pre.getD a.toNat 0=pre.getD b.toNat 0/\aG (pre.getD a.toNat 0)=true then pre.getD a.toNat 0 else 0:=by rw [o,f];rfl
   rw [es] at g⊢;by_cases e:pre.getD a.toNat 0=pre.getD b.toNat 0/\aG (pre.getD a.toNat 0)=true
   .rw [if_pos e];rw [<-e.1] at kb;exact⟨p,r,g1,y,t,q,by omega,by omega,by omega,by omega,by omega,λ_ _=>⟨e.2,a,b,f,ka,kb⟩,by omega,by omega,by omega⟩
   .rw [if_neg e] at g;exact absurd rfl g
  ·
   have hl:(x.ks.length:Int)=2:=by have:=u (by rw [o];decide);rw [o] at this;exact this
   obtain⟨a,b,f⟩:=C hl;have ka:=A a (m a (by rw [f];simp)).1 (m a (by rw [f];simp)).2;have kb:=A b (m b (by rw [f];simp)).1 (m b (by rw [f];simp)).2;have es:be x.op x.d (x.ks.map λk=>pre.getD k.toNat 0) [] 0=if pre.getD a.toNat 0=pre.getD b.toNat 0/\aG (pre.getD a.toNat 0)=true then pre.getD a.toNat 0 else 0:=by rw [o,f];rfl
   rw [es] at g⊢;by_cases e:pre.getD a.toNat 0=pre.getD b.toNat 0/\aG (pre.getD a.toNat 0)=true
   .rw [if_pos e];rw [<-e.1] at kb;exact⟨p,r,g1,y,t,q,by omega,by omega,by omega,by omega,by omega,λ_ _=>⟨e.2,a,b,f,ka,kb⟩,by omega,by omega,by omega⟩
   .rw [if_neg e] at g;exact absurd rfl g
  ·
   have hl:(x.ks.length:Int)=2:=by have:=u (by rw [o];decide);rw [o] at this;exact this
   obtain⟨a,b,f⟩:=C hl;have ka:=A a (m a (by rw [f];simp)).1 (m a (by rw [f];simp)).2;have kb:=A b (m b (by rw [f];simp)).1 (m b (by rw [f];simp)).2;have es:be x.op x.d (x.ks.map λk=>pre.getD k.toNat 0) [] 0=if pre.getD a.toNat 0=pre.getD b.toNat 0/\aG (pre.getD a.toNat 0)=true then pre.getD a.toNat 0 else 0:=by rw [o,f];rfl
   rw [es] at g⊢;by_cases e:pre.getD a.toNat 0=pre.getD b.toNat 0/\aG (pre.getD a.toNat 0)=true
   .rw [if_pos e];rw [<-e.1] at kb;exact⟨p,r,g1,y,t,q,by omega,by omega,by omega,by omega,by omega,λ_ _=>⟨e.2,a,b,f,ka,kb⟩,by omega,by omega,by omega⟩
   .rw [if_neg e] at g;exact absurd rfl g
  ·
   have hl:(x.ks.length:Int)=2:=by have:=u (by rw [o];decide);rw [o] at this;exact this
   obtain⟨a,b,f⟩:=C hl;have ka:=A a (m a (by rw [f];simp)).1 (m a (by rw [f];simp)).2;have kb:=A b (m b (by rw [f];simp)).1 (m b (by rw [f];simp)).2;have es:be x.op x.d (x.ks.map λk=>pre.getD k.toNat 0) [] 0=if pre.getD a.toNat 0=pre.getD b.toNat 0/\aG (pre.getD a.toNat 0)=true then pre.getD a.toNat 0 else 0:=by rw [o,f];rfl
   rw [es] at g⊢;by_cases e:pre.getD a.toNat 0=pre.getD b.toNat 0/\aG (pre.getD a.toNat 0)=true
   .rw [if_pos e];rw [<-e.1] at kb;exact⟨p,r,g1,y,t,q,by omega,by omega,by omega,by omega,by omega,λ_ _=>⟨e.2,a,b,f,ka,kb⟩,by omega,by omega,by omega⟩
   .rw [if_neg e] at g;exact absurd rfl g
  ·
   have hl:(x.ks.length:Int)=2:=by have:=u (by rw [o];decide);rw [o] at this;exact this
   obtain⟨a,b,f⟩:=C hl;have ka:=A a (m a (by rw [f];simp)).1 (m a (by rw [f];simp)).2;have kb:=A b (m b (by rw [f];simp)).1 (m b (by rw [f];simp)).2;have es:be x.op x.d (x.ks.map λk=>pre.getD k.toNat 0) [] 0=if pre.getD a.toNat 0=pre.getD b.toNat 0/\aG (pre.getD a.toNat 0)=true then pre.getD a.toNat 0 else 0:=by rw [o,f];rfl
   rw [es] at g⊢;by_cases e:pre.getD a.toNat 0=pre.getD b.toNat 0/\aG (pre.getD a.toNat 0)=true
   .rw [if_pos e];rw [<-e.1] at kb;exact⟨p,r,g1,y,t,q,by omega,by omega,by omega,by omega,by omega,λ_ _=>⟨e.2,a,b,f,ka,kb⟩,by omega,by omega,by omega⟩
   .rw [if_neg e] at g;exact absurd rfl g
  ·
   have hl:(x.ks.length:Int)=2:=by have:=u (by rw [o];decide);rw [o] at this;exact this
   obtain⟨a,b,f⟩:=C hl;have ka:=A a (m a (by rw [f];simp)).1 (m a (by rw [f];simp)).2;have kb:=A b (m b (by rw [f];simp)).1 (m b (by rw [f];simp)).2;have es:be x.op x.d (x.ks.map λk=>pre.getD k.toNat 0) [] 0=if pre.getD a.toNat 0=pre.getD b.toNat 0/\aG (pre.getD a.toNat 0)=true then 1 else 0:=by rw [o,f];rfl
   rw [es] at g⊢;by_cases e:pre.getD a.toNat 0=pre.getD b.toNat 0/\aG (pre.getD a.toNat 0)=true
   .rw [if_pos e];rw [<-e.1] at kb;exact⟨p,r,g1,y,t,q,by omega,by omega,by omega,by omega,by omega,by omega,λ_=>⟨rfl,a,b,_,e.2,f,ka,kb⟩,by omega,by omega⟩
   .rw [if_neg e] at g;exact absurd rfl g
  ·
   have hl:(x.ks.length:Int)=1:=by have:=u (by rw [o];decide);rw [o] at this;exact this
   obtain⟨a,f⟩:=F hl;have ka:=A a (m a (by rw [f];simp)).1 (m a (by rw [f];simp)).2;have es:be x.op x.d (x.ks.map λk=>pre.getD k.toNat 0) [] 0=if aG (pre.getD a.toNat 0)=true then pre.getD a.toNat 0 else 0:=by rw [o,f];rfl
   rw [es] at g⊢;cases v:aG (pre.getD a.toNat 0) with
   | false=>rw [v] at g;exact absurd rfl g
   | true=>
    rw [if_pos rfl];have w: 0<=x.n/\x.n<=8:=by unfold fI at I;rw [if_neg (by omega),if_neg (by omega),if_pos o] at I;simpa using I
    exact⟨p,r,g1,y,t,q,by omega,by omega,by omega,by omega,λ_=>⟨v,a,f,ka⟩,by omega,by omega,λ_=>w,by omega⟩
  ·
   have hl:(x.ks.length:Int)=2:=by have:=u (by rw [o];decide);rw [o] at this;exact this
   have es:be x.op x.d (x.ks.map λk=>pre.getD k.toNat 0) [] 0=if(x.ks.map λk=>pre.getD k.toNat 0)= [5,4] then 4 else 0:=by rw [o];rfl
   rw [es] at g⊢;by_cases e:(x.ks.map λk=>pre.getD k.toNat 0)= [5,4]
   .rw [if_pos e];have B:=l (λs hs=>by
     rw [e] at hs;simp only [Xl,Yj,or_false] at hs;rcases hs with rfl | rfl <;> rfl)
    exact⟨p,r,g1,y,t,q,by omega,by omega,by omega,by omega,by omega,by omega,by omega,by omega,λ_ _ _=>⟨λ_=>rfl,B⟩⟩
   .rw [if_neg e] at g;exact absurd rfl g
  ·
   have hl:(x.ks.length:Int)=3:=by have:=u (by rw [o];decide);rw [o] at this;exact this
   have es:be x.op x.d (x.ks.map λk=>pre.getD k.toNat 0) [] 0=if(x.ks.map λk=>pre.getD k.toNat 0)= [5,4,4] then 5 else 0:=by rw [o];rfl
   rw [es] at g⊢;by_cases e:(x.ks.map λk=>pre.getD k.toNat 0)= [5,4,4]
   .rw [if_pos e];have B:=l (λs hs=>by
     rw [e] at hs;simp only [Xl,Yj,or_false] at hs;rcases hs with rfl | rfl | rfl <;> rfl)
    exact⟨p,r,g1,y,t,q,by omega,by omega,by omega,by omega,by omega,by omega,by omega,by omega,λ_ _ _=>⟨λ_=>rfl,B⟩⟩
   .rw [if_neg e] at g;exact absurd rfl g
theorem nH{a:As}{es:Bool}(h:(bm a).2.1=0):qY (lu a es (bm a).1)/\(∀d∈a.ds,d.ar.length<=8):=by
 unfold bm at h⊢;by_cases o: 30 < a.ds.length
 .rw [if_pos o] at h;exact absurd (show(2:Int)=0 from h) (by decide)
 rw [if_neg o] at h⊢;by_cases g:(eS [] 0 a.ds).1≠0
 .rw [if_pos g] at h;exact absurd h g
 rw [if_neg g] at h⊢;by_cases c3: 200 < a.ns.length
 .rw [if_pos c3] at h;exact absurd (show(2:Int)=0 from h) (by decide)
 rw [if_neg c3] at h⊢;have f:∀d∈a.ds,d.nm.size<=12/\d.ar.length<=8/\∀s∈d.ar,s=4:=λd e=>by obtain⟨j,w⟩:=X1 e;obtain⟨m,n,A,_⟩:=yr (ye (by simpa using g) j d w);exact⟨m,n,A⟩
 unfold jX at h⊢;by_cases l:(fc a.ds a.ns 0 []).2.1≠0
 .rw [if_pos l] at h;exact absurd h l
 rw [if_neg l] at h⊢;by_cases p: 200 < a.hs.length
 .rw [if_pos p] at h;exact absurd (show(2:Int)=0 from h) (by decide)
 rw [if_neg p] at h⊢;by_cases b:(fB (fc a.ds a.ns 0 []).1 a.hs 0).1≠0
 .rw [if_pos b] at h;exact absurd h b
 rw [if_neg b];obtain⟨t,q,u,v⟩:=Ah (ds:=a.ds) (r:=a.ns) (i:=0) (ss:= []) rfl (by simpa using l);rw [Yf] at q;rw [q] at b⊢;refine⟨⟨u,by show a.ns.length<=200;omega,by show a.ds.length<=30;omega,by show a.hs.length<=200;omega,λd e=>(f d e).1,λi x s z hs=> ?_,HM (show(fB t a.hs 0).1=0 by simpa using b)⟩,λd e=>(f d e).2.1⟩;obtain⟨m,n⟩:=v i x z;rw [XF,Yf] at m n;have B:i < t.length:=(W9.1 hs).1;replace hs:t[i]? =some s:=hs;rw [n] at hs;simp only [W5] at hs;subst hs;exact Sr (c:=lu a es t) (x:=x) (i:=i) (pre:=t.take i) (by rw [XW];omega) (λk y=>by show t[k]? =_;rw [YN y]) f m
theorem KO{a:As}(h:(bm a).2.1=0):(bm a).2.2=0:=by
 unfold bm at h⊢;by_cases e: 30 < a.ds.length
 .rw [if_pos e] at h;exact absurd (show(2:Int)=0 from h) (by decide)
 rw [if_neg e] at h⊢;by_cases b:(eS [] 0 a.ds).1≠0
 .rw [if_pos b] at h;exact absurd h b
 rw [if_neg b] at h⊢;by_cases c3: 200 < a.ns.length
 .rw [if_pos c3] at h;exact absurd (show(2:Int)=0 from h) (by decide)
 rw [if_neg c3] at h⊢;unfold jX at h⊢;by_cases c:(fc a.ds a.ns 0 []).2.1≠0
 .rw [if_pos c] at h;exact absurd h c
 rw [if_neg c] at h⊢;by_cases f: 200 < a.hs.length
 .rw [if_pos f] at h;exact absurd (show(2:Int)=0 from h) (by decide)
 rw [if_neg f] at h⊢;by_cases d:(fB (fc a.ds a.ns 0 []).1 a.hs 0).1≠0
 .rw [if_pos d] at h;exact absurd h d
 rw [if_neg d]
def tH(a:As):List T:=if(bm a).2.1=0 then lC a (bm a).1.isEmpty (bm a).1 else [T.aC true,T.aC true,T.aC true,ti (bm a).2.1,ti (bm a).2.2]
theorem UP{a:As}(wf:pJ a)(j:∀d∈a.ds,d.nm.size<=9223372036854775807):Or (.call 6) [AG a] []=some (tH a):=by
 obtain⟨x,c,f⟩:=Dr (a:=a) j;unfold tH;by_cases h:(bm a).2.1=0
 .obtain⟨ok,e⟩:=nH (es:=(bm a).1.isEmpty) h;have g:(bm a).2.2=0:=by
   exact KO h
  rw [if_pos h];replace c:Or (.call 12) [AG a] []=some [x,ti (bm a).2.1,ti (bm a).2.2]:=c;rw [h,g] at c;exact s9 wf ok (λd i=>by have:=e d i;omega) c f
 .have b:((bm a).2.1==0)=false:=by simpa using h
  rw [if_neg h];refine ai ?_;rw [e9];simp only [aI,aL,aU,aP,f,aS,c,b,Xe]
open Go Go.Aev Go.IntKind
abbrev bl(s:ByteArray):List UInt8:=s.data.toList
theorem rJ(a b:ByteArray):bl (a++b)=bl a++bl b:=by simp [bl,ByteArray.data_append]
theorem x8(n:Int):bl (it n)=Go.Lib.itoa n:=by simp [bl,it]
theorem AW{a b:ByteArray}(h:bl a=bl b):a=b:=by obtain⟨⟨a⟩⟩:=a;obtain⟨⟨b⟩⟩:=b;simp only [bl] at h;subst h;rfl
theorem tG(u:Nat):∀c∈Go.Lib.decDigits u,48<=c.toNat/\c.toNat<=57:=by
 induction u using Nat.strongRecOn with
 | _ u b=>
  intro c a;rw [Go.Lib.decDigits] at a;split at a
  .rename_i h;simp only [Xi] at a;subst a;rw [ZG];omega
  .rename_i h;rcases Xo.1 a with a | a
   .exact b (u / 10) (by omega) c a
   .simp only [Xi] at a;subst a;rw [ZG];omega
def Bm(l:List UInt8):Nat:=l.foldl (λa c=>a * 10+ (c.toNat - 48)) 0
theorem FG(u:Nat):Bm (Go.Lib.decDigits u)=u:=by
 induction u using Nat.strongRecOn with
 | _ u a=>
  rw [Go.Lib.decDigits];split
  .rename_i h;simp only [Bm,Zo,List.foldl_nil,ZG];omega
  .rename_i h;have:=a (u / 10) (by omega);unfold Bm at this⊢;rw [List.foldl_append,this];simp only [Zo,List.foldl_nil,ZG];omega
theorem Fy{u v:Nat}(h:Go.Lib.decDigits u=Go.Lib.decDigits v):u=v:=by rw [<-FG u,h,FG]
theorem Nr(u:Nat):∃c r,Go.Lib.decDigits u=c::r:=by
 have h:=Go.Lib.decDigits_length u;have b:=Go.Lib.nDigits_pos u;cases a:Go.Lib.decDigits u with
 | nil=>rw [a] at h;simp at h;omega
 | cons c r=>exact⟨c,r,rfl⟩
theorem HY(n:Int):∀c∈Go.Lib.itoa n,c=45\/(48<=c.toNat/\c.toNat<=57):=by
 intro c a;unfold Go.Lib.itoa at a;split at a
 .rcases Xl.1 a with rfl | a
  .exact .inl rfl
  .exact .inr (tG _ c a)
 .exact .inr (tG _ c a)
theorem uf{m n:Int}(h:Go.Lib.itoa m=Go.Lib.itoa n):m=n:=by
 have neg:∀u v:Nat,(45::Go.Lib.decDigits u:List UInt8)≠Go.Lib.decDigits v:=λu v e=>by have:=tG v 45 (by rw [<-e];exact W7);simp at this
 unfold Go.Lib.itoa at h;split at h <;> split at h
 .simp only [Yh,true_and] at h;have:=Fy h;omega
 .exact absurd h (neg _ _)
 .exact absurd h.symm (neg _ _)
 .have:=Fy h;omega
theorem qw(n:Int):(32:UInt8)∉Go.Lib.itoa n:=λh=>by
 rcases HY n _ h with e | e
 .exact absurd e (by decide)
 .simp at e
theorem HZ(n:Int):(95:UInt8)∉Go.Lib.itoa n:=λh=>by
 rcases HY n _ h with e | e
 .exact absurd e (by decide)
 .simp at e
theorem tF{z:UInt8}:∀{a d b b':List UInt8},z∉a->z∉d->a++z::b=d++z::b'->a=d/\b=b'
 | [],[],b,b',_,_,h=>by simpa using h
 | [],c::d,b,b',_,e,h=>by simp only [Yf,X7,Yh] at h;exact absurd (h.1▸W7) e
 | c::a,[],b,b',e,_,h=>by simp only [Yf,X7,Yh] at h;exact absurd (h.1▸W7) e
 | c::a,c'::d,b,b',f,g,h=>by simp only [X7,Yh] at h;obtain⟨i,j⟩:=tF (λx=>f (W8 _ x)) (λx=>g (W8 _ x)) h.2;exact⟨by rw [h.1,i],j⟩
def kT(ks:List Int):List UInt8:=ks.flatMap λk=>32::Go.Lib.itoa k
theorem Il:∀(ks:List Int) (k:ByteArray),bl (mL k ks)=bl k++kT ks
 | [],k=>by simp [mL,kT]
 | x::r,k=>by rw [mL,Il r,rJ,rJ,x8];simp [kT,bl]
theorem Im(op:Int)(nm:ByteArray)(n d:Int)(ks:List Int):bl (mM op nm n d ks)=Go.Lib.itoa op++32:: (bl nm++32:: (Go.Lib.itoa n++32:: (Go.Lib.itoa d++kT ks))):=by unfold mM;rw [Il];simp only [rJ,x8];simp [bl]
theorem H8:∀{ks c:List Int} {a b:Int},Go.Lib.itoa a++kT ks=Go.Lib.itoa b++kT c->a=b/\ks=c
 | [],[],a,b,h=>by simp only [kT,aak,XA] at h;exact⟨uf h,rfl⟩
 | [],k::r,a,b,h=>by simp only [kT,aak,XA,List.flatMap_cons] at h;exact absurd (h▸(by simp)) (qw a)
 | k::r,[],a,b,h=>by simp only [kT,aak,XA,List.flatMap_cons] at h;exact absurd (h▸(by simp)) (qw b)
 | k::r,j::l,a,b,h=>by
  have e:∀(k:Int) (r:List Int),kT (k::r)=32:: (Go.Lib.itoa k++kT r):=λk r=>by simp [kT]
  rw [e,e] at h;obtain⟨d,f⟩:=tF (qw a) (qw b) h;obtain⟨g,i⟩:=H8 f;exact⟨uf d,by rw [g,i]⟩
def jB(s:ByteArray):Prop:=(32:UInt8)∉bl s
theorem Io{op c n i d f:Int}{nm a:ByteArray}{ks b:List Int}(h:jB nm)(l:jB a)(e:mM op nm n d ks=mM c a i f b):op=c/\nm=a/\n=i/\d=f/\ks=b:=by have g:=congrArg bl e;rw [Im,Im] at g;obtain⟨m,j⟩:=tF (qw _) (qw _) g;obtain⟨o,e3⟩:=tF h l j;obtain⟨p,k⟩:=tF (qw _) (qw _) e3;obtain⟨q,r⟩:=H8 k;exact⟨uf m,AW o,uf p,q,r⟩
open Go Go.Aev Go.IntKind
abbrev bG(σ:List Int)(a s:Int):Prop:=0<=a/\σ[a.toNat]? =some s
theorem bG.mono{σ b:List Int}{a s:Int}(p:σ <+:b)(h:bG σ a s):bG b a s:=by obtain⟨t,rfl⟩:=p;exact⟨h.1,by rw [Xk (W9.1 h.2).1];exact h.2⟩
theorem bG.lt{σ:List Int}{a s:Int}(h:bG σ a s):a < (σ.length:Int):=by have:=(W9.1 h.2).1;have:=h.1;omega
theorem bG.getD{σ:List Int}{a s:Int}(h:bG σ a s):σ.getD a.toNat 0=s:=by rw [Xa,h.2];rfl
theorem Hg{x:Nd}{ss t:List Int}{da:List Int}{so:Int}(h:∀k∈x.ks,0<=k/\k < (ss.length:Int)):dB x ((ss++t).length:Int) (ss++t) da so=dB x (ss.length:Int) ss da so:=by
 have b:(x.ks.any λk=>decide (k < 0) || decide (k>=((ss++t).length:Int)))=false:=by rw [XJ];intro k a;have:=h k a;rw [XK];simp;omega
 have c:(x.ks.any λk=>decide (k < 0) || decide (k>=(ss.length:Int)))=false:=by rw [XJ];intro k a;have:=h k a;simp;omega
 have e3:(x.ks.map λk=>(ss++t).getD k.toNat 0)=x.ks.map λk=>ss.getD k.toNat 0:=by apply XI;intro k a;have:=h k a;rw [Xa,Xa,Xk (by omega)]
 unfold dB;rw [b,c,e3]
theorem Hh{x:Nd}{i:Int}{ss da:List Int}{so s:Int}(h:dB x i ss da so= (s,0)):∀k∈x.ks,0<=k/\k < i:=by
 unfold dB at h;split at h
 .simp at h
 .rename_i e;rw [YK] at e;intro k a;have:=XJ.1 e k a;simp at this;omega
theorem wJ{D:List Dc}{x:Nd}{i:Int}{ss:List Int}{s:Int}(h:bX D x i ss= (s,0)):∀k∈x.ks,0<=k/\k < i:=by
 unfold bX at h;split at h
 .simp at h
 split at h
 .split at h
  .simp at h
  .split at h
   .simp at h
   .exact Hh h
 .split at h
  .simp at h
  .exact Hh h
theorem Sx{D:List Dc}{x:Nd}{ss:List Int}{s:Int}(t:List Int)(h:bX D x (ss.length:Int) ss= (s,0)):bX D x ((ss++t).length:Int) (ss++t)= (s,0):=by have a:=wJ h;rw [<-h];unfold bX;rw [Hg a,Hg a]
theorem I9{D:List Dc}{x y:Nd}{i:Int}{ss:List Int}(a:x.op=y.op)(b:x.ks=y.ks)(c:x.n=y.n)(e:x.d=y.d)(f:x.nm=y.nm):bX D x i ss=bX D y i ss:=by unfold bX dB gg fI;rw [a,b,c,e,f]
structure Good (D:List Dc) (σ:List Int) (x:Nd) (s:Int):Prop where
 ch:bX D x (σ.length:Int) σ = (s,0)
 so:aG s=false
 op:x.op < 15\/23 < x.op
 nm:jB x.nm
theorem Good.mono{D:List Dc}{σ:List Int}{x:Nd}{s:Int}(h:Good D σ x s)(t:List Int):Good D (σ ++t) x s:=⟨Sx t h.ch,h.so,h.op,h.nm⟩
structure Ty (D:List Dc) (M:Mk) (σ:List Int):Prop where
 len:σ.length=M.N.length
 nd:∀(i:Nat) (x:Nd) (s:Int),M.N[i]? =some x->σ[i]? =some s->Good D (σ.take i) x s
 ky:∀p∈M.K,∃(i:Nat) (x:Nd),p.2= (i:Int)/\M.N[i]? =some x/\p.1=mM x.op x.nm x.n x.d x.ks
def ei(D:List Dc)(σ:List Int)(p:Int×Mk)(s:Int):Prop:= ∃a,Ty D p.2 a/\σ <+:a/\bG a p.1 s
def eN(D:List Dc)(σ:List Int)(p:List Int×Mk):Prop:= ∃b,Ty D p.2 b/\σ <+:b/\∀a∈p.1,bG b a 1
theorem iG{σ b:List Int}{l:List Int}(p:σ <+:b)(h:∀a∈l,bG σ a 1):∀a∈l,bG b a 1:=λa c=>(h a c).mono p
theorem ei.same{D:List Dc}{M:Mk}{σ:List Int}{a s:Int}(t:Ty D M σ)(h:bG σ a s):ei D σ (a,M) s:=⟨σ,t,Ye _,h⟩
theorem CF{s:ByteArray}:∀{K:List (ByteArray×Int)} {v:Int},lk s K=some v->(s,v)∈K
 | (k,u)::r,v,h=>by
  rw [lk] at h;split at h
  .rename_i e;simp only [W5] at h;subst e h;exact W7
  .exact W8 _ (CF h)
theorem o8{D:List Dc}{M:Mk}{σ:List Int}(ty:Ty D M σ){op:Int}{nm:ByteArray}{n d:Int}{ks:List Int}{s:Int}(g:Good D σ ⟨op,ks.isEmpty,ks,n,d,nm⟩ s):ei D σ (dC M op nm n d ks) s:=by
 unfold dC;cases t:lk (mM op nm n d ks) M.K with
 | some v=>
  obtain⟨i,x,c,e,h⟩:=ty.ky _ (CF t);have a:i < σ.length:=by rw [ty.len];exact(W9.1 e).1
  have k:=ty.nd i x σ[i] e (Xd a);obtain⟨m,o,e3,q,r⟩:=Io (show jB nm from g.nm) k.nm h;have j:=(k.mono (σ.drop i)).ch;rw [ZV] at j;have:bX D ⟨op,ks.isEmpty,ks,n,d,nm⟩ (σ.length:Int) σ =bX D x (σ.length:Int) σ:=I9 m r e3 q o;rw [g.ch,j] at this;simp only [XP,and_true] at this;replace c:v= (i:Int):=c;subst c;exact ei.same ty ⟨by omega,by rw [Xv,this];exact Xd a⟩
 | none=>
  refine⟨σ ++ [s],⟨by simp [ty.len],λi x s' f hs=> ?_,λp b=> ?_⟩,⟨_,rfl⟩,by simp, ?_⟩
  .rcases Za i σ.length with a | a
   .rw [Xk (by rw [<-ty.len];exact a)] at f;rw [Xk a] at hs;rw [Yu (by omega)];exact ty.nd i x s' f hs
   .have l:=(W9.1 hs).1;rw [XK,Xh] at l;obtain rfl:i=σ.length:=by omega
    rw [Xs (by rw [ty.len];exact Xr _),ty.len,Yc] at f;rw [Xs (Xr _),Yc] at hs;simp only [XM,W5] at f hs;subst f hs;rw [Yu (Xr _),Zl];exact g
  .rcases Xo.1 b with b | b
   .obtain⟨i,x,c,e,h⟩:=ty.ky p b;exact⟨i,x,c,by rw [Xk (W9.1 e).1];exact e,h⟩
   .simp only [Xi] at b;subst b;exact⟨M.N.length,⟨op,ks.isEmpty,ks,n,d,nm⟩,rfl,by simp,rfl⟩
  .show(σ ++ [s])[((M.N.length:Nat):Int).toNat]? =some s;rw [Xv,<-ty.len];simp
theorem qF:jB s0:=by intro h;cases h
theorem sC{D:List Dc}{x:Nd}{i:Int}{ss:List Int}(b: 1<=x.op/\x.op<=25)(a:x.op≠9)(d:(x.ks.length:Int)=dW x.op\/dW x.op < 0)(c:x.ks.length<=8):bX D x i ss=dB x i ss [] 0:=by unfold bX;rw [if_neg (by omega),if_neg a,if_neg (by omega)]
theorem qm{x:Nd}{σ:List Int}{da:List Int}{so:Int}{l:List Int}{s:Int}(a:x.ks.map (λk=>σ.getD k.toNat 0)=l)(b:∀k∈x.ks,0<=k/\k < (σ.length:Int))(e:gg x=true)(f:fI x=true)(hs:be x.op x.d l da so=s)(h0:s≠0):dB x (σ.length:Int) σ da so= (s,0):=by
 have c:(x.ks.any λk=>decide (k < 0) || decide (k>=(σ.length:Int)))=false:=by rw [XJ];intro k a;have:=b k a;simp;omega
 unfold dB;rw [c,e,f,a,hs,if_neg (by decide),if_neg (by decide),if_neg (by decide),if_neg h0]
theorem HH(D:List Dc)(σ:List Int)(b:Bool):Good D σ ⟨if b then 1 else 2,([]:List Int).isEmpty,[],0,0,s0⟩ 1:=by
 refine⟨?_,by decide,by cases b <;> decide,qF⟩;cases b
 .rw [sC (by decide) (by decide) (by decide) (by decide)];exact qm (l:= []) rfl (λk a=>by cases a) (by decide) (by decide) (by decide) (by decide)
 .rw [sC (by decide) (by decide) (by decide) (by decide)];exact qm (l:= []) rfl (λk a=>by cases a) (by decide) (by decide) (by decide) (by decide)
theorem HE{D:List Dc}{σ:List Int}{a:Int}(h:bG σ a 1):Good D σ ⟨3,[a].isEmpty,[a],0,0,s0⟩ 1:=by refine⟨?_,by decide,by dsimp only;omega,qF⟩;rw [sC (by dsimp only;omega) (by dsimp only;omega) (.inl (by rfl)) (by simp)];exact qm (l:= [1]) (by simp only [Xq,XY,h.getD]) (λk b=>by simp only [Xi] at b;subst b;exact⟨h.1,h.lt⟩) (by simp [gg]) (by simp [fI]) (by simp [be,pB]) (by decide)
theorem uc{D:List Dc}{σ:List Int}{a b op:Int}(ho:op=4\/op=5\/op=6)(h:bG σ a 1)(d:bG σ b 1):Good D σ ⟨op,[a,b].isEmpty,[a,b],0,0,s0⟩ 1:=by
 have c:∀k∈[a,b],0<=k/\k < (σ.length:Int):=λk e=>by
  simp only [Xl,Yj,or_false] at e;rcases e with rfl | rfl
  .exact⟨h.1,h.lt⟩
  .exact⟨d.1,d.lt⟩
 have hm: [a,b].map (λk=>σ.getD k.toNat 0)= [1,1]:=by simp only [Xq,XY,h.getD,d.getD]
 rcases ho with rfl | rfl | rfl
 .refine⟨?_,by decide,by dsimp only;omega,qF⟩;rw [sC (by dsimp only;omega) (by dsimp only;omega) (.inr (show dW 4 < 0 by decide)) (by simp)];exact qm hm c (by simp [gg]) (by simp [fI]) (by simp [be,pB]) (by decide)
 .refine⟨?_,by decide,by dsimp only;omega,qF⟩;rw [sC (by dsimp only;omega) (by dsimp only;omega) (.inr (show dW 5 < 0 by decide)) (by simp)];exact qm hm c (by simp [gg]) (by simp [fI]) (by simp [be,pB]) (by decide)
 .refine⟨?_,by decide,by dsimp only;omega,qF⟩;rw [sC (by dsimp only;omega) (by dsimp only;omega) (.inl (by rfl)) (by simp)];exact qm hm c (by simp [gg]) (by simp [fI]) (by simp [be,pB]) (by decide)
theorem HF{D:List Dc}{σ:List Int}{c a b:Int}(e:bG σ c 1)(h:bG σ a 1)(d:bG σ b 1):Good D σ ⟨7,[c,a,b].isEmpty,[c,a,b],0,0,s0⟩ 1:=by
 refine⟨?_,by decide,by dsimp only;omega,qF⟩;rw [sC (by dsimp only;omega) (by dsimp only;omega) (.inl (by rfl)) (by simp)];refine qm (l:= [1,1,1]) (by simp only [Xq,XY,h.getD,d.getD,e.getD]) (λk f=> ?_) (by simp [gg]) (by simp [fI]) (by simp [be]) (by decide);simp only [Xl,Yj,or_false] at f;rcases f with rfl | rfl | rfl
 .exact⟨e.1,e.lt⟩
 .exact⟨h.1,h.lt⟩
 .exact⟨d.1,d.lt⟩
section
variable {D:List Dc} {M:Mk} {σ:List Int}
theorem qe(ty:Ty D M σ)(b:Bool):ei D σ (dy M b) 1:=o8 ty (HH D σ b)
theorem EO{a o:Int}(ty:Ty D M σ)(h:bG σ a 1)(e:cA M a=o):∃x,M.N[a.toNat]? =some x/\x.op=o/\Good D (σ.take a.toNat) x 1:=by
 have hl:a.toNat < M.N.length:=by rw [<-ty.len];exact(W9.1 h.2).1
 have b:M.N[a.toNat]? =some M.N[a.toNat]:=Xd hl;unfold cA at e;rw [b] at e;exact⟨_,b,e,ty.nd _ _ _ b h.2⟩
theorem KN{d w:Int}(h:¬be 3 d [w] [] 0=0):w=1:=by
 by_cases a:w=1
 .exact a
 .exact absurd (by simp [be,pB,a]) h
theorem wO{a:Int}(ty:Ty D M σ)(h:bG σ a 1):ei D σ (hF M a) 1:=by
 unfold hF;split
 .exact qe ty _
 .split
  .exact qe ty _
  .split
   .rename_i e;obtain⟨x,n,ho,g⟩:=EO ty h e;have b:=g.ch;have l:=wJ b;unfold bX at b;rw [if_neg (by omega),if_neg (by omega)] at b;have m:dW x.op=1:=by rw [ho];decide
    split at b
    .simp at b
    .rename_i hl;rw [m] at hl;obtain⟨k,f⟩:∃k,x.ks= [k]:=by
      have:x.ks.length=1:=by omega
      exact YF.1 this
     have d:=l k (by rw [f];exact W7);have i:qy M a=k:=by unfold qy;rw [n];show x.ks.headD 0=k;rw [f];rfl
     rw [i];refine ei.same ty ⟨d.1, ?_⟩;unfold dB at b;rw [ho,f] at b;split at b
     .simp at b
     split at b
     .simp at b
     split at b
     .simp at b
     split at b
     .simp at b
     rename_i hs;have c:(σ.take a.toNat).getD k.toNat 0=1:=KN hs;rw [Xa,YB] at c;rw [XW] at d;rw [if_pos (by have:=h.1;omega)] at c;cases j:σ[k.toNat]? with
     | none=>rw [j] at c;cases c
     | some v=>rw [j] at c;simp only [YM] at c;rw [c]
   .exact o8 ty (HE h)
theorem rH{a b:Int}(ty:Ty D M σ)(h:bG σ a 1)(c:bG σ b 1):ei D σ (cE M a b) 1:=by
 unfold cE;split
 .exact ei.same ty h
 .split
  .exact ei.same ty c
  .exact o8 ty (uc (.inl rfl) h c)
theorem C1{a b:Int}(ty:Ty D M σ)(h:bG σ a 1)(c:bG σ b 1):ei D σ (eZ M a b) 1:=by
 unfold eZ;split
 .exact ei.same ty h
 .split
  .exact ei.same ty c
  .exact o8 ty (uc (.inr (.inl rfl)) h c)
theorem Cd{a b:Int}(ty:Ty D M σ)(h:bG σ a 1)(c:bG σ b 1):ei D σ (eJ M a b) 1:=by
 unfold eJ;split
 .exact qe ty _
 .split
  .exact ei.same ty c
  .split
   .exact ei.same ty h
   .split
    .exact wO ty c
    .split
     .exact wO ty h
     .exact o8 ty (uc (.inr (.inr rfl)) h c)
theorem Eg{a b:Int}(ty:Ty D M σ)(h:bG σ a 1)(d:bG σ b 1):ei D σ (bL M a b) 1:=by obtain⟨l,j,g,e⟩:=Cd ty h d;obtain⟨c,k,i,f⟩:=wO j e;exact⟨c,k,g.trans i,f⟩
theorem SV{c a b:Int}(ty:Ty D M σ)(e:bG σ c 1)(h:bG σ a 1)(d:bG σ b 1):ei D σ (dv c M a b) 1:=by
 unfold dv;split
 .exact ei.same ty h
 .exact o8 ty (HF e h d)
end
section
variable {D:List Dc}
theorem BU{f:Mk->Int->Int->Int×Mk}{P:List Int->Prop}(g:∀σ e,σ <+:e->P σ->P e)(k:∀M σ a b,Ty D M σ->P σ->bG σ a 1->bG σ b 1->ei D σ (f M a b) 1):∀{a b:List Int} {M:Mk} {σ:List Int},Ty D M σ->P σ->(∀x∈a,bG σ x 1)->(∀x∈b,bG σ x 1)->eN D σ (aX f M a b)
 | [],b,M,σ,ty,_,_,_=>by rw [show aX f M [] b= ([],M) by simp [aX]];exact⟨σ,ty,Ye _,λx h=>by cases h⟩
 | x::a,[],M,σ,ty,_,_,_=>by rw [show aX f M (x::a) []= ([],M) by simp [aX]];exact⟨σ,ty,Ye _,λx h=>by cases h⟩
 | x::a,y::b,M,σ,ty,l,i,j=>by
  obtain⟨s,q,d,o⟩:=k M σ x y ty l (i x W7) (j y W7);obtain⟨n,r,m,p⟩:=BU g k (a:=a) (b:=b) q (g _ _ d l) (λz c=>(i z (W8 _ c)).mono d) (λz c=>(j z (W8 _ c)).mono d);refine⟨n,r,d.trans m,λz c=> ?_⟩;rcases Xl.1 c with rfl | c
  .exact o.mono m
  .exact p z c
theorem K3:∀{a b:List Int} {M:Mk} {σ:List Int} {c:Int},Ty D M σ->bG σ c 1->(∀x∈a,bG σ x 1)->(∀x∈b,bG σ x 1)->eN D σ (fE M c a b)
 | [],b,M,σ,c,ty,_,_,_=>by rw [Aj];exact⟨σ,ty,Ye _,λx h=>by cases h⟩
 | x::a,[],M,σ,c,ty,_,_,_=>by rw [show fE M c (x::a) []= ([],M) by simp [fE]];exact⟨σ,ty,Ye _,λx h=>by cases h⟩
 | x::a,y::b,M,σ,c,ty,n,l,m=>by
  have o:=l x W7;have p:=m y W7;obtain⟨N,H,q,j⟩:=Eg ty o p;obtain⟨w,v,r,k⟩:=Eg H j (n.mono q);have e:=q.trans r;rw [fE];dsimp only;split
  .refine⟨w,v,e,λz d=> ?_⟩;simp only [Xi] at d;subst d;exact k
  .obtain⟨O,I,i,B⟩:=rH v (o.mono e) (p.mono e);have s:=r.trans i;obtain⟨P,J,t,C⟩:=rH I (j.mono s) (n.mono (e.trans i));obtain⟨Q,K,G,E⟩:=C1 J (B.mono t) C;have g:=i.trans (t.trans G);have f:=e.trans g;obtain⟨A,L,u,F⟩:=K3 (a:=a) (b:=b) K E (λz d=>(l z (W8 _ d)).mono f) (λz d=>(m z (W8 _ d)).mono f);refine⟨A,L,f.trans u,λz d=> ?_⟩;rcases Xl.1 d with rfl | d
   .exact k.mono (g.trans u)
   .exact F z d
theorem K5{a b:List Int}{M:Mk}{σ:List Int}(ty:Ty D M σ)(g:∀x∈a,bG σ x 1)(h:∀x∈b,bG σ x 1):eN D σ (eE M a b):=by obtain⟨l,j,c,e⟩:=qe ty false;obtain⟨d,k,i,f⟩:=K3 j e (iG c g) (iG c h);exact⟨d,k,c.trans i,f⟩
end
open Go Go.Aev Go.IntKind
section
variable {D:List Dc}
theorem eN.none{M:Mk}{σ:List Int}(ty:Ty D M σ):eN D σ ([],M):=⟨σ,ty,Ye _,λx h=>by cases h⟩
theorem eN.cons{M c:Mk}{σ:List Int}{x:Int}{l:List Int}(h:ei D σ (x,M) 1)(i:∀a,Ty D M a->σ <+:a->eN D a (l,c)):eN D σ (x::l,c):=by
 obtain⟨f,m,d,j⟩:=h;obtain⟨g,n,e,k⟩:=i f m d;refine⟨g,n,d.trans e,λz b=> ?_⟩;rcases Xl.1 b with rfl | b
 .exact j.mono e
 .exact k z b
theorem CB{n:Int}(h0: 0<=n){a:List Int}:∀(k i:Nat) {M:Mk} {σ:List Int},Ty D M σ->(∀x∈a,bG σ x 1)->i+k<=a.length->eN D σ (fC M a n i k)
 | 0,i,M,σ,ty,_,_=>eN.none ty
 | k+1,i,M,σ,ty,b,e=>by
  rw [fC];split
  .exact eN.cons (qe ty false) λd t p=>CB h0 k (i+1) t (iG p b) (by omega)
  .refine eN.cons (ei.same ty ?_) λd t p=>CB h0 k (i+1) t (iG p b) (by omega);have c:((i:Int) - n).toNat < a.length:=by omega
   rw [Xa,Xd c];exact b _ (Y5 c)
theorem CD{n:Int}(h0: 0<=n){a:List Int}{M:Mk}{σ:List Int}(ty:Ty D M σ)(b:∀x∈a,bG σ x 1):eN D σ (bJ M a n):=CB h0 _ _ ty b (by omega)
theorem Jw:∀{l:List Int} {M:Mk} {σ:List Int} {x:Int},Ty D M σ->bG σ x 1->(∀y∈l,bG σ y 1)->eN D σ (cP M x l)
 | [],M,σ,x,ty,_,_=>eN.none ty
 | y::l,M,σ,x,ty,a,hl=>by rw [cP];exact eN.cons (rH ty a (hl y W7)) λc t p=>Jw t (a.mono p) (iG p λz b=>hl z (W8 _ b))
theorem Lf{a:List Int}:∀{b:List Int} {i:Nat} {M:Mk} {σ:List Int} {out:List Int},Ty D M σ->(∀x∈a,bG σ x 1)->(∀x∈out,bG σ x 1)->(∀x∈b,bG σ x 1)->eN D σ (ic M a out i b)
 | [],i,M,σ,out,ty,_,ho,_=>by rw [ic];exact⟨σ,ty,Ye _,ho⟩
 | x::b,i,M,σ,out,ty,e,ho,f=>by obtain⟨w,s,g,j⟩:=CD (n:=(i:Int)) (by omega) ty e;obtain⟨y,t,p,k⟩:=Jw s ((f x W7).mono g) j;have d:=g.trans p;obtain⟨A,u,q,l⟩:=K5 t (iG d ho) k;have c:=d.trans q;obtain⟨h,v,r,m⟩:=Lf (b:=b) (i:=i+1) u (iG c e) l (iG c λz o=>f z (W8 _ o));rw [ic];exact⟨h,v,c.trans r,m⟩
theorem Vs{a b:List Int}{M:Mk}{σ:List Int}(ty:Ty D M σ)(d:∀x∈a,bG σ x 1)(h:∀x∈b,bG σ x 1):eN D σ (jv M a b):=by obtain⟨m,k,c,f⟩:=CD (n:=(a.length:Int)) (by omega) ty d;obtain⟨e,l,j,g⟩:=Lf (i:=0) k (iG c d) f (iG c h);exact⟨e,l,c.trans j,g⟩
theorem IA:∀{a b:List Int} {M:Mk} {σ:List Int} {c:Int},Ty D M σ->bG σ c 1->(∀x∈a,bG σ x 1)->(∀x∈b,bG σ x 1)->ei D σ (gI M c a b) 1
 | [],b,M,σ,c,ty,d,_,_=>by rw [show gI M c [] b= (c,M) by simp [gI]];exact ei.same ty d
 | x::a,[],M,σ,c,ty,d,_,_=>by rw [show gI M c (x::a) []= (c,M) by simp [gI]];exact ei.same ty d
 | x::a,y::b,M,σ,c,ty,d,i,j=>by have k:=i x W7;have l:=j y W7;obtain⟨J,C,m,q⟩:=wO ty k;obtain⟨K,E,w,r⟩:=rH C q (l.mono m);have e:=m.trans w;obtain⟨L,F,n,s⟩:=Cd E (k.mono e) (l.mono e);have g:=e.trans n;obtain⟨N,G,o,t⟩:=rH F s (d.mono g);obtain⟨O,H,A,u⟩:=C1 G (r.mono (n.trans o)) t;have f:=g.trans (o.trans A);obtain⟨p,I,B,v⟩:=IA (a:=a) (b:=b) H u (iG f λz h=>i z (W8 _ h)) (iG f λz h=>j z (W8 _ h));rw [gI];exact⟨p,I,f.trans B,v⟩
theorem QC{a b:List Int}{M:Mk}{σ:List Int}(ty:Ty D M σ)(g:∀x∈a,bG σ x 1)(h:∀x∈b,bG σ x 1):ei D σ (mc M a b) 1:=by obtain⟨l,j,c,e⟩:=qe ty false;obtain⟨d,k,i,f⟩:=IA j e (iG c g) (iG c h);exact⟨d,k,c.trans i,f⟩
theorem Jd:∀{l:List Int} {M:Mk} {σ:List Int},Ty D M σ->(∀y∈l,bG σ y 1)->eN D σ (fS M l)
 | [],M,σ,ty,_=>eN.none ty
 | y::l,M,σ,ty,hl=>by rw [fS];exact eN.cons (wO ty (hl y W7)) λb t p=>Jd t (iG p λz a=>hl z (W8 _ a))
theorem Fk{n:Int}:∀(k b:Nat) {M:Mk} {σ:List Int},Ty D M σ->eN D σ (fM M n b k)
 | 0,b,M,σ,ty=>eN.none ty
 | k+1,b,M,σ,ty=>by rw [fM];exact eN.cons (qe ty _) λa t _=>Fk k (b+1) t
theorem Et:∀{l:List Int} {M:Mk} {σ:List Int} {acc:Int},Ty D M σ->bG σ acc 1->(∀y∈l,bG σ y 1)->ei D σ (kq M acc l) 1
 | [],M,σ,acc,ty,h,_=>ei.same ty h
 | y::l,M,σ,acc,ty,h,hl=>by obtain⟨j,g,a,c⟩:=rH ty h (hl y W7);obtain⟨b,i,f,d⟩:=Et (l:=l) g c (iG a λz e=>hl z (W8 _ e));rw [kq];exact⟨b,i,a.trans f,d⟩
theorem yF{f:Mk->Int->Int->Int×Mk}(g:∀M σ a b,Ty D M σ->bG σ a 1->bG σ b 1->ei D σ (f M a b) 1){a b:List Int}{M:Mk}{σ:List Int}(ty:Ty D M σ)(d:∀x∈a,bG σ x 1)(e:∀x∈b,bG σ x 1):eN D σ (aX f M a b):=
 BU (P:=λ_=>True) (λ_ _ _ _=>trivial) (λM σ a b t _ h c=>g M σ a b t h c) ty trivial d e
theorem UT{a b:List Int}{M:Mk}{σ:List Int}(ty:Ty D M σ)(k:∀x∈a,bG σ x 1)(l:∀x∈b,bG σ x 1):ei D σ (pj M a b) 1:=by obtain⟨q,n,c,g⟩:=qe ty true;obtain⟨r,o,d,i⟩:=yF (λM σ a b t h f=>Cd t h f) n (iG c k) (iG c l);obtain⟨e,p,m,j⟩:=Et o (g.mono d) i;exact⟨e,p,(c.trans d).trans m,j⟩
abbrev oW:Dc:=⟨s0,true,[],0⟩
structure Fn (D:List Dc) (nm:ByteArray) (ar:List Int) (so:Int):Prop where
 h0: 0<=bp D nm
 ar:(D.getD (bp D nm).toNat oW).ar=ar
 so:(D.getD (bp D nm).toNat oW).so=so
theorem HG{σ:List Int}{nm:ByteArray}{ks ar:List Int}(f:Fn D nm ar 1)(b:ks.map (λk=>σ.getD k.toNat 0)=ar)(a:∀k∈ks,0<=k/\k < (σ.length:Int))(c:ks.length<=8)(hs:jB nm):Good D σ ⟨9,ks.isEmpty,ks,0,0,nm⟩ 1:=by
 refine⟨?_,by decide,by dsimp only;omega,hs⟩;unfold bX;dsimp only;have hl:ks.length=ar.length:=by rw [<-b,XQ]
 rw [if_neg (by omega),if_pos rfl,if_neg (by have:=f.h0;omega),f.ar,f.so,if_neg (by omega)];refine qm b a ?_ ?_ ?_ (by decide)
 .simp [gg]
 .simp [fI]
 .show be 9 0 ar ar 1=1;simp [be]
theorem I2{pre:ByteArray}{kids ar:List Int}(e:kids.length<=8):∀(k b:Nat) {M:Mk} {σ:List Int},Ty D M σ->(∀c,b<=c->c < b+k->Fn D (pre++it (c:Int)) ar 1/\jB (pre++it (c:Int)))->(kids.map (λk=>σ.getD k.toNat 0)=ar)->(∀x∈kids,0<=x/\x < (σ.length:Int))->eN D σ (dE M pre kids b k)
 | 0,b,M,σ,ty,_,_,_=>eN.none ty
 | k+1,b,M,σ,ty,f,g,a=>by
  rw [dE];obtain⟨h,i⟩:=f b (by omega) (by omega);refine eN.cons (o8 ty (HG h g a e i)) λj t p=>I2 e k (b+1) t (λc l m=>f c (by omega) (by omega)) ?_ ?_
  .rw [<-g];obtain⟨q,rfl⟩:=p;apply XI;intro x d;have:=a x d;rw [Xa,Xa,Xk (by omega)]
  .intro x d;have:=a x d;obtain⟨q,rfl⟩:=p;rw [XK];omega
end
theorem CT{D p:List Dc}{x y:Nd}{i i':Int}{ss g:List Int}{s:Int}(h:bX D x i ss= (s,0))(l:s≠0)(m:y.op=x.op)(q:y.ks.map (λk=>g.getD k.toNat 0)=x.ks.map (λk=>ss.getD k.toNat 0))(r:y.n=x.n)(o:y.d=x.d)(t:y.nm=x.nm)(w:∀k∈y.ks,0<=k/\k < i')(I:x.op=9->0<=bp D x.nm->(D.getD (bp D x.nm).toNat oW).so=s->Fn p x.nm (D.getD (bp D x.nm).toNat oW).ar s):bX p y i' g= (s,0):=by
 have hl:y.ks.length=x.ks.length:=by simpa using congrArg List.length q
 have E:(y.ks.any λk=>decide (k < 0) || decide (k>=i'))=false:=by rw [XJ];intro k J;have:=w k J;simp;omega
 have v:∀{da:List Int} {so:Int} {c:Int},dB x i ss da so= (s,0)->(x.op≠9->c=so)->(x.op=9->c=s)->dB y i' g da c= (s,0):=by
  intro da so c A u H;have j:=l7 (x:=x) (i:=i) (ss:=ss) (da:=da) (so:=so) (by rw [A]);obtain⟨_,K,L,a,B⟩:=j;rw [A] at a;have F:gg y=true:=by rw [<-K];unfold gg;rw [m,r,o,t]
  have e3:fI y=true:=by rw [<-L];unfold fI;rw [m,r,o]
  have G:be y.op y.d (y.ks.map λk=>g.getD k.toNat 0) da c=s:=by
   rw [q,m,o];by_cases b:x.op=9
   .rw [H b];rw [b] at a B⊢;replace a:s=if(x.ks.map λk=>ss.getD k.toNat 0)=da then so else 0:=a;show(if(x.ks.map λk=>ss.getD k.toNat 0)=da then s else 0)=s;split at a
    .rename_i e;rw [if_pos e]
    .exact absurd a l
   .rw [u b];exact a.symm
  unfold dB;rw [E,F,e3,G,if_neg (by decide),if_neg (by decide),if_neg (by decide),if_neg l]
 unfold bX at h⊢;rw [m,t,hl];split at h
 .simp at h
 rename_i C;rw [if_neg C];split at h
 .rename_i b;rw [if_pos b];split at h
  .simp at h
  rename_i N;split at h
  .simp at h
  rename_i c3;have z:(D.getD (bp D x.nm).toNat oW).so=s:=by
   have j:=l7 (by rw [h]);obtain⟨_,_,_,a,B⟩:=j;rw [h,b] at a;replace a:s=if(x.ks.map λk=>ss.getD k.toNat 0)= (D.getD (bp D x.nm).toNat oW).ar then(D.getD (bp D x.nm).toNat oW).so else 0:=a;split at a
   .exact a.symm
   .exact absurd a l
  have f:=I b (by omega) z;rw [if_neg (by have:=f.h0;omega),f.ar,f.so,if_neg c3];exact v h (λe=>absurd b e) (λ_=>rfl)
 .rename_i b;rw [if_neg b];split at h
  .simp at h
  rename_i c3;rw [if_neg c3];exact v h (λ_=>rfl) (λe=>absurd e b)
open Go Go.Aev Go.IntKind
structure qZ (ds D:List Dc) (p:ByteArray):Prop where
 pl:∀d∈ds,aG d.so=false->Fn D d.nm d.ar d.so
 wd:∀(k:Nat) (d:Dc),ds[k]? =some d->aG d.so=true->∀b:Nat,b < (d.so - 10).toNat->Fn D (p++it (k:Int)++us++it (b:Int)) d.ar 1
 sp:∀d∈ds,jB d.nm
 sw:∀k b:Nat,jB (p++it (k:Int)++us++it (b:Int))
 a4:∀d∈ds,d.ar.length<=8/\∀s∈d.ar,s=4
structure kR (c:Cx) (t:Tr) (σ:List Int) (i:Nat):Prop where
 w:∀(k:Nat) (s:Int),k < i->c.ss[k]? =some s->aG s=true->∀b,t.bits[k]? =some b->∀x∈b,bG σ x 1
 p:∀(k:Nat) (s:Int),k < i->c.ss[k]? =some s->aG s=false->∀v,t.to[k]? =some v->bG σ v s
theorem kR.mono{c:Cx}{t:Tr}{σ a:List Int}{i:Nat}(h:kR c t σ i)(p:σ <+:a):kR c t a i:=
 ⟨λk s d e f b g x j=>(h.w k s d e f b g x j).mono p,λk s d e f v g=>(h.p k s d e f v g).mono p⟩
theorem KW.mu{c:Cx}{t:Tr}{M:Mk}{σ:List Int}{i:Nat}{k s:Int}(h:KW c i k s)(b:cJ c t M i)(ty:kR c t σ i)(a:aG s=true):∀x∈aJ t k,bG σ x 1:=
 ty.w k.toNat s (by have:=h.h0;have:=h.lt;omega) h.so a _ (h.word b a).1
theorem KW.sK{c:Cx}{t:Tr}{M:Mk}{σ:List Int}{i:Nat}{k s:Int}(h:KW c i k s)(b:cJ c t M i)(ty:kR c t σ i)(a:aG s=false):bG σ (br t k) s:=
 ty.p k.toNat s (by have:=h.h0;have:=h.lt;omega) h.so a _ (h.plain b a).2.1
def pS(c:Cx)(i:Nat)(x:Nd)(s:Int):Prop:=bX c.ds x (i:Int) (c.ss.take i)= (s,0)
theorem jl{c:Cx}{i:Nat}{k s:Int}(h:KW c i k s):(c.ss.take i).getD k.toNat 0=s:=by have:=h.h0;have:=h.lt;rw [Xa,YN (by omega),h.so];rfl
theorem yQ{ds:List Dc}{nm:ByteArray}(h: 0<=bp ds nm):∃(k:Nat) (d:Dc),bp ds nm= (k:Int)/\ds[k]? =some d/\d.nm=nm/\ds.getD (bp ds nm).toNat oW=d:=by
 obtain⟨j,d,c,a,e⟩:=yR (i:=0) h;have b:bp ds nm= (j:Int):=by unfold bp;rw [c,XF]
 exact⟨j,d,b,a,e,by rw [b,Xv,Xa,a];rfl⟩
theorem oV{ds:List Dc}{x:Nd}{i:Int}{ss:List Int}{s:Int}(h:bX ds x i ss= (s,0))(f:x.op=9)(b:s≠0):∃(k:Nat) (d:Dc),bp ds x.nm= (k:Int)/\ds[k]? =some d/\d.nm=x.nm/\d.so=s/\(x.ks.map λk=>ss.getD k.toNat 0)=d.ar/\ds.getD (bp ds x.nm).toNat oW=d:=by
 unfold bX at h;split at h
 .simp at h
 split at h
 .simp at h
 rename_i m;split at h
 .simp at h
 obtain⟨k,d,g,j,l,c⟩:=yQ (ds:=ds) (nm:=x.nm) (by omega);obtain⟨_,_,_,a,n⟩:=l7 (by rw [h]);rw [h,f] at a;rw [show ds.getD (bp ds x.nm).toNat ⟨s0,true,[],0⟩=d from c] at a;replace a:s=if(x.ks.map λk=>ss.getD k.toNat 0)=d.ar then d.so else 0:=a;split at a
 .rename_i e;exact⟨k,d,g,j,l,a.symm,e,c⟩
 .exact absurd a b
theorem qG{ds:List Dc}{x:Nd}{i:Int}{ss:List Int}{s:Int}(h:bX ds x i ss= (s,0)):s≠0/\gg x=true/\fI x=true:=by
 have key:∀{da:List Int} {so:Int},dB x i ss da so= (s,0)->s≠0/\gg x=true/\fI x=true:=by intro da so h;obtain⟨_,b,c,a,d⟩:=l7 (by rw [h]);rw [h] at a;exact⟨by rw [show s=_ from a];exact d,b,c⟩
 unfold bX at h;split at h
 .simp at h
 split at h
 .split at h
  .simp at h
  split at h
  .simp at h
  exact key h
 .split at h
  .simp at h
  exact key h
theorem mu{c:Cx}{D:List Dc}(E:qZ c.ds D c.p){t:Tr}{M:Mk}{σ:List Int}{i:Nat}{x:Nd}{s:Int}(ok:ov c i x s)(C:pS c i x s)(f:aG s=true)(g:cJ c t M i)(j:kR c t σ i)(ty:Ty D M σ):eN D σ (gu c t M x s):=by
 have O:=(qG C).1;have one:∀{a:Int},x.ks= [a]->x.ks.getD 0 0=a:=λh=>by rw [h];rfl
 have H:∀{a b:Int},x.ks= [a,b]->x.ks.getD 0 0=a:=λh=>by rw [h];rfl
 have I:∀{a b:Int},x.ks= [a,b]->x.ks.getD 1 0=b:=λh=>by rw [h];rfl
 unfold gu;by_cases r:x.op=9
 .rw [if_pos r];obtain⟨k,d,Q,J,W,K,L,X⟩:=oV C r O;have S:d∈c.ds:=Xg J;obtain⟨V,a4⟩:=E.a4 d S;have B:∀y∈x.ks,KW c i y 4/\bG σ (br t y) 4:=λy o=>by
   obtain⟨s',G⟩:=ok.k y o;have F:=jl G;have:s'=4:=a4 _ (by rw [<-L];exact XB.2 ⟨y,o,F⟩);subst this;exact⟨G,G.sK g j rfl⟩
  rw [Q];refine I2 (ar:=d.ar) (by rw [XQ];exact ok.kl) _ 0 ty (λb _ n=>⟨E.wd k d J (by rw [K];exact f) b (by rw [K];omega),E.sw k b⟩) ?_ ?_
  .rw [<-L,Yr];apply XI;intro y o;obtain⟨F,u⟩:=B y o;show σ.getD (br t y).toNat 0=_;rw [u.getD,jl F]
  .intro y o;obtain⟨z,U,rfl⟩:=XB.1 o;have u:=(B z U).2;exact⟨u.1,u.lt⟩
 rw [if_neg r];by_cases c7:x.op=7
 .rw [if_pos c7];obtain⟨a,b,d,e,k1,k2,k3⟩:=ok.c7 c7;rw [e];show eN D σ (aX (dv (br t a)) M (aJ t b) (aJ t d));have R:=k1.sK g j rfl;exact BU (P:=λσ =>bG σ (br t a) 1) (λ_ _ p h=>h.mono p) (λM σ y z m T h l=>SV m T h l) ty R (k2.mu g j f) (k3.mu g j f)
 rw [if_neg c7];by_cases fm:x.op=15
 .rw [if_pos fm];exact Fk _ _ ty
 rw [if_neg fm];by_cases eA:x.op=16
 .rw [if_pos eA];obtain⟨_,a,e,k1⟩:=ok.eA (.inl eA);rw [one e];exact Jd ty (k1.mu g j f)
 rw [if_neg eA];by_cases bK:x.op=23
 .rw [if_neg (by omega),if_neg (by omega),if_neg (by omega),if_neg (by omega),if_neg (by omega)];obtain⟨_,a,e,k1⟩:=ok.eA (.inr bK);rw [one e];exact CD (ok.bK bK).1 ty (k1.mu g j f)
 have N: 17<=x.op/\x.op<=21:=by
  rcases Zt (17<=x.op/\x.op<=21) with h | h
  .exact h
  exfalso;have:=ok.op;by_cases c8:x.op=8
  .rw [(ok.c8 c8).1] at f;cases f
  by_cases dT:x.op=22
  .rw [(ok.dT dT).1] at f;cases f
  have:=(ok.pl c7 c8 (by omega)).1 r;rw [this] at f;cases f
 obtain⟨_,a,b,e,k1,k2⟩:=ok.gA N.1 N.2;rw [H e,I e];have q:=k1.mu g j f;have n:=k2.mu g j f;by_cases gA:x.op=17
 .rw [if_pos gA];exact yF (λM σ y z m h l=>rH m h l) ty q n
 rw [if_neg gA];by_cases v:x.op=18
 .rw [if_pos v];exact yF (λM σ y z m h l=>C1 m h l) ty q n
 rw [if_neg v];by_cases w:x.op=19
 .rw [if_pos w];exact yF (λM σ y z m h l=>Eg m h l) ty q n
 rw [if_neg w];by_cases A:x.op=20
 .rw [if_pos A];exact K5 ty q n
 rw [if_neg A,if_pos (by omega)];exact Vs ty q n
theorem sK{c:Cx}{D:List Dc}(J:qZ c.ds D c.p){t:Tr}{M:Mk}{σ:List Int}{i:Nat}{x:Nd}{s:Int}(ok:ov c i x s)(j:pS c i x s)(g:aG s=false)(l:cJ c t M i)(q:kR c t σ i)(ty:Ty D M σ):ei D σ (hH t M x) s:=by
 obtain⟨u,B,H⟩:=qG j;have v:∀{a b:Int},x.ks= [a,b]->x.ks.getD 0 0=a:=λh=>by rw [h];rfl
 have w:∀{a b:Int},x.ks= [a,b]->x.ks.getD 1 0=b:=λh=>by rw [h];rfl
 have C:∀{da:List Int} {so:Int},x.op≠9->bX c.ds x (i:Int) (c.ss.take i)= (s,0)->s=be x.op x.d (x.ks.map λk=>(c.ss.take i).getD k.toNat 0) [] 0:=λU h=>by
  unfold bX at h;split at h
  .simp at h
  split at h
  .simp at h
  obtain⟨_,_,_,O,_⟩:=l7 (by rw [h]);rw [h] at O;exact O
 have o:(∀k∈x.ks,∃s',KW c i k s'/\aG s'=false)->(x.op < 15\/23 < x.op)->ei D σ (dC M x.op x.nm x.n x.d (x.ks.map (br t))) s:=λr ho=>by
  refine o8 ty ⟨?_,g,ho, ?_⟩
  .refine CT j u rfl ?_ rfl rfl rfl ?_ ?_
   .show(x.ks.map (br t)).map _=_;rw [Yr];apply XI;intro y I;obtain⟨s',m,A⟩:=r y I;show σ.getD (br t y).toNat 0=_;rw [(m.sK l q A).getD,jl m]
   .intro k L;obtain⟨y,I,rfl⟩:=XB.1 (show k∈x.ks.map (br t) from L);obtain⟨s',m,A⟩:=r y I;exact⟨(m.sK l q A).1,(m.sK l q A).lt⟩
   .intro z _ T;obtain⟨k,d,P,E,F,G,Q,K⟩:=oV j z u;have:=J.pl d (Xg E) (by rw [G];exact g);rw [F,G] at this;rw [K];exact this
  .by_cases z:x.op=9
   .obtain⟨k,d,P,E,F,G,Q,K⟩:=oV j z u;have:=J.sp d (Xg E);rw [F] at this;exact this
   .rcases(yS B H).2.2 with e | e
    .show jB x.nm;rw [e];exact qF
    .exact absurd e z
 unfold hH;by_cases dT:x.op=22
 .rw [if_pos dT];obtain⟨_,a,b,s',f,e,k1,k2⟩:=ok.dT dT;have hs:s=1:=by
   have:=C (da:= []) (so:=0) (by omega) j;rw [dT,e] at this;simp only [Xq,XY,jl k1,jl k2] at this;rw [this];simp [be,f]
  subst hs;rw [v e,w e];exact QC ty (k1.mu l q f) (k2.mu l q f)
 rw [if_neg dT];by_cases c8:x.op=8
 .obtain⟨_,a,b,s',e,h⟩:=ok.c8 c8;rw [v e,w e];rcases h with⟨f,k1,k2⟩ | h
  .have hl:=(k1.word l f).2.1;have m:=gP f;rw [if_pos ⟨c8,zr (by omega)⟩];have hs:s=1:=by
    have:=C (da:= []) (so:=0) (by omega) j;rw [c8,e] at this;simp only [Xq,XY,jl k1,jl k2] at this;rw [this];simp [be,f]
   subst hs;exact UT ty (k1.mu l q f) (k2.mu l q f)
  .obtain⟨V,k1,N⟩:=h a (by rw [e];exact W7);have R:aJ t a= []:=by
    have:=(k1.plain l N).1;unfold aJ;rw [Xa,this];rfl
   rw [if_neg (by rw [R];simp)];exact o h (by omega)
 rw [if_neg (by omega)];by_cases c7:x.op=7
 .obtain⟨a,b,d,e,k1,k2,k3⟩:=ok.c7 c7;refine o (λk r=> ?_) (by omega);rw [e] at r;simp only [Xl,Yj,or_false] at r;rcases r with rfl | rfl | rfl
  .exact⟨1,k1,rfl⟩
  .exact⟨s,k2,g⟩
  .exact⟨s,k3,g⟩
 have S:x.op < 15\/24<=x.op:=by
  rcases Zt (x.op < 15\/24<=x.op) with h | h
  .exact h
  exfalso;by_cases fm:x.op=15
  .have:=ok.fm fm;have m:aG s=true:=by unfold aG;simp;omega
   rw [m] at g;cases g
  by_cases eA:x.op=16\/x.op=23
  .rw [(ok.eA eA).1] at g;cases g
  rw [(ok.gA (by omega) (by omega)).1] at g;cases g
 exact o (ok.pl c7 c8 S).2 (by omega)
theorem kR.snoc{c:Cx}{t:Tr}{M:Mk}{σ:List Int}{i:Nat}{s:Int}{w:List Int}{v:Int}(h:kR c t σ i)(d:cJ c t M i)(hs:c.ss[i]? =some s)(l:aG s=true->∀x∈w,bG σ x 1)(m:aG s=false->bG σ v s):kR c ⟨t.bits++ [w],t.to++ [v]⟩ σ (i+1):=by
 refine⟨λk s' n a j b f=> ?_,λk s' n a j u g=> ?_⟩
 .by_cases e:k=i
  .subst e;rw [hs] at a;simp only [W5] at a;subst a;rw [Xs (by rw [d.bl];exact Xr _),d.bl,Yc] at f;simp only [XM,W5] at f;subst f;exact l j
  .rw [Xk (by rw [d.bl];omega)] at f;exact h.w k s' (by omega) a j b f
 .by_cases e:k=i
  .subst e;rw [hs] at a;simp only [W5] at a;subst a;rw [Xs (by rw [d.tl];exact Xr _),d.tl,Yc] at g;simp only [XM,W5] at g;subst g;exact m j
  .rw [Xk (by rw [d.tl];omega)] at g;exact h.p k s' (by omega) a j u g
theorem II{c:Cx}(ok:qY c){D:List Dc}(n:qZ c.ds D c.p)(w:c.p.size<=100)(hold:∀(i:Nat) (x:Nd) (s:Int),c.ns[i]? =some x->c.ss[i]? =some s->pS c i x s):
  ∀(rn:List Nd) (rs:List Int) (i:Nat) (t:Tr) (M:Mk) (σ:List Int),c.ns.drop i=rn->c.ss.drop i=rs->i<=c.ns.length->cJ c t M i->M.N.length<=800->Ty D M σ->kR c t σ i->(fR c rn rs t M).2.N.length<=800->
   ∃a,Ty D (fR c rn rs t M).2 a/\kR c (fR c rn rs t M).1 a c.ns.length/\cJ c (fR c rn rs t M).1 (fR c rn rs t M).2 c.ns.length
 | [],rs,i,t,M,σ,g,j,v,b,u,ty,d,_=>by
  have:i=c.ns.length:=by have:=bu g;omega
  subst this;rw [show fR c [] rs t M= (t,M) by simp [fR]];exact⟨σ,ty,d,b⟩
 | x::rn,[],i,t,M,σ,g,j,v,b,u,ty,d,_=>by have k:=(bt g).2.1;have E:=bu j;have:=ok.sl;omega
 | x::rn,s::rs,i,t,M,σ,g,j,v,b,u,ty,d,hl=>by
  obtain⟨o,C,A⟩:=bt g;obtain⟨f,_,r⟩:=bt j;obtain⟨st,up⟩:=DL ok o f b w (by omega);have y:=ok.nd i x s o f;have m:=hold i x s o f;have key:∃a,Ty D (iR c t M x s).2 a/\kR c (iR c t M x s).1 a (i+1):=by
   unfold iR;cases l:aG s with
   | true=>obtain⟨a,h,q,k⟩:=mu n y m l b d ty;exact⟨a,h,(d.mono q).snoc b f (λ_=>k) (λe=>by rw [l] at e;cases e)⟩
   | false=>obtain⟨a,h,q,k⟩:=sK n y m l b d ty;exact⟨a,h,(d.mono q).snoc b f (λe=>by rw [l] at e;cases e) (λ_=>k)⟩
  rw [fR] at hl⊢;split at hl
  .omega
  rename_i B;rw [if_neg B];obtain⟨a,h,z⟩:=key;exact II ok n w hold rn rs (i+1) _ _ a A r (by omega) st (by omega) h z hl
end Go.Aev.Gen
