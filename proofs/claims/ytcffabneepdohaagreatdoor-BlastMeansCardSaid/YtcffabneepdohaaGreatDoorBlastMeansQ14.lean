import Derived.Test.YtcffabneepdohaaGreatDoorBlastMeansQ13
set_option linter.all false
namespace Go.Aev.Gen
open Go Go.Aev Go.IntKind
theorem x7{e:List Dc}{d:Dc}(h:gJ e d=0):d.nm.size<=12/\d.ar.length<=8/\(∀s∈d.ar,s=4)/\lJ d.nm=true/\nN d.so=true/\(e.any λx=>decide (x.nm=d.nm))=false/\(d.so=5->d.ar= []):=by
 unfold gJ at h;split at h
 .cases h
 rename_i i;split at h
 .cases h
 rename_i j;split at h
 .cases h
 rename_i l;split at h
 .cases h
 rename_i f;have g:lJ d.nm=true:=by simpa using i
 refine⟨?_,by omega,λs hs=> ?_,g, ?_,by simpa using j,λk=> ?_⟩
 .unfold lJ at g;simp only [Ww,decide_eq_true_eq] at g;omega
 .have:(d.ar.any λs=> !(s==4))=false:=by
   cases c:d.ar.any λs=> !(s==4) with
   | false=>rfl
   | true=>exact absurd (.inr (.inl c)) f
  rw [Xd] at this;have:=this s hs;simpa using this
 .cases c:nN d.so with
  | true=>rfl
  | false=>exact absurd (.inl c) f
 .cases c:d.ar with
  | nil=>rfl
  | cons a b=>exact absurd (.inr (.inr ⟨k,by rw [c];simp⟩)) f
theorem xR:∀{r:List Dc} {a:List Dc} {i:Nat},(eN a i r).1=0->∀(j:Nat) (d:Dc),r[j]? =some d->gJ (a++r.take j) d=0
 | [],_,_,_,j,d,h=>by simp at h
 | x::r,a,i,h,j,d,b=>by
  rw [eN] at h;split at h
  .rename_i h0;cases j with
   | zero=>simp at b;subst b;simpa using h0
   | succ j=>have:=xR h j d (by simpa using b);simpa using this
  .rename_i h0;exact absurd h h0
theorem Hk{ss:List Int}:∀{r:List Int} {j:Nat},(fC ss r j).1=0->∀k∈r,0<=k/\ss[k.toNat]? =some 1
 | [],_,_,k,h=>by cases h
 | x::r,j,h,k,b=>by
  rw [fC] at h;split at h
  .exact absurd (show(3:Int)=0 from h) (by decide)
  rename_i d;split at h
  .exact absurd (show(8:Int)=0 from h) (by decide)
  rename_i c;rcases WC.1 b with rfl | b
  .refine⟨by omega, ?_⟩;have a:ss.getD k.toNat 0=1:=by simpa using c
   rw [Wp] at a;rw [Wv (by omega)] at a⊢;exact congrArg some a
  .exact Hk h k b
theorem zJ{ds:List Dc}:∀{r:List Nd} {i:Nat} {ss:List Int},ss.length=i->(eT ds r i ss).2.1=0->
  ∃t,eT ds r i ss= (ss++t,0,0)/\t.length=r.length/\∀(j:Nat) (x:Nd),r[j]? =some x->(bU ds x ((i+j:Nat):Int) (ss++t.take j)).2=0/\t[j]? =some (bU ds x ((i+j:Nat):Int) (ss++t.take j)).1
 | [],i,ss,hs,_=>⟨[],by rw [eT,WQ],rfl,λj x h=>by simp at h⟩
 | y::r,i,ss,hs,h=>by
  rw [eT] at h⊢;split at h
  .rename_i h0;rw [if_pos h0];obtain⟨t,b,c,d⟩:=zJ (r:=r) (i:=i+1) (ss:=ss++ [(bU ds y (i:Int) ss).1]) (by simp [hs]) h;refine⟨(bU ds y (i:Int) ss).1::t,by rw [b];simp,by simp [c],λj x a=> ?_⟩;cases j with
   | zero=>simp at a;subst a;simp [h0]
   | succ j=>have:=d j x (by simpa using a);rw [show i+1+j=i+ (j+1) by omega] at this;simpa using this
  .rename_i h0;exact absurd h h0
theorem l9{x:Nd}{i:Int}{ss da:List Int}{so:Int}(h:(dz x i ss da so).2=0):
  (∀k∈x.ks,0<=k/\k < i)/\gg x=true/\fL x=true/\(dz x i ss da so).1=bc x.op x.d (x.ks.map λk=>ss.getD k.toNat 0) da so/\bc x.op x.d (x.ks.map λk=>ss.getD k.toNat 0) da so≠0:=by
 unfold dz at h⊢;split at h
 .exact absurd (show(3:Int)=0 from h) (by decide)
 rename_i a;split at h
 .exact absurd (show(5:Int)=0 from h) (by decide)
 rename_i b;split at h
 .exact absurd (show(3:Int)=0 from h) (by decide)
 rename_i c;split at h
 .exact absurd (show(8:Int)=0 from h) (by decide)
 rename_i e;rw [if_neg a,if_neg b,if_neg c,if_neg e];refine⟨λk g=> ?_,by simpa using b,by simpa using c,rfl,e⟩;have f:(x.ks.any λk=>decide (k < 0) || decide (k>=i))=false:=by simpa using a
 rw [Xd] at f;have:=f k g;simp at this;omega
theorem yz{x:Nd}(b:gg x=true)(a:fL x=true):(-1000000<=x.n/\x.n<=1000000)/\(-1000000<=x.d/\x.d<=1000000)/\(x.nm=s0\/x.op=9):=by
 unfold gg at b;simp only [Ww,Xf,decide_eq_true_eq,beq_iff_eq] at b;obtain⟨⟨e,i⟩,j⟩:=b;refine⟨?_, ?_,e⟩ <;>
 .unfold fL at a;split at a
  .unfold wO at a;simp only [Ww,decide_eq_true_eq] at a;omega
  rename_i g;split at a
  .simp only [Ww,decide_eq_true_eq] at a;rename_i c;have k:i64.wrap (1 * 2 ^ min x.d.toNat 64)<=256:=by
    have f:x.d.toNat=1\/x.d.toNat=2\/x.d.toNat=3\/x.d.toNat=4\/x.d.toNat=5\/x.d.toNat=6\/x.d.toNat=7\/x.d.toNat=8:=by omega
    rcases f with h | h | h | h | h | h | h | h <;> rw [h] <;> decide
   omega
  rename_i c;split at a
  .simp only [Ww,decide_eq_true_eq] at a;omega
  rename_i c3;omega
theorem wG{s:Int}(h:pN s=true):aE s=false:=by unfold pN at h;simp only [Xf,beq_iff_eq] at h;rcases h with rfl | rfl <;> rfl
theorem zd{s:Int}(h:pB s=true):aE s=false:=by unfold pB at h;simp only [beq_iff_eq] at h;subst h;rfl
theorem RO{c:Cx}{x:Nd}{i:Nat}{pre:List Int}(hpre:pre.length=i)(R:∀k,k < i->c.ss[k]? =pre[k]?)(Y:∀d∈c.ds,d.nm.size<=12/\d.ar.length<=8/\∀s∈d.ar,s=4)(h:(bU c.ds x (i:Int) pre).2=0):oe c i x (bU c.ds x (i:Int) pre).1:=by
 unfold bU at h⊢;by_cases U:x.op < 1\/25 < x.op
 .rw [if_pos U] at h;exact absurd (show(4:Int)=0 from h) (by decide)
 rw [if_neg U] at h⊢;have p: 1<=x.op/\x.op<=25:=by omega
 have A:∀k,0<=k->k < (i:Int)->KW c i k (pre.getD k.toNat 0):=λk h1 K=>⟨h1,K,by
  rw [R k.toNat (by omega),Wp,Wv (by omega)];rfl⟩
 by_cases J:x.op=9
 .rw [if_pos J] at h⊢;by_cases O:bm c.ds x.nm < 0
  .rw [if_pos O] at h;exact absurd (show(6:Int)=0 from h) (by decide)
  rw [if_neg O] at h⊢;by_cases c3:(x.ks.length≠((c.ds.getD (bm c.ds x.nm).toNat ⟨s0,true,[],0⟩).ar).length)\/8 < x.ks.length
  .rw [if_pos c3] at h;exact absurd (show(9:Int)=0 from h) (by decide)
  rw [if_neg c3] at h⊢;obtain⟨j,d,h3,X,h5⟩:=yy (nm:=x.nm) (i:=0) (ds:=c.ds) (by unfold bm at O;omega);have hf:bm c.ds x.nm= ((j:Nat):Int):=by unfold bm;rw [h3,WZ]
  have Q:c.ds.getD (bm c.ds x.nm).toNat ⟨s0,true,[],0⟩=d:=by rw [hf,WW,Wp,X];rfl
  rw [Q] at h c3⊢;obtain⟨m,T,I,N,g⟩:=l9 h;rw [N];obtain⟨g1,y,W⟩:=yz T I;obtain⟨d1,d2,d3⟩:=Y d (Wx X);have es:bc x.op x.d (x.ks.map λk=>pre.getD k.toNat 0) d.ar d.so=if(x.ks.map λk=>pre.getD k.toNat 0)=d.ar then d.so else 0:=by rw [J];rfl
  rw [es] at g⊢;by_cases e:(x.ks.map λk=>pre.getD k.toNat 0)=d.ar
  .have Z:∀k∈x.ks,∃s',KW c i k s'/\aE s'=false:=λk z=>by
    refine⟨_,A k (m k z).1 (m k z).2, ?_⟩;have:pre.getD k.toNat 0=4:=d3 _ (by rw [<-e];exact WU.2 ⟨k,z,rfl⟩);rw [this];rfl
   exact⟨p,by omega,g1,y,by rw [<-h5];exact d1,λk z=>⟨_,A k (m k z).1 (m k z).2⟩,by omega,by omega,by omega,by omega,by omega,by omega,by omega,by omega,λ_ _ _=>⟨λe=>absurd J e,Z⟩⟩
  .rw [if_neg e] at g;exact absurd rfl g
 .rw [if_neg J] at h⊢;by_cases c3:(0<=dS x.op/\(x.ks.length:Int)≠dS x.op)\/8 < x.ks.length
  .rw [if_pos c3] at h;exact absurd (show(9:Int)=0 from h) (by decide)
  rw [if_neg c3] at h⊢;obtain⟨m,T,I,N,g⟩:=l9 h;rw [N];obtain⟨g1,y,W⟩:=yz T I;have t:x.nm.size<=12:=by
   rcases W with e | e
   .rw [e];decide
   .exact absurd e J
  have q:∀k∈x.ks,∃s',KW c i k s':=λk z=>⟨_,A k (m k z).1 (m k z).2⟩;have r:x.ks.length<=8:=by omega
  have u: 0<=dS x.op->(x.ks.length:Int)=dS x.op:=λe=>by omega
  have l:(∀s∈(x.ks.map λk=>pre.getD k.toNat 0),aE s=false)->∀k∈x.ks,∃s',KW c i k s'/\aE s'=false:=λP k z=>⟨_,A k (m k z).1 (m k z).2,P _ (WU.2 ⟨k,z,rfl⟩)⟩;have E:(x.ks.length:Int)=0->x.ks= []:=λh=>WT.1 (by omega);have F:(x.ks.length:Int)=1->∃a,x.ks= [a]:=λh=>X0.1 (by omega);have C:(x.ks.length:Int)=2->∃a b,x.ks= [a,b]:=λh=>by
   have K:x.ks.length=2:=by omega
   match hh:x.ks,K with
   | [a,b],_=>exact⟨a,b,rfl⟩
  have S:(x.ks.length:Int)=3->∃a b d,x.ks= [a,b,d]:=λh=>by
   have K:x.ks.length=3:=by omega
   match hh:x.ks,K with
   | [a,b,d],_=>exact⟨a,b,d,rfl⟩
  clear h N;rcases tZ p with o | o | o | o | o | o | o | o | o | o | o | o | o | o | o | o | o | o | o | o | o | o | o | o | o
  ·
   have hl:(x.ks.length:Int)=0:=by have:=u (by rw [o];decide);rw [o] at this;exact this
   have G:=E hl;have es:bc x.op x.d (x.ks.map λk=>pre.getD k.toNat 0) [] 0=1:=by rw [o];rfl
   rw [es];exact⟨p,r,g1,y,t,q,by omega,by omega,by omega,by omega,by omega,by omega,by omega,by omega,λ_ _ _=>⟨λ_=>rfl,λk z=>by rw [G] at z;cases z⟩⟩
  ·
   have hl:(x.ks.length:Int)=0:=by have:=u (by rw [o];decide);rw [o] at this;exact this
   have G:=E hl;have es:bc x.op x.d (x.ks.map λk=>pre.getD k.toNat 0) [] 0=1:=by rw [o];rfl
   rw [es];exact⟨p,r,g1,y,t,q,by omega,by omega,by omega,by omega,by omega,by omega,by omega,by omega,λ_ _ _=>⟨λ_=>rfl,λk z=>by rw [G] at z;cases z⟩⟩
  ·
   have hl:(x.ks.length:Int)=1:=by have:=u (by rw [o];decide);rw [o] at this;exact this
   have es:bc x.op x.d (x.ks.map λk=>pre.getD k.toNat 0) [] 0=if(x.ks.map λk=>pre.getD k.toNat 0).all pB=true then 1 else 0:=by rw [o];rfl
   rw [es] at g⊢;cases v:(x.ks.map λk=>pre.getD k.toNat 0).all pB with
   | false=>rw [v] at g;exact absurd rfl g
   | true=>have B:=l (λs hs=>zd (WO.1 v s hs));rw [if_pos rfl];exact⟨p,r,g1,y,t,q,λ_=>by obtain⟨a,P⟩:=F hl;exact⟨a,[],P⟩,by omega,by omega,by omega,by omega,by omega,by omega,by omega,λ_ _ _=>⟨λ_=>rfl,B⟩⟩
  ·
   have es:bc x.op x.d (x.ks.map λk=>pre.getD k.toNat 0) [] 0=if(x.ks.map λk=>pre.getD k.toNat 0).all pB=true then 1 else 0:=by rw [o];rfl
   rw [es] at g⊢;cases v:(x.ks.map λk=>pre.getD k.toNat 0).all pB with
   | false=>rw [v] at g;exact absurd rfl g
   | true=>have B:=l (λs hs=>zd (WO.1 v s hs));rw [if_pos rfl];exact⟨p,r,g1,y,t,q,by omega,by omega,by omega,by omega,by omega,by omega,by omega,by omega,λ_ _ _=>⟨λ_=>rfl,B⟩⟩
  ·
   have es:bc x.op x.d (x.ks.map λk=>pre.getD k.toNat 0) [] 0=if(x.ks.map λk=>pre.getD k.toNat 0).all pB=true then 1 else 0:=by rw [o];rfl
   rw [es] at g⊢;cases v:(x.ks.map λk=>pre.getD k.toNat 0).all pB with
   | false=>rw [v] at g;exact absurd rfl g
   | true=>have B:=l (λs hs=>zd (WO.1 v s hs));rw [if_pos rfl];exact⟨p,r,g1,y,t,q,by omega,by omega,by omega,by omega,by omega,by omega,by omega,by omega,λ_ _ _=>⟨λ_=>rfl,B⟩⟩
  ·
   have hl:(x.ks.length:Int)=2:=by have:=u (by rw [o];decide);rw [o] at this;exact this
   have es:bc x.op x.d (x.ks.map λk=>pre.getD k.toNat 0) [] 0=if(x.ks.map λk=>pre.getD k.toNat 0).all pB=true then 1 else 0:=by rw [o];rfl
   rw [es] at g⊢;cases v:(x.ks.map λk=>pre.getD k.toNat 0).all pB with
   | false=>rw [v] at g;exact absurd rfl g
   | true=>have B:=l (λs hs=>zd (WO.1 v s hs));rw [if_pos rfl];exact⟨p,r,g1,y,t,q,by omega,by omega,by omega,by omega,by omega,by omega,by omega,by omega,λ_ _ _=>⟨λ_=>rfl,B⟩⟩
  ·
   have hl:(x.ks.length:Int)=3:=by have:=u (by rw [o];decide);rw [o] at this;exact this
   obtain⟨a,b,d,f⟩:=S hl;have es:bc x.op x.d (x.ks.map λk=>pre.getD k.toNat 0) [] 0=if pre.getD a.toNat 0=1/\pre.getD b.toNat 0=pre.getD d.toNat 0/\pre.getD b.toNat 0≠5 then pre.getD b.toNat 0 else 0:=by rw [o,f];rfl
   rw [es] at g⊢;by_cases e:pre.getD a.toNat 0=1/\pre.getD b.toNat 0=pre.getD d.toNat 0/\pre.getD b.toNat 0≠5
   .rw [if_pos e];have ka:=A a (m a (by rw [f];simp)).1 (m a (by rw [f];simp)).2;have kb:=A b (m b (by rw [f];simp)).1 (m b (by rw [f];simp)).2;have kd:=A d (m d (by rw [f];simp)).1 (m d (by rw [f];simp)).2;rw [e.1] at ka;rw [<-e.2.1] at kd;exact⟨p,r,g1,y,t,q,by omega,λ_=>⟨a,b,d,f,ka,kb,kd⟩,by omega,by omega,by omega,by omega,by omega,by omega,λe=>absurd o e⟩
   .rw [if_neg e] at g;exact absurd rfl g
  ·
   have hl:(x.ks.length:Int)=2:=by have:=u (by rw [o];decide);rw [o] at this;exact this
   obtain⟨a,b,f⟩:=C hl;have ka:=A a (m a (by rw [f];simp)).1 (m a (by rw [f];simp)).2;have kb:=A b (m b (by rw [f];simp)).1 (m b (by rw [f];simp)).2;have es:bc x.op x.d (x.ks.map λk=>pre.getD k.toNat 0) [] 0=if(x.ks.map λk=>pre.getD k.toNat 0).all pN=true\/(pre.getD a.toNat 0=pre.getD b.toNat 0/\(pre.getD a.toNat 0=4\/aE (pre.getD a.toNat 0)=true)) then 1 else 0:=by rw [o,f];rfl
   rw [es] at g⊢;by_cases e:(x.ks.map λk=>pre.getD k.toNat 0).all pN=true\/(pre.getD a.toNat 0=pre.getD b.toNat 0/\(pre.getD a.toNat 0=4\/aE (pre.getD a.toNat 0)=true))
   .rw [if_pos e];have c8:aE 1=false/\∃a b s',x.ks= [a,b]/\((aE s'=true/\KW c i a s'/\KW c i b s')\/∀k∈x.ks,∃s',KW c i k s'/\aE s'=false):=by
     refine⟨rfl,a,b,pre.getD a.toNat 0,f, ?_⟩;rcases e with e | ⟨V,L | L⟩
     .exact .inr (l λs hs=>wG (WO.1 e s hs))
     .right;intro k z;rw [f] at z;simp only [WC,XE,or_false] at z;rcases z with rfl | rfl
      .exact⟨_,ka,by rw [L];rfl⟩
      .exact⟨_,kb,by rw [<-V,L];rfl⟩
     .left;rw [<-V] at kb;exact⟨L,ka,kb⟩
    exact⟨p,r,g1,y,t,q,by omega,by omega,λ_=>c8,by omega,by omega,by omega,by omega,by omega,λ_ e=>absurd o e⟩
   .rw [if_neg e] at g;exact absurd rfl g
  ·
   exact absurd o J
  ·
   have hl:(x.ks.length:Int)=0:=by have:=u (by rw [o];decide);rw [o] at this;exact this
   have G:=E hl;have es:bc x.op x.d (x.ks.map λk=>pre.getD k.toNat 0) [] 0=if x.d=1 then 2 else 3:=by rw [o];rfl
   rw [es];have H:aE (if x.d=1 then 2 else 3)=false:=by split <;> rfl
   exact⟨p,r,g1,y,t,q,by omega,by omega,by omega,by omega,by omega,by omega,by omega,by omega,λ_ _ _=>⟨λ_=>H,λk z=>by rw [G] at z;cases z⟩⟩
  ·
   have es:bc x.op x.d (x.ks.map λk=>pre.getD k.toNat 0) [] 0=if(x.ks.map λk=>pre.getD k.toNat 0).all pN=true then(if(x.ks.map λk=>pre.getD k.toNat 0).all pI=true then 2 else 3) else 0:=by rw [o];rfl
   rw [es] at g⊢;cases v:(x.ks.map λk=>pre.getD k.toNat 0).all pN with
   | false=>rw [v] at g;exact absurd rfl g
   | true=>
    have B:=l (λs hs=>wG (WO.1 v s hs));rw [if_pos rfl];have H:aE (if(x.ks.map λk=>pre.getD k.toNat 0).all pI=true then 2 else 3)=false:=by split <;> rfl
    exact⟨p,r,g1,y,t,q,by omega,by omega,by omega,by omega,by omega,by omega,by omega,by omega,λ_ _ _=>⟨λ_=>H,B⟩⟩
  ·
   have hl:(x.ks.length:Int)=1:=by have:=u (by rw [o];decide);rw [o] at this;exact this
   obtain⟨a,f⟩:=F hl;have es:bc x.op x.d (x.ks.map λk=>pre.getD k.toNat 0) [] 0=if pN (pre.getD a.toNat 0)=true then(if pre.getD a.toNat 0=2/\x.d=1 then 2 else 3) else 0:=by rw [o,f];rfl
   rw [es] at g⊢;cases v:pN (pre.getD a.toNat 0) with
   | false=>rw [v] at g;exact absurd rfl g
   | true=>
    have B:=l (λs hs=>by rw [f] at hs;simp only [WL,Xj,WA] at hs;subst hs;exact wG v);rw [if_pos rfl];have H:aE (if pre.getD a.toNat 0=2/\x.d=1 then 2 else 3)=false:=by split <;> rfl
    exact⟨p,r,g1,y,t,q,by omega,by omega,by omega,by omega,by omega,by omega,by omega,by omega,λ_ _ _=>⟨λ_=>H,B⟩⟩
  ·
   have hl:(x.ks.length:Int)=2:=by have:=u (by rw [o];decide);rw [o] at this;exact this
   have es:bc x.op x.d (x.ks.map λk=>pre.getD k.toNat 0) [] 0=if(x.ks.map λk=>pre.getD k.toNat 0).all pN=true then 1 else 0:=by rw [o];rfl
   rw [es] at g⊢;cases v:(x.ks.map λk=>pre.getD k.toNat 0).all pN with
   | false=>rw [v] at g;exact absurd rfl g
   | true=>have B:=l (λs hs=>wG (WO.1 v s hs));rw [if_pos rfl];exact⟨p,r,g1,y,t,q,by omega,by omega,by omega,by omega,by omega,by omega,by omega,by omega,λ_ _ _=>⟨λ_=>rfl,B⟩⟩
  ·
   have hl:(x.ks.length:Int)=2:=by have:=u (by rw [o];decide);rw [o] at this;exact this
   have es:bc x.op x.d (x.ks.map λk=>pre.getD k.toNat 0) [] 0=if(x.ks.map λk=>pre.getD k.toNat 0).all pN=true then 1 else 0:=by rw [o];rfl
   rw [es] at g⊢;cases v:(x.ks.map λk=>pre.getD k.toNat 0).all pN with
   | false=>rw [v] at g;exact absurd rfl g
   | true=>have B:=l (λs hs=>wG (WO.1 v s hs));rw [if_pos rfl];exact⟨p,r,g1,y,t,q,by omega,by omega,by omega,by omega,by omega,by omega,by omega,by omega,λ_ _ _=>⟨λ_=>rfl,B⟩⟩
  ·
   have hl:(x.ks.length:Int)=0:=by have:=u (by rw [o];decide);rw [o] at this;exact this
   have G:=E hl;have es:bc x.op x.d (x.ks.map λk=>pre.getD k.toNat 0) [] 0=10+x.d:=by rw [o];rfl
   rw [es];obtain⟨w1,w2,w3,w4⟩:=tW I o;have w5:x.n < 2 ^ x.d.toNat:=by
    have Q:x.d.toNat=1\/x.d.toNat=2\/x.d.toNat=3\/x.d.toNat=4\/x.d.toNat=5\/x.d.toNat=6\/x.d.toNat=7\/x.d.toNat=8:=by omega
    have H:i64.wrap (1 * 2 ^ min x.d.toNat 64)=2 ^ x.d.toNat:=by rcases Q with h | h | h | h | h | h | h | h <;> rw [h] <;> decide
    rw [H] at w4;exact w4
   exact⟨p,r,g1,y,t,q,by omega,by omega,by omega,λ_=>⟨G,w1,w2,w3,w5,rfl⟩,by omega,by omega,by omega,by omega,by omega⟩
  ·
   have hl:(x.ks.length:Int)=1:=by have:=u (by rw [o];decide);rw [o] at this;exact this
   obtain⟨a,f⟩:=F hl;have ka:=A a (m a (by rw [f];simp)).1 (m a (by rw [f];simp)).2;have es:bc x.op x.d (x.ks.map λk=>pre.getD k.toNat 0) [] 0=if aE (pre.getD a.toNat 0)=true then pre.getD a.toNat 0 else 0:=by rw [o,f];rfl
   rw [es] at g⊢;cases v:aE (pre.getD a.toNat 0) with
   | false=>rw [v] at g;exact absurd rfl g
   | true=>rw [if_pos rfl];exact⟨p,r,g1,y,t,q,by omega,by omega,by omega,by omega,λ_=>⟨v,a,f,ka⟩,by omega,by omega,by omega,by omega⟩
  ·
   have hl:(x.ks.length:Int)=2:=by have:=u (by rw [o];decide);rw [o] at this;exact this
   obtain⟨a,b,f⟩:=C hl;have ka:=A a (m a (by rw [f];simp)).1 (m a (by rw [f];simp)).2;have kb:=A b (m b (by rw [f];simp)).1 (m b (by rw [f];simp)).2;have es:bc x.op x.d (x.ks.map λk=>pre.getD k.toNat 0) [] 0=if pre.getD a.toNat 0=pre.getD b.toNat 0/\aE (pre.getD a.toNat 0)=true then pre.getD a.toNat 0 else 0:=by rw [o,f];rfl
   rw [es] at g⊢;by_cases e:pre.getD a.toNat 0=pre.getD b.toNat 0/\aE (pre.getD a.toNat 0)=true
   .rw [if_pos e];rw [<-e.1] at kb;exact⟨p,r,g1,y,t,q,by omega,by omega,by omega,by omega,by omega,λ_ _=>⟨e.2,a,b,f,ka,kb⟩,by omega,by omega,by omega⟩
   .rw [if_neg e] at g;exact absurd rfl g
  ·
   have hl:(x.ks.length:Int)=2:=by have:=u (by rw [o];decide);rw [o] at this;exact this
   obtain⟨a,b,f⟩:=C hl;have ka:=A a (m a (by rw [f];simp)).1 (m a (by rw [f];simp)).2;have kb:=A b (m b (by rw [f];simp)).1 (m b (by rw [f];simp)).2;have es:bc x.op x.d (x.ks.map λk=>pre.getD k.toNat 0) [] 0=if pre.getD a.toNat 0=pre.getD b.toNat 0/\aE (pre.getD a.toNat 0)=true then pre.getD a.toNat 0 else 0:=by rw [o,f];rfl
   rw [es] at g⊢;by_cases e:pre.getD a.toNat 0=pre.getD b.toNat 0/\aE (pre.getD a.toNat 0)=true
   .rw [if_pos e];rw [<-e.1] at kb;exact⟨p,r,g1,y,t,q,by omega,by omega,by omega,by omega,by omega,λ_ _=>⟨e.2,a,b,f,ka,kb⟩,by omega,by omega,by omega⟩
   .rw [if_neg e] at g;exact absurd rfl g
  ·
   have hl:(x.ks.length:Int)=2:=by have:=u (by rw [o];decide);rw [o] at this;exact this
   obtain⟨a,b,f⟩:=C hl;have ka:=A a (m a (by rw [f];simp)).1 (m a (by rw [f];simp)).2;have kb:=A b (m b (by rw [f];simp)).1 (m b (by rw [f];simp)).2;have es:bc x.op x.d (x.ks.map λk=>pre.getD k.toNat 0) [] 0=if pre.getD a.toNat 0=pre.getD b.toNat 0/\aE (pre.getD a.toNat 0)=true then pre.getD a.toNat 0 else 0:=by rw [o,f];rfl
   rw [es] at g⊢;by_cases e:pre.getD a.toNat 0=pre.getD b.toNat 0/\aE (pre.getD a.toNat 0)=true
   .rw [if_pos e];rw [<-e.1] at kb;exact⟨p,r,g1,y,t,q,by omega,by omega,by omega,by omega,by omega,λ_ _=>⟨e.2,a,b,f,ka,kb⟩,by omega,by omega,by omega⟩
   .rw [if_neg e] at g;exact absurd rfl g
  ·
   have hl:(x.ks.length:Int)=2:=by have:=u (by rw [o];decide);rw [o] at this;exact this
   obtain⟨a,b,f⟩:=C hl;have ka:=A a (m a (by rw [f];simp)).1 (m a (by rw [f];simp)).2;have kb:=A b (m b (by rw [f];simp)).1 (m b (by rw [f];simp)).2;have es:bc x.op x.d (x.ks.map λk=>pre.getD k.toNat 0) [] 0=if pre.getD a.toNat 0=pre.getD b.toNat 0/\aE (pre.getD a.toNat 0)=true then pre.getD a.toNat 0 else 0:=by rw [o,f];rfl
   rw [es] at g⊢;by_cases e:pre.getD a.toNat 0=pre.getD b.toNat 0/\aE (pre.getD a.toNat 0)=true
   .rw [if_pos e];rw [<-e.1] at kb;exact⟨p,r,g1,y,t,q,by omega,by omega,by omega,by omega,by omega,λ_ _=>⟨e.2,a,b,f,ka,kb⟩,by omega,by omega,by omega⟩
   .rw [if_neg e] at g;exact absurd rfl g
  ·
   have hl:(x.ks.length:Int)=2:=by have:=u (by rw [o];decide);rw [o] at this;exact this
   obtain⟨a,b,f⟩:=C hl;have ka:=A a (m a (by rw [f];simp)).1 (m a (by rw [f];simp)).2;have kb:=A b (m b (by rw [f];simp)).1 (m b (by rw [f];simp)).2;have es:bc x.op x.d (x.ks.map λk=>pre.getD k.toNat 0) [] 0=if pre.getD a.toNat 0=pre.getD b.toNat 0/\aE (pre.getD a.toNat 0)=true then pre.getD a.toNat 0 else 0:=by rw [o,f];rfl
   rw [es] at g⊢;by_cases e:pre.getD a.toNat 0=pre.getD b.toNat 0/\aE (pre.getD a.toNat 0)=true
   .rw [if_pos e];rw [<-e.1] at kb;exact⟨p,r,g1,y,t,q,by omega,by omega,by omega,by omega,by omega,λ_ _=>⟨e.2,a,b,f,ka,kb⟩,by omega,by omega,by omega⟩
   .rw [if_neg e] at g;exact absurd rfl g
  ·
   have hl:(x.ks.length:Int)=2:=by have:=u (by rw [o];decide);rw [o] at this;exact this
   obtain⟨a,b,f⟩:=C hl;have ka:=A a (m a (by rw [f];simp)).1 (m a (by rw [f];simp)).2;have kb:=A b (m b (by rw [f];simp)).1 (m b (by rw [f];simp)).2;have es:bc x.op x.d (x.ks.map λk=>pre.getD k.toNat 0) [] 0=if pre.getD a.toNat 0=pre.getD b.toNat 0/\aE (pre.getD a.toNat 0)=true then 1 else 0:=by rw [o,f];rfl
   rw [es] at g⊢;by_cases e:pre.getD a.toNat 0=pre.getD b.toNat 0/\aE (pre.getD a.toNat 0)=true
   .rw [if_pos e];rw [<-e.1] at kb;exact⟨p,r,g1,y,t,q,by omega,by omega,by omega,by omega,by omega,by omega,λ_=>⟨rfl,a,b,_,e.2,f,ka,kb⟩,by omega,by omega⟩
   .rw [if_neg e] at g;exact absurd rfl g
  ·
   have hl:(x.ks.length:Int)=1:=by have:=u (by rw [o];decide);rw [o] at this;exact this
   obtain⟨a,f⟩:=F hl;have ka:=A a (m a (by rw [f];simp)).1 (m a (by rw [f];simp)).2;have es:bc x.op x.d (x.ks.map λk=>pre.getD k.toNat 0) [] 0=if aE (pre.getD a.toNat 0)=true then pre.getD a.toNat 0 else 0:=by rw [o,f];rfl
   rw [es] at g⊢;cases v:aE (pre.getD a.toNat 0) with
   | false=>rw [v] at g;exact absurd rfl g
   | true=>
    rw [if_pos rfl];have w: 0<=x.n/\x.n<=8:=by unfold fL at I;rw [if_neg (by omega),if_neg (by omega),if_pos o] at I;simpa using I
    exact⟨p,r,g1,y,t,q,by omega,by omega,by omega,by omega,λ_=>⟨v,a,f,ka⟩,by omega,by omega,λ_=>w,by omega⟩
  ·
   have hl:(x.ks.length:Int)=2:=by have:=u (by rw [o];decide);rw [o] at this;exact this
   have es:bc x.op x.d (x.ks.map λk=>pre.getD k.toNat 0) [] 0=if(x.ks.map λk=>pre.getD k.toNat 0)= [5,4] then 4 else 0:=by rw [o];rfl
   rw [es] at g⊢;by_cases e:(x.ks.map λk=>pre.getD k.toNat 0)= [5,4]
   .rw [if_pos e];have B:=l (λs hs=>by
     rw [e] at hs;simp only [WC,XE,or_false] at hs;rcases hs with rfl | rfl <;> rfl)
    exact⟨p,r,g1,y,t,q,by omega,by omega,by omega,by omega,by omega,by omega,by omega,by omega,λ_ _ _=>⟨λ_=>rfl,B⟩⟩
   .rw [if_neg e] at g;exact absurd rfl g
  ·
   have hl:(x.ks.length:Int)=3:=by have:=u (by rw [o];decide);rw [o] at this;exact this
   have es:bc x.op x.d (x.ks.map λk=>pre.getD k.toNat 0) [] 0=if(x.ks.map λk=>pre.getD k.toNat 0)= [5,4,4] then 5 else 0:=by rw [o];rfl
   rw [es] at g⊢;by_cases e:(x.ks.map λk=>pre.getD k.toNat 0)= [5,4,4]
   .rw [if_pos e];have B:=l (λs hs=>by
     rw [e] at hs;simp only [WC,XE,or_false] at hs;rcases hs with rfl | rfl | rfl <;> rfl)
    exact⟨p,r,g1,y,t,q,by omega,by omega,by omega,by omega,by omega,by omega,by omega,by omega,λ_ _ _=>⟨λ_=>rfl,B⟩⟩
   .rw [if_neg e] at g;exact absurd rfl g
theorem nC{a:As}{es:Bool}(h:(bg a).2.1=0):qG (lB a es (bg a).1)/\(∀d∈a.ds,d.ar.length<=8):=by
 unfold bg at h⊢;by_cases o: 30 < a.ds.length
 .rw [if_pos o] at h;exact absurd (show(2:Int)=0 from h) (by decide)
 rw [if_neg o] at h⊢;by_cases g:(eN [] 0 a.ds).1≠0
 .rw [if_pos g] at h;exact absurd h g
 rw [if_neg g] at h⊢;by_cases c3: 200 < a.ns.length
 .rw [if_pos c3] at h;exact absurd (show(2:Int)=0 from h) (by decide)
 rw [if_neg c3] at h⊢;have f:∀d∈a.ds,d.nm.size<=12/\d.ar.length<=8/\∀s∈d.ar,s=4:=λd e=>by obtain⟨j,w⟩:=Xv e;obtain⟨m,n,A,_⟩:=x7 (xR (by simpa using g) j d w);exact⟨m,n,A⟩
 unfold jV at h⊢;by_cases l:(eT a.ds a.ns 0 []).2.1≠0
 .rw [if_pos l] at h;exact absurd h l
 rw [if_neg l] at h⊢;by_cases p: 200 < a.hs.length
 .rw [if_pos p] at h;exact absurd (show(2:Int)=0 from h) (by decide)
 rw [if_neg p] at h⊢;by_cases b:(fC (eT a.ds a.ns 0 []).1 a.hs 0).1≠0
 .rw [if_pos b] at h;exact absurd h b
 rw [if_neg b];obtain⟨t,q,u,v⟩:=zJ (ds:=a.ds) (r:=a.ns) (i:=0) (ss:= []) rfl (by simpa using l);rw [XB] at q;rw [q] at b⊢;refine⟨⟨u,by show a.ns.length<=200;omega,by show a.ds.length<=30;omega,by show a.hs.length<=200;omega,λd e=>(f d e).1,λi x s z hs=> ?_,Hk (show(fC t a.hs 0).1=0 by simpa using b)⟩,λd e=>(f d e).2.1⟩;obtain⟨m,n⟩:=v i x z;rw [WZ,XB] at m n;have B:i < t.length:=(Wm.1 hs).1;replace hs:t[i]? =some s:=hs;rw [n] at hs;simp only [Wj] at hs;subst hs;exact RO (c:=lB a es t) (x:=x) (i:=i) (pre:=t.take i) (by rw [Xk];omega) (λk y=>by show t[k]? =_;rw [X7 y]) f m
theorem Ki{a:As}(h:(bg a).2.1=0):(bg a).2.2=0:=by
 unfold bg at h⊢;by_cases e: 30 < a.ds.length
 .rw [if_pos e] at h;exact absurd (show(2:Int)=0 from h) (by decide)
 rw [if_neg e] at h⊢;by_cases b:(eN [] 0 a.ds).1≠0
 .rw [if_pos b] at h;exact absurd h b
 rw [if_neg b] at h⊢;by_cases c3: 200 < a.ns.length
 .rw [if_pos c3] at h;exact absurd (show(2:Int)=0 from h) (by decide)
 rw [if_neg c3] at h⊢;unfold jV at h⊢;by_cases c:(eT a.ds a.ns 0 []).2.1≠0
 .rw [if_pos c] at h;exact absurd h c
 rw [if_neg c] at h⊢;by_cases f: 200 < a.hs.length
 .rw [if_pos f] at h;exact absurd (show(2:Int)=0 from h) (by decide)
 rw [if_neg f] at h⊢;by_cases d:(fC (eT a.ds a.ns 0 []).1 a.hs 0).1≠0
 .rw [if_pos d] at h;exact absurd h d
 rw [if_neg d]
def tm(a:As):List T:=if(bg a).2.1=0 then lE a (bg a).1.isEmpty (bg a).1 else [T.aB true,T.aB true,T.aB true,ti (bg a).2.1,ti (bg a).2.2]
theorem Ua{a:As}(wf:pj a)(j:∀d∈a.ds,d.nm.size<=9223372036854775807):Or (.call 6) [AG a] []=some (tm a):=by
 obtain⟨x,c,f⟩:=CZ (a:=a) j;unfold tm;by_cases h:(bg a).2.1=0
 .obtain⟨ok,e⟩:=nC (es:=(bg a).1.isEmpty) h;have g:(bg a).2.2=0:=by
   exact Ki h
  rw [if_pos h];replace c:Or (.call 12) [AG a] []=some [x,ti (bg a).2.1,ti (bg a).2.2]:=c;rw [h,g] at c;exact s9 wf ok (λd i=>by have:=e d i;omega) c f
 .have b:((bg a).2.1==0)=false:=by simpa using h
  rw [if_neg h];refine ai ?_;rw [e9];simp only [aI,aL,aV,aO,f,aR,c,b,Wu]
open Go Go.Aev Go.IntKind
abbrev bl(s:ByteArray):List UInt8:=s.data.toList
theorem qY(a b:ByteArray):bl (a++b)=bl a++bl b:=by simp [bl,ByteArray.data_append]
theorem xN(n:Int):bl (it n)=Go.Lib.itoa n:=by simp [bl,it]
theorem At{a b:ByteArray}(h:bl a=bl b):a=b:=by obtain⟨⟨a⟩⟩:=a;obtain⟨⟨b⟩⟩:=b;simp only [bl] at h;subst h;rfl
theorem th(u:Nat):∀c∈Go.Lib.decDigits u,48<=c.toNat/\c.toNat<=57:=by
 induction u using Nat.strongRecOn with
 | _ u b=>
  intro c a;rw [Go.Lib.decDigits] at a;split at a
  .rename_i h;simp only [WA] at a;subst a;rw [Y0];omega
  .rename_i h;rcases WK.1 a with a | a
   .exact b (u / 10) (by omega) c a
   .simp only [WA] at a;subst a;rw [Y0];omega
def AR(l:List UInt8):Nat:=l.foldl (λa c=>a * 10+ (c.toNat - 48)) 0
theorem Fb(u:Nat):AR (Go.Lib.decDigits u)=u:=by
 induction u using Nat.strongRecOn with
 | _ u a=>
  rw [Go.Lib.decDigits];split
  .rename_i h;simp only [AR,YH,List.foldl_nil,Y0];omega
  .rename_i h;have:=a (u / 10) (by omega);unfold AR at this⊢;rw [List.foldl_append,this];simp only [YH,List.foldl_nil,Y0];omega
theorem E4{u v:Nat}(h:Go.Lib.decDigits u=Go.Lib.decDigits v):u=v:=by rw [<-Fb u,h,Fb]
theorem MJ(u:Nat):∃c r,Go.Lib.decDigits u=c::r:=by
 have h:=Go.Lib.decDigits_length u;have b:=Go.Lib.nDigits_pos u;cases a:Go.Lib.decDigits u with
 | nil=>rw [a] at h;simp at h;omega
 | cons c r=>exact⟨c,r,rfl⟩
theorem Hv(n:Int):∀c∈Go.Lib.itoa n,c=45\/(48<=c.toNat/\c.toNat<=57):=by
 intro c a;unfold Go.Lib.itoa at a;split at a
 .rcases WC.1 a with rfl | a
  .exact .inl rfl
  .exact .inr (th _ c a)
 .exact .inr (th _ c a)
theorem tO{m n:Int}(h:Go.Lib.itoa m=Go.Lib.itoa n):m=n:=by
 have neg:∀u v:Nat,(45::Go.Lib.decDigits u:List UInt8)≠Go.Lib.decDigits v:=λu v e=>by have:=th v 45 (by rw [<-e];exact Wl);simp at this
 unfold Go.Lib.itoa at h;split at h <;> split at h
 .simp only [XD,true_and] at h;have:=E4 h;omega
 .exact absurd h (neg _ _)
 .exact absurd h.symm (neg _ _)
 .have:=E4 h;omega
theorem p9(n:Int):(32:UInt8)∉Go.Lib.itoa n:=λh=>by
 rcases Hv n _ h with e | e
 .exact absurd e (by decide)
 .simp at e
theorem Hw(n:Int):(95:UInt8)∉Go.Lib.itoa n:=λh=>by
 rcases Hv n _ h with e | e
 .exact absurd e (by decide)
 .simp at e
theorem tg{z:UInt8}:∀{a d b b':List UInt8},z∉a->z∉d->a++z::b=d++z::b'->a=d/\b=b'
 | [],[],b,b',_,_,h=>by simpa using h
 | [],c::d,b,b',_,e,h=>by simp only [XB,Xp,XD] at h;exact absurd (h.1▸Wl) e
 | c::a,[],b,b',e,_,h=>by simp only [XB,Xp,XD] at h;exact absurd (h.1▸Wl) e
 | c::a,c'::d,b,b',f,g,h=>by simp only [Xp,XD] at h;obtain⟨i,j⟩:=tg (λx=>f (Wn _ x)) (λx=>g (Wn _ x)) h.2;exact⟨by rw [h.1,i],j⟩
def kT(ks:List Int):List UInt8:=ks.flatMap λk=>32::Go.Lib.itoa k
theorem HK:∀(ks:List Int) (k:ByteArray),bl (mL k ks)=bl k++kT ks
 | [],k=>by simp [mL,kT]
 | x::r,k=>by rw [mL,HK r,qY,qY,xN];simp [kT,bl,sp]
theorem HL(op:Int)(nm:ByteArray)(n d:Int)(ks:List Int):bl (mM op nm n d ks)=Go.Lib.itoa op++32:: (bl nm++32:: (Go.Lib.itoa n++32:: (Go.Lib.itoa d++kT ks))):=by unfold mM;rw [HK];simp only [qY,xN];simp [bl,sp]
theorem Hy:∀{ks c:List Int} {a b:Int},Go.Lib.itoa a++kT ks=Go.Lib.itoa b++kT c->a=b/\ks=c
 | [],[],a,b,h=>by simp only [kT,Zy,WQ] at h;exact⟨tO h,rfl⟩
 | [],k::r,a,b,h=>by simp only [kT,Zy,WQ,List.flatMap_cons] at h;exact absurd (h▸(by simp)) (p9 a)
 | k::r,[],a,b,h=>by simp only [kT,Zy,WQ,List.flatMap_cons] at h;exact absurd (h▸(by simp)) (p9 b)
 | k::r,j::l,a,b,h=>by
  have e:∀(k:Int) (r:List Int),kT (k::r)=32:: (Go.Lib.itoa k++kT r):=λk r=>by simp [kT]
  rw [e,e] at h;obtain⟨d,f⟩:=tg (p9 a) (p9 b) h;obtain⟨g,i⟩:=Hy f;exact⟨tO d,by rw [g,i]⟩
def jz(s:ByteArray):Prop:=(32:UInt8)∉bl s
theorem HM{op c n i d f:Int}{nm a:ByteArray}{ks b:List Int}(h:jz nm)(l:jz a)(e:mM op nm n d ks=mM c a i f b):op=c/\nm=a/\n=i/\d=f/\ks=b:=by have g:=congrArg bl e;rw [HL,HL] at g;obtain⟨m,j⟩:=tg (p9 _) (p9 _) g;obtain⟨o,e3⟩:=tg h l j;obtain⟨p,k⟩:=tg (p9 _) (p9 _) e3;obtain⟨q,r⟩:=Hy k;exact⟨tO m,At o,tO p,q,r⟩
open Go Go.Aev Go.IntKind
abbrev bD(σ:List Int)(a s:Int):Prop:=0<=a/\σ[a.toNat]? =some s
theorem bD.mono{σ b:List Int}{a s:Int}(p:σ <+:b)(h:bD σ a s):bD b a s:=by obtain⟨t,rfl⟩:=p;exact⟨h.1,by rw [WB (Wm.1 h.2).1];exact h.2⟩
theorem bD.lt{σ:List Int}{a s:Int}(h:bD σ a s):a < (σ.length:Int):=by have:=(Wm.1 h.2).1;have:=h.1;omega
theorem bD.getD{σ:List Int}{a s:Int}(h:bD σ a s):σ.getD a.toNat 0=s:=by rw [Wp,h.2];rfl
theorem GM{x:Nd}{ss t:List Int}{da:List Int}{so:Int}(h:∀k∈x.ks,0<=k/\k < (ss.length:Int)):dz x ((ss++t).length:Int) (ss++t) da so=dz x (ss.length:Int) ss da so:=by
 have b:(x.ks.any λk=>decide (k < 0) || decide (k>=((ss++t).length:Int)))=false:=by rw [Xd];intro k a;have:=h k a;rw [Xc];simp;omega
 have c:(x.ks.any λk=>decide (k < 0) || decide (k>=(ss.length:Int)))=false:=by rw [Xd];intro k a;have:=h k a;simp;omega
 have e3:(x.ks.map λk=>(ss++t).getD k.toNat 0)=x.ks.map λk=>ss.getD k.toNat 0:=by apply W8;intro k a;have:=h k a;rw [Wp,Wp,WB (by omega)]
 unfold dz;rw [b,c,e3]
theorem GN{x:Nd}{i:Int}{ss da:List Int}{so s:Int}(h:dz x i ss da so= (s,0)):∀k∈x.ks,0<=k/\k < i:=by
 unfold dz at h;split at h
 .simp at h
 .rename_i e;rw [Yj] at e;intro k a;have:=Xd.1 e k a;simp at this;omega
theorem wh{D:List Dc}{x:Nd}{i:Int}{ss:List Int}{s:Int}(h:bU D x i ss= (s,0)):∀k∈x.ks,0<=k/\k < i:=by
 unfold bU at h;split at h
 .simp at h
 split at h
 .split at h
  .simp at h
  .split at h
   .simp at h
   .exact GN h
 .split at h
  .simp at h
  .exact GN h
theorem RT{D:List Dc}{x:Nd}{ss:List Int}{s:Int}(t:List Int)(h:bU D x (ss.length:Int) ss= (s,0)):bU D x ((ss++t).length:Int) (ss++t)= (s,0):=by have a:=wh h;rw [<-h];unfold bU;rw [GM a,GM a]
theorem ID{D:List Dc}{x y:Nd}{i:Int}{ss:List Int}(a:x.op=y.op)(b:x.ks=y.ks)(c:x.n=y.n)(e:x.d=y.d)(f:x.nm=y.nm):bU D x i ss=bU D y i ss:=by unfold bU dz gg fL;rw [a,b,c,e,f]
structure Good (D:List Dc) (σ:List Int) (x:Nd) (s:Int):Prop where
 ch:bU D x (σ.length:Int) σ = (s,0)
 so:aE s=false
 op:x.op < 15\/23 < x.op
 nm:jz x.nm
theorem Good.mono{D:List Dc}{σ:List Int}{x:Nd}{s:Int}(h:Good D σ x s)(t:List Int):Good D (σ ++t) x s:=⟨RT t h.ch,h.so,h.op,h.nm⟩
structure Ty (D:List Dc) (M:Mk) (σ:List Int):Prop where
 len:σ.length=M.N.length
 nd:∀(i:Nat) (x:Nd) (s:Int),M.N[i]? =some x->σ[i]? =some s->Good D (σ.take i) x s
 ky:∀p∈M.K,∃(i:Nat) (x:Nd),p.2= (i:Int)/\M.N[i]? =some x/\p.1=mM x.op x.nm x.n x.d x.ks
def dX(D:List Dc)(σ:List Int)(p:Int×Mk)(s:Int):Prop:= ∃a,Ty D p.2 a/\σ <+:a/\bD a p.1 s
def eI(D:List Dc)(σ:List Int)(p:List Int×Mk):Prop:= ∃b,Ty D p.2 b/\σ <+:b/\∀a∈p.1,bD b a 1
theorem iE{σ b:List Int}{l:List Int}(p:σ <+:b)(h:∀a∈l,bD σ a 1):∀a∈l,bD b a 1:=λa c=>(h a c).mono p
theorem dX.same{D:List Dc}{M:Mk}{σ:List Int}{a s:Int}(t:Ty D M σ)(h:bD σ a s):dX D σ (a,M) s:=⟨σ,t,XA _,h⟩
theorem Cd{s:ByteArray}:∀{K:List (ByteArray×Int)} {v:Int},lk s K=some v->(s,v)∈K
 | (k,u)::r,v,h=>by
  rw [lk] at h;split at h
  .rename_i e;simp only [Wj] at h;subst e h;exact Wl
  .exact Wn _ (Cd h)
theorem oR{D:List Dc}{M:Mk}{σ:List Int}(ty:Ty D M σ){op:Int}{nm:ByteArray}{n d:Int}{ks:List Int}{s:Int}(g:Good D σ ⟨op,ks.isEmpty,ks,n,d,nm⟩ s):dX D σ (dA M op nm n d ks) s:=by
 unfold dA;cases t:lk (mM op nm n d ks) M.K with
 | some v=>
  obtain⟨i,x,c,e,h⟩:=ty.ky _ (Cd t);have a:i < σ.length:=by rw [ty.len];exact(Wm.1 e).1
  have k:=ty.nd i x σ[i] e (Wv a);obtain⟨m,o,e3,q,r⟩:=HM (show jz nm from g.nm) k.nm h;have j:=(k.mono (σ.drop i)).ch;rw [Zb] at j;have:bU D ⟨op,ks.isEmpty,ks,n,d,nm⟩ (σ.length:Int) σ =bU D x (σ.length:Int) σ:=ID m r e3 q o;rw [g.ch,j] at this;simp only [Xa,and_true] at this;replace c:v= (i:Int):=c;subst c;exact dX.same ty ⟨by omega,by rw [WW,this];exact Wv a⟩
 | none=>
  refine⟨σ ++ [s],⟨by simp [ty.len],λi x s' f hs=> ?_,λp b=> ?_⟩,⟨_,rfl⟩,by simp, ?_⟩
  .rcases Ys i σ.length with a | a
   .rw [WB (by rw [<-ty.len];exact a)] at f;rw [WB a] at hs;rw [XP (by omega)];exact ty.nd i x s' f hs
   .have l:=(Wm.1 hs).1;rw [Xc,Wy] at l;obtain rfl:i=σ.length:=by omega
    rw [WJ (by rw [ty.len];exact WH _),ty.len,Xx] at f;rw [WJ (WH _),Xx] at hs;simp only [W7,Wj] at f hs;subst f hs;rw [XP (WH _),YC];exact g
  .rcases WK.1 b with b | b
   .obtain⟨i,x,c,e,h⟩:=ty.ky p b;exact⟨i,x,c,by rw [WB (Wm.1 e).1];exact e,h⟩
   .simp only [WA] at b;subst b;exact⟨M.N.length,⟨op,ks.isEmpty,ks,n,d,nm⟩,rfl,by simp,rfl⟩
  .show(σ ++ [s])[((M.N.length:Nat):Int).toNat]? =some s;rw [WW,<-ty.len];simp
theorem qm:jz s0:=by intro h;cases h
theorem rY{D:List Dc}{x:Nd}{i:Int}{ss:List Int}(b: 1<=x.op/\x.op<=25)(a:x.op≠9)(d:(x.ks.length:Int)=dS x.op\/dS x.op < 0)(c:x.ks.length<=8):bU D x i ss=dz x i ss [] 0:=by unfold bU;rw [if_neg (by omega),if_neg a,if_neg (by omega)]
theorem pU{x:Nd}{σ:List Int}{da:List Int}{so:Int}{l:List Int}{s:Int}(a:x.ks.map (λk=>σ.getD k.toNat 0)=l)(b:∀k∈x.ks,0<=k/\k < (σ.length:Int))(e:gg x=true)(f:fL x=true)(hs:bc x.op x.d l da so=s)(h0:s≠0):dz x (σ.length:Int) σ da so= (s,0):=by
 have c:(x.ks.any λk=>decide (k < 0) || decide (k>=(σ.length:Int)))=false:=by rw [Xd];intro k a;have:=b k a;simp;omega
 unfold dz;rw [c,e,f,a,hs,if_neg (by decide),if_neg (by decide),if_neg (by decide),if_neg h0]
theorem Hf(D:List Dc)(σ:List Int)(b:Bool):Good D σ ⟨if b then 1 else 2,([]:List Int).isEmpty,[],0,0,s0⟩ 1:=by
 refine⟨?_,by decide,by cases b <;> decide,qm⟩;cases b
 .rw [rY (by decide) (by decide) (by decide) (by decide)];exact pU (l:= []) rfl (λk a=>by cases a) (by decide) (by decide) (by decide) (by decide)
 .rw [rY (by decide) (by decide) (by decide) (by decide)];exact pU (l:= []) rfl (λk a=>by cases a) (by decide) (by decide) (by decide) (by decide)
theorem Hc{D:List Dc}{σ:List Int}{a:Int}(h:bD σ a 1):Good D σ ⟨3,[a].isEmpty,[a],0,0,s0⟩ 1:=by refine⟨?_,by decide,by dsimp only;omega,qm⟩;rw [rY (by dsimp only;omega) (by dsimp only;omega) (.inl (by rfl)) (by simp)];exact pU (l:= [1]) (by simp only [WL,Xj,h.getD]) (λk b=>by simp only [WA] at b;subst b;exact⟨h.1,h.lt⟩) (by simp [gg]) (by simp [fL]) (by simp [bc,pB]) (by decide)
theorem tL{D:List Dc}{σ:List Int}{a b op:Int}(ho:op=4\/op=5\/op=6)(h:bD σ a 1)(d:bD σ b 1):Good D σ ⟨op,[a,b].isEmpty,[a,b],0,0,s0⟩ 1:=by
 have c:∀k∈[a,b],0<=k/\k < (σ.length:Int):=λk e=>by
  simp only [WC,XE,or_false] at e;rcases e with rfl | rfl
  .exact⟨h.1,h.lt⟩
  .exact⟨d.1,d.lt⟩
 have hm: [a,b].map (λk=>σ.getD k.toNat 0)= [1,1]:=by simp only [WL,Xj,h.getD,d.getD]
 rcases ho with rfl | rfl | rfl
 .refine⟨?_,by decide,by dsimp only;omega,qm⟩;rw [rY (by dsimp only;omega) (by dsimp only;omega) (.inr (show dS 4 < 0 by decide)) (by simp)];exact pU hm c (by simp [gg]) (by simp [fL]) (by simp [bc,pB]) (by decide)
 .refine⟨?_,by decide,by dsimp only;omega,qm⟩;rw [rY (by dsimp only;omega) (by dsimp only;omega) (.inr (show dS 5 < 0 by decide)) (by simp)];exact pU hm c (by simp [gg]) (by simp [fL]) (by simp [bc,pB]) (by decide)
 .refine⟨?_,by decide,by dsimp only;omega,qm⟩;rw [rY (by dsimp only;omega) (by dsimp only;omega) (.inl (by rfl)) (by simp)];exact pU hm c (by simp [gg]) (by simp [fL]) (by simp [bc,pB]) (by decide)
theorem Hd{D:List Dc}{σ:List Int}{c a b:Int}(e:bD σ c 1)(h:bD σ a 1)(d:bD σ b 1):Good D σ ⟨7,[c,a,b].isEmpty,[c,a,b],0,0,s0⟩ 1:=by
 refine⟨?_,by decide,by dsimp only;omega,qm⟩;rw [rY (by dsimp only;omega) (by dsimp only;omega) (.inl (by rfl)) (by simp)];refine pU (l:= [1,1,1]) (by simp only [WL,Xj,h.getD,d.getD,e.getD]) (λk f=> ?_) (by simp [gg]) (by simp [fL]) (by simp [bc]) (by decide);simp only [WC,XE,or_false] at f;rcases f with rfl | rfl | rfl
 .exact⟨e.1,e.lt⟩
 .exact⟨h.1,h.lt⟩
 .exact⟨d.1,d.lt⟩
section
variable {D:List Dc} {M:Mk} {σ:List Int}
theorem pO(ty:Ty D M σ)(b:Bool):dX D σ (dx M b) 1:=oR ty (Hf D σ b)
theorem El{a o:Int}(ty:Ty D M σ)(h:bD σ a 1)(e:cw M a=o):∃x,M.N[a.toNat]? =some x/\x.op=o/\Good D (σ.take a.toNat) x 1:=by
 have hl:a.toNat < M.N.length:=by rw [<-ty.len];exact(Wm.1 h.2).1
 have b:M.N[a.toNat]? =some M.N[a.toNat]:=Wv hl;unfold cw at e;rw [b] at e;exact⟨_,b,e,ty.nd _ _ _ b h.2⟩
theorem Kh{d w:Int}(h:¬bc 3 d [w] [] 0=0):w=1:=by
 by_cases a:w=1
 .exact a
 .exact absurd (by simp [bc,pB,a]) h
theorem wu{a:Int}(ty:Ty D M σ)(h:bD σ a 1):dX D σ (gY M a) 1:=by
 unfold gY;split
 .exact pO ty _
 .split
  .exact pO ty _
  .split
   .rename_i e;obtain⟨x,n,ho,g⟩:=El ty h e;have b:=g.ch;have l:=wh b;unfold bU at b;rw [if_neg (by omega),if_neg (by omega)] at b;have m:dS x.op=1:=by rw [ho];decide
    split at b
    .simp at b
    .rename_i hl;rw [m] at hl;obtain⟨k,f⟩:∃k,x.ks= [k]:=by
      have:x.ks.length=1:=by omega
      exact X0.1 this
     have d:=l k (by rw [f];exact Wl);have i:qd M a=k:=by unfold qd;rw [n];show x.ks.headD 0=k;rw [f];rfl
     rw [i];refine dX.same ty ⟨d.1, ?_⟩;unfold dz at b;rw [ho,f] at b;split at b
     .simp at b
     split at b
     .simp at b
     split at b
     .simp at b
     split at b
     .simp at b
     rename_i hs;have c:(σ.take a.toNat).getD k.toNat 0=1:=Kh hs;rw [Wp,Yq] at c;rw [Xk] at d;rw [if_pos (by have:=h.1;omega)] at c;cases j:σ[k.toNat]? with
     | none=>rw [j] at c;cases c
     | some v=>rw [j] at c;simp only [X6] at c;rw [c]
   .exact oR ty (Hc h)
theorem qW{a b:Int}(ty:Ty D M σ)(h:bD σ a 1)(c:bD σ b 1):dX D σ (cA M a b) 1:=by
 unfold cA;split
 .exact dX.same ty h
 .split
  .exact dX.same ty c
  .exact oR ty (tL (.inl rfl) h c)
theorem CB{a b:Int}(ty:Ty D M σ)(h:bD σ a 1)(c:bD σ b 1):dX D σ (eS M a b) 1:=by
 unfold eS;split
 .exact dX.same ty h
 .split
  .exact dX.same ty c
  .exact oR ty (tL (.inr (.inl rfl)) h c)
theorem BQ{a b:Int}(ty:Ty D M σ)(h:bD σ a 1)(c:bD σ b 1):dX D σ (eF M a b) 1:=by
 unfold eF;split
 .exact pO ty _
 .split
  .exact dX.same ty c
  .split
   .exact dX.same ty h
   .split
    .exact wu ty c
    .split
     .exact wu ty h
     .exact oR ty (tL (.inr (.inr rfl)) h c)
theorem DN{a b:Int}(ty:Ty D M σ)(h:bD σ a 1)(d:bD σ b 1):dX D σ (bJ M a b) 1:=by obtain⟨l,j,g,e⟩:=BQ ty h d;obtain⟨c,k,i,f⟩:=wu j e;exact⟨c,k,g.trans i,f⟩
theorem Sh{c a b:Int}(ty:Ty D M σ)(e:bD σ c 1)(h:bD σ a 1)(d:bD σ b 1):dX D σ (dt c M a b) 1:=by
 unfold dt;split
 .exact dX.same ty h
 .exact oR ty (Hd e h d)
end
section
variable {D:List Dc}
theorem Bu{f:Mk->Int->Int->Int×Mk}{P:List Int->Prop}(g:∀σ e,σ <+:e->P σ->P e)(k:∀M σ a b,Ty D M σ->P σ->bD σ a 1->bD σ b 1->dX D σ (f M a b) 1):∀{a b:List Int} {M:Mk} {σ:List Int},Ty D M σ->P σ->(∀x∈a,bD σ x 1)->(∀x∈b,bD σ x 1)->eI D σ (aT f M a b)
 | [],b,M,σ,ty,_,_,_=>by rw [show aT f M [] b= ([],M) by simp [aT]];exact⟨σ,ty,XA _,λx h=>by cases h⟩
 | x::a,[],M,σ,ty,_,_,_=>by rw [show aT f M (x::a) []= ([],M) by simp [aT]];exact⟨σ,ty,XA _,λx h=>by cases h⟩
 | x::a,y::b,M,σ,ty,l,i,j=>by
  obtain⟨s,q,d,o⟩:=k M σ x y ty l (i x Wl) (j y Wl);obtain⟨n,r,m,p⟩:=Bu g k (a:=a) (b:=b) q (g _ _ d l) (λz c=>(i z (Wn _ c)).mono d) (λz c=>(j z (Wn _ c)).mono d);refine⟨n,r,d.trans m,λz c=> ?_⟩;rcases WC.1 c with rfl | c
  .exact o.mono m
  .exact p z c
theorem Ky:∀{a b:List Int} {M:Mk} {σ:List Int} {c:Int},Ty D M σ->bD σ c 1->(∀x∈a,bD σ x 1)->(∀x∈b,bD σ x 1)->eI D σ (fF M c a b)
 | [],b,M,σ,c,ty,_,_,_=>by rw [zL];exact⟨σ,ty,XA _,λx h=>by cases h⟩
 | x::a,[],M,σ,c,ty,_,_,_=>by rw [show fF M c (x::a) []= ([],M) by simp [fF]];exact⟨σ,ty,XA _,λx h=>by cases h⟩
 | x::a,y::b,M,σ,c,ty,n,l,m=>by
  have o:=l x Wl;have p:=m y Wl;obtain⟨N,H,q,j⟩:=DN ty o p;obtain⟨w,v,r,k⟩:=DN H j (n.mono q);have e:=q.trans r;rw [fF];dsimp only;split
  .refine⟨w,v,e,λz d=> ?_⟩;simp only [WA] at d;subst d;exact k
  .obtain⟨O,I,i,B⟩:=qW v (o.mono e) (p.mono e);have s:=r.trans i;obtain⟨P,J,t,C⟩:=qW I (j.mono s) (n.mono (e.trans i));obtain⟨Q,K,G,E⟩:=CB J (B.mono t) C;have g:=i.trans (t.trans G);have f:=e.trans g;obtain⟨A,L,u,F⟩:=Ky (a:=a) (b:=b) K E (λz d=>(l z (Wn _ d)).mono f) (λz d=>(m z (Wn _ d)).mono f);refine⟨A,L,f.trans u,λz d=> ?_⟩;rcases WC.1 d with rfl | d
   .exact k.mono (g.trans u)
   .exact F z d
theorem KA{a b:List Int}{M:Mk}{σ:List Int}(ty:Ty D M σ)(g:∀x∈a,bD σ x 1)(h:∀x∈b,bD σ x 1):eI D σ (eu M a b):=by obtain⟨l,j,c,e⟩:=pO ty false;obtain⟨d,k,i,f⟩:=Ky j e (iE c g) (iE c h);exact⟨d,k,c.trans i,f⟩
end
open Go Go.Aev Go.IntKind
section
variable {D:List Dc}
theorem eI.none{M:Mk}{σ:List Int}(ty:Ty D M σ):eI D σ ([],M):=⟨σ,ty,XA _,λx h=>by cases h⟩
theorem eI.cons{M c:Mk}{σ:List Int}{x:Int}{l:List Int}(h:dX D σ (x,M) 1)(i:∀a,Ty D M a->σ <+:a->eI D a (l,c)):eI D σ (x::l,c):=by
 obtain⟨f,m,d,j⟩:=h;obtain⟨g,n,e,k⟩:=i f m d;refine⟨g,n,d.trans e,λz b=> ?_⟩;rcases WC.1 b with rfl | b
 .exact j.mono e
 .exact k z b
theorem B9{n:Int}(h0: 0<=n){a:List Int}:∀(k i:Nat) {M:Mk} {σ:List Int},Ty D M σ->(∀x∈a,bD σ x 1)->i+k<=a.length->eI D σ (fD M a n i k)
 | 0,i,M,σ,ty,_,_=>eI.none ty
 | k+1,i,M,σ,ty,b,e=>by
  rw [fD];split
  .exact eI.cons (pO ty false) λd t p=>B9 h0 k (i+1) t (iE p b) (by omega)
  .refine eI.cons (dX.same ty ?_) λd t p=>B9 h0 k (i+1) t (iE p b) (by omega);have c:((i:Int) - n).toNat < a.length:=by omega
   rw [Wp,Wv c];exact b _ (YD c)
theorem Cb{n:Int}(h0: 0<=n){a:List Int}{M:Mk}{σ:List Int}(ty:Ty D M σ)(b:∀x∈a,bD σ x 1):eI D σ (bG M a n):=B9 h0 _ _ ty b (by omega)
theorem I0:∀{l:List Int} {M:Mk} {σ:List Int} {x:Int},Ty D M σ->bD σ x 1->(∀y∈l,bD σ y 1)->eI D σ (cL M x l)
 | [],M,σ,x,ty,_,_=>eI.none ty
 | y::l,M,σ,x,ty,a,hl=>by rw [cL];exact eI.cons (qW ty a (hl y Wl)) λc t p=>I0 t (a.mono p) (iE p λz b=>hl z (Wn _ b))
theorem KF{a:List Int}:∀{b:List Int} {i:Nat} {M:Mk} {σ:List Int} {out:List Int},Ty D M σ->(∀x∈a,bD σ x 1)->(∀x∈out,bD σ x 1)->(∀x∈b,bD σ x 1)->eI D σ (hJ M a out i b)
 | [],i,M,σ,out,ty,_,ho,_=>by rw [hJ];exact⟨σ,ty,XA _,ho⟩
 | x::b,i,M,σ,out,ty,e,ho,f=>by obtain⟨w,s,g,j⟩:=Cb (n:=(i:Int)) (by omega) ty e;obtain⟨y,t,p,k⟩:=I0 s ((f x Wl).mono g) j;have d:=g.trans p;obtain⟨A,u,q,l⟩:=KA t (iE d ho) k;have c:=d.trans q;obtain⟨h,v,r,m⟩:=KF (b:=b) (i:=i+1) u (iE c e) l (iE c λz o=>f z (Wn _ o));rw [hJ];exact⟨h,v,c.trans r,m⟩
theorem UL{a b:List Int}{M:Mk}{σ:List Int}(ty:Ty D M σ)(d:∀x∈a,bD σ x 1)(h:∀x∈b,bD σ x 1):eI D σ (jt M a b):=by obtain⟨m,k,c,f⟩:=Cb (n:=(a.length:Int)) (by omega) ty d;obtain⟨e,l,j,g⟩:=KF (i:=0) k (iE c d) f (iE c h);exact⟨e,l,c.trans j,g⟩
theorem HZ:∀{a b:List Int} {M:Mk} {σ:List Int} {c:Int},Ty D M σ->bD σ c 1->(∀x∈a,bD σ x 1)->(∀x∈b,bD σ x 1)->dX D σ (gG M c a b) 1
 | [],b,M,σ,c,ty,d,_,_=>by rw [show gG M c [] b= (c,M) by simp [gG]];exact dX.same ty d
 | x::a,[],M,σ,c,ty,d,_,_=>by rw [show gG M c (x::a) []= (c,M) by simp [gG]];exact dX.same ty d
 | x::a,y::b,M,σ,c,ty,d,i,j=>by have k:=i x Wl;have l:=j y Wl;obtain⟨J,C,m,q⟩:=wu ty k;obtain⟨K,E,w,r⟩:=qW C q (l.mono m);have e:=m.trans w;obtain⟨L,F,n,s⟩:=BQ E (k.mono e) (l.mono e);have g:=e.trans n;obtain⟨N,G,o,t⟩:=qW F s (d.mono g);obtain⟨O,H,A,u⟩:=CB G (r.mono (n.trans o)) t;have f:=g.trans (o.trans A);obtain⟨p,I,B,v⟩:=HZ (a:=a) (b:=b) H u (iE f λz h=>i z (Wn _ h)) (iE f λz h=>j z (Wn _ h));rw [gG];exact⟨p,I,f.trans B,v⟩
theorem P1{a b:List Int}{M:Mk}{σ:List Int}(ty:Ty D M σ)(g:∀x∈a,bD σ x 1)(h:∀x∈b,bD σ x 1):dX D σ (me M a b) 1:=by obtain⟨l,j,c,e⟩:=pO ty false;obtain⟨d,k,i,f⟩:=HZ j e (iE c g) (iE c h);exact⟨d,k,c.trans i,f⟩
theorem IH:∀{l:List Int} {M:Mk} {σ:List Int},Ty D M σ->(∀y∈l,bD σ y 1)->eI D σ (fU M l)
 | [],M,σ,ty,_=>eI.none ty
 | y::l,M,σ,ty,hl=>by rw [fU];exact eI.cons (wu ty (hl y Wl)) λb t p=>IH t (iE p λz a=>hl z (Wn _ a))
theorem EP{n:Int}:∀(k b:Nat) {M:Mk} {σ:List Int},Ty D M σ->eI D σ (fQ M n b k)
 | 0,b,M,σ,ty=>eI.none ty
 | k+1,b,M,σ,ty=>by rw [fQ];exact eI.cons (pO ty _) λa t _=>EP k (b+1) t
theorem D3:∀{l:List Int} {M:Mk} {σ:List Int} {a:Int},Ty D M σ->bD σ a 1->(∀y∈l,bD σ y 1)->dX D σ (kq M a l) 1
 | [],M,σ,a,ty,h,_=>dX.same ty h
 | y::l,M,σ,a,ty,h,hl=>by obtain⟨k,i,b,d⟩:=qW ty h (hl y Wl);obtain⟨c,j,g,e⟩:=D3 (l:=l) i d (iE b λz f=>hl z (Wn _ f));rw [kq];exact⟨c,j,b.trans g,e⟩
theorem ym{f:Mk->Int->Int->Int×Mk}(g:∀M σ a b,Ty D M σ->bD σ a 1->bD σ b 1->dX D σ (f M a b) 1){a b:List Int}{M:Mk}{σ:List Int}(ty:Ty D M σ)(d:∀x∈a,bD σ x 1)(e:∀x∈b,bD σ x 1):eI D σ (aT f M a b):=
 Bu (P:=λ_=>True) (λ_ _ _ _=>trivial) (λM σ a b t _ h c=>g M σ a b t h c) ty trivial d e
theorem Ue{a b:List Int}{M:Mk}{σ:List Int}(ty:Ty D M σ)(k:∀x∈a,bD σ x 1)(l:∀x∈b,bD σ x 1):dX D σ (oZ M a b) 1:=by obtain⟨q,n,c,g⟩:=pO ty true;obtain⟨r,o,d,i⟩:=ym (λM σ a b t h f=>BQ t h f) n (iE c k) (iE c l);obtain⟨e,p,m,j⟩:=D3 o (g.mono d) i;exact⟨e,p,(c.trans d).trans m,j⟩
abbrev oM:Dc:=⟨s0,true,[],0⟩
structure Fn (D:List Dc) (nm:ByteArray) (ar:List Int) (so:Int):Prop where
 h0: 0<=bm D nm
 ar:(D.getD (bm D nm).toNat oM).ar=ar
 so:(D.getD (bm D nm).toNat oM).so=so
theorem He{σ:List Int}{nm:ByteArray}{ks ar:List Int}(f:Fn D nm ar 1)(b:ks.map (λk=>σ.getD k.toNat 0)=ar)(a:∀k∈ks,0<=k/\k < (σ.length:Int))(c:ks.length<=8)(hs:jz nm):Good D σ ⟨9,ks.isEmpty,ks,0,0,nm⟩ 1:=by
 refine⟨?_,by decide,by dsimp only;omega,hs⟩;unfold bU;dsimp only;have hl:ks.length=ar.length:=by rw [<-b,W6]
 rw [if_neg (by omega),if_pos rfl,if_neg (by have:=f.h0;omega),f.ar,f.so,if_neg (by omega)];refine pU b a ?_ ?_ ?_ (by decide)
 .simp [gg]
 .simp [fL]
 .show bc 9 0 ar ar 1=1;simp [bc]
theorem Iw{pre:ByteArray}{kids ar:List Int}(e:kids.length<=8):∀(k b:Nat) {M:Mk} {σ:List Int},Ty D M σ->(∀c,b<=c->c < b+k->Fn D (pre++it (c:Int)) ar 1/\jz (pre++it (c:Int)))->(kids.map (λk=>σ.getD k.toNat 0)=ar)->(∀x∈kids,0<=x/\x < (σ.length:Int))->eI D σ (dC M pre kids b k)
 | 0,b,M,σ,ty,_,_,_=>eI.none ty
 | k+1,b,M,σ,ty,f,g,a=>by
  rw [dC];obtain⟨h,i⟩:=f b (by omega) (by omega);refine eI.cons (oR ty (He h g a e i)) λj t p=>Iw e k (b+1) t (λc l m=>f c (by omega) (by omega)) ?_ ?_
  .rw [<-g];obtain⟨q,rfl⟩:=p;apply W8;intro x d;have:=a x d;rw [Wp,Wp,WB (by omega)]
  .intro x d;have:=a x d;obtain⟨q,rfl⟩:=p;rw [Xc];omega
end
theorem Cs{D p:List Dc}{x y:Nd}{i i':Int}{ss g:List Int}{s:Int}(h:bU D x i ss= (s,0))(l:s≠0)(m:y.op=x.op)(q:y.ks.map (λk=>g.getD k.toNat 0)=x.ks.map (λk=>ss.getD k.toNat 0))(r:y.n=x.n)(o:y.d=x.d)(t:y.nm=x.nm)(w:∀k∈y.ks,0<=k/\k < i')(I:x.op=9->0<=bm D x.nm->(D.getD (bm D x.nm).toNat oM).so=s->Fn p x.nm (D.getD (bm D x.nm).toNat oM).ar s):bU p y i' g= (s,0):=by
 have hl:y.ks.length=x.ks.length:=by simpa using congrArg List.length q
 have E:(y.ks.any λk=>decide (k < 0) || decide (k>=i'))=false:=by rw [Xd];intro k J;have:=w k J;simp;omega
 have v:∀{da:List Int} {so:Int} {c:Int},dz x i ss da so= (s,0)->(x.op≠9->c=so)->(x.op=9->c=s)->dz y i' g da c= (s,0):=by
  intro da so c A u H;have j:=l9 (x:=x) (i:=i) (ss:=ss) (da:=da) (so:=so) (by rw [A]);obtain⟨_,K,L,a,B⟩:=j;rw [A] at a;have F:gg y=true:=by rw [<-K];unfold gg;rw [m,r,o,t]
  have e3:fL y=true:=by rw [<-L];unfold fL;rw [m,r,o]
  have G:bc y.op y.d (y.ks.map λk=>g.getD k.toNat 0) da c=s:=by
   rw [q,m,o];by_cases b:x.op=9
   .rw [H b];rw [b] at a B⊢;replace a:s=if(x.ks.map λk=>ss.getD k.toNat 0)=da then so else 0:=a;show(if(x.ks.map λk=>ss.getD k.toNat 0)=da then s else 0)=s;split at a
    .rename_i e;rw [if_pos e]
    .exact absurd a l
   .rw [u b];exact a.symm
  unfold dz;rw [E,F,e3,G,if_neg (by decide),if_neg (by decide),if_neg (by decide),if_neg l]
 unfold bU at h⊢;rw [m,t,hl];split at h
 .simp at h
 rename_i C;rw [if_neg C];split at h
 .rename_i b;rw [if_pos b];split at h
  .simp at h
  rename_i N;split at h
  .simp at h
  rename_i c3;have z:(D.getD (bm D x.nm).toNat oM).so=s:=by
   have j:=l9 (by rw [h]);obtain⟨_,_,_,a,B⟩:=j;rw [h,b] at a;replace a:s=if(x.ks.map λk=>ss.getD k.toNat 0)= (D.getD (bm D x.nm).toNat oM).ar then(D.getD (bm D x.nm).toNat oM).so else 0:=a;split at a
   .exact a.symm
   .exact absurd a l
  have f:=I b (by omega) z;rw [if_neg (by have:=f.h0;omega),f.ar,f.so,if_neg c3];exact v h (λe=>absurd b e) (λ_=>rfl)
 .rename_i b;rw [if_neg b];split at h
  .simp at h
  rename_i c3;rw [if_neg c3];exact v h (λ_=>rfl) (λe=>absurd e b)
open Go Go.Aev Go.IntKind
structure qH (ds D:List Dc) (p:ByteArray):Prop where
 pl:∀d∈ds,aE d.so=false->Fn D d.nm d.ar d.so
 wd:∀(k:Nat) (d:Dc),ds[k]? =some d->aE d.so=true->∀b:Nat,b < (d.so - 10).toNat->Fn D (p++it (k:Int)++us++it (b:Int)) d.ar 1
 sp:∀d∈ds,jz d.nm
 sw:∀k b:Nat,jz (p++it (k:Int)++us++it (b:Int))
 a4:∀d∈ds,d.ar.length<=8/\∀s∈d.ar,s=4
structure kV (c:Cx) (t:Tr) (σ:List Int) (i:Nat):Prop where
 w:∀(k:Nat) (s:Int),k < i->c.ss[k]? =some s->aE s=true->∀b,t.bits[k]? =some b->∀x∈b,bD σ x 1
 p:∀(k:Nat) (s:Int),k < i->c.ss[k]? =some s->aE s=false->∀v,t.to[k]? =some v->bD σ v s
theorem kV.mono{c:Cx}{t:Tr}{σ a:List Int}{i:Nat}(h:kV c t σ i)(p:σ <+:a):kV c t a i:=
 ⟨λk s d e f b g x j=>(h.w k s d e f b g x j).mono p,λk s d e f v g=>(h.p k s d e f v g).mono p⟩
theorem KW.mw{c:Cx}{t:Tr}{M:Mk}{σ:List Int}{i:Nat}{k s:Int}(h:KW c i k s)(b:cG c t M i)(ty:kV c t σ i)(a:aE s=true):∀x∈aG t k,bD σ x 1:=
 ty.w k.toNat s (by have:=h.h0;have:=h.lt;omega) h.so a _ (h.word b a).1
theorem KW.se{c:Cx}{t:Tr}{M:Mk}{σ:List Int}{i:Nat}{k s:Int}(h:KW c i k s)(b:cG c t M i)(ty:kV c t σ i)(a:aE s=false):bD σ (bp t k) s:=
 ty.p k.toNat s (by have:=h.h0;have:=h.lt;omega) h.so a _ (h.plain b a).2.1
def py(c:Cx)(i:Nat)(x:Nd)(s:Int):Prop:=bU c.ds x (i:Int) (c.ss.take i)= (s,0)
theorem jh{c:Cx}{i:Nat}{k s:Int}(h:KW c i k s):(c.ss.take i).getD k.toNat 0=s:=by have:=h.h0;have:=h.lt;rw [Wp,X7 (by omega),h.so];rfl
theorem yx{ds:List Dc}{nm:ByteArray}(h: 0<=bm ds nm):∃(k:Nat) (d:Dc),bm ds nm= (k:Int)/\ds[k]? =some d/\d.nm=nm/\ds.getD (bm ds nm).toNat oM=d:=by
 obtain⟨j,d,c,a,e⟩:=yy (i:=0) h;have b:bm ds nm= (j:Int):=by unfold bm;rw [c,WZ]
 exact⟨j,d,b,a,e,by rw [b,WW,Wp,a];rfl⟩
theorem oL{ds:List Dc}{x:Nd}{i:Int}{ss:List Int}{s:Int}(h:bU ds x i ss= (s,0))(f:x.op=9)(b:s≠0):∃(k:Nat) (d:Dc),bm ds x.nm= (k:Int)/\ds[k]? =some d/\d.nm=x.nm/\d.so=s/\(x.ks.map λk=>ss.getD k.toNat 0)=d.ar/\ds.getD (bm ds x.nm).toNat oM=d:=by
 unfold bU at h;split at h
 .simp at h
 split at h
 .simp at h
 rename_i m;split at h
 .simp at h
 obtain⟨k,d,g,j,l,c⟩:=yx (ds:=ds) (nm:=x.nm) (by omega);obtain⟨_,_,_,a,n⟩:=l9 (by rw [h]);rw [h,f] at a;rw [show ds.getD (bm ds x.nm).toNat ⟨s0,true,[],0⟩=d from c] at a;replace a:s=if(x.ks.map λk=>ss.getD k.toNat 0)=d.ar then d.so else 0:=a;split at a
 .rename_i e;exact⟨k,d,g,j,l,a.symm,e,c⟩
 .exact absurd a b
theorem qn{ds:List Dc}{x:Nd}{i:Int}{ss:List Int}{s:Int}(h:bU ds x i ss= (s,0)):s≠0/\gg x=true/\fL x=true:=by
 have key:∀{da:List Int} {so:Int},dz x i ss da so= (s,0)->s≠0/\gg x=true/\fL x=true:=by intro da so h;obtain⟨_,b,c,a,d⟩:=l9 (by rw [h]);rw [h] at a;exact⟨by rw [show s=_ from a];exact d,b,c⟩
 unfold bU at h;split at h
 .simp at h
 split at h
 .split at h
  .simp at h
  split at h
  .simp at h
  exact key h
 .split at h
  .simp at h
  exact key h
theorem mw{c:Cx}{D:List Dc}(E:qH c.ds D c.p){t:Tr}{M:Mk}{σ:List Int}{i:Nat}{x:Nd}{s:Int}(ok:oe c i x s)(C:py c i x s)(f:aE s=true)(g:cG c t M i)(j:kV c t σ i)(ty:Ty D M σ):eI D σ (gq c t M x s):=by
 have O:=(qn C).1;have one:∀{a:Int},x.ks= [a]->x.ks.getD 0 0=a:=λh=>by rw [h];rfl
 have H:∀{a b:Int},x.ks= [a,b]->x.ks.getD 0 0=a:=λh=>by rw [h];rfl
 have I:∀{a b:Int},x.ks= [a,b]->x.ks.getD 1 0=b:=λh=>by rw [h];rfl
 unfold gq;by_cases r:x.op=9
 .rw [if_pos r];obtain⟨k,d,Q,J,W,K,L,X⟩:=oL C r O;have S:d∈c.ds:=Wx J;obtain⟨V,a4⟩:=E.a4 d S;have B:∀y∈x.ks,KW c i y 4/\bD σ (bp t y) 4:=λy o=>by
   obtain⟨s',G⟩:=ok.k y o;have F:=jh G;have:s'=4:=a4 _ (by rw [<-L];exact WU.2 ⟨y,o,F⟩);subst this;exact⟨G,G.se g j rfl⟩
  rw [Q];refine Iw (ar:=d.ar) (by rw [W6];exact ok.kl) _ 0 ty (λb _ n=>⟨E.wd k d J (by rw [K];exact f) b (by rw [K];omega),E.sw k b⟩) ?_ ?_
  .rw [<-L,XW];apply W8;intro y o;obtain⟨F,u⟩:=B y o;show σ.getD (bp t y).toNat 0=_;rw [u.getD,jh F]
  .intro y o;obtain⟨z,U,rfl⟩:=WU.1 o;have u:=(B z U).2;exact⟨u.1,u.lt⟩
 rw [if_neg r];by_cases c7:x.op=7
 .rw [if_pos c7];obtain⟨a,b,d,e,k1,k2,k3⟩:=ok.c7 c7;rw [e];show eI D σ (aT (dt (bp t a)) M (aG t b) (aG t d));have R:=k1.se g j rfl;exact Bu (P:=λσ =>bD σ (bp t a) 1) (λ_ _ p h=>h.mono p) (λM σ y z m T h l=>Sh m T h l) ty R (k2.mw g j f) (k3.mw g j f)
 rw [if_neg c7];by_cases fh:x.op=15
 .rw [if_pos fh];exact EP _ _ ty
 rw [if_neg fh];by_cases dZ:x.op=16
 .rw [if_pos dZ];obtain⟨_,a,e,k1⟩:=ok.dZ (.inl dZ);rw [one e];exact IH ty (k1.mw g j f)
 rw [if_neg dZ];by_cases bH:x.op=23
 .rw [if_neg (by omega),if_neg (by omega),if_neg (by omega),if_neg (by omega),if_neg (by omega)];obtain⟨_,a,e,k1⟩:=ok.dZ (.inr bH);rw [one e];exact Cb (ok.bH bH).1 ty (k1.mw g j f)
 have N: 17<=x.op/\x.op<=21:=by
  rcases YN (17<=x.op/\x.op<=21) with h | h
  .exact h
  exfalso;have:=ok.op;by_cases c8:x.op=8
  .rw [(ok.c8 c8).1] at f;cases f
  by_cases dP:x.op=22
  .rw [(ok.dP dP).1] at f;cases f
  have:=(ok.pl c7 c8 (by omega)).1 r;rw [this] at f;cases f
 obtain⟨_,a,b,e,k1,k2⟩:=ok.gy N.1 N.2;rw [H e,I e];have q:=k1.mw g j f;have n:=k2.mw g j f;by_cases gy:x.op=17
 .rw [if_pos gy];exact ym (λM σ y z m h l=>qW m h l) ty q n
 rw [if_neg gy];by_cases v:x.op=18
 .rw [if_pos v];exact ym (λM σ y z m h l=>CB m h l) ty q n
 rw [if_neg v];by_cases w:x.op=19
 .rw [if_pos w];exact ym (λM σ y z m h l=>DN m h l) ty q n
 rw [if_neg w];by_cases A:x.op=20
 .rw [if_pos A];exact KA ty q n
 rw [if_neg A,if_pos (by omega)];exact UL ty q n
theorem se{c:Cx}{D:List Dc}(J:qH c.ds D c.p){t:Tr}{M:Mk}{σ:List Int}{i:Nat}{x:Nd}{s:Int}(ok:oe c i x s)(j:py c i x s)(g:aE s=false)(l:cG c t M i)(q:kV c t σ i)(ty:Ty D M σ):dX D σ (gZ t M x) s:=by
 obtain⟨u,B,H⟩:=qn j;have v:∀{a b:Int},x.ks= [a,b]->x.ks.getD 0 0=a:=λh=>by rw [h];rfl
 have w:∀{a b:Int},x.ks= [a,b]->x.ks.getD 1 0=b:=λh=>by rw [h];rfl
 have C:∀{da:List Int} {so:Int},x.op≠9->bU c.ds x (i:Int) (c.ss.take i)= (s,0)->s=bc x.op x.d (x.ks.map λk=>(c.ss.take i).getD k.toNat 0) [] 0:=λU h=>by
  unfold bU at h;split at h
  .simp at h
  split at h
  .simp at h
  obtain⟨_,_,_,O,_⟩:=l9 (by rw [h]);rw [h] at O;exact O
 have o:(∀k∈x.ks,∃s',KW c i k s'/\aE s'=false)->(x.op < 15\/23 < x.op)->dX D σ (dA M x.op x.nm x.n x.d (x.ks.map (bp t))) s:=λr ho=>by
  refine oR ty ⟨?_,g,ho, ?_⟩
  .refine Cs j u rfl ?_ rfl rfl rfl ?_ ?_
   .show(x.ks.map (bp t)).map _=_;rw [XW];apply W8;intro y I;obtain⟨s',m,A⟩:=r y I;show σ.getD (bp t y).toNat 0=_;rw [(m.se l q A).getD,jh m]
   .intro k L;obtain⟨y,I,rfl⟩:=WU.1 (show k∈x.ks.map (bp t) from L);obtain⟨s',m,A⟩:=r y I;exact⟨(m.se l q A).1,(m.se l q A).lt⟩
   .intro z _ T;obtain⟨k,d,P,E,F,G,Q,K⟩:=oL j z u;have:=J.pl d (Wx E) (by rw [G];exact g);rw [F,G] at this;rw [K];exact this
  .by_cases z:x.op=9
   .obtain⟨k,d,P,E,F,G,Q,K⟩:=oL j z u;have:=J.sp d (Wx E);rw [F] at this;exact this
   .rcases(yz B H).2.2 with e | e
    .show jz x.nm;rw [e];exact qm
    .exact absurd e z
 unfold gZ;by_cases dP:x.op=22
 .rw [if_pos dP];obtain⟨_,a,b,s',f,e,k1,k2⟩:=ok.dP dP;have hs:s=1:=by
   have:=C (da:= []) (so:=0) (by omega) j;rw [dP,e] at this;simp only [WL,Xj,jh k1,jh k2] at this;rw [this];simp [bc,f]
  subst hs;rw [v e,w e];exact P1 ty (k1.mw l q f) (k2.mw l q f)
 rw [if_neg dP];by_cases c8:x.op=8
 .obtain⟨_,a,b,s',e,h⟩:=ok.c8 c8;rw [v e,w e];rcases h with⟨f,k1,k2⟩ | h
  .have hl:=(k1.word l f).2.1;have m:=gL f;rw [if_pos ⟨c8,yY (by omega)⟩];have hs:s=1:=by
    have:=C (da:= []) (so:=0) (by omega) j;rw [c8,e] at this;simp only [WL,Xj,jh k1,jh k2] at this;rw [this];simp [bc,f]
   subst hs;exact Ue ty (k1.mw l q f) (k2.mw l q f)
  .obtain⟨V,k1,N⟩:=h a (by rw [e];exact Wl);have R:aG t a= []:=by
    have:=(k1.plain l N).1;unfold aG;rw [Wp,this];rfl
   rw [if_neg (by rw [R];simp)];exact o h (by omega)
 rw [if_neg (by omega)];by_cases c7:x.op=7
 .obtain⟨a,b,d,e,k1,k2,k3⟩:=ok.c7 c7;refine o (λk r=> ?_) (by omega);rw [e] at r;simp only [WC,XE,or_false] at r;rcases r with rfl | rfl | rfl
  .exact⟨1,k1,rfl⟩
  .exact⟨s,k2,g⟩
  .exact⟨s,k3,g⟩
 have S:x.op < 15\/24<=x.op:=by
  rcases YN (x.op < 15\/24<=x.op) with h | h
  .exact h
  exfalso;by_cases fh:x.op=15
  .have:=ok.fh fh;have m:aE s=true:=by unfold aE;simp;omega
   rw [m] at g;cases g
  by_cases dZ:x.op=16\/x.op=23
  .rw [(ok.dZ dZ).1] at g;cases g
  rw [(ok.gy (by omega) (by omega)).1] at g;cases g
 exact o (ok.pl c7 c8 S).2 (by omega)
theorem kV.snoc{c:Cx}{t:Tr}{M:Mk}{σ:List Int}{i:Nat}{s:Int}{w:List Int}{v:Int}(h:kV c t σ i)(d:cG c t M i)(hs:c.ss[i]? =some s)(l:aE s=true->∀x∈w,bD σ x 1)(m:aE s=false->bD σ v s):kV c ⟨t.bits++ [w],t.to++ [v]⟩ σ (i+1):=by
 refine⟨λk s' n a j b f=> ?_,λk s' n a j u g=> ?_⟩
 .by_cases e:k=i
  .subst e;rw [hs] at a;simp only [Wj] at a;subst a;rw [WJ (by rw [d.bl];exact WH _),d.bl,Xx] at f;simp only [W7,Wj] at f;subst f;exact l j
  .rw [WB (by rw [d.bl];omega)] at f;exact h.w k s' (by omega) a j b f
 .by_cases e:k=i
  .subst e;rw [hs] at a;simp only [Wj] at a;subst a;rw [WJ (by rw [d.tl];exact WH _),d.tl,Xx] at g;simp only [W7,Wj] at g;subst g;exact m j
  .rw [WB (by rw [d.tl];omega)] at g;exact h.p k s' (by omega) a j u g
theorem H9{c:Cx}(ok:qG c){D:List Dc}(n:qH c.ds D c.p)(w:c.p.size<=100)(hold:∀(i:Nat) (x:Nd) (s:Int),c.ns[i]? =some x->c.ss[i]? =some s->py c i x s):
  ∀(rn:List Nd) (rs:List Int) (i:Nat) (t:Tr) (M:Mk) (σ:List Int),c.ns.drop i=rn->c.ss.drop i=rs->i<=c.ns.length->cG c t M i->M.N.length<=800->Ty D M σ->kV c t σ i->(fT c rn rs t M).2.N.length<=800->
   ∃a,Ty D (fT c rn rs t M).2 a/\kV c (fT c rn rs t M).1 a c.ns.length/\cG c (fT c rn rs t M).1 (fT c rn rs t M).2 c.ns.length
 | [],rs,i,t,M,σ,g,j,v,b,u,ty,d,_=>by
  have:i=c.ns.length:=by have:=bt g;omega
  subst this;rw [show fT c [] rs t M= (t,M) by simp [fT]];exact⟨σ,ty,d,b⟩
 | x::rn,[],i,t,M,σ,g,j,v,b,u,ty,d,_=>by have k:=(br g).2.1;have E:=bt j;have:=ok.sl;omega
 | x::rn,s::rs,i,t,M,σ,g,j,v,b,u,ty,d,hl=>by
  obtain⟨o,C,A⟩:=br g;obtain⟨f,_,r⟩:=br j;obtain⟨st,up⟩:=Di ok o f b w (by omega);have y:=ok.nd i x s o f;have m:=hold i x s o f;have key:∃a,Ty D (iP c t M x s).2 a/\kV c (iP c t M x s).1 a (i+1):=by
   unfold iP;cases l:aE s with
   | true=>obtain⟨a,h,q,k⟩:=mw n y m l b d ty;exact⟨a,h,(d.mono q).snoc b f (λ_=>k) (λe=>by rw [l] at e;cases e)⟩
   | false=>obtain⟨a,h,q,k⟩:=se n y m l b d ty;exact⟨a,h,(d.mono q).snoc b f (λe=>by rw [l] at e;cases e) (λ_=>k)⟩
  rw [fT] at hl⊢;split at hl
  .omega
  rename_i B;rw [if_neg B];obtain⟨a,h,z⟩:=key;exact H9 ok n w hold rn rs (i+1) _ _ a A r (by omega) st (by omega) h z hl
end Go.Aev.Gen
