import Derived.Test.YtcffabneepdohaaGreatDoorBlastMeansQ14
set_option linter.all false
namespace Go.Aev.Gen
open Go Go.Aev
abbrev eR(need:List Bool)(j:Nat):Bool:=need.getD j false
theorem Uf{need:List Bool}{k j:Nat}(h:eR need j=true):eR (need.set k true) j=true:=by
 unfold eR at h⊢;rw [Wp] at h⊢;rw [XS];by_cases e:k=j
 .subst e;rw [if_pos rfl];by_cases hl:k < need.length
  .rw [if_pos hl];rfl
  .rw [XV (by omega)] at h;cases h
 .rw [if_neg e];exact h
theorem Ci:∀(ks:List Int) (need:List Bool) {j:Nat},eR need j=true->eR (eG need ks) j=true
 | [],_,_,h=>h
 | _::r,_,_,h=>Ci r _ (Uf h)
theorem yW:∀{ks:List Int} {need:List Bool} {k:Int},k∈ks->k.toNat < need.length->eR (eG need ks) k.toNat=true
 | [],_,_,h,_=>by cases h
 | a::r,need,k,h,hl=>by
  rw [eG];rcases WC.1 h with rfl | h
  .exact Ci r _ (by unfold eR;rw [Wp,X1 hl];rfl)
  .exact yW h (by rw [Yg];exact hl)
theorem Ic:∀{ks:List Int} {need:List Bool} {j:Nat},(∀k∈ks,k.toNat≠j)->eR (eG need ks) j=eR need j
 | [],_,_,_=>rfl
 | k::r,need,j,h=>by rw [eG,Ic (ks:=r) λy a=>h y (Wn _ a)];unfold eR;rw [Wp,Wp,Yi (h k Wl)]
abbrev MM:Nd:=⟨0,true,[],0,0,s0⟩
theorem Pw{N:List Nd}(b:∀(i:Nat) (x:Nd),N[i]? =some x->∀k∈x.ks,0<=k/\k < (i:Int))(i:Nat):∀k∈(N.getD i MM).ks,0<=k/\k < (i:Int):=by
 rw [Wp];cases h:N[i]? with
 | none=>intro k a;cases a
 | some x=>exact b i x h
theorem Er{N:List Nd}(a:∀(i:Nat) (x:Nd),N[i]? =some x->∀k∈x.ks,0<=k/\k < (i:Int)):∀(i:Nat) (need:List Bool) {j:Nat},i<=j->eR (back N need i) j=eR need j
 | 0,_,_,_=>rfl
 | i+1,need,j,h=>by
  rw [back,Er a i _ (by omega)];split
  .exact Ic λk b=>by have:=Pw a i k b;omega
  .rfl
theorem xL{N:List Nd}:∀(i:Nat) (need:List Bool) {j:Nat},eR need j=true->eR (back N need i) j=true
 | 0,_,_,h=>h
 | i+1,need,j,h=>by
  rw [back];apply xL i;split
  .exact Ci _ _ h
  .exact h
theorem Ap{N:List Nd}(b:∀(i:Nat) (x:Nd),N[i]? =some x->∀k∈x.ks,0<=k/\k < (i:Int)):∀(i:Nat) (need:List Bool),i<=need.length->∀(j:Nat) (x:Nd),j < i->N[j]? =some x->eR (back N need i) j=true->∀k∈x.ks,eR (back N need i) k.toNat=true
 | 0,_,_,j,_,h,_,_=>by omega
 | i+1,need,hl,j,x,h,d,ho=>by
  intro k a;rw [back] at ho⊢;by_cases e:j=i
  .subst e;rw [Er b j _ (WH _)] at ho;have f:=b j x d k a;by_cases c:eR need j=true
   .rw [if_pos c] at ho⊢;apply xL;refine yW ?_ (by omega);rw [Wp,d];exact a
   .rw [if_neg c] at ho;exact absurd ho c
  .refine Ap b i _ ?_ j x (by omega) d ho k a;split
   .rw [rW];omega
   .omega
structure Kp (D:List Dc) (σ:List Int) (need:List Bool) (n i:Nat) (to:List Int) (out:List Nd) (τ:List Int):Prop where
 tl:to.length=n
 to:∀j,j < i->eR need j=true->bD τ (to.getD j 0) (σ.getD j 0)
 len:τ.length=out.length
 nd:∀(m:Nat) (y:Nd) (s:Int),out[m]? =some y->τ[m]? =some s->bU D y (m:Int) (τ.take m)= (s,0)/\aE s=false/\(y.op < 15\/23 < y.op)/\(y.ek=true->y.ks= [])
theorem Ty.in{D:List Dc}{M:Mk}{b:List Int}(ty:Ty D M b):∀(i:Nat) (x:Nd),M.N[i]? =some x->∀k∈x.ks,0<=k/\k < (i:Int):=λi x a k d=>by
 have c:i < b.length:=by rw [ty.len];exact(Wm.1 a).1
 have:=wh (ty.nd i x _ a (Wv c)).ch k d;rw [Xk] at this;omega
theorem B1{D:List Dc}{M:Mk}{b:List Int}(ty:Ty D M b)(o:∀x∈M.N,x.ek=true->x.ks= []){need:List Bool}(l:∀(j:Nat) (x:Nd),M.N[j]? =some x->eR need j=true->∀k∈x.ks,eR need k.toNat=true):
  ∀(r:List Nd) (i:Nat) (to:List Int) (out:List Nd) (τ:List Int),M.N.drop i=r->i<=M.N.length->Kp D b need M.N.length i to out τ->∃h,Kp D b need M.N.length M.N.length (eJ need i r to out).1 (eJ need i r to out).2 h/\(eJ need i r to out).2.length<=out.length+r.length
 | [],i,to,out,τ,g,I,a=>by
  have:i=M.N.length:=by have:=bt g;omega
  subst this;exact⟨τ,a,by simp [eJ]⟩
 | x::r,i,to,out,τ,g,I,a=>by
  obtain⟨t,C,E⟩:=br g;have w:i < b.length:=by rw [ty.len];exact C
  rw [eJ];by_cases u:eR need i=true
  .rw [if_pos u];have gd:=ty.nd i x _ t (Wv w);have p:=ty.in i x t;have e:∀k∈x.ks,(to.set i (out.length:Int)).getD k.toNat 0=to.getD k.toNat 0:=λk c=>by
    have:=p k c;rw [Wp,Wp,Yi (by omega)]
   have c:∀k∈x.ks,bD τ (to.getD k.toNat 0) (b.getD k.toNat 0):=λk c=>a.to k.toNat (by have:=p k c;omega) (l i x t u k c);have q:bU D ⟨x.op,x.ek,x.ks.map λk=>(to.set i (out.length:Int)).getD k.toNat 0,x.n,x.d,x.nm⟩ (out.length:Int) τ = (b[i],0):=by
    refine Cs gd.ch (qn gd.ch).1 rfl ?_ rfl rfl rfl ?_ ?_
    .show(x.ks.map _).map _=_;rw [XW];apply W8;intro k f;have:=p k f;show τ.getD ((to.set i (out.length:Int)).getD k.toNat 0).toNat 0=_;rw [e k f,(c k f).getD,Wp,Wp,X7 (by omega)]
    .intro k f;obtain⟨y,q,rfl⟩:=WU.1 (show k∈x.ks.map _ from f);rw [e y q];exact⟨(c y q).1,by rw [<-a.len];exact(c y q).lt⟩
    .intro _ h0 G;exact⟨h0,rfl,G⟩
   obtain⟨h,A,B⟩:=B1 ty o l r (i+1) (to.set i (out.length:Int)) (out++ [⟨x.op,x.ek,x.ks.map λk=>(to.set i (out.length:Int)).getD k.toNat 0,x.n,x.d,x.nm⟩]) (τ ++ [b[i]]) E (by omega) (by
    refine⟨by rw [Yg];exact a.tl,λj J ho=> ?_,by simp [a.len],λm y s hm hs=> ?_⟩
    .by_cases z:j=i
     .subst z;rw [Wp,X1 (by rw [a.tl];exact C),Wp,Wv w];refine⟨Y1 _, ?_⟩;show(τ ++ [b[j]])[((out.length:Nat):Int).toNat]? =some b[j];rw [WW,<-a.len];simp
     .have:=(a.to j (by omega) ho).mono (Yt τ [b[i]]);rw [Wp,Yi (by omega),<-Wp];exact this
    .rcases Ys m out.length with v | K
     .rw [WB v] at hm;rw [WB (by rw [a.len];exact v)] at hs;rw [XP (by rw [a.len];omega)];exact a.nd m y s hm hs
     .have F:=(Wm.1 hm).1;rw [Xc,Wy] at F;obtain rfl:m=out.length:=by omega
      rw [WJ (WH _),Xx] at hm;rw [<-a.len,WJ (WH _),Xx] at hs;simp only [W7,Wj] at hm hs;subst hm hs;rw [XP (by rw [a.len];exact WH _),<-a.len,YC,a.len];exact⟨q,gd.so,gd.op,λH=>by
       have:=o x (Wx t) H;show x.ks.map _= [];rw [this];rfl⟩)
   exact⟨h,A,by simp at B⊢;omega⟩
  .rw [if_neg u];obtain⟨h,A,B⟩:=B1 ty o l r (i+1) to out τ E (by omega) ⟨a.tl,λj J ho=>by
    by_cases z:j=i
    .subst z;exact absurd ho u
    .exact a.to j (by omega) ho,a.len,a.nd⟩
   exact⟨h,A,by simp at B⊢;omega⟩
theorem Kj{D:List Dc}{N:List Nd}{τ:List Int}(hl:τ.length=N.length)(a:∀(m:Nat) (y:Nd) (s:Int),N[m]? =some y->τ[m]? =some s->bU D y (m:Int) (τ.take m)= (s,0)):∀(r:List Nd) (i:Nat),N.drop i=r->i<=N.length->eT D r i (τ.take i)= (τ,0,0)
 | [],i,g,d=>by
  have:i=N.length:=by have:=bt g;omega
  subst this;rw [eT,<-hl,YC]
 | x::r,i,g,d=>by
  obtain⟨c,e,b⟩:=br g;have hs:i < τ.length:=by omega
  have h:=a i x _ c (Wv hs);rw [eT,h,if_pos rfl];show eT D r (i+1) (τ.take i++ [τ[i]])=_;rw [Zz hs];exact Kj hl a r (i+1) b (by omega)
theorem U4{D:List Dc}{M:Mk}{q:List Int}(ty:Ty D M q)(i:∀x∈M.N,x.ek=true->x.ks= []){hold:List Int}(r:∀k∈hold,bD q k 1):
  ∃τ,eT D (ja M.N hold).1 0 []= (τ,0,0)/\τ.length= (ja M.N hold).1.length/\(∀s∈τ,aE s=false)/\(∀y∈(ja M.N hold).1,(y.op < 15\/23 < y.op)/\(y.ek=true->y.ks= []))/\(∀k∈(ja M.N hold).2,bD τ k 1)/\(ja M.N hold).1.length<=M.N.length:=by
 have hl:(eG (List.replicate M.N.length false) hold).length=M.N.length:=by rw [rW,XL]
 have l:=ty.in;have g:∀(j:Nat) (x:Nd),M.N[j]? =some x->eR (back M.N (eG (List.replicate M.N.length false) hold) M.N.length) j=true->∀k∈x.ks,eR (back M.N (eG (List.replicate M.N.length false) hold) M.N.length) k.toNat=true:=
  λj x o ho k f=>Ap l M.N.length _ (by omega) j x (Wm.1 o).1 o ho k f
 obtain⟨τ,a,n⟩:=B1 ty i g M.N 0 (List.replicate M.N.length 0) [] [] rfl (Xr _) ⟨by simp,λj u=>by omega,rfl,λm y s hm=>by simp at hm⟩;refine⟨τ, ?_,a.len,λs hs=> ?_,λy t=> ?_,λk f=> ?_,by have h:=n;rw [WN,WZ] at h;exact h⟩
 .have:=Kj (D:=D) a.len (λm y s c b=>(a.nd m y s c b).1) _ 0 rfl (Xr _);exact this
 .obtain⟨m,hm⟩:=Xv hs;have d:m < (ja M.N hold).1.length:=by
   have:=(Wm.1 hm).1;have b:=a.len;unfold ja;dsimp only;omega
  exact(a.nd m _ s (Wv d) hm).2.1
 .obtain⟨m,hm⟩:=Xv t;have d:m < τ.length:=by rw [a.len];exact(Wm.1 hm).1
  obtain⟨_,_,c,b⟩:=a.nd m y _ hm (Wv d);exact⟨c,b⟩
 .obtain⟨z,p,rfl⟩:=WU.1 (show k∈hold.map _ from f);have c:=r z p;have e:z.toNat < M.N.length:=by rw [<-ty.len];exact(Wm.1 c.2).1
  have b:=a.to z.toNat e (xL _ _ (yW p (by rw [XL];exact e)));rw [c.getD] at b;exact b
open Go Go.Aev
abbrev NW(p:ByteArray)(k b:Nat):ByteArray:=p++it (k:Int)++us++it (b:Int)
theorem tX(p:ByteArray)(k b:Nat):bl (NW p k b)=bl p++ (Go.Lib.itoa (k:Int)++95::Go.Lib.itoa (b:Int)):=by unfold NW;simp only [qY,xN];simp [bl,us]
theorem IL{p:ByteArray}{k c b b':Nat}(h:NW p k b=NW p c b'):k=c/\b=b':=by have a:=congrArg bl h;rw [tX,tX] at a;obtain⟨d,e⟩:=tg (Hw _) (Hw _) (List.append_cancel_left a);have f:=tO d;have g:=tO e;omega
theorem BU(k:Nat):Go.Lib.itoa (k:Int)=Go.Lib.decDigits k:=by unfold Go.Lib.itoa;rw [if_neg (by omega)];simp
theorem Au(s:ByteArray):s.size= (bl s).length:=by show s.data.size=s.data.toList.length;simp
theorem Pd(p q:ByteArray):(p++q).extract 0 p.size=p:=by
 apply At;have:bl ((p++q).extract 0 p.size)= (bl (p++q)).take p.size:=by show((p++q).extract 0 p.size).data.toList=_;rw [ByteArray.data_extract,YO];rfl
 rw [this,qY,Au p];exact List.take_left
theorem R2(p:ByteArray)(k b:Nat):qB (NW p k b) p=true:=by
 have e:NW p k b=p++ (it (k:Int)++us++it (b:Int)):=by apply At;rw [tX];simp only [qY,xN];simp [bl,us]
 have d:mK (NW p k b) p=true:=by unfold mK;rw [e,Pd];simp only [WS,Ww,decide_eq_true_eq,and_true];omega
 obtain⟨c,r,a⟩:=MJ k;have f:(NW p k b).data.toList[p.size]? =some c:=by show(bl (NW p k b))[p.size]? =some c;rw [tX,BU,a,Au,WJ (WH _),Xx];rfl
 have g:=th k c (by rw [a];exact Wl);unfold qB;rw [d,f];simp only [Xe,Ww,decide_eq_true_eq];omega
theorem IM{ds:List Dc}{p:ByteArray}(h:kN ds p=false){d:Dc}(a:d∈ds)(k b:Nat):d.nm≠NW p k b:=λe=>by have:=Xd.1 h d a;rw [e,R2] at this;exact this rfl
theorem I7{ds:List Dc}:∀(k:Nat) (p:ByteArray) (n:Nat),bl p=List.replicate n (95:UInt8)->1<=n->∃m,1<=m/\bl (mj ds k p)=List.replicate m (95:UInt8)
 | 0,p,n,h,a=>⟨n,a,h⟩
 | k+1,p,n,h,a=>by
  rw [mj];split
  .refine I7 k (p++us) (n+1) ?_ (by omega);rw [qY,h,List.replicate_succ']
  .exact⟨n,a,h⟩
theorem Sl(ds:List Dc):∃m,1<=m/\bl (cV ds)=List.replicate m (95:UInt8):=I7 11 us 1 rfl (WH _)
theorem I6{ds:List Dc}(hs:∀d∈ds,d.nm.size<=12):∀(k:Nat) (p:ByteArray),12<=p.size+k->kN ds (mj ds k p)=false
 | 0,p,h=>by
  rw [mj];cases a:kN ds p with
  | false=>rfl
  | true=>have:=zN hs a;omega
 | k+1,p,h=>by
  rw [mj];split
  .exact I6 hs k _ (by rw [WS,hU];omega)
  .rename_i a;simpa using a
theorem Sk{ds:List Dc}(hs:∀d∈ds,d.nm.size<=12):kN ds (cV ds)=false:=I6 hs 11 us (by rw [hU];omega)
theorem EE:∀(l:List UInt8) (i:Nat),1<=i->(∀c∈l,c=95\/(48<=c.toNat/\c.toNat<=57))->mE i l=true
 | [],_,_,_=>rfl
 | c::r,i,g,h=>by
  rw [mE,EE r (i+1) (by omega) λx d=>h x (Wn _ d),XF];rcases h c Wl with rfl | ⟨e,f⟩
  .simp [pJ]
  .have a:(((i:Nat):Int)==0)=false:=by simp;omega
   have b:decide (((c.toNat:Nat):Int) < 48)=false:=by simp;omega
   have e3:decide (((c.toNat:Nat):Int) > 57)=false:=by simp;omega
   unfold pJ;rw [a,b,e3];simp
theorem IK{p:ByteArray}{m:Nat}(d:bl p=List.replicate m (95:UInt8))(k b:Nat):∀c∈bl (NW p k b),c=95\/(48<=c.toNat/\c.toNat<=57):=λc a=>by
 rw [tX,d,BU,BU] at a;rcases WK.1 a with a | a
 .exact .inl (Zu a)
 rcases WK.1 a with a | a
 .exact .inr (th _ c a)
 rcases WC.1 a with a | a
 .exact .inl a
 .exact .inr (th _ c a)
theorem R0{p:ByteArray}{m:Nat}(hm: 1<=m)(c:bl p=List.replicate m (95:UInt8)){k b:Nat}(hs:(NW p k b).size<=12):lJ (NW p k b)=true:=by
 obtain⟨m,rfl⟩:∃n,m=n+1:=⟨m - 1,by omega⟩;have a:=IK c k b;have e:∃r,bl (NW p k b)=95::r:=by rw [tX,c,XQ];exact⟨_,rfl⟩
 obtain⟨r,d⟩:=e;have h: 1<=(NW p k b).size:=by rw [Au,d];simp
 unfold lJ;show(mE 0 (bl (NW p k b)) && _)=true;rw [d] at a⊢;rw [mE,EE r (0+1) (WH _) λx g=>a x (Wn _ g)];have f:pJ 0 95=true:=by decide
 rw [f];simp only [Xe,Ww,decide_eq_true_eq];omega
theorem EF:∀{l:List UInt8} {i:Nat},mE i l=true->(32:UInt8)∉l
 | [],_,_=>by simp
 | c::r,i,h=>by
  rw [mE,Ww] at h;intro hm;rcases WC.1 hm with e | hm
  .rw [<-e] at h;have:=h.1;simp [pJ] at this
  .exact EF h.2 hm
theorem PL{s:ByteArray}(h:lJ s=true):jz s:=by unfold lJ at h;rw [Ww] at h;exact EF h.1
theorem R1{p:ByteArray}{m:Nat}(a:bl p=List.replicate m (95:UInt8))(k b:Nat):jz (NW p k b):=λh=>by
 rcases IK a k b _ h with e | e
 .exact absurd e (by decide)
 .simp at e
theorem IQ{p:ByteArray}{k:Nat}:∀(n b:Nat) (ok:Bool),nU p k b n ok=true->ok=true/\∀c,b<=c->c < b+n->(NW p k c).size<=12
 | 0,b,ok,h=>⟨h,λc a d=>by omega⟩
 | n+1,b,ok,h=>by
  rw [nU] at h;obtain⟨a,d⟩:=IQ n (b+1) _ h;rw [Ww,decide_eq_true_eq] at a;refine⟨a.1,λc f g=> ?_⟩;by_cases e:c=b
  .subst e;have i:(((NW p k c).size:Nat):Int)<=12:=a.2;omega
  .exact d c (by omega) (by omega)
theorem IS{p:ByteArray}:∀(ds:List Dc) (k:Nat) (ok:Bool),iY p k ds ok=true->ok=true/\∀(j:Nat) (d:Dc),ds[j]? =some d->aE d.so=true->∀c,c < (d.so - 10).toNat->(NW p (k+j) c).size<=12
 | [],k,ok,h=>⟨h,λj d a=>by simp at a⟩
 | d::r,k,ok,h=>by
  rw [iY] at h;obtain⟨f,l⟩:=IS r (k+1) _ h;have key:ok=true/\(aE d.so=true->∀c,c < (d.so - 10).toNat->(NW p k c).size<=12):=by
   split at f
   .obtain⟨m,n⟩:=IQ _ _ _ f;exact⟨m,λ_ c g=>n c (by omega) (by omega)⟩
   .rename_i b;exact⟨f,λe=>absurd e b⟩
  refine⟨key.1,λj i a b c g=> ?_⟩;cases j with
  | zero=>simp only [W7,Wj] at a;subst a;exact key.2 b c g
  | succ j=>have:=l j i (by simpa using a) b c g;rw [show k+1+j=k+ (j+1) by omega] at this;exact this
theorem u7{p:ByteArray}{k:Nat}{d:Dc}:∀{n b:Nat} {x:Dc},x∈fZ p k d b n↔∃c,b<=c/\c < b+n/\x= ⟨NW p k c,d.ea,d.ar,1⟩
 | 0,b,x=>by
  rw [fZ];constructor
  .intro h;cases h
  .rintro⟨c,f,g,_⟩;omega
 | n+1,b,x=>by
  rw [fZ,WC,u7];constructor
  .rintro(h | ⟨c,f,g,a⟩)
   .exact⟨b,WH _,by omega,h⟩
   .exact⟨c,by omega,by omega,a⟩
  .rintro⟨c,f,g,a⟩;by_cases e:c=b
   .subst e;exact .inl a
   .exact .inr ⟨c,by omega,by omega,a⟩
theorem pQ{p:ByteArray}:∀{ds:List Dc} {k:Nat} {x:Dc},x∈cE p k ds↔(x∈ds/\aE x.so=false)\/∃(j:Nat) (d:Dc) (c:Nat),ds[j]? =some d/\aE d.so=true/\c < (d.so - 10).toNat/\x= ⟨NW p (k+j) c,d.ea,d.ar,1⟩
 | [],k,x=>by
  rw [cE];constructor
  .intro h;cases h
  .rintro(⟨h,_⟩ | ⟨j,d,c,h,_⟩)
   .cases h
   .simp at h
 | d::r,k,x=>by
  rw [cE,WK,pQ];constructor
  .rintro(h | ⟨a,b⟩ | ⟨j,g,c,a,b,e,f⟩)
   .split at h
    .rename_i i;obtain⟨c,_,b,e⟩:=u7.1 h;exact .inr ⟨0,d,c,rfl,i,by omega,e⟩
    .rename_i i;rw [WA] at h;subst h;exact .inl ⟨Wl,by simpa using i⟩
   .exact .inl ⟨Wn _ a,b⟩
   .exact .inr ⟨j+1,g,c,by simpa using a,b,e,by rw [f,show k+1+j=k+ (j+1) by omega]⟩
  .rintro(⟨a,b⟩ | ⟨j,g,c,a,b,e,f⟩)
   .rcases WC.1 a with rfl | a
    .left;rw [if_neg (by rw [b];decide)];exact WA.2 rfl
    .exact .inr (.inl ⟨a,b⟩)
   .cases j with
    | zero=>simp only [W7,Wj] at a;subst a;left;rw [if_pos b];exact u7.2 ⟨c,by omega,by omega,f⟩
    | succ j=>exact .inr (.inr ⟨j,g,c,by simpa using a,b,e,by rw [f,show k+1+j=k+ (j+1) by omega]⟩)
abbrev kS(ds:List Dc):Prop:=ds.Pairwise λa b=>a.nm≠b.nm
theorem Ew{p:ByteArray}{k:Nat}{d:Dc}:∀(n b:Nat),kS (fZ p k d b n)
 | 0,b=>List.Pairwise.nil
 | n+1,b=>by rw [fZ];refine List.Pairwise.cons (λx f e=> ?_) (Ew n (b+1));obtain⟨c,g,_,a⟩:=u7.1 f;rw [a] at e;have:=IL (show NW p k b=NW p k c from e);omega
theorem EZ{p:ByteArray}{b:List Dc}(f:kN b p=false):∀(ds:List Dc) (k:Nat),(∀d∈ds,d∈b)->kS ds->kS (cE p k ds)
 | [],k,_,_=>List.Pairwise.nil
 | d::r,k,hs,h=>by
  obtain⟨n,o⟩:=List.pairwise_cons.1 h;rw [cE];refine Zg.2 ⟨?_,EZ f r (k+1) (λx a=>hs x (Wn _ a)) o,λx a y g=> ?_⟩
  .split
   .exact Ew _ _
   .exact List.pairwise_singleton _ _
  .have q:=λz (s:z∈r)=>hs z (Wn _ s);split at a
   .obtain⟨c,_,_,rfl⟩:=u7.1 a;rcases pQ.1 g with⟨g1,_⟩ | ⟨j,i,c',g1,l,m,rfl⟩
    .exact λe=>IM f (q y g1) k c e.symm
    .intro e;have:=IL (show NW p k c=NW p (k+1+j) c' from e);omega
   .rw [WA] at a;subst a;rcases pQ.1 g with⟨g1,_⟩ | ⟨j,i,c',g1,l,m,rfl⟩
    .exact n y g1
    .exact IM f (hs x Wl) _ _
theorem Jj:∀{D:List Dc},kS D->∀x∈D,∀y∈D,x.nm=y.nm->x=y
 | [],_,x,c,_,_,_=>by cases c
 | d::r,h,x,c,y,k,e=>by
  obtain⟨i,j⟩:=List.pairwise_cons.1 h;rcases WC.1 c with f | a <;> rcases WC.1 k with g | b
  .rw [f,g]
  .rw [f] at e;exact absurd e (i y b)
  .rw [g] at e;exact absurd e.symm (i x a)
  .exact Jj j x a y b e
theorem BE{nm:ByteArray}:∀{D:List Dc} {i:Nat},(∃x∈D,x.nm=nm)->0<=jK nm i D
 | [],_,⟨x,a,_⟩=>by cases a
 | d::r,i,⟨x,a,e⟩=>by
  rw [jK];split
  .omega
  .rename_i b;rcases WC.1 a with rfl | a
   .exact absurd e b
   .exact BE ⟨x,a,e⟩
theorem GW{D:List Dc}(h:kS D){x:Dc}(b:x∈D):Fn D x.nm x.ar x.so:=by have h0: 0<=bm D x.nm:=BE ⟨x,b,rfl⟩;obtain⟨k,d,f,c,e,a⟩:=yx h0;have:=Jj h d (Wx c) x b e;subst this;exact⟨h0,by rw [a],by rw [a]⟩
theorem AF{ds:List Dc}:∀{r:List Dc} {a:List Dc} {i:Nat},(eN a i r).1=0->kS a->kS (a++r)
 | [],a,_,_,b=>by rw [WQ];exact b
 | x::r,a,i,h,b=>by
  rw [eN] at h;split at h
  .rename_i h0;have d:=(x7 h0).2.2.2.2.2.1;have:=AF (ds:=ds) h (Zg.2 ⟨b,List.pairwise_singleton _ _,λy e z c=>by
    rw [WA] at c;subst c;have:=Xd.1 d y e;simpa using this⟩)
   rw [WV] at this;exact this
  .rename_i h0;exact absurd h h0
theorem MA{a:List Dc}{d:Dc}(f:lJ d.nm=true)(g:∀x∈a,x.nm≠d.nm)(m:d.ar.length<=8)(i:nN d.so=true)(j:∀s∈d.ar,s=4)(k:d.so=5->d.ar= []):gJ a d=0:=by
 unfold gJ;have c:(a.any λx=>decide (x.nm=d.nm))=false:=by rw [Xd];intro x l;simp [g x l]
 have e:(d.ar.any λs=> !(s==4))=false:=by rw [Xd];intro s hs;simp [j s hs]
 rw [f,c,e,i,if_neg (by decide),if_neg (by decide),if_neg (by omega),if_neg];rintro(h | h | ⟨h,b⟩)
 .cases h
 .cases h
 .rw [k h] at b;simp at b
theorem EH:∀{r:List Dc} {a:List Dc} {i:Nat},kS (a++r)->(∀d∈r,lJ d.nm=true/\d.ar.length<=8/\nN d.so=true/\(∀s∈d.ar,s=4)/\(d.so=5->d.ar= []))->eN a i r= (0,0)
 | [],_,_,_,_=>rfl
 | d::r,a,i,h,c=>by obtain⟨g1,e,f,g,j⟩:=c d Wl;obtain⟨_,_,k⟩:=Zg.1 h;rw [eN,if_pos (MA g1 (λx b=>k x b d Wl) e f g j)];exact EH (by rw [WV];exact h) λx b=>c x (Wn _ b)
theorem AM{ds:List Dc}(h:(eN [] 0 ds).1=0)(v:iY (cV ds) 0 ds true=true):qH ds (cE (cV ds) 0 ds) (cV ds)/\eN [] 0 (cE (cV ds) 0 ds)= (0,0)/\∀d∈cE (cV ds) 0 ds,aE d.so=false:=by
 have f:∀d∈ds,d.nm.size<=12/\d.ar.length<=8/\(∀s∈d.ar,s=4)/\lJ d.nm=true/\nN d.so=true/\(d.so=5->d.ar= []):=λd a=>by obtain⟨j,A⟩:=Xv a;obtain⟨F,l,n,p,q,_,r⟩:=x7 (xR h j d A);exact⟨F,l,n,p,q,r⟩
 have y:kS ds:=by simpa using AF (ds:=ds) h List.Pairwise.nil
 have C:=Sk λd a=>(f d a).1;obtain⟨m,hm,w⟩:=Sl ds;have o:=EZ C ds 0 (λd a=>a) y;have D:∀d∈cE (cV ds) 0 ds,aE d.so=false:=λd a=>by
  rcases pQ.1 a with⟨_,g⟩ | ⟨j,G,c,g1,t,u,rfl⟩
  .exact g
  .rfl
 refine⟨⟨λd a i=>GW o (pQ.2 (.inl ⟨a,i⟩)),λk d B i b z=> ?_,λd a=>PL (f d a).2.2.2.1,λk b=>R1 w k b,λd a=>⟨(f d a).2.1,(f d a).2.2.1⟩⟩,EH (by simpa using o) λx E=> ?_,D⟩
 .have:(⟨NW (cV ds) (0+k) b,d.ea,d.ar,1⟩:Dc)∈cE (cV ds) 0 ds:=pQ.2 (.inr ⟨k,d,b,B,i,z,rfl⟩);have:=GW o this;rw [WZ] at this;exact this
 .rcases pQ.1 E with⟨g1,_⟩ | ⟨j,d,c,g1,t,u,rfl⟩
  .obtain⟨_,l,n,p,q,r⟩:=f x g1;exact⟨p,l,q,n,r⟩
  .obtain⟨_,l,n,_,_,_⟩:=f d (Wx g1);refine⟨R0 hm w ((IS ds 0 true v).2 j d g1 t c u),l,rfl,n,λe=>absurd (show(1:Int)=5 from e) (by decide)⟩
open Go Go.Aev
theorem Hj{ss:List Int}:∀{r:List Int} {j:Nat},(∀k∈r,bD ss k 1)->fC ss r j= (0,0)
 | [],_,_=>rfl
 | k::r,j,h=>by have a:=h k Wl;have c:=a.1;have d:=a.lt;rw [fC,if_neg (by omega),if_neg (by rw [a.getD];simp)];exact Hj λx b=>h x (Wn _ b)
theorem Uu{b:As}{τ:List Int}(f:b.ds.length<=30)(a:eN [] 0 b.ds= (0,0))(g:b.ns.length<=200)(c:eT b.ds b.ns 0 []= (τ,0,0))(h:b.hs.length<=200)(d:∀k∈b.hs,bD τ k 1):bg b= (τ,0,0):=by unfold bg;rw [if_neg (by omega),if_neg (by rw [a];simp),if_neg (by omega),c];unfold jV;have e:fC τ b.hs 0= (0,0):=Hj d;rw [if_neg (by simp),if_neg (by omega),if_neg (by rw [e];simp)]
theorem sA{a:As}(h:(bg a).2.1=0):a.ds.length<=30/\(eN [] 0 a.ds).1=0/\a.ns.length<=200/\a.hs.length<=200/\eT a.ds a.ns 0 []= ((bg a).1,0,0):=by
 unfold bg at h⊢;by_cases e: 30 < a.ds.length
 .rw [if_pos e] at h;exact absurd (show(2:Int)=0 from h) (by decide)
 rw [if_neg e] at h⊢;by_cases b:(eN [] 0 a.ds).1≠0
 .rw [if_pos b] at h;exact absurd h b
 rw [if_neg b] at h⊢;by_cases c3: 200 < a.ns.length
 .rw [if_pos c3] at h;exact absurd (show(2:Int)=0 from h) (by decide)
 rw [if_neg c3] at h⊢;unfold jV at h⊢;by_cases c:(eT a.ds a.ns 0 []).2.1≠0
 .rw [if_pos c] at h;exact absurd h c
 rw [if_neg c] at h⊢;by_cases f: 200 < a.hs.length
 .rw [if_pos f] at h;exact absurd (show(2:Int)=0 from h) (by decide)
 rw [if_neg f] at h⊢;by_cases d:(fC (eT a.ds a.ns 0 []).1 a.hs 0).1≠0
 .rw [if_pos d] at h;exact absurd h d
 rw [if_neg d];obtain⟨t,g,j,k⟩:=zJ (ds:=a.ds) (r:=a.ns) (i:=0) (ss:= []) rfl (by simpa using c);refine⟨by omega,by simpa using b,by omega,by omega, ?_⟩;rw [g]
theorem za{a:As}{es:Bool}(h:(bg a).2.1=0):∀(i:Nat) (x:Nd) (s:Int),a.ns[i]? =some x->(bg a).1[i]? =some s->py (lB a es (bg a).1) i x s:=λi x s g hs=>by obtain⟨_,_,_,_,c⟩:=sA h;obtain⟨t,b,j,f⟩:=zJ (ds:=a.ds) (r:=a.ns) (i:=0) (ss:= []) rfl (by rw [c]);rw [c,XB,Xa] at b;obtain⟨d,e⟩:=f i x g;rw [WZ,XB] at d e;rw [b.1] at hs;show bU a.ds x (i:Int) ((bg a).1.take i)= (s,0);rw [b.1];rw [e] at hs;simp only [Wj] at hs;exact Prod.ext hs d
def nF(a:As):List Dc:=cE (cV a.ds) 0 a.ds
def pP(a:As):Cx:=lB a (bg a).1.isEmpty (bg a).1
def iy(a:As):Tr×Mk:=fT (pP a) a.ns (bg a).1 ⟨[],[]⟩ ⟨[],[]⟩
def lW(a:As):List Nd×List Int:=pc (pP a) (iy a)
def qq(a:As):Bool:=iY (cV a.ds) 0 a.ds true && decide ((((nF a).length:Nat):Int)<=30)
def jX(a:As):Bool:=pf a.ds (bg a).1
def mO(a:As):Bool:=jX a && (!qq a || (decide (800 < (iy a).2.N.length) || decide (200 < (lW a).1.length)))
def bF(a:As):As:=
 if jX a then⟨(nF a).isEmpty,nF a,(lW a).1.isEmpty,(lW a).1,(lW a).2.isEmpty,(lW a).2⟩
 else⟨a.ds.isEmpty,a.ds,a.ns.isEmpty,a.ns,a.eh,a.hs⟩
abbrev Sb(b:As):List T:= [T.ad 3 b.ed (aN b.ds),T.ad 5 b.en (ba b.ns),T.ad 1 b.eh (enc b.hs),ti 0,ti 0]
theorem AP{a:As}(h:(bg a).2.1=0):tm a=if mO a then wg else Sb (bF a):=by
 unfold tm;rw [if_pos h];unfold lE mO bF;show(if jX a then mY (pP a) (nF a) (qq a) (iy a) else _)=_;cases f:jX a with
 | false=>rfl
 | true=>
  unfold mY;simp only [if_true,Xe];cases e:qq a with
  | false=>simp
  | true=>
   by_cases d: 800 < (iy a).2.N.length
   .simp [d]
   .by_cases c: 200 < (lW a).1.length
    .have b: 200 < (pc (pP a) (iy a)).1.length:=c;simp [d,c,b]
    .have b:¬200 < (pc (pP a) (iy a)).1.length:=c;simp only [d,c,b,decide_false,Ws,Y7,Bool.true_eq_false,or_self,if_false,WX];rfl
structure Lj (a b:As):Prop where
 wf:pj b
 so:∃τ,bg b= (τ,0,0)/\τ.length=b.ns.length/\∀s∈τ,aE s=false
 op:∀y∈b.ns,y.op < 15\/23 < y.op
 dw:∀d∈b.ds,aE d.so=false
 hl:b.hs.length=a.hs.length
 ed:b.ed=b.ds.isEmpty
 en:b.en=b.ns.isEmpty
theorem IP:Ok ⟨[],[]⟩:=⟨λi x h=>by simp at h,λi x h=>by simp at h,λp h=>(by cases h),λi x h=>by simp at h,λi x h=>by simp at h⟩
theorem Em{a:As}(wf:pj a)(h:(bg a).2.1=0)(hm:mO a=false):Lj a (bF a):=by
 obtain⟨ok,hda⟩:=nC (es:=(bg a).1.isEmpty) h;obtain⟨g1,U,g3,V,g5⟩:=sA h;have J:∀d∈a.ds,d.nm.size<=12:=ok.ds;unfold bF;cases l:jX a with
 | true=>
  rw [if_pos rfl];unfold mO at hm;rw [l,Xe,Xq,Xq] at hm;obtain⟨m1,m2,m3⟩:=hm;have o:qq a=true:=by simpa using m1
  unfold qq at o;rw [Ww,decide_eq_true_eq] at o;have P:(iy a).2.N.length<=800:=by simpa using m2
  have Q:(lW a).1.length<=200:=by simpa using m3
  have hps:(cV a.ds).size<=12:=ze J 11 us (by rw [hU];omega);obtain⟨T,I,K⟩:=AM U o.1;obtain⟨σ,ty,tt,O⟩:=H9 (c:=pP a) ok (D:=nF a) T (by show(cV a.ds).size<=100;omega) (za h) a.ns (bg a).1 0 ⟨[],[]⟩ ⟨[],[]⟩ [] rfl rfl (Xr _) ⟨IP,rfl,rfl,λk s g=>by omega,λk s g=>by omega⟩ (by simp) ⟨rfl,λi x s m=>by simp at m,λp Z=>by cases Z⟩ ⟨λk s g=>by omega,λk s g=>by omega⟩ P;have Y:∀k∈a.hs.map (bp (iy a).1),bD σ k 1:=λk g=>by
   obtain⟨z,hz,rfl⟩:=WU.1 g;obtain⟨z0,H⟩:=ok.ho z hz;have B:z.toNat < a.ns.length:=by have:=(Wm.1 H).1;have r:(lB a (bg a).1.isEmpty (bg a).1).ss.length=a.ns.length:=ok.sl;omega
   obtain⟨_,v,r,_⟩:=O.p z.toNat 1 B H rfl;have X:=tt.p z.toNat 1 B H rfl v r;unfold bp;rw [Wp,show(iy a).1.to[z.toNat]? =some v from r];exact X
  obtain⟨τ,u1,u2,u3,R,u5,u6⟩:=U4 (M:=(iy a).2) ty (λx m f=>by
   obtain⟨i,t⟩:=Xv m;have:=O.ok.ek i x t;rw [f] at this;exact XN.1 this.symm) Y
  refine⟨⟨λd C f=> ?_,λx m=>(R x m).2,λf=>XN.1 f⟩,⟨τ,Uu (by show(nF a).length<=30;omega) I Q u1 (by show((a.hs.map (bp (iy a).1)).map _).length<=200;rw [W6,W6];exact V) u5,u2,u3⟩,λy E=>(R y E).1,K, ?_,rfl,rfl⟩
  .rcases pQ.1 (show d∈cE (cV a.ds) 0 a.ds from C) with⟨F,_⟩ | ⟨j,S,c,F,_,_,rfl⟩
   .exact wf.d d F f
   .exact wf.d S (Wx F) f
  .show((a.hs.map (bp (iy a).1)).map _).length=_;rw [W6,W6]
 | false=>
  rw [if_neg (by decide)];unfold jX pf at l;rw [Xq] at l;have G:∀s∈(bg a).1,aE s=false:=λs hs=>by simpa using Xd.1 l.1 s hs
  have w2:∀d∈a.ds,aE d.so=false:=λd C=>by simpa using Xd.1 l.2 d C
  have hs:bg ⟨a.ds.isEmpty,a.ds,a.ns.isEmpty,a.ns,a.eh,a.hs⟩=bg a:=rfl;refine⟨⟨wf.d,wf.n,wf.h⟩,⟨(bg a).1, ?_,ok.sl,G⟩,λy E=> ?_,w2,rfl,rfl,rfl⟩
  .rw [hs];exact Prod.ext rfl (Prod.ext h (Ki h))
  .obtain⟨i,t⟩:=Xv (show y∈a.ns from E);have w:i < (bg a).1.length:=by
    have r:(bg a).1.length=a.ns.length:=ok.sl;have:=(Wm.1 t).1;omega
   have L:(bg a).1[i]? =some (bg a).1[i]:=Wv w;have u:=ok.nd i y _ t L;have b:=G _ (YD w);rcases YN (y.op < 15\/23 < y.op) with e | e
   .exact e
   exfalso;by_cases fh:y.op=15
   .have:=u.fh fh;have W:aE (bg a).1[i]=true:=by unfold aE;simp;omega
    rw [W] at b;cases b
   by_cases dZ:y.op=16\/y.op=23
   .rw [(u.dZ dZ).1] at b;cases b
   by_cases dP:y.op=22
   .obtain⟨_,p,q,s',A,_,k1,_⟩:=u.dP dP;have:=G s' (Wx k1.so);rw [this] at A;cases A
   rw [(u.gy (by omega) (by omega)).1] at b;cases b
end Go.Aev.Gen
