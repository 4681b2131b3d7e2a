import Derived.Test.YtcffabneepdohaaGreatDoorBlastBackQ14
set_option linter.all false
namespace Go.Aev.Gen
open Go Go.Aev
abbrev eW(need:List Bool)(j:Nat):Bool:=need.getD j false
theorem UU{need:List Bool}{k j:Nat}(h:eW need j=true):eW (need.set k true) j=true:=by
 unfold eW at h⊢;rw [Xa] at h⊢;rw [Yx];by_cases e:k=j
 .subst e;rw [if_pos rfl];by_cases hl:k < need.length
  .rw [if_pos hl];rfl
  .rw [YA (by omega)] at h;cases h
 .rw [if_neg e];exact h
theorem CK:∀(ks:List Int) (need:List Bool) {j:Nat},eW need j=true->eW (eK need ks) j=true
 | [],_,_,h=>h
 | _::r,_,_,h=>CK r _ (UU h)
theorem zm:∀{ks:List Int} {need:List Bool} {k:Int},k∈ks->k.toNat < need.length->eW (eK need ks) k.toNat=true
 | [],_,_,h,_=>by cases h
 | a::r,need,k,h,hl=>by
  rw [eK];rcases Xl.1 h with rfl | h
  .exact CK r _ (by unfold eW;rw [Xa,YG hl];rfl)
  .exact zm h (by rw [YZ];exact hl)
theorem IM:∀{ks:List Int} {need:List Bool} {j:Nat},(∀k∈ks,k.toNat≠j)->eW (eK need ks) j=eW need j
 | [],_,_,_=>rfl
 | k::r,need,j,h=>by rw [eK,IM (ks:=r) λy a=>h y (W8 _ a)];unfold eW;rw [Xa,Xa,Y1 (h k W7)]
abbrev Nt:Nd:=⟨0,true,[],0,0,s0⟩
theorem Qd{N:List Nd}(b:∀(i:Nat) (x:Nd),N[i]? =some x->∀k∈x.ks,0<=k/\k < (i:Int))(i:Nat):∀k∈(N.getD i Nt).ks,0<=k/\k < (i:Int):=by
 rw [Xa];cases h:N[i]? with
 | none=>intro k a;cases a
 | some x=>exact b i x h
theorem ET{N:List Nd}(a:∀(i:Nat) (x:Nd),N[i]? =some x->∀k∈x.ks,0<=k/\k < (i:Int)):∀(i:Nat) (need:List Bool) {j:Nat},i<=j->eW (back N need i) j=eW need j
 | 0,_,_,_=>rfl
 | i+1,need,j,h=>by
  rw [back,ET a i _ (by omega)];split
  .exact IM λk b=>by have:=Qd a i k b;omega
  .rfl
theorem x7{N:List Nd}:∀(i:Nat) (need:List Bool) {j:Nat},eW need j=true->eW (back N need i) j=true
 | 0,_,_,h=>h
 | i+1,need,j,h=>by
  rw [back];apply x7 i;split
  .exact CK _ _ h
  .exact h
theorem AR{N:List Nd}(b:∀(i:Nat) (x:Nd),N[i]? =some x->∀k∈x.ks,0<=k/\k < (i:Int)):∀(i:Nat) (need:List Bool),i<=need.length->∀(j:Nat) (x:Nd),j < i->N[j]? =some x->eW (back N need i) j=true->∀k∈x.ks,eW (back N need i) k.toNat=true
 | 0,_,_,j,_,h,_,_=>by omega
 | i+1,need,hl,j,x,h,d,ho=>by
  intro k a;rw [back] at ho⊢;by_cases e:j=i
  .subst e;rw [ET b j _ (Xr _)] at ho;have f:=b j x d k a;by_cases c:eW need j=true
   .rw [if_pos c] at ho⊢;apply x7;refine zm ?_ (by omega);rw [Xa,d];exact a
   .rw [if_neg c] at ho;exact absurd ho c
  .refine AR b i _ ?_ j x (by omega) d ho k a;split
   .rw [sA];omega
   .omega
structure Kp (D:List Dc) (σ:List Int) (need:List Bool) (n i:Nat) (to:List Int) (out:List Nd) (τ:List Int):Prop where
 tl:to.length=n
 to:∀j,j < i->eW need j=true->bG τ (to.getD j 0) (σ.getD j 0)
 len:τ.length=out.length
 nd:∀(m:Nat) (y:Nd) (s:Int),out[m]? =some y->τ[m]? =some s->bX D y (m:Int) (τ.take m)= (s,0)/\aG s=false/\(y.op < 15\/23 < y.op)/\(y.ek=true->y.ks= [])
theorem Ty.in{D:List Dc}{M:Mk}{b:List Int}(ty:Ty D M b):∀(i:Nat) (x:Nd),M.N[i]? =some x->∀k∈x.ks,0<=k/\k < (i:Int):=λi x a k d=>by
 have c:i < b.length:=by rw [ty.len];exact(W9.1 a).1
 have:=wJ (ty.nd i x _ a (Xd c)).ch k d;rw [XW] at this;omega
theorem Cs{D:List Dc}{M:Mk}{b:List Int}(ty:Ty D M b)(o:∀x∈M.N,x.ek=true->x.ks= []){need:List Bool}(l:∀(j:Nat) (x:Nd),M.N[j]? =some x->eW need j=true->∀k∈x.ks,eW need k.toNat=true):
  ∀(r:List Nd) (i:Nat) (to:List Int) (out:List Nd) (τ:List Int),M.N.drop i=r->i<=M.N.length->Kp D b need M.N.length i to out τ->∃h,Kp D b need M.N.length M.N.length (eO need i r to out).1 (eO need i r to out).2 h/\(eO need i r to out).2.length<=out.length+r.length
 | [],i,to,out,τ,g,I,a=>by
  have:i=M.N.length:=by have:=bu g;omega
  subst this;exact⟨τ,a,by simp [eO]⟩
 | x::r,i,to,out,τ,g,I,a=>by
  obtain⟨t,C,E⟩:=bt g;have w:i < b.length:=by rw [ty.len];exact C
  rw [eO];by_cases u:eW need i=true
  .rw [if_pos u];have gd:=ty.nd i x _ t (Xd w);have p:=ty.in i x t;have e:∀k∈x.ks,(to.set i (out.length:Int)).getD k.toNat 0=to.getD k.toNat 0:=λk c=>by
    have:=p k c;rw [Xa,Xa,Y1 (by omega)]
   have c:∀k∈x.ks,bG τ (to.getD k.toNat 0) (b.getD k.toNat 0):=λk c=>a.to k.toNat (by have:=p k c;omega) (l i x t u k c);have q:bX D ⟨x.op,x.ek,x.ks.map λk=>(to.set i (out.length:Int)).getD k.toNat 0,x.n,x.d,x.nm⟩ (out.length:Int) τ = (b[i],0):=by
    refine CT gd.ch (qG gd.ch).1 rfl ?_ rfl rfl rfl ?_ ?_
    .show(x.ks.map _).map _=_;rw [Yr];apply XI;intro k f;have:=p k f;show τ.getD ((to.set i (out.length:Int)).getD k.toNat 0).toNat 0=_;rw [e k f,(c k f).getD,Xa,Xa,YN (by omega)]
    .intro k f;obtain⟨y,q,rfl⟩:=XB.1 (show k∈x.ks.map _ from f);rw [e y q];exact⟨(c y q).1,by rw [<-a.len];exact(c y q).lt⟩
    .intro _ h0 G;exact⟨h0,rfl,G⟩
   obtain⟨h,A,B⟩:=Cs ty o l r (i+1) (to.set i (out.length:Int)) (out++ [⟨x.op,x.ek,x.ks.map λk=>(to.set i (out.length:Int)).getD k.toNat 0,x.n,x.d,x.nm⟩]) (τ ++ [b[i]]) E (by omega) (by
    refine⟨by rw [YZ];exact a.tl,λj J ho=> ?_,by simp [a.len],λm y s hm hs=> ?_⟩
    .by_cases z:j=i
     .subst z;rw [Xa,YG (by rw [a.tl];exact C),Xa,Xd w];refine⟨ZH _, ?_⟩;show(τ ++ [b[j]])[((out.length:Nat):Int).toNat]? =some b[j];rw [Xv,<-a.len];simp
     .have:=(a.to j (by omega) ho).mono (Zb τ [b[i]]);rw [Xa,Y1 (by omega),<-Xa];exact this
    .rcases Za m out.length with v | K
     .rw [Xk v] at hm;rw [Xk (by rw [a.len];exact v)] at hs;rw [Yu (by rw [a.len];omega)];exact a.nd m y s hm hs
     .have F:=(W9.1 hm).1;rw [XK,Xh] at F;obtain rfl:m=out.length:=by omega
      rw [Xs (Xr _),Yc] at hm;rw [<-a.len,Xs (Xr _),Yc] at hs;simp only [XM,W5] at hm hs;subst hm hs;rw [Yu (by rw [a.len];exact Xr _),<-a.len,Zl,a.len];exact⟨q,gd.so,gd.op,λH=>by
       have:=o x (Xg t) H;show x.ks.map _= [];rw [this];rfl⟩)
   exact⟨h,A,by simp at B⊢;omega⟩
  .rw [if_neg u];obtain⟨h,A,B⟩:=Cs ty o l r (i+1) to out τ E (by omega) ⟨a.tl,λj J ho=>by
    by_cases z:j=i
    .subst z;exact absurd ho u
    .exact a.to j (by omega) ho,a.len,a.nd⟩
   exact⟨h,A,by simp at B⊢;omega⟩
theorem KP{D:List Dc}{N:List Nd}{τ:List Int}(hl:τ.length=N.length)(a:∀(m:Nat) (y:Nd) (s:Int),N[m]? =some y->τ[m]? =some s->bX D y (m:Int) (τ.take m)= (s,0)):∀(r:List Nd) (i:Nat),N.drop i=r->i<=N.length->fc D r i (τ.take i)= (τ,0,0)
 | [],i,g,d=>by
  have:i=N.length:=by have:=bu g;omega
  subst this;rw [fc,<-hl,Zl]
 | x::r,i,g,d=>by
  obtain⟨c,e,b⟩:=bt g;have hs:i < τ.length:=by omega
  have h:=a i x _ c (Xd hs);rw [fc,h,if_pos rfl];show fc D r (i+1) (τ.take i++ [τ[i]])=_;rw [aal hs];exact KP hl a r (i+1) b (by omega)
theorem VO{D:List Dc}{M:Mk}{q:List Int}(ty:Ty D M q)(i:∀x∈M.N,x.ek=true->x.ks= []){hold:List Int}(r:∀k∈hold,bG q k 1):
  ∃τ,fc D (jf M.N hold).1 0 []= (τ,0,0)/\τ.length= (jf M.N hold).1.length/\(∀s∈τ,aG s=false)/\(∀y∈(jf M.N hold).1,(y.op < 15\/23 < y.op)/\(y.ek=true->y.ks= []))/\(∀k∈(jf M.N hold).2,bG τ k 1)/\(jf M.N hold).1.length<=M.N.length:=by
 have hl:(eK (List.replicate M.N.length false) hold).length=M.N.length:=by rw [sA,Ys]
 have l:=ty.in;have g:∀(j:Nat) (x:Nd),M.N[j]? =some x->eW (back M.N (eK (List.replicate M.N.length false) hold) M.N.length) j=true->∀k∈x.ks,eW (back M.N (eK (List.replicate M.N.length false) hold) M.N.length) k.toNat=true:=
  λj x o ho k f=>AR l M.N.length _ (by omega) j x (W9.1 o).1 o ho k f
 obtain⟨τ,a,n⟩:=Cs ty i g M.N 0 (List.replicate M.N.length 0) [] [] rfl (XZ _) ⟨by simp,λj u=>by omega,rfl,λm y s hm=>by simp at hm⟩;refine⟨τ, ?_,a.len,λs hs=> ?_,λy t=> ?_,λk f=> ?_,by have h:=n;rw [Xu,XF] at h;exact h⟩
 .have:=KP (D:=D) a.len (λm y s c b=>(a.nd m y s c b).1) _ 0 rfl (XZ _);exact this
 .obtain⟨m,hm⟩:=X1 hs;have d:m < (jf M.N hold).1.length:=by
   have:=(W9.1 hm).1;have b:=a.len;unfold jf;dsimp only;omega
  exact(a.nd m _ s (Xd d) hm).2.1
 .obtain⟨m,hm⟩:=X1 t;have d:m < τ.length:=by rw [a.len];exact(W9.1 hm).1
  obtain⟨_,_,c,b⟩:=a.nd m y _ hm (Xd d);exact⟨c,b⟩
 .obtain⟨z,p,rfl⟩:=XB.1 (show k∈hold.map _ from f);have c:=r z p;have e:z.toNat < M.N.length:=by rw [<-ty.len];exact(W9.1 c.2).1
  have b:=a.to z.toNat e (x7 _ _ (zm p (by rw [Ys];exact e)));rw [c.getD] at b;exact b
open Go Go.Aev
abbrev NW(p:ByteArray)(k b:Nat):ByteArray:=p++it (k:Int)++us++it (b:Int)
theorem uv(p:ByteArray)(k b:Nat):bl (NW p k b)=bl p++ (Go.Lib.itoa (k:Int)++95::Go.Lib.itoa (b:Int)):=by unfold NW;simp only [rJ,x8];simp [bl]
theorem Jh{p:ByteArray}{k c b b':Nat}(h:NW p k b=NW p c b'):k=c/\b=b':=by have a:=congrArg bl h;rw [uv,uv] at a;obtain⟨d,e⟩:=tF (HZ _) (HZ _) (List.append_cancel_left a);have f:=uf d;have g:=uf e;omega
theorem Ch(k:Nat):Go.Lib.itoa (k:Int)=Go.Lib.decDigits k:=by unfold Go.Lib.itoa;rw [if_neg (by omega)];simp
theorem AX(s:ByteArray):s.size= (bl s).length:=by show s.data.size=s.data.toList.length;simp
theorem PW(p q:ByteArray):(p++q).extract 0 p.size=p:=by
 apply AW;have:bl ((p++q).extract 0 p.size)= (bl (p++q)).take p.size:=by show((p++q).extract 0 p.size).data.toList=_;rw [ByteArray.data_extract,Zu];rfl
 rw [this,rJ,AX p];exact List.take_left
theorem SF(p:ByteArray)(k b:Nat):qT (NW p k b) p=true:=by
 have e:NW p k b=p++ (it (k:Int)++us++it (b:Int)):=by apply AW;rw [uv];simp only [rJ,x8];simp [bl]
 have d:mK (NW p k b) p=true:=by unfold mK;rw [e,PW];simp only [Xy,Xf,decide_eq_true_eq,and_true];omega
 obtain⟨c,r,a⟩:=Nr k;have f:(NW p k b).data.toList[p.size]? =some c:=by show(bl (NW p k b))[p.size]? =some c;rw [uv,Ch,a,AX,Xs (Xr _),Yc];rfl
 have g:=tG k c (by rw [a];exact W7);unfold qT;rw [d,f];simp only [XR,Xf,decide_eq_true_eq];omega
theorem Ji{ds:List Dc}{p:ByteArray}(h:kL ds p=false){d:Dc}(a:d∈ds)(k b:Nat):d.nm≠NW p k b:=λe=>by have:=XJ.1 h d a;rw [e,SF] at this;exact this rfl
theorem JD{ds:List Dc}:∀(k:Nat) (p:ByteArray) (n:Nat),bl p=List.replicate n (95:UInt8)->1<=n->∃m,1<=m/\bl (mi ds k p)=List.replicate m (95:UInt8)
 | 0,p,n,h,a=>⟨n,a,h⟩
 | k+1,p,n,h,a=>by
  rw [mi];split
  .refine JD k (p++us) (n+1) ?_ (by omega);rw [rJ,h,List.replicate_succ']
  .exact⟨n,a,h⟩
theorem S0(ds:List Dc):∃m,1<=m/\bl (cZ ds)=List.replicate m (95:UInt8):=JD 11 us 1 rfl (Xr _)
theorem JC{ds:List Dc}(hs:∀d∈ds,d.nm.size<=12):∀(k:Nat) (p:ByteArray),12<=p.size+k->kL ds (mi ds k p)=false
 | 0,p,h=>by
  rw [mi];cases a:kL ds p with
  | false=>rfl
  | true=>have:=Al hs a;omega
 | k+1,p,h=>by
  rw [mi];split
  .exact JC hs k _ (by rw [Xy,ig];omega)
  .rename_i a;simpa using a
theorem SZ{ds:List Dc}(hs:∀d∈ds,d.nm.size<=12):kL ds (cZ ds)=false:=JC hs 11 us (by rw [ig];omega)
theorem Fa:∀(l:List UInt8) (i:Nat),1<=i->(∀c∈l,c=95\/(48<=c.toNat/\c.toNat<=57))->mE i l=true
 | [],_,_,_=>rfl
 | c::r,i,g,h=>by
  rw [mE,Fa r (i+1) (by omega) λx d=>h x (W8 _ d),Yk];rcases h c W7 with rfl | ⟨e,f⟩
  .simp [p7]
  .have a:(((i:Nat):Int)==0)=false:=by simp;omega
   have b:decide (((c.toNat:Nat):Int) < 48)=false:=by simp;omega
   have e3:decide (((c.toNat:Nat):Int) > 57)=false:=by simp;omega
   unfold p7;rw [a,b,e3];simp
theorem Jg{p:ByteArray}{m:Nat}(d:bl p=List.replicate m (95:UInt8))(k b:Nat):∀c∈bl (NW p k b),c=95\/(48<=c.toNat/\c.toNat<=57):=λc a=>by
 rw [uv,d,Ch,Ch] at a;rcases Xo.1 a with a | a
 .exact .inl (aag a)
 rcases Xo.1 a with a | a
 .exact .inr (tG _ c a)
 rcases Xl.1 a with a | a
 .exact .inl a
 .exact .inr (tG _ c a)
theorem SD{p:ByteArray}{m:Nat}(hm: 1<=m)(c:bl p=List.replicate m (95:UInt8)){k b:Nat}(hs:(NW p k b).size<=12):lG (NW p k b)=true:=by
 obtain⟨m,rfl⟩:∃n,m=n+1:=⟨m - 1,by omega⟩;have a:=Jg c k b;have e:∃r,bl (NW p k b)=95::r:=by rw [uv,c,Yv];exact⟨_,rfl⟩
 obtain⟨r,d⟩:=e;have h: 1<=(NW p k b).size:=by rw [AX,d];simp
 unfold lG;show(mE 0 (bl (NW p k b)) && _)=true;rw [d] at a⊢;rw [mE,Fa r (0+1) (Xr _) λx g=>a x (W8 _ g)];have f:p7 0 95=true:=by decide
 rw [f];simp only [XR,Xf,decide_eq_true_eq];omega
theorem Fb:∀{l:List UInt8} {i:Nat},mE i l=true->(32:UInt8)∉l
 | [],_,_=>by simp
 | c::r,i,h=>by
  rw [mE,Xf] at h;intro hm;rcases Xl.1 hm with e | hm
  .rw [<-e] at h;have:=h.1;simp [p7] at this
  .exact Fb h.2 hm
theorem Qq{s:ByteArray}(h:lG s=true):jB s:=by unfold lG at h;rw [Xf] at h;exact Fb h.1
theorem SE{p:ByteArray}{m:Nat}(a:bl p=List.replicate m (95:UInt8))(k b:Nat):jB (NW p k b):=λh=>by
 rcases Jg a k b _ h with e | e
 .exact absurd e (by decide)
 .simp at e
theorem Jl{p:ByteArray}{k:Nat}:∀(n b:Nat) (ok:Bool),n5 p k b n ok=true->ok=true/\∀c,b<=c->c < b+n->(NW p k c).size<=12
 | 0,b,ok,h=>⟨h,λc a d=>by omega⟩
 | n+1,b,ok,h=>by
  rw [n5] at h;obtain⟨a,d⟩:=Jl n (b+1) _ h;rw [Xf,decide_eq_true_eq] at a;refine⟨a.1,λc f g=> ?_⟩;by_cases e:c=b
  .subst e;have i:(((NW p k c).size:Nat):Int)<=12:=a.2;omega
  .exact d c (by omega) (by omega)
theorem Jm{p:ByteArray}:∀(ds:List Dc) (k:Nat) (ok:Bool),jc p k ds ok=true->ok=true/\∀(j:Nat) (d:Dc),ds[j]? =some d->aG d.so=true->∀c,c < (d.so - 10).toNat->(NW p (k+j) c).size<=12
 | [],k,ok,h=>⟨h,λj d a=>by simp at a⟩
 | d::r,k,ok,h=>by
  rw [jc] at h;obtain⟨f,l⟩:=Jm r (k+1) _ h;have key:ok=true/\(aG d.so=true->∀c,c < (d.so - 10).toNat->(NW p k c).size<=12):=by
   split at f
   .obtain⟨m,n⟩:=Jl _ _ _ f;exact⟨m,λ_ c g=>n c (by omega) (by omega)⟩
   .rename_i b;exact⟨f,λe=>absurd e b⟩
  refine⟨key.1,λj i a b c g=> ?_⟩;cases j with
  | zero=>simp only [XM,W5] at a;subst a;exact key.2 b c g
  | succ j=>have:=l j i (by simpa using a) b c g;rw [show k+1+j=k+ (j+1) by omega] at this;exact this
theorem vC{p:ByteArray}{k:Nat}{d:Dc}:∀{n b:Nat} {x:Dc},x∈fY p k d b n↔∃c,b<=c/\c < b+n/\x= ⟨NW p k c,d.ea,d.ar,1⟩
 | 0,b,x=>by
  rw [fY];constructor
  .intro h;cases h
  .rintro⟨c,f,g,_⟩;omega
 | n+1,b,x=>by
  rw [fY,Xl,vC];constructor
  .rintro(h | ⟨c,f,g,a⟩)
   .exact⟨b,Xr _,by omega,h⟩
   .exact⟨c,by omega,by omega,a⟩
  .rintro⟨c,f,g,a⟩;by_cases e:c=b
   .subst e;exact .inl a
   .exact .inr ⟨c,by omega,by omega,a⟩
theorem qg{p:ByteArray}:∀{ds:List Dc} {k:Nat} {x:Dc},x∈cz p k ds↔(x∈ds/\aG x.so=false)\/∃(j:Nat) (d:Dc) (c:Nat),ds[j]? =some d/\aG d.so=true/\c < (d.so - 10).toNat/\x= ⟨NW p (k+j) c,d.ea,d.ar,1⟩
 | [],k,x=>by
  rw [cz];constructor
  .intro h;cases h
  .rintro(⟨h,_⟩ | ⟨j,d,c,h,_⟩)
   .cases h
   .simp at h
 | d::r,k,x=>by
  rw [cz,Xo,qg];constructor
  .rintro(h | ⟨a,b⟩ | ⟨j,g,c,a,b,e,f⟩)
   .split at h
    .rename_i i;obtain⟨c,_,b,e⟩:=vC.1 h;exact .inr ⟨0,d,c,rfl,i,by omega,e⟩
    .rename_i i;rw [Xi] at h;subst h;exact .inl ⟨W7,by simpa using i⟩
   .exact .inl ⟨W8 _ a,b⟩
   .exact .inr ⟨j+1,g,c,by simpa using a,b,e,by rw [f,show k+1+j=k+ (j+1) by omega]⟩
  .rintro(⟨a,b⟩ | ⟨j,g,c,a,b,e,f⟩)
   .rcases Xl.1 a with rfl | a
    .left;rw [if_neg (by rw [b];decide)];exact Xi.2 rfl
    .exact .inr (.inl ⟨a,b⟩)
   .cases j with
    | zero=>simp only [XM,W5] at a;subst a;left;rw [if_pos b];exact vC.2 ⟨c,by omega,by omega,f⟩
    | succ j=>exact .inr (.inr ⟨j,g,c,by simpa using a,b,e,by rw [f,show k+1+j=k+ (j+1) by omega]⟩)
abbrev lX(ds:List Dc):Prop:=ds.Pairwise λa b=>a.nm≠b.nm
theorem E3{p:ByteArray}{k:Nat}{d:Dc}:∀(n b:Nat),lX (fY p k d b n)
 | 0,b=>List.Pairwise.nil
 | n+1,b=>by rw [fY];refine List.Pairwise.cons (λx f e=> ?_) (E3 n (b+1));obtain⟨c,g,_,a⟩:=vC.1 f;rw [a] at e;have:=Jh (show NW p k b=NW p k c from e);omega
theorem Fv{p:ByteArray}{b:List Dc}(f:kL b p=false):∀(ds:List Dc) (k:Nat),(∀d∈ds,d∈b)->lX ds->lX (cz p k ds)
 | [],k,_,_=>List.Pairwise.nil
 | d::r,k,hs,h=>by
  obtain⟨n,o⟩:=Z7.1 h;rw [cz];refine Zy.2 ⟨?_,Fv f r (k+1) (λx a=>hs x (W8 _ a)) o,λx a y g=> ?_⟩
  .split
   .exact E3 _ _
   .exact ZL _ _
  .have q:=λz (s:z∈r)=>hs z (W8 _ s);split at a
   .obtain⟨c,_,_,rfl⟩:=vC.1 a;rcases qg.1 g with⟨g1,_⟩ | ⟨j,i,c',g1,l,m,rfl⟩
    .exact λe=>Ji f (q y g1) k c e.symm
    .intro e;have:=Jh (show NW p k c=NW p (k+1+j) c' from e);omega
   .rw [Xi] at a;subst a;rcases qg.1 g with⟨g1,_⟩ | ⟨j,i,c',g1,l,m,rfl⟩
    .exact n y g1
    .exact Ji f (hs x W7) _ _
theorem JP:∀{D:List Dc},lX D->∀x∈D,∀y∈D,x.nm=y.nm->x=y
 | [],_,x,c,_,_,_=>by cases c
 | d::r,h,x,c,y,k,e=>by
  obtain⟨i,j⟩:=Z7.1 h;rcases Xl.1 c with f | a <;> rcases Xl.1 k with g | b
  .rw [f,g]
  .rw [f] at e;exact absurd e (i y b)
  .rw [g] at e;exact absurd e.symm (i x a)
  .exact JP j x a y b e
theorem B2{nm:ByteArray}:∀{D:List Dc} {i:Nat},(∃x∈D,x.nm=nm)->0<=jM nm i D
 | [],_,⟨x,a,_⟩=>by cases a
 | d::r,i,⟨x,a,e⟩=>by
  rw [jM];split
  .omega
  .rename_i b;rcases Xl.1 a with rfl | a
   .exact absurd e b
   .exact B2 ⟨x,a,e⟩
theorem Ho{D:List Dc}(h:lX D){x:Dc}(b:x∈D):Fn D x.nm x.ar x.so:=by have h0: 0<=bp D x.nm:=B2 ⟨x,b,rfl⟩;obtain⟨k,d,f,c,e,a⟩:=yQ h0;have:=JP h d (Xg c) x b e;subst this;exact⟨h0,by rw [a],by rw [a]⟩
theorem Bd{ds:List Dc}:∀{r:List Dc} {a:List Dc} {i:Nat},(eS a i r).1=0->lX a->lX (a++r)
 | [],a,_,_,b=>by rw [XA];exact b
 | x::r,a,i,h,b=>by
  rw [eS] at h;split at h
  .rename_i h0;have d:=(yr h0).2.2.2.2.2.1;have:=Bd (ds:=ds) h (Zy.2 ⟨b,ZL _ _,λy e z c=>by
    rw [Xi] at c;subst c;have:=XJ.1 d y e;simpa using this⟩)
   rw [XC] at this;exact this
  .rename_i h0;exact absurd h h0
theorem Ni{a:List Dc}{d:Dc}(f:lG d.nm=true)(g:∀x∈a,x.nm≠d.nm)(m:d.ar.length<=8)(i:nR d.so=true)(j:∀s∈d.ar,s=4)(k:d.so=5->d.ar= []):gL a d=0:=by
 unfold gL;have c:(a.any λx=>decide (x.nm=d.nm))=false:=by rw [XJ];intro x l;simp [g x l]
 have e:(d.ar.any λs=> !(s==4))=false:=by rw [XJ];intro s hs;simp [j s hs]
 rw [f,c,e,i,if_neg (by decide),if_neg (by decide),if_neg (by omega),if_neg];rintro(h | h | ⟨h,b⟩)
 .cases h
 .cases h
 .rw [k h] at b;simp at b
theorem Fc:∀{r:List Dc} {a:List Dc} {i:Nat},lX (a++r)->(∀d∈r,lG d.nm=true/\d.ar.length<=8/\nR d.so=true/\(∀s∈d.ar,s=4)/\(d.so=5->d.ar= []))->eS a i r= (0,0)
 | [],_,_,_,_=>rfl
 | d::r,a,i,h,c=>by obtain⟨g1,e,f,g,j⟩:=c d W7;obtain⟨_,_,k⟩:=Zy.1 h;rw [eS,if_pos (Ni g1 (λx b=>k x b d W7) e f g j)];exact Fc (by rw [XC];exact h) λx b=>c x (W8 _ b)
theorem Bj{ds:List Dc}(h:(eS [] 0 ds).1=0)(v:jc (cZ ds) 0 ds true=true):qZ ds (cz (cZ ds) 0 ds) (cZ ds)/\eS [] 0 (cz (cZ ds) 0 ds)= (0,0)/\∀d∈cz (cZ ds) 0 ds,aG d.so=false:=by
 have f:∀d∈ds,d.nm.size<=12/\d.ar.length<=8/\(∀s∈d.ar,s=4)/\lG d.nm=true/\nR d.so=true/\(d.so=5->d.ar= []):=λd a=>by obtain⟨j,A⟩:=X1 a;obtain⟨F,l,n,p,q,_,r⟩:=yr (ye h j d A);exact⟨F,l,n,p,q,r⟩
 have y:lX ds:=by simpa using Bd (ds:=ds) h List.Pairwise.nil
 have C:=SZ λd a=>(f d a).1;obtain⟨m,hm,w⟩:=S0 ds;have o:=Fv C ds 0 (λd a=>a) y;have D:∀d∈cz (cZ ds) 0 ds,aG d.so=false:=λd a=>by
  rcases qg.1 a with⟨_,g⟩ | ⟨j,G,c,g1,t,u,rfl⟩
  .exact g
  .rfl
 refine⟨⟨λd a i=>Ho o (qg.2 (.inl ⟨a,i⟩)),λk d B i b z=> ?_,λd a=>Qq (f d a).2.2.2.1,λk b=>SE w k b,λd a=>⟨(f d a).2.1,(f d a).2.2.1⟩⟩,Fc (by simpa using o) λx E=> ?_,D⟩
 .have:(⟨NW (cZ ds) (0+k) b,d.ea,d.ar,1⟩:Dc)∈cz (cZ ds) 0 ds:=qg.2 (.inr ⟨k,d,b,B,i,z,rfl⟩);have:=Ho o this;rw [XF] at this;exact this
 .rcases qg.1 E with⟨g1,_⟩ | ⟨j,d,c,g1,t,u,rfl⟩
  .obtain⟨_,l,n,p,q,r⟩:=f x g1;exact⟨p,l,q,n,r⟩
  .obtain⟨_,l,n,_,_,_⟩:=f d (Xg g1);refine⟨SD hm w ((Jm ds 0 true v).2 j d g1 t c u),l,rfl,n,λe=>absurd (show(1:Int)=5 from e) (by decide)⟩
open Go Go.Aev
theorem HL{ss:List Int}:∀{r:List Int} {j:Nat},(∀k∈r,bG ss k 1)->fB ss r j= (0,0)
 | [],_,_=>rfl
 | k::r,j,h=>by have a:=h k W7;have c:=a.1;have d:=a.lt;rw [fB,if_neg (by omega),if_neg (by rw [a.getD];simp)];exact HL λx b=>h x (W8 _ b)
theorem U9{b:As}{τ:List Int}(f:b.ds.length<=30)(a:eS [] 0 b.ds= (0,0))(g:b.ns.length<=200)(c:fc b.ds b.ns 0 []= (τ,0,0))(h:b.hs.length<=200)(d:∀k∈b.hs,bG τ k 1):bm b= (τ,0,0):=by unfold bm;rw [if_neg (by omega),if_neg (by rw [a];simp),if_neg (by omega),c];unfold jX;have e:fB τ b.hs 0= (0,0):=HL d;rw [if_neg (by simp),if_neg (by omega),if_neg (by rw [e];simp)]
theorem qR{a:As}(h:(bm a).2.1=0):a.ds.length<=30/\(eS [] 0 a.ds).1=0/\a.ns.length<=200/\a.hs.length<=200/\fc a.ds a.ns 0 []= ((bm a).1,0,0):=by
 unfold bm at h⊢;by_cases e: 30 < a.ds.length
 .rw [if_pos e] at h;exact absurd (show(2:Int)=0 from h) (by decide)
 rw [if_neg e] at h⊢;by_cases b:(eS [] 0 a.ds).1≠0
 .rw [if_pos b] at h;exact absurd h b
 rw [if_neg b] at h⊢;by_cases c3: 200 < a.ns.length
 .rw [if_pos c3] at h;exact absurd (show(2:Int)=0 from h) (by decide)
 rw [if_neg c3] at h⊢;unfold jX at h⊢;by_cases c:(fc a.ds a.ns 0 []).2.1≠0
 .rw [if_pos c] at h;exact absurd h c
 rw [if_neg c] at h⊢;by_cases f: 200 < a.hs.length
 .rw [if_pos f] at h;exact absurd (show(2:Int)=0 from h) (by decide)
 rw [if_neg f] at h⊢;by_cases d:(fB (fc a.ds a.ns 0 []).1 a.hs 0).1≠0
 .rw [if_pos d] at h;exact absurd h d
 rw [if_neg d];obtain⟨t,g,j,k⟩:=Ah (ds:=a.ds) (r:=a.ns) (i:=0) (ss:= []) rfl (by simpa using c);refine⟨by omega,by simpa using b,by omega,by omega, ?_⟩;rw [g]
theorem zB{a:As}{es:Bool}(h:(bm a).2.1=0):∀(i:Nat) (x:Nd) (s:Int),a.ns[i]? =some x->(bm a).1[i]? =some s->pS (lu a es (bm a).1) i x s:=λi x s g hs=>by obtain⟨_,_,_,_,c⟩:=qR h;obtain⟨t,b,j,f⟩:=Ah (ds:=a.ds) (r:=a.ns) (i:=0) (ss:= []) rfl (by rw [c]);rw [c,Yf,XP] at b;obtain⟨d,e⟩:=f i x g;rw [XF,Yf] at d e;rw [b.1] at hs;show bX a.ds x (i:Int) ((bm a).1.take i)= (s,0);rw [b.1];rw [e] at hs;simp only [W5] at hs;exact Prod.ext hs d
def nJ(a:As):List Dc:=cz (cZ a.ds) 0 a.ds
def qf(a:As):Cx:=lu a (bm a).1.isEmpty (bm a).1
def iA(a:As):Tr×Mk:=fR (qf a) a.ns (bm a).1 ⟨[],[]⟩ ⟨[],[]⟩
def lT(a:As):List Nd×List Int:=pC (qf a) (iA a)
def qJ(a:As):Bool:=jc (cZ a.ds) 0 a.ds true && decide ((((nJ a).length:Nat):Int)<=30)
def lV(a:As):Bool:=pF a.ds (bm a).1
def nZ(a:As):Bool:=lV a && (!qJ a || (decide (800 < (iA a).2.N.length) || decide (200 < (lT a).1.length)))
def bF(a:As):As:=
 if lV a then⟨(nJ a).isEmpty,nJ a,(lT a).1.isEmpty,(lT a).1,(lT a).2.isEmpty,(lT a).2⟩
 else⟨a.ds.isEmpty,a.ds,a.ns.isEmpty,a.ns,a.eh,a.hs⟩
abbrev SN(b:As):List T:= [T.aa 3 b.ed (aT b.ds),T.aa 5 b.en (bd b.ns),T.aa 1 b.eh (enc b.hs),ti 0,ti 0]
theorem Nu{a:As}(h:(bm a).2.1=0):tH a=if nZ a then wI else SN (bF a):=by
 unfold tH;rw [if_pos h];unfold lC nZ bF;show(if lV a then mW (qf a) (nJ a) (qJ a) (iA a) else _)=_;cases f:lV a with
 | false=>rfl
 | true=>
  unfold mW;simp only [if_true,XR];cases e:qJ a with
  | false=>simp
  | true=>
   by_cases d: 800 < (iA a).2.N.length
   .simp [d]
   .by_cases c: 200 < (lT a).1.length
    .have b: 200 < (pC (qf a) (iA a)).1.length:=c;simp [d,c,b]
    .have b:¬200 < (pC (qf a) (iA a)).1.length:=c;simp only [d,c,b,decide_false,Xc,ZR,Bool.true_eq_false,or_self,if_false,XD];rfl
structure LX (a b:As):Prop where
 wf:pJ b
 so:∃τ,bm b= (τ,0,0)/\τ.length=b.ns.length/\∀s∈τ,aG s=false
 op:∀y∈b.ns,y.op < 15\/23 < y.op
 dw:∀d∈b.ds,aG d.so=false
 hl:b.hs.length=a.hs.length
 ed:b.ed=b.ds.isEmpty
 en:b.en=b.ns.isEmpty
theorem Jk:Ok ⟨[],[]⟩:=⟨λi x h=>by simp at h,λi x h=>by simp at h,λp h=>(by cases h),λi x h=>by simp at h,λi x h=>by simp at h⟩
theorem EP{a:As}(wf:pJ a)(h:(bm a).2.1=0)(hm:nZ a=false):LX a (bF a):=by
 obtain⟨ok,hda⟩:=nH (es:=(bm a).1.isEmpty) h;obtain⟨g1,U,g3,V,g5⟩:=qR h;have J:∀d∈a.ds,d.nm.size<=12:=ok.ds;unfold bF;cases l:lV a with
 | true=>
  rw [if_pos rfl];unfold nZ at hm;rw [l,XR,X0,X0] at hm;obtain⟨m1,m2,m3⟩:=hm;have o:qJ a=true:=by simpa using m1
  unfold qJ at o;rw [Xf,decide_eq_true_eq] at o;have P:(iA a).2.N.length<=800:=by simpa using m2
  have Q:(lT a).1.length<=200:=by simpa using m3
  have hps:(cZ a.ds).size<=12:=zF J 11 us (by rw [ig];omega);obtain⟨T,I,K⟩:=Bj U o.1;obtain⟨σ,ty,tt,O⟩:=II (c:=qf a) ok (D:=nJ a) T (by show(cZ a.ds).size<=100;omega) (zB h) a.ns (bm a).1 0 ⟨[],[]⟩ ⟨[],[]⟩ [] rfl rfl (XZ _) ⟨Jk,rfl,rfl,λk s g=>by omega,λk s g=>by omega⟩ (by simp) ⟨rfl,λi x s m=>by simp at m,λp Z=>by cases Z⟩ ⟨λk s g=>by omega,λk s g=>by omega⟩ P;have Y:∀k∈a.hs.map (br (iA a).1),bG σ k 1:=λk g=>by
   obtain⟨z,hz,rfl⟩:=XB.1 g;obtain⟨z0,H⟩:=ok.ho z hz;have B:z.toNat < a.ns.length:=by have:=(W9.1 H).1;have r:(lu a (bm a).1.isEmpty (bm a).1).ss.length=a.ns.length:=ok.sl;omega
   obtain⟨_,v,r,_⟩:=O.p z.toNat 1 B H rfl;have X:=tt.p z.toNat 1 B H rfl v r;unfold br;rw [Xa,show(iA a).1.to[z.toNat]? =some v from r];exact X
  obtain⟨τ,u1,u2,u3,R,u5,u6⟩:=VO (M:=(iA a).2) ty (λx m f=>by
   obtain⟨i,t⟩:=X1 m;have:=O.ok.ek i x t;rw [f] at this;exact Yt.1 this.symm) Y
  refine⟨⟨λd C f=> ?_,λx m=>(R x m).2,λf=>Yt.1 f⟩,⟨τ,U9 (by show(nJ a).length<=30;omega) I Q u1 (by show((a.hs.map (br (iA a).1)).map _).length<=200;rw [XQ,XQ];exact V) u5,u2,u3⟩,λy E=>(R y E).1,K, ?_,rfl,rfl⟩
  .rcases qg.1 (show d∈cz (cZ a.ds) 0 a.ds from C) with⟨F,_⟩ | ⟨j,S,c,F,_,_,rfl⟩
   .exact wf.d d F f
   .exact wf.d S (Xg F) f
  .show((a.hs.map (br (iA a).1)).map _).length=_;rw [XQ,XQ]
 | false=>
  rw [if_neg (by decide)];unfold lV pF at l;rw [X0] at l;have G:∀s∈(bm a).1,aG s=false:=λs hs=>by simpa using XJ.1 l.1 s hs
  have w2:∀d∈a.ds,aG d.so=false:=λd C=>by simpa using XJ.1 l.2 d C
  have hs:bm ⟨a.ds.isEmpty,a.ds,a.ns.isEmpty,a.ns,a.eh,a.hs⟩=bm a:=rfl;refine⟨⟨wf.d,wf.n,wf.h⟩,⟨(bm a).1, ?_,ok.sl,G⟩,λy E=> ?_,w2,rfl,rfl,rfl⟩
  .rw [hs];exact Prod.ext rfl (Prod.ext h (KO h))
  .obtain⟨i,t⟩:=X1 (show y∈a.ns from E);have w:i < (bm a).1.length:=by
    have r:(bm a).1.length=a.ns.length:=ok.sl;have:=(W9.1 t).1;omega
   have L:(bm a).1[i]? =some (bm a).1[i]:=Xd w;have u:=ok.nd i y _ t L;have b:=G _ (Y5 w);rcases Zt (y.op < 15\/23 < y.op) with e | e
   .exact e
   exfalso;by_cases fm:y.op=15
   .have:=u.fm fm;have W:aG (bm a).1[i]=true:=by unfold aG;simp;omega
    rw [W] at b;cases b
   by_cases eA:y.op=16\/y.op=23
   .rw [(u.eA eA).1] at b;cases b
   by_cases dT:y.op=22
   .obtain⟨_,p,q,s',A,_,k1,_⟩:=u.dT dT;have:=G s' (Xg k1.so);rw [this] at A;cases A
   rw [(u.gA (by omega) (by omega)).1] at b;cases b
end Go.Aev.Gen
