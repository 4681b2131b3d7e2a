import Derived.Test.YtgkhhafdkdmlpaaGreatTopMostQ13
set_option linter.all false
namespace Go.Aev.Wd.Lg
open Go Go.Aev Go.Aev.Gen Go.Aev.Wd Go.Aev.Tb Go.IntKind
theorem WF.congr{n m:Nat}{A:Nat->Nat->Rat}{af bas':Nat->Nat}{c c':Nat->Nat->Rat}(h1:∀i,i < m->af i=bas' i)(h2:∀i k,i < m->k < n+m->c i k=c' i k)
  (w:WF n m A af c):WF n m A bas' c' where
 hb:=λi hi=>by rw [<-h1 i hi];exact w.hb i hi
 inj:=λi j hi hj e=>w.inj i j hi hj (by rw [h1 i hi,h1 j hj];exact e)
 z:=λi j hi hj=>by rw [<-h1 j hj,<-h2 i _ hi (w.hb j hj)];exact w.z i j hi hj
 same:=λy=>by
  rw [<-w.same y];unfold yH;constructor
  .intro h i hi;rw [h1 i hi,h i hi];exact de (λk hk=>by rw [h2 i k hi hk])
  .intro h i hi;rw [<-h1 i hi,h i hi];exact de (λk hk=>by rw [h2 i k hi hk])
 nb:=by
  obtain⟨nb,n1,n2,n3,n4,n5⟩:=w.nb;refine⟨nb,n1,n2,λr i hr hi=>by rw [<-h1 i hi];exact n3 r i hr hi,λv hv=> ?_,n5⟩;rcases n4 v hv with h | ⟨i,hi,e⟩
  .exact .inl h
  .exact .inr ⟨i,hi,by rw [<-h1 i hi];exact e⟩
theorem iB{t:TL}{i:Nat}(hi:i < t.af.length):t.af[i]? =some (t.st.af i):=by show _=some (t.af.getD i 0);rw [Rr,Rv hi];rfl
theorem NU{l:List Nat}(h:l.Nodup){i j:Nat}{b:Nat}(hi:l[i]? =some b)(g:l[j]? =some b):i=j:=by
 have h1:i < l.length:=(Rz.1 hi).1;have d:j < l.length:=(Rz.1 g).1;have a:l[i]=b:=(Rz.1 hi).2;have c:l[j]=b:=(Rz.1 g).2;rcases Nat.lt_trichotomy i j with k | heq | e
 .exact absurd (by rw [a,c]) (TN.1 h i j h1 d k)
 .exact heq
 .exact absurd (by rw [a,c]) (TN.1 h j i d h1 e)
theorem tO{l:List Nm}{i:Nat}(h:i < l.length)(x:Nm)(j:Nat):an (l.set i x) j=if j=i then x else an l j:=by
 unfold an;rw [Rr,Rr,SC];by_cases a:j=i
 .subst a;simp [h]
 .have:¬i=j:=λe=>a e.symm;simp [a,this]
theorem JY{l:List (List Nm)}{i:Nat}(h:i < l.length)(x:List Nm)(j:Nat):au (l.set i x) j=if j=i then x else au l j:=by
 unfold au;rw [Rr,Rr,SC];by_cases a:j=i
 .subst a;simp [h]
 .have:¬i=j:=λe=>a e.symm;simp [a,this]
theorem NP{l:List Nm}(g:Nm->Nm){k:Nat}(h:k < l.length):an (l.map g) k=g (an l k):=by unfold an;rw [Rr,Rr,Sb,Rv h];rfl
theorem Hw{x:List Nm}{v b k:Nat}(hv:v < x.length)(hb:b < x.length)(c:k < x.length)(d:b≠v):nv (an (cw x v b) k)=fZ (λj=>nv (an x j)) b v k:=by
 unfold cw fZ;rw [tO (by simp;exact hb),tO (by simp;exact hv),NP _ c];by_cases h1:k=b
 .rw [if_pos h1,if_pos h1];rfl
 .rw [if_neg h1,if_neg h1];by_cases a:k=v
  .rw [if_pos a,if_pos a];rfl
  .rw [if_neg a,if_neg a];rfl
theorem Ic(c:Nm):∀(b a:List Nm),(hI c b a).length=a.length
 | [],_=>by simp [hI]
 | _::_,[]=>by simp [hI]
 | r::b,y::a=>by simp [hI,Ic c b a]
theorem Ib(c:Nm):∀(b a:List Nm) (k:Nat),k < a.length->a.length<=b.length->nv (an (hI c b a) k)=nv (an a k)+nv c * nv (an b k)
 | [],a,k,h,d=>by simp at d;rw [d] at h;simp at h
 | _::_,[],k,h,_=>by simp at h
 | r::b,y::a,0,_,_=>by
  rw [hI];by_cases e:nv r=0
  .rw [if_pos e];show nv y=nv y+nv c * nv r;rw [e];grind
  .rw [if_neg e];rfl
 | r::b,y::a,k+1,h,d=>by rw [hI];exact Ib c b a k (by simpa using h) (by simpa using d)
theorem IF(row:List Nm)(v:Nat)(l:List Nm):(iX row v l).length=l.length:=by
 unfold iX;split
 .rfl
 .rw [Ic,Sf]
theorem IE{row l:List Nm}{v k:Nat}(e:row.length=l.length)(hv:v < l.length)(c:k < l.length)(d:nv (an row v)=0):
  nv (an (iX row v l) k)=jL (λj=>nv (an row j)) v (λj=>nv (an l j)) k:=by
 unfold iX jL;by_cases b:nv (an l v)=0
 .rw [if_pos b];by_cases a:k=v
  .rw [if_pos a,a];exact b
  .rw [if_neg a];show nv (an l k)=nv (an l k)+nv (an l v) * nv (an row k);rw [b];grind
 .rw [if_neg b,Ib _ _ _ _ (by rw [Sf];exact c) (by rw [Sf];omega),tO hv];by_cases a:k=v
  .rw [if_pos a,if_pos a,a,d,rJ];grind
  .rw [if_neg a,if_neg a]
theorem Ie(row:List Nm)(v i:Nat):∀(xs:List (List Nm)) (k j:Nat),j < xs.length->au (fI row v i k xs) j=if k+j=i then au xs j else iX row v (au xs j)
 | [],_,_,h=>by simp at h
 | x::xs,k,0,_=>by rw [fI];rfl
 | x::xs,k,j+1,h=>by rw [fI];have:=Ie row v i xs (k+1) j (by simpa using h);rw [show k+ (j+1)=k+1+j by omega];exact this
theorem Be(v:Nat)(w:Vl):∀(bs:List Nat) (xs:List (List Nm)) (val:List Vl) (u:Nat),(∀b∈bs,b < val.length)->u∉bs->aH (gD v w bs xs val) u=aH val u
 | [],_,_,_,_,_=>by simp [gD]
 | _::_,[],_,_,_,_=>by simp [gD]
 | b::bs,x::xs,val,u,c,d=>by
  rw [gD,Be v w bs xs _ u (λg a=>by rw [Sf];exact c g (Ru _ a)) (λh=>d (Ru _ h)),
   p7 (c b Rs),if_neg (λe=>d (by rw [e];exact Rs))]
theorem Gz(v:Nat)(w:Vl):∀(bs:List Nat) (xs:List (List Nm)) (val:List Vl) (j b:Nat),(∀b∈bs,b < val.length)->bs.Nodup->bs[j]? =some b->bs.length=xs.length->
  aH (gD v w bs xs val) b=jY (aH val b) (fb w (an (au xs j) v))
 | [],_,_,_,_,_,_,h,_=>by simp at h
 | _::_,[],_,_,_,_,_,_,h=>by simp at h
 | c::bs,x::xs,val,0,b,g,k,h,m=>by simp only [SQ,Rp] at h;subst h;have a:=(SB.1 k).1;rw [gD,Be v w bs xs _ c (λi d=>by rw [Sf];exact g i (Ru _ d)) a,p7 (g c Rs),if_pos rfl];rfl
 | c::bs,x::xs,val,j+1,b,g,k,h,m=>by simp only [SR] at h;have a:=SB.1 k;have l:b≠c:=λe=>a.1 (by rw [<-e];exact Rt h);rw [gD,Gz v w bs xs _ j b (λi d=>by rw [Sf];exact g i (Ru _ d)) a.2 h (by simpa using m),p7 (g c Rs),if_neg l];rfl
structure bC (n:Nat) (rows:List R) (t:TL):Prop where
 aX:cH n rows.length t
 ok:(aI n rows).OK t.st
 ln:∀i b,t.af[i]? =some b->bV b t.mp=some i
 tJ:∀v,v∉t.af->bV v t.mp=none
 ky:nT t.mp
theorem Ke{n:Nat}{rows:List R}(ro:fv n rows)(i k:Nat)(hi:i < rows.length):aQ 1000000 ((aI n rows).A i k):=by
 refine aQ.int ?_;by_cases a:k < (aW rows i).of.length
 .have:=ro.of _ (gF hi) ((aW rows i).of.getD k 0) (by
   rw [Rr,Rv a];exact S9 a)
  omega
 .rw [Rr,Sh (by omega)];decide
theorem vO{a:Nat}{D q:Rat}(c:D≠0)(h1:aQ (2 ^ a) D)(g:aQ (2 ^ a) (D * q)):QB a q:=by
 obtain⟨d,b,j⟩:=h1;obtain⟨u,e,k⟩:=g;have i:d≠0:=λh=>c (by rw [b,h];rfl);have:q=Rat.divInt u d:=by rw [U4,<-e,<-b,Sv];have:=Uw _ c;grind
 rw [this];exact QB.divInt i k j
theorem zw{K:Nat}(c: 1<=K):∀{a b:Nat},a<=b->bd K a<=bd K b
 | a,0,h=>by
  obtain rfl:a=0:=by omega
  exact RI _
 | a,b+1,h=>by
  by_cases e:a=b+1
  .subst e;exact RI _
  .have:=zw c (a:=a) (b:=b) (by omega);rw [bd];have h1:bd K b<=K * bd K b:=Nat.le_mul_of_pos_left _ (by omega);have d:K * bd K b<=(b+1) * (K * bd K b):=Nat.le_mul_of_pos_left _ (by omega);omega
theorem JG{n:Nat}(h:n<=12):bd 1000000 n<=2 ^ 270:=R4 (zw (by decide) h) (by decide+kernel)
theorem bC.den{n:Nat}{rows:List R}{t:TL}(ro:fv n rows)(h:bC n rows t):∃D:Rat,D≠0/\aQ (2 ^ 270) D/\
  (∀i v,i < rows.length->v < n+rows.length->aQ (2 ^ 270) (D * nv (an (au t.aj i) v)))/\
  (∀(g G:Nat->Rat),(∀j,j < rows.length->g (t.st.af j)=0)->(∀k,k < n->aQ 1000000 (G k))->
   (∀y,eN n rows.length (aI n rows).A y->sm (n+rows.length) (λk=>g k * y k)=sm n (λk=>G k * y k))->∀v,v < n+rows.length->aQ (2 ^ 270) (D * g v)):=by
 obtain⟨D,h1,d,e,l⟩:=h.ok.wf.den (K:=1000000) (by decide) (λi k hi _=>Ke ro i k hi);have hb:=JG ro.sz.n;exact⟨D,h1,d.mono hb,λi v hi hv=>(e i v hi hv).mono hb,λg G a b c v hv=>(l g G a b c v hv).mono hb⟩
theorem bC.aj{n:Nat}{rows:List R}{t:TL}(ro:fv n rows)(h:bC n rows t):∀x∈t.aj,∀y∈x,QN 270 y:=by
 obtain⟨D,h1,d,g,_⟩:=h.den ro;intro x a y hy;obtain⟨i,hi,e⟩:=SF a;obtain⟨k,l,b⟩:=SF hy;have o:=h.aX.c;have p:=h.aX.r x a;have j:au t.aj i=x:=by unfold au;rw [Rr,Rv hi];exact e
 have m:an x k=y:=by unfold an;rw [Rr,Rv l];exact b
 have:=g i k (by omega) (by omega);rw [j,m] at this;exact vO h1 d this
theorem FG{n:Nat}{rows:List R}(ro:fv n rows)(v:Nat)(hv:v < n+rows.length):aQ 1000000 ((aI n rows).fx v).1/\aQ 1000000 ((aI n rows).fx v).2:=by
 unfold Sy.fx;show aQ 1000000 (if v < n then(0,0) else(aI n rows).up v:Rat×Rat).1/\aQ 1000000 (if v < n then(0,0) else(aI n rows).up v:Rat×Rat).2;by_cases h:v < n
 .rw [if_pos h];exact⟨aQ.zero _,aQ.zero _⟩
 .rw [if_neg h];have:=ro.sz.tv _ (gF (rows:=rows) (i:=v - n) (by omega));refine⟨aQ.int (z:=(aW rows (v - n)).tv) (by omega), ?_⟩;unfold Sy.up;dsimp only;split
  .exact⟨-1,rfl,by decide⟩
  .exact aQ.zero _
set_option exponentiation.threshold 400 in
theorem I6{n:Nat}{rows:List R}{t:TL}(h:bC n rows t){D:Rat}(p:aQ (2 ^ 270) D)
  (q:∀i v,i < rows.length->v < n+rows.length->aQ (2 ^ 270) (D * nv (an (au t.aj i) v))) (sz:Sz n rows) {y:Nat->Rat} (hy:eN n rows.length (aI n rows).A y)
  (l:∀v,v < n+rows.length->(∀i,i < rows.length->t.st.af i≠v)->aQ 1000000 (y v)) {v:Nat} (hv:v < n+rows.length):aQ (2 ^ 300) (D * y v):=by
 have r:=sz.n;have hm:=sz.m;by_cases hb:∃i,i < rows.length/\t.st.af i=v
 .obtain⟨i,hi,e⟩:=hb;have:=(h.ok.wf.same y).2 hy i hi;rw [<-e,this,<-oX];have hs:aQ ((n+rows.length) * (2 ^ 270 * 1000000)) (sm (n+rows.length) (λk=>D * (t.st.c i k * y k))):=by
   refine uy (λk o=> ?_);by_cases g:∃j,j < rows.length/\t.st.af j=k
   .obtain⟨j,d,b⟩:=g;rw [<-b,h.ok.wf.z i j hi d,Se,SG];exact aQ.zero _
   .have a:=(q i k hi o).mul (l k o (λj d b=>g ⟨j,d,b⟩));rw [<-Rat.mul_assoc];exact a
  refine hs.mono ?_;have:(n+rows.length) * (2 ^ 270 * 1000000)<=52 * (2 ^ 270 * 1000000):=Sc _ (by omega);exact R4 this (by decide+kernel)
 .have a:=p.mul (l v hv (λj d b=>hb ⟨j,d,b⟩));exact a.mono (by decide+kernel)
theorem bC.val{n:Nat}{rows:List R}{t:TL}(ro:fv n rows)(h:bC n rows t):∀u,u < n+rows.length->VB 300 (aH t.val u):=by
 obtain⟨D,h1,a,b,_⟩:=h.den ro;intro u c;have hm: 2 ^ 270<=2 ^ 300:=by decide+kernel
 refine⟨vO h1 (a.mono hm) (I6 h a b ro.sz h.ok.hy (λv hv hb=> ?_) c),vO h1 (a.mono hm) (I6 h a b ro.sz h.ok.hz (λv hv hb=> ?_) c)⟩
 .have:=congrArg Prod.fst (h.ok.fix v hv hb);show aQ _ (t.st.val v).1;rw [this];exact(FG ro v hv).1
 .have:=congrArg Prod.snd (h.ok.fix v hv hb);show aQ _ (t.st.val v).2;rw [this];exact(FG ro v hv).2
open Go Go.Aev Go.Aev.Gen Go.Aev.Wd Go.Aev.Tb Go.IntKind
theorem jv{t:TL}{n m:Nat}(h:cH n m t){i:Nat}(hi:i < m):t.st.af i∈t.af:=Rt (iB (by rw [h.b];exact hi))
theorem lp{t:TL}{n m:Nat}(h:cH n m t){b:Nat}(hb:b∈t.af):∃i,i < m/\t.st.af i=b/\t.af[i]? =some b:=by
 obtain⟨i,hi,e⟩:=SF hb;have h1:t.af[i]? =some b:=by rw [Rv hi,e]
 have a:=iB (t:=t) hi;rw [h1] at a;exact⟨i,by rw [<-h.b];exact hi,(R1 a).symm,h1⟩
theorem bC.xC{n:Nat}{rows:List R}{t:TL}(h:bC n rows t){i v:Nat}(hi:i < rows.length)(a:nv (an (au t.aj i) v)≠0):v∉t.af:=by intro hb;obtain⟨j,b,e,_⟩:=lp h.aX hb;exact a (by rw [<-e];exact h.ok.wf.z i j hi b)
theorem Bf{n m:Nat}{t:TL}(h:cH n m t)(v:Nat)(w:Vl){u:Nat}(hv:v < n+m)(a:u∉t.af):aH (dE v w t).val u=if u=v then jY (aH t.val v) w else aH t.val u:=by show aH (gD v w t.af t.aj (t.val.set v _)) u=_;rw [Be v w t.af t.aj _ u (λb hb=>by rw [Sf,h.v];exact h.lt b hb) a,p7 (by rw [h.v];exact hv)]
theorem xA{n m:Nat}{t:TL}(h:cH n m t)(v:Nat)(w:Vl){j b:Nat}(hv:v < n+m)(d:v∉t.af)(a:t.af[j]? =some b):
  aH (dE v w t).val b=jY (aH t.val b) (fb w (an (au t.aj j) v)):=by
 show aH (gD v w t.af t.aj (t.val.set v _)) b=_;rw [Gz v w t.af t.aj _ j b (λb hb=>by rw [Sf,h.v];exact h.lt b hb) h.nd a (by rw [h.b,h.c]),p7 (by rw [h.v];exact hv),
  if_neg (λe=>d (by rw [<-e];exact Rt a))]
theorem Nt{n:Nat}{rows:List R}{t:TL}(h:bC n rows t)(v:Nat)(w:Vl)(hv:v < n+rows.length)(m:v∉t.af):
  eN n rows.length (aI n rows).A (dE v w t).st.y/\eN n rows.length (aI n rows).A (dE v w t).st.z:=by
 have key:∀(g:Vl->Rat) (q:Rat),(∀a,g (jY a w)=g a+q)->(∀a k,g (jY a (fb w k))=g a+q * nv k)->eN n rows.length (aI n rows).A (λu=>g (aH t.val u))->
   eN n rows.length (aI n rows).A (λu=>g (aH (dE v w t).val u)):=by
  intro g q x B r;refine(h.ok.wf.same _).1 (λj o=> ?_);have C:=(h.ok.wf.same _).2 r j o;have hb:=iB (t:=t) (i:=j) (by rw [h.aX.b];exact o);show g (aH (dE v w t).val (t.st.af j))=_;rw [xA h.aX v w hv m hb,B];have p:g (aH t.val (t.st.af j))=sm (n+rows.length) (λk=>t.st.c j k * g (aH t.val k)):=C;rw [p];have e:sm (n+rows.length) (λk=>t.st.c j k * g (aH (dE v w t).val k))=sm (n+rows.length) (λk=>1 * (t.st.c j k * g (aH t.val k))+q * (if k=v then t.st.c j k else 0)):=by
   refine de (λk D=> ?_);by_cases l:k∈t.af
   .obtain⟨i,hi,e,_⟩:=lp h.aX l;have hz:t.st.c j k=0:=by rw [<-e];exact h.ok.wf.z j i o hi
    have d:k≠v:=λs=>m (by rw [<-s];exact l);rw [hz,if_neg d];grind
   .rw [Bf h.aX v w hv l];by_cases d:k=v
    .subst d;rw [if_pos rfl,if_pos rfl,x];grind
    .rw [if_neg d,if_neg d];grind
  show _=sm (n+rows.length) (λk=>t.st.c j k * g (aH (dE v w t).val k));rw [e,kG,nG hv];show _+q * nv (an (au t.aj j) v)=1 * _+q * nv (an (au t.aj j) v);grind
 exact⟨key (λa=>nv a.1) (nv w.1) (λa=>rfl) (λa k=>rfl) h.ok.hy,key (λa=>nv a.2) (nv w.2) (λa=>rfl) (λa k=>rfl) h.ok.hz⟩
theorem Oq{n m:Nat}{t:TL}(h:cH n m t){i v b:Nat}(row:List Nm)(eg:Bool)(hi:i < m)(j:Nat):(eV i v b row eg t).st.af j=fF t.st.af i v j:=by
 show(t.af.set i v).getD j 0=if j=i then v else t.af.getD j 0;rw [Rr,Rr,SC];have hb:=h.b;by_cases a:j=i
 .subst a;simp [hb,hi]
 .have:¬i=j:=λe=>a e.symm;simp [a,this]
theorem Ot{n m:Nat}{t:TL}(h:cH n m t){i v:Nat}(eg:Bool)(hi:i < m)(hv:v < n+m)(e:t.st.af i≠v){j k:Nat}(o:j < m)(g:k < n+m):
  (eV i v (t.st.af i) (cw (au t.aj i) v (t.st.af i)) eg t).st.c j k=oN t.st.c t.st.af i v j k:=by
 have l:=h.row hi;have s:=h.row o;have q:=h.c;have p:=h.lt _ (jv h hi);show nv (an (au ((fI (cw (au t.aj i) v (t.st.af i)) v i 0 t.aj).set i (cw (au t.aj i) v (t.st.af i))) j) k)=_;rw [JY (by rw [BX];omega)];unfold oN;have r:(cw (au t.aj i) v (t.st.af i)).length=n+m:=by unfold cw;simp;exact l
 have d:∀k,k < n+m->nv (an (cw (au t.aj i) v (t.st.af i)) k)=fZ (t.st.c i) (t.st.af i) v k:=λk g=>Hw (by omega) (by omega) (by omega) e;by_cases a:j=i
 .rw [if_pos a,if_pos a];exact d k g
 .rw [if_neg a,if_neg a,Ie _ _ _ _ _ _ (by omega),if_neg (by omega)];rw [IE (by omega) (by omega) (by omega) (by rw [d v hv];exact uc e)];unfold jL;by_cases b:k=v
  .rw [if_pos b,if_pos b]
  .rw [if_neg b,if_neg b];show nv (an (au t.aj j) k)+nv (an (au t.aj j) v) * nv (an (cw (au t.aj i) v (t.st.af i)) k)=_;rw [d k g];rfl
theorem Ou{n m:Nat}{t:TL}(h:cH n m t){i v b:Nat}(row:List Nm)(eg:Bool)(hi:i < m)(hv:v < n+m)(hvb:v∉t.af)(hrow:row.length=n+m):cH n m (eV i v b row eg t) where
 b:=by show(t.af.set i v).length=m;rw [Sf];exact h.b
 c:=by show((fI row v i 0 t.aj).set i row).length=m;rw [Sf,BX];exact h.c
 r:=λx hx=>by
  have hx:x∈(fI row v i 0 t.aj).set i row:=hx;rcases RV hx with hx | hx
  .have gen:∀(xs:List (List Nm)) (k:Nat),(∀x∈xs,x.length=n+m)->∀x∈fI row v i k xs,x.length=n+m:=by
    intro xs;induction xs with
    | nil=>intro k _ x hx;simp [fI] at hx
    | cons y ys ih=>
     intro k hl x hx;rw [fI] at hx;rcases RC.1 hx with hx | hx
     .rw [hx];split
      .exact hl y Rs
      .rw [IF];exact hl y Rs
     .exact ih (k+1) (λx hx=>hl x (Ru _ hx)) x hx
   exact gen t.aj 0 h.r x hx
  .rw [hx];exact hrow
 v:=h.v
 lt:=λb hb=>by
  rcases RV hb with hb | hb
  .exact h.lt b hb
  .rw [hb];exact hv
 nd:=by
  show(t.af.set i v).Nodup;refine TN.2 (λa b ha hb hab=> ?_);rw [List.getElem_set,List.getElem_set];have ha':a < t.af.length:=by simpa using ha
  have hb':b < t.af.length:=by simpa using hb
  split <;> split
  .omega
  .exact λe=>hvb (by rw [e];exact S9 hb')
  .exact λe=>hvb (by rw [<-e];exact S9 ha')
  .exact TN.1 h.nd a b ha' hb' hab
theorem bC.Hu{n:Nat}{rows:List R}{t:TL}(h:bC n rows t){i v:Nat}(w:Vl)(eg:Bool)(hi:i < rows.length)(hv:v < n+rows.length)(s:nv (an (au t.aj i) v)≠0)
  (z:vv (aH (dE v w t).val (t.st.af i))= (aI n rows).fx (t.st.af i)):
  bC n rows (eV i v (t.st.af i) (cw (au t.aj i) v (t.st.af i)) eg (dE v w t))/\
   ∀j,(eV i v (t.st.af i) (cw (au t.aj i) v (t.st.af i)) eg (dE v w t)).st.af j=fF t.st.af i v j:=by
 have l:=h.xC hi s;have A:=jv h.aX hi;have C:t.st.af i≠v:=λe=>l (by rw [<-e];exact A);have p:cH n rows.length (dE v w t):=h.aX.mv v w;have E:=h.aX.row hi;have D:(cw (au t.aj i) v (t.st.af i)).length=n+rows.length:=by unfold cw;simp;exact E
 have F:cH n rows.length (eV i v (t.st.af i) (cw (au t.aj i) v (t.st.af i)) eg (dE v w t)):=Ou p _ _ hi hv l D;have d:∀j,(eV i v (t.st.af i) (cw (au t.aj i) v (t.st.af i)) eg (dE v w t)).st.af j=fF t.st.af i v j:=λj=>Oq p (b:=t.st.af i) (cw (au t.aj i) v (t.st.af i)) eg hi j;obtain⟨G,H⟩:=Nt h v w hv l;refine⟨⟨F,⟨?_,G,H,λu m x=> ?_⟩, ?_, ?_, ?_⟩,d⟩
 .refine WF.congr (λj _=>(d j).symm) (λj k a K=> ?_) (Rg h.ok.wf (i:=i) (v:=v) hi hv s);exact(Ot p eg hi hv C a K).symm
 .have q:u≠v:=λe=>x i hi (by rw [d];unfold fF;rw [if_pos rfl,e]);show vv (aH (dE v w t).val u)=_;by_cases g:u∈t.af
  .obtain⟨j,a,e,_⟩:=lp h.aX g;by_cases r:j=i
   .rw [<-e,r];exact z
   .exact absurd (by rw [d];unfold fF;rw [if_neg r,e]) (x j a)
  .rw [Bf h.aX v w hv g,if_neg q];exact h.ok.fix u m (λj a e=>g (by rw [<-e];exact jv h.aX a))
 .intro j b a;have a:(t.af.set i v)[j]? =some b:=a;show bV b (iR v i (kj (t.st.af i) t.mp))=some j;rw [xz,xy _ _ _ h.ky];rw [SC] at a;by_cases c:i=j
  .rw [if_pos c] at a;have o:i < t.af.length:=by rw [h.aX.b];exact hi
   rw [if_pos o] at a;obtain rfl:=R1 a;rw [if_pos rfl,c]
  .rw [if_neg c] at a;have B:=Rt a;rw [if_neg (λe=>l (by rw [<-e];exact B)),if_neg (λe=>c (NU h.aX.nd (iB (by rw [h.aX.b];exact hi)) (by rw [a,e])))];exact h.ln j b a
 .intro u m;have m:u∉t.af.set i v:=m;show bV u (iR v i (kj (t.st.af i) t.mp))=none;have o:i < t.af.length:=by rw [h.aX.b];exact hi
  have q:u≠v:=λe=>m (by rw [e];exact List.mem_set o _);rw [xz,if_neg q,xy _ _ _ h.ky];split
  .rfl
  .rename_i y;refine h.tJ u (λhm=>m ?_);obtain⟨j,a,e,J⟩:=lp h.aX hm;have c:i≠j:=λI=>y (by rw [<-e,I]);refine Rt (i:=j) ?_;rw [UL c];exact J
 .exact AU _ _ _ (F8 _ _ h.ky)
theorem Ii{w:Int}(c:w=1\/w= -1){q:Rat}(e:q≠0):w * q.num.sign≠0/\(w * q.num.sign > 0↔0 < (w:Rat) * q):=by
 have d:q.num≠0:=λh=>e (VO.1 h);rcases Int.lt_or_gt_of_ne d with h | h
 .have hs:=SO h;have b:q < 0:=by
   refine Rat.not_le.1 λa=> ?_;have:=U1.2 a;omega
  rw [hs];rcases c with rfl | rfl
  .refine⟨by decide,⟨λh=>absurd h (by decide),λh=> ?_⟩⟩;have:((1:Int):Rat)=1:=rfl;rw [this] at h;exact absurd h (by grind)
  .refine⟨by decide,⟨λ_=> ?_,λ_=>by decide⟩⟩;have:((-1:Int):Rat)= -1:=rfl;rw [this];grind
 .have hs:=SV h;have b: 0 < q:=by
   have h1: 0<=q:=U1.1 (by omega);grind
  rw [hs];rcases c with rfl | rfl
  .refine⟨by decide,⟨λ_=> ?_,λ_=>by decide⟩⟩;have:((1:Int):Rat)=1:=rfl;rw [this];grind
  .refine⟨by decide,⟨λh=>absurd h (by decide),λh=> ?_⟩⟩;have:((-1:Int):Rat)= -1:=rfl;rw [this] at h;exact absurd h (by grind)
theorem sV{n:Nat}{rows:List R}(t:TL){w:Int}(e:w=1\/w= -1){q:Rat}(g:q≠0){v:Nat}:
  eP n rows t.val v (w * q.num.sign)=true↔(aI n rows).Can t.st ((w:Rat) * q) v:=by
 obtain⟨h1,d⟩:=Ii e g;have i:(w:Rat) * q≠0:=by
  rcases e with rfl | rfl
  .have:((1:Int):Rat)=1:=rfl;rw [this];grind
  .have:((-1:Int):Rat)= -1:=rfl;rw [this];grind
 rw [zH t v h1];unfold Sy.Can;by_cases b:w * q.num.sign > 0
 .have a:=d.1 b;rw [if_pos b];exact⟨λh=>⟨λ_=>h,λc=>absurd c (by grind)⟩,λh=>h.1 a⟩
 .have a:¬0 < (w:Rat) * q:=λh=>b (d.2 h);rw [if_neg b];exact⟨λh=>⟨λc=>absurd c a,λ_=>h⟩,λh=>h.2 (by grind)⟩
theorem bC.step{n:Nat}{rows:List R}{t:TL}(h:bC n rows t){i v:Nat}(eg:Bool)(hi:i < rows.length)(hv:v < n+rows.length)
  (c:(aI n rows).fq t.st (t.st.af i)) (p:aR n rows t.val (bu n rows t (t.st.af i)) (au t.aj i) 0=some v) (l:∀j,j < rows.length->t.st.af j < t.st.af i->¬(aI n rows).fq t.st (t.st.af j)):
  bC n rows (gm n rows eg (t.st.af i) (bu n rows t (t.st.af i)) i v t)/\(aI n rows).Step t.st (gm n rows eg (t.st.af i) (bu n rows t (t.st.af i)) i v t).st i v:=by
 obtain⟨_,_,e3,e4,e5⟩:=iJ p;rw [Sr] at e3 e4;have s:=h.xC hi e3;have a:¬t.st.af i < n:=TG.2 c.1;have x:=iB (t:=t) (i:=i) (by rw [h.aX.b];exact hi);have g:bu n rows t (t.st.af i)=1\/bu n rows t (t.st.af i)= -1:=by unfold bu;split;exact .inr rfl;exact .inl rfl
 have r:vv (if bu n rows t (t.st.af i) > 0 then gY n rows (t.st.af i) else bJ n rows (t.st.af i))= (aI n rows).fx (t.st.af i):=by
  unfold Sy.fx;show _=if t.st.af i < n then((0:Rat),(0:Rat)) else _;rw [if_neg a];by_cases d:cQ ((aI n rows).up (t.st.af i)) (t.st.val (t.st.af i))
  .have:bu n rows t (t.st.af i)= -1:=by unfold bu;rw [if_pos d]
   rw [this,if_neg (by decide)];exact uH a
  .have:bu n rows t (t.st.af i)=1:=by unfold bu;rw [if_neg d]
   rw [this,if_pos (by decide)];rcases c.2 with k | ⟨k,_⟩
   .exact absurd k d
   .exact tL (lk.2 ⟨a,k⟩)
 have m:vv (aH (dE v (oY n rows (t.st.af i) (bu n rows t (t.st.af i)) i v t) t).val (t.st.af i))= (aI n rows).fx (t.st.af i):=by
  rw [xA h.aX v _ hv s x,<-r];unfold oY;generalize (if bu n rows t (t.st.af i) > 0 then gY n rows (t.st.af i) else bJ n rows (t.st.af i))=to at *
  have B:nv (an (au t.aj i) v) * (nv (an (au t.aj i) v))⁻¹ =1:=Uw _ e3;refine Uz ?_ ?_
  .show nv (aH t.val (t.st.af i)).1+ (nv to.1 - nv (aH t.val (t.st.af i)).1) * (((1:Int):Rat) / nv (an (au t.aj i) v)) * nv (an (au t.aj i) v)=nv to.1;rw [Sv];have:((1:Int):Rat)=1:=rfl;rw [this];grind
  .show nv (aH t.val (t.st.af i)).2+ (nv to.2 - nv (aH t.val (t.st.af i)).2) * (((1:Int):Rat) / nv (an (au t.aj i) v)) * nv (an (au t.aj i) v)=nv to.2;rw [Sv];have:((1:Int):Rat)=1:=rfl;rw [this];grind
 obtain⟨z,A⟩:=h.Hu (i:=i) (v:=v) (oY n rows (t.st.af i) (bu n rows t (t.st.af i)) i v t) eg hi hv e3 m;refine⟨z,⟨hi,hv,c,l,e3, ?_,λu y e=> ?_,funext A⟩⟩
 .rw [yD];exact(sV t g e3).1 e4
 .rw [yD];intro w;have h1:=e5 u (UA _) y (by rw [Sr];exact e);rw [Sr] at h1;have o:=(sV (n:=n) (rows:=rows) t g (q:=nv (an (au t.aj i) u)) (v:=u) e).2 w;rw [h1] at o;cases o
open Go Go.Aev Go.Aev.Gen Go.Aev.Wd Go.Aev.Tb Go.IntKind
def ch(n:Nat)(rows:List R)(eg:Bool):Nat->TL->Option (List Nm)×Bool×TL
 | p,t=>if(ij n rows t.val t.af).1 < 0 then(none,true,t) else
  match p with
  | 0=>(none,false,t)
  | p+1=>match aR n rows t.val (ij n rows t.val t.af).2 (au t.aj ((bV (ij n rows t.val t.af).1.toNat t.mp).getD 0)) 0 with
   | none=>(some (iw n rows.length (ij n rows t.val t.af).2 (ij n rows t.val t.af).1.toNat (au t.aj ((bV (ij n rows t.val t.af).1.toNat t.mp).getD 0))),true,t)
   | some v=>ch n rows eg p (gm n rows eg (ij n rows t.val t.af).1.toNat (ij n rows t.val t.af).2 ((bV (ij n rows t.val t.af).1.toNat t.mp).getD 0) v t)
def fD:Option (List Nm)->T
 | none=>T.aT true
 | some l=>T.ae 4 false (aO l)
theorem lZ{n:Nat}{rows:List R}{t:TL}(h:bC n rows t):
  ((∀j,j < rows.length->¬(aI n rows).fq t.st (t.st.af j))/\ij n rows t.val t.af= (-1,0))\/
  ∃i,i < rows.length/\(aI n rows).fq t.st (t.st.af i)/\(∀j,j < rows.length->t.st.af j < t.st.af i->¬(aI n rows).fq t.st (t.st.af j))/\
   ij n rows t.val t.af= ((t.st.af i:Int),bu n rows t (t.st.af i))/\bV (t.st.af i) t.mp=some i:=by
 rcases Dr (n:=n) (rows:=rows) t t.af with⟨h1,a⟩ | ⟨b,h1,a,d,g⟩
 .exact .inl ⟨λj c=>h1 _ (jv h.aX c),a⟩
 .obtain⟨i,hi,e,k⟩:=lp h.aX h1;subst e;exact .inr ⟨i,hi,a,λj c l hb=>by have:=d _ (jv h.aX c) hb;omega,g,h.ln i _ k⟩
theorem mf{n:Nat}{rows:List R}{t:TL}(eg:Bool)(p:Nat)(h:ij n rows t.val t.af= (-1,0)):ch n rows eg p t= (none,true,t):=by
 cases p with
 | zero=>rw [ch,h,if_pos (by decide)]
 | succ p=>rw [ch,h,if_pos (by decide)]
theorem pJ{n:Nat}{rows:List R}{t:TL}(eg:Bool){b:Nat}{w:Int}(h:ij n rows t.val t.af= ((b:Int),w)):ch n rows eg 0 t= (none,false,t):=by rw [ch,h,if_neg (by show ¬(b:Int) < 0;omega)]
theorem og{n:Nat}{rows:List R}{t:TL}(eg:Bool)(p:Nat){b i:Nat}{w:Int}(h:ij n rows t.val t.af= ((b:Int),w))(a:bV b t.mp=some i):
  ch n rows eg (p+1) t=match aR n rows t.val w (au t.aj i) 0 with
   | none=>(some (iw n rows.length w b (au t.aj i)),true,t)
   | some v=>ch n rows eg p (gm n rows eg b w i v t):=by
 have hb:((b:Nat):Int).toNat=b:=by omega
 rw [ch,h,if_neg (by show ¬(b:Int) < 0;omega)];simp only [hb,a,RQ]
theorem GS{n:Nat}{rows:List R}(t:TL){w:Int}(c:w=1\/w= -1){row:List Nm}(h:aR n rows t.val w row 0=none){v:Nat}(hv:v < n):nv (an row v)=0:=by refine Tu λa=> ?_;have h1:=wO h v (UA _) (by rw [Sr];exact a);rw [Sr] at h1;have b:=(sV (n:=n) (rows:=rows) t c (q:=nv (an row v)) (v:=v) a).2 ⟨λ_=> .inl hv,λ_=> .inl hv⟩;rw [h1] at b;cases b
theorem uJ(n:Nat)(rows:List R)(t:TL)(b:Nat):bu n rows t b=1\/bu n rows t b= -1:=by unfold bu;split;exact .inr rfl;exact .inl rfl
theorem Qp{n:Nat}{rows:List R}(f:Fl)(ro:fv n rows)(o:f.eg=true):∀(p:Nat) (t:TL),p<=100000->bC n rows t->
  Or pn [r0,I (p:Int)] (S2 n rows f t)=some (fD (ch n rows true p t).1::tb (ch n rows true p t).2.1::fL n rows f (ch n rows true p t).2.2):=by
 intro p;induction p using Nat.strongRecOn with
 | _ p B=>
 intro t H h;have a:=ro.sz;have d:=h.val ro;have r:=h.aj ro;have hm:=a.m;have kb:=IZ a f.er f.eb f.ev f.eg t.af t.val t.ax h.aX.v d (by omega) h.aX.lt (by rw [h.aX.b];omega);rcases lZ h with⟨_,hb⟩ | ⟨i,hi,k,s,hb,y⟩
 .rw [hb] at kb;rw [mf true _ hb,ei];have h1:(-1:Int) < 0:=by decide
  refine ao ?_;rw [Ac];simp only [al,↓reduceIte,Int.reduceBEq,Int.reduceEq,GD,kb,h1,cE,cF,fD]
 .rw [hb] at kb;have h1:¬(t.st.af i:Int) < 0:=by omega
  cases p with
  | zero=>rw [pJ true hb,ei];have q:((0:Nat):Int)=0:=rfl;refine ao ?_;rw [Ac];simp only [al,↓reduceIte,Int.reduceBEq,Int.reduceEq,GD,kb,h1,q,cE,cF,fD]
  | succ p=>
   have D:=h.aX.c;have q:¬((p+1:Nat):Int)=0:=by omega
   have z:i64.wrap (((p+1:Nat):Int) - 1)= (p:Int):=by rw [Go.Aev.wr (by omega)];omega
   have x: 0<=(i:Int)/\(i:Int) < (t.aj.length:Int):=by omega
   have w:=kz (aj:=t.aj) (i:=i) (by omega);have u:=ji (aj:=t.aj) (i:=i) (by omega);have l:=tw (t.st.af i) t.mp;rw [y] at l;have A:=iB (t:=t) (i:=i) (by rw [h.aX.b];exact hi);have g:=uJ n rows t (t.st.af i);have E:bu n rows t (t.st.af i)≠0:=by rcases g with e | e <;> rw [e] <;> decide
   rw [og true p hb y];have:=Qr (n:=n) (rows:=rows) f t a h.aX hi A k.1 g o d r (λv hv=>h.xC hi hv) (by omega) (by omega) (by omega) (p:Int)
    (λj v hv=>GS t g j hv)
    (res:=fD (match aR n rows t.val (bu n rows t (t.st.af i)) (au t.aj i) 0 with
     | none=>(some (iw n rows.length (bu n rows t (t.st.af i)) (t.st.af i) (au t.aj i)),true,t)
     | some v=>ch n rows true p (gm n rows true (t.st.af i) (bu n rows t (t.st.af i)) i v t)).1::
     tb (match aR n rows t.val (bu n rows t (t.st.af i)) (au t.aj i) 0 with
     | none=>(some (iw n rows.length (bu n rows t (t.st.af i)) (t.st.af i) (au t.aj i)),true,t)
     | some v=>ch n rows true p (gm n rows true (t.st.af i) (bu n rows t (t.st.af i)) i v t)).2.1::
     fL n rows f (match aR n rows t.val (bu n rows t (t.st.af i)) (au t.aj i) 0 with
     | none=>(some (iw n rows.length (bu n rows t (t.st.af i)) (t.st.af i) (au t.aj i)),true,t)
     | some v=>ch n rows true p (gm n rows true (t.st.af i) (bu n rows t (t.st.af i)) i v t)).2.2)
    (by
     cases j:aR n rows t.val (bu n rows t (t.st.af i)) (au t.aj i) 0 with
     | none=>rfl
     | some v=>
      obtain⟨F,G,_⟩:=iJ j;obtain⟨C,_⟩:=h.step true hi (v:=v) (by have:=h.aX.row hi;omega) k j s;rw [o];exact B p (Tn p) _ (by omega) C)
    (au t.aj i) 0 rfl rfl
   refine ao ?_;rw [Ac];simp only [al,↓reduceIte,Int.reduceBEq,Int.reduceEq,GD,kb,h1,q,z,l,Ts,RQ,x,and_self,cU,w,u,bA];exact this
theorem Qo{n:Nat}{rows:List R}(f:Fl)(ro:fv n rows)(a:f.eg=true):∀(p:Nat) (t:TL),p<=100000->bC n rows t->
  Or pn [r0,I (p:Int)] (S1 n rows f t)=some (fD (ch n rows true p t).1::tb (ch n rows true p t).2.1::fL n rows f (ch n rows true p t).2.2):=by
 intro p
 skip
 intro t G h;have d:=ro.sz;have g:=h.val ro;have r:=h.aj ro;have hm:=d.m;have kb:=IZ d f.er f.eb f.ev f.eg t.af t.val t.ax h.aX.v g (by omega) h.aX.lt (by rw [h.aX.b];omega);rcases lZ h with⟨_,hb⟩ | ⟨i,hi,l,s,hb,y⟩
 .rw [hb] at kb;rw [mf true _ hb,ei];have h1:(-1:Int) < 0:=by decide
  refine ao ?_;rw [Ab];simp only [al,↓reduceIte,Int.reduceBEq,Int.reduceEq,GD,kb,h1,cE,cF,fD]
 .rw [hb] at kb;have h1:¬(t.st.af i:Int) < 0:=by omega
  cases p with
  | zero=>rw [pJ true hb,ei];have q:((0:Nat):Int)=0:=rfl;refine ao ?_;rw [Ab];simp only [al,↓reduceIte,Int.reduceBEq,Int.reduceEq,GD,kb,h1,q,cE,cF,fD]
  | succ p=>
   have C:=h.aX.c;have q:¬((p+1:Nat):Int)=0:=by omega
   have z:i64.wrap (((p+1:Nat):Int) - 1)= (p:Int):=by rw [Go.Aev.wr (by omega)];omega
   have x: 0<=(i:Int)/\(i:Int) < (t.aj.length:Int):=by omega
   have w:=kz (aj:=t.aj) (i:=i) (by omega);have u:=ji (aj:=t.aj) (i:=i) (by omega);have o:=tw (t.st.af i) t.mp;rw [y] at o;have A:=iB (t:=t) (i:=i) (by rw [h.aX.b];exact hi);have j:=uJ n rows t (t.st.af i);have D:bu n rows t (t.st.af i)≠0:=by rcases j with e | e <;> rw [e] <;> decide
   rw [og true p hb y];have:=Qq (n:=n) (rows:=rows) f t d h.aX hi A l.1 j a g r (λv hv=>h.xC hi hv) (by omega) (by omega) (by omega) (p:Int)
    (λk v hv=>GS t j k hv)
    (res:=fD (match aR n rows t.val (bu n rows t (t.st.af i)) (au t.aj i) 0 with
     | none=>(some (iw n rows.length (bu n rows t (t.st.af i)) (t.st.af i) (au t.aj i)),true,t)
     | some v=>ch n rows true p (gm n rows true (t.st.af i) (bu n rows t (t.st.af i)) i v t)).1::
     tb (match aR n rows t.val (bu n rows t (t.st.af i)) (au t.aj i) 0 with
     | none=>(some (iw n rows.length (bu n rows t (t.st.af i)) (t.st.af i) (au t.aj i)),true,t)
     | some v=>ch n rows true p (gm n rows true (t.st.af i) (bu n rows t (t.st.af i)) i v t)).2.1::
     fL n rows f (match aR n rows t.val (bu n rows t (t.st.af i)) (au t.aj i) 0 with
     | none=>(some (iw n rows.length (bu n rows t (t.st.af i)) (t.st.af i) (au t.aj i)),true,t)
     | some v=>ch n rows true p (gm n rows true (t.st.af i) (bu n rows t (t.st.af i)) i v t)).2.2)
    (by
     cases k:aR n rows t.val (bu n rows t (t.st.af i)) (au t.aj i) 0 with
     | none=>rfl
     | some v=>
      obtain⟨E,F,_⟩:=iJ k;obtain⟨B,_⟩:=h.step true hi (v:=v) (by have:=h.aX.row hi;omega) l k s;rw [a];exact Qp f ro a p _ (by omega) B)
    (au t.aj i) 0 rfl rfl
   refine ao ?_;rw [Ab];simp only [al,↓reduceIte,Int.reduceBEq,Int.reduceEq,GD,kb,h1,q,z,o,Ts,RQ,x,and_self,cU,w,u,bA];exact this
theorem Qn{n:Nat}{rows:List R}(f:Fl)(ro:fv n rows)(a:f.eg=true)(p:Nat)(t:TL)(b:p<=100000)(h:bC n rows t):
  Or (.call 13) [r0,I (p:Int)] (S1 n rows f t)=some (fD (ch n rows true p t).1::tb (ch n rows true p t).2.1::fL n rows f (ch n rows true p t).2.2):=by
 have:=Qo (n:=n) (rows:=rows) f ro a p t b h;refine ao ?_;rw [Lz];exact this
open Go Go.Aev Go.Aev.Gen Go.Aev.Wd Go.Aev.Tb Go.IntKind
def fY(n m:Nat)(r:R):List Nm:=r.of.map iN++List.replicate (n+m - r.of.length) none
def ik(n k:Nat):List Nat:=(List.range k).map λi=>n+i
def hF(n k:Nat):Ln:=(List.range k).map λi=>(n+i,i)
def dQ(n:Nat)(rows:List R):TL:=⟨ik n rows.length,hF n rows.length,rows.map (fY n rows.length),List.replicate (n+rows.length) (none,none),[]⟩
def oE(er:Bool)(rows:List R):Fl:=⟨er,decide (rows.length=0),decide (rows.length=0),false,true⟩
theorem JT(n k:Nat):ik n (k+1)=ik n k++ [n+k]:=by simp [ik,Vj]
theorem A5(n v:Nat):∀(k:Nat),bV v (hF n k)=if n<=v/\v < n+k then some (v - n) else none:=by
 have app:∀(l:Ln) (p:Nat×Nat),bV v (l++ [p])=match bV v l with | some i=>some i | none=>if v=p.1 then some p.2 else none:=by
  intro l p;induction l with
  | nil=>rfl
  | cons q l a=>
   simp only [Rx,bV];by_cases h:v=q.1
   .simp [h]
   .simp only [if_neg h];exact a
 intro k;induction k with
 | zero=>simp [hF,bV]
 | succ k a=>
  have:hF n (k+1)=hF n k++ [(n+k,k)]:=by simp [hF,Vj]
  rw [this,app,a];by_cases h1:n<=v/\v < n+k
  .rw [if_pos h1];show some (v - n)=_;rw [if_pos (by omega)]
  .rw [if_neg h1];by_cases b:v=n+k
   .simp only [b,if_true];rw [if_pos (by omega)];congr 1;omega
   .simp only [if_neg b];rw [if_neg (by omega)]
theorem HH(n k:Nat):iR (n+k) k (hF n k)=hF n (k+1):=by
 have app:∀(l:Ln) (v i:Nat),bV v l=none->iR v i l=l++ [(v,i)]:=by
  intro l v i;induction l with
  | nil=>intro _;rfl
  | cons q l b=>
   intro h;rw [bV] at h;by_cases a:v=q.1
   .rw [if_pos a] at h;cases h
   .rw [if_neg a] at h;rw [iR,if_neg a,b h];rfl
 rw [app _ _ _ (by rw [A5];rw [if_neg (by omega)])];simp [hF,Vj]
theorem Gn:∀(l:List (List Nm)) (s:Nat) (x:List Nm),bB s l++ [⟨s+l.length,[T.aD],some (false,aO x)⟩]=bB s (l++ [x])
 | [],s,x=>rfl
 | y::l,s,x=>by have:=Gn l (s+1) x;simp only [bB,Rx,RP];rw [show s+ (l.length+1)=s+1+l.length by omega,this]
theorem Nq(l:List (List Nm))(x:List Nm):bB 0 l++ [⟨l.length,[T.aD],some (false,aO x)⟩]=bB 0 (l++ [x]):=by have:=Gn l 0 x;rwa [RY] at this
theorem Li(l:List Nat)(x:Nat):cP l++ [[ti (x:Int)]]=cP (l++ [x]):=by simp [cP]
theorem Lm(n:Nat):List.replicate n [tb false,T.str (ByteArray.mk #[]),tb false,T.str (ByteArray.mk #[]),tb false,T.str (ByteArray.mk #[]),tb false,T.str (ByteArray.mk #[])]=dB (List.replicate n (none,none)):=by unfold dB;rw [List.map_replicate];rfl
def y8(n:Nat)(rows:List R)(f:Fl)(t:TL):List T:=
 [ti (n:Int),T.ae 3 f.er (bX rows),T.ae 1 f.eb (cP t.af),bK (bS t.mp),bH f.ec (bB 0 t.aj),T.ae 8 f.ev (dB t.val),T.ae 4 f.eg (aO t.ax)]
theorem Hl(n:Nat)(rows:List R)(f:Fl)(t:TL):y8 n rows f t= [ti (n:Int),T.ae 3 f.er (bX rows),T.ae 1 f.eb (cP t.af),bK (bS t.mp),bH f.ec (bB 0 t.aj),T.ae 8 f.ev (dB t.val),T.ae 4 f.eg (aO t.ax)]:=rfl
section
variable {n:Nat} {rows:List R} (er:Bool)
theorem Ql(ro:fv n rows)(k:Nat)(w:k < rows.length)(eb ec:Bool)(val:List Vl){res:List T}
  (r:Or sG [LR er rows,I (n:Int),r0,r0,r0,LR er rows,I (rows.length:Int),I ((k+1:Nat):Int)]
   (S1 n rows ⟨er,false,false,false,true⟩ ⟨ik n (k+1),hF n (k+1),(rows.take (k+1)).map (fY n rows.length),val,[]⟩)=some res):
  ∀(xs:List Int) (j:Nat),(aW rows k).of.drop j=xs->j<=(aW rows k).of.length->
  Or vE [LR er rows,I (n:Int),r0,r0,r0,I (k:Int),AV.own (Id.c 1),LR er rows,I (rows.length:Int),I (k:Int),ae (aW rows k).e (aW rows k).of,I ((aW rows k).of.length:Int),I (j:Int)]
   [ab.box [I (n:Int),LR er rows,AV.own (Id.c 2),AV.own (Id.c 3),AV.own (Id.c 4),AV.own (Id.c 5),AV.own (Id.c 6)],
    ab.sl false 4 false (aO (((aW rows k).of.take j).map iN++List.replicate (n+rows.length - j) none)),ab.sl false 1 eb (cP (ik n k)),ab.mp false [Ck.i .i64] (Ck.i .i64) (bS (hF n k)),
    ab.rows ec 1 0 4 ((rows.take k).map (fY n rows.length)).length (bB 0 ((rows.take k).map (fY n rows.length))),ab.sl false 8 false (dB val),ab.sl false 4 true (aO [])]=some res:=by
 have M:=ro.sz.n;have hm:=ro.sz.m;have b:=gF w;have J:=ro.len _ b;intro xs;induction xs with
 | nil=>
  intro j h q;have s:=bP h;have h1:¬(j:Int) < ((aW rows k).of.length:Int):=by omega
  have A:(aW rows k).of.take j= (aW rows k).of:=SM s;have E:i64.wrap ((n:Int)+ (k:Int))= ((n+k:Nat):Int):=by rw [Go.Aev.wr (by omega)];omega
  have g:=lK (bs:=24) (n:=((rows.take (k+1)).map (fY n rows.length)).length) (by simp;omega);have H:bY 8 ((cP (ik n k)).length+ [[ti ((n+k:Nat):Int)]].length)=some ():=lK (by simp [cP,ik];omega);have d:(rows.take k).map (fY n rows.length)++ [fY n rows.length (aW rows k)]= (rows.take (k+1)).map (fY n rows.length):=by rw [Ue,oT w,TC];rfl
  have C:(aW rows k).of.map iN++List.replicate (n+rows.length - j) none=fY n rows.length (aW rows k):=by unfold fY;rw [show j= (aW rows k).of.length by omega]
  have hb:cP (ik n k)++ [[ti ((n+k:Nat):Int)]]=cP (ik n (k+1)):=by rw [JT,Li]
  have D:gE [ti ((n+k:Nat):Int)] (ti (k:Int)) (bS (hF n k))=bS (hF n (k+1)):=by rw [xQ,HH]
  rw [A,C];have o:=Nq ((rows.take k).map (fY n rows.length)) (fY n rows.length (aW rows k));rw [d] at o;have x:((rows.take k).map (fY n rows.length)).length+1= ((rows.take (k+1)).map (fY n rows.length)).length:=by rw [<-d];simp
  refine ao ?_;rw [E3];simp only [al,↓reduceIte,Int.reduceBEq,Int.reduceEq,GD,h1,dC,cU,g,E,H,hb,D,o,x,next k (by omega)];exact r
 | cons c xs F=>
  intro j h q;obtain⟨p,K,B⟩:=bG h;have h1:(j:Int) < ((aW rows k).of.length:Int):=by omega
  have u: 0<=(j:Int):=by omega
  have L:=ro.of _ b c (Rt p);have G:=fE c (by omega);have a:(((aW rows k).of.take j).map iN).length=j:=by simp;omega
  have y:List.replicate (n+rows.length - j) (none:Nm)=none::List.replicate (n+rows.length - (j+1)) none:=by rw [show n+rows.length - j= (n+rows.length - (j+1))+1 by omega,Sj]
  have v:(j:Int) < ((((aW rows k).of.take j).map iN++none::List.replicate (n+rows.length - (j+1)) none).length:Int):=by rw [Sw,a];simp;omega
  have g:=jA (l:=((aW rows k).of.take j).map iN++none::List.replicate (n+rows.length - (j+1)) none) (i:=j) (by omega) (iN c);rw [pZ _ _ _ _ _ a] at g;have z:((aW rows k).of.take j).map iN++iN c::List.replicate (n+rows.length - (j+1)) none= ((aW rows k).of.take (j+1)).map iN++List.replicate (n+rows.length - (j+1)) none:=by rw [Ue,p,TC];simp
  rw [z] at g;have:=F (j+1) B (by omega);rw [y];refine ao ?_;rw [E3];simp only [al,↓reduceIte,Int.reduceBEq,Int.reduceEq,GD,h1,u,v,and_self,dC,jB p,G,bA,g,next j (by omega)];exact this
theorem Qm(ro:fv n rows):∀(d k:Nat),d+k=rows.length->
  Or sG [LR er rows,I (n:Int),r0,r0,r0,LR er rows,I (rows.length:Int),I (k:Int)]
   (S1 n rows ⟨er,decide (k=0),decide (k=0),false,true⟩ ⟨ik n k,hF n k,(rows.take k).map (fY n rows.length),List.replicate (n+rows.length) (none,none),[]⟩)=some (y8 n rows (oE er rows) (dQ n rows)):=by
 have q:=ro.sz.n;have hm:=ro.sz.m;intro d;induction d with
 | zero=>
  intro k j;obtain rfl:k=rows.length:=by omega
  have h1:¬(rows.length:Int) < (rows.length:Int):=by omega
  have h:rows.take rows.length=rows:=SM (RI _);rw [h,Hl];refine ao ?_;rw [E0];simp only [al,↓reduceIte,Int.reduceBEq,Int.reduceEq,GD,h1,cE,cF];rfl
 | succ d p=>
  intro k j;have b:k < rows.length:=by omega
  have h1:(k:Int) < (rows.length:Int):=by omega
  have c: 0<=(k:Int):=by omega
  have l:=gy (oT b);have o:i64.wrap ((n:Int)+ (rows.length:Int))= ((n+rows.length:Nat):Int):=by rw [Go.Aev.wr (by omega)];omega
  have g:=pP (k:=n+rows.length) (by omega);have i:((n+rows.length:Nat):Int).toNat=n+rows.length:=by omega
  have e:decide (k+1=0)=false:=by simp
  have a:=p (k+1) (by omega);rw [e] at a;have:=Ql er ro k b (decide (k=0)) (decide (k=0)) _ a (aW rows k).of 0 rfl (UA _);simp only [TZ,SX,Ry,Sr] at this;refine ao ?_;rw [E0];simp only [al,↓reduceIte,Int.reduceBEq,Int.reduceEq,GD,h1,c,and_self,cu,l,o,g,i,qX,dC];exact this
theorem Qk(ro:fv n rows):Or (.call 12) [LR er rows,I (n:Int)] []=some (y8 n rows (oE er rows) (dQ n rows)):=by
 have d:=ro.sz.n;have hm:=ro.sz.m;have c:i64.wrap ((n:Int)+ (rows.length:Int))= ((n+rows.length:Nat):Int):=by rw [Go.Aev.wr (by omega)];omega
 have a:=pP (k:=n+rows.length) (by omega);have b:((n+rows.length:Nat):Int).toNat=n+rows.length:=by omega
 have:=Qm er ro rows.length 0 rfl;refine ao ?_;rw [Ly];simp only [al,↓reduceIte,Int.reduceBEq,Int.reduceEq,GD,cu,c,a,b,Lm];exact this
end
open Go Go.Aev Go.Aev.Gen Go.Aev.Wd Go.Aev.Tb Go.IntKind
abbrev LF:=Int×Vl×Bool
def kT(n:Nat)(rows:List R)(x:Nat)(a:Nm):Vl:=if nv a < 0 then gY n rows x else bJ n rows x
def iC(n:Nat)(rows:List R)(x:Nat)(a:Nm):Bool:=if nv a < 0 then eT n rows x else !decide (x < n)
def fg(n:Nat)(rows:List R)(t:TL)(x:Nat)(a:Nm):Vl:=fb (nH (kT n rows x a) (aH t.val x)) (ov (iN 1) a)
def eG(n:Nat)(rows:List R)(t:TL)(x:Nat)(a:Nm)(i:Int)(s:LF):Prop:=
 (if s.2.2=true then dY s.2.1 (fg n rows t x a) else 1) > 0\/((if s.2.2=true then dY s.2.1 (fg n rows t x a) else 1)=0/\i>=0/\(s.1 < 0\/(x:Int) < (t.af.getD s.1.toNat 0:Nat)))
instance (n:Nat) (rows:List R) (t:TL) (x:Nat) (a:Nm) (i:Int) (s:LF):Decidable (eG n rows t x a i s):=by unfold eG;infer_instance
def dh(n:Nat)(rows:List R)(t:TL)(x:Nat)(a:Nm)(i:Int)(s:LF):LF:=
 if nv a=0\/iC n rows x a=false then s else if eG n rows t x a i s then(i,fg n rows t x a,true) else s
abbrev S5(n:Nat)(rows:List R)(f:Fl)(t:TL)(s:LF):List ab:=
 [ab.box [AV.ref (Id.c 4) 0],ab.box [B s.2.2],vY s.2.1,ab.box [I s.1],
  ab.box [I (n:Int),AV.t (T.ae 3 f.er (bX rows)),AV.own (Id.c 5),AV.own (Id.c 6),AV.own (Id.c 7),AV.own (Id.c 8),AV.own (Id.c 9)],ab.sl false 1 f.eb (cP t.af),ab.mp false [Ck.i .i64] (Ck.i .i64) (bS t.mp),
   ab.rows f.ec 1 0 4 t.aj.length (bB 0 t.aj),ab.sl false 8 f.ev (dB t.val),ab.sl false 4 f.eg (aO t.ax)]
theorem Dl{n:Nat}{rows:List R}(sz:Sz n rows){x:Nat}(b:x < n+rows.length)(a:Nm):VB 20 (kT n rows x a):=by
 unfold kT;split
 .exact tK sz b
 .exact p6 sz b
theorem rH(q:Rat):q.num.sign < 0↔q < 0:=by
 constructor
 .intro h;refine Rat.not_le.1 λb=> ?_;have h1:=U1.2 b;rcases Int.lt_or_eq_of_le h1 with a | a
  .rw [SV a] at h;exact absurd h (by decide)
  .rw [<-a] at h;exact absurd h (by decide)
 .intro h;have h1:¬0<=q.num:=λh1=>by have:=U1.1 h1;grind
  rw [SO (by omega)];decide
section
variable {n:Nat} {rows:List R} (f:Fl) (t:TL)
set_option maxRecDepth 20000 in
theorem IW{mv Z ms:Nat}(sz:Sz n rows)(P:cH n rows.length t)(hq:∀u,u < n+rows.length->VB mv (aH t.val u)){x:Nat}(V:x < n+rows.length){a:Nm}(ha:QN Z a)(i:Int)(s:LF)
  (hs:VB ms s.2.1) (hl:s.1 < (rows.length:Int)) (h1s: 20<=mv) (h2s:mv+20+1+ (2+Z)<=3000) (h3s:ms<=3000):
  Or (.call 75) [I (x:Int),EN a,I i,AV.ref (Id.c 0) 0,AV.ref (Id.c 1) 0,AV.ref (Id.c 2) 0,AV.ref (Id.c 3) 0] (S5 n rows f t s)=
   some (T.aD::tb (dh n rows t x a i s).2.2:: (VC (dh n rows t x a i s).2.1++ti (dh n rows t x a i s).1::fL n rows f t)):=by
 obtain⟨ln,gL,H⟩:=s;have hn:=sz.n;have hm:=sz.m;have B:=sa sz f.er f.eb f.ev f.eg t.af t.val t.ax V;have D:=uF sz f.er f.eb f.ev f.eg t.af t.val t.ax V;have ks:=lM a;have w: 0<=(x:Int)/\(x:Int) < (t.val.length:Int):=by have:=P.v;omega
 have G:=mS (nK (val:=t.val) (i:=x) (by have:=P.v;omega));rw [cD] at B D;simp only [Rx,Ry] at B D;rw [ei,cD];simp only [Rx,Ry];by_cases Q:nv a=0
 .have j:=(fK (nv a)).2 Q;have e:dh n rows t x a i (ln,gL,H)= (ln,gL,H):=by unfold dh;rw [if_pos (.inl Q)]
  have X:¬(0:Int) < 0:=by omega
  rw [e];refine ao ?_;rw [gV];cases L:decide (x < n)
  .simp only [cm,al,↓reduceIte,Int.reduceBEq,Int.reduceEq,GD,bW,B,ks,j,L,X,RJ,RH,cE,cF]
  .simp only [cm,al,↓reduceIte,Int.reduceBEq,Int.reduceEq,GD,bW,B,ks,j,L,X,RJ,RH,cE,cF]
 .have j:¬(nv a).num.sign=0:=λh'=>Q ((fK _).1 h');have y:=fE 1 (by omega);have q1:QN 2 (iN 1):=dP (by decide);obtain⟨z,Y⟩:=np q1 ha (by omega) Q;have qb:=Dl sz V a;have k:=uC qb (hq x V) (by omega);have qs:=r6 qb (hq x V);have g:=o4 (b:=ov (iN 1) a) qs Y (by omega);have qd:VB (20+mv+1+ (2+Z)) (fg n rows t x a):=m9 (b:=ov (iN 1) a) qs Y;have d:=uB hs qd (by omega);rw [show fb (nH (kT n rows x a) (aH t.val x)) (ov (iN 1) a)=fg n rows t x a from rfl] at g;rw [cD] at k g;have q:¬(0:Int) > 0:=by decide
  have r:¬(0:Int) < 0:=by decide
  have W:(1:Int) > 0:=by decide
  by_cases K:nv a < 0
  .have p:(nv a).num.sign < 0:=(rH _).2 K;have S:kT n rows x a=gY n rows x:=by unfold kT;rw [if_pos K]
   have M:iC n rows x a= (eT n rows x):=by unfold iC;rw [if_pos K]
   rw [S] at k g;cases F:(eT n rows x)
   .have e:dh n rows t x a i (ln,gL,H)= (ln,gL,H):=by unfold dh;rw [if_pos (.inr (by rw [M,F]))]
    rw [e];rw [F] at D;refine ao ?_;rw [gV];simp only [cm,al,↓reduceIte,Int.reduceBEq,Int.reduceEq,GD,bW,B,D,ks,j,w,G,and_self,cJ,cY,k,y,z,g,d,RJ,RH,cE,cF,RQ,Sd,q,r,cD,p,decide_true,decide_false]
   .have e:dh n rows t x a i (ln,gL,H)=if eG n rows t x a i (ln,gL,H) then(i,fg n rows t x a,true) else(ln,gL,H):=by
     unfold dh;rw [if_neg];rintro(h | h)
     .exact Q h
     .rw [M,F] at h;cases h
    rw [F] at D;cases H
    .rw [e,if_pos (by unfold eG;exact .inl (by simp))];refine ao ?_;rw [gV];simp only [cm,al,↓reduceIte,Int.reduceBEq,Int.reduceEq,GD,bW,B,D,ks,j,w,G,and_self,cJ,cY,k,y,z,g,d,RJ,RH,cE,cF,RQ,Sd,q,r,cD,p,decide_true,decide_false,W]
    .by_cases C:dY gL (fg n rows t x a) > 0
     .rw [e,if_pos (by unfold eG;exact .inl (by simpa using C))];refine ao ?_;rw [gV];simp only [cm,al,↓reduceIte,Int.reduceBEq,Int.reduceEq,GD,bW,B,D,ks,j,w,G,and_self,cJ,cY,k,y,z,g,d,RJ,RH,cE,cF,RQ,Sd,q,r,cD,p,decide_true,decide_false,C]
     .by_cases o:dY gL (fg n rows t x a)=0
      .by_cases A:i>=0
       .by_cases E:ln < 0
        .rw [e,if_pos (by unfold eG;exact .inr ⟨by simpa using o,A, .inl E⟩)];refine ao ?_;rw [gV];simp only [cm,al,↓reduceIte,Int.reduceBEq,Int.reduceEq,GD,bW,B,D,ks,j,w,G,and_self,cJ,cY,k,y,z,g,d,RJ,RH,cE,cF,RQ,Sd,q,r,cD,p,decide_true,decide_false,o,A,E]
        .obtain⟨l,rfl⟩:∃l:Nat,ln= (l:Int):=⟨ln.toNat,by omega⟩;have U:l < t.af.length:=by rw [P.b];simp only at hl;omega
         have O: 0<=(l:Int)/\(l:Int) < (t.af.length:Int):=by omega
         have N:=jg (iB (t:=t) U);have hbl:t.af.getD ((l:Int)).toNat 0=t.st.af l:=rfl;by_cases J:(x:Int) < (t.st.af l:Int)
         .rw [e,if_pos (by unfold eG;exact .inr ⟨by simpa using o,A, .inr J⟩)];refine ao ?_;rw [gV];simp only [cm,al,↓reduceIte,Int.reduceBEq,Int.reduceEq,GD,bW,B,D,ks,j,w,G,and_self,cJ,cY,k,y,z,g,d,RJ,RH,cE,cF,RQ,Sd,q,r,cD,p,decide_true,decide_false,o,A,E,O,N,J]
         .rw [e,if_neg (by unfold eG;rintro(h | ⟨_,_,h | h⟩);exact C (by simpa using h);exact E h;exact J h)];refine ao ?_;rw [gV];simp only [cm,al,↓reduceIte,Int.reduceBEq,Int.reduceEq,GD,bW,B,D,ks,j,w,G,and_self,cJ,cY,k,y,z,g,d,RJ,RH,cE,cF,RQ,Sd,q,r,cD,p,decide_true,decide_false,o,A,E,O,N,J]
       .rw [e,if_neg (by unfold eG;rintro(h | ⟨_,h,_⟩);exact C (by simpa using h);exact A h)];refine ao ?_;rw [gV];simp only [cm,al,↓reduceIte,Int.reduceBEq,Int.reduceEq,GD,bW,B,D,ks,j,w,G,and_self,cJ,cY,k,y,z,g,d,RJ,RH,cE,cF,RQ,Sd,q,r,cD,p,decide_true,decide_false,o,A]
      .rw [e,if_neg (by unfold eG;rintro(h | ⟨h,_⟩);exact C (by simpa using h);exact o (by simpa using h))];refine ao ?_;rw [gV];simp only [cm,al,↓reduceIte,Int.reduceBEq,Int.reduceEq,GD,bW,B,D,ks,j,w,G,and_self,cJ,cY,k,y,z,g,d,RJ,RH,cE,cF,RQ,Sd,q,r,cD,p,decide_true,decide_false,C,o]
  .have p:¬(nv a).num.sign < 0:=λh=>K ((rH _).1 h);have S:kT n rows x a=bJ n rows x:=by unfold kT;rw [if_neg K]
   have M:iC n rows x a= (!decide (x < n)):=by unfold iC;rw [if_neg K]
   rw [S] at k g;cases F:(!decide (x < n))
   .have e:dh n rows t x a i (ln,gL,H)= (ln,gL,H):=by unfold dh;rw [if_pos (.inr (by rw [M,F]))]
    rw [e];have L:decide (x < n)=true:=by cases h:decide (x < n);rw [h] at F;cases F;rfl
    rw [L] at B;refine ao ?_;rw [gV];simp only [cm,al,↓reduceIte,Int.reduceBEq,Int.reduceEq,GD,bW,B,D,ks,j,w,G,and_self,cJ,cY,k,y,z,g,d,RJ,RH,cE,cF,RQ,Sd,q,r,cD,p,decide_true,decide_false]
   .have e:dh n rows t x a i (ln,gL,H)=if eG n rows t x a i (ln,gL,H) then(i,fg n rows t x a,true) else(ln,gL,H):=by
     unfold dh;rw [if_neg];rintro(h | h)
     .exact Q h
     .rw [M,F] at h;cases h
    have L:decide (x < n)=false:=by cases h:decide (x < n);rfl;rw [h] at F;cases F
    rw [L] at B;cases H
    .rw [e,if_pos (by unfold eG;exact .inl (by simp))];refine ao ?_;rw [gV];simp only [cm,al,↓reduceIte,Int.reduceBEq,Int.reduceEq,GD,bW,B,D,ks,j,w,G,and_self,cJ,cY,k,y,z,g,d,RJ,RH,cE,cF,RQ,Sd,q,r,cD,p,decide_true,decide_false,W]
    .by_cases C:dY gL (fg n rows t x a) > 0
     .rw [e,if_pos (by unfold eG;exact .inl (by simpa using C))];refine ao ?_;rw [gV];simp only [cm,al,↓reduceIte,Int.reduceBEq,Int.reduceEq,GD,bW,B,D,ks,j,w,G,and_self,cJ,cY,k,y,z,g,d,RJ,RH,cE,cF,RQ,Sd,q,r,cD,p,decide_true,decide_false,C]
     .by_cases o:dY gL (fg n rows t x a)=0
      .by_cases A:i>=0
       .by_cases E:ln < 0
        .rw [e,if_pos (by unfold eG;exact .inr ⟨by simpa using o,A, .inl E⟩)];refine ao ?_;rw [gV];simp only [cm,al,↓reduceIte,Int.reduceBEq,Int.reduceEq,GD,bW,B,D,ks,j,w,G,and_self,cJ,cY,k,y,z,g,d,RJ,RH,cE,cF,RQ,Sd,q,r,cD,p,decide_true,decide_false,o,A,E]
        .obtain⟨l,rfl⟩:∃l:Nat,ln= (l:Int):=⟨ln.toNat,by omega⟩;have U:l < t.af.length:=by rw [P.b];simp only at hl;omega
         have O: 0<=(l:Int)/\(l:Int) < (t.af.length:Int):=by omega
         have N:=jg (iB (t:=t) U);have hbl:t.af.getD ((l:Int)).toNat 0=t.st.af l:=rfl;by_cases J:(x:Int) < (t.st.af l:Int)
         .rw [e,if_pos (by unfold eG;exact .inr ⟨by simpa using o,A, .inr J⟩)];refine ao ?_;rw [gV];simp only [cm,al,↓reduceIte,Int.reduceBEq,Int.reduceEq,GD,bW,B,D,ks,j,w,G,and_self,cJ,cY,k,y,z,g,d,RJ,RH,cE,cF,RQ,Sd,q,r,cD,p,decide_true,decide_false,o,A,E,O,N,J]
         .rw [e,if_neg (by unfold eG;rintro(h | ⟨_,_,h | h⟩);exact C (by simpa using h);exact E h;exact J h)];refine ao ?_;rw [gV];simp only [cm,al,↓reduceIte,Int.reduceBEq,Int.reduceEq,GD,bW,B,D,ks,j,w,G,and_self,cJ,cY,k,y,z,g,d,RJ,RH,cE,cF,RQ,Sd,q,r,cD,p,decide_true,decide_false,o,A,E,O,N,J]
       .rw [e,if_neg (by unfold eG;rintro(h | ⟨_,h,_⟩);exact C (by simpa using h);exact A h)];refine ao ?_;rw [gV];simp only [cm,al,↓reduceIte,Int.reduceBEq,Int.reduceEq,GD,bW,B,D,ks,j,w,G,and_self,cJ,cY,k,y,z,g,d,RJ,RH,cE,cF,RQ,Sd,q,r,cD,p,decide_true,decide_false,o,A]
      .rw [e,if_neg (by unfold eG;rintro(h | ⟨h,_⟩);exact C (by simpa using h);exact o (by simpa using h))];refine ao ?_;rw [gV];simp only [cm,al,↓reduceIte,Int.reduceBEq,Int.reduceEq,GD,bW,B,D,ks,j,w,G,and_self,cJ,cY,k,y,z,g,d,RJ,RH,cE,cF,RQ,Sd,q,r,cD,p,decide_true,decide_false,C,o]
end
open Go Go.Aev Go.Aev.Gen Go.Aev.Wd Go.Aev.Tb Go.IntKind
def gB(n:Nat)(rows:List R)(t:TL)(v:Nat)(ai:Int):List Nat->List (List Nm)->Nat->LF->LF
 | b::bs,x::xs,i,s=>gB n rows t v ai bs xs (i+1) (dh n rows t b (tm (an x v) (iN ai)) (i:Int) s)
 | _,_,_,s=>s
def bf(n:Nat)(rows:List R)(t:TL)(v:Nat)(ai:Int):LF:=gB n rows t v ai t.af t.aj 0 (dh n rows t v (iN ai) (-1) (-1,(none,none),false))
abbrev zC:ab:=ab.box [B false,AV.t (T.str (ByteArray.mk #[])),B false,AV.t (T.str (ByteArray.mk #[])),B false,AV.t (T.str (ByteArray.mk #[])),B false,AV.t (T.str (ByteArray.mk #[]))]
abbrev S6(n:Nat)(rows:List R)(f:Fl)(t:TL)(s:LF):List ab:=
 [ab.box [I (n:Int),AV.t (T.ae 3 f.er (bX rows)),AV.own (Id.c 1),AV.own (Id.c 2),AV.own (Id.c 11),AV.own (Id.c 4),AV.own (Id.c 5)],ab.sl false 1 f.eb (cP t.af),ab.mp false [Ck.i .i64] (Ck.i .i64) (bS t.mp),
  ab.dead,ab.sl false 8 f.ev (dB t.val),ab.sl false 4 f.eg (aO t.ax),ab.box [AV.ref (Id.c 0) 0],zC,ab.box [I s.1],ab.box [B s.2.2],vY s.2.1,ab.rows f.ec 1 0 4 t.aj.length (bB 0 t.aj)]
theorem Cu(m:Nat):VB m (none,none):=⟨hY _,hY _⟩
theorem wo{n:Nat}{rows:List R}(sz:Sz n rows){t:TL}{mv c M:Nat}{x:Nat}(l:x < n+rows.length)(k:VB mv (aH t.val x)){a:Nm}(j:QN c a)(h1:mv+c+25<=M)(m:M<=6000)(i:Int){s:LF}(hs:VB M s.2.1):
  VB M (dh n rows t x a i s).2.1:=by
 unfold dh;by_cases h:nv a=0\/iC n rows x a=false
 .rw [if_pos h];exact hs
 .rw [if_neg h];split
  .have g:nv a≠0:=λe=>h (.inl e);have q1:QN 2 (iN 1):=dP (by decide);obtain⟨_,d⟩:=np q1 j (by omega) g;exact(m9 (b:=ov (iN 1) a) (r6 (Dl sz l a) k) d).mono (by omega)
  .exact hs
theorem zN(n:Nat)(rows:List R)(t:TL)(x:Nat)(a:Nm)(i:Int)(s:LF):(dh n rows t x a i s).1=i\/(dh n rows t x a i s).1=s.1:=by
 unfold dh;split
 .exact .inr rfl
 .split
  .exact .inl rfl
  .exact .inr rfl
section
variable {n:Nat} {rows:List R} (f:Fl) (t:TL)
set_option maxRecDepth 20000 in
theorem QO{mv mc:Nat}(sz:Sz n rows)(d:cH n rows.length t)(F:∀u,u < n+rows.length->VB mv (aH t.val u))(Q:∀x∈t.aj,∀y∈x,QN mc y)
  {v:Nat} (hv:v < n+rows.length) {ai:Int} (H:ai=1\/ai= -1) (w: 20<=mv) (V:mv+mc+40<=2000):
  ∀(bs:List Nat) (xs:List (List Nm)) (i:Nat) (s:LF),t.af.drop i=bs->t.aj.drop i=xs->VB (mv+mc+40) s.2.1->s.1 < (rows.length:Int)->
  Or y7 [I (v:Int),I ai,AV.ref (Id.c 6) 0,AV.ref (Id.c 7) 0,AV.ref (Id.c 8) 0,AV.ref (Id.c 9) 0,AV.ref (Id.c 10) 0,AV.fn 75 [] [AV.ref (Id.c 6) 0,AV.ref (Id.c 9) 0,AV.ref (Id.c 10) 0,AV.ref (Id.c 8) 0],AV.own (Id.c 1),I (t.af.length:Int),I (i:Int)] (S6 n rows f t s)=
   some (ti (gB n rows t v ai bs xs i s).1:: (VC (gB n rows t v ai bs xs i s).2.1++tb (gB n rows t v ai bs xs i s).2.2::fL n rows f t)):=by
 have hn:=sz.n;have hm:=sz.m;have W:=d.b;have X:=d.c;intro bs;induction bs with
 | nil=>
  intro xs i s hb o h j;have h1:¬(i:Int) < (t.af.length:Int):=by have:=bP hb;omega
  have E:gB n rows t v ai [] xs i s=s:=by cases xs <;> rfl
  rw [E,ei,cD];refine ao ?_;rw [Fa];simp only [al,↓reduceIte,Int.reduceBEq,Int.reduceEq,GD,h1,cE,cF];rfl
 | cons b bs S=>
  intro xs i s hb o h j;obtain⟨q,Z,P⟩:=bG hb;cases xs with
  | nil=>have:=bP o;omega
  | cons x xs=>
   obtain⟨p,x2,U⟩:=bG o;have Y:=d.r x (Rt p);have g:=d.lt b (Rt q);have h1:(i:Int) < (t.af.length:Int):=by omega
   have C: 0<=(i:Int):=by omega
   have D:(i:Int) < (t.aj.length:Int):=by omega
   have G: 0<=(v:Int)/\(v:Int) < (x.length:Int):=by omega
   have z:au t.aj i=x:=by have:=iF (aj:=t.aj) (i:=i) (by omega);rw [p] at this;exact(R1 this).symm
   have B:=kz (aj:=t.aj) (i:=i) (by omega);have A:=ji (aj:=t.aj) (i:=i) (by omega);rw [z] at B A;have J:=fE ai (by rcases H with rfl | rfl <;> decide);have O:QN 2 (iN ai):=by rcases H with rfl | rfl <;> exact dP (by decide)
   have L:QN mc (an x v):=Q x (Rt p) _ (Rt (fW (by omega)));have K:=mo L O (by omega);have N:QN (mc+2) (tm (an x v) (iN ai)):=L.mul O;have a:=IW (n:=n) (rows:=rows) f t sz d F g N (i:Int) s h j w (by omega) (by omega);have T:=wo sz (t:=t) g (F b g) N (M:=mv+mc+40) (by omega) (by omega) (i:Int) h;have k:(dh n rows t b (tm (an x v) (iN ai)) (i:Int) s).1 < (rows.length:Int):=by
    rcases zN n rows t b (tm (an x v) (iN ai)) (i:Int) s with e | e <;> rw [e]
    .omega
    .exact j
   have:=S xs (i+1) (dh n rows t b (tm (an x v) (iN ai)) (i:Int) s) P U T k;rw [gB];generalize dh n rows t b (tm (an x v) (iN ai)) (i:Int) s=s2 at a this⊢;rw [ei,cD] at a;simp only [Rx,Ry] at a;refine ao ?_;rw [Fa];simp only [al,↓reduceIte,Int.reduceBEq,Int.reduceEq,GD,eI,bW,h1,C,D,and_self,cY,jg q,cU,B,A,G,bA,cg (fW (l:=x) (i:=v) (by omega)),J,K,a,eH,dZ,RA,next i (by omega)];exact this
set_option maxRecDepth 20000 in
theorem I1{mv mc:Nat}(sz:Sz n rows)(g:cH n rows.length t)(h:∀u,u < n+rows.length->VB mv (aH t.val u))(q:∀x∈t.aj,∀y∈x,QN mc y)
  {v:Nat} (hv:v < n+rows.length) {ai:Int} (k:ai=1\/ai= -1) (d: 20<=mv) (l:mv+mc+40<=2000):
  Or (.call 47) [r0,I (v:Int),I ai] (S1 n rows f t)=
   some (ti (bf n rows t v ai).1:: (VC (bf n rows t v ai).2.1++tb (bf n rows t v ai).2.2::fL n rows f t)):=by
 have w:=sz.n;have hm:=sz.m;have o:=fE ai (by rcases k with rfl | rfl <;> decide);have p:QN 2 (iN ai):=by rcases k with rfl | rfl <;> exact dP (by decide)
 have a:=IW (n:=n) (rows:=rows) f t sz g h hv p (-1) (-1,(none,none),false) (Cu 2) (by show(-1:Int) < _;omega) d (by omega) (by omega);have r:=wo sz (t:=t) hv (h v hv) p (M:=mv+mc+40) (by omega) (by omega) (-1) (s:=(-1,(none,none),false)) (Cu _);have j:(dh n rows t v (iN ai) (-1) (-1,(none,none),false)).1 < (rows.length:Int):=by
  rcases zN n rows t v (iN ai) (-1) (-1,(none,none),false) with e | e <;> rw [e]
  .omega
  .show(-1:Int) < _;omega
 have:=QO (n:=n) (rows:=rows) f t sz g h q hv k d l t.af t.aj 0 _ rfl rfl r j;unfold bf;generalize dh n rows t v (iN ai) (-1) (-1,(none,none),false)=z at a this⊢;rw [ei,cD] at a;simp only [Rx,Ry] at a;have hz:vY ((-1:Int),((none,none):Vl),false).2.1=zC:=rfl;have b:Or (.call 75) [I (v:Int),EN (iN ai),I (-1),AV.ref (Id.c 0) 0,AV.ref (Id.c 1) 0,AV.ref (Id.c 2) 0,AV.ref (Id.c 3) 0]
  [ab.box [AV.ref (Id.c 4) 0],ab.box [B false],zC,ab.box [I (-1)],
  ab.box [I (n:Int),AV.t (T.ae 3 f.er (bX rows)),AV.own (Id.c 5),AV.own (Id.c 6),AV.own (Id.c 7),AV.own (Id.c 8),AV.own (Id.c 9)],ab.sl false 1 f.eb (cP t.af),ab.mp false [Ck.i .i64] (Ck.i .i64) (bS t.mp),
   ab.rows f.ec 1 0 4 t.aj.length (bB 0 t.aj),ab.sl false 8 f.ev (dB t.val),ab.sl false 4 f.eg (aO t.ax)]=_:=a
 refine ao ?_;rw [L5];simp only [al,↓reduceIte,Int.reduceBEq,Int.reduceEq,GD,eI,bW,o,b,eH,dZ,RA,cU,cY];exact this
def gG(t:TL)(v:Nat)(ai:Int)(k:Nat):Nm:=match bV k t.mp with
 | some i=>tm (an (au t.aj i) v) (iN ai)
 | none=>none
def iU(n:Nat)(t:TL)(v:Nat)(ai:Int):List Nm:=if v < n then((List.range n).map (gG t v ai)).set v (iN ai) else(List.range n).map (gG t v ai)
theorem QP{mc:Nat}(p:cH n rows.length t)(M:n<=12)(hm:rows.length<=40)(E:∀x∈t.aj,∀y∈x,QN mc y)(B:∀k i,bV k t.mp=some i->i < rows.length)
  {v:Nat} (hv:v < n+rows.length) {ai:Int} (C:ai=1\/ai= -1) (s:mc+2<=6300):
  ∀(d k:Nat),d+k=n->
  Or sJ [r0,I (v:Int),I ai,AV.own (Id.c 6),I (n:Int),I (k:Int)] (S1 n rows f t++ [ab.sl false 4 false (aO ((List.range k).map (gG t v ai)++List.replicate d none))])=
   some (T.ae 4 false (aO (iU n t v ai))::fL n rows f t):=by
 have L:=p.c;have r:=fE ai (by rcases C with rfl | rfl <;> decide);have K:QN 2 (iN ai):=by rcases C with rfl | rfl <;> exact dP (by decide)
 intro d;induction d with
 | zero=>
  intro k F;obtain rfl:k=n:=by omega
  have h1:¬(k:Int) < (k:Int):=by omega
  simp only [TY,Sg];rw [ei];unfold iU;by_cases q:v < k
  .have a:(v:Int) < (k:Int):=by omega
   have j: 0<=(v:Int)/\(v:Int) < (((List.range k).map (gG t v ai)).length:Int):=by simp;omega
   have m:=jA (l:=(List.range k).map (gG t v ai)) (i:=v) (by simp;omega) (iN ai);rw [if_pos q];refine ao ?_;simp only [Rx,Ry];rw [wS];simp only [al,↓reduceIte,Int.reduceBEq,Int.reduceEq,GD,h1,a,j,and_self,bA,r,m,cE,cF]
  .have a:¬(v:Int) < (k:Int):=by omega
   rw [if_neg q];refine ao ?_;simp only [Rx,Ry];rw [wS];simp only [al,↓reduceIte,Int.reduceBEq,Int.reduceEq,GD,h1,a,cE,cF]
 | succ d H=>
  intro k F;have h1:(k:Int) < (n:Int):=by omega
  have A: 0<=(k:Int):=by omega
  have g:((List.range k).map (gG t v ai)).length=k:=by simp
  have o:(k:Int) < (((List.range k).map (gG t v ai)++List.replicate (d+1) none).length:Int):=by rw [Sw,g];simp;omega
  have:=H (k+1) (by omega);rw [Vj,TC] at this;simp only [RX,SX,R6,Rx,Ry] at this;have b:=tw k t.mp;cases e:bV k t.mp with
  | none=>
   have h:gG t v ai k=none:=by unfold gG;rw [e]
   rw [e] at b;rw [h] at this;refine ao ?_;simp only [Rx,Ry];rw [wS];simp only [al,↓reduceIte,Int.reduceBEq,Int.reduceEq,GD,h1,b,UW,Sd,Vv,next k (by omega)];rw [Sj];exact this
  | some i=>
   have hi:=B k i e;have h:gG t v ai k=tm (an (au t.aj i) v) (iN ai):=by unfold gG;rw [e]
   rw [e] at b;rw [h] at this;have G:=p.row hi;have z: 0<=(i:Int)/\(i:Int) < (t.aj.length:Int):=by omega
   have w:=kz (aj:=t.aj) (i:=i) (by omega);have u:=ji (aj:=t.aj) (i:=i) (by omega);have j: 0<=(v:Int)/\(v:Int) < ((au t.aj i).length:Int):=by omega
   have J:QN mc (an (au t.aj i) v):=E _ (Rt (iF (by omega))) _ (Rt (fW (by omega)));have D:=mo J K s;have m:=jA (l:=(List.range k).map (gG t v ai)++List.replicate (d+1) none) (i:=k) (by omega) (tm (an (au t.aj i) v) (iN ai));rw [Sj,pZ _ _ _ _ _ g] at m;rw [Sj] at o⊢;refine ao ?_;simp only [Rx,Ry];rw [wS];simp only [al,↓reduceIte,Int.reduceBEq,Int.reduceEq,GD,h1,A,o,b,Ts,RQ,Vw,z,and_self,cU,w,u,j,bA,cg (fW (l:=au t.aj i) (i:=v) (by omega)),r,D,m,next k (by omega)];exact this
theorem I2{mc:Nat}(d:cH n rows.length t)(h:n<=12)(hm:rows.length<=40)(g:∀x∈t.aj,∀y∈x,QN mc y)(b:∀k i,bV k t.mp=some i->i < rows.length)
  {v:Nat} (hv:v < n+rows.length) {ai:Int} (j:ai=1\/ai= -1) (a:mc+2<=6300):
  Or (.call 48) [r0,I (v:Int),I ai] (S1 n rows f t)=some (T.ae 4 false (aO (iU n t v ai))::fL n rows f t):=by
 have:=QP (n:=n) (rows:=rows) f t d h hm g b hv j a n 0 rfl;have c:=pP (k:=n) (by omega);have e:((n:Nat):Int).toNat=n:=by omega
 simp only [Rx,Ry,List.range_zero,SX] at this;refine ao ?_;rw [L6];simp only [al,↓reduceIte,Int.reduceBEq,Int.reduceEq,GD,c,e,qX,bA,Td];exact this
end
end Go.Aev.Wd.Lg
