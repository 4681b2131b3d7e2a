import Derived.Test.YticjdhgokemdlaaGreatMostTakesQ5
import Derived.Test.YticjdhgokemdlaaGreatMostTakesQ14
set_option linter.unusedSimpArgs false
set_option linter.unusedVariables false
namespace Go.Aev.Tb
open Go Go.Aev
def sm:Nat->(Nat->Rat)->Rat
 | 0,_=>0
 | n+1,f=>sm n f+f n
theorem dA{f g:Nat->Rat}:∀{n:Nat},(∀i,i < n->f i=g i)->sm n f=sm n g
 | 0,_=>rfl
 | n+1,h=>by
  rw [sm,sm,dA (n:=n) (fun i hi=>h i (by omega)),h n (by omega)]
theorem qO:∀(n:Nat),sm n (fun _=>0)=0
 | 0=>rfl
 | n+1=>by rw [sm,qO n];grind
theorem li{n:Nat}{f:Nat->Rat}(h:∀i,i < n->f i=0):sm n f=0:=by
 rw [dA h,qO]
theorem iz(x y:Rat)(f g:Nat->Rat):∀(n:Nat),sm n (fun i=>x * f i+y * g i)=x * sm n f+y * sm n g
 | 0=>by simp only [sm];grind
 | n+1=>by
  have:=iz x y f g n
  simp only [sm]
  grind
theorem nV(f g:Nat->Rat)(n:Nat):sm n (fun i=>f i+g i)=sm n f+sm n g:=by
 have:=iz 1 1 f g n
 simp only [Rat.one_mul] at this
 exact this
theorem qo(x:Rat)(f:Nat->Rat)(n:Nat):sm n (fun i=>x * f i)=x * sm n f:=by
 have:=iz x 0 f (fun _=>0) n
 simp only [Rat.zero_mul,Rat.add_zero] at this
 exact this
theorem iy{f:Nat->Rat}{v:Nat}:∀{n:Nat},v < n->(∀i,i < n->i≠v->f i=0)->sm n f=f v
 | 0,h,_=>by omega
 | n+1,h,hz=>by
  rw [sm]
  by_cases hv:v=n
  ·subst hv
   rw [li (fun i hi=>hz i (by omega) (by omega)),Rat.zero_add]
  ·rw [iy (n:=n) (by omega) (fun i hi hn=>hz i (by omega) hn),hz n (by omega) (by omega),Rat.add_zero]
theorem jQ{n v:Nat}(hv:v < n)(f:Nat->Rat):sm n (fun i=>if i=v then f i else 0)=f v:=by
 rw [iy hv (fun i _ hn=>if_neg hn),if_pos rfl]
theorem yD(f:Nat->Nat->Rat)(m:Nat):∀(n:Nat),sm n (fun i=>sm m (fun j=>f i j))=sm m (fun j=>sm n (fun i=>f i j))
 | 0=>by
  simp only [sm]
  exact(qO m).symm
 | n+1=>by
  simp only [sm]
  rw [yD f m n,nV]
theorem CZ{N n:Nat}{nb:Nat->Nat}{f:Nat->Rat}(hb:∀r,r < n->nb r < N)(hi:∀r s,r < n->s < n->nb r=nb s->r=s)
  (hz:∀v,v < N->(∀r,r < n->nb r≠v)->f v=0):sm N f=sm n (fun r=>f (nb r)):=by
 have h1:sm N f=sm N (fun v=>sm n (fun r=>if nb r=v then f v else 0)):=by
  refine dA (fun v hv=> ?_)
  by_cases h:∃r,r < n/\nb r=v
  ·obtain⟨r,hr,e⟩:=h
   rw [iy hr (fun i hin hne=>if_neg (fun e'=>hne (hi _ _ hin hr (by rw [e',e])))),if_pos e]
  ·have h':∀r,r < n->nb r≠v:=fun r hr e=>h ⟨r,hr,e⟩
   rw [hz v hv h',li (fun i hin=>if_neg (h' i hin))]
 rw [h1,yD]
 refine dA (fun r hr=> ?_)
 rw [iy (hb r hr) (fun i _ hne=>if_neg (fun e=>hne e.symm)),if_pos rfl]
def skip(i r:Nat):Nat:=if r < i then r else r+1
def sg:Nat->Rat
 | 0=>1
 | i+1=> - sg i
def det:Nat->(Nat->Nat->Rat)->Rat
 | 0,_=>1
 | n+1,M=>sm (n+1) (fun i=>sg i * M i 0 * det n (fun r c=>M (skip i r) (c+1)))
theorem wC(i r:Nat):skip i r≠i:=by unfold skip;split <;> omega
theorem Ao{i r s:Nat}(h:skip i r=skip i s):r=s:=by unfold skip at h;split at h <;> split at h <;> omega
theorem yn:∀(n:Nat) (M M1 M2:Nat->Nat->Rat) (p:Nat) (x y:Rat),p < n->(∀r,r≠p->M r=M1 r/\M r=M2 r)->(∀c,M p c=x * M1 p c+y * M2 p c)->
  det n M=x * det n M1+y * det n M2
 | 0,_,_,_,_,_,_,h,_,_=>by omega
 | n+1,M,M1,M2,p,x,y,hp,hr,he=>by
  simp only [det]
  rw [<-iz]
  refine dA (fun i hi=> ?_)
  by_cases hip:i=p
  ·subst hip
   have e1:(fun r c=>M (skip i r) (c+1))= (fun r c=>M1 (skip i r) (c+1)):=by
    funext r c;rw [(hr _ (wC i r)).1]
   have e2:(fun r c=>M (skip i r) (c+1))= (fun r c=>M2 (skip i r) (c+1)):=by
    funext r c;rw [(hr _ (wC i r)).2]
   rw [<-e1,<-e2,he 0]
   grind
  ·obtain⟨q,hq,hq2⟩:∃q,skip i q=p/\q < n:=by
    by_cases hlt:p < i
    ·exact⟨p,by unfold skip;rw [if_pos hlt],by omega⟩
    ·exact⟨p - 1,by unfold skip;rw [if_neg (by omega)];omega,by omega⟩
   have:=yn n (fun r c=>M (skip i r) (c+1)) (fun r c=>M1 (skip i r) (c+1)) (fun r c=>M2 (skip i r) (c+1)) q x y hq2
    (fun r hrq=>by
     have hne:skip i r≠p:=fun h=>hrq (Ao (by rw [h,hq]))
     exact⟨by funext c;rw [(hr _ hne).1],by funext c;rw [(hr _ hne).2]⟩)
    (fun c=>by rw [hq];exact he _)
   rw [this,<-(hr i hip).1,<-(hr i hip).2]
   grind
theorem oZ:∀(n:Nat) (M:Nat->Nat->Rat) (p:Nat),p+1 < n->M p=M (p+1)->det n M=0
 | 0,_,_,h,_=>by omega
 | n+1,M,p,hp,he=>by
  simp only [det]
  have e:(fun r c=>M (skip (p+1) r) (c+1))= (fun r c=>M (skip p r) (c+1)):=by
   funext r c
   by_cases h1:r < p
   ·have a:skip (p+1) r=r:=by unfold skip;rw [if_pos (by omega)]
    have b:skip p r=r:=by unfold skip;rw [if_pos h1]
    rw [a,b]
   ·by_cases h2:r=p
    ·subst h2
     have a:skip (r+1) r=r:=by unfold skip;rw [if_pos (by omega)]
     have b:skip r r=r+1:=by unfold skip;rw [if_neg (by omega)]
     rw [a,b,he]
    ·have a:skip (p+1) r=r+1:=by unfold skip;rw [if_neg (by omega)]
     have b:skip p r=r+1:=by unfold skip;rw [if_neg (by omega)]
     rw [a,b]
  have h1:sm (n+1) (fun i=>sg i * M i 0 * det n (fun r c=>M (skip i r) (c+1)))=
    sm (n+1) (fun i=>(if i=p then sg p * M p 0 * det n (fun r c=>M (skip p r) (c+1)) else 0)+ (if i=p+1 then -(sg p * M p 0 * det n (fun r c=>M (skip p r) (c+1))) else 0)):=by
   refine dA (fun i hi=> ?_)
   by_cases h1:i=p
   ·subst h1
    rw [if_pos rfl,if_neg (by omega),Rat.add_zero]
   ·by_cases h2:i=p+1
    ·subst h2
     rw [if_neg (by omega),if_pos rfl,e,<-he]
     simp only [sg]
     grind
    ·rw [if_neg h1,if_neg h2]
     have:det n (fun r c=>M (skip i r) (c+1))=0:=by
      by_cases hlt:p+1 < i
      ·refine oZ n _ p (by omega) ?_
       have a:skip i p=p:=by unfold skip;rw [if_pos (by omega)]
       have b:skip i (p+1)=p+1:=by unfold skip;rw [if_pos hlt]
       funext c
       rw [a,b,he]
      ·refine oZ n _ (p - 1) (by omega) ?_
       have a:skip i (p - 1)=p:=by unfold skip;rw [if_neg (by omega)];omega
       have b:skip i (p - 1+1)=p+1:=by unfold skip;rw [if_neg (by omega)];omega
       funext c
       rw [a,b,he]
     rw [this]
     grind
  rw [h1,nV,jQ (v:=p) (by omega) (fun _=>sg p * M p 0 * det n (fun r c=>M (skip p r) (c+1))),jQ (v:=p+1) (by omega) (fun _=> -(sg p * M p 0 * det n (fun r c=>M (skip p r) (c+1))))]
  grind
def upd(M:Nat->Nat->Rat)(p:Nat)(v:Nat->Rat):Nat->Nat->Rat:=fun r=>if r=p then v else M r
theorem dF(M:Nat->Nat->Rat)(p:Nat)(v:Nat->Rat):upd M p v p=v:=if_pos rfl
theorem ct{M:Nat->Nat->Rat}{p r:Nat}(v:Nat->Rat)(h:r≠p):upd M p v r=M r:=if_neg h
theorem nw(M:Nat->Nat->Rat)(p:Nat):upd M p (M p)=M:=by
 funext r
 by_cases h:r=p
 ·subst h;exact dF _ _ _
 ·exact ct _ h
theorem ji{n:Nat}(M:Nat->Nat->Rat){p:Nat}(hp:p < n)(x y:Rat)(u v:Nat->Rat):
  det n (upd M p (fun k=>x * u k+y * v k))=x * det n (upd M p u)+y * det n (upd M p v):=by
 refine yn n _ _ _ p x y hp (fun r hr=> ?_) (fun c=> ?_)
 ·rw [ct _ hr,ct _ hr,ct _ hr];exact⟨rfl,rfl⟩
 ·rw [dF,dF,dF]
theorem z7{n:Nat}(M:Nat->Nat->Rat){p:Nat}(hp:p+1 < n)(u v:Nat->Rat):
  det n (upd (upd M p u) (p+1) v)= - det n (upd (upd M p v) (p+1) u):=by
 have z:∀w,det n (upd (upd M p w) (p+1) w)=0:=fun w=>oZ n _ p hp (by rw [dF,ct _ (by omega),dF])
 have comm:∀a b,upd (upd M p a) (p+1) b=upd (upd M (p+1) b) p a:=fun a b=>by
  funext r
  by_cases h1:r=p
  ·subst h1;rw [ct _ (by omega),dF,dF]
  ·by_cases h2:r=p+1
   ·subst h2;rw [dF,ct _ h1,dF]
   ·rw [ct _ h2,ct _ h1,ct _ h1,ct _ h2]
 have k0:=z (fun k=>1 * u k+1 * v k)
 have k1:=ji (n:=n) (upd M p (fun k=>1 * u k+1 * v k)) hp 1 1 u v
 have k2:=ji (n:=n) (upd M p (fun k=>1 * u k+1 * v k)) (p:=p+1) hp 1 1 u v
 rw [k0] at k2
 rw [comm,comm] at k2
 have k3:=ji (n:=n) (upd M (p+1) u) (p:=p) (by omega) 1 1 u v
 have k4:=ji (n:=n) (upd M (p+1) v) (p:=p) (by omega) 1 1 u v
 rw [k3,k4,<-comm,<-comm,<-comm,<-comm,z,z] at k2
 grind
theorem pj{n:Nat}:∀(d:Nat) (M:Nat->Nat->Rat) (p:Nat),p+d+1 < n->M p=M (p+d+1)->det n M=0
 | 0,M,p,hp,he=>oZ n M p hp he
 | d+1,M,p,hp,he=>by
  have e:M=upd (upd M (p+d+1) (M (p+d+1))) (p+d+1+1) (M (p+d+1+1)):=by rw [nw,nw]
  rw [e,z7 M (p:=p+d+1) hp]
  rw [pj d _ p (by omega)]
  ·grind
  ·rw [ct _ (by omega),ct _ (by omega),ct _ (by omega),dF]
   exact he
theorem DT{n:Nat}{M:Nat->Nat->Rat}{p q:Nat}(hp:p < n)(hq:q < n)(hne:p≠q)(he:M p=M q):det n M=0:=by
 by_cases h:p < q
 ·refine pj (q - p - 1) M p (by omega) ?_
  rw [he];congr 1;omega
 ·refine pj (p - q - 1) M q (by omega) ?_
  rw [<-he];congr 1;omega
theorem vF{n:Nat}(M:Nat->Nat->Rat){p:Nat}(hp:p < n)(c:Nat->Rat)(w:Nat->Nat->Rat):
  ∀(m:Nat),det n (upd M p (fun k=>sm m (fun r=>c r * w r k)))=sm m (fun r=>c r * det n (upd M p (w r)))
 | 0=>by
  have:=ji (n:=n) M hp 0 0 (fun _=>0) (fun _=>0)
  simp only [sm]
  have e:(fun k:Nat=>(0:Rat) * (fun _=>(0:Rat)) k+0 * (fun _=>(0:Rat)) k)= (fun _=>0):=by funext k;grind
  rw [e] at this
  rw [this];grind
 | m+1=>by
  have:=ji (n:=n) M hp 1 (c m) (fun k=>sm m (fun r=>c r * w r k)) (w m)
  simp only [Rat.one_mul] at this
  simp only [sm]
  rw [this,vF M hp c w m]
theorem xp{n:Nat}(M:Nat->Nat->Rat){p:Nat}(hp:p < n)(c:Nat->Rat)(u:Nat->Rat)(hu:∀k,u k=sm n (fun r=>c r * M r k)):
  det n (upd M p u)=c p * det n M:=by
 have e:u=fun k=>sm n (fun r=>c r * M r k):=funext hu
 rw [e,vF M hp c M n,iy hp (fun i hi hne=> ?_),nw]
 rw [DT (p:=p) (q:=i) hp hi (fun h=>hne h.symm) (by rw [dF,ct _ hne])]
 grind
def isI(B:Nat)(q:Rat):Prop:= ∃z:Int,q= (z:Rat)/\z.natAbs<=B
theorem isI.add{A B:Nat}{p q:Rat}(h:isI A p)(k:isI B q):isI (A+B) (p+q):=by
 obtain⟨x,rfl,hx⟩:=h
 obtain⟨y,rfl,hy⟩:=k
 exact⟨x+y,by rw [Rat.intCast_add],by omega⟩
theorem isI.mul{A B:Nat}{p q:Rat}(h:isI A p)(k:isI B q):isI (A * B) (p * q):=by
 obtain⟨x,rfl,hx⟩:=h
 obtain⟨y,rfl,hy⟩:=k
 exact⟨x * y,by rw [Rat.intCast_mul],by rw [Int.natAbs_mul];exact Nat.mul_le_mul hx hy⟩
theorem isI.neg{A:Nat}{p:Rat}(h:isI A p):isI A (-p):=by
 obtain⟨x,rfl,hx⟩:=h
 exact⟨-x,by rw [Rat.intCast_neg],by omega⟩
theorem isI.mono{A B:Nat}{p:Rat}(h:isI A p)(hle:A<=B):isI B p:=by
 obtain⟨x,e,hx⟩:=h
 exact⟨x,e,by omega⟩
theorem isI.zero(B:Nat):isI B 0:=⟨0,rfl,by omega⟩
theorem isI.int{z:Int}{B:Nat}(h:z.natAbs<=B):isI B (z:Rat):=⟨z,rfl,h⟩
theorem xS:∀(i:Nat),isI 1 (sg i)
 | 0=>⟨1,rfl,by decide⟩
 | i+1=>(xS i).neg
theorem rI{B:Nat}{f:Nat->Rat}:∀{n:Nat},(∀i,i < n->isI B (f i))->isI (n * B) (sm n f)
 | 0,_=>isI.zero _
 | n+1,h=>by
  rw [sm,Nat.succ_mul]
  exact(rI (fun i hi=>h i (by omega))).add (h n (by omega))
def bd(K:Nat):Nat->Nat
 | 0=>1
 | n+1=>(n+1) * (K * bd K n)
theorem rt{K:Nat}:∀(n:Nat) (M:Nat->Nat->Rat),(∀r c,r < n->isI K (M r c))->isI (bd K n) (det n M)
 | 0,_,_=>⟨1,rfl,Nat.le_refl _⟩
 | n+1,M,h=>by
  rw [det,bd]
  refine rI (fun i hi=> ?_)
  have h1:=((xS i).mul (h i 0 hi)).mul (rt n (fun r c=>M (skip i r) (c+1)) (fun r c hr=>h _ _ (by unfold skip;split <;> omega)))
  rw [Nat.one_mul] at h1
  exact h1
open Go Go.Aev
def av(n:Nat)(A:Nat->Nat->Rat)(v:Nat):Nat->Rat:=fun k=>if k < n then(if v < n then(if k=v then 1 else 0) else A (v - n) k) else 0
def InS(n m:Nat)(A:Nat->Nat->Rat)(y:Nat->Rat):Prop:= ∀i,i < m->y (n+i)=sm n (fun k=>A i k * y k)
def vT(N m:Nat)(bas:Nat->Nat)(c:Nat->Nat->Rat)(y:Nat->Rat):Prop:= ∀i,i < m->y (bas i)=sm N (fun k=>c i k * y k)
structure WF (n m:Nat) (A:Nat->Nat->Rat) (bas:Nat->Nat) (c:Nat->Nat->Rat):Prop where
 hb:∀i,i < m->bas i < n+m
 inj:∀i j,i < m->j < m->bas i=bas j->i=j
 z:∀i j,i < m->j < m->c i (bas j)=0
 same:∀y,vT (n+m) m bas c y↔InS n m A y
 nb:∃nb:Nat->Nat,(∀r,r < n->nb r < n+m)/\(∀r s,r < n->s < n->nb r=nb s->r=s)/\(∀r i,r < n->i < m->nb r≠bas i)/\
  (∀v,v < n+m->(∃r,r < n/\nb r=v)\/∃i,i < m/\bas i=v)/\det n (fun r=>av n A (nb r))≠0
theorem pA{n m:Nat}(A:Nat->Nat->Rat)(k:Nat):InS n m A (fun v=>av n A v k):=by
 intro i _
 unfold av
 dsimp only
 by_cases hk:k < n
 ·rw [if_pos hk,if_neg (by omega)]
  have e:n+i - n=i:=by omega
  rw [e,iy hk]
  ·rw [if_pos hk,if_pos hk,if_pos rfl];grind
  ·intro j hj hne
   rw [if_pos hk,if_pos hj,if_neg (fun h=>hne h.symm)]
   grind
 ·rw [if_neg hk]
  exact(li (fun j _=>by rw [if_neg hk];grind)).symm
theorem WF.sum{n m:Nat}{A:Nat->Nat->Rat}{bas:Nat->Nat}{c:Nat->Nat->Rat}{nb:Nat->Nat}
  (h1:∀r,r < n->nb r < n+m) (h2:∀r s,r < n->s < n->nb r=nb s->r=s) (h4:∀v,v < n+m->(∃r,r < n/\nb r=v)\/∃i,i < m/\bas i=v)
  {l:Nat->Rat} (hz:∀j,j < m->l (bas j)=0) (y:Nat->Rat):sm (n+m) (fun k=>l k * y k)=sm n (fun r=>l (nb r) * y (nb r)):=by
 refine CZ h1 h2 (fun v hv hn=> ?_)
 rcases h4 v hv with⟨r,hr,e⟩ | ⟨i,hi,e⟩
 ·exact absurd e (hn r hr)
 ·rw [<-e,hz i hi,Rat.zero_mul]
def bT(x:Nat->Rat)(b v:Nat)(k:Nat):Rat:=if k=b then 1 / x v else if k=v then 0 else -(x k / x v)
def cT(row:Nat->Rat)(v:Nat)(l:Nat->Rat)(k:Nat):Rat:=if k=v then 0 else l k+l v * row k
theorem tA{N:Nat}{x:Nat->Rat}{b v:Nat}(hb:b < N)(hv:v < N)(hbv:b≠v)(hxb:x b=0)(ha:x v≠0)(y:Nat->Rat):
  sm N (fun k=>bT x b v k * y k)= (y b - sm N (fun k=>x k * y k)) / x v+y v:=by
 have e:sm N (fun k=>bT x b v k * y k)=sm N (fun k=>(-(1 / x v) * (x k * y k)+1 * (if k=v then y k else 0))+ (1 / x v) * (if k=b then y k else 0)):=by
  refine dA (fun k _=> ?_)
  unfold bT
  by_cases h1:k=b
  ·subst h1
   rw [if_pos rfl,if_neg hbv,if_pos rfl,hxb];grind
  ·by_cases h2:k=v
   ·subst h2
    rw [if_neg h1,if_pos rfl,if_pos rfl,if_neg h1]
    have: 1 / x k * x k=1:=by rw [Rat.div_def,Rat.one_mul];exact Rat.inv_mul_cancel _ ha
    grind
   ·rw [if_neg h1,if_neg h2,if_neg h2,if_neg h1,Rat.div_def,Rat.div_def];grind
 have e2:=nV (fun k=> -(1 / x v) * (x k * y k)+1 * (if k=v then y k else 0)) (fun k=>(1 / x v) * (if k=b then y k else 0)) N
 rw [e,e2,iz,qo,jQ hv y,jQ hb y,Rat.div_def,Rat.div_def]
 grind
theorem p5{N:Nat}{row l:Nat->Rat}{v:Nat}(hv:v < N)(hr:row v=0)(y:Nat->Rat):
  sm N (fun k=>cT row v l k * y k)=sm N (fun k=>l k * y k)+l v * (sm N (fun k=>row k * y k) - y v):=by
 have e:sm N (fun k=>cT row v l k * y k)=sm N (fun k=>(1 * (l k * y k)+l v * (row k * y k))+ (-(l v)) * (if k=v then y k else 0)):=by
  refine dA (fun k _=> ?_)
  unfold cT
  by_cases h2:k=v
  ·subst h2
   rw [if_pos rfl,if_pos rfl,hr];grind
  ·rw [if_neg h2,if_neg h2];grind
 have e2:=nV (fun k=>1 * (l k * y k)+l v * (row k * y k)) (fun k=>(-(l v)) * (if k=v then y k else 0)) N
 rw [e,e2,iz,qo,jQ hv y]
 grind
def bV(bas:Nat->Nat)(i v:Nat):Nat->Nat:=fun j=>if j=i then v else bas j
def gH(c:Nat->Nat->Rat)(bas:Nat->Nat)(i v:Nat):Nat->Nat->Rat:=fun j=>if j=i then bT (c i) (bas i) v else cT (bT (c i) (bas i) v) v (c j)
theorem lJ{x:Nat->Rat}{b v:Nat}(hbv:b≠v):bT x b v v=0:=by
 unfold bT;rw [if_neg (fun h=>hbv h.symm),if_pos rfl]
theorem Ei{n m:Nat}{A:Nat->Nat->Rat}{bas:Nat->Nat}{c:Nat->Nat->Rat}(w:WF n m A bas c){i v:Nat}(hi:i < m)(hv:v < n+m)
  (ha:c i v≠0):WF n m A (bV bas i v) (gH c bas i v):=by
 have hvb:∀j,j < m->bas j≠v:=fun j hj e=>ha (by rw [<-e];exact w.z i j hi hj)
 have hbi:=w.hb i hi
 have hxb:=w.z i i hi hi
 refine⟨fun j hj=> ?_,fun j k hj hk e=> ?_,fun j k hj hk=> ?_,fun y=> ?_, ?_⟩
 ·unfold bV;split
  ·exact hv
  ·exact w.hb j hj
 ·unfold bV at e
  split at e <;> split at e
  ·omega
  ·exact absurd e.symm (hvb k hk)
  ·exact absurd e (hvb j hj)
  ·exact w.inj j k hj hk e
 ·unfold bV gH
  by_cases h1:k=i
  ·subst h1
   rw [if_pos rfl]
   split
   ·exact lJ (hvb k hi)
   ·unfold cT;rw [if_pos rfl]
  ·rw [if_neg h1]
   have hne:bas k≠bas i:=fun e=>h1 (w.inj k i hk hi e)
   have h0:bT (c i) (bas i) v (bas k)=0:=by
    unfold bT
    rw [if_neg hne,if_neg (hvb k hk),w.z i k hi hk,Rat.div_def];grind
   split
   ·exact h0
   ·unfold cT
    rw [if_neg (hvb k hk),w.z j k hj hk,h0];grind
 ·rw [<-w.same y]
  have hrow:=tA hbi hv (hvb i hi) hxb ha y
  have hr0:=lJ (x:=c i) (hvb i hi)
  have hinv:c i v * (c i v)⁻¹ =1:=Rat.mul_inv_cancel _ ha
  constructor
  ·intro h
   have hv1:y v=sm (n+m) (fun k=>bT (c i) (bas i) v k * y k):=by
    have:=h i hi
    unfold bV gH at this
    rw [if_pos rfl] at this
    simpa using this
   have hb1:y (bas i)=sm (n+m) (fun k=>c i k * y k):=by
    rw [hv1.symm,Rat.div_def] at hrow
    have:(y (bas i) - sm (n+m) (fun k=>c i k * y k)) * (c i v)⁻¹ * c i v=0:=by
     have:(y (bas i) - sm (n+m) (fun k=>c i k * y k)) * (c i v)⁻¹ =0:=by grind
     rw [this];grind
    grind
   intro j hj
   by_cases h1:j=i
   ·subst h1;exact hb1
   ·have:=h j hj
    unfold bV gH at this
    rw [if_neg h1] at this
    simp only [if_neg h1] at this
    rw [p5 hv hr0,<-hv1] at this
    grind
  ·intro h
   have hb1:=h i hi
   have hv1:sm (n+m) (fun k=>bT (c i) (bas i) v k * y k)=y v:=by
    rw [hrow,<-hb1,Rat.div_def];grind
   intro j hj
   by_cases h1:j=i
   ·subst h1
    unfold bV gH
    rw [if_pos rfl]
    simp only [if_pos rfl]
    exact hv1.symm
   ·unfold bV gH
    rw [if_neg h1]
    simp only [if_neg h1]
    rw [p5 hv hr0,hv1,h j hj]
    grind
 ·obtain⟨nb,n1,n2,n3,n4,n5⟩:=w.nb
  obtain⟨p,hp,ep⟩:∃r,r < n/\nb r=v:=by
   rcases n4 v hv with h | ⟨j,hj,e⟩
   ·exact h
   ·exact absurd e (hvb j hj)
  refine⟨fun r=>if r=p then bas i else nb r,fun r hr=> ?_,fun r s hr hs e=> ?_,fun r j hr hj e=> ?_,fun u hu=> ?_, ?_⟩
  ·dsimp only;split
   ·exact hbi
   ·exact n1 r hr
  ·dsimp only at e
   split at e <;> split at e
   ·omega
   ·exact absurd e.symm (n3 s i hs hi)
   ·exact absurd e (n3 r i hr hi)
   ·exact n2 r s hr hs e
  ·dsimp only at e
   unfold bV at e
   split at e <;> split at e
   ·exact hvb i hi e
   ·rename_i h1 h2;exact h2 (w.inj j i hj hi e.symm)
   ·rename_i h1 h2;exact h1 (n2 r p hr hp (by rw [e,ep]))
   ·exact n3 r j hr hj e
  ·by_cases h1:u=v
   ·exact .inr ⟨i,hi,by unfold bV;rw [if_pos rfl,h1]⟩
   ·by_cases h2:u=bas i
    ·exact .inl ⟨p,hp,by dsimp only;rw [if_pos rfl,h2]⟩
    ·rcases n4 u hu with⟨r,hr,e⟩ | ⟨j,hj,e⟩
     ·refine .inl ⟨r,hr, ?_⟩
      dsimp only
      rw [if_neg (fun h=>h1 (by rw [<-e,h,ep])),e]
     ·refine .inr ⟨j,hj, ?_⟩
      unfold bV
      rw [if_neg (fun h=>h2 (by rw [<-e,h])),e]
  ·have e:(fun r=>av n A (if r=p then bas i else nb r))=upd (fun r=>av n A (nb r)) p (av n A (bas i)):=by
    funext r
    unfold upd
    split <;> rfl
   rw [e,xp (fun r=>av n A (nb r)) hp (fun r=>c i (nb r)) (av n A (bas i)) (fun k=> ?_)]
   ·rw [ep]
    intro h
    rcases Rat.mul_eq_zero.1 h with h | h
    ·exact ha h
    ·exact n5 h
   ·have:=(w.same _).2 (pA (m:=m) A k) i hi
    rw [this]
    exact WF.sum (A:=A) (bas:=bas) (c:=c) n1 n2 n4 (w.z i · hi) _
theorem rG{n m K:Nat}{A:Nat->Nat->Rat}(hK: 1<=K)(hA:∀i k,i < m->k < n->isI K (A i k)){v:Nat}(hv:v < n+m)(k:Nat):isI K (av n A v k):=by
 unfold av
 split
 ·split
  ·split
   ·exact⟨1,rfl,hK⟩
   ·exact isI.zero _
  ·exact hA _ _ (by omega) (by assumption)
 ·exact isI.zero _
theorem WF.den{n m K:Nat}{A:Nat->Nat->Rat}{bas:Nat->Nat}{c:Nat->Nat->Rat}(w:WF n m A bas c)(hK: 1<=K)(hA:∀i k,i < m->k < n->isI K (A i k)):
  ∃D:Rat,D≠0/\isI (bd K n) D/\(∀i v,i < m->v < n+m->isI (bd K n) (D * c i v))/\
   (∀(g G:Nat->Rat),(∀j,j < m->g (bas j)=0)->(∀k,k < n->isI K (G k))->(∀y,InS n m A y->sm (n+m) (fun k=>g k * y k)=sm n (fun k=>G k * y k))->
    ∀v,v < n+m->isI (bd K n) (D * g v)):=by
 obtain⟨nb,n1,n2,n3,n4,n5⟩:=w.nb
 have key:∀(g:Nat->Rat) (u:Nat->Rat),(∀j,j < m->g (bas j)=0)->(∀k,isI K (u k))->(∀k,u k=sm (n+m) (fun v=>g v * av n A v k))->
   ∀v,v < n+m->isI (bd K n) (det n (fun r=>av n A (nb r)) * g v):=by
  intro g u hz hu hs v hv
  rcases n4 v hv with⟨p,hp,e⟩ | ⟨j,hj,e⟩
  ·have:=xp (fun r=>av n A (nb r)) hp (fun r=>g (nb r)) u (fun k=>by rw [hs];exact WF.sum (A:=A) (bas:=bas) (c:=c) n1 n2 n4 hz _)
   rw [<-e,Rat.mul_comm,<-this]
   refine rt n _ (fun r k hr=> ?_)
   unfold upd
   split
   ·exact hu k
   ·exact rG hK hA (n1 r hr) k
  ·rw [<-e,hz j hj,Rat.mul_zero]
   exact isI.zero _
 refine⟨_,n5,rt n _ (fun r k hr=>rG hK hA (n1 r hr) k),fun i v hi hv=> ?_,fun g G hz hG hs v hv=> ?_⟩
 ·refine key (c i) (av n A (bas i)) (w.z i · hi) (rG hK hA (w.hb i hi)) (fun k=> ?_) v hv
  exact(w.same _).2 (pA (m:=m) A k) i hi
 ·refine key g (fun k=>if k < n then G k else 0) hz (fun k=> ?_) (fun k=> ?_) v hv
  ·split
   ·exact hG k (by assumption)
   ·exact isI.zero _
  ·rw [hs _ (pA (m:=m) A k)]
   unfold av
   by_cases hk:k < n
   ·rw [if_pos hk,iy hk]
    ·rw [if_pos hk,if_pos hk,if_pos rfl];grind
    ·intro j hj hne
     rw [if_pos hk,if_pos hj,if_neg (fun h=>hne h.symm)];grind
   ·rw [if_neg hk]
    exact(li (fun j _=>by rw [if_neg hk];grind)).symm
open Go Go.Aev
structure Sy where
 n:Nat
 m:Nat
 A:Nat->Nat->Rat
 kd:Nat->Int
 to:Nat->Rat
structure Stt where
 bas:Nat->Nat
 c:Nat->Nat->Rat
 y:Nat->Rat
 z:Nat->Rat
def Stt.val(t:Stt)(v:Nat):Rat×Rat:=(t.y v,t.z v)
def Sy.up(S:Sy)(v:Nat):Rat×Rat:=(S.to (v - S.n),if S.kd (v - S.n)=2 then -1 else 0)
def vlt(a b:Rat×Rat):Prop:=a.1 < b.1\/a.1=b.1/\a.2 < b.2
instance (a b:Rat×Rat):Decidable (vlt a b):=by unfold vlt;infer_instance
def Sy.Brk(S:Sy)(t:Stt)(v:Nat):Prop:=S.n<=v/\(vlt (S.up v) (t.val v)\/S.kd (v - S.n)=3/\vlt (t.val v) (S.up v))
def Sy.CanUp(S:Sy)(t:Stt)(v:Nat):Prop:=v < S.n\/vlt (t.val v) (S.up v)
def Sy.CanDn(S:Sy)(t:Stt)(v:Nat):Prop:=v < S.n\/S.kd (v - S.n)≠3\/vlt (S.up v) (t.val v)
def Sy.fx(S:Sy)(v:Nat):Rat×Rat:=if v < S.n then(0,0) else S.up v
structure Sy.OK (S:Sy) (t:Stt):Prop where
 wf:WF S.n S.m S.A t.bas t.c
 hy:InS S.n S.m S.A t.y
 hz:InS S.n S.m S.A t.z
 fix:∀v,v < S.n+S.m->(∀i,i < S.m->t.bas i≠v)->t.val v=S.fx v
def Sy.way(S:Sy)(t:Stt)(b:Nat):Rat:=if vlt (S.up b) (t.val b) then -1 else 1
def Sy.Can(S:Sy)(t:Stt)(w:Rat)(v:Nat):Prop:=(0 < w->S.CanUp t v)/\(w < 0->S.CanDn t v)
structure Sy.Step (S:Sy) (t t':Stt) (i v:Nat):Prop where
 hi:i < S.m
 hv:v < S.n+S.m
 brk:S.Brk t (t.bas i)
 low:∀j,j < S.m->t.bas j < t.bas i->¬S.Brk t (t.bas j)
 ne:t.c i v≠0
 can:S.Can t (S.way t (t.bas i) * t.c i v) v
 lowv:∀u,u < v->t.c i u≠0->¬S.Can t (S.way t (t.bas i) * t.c i u) u
 bas:t'.bas=bV t.bas i v
def Stt.Bas(t:Stt)(m:Nat)(v:Nat):Prop:= ∃i,i < m/\t.bas i=v
def Ps(p q:Rat):Prop:=0 < p\/p=0/\0<=q
theorem Ps.sum{f g:Nat->Rat}:∀{n:Nat},(∀i,i < n->Ps (f i) (g i))->Ps (sm n f) (sm n g)
 | 0,_=> .inr ⟨rfl,Rat.le_refl⟩
 | n+1,h=>by
  have h1:=Ps.sum (n:=n) (fun i hi=>h i (by omega))
  have h2:=h n (by omega)
  unfold Ps at *
  simp only [sm]
  grind
theorem Ps.mul{a p q:Rat}(ha: 0<=a)(h:Ps p q):Ps (a * p) (a * q):=by
 rcases Rat.le_iff_lt_or_eq.1 ha with ha | ha
 ·unfold Ps at *
  rcases h with h | ⟨h,h2⟩
  ·exact .inl (Rat.mul_pos ha h)
  ·exact .inr ⟨by rw [h,Rat.mul_zero],Rat.mul_nonneg (Rat.le_of_lt ha) h2⟩
 ·subst ha
  exact .inr ⟨by grind,by grind⟩
theorem Ps.zero:Ps 0 0:= .inr ⟨rfl,Rat.le_refl⟩
structure Run (m:Nat) (s:Nat->Stt) (l e:Nat->Nat) (a b:Nat):Prop where
 upd:∀t,a<=t->t < b->∀v,(s (t+1)).Bas m v↔((s t).Bas m v/\v≠l t)\/v=e t
 lb:∀t,a<=t->t < b->(s t).Bas m (l t)
 eb:∀t,a<=t->t < b->¬(s t).Bas m (e t)
 back:∀v,(s a).Bas m v↔(s b).Bas m v
theorem Run.keepB{m:Nat}{s:Nat->Stt}{l e:Nat->Nat}{a b:Nat}(R:Run m s l e a b){v:Nat}(h:∀t,a<=t->t < b->l t≠v){x:Nat}(hx:a<=x):∀(d:Nat),x+d<=b->(s x).Bas m v->(s (x+d)).Bas m v
 | 0,_,h0=>h0
 | d+1,hd,h0=>by
  have:=R.keepB h hx d (by omega) h0
  exact(R.upd (x+d) (by omega) (by omega) v).2 (.inl ⟨this,fun h1=>h (x+d) (by omega) (by omega) h1.symm⟩)
theorem Run.leaves{m:Nat}{s:Nat->Stt}{l e:Nat->Nat}{a b:Nat}(R:Run m s l e a b){p:Nat}(h1:a<=p)(h2:p < b):∃q,a<=q/\q < b/\l q=e p:=by
 refine Classical.byContradiction fun hn=> ?_
 have hne:∀t,a<=t->t < b->l t≠e p:=fun t ha hb h=>hn ⟨t,ha,hb,h⟩
 have n1:(s (p+1)).Bas m (e p):=(R.upd p h1 h2 _).2 (.inr rfl)
 have n2:=R.keepB hne (x:=p+1) (by omega) (b - (p+1)) (by omega) n1
 rw [show p+1+ (b - (p+1))=b by omega] at n2
 have n4:=R.keepB hne (x:=a) (by omega) (p - a) (by omega) ((R.back _).2 n2)
 rw [show a+ (p - a)=p by omega] at n4
 exact R.eb p h1 h2 n4
theorem od(a:Rat×Rat):¬vlt a a:=by unfold vlt;grind
open Go Go.Aev
structure Sy.GOK (S:Sy) (G:Nat->Rat) (t:Stt) (g:Nat->Rat):Prop where
 z:∀j,j < S.m->g (t.bas j)=0
 same:∀y,InS S.n S.m S.A y->sm (S.n+S.m) (fun k=>g k * y k)=sm S.n (fun k=>G k * y k)
def Sy.Up2(S:Sy)(t:Stt)(v:Nat):Prop:=v < S.n\/t.y v < S.to (v - S.n)
def Sy.Dn2(S:Sy)(t:Stt)(v:Nat):Prop:=v < S.n\/S.kd (v - S.n)≠3\/S.to (v - S.n) < t.y v
def Sy.Can2(S:Sy)(t:Stt)(w:Rat)(v:Nat):Prop:=(0 < w->S.Up2 t v)/\(w < 0->S.Dn2 t v)
def Sy.Feas(S:Sy)(t:Stt):Prop:= ∀v,S.n<=v->v < S.n+S.m->t.y v<=S.to (v - S.n)/\(S.kd (v - S.n)=3->t.y v=S.to (v - S.n))
def sgR(q:Rat):Rat:=if 0 < q then 1 else -1
noncomputable def Stt.dir(t:Stt)(m v:Nat)(w:Rat):Nat->Rat:=fun k=>open Classical in if k=v then w else if h:∃j,j < m/\t.bas j=k then t.c h.choose v * w else 0
theorem sX(t:Stt)(m v:Nat)(w:Rat):t.dir m v w v=w:=by unfold Stt.dir;rw [if_pos rfl]
theorem wc{S:Sy}{t:Stt}(ok:S.OK t){v:Nat}(w:Rat){j:Nat}(hj:j < S.m)(hv:¬t.Bas S.m v):t.dir S.m v w (t.bas j)=t.c j v * w:=by
 unfold Stt.dir
 have hne:t.bas j≠v:=fun e=>hv ⟨j,hj,e⟩
 have hex:∃k,k < S.m/\t.bas k=t.bas j:=⟨j,hj,rfl⟩
 rw [if_neg hne,dif_pos hex]
 have hs:=hex.choose_spec
 have:hex.choose=j:=ok.wf.inj _ _ hs.1 hj hs.2
 rw [this]
theorem uw{m:Nat}(t:Stt){v:Nat}(w:Rat){k:Nat}(hk:k≠v)(hn:¬t.Bas m k):t.dir m v w k=0:=by
 unfold Stt.dir
 have hn':¬∃j,j < m/\t.bas j=k:=hn
 rw [if_neg hk,dif_neg hn']
structure Sy.Step2 (S:Sy) (t:Stt) (g:Nat->Rat) (t':Stt) (i v:Nat):Prop where
 hi:i < S.m
 hv:v < S.n+S.m
 ne:g v≠0
 can:S.Can2 t (g v) v
 low:∀u,u < v->g u≠0->¬S.Can2 t (g u) u
 bn:S.n<=t.bas i
 bd: 0 < t.c i v * sgR (g v)\/t.c i v * sgR (g v) < 0/\S.kd (t.bas i - S.n)=3
 far:∀j,j < S.m->S.n<=t.bas j->(0 < t.c j v * sgR (g v)\/t.c j v * sgR (g v) < 0/\S.kd (t.bas j - S.n)=3)->
  (S.to (t.bas i - S.n) - t.y (t.bas i)) / (t.c i v * sgR (g v))<=(S.to (t.bas j - S.n) - t.y (t.bas j)) / (t.c j v * sgR (g v))/\
  ((S.to (t.bas i - S.n) - t.y (t.bas i)) / (t.c i v * sgR (g v))= (S.to (t.bas j - S.n) - t.y (t.bas j)) / (t.c j v * sgR (g v))->t.bas i<=t.bas j)
 bas:t'.bas=bV t.bas i v
 y':∀k,k < S.n+S.m->t'.y k=t.y k+ (S.to (t.bas i - S.n) - t.y (t.bas i)) / (t.c i v * sgR (g v)) * t.dir S.m v (sgR (g v)) k
theorem Step2.nb{S:Sy}{G:Nat->Rat}{t t':Stt}{g:Nat->Rat}{i v:Nat}(gk:S.GOK G t g)(k:S.Step2 t g t' i v):¬t.Bas S.m v:=by
 rintro⟨j,hj,e⟩
 exact k.ne (by rw [<-e];exact gk.z j hj)
theorem zo{a d:Rat}(h: 0 < d/\0<=a\/a=0): 0<=a / d:=by
 rcases h with⟨h1,h2⟩ | h
 ·rw [Rat.div_def];exact Rat.mul_nonneg h2 (Rat.le_of_lt (Rat.inv_pos.2 h1))
 ·rw [h,Rat.div_def,Rat.zero_mul];exact Rat.le_refl
open Go Go.Aev
end Go.Aev.Tb
namespace Go.Aev.Wd.Lg
open Go Go.Aev Go.Aev.Gen Go.Aev.Wd Go.Aev.Tb
def aj(n:Nat)(rows:List R):Sy:=⟨n,rows.length,fun i k=>(((aQ rows i).of.getD k 0:Int):Rat),fun i=>(aQ rows i).kd,fun i=>((aQ rows i).tv:Rat)⟩
def TL.st(t:TL):Stt:=⟨fun i=>t.bas.getD i 0,fun i k=>nv (nAt (cAt t.cel i) k),fun v=>nv (vAt t.val v).1,fun v=>nv (vAt t.val v).2⟩
structure jN (n:Nat) (rows:List R):Prop where
 sz:Sz n rows
 of:∀r∈rows,∀c∈r.of, -1000000<=c/\c<=1000000
 len:∀r∈rows,r.of.length<=n
 kd:∀r∈rows,r.kd=1\/r.kd=2\/r.kd=3
def vv(a:Vl):Rat×Rat:=(nv a.1,nv a.2)
theorem oI(p q:Rat):cq p q < 0↔p < q:=by
 unfold cq
 by_cases h:p < q
 ·rw [if_pos h];exact⟨fun _=>h,fun _=>by decide⟩
 ·rw [if_neg h]
  by_cases h2:p=q
  ·rw [if_pos h2];exact⟨fun h'=>absurd h' (by decide),fun h'=>absurd h' h⟩
  ·rw [if_neg h2];exact⟨fun h'=>absurd h' (by decide),fun h'=>absurd h' h⟩
theorem cU(p q:Rat):cq p q=0↔p=q:=by
 unfold cq
 by_cases h:p < q
 ·rw [if_pos h];exact⟨fun h'=>absurd h' (by decide),fun h'=>by rw [h'] at h;exact absurd h (by grind)⟩
 ·rw [if_neg h]
  by_cases h2:p=q
  ·rw [if_pos h2];exact⟨fun _=>h2,fun _=>rfl⟩
  ·rw [if_neg h2];exact⟨fun h'=>absurd h' (by decide),fun h'=>absurd h' h2⟩
theorem pi(p q:Rat):cq p q > 0↔q < p:=by
 have h1:=oI p q
 have h2:=cU p q
 constructor
 ·intro h
  have a:¬p < q:=fun h'=>by have:=h1.2 h';omega
  have b:¬p=q:=fun h'=>by have:=h2.2 h';omega
  grind
 ·intro h
  have a:¬cq p q < 0:=fun h'=>by have:=h1.1 h';grind
  have b:¬cq p q=0:=fun h'=>by have:=h2.1 h';grind
  omega
theorem se(a b:Vl):c7 a b < 0↔vlt (vv a) (vv b):=by
 unfold c7 vlt vv
 by_cases h:cq (nv a.1) (nv b.1)=0
 ·rw [if_pos h,oI]
  have:=(cU _ _).1 h
  constructor
  ·intro h';exact .inr ⟨this,h'⟩
  ·rintro(h' | ⟨_,h'⟩)
   ·simp only at h';rw [this] at h';exact absurd h' (by grind)
   ·exact h'
 ·rw [if_neg h,oI]
  constructor
  ·intro h';exact .inl h'
  ·rintro(h' | ⟨h',_⟩)
   ·exact h'
   ·exact absurd ((cU _ _).2 h') h
theorem wu(a b:Vl):c7 a b > 0↔vlt (vv b) (vv a):=by
 unfold c7 vlt vv
 by_cases h:cq (nv a.1) (nv b.1)=0
 ·rw [if_pos h,pi]
  have:=(cU _ _).1 h
  constructor
  ·intro h';exact .inr ⟨this.symm,h'⟩
  ·rintro(h' | ⟨_,h'⟩)
   ·simp only at h';rw [this] at h';exact absurd h' (by grind)
   ·exact h'
 ·rw [if_neg h,pi]
  constructor
  ·intro h';exact .inl h'
  ·rintro(h' | ⟨h',_⟩)
   ·exact h'
   ·exact absurd ((cU _ _).2 h'.symm) h
theorem o6{n:Nat}{rows:List R}{v:Nat}(h:¬v < n):vv (upV n rows v)= (aj n rows).up v:=by
 unfold vv upV Sy.up aj
 simp only [if_neg h]
 by_cases hk:(aQ rows (v - n)).kd=2
 ·simp only [hk,if_true];rfl
 ·simp only [hk,if_false];rfl
theorem loB_iff{n:Nat}{rows:List R}{v:Nat}:loB n rows v=true↔¬v < n/\(aj n rows).kd (v - n)=3:=by
 unfold loB aj;simp
theorem ry{n:Nat}{rows:List R}{v:Nat}(h:loB n rows v=true):vv (loV n rows v)= (aj n rows).up v:=by
 have h':=loB_iff.1 h
 unfold vv loV Sy.up
 simp only [if_pos h]
 have hk:¬(aj n rows).kd (v - (aj n rows).n)=2:=by
  show ¬(aj n rows).kd (v - n)=2
  rw [h'.2];decide
 rw [if_neg hk];rfl
theorem sc(t:TL)(v:Nat):t.st.val v=vv (vAt t.val v):=rfl
theorem pk{n:Nat}{rows:List R}(t:TL)(v:Nat){w:Int}(hw:w≠0):d7 n rows t.val v w=true↔(if w > 0 then(aj n rows).CanUp t.st v else(aj n rows).CanDn t.st v):=by
 unfold d7
 by_cases h:w > 0
 ·rw [if_pos h,if_pos h]
  unfold Sy.CanUp
  show _↔v < n\/_
  by_cases hv:v < n
  ·simp [hv]
  ·rw [<-o6 hv,sc,<-se];simp [hv]
 ·rw [if_neg h,if_neg h]
  unfold Sy.CanDn
  show _↔v < n\/_\/_
  cases hlo:loB n rows v
  ·have:¬(¬v < n/\(aj n rows).kd (v - n)=3):=fun h'=>by rw [loB_iff.2 h'] at hlo;cases hlo
   simp only [Bool.not_false,Bool.true_or,true_iff]
   by_cases hv:v < n
   ·exact .inl hv
   ·exact .inr (.inl fun h'=>this ⟨hv,h'⟩)
  ·have h':=loB_iff.1 hlo
   have e:=ry hlo
   simp only [Bool.not_true,Bool.false_or,decide_eq_true_eq]
   rw [wu,e,<-sc]
   constructor
   ·intro h2;exact .inr (.inr h2)
   ·rintro(h2 | h2 | h2)
    ·exact absurd h2 h'.1
    ·exact absurd h'.2 h2
    ·exact h2
def cm(n:Nat)(rows:List R)(t:TL)(b:Nat):Int:=if vlt ((aj n rows).up b) (t.st.val b) then -1 else 1
theorem un(n:Nat)(rows:List R)(t:TL)(b:Nat):(aj n rows).way t.st b= ((cm n rows t b:Int):Rat):=by
 unfold Sy.way cm
 split <;> rfl
theorem qI{n:Nat}{rows:List R}{val:List Vl}{way:Int}:∀{row:List Nm} {k v:Nat},enF n rows val way row k=some v->
  k<=v/\v < k+row.length/\nv (nAt row (v - k))≠0/\d7 n rows val v (way * (nv (nAt row (v - k))).num.sign)=true/\
  ∀u,k<=u->u < v->nv (nAt row (u - k))≠0->d7 n rows val u (way * (nv (nAt row (u - k))).num.sign)=false
 | [],_,_,h=>by simp [enF] at h
 | x::xs,k,v,h=>by
  rw [enF] at h
  by_cases hx:nv x≠0/\d7 n rows val k (way * (nv x).num.sign)=true
  ·rw [if_pos hx] at h
   obtain rfl:k=v:=Option.some.inj h
   refine⟨Nat.le_refl _,by simp, ?_, ?_,fun u h1 h2=>by omega⟩
   ·rw [Nat.sub_self];exact hx.1
   ·rw [Nat.sub_self];exact hx.2
  ·rw [if_neg hx] at h
   obtain⟨h1,h2,h3,h4,h5⟩:=qI h
   have e:∀u,k+1<=u->nAt (x::xs) (u - k)=nAt xs (u - (k+1)):=fun u hu=>by
    have:u - k= (u - (k+1))+1:=by omega
    rw [this];rfl
   refine⟨by omega,by simp only [List.length_cons];omega,by rw [e v h1];exact h3,by rw [e v h1];exact h4,fun u hu1 hu2 hne=> ?_⟩
   by_cases hu:u=k
   ·subst hu
    rw [Nat.sub_self] at hne⊢
    have:nAt (x::xs) 0=x:=rfl
    rw [this] at hne⊢
    cases hc:d7 n rows val u (way * (nv x).num.sign)
    ·rfl
    ·exact absurd ⟨hne,hc⟩ hx
   ·rw [e u (by omega)] at hne⊢
    exact h5 u (by omega) hu2 hne
end Go.Aev.Wd.Lg
