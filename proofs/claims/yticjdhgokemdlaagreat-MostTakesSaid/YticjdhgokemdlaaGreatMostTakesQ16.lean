import Derived.Test.YticjdhgokemdlaaGreatMostTakesQ15
set_option linter.unusedSimpArgs false
set_option linter.unusedVariables false
namespace Go.Aev.Wd.Lg
open Go Go.Aev Go.Aev.Gen Go.Aev.Wd Go.Aev.Tb
theorem WF.congr{n m:Nat}{A:Nat->Nat->Rat}{bas bas':Nat->Nat}{c c':Nat->Nat->Rat}(h1:∀i,i < m->bas i=bas' i)(h2:∀i k,i < m->k < n+m->c i k=c' i k)
  (w:WF n m A bas c):WF n m A bas' c' where
 hb:=fun i hi=>by rw [<-h1 i hi];exact w.hb i hi
 inj:=fun i j hi hj e=>w.inj i j hi hj (by rw [h1 i hi,h1 j hj];exact e)
 z:=fun i j hi hj=>by
  rw [<-h1 j hj,<-h2 i _ hi (w.hb j hj)]
  exact w.z i j hi hj
 same:=fun y=>by
  rw [<-w.same y]
  unfold vT
  constructor
  ·intro h i hi
   rw [h1 i hi,h i hi]
   exact dA (fun k hk=>by rw [h2 i k hi hk])
  ·intro h i hi
   rw [<-h1 i hi,h i hi]
   exact dA (fun k hk=>by rw [h2 i k hi hk])
 nb:=by
  obtain⟨nb,n1,n2,n3,n4,n5⟩:=w.nb
  refine⟨nb,n1,n2,fun r i hr hi=>by rw [<-h1 i hi];exact n3 r i hr hi,fun v hv=> ?_,n5⟩
  rcases n4 v hv with h | ⟨i,hi,e⟩
  ·exact .inl h
  ·exact .inr ⟨i,hi,by rw [<-h1 i hi];exact e⟩
theorem gS{t:TL}{i:Nat}(hi:i < t.bas.length):t.bas[i]? =some (t.st.bas i):=by
 show _=some (t.bas.getD i 0)
 rw [List.getD_eq_getElem?_getD,List.getElem?_eq_getElem hi];rfl
theorem CP{l:List Nat}(h:l.Nodup){i j:Nat}{b:Nat}(hi:l[i]? =some b)(hj:l[j]? =some b):i=j:=by
 have h1:i < l.length:=(List.getElem?_eq_some_iff.1 hi).1
 have h2:j < l.length:=(List.getElem?_eq_some_iff.1 hj).1
 have e1:l[i]=b:=(List.getElem?_eq_some_iff.1 hi).2
 have e2:l[j]=b:=(List.getElem?_eq_some_iff.1 hj).2
 rcases Nat.lt_trichotomy i j with hlt | heq | hgt
 ·exact absurd (by rw [e1,e2]) (List.pairwise_iff_getElem.1 h i j h1 h2 hlt)
 ·exact heq
 ·exact absurd (by rw [e1,e2]) (List.pairwise_iff_getElem.1 h j i h2 h1 hgt)
theorem rT{l:List Nm}{i:Nat}(h:i < l.length)(x:Nm)(j:Nat):nAt (l.set i x) j=if j=i then x else nAt l j:=by
 unfold nAt
 rw [List.getD_eq_getElem?_getD,List.getD_eq_getElem?_getD,List.getElem?_set]
 by_cases hj:j=i
 ·subst hj;simp [h]
 ·have:¬i=j:=fun e=>hj e.symm
  simp [hj,this]
theorem BF{l:List (List Nm)}{i:Nat}(h:i < l.length)(x:List Nm)(j:Nat):cAt (l.set i x) j=if j=i then x else cAt l j:=by
 unfold cAt
 rw [List.getD_eq_getElem?_getD,List.getD_eq_getElem?_getD,List.getElem?_set]
 by_cases hj:j=i
 ·subst hj;simp [h]
 ·have:¬i=j:=fun e=>hj e.symm
  simp [hj,this]
theorem yW{l:List Nm}(g:Nm->Nm){k:Nat}(h:k < l.length):nAt (l.map g) k=g (nAt l k):=by
 unfold nAt
 rw [List.getD_eq_getElem?_getD,List.getD_eq_getElem?_getD,List.getElem?_map,List.getElem?_eq_getElem h];rfl
theorem xk{x:List Nm}{v b k:Nat}(hv:v < x.length)(hb:b < x.length)(hk:k < x.length)(hbv:b≠v):nv (nAt (prF x v b) k)=bT (fun j=>nv (nAt x j)) b v k:=by
 unfold prF bT
 rw [rT (by simp;exact hb),rT (by simp;exact hv),yW _ hk]
 by_cases h1:k=b
 ·rw [if_pos h1,if_pos h1];rfl
 ·rw [if_neg h1,if_neg h1]
  by_cases h2:k=v
  ·rw [if_pos h2,if_pos h2];rfl
  ·rw [if_neg h2,if_neg h2];rfl
theorem xI(c:Nm):∀(rs ys:List Nm),(sbF c rs ys).length=ys.length
 | [],_=>by simp [sbF]
 | _::_,[]=>by simp [sbF]
 | r::rs,y::ys=>by simp [sbF,xI c rs ys]
theorem vw(c:Nm):∀(rs ys:List Nm) (k:Nat),k < ys.length->ys.length<=rs.length->nv (nAt (sbF c rs ys) k)=nv (nAt ys k)+nv c * nv (nAt rs k)
 | [],ys,k,h,h'=>by simp at h';rw [h'] at h;simp at h
 | _::_,[],k,h,_=>by simp at h
 | r::rs,y::ys,0,_,_=>by
  rw [sbF]
  by_cases h0:nv r=0
  ·rw [if_pos h0]
   show nv y=nv y+nv c * nv r
   rw [h0];grind
  ·rw [if_neg h0];rfl
 | r::rs,y::ys,k+1,h,h'=>by
  rw [sbF]
  exact vw c rs ys k (by simpa using h) (by simpa using h')
theorem uR(row:List Nm)(v:Nat)(l:List Nm):(gh row v l).length=l.length:=by
 unfold gh
 split
 ·rfl
 ·rw [xI,List.length_set]
theorem uu{row l:List Nm}{v k:Nat}(hl:row.length=l.length)(hv:v < l.length)(hk:k < l.length)(hr:nv (nAt row v)=0):
  nv (nAt (gh row v l) k)=cT (fun j=>nv (nAt row j)) v (fun j=>nv (nAt l j)) k:=by
 unfold gh cT
 by_cases h0:nv (nAt l v)=0
 ·rw [if_pos h0]
  by_cases h2:k=v
  ·rw [if_pos h2,h2];exact h0
  ·rw [if_neg h2]
   show nv (nAt l k)=nv (nAt l k)+nv (nAt l v) * nv (nAt row k)
   rw [h0];grind
 ·rw [if_neg h0,vw _ _ _ _ (by rw [List.length_set];exact hk) (by rw [List.length_set];omega),rT hv]
  by_cases h2:k=v
  ·rw [if_pos h2,if_pos h2,h2,hr,nQ];grind
  ·rw [if_neg h2,if_neg h2]
theorem vO(row:List Nm)(v i:Nat):∀(xs:List (List Nm)) (k j:Nat),j < xs.length->cAt (scF row v i k xs) j=if k+j=i then cAt xs j else gh row v (cAt xs j)
 | [],_,_,h=>by simp at h
 | x::xs,k,0,_=>by rw [scF];rfl
 | x::xs,k,j+1,h=>by
  rw [scF]
  have:=vO row v i xs (k+1) j (by simpa using h)
  rw [show k+ (j+1)=k+1+j by omega]
  exact this
theorem pQ(v:Nat)(w:Vl):∀(bs:List Nat) (xs:List (List Nm)) (val:List Vl) (u:Nat),(∀b∈bs,b < val.length)->u∉bs->vAt (mvF v w bs xs val) u=vAt val u
 | [],_,_,_,_,_=>by simp [mvF]
 | _::_,[],_,_,_,_=>by simp [mvF]
 | b::bs,x::xs,val,u,hl,hu=>by
  rw [mvF,pQ v w bs xs _ u (fun b' hb'=>by rw [List.length_set];exact hl b' (List.mem_cons_of_mem _ hb')) (fun h=>hu (List.mem_cons_of_mem _ h)),
   kK (hl b List.mem_cons_self),if_neg (fun e=>hu (by rw [e];exact List.mem_cons_self))]
theorem sK(v:Nat)(w:Vl):∀(bs:List Nat) (xs:List (List Nm)) (val:List Vl) (j b:Nat),(∀b∈bs,b < val.length)->bs.Nodup->bs[j]? =some b->bs.length=xs.length->
  vAt (mvF v w bs xs val) b=gT (vAt val b) (dB w (nAt (cAt xs j) v))
 | [],_,_,_,_,_,_,h,_=>by simp at h
 | _::_,[],_,_,_,_,_,_,h=>by simp at h
 | b0::bs,x::xs,val,0,b,hl,hn,h,hx=>by
  simp only [List.getElem?_cons_zero,Option.some.injEq] at h
  subst h
  have hnb:=(List.nodup_cons.1 hn).1
  rw [mvF,pQ v w bs xs _ b0 (fun b' hb'=>by rw [List.length_set];exact hl b' (List.mem_cons_of_mem _ hb')) hnb,kK (hl b0 List.mem_cons_self),if_pos rfl]
  rfl
 | b0::bs,x::xs,val,j+1,b,hl,hn,h,hx=>by
  simp only [List.getElem?_cons_succ] at h
  have hnb:=List.nodup_cons.1 hn
  have hne:b≠b0:=fun e=>hnb.1 (by rw [<-e];exact List.mem_of_getElem? h)
  rw [mvF,sK v w bs xs _ j b (fun b' hb'=>by rw [List.length_set];exact hl b' (List.mem_cons_of_mem _ hb')) hnb.2 h (by simpa using hx),kK (hl b0 List.mem_cons_self),if_neg hne]
  rfl
structure TOk (n:Nat) (rows:List R) (t:TL):Prop where
 shp:Shp n rows.length t
 ok:(aj n rows).OK t.st
 ln:∀i b,t.bas[i]? =some b->ci b t.mp=some i
 ln0:∀v,v∉t.bas->ci v t.mp=none
 ky:ig t.mp
theorem BE{n:Nat}{rows:List R}(ro:jN n rows)(i k:Nat)(hi:i < rows.length):isI 1000000 ((aj n rows).A i k):=by
 refine isI.int ?_
 by_cases hk:k < (aQ rows i).of.length
 ·have:=ro.of _ (im hi) ((aQ rows i).of.getD k 0) (by
   rw [List.getD_eq_getElem?_getD,List.getElem?_eq_getElem hk]
   exact List.getElem_mem hk)
  omega
 ·rw [List.getD_eq_getElem?_getD,List.getElem?_eq_none (by omega)];decide
theorem pE{a:Nat}{D q:Rat}(hD:D≠0)(h1:isI (2 ^ a) D)(h2:isI (2 ^ a) (D * q)):QB a q:=by
 obtain⟨d,e1,l1⟩:=h1
 obtain⟨u,e2,l2⟩:=h2
 have hd:d≠0:=fun h=>hD (by rw [e1,h];rfl)
 have:q=Rat.divInt u d:=by
  rw [Rat.divInt_eq_div,<-e2,<-e1,Rat.div_def]
  have:=Rat.mul_inv_cancel _ hD
  grind
 rw [this]
 exact QB.divInt hd l2 l1
theorem xd{K:Nat}(hK: 1<=K):∀{a b:Nat},a<=b->bd K a<=bd K b
 | a,0,h=>by obtain rfl:a=0:=by omega
             exact Nat.le_refl _
 | a,b+1,h=>by
  by_cases e:a=b+1
  ·subst e;exact Nat.le_refl _
  ·have:=xd hK (a:=a) (b:=b) (by omega)
   rw [bd]
   have h1:bd K b<=K * bd K b:=Nat.le_mul_of_pos_left _ (by omega)
   have h2:K * bd K b<=(b+1) * (K * bd K b):=Nat.le_mul_of_pos_left _ (by omega)
   omega
theorem AL{n:Nat}(h:n<=12):bd 1000000 n<=2 ^ 270:=Nat.le_trans (xd (by decide) h) (by decide+kernel)
theorem TOk.den{n:Nat}{rows:List R}{t:TL}(ro:jN n rows)(h:TOk n rows t):∃D:Rat,D≠0/\isI (2 ^ 270) D/\
  (∀i v,i < rows.length->v < n+rows.length->isI (2 ^ 270) (D * nv (nAt (cAt t.cel i) v)))/\
  (∀(g G:Nat->Rat),(∀j,j < rows.length->g (t.st.bas j)=0)->(∀k,k < n->isI 1000000 (G k))->
   (∀y,InS n rows.length (aj n rows).A y->sm (n+rows.length) (fun k=>g k * y k)=sm n (fun k=>G k * y k))->∀v,v < n+rows.length->isI (2 ^ 270) (D * g v)):=by
 obtain⟨D,h1,h2,h3,h4⟩:=h.ok.wf.den (K:=1000000) (by decide) (fun i k hi _=>BE ro i k hi)
 have hb:=AL ro.sz.n
 exact⟨D,h1,h2.mono hb,fun i v hi hv=>(h3 i v hi hv).mono hb,fun g G a b c v hv=>(h4 g G a b c v hv).mono hb⟩
theorem TOk.cel{n:Nat}{rows:List R}{t:TL}(ro:jN n rows)(h:TOk n rows t):∀x∈t.cel,∀y∈x,QN 270 y:=by
 obtain⟨D,h1,h2,h3,_⟩:=h.den ro
 intro x hx y hy
 obtain⟨i,hi,e⟩:=List.getElem_of_mem hx
 obtain⟨k,hk,e2⟩:=List.getElem_of_mem hy
 have hcl:=h.shp.c
 have hr:=h.shp.r x hx
 have hc:cAt t.cel i=x:=by unfold cAt;rw [List.getD_eq_getElem?_getD,List.getElem?_eq_getElem hi];exact e
 have hn:nAt x k=y:=by unfold nAt;rw [List.getD_eq_getElem?_getD,List.getElem?_eq_getElem hk];exact e2
 have:=h3 i k (by omega) (by omega)
 rw [hc,hn] at this
 exact pE h1 h2 this
theorem yf{n:Nat}{rows:List R}(ro:jN n rows)(v:Nat)(hv:v < n+rows.length):isI 1000000 ((aj n rows).fx v).1/\isI 1000000 ((aj n rows).fx v).2:=by
 unfold Sy.fx
 show isI 1000000 (if v < n then(0,0) else(aj n rows).up v:Rat×Rat).1/\isI 1000000 (if v < n then(0,0) else(aj n rows).up v:Rat×Rat).2
 by_cases h:v < n
 ·rw [if_pos h];exact⟨isI.zero _,isI.zero _⟩
 ·rw [if_neg h]
  have:=ro.sz.tv _ (im (rows:=rows) (i:=v - n) (by omega))
  refine⟨isI.int (z:=(aQ rows (v - n)).tv) (by omega), ?_⟩
  unfold Sy.up
  dsimp only
  split
  ·exact⟨-1,rfl,by decide⟩
  ·exact isI.zero _
set_option exponentiation.threshold 400 in
theorem vq{n:Nat}{rows:List R}{t:TL}(h:TOk n rows t){D:Rat}(h2:isI (2 ^ 270) D)
  (h3:∀i v,i < rows.length->v < n+rows.length->isI (2 ^ 270) (D * nv (nAt (cAt t.cel i) v))) (sz:Sz n rows) {y:Nat->Rat} (hy:InS n rows.length (aj n rows).A y)
  (hf:∀v,v < n+rows.length->(∀i,i < rows.length->t.st.bas i≠v)->isI 1000000 (y v)) {v:Nat} (hv:v < n+rows.length):isI (2 ^ 300) (D * y v):=by
 have hn:=sz.n
 have hm:=sz.m
 by_cases hb:∃i,i < rows.length/\t.st.bas i=v
 ·obtain⟨i,hi,e⟩:=hb
  have:=(h.ok.wf.same y).2 hy i hi
  rw [<-e,this,<-qo]
  have hs:isI ((n+rows.length) * (2 ^ 270 * 1000000)) (sm (n+rows.length) (fun k=>D * (t.st.c i k * y k))):=by
   refine rI (fun k hk=> ?_)
   by_cases hbk:∃j,j < rows.length/\t.st.bas j=k
   ·obtain⟨j,hj,e'⟩:=hbk
    rw [<-e',h.ok.wf.z i j hi hj,Rat.zero_mul,Rat.mul_zero];exact isI.zero _
   ·have a:=(h3 i k hi hk).mul (hf k hk (fun j hj e'=>hbk ⟨j,hj,e'⟩))
    rw [<-Rat.mul_assoc];exact a
  refine hs.mono ?_
  have:(n+rows.length) * (2 ^ 270 * 1000000)<=52 * (2 ^ 270 * 1000000):=Nat.mul_le_mul_right _ (by omega)
  exact Nat.le_trans this (by decide+kernel)
 ·have a:=h2.mul (hf v hv (fun j hj e'=>hb ⟨j,hj,e'⟩))
  exact a.mono (by decide+kernel)
theorem TOk.val{n:Nat}{rows:List R}{t:TL}(ro:jN n rows)(h:TOk n rows t):∀u,u < n+rows.length->VB 300 (vAt t.val u):=by
 obtain⟨D,h1,h2,h3,_⟩:=h.den ro
 intro u hu
 have hm: 2 ^ 270<=2 ^ 300:=by decide+kernel
 refine⟨pE h1 (h2.mono hm) (vq h h2 h3 ro.sz h.ok.hy (fun v hv hb=> ?_) hu),pE h1 (h2.mono hm) (vq h h2 h3 ro.sz h.ok.hz (fun v hv hb=> ?_) hu)⟩
 ·have:=congrArg Prod.fst (h.ok.fix v hv hb)
  show isI _ (t.st.val v).1
  rw [this];exact(yf ro v hv).1
 ·have:=congrArg Prod.snd (h.ok.fix v hv hb)
  show isI _ (t.st.val v).2
  rw [this];exact(yf ro v hv).2
open Go Go.Aev Go.Aev.Gen Go.Aev.Wd Go.Aev.Tb
theorem eM{t:TL}{n m:Nat}(h:Shp n m t){i:Nat}(hi:i < m):t.st.bas i∈t.bas:=List.mem_of_getElem? (gS (by rw [h.b];exact hi))
theorem gP{t:TL}{n m:Nat}(h:Shp n m t){b:Nat}(hb:b∈t.bas):∃i,i < m/\t.st.bas i=b/\t.bas[i]? =some b:=by
 obtain⟨i,hi,e⟩:=List.getElem_of_mem hb
 have h1:t.bas[i]? =some b:=by rw [List.getElem?_eq_getElem hi,e]
 have h2:=gS (t:=t) hi
 rw [h1] at h2
 exact⟨i,by rw [<-h.b];exact hi,(Option.some.inj h2).symm,h1⟩
theorem TOk.nbas{n:Nat}{rows:List R}{t:TL}(h:TOk n rows t){i v:Nat}(hi:i < rows.length)(hne:nv (nAt (cAt t.cel i) v)≠0):v∉t.bas:=by
 intro hb
 obtain⟨j,hj,e,_⟩:=gP h.shp hb
 exact hne (by rw [<-e];exact h.ok.wf.z i j hi hj)
theorem pS{n m:Nat}{t:TL}(h:Shp n m t)(v:Nat)(w:Vl){u:Nat}(hv:v < n+m)(hu:u∉t.bas):vAt (mvL v w t).val u=if u=v then gT (vAt t.val v) w else vAt t.val u:=by
 show vAt (mvF v w t.bas t.cel (t.val.set v _)) u=_
 rw [pQ v w t.bas t.cel _ u (fun b hb=>by rw [List.length_set,h.v];exact h.lt b hb) hu,kK (by rw [h.v];exact hv)]
theorem mB{n m:Nat}{t:TL}(h:Shp n m t)(v:Nat)(w:Vl){j b:Nat}(hv:v < n+m)(hvb:v∉t.bas)(hj:t.bas[j]? =some b):
  vAt (mvL v w t).val b=gT (vAt t.val b) (dB w (nAt (cAt t.cel j) v)):=by
 show vAt (mvF v w t.bas t.cel (t.val.set v _)) b=_
 rw [sK v w t.bas t.cel _ j b (fun b hb=>by rw [List.length_set,h.v];exact h.lt b hb) h.nd hj (by rw [h.b,h.c]),kK (by rw [h.v];exact hv),
  if_neg (fun e=>hvb (by rw [<-e];exact List.mem_of_getElem? hj))]
theorem yO{n:Nat}{rows:List R}{t:TL}(h:TOk n rows t)(v:Nat)(w:Vl)(hv:v < n+rows.length)(hvb:v∉t.bas):
  InS n rows.length (aj n rows).A (mvL v w t).st.y/\InS n rows.length (aj n rows).A (mvL v w t).st.z:=by
 have key:∀(g:Vl->Rat) (q:Rat),(∀a,g (gT a w)=g a+q)->(∀a k,g (gT a (dB w k))=g a+q * nv k)->InS n rows.length (aj n rows).A (fun u=>g (vAt t.val u))->
   InS n rows.length (aj n rows).A (fun u=>g (vAt (mvL v w t).val u)):=by
  intro g q g1 g2 hin
  refine(h.ok.wf.same _).1 (fun j hj=> ?_)
  have h0:=(h.ok.wf.same _).2 hin j hj
  have hb:=gS (t:=t) (i:=j) (by rw [h.shp.b];exact hj)
  show g (vAt (mvL v w t).val (t.st.bas j))=_
  rw [mB h.shp v w hv hvb hb,g2]
  have h0':g (vAt t.val (t.st.bas j))=sm (n+rows.length) (fun k=>t.st.c j k * g (vAt t.val k)):=h0
  rw [h0']
  have e:sm (n+rows.length) (fun k=>t.st.c j k * g (vAt (mvL v w t).val k))=sm (n+rows.length) (fun k=>1 * (t.st.c j k * g (vAt t.val k))+q * (if k=v then t.st.c j k else 0)):=by
   refine dA (fun k hk=> ?_)
   by_cases hkb:k∈t.bas
   ·obtain⟨i,hi,e,_⟩:=gP h.shp hkb
    have hz:t.st.c j k=0:=by rw [<-e];exact h.ok.wf.z j i hj hi
    have hkv:k≠v:=fun e'=>hvb (by rw [<-e'];exact hkb)
    rw [hz,if_neg hkv];grind
   ·rw [pS h.shp v w hv hkb]
    by_cases hkv:k=v
    ·subst hkv
     rw [if_pos rfl,if_pos rfl,g1];grind
    ·rw [if_neg hkv,if_neg hkv];grind
  show _=sm (n+rows.length) (fun k=>t.st.c j k * g (vAt (mvL v w t).val k))
  rw [e,iz,jQ hv]
  show _+q * nv (nAt (cAt t.cel j) v)=1 * _+q * nv (nAt (cAt t.cel j) v)
  grind
 exact⟨key (fun a=>nv a.1) (nv w.1) (fun a=>rfl) (fun a k=>rfl) h.ok.hy,key (fun a=>nv a.2) (nv w.2) (fun a=>rfl) (fun a k=>rfl) h.ok.hz⟩
theorem Dt{n m:Nat}{t:TL}(h:Shp n m t){i v b:Nat}(row:List Nm)(eg:Bool)(hi:i < m)(j:Nat):(pvL i v b row eg t).st.bas j=bV t.st.bas i v j:=by
 show(t.bas.set i v).getD j 0=if j=i then v else t.bas.getD j 0
 rw [List.getD_eq_getElem?_getD,List.getD_eq_getElem?_getD,List.getElem?_set]
 have hb:=h.b
 by_cases hj:j=i
 ·subst hj;simp [hb,hi]
 ·have:¬i=j:=fun e=>hj e.symm
  simp [hj,this]
theorem BW{n m:Nat}{t:TL}(h:Shp n m t){i v:Nat}(eg:Bool)(hi:i < m)(hv:v < n+m)(hbv:t.st.bas i≠v){j k:Nat}(hj:j < m)(hk:k < n+m):
  (pvL i v (t.st.bas i) (prF (cAt t.cel i) v (t.st.bas i)) eg t).st.c j k=gH t.st.c t.st.bas i v j k:=by
 have hri:=h.row hi
 have hrj:=h.row hj
 have hcl:=h.c
 have hbN:=h.lt _ (eM h hi)
 show nv (nAt (cAt ((scF (prF (cAt t.cel i) v (t.st.bas i)) v i 0 t.cel).set i (prF (cAt t.cel i) v (t.st.bas i))) j) k)=_
 rw [BF (by rw [pd];omega)]
 unfold gH
 have hpl:(prF (cAt t.cel i) v (t.st.bas i)).length=n+m:=by unfold prF;simp;exact hri
 have hpr:∀k,k < n+m->nv (nAt (prF (cAt t.cel i) v (t.st.bas i)) k)=bT (t.st.c i) (t.st.bas i) v k:=fun k hk=>xk (by omega) (by omega) (by omega) hbv
 by_cases hji:j=i
 ·rw [if_pos hji,if_pos hji]
  exact hpr k hk
 ·rw [if_neg hji,if_neg hji,vO _ _ _ _ _ _ (by omega),if_neg (by omega)]
  rw [uu (by omega) (by omega) (by omega) (by rw [hpr v hv];exact lJ hbv)]
  unfold cT
  by_cases hkv:k=v
  ·rw [if_pos hkv,if_pos hkv]
  ·rw [if_neg hkv,if_neg hkv]
   show nv (nAt (cAt t.cel j) k)+nv (nAt (cAt t.cel j) v) * nv (nAt (prF (cAt t.cel i) v (t.st.bas i)) k)=_
   rw [hpr k hk];rfl
theorem B0{n m:Nat}{t:TL}(h:Shp n m t){i v b:Nat}(row:List Nm)(eg:Bool)(hi:i < m)(hv:v < n+m)(hvb:v∉t.bas)(hrow:row.length=n+m):Shp n m (pvL i v b row eg t) where
 b:=by show(t.bas.set i v).length=m;rw [List.length_set];exact h.b
 c:=by show((scF row v i 0 t.cel).set i row).length=m;rw [List.length_set,pd];exact h.c
 r:=fun x hx=>by
  have hx:x∈(scF row v i 0 t.cel).set i row:=hx
  rcases List.mem_or_eq_of_mem_set hx with hx | hx
  ·have gen:∀(xs:List (List Nm)) (k:Nat),(∀x∈xs,x.length=n+m)->∀x∈scF row v i k xs,x.length=n+m:=by
    intro xs
    induction xs with
    | nil=>intro k _ x hx;simp [scF] at hx
    | cons y ys ih=>
     intro k hl x hx
     rw [scF] at hx
     rcases List.mem_cons.1 hx with hx | hx
     ·rw [hx]
      split
      ·exact hl y List.mem_cons_self
      ·rw [uR];exact hl y List.mem_cons_self
     ·exact ih (k+1) (fun x hx=>hl x (List.mem_cons_of_mem _ hx)) x hx
   exact gen t.cel 0 h.r x hx
  ·rw [hx];exact hrow
 v:=h.v
 lt:=fun b hb=>by
  rcases List.mem_or_eq_of_mem_set hb with hb | hb
  ·exact h.lt b hb
  ·rw [hb];exact hv
 nd:=by
  show(t.bas.set i v).Nodup
  refine List.pairwise_iff_getElem.2 (fun a b ha hb hab=> ?_)
  rw [List.getElem_set,List.getElem_set]
  have ha':a < t.bas.length:=by simpa using ha
  have hb':b < t.bas.length:=by simpa using hb
  split <;> split
  ·omega
  ·exact fun e=>hvb (by rw [e];exact List.getElem_mem hb')
  ·exact fun e=>hvb (by rw [<-e];exact List.getElem_mem ha')
  ·exact List.pairwise_iff_getElem.1 h.nd a b ha' hb' hab
theorem TOk.pivot{n:Nat}{rows:List R}{t:TL}(h:TOk n rows t){i v:Nat}(w:Vl)(eg:Bool)(hi:i < rows.length)(hv:v < n+rows.length)(hne:nv (nAt (cAt t.cel i) v)≠0)
  (hval:vv (vAt (mvL v w t).val (t.st.bas i))= (aj n rows).fx (t.st.bas i)):
  TOk n rows (pvL i v (t.st.bas i) (prF (cAt t.cel i) v (t.st.bas i)) eg (mvL v w t))/\
   ∀j,(pvL i v (t.st.bas i) (prF (cAt t.cel i) v (t.st.bas i)) eg (mvL v w t)).st.bas j=bV t.st.bas i v j:=by
 have hvb:=h.nbas hi hne
 have hbi:=eM h.shp hi
 have hbv:t.st.bas i≠v:=fun e=>hvb (by rw [<-e];exact hbi)
 have hsm:Shp n rows.length (mvL v w t):=h.shp.mv v w
 have hri:=h.shp.row hi
 have hpl:(prF (cAt t.cel i) v (t.st.bas i)).length=n+rows.length:=by unfold prF;simp;exact hri
 have hs2:Shp n rows.length (pvL i v (t.st.bas i) (prF (cAt t.cel i) v (t.st.bas i)) eg (mvL v w t)):=B0 hsm _ _ hi hv hvb hpl
 have hbas:∀j,(pvL i v (t.st.bas i) (prF (cAt t.cel i) v (t.st.bas i)) eg (mvL v w t)).st.bas j=bV t.st.bas i v j:=fun j=>Dt hsm (b:=t.st.bas i) (prF (cAt t.cel i) v (t.st.bas i)) eg hi j
 obtain⟨iny,inz⟩:=yO h v w hv hvb
 refine⟨⟨hs2,⟨?_,iny,inz,fun u hu hub=> ?_⟩, ?_, ?_, ?_⟩,hbas⟩
 ·refine WF.congr (fun j _=>(hbas j).symm) (fun j k hj hk=> ?_) (Ei h.ok.wf (i:=i) (v:=v) hi hv hne)
  exact(BW hsm eg hi hv hbv hj hk).symm
 ·have huv:u≠v:=fun e=>hub i hi (by rw [hbas];unfold bV;rw [if_pos rfl,e])
  show vv (vAt (mvL v w t).val u)=_
  by_cases hub2:u∈t.bas
  ·obtain⟨j,hj,e,_⟩:=gP h.shp hub2
   by_cases hji:j=i
   ·rw [<-e,hji];exact hval
   ·exact absurd (by rw [hbas];unfold bV;rw [if_neg hji,e]) (hub j hj)
  ·rw [pS h.shp v w hv hub2,if_neg huv]
   exact h.ok.fix u hu (fun j hj e=>hub2 (by rw [<-e];exact eM h.shp hj))
 ·intro j b hj
  have hj:(t.bas.set i v)[j]? =some b:=hj
  show ci b (eX v i (fv (t.st.bas i) t.mp))=some j
  rw [oO,lT _ _ _ h.ky]
  rw [List.getElem?_set] at hj
  by_cases hij:i=j
  ·rw [if_pos hij] at hj
   have hlt:i < t.bas.length:=by rw [h.shp.b];exact hi
   rw [if_pos hlt] at hj
   obtain rfl:=Option.some.inj hj
   rw [if_pos rfl,hij]
  ·rw [if_neg hij] at hj
   have hbm:=List.mem_of_getElem? hj
   rw [if_neg (fun e=>hvb (by rw [<-e];exact hbm)),if_neg (fun e=>hij (CP h.shp.nd (gS (by rw [h.shp.b];exact hi)) (by rw [hj,e])))]
   exact h.ln j b hj
 ·intro u hu
  have hu:u∉t.bas.set i v:=hu
  show ci u (eX v i (fv (t.st.bas i) t.mp))=none
  have hlt:i < t.bas.length:=by rw [h.shp.b];exact hi
  have huv:u≠v:=fun e=>hu (by rw [e];exact List.mem_set hlt _)
  rw [oO,if_neg huv,lT _ _ _ h.ky]
  split
  ·rfl
  ·rename_i hne2
   refine h.ln0 u (fun hm=>hu ?_)
   obtain⟨j,hj,e,hg⟩:=gP h.shp hm
   have hij:i≠j:=fun e'=>hne2 (by rw [<-e,e'])
   refine List.mem_of_getElem? (i:=j) ?_
   rw [List.getElem?_set_ne hij];exact hg
 ·exact yl _ _ _ (sG _ _ h.ky)
theorem wg{w:Int}(hw:w=1\/w= -1){q:Rat}(hq:q≠0):w * q.num.sign≠0/\(w * q.num.sign > 0↔0 < (w:Rat) * q):=by
 have hn:q.num≠0:=fun h=>hq (Rat.num_eq_zero.1 h)
 rcases Int.lt_or_gt_of_ne hn with h | h
 ·have hs:=Int.sign_eq_neg_one_of_neg h
  have hlt:q < 0:=by
   refine Rat.not_le.1 fun hle=> ?_
   have:=Rat.num_nonneg.2 hle
   omega
  rw [hs]
  rcases hw with rfl | rfl
  ·refine⟨by decide,⟨fun h=>absurd h (by decide),fun h=> ?_⟩⟩
   have:((1:Int):Rat)=1:=rfl
   rw [this] at h
   exact absurd h (by grind)
  ·refine⟨by decide,⟨fun _=> ?_,fun _=>by decide⟩⟩
   have:((-1:Int):Rat)= -1:=rfl
   rw [this];grind
 ·have hs:=Int.sign_eq_one_of_pos h
  have hlt: 0 < q:=by
   have h1: 0<=q:=Rat.num_nonneg.1 (by omega)
   grind
  rw [hs]
  rcases hw with rfl | rfl
  ·refine⟨by decide,⟨fun _=> ?_,fun _=>by decide⟩⟩
   have:((1:Int):Rat)=1:=rfl
   rw [this];grind
  ·refine⟨by decide,⟨fun h=>absurd h (by decide),fun h=> ?_⟩⟩
   have:((-1:Int):Rat)= -1:=rfl
   rw [this] at h
   exact absurd h (by grind)
theorem rU{n:Nat}{rows:List R}(t:TL){w:Int}(hw:w=1\/w= -1){q:Rat}(hq:q≠0){v:Nat}:
  d7 n rows t.val v (w * q.num.sign)=true↔(aj n rows).Can t.st ((w:Rat) * q) v:=by
 obtain⟨h1,h2⟩:=wg hw hq
 have hne:(w:Rat) * q≠0:=by
  rcases hw with rfl | rfl
  ·have:((1:Int):Rat)=1:=rfl
   rw [this];grind
  ·have:((-1:Int):Rat)= -1:=rfl
   rw [this];grind
 rw [pk t v h1]
 unfold Sy.Can
 by_cases hp:w * q.num.sign > 0
 ·have hp':=h2.1 hp
  rw [if_pos hp]
  exact⟨fun h=>⟨fun _=>h,fun h'=>absurd h' (by grind)⟩,fun h=>h.1 hp'⟩
 ·have hp':¬0 < (w:Rat) * q:=fun h=>hp (h2.2 h)
  rw [if_neg hp]
  exact⟨fun h=>⟨fun h'=>absurd h' hp',fun _=>h⟩,fun h=>h.2 (by grind)⟩
theorem TOk.step{n:Nat}{rows:List R}{t:TL}(h:TOk n rows t){i v:Nat}(eg:Bool)(hi:i < rows.length)(hv:v < n+rows.length)
  (hbr:(aj n rows).Brk t.st (t.st.bas i)) (hen:enF n rows t.val (cm n rows t (t.st.bas i)) (cAt t.cel i) 0=some v) (hlow:∀j,j < rows.length->t.st.bas j < t.st.bas i->¬(aj n rows).Brk t.st (t.st.bas j)):
  TOk n rows (stL n rows eg (t.st.bas i) (cm n rows t (t.st.bas i)) i v t)/\(aj n rows).Step t.st (stL n rows eg (t.st.bas i) (cm n rows t (t.st.bas i)) i v t).st i v:=by
 obtain⟨_,_,e3,e4,e5⟩:=qI hen
 rw [Nat.sub_zero] at e3 e4
 have hvb:=h.nbas hi e3
 have hbn:¬t.st.bas i < n:=Nat.not_lt.2 hbr.1
 have hg:=gS (t:=t) (i:=i) (by rw [h.shp.b];exact hi)
 have hw3:cm n rows t (t.st.bas i)=1\/cm n rows t (t.st.bas i)= -1:=by unfold cm;split;exact .inr rfl;exact .inl rfl
 have hto:vv (if cm n rows t (t.st.bas i) > 0 then loV n rows (t.st.bas i) else upV n rows (t.st.bas i))= (aj n rows).fx (t.st.bas i):=by
  unfold Sy.fx
  show _=if t.st.bas i < n then((0:Rat),(0:Rat)) else _
  rw [if_neg hbn]
  by_cases hup:vlt ((aj n rows).up (t.st.bas i)) (t.st.val (t.st.bas i))
  ·have:cm n rows t (t.st.bas i)= -1:=by unfold cm;rw [if_pos hup]
   rw [this,if_neg (by decide)]
   exact o6 hbn
  ·have:cm n rows t (t.st.bas i)=1:=by unfold cm;rw [if_neg hup]
   rw [this,if_pos (by decide)]
   rcases hbr.2 with h' | ⟨h',_⟩
   ·exact absurd h' hup
   ·exact ry (loB_iff.2 ⟨hbn,h'⟩)
 have hval:vv (vAt (mvL v (stW n rows (t.st.bas i) (cm n rows t (t.st.bas i)) i v t) t).val (t.st.bas i))= (aj n rows).fx (t.st.bas i):=by
  rw [mB h.shp v _ hv hvb hg,<-hto]
  unfold stW
  generalize (if cm n rows t (t.st.bas i) > 0 then loV n rows (t.st.bas i) else upV n rows (t.st.bas i))=to at *
  have ha:nv (nAt (cAt t.cel i) v) * (nv (nAt (cAt t.cel i) v))⁻¹ =1:=Rat.mul_inv_cancel _ e3
  refine Prod.ext ?_ ?_
  ·show nv (vAt t.val (t.st.bas i)).1+ (nv to.1 - nv (vAt t.val (t.st.bas i)).1) * (((1:Int):Rat) / nv (nAt (cAt t.cel i) v)) * nv (nAt (cAt t.cel i) v)=nv to.1
   rw [Rat.div_def]
   have:((1:Int):Rat)=1:=rfl
   rw [this]
   grind
  ·show nv (vAt t.val (t.st.bas i)).2+ (nv to.2 - nv (vAt t.val (t.st.bas i)).2) * (((1:Int):Rat) / nv (nAt (cAt t.cel i) v)) * nv (nAt (cAt t.cel i) v)=nv to.2
   rw [Rat.div_def]
   have:((1:Int):Rat)=1:=rfl
   rw [this]
   grind
 obtain⟨p1,p2⟩:=h.pivot (i:=i) (v:=v) (stW n rows (t.st.bas i) (cm n rows t (t.st.bas i)) i v t) eg hi hv e3 hval
 refine⟨p1,⟨hi,hv,hbr,hlow,e3, ?_,fun u hu hne=> ?_,funext p2⟩⟩
 ·rw [un]
  exact(rU t hw3 e3).1 e4
 ·rw [un]
  intro hc
  have h1:=e5 u (Nat.zero_le _) hu (by rw [Nat.sub_zero];exact hne)
  rw [Nat.sub_zero] at h1
  have h2:=(rU (n:=n) (rows:=rows) t hw3 (q:=nv (nAt (cAt t.cel i) u)) (v:=u) hne).2 hc
  rw [h1] at h2
  cases h2
open Go Go.Aev Go.Aev.Gen Go.Aev.Wd Go.Aev.Tb
open Go Go.Aev Go.Aev.Gen Go.Aev.Wd Go.Aev.Tb
section
variable {n:Nat} {rows:List R} (er:Bool)
end
open Go Go.Aev Go.Aev.Gen Go.Aev.Wd Go.Aev.Tb
abbrev LF:=Int×Vl×Bool
def bdV(n:Nat)(rows:List R)(x:Nat)(a:Nm):Vl:=if nv a < 0 then loV n rows x else upV n rows x
def bdB(n:Nat)(rows:List R)(x:Nat)(a:Nm):Bool:=if nv a < 0 then loB n rows x else !decide (x < n)
def dsV(n:Nat)(rows:List R)(t:TL)(x:Nat)(a:Nm):Vl:=dB (wP (bdV n rows x a) (vAt t.val x)) (ov (iN 1) a)
def csT(n:Nat)(rows:List R)(t:TL)(x:Nat)(a:Nm)(i:Int)(s:LF):Prop:=
 (if s.2.2=true then c7 s.2.1 (dsV n rows t x a) else 1) > 0\/((if s.2.2=true then c7 s.2.1 (dsV n rows t x a) else 1)=0/\i>=0/\(s.1 < 0\/(x:Int) < (t.bas.getD s.1.toNat 0:Nat)))
instance (n:Nat) (rows:List R) (t:TL) (x:Nat) (a:Nm) (i:Int) (s:LF):Decidable (csT n rows t x a i s):=by unfold csT;infer_instance
def csF(n:Nat)(rows:List R)(t:TL)(x:Nat)(a:Nm)(i:Int)(s:LF):LF:=
 if nv a=0\/bdB n rows x a=false then s else if csT n rows t x a i s then(i,dsV n rows t x a,true) else s
theorem lR(q:Rat):q.num.sign < 0↔q < 0:=by
 constructor
 ·intro h
  refine Rat.not_le.1 fun hle=> ?_
  have h1:=Rat.num_nonneg.2 hle
  rcases Int.lt_or_eq_of_le h1 with h2 | h2
  ·rw [Int.sign_eq_one_of_pos h2] at h;exact absurd h (by decide)
  ·rw [<-h2] at h;exact absurd h (by decide)
 ·intro h
  have h1:¬0<=q.num:=fun h1=>by have:=Rat.num_nonneg.1 h1;grind
  rw [Int.sign_eq_neg_one_of_neg (by omega)];decide
section
variable {n:Nat} {rows:List R} (f:Fl) (t:TL)
end
open Go Go.Aev Go.Aev.Gen Go.Aev.Wd Go.Aev.Tb
def lmF(n:Nat)(rows:List R)(t:TL)(v:Nat)(way:Int):List Nat->List (List Nm)->Nat->LF->LF
 | b::bs,x::xs,i,s=>lmF n rows t v way bs xs (i+1) (csF n rows t b (tm (nAt x v) (iN way)) (i:Int) s)
 | _,_,_,s=>s
def bD(n:Nat)(rows:List R)(t:TL)(v:Nat)(way:Int):LF:=lmF n rows t v way t.bas t.cel 0 (csF n rows t v (iN way) (-1) (-1,(none,none),false))
section
variable {n:Nat} {rows:List R} (f:Fl) (t:TL)
end
end Go.Aev.Wd.Lg
