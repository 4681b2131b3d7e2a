import Derived.Test.YtdjbbnlgpddbmaaAwayAllQ13
set_option linter.all false
namespace Go.Aev.Wd.Lg
open Go Go.Aev Go.Aev.Gen Go.Aev.Wd Go.Aev.Tb Go.IntKind
theorem WF.congr{n m:Nat}{A:Nat->Nat->Rat}{ah bas':Nat->Nat}{c c':Nat->Nat->Rat}(h1:∀i,i < m->ah i=bas' i)(h2:∀i k,i < m->k < n+m->c i k=c' i k)
  (w:WF n m A ah c):WF n m A bas' c' where
 hb:=λi hi=>by rw [<-h1 i hi];exact w.hb i hi
 inj:=λi j hi hj e=>w.inj i j hi hj (by rw [h1 i hi,h1 j hj];exact e)
 z:=λi j hi hj=>by rw [<-h1 j hj,<-h2 i _ hi (w.hb j hj)];exact w.z i j hi hj
 same:=λy=>by
  rw [<-w.same y];unfold x9;constructor
  .intro h i hi;rw [h1 i hi,h i hi];exact eJ (λk hk=>by rw [h2 i k hi hk])
  .intro h i hi;rw [<-h1 i hi,h i hi];exact eJ (λk hk=>by rw [h2 i k hi hk])
 nb:=by
  obtain⟨nb,n1,n2,n3,n4,n5⟩:=w.nb;refine⟨nb,n1,n2,λr i hr hi=>by rw [<-h1 i hi];exact n3 r i hr hi,λv hv=> ?_,n5⟩;rcases n4 v hv with h | ⟨i,hi,e⟩
  .exact .inl h
  .exact .inr ⟨i,hi,by rw [<-h1 i hi];exact e⟩
theorem lH{t:TL}{i:Nat}(hi:i < t.ah.length):t.ah[i]? =some (t.st.ah i):=by show _=some (t.ah.getD i 0);rw [RO,RR hi];rfl
theorem Ol{l:List Nat}(h:l.Nodup){i j:Nat}{b:Nat}(hi:l[i]? =some b)(g:l[j]? =some b):i=j:=by
 have h1:i < l.length:=(RS.1 hi).1;have d:j < l.length:=(RS.1 g).1;have a:l[i]=b:=(RS.1 hi).2;have c:l[j]=b:=(RS.1 g).2;rcases Nat.lt_trichotomy i j with k | heq | e
 .exact absurd (by rw [a,c]) (TX.1 h i j h1 d k)
 .exact heq
 .exact absurd (by rw [a,c]) (TX.1 h j i d h1 e)
theorem AH{l:List Nm}{i:Nat}(h:i < l.length)(x:Nm)(j:Nat):aF (l.set i x) j=if j=i then x else aF l j:=by
 unfold aF;rw [RO,RO,SW];by_cases a:j=i
 .subst a;simp [h]
 .have:¬i=j:=λe=>a e.symm;simp [a,this]
theorem Km{l:List (List Nm)}{i:Nat}(h:i < l.length)(x:List Nm)(j:Nat):ay (l.set i x) j=if j=i then x else ay l j:=by
 unfold ay;rw [RO,RO,SW];by_cases a:j=i
 .subst a;simp [h]
 .have:¬i=j:=λe=>a e.symm;simp [a,this]
theorem Oe{l:List Nm}(g:Nm->Nm){k:Nat}(h:k < l.length):aF (l.map g) k=g (aF l k):=by unfold aF;rw [RO,RO,Sp,RR h];rfl
theorem HD{x:List Nm}{v b k:Nat}(hv:v < x.length)(hb:b < x.length)(hk:k < x.length)(c:b≠v):nv (aF (bX x v b) k)=fH (λj=>nv (aF x j)) b v k:=by
 unfold bX fH;rw [AH (by simp;exact hb),AH (by simp;exact hv),Oe _ hk];by_cases h1:k=b
 .rw [if_pos h1,if_pos h1];rfl
 .rw [if_neg h1,if_neg h1];by_cases a:k=v
  .rw [if_pos a,if_pos a];rfl
  .rw [if_neg a,if_neg a];rfl
theorem Is(c:Nm):∀(b a:List Nm),(gK c b a).length=a.length
 | [],_=>by simp [gK]
 | _::_,[]=>by simp [gK]
 | r::b,y::a=>by simp [gK,Is c b a]
theorem Ir(c:Nm):∀(b a:List Nm) (k:Nat),k < a.length->a.length<=b.length->nv (aF (gK c b a) k)=nv (aF a k)+nv c * nv (aF b k)
 | [],a,k,h,d=>by simp at d;rw [d] at h;simp at h
 | _::_,[],k,h,_=>by simp at h
 | r::b,y::a,0,_,_=>by
  rw [gK];by_cases e:nv r=0
  .rw [if_pos e];show nv y=nv y+nv c * nv r;rw [e];grind
  .rw [if_neg e];rfl
 | r::b,y::a,k+1,h,d=>by rw [gK];exact Ir c b a k (by simpa using h) (by simpa using d)
theorem IW(row:List Nm)(v:Nat)(l:List Nm):(iF row v l).length=l.length:=by
 unfold iF;split
 .rfl
 .rw [Is,SM]
theorem IV{row l:List Nm}{v k:Nat}(hl:row.length=l.length)(hv:v < l.length)(hk:k < l.length)(hr:nv (aF row v)=0):
  nv (aF (iF row v l) k)=ju (λj=>nv (aF row j)) v (λj=>nv (aF l j)) k:=by
 unfold iF ju;by_cases b:nv (aF l v)=0
 .rw [if_pos b];by_cases a:k=v
  .rw [if_pos a,a];exact b
  .rw [if_neg a];show nv (aF l k)=nv (aF l k)+nv (aF l v) * nv (aF row k);rw [b];grind
 .rw [if_neg b,Ir _ _ _ _ (by rw [SM];exact hk) (by rw [SM];omega),AH hv];by_cases a:k=v
  .rw [if_pos a,if_pos a,a,hr,Hg];grind
  .rw [if_neg a,if_neg a]
theorem It(row:List Nm)(v i:Nat):∀(xs:List (List Nm)) (k j:Nat),j < xs.length->ay (fb row v i k xs) j=if k+j=i then ay xs j else iF row v (ay xs j)
 | [],_,_,h=>by simp at h
 | x::xs,k,0,_=>by rw [fb];rfl
 | x::xs,k,j+1,h=>by rw [fb];have:=It row v i xs (k+1) j (by simpa using h);rw [show k+ (j+1)=k+1+j by omega];exact this
theorem AE(v:Nat)(w:Vl):∀(bs:List Nat) (xs:List (List Nm)) (val:List Vl) (u:Nat),(∀b∈bs,b < val.length)->u∉bs->aH (fY v w bs xs val) u=aH val u
 | [],_,_,_,_,_=>by simp [fY]
 | _::_,[],_,_,_,_=>by simp [fY]
 | b::bs,x::xs,val,u,hl,c=>by
  rw [fY,AE v w bs xs _ u (λd a=>by rw [SM];exact hl d (RM _ a)) (λh=>c (RM _ h)),
   py (hl b RL),if_neg (λe=>c (by rw [e];exact RL))]
theorem Gz(v:Nat)(w:Vl):∀(bs:List Nat) (xs:List (List Nm)) (val:List Vl) (j b:Nat),(∀b∈bs,b < val.length)->bs.Nodup->bs[j]? =some b->bs.length=xs.length->
  aH (fY v w bs xs val) b=jH (aH val b) (fE w (aF (ay xs j) v))
 | [],_,_,_,_,_,_,h,_=>by simp at h
 | _::_,[],_,_,_,_,_,_,h=>by simp at h
 | c::bs,x::xs,val,0,b,hl,hn,h,k=>by simp only [Tq,RJ] at h;subst h;have a:=(SU.1 hn).1;rw [fY,AE v w bs xs _ c (λg d=>by rw [SM];exact hl g (RM _ d)) a,py (hl c RL),if_pos rfl];rfl
 | c::bs,x::xs,val,j+1,b,hl,hn,h,k=>by simp only [TE] at h;have a:=SU.1 hn;have i:b≠c:=λe=>a.1 (by rw [<-e];exact RN h);rw [fY,Gz v w bs xs _ j b (λg d=>by rw [SM];exact hl g (RM _ d)) a.2 h (by simpa using k),py (hl c RL),if_neg i];rfl
structure ch (n:Nat) (rows:List R) (t:TL):Prop where
 aZ:dM n rows.length t
 ok:(aQ n rows).OK t.st
 ln:∀i b,t.ah[i]? =some b->cM b t.mp=some i
 Ge:∀v,v∉t.ah->cM v t.mp=none
 ky:nq t.mp
theorem KG{n:Nat}{rows:List R}(ro:eM n rows)(i k:Nat)(hi:i < rows.length):ba 1000000 ((aQ n rows).A i k):=by
 refine ba.int ?_;by_cases hk:k < (rowAt rows i).of.length
 .have:=ro.of _ (gJ hi) ((rowAt rows i).of.getD k 0) (by
   rw [RO,RR hk];exact Uf hk)
  omega
 .rw [RO,SZ (by omega)];decide
theorem uO{a:Nat}{D q:Rat}(c:D≠0)(h1:ba (2 ^ a) D)(g:ba (2 ^ a) (D * q)):QB a q:=by
 obtain⟨d,b,j⟩:=h1;obtain⟨u,e,k⟩:=g;have i:d≠0:=λh=>c (by rw [b,h];rfl);have:q=Rat.divInt u d:=by rw [Rat.divInt_eq_div,<-e,<-b,SF];have:=Vm _ c;grind
 rw [this];exact QB.divInt i k j
theorem Da{K:Nat}(c: 1<=K):∀{a b:Nat},a<=b->bd K a<=bd K b
 | a,0,h=>by
  obtain rfl:a=0:=by omega
  exact R3 _
 | a,b+1,h=>by
  by_cases e:a=b+1
  .subst e;exact R3 _
  .have:=Da c (a:=a) (b:=b) (by omega);rw [bd];have h1:bd K b<=K * bd K b:=Nat.le_mul_of_pos_left _ (by omega);have d:K * bd K b<=(b+1) * (K * bd K b):=Nat.le_mul_of_pos_left _ (by omega);omega
theorem J2{n:Nat}(h:n<=12):bd 1000000 n<=2 ^ 270:=Sh (Da (by decide) h) (by decide+kernel)
theorem ch.den{n:Nat}{rows:List R}{t:TL}(ro:eM n rows)(h:ch n rows t):∃D:Rat,D≠0/\ba (2 ^ 270) D/\
  (∀i v,i < rows.length->v < n+rows.length->ba (2 ^ 270) (D * nv (aF (ay t.ak i) v)))/\
  (∀(g G:Nat->Rat),(∀j,j < rows.length->g (t.st.ah j)=0)->(∀k,k < n->ba 1000000 (G k))->
   (∀y,fg n rows.length (aQ n rows).A y->sm (n+rows.length) (λk=>g k * y k)=sm n (λk=>G k * y k))->∀v,v < n+rows.length->ba (2 ^ 270) (D * g v)):=by
 obtain⟨D,h1,d,e,l⟩:=h.ok.wf.den (K:=1000000) (by decide) (λi k hi _=>KG ro i k hi);have hb:=J2 ro.sz.n;exact⟨D,h1,d.mono hb,λi v hi hv=>(e i v hi hv).mono hb,λg G a b c v hv=>(l g G a b c v hv).mono hb⟩
theorem ch.ak{n:Nat}{rows:List R}{t:TL}(ro:eM n rows)(h:ch n rows t):∀x∈t.ak,∀y∈x,QN 270 y:=by
 obtain⟨D,h1,d,g,_⟩:=h.den ro;intro x a y hy;obtain⟨i,hi,e⟩:=TN a;obtain⟨k,hk,b⟩:=TN hy;have l:=h.aZ.c;have hr:=h.aZ.r x a;have j:ay t.ak i=x:=by unfold ay;rw [RO,RR hi];exact e
 have hn:aF x k=y:=by unfold aF;rw [RO,RR hk];exact b
 have:=g i k (by omega) (by omega);rw [j,hn] at this;exact uO h1 d this
theorem FK{n:Nat}{rows:List R}(ro:eM n rows)(v:Nat)(hv:v < n+rows.length):ba 1000000 ((aQ n rows).fx v).1/\ba 1000000 ((aQ n rows).fx v).2:=by
 unfold Sy.fx;show ba 1000000 (if v < n then(0,0) else(aQ n rows).up v:Rat×Rat).1/\ba 1000000 (if v < n then(0,0) else(aQ n rows).up v:Rat×Rat).2;by_cases h:v < n
 .rw [if_pos h];exact⟨ba.zero _,ba.zero _⟩
 .rw [if_neg h];have:=ro.sz.tv _ (gJ (rows:=rows) (i:=v - n) (by omega));refine⟨ba.int (z:=(rowAt rows (v - n)).tv) (by omega), ?_⟩;unfold Sy.up;dsimp only;split
  .exact⟨-1,rfl,by decide⟩
  .exact ba.zero _
set_option exponentiation.threshold 400 in
theorem Jv{n:Nat}{rows:List R}{t:TL}(h:ch n rows t){D:Rat}(o:ba (2 ^ 270) D)
  (p:∀i v,i < rows.length->v < n+rows.length->ba (2 ^ 270) (D * nv (aF (ay t.ak i) v))) (sz:Sz n rows) {y:Nat->Rat} (hy:fg n rows.length (aQ n rows).A y)
  (l:∀v,v < n+rows.length->(∀i,i < rows.length->t.st.ah i≠v)->ba 1000000 (y v)) {v:Nat} (hv:v < n+rows.length):ba (2 ^ 300) (D * y v):=by
 have hn:=sz.n;have hm:=sz.m;by_cases hb:∃i,i < rows.length/\t.st.ah i=v
 .obtain⟨i,hi,e⟩:=hb;have:=(h.ok.wf.same y).2 hy i hi;rw [<-e,this,<-tw];have hs:ba ((n+rows.length) * (2 ^ 270 * 1000000)) (sm (n+rows.length) (λk=>D * (t.st.c i k * y k))):=by
   refine BD (λk hk=> ?_);by_cases g:∃j,j < rows.length/\t.st.ah j=k
   .obtain⟨j,d,b⟩:=g;rw [<-b,h.ok.wf.z i j hi d,T6,Tm];exact ba.zero _
   .have a:=(p i k hi hk).mul (l k hk (λj d b=>g ⟨j,d,b⟩));rw [<-Rat.mul_assoc];exact a
  refine hs.mono ?_;have:(n+rows.length) * (2 ^ 270 * 1000000)<=52 * (2 ^ 270 * 1000000):=SE _ (by omega);exact Sh this (by decide+kernel)
 .have a:=o.mul (l v hv (λj d b=>hb ⟨j,d,b⟩));exact a.mono (by decide+kernel)
theorem ch.val{n:Nat}{rows:List R}{t:TL}(ro:eM n rows)(h:ch n rows t):∀u,u < n+rows.length->VB 300 (aH t.val u):=by
 obtain⟨D,h1,a,b,_⟩:=h.den ro;intro u c;have hm: 2 ^ 270<=2 ^ 300:=by decide+kernel
 refine⟨uO h1 (a.mono hm) (Jv h a b ro.sz h.ok.hy (λv hv hb=> ?_) c),uO h1 (a.mono hm) (Jv h a b ro.sz h.ok.hz (λv hv hb=> ?_) c)⟩
 .have:=congrArg Prod.fst (h.ok.fix v hv hb);show ba _ (t.st.val v).1;rw [this];exact(FK ro v hv).1
 .have:=congrArg Prod.snd (h.ok.fix v hv hb);show ba _ (t.st.val v).2;rw [this];exact(FK ro v hv).2
open Go Go.Aev Go.Aev.Gen Go.Aev.Wd Go.Aev.Tb Go.IntKind
theorem jK{t:TL}{n m:Nat}(h:dM n m t){i:Nat}(hi:i < m):t.st.ah i∈t.ah:=RN (lH (by rw [h.b];exact hi))
theorem nO{t:TL}{n m:Nat}(h:dM n m t){b:Nat}(hb:b∈t.ah):∃i,i < m/\t.st.ah i=b/\t.ah[i]? =some b:=by
 obtain⟨i,hi,e⟩:=TN hb;have h1:t.ah[i]? =some b:=by rw [RR hi,e]
 have a:=lH (t:=t) hi;rw [h1] at a;exact⟨i,by rw [<-h.b];exact hi,(Tx a).symm,h1⟩
theorem ch.wK{n:Nat}{rows:List R}{t:TL}(h:ch n rows t){i v:Nat}(hi:i < rows.length)(a:nv (aF (ay t.ak i) v)≠0):v∉t.ah:=by intro hb;obtain⟨j,b,e,_⟩:=nO h.aZ hb;exact a (by rw [<-e];exact h.ok.wf.z i j hi b)
theorem AF{n m:Nat}{t:TL}(h:dM n m t)(v:Nat)(w:Vl){u:Nat}(hv:v < n+m)(a:u∉t.ah):aH (dA v w t).val u=if u=v then jH (aH t.val v) w else aH t.val u:=by show aH (fY v w t.ah t.ak (t.val.set v _)) u=_;rw [AE v w t.ah t.ak _ u (λb hb=>by rw [SM,h.v];exact h.lt b hb) a,py (by rw [h.v];exact hv)]
theorem wI{n m:Nat}{t:TL}(h:dM n m t)(v:Nat)(w:Vl){j b:Nat}(hv:v < n+m)(d:v∉t.ah)(a:t.ah[j]? =some b):
  aH (dA v w t).val b=jH (aH t.val b) (fE w (aF (ay t.ak j) v)):=by
 show aH (fY v w t.ah t.ak (t.val.set v _)) b=_;rw [Gz v w t.ah t.ak _ j b (λb hb=>by rw [SM,h.v];exact h.lt b hb) h.nd a (by rw [h.b,h.c]),py (by rw [h.v];exact hv),
  if_neg (λe=>d (by rw [<-e];exact RN a))]
theorem NM{n:Nat}{rows:List R}{t:TL}(h:ch n rows t)(v:Nat)(w:Vl)(hv:v < n+rows.length)(m:v∉t.ah):
  fg n rows.length (aQ n rows).A (dA v w t).st.y/\fg n rows.length (aQ n rows).A (dA v w t).st.z:=by
 have key:∀(g:Vl->Rat) (q:Rat),(∀a,g (jH a w)=g a+q)->(∀a k,g (jH a (fE w k))=g a+q * nv k)->fg n rows.length (aQ n rows).A (λu=>g (aH t.val u))->
   fg n rows.length (aQ n rows).A (λu=>g (aH (dA v w t).val u)):=by
  intro g q x B r;refine(h.ok.wf.same _).1 (λj o=> ?_);have C:=(h.ok.wf.same _).2 r j o;have hb:=lH (t:=t) (i:=j) (by rw [h.aZ.b];exact o);show g (aH (dA v w t).val (t.st.ah j))=_;rw [wI h.aZ v w hv m hb,B];have p:g (aH t.val (t.st.ah j))=sm (n+rows.length) (λk=>t.st.c j k * g (aH t.val k)):=C;rw [p];have e:sm (n+rows.length) (λk=>t.st.c j k * g (aH (dA v w t).val k))=sm (n+rows.length) (λk=>1 * (t.st.c j k * g (aH t.val k))+q * (if k=v then t.st.c j k else 0)):=by
   refine eJ (λk hk=> ?_);by_cases l:k∈t.ah
   .obtain⟨i,hi,e,_⟩:=nO h.aZ l;have hz:t.st.c j k=0:=by rw [<-e];exact h.ok.wf.z j i o hi
    have d:k≠v:=λs=>m (by rw [<-s];exact l);rw [hz,if_neg d];grind
   .rw [AF h.aZ v w hv l];by_cases d:k=v
    .subst d;rw [if_pos rfl,if_pos rfl,x];grind
    .rw [if_neg d,if_neg d];grind
  show _=sm (n+rows.length) (λk=>t.st.c j k * g (aH (dA v w t).val k));rw [e,k9,og hv];show _+q * nv (aF (ay t.ak j) v)=1 * _+q * nv (aF (ay t.ak j) v);grind
 exact⟨key (λa=>nv a.1) (nv w.1) (λa=>rfl) (λa k=>rfl) h.ok.hy,key (λa=>nv a.2) (nv w.2) (λa=>rfl) (λa k=>rfl) h.ok.hz⟩
theorem OW{n m:Nat}{t:TL}(h:dM n m t){i v b:Nat}(row:List Nm)(eg:Bool)(hi:i < m)(j:Nat):(fI i v b row eg t).st.ah j=fZ t.st.ah i v j:=by
 show(t.ah.set i v).getD j 0=if j=i then v else t.ah.getD j 0;rw [RO,RO,SW];have hb:=h.b;by_cases a:j=i
 .subst a;simp [hb,hi]
 .have:¬i=j:=λe=>a e.symm;simp [a,this]
theorem OX{n m:Nat}{t:TL}(h:dM n m t){i v:Nat}(eg:Bool)(hi:i < m)(hv:v < n+m)(e:t.st.ah i≠v){j k:Nat}(l:j < m)(hk:k < n+m):
  (fI i v (t.st.ah i) (bX (ay t.ak i) v (t.st.ah i)) eg t).st.c j k=n8 t.st.c t.st.ah i v j k:=by
 have g:=h.row hi;have r:=h.row l;have p:=h.c;have o:=h.lt _ (jK h hi);show nv (aF (ay ((fb (bX (ay t.ak i) v (t.st.ah i)) v i 0 t.ak).set i (bX (ay t.ak i) v (t.st.ah i))) j) k)=_;rw [Km (by rw [Bz];omega)];unfold n8;have q:(bX (ay t.ak i) v (t.st.ah i)).length=n+m:=by unfold bX;simp;exact g
 have d:∀k,k < n+m->nv (aF (bX (ay t.ak i) v (t.st.ah i)) k)=fH (t.st.c i) (t.st.ah i) v k:=λk hk=>HD (by omega) (by omega) (by omega) e;by_cases a:j=i
 .rw [if_pos a,if_pos a];exact d k hk
 .rw [if_neg a,if_neg a,It _ _ _ _ _ _ (by omega),if_neg (by omega)];rw [IV (by omega) (by omega) (by omega) (by rw [d v hv];exact sV e)];unfold ju;by_cases b:k=v
  .rw [if_pos b,if_pos b]
  .rw [if_neg b,if_neg b];show nv (aF (ay t.ak j) k)+nv (aF (ay t.ak j) v) * nv (aF (bX (ay t.ak i) v (t.st.ah i)) k)=_;rw [d k hk];rfl
theorem OY{n m:Nat}{t:TL}(h:dM n m t){i v b:Nat}(row:List Nm)(eg:Bool)(hi:i < m)(hv:v < n+m)(hvb:v∉t.ah)(hrow:row.length=n+m):dM n m (fI i v b row eg t) where
 b:=by show(t.ah.set i v).length=m;rw [SM];exact h.b
 c:=by show((fb row v i 0 t.ak).set i row).length=m;rw [SM,Bz];exact h.c
 r:=λx hx=>by
  have hx:x∈(fb row v i 0 t.ak).set i row:=hx;rcases Su hx with hx | hx
  .have gen:∀(xs:List (List Nm)) (k:Nat),(∀x∈xs,x.length=n+m)->∀x∈fb row v i k xs,x.length=n+m:=by
    intro xs;induction xs with
    | nil=>intro k _ x hx;simp [fb] at hx
    | cons y ys ih=>
     intro k hl x hx;rw [fb] at hx;rcases RV.1 hx with hx | hx
     .rw [hx];split
      .exact hl y RL
      .rw [IW];exact hl y RL
     .exact ih (k+1) (λx hx=>hl x (RM _ hx)) x hx
   exact gen t.ak 0 h.r x hx
  .rw [hx];exact hrow
 v:=h.v
 lt:=λb hb=>by
  rcases Su hb with hb | hb
  .exact h.lt b hb
  .rw [hb];exact hv
 nd:=by
  show(t.ah.set i v).Nodup;refine TX.2 (λa b ha hb hab=> ?_);rw [List.getElem_set,List.getElem_set];have ha':a < t.ah.length:=by simpa using ha
  have hb':b < t.ah.length:=by simpa using hb
  split <;> split
  .omega
  .exact λe=>hvb (by rw [e];exact Uf hb')
  .exact λe=>hvb (by rw [<-e];exact Uf ha')
  .exact TX.1 h.nd a b ha' hb' hab
theorem ch.HA{n:Nat}{rows:List R}{t:TL}(h:ch n rows t){i v:Nat}(w:Vl)(eg:Bool)(hi:i < rows.length)(hv:v < n+rows.length)(s:nv (aF (ay t.ak i) v)≠0)
  (z:vv (aH (dA v w t).val (t.st.ah i))= (aQ n rows).fx (t.st.ah i)):
  ch n rows (fI i v (t.st.ah i) (bX (ay t.ak i) v (t.st.ah i)) eg (dA v w t))/\
   ∀j,(fI i v (t.st.ah i) (bX (ay t.ak i) v (t.st.ah i)) eg (dA v w t)).st.ah j=fZ t.st.ah i v j:=by
 have l:=h.wK hi s;have A:=jK h.aZ hi;have C:t.st.ah i≠v:=λe=>l (by rw [<-e];exact A);have p:dM n rows.length (dA v w t):=h.aZ.mv v w;have E:=h.aZ.row hi;have D:(bX (ay t.ak i) v (t.st.ah i)).length=n+rows.length:=by unfold bX;simp;exact E
 have F:dM n rows.length (fI i v (t.st.ah i) (bX (ay t.ak i) v (t.st.ah i)) eg (dA v w t)):=OY p _ _ hi hv l D;have d:∀j,(fI i v (t.st.ah i) (bX (ay t.ak i) v (t.st.ah i)) eg (dA v w t)).st.ah j=fZ t.st.ah i v j:=λj=>OW p (b:=t.st.ah i) (bX (ay t.ak i) v (t.st.ah i)) eg hi j;obtain⟨G,H⟩:=NM h v w hv l;refine⟨⟨F,⟨?_,G,H,λu m x=> ?_⟩, ?_, ?_, ?_⟩,d⟩
 .refine WF.congr (λj _=>(d j).symm) (λj k a hk=> ?_) (Rq h.ok.wf (i:=i) (v:=v) hi hv s);exact(OX p eg hi hv C a hk).symm
 .have q:u≠v:=λe=>x i hi (by rw [d];unfold fZ;rw [if_pos rfl,e]);show vv (aH (dA v w t).val u)=_;by_cases g:u∈t.ah
  .obtain⟨j,a,e,_⟩:=nO h.aZ g;by_cases r:j=i
   .rw [<-e,r];exact z
   .exact absurd (by rw [d];unfold fZ;rw [if_neg r,e]) (x j a)
  .rw [AF h.aZ v w hv g,if_neg q];exact h.ok.fix u m (λj a e=>g (by rw [<-e];exact jK h.aZ a))
 .intro j b a;have a:(t.ah.set i v)[j]? =some b:=a;show cM b (iy v i (jP (t.st.ah i) t.mp))=some j;rw [wG,wF _ _ _ h.ky];rw [SW] at a;by_cases c:i=j
  .rw [if_pos c] at a;have o:i < t.ah.length:=by rw [h.aZ.b];exact hi
   rw [if_pos o] at a;obtain rfl:=Tx a;rw [if_pos rfl,c]
  .rw [if_neg c] at a;have B:=RN a;rw [if_neg (λe=>l (by rw [<-e];exact B)),if_neg (λe=>c (Ol h.aZ.nd (lH (by rw [h.aZ.b];exact hi)) (by rw [a,e])))];exact h.ln j b a
 .intro u m;have m:u∉t.ah.set i v:=m;show cM u (iy v i (jP (t.st.ah i) t.mp))=none;have o:i < t.ah.length:=by rw [h.aZ.b];exact hi
  have q:u≠v:=λe=>m (by rw [e];exact List.mem_set o _);rw [wG,if_neg q,wF _ _ _ h.ky];split
  .rfl
  .rename_i y;refine h.Ge u (λhm=>m ?_);obtain⟨j,a,e,J⟩:=nO h.aZ hm;have c:i≠j:=λI=>y (by rw [<-e,I]);refine RN (i:=j) ?_;rw [List.getElem?_set_ne c];exact J
 .exact Ak _ _ _ (F9 _ _ h.ky)
theorem IA{w:Int}(c:w=1\/w= -1){q:Rat}(d:q≠0):w * q.num.sign≠0/\(w * q.num.sign > 0↔0 < (w:Rat) * q):=by
 have hn:q.num≠0:=λh=>d (Wk.1 h);rcases Int.lt_or_gt_of_ne hn with h | h
 .have hs:=S5 h;have b:q < 0:=by
   refine Rat.not_le.1 λa=> ?_;have:=VN.2 a;omega
  rw [hs];rcases c with rfl | rfl
  .refine⟨by decide,⟨λh=>absurd h (by decide),λh=> ?_⟩⟩;have:((1:Int):Rat)=1:=rfl;rw [this] at h;exact absurd h (by grind)
  .refine⟨by decide,⟨λ_=> ?_,λ_=>by decide⟩⟩;have:((-1:Int):Rat)= -1:=rfl;rw [this];grind
 .have hs:=S6 h;have b: 0 < q:=by
   have h1: 0<=q:=VN.1 (by omega);grind
  rw [hs];rcases c with rfl | rfl
  .refine⟨by decide,⟨λ_=> ?_,λ_=>by decide⟩⟩;have:((1:Int):Rat)=1:=rfl;rw [this];grind
  .refine⟨by decide,⟨λh=>absurd h (by decide),λh=> ?_⟩⟩;have:((-1:Int):Rat)= -1:=rfl;rw [this] at h;exact absurd h (by grind)
theorem rV{n:Nat}{rows:List R}(t:TL){w:Int}(e:w=1\/w= -1){q:Rat}(g:q≠0){v:Nat}:
  fp n rows t.val v (w * q.num.sign)=true↔(aQ n rows).Can t.st ((w:Rat) * q) v:=by
 obtain⟨h1,d⟩:=IA e g;have i:(w:Rat) * q≠0:=by
  rcases e with rfl | rfl
  .have:((1:Int):Rat)=1:=rfl;rw [this];grind
  .have:((-1:Int):Rat)= -1:=rfl;rw [this];grind
 rw [yY t v h1];unfold Sy.Can;by_cases b:w * q.num.sign > 0
 .have a:=d.1 b;rw [if_pos b];exact⟨λh=>⟨λ_=>h,λc=>absurd c (by grind)⟩,λh=>h.1 a⟩
 .have a:¬0 < (w:Rat) * q:=λh=>b (d.2 h);rw [if_neg b];exact⟨λh=>⟨λc=>absurd c a,λ_=>h⟩,λh=>h.2 (by grind)⟩
theorem ch.step{n:Nat}{rows:List R}{t:TL}(h:ch n rows t){i v:Nat}(eg:Bool)(hi:i < rows.length)(hv:v < n+rows.length)
  (c:(aQ n rows).fO t.st (t.st.ah i)) (r:bx n rows t.val (bu n rows t (t.st.ah i)) (ay t.ak i) 0=some v) (l:∀j,j < rows.length->t.st.ah j < t.st.ah i->¬(aQ n rows).fO t.st (t.st.ah j)):
  ch n rows (fL n rows eg (t.st.ah i) (bu n rows t (t.st.ah i)) i v t)/\(aQ n rows).Step t.st (fL n rows eg (t.st.ah i) (bu n rows t (t.st.ah i)) i v t).st i v:=by
 obtain⟨_,_,e3,o,e5⟩:=mB r;rw [Te] at e3 o;have w:=h.wK hi e3;have a:¬t.st.ah i < n:=T2.2 c.1;have y:=lH (t:=t) (i:=i) (by rw [h.aZ.b];exact hi);have g:bu n rows t (t.st.ah i)=1\/bu n rows t (t.st.ah i)= -1:=by unfold bu;split;exact .inr rfl;exact .inl rfl
 have s:vv (if bu n rows t (t.st.ah i) > 0 then gY n rows (t.st.ah i) else bC n rows (t.st.ah i))= (aQ n rows).fx (t.st.ah i):=by
  unfold Sy.fx;show _=if t.st.ah i < n then((0:Rat),(0:Rat)) else _;rw [if_neg a];by_cases d:cH ((aQ n rows).up (t.st.ah i)) (t.st.val (t.st.ah i))
  .have:bu n rows t (t.st.ah i)= -1:=by unfold bu;rw [if_pos d]
   rw [this,if_neg (by decide)];exact tI a
  .have:bu n rows t (t.st.ah i)=1:=by unfold bu;rw [if_neg d]
   rw [this,if_pos (by decide)];rcases c.2 with k | ⟨k,_⟩
   .exact absurd k d
   .exact sF (lV.2 ⟨a,k⟩)
 have m:vv (aH (dA v (oh n rows (t.st.ah i) (bu n rows t (t.st.ah i)) i v t) t).val (t.st.ah i))= (aQ n rows).fx (t.st.ah i):=by
  rw [wI h.aZ v _ hv w y,<-s];unfold oh;generalize (if bu n rows t (t.st.ah i) > 0 then gY n rows (t.st.ah i) else bC n rows (t.st.ah i))=to at *
  have C:nv (aF (ay t.ak i) v) * (nv (aF (ay t.ak i) v))⁻¹ =1:=Vm _ e3;refine VO ?_ ?_
  .show nv (aH t.val (t.st.ah i)).1+ (nv to.1 - nv (aH t.val (t.st.ah i)).1) * (((1:Int):Rat) / nv (aF (ay t.ak i) v)) * nv (aF (ay t.ak i) v)=nv to.1;rw [SF];have:((1:Int):Rat)=1:=rfl;rw [this];grind
  .show nv (aH t.val (t.st.ah i)).2+ (nv to.2 - nv (aH t.val (t.st.ah i)).2) * (((1:Int):Rat) / nv (aF (ay t.ak i) v)) * nv (aF (ay t.ak i) v)=nv to.2;rw [SF];have:((1:Int):Rat)=1:=rfl;rw [this];grind
 obtain⟨A,B⟩:=h.HA (i:=i) (v:=v) (oh n rows (t.st.ah i) (bu n rows t (t.st.ah i)) i v t) eg hi hv e3 m;refine⟨A,⟨hi,hv,c,l,e3, ?_,λu z e=> ?_,funext B⟩⟩
 .rw [BX];exact(rV t g e3).1 o
 .rw [BX];intro x;have h1:=e5 u (Vt _) z (by rw [Te];exact e);rw [Te] at h1;have p:=(rV (n:=n) (rows:=rows) t g (q:=nv (aF (ay t.ak i) u)) (v:=u) e).2 x;rw [h1] at p;cases p
open Go Go.Aev Go.Aev.Gen Go.Aev.Wd Go.Aev.Tb Go.IntKind
def bW(n:Nat)(rows:List R)(eg:Bool):Nat->TL->Option (List Nm)×Bool×TL
 | p,t=>if(gS n rows t.val t.ah).1 < 0 then(none,true,t) else
  match p with
  | 0=>(none,false,t)
  | p+1=>match bx n rows t.val (gS n rows t.val t.ah).2 (ay t.ak ((cM (gS n rows t.val t.ah).1.toNat t.mp).getD 0)) 0 with
   | none=>(some (jv n rows.length (gS n rows t.val t.ah).2 (gS n rows t.val t.ah).1.toNat (ay t.ak ((cM (gS n rows t.val t.ah).1.toNat t.mp).getD 0))),true,t)
   | some v=>bW n rows eg p (fL n rows eg (gS n rows t.val t.ah).1.toNat (gS n rows t.val t.ah).2 ((cM (gS n rows t.val t.ah).1.toNat t.mp).getD 0) v t)
def iY:Option (List Nm)->T
 | none=>T.aL true
 | some l=>T.ae 4 false (bg l)
theorem oP{n:Nat}{rows:List R}{t:TL}(h:ch n rows t):
  ((∀j,j < rows.length->¬(aQ n rows).fO t.st (t.st.ah j))/\gS n rows t.val t.ah= (-1,0))\/
  ∃i,i < rows.length/\(aQ n rows).fO t.st (t.st.ah i)/\(∀j,j < rows.length->t.st.ah j < t.st.ah i->¬(aQ n rows).fO t.st (t.st.ah j))/\
   gS n rows t.val t.ah= ((t.st.ah i:Int),bu n rows t (t.st.ah i))/\cM (t.st.ah i) t.mp=some i:=by
 rcases Dh (n:=n) (rows:=rows) t t.ah with⟨h1,a⟩ | ⟨b,h1,a,d,g⟩
 .exact .inl ⟨λj c=>h1 _ (jK h.aZ c),a⟩
 .obtain⟨i,hi,e,k⟩:=nO h.aZ h1;subst e;exact .inr ⟨i,hi,a,λj c l hb=>by have:=d _ (jK h.aZ c) hb;omega,g,h.ln i _ k⟩
theorem oZ{n:Nat}{rows:List R}{t:TL}(eg:Bool)(p:Nat)(h:gS n rows t.val t.ah= (-1,0)):bW n rows eg p t= (none,true,t):=by
 cases p with
 | zero=>rw [bW,h,if_pos (by decide)]
 | succ p=>rw [bW,h,if_pos (by decide)]
theorem qB{n:Nat}{rows:List R}{t:TL}(eg:Bool){b:Nat}{w:Int}(h:gS n rows t.val t.ah= ((b:Int),w)):bW n rows eg 0 t= (none,false,t):=by rw [bW,h,if_neg (by show ¬(b:Int) < 0;omega)]
theorem qA{n:Nat}{rows:List R}{t:TL}(eg:Bool)(p:Nat){b i:Nat}{w:Int}(h:gS n rows t.val t.ah= ((b:Int),w))(hl:cM b t.mp=some i):
  bW n rows eg (p+1) t=match bx n rows t.val w (ay t.ak i) 0 with
   | none=>(some (jv n rows.length w b (ay t.ak i)),true,t)
   | some v=>bW n rows eg p (fL n rows eg b w i v t):=by
 have hb:((b:Nat):Int).toNat=b:=by omega
 rw [bW,h,if_neg (by show ¬(b:Int) < 0;omega)];simp only [hb,hl,SJ]
theorem GY{n:Nat}{rows:List R}(t:TL){w:Int}(c:w=1\/w= -1){row:List Nm}(h:bx n rows t.val w row 0=none){v:Nat}(hv:v < n):nv (aF row v)=0:=by refine V5 λa=> ?_;have h1:=zB h v (Vt _) (by rw [Te];exact a);rw [Te] at h1;have b:=(rV (n:=n) (rows:=rows) t c (q:=nv (aF row v)) (v:=v) a).2 ⟨λ_=> .inl hv,λ_=> .inl hv⟩;rw [h1] at b;cases b
theorem xY(n:Nat)(rows:List R)(t:TL)(b:Nat):bu n rows t b=1\/bu n rows t b= -1:=by unfold bu;split;exact .inr rfl;exact .inl rfl
theorem QS{n:Nat}{rows:List R}(f:Fl)(ro:eM n rows)(o:f.eg=true):∀(p:Nat) (t:TL),p<=100000->ch n rows t->
  Or oL [r0,I (p:Int)] (S2 n rows f t)=some (iY (bW n rows true p t).1::tb (bW n rows true p t).2.1::gA n rows f (bW n rows true p t).2.2):=by
 intro p;induction p using Nat.strongRecOn with
 | _ p A=>
 intro t G h;have a:=ro.sz;have d:=h.val ro;have r:=h.ak ro;have hm:=a.m;have kb:=Je a f.er f.eb f.ev f.eg t.ah t.val t.aT h.aZ.v d (by omega) h.aZ.lt (by rw [h.aZ.b];omega);rcases oP h with⟨_,hb⟩ | ⟨i,hi,k,s,hb,hl⟩
 .rw [hb] at kb;rw [oZ true _ hb,hI];have h1:(-1:Int) < 0:=by decide
  refine an ?_;rw [zI];simp only [aj,↓reduceIte,Int.reduceBEq,Int.reduceEq,GD,kb,h1,jI,jT,iY]
 .rw [hb] at kb;have h1:¬(t.st.ah i:Int) < 0:=by omega
  cases p with
  | zero=>rw [qB true hb,hI];have q:((0:Nat):Int)=0:=rfl;refine an ?_;rw [zI];simp only [aj,↓reduceIte,Int.reduceBEq,Int.reduceEq,GD,kb,h1,q,jI,jT,iY]
  | succ p=>
   have C:=h.aZ.c;have q:¬((p+1:Nat):Int)=0:=by omega
   have y:i64.wrap (((p+1:Nat):Int) - 1)= (p:Int):=by rw [Go.Aev.wr (by omega)];omega
   have x: 0<=(i:Int)/\(i:Int) < (t.ak.length:Int):=by omega
   have w:=mN (ak:=t.ak) (i:=i) (by omega);have u:=lR (ak:=t.ak) (i:=i) (by omega);have l:=zT (t.st.ah i) t.mp;rw [hl] at l;have z:=lH (t:=t) (i:=i) (by rw [h.aZ.b];exact hi);have g:=xY n rows t (t.st.ah i);have D:bu n rows t (t.st.ah i)≠0:=by rcases g with e | e <;> rw [e] <;> decide
   rw [qA true p hb hl];have:=QU (n:=n) (rows:=rows) f t a h.aZ hi z k.1 g o d r (λv hv=>h.wK hi hv) (by omega) (by omega) (by omega) (p:Int)
    (λj v hv=>GY t g j hv)
    (res:=iY (match bx n rows t.val (bu n rows t (t.st.ah i)) (ay t.ak i) 0 with
     | none=>(some (jv n rows.length (bu n rows t (t.st.ah i)) (t.st.ah i) (ay t.ak i)),true,t)
     | some v=>bW n rows true p (fL n rows true (t.st.ah i) (bu n rows t (t.st.ah i)) i v t)).1::
     tb (match bx n rows t.val (bu n rows t (t.st.ah i)) (ay t.ak i) 0 with
     | none=>(some (jv n rows.length (bu n rows t (t.st.ah i)) (t.st.ah i) (ay t.ak i)),true,t)
     | some v=>bW n rows true p (fL n rows true (t.st.ah i) (bu n rows t (t.st.ah i)) i v t)).2.1::
     gA n rows f (match bx n rows t.val (bu n rows t (t.st.ah i)) (ay t.ak i) 0 with
     | none=>(some (jv n rows.length (bu n rows t (t.st.ah i)) (t.st.ah i) (ay t.ak i)),true,t)
     | some v=>bW n rows true p (fL n rows true (t.st.ah i) (bu n rows t (t.st.ah i)) i v t)).2.2)
    (by
     cases j:bx n rows t.val (bu n rows t (t.st.ah i)) (ay t.ak i) 0 with
     | none=>rfl
     | some v=>
      obtain⟨E,F,_⟩:=mB j;obtain⟨B,_⟩:=h.step true hi (v:=v) (by have:=h.aZ.row hi;omega) k j s;rw [o];exact A p (Ud p) _ (by omega) B)
    (ay t.ak i) 0 rfl rfl
   refine an ?_;rw [zI];simp only [aj,↓reduceIte,Int.reduceBEq,Int.reduceEq,GD,kb,h1,q,y,l,TZ,SJ,x,and_self,fD,w,u,dP];exact this
theorem QR{n:Nat}{rows:List R}(f:Fl)(ro:eM n rows)(a:f.eg=true):∀(p:Nat) (t:TL),p<=100000->ch n rows t->
  Or oL [r0,I (p:Int)] (S1 n rows f t)=some (iY (bW n rows true p t).1::tb (bW n rows true p t).2.1::gA n rows f (bW n rows true p t).2.2):=by
 intro p
 skip
 intro t F h;have d:=ro.sz;have g:=h.val ro;have r:=h.ak ro;have hm:=d.m;have kb:=Je d f.er f.eb f.ev f.eg t.ah t.val t.aT h.aZ.v g (by omega) h.aZ.lt (by rw [h.aZ.b];omega);rcases oP h with⟨_,hb⟩ | ⟨i,hi,l,s,hb,hl⟩
 .rw [hb] at kb;rw [oZ true _ hb,hI];have h1:(-1:Int) < 0:=by decide
  refine an ?_;rw [zH];simp only [aj,↓reduceIte,Int.reduceBEq,Int.reduceEq,GD,kb,h1,jI,jT,iY]
 .rw [hb] at kb;have h1:¬(t.st.ah i:Int) < 0:=by omega
  cases p with
  | zero=>rw [qB true hb,hI];have q:((0:Nat):Int)=0:=rfl;refine an ?_;rw [zH];simp only [aj,↓reduceIte,Int.reduceBEq,Int.reduceEq,GD,kb,h1,q,jI,jT,iY]
  | succ p=>
   have B:=h.aZ.c;have q:¬((p+1:Nat):Int)=0:=by omega
   have y:i64.wrap (((p+1:Nat):Int) - 1)= (p:Int):=by rw [Go.Aev.wr (by omega)];omega
   have x: 0<=(i:Int)/\(i:Int) < (t.ak.length:Int):=by omega
   have w:=mN (ak:=t.ak) (i:=i) (by omega);have u:=lR (ak:=t.ak) (i:=i) (by omega);have o:=zT (t.st.ah i) t.mp;rw [hl] at o;have z:=lH (t:=t) (i:=i) (by rw [h.aZ.b];exact hi);have j:=xY n rows t (t.st.ah i);have C:bu n rows t (t.st.ah i)≠0:=by rcases j with e | e <;> rw [e] <;> decide
   rw [qA true p hb hl];have:=QT (n:=n) (rows:=rows) f t d h.aZ hi z l.1 j a g r (λv hv=>h.wK hi hv) (by omega) (by omega) (by omega) (p:Int)
    (λk v hv=>GY t j k hv)
    (res:=iY (match bx n rows t.val (bu n rows t (t.st.ah i)) (ay t.ak i) 0 with
     | none=>(some (jv n rows.length (bu n rows t (t.st.ah i)) (t.st.ah i) (ay t.ak i)),true,t)
     | some v=>bW n rows true p (fL n rows true (t.st.ah i) (bu n rows t (t.st.ah i)) i v t)).1::
     tb (match bx n rows t.val (bu n rows t (t.st.ah i)) (ay t.ak i) 0 with
     | none=>(some (jv n rows.length (bu n rows t (t.st.ah i)) (t.st.ah i) (ay t.ak i)),true,t)
     | some v=>bW n rows true p (fL n rows true (t.st.ah i) (bu n rows t (t.st.ah i)) i v t)).2.1::
     gA n rows f (match bx n rows t.val (bu n rows t (t.st.ah i)) (ay t.ak i) 0 with
     | none=>(some (jv n rows.length (bu n rows t (t.st.ah i)) (t.st.ah i) (ay t.ak i)),true,t)
     | some v=>bW n rows true p (fL n rows true (t.st.ah i) (bu n rows t (t.st.ah i)) i v t)).2.2)
    (by
     cases k:bx n rows t.val (bu n rows t (t.st.ah i)) (ay t.ak i) 0 with
     | none=>rfl
     | some v=>
      obtain⟨D,E,_⟩:=mB k;obtain⟨A,_⟩:=h.step true hi (v:=v) (by have:=h.aZ.row hi;omega) l k s;rw [a];exact QS f ro a p _ (by omega) A)
    (ay t.ak i) 0 rfl rfl
   refine an ?_;rw [zH];simp only [aj,↓reduceIte,Int.reduceBEq,Int.reduceEq,GD,kb,h1,q,y,o,TZ,SJ,x,and_self,fD,w,u,dP];exact this
theorem QQ{n:Nat}{rows:List R}(f:Fl)(ro:eM n rows)(a:f.eg=true)(p:Nat)(t:TL)(b:p<=100000)(h:ch n rows t):
  Or (.call 15) [r0,I (p:Int)] (S1 n rows f t)=some (iY (bW n rows true p t).1::tb (bW n rows true p t).2.1::gA n rows f (bW n rows true p t).2.2):=by
 have:=QR (n:=n) (rows:=rows) f ro a p t b h;refine an ?_;rw [Mj];exact this
open Go Go.Aev Go.Aev.Gen Go.Aev.Wd Go.Aev.Tb Go.IntKind
def fG(n m:Nat)(r:R):List Nm:=r.of.map iN++List.replicate (n+m - r.of.length) none
def gT(n k:Nat):List Nat:=(List.range k).map λi=>n+i
def gG(n k:Nat):Ln:=(List.range k).map λi=>(n+i,i)
def ei(n:Nat)(rows:List R):TL:=⟨gT n rows.length,gG n rows.length,rows.map (fG n rows.length),List.replicate (n+rows.length) (none,none),[]⟩
def wM(er:Bool)(rows:List R):Fl:=⟨er,decide (rows.length=0),decide (rows.length=0),false,true⟩
theorem Kb(n k:Nat):gT n (k+1)=gT n k++ [n+k]:=by simp [gT,Wm]
theorem As(n v:Nat):∀(k:Nat),cM v (gG n k)=if n<=v/\v < n+k then some (v - n) else none:=by
 have app:∀(l:Ln) (p:Nat×Nat),cM v (l++ [p])=match cM v l with | some i=>some i | none=>if v=p.1 then some p.2 else none:=by
  intro l p;induction l with
  | nil=>rfl
  | cons q l a=>
   simp only [RU,cM];by_cases h:v=q.1
   .simp [h]
   .simp only [if_neg h];exact a
 intro k;induction k with
 | zero=>simp [gG,cM]
 | succ k a=>
  have:gG n (k+1)=gG n k++ [(n+k,k)]:=by simp [gG,Wm]
  rw [this,app,a];by_cases h1:n<=v/\v < n+k
  .rw [if_pos h1];show some (v - n)=_;rw [if_pos (by omega)]
  .rw [if_neg h1];by_cases b:v=n+k
   .simp only [b,if_true];rw [if_pos (by omega)];congr 1;omega
   .simp only [if_neg b];rw [if_neg (by omega)]
theorem HO(n k:Nat):iy (n+k) k (gG n k)=gG n (k+1):=by
 have app:∀(l:Ln) (v i:Nat),cM v l=none->iy v i l=l++ [(v,i)]:=by
  intro l v i;induction l with
  | nil=>intro _;rfl
  | cons q l b=>
   intro h;rw [cM] at h;by_cases a:v=q.1
   .rw [if_pos a] at h;cases h
   .rw [if_neg a] at h;rw [iy,if_neg a,b h];rfl
 rw [app _ _ _ (by rw [As];rw [if_neg (by omega)])];simp [gG,Wm]
theorem Gn:∀(l:List (List Nm)) (s:Nat) (x:List Nm),bM s l++ [⟨s+l.length,[T.aS],some (false,bg x)⟩]=bM s (l++ [x])
 | [],s,x=>rfl
 | y::l,s,x=>by have:=Gn l (s+1) x;simp only [bM,RU,Sc];rw [show s+ (l.length+1)=s+1+l.length by omega,this]
theorem NK(l:List (List Nm))(x:List Nm):bM 0 l++ [⟨l.length,[T.aS],some (false,bg x)⟩]=bM 0 (l++ [x]):=by have:=Gn l 0 x;rwa [Sn] at this
theorem L7(l:List Nat)(x:Nat):dO l++ [[ti (x:Int)]]=dO (l++ [x]):=by simp [dO]
theorem Mc(n:Nat):List.replicate n [tb false,T.str (ByteArray.mk #[]),tb false,T.str (ByteArray.mk #[]),tb false,T.str (ByteArray.mk #[]),tb false,T.str (ByteArray.mk #[])]=fV (List.replicate n (none,none)):=by unfold fV;rw [VS];rfl
def yx(n:Nat)(rows:List R)(f:Fl)(t:TL):List T:=
 [ti (n:Int),T.ae 3 f.er (eF rows),T.ae 1 f.eb (dO t.ah),ee (cd t.mp),dH f.ec (bM 0 t.ak),T.ae 8 f.ev (fV t.val),T.ae 4 f.eg (bg t.aT)]
theorem Ht(n:Nat)(rows:List R)(f:Fl)(t:TL):yx n rows f t= [ti (n:Int),T.ae 3 f.er (eF rows),T.ae 1 f.eb (dO t.ah),ee (cd t.mp),dH f.ec (bM 0 t.ak),T.ae 8 f.ev (fV t.val),T.ae 4 f.eg (bg t.aT)]:=rfl
section
variable {n:Nat} {rows:List R} (er:Bool)
theorem QO(ro:eM n rows)(k:Nat)(hk:k < rows.length)(eb ec:Bool)(val:List Vl){res:List T}
  (q:Or rJ [LR er rows,I (n:Int),r0,r0,r0,LR er rows,I (rows.length:Int),I ((k+1:Nat):Int)]
   (S1 n rows ⟨er,false,false,false,true⟩ ⟨gT n (k+1),gG n (k+1),(rows.take (k+1)).map (fG n rows.length),val,[]⟩)=some res):
  ∀(xs:List Int) (j:Nat),(rowAt rows k).of.drop j=xs->j<=(rowAt rows k).of.length->
  Or uG [LR er rows,I (n:Int),r0,r0,r0,I (k:Int),AV.own (Id.c 1),LR er rows,I (rows.length:Int),I (k:Int),ae (rowAt rows k).e (rowAt rows k).of,I ((rowAt rows k).of.length:Int),I (j:Int)]
   [ab.box [I (n:Int),LR er rows,AV.own (Id.c 2),AV.own (Id.c 3),AV.own (Id.c 4),AV.own (Id.c 5),AV.own (Id.c 6)],
    ab.sl false 4 false (bg (((rowAt rows k).of.take j).map iN++List.replicate (n+rows.length - j) none)),ab.sl false 1 eb (dO (gT n k)),ab.mp false [Ck.i .i64] (Ck.i .i64) (cd (gG n k)),
    ab.rows ec 1 0 4 ((rows.take k).map (fG n rows.length)).length (bM 0 ((rows.take k).map (fG n rows.length))),ab.sl false 8 false (fV val),ab.sl false 4 true (bg [])]=some res:=by
 have hn:=ro.sz.n;have hm:=ro.sz.m;have b:=gJ hk;have G:=ro.len _ b;intro xs;induction xs with
 | nil=>
  intro j h p;have r:=bU h;have h1:¬(j:Int) < ((rowAt rows k).of.length:Int):=by omega
  have y:(rowAt rows k).of.take j= (rowAt rows k).of:=Th r;have C:i64.wrap ((n:Int)+ (k:Int))= ((n+k:Nat):Int):=by rw [Go.Aev.wr (by omega)];omega
  have s1:=iD (bs:=24) (n:=((rows.take (k+1)).map (fG n rows.length)).length) (by simp;omega);have F:bw 8 ((dO (gT n k)).length+ [[ti ((n+k:Nat):Int)]].length)=some ():=iD (by simp [dO,gT];omega);have d:(rows.take k).map (fG n rows.length)++ [fG n rows.length (rowAt rows k)]= (rows.take (k+1)).map (fG n rows.length):=by rw [T8,pj hk,UL];rfl
  have A:(rowAt rows k).of.map iN++List.replicate (n+rows.length - j) none=fG n rows.length (rowAt rows k):=by unfold fG;rw [show j= (rowAt rows k).of.length by omega]
  have hb:dO (gT n k)++ [[ti ((n+k:Nat):Int)]]=dO (gT n (k+1)):=by rw [Kb,L7]
  have B:gf [ti ((n+k:Nat):Int)] (ti (k:Int)) (cd (gG n k))=cd (gG n (k+1)):=by rw [wY,HO]
  rw [y,A];have g:=NK ((rows.take k).map (fG n rows.length)) (fG n rows.length (rowAt rows k));rw [d] at g;have v:((rows.take k).map (fG n rows.length)).length+1= ((rows.take (k+1)).map (fG n rows.length)).length:=by rw [<-d];simp
  refine an ?_;rw [E6];simp only [aj,↓reduceIte,Int.reduceBEq,Int.reduceEq,GD,h1,bH,fD,s1,C,F,hb,B,g,v,next k (by omega)];exact q
 | cons c xs D=>
  intro j h p;obtain⟨o,H,z⟩:=bR h;have h1:(j:Int) < ((rowAt rows k).of.length:Int):=by omega
  have s: 0<=(j:Int):=by omega
  have J:=ro.of _ b c (RN o);have E:=nY c (by omega);have a:(((rowAt rows k).of.take j).map iN).length=j:=by simp;omega
  have w:List.replicate (n+rows.length - j) (none:Nm)=none::List.replicate (n+rows.length - (j+1)) none:=by rw [show n+rows.length - j= (n+rows.length - (j+1))+1 by omega,Sv]
  have u:(j:Int) < ((((rowAt rows k).of.take j).map iN++none::List.replicate (n+rows.length - (j+1)) none).length:Int):=by rw [SI,a];simp;omega
  have s1:=nD (l:=((rowAt rows k).of.take j).map iN++none::List.replicate (n+rows.length - (j+1)) none) (i:=j) (by omega) (iN c);rw [xu _ _ _ _ _ a] at s1;have x:((rowAt rows k).of.take j).map iN++iN c::List.replicate (n+rows.length - (j+1)) none= ((rowAt rows k).of.take (j+1)).map iN++List.replicate (n+rows.length - (j+1)) none:=by rw [T8,o,UL];simp
  rw [x] at s1;have:=D (j+1) z (by omega);rw [w];refine an ?_;rw [E6];simp only [aj,↓reduceIte,Int.reduceBEq,Int.reduceEq,GD,h1,s,u,and_self,bH,dE o,E,dP,s1,next j (by omega)];exact this
theorem QP(ro:eM n rows):∀(d k:Nat),d+k=rows.length->
  Or rJ [LR er rows,I (n:Int),r0,r0,r0,LR er rows,I (rows.length:Int),I (k:Int)]
   (S1 n rows ⟨er,decide (k=0),decide (k=0),false,true⟩ ⟨gT n k,gG n k,(rows.take k).map (fG n rows.length),List.replicate (n+rows.length) (none,none),[]⟩)=some (yx n rows (wM er rows) (ei n rows)):=by
 have hn:=ro.sz.n;have hm:=ro.sz.m;intro d;induction d with
 | zero=>
  intro k i;obtain rfl:k=rows.length:=by omega
  have h1:¬(rows.length:Int) < (rows.length:Int):=by omega
  have g:rows.take rows.length=rows:=Th (R3 _);rw [g,Ht];refine an ?_;rw [E5];simp only [aj,↓reduceIte,Int.reduceBEq,Int.reduceEq,GD,h1,jI,jT];rfl
 | succ d o=>
  intro k i;have hk:k < rows.length:=by omega
  have h1:(k:Int) < (rows.length:Int):=by omega
  have b: 0<=(k:Int):=by omega
  have j:=fT (pj hk);have l:i64.wrap ((n:Int)+ (rows.length:Int))= ((n+rows.length:Nat):Int):=by rw [Go.Aev.wr (by omega)];omega
  have e:=wH (k:=n+rows.length) (by omega);have h:((n+rows.length:Nat):Int).toNat=n+rows.length:=by omega
  have c:decide (k+1=0)=false:=by simp
  have a:=o (k+1) (by omega);rw [c] at a;have:=QO er ro k hk (decide (k=0)) (decide (k=0)) _ a (rowAt rows k).of 0 rfl (Vt _);simp only [Uc,T0,R0,Te] at this;refine an ?_;rw [E5];simp only [aj,↓reduceIte,Int.reduceBEq,Int.reduceEq,GD,h1,b,and_self,cY,j,l,e,h,zD,bH];exact this
theorem QM(ro:eM n rows):Or (.call 14) [LR er rows,I (n:Int)] []=some (yx n rows (wM er rows) (ei n rows)):=by
 have hn:=ro.sz.n;have hm:=ro.sz.m;have c:i64.wrap ((n:Int)+ (rows.length:Int))= ((n+rows.length:Nat):Int):=by rw [Go.Aev.wr (by omega)];omega
 have a:=wH (k:=n+rows.length) (by omega);have b:((n+rows.length:Nat):Int).toNat=n+rows.length:=by omega
 have:=QP er ro rows.length 0 rfl;refine an ?_;rw [Mi];simp only [aj,↓reduceIte,Int.reduceBEq,Int.reduceEq,GD,cY,c,a,b,Mc];exact this
end
open Go Go.Aev Go.Aev.Gen Go.Aev.Wd Go.Aev.Tb Go.IntKind
abbrev LF:=Int×Vl×Bool
def uX(n:Nat)(rows:List R)(x:Nat)(a:Nm):Vl:=if nv a < 0 then gY n rows x else bC n rows x
def oO(n:Nat)(rows:List R)(x:Nat)(a:Nm):Bool:=if nv a < 0 then e9 n rows x else !decide (x < n)
def iR(n:Nat)(rows:List R)(t:TL)(x:Nat)(a:Nm):Vl:=fE (oo (uX n rows x a) (aH t.val x)) (ov (iN 1) a)
def mw(n:Nat)(rows:List R)(t:TL)(x:Nat)(a:Nm)(i:Int)(s:LF):Prop:=
 (if s.2.2=true then eE s.2.1 (iR n rows t x a) else 1) > 0\/((if s.2.2=true then eE s.2.1 (iR n rows t x a) else 1)=0/\i>=0/\(s.1 < 0\/(x:Int) < (t.ah.getD s.1.toNat 0:Nat)))
instance (n:Nat) (rows:List R) (t:TL) (x:Nat) (a:Nm) (i:Int) (s:LF):Decidable (mw n rows t x a i s):=by unfold mw;infer_instance
def nB(n:Nat)(rows:List R)(t:TL)(x:Nat)(a:Nm)(i:Int)(s:LF):LF:=
 if nv a=0\/oO n rows x a=false then s else if mw n rows t x a i s then(i,iR n rows t x a,true) else s
theorem Og(q:Rat):q.num.sign < 0↔q < 0:=by
 constructor
 .intro h;refine Rat.not_le.1 λb=> ?_;have h1:=VN.2 b;rcases Int.lt_or_eq_of_le h1 with a | a
  .rw [S6 a] at h;exact absurd h (by decide)
  .rw [<-a] at h;exact absurd h (by decide)
 .intro h;have h1:¬0<=q.num:=λh1=>by have:=VN.1 h1;grind
  rw [S5 (by omega)];decide
section
variable {n:Nat} {rows:List R} (f:Fl) (t:TL)
end
open Go Go.Aev Go.Aev.Gen Go.Aev.Wd Go.Aev.Tb Go.IntKind
def nN(n:Nat)(rows:List R)(t:TL)(v:Nat)(ao:Int):List Nat->List (List Nm)->Nat->LF->LF
 | b::bs,x::xs,i,s=>nN n rows t v ao bs xs (i+1) (nB n rows t b (tm (aF x v) (iN ao)) (i:Int) s)
 | _,_,_,s=>s
def eI(n:Nat)(rows:List R)(t:TL)(v:Nat)(ao:Int):LF:=nN n rows t v ao t.ah t.ak 0 (nB n rows t v (iN ao) (-1) (-1,(none,none),false))
section
variable {n:Nat} {rows:List R} (f:Fl) (t:TL)
end
end Go.Aev.Wd.Lg
