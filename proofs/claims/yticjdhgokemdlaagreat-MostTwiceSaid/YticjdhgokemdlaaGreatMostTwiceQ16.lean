import Derived.Test.YticjdhgokemdlaaGreatMostTwiceQ15
set_option linter.all false
namespace Go.Aev.Wd.Lg
open Go Go.Aev Go.Aev.Gen Go.Aev.Wd Go.Aev.Tb Go.IntKind
theorem WF.congr{n m:Nat}{A:Nat->Nat->Rat}{af bas':Nat->Nat}{c c':Nat->Nat->Rat}(h1:∀i,i < m->af i=bas' i)(h2:∀i k,i < m->k < n+m->c i k=c' i k)
  (w:WF n m A af c):WF n m A bas' c' where
 hb:=λi hi=>by rw [<-h1 i hi];exact w.hb i hi
 inj:=λi j hi hj e=>w.inj i j hi hj (by rw [h1 i hi,h1 j hj];exact e)
 z:=λi j hi hj=>by rw [<-h1 j hj,<-h2 i _ hi (w.hb j hj)];exact w.z i j hi hj
 same:=λy=>by
  rw [<-w.same y];unfold AI;constructor
  .intro h i hi;rw [h1 i hi,h i hi];exact dv (λk hk=>by rw [h2 i k hi hk])
  .intro h i hi;rw [<-h1 i hi,h i hi];exact dv (λk hk=>by rw [h2 i k hi hk])
 nb:=by
  obtain⟨nb,n1,n2,n3,n4,n5⟩:=w.nb;refine⟨nb,n1,n2,λr i hr hi=>by rw [<-h1 i hi];exact n3 r i hr hi,λv hv=> ?_,n5⟩;rcases n4 v hv with h | ⟨i,hi,e⟩
  .exact .inl h
  .exact .inr ⟨i,hi,by rw [<-h1 i hi];exact e⟩
theorem jd{t:TL}{i:Nat}(hi:i < t.af.length):t.af[i]? =some (t.st.af i):=by show _=some (t.af.getD i 0);rw [U9,Vd hi];rfl
theorem RB{l:List Nat}(h:l.Nodup){i j:Nat}{b:Nat}(hi:l[i]? =some b)(e:l[j]? =some b):i=j:=by
 have h1:i < l.length:=(Vi.1 hi).1;have c:j < l.length:=(Vi.1 e).1;have a:l[i]=b:=(Vi.1 hi).2;have e2:l[j]=b:=(Vi.1 e).2;rcases Nat.lt_trichotomy i j with g | heq | d
 .exact absurd (by rw [a,e2]) (XH.1 h i j h1 c g)
 .exact heq
 .exact absurd (by rw [a,e2]) (XH.1 h j i c h1 d)
theorem vI{l:List Nm}{i:Nat}(h:i < l.length)(x:Nm)(j:Nat):aq (l.set i x) j=if j=i then x else aq l j:=by
 unfold aq;rw [U9,U9,WE];by_cases a:j=i
 .subst a;simp [h]
 .have:¬i=j:=λe=>a e.symm;simp [a,this]
theorem MS{l:List (List Nm)}{i:Nat}(h:i < l.length)(x:List Nm)(j:Nat):ay (l.set i x) j=if j=i then x else ay l j:=by
 unfold ay;rw [U9,U9,WE];by_cases a:j=i
 .subst a;simp [h]
 .have:¬i=j:=λe=>a e.symm;simp [a,this]
theorem Rw{l:List Nm}(g:Nm->Nm){k:Nat}(h:k < l.length):aq (l.map g) k=g (aq l k):=by unfold aq;rw [U9,U9,VZ,Vd h];rfl
theorem Ka{x:List Nm}{v b k:Nat}(hv:v < x.length)(hb:b < x.length)(c:k < x.length)(d:b≠v):nv (aq (cD x v b) k)=gJ (λj=>nv (aq x j)) b v k:=by
 unfold cD gJ;rw [vI (by simp;exact hb),vI (by simp;exact hv),Rw _ c];by_cases h1:k=b
 .rw [if_pos h1,if_pos h1];rfl
 .rw [if_neg h1,if_neg h1];by_cases a:k=v
  .rw [if_pos a,if_pos a];rfl
  .rw [if_neg a,if_neg a];rfl
theorem K2(c:Nm):∀(b a:List Nm),(iK c b a).length=a.length
 | [],_=>by simp [iK]
 | _::_,[]=>by simp [iK]
 | r::b,y::a=>by simp [iK,K2 c b a]
theorem K1(c:Nm):∀(b a:List Nm) (k:Nat),k < a.length->a.length<=b.length->nv (aq (iK c b a) k)=nv (aq a k)+nv c * nv (aq b k)
 | [],a,k,h,d=>by simp at d;rw [d] at h;simp at h
 | _::_,[],k,h,_=>by simp at h
 | r::b,y::a,0,_,_=>by
  rw [iK];by_cases e:nv r=0
  .rw [if_pos e];show nv y=nv y+nv c * nv r;rw [e];grind
  .rw [if_neg e];rfl
 | r::b,y::a,k+1,h,d=>by rw [iK];exact K1 c b a k (by simpa using h) (by simpa using d)
theorem Lt(row:List Nm)(v:Nat)(l:List Nm):(jA row v l).length=l.length:=by
 unfold jA;split
 .rfl
 .rw [K2,Wa]
theorem Ls{row l:List Nm}{v k:Nat}(e:row.length=l.length)(hv:v < l.length)(c:k < l.length)(d:nv (aq row v)=0):
  nv (aq (jA row v l) k)=kE (λj=>nv (aq row j)) v (λj=>nv (aq l j)) k:=by
 unfold jA kE;by_cases b:nv (aq l v)=0
 .rw [if_pos b];by_cases a:k=v
  .rw [if_pos a,a];exact b
  .rw [if_neg a];show nv (aq l k)=nv (aq l k)+nv (aq l v) * nv (aq row k);rw [b];grind
 .rw [if_neg b,K1 _ _ _ _ (by rw [Wa];exact c) (by rw [Wa];omega),vI hv];by_cases a:k=v
  .rw [if_pos a,if_pos a,a,d,tc];grind
  .rw [if_neg a,if_neg a]
theorem K3(row:List Nm)(v i:Nat):∀(xs:List (List Nm)) (k j:Nat),j < xs.length->ay (gp row v i k xs) j=if k+j=i then ay xs j else jA row v (ay xs j)
 | [],_,_,h=>by simp at h
 | x::xs,k,0,_=>by rw [gp];rfl
 | x::xs,k,j+1,h=>by rw [gp];have:=K3 row v i xs (k+1) j (by simpa using h);rw [show k+ (j+1)=k+1+j by omega];exact this
theorem Dj(v:Nat)(w:Vl):∀(bs:List Nat) (xs:List (List Nm)) (val:List Vl) (u:Nat),(∀b∈bs,b < val.length)->u∉bs->aJ (hF v w bs xs val) u=aJ val u
 | [],_,_,_,_,_=>by simp [hF]
 | _::_,[],_,_,_,_=>by simp [hF]
 | b::bs,x::xs,val,u,c,d=>by
  rw [hF,Dj v w bs xs _ u (λg a=>by rw [Wa];exact c g (Vc _ a)) (λh=>d (Vc _ h)),
   rB (c b Vb),if_neg (λe=>d (by rw [e];exact Vb))]
theorem Jd(v:Nat)(w:Vl):∀(bs:List Nat) (xs:List (List Nm)) (val:List Vl) (j b:Nat),(∀b∈bs,b < val.length)->bs.Nodup->bs[j]? =some b->bs.length=xs.length->
  aJ (hF v w bs xs val) b=kS (aJ val b) (fE w (aq (ay xs j) v))
 | [],_,_,_,_,_,_,h,_=>by simp at h
 | _::_,[],_,_,_,_,_,_,h=>by simp at h
 | c::bs,x::xs,val,0,b,g,k,h,m=>by simp only [Xu,U7] at h;subst h;have a:=(WC.1 k).1;rw [hF,Dj v w bs xs _ c (λi d=>by rw [Wa];exact g i (Vc _ d)) a,rB (g c Vb),if_pos rfl];rfl
 | c::bs,x::xs,val,j+1,b,g,k,h,m=>by simp only [Xv] at h;have a:=WC.1 k;have l:b≠c:=λe=>a.1 (by rw [<-e];exact Va h);rw [hF,Jd v w bs xs _ j b (λi d=>by rw [Wa];exact g i (Vc _ d)) a.2 h (by simpa using m),rB (g c Vb),if_neg l];rfl
structure bL (n:Nat) (rows:List R) (t:TL):Prop where
 be:cO n rows.length t
 ok:(aI n rows).OK t.st
 ln:∀i b,t.af[i]? =some b->cg b t.mp=some i
 vE:∀v,v∉t.af->cg v t.mp=none
 ky:oH t.mp
theorem M8{n:Nat}{rows:List R}(ro:fy n rows)(i k:Nat)(hi:i < rows.length):aU 1000000 ((aI n rows).A i k):=by
 refine aU.int ?_;by_cases a:k < (aY rows i).of.length
 .have:=ro.of _ (gN hi) ((aY rows i).of.getD k 0) (by
   rw [U9,Vd a];exact WT a)
  omega
 .rw [U9,Wc (by omega)];decide
theorem xZ{a:Nat}{D q:Rat}(c:D≠0)(h1:aU (2 ^ a) D)(e:aU (2 ^ a) (D * q)):QB a q:=by
 obtain⟨d,b,i⟩:=h1;obtain⟨u,e2,j⟩:=e;have g:d≠0:=λh=>c (by rw [b,h];rfl);have:q=Rat.divInt u d:=by rw [YQ,<-e2,<-b,Wv];have:=Yf _ c;grind
 rw [this];exact QB.divInt g j i
theorem BA{K:Nat}(c: 1<=K):∀{a b:Nat},a<=b->bd K a<=bd K b
 | a,0,h=>by
  obtain rfl:a=0:=by omega
  exact Vq _
 | a,b+1,h=>by
  by_cases e:a=b+1
  .subst e;exact Vq _
  .have:=BA c (a:=a) (b:=b) (by omega);rw [bd];have h1:bd K b<=K * bd K b:=Nat.le_mul_of_pos_left _ (by omega);have d:K * bd K b<=(b+1) * (K * bd K b):=Nat.le_mul_of_pos_left _ (by omega);omega
theorem MA{n:Nat}(h:n<=12):bd 1000000 n<=2 ^ 270:=VO (BA (by decide) h) (by decide+kernel)
theorem bL.den{n:Nat}{rows:List R}{t:TL}(ro:fy n rows)(h:bL n rows t):∃D:Rat,D≠0/\aU (2 ^ 270) D/\
  (∀i v,i < rows.length->v < n+rows.length->aU (2 ^ 270) (D * nv (aq (ay t.ak i) v)))/\
  (∀(g G:Nat->Rat),(∀j,j < rows.length->g (t.st.af j)=0)->(∀k,k < n->aU 1000000 (G k))->
   (∀y,eW n rows.length (aI n rows).A y->sm (n+rows.length) (λk=>g k * y k)=sm n (λk=>G k * y k))->∀v,v < n+rows.length->aU (2 ^ 270) (D * g v)):=by
 obtain⟨D,h1,d,e,l⟩:=h.ok.wf.den (K:=1000000) (by decide) (λi k hi _=>M8 ro i k hi);have hb:=MA ro.sz.n;exact⟨D,h1,d.mono hb,λi v hi hv=>(e i v hi hv).mono hb,λg G a b c v hv=>(l g G a b c v hv).mono hb⟩
theorem bL.ak{n:Nat}{rows:List R}{t:TL}(ro:fy n rows)(h:bL n rows t):∀x∈t.ak,∀y∈x,QN 270 y:=by
 obtain⟨D,h1,b,d,_⟩:=h.den ro;intro x a y hy;obtain⟨i,hi,e⟩:=WB a;obtain⟨k,j,e2⟩:=WB hy;have m:=h.be.c;have o:=h.be.r x a;have g:ay t.ak i=x:=by unfold ay;rw [U9,Vd hi];exact e
 have l:aq x k=y:=by unfold aq;rw [U9,Vd j];exact e2
 have:=d i k (by omega) (by omega);rw [g,l] at this;exact xZ h1 b this
theorem Im{n:Nat}{rows:List R}(ro:fy n rows)(v:Nat)(hv:v < n+rows.length):aU 1000000 ((aI n rows).fx v).1/\aU 1000000 ((aI n rows).fx v).2:=by
 unfold Sy.fx;show aU 1000000 (if v < n then(0,0) else(aI n rows).up v:Rat×Rat).1/\aU 1000000 (if v < n then(0,0) else(aI n rows).up v:Rat×Rat).2;by_cases h:v < n
 .rw [if_pos h];exact⟨aU.zero _,aU.zero _⟩
 .rw [if_neg h];have:=ro.sz.tv _ (gN (rows:=rows) (i:=v - n) (by omega));refine⟨aU.int (z:=(aY rows (v - n)).tv) (by omega), ?_⟩;unfold Sy.up;dsimp only;split
  .exact⟨-1,rfl,by decide⟩
  .exact aU.zero _
set_option exponentiation.threshold 400 in
theorem L4{n:Nat}{rows:List R}{t:TL}(h:bL n rows t){D:Rat}(o:aU (2 ^ 270) D)
  (p:∀i v,i < rows.length->v < n+rows.length->aU (2 ^ 270) (D * nv (aq (ay t.ak i) v))) (sz:Sz n rows) {y:Nat->Rat} (hy:eW n rows.length (aI n rows).A y)
  (g:∀v,v < n+rows.length->(∀i,i < rows.length->t.st.af i≠v)->aU 1000000 (y v)) {v:Nat} (hv:v < n+rows.length):aU (2 ^ 300) (D * y v):=by
 have q:=sz.n;have hm:=sz.m;by_cases hb:∃i,i < rows.length/\t.st.af i=v
 .obtain⟨i,hi,e⟩:=hb;have:=(h.ok.wf.same y).2 hy i hi;rw [<-e,this,<-pK];have hs:aU ((n+rows.length) * (2 ^ 270 * 1000000)) (sm (n+rows.length) (λk=>D * (t.st.c i k * y k))):=by
   refine wE (λk l=> ?_);by_cases d:∃j,j < rows.length/\t.st.af j=k
   .obtain⟨j,b,e'⟩:=d;rw [<-e',h.ok.wf.z i j hi b,V8,Wz];exact aU.zero _
   .have a:=(p i k hi l).mul (g k l (λj b e'=>d ⟨j,b,e'⟩));rw [<-Rat.mul_assoc];exact a
  refine hs.mono ?_;have:(n+rows.length) * (2 ^ 270 * 1000000)<=52 * (2 ^ 270 * 1000000):=V5 _ (by omega);exact VO this (by decide+kernel)
 .have a:=o.mul (g v hv (λj b e'=>hb ⟨j,b,e'⟩));exact a.mono (by decide+kernel)
theorem bL.val{n:Nat}{rows:List R}{t:TL}(ro:fy n rows)(h:bL n rows t):∀u,u < n+rows.length->VB 300 (aJ t.val u):=by
 obtain⟨D,h1,a,b,_⟩:=h.den ro;intro u c;have hm: 2 ^ 270<=2 ^ 300:=by decide+kernel
 refine⟨xZ h1 (a.mono hm) (L4 h a b ro.sz h.ok.hy (λv hv hb=> ?_) c),xZ h1 (a.mono hm) (L4 h a b ro.sz h.ok.hz (λv hv hb=> ?_) c)⟩
 .have:=congrArg Prod.fst (h.ok.fix v hv hb);show aU _ (t.st.val v).1;rw [this];exact(Im ro v hv).1
 .have:=congrArg Prod.snd (h.ok.fix v hv hb);show aU _ (t.st.val v).2;rw [this];exact(Im ro v hv).2
open Go Go.Aev Go.Aev.Gen Go.Aev.Wd Go.Aev.Tb
theorem jZ{t:TL}{n m:Nat}(h:cO n m t){i:Nat}(hi:i < m):t.st.af i∈t.af:=Va (jd (by rw [h.b];exact hi))
theorem mb{t:TL}{n m:Nat}(h:cO n m t){b:Nat}(hb:b∈t.af):∃i,i < m/\t.st.af i=b/\t.af[i]? =some b:=by
 obtain⟨i,hi,e⟩:=WB hb;have h1:t.af[i]? =some b:=by rw [Vd hi,e]
 have a:=jd (t:=t) hi;rw [h1] at a;exact⟨i,by rw [<-h.b];exact hi,(VR a).symm,h1⟩
theorem bL.zG{n:Nat}{rows:List R}{t:TL}(h:bL n rows t){i v:Nat}(hi:i < rows.length)(a:nv (aq (ay t.ak i) v)≠0):v∉t.af:=by intro hb;obtain⟨j,b,e,_⟩:=mb h.be hb;exact a (by rw [<-e];exact h.ok.wf.z i j hi b)
theorem Dk{n m:Nat}{t:TL}(h:cO n m t)(v:Nat)(w:Vl){u:Nat}(hv:v < n+m)(a:u∉t.af):aJ (dZ v w t).val u=if u=v then kS (aJ t.val v) w else aJ t.val u:=by show aJ (hF v w t.af t.ak (t.val.set v _)) u=_;rw [Dj v w t.af t.ak _ u (λb hb=>by rw [Wa,h.v];exact h.lt b hb) a,rB (by rw [h.v];exact hv)]
theorem zE{n m:Nat}{t:TL}(h:cO n m t)(v:Nat)(w:Vl){j b:Nat}(hv:v < n+m)(d:v∉t.af)(a:t.af[j]? =some b):
  aJ (dZ v w t).val b=kS (aJ t.val b) (fE w (aq (ay t.ak j) v)):=by
 show aJ (hF v w t.af t.ak (t.val.set v _)) b=_;rw [Jd v w t.af t.ak _ j b (λb hb=>by rw [Wa,h.v];exact h.lt b hb) h.nd a (by rw [h.b,h.c]),rB (by rw [h.v];exact hv),
  if_neg (λe=>d (by rw [<-e];exact Va a))]
theorem QZ{n:Nat}{rows:List R}{t:TL}(h:bL n rows t)(v:Nat)(w:Vl)(hv:v < n+rows.length)(m:v∉t.af):
  eW n rows.length (aI n rows).A (dZ v w t).st.y/\eW n rows.length (aI n rows).A (dZ v w t).st.z:=by
 have key:∀(g:Vl->Rat) (q:Rat),(∀a,g (kS a w)=g a+q)->(∀a k,g (kS a (fE w k))=g a+q * nv k)->eW n rows.length (aI n rows).A (λu=>g (aJ t.val u))->
   eW n rows.length (aI n rows).A (λu=>g (aJ (dZ v w t).val u)):=by
  intro g q s x r;refine(h.ok.wf.same _).1 (λj o=> ?_);have B:=(h.ok.wf.same _).2 r j o;have hb:=jd (t:=t) (i:=j) (by rw [h.be.b];exact o);show g (aJ (dZ v w t).val (t.st.af j))=_;rw [zE h.be v w hv m hb,x];have p:g (aJ t.val (t.st.af j))=sm (n+rows.length) (λk=>t.st.c j k * g (aJ t.val k)):=B;rw [p];have e:sm (n+rows.length) (λk=>t.st.c j k * g (aJ (dZ v w t).val k))=sm (n+rows.length) (λk=>1 * (t.st.c j k * g (aJ t.val k))+q * (if k=v then t.st.c j k else 0)):=by
   refine dv (λk C=> ?_);by_cases l:k∈t.af
   .obtain⟨i,hi,e,_⟩:=mb h.be l;have hz:t.st.c j k=0:=by rw [<-e];exact h.ok.wf.z j i o hi
    have d:k≠v:=λe'=>m (by rw [<-e'];exact l);rw [hz,if_neg d];grind
   .rw [Dk h.be v w hv l];by_cases d:k=v
    .subst d;rw [if_pos rfl,if_pos rfl,s];grind
    .rw [if_neg d,if_neg d];grind
  show _=sm (n+rows.length) (λk=>t.st.c j k * g (aJ (dZ v w t).val k));rw [e,lG,oe hv];show _+q * nv (aq (ay t.ak j) v)=1 * _+q * nv (aq (ay t.ak j) v);grind
 exact⟨key (λa=>nv a.1) (nv w.1) (λa=>rfl) (λa k=>rfl) h.ok.hy,key (λa=>nv a.2) (nv w.2) (λa=>rfl) (λa k=>rfl) h.ok.hz⟩
theorem R8{n m:Nat}{t:TL}(h:cO n m t){i v b:Nat}(row:List Nm)(eg:Bool)(hi:i < m)(j:Nat):(fk i v b row eg t).st.af j=gh t.st.af i v j:=by
 show(t.af.set i v).getD j 0=if j=i then v else t.af.getD j 0;rw [U9,U9,WE];have hb:=h.b;by_cases a:j=i
 .subst a;simp [hb,hi]
 .have:¬i=j:=λe=>a e.symm;simp [a,this]
theorem R9{n m:Nat}{t:TL}(h:cO n m t){i v:Nat}(eg:Bool)(hi:i < m)(hv:v < n+m)(e:t.st.af i≠v){j k:Nat}(o:j < m)(g:k < n+m):
  (fk i v (t.st.af i) (cD (ay t.ak i) v (t.st.af i)) eg t).st.c j k=pA t.st.c t.st.af i v j k:=by
 have l:=h.row hi;have s:=h.row o;have q:=h.c;have p:=h.lt _ (jZ h hi);show nv (aq (ay ((gp (cD (ay t.ak i) v (t.st.af i)) v i 0 t.ak).set i (cD (ay t.ak i) v (t.st.af i))) j) k)=_;rw [MS (by rw [Eg];omega)];unfold pA;have r:(cD (ay t.ak i) v (t.st.af i)).length=n+m:=by unfold cD;simp;exact l
 have d:∀k,k < n+m->nv (aq (cD (ay t.ak i) v (t.st.af i)) k)=gJ (t.st.c i) (t.st.af i) v k:=λk g=>Ka (by omega) (by omega) (by omega) e;by_cases a:j=i
 .rw [if_pos a,if_pos a];exact d k g
 .rw [if_neg a,if_neg a,K3 _ _ _ _ _ _ (by omega),if_neg (by omega)];rw [Ls (by omega) (by omega) (by omega) (by rw [d v hv];exact vT e)];unfold kE;by_cases b:k=v
  .rw [if_pos b,if_pos b]
  .rw [if_neg b,if_neg b];show nv (aq (ay t.ak j) k)+nv (aq (ay t.ak j) v) * nv (aq (cD (ay t.ak i) v (t.st.af i)) k)=_;rw [d k g];rfl
theorem Sa{n m:Nat}{t:TL}(h:cO n m t){i v b:Nat}(row:List Nm)(eg:Bool)(hi:i < m)(hv:v < n+m)(hvb:v∉t.af)(hrow:row.length=n+m):cO n m (fk i v b row eg t) where
 b:=by show(t.af.set i v).length=m;rw [Wa];exact h.b
 c:=by show((gp row v i 0 t.ak).set i row).length=m;rw [Wa,Eg];exact h.c
 r:=λx hx=>by
  have hx:x∈(gp row v i 0 t.ak).set i row:=hx;rcases VM hx with hx | hx
  .have gen:∀(xs:List (List Nm)) (k:Nat),(∀x∈xs,x.length=n+m)->∀x∈gp row v i k xs,x.length=n+m:=by
    intro xs;induction xs with
    | nil=>intro k _ x hx;simp [gp] at hx
    | cons y ys ih=>
     intro k hl x hx;rw [gp] at hx;rcases Vo.1 hx with hx | hx
     .rw [hx];split
      .exact hl y Vb
      .rw [Lt];exact hl y Vb
     .exact ih (k+1) (λx hx=>hl x (Vc _ hx)) x hx
   exact gen t.ak 0 h.r x hx
  .rw [hx];exact hrow
 v:=h.v
 lt:=λb hb=>by
  rcases VM hb with hb | hb
  .exact h.lt b hb
  .rw [hb];exact hv
 nd:=by
  show(t.af.set i v).Nodup;refine XH.2 (λa b ha hb hab=> ?_);rw [List.getElem_set,List.getElem_set];have ha':a < t.af.length:=by simpa using ha
  have hb':b < t.af.length:=by simpa using hb
  split <;> split
  .omega
  .exact λe=>hvb (by rw [e];exact WT hb')
  .exact λe=>hvb (by rw [<-e];exact WT ha')
  .exact XH.1 h.nd a b ha' hb' hab
theorem bL.J8{n:Nat}{rows:List R}{t:TL}(h:bL n rows t){i v:Nat}(w:Vl)(eg:Bool)(hi:i < rows.length)(hv:v < n+rows.length)(s:nv (aq (ay t.ak i) v)≠0)
  (z:vv (aJ (dZ v w t).val (t.st.af i))= (aI n rows).fx (t.st.af i)):
  bL n rows (fk i v (t.st.af i) (cD (ay t.ak i) v (t.st.af i)) eg (dZ v w t))/\
   ∀j,(fk i v (t.st.af i) (cD (ay t.ak i) v (t.st.af i)) eg (dZ v w t)).st.af j=gh t.st.af i v j:=by
 have l:=h.zG hi s;have A:=jZ h.be hi;have C:t.st.af i≠v:=λe=>l (by rw [<-e];exact A);have p:cO n rows.length (dZ v w t):=h.be.mv v w;have E:=h.be.row hi;have D:(cD (ay t.ak i) v (t.st.af i)).length=n+rows.length:=by unfold cD;simp;exact E
 have F:cO n rows.length (fk i v (t.st.af i) (cD (ay t.ak i) v (t.st.af i)) eg (dZ v w t)):=Sa p _ _ hi hv l D;have d:∀j,(fk i v (t.st.af i) (cD (ay t.ak i) v (t.st.af i)) eg (dZ v w t)).st.af j=gh t.st.af i v j:=λj=>R8 p (b:=t.st.af i) (cD (ay t.ak i) v (t.st.af i)) eg hi j;obtain⟨G,H⟩:=QZ h v w hv l;refine⟨⟨F,⟨?_,G,H,λu m x=> ?_⟩, ?_, ?_, ?_⟩,d⟩
 .refine WF.congr (λj _=>(d j).symm) (λj k a J=> ?_) (UX h.ok.wf (i:=i) (v:=v) hi hv s);exact(R9 p eg hi hv C a J).symm
 .have q:u≠v:=λe=>x i hi (by rw [d];unfold gh;rw [if_pos rfl,e]);show vv (aJ (dZ v w t).val u)=_;by_cases g:u∈t.af
  .obtain⟨j,a,e,_⟩:=mb h.be g;by_cases r:j=i
   .rw [<-e,r];exact z
   .exact absurd (by rw [d];unfold gh;rw [if_neg r,e]) (x j a)
  .rw [Dk h.be v w hv g,if_neg q];exact h.ok.fix u m (λj a e=>g (by rw [<-e];exact jZ h.be a))
 .intro j b a;have a:(t.af.set i v)[j]? =some b:=a;show cg b (ju v i (kW (t.st.af i) t.mp))=some j;rw [zC,zB _ _ _ h.ky];rw [WE] at a;by_cases c:i=j
  .rw [if_pos c] at a;have o:i < t.af.length:=by rw [h.be.b];exact hi
   rw [if_pos o] at a;obtain rfl:=VR a;rw [if_pos rfl,c]
  .rw [if_neg c] at a;have B:=Va a;rw [if_neg (λe=>l (by rw [<-e];exact B)),if_neg (λe=>c (RB h.be.nd (jd (by rw [h.be.b];exact hi)) (by rw [a,e])))];exact h.ln j b a
 .intro u m;have m:u∉t.af.set i v:=m;show cg u (ju v i (kW (t.st.af i) t.mp))=none;have o:i < t.af.length:=by rw [h.be.b];exact hi
  have q:u≠v:=λe=>m (by rw [e];exact List.mem_set o _);rw [zC,if_neg q,zB _ _ _ h.ky];split
  .rfl
  .rename_i y;refine h.vE u (λhm=>m ?_);obtain⟨j,a,e,I⟩:=mb h.be hm;have c:i≠j:=λe'=>y (by rw [<-e,e']);refine Va (i:=j) ?_;rw [Yz c];exact I
 .exact C0 _ _ _ (IP _ _ h.ky)
theorem K7{w:Int}(c:w=1\/w= -1){q:Rat}(e:q≠0):w * q.num.sign≠0/\(w * q.num.sign > 0↔0 < (w:Rat) * q):=by
 have d:q.num≠0:=λh=>e (Zf.1 h);rcases Int.lt_or_gt_of_ne d with h | h
 .have hs:=WH h;have b:q < 0:=by
   refine Rat.not_le.1 λa=> ?_;have:=YO.2 a;omega
  rw [hs];rcases c with rfl | rfl
  .refine⟨by decide,⟨λh=>absurd h (by decide),λh=> ?_⟩⟩;have:((1:Int):Rat)=1:=rfl;rw [this] at h;exact absurd h (by grind)
  .refine⟨by decide,⟨λ_=> ?_,λ_=>by decide⟩⟩;have:((-1:Int):Rat)= -1:=rfl;rw [this];grind
 .have hs:=Wp h;have b: 0 < q:=by
   have h1: 0<=q:=YO.1 (by omega);grind
  rw [hs];rcases c with rfl | rfl
  .refine⟨by decide,⟨λ_=> ?_,λ_=>by decide⟩⟩;have:((1:Int):Rat)=1:=rfl;rw [this];grind
  .refine⟨by decide,⟨λh=>absurd h (by decide),λh=> ?_⟩⟩;have:((-1:Int):Rat)= -1:=rfl;rw [this] at h;exact absurd h (by grind)
theorem uJ{n:Nat}{rows:List R}(t:TL){w:Int}(e:w=1\/w= -1){q:Rat}(g:q≠0){v:Nat}:
  fg n rows t.val v (w * q.num.sign)=true↔(aI n rows).Can t.st ((w:Rat) * q) v:=by
 obtain⟨h1,d⟩:=K7 e g;have i:(w:Rat) * q≠0:=by
  rcases e with rfl | rfl
  .have:((1:Int):Rat)=1:=rfl;rw [this];grind
  .have:((-1:Int):Rat)= -1:=rfl;rw [this];grind
 rw [BM t v h1];unfold Sy.Can;by_cases b:w * q.num.sign > 0
 .have a:=d.1 b;rw [if_pos b];exact⟨λh=>⟨λ_=>h,λc=>absurd c (by grind)⟩,λh=>h.1 a⟩
 .have a:¬0 < (w:Rat) * q:=λh=>b (d.2 h);rw [if_neg b];exact⟨λh=>⟨λc=>absurd c a,λ_=>h⟩,λh=>h.2 (by grind)⟩
theorem bL.step{n:Nat}{rows:List R}{t:TL}(h:bL n rows t){i v:Nat}(eg:Bool)(hi:i < rows.length)(hv:v < n+rows.length)
  (c:(aI n rows).fV t.st (t.st.af i)) (r:aV n rows t.val (bB n rows t (t.st.af i)) (ay t.ak i) 0=some v) (l:∀j,j < rows.length->t.st.af j < t.st.af i->¬(aI n rows).fV t.st (t.st.af j)):
  bL n rows (gP n rows eg (t.st.af i) (bB n rows t (t.st.af i)) i v t)/\(aI n rows).Step t.st (gP n rows eg (t.st.af i) (bB n rows t (t.st.af i)) i v t).st i v:=by
 obtain⟨_,_,e3,o,x⟩:=jo r;rw [Wq] at e3 o;have w:=h.zG hi e3;have a:¬t.st.af i < n:=XC.2 c.1;have z:=jd (t:=t) (i:=i) (by rw [h.be.b];exact hi);have g:bB n rows t (t.st.af i)=1\/bB n rows t (t.st.af i)= -1:=by unfold bB;split;exact .inr rfl;exact .inl rfl
 have s:vv (if bB n rows t (t.st.af i) > 0 then iF n rows (t.st.af i) else bR n rows (t.st.af i))= (aI n rows).fx (t.st.af i):=by
  unfold Sy.fx;show _=if t.st.af i < n then((0:Rat),(0:Rat)) else _;rw [if_neg a];by_cases d:dc ((aI n rows).up (t.st.af i)) (t.st.val (t.st.af i))
  .have:bB n rows t (t.st.af i)= -1:=by unfold bB;rw [if_pos d]
   rw [this,if_neg (by decide)];exact wM a
  .have:bB n rows t (t.st.af i)=1:=by unfold bB;rw [if_neg d]
   rw [this,if_pos (by decide)];rcases c.2 with k | ⟨k,_⟩
   .exact absurd k d
   .exact vG (l9.2 ⟨a,k⟩)
 have m:vv (aJ (dZ v (pL n rows (t.st.af i) (bB n rows t (t.st.af i)) i v t) t).val (t.st.af i))= (aI n rows).fx (t.st.af i):=by
  rw [zE h.be v _ hv w z,<-s];unfold pL;generalize (if bB n rows t (t.st.af i) > 0 then iF n rows (t.st.af i) else bR n rows (t.st.af i))=to at *
  have D:nv (aq (ay t.ak i) v) * (nv (aq (ay t.ak i) v))⁻¹ =1:=Yf _ e3;refine Yj ?_ ?_
  .show nv (aJ t.val (t.st.af i)).1+ (nv to.1 - nv (aJ t.val (t.st.af i)).1) * (((1:Int):Rat) / nv (aq (ay t.ak i) v)) * nv (aq (ay t.ak i) v)=nv to.1;rw [Wv];have:((1:Int):Rat)=1:=rfl;rw [this];grind
  .show nv (aJ t.val (t.st.af i)).2+ (nv to.2 - nv (aJ t.val (t.st.af i)).2) * (((1:Int):Rat) / nv (aq (ay t.ak i) v)) * nv (aq (ay t.ak i) v)=nv to.2;rw [Wv];have:((1:Int):Rat)=1:=rfl;rw [this];grind
 obtain⟨B,C⟩:=h.J8 (i:=i) (v:=v) (pL n rows (t.st.af i) (bB n rows t (t.st.af i)) i v t) eg hi hv e3 m;refine⟨B,⟨hi,hv,c,l,e3, ?_,λu A e=> ?_,funext C⟩⟩
 .rw [AD];exact(uJ t g e3).1 o
 .rw [AD];intro y;have h1:=x u (Yk _) A (by rw [Wq];exact e);rw [Wq] at h1;have p:=(uJ (n:=n) (rows:=rows) t g (q:=nv (aq (ay t.ak i) u)) (v:=u) e).2 y;rw [h1] at p;cases p
open Go Go.Aev Go.Aev.Gen Go.Aev.Wd Go.Aev.Tb
def cA(n:Nat)(rows:List R)(eg:Bool):Nat->TL->Option (List Nm)×Bool×TL
 | p,t=>if(iQ n rows t.val t.af).1 < 0 then(none,true,t) else
  match p with
  | 0=>(none,false,t)
  | p+1=>match aV n rows t.val (iQ n rows t.val t.af).2 (ay t.ak ((cg (iQ n rows t.val t.af).1.toNat t.mp).getD 0)) 0 with
   | none=>(some (iY n rows.length (iQ n rows t.val t.af).2 (iQ n rows t.val t.af).1.toNat (ay t.ak ((cg (iQ n rows t.val t.af).1.toNat t.mp).getD 0))),true,t)
   | some v=>cA n rows eg p (gP n rows eg (iQ n rows t.val t.af).1.toNat (iQ n rows t.val t.af).2 ((cg (iQ n rows t.val t.af).1.toNat t.mp).getD 0) v t)
def gg:Option (List Nm)->T
 | none=>T.aK true
 | some l=>T.aa 4 false (aS l)
theorem mN{n:Nat}{rows:List R}{t:TL}(h:bL n rows t):
  ((∀j,j < rows.length->¬(aI n rows).fV t.st (t.st.af j))/\iQ n rows t.val t.af= (-1,0))\/
  ∃i,i < rows.length/\(aI n rows).fV t.st (t.st.af i)/\(∀j,j < rows.length->t.st.af j < t.st.af i->¬(aI n rows).fV t.st (t.st.af j))/\
   iQ n rows t.val t.af= ((t.st.af i:Int),bB n rows t (t.st.af i))/\cg (t.st.af i) t.mp=some i:=by
 rcases Fz (n:=n) (rows:=rows) t t.af with⟨h1,a⟩ | ⟨b,h1,a,d,g⟩
 .exact .inl ⟨λj c=>h1 _ (jZ h.be c),a⟩
 .obtain⟨i,hi,e,k⟩:=mb h.be h1;subst e;exact .inr ⟨i,hi,a,λj c l hb=>by have:=d _ (jZ h.be c) hb;omega,g,h.ln i _ k⟩
theorem mR{n:Nat}{rows:List R}{t:TL}(eg:Bool)(p:Nat)(h:iQ n rows t.val t.af= (-1,0)):cA n rows eg p t= (none,true,t):=by
 cases p with
 | zero=>rw [cA,h,if_pos (by decide)]
 | succ p=>rw [cA,h,if_pos (by decide)]
theorem qI{n:Nat}{rows:List R}{t:TL}(eg:Bool){b:Nat}{w:Int}(h:iQ n rows t.val t.af= ((b:Int),w)):cA n rows eg 0 t= (none,false,t):=by rw [cA,h,if_neg (by show ¬(b:Int) < 0;omega)]
theorem o6{n:Nat}{rows:List R}{t:TL}(eg:Bool)(p:Nat){b i:Nat}{w:Int}(h:iQ n rows t.val t.af= ((b:Int),w))(a:cg b t.mp=some i):
  cA n rows eg (p+1) t=match aV n rows t.val w (ay t.ak i) 0 with
   | none=>(some (iY n rows.length w b (ay t.ak i)),true,t)
   | some v=>cA n rows eg p (gP n rows eg b w i v t):=by
 have hb:((b:Nat):Int).toNat=b:=by omega
 rw [cA,h,if_neg (by show ¬(b:Int) < 0;omega)];simp only [hb,a,VD]
theorem JH{n:Nat}{rows:List R}(t:TL){w:Int}(c:w=1\/w= -1){row:List Nm}(h:aV n rows t.val w row 0=none){v:Nat}(hv:v < n):nv (aq row v)=0:=by refine Xo λa=> ?_;have h1:=yV h v (Yk _) (by rw [Wq];exact a);rw [Wq] at h1;have b:=(uJ (n:=n) (rows:=rows) t c (q:=nv (aq row v)) (v:=v) a).2 ⟨λ_=> .inl hv,λ_=> .inl hv⟩;rw [h1] at b;cases b
theorem wO(n:Nat)(rows:List R)(t:TL)(b:Nat):bB n rows t b=1\/bB n rows t b= -1:=by unfold bB;split;exact .inr rfl;exact .inl rfl
theorem Ud{n:Nat}{rows:List R}(f:Fl)(ro:fy n rows)(o:f.eg=true):∀(p:Nat) (t:TL),p<=100000->bL n rows t->
  Or p7 [r0,I (p:Int)] (S2 n rows f t)=some (gg (cA n rows true p t).1::tb (cA n rows true p t).2.1::gw n rows f (cA n rows true p t).2.2):=by
 intro p;induction p using Nat.strongRecOn with
 | _ p B=>
 intro t G h;have a:=ro.sz;have d:=h.val ro;have r:=h.ak ro;have hm:=a.m;have kb:=LV a f.er f.eb f.ev f.eg t.af t.val t.aA h.be.v d (by omega) h.be.lt (by rw [h.be.b];omega);rcases mN h with⟨_,hb⟩ | ⟨i,hi,k,s,hb,y⟩
 .rw [hb] at kb;rw [mR true _ hb,eO];have h1:(-1:Int) < 0:=by decide
  refine al ?_;rw [Ci];simp only [ai,↓reduceIte,Int.reduceBEq,Int.reduceEq,GD,kb,h1,cI,cL,gg]
 .rw [hb] at kb;have h1:¬(t.st.af i:Int) < 0:=by omega
  cases p with
  | zero=>rw [qI true hb,eO];have q:((0:Nat):Int)=0:=rfl;refine al ?_;rw [Ci];simp only [ai,↓reduceIte,Int.reduceBEq,Int.reduceEq,GD,kb,h1,q,cI,cL,gg]
  | succ p=>
   have D:=h.be.c;have q:¬((p+1:Nat):Int)=0:=by omega
   have z:i64.wrap (((p+1:Nat):Int) - 1)= (p:Int):=by rw [Go.Aev.wr (by omega)];omega
   have x: 0<=(i:Int)/\(i:Int) < (t.ak.length:Int):=by omega
   have w:=lj (ak:=t.ak) (i:=i) (by omega);have u:=jN (ak:=t.ak) (i:=i) (by omega);have l:=u5 (t.st.af i) t.mp;rw [y] at l;have A:=jd (t:=t) (i:=i) (by rw [h.be.b];exact hi);have g:=wO n rows t (t.st.af i);have E:bB n rows t (t.st.af i)≠0:=by rcases g with e | e <;> rw [e] <;> decide
   rw [o6 true p hb y];have:=Uf (n:=n) (rows:=rows) f t a h.be hi A k.1 g o d r (λv hv=>h.zG hi hv) (by omega) (by omega) (by omega) (p:Int)
    (λj v hv=>JH t g j hv)
    (res:=gg (match aV n rows t.val (bB n rows t (t.st.af i)) (ay t.ak i) 0 with
     | none=>(some (iY n rows.length (bB n rows t (t.st.af i)) (t.st.af i) (ay t.ak i)),true,t)
     | some v=>cA n rows true p (gP n rows true (t.st.af i) (bB n rows t (t.st.af i)) i v t)).1::
     tb (match aV n rows t.val (bB n rows t (t.st.af i)) (ay t.ak i) 0 with
     | none=>(some (iY n rows.length (bB n rows t (t.st.af i)) (t.st.af i) (ay t.ak i)),true,t)
     | some v=>cA n rows true p (gP n rows true (t.st.af i) (bB n rows t (t.st.af i)) i v t)).2.1::
     gw n rows f (match aV n rows t.val (bB n rows t (t.st.af i)) (ay t.ak i) 0 with
     | none=>(some (iY n rows.length (bB n rows t (t.st.af i)) (t.st.af i) (ay t.ak i)),true,t)
     | some v=>cA n rows true p (gP n rows true (t.st.af i) (bB n rows t (t.st.af i)) i v t)).2.2)
    (by
     cases j:aV n rows t.val (bB n rows t (t.st.af i)) (ay t.ak i) 0 with
     | none=>rfl
     | some v=>
      obtain⟨F,e2,_⟩:=jo j;obtain⟨C,_⟩:=h.step true hi (v:=v) (by have:=h.be.row hi;omega) k j s;rw [o];exact B p (Xf p) _ (by omega) C)
    (ay t.ak i) 0 rfl rfl
   refine al ?_;rw [Ci];simp only [ai,↓reduceIte,Int.reduceBEq,Int.reduceEq,GD,kb,h1,q,z,l,Xm,VD,x,and_self,dh,w,u,bJ];exact this
theorem Uc{n:Nat}{rows:List R}(f:Fl)(ro:fy n rows)(a:f.eg=true):∀(p:Nat) (t:TL),p<=100000->bL n rows t->
  Or p7 [r0,I (p:Int)] (S1 n rows f t)=some (gg (cA n rows true p t).1::tb (cA n rows true p t).2.1::gw n rows f (cA n rows true p t).2.2):=by
 intro p
 skip
 intro t F h;have d:=ro.sz;have g:=h.val ro;have r:=h.ak ro;have hm:=d.m;have kb:=LV d f.er f.eb f.ev f.eg t.af t.val t.aA h.be.v g (by omega) h.be.lt (by rw [h.be.b];omega);rcases mN h with⟨_,hb⟩ | ⟨i,hi,l,s,hb,y⟩
 .rw [hb] at kb;rw [mR true _ hb,eO];have h1:(-1:Int) < 0:=by decide
  refine al ?_;rw [Ch];simp only [ai,↓reduceIte,Int.reduceBEq,Int.reduceEq,GD,kb,h1,cI,cL,gg]
 .rw [hb] at kb;have h1:¬(t.st.af i:Int) < 0:=by omega
  cases p with
  | zero=>rw [qI true hb,eO];have q:((0:Nat):Int)=0:=rfl;refine al ?_;rw [Ch];simp only [ai,↓reduceIte,Int.reduceBEq,Int.reduceEq,GD,kb,h1,q,cI,cL,gg]
  | succ p=>
   have C:=h.be.c;have q:¬((p+1:Nat):Int)=0:=by omega
   have z:i64.wrap (((p+1:Nat):Int) - 1)= (p:Int):=by rw [Go.Aev.wr (by omega)];omega
   have x: 0<=(i:Int)/\(i:Int) < (t.ak.length:Int):=by omega
   have w:=lj (ak:=t.ak) (i:=i) (by omega);have u:=jN (ak:=t.ak) (i:=i) (by omega);have o:=u5 (t.st.af i) t.mp;rw [y] at o;have A:=jd (t:=t) (i:=i) (by rw [h.be.b];exact hi);have j:=wO n rows t (t.st.af i);have D:bB n rows t (t.st.af i)≠0:=by rcases j with e | e <;> rw [e] <;> decide
   rw [o6 true p hb y];have:=Ue (n:=n) (rows:=rows) f t d h.be hi A l.1 j a g r (λv hv=>h.zG hi hv) (by omega) (by omega) (by omega) (p:Int)
    (λk v hv=>JH t j k hv)
    (res:=gg (match aV n rows t.val (bB n rows t (t.st.af i)) (ay t.ak i) 0 with
     | none=>(some (iY n rows.length (bB n rows t (t.st.af i)) (t.st.af i) (ay t.ak i)),true,t)
     | some v=>cA n rows true p (gP n rows true (t.st.af i) (bB n rows t (t.st.af i)) i v t)).1::
     tb (match aV n rows t.val (bB n rows t (t.st.af i)) (ay t.ak i) 0 with
     | none=>(some (iY n rows.length (bB n rows t (t.st.af i)) (t.st.af i) (ay t.ak i)),true,t)
     | some v=>cA n rows true p (gP n rows true (t.st.af i) (bB n rows t (t.st.af i)) i v t)).2.1::
     gw n rows f (match aV n rows t.val (bB n rows t (t.st.af i)) (ay t.ak i) 0 with
     | none=>(some (iY n rows.length (bB n rows t (t.st.af i)) (t.st.af i) (ay t.ak i)),true,t)
     | some v=>cA n rows true p (gP n rows true (t.st.af i) (bB n rows t (t.st.af i)) i v t)).2.2)
    (by
     cases k:aV n rows t.val (bB n rows t (t.st.af i)) (ay t.ak i) 0 with
     | none=>rfl
     | some v=>
      obtain⟨E,e2,_⟩:=jo k;obtain⟨B,_⟩:=h.step true hi (v:=v) (by have:=h.be.row hi;omega) l k s;rw [a];exact Ud f ro a p _ (by omega) B)
    (ay t.ak i) 0 rfl rfl
   refine al ?_;rw [Ch];simp only [ai,↓reduceIte,Int.reduceBEq,Int.reduceEq,GD,kb,h1,q,z,o,Xm,VD,x,and_self,dh,w,u,bJ];exact this
theorem Ub{n:Nat}{rows:List R}(f:Fl)(ro:fy n rows)(a:f.eg=true)(p:Nat)(t:TL)(b:p<=100000)(h:bL n rows t):
  Or (.call 39) [r0,I (p:Int)] (S1 n rows f t)=some (gg (cA n rows true p t).1::tb (cA n rows true p t).2.1::gw n rows f (cA n rows true p t).2.2):=by
 have:=Uc (n:=n) (rows:=rows) f ro a p t b h;refine al ?_;rw [OR];exact this
open Go Go.Aev Go.Aev.Gen Go.Aev.Wd Go.Aev.Tb
def gH(n m:Nat)(r:R):List Nm:=r.of.map iN++List.replicate (n+m - r.of.length) none
def iR(n k:Nat):List Nat:=(List.range k).map λi=>n+i
def iH(n k:Nat):Ln:=(List.range k).map λi=>(n+i,i)
def eG(n:Nat)(rows:List R):TL:=⟨iR n rows.length,iH n rows.length,rows.map (gH n rows.length),List.replicate (n+rows.length) (none,none),[]⟩
def pj(er:Bool)(rows:List R):Fl:=⟨er,decide (rows.length=0),decide (rows.length=0),false,true⟩
theorem MM(n k:Nat):iR n (k+1)=iR n k++ [n+k]:=by simp [iR,Zj]
theorem C4(n v:Nat):∀(k:Nat),cg v (iH n k)=if n<=v/\v < n+k then some (v - n) else none:=by
 have app:∀(l:Ln) (p:Nat×Nat),cg v (l++ [p])=match cg v l with | some i=>some i | none=>if v=p.1 then some p.2 else none:=by
  intro l p;induction l with
  | nil=>rfl
  | cons q l a=>
   simp only [Vf,cg];by_cases h:v=q.1
   .simp [h]
   .simp only [if_neg h];exact a
 intro k;induction k with
 | zero=>simp [iH,cg]
 | succ k a=>
  have:iH n (k+1)=iH n k++ [(n+k,k)]:=by simp [iH,Zj]
  rw [this,app,a];by_cases h1:n<=v/\v < n+k
  .rw [if_pos h1];show some (v - n)=_;rw [if_pos (by omega)]
  .rw [if_neg h1];by_cases b:v=n+k
   .simp only [b,if_true];rw [if_pos (by omega)];congr 1;omega
   .simp only [if_neg b];rw [if_neg (by omega)]
theorem Kl(n k:Nat):ju (n+k) k (iH n k)=iH n (k+1):=by
 have app:∀(l:Ln) (v i:Nat),cg v l=none->ju v i l=l++ [(v,i)]:=by
  intro l v i;induction l with
  | nil=>intro _;rfl
  | cons q l b=>
   intro h;rw [cg] at h;by_cases a:v=q.1
   .rw [if_pos a] at h;cases h
   .rw [if_neg a] at h;rw [ju,if_neg a,b h];rfl
 rw [app _ _ _ (by rw [C4];rw [if_neg (by omega)])];simp [iH,Zj]
theorem I5:∀(l:List (List Nm)) (s:Nat) (x:List Nm),bK s l++ [⟨s+l.length,[T.aw],some (false,aS x)⟩]=bK s (l++ [x])
 | [],s,x=>rfl
 | y::l,s,x=>by have:=I5 l (s+1) x;simp only [bK,Vf,Vy];rw [show s+ (l.length+1)=s+1+l.length by omega,this]
theorem QX(l:List (List Nm))(x:List Nm):bK 0 l++ [⟨l.length,[T.aw],some (false,aS x)⟩]=bK 0 (l++ [x]):=by have:=I5 l 0 x;rwa [VP] at this
theorem OA(l:List Nat)(x:Nat):cY l++ [[ti (x:Int)]]=cY (l++ [x]):=by simp [cY]
theorem OF(n:Nat):List.replicate n [tb false,T.str (ByteArray.mk #[]),tb false,T.str (ByteArray.mk #[]),tb false,T.str (ByteArray.mk #[]),tb false,T.str (ByteArray.mk #[])]=dX (List.replicate n (none,none)):=by unfold dX;rw [List.map_replicate];rfl
def Bc(n:Nat)(rows:List R)(f:Fl)(t:TL):List T:=
 [ti (n:Int),T.aa 3 f.er (cU rows),T.aa 1 f.eb (cY t.af),bT (bZ t.mp),bO f.ec (bK 0 t.ak),T.aa 8 f.ev (dX t.val),T.aa 4 f.eg (aS t.aA)]
theorem J1(n:Nat)(rows:List R)(f:Fl)(t:TL):Bc n rows f t= [ti (n:Int),T.aa 3 f.er (cU rows),T.aa 1 f.eb (cY t.af),bT (bZ t.mp),bO f.ec (bK 0 t.ak),T.aa 8 f.ev (dX t.val),T.aa 4 f.eg (aS t.aA)]:=rfl
section
variable {n:Nat} {rows:List R} (er:Bool)
theorem T9(ro:fy n rows)(k:Nat)(w:k < rows.length)(eb ec:Bool)(val:List Vl){res:List T}
  (r:Or uq [LR er rows,I (n:Int),r0,r0,r0,LR er rows,I (rows.length:Int),I ((k+1:Nat):Int)]
   (S1 n rows ⟨er,false,false,false,true⟩ ⟨iR n (k+1),iH n (k+1),(rows.take (k+1)).map (gH n rows.length),val,[]⟩)=some res):
  ∀(xs:List Int) (j:Nat),(aY rows k).of.drop j=xs->j<=(aY rows k).of.length->
  Or xP [LR er rows,I (n:Int),r0,r0,r0,I (k:Int),AV.own (Id.c 1),LR er rows,I (rows.length:Int),I (k:Int),aa (aY rows k).e (aY rows k).of,I ((aY rows k).of.length:Int),I (j:Int)]
   [ab.box [I (n:Int),LR er rows,AV.own (Id.c 2),AV.own (Id.c 3),AV.own (Id.c 4),AV.own (Id.c 5),AV.own (Id.c 6)],
    ab.sl false 4 false (aS (((aY rows k).of.take j).map iN++List.replicate (n+rows.length - j) none)),ab.sl false 1 eb (cY (iR n k)),ab.mp false [Ck.i .i64] (Ck.i .i64) (bZ (iH n k)),
    ab.rows ec 1 0 4 ((rows.take k).map (gH n rows.length)).length (bK 0 ((rows.take k).map (gH n rows.length))),ab.sl false 8 false (dX val),ab.sl false 4 true (aS [])]=some res:=by
 have M:=ro.sz.n;have hm:=ro.sz.m;have b:=gN w;have J:=ro.len _ b;intro xs;induction xs with
 | nil=>
  intro j h q;have s:=bw h;have h1:¬(j:Int) < ((aY rows k).of.length:Int):=by omega
  have A:(aY rows k).of.take j= (aY rows k).of:=V9 s;have E:i64.wrap ((n:Int)+ (k:Int))= ((n+k:Nat):Int):=by rw [Go.Aev.wr (by omega)];omega
  have g:=iL (bs:=24) (n:=((rows.take (k+1)).map (gH n rows.length)).length) (by simp;omega);have H:bu 8 ((cY (iR n k)).length+ [[ti ((n+k:Nat):Int)]].length)=some ():=iL (by simp [cY,iR];omega);have d:(rows.take k).map (gH n rows.length)++ [gH n rows.length (aY rows k)]= (rows.take (k+1)).map (gH n rows.length):=by rw [XM,pF w,W2];rfl
  have C:(aY rows k).of.map iN++List.replicate (n+rows.length - j) none=gH n rows.length (aY rows k):=by unfold gH;rw [show j= (aY rows k).of.length by omega]
  have hb:cY (iR n k)++ [[ti ((n+k:Nat):Int)]]=cY (iR n (k+1)):=by rw [MM,OA]
  have D:hI [ti ((n+k:Nat):Int)] (ti (k:Int)) (bZ (iH n k))=bZ (iH n (k+1)):=by rw [zS,Kl]
  rw [A,C];have o:=QX ((rows.take k).map (gH n rows.length)) (gH n rows.length (aY rows k));rw [d] at o;have x:((rows.take k).map (gH n rows.length)).length+1= ((rows.take (k+1)).map (gH n rows.length)).length:=by rw [<-d];simp
  refine al ?_;rw [HG];simp only [ai,↓reduceIte,Int.reduceBEq,Int.reduceEq,GD,h1,cJ,dh,g,E,H,hb,D,o,x,next k (by omega)];exact r
 | cons c xs F=>
  intro j h q;obtain⟨p,K,B⟩:=bt h;have h1:(j:Int) < ((aY rows k).of.length:Int):=by omega
  have u: 0<=(j:Int):=by omega
  have L:=ro.of _ b c (Va p);have G:=fT c (by omega);have a:(((aY rows k).of.take j).map iN).length=j:=by simp;omega
  have y:List.replicate (n+rows.length - j) (none:Nm)=none::List.replicate (n+rows.length - (j+1)) none:=by rw [show n+rows.length - j= (n+rows.length - (j+1))+1 by omega,VX]
  have v:(j:Int) < ((((aY rows k).of.take j).map iN++none::List.replicate (n+rows.length - (j+1)) none).length:Int):=by rw [Ws,a];simp;omega
  have g:=kk (l:=((aY rows k).of.take j).map iN++none::List.replicate (n+rows.length - (j+1)) none) (i:=j) (by omega) (iN c);rw [rr _ _ _ _ _ a] at g;have z:((aY rows k).of.take j).map iN++iN c::List.replicate (n+rows.length - (j+1)) none= ((aY rows k).of.take (j+1)).map iN++List.replicate (n+rows.length - (j+1)) none:=by rw [XM,p,W2];simp
  rw [z] at g;have:=F (j+1) B (by omega);rw [y];refine al ?_;rw [HG];simp only [ai,↓reduceIte,Int.reduceBEq,Int.reduceEq,GD,h1,u,v,and_self,cJ,iV p,G,bJ,g,next j (by omega)];exact this
theorem Ua(ro:fy n rows):∀(d k:Nat),d+k=rows.length->
  Or uq [LR er rows,I (n:Int),r0,r0,r0,LR er rows,I (rows.length:Int),I (k:Int)]
   (S1 n rows ⟨er,decide (k=0),decide (k=0),false,true⟩ ⟨iR n k,iH n k,(rows.take k).map (gH n rows.length),List.replicate (n+rows.length) (none,none),[]⟩)=some (Bc n rows (pj er rows) (eG n rows)):=by
 have q:=ro.sz.n;have hm:=ro.sz.m;intro d;induction d with
 | zero=>
  intro k j;obtain rfl:k=rows.length:=by omega
  have h1:¬(rows.length:Int) < (rows.length:Int):=by omega
  have h:rows.take rows.length=rows:=V9 (Vq _);rw [h,J1];refine al ?_;rw [HF];simp only [ai,↓reduceIte,Int.reduceBEq,Int.reduceEq,GD,h1,cI,cL];rfl
 | succ d p=>
  intro k j;have b:k < rows.length:=by omega
  have h1:(k:Int) < (rows.length:Int):=by omega
  have c: 0<=(k:Int):=by omega
  have l:=fK (pF b);have o:i64.wrap ((n:Int)+ (rows.length:Int))= ((n+rows.length:Nat):Int):=by rw [Go.Aev.wr (by omega)];omega
  have g:=qR (k:=n+rows.length) (by omega);have i:((n+rows.length:Nat):Int).toNat=n+rows.length:=by omega
  have e:decide (k+1=0)=false:=by simp
  have a:=p (k+1) (by omega);rw [e] at a;have:=T9 er ro k b (decide (k=0)) (decide (k=0)) _ a (aY rows k).of 0 rfl (Yk _);simp only [X5,X9,Vg,Wq] at this;refine al ?_;rw [HF];simp only [ai,↓reduceIte,Int.reduceBEq,Int.reduceEq,GD,h1,c,and_self,bY,l,o,g,i,sF,cJ];exact this
theorem T8(ro:fy n rows):Or (.call 38) [LR er rows,I (n:Int)] []=some (Bc n rows (pj er rows) (eG n rows)):=by
 have d:=ro.sz.n;have hm:=ro.sz.m;have c:i64.wrap ((n:Int)+ (rows.length:Int))= ((n+rows.length:Nat):Int):=by rw [Go.Aev.wr (by omega)];omega
 have a:=qR (k:=n+rows.length) (by omega);have b:((n+rows.length:Nat):Int).toNat=n+rows.length:=by omega
 have:=Ua er ro rows.length 0 rfl;refine al ?_;rw [OQ];simp only [ai,↓reduceIte,Int.reduceBEq,Int.reduceEq,GD,bY,c,a,b,OF];exact this
end
open Go Go.Aev Go.Aev.Gen Go.Aev.Wd Go.Aev.Tb
abbrev LF:=Int×Vl×Bool
def lU(n:Nat)(rows:List R)(x:Nat)(a:Nm):Vl:=if nv a < 0 then iF n rows x else bR n rows x
def je(n:Nat)(rows:List R)(x:Nat)(a:Nm):Bool:=if nv a < 0 then fi n rows x else !decide (x < n)
def fJ(n:Nat)(rows:List R)(t:TL)(x:Nat)(a:Nm):Vl:=fE (og (lU n rows x a) (aJ t.val x)) (ov (iN 1) a)
def e8(n:Nat)(rows:List R)(t:TL)(x:Nat)(a:Nm)(i:Int)(s:LF):Prop:=
 (if s.2.2=true then eL s.2.1 (fJ n rows t x a) else 1) > 0\/((if s.2.2=true then eL s.2.1 (fJ n rows t x a) else 1)=0/\i>=0/\(s.1 < 0\/(x:Int) < (t.af.getD s.1.toNat 0:Nat)))
instance (n:Nat) (rows:List R) (t:TL) (x:Nat) (a:Nm) (i:Int) (s:LF):Decidable (e8 n rows t x a i s):=by unfold e8;infer_instance
def dH(n:Nat)(rows:List R)(t:TL)(x:Nat)(a:Nm)(i:Int)(s:LF):LF:=
 if nv a=0\/je n rows x a=false then s else if e8 n rows t x a i s then(i,fJ n rows t x a,true) else s
abbrev S5(n:Nat)(rows:List R)(f:Fl)(t:TL)(s:LF):List ab:=
 [ab.box [AV.ref (Id.c 4) 0],ab.box [B s.2.2],yl s.2.1,ab.box [I s.1],
  ab.box [I (n:Int),AV.t (T.aa 3 f.er (cU rows)),AV.own (Id.c 5),AV.own (Id.c 6),AV.own (Id.c 7),AV.own (Id.c 8),AV.own (Id.c 9)],ab.sl false 1 f.eb (cY t.af),ab.mp false [Ck.i .i64] (Ck.i .i64) (bZ t.mp),
   ab.rows f.ec 1 0 4 t.ak.length (bK 0 t.ak),ab.sl false 8 f.ev (dX t.val),ab.sl false 4 f.eg (aS t.aA)]
theorem Fv{n:Nat}{rows:List R}(sz:Sz n rows){x:Nat}(b:x < n+rows.length)(a:Nm):VB 20 (lU n rows x a):=by
 unfold lU;split
 .exact vF sz b
 .exact rA sz b
theorem s8(q:Rat):q.num.sign < 0↔q < 0:=by
 constructor
 .intro h;refine Rat.not_le.1 λb=> ?_;have h1:=YO.2 b;rcases Int.lt_or_eq_of_le h1 with a | a
  .rw [Wp a] at h;exact absurd h (by decide)
  .rw [<-a] at h;exact absurd h (by decide)
 .intro h;have h1:¬0<=q.num:=λh1=>by have:=YO.1 h1;grind
  rw [WH (by omega)];decide
section
variable {n:Nat} {rows:List R} (f:Fl) (t:TL)
set_option maxRecDepth 20000 in
theorem LP{mv Z ms:Nat}(sz:Sz n rows)(P:cO n rows.length t)(hq:∀u,u < n+rows.length->VB mv (aJ t.val u)){x:Nat}(V:x < n+rows.length){a:Nm}(ha:QN Z a)(i:Int)(s:LF)
  (hs:VB ms s.2.1) (hl:s.1 < (rows.length:Int)) (h1s: 20<=mv) (h2s:mv+20+1+ (2+Z)<=3000) (h3s:ms<=3000):
  Or (.call 124) [I (x:Int),EN a,I i,AV.ref (Id.c 0) 0,AV.ref (Id.c 1) 0,AV.ref (Id.c 2) 0,AV.ref (Id.c 3) 0] (S5 n rows f t s)=
   some (T.aw::tb (dH n rows t x a i s).2.2:: (VC (dH n rows t x a i s).2.1++ti (dH n rows t x a i s).1::gw n rows f t)):=by
 obtain⟨ln,ig,H⟩:=s;have hn:=sz.n;have hm:=sz.m;have B:=tN sz f.er f.eb f.ev f.eg t.af t.val t.aA V;have D:=wK sz f.er f.eb f.ev f.eg t.af t.val t.aA V;have ks:=lM a;have w: 0<=(x:Int)/\(x:Int) < (t.val.length:Int):=by have:=P.v;omega
 have G:=nF (ou (val:=t.val) (i:=x) (by have:=P.v;omega));rw [cH] at B D;simp only [Vf,Vg] at B D;rw [eO,cH];simp only [Vf,Vg];by_cases Q:nv a=0
 .have j:=(gu (nv a)).2 Q;have e:dH n rows t x a i (ln,ig,H)= (ln,ig,H):=by unfold dH;rw [if_pos (.inl Q)]
  have X:¬(0:Int) < 0:=by omega
  rw [e];refine al ?_;rw [iC];cases L:decide (x < n)
  .simp only [bE,ai,↓reduceIte,Int.reduceBEq,Int.reduceEq,GD,cm,B,ks,j,L,X,Vv,Vs,cI,cL]
  .simp only [bE,ai,↓reduceIte,Int.reduceBEq,Int.reduceEq,GD,cm,B,ks,j,L,X,Vv,Vs,cI,cL]
 .have j:¬(nv a).num.sign=0:=λh'=>Q ((gu _).1 h');have y:=fT 1 (by omega);have q1:QN 2 (iN 1):=eF (by decide);obtain⟨z,Y⟩:=mX q1 ha (by omega) Q;have qb:=Fv sz V a;have k:=wH qb (hq x V) (by omega);have qs:=tG qb (hq x V);have g:=pM (b:=ov (iN 1) a) qs Y (by omega);have qd:VB (20+mv+1+ (2+Z)) (fJ n rows t x a):=nP (b:=ov (iN 1) a) qs Y;have d:=wG hs qd (by omega);rw [show fE (og (lU n rows x a) (aJ t.val x)) (ov (iN 1) a)=fJ n rows t x a from rfl] at g;rw [cH] at k g;have q:¬(0:Int) > 0:=by decide
  have r:¬(0:Int) < 0:=by decide
  have W:(1:Int) > 0:=by decide
  by_cases K:nv a < 0
  .have p:(nv a).num.sign < 0:=(s8 _).2 K;have S:lU n rows x a=iF n rows x:=by unfold lU;rw [if_pos K]
   have M:je n rows x a= (fi n rows x):=by unfold je;rw [if_pos K]
   rw [S] at k g;cases F:(fi n rows x)
   .have e:dH n rows t x a i (ln,ig,H)= (ln,ig,H):=by unfold dH;rw [if_pos (.inr (by rw [M,F]))]
    rw [e];rw [F] at D;refine al ?_;rw [iC];simp only [bE,ai,↓reduceIte,Int.reduceBEq,Int.reduceEq,GD,cm,B,D,ks,j,w,G,and_self,cQ,dB,k,y,z,g,d,Vv,Vs,cI,cL,VD,V7,q,r,cH,p,decide_true,decide_false]
   .have e:dH n rows t x a i (ln,ig,H)=if e8 n rows t x a i (ln,ig,H) then(i,fJ n rows t x a,true) else(ln,ig,H):=by
     unfold dH;rw [if_neg];rintro(h | h)
     .exact Q h
     .rw [M,F] at h;cases h
    rw [F] at D;cases H
    .rw [e,if_pos (by unfold e8;exact .inl (by simp))];refine al ?_;rw [iC];simp only [bE,ai,↓reduceIte,Int.reduceBEq,Int.reduceEq,GD,cm,B,D,ks,j,w,G,and_self,cQ,dB,k,y,z,g,d,Vv,Vs,cI,cL,VD,V7,q,r,cH,p,decide_true,decide_false,W]
    .by_cases C:eL ig (fJ n rows t x a) > 0
     .rw [e,if_pos (by unfold e8;exact .inl (by simpa using C))];refine al ?_;rw [iC];simp only [bE,ai,↓reduceIte,Int.reduceBEq,Int.reduceEq,GD,cm,B,D,ks,j,w,G,and_self,cQ,dB,k,y,z,g,d,Vv,Vs,cI,cL,VD,V7,q,r,cH,p,decide_true,decide_false,C]
     .by_cases o:eL ig (fJ n rows t x a)=0
      .by_cases A:i>=0
       .by_cases E:ln < 0
        .rw [e,if_pos (by unfold e8;exact .inr ⟨by simpa using o,A, .inl E⟩)];refine al ?_;rw [iC];simp only [bE,ai,↓reduceIte,Int.reduceBEq,Int.reduceEq,GD,cm,B,D,ks,j,w,G,and_self,cQ,dB,k,y,z,g,d,Vv,Vs,cI,cL,VD,V7,q,r,cH,p,decide_true,decide_false,o,A,E]
        .obtain⟨l,rfl⟩:∃l:Nat,ln= (l:Int):=⟨ln.toNat,by omega⟩;have U:l < t.af.length:=by rw [P.b];simp only at hl;omega
         have O: 0<=(l:Int)/\(l:Int) < (t.af.length:Int):=by omega
         have N:=jL (jd (t:=t) U);have hbl:t.af.getD ((l:Int)).toNat 0=t.st.af l:=rfl;by_cases J:(x:Int) < (t.st.af l:Int)
         .rw [e,if_pos (by unfold e8;exact .inr ⟨by simpa using o,A, .inr J⟩)];refine al ?_;rw [iC];simp only [bE,ai,↓reduceIte,Int.reduceBEq,Int.reduceEq,GD,cm,B,D,ks,j,w,G,and_self,cQ,dB,k,y,z,g,d,Vv,Vs,cI,cL,VD,V7,q,r,cH,p,decide_true,decide_false,o,A,E,O,N,J]
         .rw [e,if_neg (by unfold e8;rintro(h | ⟨_,_,h | h⟩);exact C (by simpa using h);exact E h;exact J h)];refine al ?_;rw [iC];simp only [bE,ai,↓reduceIte,Int.reduceBEq,Int.reduceEq,GD,cm,B,D,ks,j,w,G,and_self,cQ,dB,k,y,z,g,d,Vv,Vs,cI,cL,VD,V7,q,r,cH,p,decide_true,decide_false,o,A,E,O,N,J]
       .rw [e,if_neg (by unfold e8;rintro(h | ⟨_,h,_⟩);exact C (by simpa using h);exact A h)];refine al ?_;rw [iC];simp only [bE,ai,↓reduceIte,Int.reduceBEq,Int.reduceEq,GD,cm,B,D,ks,j,w,G,and_self,cQ,dB,k,y,z,g,d,Vv,Vs,cI,cL,VD,V7,q,r,cH,p,decide_true,decide_false,o,A]
      .rw [e,if_neg (by unfold e8;rintro(h | ⟨h,_⟩);exact C (by simpa using h);exact o (by simpa using h))];refine al ?_;rw [iC];simp only [bE,ai,↓reduceIte,Int.reduceBEq,Int.reduceEq,GD,cm,B,D,ks,j,w,G,and_self,cQ,dB,k,y,z,g,d,Vv,Vs,cI,cL,VD,V7,q,r,cH,p,decide_true,decide_false,C,o]
  .have p:¬(nv a).num.sign < 0:=λh=>K ((s8 _).1 h);have S:lU n rows x a=bR n rows x:=by unfold lU;rw [if_neg K]
   have M:je n rows x a= (!decide (x < n)):=by unfold je;rw [if_neg K]
   rw [S] at k g;cases F:(!decide (x < n))
   .have e:dH n rows t x a i (ln,ig,H)= (ln,ig,H):=by unfold dH;rw [if_pos (.inr (by rw [M,F]))]
    rw [e];have L:decide (x < n)=true:=by cases h:decide (x < n);rw [h] at F;cases F;rfl
    rw [L] at B;refine al ?_;rw [iC];simp only [bE,ai,↓reduceIte,Int.reduceBEq,Int.reduceEq,GD,cm,B,D,ks,j,w,G,and_self,cQ,dB,k,y,z,g,d,Vv,Vs,cI,cL,VD,V7,q,r,cH,p,decide_true,decide_false]
   .have e:dH n rows t x a i (ln,ig,H)=if e8 n rows t x a i (ln,ig,H) then(i,fJ n rows t x a,true) else(ln,ig,H):=by
     unfold dH;rw [if_neg];rintro(h | h)
     .exact Q h
     .rw [M,F] at h;cases h
    have L:decide (x < n)=false:=by cases h:decide (x < n);rfl;rw [h] at F;cases F
    rw [L] at B;cases H
    .rw [e,if_pos (by unfold e8;exact .inl (by simp))];refine al ?_;rw [iC];simp only [bE,ai,↓reduceIte,Int.reduceBEq,Int.reduceEq,GD,cm,B,D,ks,j,w,G,and_self,cQ,dB,k,y,z,g,d,Vv,Vs,cI,cL,VD,V7,q,r,cH,p,decide_true,decide_false,W]
    .by_cases C:eL ig (fJ n rows t x a) > 0
     .rw [e,if_pos (by unfold e8;exact .inl (by simpa using C))];refine al ?_;rw [iC];simp only [bE,ai,↓reduceIte,Int.reduceBEq,Int.reduceEq,GD,cm,B,D,ks,j,w,G,and_self,cQ,dB,k,y,z,g,d,Vv,Vs,cI,cL,VD,V7,q,r,cH,p,decide_true,decide_false,C]
     .by_cases o:eL ig (fJ n rows t x a)=0
      .by_cases A:i>=0
       .by_cases E:ln < 0
        .rw [e,if_pos (by unfold e8;exact .inr ⟨by simpa using o,A, .inl E⟩)];refine al ?_;rw [iC];simp only [bE,ai,↓reduceIte,Int.reduceBEq,Int.reduceEq,GD,cm,B,D,ks,j,w,G,and_self,cQ,dB,k,y,z,g,d,Vv,Vs,cI,cL,VD,V7,q,r,cH,p,decide_true,decide_false,o,A,E]
        .obtain⟨l,rfl⟩:∃l:Nat,ln= (l:Int):=⟨ln.toNat,by omega⟩;have U:l < t.af.length:=by rw [P.b];simp only at hl;omega
         have O: 0<=(l:Int)/\(l:Int) < (t.af.length:Int):=by omega
         have N:=jL (jd (t:=t) U);have hbl:t.af.getD ((l:Int)).toNat 0=t.st.af l:=rfl;by_cases J:(x:Int) < (t.st.af l:Int)
         .rw [e,if_pos (by unfold e8;exact .inr ⟨by simpa using o,A, .inr J⟩)];refine al ?_;rw [iC];simp only [bE,ai,↓reduceIte,Int.reduceBEq,Int.reduceEq,GD,cm,B,D,ks,j,w,G,and_self,cQ,dB,k,y,z,g,d,Vv,Vs,cI,cL,VD,V7,q,r,cH,p,decide_true,decide_false,o,A,E,O,N,J]
         .rw [e,if_neg (by unfold e8;rintro(h | ⟨_,_,h | h⟩);exact C (by simpa using h);exact E h;exact J h)];refine al ?_;rw [iC];simp only [bE,ai,↓reduceIte,Int.reduceBEq,Int.reduceEq,GD,cm,B,D,ks,j,w,G,and_self,cQ,dB,k,y,z,g,d,Vv,Vs,cI,cL,VD,V7,q,r,cH,p,decide_true,decide_false,o,A,E,O,N,J]
       .rw [e,if_neg (by unfold e8;rintro(h | ⟨_,h,_⟩);exact C (by simpa using h);exact A h)];refine al ?_;rw [iC];simp only [bE,ai,↓reduceIte,Int.reduceBEq,Int.reduceEq,GD,cm,B,D,ks,j,w,G,and_self,cQ,dB,k,y,z,g,d,Vv,Vs,cI,cL,VD,V7,q,r,cH,p,decide_true,decide_false,o,A]
      .rw [e,if_neg (by unfold e8;rintro(h | ⟨h,_⟩);exact C (by simpa using h);exact o (by simpa using h))];refine al ?_;rw [iC];simp only [bE,ai,↓reduceIte,Int.reduceBEq,Int.reduceEq,GD,cm,B,D,ks,j,w,G,and_self,cQ,dB,k,y,z,g,d,Vv,Vs,cI,cL,VD,V7,q,r,cH,p,decide_true,decide_false,C,o]
end
open Go Go.Aev Go.Aev.Gen Go.Aev.Wd Go.Aev.Tb
def gZ(n:Nat)(rows:List R)(t:TL)(v:Nat)(aj:Int):List Nat->List (List Nm)->Nat->LF->LF
 | b::bs,x::xs,i,s=>gZ n rows t v aj bs xs (i+1) (dH n rows t b (tm (aq x v) (iN aj)) (i:Int) s)
 | _,_,_,s=>s
def bm(n:Nat)(rows:List R)(t:TL)(v:Nat)(aj:Int):LF:=gZ n rows t v aj t.af t.ak 0 (dH n rows t v (iN aj) (-1) (-1,(none,none),false))
abbrev BH:ab:=ab.box [B false,AV.t (T.str (ByteArray.mk #[])),B false,AV.t (T.str (ByteArray.mk #[])),B false,AV.t (T.str (ByteArray.mk #[])),B false,AV.t (T.str (ByteArray.mk #[]))]
abbrev S6(n:Nat)(rows:List R)(f:Fl)(t:TL)(s:LF):List ab:=
 [ab.box [I (n:Int),AV.t (T.aa 3 f.er (cU rows)),AV.own (Id.c 1),AV.own (Id.c 2),AV.own (Id.c 11),AV.own (Id.c 4),AV.own (Id.c 5)],ab.sl false 1 f.eb (cY t.af),ab.mp false [Ck.i .i64] (Ck.i .i64) (bZ t.mp),
  ab.dead,ab.sl false 8 f.ev (dX t.val),ab.sl false 4 f.eg (aS t.aA),ab.box [AV.ref (Id.c 0) 0],BH,ab.box [I s.1],ab.box [B s.2.2],yl s.2.1,ab.rows f.ec 1 0 4 t.ak.length (bK 0 t.ak)]
theorem EM(m:Nat):VB m (none,none):=⟨iM _,iM _⟩
theorem yx{n:Nat}{rows:List R}(sz:Sz n rows){t:TL}{mv c M:Nat}{x:Nat}(l:x < n+rows.length)(k:VB mv (aJ t.val x)){a:Nm}(j:QN c a)(h1:mv+c+25<=M)(m:M<=6000)(i:Int){s:LF}(hs:VB M s.2.1):
  VB M (dH n rows t x a i s).2.1:=by
 unfold dH;by_cases h:nv a=0\/je n rows x a=false
 .rw [if_pos h];exact hs
 .rw [if_neg h];split
  .have g:nv a≠0:=λe=>h (.inl e);have q1:QN 2 (iN 1):=eF (by decide);obtain⟨_,d⟩:=mX q1 j (by omega) g;exact(nP (b:=ov (iN 1) a) (tG (Fv sz l a) k) d).mono (by omega)
  .exact hs
theorem BR(n:Nat)(rows:List R)(t:TL)(x:Nat)(a:Nm)(i:Int)(s:LF):(dH n rows t x a i s).1=i\/(dH n rows t x a i s).1=s.1:=by
 unfold dH;split
 .exact .inr rfl
 .split
  .exact .inl rfl
  .exact .inr rfl
section
variable {n:Nat} {rows:List R} (f:Fl) (t:TL)
set_option maxRecDepth 20000 in
theorem UB{mv mc:Nat}(sz:Sz n rows)(d:cO n rows.length t)(F:∀u,u < n+rows.length->VB mv (aJ t.val u))(Q:∀x∈t.ak,∀y∈x,QN mc y)
  {v:Nat} (hv:v < n+rows.length) {aj:Int} (H:aj=1\/aj= -1) (w: 20<=mv) (V:mv+mc+40<=2000):
  ∀(bs:List Nat) (xs:List (List Nm)) (i:Nat) (s:LF),t.af.drop i=bs->t.ak.drop i=xs->VB (mv+mc+40) s.2.1->s.1 < (rows.length:Int)->
  Or Ba [I (v:Int),I aj,AV.ref (Id.c 6) 0,AV.ref (Id.c 7) 0,AV.ref (Id.c 8) 0,AV.ref (Id.c 9) 0,AV.ref (Id.c 10) 0,AV.fn 124 [] [AV.ref (Id.c 6) 0,AV.ref (Id.c 9) 0,AV.ref (Id.c 10) 0,AV.ref (Id.c 8) 0],AV.own (Id.c 1),I (t.af.length:Int),I (i:Int)] (S6 n rows f t s)=
   some (ti (gZ n rows t v aj bs xs i s).1:: (VC (gZ n rows t v aj bs xs i s).2.1++tb (gZ n rows t v aj bs xs i s).2.2::gw n rows f t)):=by
 have hn:=sz.n;have hm:=sz.m;have W:=d.b;have X:=d.c;intro bs;induction bs with
 | nil=>
  intro xs i s hb o h j;have h1:¬(i:Int) < (t.af.length:Int):=by have:=bw hb;omega
  have E:gZ n rows t v aj [] xs i s=s:=by cases xs <;> rfl
  rw [E,eO,cH];refine al ?_;rw [HP];simp only [ai,↓reduceIte,Int.reduceBEq,Int.reduceEq,GD,h1,cI,cL];rfl
 | cons b bs S=>
  intro xs i s hb o h j;obtain⟨q,Z,P⟩:=bt hb;cases xs with
  | nil=>have:=bw o;omega
  | cons x xs=>
   obtain⟨p,x2,U⟩:=bt o;have Y:=d.r x (Va p);have g:=d.lt b (Va q);have h1:(i:Int) < (t.af.length:Int):=by omega
   have C: 0<=(i:Int):=by omega
   have D:(i:Int) < (t.ak.length:Int):=by omega
   have G: 0<=(v:Int)/\(v:Int) < (x.length:Int):=by omega
   have z:ay t.ak i=x:=by have:=jh (ak:=t.ak) (i:=i) (by omega);rw [p] at this;exact(VR this).symm
   have B:=lj (ak:=t.ak) (i:=i) (by omega);have A:=jN (ak:=t.ak) (i:=i) (by omega);rw [z] at B A;have J:=fT aj (by rcases H with rfl | rfl <;> decide);have O:QN 2 (iN aj):=by rcases H with rfl | rfl <;> exact eF (by decide)
   have L:QN mc (aq x v):=Q x (Va p) _ (Va (gF (by omega)));have K:=mo L O (by omega);have N:QN (mc+2) (tm (aq x v) (iN aj)):=L.mul O;have a:=LP (n:=n) (rows:=rows) f t sz d F g N (i:Int) s h j w (by omega) (by omega);have T:=yx sz (t:=t) g (F b g) N (M:=mv+mc+40) (by omega) (by omega) (i:Int) h;have k:(dH n rows t b (tm (aq x v) (iN aj)) (i:Int) s).1 < (rows.length:Int):=by
    rcases BR n rows t b (tm (aq x v) (iN aj)) (i:Int) s with e | e <;> rw [e]
    .omega
    .exact j
   have:=S xs (i+1) (dH n rows t b (tm (aq x v) (iN aj)) (i:Int) s) P U T k;rw [gZ];generalize dH n rows t b (tm (aq x v) (iN aj)) (i:Int) s=s2 at a this⊢;rw [eO,cH] at a;simp only [Vf,Vg] at a;refine al ?_;rw [HP];simp only [ai,↓reduceIte,Int.reduceBEq,Int.reduceEq,GD,fa,cm,h1,C,D,and_self,dB,jL q,dh,B,A,G,bJ,cw (gF (l:=x) (i:=v) (by omega)),J,K,a,e9,eM,Vj,next i (by omega)];exact this
set_option maxRecDepth 20000 in
theorem LX{mv mc:Nat}(sz:Sz n rows)(g:cO n rows.length t)(h:∀u,u < n+rows.length->VB mv (aJ t.val u))(q:∀x∈t.ak,∀y∈x,QN mc y)
  {v:Nat} (hv:v < n+rows.length) {aj:Int} (k:aj=1\/aj= -1) (d: 20<=mv) (l:mv+mc+40<=2000):
  Or (.call 86) [r0,I (v:Int),I aj] (S1 n rows f t)=
   some (ti (bm n rows t v aj).1:: (VC (bm n rows t v aj).2.1++tb (bm n rows t v aj).2.2::gw n rows f t)):=by
 have w:=sz.n;have hm:=sz.m;have o:=fT aj (by rcases k with rfl | rfl <;> decide);have p:QN 2 (iN aj):=by rcases k with rfl | rfl <;> exact eF (by decide)
 have a:=LP (n:=n) (rows:=rows) f t sz g h hv p (-1) (-1,(none,none),false) (EM 2) (by show(-1:Int) < _;omega) d (by omega) (by omega);have r:=yx sz (t:=t) hv (h v hv) p (M:=mv+mc+40) (by omega) (by omega) (-1) (s:=(-1,(none,none),false)) (EM _);have j:(dH n rows t v (iN aj) (-1) (-1,(none,none),false)).1 < (rows.length:Int):=by
  rcases BR n rows t v (iN aj) (-1) (-1,(none,none),false) with e | e <;> rw [e]
  .omega
  .show(-1:Int) < _;omega
 have:=UB (n:=n) (rows:=rows) f t sz g h q hv k d l t.af t.ak 0 _ rfl rfl r j;unfold bm;generalize dH n rows t v (iN aj) (-1) (-1,(none,none),false)=z at a this⊢;rw [eO,cH] at a;simp only [Vf,Vg] at a;have hz:yl ((-1:Int),((none,none):Vl),false).2.1=BH:=rfl;have b:Or (.call 124) [I (v:Int),EN (iN aj),I (-1),AV.ref (Id.c 0) 0,AV.ref (Id.c 1) 0,AV.ref (Id.c 2) 0,AV.ref (Id.c 3) 0]
  [ab.box [AV.ref (Id.c 4) 0],ab.box [B false],BH,ab.box [I (-1)],
  ab.box [I (n:Int),AV.t (T.aa 3 f.er (cU rows)),AV.own (Id.c 5),AV.own (Id.c 6),AV.own (Id.c 7),AV.own (Id.c 8),AV.own (Id.c 9)],ab.sl false 1 f.eb (cY t.af),ab.mp false [Ck.i .i64] (Ck.i .i64) (bZ t.mp),
   ab.rows f.ec 1 0 4 t.ak.length (bK 0 t.ak),ab.sl false 8 f.ev (dX t.val),ab.sl false 4 f.eg (aS t.aA)]=_:=a
 refine al ?_;rw [Pm];simp only [ai,↓reduceIte,Int.reduceBEq,Int.reduceEq,GD,fa,cm,o,b,e9,eM,Vj,dh,dB];exact this
def hJ(t:TL)(v:Nat)(aj:Int)(k:Nat):Nm:=match cg k t.mp with
 | some i=>tm (aq (ay t.ak i) v) (iN aj)
 | none=>none
def jx(n:Nat)(t:TL)(v:Nat)(aj:Int):List Nm:=if v < n then((List.range n).map (hJ t v aj)).set v (iN aj) else(List.range n).map (hJ t v aj)
theorem UC{mc:Nat}(p:cO n rows.length t)(M:n<=12)(hm:rows.length<=40)(E:∀x∈t.ak,∀y∈x,QN mc y)(B:∀k i,cg k t.mp=some i->i < rows.length)
  {v:Nat} (hv:v < n+rows.length) {aj:Int} (C:aj=1\/aj= -1) (s:mc+2<=6300):
  ∀(d k:Nat),d+k=n->
  Or uv [r0,I (v:Int),I aj,AV.own (Id.c 6),I (n:Int),I (k:Int)] (S1 n rows f t++ [ab.sl false 4 false (aS ((List.range k).map (hJ t v aj)++List.replicate d none))])=
   some (T.aa 4 false (aS (jx n t v aj))::gw n rows f t):=by
 have L:=p.c;have r:=fT aj (by rcases C with rfl | rfl <;> decide);have K:QN 2 (iN aj):=by rcases C with rfl | rfl <;> exact eF (by decide)
 intro d;induction d with
 | zero=>
  intro k F;obtain rfl:k=n:=by omega
  have h1:¬(k:Int) < (k:Int):=by omega
  simp only [WW,We];rw [eO];unfold jx;by_cases q:v < k
  .have a:(v:Int) < (k:Int):=by omega
   have j: 0<=(v:Int)/\(v:Int) < (((List.range k).map (hJ t v aj)).length:Int):=by simp;omega
   have m:=kk (l:=(List.range k).map (hJ t v aj)) (i:=v) (by simp;omega) (iN aj);rw [if_pos q];refine al ?_;simp only [Vf,Vg];rw [yZ];simp only [ai,↓reduceIte,Int.reduceBEq,Int.reduceEq,GD,h1,a,j,and_self,bJ,r,m,cI,cL]
  .have a:¬(v:Int) < (k:Int):=by omega
   rw [if_neg q];refine al ?_;simp only [Vf,Vg];rw [yZ];simp only [ai,↓reduceIte,Int.reduceBEq,Int.reduceEq,GD,h1,a,cI,cL]
 | succ d H=>
  intro k F;have h1:(k:Int) < (n:Int):=by omega
  have A: 0<=(k:Int):=by omega
  have g:((List.range k).map (hJ t v aj)).length=k:=by simp
  have o:(k:Int) < (((List.range k).map (hJ t v aj)++List.replicate (d+1) none).length:Int):=by rw [Ws,g];simp;omega
  have:=H (k+1) (by omega);rw [Zj,W2] at this;simp only [V6,X9,VJ,Vf,Vg] at this;have b:=u5 k t.mp;cases e:cg k t.mp with
  | none=>
   have h:hJ t v aj k=none:=by unfold hJ;rw [e]
   rw [e] at b;rw [h] at this;refine al ?_;simp only [Vf,Vg];rw [yZ];simp only [ai,↓reduceIte,Int.reduceBEq,Int.reduceEq,GD,h1,b,YH,V7,Zt,next k (by omega)];rw [VX];exact this
  | some i=>
   have hi:=B k i e;have h:hJ t v aj k=tm (aq (ay t.ak i) v) (iN aj):=by unfold hJ;rw [e]
   rw [e] at b;rw [h] at this;have G:=p.row hi;have z: 0<=(i:Int)/\(i:Int) < (t.ak.length:Int):=by omega
   have w:=lj (ak:=t.ak) (i:=i) (by omega);have u:=jN (ak:=t.ak) (i:=i) (by omega);have j: 0<=(v:Int)/\(v:Int) < ((ay t.ak i).length:Int):=by omega
   have J:QN mc (aq (ay t.ak i) v):=E _ (Va (jh (by omega))) _ (Va (gF (by omega)));have D:=mo J K s;have m:=kk (l:=(List.range k).map (hJ t v aj)++List.replicate (d+1) none) (i:=k) (by omega) (tm (aq (ay t.ak i) v) (iN aj));rw [VX,rr _ _ _ _ _ g] at m;rw [VX] at o⊢;refine al ?_;simp only [Vf,Vg];rw [yZ];simp only [ai,↓reduceIte,Int.reduceBEq,Int.reduceEq,GD,h1,A,o,b,Xm,VD,Zu,z,and_self,dh,w,u,j,bJ,cw (gF (l:=ay t.ak i) (i:=v) (by omega)),r,D,m,next k (by omega)];exact this
theorem LY{mc:Nat}(d:cO n rows.length t)(h:n<=12)(hm:rows.length<=40)(g:∀x∈t.ak,∀y∈x,QN mc y)(b:∀k i,cg k t.mp=some i->i < rows.length)
  {v:Nat} (hv:v < n+rows.length) {aj:Int} (j:aj=1\/aj= -1) (a:mc+2<=6300):
  Or (.call 87) [r0,I (v:Int),I aj] (S1 n rows f t)=some (T.aa 4 false (aS (jx n t v aj))::gw n rows f t):=by
 have:=UC (n:=n) (rows:=rows) f t d h hm g b hv j a n 0 rfl;have c:=qR (k:=n) (by omega);have e:((n:Nat):Int).toNat=n:=by omega
 simp only [Vf,Vg,List.range_zero,X9] at this;refine al ?_;rw [Pn];simp only [ai,↓reduceIte,Int.reduceBEq,Int.reduceEq,GD,c,e,sF,bJ,W7];exact this
end
end Go.Aev.Wd.Lg
