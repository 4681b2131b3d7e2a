import Derived.Test.YtgkhhafdkdmlpaaGreatTopMostQ13
import Derived.Test.YtgkhhafdkdmlpaaGreatTopMostQ16
import Derived.Test.YtgkhhafdkdmlpaaGreatTopMostQ17
set_option linter.all false
namespace Go.Aev.Tb
open Go Go.Aev
theorem yh(f:Nat->Rat)(n:Nat):∀(m:Nat),sm (n+m) f=sm n f+sm m (λi=>f (n+i))
 | 0=>by show sm n f=sm n f+0;grind
 | m+1=>by show sm (n+m) f+f (n+m)=sm n f+ (sm m (λi=>f (n+i))+f (n+m));rw [yh f n m];grind
structure Sy.Cv (S:Sy) (G:Nat->Rat) (t:bm) (g:Nat->Rat):Prop where
 free:∀u,u < S.n->g u=0
 sg:∀i,i < S.m->S.kd i≠3->0<=g (S.n+i)
 az:∀k,k < S.n->sm S.m (λi=>g (S.n+i) * S.A i k)=G k
 val:sm S.n (λk=>G k * t.y k)=sm S.m (λi=>g (S.n+i) * S.to i)
theorem JK{S:Sy}{G:Nat->Rat}{t:bm}{g:Nat->Rat}(hy:eN S.n S.m S.A t.y)(q:S.sB G t g)(r:S.nP t)(f:∀u,u < S.n+S.m->g u≠0->¬S.sr t (g u) u):S.Cv G t g:=by
 have free:∀u,u < S.n->g u=0:=λu w=>by refine Tv λc=>f u (by omega) c ⟨λ_=> .inl w,λ_=> .inl w⟩
 have neg:∀i,i < S.m->g (S.n+i) < 0->S.kd i=3/\t.y (S.n+i)=S.to i:=λi hi h=>by have p:=f (S.n+i) (by omega) (by grind);have a:¬S.sw t (S.n+i):=λa=>p ⟨λd=>by grind,λ_=>a⟩;unfold Sy.sw at a;rw [R3] at a;have x:S.kd i=3:=Tv λd=>a (.inr (.inl d));have:=(r (S.n+i) (by omega) (by omega)).2;rw [R3] at this;exact⟨x,this x⟩
 have pos:∀i,i < S.m->0 < g (S.n+i)->t.y (S.n+i)=S.to i:=λi hi h=>by have p:=f (S.n+i) (by omega) (by grind);have a:¬S.sM t (S.n+i):=λa=>p ⟨λ_=>a,λd=>by grind⟩;unfold Sy.sM at a;rw [R3] at a;have:=(r (S.n+i) (by omega) (by omega)).1;rw [R3] at this;have D:¬t.y (S.n+i) < S.to i:=λd=>a (.inr d);grind
 have sum:∀y:Nat->Rat,sm (S.n+S.m) (λk=>g k * y k)=sm S.m (λi=>g (S.n+i) * y (S.n+i)):=λy=>by
  rw [yh (λk=>g k * y k) S.n S.m];have:sm S.n (λk=>g k * y k)=0:=lJ λk b=>by rw [free k b,Se]
  rw [this];grind
 refine⟨free,λi hi b=> ?_,λk b=> ?_, ?_⟩
 .refine Tv λh=>b (neg i hi (by grind)).1
 .let y:Nat->Rat:=λv=>if v < S.n then(if v=k then 1 else 0) else S.A (v - S.n) k;have l:∀i,y (S.n+i)=S.A i k:=λi=>by
   show(if S.n+i < S.n then _ else _)=_;rw [if_neg (by omega),R3]
  have s:eN S.n S.m S.A y:=λi _=>by
   rw [l,jP b]
   .show S.A i k=S.A i k * (if k < S.n then(if k=k then 1 else 0) else _);rw [if_pos b,if_pos rfl,VT]
   .intro j o c;show S.A i j * (if j < S.n then(if j=k then 1 else 0) else _)=0;rw [if_pos o,if_neg c,SG]
  have e:=q.same y s;rw [sum y] at e;have z:sm S.n (λj=>G j * y j)=G k:=by
   rw [jP b]
   .show G k * (if k < S.n then(if k=k then 1 else 0) else _)=G k;rw [if_pos b,if_pos rfl,VT]
   .intro j o c;show G j * (if j < S.n then(if j=k then 1 else 0) else _)=0;rw [if_pos o,if_neg c,SG]
  rw [<-z,<-e];exact de λi _=>by rw [l]
 .rw [<-q.same t.y hy,sum];refine de λi hi=> ?_;by_cases B:g (S.n+i)=0
  .rw [B,Se,Se]
  .by_cases C: 0 < g (S.n+i)
   .rw [pos i hi C]
   .rw [(neg i hi (by grind)).2]
open Go Go.Aev
def Sy.mul(S:Sy)(t:bm)(i:Nat):Nat->Rat:=λj=>if S.n+j=t.af i then -(S.ai t (t.af i)) else S.ai t (t.af i) * t.c i (S.n+j)
structure Sy.Ref (S:Sy) (T:Nat->Rat):Prop where
 sg:∀j,j < S.m->S.kd j≠3->0<=T j
 az:∀k,k < S.n->sm S.m (λj=>T j * S.A j k)=0
 val:sm S.m (λj=>T j * S.to j) < 0
theorem Rc(S:Sy)(t:bm)(b:Nat):S.ai t b=1\/S.ai t b= -1:=by
 unfold Sy.ai;split
 .exact .inr rfl
 .exact .inl rfl
theorem OC{S:Sy}{t:bm}(ok:S.OK t)(k2:∀j,j < S.m->S.kd j≠2)(hz:∀v,v < S.n+S.m->t.z v=0){i:Nat}(hi:i < S.m)(hb:S.fq t (t.af i))
  (no:∀u,u < S.n+S.m->t.c i u≠0->¬S.Can t (S.ai t (t.af i) * t.c i u) u):S.Ref (S.mul t i):=by
 have K:S.n<=t.af i:=hb.1;have D:=ok.wf.hb i hi;have L:=Rc S t (t.af i);have up:∀j,j < S.m->S.up (S.n+j)= (S.to j,0):=λj d=>by unfold Sy.up;rw [R3,if_neg (k2 j d)]
 have G:t.c i (t.af i)=0:=ok.wf.z i i hi hi;have free:∀u,u < S.n->t.c i u=0:=λu r=>Tv λg=>no u (by omega) g ⟨λ_=> .inl r,λ_=> .inl r⟩;have C:∀j,j < S.m->t.c i (S.n+j)≠0->t.y (S.n+j)=S.to j:=λj d g=>by have nb:∀q,q < S.m->t.af q≠S.n+j:=λq a e=>g (by rw [<-e];exact ok.wf.z i q hi a);have f:=ok.fix (S.n+j) (by omega) nb;unfold Sy.fx at f;rw [if_neg (by omega),up j d] at f;exact congrArg Prod.fst f
 have B:∀y:Nat->Rat,eN S.n S.m S.A y->sm S.m (λj=>S.mul t i j * y (S.n+j))=0:=λy hy=>by
  have h1:=(ok.wf.same y).2 hy i hi;rw [yh (λk=>t.c i k * y k) S.n S.m] at h1;have o:sm S.n (λk=>t.c i k * y k)=0:=lJ λk s=>by rw [free k s,Se]
  rw [o] at h1;obtain⟨q,a⟩:∃q,t.af i=S.n+q:=⟨t.af i - S.n,by omega⟩;have l:q < S.m:=by omega
  have e:sm S.m (λj=>S.mul t i j * y (S.n+j))=sm S.m (λj=>S.ai t (t.af i) * (t.c i (S.n+j) * y (S.n+j))+ -(S.ai t (t.af i)) * (if j=q then y (t.af i) else 0)):=by
   refine de λj d=> ?_;unfold Sy.mul;by_cases b:j=q
   .subst b;rw [if_pos a.symm,if_pos rfl,<-a,G];grind
   .rw [if_neg (by omega),if_neg b];grind
  rw [e,kG,nG l,h1];grind
 have val:sm S.m (λj=>S.mul t i j * S.to j)=S.ai t (t.af i) * (t.y (t.af i) - S.to (t.af i - S.n)):=by
  have h:=B t.y ok.hy;obtain⟨q,a⟩:∃q,t.af i=S.n+q:=⟨t.af i - S.n,by omega⟩;have l:q < S.m:=by omega
  have e:sm S.m (λj=>S.mul t i j * S.to j)=sm S.m (λj=>1 * (S.mul t i j * t.y (S.n+j))+S.ai t (t.af i) * (if j=q then t.y (t.af i) - S.to (t.af i - S.n) else 0)):=by
   refine de λj d=> ?_;by_cases b:j=q
   .subst b;unfold Sy.mul;rw [if_pos a.symm,if_pos rfl,a,R3];grind
   .rw [if_neg b];by_cases o:t.c i (S.n+j)=0
    .unfold Sy.mul;rw [if_neg (by omega),o];grind
    .rw [C j d o];grind
  rw [e,kG,nG l,h];grind
 refine⟨λj d F=> ?_,λk s=> ?_, ?_⟩
 .unfold Sy.mul;by_cases b:S.n+j=t.af i
  .rw [if_pos b];rcases hb.2 with h | ⟨h,_⟩
   .unfold Sy.ai;rw [if_pos h];grind
   .rw [<-b,R3] at h;exact absurd h F
  .rw [if_neg b];by_cases o:t.c i (S.n+j)=0
   .rw [o,SG];exact SN
   .refine Tv λJ=>no (S.n+j) (by omega) o ⟨λh=>absurd h (by grind),λ_=> .inr (.inl ?_)⟩;rw [R3];exact F
 .let y:Nat->Rat:=λv=>if v < S.n then(if v=k then 1 else 0) else S.A (v - S.n) k;have w:∀i,y (S.n+i)=S.A i k:=λi=>by
   show(if S.n+i < S.n then _ else _)=_;rw [if_neg (by omega),R3]
  have E:eN S.n S.m S.A y:=λi _=>by
   rw [w,jP s]
   .show S.A i k=S.A i k * (if k < S.n then(if k=k then 1 else 0) else _);rw [if_pos s,if_pos rfl,VT]
   .intro j d g;show S.A i j * (if j < S.n then(if j=k then 1 else 0) else _)=0;rw [if_pos d,if_neg g,SG]
  rw [<-B y E];exact de λi _=>by rw [w]
 .rw [val];obtain⟨q,a⟩:∃q,t.af i=S.n+q:=⟨t.af i - S.n,by omega⟩;have l:q < S.m:=by omega
  have r:=up q l;have x:=hz (t.af i) D;rcases hb.2 with h | ⟨_,h⟩
  .have p:S.ai t (t.af i)= -1:=by unfold Sy.ai;rw [if_pos h]
   rw [p];rw [a,r,<-a] at h;unfold cQ bm.val at h;rw [x] at h;rw [a,R3,<-a];rcases h with h | ⟨_,h⟩
   .simp only at h;grind
   .exact absurd h (by simp)
  .have I:¬cQ (S.up (t.af i)) (t.val (t.af i)):=λH=>by
    unfold cQ at h H;grind
   have p:S.ai t (t.af i)=1:=by unfold Sy.ai;rw [if_neg I]
   rw [p];rw [a,r,<-a] at h;unfold cQ bm.val at h;rw [x] at h;rw [a,R3,<-a];rcases h with h | ⟨_,h⟩
   .simp only at h;grind
   .exact absurd h (by simp)
theorem Ir{f g:Nat->Rat}:∀{n:Nat},(∀i,i < n->f i<=g i)->sm n f<=sm n g
 | 0,_=>SN
 | n+1,h=>by have h1:=Ir (n:=n) λi hi=>h i (by omega);have a:=h n (by omega);show sm n f+f n<=sm n g+g n;grind
theorem OB{S:Sy}{T:Nat->Rat}(R:S.Ref T){t:bm}(hy:eN S.n S.m S.A t.y)(d:S.nP t):False:=by
 have e:sm S.m (λj=>T j * t.y (S.n+j))=0:=by
  have h1:sm S.m (λj=>T j * t.y (S.n+j))=sm S.m (λj=>sm S.n (λk=>T j * (S.A j k * t.y k))):=de λj a=>by rw [hy j a,oX]
  rw [h1,B5];refine lJ λk f=> ?_;have c:sm S.m (λj=>T j * (S.A j k * t.y k))=sm S.m (λj=>t.y k * (T j * S.A j k)):=de λj _=>by grind
  rw [c,oX,R.az k f,SG]
 have h:sm S.m (λj=>T j * t.y (S.n+j))<=sm S.m (λj=>T j * S.to j):=Ir λj a=>by
  have hb:=d (S.n+j) (by omega) (by omega);rw [R3] at hb;by_cases b:S.kd j=3
  .rw [hb.2 b];exact SN
  .exact Vm hb.1 (R.sg j a b)
 have:=R.val;grind
end Go.Aev.Tb
namespace Go.Aev.Wd.Lg
open Go Go.Aev Go.Aev.Gen Go.Aev.Wd
def fB(g:Nat->Rat):Nat->List Rat->Rat
 | _,[]=>0
 | k,x::xs=>g k * x+fB g (k+1) xs
theorem D5{f g:Nat->Rat}:∀(xs:List Rat) (k:Nat),(∀j,k<=j->j < k+xs.length->f j=g j)->fB f k xs=fB g k xs
 | [],_,_=>rfl
 | x::xs,k,h=>by rw [fB,fB,h k (RI k) (by simp),D5 xs (k+1) λj h1 a=>h j (by omega) (by simp;omega)]
theorem D4(f g:Nat->Rat):∀(xs:List Rat) (k:Nat),fB (λj=>f j+g j) k xs=fB f k xs+fB g k xs
 | [],_=>by simp only [fB];grind
 | x::xs,k=>by simp only [fB];rw [D4 f g xs (k+1)];grind
theorem D7(f:Nat->Rat)(c:Rat):∀(xs:List Rat) (k:Nat),fB (λj=>f j * c) k xs=c * fB f k xs
 | [],_=>by simp only [fB];grind
 | x::xs,k=>by simp only [fB];rw [D7 f c xs (k+1)];grind
theorem zV:∀(xs:List Rat) (k:Nat),fB (λ_=>0) k xs=0
 | [],_=>rfl
 | x::xs,k=>by simp only [fB];rw [zV xs (k+1)];grind
theorem D6(of:List Int):∀(xs:List Rat) (k:Nat),of.length<=k+xs.length->fB (λj=>((of.getD j 0:Int):Rat)) k xs=bg (of.drop k) xs
 | [],k,h=>by rw [TE (by simpa using h),qS];rfl
 | x::xs,k,h=>by
  rw [fB,D6 of xs (k+1) (by simp at h;omega)];by_cases a:k < of.length
  .rw [Ta a,bg,Rr,Rv a];rfl
  .rw [TE (by omega),TE (by omega),qS,qS,Rr,Sh (by omega)];show((0:Int):Rat) * x+0=0;have:((0:Int):Rat)=0:=rfl;grind
theorem D8{of:List Int}{xs:List Rat}(h:of.length<=xs.length):fB (λj=>((of.getD j 0:Int):Rat)) 0 xs=bg of xs:=D6 of xs 0 (by omega)
def uK:List R->List Rat->List Rat->Rat
 | r::a,t::ts,xs=>t * bg r.of xs+uK a ts xs
 | _,_,_=>0
theorem DM{xs:List Rat}:∀(a:List R) (ts:List Rat),(∀r∈a,r.of.length<=xs.length)->fB (λk=>iG a ts k) 0 xs=uK a ts xs
 | [],ts,_=>by
  have:(λk=>iG [] ts k)=λ_=>0:=by funext k;cases ts <;> rfl
  rw [this,zV];cases ts <;> rfl
 | r::a,[],_=>by
  have:(λk=>iG (r::a) [] k)=λ_=>0:=by funext k;rfl
  rw [this,zV];rfl
 | r::a,t::ts,h=>by show fB (λk=>((r.of.getD k 0:Int):Rat) * t+iG a ts k) 0 xs=_;rw [D4 (λk=>((r.of.getD k 0:Int):Rat) * t) (λk=>iG a ts k),D7 (λk=>((r.of.getD k 0:Int):Rat)) t,D8 (h r Rs),DM a ts λr b=>h r (Ru _ b)];rfl
theorem Mt{x:Fr}(h:bw x)(a:¬x.1 < 0): 0<=aY x:=by unfold aY;have h1:=h.1;exact(Rat.divInt_nonneg_iff_of_pos_right (by omega)).2 (by omega)
theorem I9{xs:List Rat}:∀(a:List R) (ts:List Fr),(∀r∈a,r.kd=1\/r.kd=3)->(∀r∈a,ez r (bg r.of xs)=true)->iO a ts=true->(∀t∈ts,bw t)->uK a (ts.map aY) xs<=kL a (ts.map aY)
 | [],ts,_,_,_,_=>by cases ts <;> exact SN
 | r::a,[],_,_,_,_=>SN
 | r::a,t::ts,g,f,c,i=>by
  rw [iO,Rw] at c;have l:=I9 a ts (λr d=>g r (Ru _ d)) (λr d=>f r (Ru _ d)) c.2 λt h=>i t (Ru _ h);show aY t * bg r.of xs+uK a (ts.map aY) xs<=(r.tv:Rat) * aY t+kL a (ts.map aY);have h1:=f r Rs;have k:aY t * bg r.of xs<=(r.tv:Rat) * aY t:=by
   rcases g r Rs with e | e
   .have b:bg r.of xs<=(r.tv:Rat):=by simpa [ez,e] using h1
    have j: 0<=aY t:=Mt (i t Rs) (by simpa [e] using c.1);rw [Vi (r.tv:Rat)];exact Vm b j
   .have b:bg r.of xs= (r.tv:Rat):=by simpa [ez,e] using h1
    rw [b,Vi];exact SN
  grind
open Go Go.Aev Go.Aev.Gen Go.Aev.Wd Go.Aev.Tb
theorem JJ{n:Nat}{rows:List R}{gl:List Int}{t:TL}(go:eC n rows gl)(h:dS n rows gl t)(e:aR n rows t.val 1 t.ax 0=none):(aI n rows).Cv (gR gl) t.st (λv=>nv (an t.ax v)):=by refine JK h.tok.ok.hy h.g h.fe (λu f c d=> ?_);have a:=wO e u (UA u) (by rw [Sr];exact c);rw [Sr] at a;have b:=(zF h.tok go.k2 (u:=u) f c).2 d;rw [a] at b;cases b
theorem B4(f:Nat->Rat)(n:Nat):sm (n+1) f=f 0+sm n (λi=>f (i+1)):=by
 rw [Ve,yh f 1 n];have:(λi=>f (1+i))=λi=>f (i+1):=by funext i;rw [Ve]
 rw [this];show(0+f 0)+ _=_;grind
theorem DL(k:Nat):∀(rows:List R) (ts:List Rat),ts.length=rows.length->iG rows ts k=sm rows.length (λi=>ts.getD i 0 * (((aW rows i).of.getD k 0:Int):Rat))
 | [],ts,_=>by cases ts <;> rfl
 | r::a,[],h=>by simp at h
 | r::a,t::ts,h=>by rw [RP,B4];show((r.of.getD k 0:Int):Rat) * t+iG a ts k=t * ((r.of.getD k 0:Int):Rat)+sm a.length (λi=>ts.getD i 0 * (((aW a i).of.getD k 0:Int):Rat));rw [DL k a ts (by simpa using h),Vi]
theorem IL:∀(rows:List R) (ts:List Rat),ts.length=rows.length->kL rows ts=sm rows.length (λi=>ts.getD i 0 * ((aW rows i).tv:Rat))
 | [],ts,_=>by cases ts <;> rfl
 | r::a,[],h=>by simp at h
 | r::a,t::ts,h=>by rw [RP,B4];show(r.tv:Rat) * t+kL a ts=t * (r.tv:Rat)+sm a.length (λi=>ts.getD i 0 * ((aW a i).tv:Rat));rw [IL a ts (by simpa using h),Vi]
theorem pA:∀(of:List Int) (xs:List Rat),of.length<=xs.length->bg of xs=sm xs.length (λk=>((of.getD k 0:Int):Rat) * xs.getD k 0)
 | [],xs,_=>by rw [qS];refine(lJ λk _=> ?_).symm;show((0:Int):Rat) * _=0;have:((0:Int):Rat)=0:=rfl;rw [this,Se]
 | c::of,[],h=>by simp at h
 | c::of,x::xs,h=>by rw [RP,B4];show(c:Rat) * x+bg of xs= (c:Rat) * x+sm xs.length (λk=>((of.getD k 0:Int):Rat) * xs.getD k 0);rw [pA of xs (by simpa using h)]
theorem GP:∀(rows:List R) (ts:List Fr),ts.length=rows.length->(∀i,i < rows.length->(aW rows i).kd=1->¬(ts.getD i (0,1)).1 < 0)->iO rows ts=true
 | [],ts,_,_=>by cases ts <;> rfl
 | r::c,[],h,_=>by simp at h
 | r::c,t::ts,h,b=>by
  rw [iO,Rw];refine⟨?_,GP c ts (by simpa using h) λi hi a=>b (i+1) (by simp;omega) a⟩;by_cases a:r.kd=1
  .have:=b 0 (by simp) a;have d:¬t.1 < 0:=this;simp [a,d]
  .simp [a]
theorem Mr{x:Nm}(h:cT (nv x)=true):aY (bL x)=nv x:=by unfold bL;rw [if_pos h];exact Ty _
theorem Ax{l:List Nm}(h:cA l=true):(l.map bL).map aY=l.map nv:=by rw [Ul];exact Tr λx a=>Mr (RK.1 h x a)
section
variable {n:Nat} {rows:List R} {gl:List Int} {t:TL}
theorem Oh(go:eC n rows gl)(h:bC n rows t):(bM n rows t.val).map nv= (List.range n).map t.st.y:=by
 have hv:=h.aX.v;refine VM (by unfold bM;simp;omega) (λk h1 a=> ?_);have b:k < n:=by simpa using a
 have hz:=z0 h go.k2 (v:=k) (by omega);unfold bM;simp only [Ul,T1,List.getElem_take,TJ];have e:t.val[k]'(by omega)=aH t.val k:=by unfold aH;rw [Rr,Rv (by omega)];rfl
 show nv (gf _ (t.val[k]'(by omega)))=_;rw [e];exact zq _ _ hz
theorem Cs(k:Nat)(a:k < n):((List.range n).map t.st.y).getD k 0=t.st.y k:=by rw [Rr,Sb,UR a];rfl
theorem Pr(go:eC n rows gl)(h:dS n rows gl t)(q:aR n rows t.val 1 t.ax 0=none)(u:cA (bM n rows t.val)=true)(w:cA (t.ax.drop n)=true)(A:cT (eE gl (bM n rows t.val))=true):
  kF n rows gl ((eE gl (bM n rows t.val)).num,((eE gl (bM n rows t.val)).den:Int)) ((bM n rows t.val).map bL) ((t.ax.drop n).map bL)=true:=by
 have B:=JJ go h q;have s:=h.len;have c:=Oh go h.tok;have j:eE gl (bM n rows t.val)=sm n (λk=>gR gl k * t.st.y k):=by unfold eE;rw [c,pA gl _ (by simpa using go.gl)];rw [SI,UB];exact de λk a=>by rw [Cs k a];rfl
 have g:((t.ax.drop n).map nv).length=rows.length:=by simp;omega
 have f:∀i,((t.ax.drop n).map nv).getD i 0=nv (an t.ax (n+i)):=λi=>by unfold an;rw [Rr,Rr,Sb,T5];cases t.ax[n+i]? <;> rfl
 have v:aY ((eE gl (bM n rows t.val)).num,((eE gl (bM n rows t.val)).den:Int))=eE gl (bM n rows t.val):=Ty _;unfold kF;rw [v,Ax u,Ax w,c];simp only [Rw,decide_eq_true_eq,RK,Tp];refine⟨⟨⟨⟨λr d=> ?_, ?_⟩, ?_⟩,λk a=> ?_⟩, ?_⟩
 .obtain⟨i,hi,e⟩:=SF d;have er:aW rows i=r:=by unfold aW;rw [Rr,Rv hi];exact e
  have hy:=h.tok.ok.hy i hi;have p:bg r.of ((List.range n).map t.st.y)=t.st.y (n+i):=by rw [pA r.of _ (by simpa using go.ro.len r d),SI,UB];refine Eq.trans ?_ hy.symm;exact de λk a=>by rw [Cs k a,<-er];rfl
  have b:=h.fe (n+i) (Un n i) (Nat.add_lt_add_left hi n);have m:(aI n rows).to (n+i - (aI n rows).n)= (r.tv:Rat):=by show((aW rows (n+i - n)).tv:Rat)=_;rw [R3,er]
  have o:(aI n rows).kd (n+i - (aI n rows).n)=r.kd:=by show(aW rows (n+i - n)).kd=_;rw [R3,er]
  rw [m,o] at b;rw [p];unfold ez;rcases go.ro.kd r d with k | k | k
  .rw [if_pos k];exact decide_eq_true b.1
  .exact absurd k (go.k2 r d)
  .rw [if_neg (by omega),if_neg (by omega)];exact decide_eq_true (b.2 k)
 .rw [<-c];rfl
 .refine GP rows _ (by simp;omega) λi hi a=> ?_;have hb:=B.sg i hi (by show(aW rows i).kd≠3;omega);have x:((t.ax.drop n).map bL).getD i (0,1)=bL (an t.ax (n+i)):=by
   unfold an;rw [Rr,Rr,Sb,T5,Rv (by omega)];rfl
  rw [x];have l: 0<=nv (an t.ax (n+i)):=hb;have z:=U1.2 l;unfold bL;split
  .show ¬(nv (an t.ax (n+i))).num < 0;omega
  .show ¬(0:Int) < 0;omega
 .rw [DL k rows _ g];refine Eq.trans ?_ (B.az k a);exact de λi _=>by rw [f];rfl
 .rw [IL rows _ g,j];refine Eq.trans ?_ B.val.symm;exact de λi _=>by rw [f];rfl
end
open Go Go.Aev Go.Aev.Gen Go.Aev.Wd Go.Aev.Tb
section
variable {n:Nat} {rows:List R} {gl:List Int} {t:TL}
theorem OW(h:bC n rows t){v:Nat}(ai:Int)(j:¬t.st.bD rows.length v):(iU n t v ai).map nv= (List.range n).map (t.st.dir rows.length v (ai:Rat)):=by
 have base:∀k,k < n->k≠v->nv (gG t v ai k)=t.st.dir rows.length v (ai:Rat) k:=λk a l=>by
  by_cases hb:t.st.bD rows.length k
  .obtain⟨i,hi,e⟩:=hb;have g:i < (aI n rows).m:=hi;have d:=h.ln i k (by rw [<-e];exact iB (by rw [h.aX.b];exact hi));have q:=n8 h.ok (ai:Rat) g j;have f:t.st.dir rows.length v (ai:Rat) (t.st.af i)=t.st.c i v * (ai:Rat):=q;unfold gG;rw [d,<-e,f];rfl
  .have d:bV k t.mp=none:=h.tJ k λhm=>hb (by
    obtain⟨i,hi,e⟩:=SF hm;refine⟨i,by rw [<-h.aX.b];exact hi, ?_⟩;show t.af.getD i 0=k;rw [Rr,Rv hi];exact e)
   unfold gG;rw [d,mP t.st (ai:Rat) l hb];rfl
 refine VM (by unfold iU;split <;> simp) (λk h1 p=> ?_);have a:k < n:=by simpa using p
 rw [T1,T1,TJ];by_cases e:k=v
 .subst e;rw [n9];unfold iU;simp only [if_pos a,List.getElem_set_self];rfl
 .rw [<-base k a e];unfold iU;split
  .rw [List.getElem_set_ne (λo=>e o.symm),T1,TJ]
  .rw [T1,TJ]
theorem Pu(go:eC n rows gl)(h:dS n rows gl t){v:Nat}(L:aR n rows t.val 1 t.ax 0=some v)(M:(bf n rows t v (nv (an t.ax v)).num.sign).2.2=false)
  (a:iC n rows v (iN (nv (an t.ax v)).num.sign)=false) (N:cA (iU n t v (nv (an t.ax v)).num.sign)=true):
  oP rows gl ((iU n t v (nv (an t.ax v)).num.sign).map bL)=true:=by
 obtain⟨_,y,d,_,_⟩:=iJ L;rw [Sr] at d;rw [RY,h.len] at y;have x:v < (aI n rows).n+ (aI n rows).m:=y;have l:¬t.st.bD rows.length v:=by rintro⟨i,hi,e⟩;have hz:nv (an t.ax (t.st.af i))=0:=h.g.z i hi;rw [e] at hz;exact d hz
 have B:∀j,j < rows.length->¬gQ n rows t v (nv (an t.ax v)).num.sign j:=by
  rcases Ge h.tok go.k2 a with⟨_,b⟩ | ⟨i,_,_,b,_⟩
  .exact b
  .rw [M] at b;cases b
 have C: 0 < nv (an t.ax v) * (((nv (an t.ax v)).num.sign:Int):Rat):=by
  have A:((1:Int):Rat)=1:=rfl;have o:((-1:Int):Rat)= -1:=rfl;rcases rV d with e | e
  .have:=(xM (nv (an t.ax v))).1 (by omega);rw [e,A];grind
  .have h1:¬0 < nv (an t.ax v):=λb=>by have:=(xM (nv (an t.ax v))).2 b;omega
   rw [e,o];grind
 have H:=rV d;generalize O:(nv (an t.ax v)).num.sign=ai at *
 have w:=D2 h.tok.ok (ai:Rat) l x;have u:=AI h.g (ai:Rat) x;rw [h.g.same _ w] at u;have J:(iU n t v ai).map nv= (List.range n).map (t.st.dir rows.length v (ai:Rat)):=OW h.tok ai l;have get:∀k,k < n->((List.range n).map (t.st.dir rows.length v (ai:Rat))).getD k 0=t.st.dir rows.length v (ai:Rat) k:=λk f=>by rw [Rr,Sb,UR f];rfl
 unfold oP;rw [Ax N,J];simp only [Rw,decide_eq_true_eq,RK,RU];refine⟨?_, ?_⟩
 .rintro _ ⟨r,s,rfl⟩;obtain⟨i,hi,e⟩:=SF s;have er:aW rows i=r:=by unfold aW;rw [Rr,Rv hi];exact e
  have K:bg r.of ((List.range n).map (t.st.dir rows.length v (ai:Rat)))=t.st.dir rows.length v (ai:Rat) (n+i):=by rw [pA r.of _ (by simpa using go.ro.len r s),SI,UB];refine Eq.trans ?_ (w i hi).symm;exact de λk f=>by rw [get k f,<-er];rfl
  have key:t.st.dir rows.length v (ai:Rat) (n+i)<=0/\(r.kd=3->t.st.dir rows.length v (ai:Rat) (n+i)=0):=by
   by_cases ev:n+i=v
   .rw [ev,n9];unfold iC at a;have I:nv (iN ai)= (ai:Rat):=rfl;rw [I] at a;have A:((1:Int):Rat)=1:=rfl;have o:((-1:Int):Rat)= -1:=rfl;rcases H with p | p
    .rw [p,A,if_neg (by grind)] at a;have:¬v < n:=by omega
     simp [this] at a
    .rw [p,o,if_pos (by grind)] at a;rw [p,o];refine⟨by grind,λD=> ?_⟩;have:eT n rows v=true:=lk.2 ⟨by omega,by rw [<-ev,R3];show(aW rows i).kd=3;rw [er];exact D⟩;rw [this] at a;cases a
   .by_cases hb:t.st.bD rows.length (n+i)
    .obtain⟨j,G,E⟩:=hb;have F:t.st.dir rows.length v (ai:Rat) (t.st.af j)=t.st.c j v * (ai:Rat):=n8 h.tok.ok (ai:Rat) (j:=j) G l;rw [<-E,F];have q:=B j G;unfold gQ at q;have e3:(aI n rows).kd (t.st.af j - n)=r.kd:=by
      rw [E];show(aW rows (n+i - n)).kd=_;rw [R3,er]
     rw [e3] at q;have h1:¬0 < t.st.c j v * (ai:Rat):=λb=>q ⟨by omega, .inl b⟩;refine⟨by grind,λD=> ?_⟩;have P:¬t.st.c j v * (ai:Rat) < 0:=λb=>q ⟨by omega, .inr ⟨b,D⟩⟩;grind
    .rw [mP t.st (ai:Rat) ev hb];exact⟨SN,λ_=>rfl⟩
  show ez (nL r) (bg r.of _)=true;rw [K];unfold ez nL;have z:((0:Int):Rat)=0:=rfl;simp only [z];rcases go.ro.kd r s with k | k | k
  .rw [if_pos k];exact decide_eq_true key.1
  .exact absurd k (go.k2 r s)
  .rw [if_neg (by omega),if_neg (by omega)];exact decide_eq_true (key.2 k)
 .rw [pA gl _ (by simpa using go.gl),SI,UB];have:sm n (λk=>((gl.getD k 0:Int):Rat) * ((List.range n).map (t.st.dir rows.length v (ai:Rat))).getD k 0)=nv (an t.ax v) * (ai:Rat):=by
   refine Eq.trans ?_ u;exact de λk f=>by rw [get k f];rfl
  rw [this];exact C
end
open Go Go.Aev Go.Aev.Gen Go.Aev.Wd Go.Aev.Tb
theorem BJ{n j:Nat}{s:Nm}:∀(xs:List Nm) (v:Nat) (a:List Nm),(∀u,v<=u->u < n->nv (an xs (u - v))=0)->j < a.length->
  nv (an (fG n s xs v a) j)=if v<=n+j/\nv (an xs (n+j - v))≠0 then -(nv (an xs (n+j - v)) * nv s) else nv (an a j)
 | [],v,a,_,_=>by have h:nv (an [] (n+j - v))=0:=rfl;rw [fG,if_neg (λb=>b.2 h)]
 | x::xs,v,a,hz,l=>by
  have g:∀u,v+1<=u->u < n->nv (an xs (u - (v+1)))=0:=λu h1 c=>by have:=hz u (by omega) c;obtain⟨k,rfl⟩:∃k,u=v+1+k:=⟨u - (v+1),by omega⟩;rw [show v+1+k - v=k+1 by omega] at this;rw [show v+1+k - (v+1)=k by omega];exact this
  have tail:v+1<=n+j->an (x::xs) (n+j - v)=an xs (n+j - (v+1)):=λh=>by rw [show n+j - v= (n+j - (v+1))+1 by omega];rfl
  by_cases f:nv x=0
  .rw [fG,if_pos f,BJ xs (v+1) a g l];by_cases h1:v+1<=n+j
   .rw [tail h1];simp only [h1,show v<=n+j by omega,true_and]
   .rw [if_neg (λb=>h1 b.1)];by_cases c:v<=n+j
    .have e:n+j - v=0:=by omega
     rw [e,if_neg (λb=>b.2 f)]
    .rw [if_neg (λb=>c b.1)]
  .have p:n<=v:=To λb=>f (by have:=hz v (RI v) b;rw [TU] at this;exact this);rw [fG,if_neg f,BJ xs (v+1) _ g (by rw [Sf];exact l)];by_cases h1:v+1<=n+j
   .have d:v - n≠j:=by omega
    have i:an (a.set (v - n) (ng (tm x s))) j=an a j:=by unfold an;rw [Rr,Rr,UL d]
    rw [tail h1,i];simp only [h1,show v<=n+j by omega,true_and]
   .rw [if_neg (λb=>h1 b.1)];by_cases c:v<=n+j
    .have e:n+j - v=0:=by omega
     have o:v - n=j:=by omega
     have m:nv (an (x::xs) 0)≠0:=f;rw [e,if_pos ⟨c,m⟩,o];have i:an (a.set j (ng (tm x s))) j=ng (tm x s):=by unfold an;rw [Rr,List.getElem?_set_self l];rfl
     rw [i];rfl
    .rw [if_neg (λb=>c b.1)];have d:v - n≠j:=by omega
     unfold an;rw [Rr,Rr,UL d]
section
variable {n:Nat} {rows:List R} {t:TL}
theorem OA(h:bC n rows t)(k2:∀r∈rows,r.kd≠2){i:Nat}(hi:i < rows.length)(hb:(aI n rows).fq t.st (t.st.af i))(q:aR n rows t.val (bu n rows t (t.st.af i)) (au t.aj i) 0=none):
  (aI n rows).Ref ((aI n rows).mul t.st i)/\∀j,j < rows.length->nv (an (iw n rows.length (bu n rows t (t.st.af i)) (t.st.af i) (au t.aj i)) j)= (aI n rows).mul t.st i j:=by
 have e:∀u,t.st.c i u≠0->¬(aI n rows).Can t.st ((aI n rows).ai t.st (t.st.af i) * t.st.c i u) u:=λu d o=>by have a:=wO q u (UA u) (by rw [Sr];exact d);rw [Sr] at a;rw [yD] at o;have b:=(sV (n:=n) (rows:=rows) t (uJ n rows t _) d (v:=u)).2 o;exact Bool.noConfusion (a.symm.trans b)
 have R:(aI n rows).Ref ((aI n rows).mul t.st i):=OC h.ok (λj f=>k2 _ (gF f)) (λv hv=>z0 h k2 hv) hi hb (λu _=>e u);refine⟨R,λj f=> ?_⟩;have s:n<=t.st.af i:=hb.1;have free:∀u,u < n->t.st.c i u=0:=λu g=>Tv λd=>e u d ⟨λ_=> .inl g,λ_=> .inl g⟩;have p:t.st.c i (t.st.af i)=0:=h.ok.wf.z i i hi hi;unfold iw;rw [BJ (au t.aj i) 0 _ (λu _ g=>free u g) (by simpa using f)];rw [Sr];have e0:nv (an (au t.aj i) (n+j))=t.st.c i (n+j):=rfl;have es:nv (iN (-(bu n rows t (t.st.af i))))= -((bu n rows t (t.st.af i):Int):Rat):=Rat.intCast_neg _;rw [e0,es];unfold Sy.mul;rw [yD];show _=if n+j=t.st.af i then _ else _ * t.st.c i (n+j);by_cases k:n+j=t.st.af i
 .rw [if_neg (λl=>l.2 (by rw [k];exact p)),if_pos k];have:an ((List.replicate rows.length (none:Nm)).set (t.st.af i - n) (iN (-(bu n rows t (t.st.af i))))) j=iN (-(bu n rows t (t.st.af i))):=by
   rw [show t.st.af i - n=j by omega];unfold an;rw [Rr,List.getElem?_set_self (by simpa using f)];rfl
  rw [this];exact es
 .rw [if_neg k];by_cases m:t.st.c i (n+j)=0
  .rw [if_neg (λl=>l.2 m),m,SG];have d:t.st.af i - n≠j:=by omega
   unfold an;rw [Rr,UL d,Tj];split <;> rfl
  .rw [if_pos ⟨UA _,m⟩];grind
end
open Go Go.Aev Go.Aev.Gen Go.Aev.Wd Go.Aev.Tb
section
variable {n:Nat} {rows:List R} {gl:List Int}
theorem MD:∀(p:Nat) (t:TL),bC n rows t->(ch n rows true p t).2.1=false->
  ∃s:Nat->TL,s 0=t/\(∀k,bC n rows (s k))/\∀k,k < p->∃i v,(aI n rows).Step (s k).st (s (k+1)).st i v:=by
 intro p;induction p with
 | zero=>intro t h _;exact⟨λ_=>t,rfl,λ_=>h,λk e=>absurd e (by omega)⟩
 | succ p g=>
  intro t h a;rcases lZ h with⟨_,hb⟩ | ⟨i,hi,d,c,hb,f⟩
  .rw [mf true _ hb] at a;cases a
  .rw [og true p hb f] at a;cases b:aR n rows t.val (bu n rows t (t.st.af i)) (au t.aj i) 0 with
   | none=>rw [b] at a;cases a
   | some v=>
    rw [b] at a;obtain⟨q,r,_⟩:=iJ b;obtain⟨j,k2⟩:=h.step true hi (v:=v) (by have:=h.aX.row hi;omega) d b c;obtain⟨s,l,m,o⟩:=g _ j a;refine⟨λk=>match k with | 0=>t | k+1=>s k,rfl,λk=> ?_,λk e=> ?_⟩
    .cases k with
     | zero=>exact h
     | succ k=>exact m k
    .cases k with
     | zero=>exact⟨i,v,by show(aI n rows).Step t.st (s 0).st i v;rw [l];exact k2⟩
     | succ k=>exact o k (by omega)
theorem Mz{p:Nat}{t:TL}(h:bC n rows t)(q:(n+rows.length) ^ n<=p):(ch n rows true p t).2.1=true:=by
 cases m:(ch n rows true p t).2.1 with
 | true=>rfl
 | false=>
  exfalso;obtain⟨s,_,g,o⟩:=MD p t h m;have st:∀k,∃f:Nat×Nat,k < p->(aI n rows).Step (s k).st (s (k+1)).st f.1 f.2:=λk=>by
   by_cases e:k < p
   .obtain⟨i,v,hv⟩:=o k e;exact⟨(i,v),λ_=>hv⟩
   .exact⟨(0,0),λj=>absurd j e⟩
  have:=DQ (S:=aI n rows) (s:=λk=>(s k).st) (T:=p+1) (λk=>(g k).ok) (λa b d hb c=>
   JO (S:=aI n rows) (s:=λk=>(s k).st) (ii:=λk=>(st k).choose.1) (ee:=λk=>(st k).choose.2) d (λk=>(g k).ok) (λk _ l=>(st k).choose_spec (by omega)) c)
  have l:p+1<=(n+rows.length) ^ n:=this;omega
theorem Nx(go:eC n rows gl):∀(p:Nat) (t:TL),dS n rows gl t->(cL n rows p t).2.2.1=false->
  ∃s:Nat->TL,s 0=t/\(∀k,dS n rows gl (s k))/\∀k,k < p->∃i v,(aI n rows).jX (s k).st (λu=>nv (an (s k).ax u)) (s (k+1)).st i v:=by
 intro p;induction p with
 | zero=>intro t h _;exact⟨λ_=>t,rfl,λ_=>h,λk d=>absurd d (by omega)⟩
 | succ p e=>
  intro t h a;cases b:aR n rows t.val 1 t.ax 0 with
  | none=>rw [jJ _ b] at a;cases a
  | some v=>
   cases c:(bf n rows t v (nv (an t.ax v)).num.sign).2.2
   .rw [na p b c] at a;cases a
   .rw [nf p b c] at a;obtain⟨f,i,k2⟩:=h.step go b c;obtain⟨s,g,j,l⟩:=e _ f a;refine⟨λk=>match k with | 0=>t | k+1=>s k,rfl,λk=> ?_,λk d=> ?_⟩
    .cases k with
     | zero=>exact h
     | succ k=>exact j k
    .cases k with
     | zero=>exact⟨i,v,by show(aI n rows).jX t.st _ (s 0).st i v;rw [g];exact k2⟩
     | succ k=>exact l k (by omega)
theorem Nu(go:eC n rows gl){p:Nat}{t:TL}(h:dS n rows gl t)(r:(n+rows.length) ^ n<=p):(cL n rows p t).2.2.1=true:=by
 cases o:(cL n rows p t).2.2.1 with
 | true=>rfl
 | false=>
  exfalso;obtain⟨s,_,d,q⟩:=Nx go p t h o;have st:∀k,∃j:Nat×Nat,k < p->(aI n rows).jX (s k).st (λu=>nv (an (s k).ax u)) (s (k+1)).st j.1 j.2:=λk=>by
   by_cases f:k < p
   .obtain⟨i,v,hv⟩:=q k f;exact⟨(i,v),λ_=>hv⟩
   .exact⟨(0,0),λl=>absurd l f⟩
  have:=DQ (S:=aI n rows) (s:=λk=>(s k).st) (T:=p+1) (λk=>(d k).tok.ok) (λa b e hb c=>
   JP (S:=aI n rows) (G:=gR gl) (s:=λk=>(s k).st) (g:=λk u=>nv (an (s k).ax u)) (ii:=λk=>(st k).choose.1) (ee:=λk=>(st k).choose.2) e (λk=>(d k).tok.ok) (λk=>(d k).fe) (λk=>(d k).g)
    (λk _ m=>(st k).choose_spec (by omega)) c)
  have m:p+1<=(n+rows.length) ^ n:=this;omega
end
open Go Go.Aev Go.Aev.Gen Go.Aev.Wd Go.Aev.Tb
section
variable {n:Nat} {rows:List R} {gl:List Int}
theorem GC(go:eC n rows gl):∀(p:Nat) (t:TL) (l:List Nm),dS n rows gl t->(cL n rows p t).1=some l->
  dS n rows gl (cL n rows p t).2.2.2/\aR n rows (cL n rows p t).2.2.2.val 1 (cL n rows p t).2.2.2.ax 0=none/\l= (cL n rows p t).2.2.2.ax.drop n:=by
 intro p;induction p with
 | zero=>
  intro t l h a;cases b:aR n rows t.val 1 t.ax 0 with
  | none=>rw [jJ 0 b] at a⊢;exact⟨h,b,(R1 a).symm⟩
  | some v=>rw [oC b] at a;cases a
 | succ p d=>
  intro t l h a;cases b:aR n rows t.val 1 t.ax 0 with
  | none=>rw [jJ _ b] at a⊢;exact⟨h,b,(R1 a).symm⟩
  | some v=>
   cases c:(bf n rows t v (nv (an t.ax v)).num.sign).2.2
   .rw [na p b c] at a;cases a
   .rw [nf p b c] at a⊢;exact d _ l (h.step go b c).1 a
theorem Nw(go:eC n rows gl):∀(p:Nat) (t:TL) (l:List Nm),dS n rows gl t->(cL n rows p t).2.1=some l->cA l=true->
  dS n rows gl (cL n rows p t).2.2.2/\oP rows gl (l.map bL)=true:=by
 intro p;induction p with
 | zero=>
  intro t l h a d;cases b:aR n rows t.val 1 t.ax 0 with
  | none=>rw [jJ 0 b] at a;cases a
  | some v=>rw [oC b] at a;cases a
 | succ p f=>
  intro t l h a d;cases b:aR n rows t.val 1 t.ax 0 with
  | none=>rw [jJ _ b] at a;cases a
  | some v=>
   cases c:(bf n rows t v (nv (an t.ax v)).num.sign).2.2
   .rw [na p b c] at a⊢;obtain rfl:=R1 a;obtain⟨_,e,e3,e4,_⟩:=iJ b;rw [Sr] at e3 e4;rw [SU] at e4;rw [RY,h.len] at e;exact⟨h,Pu go h b c (h.self go e e3 e4) d⟩
   .rw [nf p b c] at a⊢;exact f _ l (h.step go b c).1 a d
theorem MC(k2:∀r∈rows,r.kd≠2):∀(p:Nat) (t:TL) (l:List Nm),bC n rows t->(ch n rows true p t).1=some l->
  ∃T,(aI n rows).Ref T/\∀j,j < rows.length->nv (an l j)=T j:=by
 intro p;induction p with
 | zero=>
  intro t l h a;rcases lZ h with⟨_,hb⟩ | ⟨i,hi,b,d,hb,f⟩
  .rw [mf true _ hb] at a;cases a
  .rw [pJ true hb] at a;cases a
 | succ p g=>
  intro t l h a;rcases lZ h with⟨_,hb⟩ | ⟨i,hi,b,d,hb,f⟩
  .rw [mf true _ hb] at a;cases a
  .rw [og true p hb f] at a;cases c:aR n rows t.val (bu n rows t (t.st.af i)) (au t.aj i) 0 with
   | none=>rw [c] at a;obtain rfl:=R1 a;obtain⟨R,e⟩:=OA h k2 hi b c;exact⟨_,R,e⟩
   | some v=>rw [c] at a;obtain⟨m,o,_⟩:=iJ c;obtain⟨k,_⟩:=h.step true hi (v:=v) (by have:=h.aX.row hi;omega) b c d;exact g _ l k a
theorem Mp{x:Nm}(h:cT (nv x)=true):bw (bL x):=by unfold bL;rw [if_pos h];exact(wZ _).2 h
theorem Kt(go:eC n rows gl)(p:Nat):iI n rows gl p=AL\/iI n rows gl p=oB\/
  (∃(v:Fr) (pl d:List Nm),iI n rows gl p= [ti 1,ti v.1,ti v.2,lF pl,lF d,ti 0,ti 0]/\bw v/\pl.length=n/\d.length=rows.length/\cA pl=true/\cA d=true/\kF n rows gl v (pl.map bL) (d.map bL)=true)\/
  (∃(d:List Nm) (s:Nat->Rat),iI n rows gl p= [ti 2,ti 0,ti 0,T.aT true,lF d,ti 0,ti 0]/\d.length=rows.length/\cA d=true/\(aI n rows).Ref s/\∀j,j < rows.length->nv (an d j)=s j)\/
  ∃(pl:List Nm) (t:TL),iI n rows gl p= [ti 3,ti 0,ti 0,lF pl,T.aT true,ti 0,ti 0]/\pl.length=n/\cA pl=true/\oP rows gl (pl.map bL)=true/\dS n rows gl t:=by
 have ro:=go.ro;have c:=Bj ro;have o:=FH ro p (dQ n rows) c;have g:=AF ro p c;have k:=AE ro p (dQ n rows) c;have q:=λl=>MC go.k2 p (dQ n rows) l c;unfold iI;generalize ch n rows true p (dQ n rows)=r1 at o g k q⊢;obtain⟨no,done,B⟩:=r1;simp only at o g k q;cases done with
 | false=>exact .inl rfl
 | true=>
  cases no with
  | some l=>
   simp only;by_cases a:cA l=true
   .rw [if_pos a];obtain⟨s,R,e⟩:=q l rfl;exact .inr (.inr (.inr (.inl ⟨l,s,rfl,(o l rfl).1,a,R,e⟩)))
   .rw [if_neg a];exact .inr (.inl rfl)
  | none=>
   have x:=xh g (As g go.k2 (k rfl rfl)) go.gl;have f:=GB go p _ x;have i:=Bg (n:=n) (rows:=rows) p (pL n rows gl B);have m:=λl=>GC go p _ l x;have r:=λl=>Nw go p _ l x;simp only;generalize cL n rows p (pL n rows gl B)=D at f i m r⊢;obtain⟨h,A,u,b⟩:=D;simp only at f i m r;cases u with
   | false=>exact .inl (by cases h <;> cases A <;> rfl)
   | true=>
    cases A with
    | some l=>
     have hm:oz n rows gl (h,some l,true,b)=if cA l=true then [ti 3,ti 0,ti 0,lF l,T.aT true,ti 0,ti 0] else oB:=by cases h <;> rfl
     rw [hm];by_cases a:cA l=true
     .rw [if_pos a];obtain⟨w,k2⟩:=r l rfl a;exact .inr (.inr (.inr (.inr ⟨l,b,rfl,(f.2 l rfl).1,a,k2,w⟩)))
     .rw [if_neg a];exact .inr (.inl rfl)
    | none=>
     cases h with
     | none=>exact(i rfl rfl rfl).elim
     | some l=>
      obtain⟨w,k2,C⟩:=m l rfl
      have hm:oz n rows gl (some l,none,true,b)=if(cT (eE gl (bM n rows b.val)) && cA (bM n rows b.val) && cA l)=true then
        [ti 1,ti (eE gl (bM n rows b.val)).num,ti ((eE gl (bM n rows b.val)).den:Int),lF (bM n rows b.val),lF l,ti 0,ti 0] else oB:=rfl
      rw [hm];by_cases a:(cT (eE gl (bM n rows b.val)) && cA (bM n rows b.val) && cA l)=true
      .rw [if_pos a];simp only [Rw] at a;obtain⟨⟨h1,y⟩,z⟩:=a;refine .inr (.inr (.inl ⟨_,bM n rows b.val,l,rfl,(wZ _).2 h1, ?_,(f.1 l rfl).1,y,z, ?_⟩))
       .have:=w.tok.aX.v;unfold bM;simp;omega
       .subst C;exact Pr go w k2 y z h1
      .rw [if_neg a];exact .inr (.inl rfl)
end
end Go.Aev.Wd.Lg
