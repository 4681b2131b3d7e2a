import Derived.Test.YticjdhgokemdlaaMostSureQ13
import Derived.Test.YticjdhgokemdlaaMostSureQ16
import Derived.Test.YticjdhgokemdlaaMostSureQ18
set_option linter.all false
namespace Go.Aev.Tb
open Go Go.Aev
theorem uQ(f:Nat->Rat)(n:Nat):∀(m:Nat),sm (n+m) f=sm n f+sm m (λi=>f (n+i))
 | 0=>by show sm n f=sm n f+0;grind
 | m+1=>by show sm (n+m) f+f (n+m)=sm n f+ (sm m (λi=>f (n+i))+f (n+m));rw [uQ f n m];grind
structure Sy.Dc (S:Sy) (G:Nat->Rat) (t:bh) (g:Nat->Rat):Prop where
 free:∀u,u < S.n->g u=0
 sg:∀i,i < S.m->S.kd i≠3->0<=g (S.n+i)
 az:∀k,k < S.n->sm S.m (λi=>g (S.n+i) * S.A i k)=G k
 val:sm S.n (λk=>G k * t.y k)=sm S.m (λi=>g (S.n+i) * S.to i)
theorem KF{S:Sy}{G:Nat->Rat}{t:bh}{g:Nat->Rat}(hy:df S.n S.m S.A t.y)(q:S.sT G t g)(r:S.n6 t)(f:∀u,u < S.n+S.m->g u≠0->¬S.sN t (g u) u):S.Dc G t g:=by
 have free:∀u,u < S.n->g u=0:=λu w=>by refine Uq λc=>f u (by omega) c ⟨λ_=> .inl w,λ_=> .inl w⟩
 have neg:∀i,i < S.m->g (S.n+i) < 0->S.kd i=3/\t.y (S.n+i)=S.to i:=λi hi h=>by have p:=f (S.n+i) (by omega) (by grind);have a:¬S.sQ t (S.n+i):=λa=>p ⟨λd=>by grind,λ_=>a⟩;unfold Sy.sQ at a;rw [Tq] at a;have x:S.kd i=3:=Uq λd=>a (.inr (.inl d));have:=(r (S.n+i) (by omega) (by omega)).2;rw [Tq] at this;exact⟨x,this x⟩
 have pos:∀i,i < S.m->0 < g (S.n+i)->t.y (S.n+i)=S.to i:=λi hi h=>by have p:=f (S.n+i) (by omega) (by grind);have a:¬S.tf t (S.n+i):=λa=>p ⟨λ_=>a,λd=>by grind⟩;unfold Sy.tf at a;rw [Tq] at a;have:=(r (S.n+i) (by omega) (by omega)).1;rw [Tq] at this;have D:¬t.y (S.n+i) < S.to i:=λd=>a (.inr d);grind
 have sum:∀y:Nat->Rat,sm (S.n+S.m) (λk=>g k * y k)=sm S.m (λi=>g (S.n+i) * y (S.n+i)):=λy=>by
  rw [uQ (λk=>g k * y k) S.n S.m];have:sm S.n (λk=>g k * y k)=0:=jD λk b=>by rw [free k b,TI]
  rw [this];grind
 refine⟨free,λi hi b=> ?_,λk b=> ?_, ?_⟩
 .refine Uq λh=>b (neg i hi (by grind)).1
 .let y:Nat->Rat:=λv=>if v < S.n then(if v=k then 1 else 0) else S.A (v - S.n) k;have l:∀i,y (S.n+i)=S.A i k:=λi=>by
   show(if S.n+i < S.n then _ else _)=_;rw [if_neg (by omega),Tq]
  have s:df S.n S.m S.A y:=λi _=>by
   rw [l,jg b]
   .show S.A i k=S.A i k * (if k < S.n then(if k=k then 1 else 0) else _);rw [if_pos b,if_pos rfl,WH]
   .intro j o c;show S.A i j * (if j < S.n then(if j=k then 1 else 0) else _)=0;rw [if_pos o,if_neg c,TV]
  have e:=q.same y s;rw [sum y] at e;have z:sm S.n (λj=>G j * y j)=G k:=by
   rw [jg b]
   .show G k * (if k < S.n then(if k=k then 1 else 0) else _)=G k;rw [if_pos b,if_pos rfl,WH]
   .intro j o c;show G j * (if j < S.n then(if j=k then 1 else 0) else _)=0;rw [if_pos o,if_neg c,TV]
  rw [<-z,<-e];exact cf λi _=>by rw [l]
 .rw [<-q.same t.y hy,sum];refine cf λi hi=> ?_;by_cases B:g (S.n+i)=0
  .rw [B,TI,TI]
  .by_cases C: 0 < g (S.n+i)
   .rw [pos i hi C]
   .rw [(neg i hi (by grind)).2]
open Go Go.Aev
def Sy.mul(S:Sy)(t:bh)(i:Nat):Nat->Rat:=λj=>if S.n+j=t.af i then -(S.ai t (t.af i)) else S.ai t (t.af i) * t.c i (S.n+j)
structure Sy.Ref (S:Sy) (T:Nat->Rat):Prop where
 sg:∀j,j < S.m->S.kd j≠3->0<=T j
 az:∀k,k < S.n->sm S.m (λj=>T j * S.A j k)=0
 val:sm S.m (λj=>T j * S.to j) < 0
theorem Ka(S:Sy)(t:bh)(b:Nat):S.ai t b=1\/S.ai t b= -1:=by
 unfold Sy.ai;split
 .exact .inr rfl
 .exact .inl rfl
theorem P7{S:Sy}{t:bh}(ok:S.OK t)(k2:∀j,j < S.m->S.kd j≠2)(hz:∀v,v < S.n+S.m->t.z v=0){i:Nat}(hi:i < S.m)(hb:S.eQ t (t.af i))
  (no:∀u,u < S.n+S.m->t.c i u≠0->¬S.Can t (S.ai t (t.af i) * t.c i u) u):S.Ref (S.mul t i):=by
 have K:S.n<=t.af i:=hb.1;have D:=ok.wf.hb i hi;have L:=Ka S t (t.af i);have up:∀j,j < S.m->S.up (S.n+j)= (S.to j,0):=λj d=>by unfold Sy.up;rw [Tq,if_neg (k2 j d)]
 have G:t.c i (t.af i)=0:=ok.wf.z i i hi hi;have free:∀u,u < S.n->t.c i u=0:=λu r=>Uq λg=>no u (by omega) g ⟨λ_=> .inl r,λ_=> .inl r⟩;have C:∀j,j < S.m->t.c i (S.n+j)≠0->t.y (S.n+j)=S.to j:=λj d g=>by have nb:∀q,q < S.m->t.af q≠S.n+j:=λq a e=>g (by rw [<-e];exact ok.wf.z i q hi a);have f:=ok.fix (S.n+j) (by omega) nb;unfold Sy.fx at f;rw [if_neg (by omega),up j d] at f;exact congrArg Prod.fst f
 have B:∀y:Nat->Rat,df S.n S.m S.A y->sm S.m (λj=>S.mul t i j * y (S.n+j))=0:=λy hy=>by
  have h1:=(ok.wf.same y).2 hy i hi;rw [uQ (λk=>t.c i k * y k) S.n S.m] at h1;have o:sm S.n (λk=>t.c i k * y k)=0:=jD λk s=>by rw [free k s,TI]
  rw [o] at h1;obtain⟨q,a⟩:∃q,t.af i=S.n+q:=⟨t.af i - S.n,by omega⟩;have l:q < S.m:=by omega
  have e:sm S.m (λj=>S.mul t i j * y (S.n+j))=sm S.m (λj=>S.ai t (t.af i) * (t.c i (S.n+j) * y (S.n+j))+ -(S.ai t (t.af i)) * (if j=q then y (t.af i) else 0)):=by
   refine cf λj d=> ?_;unfold Sy.mul;by_cases b:j=q
   .subst b;rw [if_pos a.symm,if_pos rfl,<-a,G];grind
   .rw [if_neg (by omega),if_neg b];grind
  rw [e,ik,l0 l,h1];grind
 have val:sm S.m (λj=>S.mul t i j * S.to j)=S.ai t (t.af i) * (t.y (t.af i) - S.to (t.af i - S.n)):=by
  have h:=B t.y ok.hy;obtain⟨q,a⟩:∃q,t.af i=S.n+q:=⟨t.af i - S.n,by omega⟩;have l:q < S.m:=by omega
  have e:sm S.m (λj=>S.mul t i j * S.to j)=sm S.m (λj=>1 * (S.mul t i j * t.y (S.n+j))+S.ai t (t.af i) * (if j=q then t.y (t.af i) - S.to (t.af i - S.n) else 0)):=by
   refine cf λj d=> ?_;by_cases b:j=q
   .subst b;unfold Sy.mul;rw [if_pos a.symm,if_pos rfl,a,Tq];grind
   .rw [if_neg b];by_cases o:t.c i (S.n+j)=0
    .unfold Sy.mul;rw [if_neg (by omega),o];grind
    .rw [C j d o];grind
  rw [e,ik,l0 l,h];grind
 refine⟨λj d F=> ?_,λk s=> ?_, ?_⟩
 .unfold Sy.mul;by_cases b:S.n+j=t.af i
  .rw [if_pos b];rcases hb.2 with h | ⟨h,_⟩
   .unfold Sy.ai;rw [if_pos h];grind
   .rw [<-b,Tq] at h;exact absurd h F
  .rw [if_neg b];by_cases o:t.c i (S.n+j)=0
   .rw [o,TV];exact Uc
   .refine Uq λJ=>no (S.n+j) (by omega) o ⟨λh=>absurd h (by grind),λ_=> .inr (.inl ?_)⟩;rw [Tq];exact F
 .let y:Nat->Rat:=λv=>if v < S.n then(if v=k then 1 else 0) else S.A (v - S.n) k;have w:∀i,y (S.n+i)=S.A i k:=λi=>by
   show(if S.n+i < S.n then _ else _)=_;rw [if_neg (by omega),Tq]
  have E:df S.n S.m S.A y:=λi _=>by
   rw [w,jg s]
   .show S.A i k=S.A i k * (if k < S.n then(if k=k then 1 else 0) else _);rw [if_pos s,if_pos rfl,WH]
   .intro j d g;show S.A i j * (if j < S.n then(if j=k then 1 else 0) else _)=0;rw [if_pos d,if_neg g,TV]
  rw [<-B y E];exact cf λi _=>by rw [w]
 .rw [val];obtain⟨q,a⟩:∃q,t.af i=S.n+q:=⟨t.af i - S.n,by omega⟩;have l:q < S.m:=by omega
  have r:=up q l;have x:=hz (t.af i) D;rcases hb.2 with h | ⟨_,h⟩
  .have p:S.ai t (t.af i)= -1:=by unfold Sy.ai;rw [if_pos h]
   rw [p];rw [a,r,<-a] at h;unfold bW bh.val at h;rw [x] at h;rw [a,Tq,<-a];rcases h with h | ⟨_,h⟩
   .simp only at h;grind
   .exact absurd h (by simp)
  .have I:¬bW (S.up (t.af i)) (t.val (t.af i)):=λH=>by
    unfold bW at h H;grind
   have p:S.ai t (t.af i)=1:=by unfold Sy.ai;rw [if_neg I]
   rw [p];rw [a,r,<-a] at h;unfold bW bh.val at h;rw [x] at h;rw [a,Tq,<-a];rcases h with h | ⟨_,h⟩
   .simp only at h;grind
   .exact absurd h (by simp)
theorem Jk{f g:Nat->Rat}:∀{n:Nat},(∀i,i < n->f i<=g i)->sm n f<=sm n g
 | 0,_=>Uc
 | n+1,h=>by have h1:=Jk (n:=n) λi hi=>h i (by omega);have a:=h n (by omega);show sm n f+f n<=sm n g+g n;grind
theorem P6{S:Sy}{T:Nat->Rat}(R:S.Ref T){t:bh}(hy:df S.n S.m S.A t.y)(d:S.n6 t):False:=by
 have e:sm S.m (λj=>T j * t.y (S.n+j))=0:=by
  have h1:sm S.m (λj=>T j * t.y (S.n+j))=sm S.m (λj=>sm S.n (λk=>T j * (S.A j k * t.y k))):=cf λj a=>by rw [hy j a,kW]
  rw [h1,yQ];refine jD λk f=> ?_;have c:sm S.m (λj=>T j * (S.A j k * t.y k))=sm S.m (λj=>t.y k * (T j * S.A j k)):=cf λj _=>by grind
  rw [c,kW,R.az k f,TV]
 have h:sm S.m (λj=>T j * t.y (S.n+j))<=sm S.m (λj=>T j * S.to j):=Jk λj a=>by
  have hb:=d (S.n+j) (by omega) (by omega);rw [Tq] at hb;by_cases b:S.kd j=3
  .rw [hb.2 b];exact Uc
  .exact WV hb.1 (R.sg j a b)
 have:=R.val;grind
end Go.Aev.Tb
namespace Go.Aev.Wd.Lg
open Go Go.Aev Go.Aev.Gen Go.Aev.Wd
def fH(g:Nat->Rat):Nat->List Rat->Rat
 | _,[]=>0
 | k,x::xs=>g k * x+fH g (k+1) xs
theorem EI{f g:Nat->Rat}:∀(xs:List Rat) (k:Nat),(∀j,k<=j->j < k+xs.length->f j=g j)->fH f k xs=fH g k xs
 | [],_,_=>rfl
 | x::xs,k,h=>by rw [fH,fH,h k (Tl k) (by simp),EI xs (k+1) λj h1 a=>h j (by omega) (by simp;omega)]
theorem EH(f g:Nat->Rat):∀(xs:List Rat) (k:Nat),fH (λj=>f j+g j) k xs=fH f k xs+fH g k xs
 | [],_=>by simp only [fH];grind
 | x::xs,k=>by simp only [fH];rw [EH f g xs (k+1)];grind
theorem EK(f:Nat->Rat)(c:Rat):∀(xs:List Rat) (k:Nat),fH (λj=>f j * c) k xs=c * fH f k xs
 | [],_=>by simp only [fH];grind
 | x::xs,k=>by simp only [fH];rw [EK f c xs (k+1)];grind
theorem AB:∀(xs:List Rat) (k:Nat),fH (λ_=>0) k xs=0
 | [],_=>rfl
 | x::xs,k=>by simp only [fH];rw [AB xs (k+1)];grind
theorem EJ(of:List Int):∀(xs:List Rat) (k:Nat),of.length<=k+xs.length->fH (λj=>((of.getD j 0:Int):Rat)) k xs=aU (of.drop k) xs
 | [],k,h=>by rw [U9 (by simpa using h),pI];rfl
 | x::xs,k,h=>by
  rw [fH,EJ of xs (k+1) (by simp at h;omega)];by_cases a:k < of.length
  .rw [UB a,aU,SV,SZ a];rfl
  .rw [U9 (by omega),U9 (by omega),pI,pI,SV,TU (by omega)];show((0:Int):Rat) * x+0=0;have:((0:Int):Rat)=0:=rfl;grind
theorem EL{of:List Int}{xs:List Rat}(h:of.length<=xs.length):fH (λj=>((of.getD j 0:Int):Rat)) 0 xs=aU of xs:=EJ of xs 0 (by omega)
def ve:List R->List Rat->List Rat->Rat
 | r::a,t::ts,xs=>t * aU r.of xs+ve a ts xs
 | _,_,_=>0
theorem En{xs:List Rat}:∀(a:List R) (ts:List Rat),(∀r∈a,r.of.length<=xs.length)->fH (λk=>iS a ts k) 0 xs=ve a ts xs
 | [],ts,_=>by
  have:(λk=>iS [] ts k)=λ_=>0:=by funext k;cases ts <;> rfl
  rw [this,AB];cases ts <;> rfl
 | r::a,[],_=>by
  have:(λk=>iS (r::a) [] k)=λ_=>0:=by funext k;rfl
  rw [this,AB];rfl
 | r::a,t::ts,h=>by show fH (λk=>((r.of.getD k 0:Int):Rat) * t+iS a ts k) 0 xs=_;rw [EH (λk=>((r.of.getD k 0:Int):Rat) * t) (λk=>iS a ts k),EK (λk=>((r.of.getD k 0:Int):Rat)) t,EL (h r SW),En a ts λr hr=>h r (SY _ hr)];rfl
theorem ND{x:Fr}(h:bH x)(a:¬x.1 < 0): 0<=ba x:=by unfold ba;have h1:=h.1;exact(Rat.divInt_nonneg_iff_of_pos_right (by omega)).2 (by omega)
theorem Kc{xs:List Rat}:∀(a:List R) (ts:List Fr),(∀r∈a,r.kd=1\/r.kd=3)->(∀r∈a,eL r (aU r.of xs)=true)->iY a ts=true->(∀t∈ts,bH t)->ve a (ts.map ba) xs<=lh a (ts.map ba)
 | [],ts,_,_,_,_=>by cases ts <;> exact Uc
 | r::a,[],_,_,_,_=>Uc
 | r::a,t::ts,f,d,c,g=>by
  rw [iY,S0] at c;have k:=Kc a ts (λr hr=>f r (SY _ hr)) (λr hr=>d r (SY _ hr)) c.2 λt h=>g t (SY _ h);show ba t * aU r.of xs+ve a (ts.map ba) xs<=(r.tv:Rat) * ba t+lh a (ts.map ba);have h1:=d r SW;have j:ba t * aU r.of xs<=(r.tv:Rat) * ba t:=by
   rcases f r SW with e | e
   .have b:aU r.of xs<=(r.tv:Rat):=by simpa [eL,e] using h1
    have i: 0<=ba t:=ND (g t SW) (by simpa [e] using c.1);rw [WT (r.tv:Rat)];exact WV b i
   .have b:aU r.of xs= (r.tv:Rat):=by simpa [eL,e] using h1
    rw [b,WT];exact Uc
  grind
open Go Go.Aev Go.Aev.Gen Go.Aev.Wd Go.Aev.Tb
theorem KE{n:Nat}{rows:List R}{gl:List Int}{t:TL}(go:dY n rows gl)(h:dM n rows gl t)(e:aT n rows t.val 1 t.aw 0=none):(aI n rows).Dc (gR gl) t.st (λv=>nv (ao t.aw v)):=by refine KF h.tok.ok.hy h.g h.fe (λu f c d=> ?_);have a:=tH e u (Vx u) (by rw [TZ];exact c);rw [TZ] at a;have b:=(Ah h.tok go.k2 (u:=u) f c).2 d;rw [a] at b;cases b
theorem CL(f:Nat->Rat)(n:Nat):sm (n+1) f=f 0+sm n (λi=>f (i+1)):=by
 rw [WO,uQ f 1 n];have:(λi=>f (1+i))=λi=>f (i+1):=by funext i;rw [WO]
 rw [this];show(0+f 0)+ _=_;grind
theorem Em(k:Nat):∀(rows:List R) (ts:List Rat),ts.length=rows.length->iS rows ts k=sm rows.length (λi=>ts.getD i 0 * (((aS rows i).of.getD k 0:Int):Rat))
 | [],ts,_=>by cases ts <;> rfl
 | r::a,[],h=>by simp at h
 | r::a,t::ts,h=>by rw [Tr,CL];show((r.of.getD k 0:Int):Rat) * t+iS a ts k=t * ((r.of.getD k 0:Int):Rat)+sm a.length (λi=>ts.getD i 0 * (((aS a i).of.getD k 0:Int):Rat));rw [Em k a ts (by simpa using h),WT]
theorem JM:∀(rows:List R) (ts:List Rat),ts.length=rows.length->lh rows ts=sm rows.length (λi=>ts.getD i 0 * ((aS rows i).tv:Rat))
 | [],ts,_=>by cases ts <;> rfl
 | r::a,[],h=>by simp at h
 | r::a,t::ts,h=>by rw [Tr,CL];show(r.tv:Rat) * t+lh a ts=t * (r.tv:Rat)+sm a.length (λi=>ts.getD i 0 * ((aS a i).tv:Rat));rw [JM a ts (by simpa using h),WT]
theorem jP:∀(of:List Int) (xs:List Rat),of.length<=xs.length->aU of xs=sm xs.length (λk=>((of.getD k 0:Int):Rat) * xs.getD k 0)
 | [],xs,_=>by rw [pI];refine(jD λk _=> ?_).symm;show((0:Int):Rat) * _=0;have:((0:Int):Rat)=0:=rfl;rw [this,TI]
 | c::of,[],h=>by simp at h
 | c::of,x::xs,h=>by rw [Tr,CL];show(c:Rat) * x+aU of xs= (c:Rat) * x+sm xs.length (λk=>((of.getD k 0:Int):Rat) * xs.getD k 0);rw [jP of xs (by simpa using h)]
theorem HL:∀(rows:List R) (ts:List Fr),ts.length=rows.length->(∀i,i < rows.length->(aS rows i).kd=1->¬(ts.getD i (0,1)).1 < 0)->iY rows ts=true
 | [],ts,_,_=>by cases ts <;> rfl
 | r::c,[],h,_=>by simp at h
 | r::c,t::ts,h,b=>by
  rw [iY,S0];refine⟨?_,HL c ts (by simpa using h) λi hi a=>b (i+1) (by simp;omega) a⟩;by_cases a:r.kd=1
  .have:=b 0 (by simp) a;have d:¬t.1 < 0:=this;simp [a,d]
  .simp [a]
theorem NB{x:Nm}(h:cw (nv x)=true):ba (cL x)=nv x:=by unfold cL;rw [if_pos h];exact U0 _
theorem Be{l:List Nm}(h:b8 l=true):(l.map cL).map ba=l.map nv:=by rw [VD];exact UQ λx a=>NB (Tk.1 h x a)
section
variable {n:Nat} {rows:List R} {gl:List Int} {t:TL}
theorem PK(go:dY n rows gl)(h:bq n rows t):(bo n rows t.val).map nv= (List.range n).map t.st.y:=by
 have hv:=h.aW.v;refine Xr (by unfold bo;simp;omega) (λk h1 a=> ?_);have b:k < n:=by simpa using a
 have hz:=z0 h go.k2 (v:=k) (by omega);unfold bo;simp only [VD,Vu,Xg,Ve];have e:t.val[k]'(by omega)=aG t.val k:=by unfold aG;rw [SV,SZ (by omega)];rfl
 show nv (cJ _ (t.val[k]'(by omega)))=_;rw [e];exact zZ _ _ hz
theorem ze(k:Nat)(a:k < n):((List.range n).map t.st.y).getD k 0=t.st.y k:=by rw [SV,TM,VU a];rfl
theorem QS(go:dY n rows gl)(h:dM n rows gl t)(p:aT n rows t.val 1 t.aw 0=none)(s:b8 (bo n rows t.val)=true)(v:b8 (t.aw.drop n)=true)(z:cw (eI gl (bo n rows t.val))=true):
  jf n rows gl ((eI gl (bo n rows t.val)).num,((eI gl (bo n rows t.val)).den:Int)) ((bo n rows t.val).map cL) ((t.aw.drop n).map cL)=true:=by
 have B:=KE go h p;have q:=h.len;have c:=PK go h.tok;have g:eI gl (bo n rows t.val)=sm n (λk=>gR gl k * t.st.y k):=by unfold eI;rw [c,jP gl _ (by simpa using go.gl)];rw [Uv,U8];exact cf λk a=>by rw [ze k a];rfl
 have f:((t.aw.drop n).map nv).length=rows.length:=by simp;omega
 have d:∀i,((t.aw.drop n).map nv).getD i 0=nv (ao t.aw (n+i)):=λi=>by unfold ao;rw [SV,SV,TM,Vz];cases t.aw[n+i]? <;> rfl
 have u:ba ((eI gl (bo n rows t.val)).num,((eI gl (bo n rows t.val)).den:Int))=eI gl (bo n rows t.val):=U0 _;unfold jf;rw [u,Be s,Be v,c];simp only [S0,decide_eq_true_eq,Tk,UO];refine⟨⟨⟨⟨λr hr=> ?_, ?_⟩, ?_⟩,λk a=> ?_⟩, ?_⟩
 .obtain⟨i,hi,e⟩:=TY hr;have er:aS rows i=r:=by unfold aS;rw [SV,SZ hi];exact e
  have hy:=h.tok.ok.hy i hi;have o:aU r.of ((List.range n).map t.st.y)=t.st.y (n+i):=by rw [jP r.of _ (by simpa using go.ro.len r hr),Uv,U8];refine W1 ?_ hy.symm;exact cf λk a=>by rw [ze k a,<-er];rfl
  have b:=h.fe (n+i) (UY n i) (Nat.add_lt_add_left hi n);have l:(aI n rows).to (n+i - (aI n rows).n)= (r.tv:Rat):=by show((aS rows (n+i - n)).tv:Rat)=_;rw [Tq,er]
  have m:(aI n rows).kd (n+i - (aI n rows).n)=r.kd:=by show(aS rows (n+i - n)).kd=_;rw [Tq,er]
  rw [l,m] at b;rw [o];unfold eL;rcases go.ro.kd r hr with k | k | k
  .rw [if_pos k];exact decide_eq_true b.1
  .exact absurd k (go.k2 r hr)
  .rw [if_neg (by omega),if_neg (by omega)];exact decide_eq_true (b.2 k)
 .rw [<-c];rfl
 .refine HL rows _ (by simp;omega) λi hi a=> ?_;have hb:=B.sg i hi (by show(aS rows i).kd≠3;omega);have w:((t.aw.drop n).map cL).getD i (0,1)=cL (ao t.aw (n+i)):=by
   unfold ao;rw [SV,SV,TM,Vz,SZ (by omega)];rfl
  rw [w];have j: 0<=nv (ao t.aw (n+i)):=hb;have x:=WB.2 j;unfold cL;split
  .show ¬(nv (ao t.aw (n+i))).num < 0;omega
  .show ¬(0:Int) < 0;omega
 .rw [Em k rows _ f];refine W1 ?_ (B.az k a);exact cf λi _=>by rw [d];rfl
 .rw [JM rows _ f,g];refine W1 ?_ B.val.symm;exact cf λi _=>by rw [d];rfl
end
open Go Go.Aev Go.Aev.Gen Go.Aev.Wd Go.Aev.Tb
section
variable {n:Nat} {rows:List R} {gl:List Int} {t:TL}
theorem Qr(h:bq n rows t){v:Nat}(ai:Int)(j:¬t.st.bG rows.length v):(je n t v ai).map nv= (List.range n).map (t.st.dir rows.length v (ai:Rat)):=by
 have base:∀k,k < n->k≠v->nv (gK t v ai k)=t.st.dir rows.length v (ai:Rat) k:=λk a l=>by
  by_cases hb:t.st.bG rows.length k
  .obtain⟨i,hi,e⟩:=hb;have g:i < (aI n rows).m:=hi;have d:=h.ln i k (by rw [<-e];exact iL (by rw [h.aW.b];exact hi));have q:=ow h.ok (ai:Rat) g j;have f:t.st.dir rows.length v (ai:Rat) (t.st.af i)=t.st.c i v * (ai:Rat):=q;unfold gK;rw [d,<-e,f];rfl
  .have d:bV k t.mp=none:=h.ue k λhm=>hb (by
    obtain⟨i,hi,e⟩:=TY hm;refine⟨i,by rw [<-h.aW.b];exact hi, ?_⟩;show t.af.getD i 0=k;rw [SV,SZ hi];exact e)
   unfold gK;rw [d,m8 t.st (ai:Rat) l hb];rfl
 refine Xr (by unfold je;split <;> simp) (λk h1 p=> ?_);have a:k < n:=by simpa using p
 rw [Vu,Vu,Ve];by_cases e:k=v
 .subst e;rw [oz];unfold je;simp only [if_pos a,List.getElem_set_self];rfl
 .rw [<-base k a e];unfold je;split
  .rw [List.getElem_set_ne (λo=>e o.symm),Vu,Ve]
  .rw [Vu,Ve]
theorem QU(go:dY n rows gl)(h:dM n rows gl t){v:Nat}(K:aT n rows t.val 1 t.aw 0=some v)(L:(bf n rows t v (nv (ao t.aw v)).num.sign).2.2=false)
  (a:iM n rows v (iN (nv (ao t.aw v)).num.sign)=false) (M:b8 (je n t v (nv (ao t.aw v)).num.sign)=true):
  lW rows gl ((je n t v (nv (ao t.aw v)).num.sign).map cL)=true:=by
 obtain⟨_,x,d,_,_⟩:=iB K;rw [TZ] at d;rw [TC,h.len] at x;have w:v < (aI n rows).n+ (aI n rows).m:=x;have l:¬t.st.bG rows.length v:=by rintro⟨i,hi,e⟩;have hz:nv (ao t.aw (t.st.af i))=0:=h.g.z i hi;rw [e] at hz;exact d hz
 have A:∀j,j < rows.length->¬gV n rows t v (nv (ao t.aw v)).num.sign j:=by
  rcases Hd h.tok go.k2 a with⟨_,b⟩ | ⟨i,_,_,b,_⟩
  .exact b
  .rw [L] at b;cases b
 have B: 0 < nv (ao t.aw v) * (((nv (ao t.aw v)).num.sign:Int):Rat):=by
  have y:((1:Int):Rat)=1:=rfl;have o:((-1:Int):Rat)= -1:=rfl;rcases sf d with e | e
  .have:=(yu (nv (ao t.aw v))).1 (by omega);rw [e,y];grind
  .have h1:¬0 < nv (ao t.aw v):=λb=>by have:=(yu (nv (ao t.aw v))).2 b;omega
   rw [e,o];grind
 have G:=sf d;generalize N:(nv (ao t.aw v)).num.sign=ai at *
 have u:=EF h.tok.ok (ai:Rat) l w;have s:=Bl h.g (ai:Rat) w;rw [h.g.same _ u] at s;have I:(je n t v ai).map nv= (List.range n).map (t.st.dir rows.length v (ai:Rat)):=Qr h.tok ai l;have get:∀k,k < n->((List.range n).map (t.st.dir rows.length v (ai:Rat))).getD k 0=t.st.dir rows.length v (ai:Rat) k:=λk f=>by rw [SV,TM,VU f];rfl
 unfold lW;rw [Be M,I];simp only [S0,decide_eq_true_eq,Tk,Tw];refine⟨?_, ?_⟩
 .rintro _ ⟨r,hr,rfl⟩;obtain⟨i,hi,e⟩:=TY hr;have er:aS rows i=r:=by unfold aS;rw [SV,SZ hi];exact e
  have J:aU r.of ((List.range n).map (t.st.dir rows.length v (ai:Rat)))=t.st.dir rows.length v (ai:Rat) (n+i):=by rw [jP r.of _ (by simpa using go.ro.len r hr),Uv,U8];refine W1 ?_ (u i hi).symm;exact cf λk f=>by rw [get k f,<-er];rfl
  have key:t.st.dir rows.length v (ai:Rat) (n+i)<=0/\(r.kd=3->t.st.dir rows.length v (ai:Rat) (n+i)=0):=by
   by_cases ev:n+i=v
   .rw [ev,oz];unfold iM at a;have H:nv (iN ai)= (ai:Rat):=rfl;rw [H] at a;have y:((1:Int):Rat)=1:=rfl;have o:((-1:Int):Rat)= -1:=rfl;rcases G with p | p
    .rw [p,y,if_neg (by grind)] at a;have:¬v < n:=by omega
     simp [this] at a
    .rw [p,o,if_pos (by grind)] at a;rw [p,o];refine⟨by grind,λC=> ?_⟩;have:eV n rows v=true:=lP.2 ⟨by omega,by rw [<-ev,Tq];show(aS rows i).kd=3;rw [er];exact C⟩;rw [this] at a;cases a
   .by_cases hb:t.st.bG rows.length (n+i)
    .obtain⟨j,F,D⟩:=hb;have E:t.st.dir rows.length v (ai:Rat) (t.st.af j)=t.st.c j v * (ai:Rat):=ow h.tok.ok (ai:Rat) (j:=j) F l;rw [<-D,E];have q:=A j F;unfold gV at q;have e3:(aI n rows).kd (t.st.af j - n)=r.kd:=by
      rw [D];show(aS rows (n+i - n)).kd=_;rw [Tq,er]
     rw [e3] at q;have h1:¬0 < t.st.c j v * (ai:Rat):=λb=>q ⟨by omega, .inl b⟩;refine⟨by grind,λC=> ?_⟩;have O:¬t.st.c j v * (ai:Rat) < 0:=λb=>q ⟨by omega, .inr ⟨b,C⟩⟩;grind
    .rw [m8 t.st (ai:Rat) ev hb];exact⟨Uc,λ_=>rfl⟩
  show eL (iG r) (aU r.of _)=true;rw [J];unfold eL iG;have z:((0:Int):Rat)=0:=rfl;simp only [z];rcases go.ro.kd r hr with k | k | k
  .rw [if_pos k];exact decide_eq_true key.1
  .exact absurd k (go.k2 r hr)
  .rw [if_neg (by omega),if_neg (by omega)];exact decide_eq_true (key.2 k)
 .rw [jP gl _ (by simpa using go.gl),Uv,U8];have:sm n (λk=>((gl.getD k 0:Int):Rat) * ((List.range n).map (t.st.dir rows.length v (ai:Rat))).getD k 0)=nv (ao t.aw v) * (ai:Rat):=by
   refine W1 ?_ s;exact cf λk f=>by rw [get k f];rfl
  rw [this];exact B
end
open Go Go.Aev Go.Aev.Gen Go.Aev.Wd Go.Aev.Tb
theorem Cs{n j:Nat}{s:Nm}:∀(xs:List Nm) (v:Nat) (a:List Nm),(∀u,v<=u->u < n->nv (ao xs (u - v))=0)->j < a.length->
  nv (ao (fK n s xs v a) j)=if v<=n+j/\nv (ao xs (n+j - v))≠0 then -(nv (ao xs (n+j - v)) * nv s) else nv (ao a j)
 | [],v,a,_,_=>by have h:nv (ao [] (n+j - v))=0:=rfl;rw [fK,if_neg (λb=>b.2 h)]
 | x::xs,v,a,hz,l=>by
  have g:∀u,v+1<=u->u < n->nv (ao xs (u - (v+1)))=0:=λu h1 c=>by have:=hz u (by omega) c;obtain⟨k,rfl⟩:∃k,u=v+1+k:=⟨u - (v+1),by omega⟩;rw [show v+1+k - v=k+1 by omega] at this;rw [show v+1+k - (v+1)=k by omega];exact this
  have tail:v+1<=n+j->ao (x::xs) (n+j - v)=ao xs (n+j - (v+1)):=λh=>by rw [show n+j - v= (n+j - (v+1))+1 by omega];rfl
  by_cases f:nv x=0
  .rw [fK,if_pos f,Cs xs (v+1) a g l];by_cases h1:v+1<=n+j
   .rw [tail h1];simp only [h1,show v<=n+j by omega,true_and]
   .rw [if_neg (λb=>h1 b.1)];by_cases c:v<=n+j
    .have e:n+j - v=0:=by omega
     rw [e,if_neg (λb=>b.2 f)]
    .rw [if_neg (λb=>c b.1)]
  .have p:n<=v:=UN λb=>f (by have:=hz v (Tl v) b;rw [VF] at this;exact this);rw [fK,if_neg f,Cs xs (v+1) _ g (by rw [TT];exact l)];by_cases h1:v+1<=n+j
   .have d:v - n≠j:=by omega
    have i:ao (a.set (v - n) (ng (tm x s))) j=ao a j:=by unfold ao;rw [SV,SV,Wl d]
    rw [tail h1,i];simp only [h1,show v<=n+j by omega,true_and]
   .rw [if_neg (λb=>h1 b.1)];by_cases c:v<=n+j
    .have e:n+j - v=0:=by omega
     have o:v - n=j:=by omega
     have m:nv (ao (x::xs) 0)≠0:=f;rw [e,if_pos ⟨c,m⟩,o];have i:ao (a.set j (ng (tm x s))) j=ng (tm x s):=by unfold ao;rw [SV,List.getElem?_set_self l];rfl
     rw [i];rfl
    .rw [if_neg (λb=>c b.1)];have d:v - n≠j:=by omega
     unfold ao;rw [SV,SV,Wl d]
section
variable {n:Nat} {rows:List R} {t:TL}
theorem P5(h:bq n rows t)(k2:∀r∈rows,r.kd≠2){i:Nat}(hi:i < rows.length)(hb:(aI n rows).eQ t.st (t.st.af i))(q:aT n rows t.val (bp n rows t (t.st.af i)) (au t.aj i) 0=none):
  (aI n rows).Ref ((aI n rows).mul t.st i)/\∀j,j < rows.length->nv (ao (iE n rows.length (bp n rows t (t.st.af i)) (t.st.af i) (au t.aj i)) j)= (aI n rows).mul t.st i j:=by
 have e:∀u,t.st.c i u≠0->¬(aI n rows).Can t.st ((aI n rows).ai t.st (t.st.af i) * t.st.c i u) u:=λu d o=>by have a:=tH q u (Vx u) (by rw [TZ];exact d);rw [TZ] at a;rw [u5] at o;have b:=(rf (n:=n) (rows:=rows) t (sM n rows t _) d (v:=u)).2 o;exact Bool.noConfusion (a.symm.trans b)
 have R:(aI n rows).Ref ((aI n rows).mul t.st i):=P7 h.ok (λj f=>k2 _ (eG f)) (λv hv=>z0 h k2 hv) hi hb (λu _=>e u);refine⟨R,λj f=> ?_⟩;have s:n<=t.st.af i:=hb.1;have free:∀u,u < n->t.st.c i u=0:=λu g=>Uq λd=>e u d ⟨λ_=> .inl g,λ_=> .inl g⟩;have p:t.st.c i (t.st.af i)=0:=h.ok.wf.z i i hi hi;unfold iE;rw [Cs (au t.aj i) 0 _ (λu _ g=>free u g) (by simpa using f)];rw [TZ];have e0:nv (ao (au t.aj i) (n+j))=t.st.c i (n+j):=rfl;have es:nv (iN (-(bp n rows t (t.st.af i))))= -((bp n rows t (t.st.af i):Int):Rat):=WS _;rw [e0,es];unfold Sy.mul;rw [u5];show _=if n+j=t.st.af i then _ else _ * t.st.c i (n+j);by_cases k:n+j=t.st.af i
 .rw [if_neg (λl=>l.2 (by rw [k];exact p)),if_pos k];have:ao ((List.replicate rows.length (none:Nm)).set (t.st.af i - n) (iN (-(bp n rows t (t.st.af i))))) j=iN (-(bp n rows t (t.st.af i))):=by
   rw [show t.st.af i - n=j by omega];unfold ao;rw [SV,List.getElem?_set_self (by simpa using f)];rfl
  rw [this];exact es
 .rw [if_neg k];by_cases m:t.st.c i (n+j)=0
  .rw [if_neg (λl=>l.2 m),m,TV];have d:t.st.af i - n≠j:=by omega
   unfold ao;rw [SV,Wl d,UJ];split <;> rfl
  .rw [if_pos ⟨Vx _,m⟩];grind
end
open Go Go.Aev Go.Aev.Gen Go.Aev.Wd Go.Aev.Tb
section
variable {n:Nat} {rows:List R} {gl:List Int}
theorem NN:∀(p:Nat) (t:TL),bq n rows t->(bU n rows true p t).2.1=false->
  ∃s:Nat->TL,s 0=t/\(∀k,bq n rows (s k))/\∀k,k < p->∃i v,(aI n rows).Step (s k).st (s (k+1)).st i v:=by
 intro p;induction p with
 | zero=>intro t h _;exact⟨λ_=>t,rfl,λ_=>h,λk e=>absurd e (by omega)⟩
 | succ p g=>
  intro t h a;rcases kG h with⟨_,hb⟩ | ⟨i,hi,d,c,hb,f⟩
  .rw [kM true _ hb] at a;cases a
  .rw [nr true p hb f] at a;cases b:aT n rows t.val (bp n rows t (t.st.af i)) (au t.aj i) 0 with
   | none=>rw [b] at a;cases a
   | some v=>
    rw [b] at a;obtain⟨q,r,_⟩:=iB b;obtain⟨j,k2⟩:=h.step true hi (v:=v) (by have:=h.aW.row hi;omega) d b c;obtain⟨s,l,m,o⟩:=g _ j a;refine⟨λk=>match k with | 0=>t | k+1=>s k,rfl,λk=> ?_,λk e=> ?_⟩
    .cases k with
     | zero=>exact h
     | succ k=>exact m k
    .cases k with
     | zero=>exact⟨i,v,by show(aI n rows).Step t.st (s 0).st i v;rw [l];exact k2⟩
     | succ k=>exact o k (by omega)
theorem Gu{p:Nat}{t:TL}(h:bq n rows t)(q:(n+rows.length) ^ n<=p):(bU n rows true p t).2.1=true:=by
 cases m:(bU n rows true p t).2.1 with
 | true=>rfl
 | false=>
  exfalso;obtain⟨s,_,g,o⟩:=NN p t h m;have st:∀k,∃f:Nat×Nat,k < p->(aI n rows).Step (s k).st (s (k+1)).st f.1 f.2:=λk=>by
   by_cases e:k < p
   .obtain⟨i,v,hv⟩:=o k e;exact⟨(i,v),λ_=>hv⟩
   .exact⟨(0,0),λj=>absurd j e⟩
  have:=Es (S:=aI n rows) (s:=λk=>(s k).st) (T:=p+1) (λk=>(g k).ok) (λa b d hb c=>
   KI (S:=aI n rows) (s:=λk=>(s k).st) (ii:=λk=>(st k).choose.1) (ee:=λk=>(st k).choose.2) d (λk=>(g k).ok) (λk _ l=>(st k).choose_spec (by omega)) c)
  have l:p+1<=(n+rows.length) ^ n:=this;omega
theorem OM(go:dY n rows gl):∀(p:Nat) (t:TL),dM n rows gl t->(cI n rows p t).2.2.1=false->
  ∃s:Nat->TL,s 0=t/\(∀k,dM n rows gl (s k))/\∀k,k < p->∃i v,(aI n rows).kD (s k).st (λu=>nv (ao (s k).aw u)) (s (k+1)).st i v:=by
 intro p;induction p with
 | zero=>intro t h _;exact⟨λ_=>t,rfl,λ_=>h,λk d=>absurd d (by omega)⟩
 | succ p e=>
  intro t h a;cases b:aT n rows t.val 1 t.aw 0 with
  | none=>rw [jX _ b] at a;cases a
  | some v=>
   cases c:(bf n rows t v (nv (ao t.aw v)).num.sign).2.2
   .rw [nE p b c] at a;cases a
   .rw [nF p b c] at a;obtain⟨f,i,k2⟩:=h.step go b c;obtain⟨s,g,j,l⟩:=e _ f a;refine⟨λk=>match k with | 0=>t | k+1=>s k,rfl,λk=> ?_,λk d=> ?_⟩
    .cases k with
     | zero=>exact h
     | succ k=>exact j k
    .cases k with
     | zero=>exact⟨i,v,by show(aI n rows).kD t.st _ (s 0).st i v;rw [g];exact k2⟩
     | succ k=>exact l k (by omega)
theorem OI(go:dY n rows gl){p:Nat}{t:TL}(h:dM n rows gl t)(r:(n+rows.length) ^ n<=p):(cI n rows p t).2.2.1=true:=by
 cases o:(cI n rows p t).2.2.1 with
 | true=>rfl
 | false=>
  exfalso;obtain⟨s,_,d,q⟩:=OM go p t h o;have st:∀k,∃j:Nat×Nat,k < p->(aI n rows).kD (s k).st (λu=>nv (ao (s k).aw u)) (s (k+1)).st j.1 j.2:=λk=>by
   by_cases f:k < p
   .obtain⟨i,v,hv⟩:=q k f;exact⟨(i,v),λ_=>hv⟩
   .exact⟨(0,0),λl=>absurd l f⟩
  have:=Es (S:=aI n rows) (s:=λk=>(s k).st) (T:=p+1) (λk=>(d k).tok.ok) (λa b e hb c=>
   KJ (S:=aI n rows) (G:=gR gl) (s:=λk=>(s k).st) (g:=λk u=>nv (ao (s k).aw u)) (ii:=λk=>(st k).choose.1) (ee:=λk=>(st k).choose.2) e (λk=>(d k).tok.ok) (λk=>(d k).fe) (λk=>(d k).g)
    (λk _ m=>(st k).choose_spec (by omega)) c)
  have m:p+1<=(n+rows.length) ^ n:=this;omega
end
open Go Go.Aev Go.Aev.Gen Go.Aev.Wd Go.Aev.Tb
section
variable {n:Nat} {rows:List R} {gl:List Int}
theorem HB(go:dY n rows gl):∀(p:Nat) (t:TL) (l:List Nm),dM n rows gl t->(cI n rows p t).1=some l->
  dM n rows gl (cI n rows p t).2.2.2/\aT n rows (cI n rows p t).2.2.2.val 1 (cI n rows p t).2.2.2.aw 0=none/\l= (cI n rows p t).2.2.2.aw.drop n:=by
 intro p;induction p with
 | zero=>
  intro t l h a;cases b:aT n rows t.val 1 t.aw 0 with
  | none=>rw [jX 0 b] at a⊢;exact⟨h,b,(TE a).symm⟩
  | some v=>rw [oO b] at a;cases a
 | succ p d=>
  intro t l h a;cases b:aT n rows t.val 1 t.aw 0 with
  | none=>rw [jX _ b] at a⊢;exact⟨h,b,(TE a).symm⟩
  | some v=>
   cases c:(bf n rows t v (nv (ao t.aw v)).num.sign).2.2
   .rw [nE p b c] at a;cases a
   .rw [nF p b c] at a⊢;exact d _ l (h.step go b c).1 a
theorem OL(go:dY n rows gl):∀(p:Nat) (t:TL) (l:List Nm),dM n rows gl t->(cI n rows p t).2.1=some l->b8 l=true->
  dM n rows gl (cI n rows p t).2.2.2/\lW rows gl (l.map cL)=true:=by
 intro p;induction p with
 | zero=>
  intro t l h a e;cases b:aT n rows t.val 1 t.aw 0 with
  | none=>rw [jX 0 b] at a;cases a
  | some v=>rw [oO b] at a;cases a
 | succ p g=>
  intro t l h a e;cases b:aT n rows t.val 1 t.aw 0 with
  | none=>rw [jX _ b] at a;cases a
  | some v=>
   cases c:(bf n rows t v (nv (ao t.aw v)).num.sign).2.2
   .rw [nE p b c] at a⊢;obtain rfl:=TE a;obtain⟨_,f,e3,d,_⟩:=iB b;rw [TZ] at e3 d;rw [Ur] at d;rw [TC,h.len] at f;exact⟨h,QU go h b c (h.self go f e3 d) e⟩
   .rw [nF p b c] at a⊢;exact g _ l (h.step go b c).1 a e
theorem NM(k2:∀r∈rows,r.kd≠2):∀(p:Nat) (t:TL) (l:List Nm),bq n rows t->(bU n rows true p t).1=some l->
  ∃T,(aI n rows).Ref T/\∀j,j < rows.length->nv (ao l j)=T j:=by
 intro p;induction p with
 | zero=>
  intro t l h a;rcases kG h with⟨_,hb⟩ | ⟨i,hi,b,d,hb,f⟩
  .rw [kM true _ hb] at a;cases a
  .rw [oE true hb] at a;cases a
 | succ p g=>
  intro t l h a;rcases kG h with⟨_,hb⟩ | ⟨i,hi,b,d,hb,f⟩
  .rw [kM true _ hb] at a;cases a
  .rw [nr true p hb f] at a;cases c:aT n rows t.val (bp n rows t (t.st.af i)) (au t.aj i) 0 with
   | none=>rw [c] at a;obtain rfl:=TE a;obtain⟨R,e⟩:=P5 h k2 hi b c;exact⟨_,R,e⟩
   | some v=>rw [c] at a;obtain⟨m,o,_⟩:=iB c;obtain⟨k,_⟩:=h.step true hi (v:=v) (by have:=h.aW.row hi;omega) b c d;exact g _ l k a
theorem Nz{x:Nm}(h:cw (nv x)=true):bH (cL x):=by unfold cL;rw [if_pos h];exact(xK _).2 h
theorem Lu(go:dY n rows gl)(p:Nat):iU n rows gl p=Bo\/iU n rows gl p=oN\/
  (∃(v:Fr) (pl d:List Nm),iU n rows gl p= [ti 1,ti v.1,ti v.2,lF pl,lF d,ti 0,ti 0]/\bH v/\pl.length=n/\d.length=rows.length/\b8 pl=true/\b8 d=true/\jf n rows gl v (pl.map cL) (d.map cL)=true)\/
  (∃(d:List Nm) (s:Nat->Rat),iU n rows gl p= [ti 2,ti 0,ti 0,T.aO true,lF d,ti 0,ti 0]/\d.length=rows.length/\b8 d=true/\(aI n rows).Ref s/\∀j,j < rows.length->nv (ao d j)=s j)\/
  ∃(pl:List Nm) (t:TL),iU n rows gl p= [ti 3,ti 0,ti 0,lF pl,T.aO true,ti 0,ti 0]/\pl.length=n/\b8 pl=true/\lW rows gl (pl.map cL)=true/\dM n rows gl t:=by
 have ro:=go.ro;have c:=um ro;have o:=Bj ro p (cM n rows) c;have g:=tS ro p c;have k:=xQ ro p (cM n rows) c;have q:=λl=>NM go.k2 p (cM n rows) l c;unfold iU;generalize bU n rows true p (cM n rows)=r1 at o g k q⊢;obtain⟨no,done,B⟩:=r1;simp only at o g k q;cases done with
 | false=>exact .inl rfl
 | true=>
  cases no with
  | some l=>
   simp only;by_cases a:b8 l=true
   .rw [if_pos a];obtain⟨s,R,e⟩:=q l rfl;exact .inr (.inr (.inr (.inl ⟨l,s,rfl,(o l rfl).1,a,R,e⟩)))
   .rw [if_neg a];exact .inr (.inl rfl)
  | none=>
   have x:=xU g (A8 g go.k2 (k rfl rfl)) go.gl;have f:=HA go p _ x;have i:=BQ (n:=n) (rows:=rows) p (pS n rows gl B);have m:=λl=>HB go p _ l x;have r:=λl=>OL go p _ l x;simp only;generalize cI n rows p (pS n rows gl B)=D at f i m r⊢;obtain⟨h,A,u,b⟩:=D;simp only at f i m r;cases u with
   | false=>exact .inl (by cases h <;> cases A <;> rfl)
   | true=>
    cases A with
    | some l=>
     have hm:oL n rows gl (h,some l,true,b)=if b8 l=true then [ti 3,ti 0,ti 0,lF l,T.aO true,ti 0,ti 0] else oN:=by cases h <;> rfl
     rw [hm];by_cases a:b8 l=true
     .rw [if_pos a];obtain⟨w,k2⟩:=r l rfl a;exact .inr (.inr (.inr (.inr ⟨l,b,rfl,(f.2 l rfl).1,a,k2,w⟩)))
     .rw [if_neg a];exact .inr (.inl rfl)
    | none=>
     cases h with
     | none=>exact(i rfl rfl rfl).elim
     | some l=>
      obtain⟨w,k2,C⟩:=m l rfl
      have hm:oL n rows gl (some l,none,true,b)=if(cw (eI gl (bo n rows b.val)) && b8 (bo n rows b.val) && b8 l)=true then
        [ti 1,ti (eI gl (bo n rows b.val)).num,ti ((eI gl (bo n rows b.val)).den:Int),lF (bo n rows b.val),lF l,ti 0,ti 0] else oN:=rfl
      rw [hm];by_cases a:(cw (eI gl (bo n rows b.val)) && b8 (bo n rows b.val) && b8 l)=true
      .rw [if_pos a];simp only [S0] at a;obtain⟨⟨h1,y⟩,z⟩:=a;refine .inr (.inr (.inl ⟨_,bo n rows b.val,l,rfl,(xK _).2 h1, ?_,(f.1 l rfl).1,y,z, ?_⟩))
       .have:=w.tok.aW.v;unfold bo;simp;omega
       .subst C;exact QS go w k2 y z h1
      .rw [if_neg a];exact .inr (.inl rfl)
end
open Go Go.Aev Go.Aev.Gen Go.Aev.Wd Go.Aev.Tb
theorem R9{n:Nat}{rows:List R}(f:Fl)(t:TL){mv o:Nat}(D:n<=12)(C:t.val.length=n+rows.length)(z:∀u,u < n+rows.length->VB mv (aG t.val u)){e:Nm}(h:QN o e)(hm:mv+ (mv+o)+1<=6300):
  ∀(d k:Nat),d+k=n->
  Or wB [AV.ref (Id.c 6) 0,AV.own (Id.c 7),AV.part (Id.c 4) 8 0 n,I (n:Int),I (k:Int)] (S1 n rows f t++ [gN e,aa.sl false 4 (decide (k=0)) (aQ ((t.val.take k).map (cJ e)))])=
   some (T.ae 4 (decide (n=0)) (aQ ((t.val.take n).map (cJ e)))::fi n rows f t):=by
 intro d;induction d with
 | zero=>
  intro k r;obtain rfl:k=n:=by omega
  have h1:¬(k:Int) < (k:Int):=by omega
  refine an ?_;simp only [S7,S8];rw [FV,dJ];simp only [ak,↓reduceIte,Int.reduceBEq,Int.reduceEq,GD,h1,cu,cA]
 | succ d A=>
  intro k r;have h1:(k:Int) < (n:Int):=by omega
  have p: 0<=(k:Int):=by omega
  have a:=mR (val:=t.val) (i:=k) (by omega);have s:=mz a;have l: 0+ (k:Int).toNat= (k:Int).toNat:=by omega
  have g:=z k (by omega);have m:=kT (x:=(aG t.val k).2) (y:=e) g.2 h (by omega);have b:=mG (x:=(aG t.val k).1) (y:=tm (aG t.val k).2 e) g.1 (g.2.mul h) (by omega);have v:((t.val.take k).map (cJ e)).length=k:=by simp;omega
  have B:small 48 (((t.val.take k).map (cJ e)).length+ [[tb (decide ((nv (cJ e (aG t.val k))).num < 0)),T.str (bC (dz (nv (cJ e (aG t.val k))).num)),tb (nc (cJ e (aG t.val k))),T.str (nd (cJ e (aG t.val k)))]].length)=some ():=jE (by simp;omega);have q:aQ ((t.val.take k).map (cJ e))++ [[tb (decide ((nv (cJ e (aG t.val k))).num < 0)),T.str (bC (dz (nv (cJ e (aG t.val k))).num)),tb (nc (cJ e (aG t.val k))),T.str (nd (cJ e (aG t.val k)))]]=aQ ((t.val.take (k+1)).map (cJ e)):=by rw [U7,a,US,<-AL];rfl
  have w:pl (aG t.val k).1 (tm (aG t.val k).2 e)=cJ e (aG t.val k):=rfl;rw [w] at b;have:=A (k+1) (by omega);have j:decide (k+1=0)=false:=by simp
  rw [j] at this;simp only [S7,S8] at this;refine an ?_;simp only [S7,S8];rw [FV];simp only [ak,↓reduceIte,Int.reduceBEq,Int.reduceEq,GD,h1,p,and_self,l,s,m,b,bA,B,q,next k (by omega)];exact this
theorem Sa{n:Nat}{rows:List R}(f:Fl)(t:TL){mv:Nat}(sz:Sz n rows)(b:t.val.length=n+rows.length)(c:∀u,u < n+rows.length->VB mv (aG t.val u))(hm:mv<=1000):
  Or (.call 20) [r0] (S1 n rows f t)=some (T.ae 4 (decide (n=0)) (aQ (bo n rows t.val))::fi n rows f t):=by
 have h:=sz.n;obtain⟨e,g⟩:=C4 sz f.er f.eb f.ev f.eg t.af t.val t.aw b c hm;have:=R9 (rows:=rows) f t h b c g (by omega) n 0 (by omega);simp only [S7,S8,Vs,VA] at this;have a:cT 0 (n:Int) (t.val.length:Int)=some ():=rM (by omega);have d:(n:Int).toNat - 0=n:=by omega
 refine an ?_;rw [MK];simp only [ak,↓reduceIte,Int.reduceBEq,Int.reduceEq,GD,e,cD,a,d];exact this
def Hk:List T:= [ti 0,T.aO true,T.aO true,ti 10,ti 0]
def qn(n:Nat)(rows:List R)(p:Nat):List T:=
 match bU n rows true p (cM n rows) with
 | (_,false,_)=> [ti 3,T.aO true,T.aO true,ti 0,ti 0]
 | (some l,true,_)=>if b8 l=true then [ti 2,T.aO true,lF l,ti 0,ti 0] else Hk
 | (none,true,t)=>if b8 (bo n rows t.val)=true then [ti 1,lF (bo n rows t.val),T.aO true,ti 0,ti 0] else Hk
set_option maxRecDepth 20000 in
theorem JX(rows:List R)(er:Bool)(n:Nat)(p:Nat)(H:p<=2000)(hr:∀r∈rows,r.e=true->r.of= [])(s:(fG n rows).1=0):
  Or (.call 8) [LR er rows,I (n:Int),I (p:Int)] []=some (qn n rows p):=by
 have j:=IV rows er n hr;obtain⟨E,F,B,C⟩:=Am hr s;have ro:=CB (n:=n) (by omega) B C;have G:=ro.sz.n;have hm:=ro.sz.m;have g:¬(p:Int) < 0:=by omega
 have i:¬(p:Int) > 2000:=by omega
 have d:=JZ er ro;have k:=um ro;have a:=J0 (n:=n) (rows:=rows) (mE er rows) ro rfl p (cM n rows) (by omega) k;have q:=λl=>Bj ro p (cM n rows) k l;have c:=tS ro p k;unfold qn;generalize bU n rows true p (cM n rows)=r1 at a q c⊢;obtain⟨no,done,u⟩:=r1;simp only at a q c;rw [B5] at d;rw [dJ] at a;refine an ?_;rw [Mx];cases done with
 | false=>simp only [ak,↓reduceIte,Int.reduceBEq,Int.reduceEq,GD,dB,j,s,g,i,decide_false,d,dA,cZ,S9,cB,a];cases no <;> (simp only [eD,ak,↓reduceIte,Int.reduceBEq,Int.reduceEq,GD,dB,dA,cZ,S9])
 | true=>
  cases no with
  | some l=>
   have o:=qy false l (by have:=(q l rfl).1;omega) (q l rfl).2 (by omega);simp only;cases w:b8 l
   .have b:(l.all λx=>cw (nv x))=false:=w;rw [b] at o;simp only [ak,↓reduceIte,Int.reduceBEq,Int.reduceEq,GD,dB,eD,j,s,g,i,decide_false,d,dA,cZ,S9,cB,a,o,Tj,Th];rfl
   .have b:(l.all λx=>cw (nv x))=true:=w;rw [b] at o;simp only [ak,↓reduceIte,Int.reduceBEq,Int.reduceEq,GD,dB,eD,j,s,g,i,decide_false,d,dA,cZ,S9,cB,a,o,Tj,Th];rfl
  | none=>
   have A:=PE ro.sz c.aW.v (c.val ro) (by omega);have D:(bo n rows u.val).length=n:=by have:=c.aW.v;unfold bo;simp;omega
   have y:Or (.call 17) [AV.t (T.ae 4 true [])] []=some [T.ae 2 true [],tb true]:=qy true [] (by decide) (m:=0) (λ_ h=>by cases h) (by decide);have z:=Sa (rows:=rows) (mE er rows) u ro.sz c.aW.v (c.val ro) (by omega);rw [dJ] at z;have f:=qy (decide (n=0)) (bo n rows u.val) (by omega) A (by omega);simp only;cases w:b8 (bo n rows u.val)
   .have b:((bo n rows u.val).all λx=>cw (nv x))=false:=w;rw [b] at f;simp only [ak,↓reduceIte,Int.reduceBEq,Int.reduceEq,GD,dB,eD,j,s,g,i,decide_false,d,dA,cZ,S9,cB,a,y,z,f,Tj,Th];rfl
   .have b:((bo n rows u.val).all λx=>cw (nv x))=true:=w;rw [b] at f;simp only [ak,↓reduceIte,Int.reduceBEq,Int.reduceEq,GD,dB,eD,j,s,g,i,decide_false,d,dA,cZ,S9,cB,a,y,z,f,Tj,Th];rfl
end Go.Aev.Wd.Lg
