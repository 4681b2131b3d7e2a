import Derived.Test.YticjdhgokemdlaaGreatMostTrueQ21
import Derived.Test.YticjdhgokemdlaaGreatMostTrueQ15
import Derived.Test.YticjdhgokemdlaaGreatMostTrueQ18
set_option linter.all false
namespace Go.Aev.Wd.Lg
open Go Go.Aev Go.Aev.Gen Go.Aev.Wd Go.Aev.Tb
theorem Uo{n:Nat}{rows:List R}(f:Fl)(t:TL){mv o:Nat}(D:n<=12)(C:t.val.length=n+rows.length)(z:∀u,u < n+rows.length->VB mv (aI t.val u)){e:Nm}(h:QN o e)(hm:mv+ (mv+o)+1<=6300):
  ∀(d k:Nat),d+k=n->
  Or yd [AV.ref (Id.c 6) 0,AV.own (Id.c 7),AV.part (Id.c 4) 8 0 n,I (n:Int),I (k:Int)] (S1 n rows f t++ [iv e,ab.sl false 4 (decide (k=0)) (aS ((t.val.take k).map (dh e)))])=
   some (T.aa 4 (decide (n=0)) (aS ((t.val.take n).map (dh e)))::fO n rows f t):=by
 intro d;induction d with
 | zero=>
  intro k r;obtain rfl:k=n:=by omega
  have h1:¬(k:Int) < (k:Int):=by omega
  refine aj ?_;simp only [Vc,Ve];rw [HF,eE];simp only [ai,↓reduceIte,GD,h1,cK]
 | succ d A=>
  intro k r;have h1:(k:Int) < (n:Int):=by omega
  have p: 0<=(k:Int):=by omega
  have a:=nf (val:=t.val) (i:=k) (by omega);have s:=mO a;have l: 0+ (k:Int).toNat= (k:Int).toNat:=by omega
  have g:=z k (by omega);have m:=lB (x:=(aI t.val k).2) (y:=e) g.2 h (by omega);have b:=mW (x:=(aI t.val k).1) (y:=tm (aI t.val k).2 e) g.1 (g.2.mul h) (by omega);have v:((t.val.take k).map (dh e)).length=k:=by simp;omega
  have B:bM 48 (((t.val.take k).map (dh e)).length+ [[tb (decide ((nv (dh e (aI t.val k))).num < 0)),T.str (bJ (dz (nv (dh e (aI t.val k))).num)),tb (nc (dh e (aI t.val k))),T.str (nd (dh e (aI t.val k)))]].length)=some ():=jb (by simp;omega);have q:aS ((t.val.take k).map (dh e))++ [[tb (decide ((nv (dh e (aI t.val k))).num < 0)),T.str (bJ (dz (nv (dh e (aI t.val k))).num)),tb (nc (dh e (aI t.val k))),T.str (nd (dh e (aI t.val k)))]]=aS ((t.val.take (k+1)).map (dh e)):=by rw [XE,a,W0,<-Cy];rfl
  have w:pl (aI t.val k).1 (tm (aI t.val k).2 e)=dh e (aI t.val k):=rfl;rw [w] at b;have:=A (k+1) (by omega);have j:decide (k+1=0)=false:=by simp
  rw [j] at this;simp only [Vc,Ve] at this;refine aj ?_;simp only [Vc,Ve];rw [HF];simp only [ai,↓reduceIte,GD,h1,p,and_self,l,s,m,b,bH,B,q,next k (by omega)];exact this
theorem Up{n:Nat}{rows:List R}(f:Fl)(t:TL){mv:Nat}(sz:Sz n rows)(b:t.val.length=n+rows.length)(c:∀u,u < n+rows.length->VB mv (aI t.val u))(hm:mv<=1000):
  Or (.call 42) [r0] (S1 n rows f t)=some (T.aa 4 (decide (n=0)) (aS (cf n rows t.val))::fO n rows f t):=by
 have h:=sz.n;obtain⟨e,g⟩:=EP sz f.er f.eb f.ev f.eg t.ah t.val t.aB b c hm;have:=Uo (rows:=rows) f t h b c g (by omega) n 0 (by omega);simp only [Vc,Ve,XI,XA] at this;have a:bO 0 (n:Int) (t.val.length:Int)=some ():=sI (by omega);have d:(n:Int).toNat - 0=n:=by omega
 refine aj ?_;rw [O7];simp only [ai,GD,e,cO,a,d];exact this
def I1:List T:= [ti 0,T.aJ true,T.aJ true,ti 10,ti 0]
def AE(n:Nat)(rows:List R)(p:Nat):List T:=
 match cI n rows true p (dN n rows) with
 | (_,false,_)=> [ti 3,T.aJ true,T.aJ true,ti 0,ti 0]
 | (some l,true,_)=>if dH l=true then [ti 2,T.aJ true,lF l,ti 0,ti 0] else I1
 | (none,true,t)=>if dH (cf n rows t.val)=true then [ti 1,lF (cf n rows t.val),T.aJ true,ti 0,ti 0] else I1
set_option maxRecDepth 20000 in
theorem T1(rows:List R)(er:Bool)(n:Nat)(p:Nat)(J:p<=2000)(B:∀r∈rows,r.e=true->r.of= [])(s:(fT n rows).1=0):
  Or (.call 23) [LR er rows,I (n:Int),I (p:Int)] []=some (AE n rows p):=by
 have j:=Kv rows er n B;obtain⟨F,G,C,D⟩:=B1 B s;have ro:=Kk (n:=n) (by omega) C D;have H:=ro.sz.n;have hm:=ro.sz.m;have g:¬(p:Int) < 0:=by omega
 have i:¬(p:Int) > 2000:=by omega
 have d:=Lz er ro;have k:=z9 ro;have a:=LA (n:=n) (rows:=rows) (mU er rows) ro rfl p (dN n rows) (by omega) k;have q:=λl=>CY ro p (dN n rows) k l;have c:=CZ ro p k;unfold AE;generalize cI n rows true p (dN n rows)=r1 at a q c⊢;obtain⟨no,done,u⟩:=r1;simp only at a q c;rw [DL] at d;rw [eE] at a;refine aj ?_;rw [OO];cases done with
 | false=>simp only [ai,↓reduceIte,GD,dZ,j,s,g,i,decide_false,d,dY,dB,Vf,cM,a];cases no <;> (simp only [e9,ai])
 | true=>
  cases no with
  | some l=>
   have o:=qV false l (by have:=(q l rfl).1;omega) (q l rfl).2 (by omega);simp only;cases w:dH l
   .have b:(l.all λx=>de (nv x))=false:=w;rw [b] at o;simp only [ai,↓reduceIte,GD,dZ,e9,j,s,g,i,decide_false,d,dY,dB,Vf,cM,a,o];rfl
   .have b:(l.all λx=>de (nv x))=true:=w;rw [b] at o;simp only [ai,↓reduceIte,GD,dZ,e9,j,s,g,i,decide_false,d,dY,dB,Vf,cM,a,o];rfl
  | none=>
   have A:=RQ ro.sz c.aZ.v (c.val ro) (by omega);have E:(cf n rows u.val).length=n:=by have:=c.aZ.v;unfold cf;simp;omega
   have y:Or (.call 40) [AV.t (T.aa 4 true [])] []=some [T.aa 2 true [],tb true]:=qV true [] (by decide) (m:=0) (λ_ h=>by cases h) (by decide);have z:=Up (rows:=rows) (mU er rows) u ro.sz c.aZ.v (c.val ro) (by omega);rw [eE] at z;have f:=qV (decide (n=0)) (cf n rows u.val) (by omega) A (by omega);simp only;cases w:dH (cf n rows u.val)
   .have b:((cf n rows u.val).all λx=>de (nv x))=false:=w;rw [b] at f;simp only [ai,↓reduceIte,GD,dZ,e9,j,s,g,i,decide_false,d,dY,dB,Vf,cM,a,y,z,f];rfl
   .have b:((cf n rows u.val).all λx=>de (nv x))=true:=w;rw [b] at f;simp only [ai,↓reduceIte,GD,dZ,e9,j,s,g,i,decide_false,d,dY,dB,Vf,cM,a,y,z,f];rfl
end Go.Aev.Wd.Lg
namespace Go.Aev.Tb
open Go Go.Aev
theorem AG(f:Nat->Rat)(n:Nat):∀(m:Nat),sm (n+m) f=sm n f+sm m (λi=>f (n+i))
 | 0=>by show sm n f=sm n f+0;grind
 | m+1=>by show sm (n+m) f+f (n+m)=sm n f+ (sm m (λi=>f (n+i))+f (n+m));rw [AG f n m];grind
structure Sy.EW (S:Sy) (G:Nat->Rat) (t:cD) (g:Nat->Rat):Prop where
 free:∀u,u < S.n->g u=0
 sg:∀i,i < S.m->S.kd i≠3->0<=g (S.n+i)
 aD:∀k,k < S.n->sm S.m (λi=>g (S.n+i) * S.A i k)=G k
 val:sm S.n (λk=>G k * t.y k)=sm S.m (λi=>g (S.n+i) * S.to i)
theorem Mp{S:Sy}{G:Nat->Rat}{t:cD}{g:Nat->Rat}(hy:gr S.n S.m S.A t.y)(q:S.xf G t g)(r:S.rf t)(f:∀u,u < S.n+S.m->g u≠0->¬S.tH t (g u) u):S.EW G t g:=by
 have free:∀u,u < S.n->g u=0:=λu w=>by refine Xi λc=>f u (by omega) c ⟨λ_=> .inl w,λ_=> .inl w⟩
 have neg:∀i,i < S.m->g (S.n+i) < 0->S.kd i=3/\t.y (S.n+i)=S.to i:=λi hi h=>by have p:=f (S.n+i) (by omega) (by grind);have a:¬S.tK t (S.n+i):=λa=>p ⟨λd=>by grind,λ_=>a⟩;unfold Sy.tK at a;rw [VO] at a;have x:S.kd i=3:=Xi λd=>a (.inr (.inl d));have:=(r (S.n+i) (by omega) (by omega)).2;rw [VO] at this;exact⟨x,this x⟩
 have pos:∀i,i < S.m->0 < g (S.n+i)->t.y (S.n+i)=S.to i:=λi hi h=>by have p:=f (S.n+i) (by omega) (by grind);have a:¬S.uo t (S.n+i):=λa=>p ⟨λ_=>a,λd=>by grind⟩;unfold Sy.uo at a;rw [VO] at a;have:=(r (S.n+i) (by omega) (by omega)).1;rw [VO] at this;have C:¬t.y (S.n+i) < S.to i:=λd=>a (.inr d);grind
 have sum:∀y:Nat->Rat,sm (S.n+S.m) (λk=>g k * y k)=sm S.m (λi=>g (S.n+i) * y (S.n+i)):=λy=>by
  rw [AG (λk=>g k * y k) S.n S.m];have:sm S.n (λk=>g k * y k)=0:=my λk b=>by rw [free k b,WQ]
  rw [this];grind
 refine⟨free,λi hi b=> ?_,λk b=> ?_, ?_⟩
 .refine Xi λh=>b (neg i hi (by grind)).1
 .let y:Nat->Rat:=λv=>if v < S.n then(if v=k then 1 else 0) else S.A (v - S.n) k;have l:∀i,y (S.n+i)=S.A i k:=λi=>by
   show(if S.n+i < S.n then _ else _)=_;rw [if_neg (by omega),VO]
  have s:gr S.n S.m S.A y:=λi _=>by
   rw [l,kM b]
   .show S.A i k=S.A i k * (if k < S.n then(if k=k then 1 else 0) else _);rw [if_pos b,if_pos rfl,ZK]
   .intro j o c;show S.A i j * (if j < S.n then(if j=k then 1 else 0) else _)=0;rw [if_pos o,if_neg c,WT]
  have e:=q.same y s;rw [sum y] at e;have e2:sm S.n (λj=>G j * y j)=G k:=by
   rw [kM b]
   .show G k * (if k < S.n then(if k=k then 1 else 0) else _)=G k;rw [if_pos b,if_pos rfl,ZK]
   .intro j o c;show G j * (if j < S.n then(if j=k then 1 else 0) else _)=0;rw [if_pos o,if_neg c,WT]
  rw [<-e2,<-e];exact ef λi _=>by rw [l]
 .rw [<-q.same t.y hy,sum];refine ef λi hi=> ?_;by_cases z:g (S.n+i)=0
  .rw [z,WQ,WQ]
  .by_cases B: 0 < g (S.n+i)
   .rw [pos i hi B]
   .rw [(neg i hi (by grind)).2]
open Go Go.Aev
def Sy.mul(S:Sy)(t:cD)(i:Nat):Nat->Rat:=λj=>if S.n+j=t.ah i then -(S.ak t (t.ah i)) else S.ak t (t.ah i) * t.c i (S.n+j)
structure Sy.Ref (S:Sy) (T:Nat->Rat):Prop where
 sg:∀j,j < S.m->S.kd j≠3->0<=T j
 aD:∀k,k < S.n->sm S.m (λj=>T j * S.A j k)=0
 val:sm S.m (λj=>T j * S.to j) < 0
theorem UQ(S:Sy)(t:cD)(b:Nat):S.ak t b=1\/S.ak t b= -1:=by
 unfold Sy.ak;split
 .exact .inr rfl
 .exact .inl rfl
theorem Se{S:Sy}{t:cD}(ok:S.OK t)(k2:∀j,j < S.m->S.kd j≠2)(hz:∀v,v < S.n+S.m->t.z v=0){i:Nat}(hi:i < S.m)(hb:S.gD t (t.ah i))
  (no:∀u,u < S.n+S.m->t.c i u≠0->¬S.Can t (S.ak t (t.ah i) * t.c i u) u):S.Ref (S.mul t i):=by
 have K:S.n<=t.ah i:=hb.1;have D:=ok.wf.hb i hi;have L:=UQ S t (t.ah i);have up:∀j,j < S.m->S.up (S.n+j)= (S.to j,0):=λj d=>by unfold Sy.up;rw [VO,if_neg (k2 j d)]
 have G:t.c i (t.ah i)=0:=ok.wf.z i i hi hi;have free:∀u,u < S.n->t.c i u=0:=λu r=>Xi λg=>no u (by omega) g ⟨λ_=> .inl r,λ_=> .inl r⟩;have C:∀j,j < S.m->t.c i (S.n+j)≠0->t.y (S.n+j)=S.to j:=λj d g=>by have nb:∀q,q < S.m->t.ah q≠S.n+j:=λq a e=>g (by rw [<-e];exact ok.wf.z i q hi a);have f:=ok.fix (S.n+j) (by omega) nb;unfold Sy.fx at f;rw [if_neg (by omega),up j d] at f;exact congrArg Prod.fst f
 have B:∀y:Nat->Rat,gr S.n S.m S.A y->sm S.m (λj=>S.mul t i j * y (S.n+j))=0:=λy hy=>by
  have h1:=(ok.wf.same y).2 hy i hi;rw [AG (λk=>t.c i k * y k) S.n S.m] at h1;have o:sm S.n (λk=>t.c i k * y k)=0:=my λk s=>by rw [free k s,WQ]
  rw [o] at h1;obtain⟨q,a⟩:∃q,t.ah i=S.n+q:=⟨t.ah i - S.n,by omega⟩;have l:q < S.m:=by omega
  have e:sm S.m (λj=>S.mul t i j * y (S.n+j))=sm S.m (λj=>S.ak t (t.ah i) * (t.c i (S.n+j) * y (S.n+j))+ -(S.ak t (t.ah i)) * (if j=q then y (t.ah i) else 0)):=by
   refine ef λj d=> ?_;unfold Sy.mul;by_cases b:j=q
   .subst b;rw [if_pos a.symm,if_pos rfl,<-a,G];grind
   .rw [if_neg (by omega),if_neg b];grind
  rw [e,mw,oe l,h1];grind
 have val:sm S.m (λj=>S.mul t i j * S.to j)=S.ak t (t.ah i) * (t.y (t.ah i) - S.to (t.ah i - S.n)):=by
  have h:=B t.y ok.hy;obtain⟨q,a⟩:∃q,t.ah i=S.n+q:=⟨t.ah i - S.n,by omega⟩;have l:q < S.m:=by omega
  have e:sm S.m (λj=>S.mul t i j * S.to j)=sm S.m (λj=>1 * (S.mul t i j * t.y (S.n+j))+S.ak t (t.ah i) * (if j=q then t.y (t.ah i) - S.to (t.ah i - S.n) else 0)):=by
   refine ef λj d=> ?_;by_cases b:j=q
   .subst b;unfold Sy.mul;rw [if_pos a.symm,if_pos rfl,a,VO];grind
   .rw [if_neg b];by_cases o:t.c i (S.n+j)=0
    .unfold Sy.mul;rw [if_neg (by omega),o];grind
    .rw [C j d o];grind
  rw [e,mw,oe l,h];grind
 refine⟨λj d F=> ?_,λk s=> ?_, ?_⟩
 .unfold Sy.mul;by_cases b:S.n+j=t.ah i
  .rw [if_pos b];rcases hb.2 with h | ⟨h,_⟩
   .unfold Sy.ak;rw [if_pos h];grind
   .rw [<-b,VO] at h;exact absurd h F
  .rw [if_neg b];by_cases o:t.c i (S.n+j)=0
   .rw [o,WT];exact XM
   .refine Xi λJ=>no (S.n+j) (by omega) o ⟨λh=>absurd h (by grind),λ_=> .inr (.inl ?_)⟩;rw [VO];exact F
 .let y:Nat->Rat:=λv=>if v < S.n then(if v=k then 1 else 0) else S.A (v - S.n) k;have w:∀i,y (S.n+i)=S.A i k:=λi=>by
   show(if S.n+i < S.n then _ else _)=_;rw [if_neg (by omega),VO]
  have E:gr S.n S.m S.A y:=λi _=>by
   rw [w,kM s]
   .show S.A i k=S.A i k * (if k < S.n then(if k=k then 1 else 0) else _);rw [if_pos s,if_pos rfl,ZK]
   .intro j d g;show S.A i j * (if j < S.n then(if j=k then 1 else 0) else _)=0;rw [if_pos d,if_neg g,WT]
  rw [<-B y E];exact ef λi _=>by rw [w]
 .rw [val];obtain⟨q,a⟩:∃q,t.ah i=S.n+q:=⟨t.ah i - S.n,by omega⟩;have l:q < S.m:=by omega
  have r:=up q l;have x:=hz (t.ah i) D;rcases hb.2 with h | ⟨_,h⟩
  .have p:S.ak t (t.ah i)= -1:=by unfold Sy.ak;rw [if_pos h]
   rw [p];rw [a,r,<-a] at h;unfold eY cD.val at h;rw [x] at h;rw [a,VO,<-a];rcases h with h | ⟨_,h⟩
   .simp only at h;grind
   .exact absurd h (by simp)
  .have I:¬eY (S.up (t.ah i)) (t.val (t.ah i)):=λH=>by
    unfold eY at h H;grind
   have p:S.ak t (t.ah i)=1:=by unfold Sy.ak;rw [if_neg I]
   rw [p];rw [a,r,<-a] at h;unfold eY cD.val at h;rw [x] at h;rw [a,VO,<-a];rcases h with h | ⟨_,h⟩
   .simp only at h;grind
   .exact absurd h (by simp)
theorem K0{f g:Nat->Rat}:∀{n:Nat},(∀i,i < n->f i<=g i)->sm n f<=sm n g
 | 0,_=>XM
 | n+1,h=>by have h1:=K0 (n:=n) λi hi=>h i (by omega);have a:=h n (by omega);show sm n f+f n<=sm n g+g n;grind
theorem Sc{S:Sy}{T:Nat->Rat}(R:S.Ref T){t:cD}(hy:gr S.n S.m S.A t.y)(d:S.rf t):False:=by
 have e:sm S.m (λj=>T j * t.y (S.n+j))=0:=by
  have h1:sm S.m (λj=>T j * t.y (S.n+j))=sm S.m (λj=>sm S.n (λk=>T j * (S.A j k * t.y k))):=ef λj a=>by rw [hy j a,wC]
  rw [h1,Eu];refine my λk f=> ?_;have c:sm S.m (λj=>T j * (S.A j k * t.y k))=sm S.m (λj=>t.y k * (T j * S.A j k)):=ef λj _=>by grind
  rw [c,wC,R.aD k f,WT]
 have h:sm S.m (λj=>T j * t.y (S.n+j))<=sm S.m (λj=>T j * S.to j):=K0 λj a=>by
  have hb:=d (S.n+j) (by omega) (by omega);rw [VO] at hb;by_cases b:S.kd j=3
  .rw [hb.2 b];exact XM
  .exact Rat.mul_le_mul_of_nonneg_left hb.1 (R.sg j a b)
 have:=R.val;grind
end Go.Aev.Tb
namespace Go.Aev.Wd.Lg
open Go Go.Aev Go.Aev.Gen Go.Aev.Wd
open Go Go.Aev Go.Aev.Gen Go.Aev.Wd Go.Aev.Tb
theorem Mo{n:Nat}{rows:List R}{gl:List Int}{t:TL}(go:ir n rows gl)(h:fm n rows gl t)(e:aW n rows t.val 1 t.aB 0=none):(aM n rows).EW (gR gl) t.st (λv=>nv (aq t.aB v)):=by refine Mp h.tok.ok.hy h.g h.fe (λu f c d=> ?_);have a:=zf e u (Ye u) (by rw [Ws];exact c);rw [Ws] at a;have b:=(BX h.tok go.k2 (u:=u) f c).2 d;rw [a] at b;cases b
theorem Es(f:Nat->Rat)(n:Nat):sm (n+1) f=f 0+sm n (λi=>f (i+1)):=by
 rw [YX,AG f 1 n];have:(λi=>f (1+i))=λi=>f (i+1):=by funext i;rw [YX]
 rw [this];show(0+f 0)+ _=_;grind
theorem B2(k:Nat):∀(rows:List R) (ts:List Rat),ts.length=rows.length->hH rows ts k=sm rows.length (λi=>ts.getD i 0 * (((bc rows i).of.getD k 0:Int):Rat))
 | [],ts,_=>by cases ts <;> rfl
 | r::a,[],h=>by simp at h
 | r::a,t::ts,h=>by rw [Vw,Es];show((r.of.getD k 0:Int):Rat) * t+hH a ts k=t * ((r.of.getD k 0:Int):Rat)+sm a.length (λi=>ts.getD i 0 * (((bc a i).of.getD k 0:Int):Rat));rw [B2 k a ts (by simpa using h),Rat.mul_comm]
theorem EI:∀(rows:List R) (ts:List Rat),ts.length=rows.length->iR rows ts=sm rows.length (λi=>ts.getD i 0 * ((bc rows i).tv:Rat))
 | [],ts,_=>by cases ts <;> rfl
 | r::a,[],h=>by simp at h
 | r::a,t::ts,h=>by rw [Vw,Es];show(r.tv:Rat) * t+iR a ts=t * (r.tv:Rat)+sm a.length (λi=>ts.getD i 0 * ((bc a i).tv:Rat));rw [EI a ts (by simpa using h),Rat.mul_comm]
theorem uL:∀(of:List Int) (xs:List Rat),of.length<=xs.length->bo of xs=sm xs.length (λk=>((of.getD k 0:Int):Rat) * xs.getD k 0)
 | [],xs,_=>by rw [uK];refine(my λk _=> ?_).symm;show((0:Int):Rat) * _=0;have:((0:Int):Rat)=0:=rfl;rw [this,WQ]
 | c::of,[],h=>by simp at h
 | c::of,x::xs,h=>by rw [Vw,Es];show(c:Rat) * x+bo of xs= (c:Rat) * x+sm xs.length (λk=>((of.getD k 0:Int):Rat) * xs.getD k 0);rw [uL of xs (by simpa using h)]
theorem JA:∀(rows:List R) (ts:List Fr),ts.length=rows.length->(∀i,i < rows.length->(bc rows i).kd=1->¬(ts.getD i (0,1)).1 < 0)->gg rows ts=true
 | [],ts,_,_=>by cases ts <;> rfl
 | r::c,[],h,_=>by simp at h
 | r::c,t::ts,h,b=>by
  rw [gg,Vd];refine⟨?_,JA c ts (by simpa using h) λi hi a=>b (i+1) (by simp;omega) a⟩;by_cases a:r.kd=1
  .have:=b 0 (by simp) a;have d:¬t.1 < 0:=this;simp [a,d]
  .simp [a]
theorem PU{x:Nm}(h:de (nv x)=true):aP (b8 x)=nv x:=by unfold b8;rw [if_pos h];exact W1 _
theorem uZ{l:List Nm}(h:dH l=true):(l.map b8).map aP=l.map nv:=by rw [X4];exact Xf λx a=>PU (Vt.1 h x a)
section
variable {n:Nat} {rows:List R} {gl:List Int} {t:TL}
theorem RT(go:ir n rows gl)(h:cr n rows t):(cf n rows t.val).map nv= (List.range n).map t.st.y:=by
 have hv:=h.aZ.v;refine List.ext_getElem (by unfold cf;simp;omega) (λk h1 a=> ?_);have b:k < n:=by simpa using a
 have hz:=z0 h go.k2 (v:=k) (by omega);unfold cf;simp only [X4,X7,List.getElem_take,XO];have e:t.val[k]'(by omega)=aI t.val k:=by unfold aI;rw [U7,Vb (by omega)];rfl
 show nv (dh _ (t.val[k]'(by omega)))=_;rw [e];exact Fw _ _ hz
theorem LP(k:Nat)(a:k < n):((List.range n).map t.st.y).getD k 0=t.st.y k:=by rw [U7,VS,Yz a];rfl
theorem Td(go:ir n rows gl)(h:fm n rows gl t)(p:aW n rows t.val 1 t.aB 0=none)(s:dH (cf n rows t.val)=true)(v:dH (t.aB.drop n)=true)(z:de (gZ gl (cf n rows t.val))=true):
  mu n rows gl ((gZ gl (cf n rows t.val)).num,((gZ gl (cf n rows t.val)).den:Int)) ((cf n rows t.val).map b8) ((t.aB.drop n).map b8)=true:=by
 have B:=Mo go h p;have q:=h.len;have c:=RT go h.tok;have j:gZ gl (cf n rows t.val)=sm n (λk=>gR gl k * t.st.y k):=by unfold gZ;rw [c,uL gl _ (by simpa using go.gl)];rw [WB,YM];exact ef λk a=>by rw [LP k a];rfl
 have g:((t.aB.drop n).map nv).length=rows.length:=by simp;omega
 have f:∀i,((t.aB.drop n).map nv).getD i 0=nv (aq t.aB (n+i)):=λi=>by unfold aq;rw [U7,U7,VS,XP];cases t.aB[n+i]? <;> rfl
 have u:aP ((gZ gl (cf n rows t.val)).num,((gZ gl (cf n rows t.val)).den:Int))=gZ gl (cf n rows t.val):=W1 _;unfold mu;rw [u,uZ s,uZ v,c];simp only [Vd,decide_eq_true_eq,Vt,Xw];refine⟨⟨⟨⟨λr d=> ?_, ?_⟩, ?_⟩,λk a=> ?_⟩, ?_⟩
 .obtain⟨i,hi,e⟩:=WU d;have er:bc rows i=r:=by unfold bc;rw [U7,Vb hi];exact e
  have hy:=h.tok.ok.hy i hi;have o:bo r.of ((List.range n).map t.st.y)=t.st.y (n+i):=by rw [uL r.of _ (by simpa using go.ro.len r d),WB,YM];refine ZG ?_ hy.symm;exact ef λk a=>by rw [LP k a,<-er];rfl
  have b:=h.fe (n+i) (X5 n i) (Nat.add_lt_add_left hi n);have m:(aM n rows).to (n+i - (aM n rows).n)= (r.tv:Rat):=by show((bc rows (n+i - n)).tv:Rat)=_;rw [VO,er]
  have e2:(aM n rows).kd (n+i - (aM n rows).n)=r.kd:=by show(bc rows (n+i - n)).kd=_;rw [VO,er]
  rw [m,e2] at b;rw [o];unfold gz;rcases go.ro.kd r d with k | k | k
  .rw [if_pos k];exact decide_eq_true b.1
  .exact absurd k (go.k2 r d)
  .rw [if_neg (by omega),if_neg (by omega)];exact decide_eq_true (b.2 k)
 .rw [<-c];rfl
 .refine JA rows _ (by simp;omega) λi hi a=> ?_;have hb:=B.sg i hi (by show(bc rows i).kd≠3;omega);have w:((t.aB.drop n).map b8).getD i (0,1)=b8 (aq t.aB (n+i)):=by
   unfold aq;rw [U7,U7,VS,XP,Vb (by omega)];rfl
  rw [w];have l: 0<=nv (aq t.aB (n+i)):=hb;have x:=X0.2 l;unfold b8;split
  .show ¬(nv (aq t.aB (n+i))).num < 0;omega
  .show ¬(0:Int) < 0;omega
 .rw [B2 k rows _ g];refine ZG ?_ (B.aD k a);exact ef λi _=>by rw [f];rfl
 .rw [EI rows _ g,j];refine ZG ?_ B.val.symm;exact ef λi _=>by rw [f];rfl
end
open Go Go.Aev Go.Aev.Gen Go.Aev.Wd Go.Aev.Tb
section
variable {n:Nat} {rows:List R} {gl:List Int} {t:TL}
theorem Sv(h:cr n rows t){v:Nat}(ak:Int)(j:¬t.st.gB rows.length v):(jV n t v ak).map nv= (List.range n).map (t.st.dir rows.length v (ak:Rat)):=by
 have base:∀k,k < n->k≠v->nv (iP t v ak k)=t.st.dir rows.length v (ak:Rat) k:=λk a l=>by
  by_cases hb:t.st.gB rows.length k
  .obtain⟨i,hi,e⟩:=hb;have g:i < (aM n rows).m:=hi;have d:=h.ln i k (by rw [<-e];exact jg (by rw [h.aZ.b];exact hi));have p:=uJ h.ok (ak:Rat) g j;have f:t.st.dir rows.length v (ak:Rat) (t.st.ah i)=t.st.c i v * (ak:Rat):=p;unfold iP;rw [d,<-e,f];rfl
  .have d:cv k t.mp=none:=h.vA k λhm=>hb (by
    obtain⟨i,hi,e⟩:=WU hm;refine⟨i,by rw [<-h.aZ.b];exact hi, ?_⟩;show t.ah.getD i 0=k;rw [U7,Vb hi];exact e)
   unfold iP;rw [d,rX t.st (ak:Rat) l hb];rfl
 refine List.ext_getElem (by unfold jV;split <;> simp) (λk h1 o=> ?_);have a:k < n:=by simpa using o
 rw [X7,X7,XO];by_cases e:k=v
 .subst e;rw [rY];unfold jV;simp only [if_pos a,List.getElem_set_self];rfl
 .rw [<-base k a e];unfold jV;split
  .rw [List.getElem_set_ne (λe'=>e e'.symm),X7,XO]
  .rw [X7,XO]
theorem Te(go:ir n rows gl)(h:fm n rows gl t){v:Nat}(K:aW n rows t.val 1 t.aB 0=some v)(L:(br n rows t v (nv (aq t.aB v)).num.sign).2.2=false)
  (a:jh n rows v (iN (nv (aq t.aB v)).num.sign)=false) (M:dH (jV n t v (nv (aq t.aB v)).num.sign)=true):
  nW rows gl ((jV n t v (nv (aq t.aB v)).num.sign).map b8)=true:=by
 obtain⟨_,x,d,_,_⟩:=kW K;rw [Ws] at d;rw [VM,h.len] at x;have w:v < (aM n rows).n+ (aM n rows).m:=x;have l:¬t.st.gB rows.length v:=by rintro⟨i,hi,e⟩;have hz:nv (aq t.aB (t.st.ah i))=0:=h.g.z i hi;rw [e] at hz;exact d hz
 have A:∀j,j < rows.length->¬iD n rows t v (nv (aq t.aB v)).num.sign j:=by
  rcases IV h.tok go.k2 a with⟨_,b⟩ | ⟨i,_,_,b,_⟩
  .exact b
  .rw [L] at b;cases b
 have B: 0 < nv (aq t.aB v) * (((nv (aq t.aB v)).num.sign:Int):Rat):=by
  have y:((1:Int):Rat)=1:=rfl;have o:((-1:Int):Rat)= -1:=rfl;rcases wv d with e | e
  .have:=(sT (nv (aq t.aB v))).1 (by omega);rw [e,y];grind
  .have h1:¬0 < nv (aq t.aB v):=λb=>by have:=(sT (nv (aq t.aB v))).2 b;omega
   rw [e,o];grind
 have G:=wv d;generalize N:(nv (aq t.aB v)).num.sign=ak at *
 have u:=Nl h.tok.ok (ak:Rat) l w;have s:=P9 h.g (ak:Rat) w;rw [h.g.same _ u] at s;have I:(jV n t v ak).map nv= (List.range n).map (t.st.dir rows.length v (ak:Rat)):=Sv h.tok ak l;have get:∀k,k < n->((List.range n).map (t.st.dir rows.length v (ak:Rat))).getD k 0=t.st.dir rows.length v (ak:Rat) k:=λk f=>by rw [U7,VS,Yz f];rfl
 unfold nW;rw [uZ M,I];simp only [Vd,decide_eq_true_eq,Vt,VJ];refine⟨?_, ?_⟩
 .rintro _ ⟨r,q,rfl⟩;obtain⟨i,hi,e⟩:=WU q;have er:bc rows i=r:=by unfold bc;rw [U7,Vb hi];exact e
  have J:bo r.of ((List.range n).map (t.st.dir rows.length v (ak:Rat)))=t.st.dir rows.length v (ak:Rat) (n+i):=by rw [uL r.of _ (by simpa using go.ro.len r q),WB,YM];refine ZG ?_ (u i hi).symm;exact ef λk f=>by rw [get k f,<-er];rfl
  have key:t.st.dir rows.length v (ak:Rat) (n+i)<=0/\(r.kd=3->t.st.dir rows.length v (ak:Rat) (n+i)=0):=by
   by_cases ev:n+i=v
   .rw [ev,rY];unfold jh at a;have H:nv (iN ak)= (ak:Rat):=rfl;rw [H] at a;have y:((1:Int):Rat)=1:=rfl;have o:((-1:Int):Rat)= -1:=rfl;rcases G with e' | e'
    .rw [e',y,if_neg (by grind)] at a;have:¬v < n:=by omega
     simp [this] at a
    .rw [e',o,if_pos (by grind)] at a;rw [e',o];refine⟨by grind,λC=> ?_⟩;have:fy n rows v=true:=l8.2 ⟨by omega,by rw [<-ev,VO];show(bc rows i).kd=3;rw [er];exact C⟩;rw [this] at a;cases a
   .by_cases hb:t.st.gB rows.length (n+i)
    .obtain⟨j,F,D⟩:=hb;have E:t.st.dir rows.length v (ak:Rat) (t.st.ah j)=t.st.c j v * (ak:Rat):=uJ h.tok.ok (ak:Rat) (j:=j) F l;rw [<-D,E];have p:=A j F;unfold iD at p;have e3:(aM n rows).kd (t.st.ah j - n)=r.kd:=by
      rw [D];show(bc rows (n+i - n)).kd=_;rw [VO,er]
     rw [e3] at p;have h1:¬0 < t.st.c j v * (ak:Rat):=λb=>p ⟨by omega, .inl b⟩;refine⟨by grind,λC=> ?_⟩;have O:¬t.st.c j v * (ak:Rat) < 0:=λb=>p ⟨by omega, .inr ⟨b,C⟩⟩;grind
    .rw [rX t.st (ak:Rat) ev hb];exact⟨XM,λ_=>rfl⟩
  show gz (lM r) (bo r.of _)=true;rw [J];unfold gz lM;have z:((0:Int):Rat)=0:=rfl;simp only [z];rcases go.ro.kd r q with k | k | k
  .rw [if_pos k];exact decide_eq_true key.1
  .exact absurd k (go.k2 r q)
  .rw [if_neg (by omega),if_neg (by omega)];exact decide_eq_true (key.2 k)
 .rw [uL gl _ (by simpa using go.gl),WB,YM];have:sm n (λk=>((gl.getD k 0:Int):Rat) * ((List.range n).map (t.st.dir rows.length v (ak:Rat))).getD k 0)=nv (aq t.aB v) * (ak:Rat):=by
   refine ZG ?_ s;exact ef λk f=>by rw [get k f];rfl
  rw [this];exact B
end
open Go Go.Aev Go.Aev.Gen Go.Aev.Wd Go.Aev.Tb
theorem D7{n j:Nat}{s:Nm}:∀(xs:List Nm) (v:Nat) (a:List Nm),(∀u,v<=u->u < n->nv (aq xs (u - v))=0)->j < a.length->
  nv (aq (ij n s xs v a) j)=if v<=n+j/\nv (aq xs (n+j - v))≠0 then -(nv (aq xs (n+j - v)) * nv s) else nv (aq a j)
 | [],v,a,_,_=>by have h:nv (aq [] (n+j - v))=0:=rfl;rw [ij,if_neg (λb=>b.2 h)]
 | x::xs,v,a,hz,i=>by
  have g:∀u,v+1<=u->u < n->nv (aq xs (u - (v+1)))=0:=λu h1 c=>by have:=hz u (by omega) c;obtain⟨k,rfl⟩:∃k,u=v+1+k:=⟨u - (v+1),by omega⟩;rw [show v+1+k - v=k+1 by omega] at this;rw [show v+1+k - (v+1)=k by omega];exact this
  have tail:v+1<=n+j->aq (x::xs) (n+j - v)=aq xs (n+j - (v+1)):=λh=>by rw [show n+j - v= (n+j - (v+1))+1 by omega];rfl
  by_cases f:nv x=0
  .rw [ij,if_pos f,D7 xs (v+1) a g i];by_cases h1:v+1<=n+j
   .rw [tail h1];simp only [h1,show v<=n+j by omega,true_and]
   .rw [if_neg (λb=>h1 b.1)];by_cases c:v<=n+j
    .have e:n+j - v=0:=by omega
     rw [e,if_neg (λb=>b.2 f)]
    .rw [if_neg (λb=>c b.1)]
  .have o:n<=v:=XJ λb=>f (by have:=hz v (Vs v) b;rw [XQ] at this;exact this);rw [ij,if_neg f,D7 xs (v+1) _ g (by rw [V6];exact i)];by_cases h1:v+1<=n+j
   .have d:v - n≠j:=by omega
    have e2:aq (a.set (v - n) (ng (tm x s))) j=aq a j:=by unfold aq;rw [U7,U7,Yr d]
    rw [tail h1,e2];simp only [h1,show v<=n+j by omega,true_and]
   .rw [if_neg (λb=>h1 b.1)];by_cases c:v<=n+j
    .have e:n+j - v=0:=by omega
     have m:v - n=j:=by omega
     have l:nv (aq (x::xs) 0)≠0:=f;rw [e,if_pos ⟨c,l⟩,m];have e2:aq (a.set j (ng (tm x s))) j=ng (tm x s):=by unfold aq;rw [U7,List.getElem?_set_self i];rfl
     rw [e2];rfl
    .rw [if_neg (λb=>c b.1)];have d:v - n≠j:=by omega
     unfold aq;rw [U7,U7,Yr d]
section
variable {n:Nat} {rows:List R} {t:TL}
theorem Sb(h:cr n rows t)(k2:∀r∈rows,r.kd≠2){i:Nat}(hi:i < rows.length)(hb:(aM n rows).gD t.st (t.st.ah i))(q:aW n rows t.val (bF n rows t (t.st.ah i)) (az t.al i) 0=none):
  (aM n rows).Ref ((aM n rows).mul t.st i)/\∀j,j < rows.length->nv (aq (jw n rows.length (bF n rows t (t.st.ah i)) (t.st.ah i) (az t.al i)) j)= (aM n rows).mul t.st i j:=by
 have e:∀u,t.st.c i u≠0->¬(aM n rows).Can t.st ((aM n rows).ak t.st (t.st.ah i) * t.st.c i u) u:=λu d o=>by have a:=zf q u (Ye u) (by rw [Ws];exact d);rw [Ws] at a;rw [AZ] at o;have b:=(uA (n:=n) (rows:=rows) t (AY n rows t _) d (v:=u)).2 o;exact Bool.noConfusion (a.symm.trans b)
 have R:(aM n rows).Ref ((aM n rows).mul t.st i):=Se h.ok (λj f=>k2 _ (jy f)) (λv hv=>z0 h k2 hv) hi hb (λu _=>e u);refine⟨R,λj f=> ?_⟩;have s:n<=t.st.ah i:=hb.1;have free:∀u,u < n->t.st.c i u=0:=λu g=>Xi λd=>e u d ⟨λ_=> .inl g,λ_=> .inl g⟩;have p:t.st.c i (t.st.ah i)=0:=h.ok.wf.z i i hi hi;unfold jw;rw [D7 (az t.al i) 0 _ (λu _ g=>free u g) (by simpa using f)];rw [Ws];have e0:nv (aq (az t.al i) (n+j))=t.st.c i (n+j):=rfl;have es:nv (iN (-(bF n rows t (t.st.ah i))))= -((bF n rows t (t.st.ah i):Int):Rat):=Rat.intCast_neg _;rw [e0,es];unfold Sy.mul;rw [AZ];show _=if n+j=t.st.ah i then _ else _ * t.st.c i (n+j);by_cases k:n+j=t.st.ah i
 .rw [if_neg (λl=>l.2 (by rw [k];exact p)),if_pos k];have:aq ((List.replicate rows.length (none:Nm)).set (t.st.ah i - n) (iN (-(bF n rows t (t.st.ah i))))) j=iN (-(bF n rows t (t.st.ah i))):=by
   rw [show t.st.ah i - n=j by omega];unfold aq;rw [U7,List.getElem?_set_self (by simpa using f)];rfl
  rw [this];exact es
 .rw [if_neg k];by_cases m:t.st.c i (n+j)=0
  .rw [if_neg (λl=>l.2 m),m,WT];have d:t.st.ah i - n≠j:=by omega
   unfold aq;rw [U7,Yr d,Xa];split <;> rfl
  .rw [if_pos ⟨Ye _,m⟩];grind
end
open Go Go.Aev Go.Aev.Gen Go.Aev.Wd Go.Aev.Tb
section
variable {n:Nat} {rows:List R} {gl:List Int}
end
open Go Go.Aev Go.Aev.Gen Go.Aev.Wd Go.Aev.Tb
section
variable {n:Nat} {rows:List R} {gl:List Int}
theorem QR(go:ir n rows gl):∀(p:Nat) (t:TL) (l:List Nm),fm n rows gl t->(dM n rows p t).1=some l->
  fm n rows gl (dM n rows p t).2.2.2/\aW n rows (dM n rows p t).2.2.2.val 1 (dM n rows p t).2.2.2.aB 0=none/\l= (dM n rows p t).2.2.2.aB.drop n:=by
 intro p;induction p with
 | zero=>
  intro t l h a;cases b:aW n rows t.val 1 t.aB 0 with
  | none=>rw [mS 0 b] at a⊢;exact⟨h,b,(V5 a).symm⟩
  | some v=>rw [qC b] at a;cases a
 | succ p d=>
  intro t l h a;cases b:aW n rows t.val 1 t.aB 0 with
  | none=>rw [mS _ b] at a⊢;exact⟨h,b,(V5 a).symm⟩
  | some v=>
   cases c:(br n rows t v (nv (aq t.aB v)).num.sign).2.2
   .rw [qA p b c] at a;cases a
   .rw [qB p b c] at a⊢;exact d _ l (h.step go b c).1 a
theorem QS(go:ir n rows gl):∀(p:Nat) (t:TL) (l:List Nm),fm n rows gl t->(dM n rows p t).2.1=some l->dH l=true->
  fm n rows gl (dM n rows p t).2.2.2/\nW rows gl (l.map b8)=true:=by
 intro p;induction p with
 | zero=>
  intro t l h a e;cases b:aW n rows t.val 1 t.aB 0 with
  | none=>rw [mS 0 b] at a;cases a
  | some v=>rw [qC b] at a;cases a
 | succ p f=>
  intro t l h a e;cases b:aW n rows t.val 1 t.aB 0 with
  | none=>rw [mS _ b] at a;cases a
  | some v=>
   cases c:(br n rows t v (nv (aq t.aB v)).num.sign).2.2
   .rw [qA p b c] at a⊢;obtain rfl:=V5 a;obtain⟨_,e2,e3,d,_⟩:=kW b;rw [Ws] at e3 d;rw [Ww] at d;rw [VM,h.len] at e2;exact⟨h,Te go h b c (h.self go e2 e3 d) e⟩
   .rw [qB p b c] at a⊢;exact f _ l (h.step go b c).1 a e
theorem Ii(k2:∀r∈rows,r.kd≠2):∀(p:Nat) (t:TL) (l:List Nm),cr n rows t->(cI n rows true p t).1=some l->
  ∃T,(aM n rows).Ref T/\∀j,j < rows.length->nv (aq l j)=T j:=by
 intro p;induction p with
 | zero=>
  intro t l h a;rcases pU h with⟨_,hb⟩ | ⟨i,hi,b,d,hb,f⟩
  .rw [qm true _ hb] at a;cases a
  .rw [sF true hb] at a;cases a
 | succ p g=>
  intro t l h a;rcases pU h with⟨_,hb⟩ | ⟨i,hi,b,d,hb,f⟩
  .rw [qm true _ hb] at a;cases a
  .rw [sE true p hb f] at a;cases c:aW n rows t.val (bF n rows t (t.st.ah i)) (az t.al i) 0 with
   | none=>rw [c] at a;obtain rfl:=V5 a;obtain⟨R,e⟩:=Sb h k2 hi b c;exact⟨_,R,e⟩
   | some v=>rw [c] at a;obtain⟨m,e2,_⟩:=kW c;obtain⟨k,_⟩:=h.step true hi (v:=v) (by have:=h.aZ.row hi;omega) b c d;exact g _ l k a
theorem H4{x:Nm}(h:de (nv x)=true):bf (b8 x):=by unfold b8;rw [if_pos h];exact(zw _).2 h
theorem Np(go:ir n rows gl)(p:Nat):nD n rows gl p=zK\/nD n rows gl p=qz\/
  (∃(v:Fr) (pl d:List Nm),nD n rows gl p= [ti 1,ti v.1,ti v.2,lF pl,lF d,ti 0,ti 0]/\bf v/\pl.length=n/\d.length=rows.length/\dH pl=true/\dH d=true/\mu n rows gl v (pl.map b8) (d.map b8)=true)\/
  (∃(d:List Nm) (s:Nat->Rat),nD n rows gl p= [ti 2,ti 0,ti 0,T.aJ true,lF d,ti 0,ti 0]/\d.length=rows.length/\dH d=true/\(aM n rows).Ref s/\∀j,j < rows.length->nv (aq d j)=s j)\/
  ∃(pl:List Nm) (t:TL),nD n rows gl p= [ti 3,ti 0,ti 0,lF pl,T.aJ true,ti 0,ti 0]/\pl.length=n/\dH pl=true/\nW rows gl (pl.map b8)=true/\fm n rows gl t:=by
 have ro:=go.ro;have c:=z9 ro;have o:=CY ro p (dN n rows) c;have g:=CZ ro p c;have k:=Ih ro p (dN n rows) c;have q:=λl=>Ii go.k2 p (dN n rows) l c;unfold nD;generalize cI n rows true p (dN n rows)=r1 at o g k q⊢;obtain⟨no,done,B⟩:=r1;simp only at o g k q;cases done with
 | false=>exact .inl rfl
 | true=>
  cases no with
  | some l=>
   simp only;by_cases a:dH l=true
   .rw [if_pos a];obtain⟨s,R,e⟩:=q l rfl;exact .inr (.inr (.inr (.inl ⟨l,s,rfl,(o l rfl).1,a,R,e⟩)))
   .rw [if_neg a];exact .inr (.inl rfl)
  | none=>
   have x:=C1 g (HT g go.k2 (k rfl rfl)) go.gl;have f:=Jc go p _ x;have i:=Jd (n:=n) (rows:=rows) p (vh n rows gl B);have m:=λl=>QR go p _ l x;have r:=λl=>QS go p _ l x;simp only;generalize dM n rows p (vh n rows gl B)=D at f i m r⊢;obtain⟨h,A,u,b⟩:=D;simp only at f i m r;cases u with
   | false=>exact .inl (by cases h <;> cases A <;> rfl)
   | true=>
    cases A with
    | some l=>
     have hm:sO n rows gl (h,some l,true,b)=if dH l=true then [ti 3,ti 0,ti 0,lF l,T.aJ true,ti 0,ti 0] else qz:=by cases h <;> rfl
     rw [hm];by_cases a:dH l=true
     .rw [if_pos a];obtain⟨w,k2⟩:=r l rfl a;exact .inr (.inr (.inr (.inr ⟨l,b,rfl,(f.2 l rfl).1,a,k2,w⟩)))
     .rw [if_neg a];exact .inr (.inl rfl)
    | none=>
     cases h with
     | none=>exact(i rfl rfl rfl).elim
     | some l=>
      obtain⟨w,k2,C⟩:=m l rfl
      have hm:sO n rows gl (some l,none,true,b)=if(de (gZ gl (cf n rows b.val)) && dH (cf n rows b.val) && dH l)=true then
        [ti 1,ti (gZ gl (cf n rows b.val)).num,ti ((gZ gl (cf n rows b.val)).den:Int),lF (cf n rows b.val),lF l,ti 0,ti 0] else qz:=rfl
      rw [hm];by_cases a:(de (gZ gl (cf n rows b.val)) && dH (cf n rows b.val) && dH l)=true
      .rw [if_pos a];simp only [Vd] at a;obtain⟨⟨h1,y⟩,z⟩:=a;refine .inr (.inr (.inl ⟨_,cf n rows b.val,l,rfl,(zw _).2 h1, ?_,(f.1 l rfl).1,y,z, ?_⟩))
       .have:=w.tok.aZ.v;unfold cf;simp;omega
       .subst C;exact Td go w k2 y z h1
      .rw [if_neg a];exact .inr (.inl rfl)
end
open Go Go.Aev Go.Aev.Gen Go.Aev.Wd Go.Aev.Tb
section
variable (rows:List R) (er et:Bool) (n:Nat) (times:List Fr)
theorem T0(i:n<=12)(hm:rows.length<=40)(ok:∀r∈rows,ei n r)(c:times.length=rows.length)(e:∀x∈times,bf x)(hz:∀k,k < n->eV n k rows times=0)(hv:eV n n rows times < 0):
  ∀(d k:Nat),d+k=n->Or xX [LR er rows,I (n:Int),LN et times,I (k:Int)] []=some [tb true]:=by
 intro d;induction d with
 | zero=>
  intro k l;have h1:¬(k:Int) < (n:Int):=by omega
  obtain⟨y,g,h,o⟩:=yL rows er et n n times i (Vs _) hm ok c (λx f=>(e x f).b);have a:=vf h;have hs:=(o7 _).2 hv;refine aj ?_;rw [Ht];simp only [bL,ai,↓reduceIte,GD,h1,g,a,hs]
 | succ d m=>
  intro k l;have h1:(k:Int) < (n:Int):=by omega
  obtain⟨y,g,h,o⟩:=yL rows er et n k times i (by omega) hm ok c (λx f=>(e x f).b);have a:=vf h;rw [(gm _).2 (hz k (by omega))] at a;have j:=m (k+1) (by omega);refine aj ?_;rw [Ht];simp only [ai,↓reduceIte,GD,h1,g,a,next k (by omega)];exact j
theorem TZ(q:n<=12)(hm:rows.length<=40)(ok:∀r∈rows,ei n r)(l:times.length=rows.length)(m:∀x∈times,bf x)(hz:∀k,k < n->eV n k rows times=0)(hv:eV n n rows times < 0)
  (hs:∀i,i < rows.length->(bc rows i).kd≠3->¬(times.getD i (0,1)).1 < 0):
  ∀(d i:Nat),d+i=rows.length->Or xW [LR er rows,I (n:Int),LN et times,I (i:Int)] []=some [tb true]:=by
 intro d;induction d with
 | zero=>
  intro i p;have h1:¬(i:Int) < (rows.length:Int):=by omega
  have:=T0 rows er et n times q hm ok l m hz hv n 0 (by omega);refine aj ?_;rw [CF];simp only [ai,↓reduceIte,GD,h1,bq];exact this
 | succ d s=>
  intro i p;have h1:(i:Int) < (rows.length:Int):=by omega
  have g: 0<=(i:Int):=by omega
  have h:(i:Int) < (times.length:Int):=by omega
  have c:=s (i+1) (by omega);have f:rows[i]? =some (bc rows i):=by unfold bc;rw [U7,Vb (by omega)];rfl
  have o:times[i]? =some (times.getD i (0,1)):=by rw [U7,Vb (by omega)];rfl
  have j:=hs i (by omega);by_cases a:(bc rows i).kd=3
  .have b:((bc rows i).kd==3)=true:=by simpa using a
   refine aj ?_;rw [CF];simp only [ai,↓reduceIte,GD,h1,g,h,and_self,bq,cV f,a,cm,fi o,next i (by omega)];exact c
  .have b:((bc rows i).kd==3)=false:=by simpa using a
   have e:=j a;refine aj ?_;rw [CF];simp only [ai,↓reduceIte,GD,h1,g,h,and_self,bq,cV f,a,cm,fi o,e,decide_false,next i (by omega)];exact c
theorem TY(c:n<=12)(hm:rows.length<=40)(ok:∀r∈rows,ei n r)(a:times.length=rows.length)(b:∀x∈times,bf x)(hz:∀k,k < n->eV n k rows times=0)(hv:eV n n rows times < 0)
  (hs:∀i,i < rows.length->(bc rows i).kd≠3->¬(times.getD i (0,1)).1 < 0):Or (.call 22) [LR er rows,I (n:Int),LN et times] []=some [tb true]:=by
 have:=TZ rows er et n times c hm ok a b hz hv hs rows.length 0 (by omega);refine aj ?_;rw [ON];exact this
end
theorem Sd{n:Nat}{rows:List R}{a:List Nm}{d:Nat->Rat}(R:(aM n rows).Ref d)(g:a.length=rows.length)(f:dH a=true)(e:∀j,j < rows.length->nv (aq a j)=d j)(er et:Bool)(go:gv n rows)(ok:∀r∈rows,ei n r):
  Or (.call 22) [LR er rows,I (n:Int),LN et (a.map b8)] []=some [tb true]:=by
 have h:∀i,i < rows.length->(a.map b8).getD i (0,1)=b8 (aq a i):=λi hi=>by unfold aq;rw [U7,U7,VS,Vb (by omega)];rfl
 have c:∀i,(a.map nv).getD i 0=nv (aq a i):=λi=>by unfold aq;rw [U7,U7,VS];cases a[i]? <;> rfl
 have l:∀x∈a.map b8,bf x:=λx h=>by obtain⟨y,hy,rfl⟩:=VJ.1 h;exact H4 (Vt.1 f y hy)
 refine TY rows er et n (a.map b8) go.sz.n go.sz.m ok (by simpa using g) l (λk b=> ?_) ?_ (λi hi b=> ?_)
 .rw [B6 b,uZ f,B2 k rows _ (by simpa using g)];refine ZG (ef λi hi=> ?_) (R.aD k b);rw [c,e i hi];rfl
 .rw [B7,uZ f,EI rows _ (by simpa using g)];have:sm rows.length (λi=>(a.map nv).getD i 0 * ((bc rows i).tv:Rat))=sm rows.length (λj=>d j * (aM n rows).to j):=ef λi hi=>by rw [c,e i hi];rfl
  rw [this];exact R.val
 .rw [h i hi];have hb:=R.sg i hi b;rw [<-e i hi] at hb;have o:=X0.2 hb;unfold b8;split
  .show ¬(nv (aq a i)).num < 0;omega
  .show ¬(0:Int) < 0;omega
theorem Tm{n:Nat}{rows:List R}{gl:List Int}(go:ir n rows gl){t:TL}(h:fm n rows gl t)(p:Nat):∃s x y c a,AE n rows p= [ti s,x,y,ti c,ti a]/\(∃b e,x=T.aa 2 b e\/x=T.aJ b)/\(∃b e,y=T.aa 2 b e\/y=T.aJ b)/\s≠2:=by
 have d:=λl=>Ii go.k2 p (dN n rows) l (z9 go.ro);unfold AE;generalize cI n rows true p (dN n rows)=r1 at d⊢;obtain⟨no,done,g⟩:=r1;simp only at d;cases done with
 | false=>exact⟨3,_,_,0,0,rfl,⟨true,[], .inr rfl⟩,⟨true,[], .inr rfl⟩,by decide⟩
 | true=>
  cases no with
  | some l=>obtain⟨f,R,_⟩:=d l rfl;exact(Sc R h.tok.ok.hy h.fe).elim
  | none=>
   simp only;split
   .exact⟨1,_,_,0,0,rfl,⟨_,_, .inl rfl⟩,⟨true,[], .inr rfl⟩,by decide⟩
   .exact⟨0,_,_,10,0,rfl,⟨true,[], .inr rfl⟩,⟨true,[], .inr rfl⟩,by decide⟩
end Go.Aev.Wd.Lg
