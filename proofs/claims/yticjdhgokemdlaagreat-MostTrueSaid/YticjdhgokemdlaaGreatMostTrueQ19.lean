import Derived.Test.YticjdhgokemdlaaGreatMostTrueQ18
set_option linter.all false
namespace Go.Aev.Wd.Lg
open Go Go.Aev Go.Aev.Gen Go.Aev.Wd Go.Aev.Tb
theorem pY(a b:Int):Or (.call 21) [I a,I b] []=some [ti a,ti b]:=s8 a b
theorem F0(a:Int):Or (.call 50) [I a] []=some [tb (decide (a<=1000000/\a>= -1000000))]:=wg a
theorem M3(el:Bool)(gl:List Int)(s:gl.length<=1000):∀(b:List Int) (i:Nat) (c a:Int),gl.drop i=b->
  Or pO [aa el gl,r0,AV.ref (Id.c 1) 0,I (i:Int)] [ab.box [I 0,I 0],ab.box [I c,I a]]=fl (if c=0 then(if(cY b i).1=0 then(c,a) else cY b i) else(c,a)):=by
 intro b;induction b with
 | nil=>
  intro i c a h;have h1:¬(i:Int) < (gl.length:Int):=by have:=bm h;omega
  have e:(if c=0 then(if(cY [] i).1=0 then(c,a) else cY [] i) else(c,a))= (c,a):=by
   split
   .rfl
   .rfl
  rw [e];refine aj ?_;rw [uS];simp only [ai,↓reduceIte,GD,h1,bT]
 | cons x b p=>
  intro i c a h;obtain⟨j,r,k⟩:=bh h;have h1:(i:Int) < (gl.length:Int):=by omega
  have l: 0<=(i:Int):=by omega
  by_cases g:c=0
  .subst g;rw [if_pos rfl];by_cases o: -1000000<=x/\x<=1000000
   .have d:=F0 x;rw [decide_eq_true (by omega)] at d;have e:cY (x::b) i=cY b (i+1):=by rw [cY,if_pos o]
    have:=p (i+1) 0 a k;rw [if_pos rfl] at this;rw [e];refine aj ?_;rw [uS];simp only [ai,↓reduceIte,GD,h1,l,and_self,bT,gy j,d,next i (by omega)];exact this
   .have d:=F0 x;rw [decide_eq_false (by omega)] at d;have e:cY (x::b) i= (5,(i:Int)):=by rw [cY,if_neg o]
    have f:¬(5:Int)=0:=by decide
    have:=p (i+1) 5 (i:Int) k;rw [if_neg f] at this;have q:=pY 5 (i:Int);rw [e,if_neg f];refine aj ?_;rw [uS];simp only [ai,↓reduceIte,GD,h1,l,and_self,bT,gy j,d,q,next i (by omega)];exact this
  .have m:(c==0)=false:=by simpa using g
   rw [if_neg g];refine aj ?_;rw [uS];simp only [ai,↓reduceIte,GD,h1,m,bT]
theorem B8(el:Bool)(gl:List Int)(i:Nat){c:Int}(a:Int)(d:c≠0):Or pO [aa el gl,r0,AV.ref (Id.c 1) 0,I (i:Int)] [ab.box [I 0,I 0],ab.box [I c,I a]]=fl (c,a):=by
 have b:(c==0)=false:=by simpa using d
 refine aj ?_;rw [uS];by_cases h1:(i:Int) < (gl.length:Int)
 .simp only [ai,↓reduceIte,GD,h1,b,bT]
 .simp only [ai,↓reduceIte,GD,h1,b,bT]
theorem M4(er el:Bool)(rows:List R)(n:Int)(gl:List Int)(x:n<=12)(y:rows.length<=1000):∀(b:List R) (i:Nat) (c a:Int),rows.drop i=b->
  Or pP [LR er rows,I n,aa el gl,r0,AV.ref (Id.c 1) 0,I (i:Int)] [ab.box [I 0,I 0],ab.box [I c,I a]]=
   fl (if c=0 then(if(eN b i).1=0 then(if(gl.length:Int) > n then(9,0) else if(cY gl 0).1=0 then(c,a) else cY gl 0) else eN b i) else(c,a)):=by
 have tail:∀(i:Nat) (c a:Int),((bif decide ((i:Int) < (rows.length:Int)) then c==0 else false)=false)->aw an ann Or pP [LR er rows,I n,aa el gl,r0,AV.ref (Id.c 1) 0,I (i:Int)] [ab.box [I 0,I 0],ab.box [I c,I a]]=
   fl (if c=0 then(if(gl.length:Int) > n then(9,0) else if(cY gl 0).1=0 then(c,a) else cY gl 0) else(c,a)):=by
  intro i c a hb;rw [zl,bq,hb];by_cases d:c=0
  .subst d;rw [if_pos rfl];by_cases k:(gl.length:Int) > n
   .have j:=pY 9 0;have t:¬(9:Int)=0:=by decide
    have:=B8 el gl 0 0 t;rw [if_pos k];simp only [ai,GD,bT,k,decide_true,j];exact this
   .have:=M3 el gl (by omega) gl 0 0 a rfl;rw [if_pos rfl] at this;rw [if_neg k];simp only [ai,GD,bT,k,decide_false];exact this
  .have f:(c==0)=false:=by simpa using d
   have:=B8 el gl 0 a d;rw [if_neg d];simp only [ai,GD,bT,f];exact this
 intro b;induction b with
 | nil=>
  intro i c a h;have h1:¬(i:Int) < (rows.length:Int):=by have:=bm h;omega
  have m:=tail i c a (by rw [decide_eq_false h1];rfl);refine aj ?_;rw [m];rfl
 | cons r b u=>
  intro i c a h;obtain⟨p,w,q⟩:=bh h;have h1:(i:Int) < (rows.length:Int):=by omega
  have s: 0<=(i:Int):=by omega
  by_cases d:c=0
  .subst d;rw [if_pos rfl];by_cases e:r.kd=2
   .have o:eN (r::b) i= (4,(i:Int)):=by rw [eN,if_pos e]
    have l:¬(4:Int)=0:=by decide
    have j:=pY 4 (i:Int);have:=u (i+1) 4 (i:Int) q;rw [if_neg l] at this;have g:(r.kd==2)=true:=by simpa using e
    rw [o,if_neg l];refine aj ?_;rw [zl];simp only [ai,↓reduceIte,GD,h1,s,and_self,bq,cV p,e,j,next i (by omega)];exact this
   .have o:eN (r::b) i=eN b (i+1):=by rw [eN,if_neg e]
    have:=u (i+1) 0 a q;rw [if_pos rfl] at this;have g:(r.kd==2)=false:=by simpa using e
    rw [o];refine aj ?_;rw [zl];simp only [ai,↓reduceIte,GD,h1,s,and_self,bq,cV p,e,next i (by omega)];exact this
  .have f:(c==0)=false:=by simpa using d
   have m:=tail i c a (by rw [f];cases decide ((i:Int) < (rows.length:Int)) <;> rfl);refine aj ?_;rw [m,if_neg d,if_neg d]
theorem M5(er el:Bool)(rows:List R)(n:Int)(gl:List Int)(i:Nat){c:Int}(a:Int)(d:c≠0):
  Or pP [LR er rows,I n,aa el gl,r0,AV.ref (Id.c 1) 0,I (i:Int)] [ab.box [I 0,I 0],ab.box [I c,I a]]=fl (c,a):=by
 have b:(c==0)=false:=by simpa using d
 have k:=B8 el gl 0 a d;have hb:(bif decide ((i:Int) < (rows.length:Int)) then c==0 else false)=false:=by rw [b];cases decide ((i:Int) < (rows.length:Int)) <;> rfl
 refine aj ?_;rw [zl,bq,hb];simp only [ai,GD,b];exact k
theorem FZ(rows:List R)(er el:Bool)(n:Int)(gl:List Int):Or (.call 20) [LR er rows,I n,aa el gl] []=fl (ez n rows gl):=by
 have e:=SY rows er n;unfold ez;by_cases h1:(fT n rows).1=0
 .have d:=MK h1;have hb:n<=12/\rows.length<=40:=by
   unfold fT at h1;split at h1
   .simp at h1
   .unfold nA at h1;split at h1
    .simp at h1
    .omega
  have:=M4 er el rows n gl hb.1 (by omega) rows 0 (fT n rows).1 (fT n rows).2 rfl;rw [if_neg (by omega)];rw [if_pos h1] at this;refine aj ?_;rw [Hs];simp only [ai,GD,e];by_cases a:(eN rows 0).1=0
  .rw [if_pos a] at this;rw [if_neg (by omega)];by_cases c:(gl.length:Int) > n
   .rw [if_pos c] at this⊢;exact this
   .rw [if_neg c] at this⊢;by_cases b:(cY gl 0).1=0
    .rw [if_pos b,d] at this;rw [zH _ _ b];rw [d];exact this
    .rw [if_neg b] at this;exact this
  .rw [if_neg a] at this;rw [if_pos a];exact this
 .rw [if_pos h1];have:=M5 er el rows n gl 0 (fT n rows).2 h1;refine aj ?_;rw [Hs];simp only [ai,GD,e];exact this
theorem B9(x:Fr):Or (.call 34) [Av x] []=some [tb (decide (bf x))]:=KN x
theorem MV(et:Bool)(times:List Fr)(l:times.length<=1000):∀(a:List Fr) (i:Nat) (b:Bool),times.drop i=a->
  Or xT [LN et times,r0,B b,I (i:Int)] [ab.box [I 0,I 0]]=fl (if(b && a.all λx=>decide (bf x))=true then(0,0) else(5,0)):=by
 intro a;induction a with
 | nil=>
  intro i b h;have h1:¬(i:Int) < (times.length:Int):=by have:=bm h;omega
  have c:=pY 5 0;cases b
  .refine aj ?_;rw [zj];simp only [ai,↓reduceIte,GD,h1,cm,c];rfl
  .refine aj ?_;rw [zj];simp only [ai,↓reduceIte,GD,h1,cm,c];rfl
 | cons x a g=>
  intro i b h;obtain⟨d,k,e⟩:=bh h;have h1:(i:Int) < (times.length:Int):=by omega
  have f: 0<=(i:Int):=by omega
  have j:=B9 x;cases b
  .have:=g (i+1) false e;rw [Wm] at this⊢;refine aj ?_;rw [zj];simp only [bL,ai,↓reduceIte,GD,h1,f,and_self,cm,fi d,next i (by omega)];exact this
  .have:=g (i+1) (decide (bf x)) e;rw [Wa,WK];refine aj ?_;rw [zj];simp only [ai,↓reduceIte,GD,h1,f,and_self,cm,fi d,j,next i (by omega)];exact this
theorem MU(ep et:Bool)(point times:List Fr)(l:point.length<=1000)(j:times.length<=1000):∀(a:List Fr) (i:Nat) (b:Bool),point.drop i=a->
  Or tX [LN ep point,LN et times,r0,B b,I (i:Int)] [ab.box [I 0,I 0]]=fl (if(b && a.all (λx=>decide (bf x)) && times.all λx=>decide (bf x))=true then(0,0) else(5,0)):=by
 intro a;induction a with
 | nil=>
  intro i b h;have h1:¬(i:Int) < (point.length:Int):=by have:=bm h;omega
  have:=MV et times j times 0 b rfl;rw [YW,XU];refine aj ?_;rw [CB];simp only [ai,↓reduceIte,GD,h1,cm];exact this
 | cons x a f=>
  intro i b h;obtain⟨c,k,d⟩:=bh h;have h1:(i:Int) < (point.length:Int):=by omega
  have e: 0<=(i:Int):=by omega
  have g:=B9 x;cases b
  .have:=f (i+1) false d;rw [Wm,Wm] at this⊢;refine aj ?_;rw [CB];simp only [bL,ai,↓reduceIte,GD,h1,e,and_self,cm,fi c,next i (by omega)];exact this
  .have:=f (i+1) (decide (bf x)) d;rw [Wa,WK];refine aj ?_;rw [CB];simp only [ai,↓reduceIte,GD,h1,e,and_self,cm,fi c,g,next i (by omega)];exact this
theorem MT(rows:List R)(er eg ep et:Bool)(n:Int)(gl:List Int)(v:Fr)(point times:List Fr):
  Or (.call 10) [LR er rows,I n,aa eg gl,Av v,LN ep point,LN et times] []=fl (ik n rows gl v point times):=by
 have d:=FZ rows er eg n gl;have g:=B9 v;by_cases h1:(ez n rows gl).1=0
 .have hb: 0<=n/\n<=12/\rows.length<=40:=by
   unfold ez at h1;by_cases a:(fT n rows).1=0
   .unfold fT at a;split at a
    .simp at a
    .unfold nA at a;split at a
     .simp at a
     .omega
   .rw [if_pos a] at h1;exact absurd h1 a
  by_cases a:(point.length:Int)≠n\/times.length≠rows.length
  .have c:ik n rows gl v point times= (9,0):=by unfold ik;rw [if_neg (by omega),if_pos a]
   have b:(if(point.length:Int)=n then !((times.length:Int)== (rows.length:Int)) else true)=true:=by
    by_cases e:(point.length:Int)=n
    .rw [if_pos e];have:¬(times.length:Int)= (rows.length:Int):=by omega
     simpa using this
    .rw [if_neg e]
   have f:=pY 9 0;rw [c];refine aj ?_;rw [CA];simp only [ai,↓reduceIte,Int.reduceEq,GD,d,h1,cm,bq,b,f]
   try rfl
  .have b:(if(point.length:Int)=n then !((times.length:Int)== (rows.length:Int)) else true)=false:=by
    rw [if_pos (by omega)];have:(times.length:Int)= (rows.length:Int):=by omega
    simpa using this
   have:=MU ep et point times (by omega) (by omega) point 0 (decide (bf v)) rfl;have c:ik n rows gl v point times=if(decide (bf v) && (point.all λx=>decide (bf x)) && (times.all λx=>decide (bf x)))=true then(0,0) else(5,0):=by unfold ik;rw [if_neg (by omega),if_neg a]
   rw [c];refine aj ?_;rw [CA];simp only [ai,↓reduceIte,GD,d,h1,cm,bq,b,g];exact this
 .have c:ik n rows gl v point times=ez n rows gl:=by unfold ik;rw [if_pos h1]
  rw [c];refine aj ?_;rw [CA];simp only [ai,↓reduceIte,GD,d,h1]
  try rfl
open Go Go.Aev Go.Aev.Gen Go.Aev.Wd Go.Aev.Tb
def dX(n k:Nat)(r:R):Int:=if k < n then r.of.getD k 0 else r.tv
def eV(n k:Nat):List R->List Fr->Rat
 | r::a,t::ts=>aP t * ((dX n k r:Int):Rat)+eV n k a ts
 | _,_=>0
theorem B6{n k:Nat}(h:k < n):∀(a:List R) (ts:List Fr),eV n k a ts=hH a (ts.map aP) k
 | [],ts=>by cases ts <;> rfl
 | _::_,[]=>rfl
 | r::a,t::ts=>by rw [eV,B6 h a ts,VN,hH];unfold dX;rw [if_pos h];grind
theorem B7(n:Nat):∀(a:List R) (ts:List Fr),eV n n a ts=iR a (ts.map aP)
 | [],ts=>by cases ts <;> rfl
 | _::_,[]=>rfl
 | r::a,t::ts=>by rw [eV,B7 n a ts,VN,iR];unfold dX;rw [if_neg (by omega)];grind
theorem q1:Rat.divInt 0 1=0:=rfl
theorem M7(rows:List R)(er et:Bool)(n k:Nat)(times:List Fr)(hn:n<=12)(hk:k<=n)(hm:rows.length<=40)(ok:∀r∈rows,ei n r)(htl:times.length=rows.length)(U:∀x∈times,im x):
  ∀(d:List R) (ts:List Fr) (i m:Nat) (c:Rat) (s:Bool) (e:Bool) (D:List Int) (s':Bool) (e':Bool) (z:List Int),rows.drop i=d->times.drop i=ts->(ch c.num s D/\ch (c.den:Int) s' z)->QB m c->m+51 * d.length<=6200->
  ∃y,Or np [LR er rows,I (n:Int),LN et times,I (k:Int),r0,I (i:Int)] [ab.box [B s,AV.t (T.aa 1 e (ay D)),B s',AV.t (T.aa 1 e' (ay z))]]=some [y]/\WR (c+eV n k d ts) y/\QB (m+51 * d.length) (c+eV n k d ts):=by
 intro d;induction d with
 | nil=>
  intro ts i m c s e D s' e' z h N hv M F;have h1:¬(i:Int) < (rows.length:Int):=by have:=bm h;omega
  have g:c+eV n k [] ts=c:=by
   have:eV n k [] ts=0:=by cases ts <;> rfl
   rw [this];grind
  rw [g];refine⟨_,aj ?_,wr (e:=e) (e':=e') hv.1 hv.2,M.mono (by omega)⟩;rw [Hz];simp only [ai,↓reduceIte,GD,h1,bq]
 | cons r d ih=>
  intro ts i m c s e D s' e' z h N hv M F;obtain⟨A,g2,g3⟩:=bh h;cases ts with
  | nil=>have:=bm N;omega
  | cons x ts=>
   obtain⟨C,t2,t3⟩:=bh N;simp only [Vw] at F⊢;have h1:(i:Int) < (rows.length:Int):=by omega
   have J: 0<=(i:Int):=by omega
   have K:(i:Int) < (times.length:Int):=by omega
   have E: 0<=(k:Int):=by omega
   have G:=ok r (U8 A);have w:=U x (U8 C);unfold im at w;have hcv: -1000000<=dX n k r/\dX n k r<=1000000:=by
    unfold dX;split
    .by_cases l:k < r.of.length
     .exact G.of _ (by rw [U7,Vb l];exact W2 l)
     .rw [U7,V8 (by omega)];decide
    .exact G.tv
   obtain⟨a,H,Z⟩:=zC x.1 x.2 (by unfold Sm;omega) (by unfold Sm;omega) (by omega);obtain⟨b,o,b2⟩:=nJ (dX n k r) 1 (by unfold Sm;omega) (by unfold Sm;omega) (by omega);obtain⟨⟨s1,e1,D1,s2,e2,D2,P,k2,k3⟩,kq⟩:=Dt (m:=30) (k:=20) (p:=aP x) (q:=Rat.divInt (dX n k r) 1) Z b2 (sB w.1 w.2) (QB.divInt (by omega) (by omega) (by omega)) (by omega);obtain⟨⟨u1,f1,X,u2,f2,Y,O,j2,j3⟩,jq⟩:=BE (m:=m) (k:=50) (wr (e:=e) (e':=e') hv.1 hv.2) (wr (e:=e1) (e':=e2) k2 k3) M kq (by omega);have L:Rat.divInt (dX n k r) 1= ((dX n k r:Int):Rat):=p5 _;obtain⟨y,Q,V,W⟩:=ih ts (i+1) (m+50+1) _ u1 f1 X u2 f2 Y g3 t3 ⟨j2,j3⟩ jq (by omega);have he:c+aP x * Rat.divInt (dX n k r) 1+eV n k d ts=c+eV n k (r::d) (x::ts):=by rw [eV,L];grind
   rw [he] at V W;refine⟨y,aj ?_,V,W.mono (by omega)⟩;rw [Hz];by_cases u:k < n
   .have f:(k:Int) < (n:Int):=by omega
    by_cases l:k < r.of.length
    .have j:(k:Int) < (r.of.length:Int):=by omega
     have S:r.of[k]? =some (dX n k r):=by unfold dX;rw [if_pos u,U7,Vb l];rfl
     simp only [ai,↓reduceIte,GD,h1,J,K,E,f,j,and_self,bq,cV A,bT,gy S,cm,fi C,H,o,P,O,next i (by omega)];exact Q
    .have j:¬(k:Int) < (r.of.length:Int):=by omega
     have g:dX n k r=0:=by unfold dX;rw [if_pos u,U7,V8 (by omega)];rfl
     rw [g] at o;simp only [ai,↓reduceIte,GD,h1,J,K,E,f,j,and_self,bq,cV A,bT,cm,fi C,H,o,P,O,next i (by omega)];exact Q
   .have f:¬(k:Int) < (n:Int):=by omega
    have g:dX n k r=r.tv:=by unfold dX;rw [if_neg u]
    rw [g] at o;simp only [ai,↓reduceIte,GD,h1,J,K,f,and_self,bq,cV A,cm,fi C,H,o,P,O,next i (by omega)];exact Q
theorem M6(rows:List R)(er et:Bool)(n k:Nat)(times:List Fr)(hn:n<=12)(hk:k<=n)(hm:rows.length<=40)(ok:∀r∈rows,ei n r)(P:times.length=rows.length)(C:∀x∈times,im x):
  ∀(d:List R) (ts:List Fr) (i m:Nat) (c:Rat) (v:T),rows.drop i=d->times.drop i=ts->WR c v->QB m c->m+51 * d.length<=6200->
  ∃y,Or np [LR er rows,I (n:Int),LN et times,I (k:Int),AV.t v,I (i:Int)] []=some [y]/\WR (c+eV n k d ts) y/\QB (m+51 * d.length) (c+eV n k d ts):=by
 intro d;induction d with
 | nil=>
  intro ts i m c v h K hv J B;have h1:¬(i:Int) < (rows.length:Int):=by have:=bm h;omega
  have g:c+eV n k [] ts=c:=by
   have:eV n k [] ts=0:=by cases ts <;> rfl
   rw [this];grind
  rw [g];refine⟨v,aj ?_,hv,J.mono (by omega)⟩;rw [Hy];simp only [ai,↓reduceIte,GD,h1,bq]
 | cons r d ih=>
  intro ts i m c v h K hv J B;obtain⟨w,g2,g3⟩:=bh h;cases ts with
  | nil=>have:=bm K;omega
  | cons x ts=>
   obtain⟨z,t2,t3⟩:=bh K;simp only [Vw] at B⊢;have h1:(i:Int) < (rows.length:Int):=by omega
   have F: 0<=(i:Int):=by omega
   have G:(i:Int) < (times.length:Int):=by omega
   have A: 0<=(k:Int):=by omega
   have D:=ok r (U8 w);have u:=C x (U8 z);unfold im at u;have hcv: -1000000<=dX n k r/\dX n k r<=1000000:=by
    unfold dX;split
    .by_cases l:k < r.of.length
     .exact D.of _ (by rw [U7,Vb l];exact W2 l)
     .rw [U7,V8 (by omega)];decide
    .exact D.tv
   obtain⟨a,E,W⟩:=zC x.1 x.2 (by unfold Sm;omega) (by unfold Sm;omega) (by omega);obtain⟨b,o,X⟩:=nJ (dX n k r) 1 (by unfold Sm;omega) (by unfold Sm;omega) (by omega);obtain⟨⟨s1,Y,D1,s2,e2,D2,M,k2,k3⟩,kq⟩:=Dt (m:=30) (k:=20) (p:=aP x) (q:=Rat.divInt (dX n k r) 1) W X (sB u.1 u.2) (QB.divInt (by omega) (by omega) (by omega)) (by omega);obtain⟨⟨u1,Z,U,u2,f2,V,L,j2,j3⟩,jq⟩:=BE (m:=m) (k:=50) hv (wr (e:=Y) (e':=e2) k2 k3) J kq (by omega);have H:Rat.divInt (dX n k r) 1= ((dX n k r:Int):Rat):=p5 _;obtain⟨y,N,Q,S⟩:=M7 rows er et n k times hn hk hm ok P C d ts (i+1) (m+50+1) _ u1 Z U u2 f2 V g3 t3 ⟨j2,j3⟩ jq (by omega);have he:c+aP x * Rat.divInt (dX n k r) 1+eV n k d ts=c+eV n k (r::d) (x::ts):=by rw [eV,H];grind
   rw [he] at Q S;refine⟨y,aj ?_,Q,S.mono (by omega)⟩;rw [Hy];by_cases s:k < n
   .have f:(k:Int) < (n:Int):=by omega
    by_cases l:k < r.of.length
    .have j:(k:Int) < (r.of.length:Int):=by omega
     have O:r.of[k]? =some (dX n k r):=by unfold dX;rw [if_pos s,U7,Vb l];rfl
     simp only [ai,↓reduceIte,GD,h1,F,G,A,f,j,and_self,bq,cV w,bT,gy O,cm,fi z,E,o,M,L,next i (by omega)];exact N
    .have j:¬(k:Int) < (r.of.length:Int):=by omega
     have g:dX n k r=0:=by unfold dX;rw [if_pos s,U7,V8 (by omega)];rfl
     rw [g] at o;simp only [ai,↓reduceIte,GD,h1,F,G,A,f,j,and_self,bq,cV w,bT,cm,fi z,E,o,M,L,next i (by omega)];exact N
   .have f:¬(k:Int) < (n:Int):=by omega
    have g:dX n k r=r.tv:=by unfold dX;rw [if_neg s]
    rw [g] at o;simp only [ai,↓reduceIte,GD,h1,F,G,f,and_self,bq,cV w,cm,fi z,E,o,M,L,next i (by omega)];exact N
theorem yL(rows:List R)(er et:Bool)(n k:Nat)(times:List Fr)(i:n<=12)(h:k<=n)(hm:rows.length<=40)(ok:∀r∈rows,ei n r)(c:times.length=rows.length)(d:∀x∈times,im x):
  ∃y,Or (.call 35) [LR er rows,I (n:Int),LN et times,I (k:Int)] []=some [y]/\WR (eV n k rows times) y/\QB 2100 (eV n k rows times):=by
 obtain⟨a,g,b⟩:=nJ 0 1 (by unfold Sm;omega) (by unfold Sm;omega) (by omega);rw [q1] at b;obtain⟨y,j,e,f⟩:=M6 rows er et n k times i h hm ok c d rows times 0 0 0 a rfl rfl b (iC 0) (by omega);rw [X6] at e f;refine⟨y,aj ?_,e,f.mono (by omega)⟩;rw [OU];simp only [ai,GD,g];exact j
theorem IA(r:R)(l:List Fr)(f:r.kd=1\/r.kd=2\/r.kd=3):oV (qT r) l=gz r (bo r.of (l.map aP)):=by
 have hs:∀(of:List Int) (l:List Fr) (a:Rat),fE of l a=a+bo of (l.map aP):=by
  intro of;induction of with
  | nil=>intro l a;rw [uK,fE];grind
  | cons c of g=>
   intro l a;cases l with
   | nil=>show a=a+0;grind
   | cons x l=>have h1:Rat.divInt c 1= (c:Rat):=p5 _;rw [fE,g l,h1,VN,bo];grind
 unfold oV gz;have b:=hs r.of l 0;rw [X6] at b;show decide ((fE r.of l 0 < (r.tv:Rat)/\r.kd≠3)\/(fE r.of l 0= (r.tv:Rat)/\r.kd≠2))=_;rw [b];generalize bo r.of (l.map aP)=q;rcases f with e | e | e
 .rw [if_pos e];refine decide_eq_decide.2 ?_;rw [e];constructor
  .rintro(⟨h,_⟩ | ⟨h,_⟩) <;> grind
  .intro h;by_cases d:q= (r.tv:Rat)
   .exact .inr ⟨d,by decide⟩
   .exact .inl ⟨by grind,by decide⟩
 .rw [if_neg (by omega),if_pos e];refine decide_eq_decide.2 ?_;rw [e];constructor
  .rintro(⟨h,_⟩ | ⟨_,h⟩)
   .exact h
   .exact absurd rfl h
  .intro h;exact .inl ⟨h,by decide⟩
 .rw [if_neg (by omega),if_neg (by omega)];refine decide_eq_decide.2 ?_;rw [e];constructor
  .rintro(⟨_,h⟩ | ⟨h,_⟩)
   .exact absurd rfl h
   .exact h
  .intro h;exact .inr ⟨h,by decide⟩
theorem EC:∀(of:List Int) (l:List Fr),fE of l 0=bo of (l.map aP):=by
 have hs:∀(of:List Int) (l:List Fr) (a:Rat),fE of l a=a+bo of (l.map aP):=by
  intro of;induction of with
  | nil=>intro l a;rw [uK,fE];grind
  | cons c of b=>
   intro l a;cases l with
   | nil=>show a=a+0;grind
   | cons x l=>have h1:Rat.divInt c 1= (c:Rat):=p5 _;rw [fE,b l,h1,VN,bo];grind
 intro of l;have:=hs of l 0;rwa [X6] at this
section
variable (rows:List R) (er eg ep et:Bool) (n:Nat) (gl:List Int) (v:Fr) (point times:List Fr)
theorem MX(H:n<=12)(hm:rows.length<=40)(ok:∀r∈rows,ei n r)(N:gl.length<=n)(F:∀c∈gl, -1000000<=c/\c<=1000000)(w:times.length=rows.length)(A:∀x∈times,bf x){z:T}(hz:WR (aP v) z)(hv:bf v):
  ∀(d k:Nat),d+k=n->Or tY [LR er rows,I (n:Int),aa eg gl,LN et times,AV.t z,I (k:Int)] []=
   some [tb (((List.range' k d).all λj=>decide (hH rows (times.map aP) j= ((gl.getD j 0:Int):Rat))) && decide (iR rows (times.map aP)=aP v))]:=by
 intro d;induction d with
 | zero=>
  intro k K;have h1:¬(k:Int) < (n:Int):=by omega
  obtain⟨y,o,q,s⟩:=yL rows er et n n times H (Vs _) hm ok w (λx D=>(A x D).b);have a:=uD (m:=2100) (k:=30) q hz s (sB hv.b.1 hv.b.2) (by omega);rw [B7] at a;have J:(lX (iR rows (times.map aP)) (aP v)==0)=decide (iR rows (times.map aP)=aP v):=by rw [kg];exact decide_eq_decide.2 (oN _ _)
  refine aj ?_;rw [uQ];simp only [ai,↓reduceIte,GD,h1,o,a,J,List.range'_zero,YW]
 | succ d L=>
  intro k K;have h1:(k:Int) < (n:Int):=by omega
  have u: 0<=(k:Int):=by omega
  obtain⟨y,o,q,s⟩:=yL rows er et n k times H (by omega) hm ok w (λx D=>(A x D).b);rw [B6 (by omega)] at q s;have B:=L (k+1) (by omega);rw [XH,WK];by_cases G:k < gl.length
  .have f:(k:Int) < (gl.length:Int):=by omega
   have i:gl[k]? =some (gl.getD k 0):=by rw [U7,Vb G];rfl
   have M:=F _ (U8 i);obtain⟨b,p,C⟩:=nJ (gl.getD k 0) 1 (by unfold Sm;omega) (by unfold Sm;omega) (by omega);have l:Rat.divInt (gl.getD k 0) 1= ((gl.getD k 0:Int):Rat):=p5 _;have E:QB 20 (Rat.divInt (gl.getD k 0) 1):=QB.divInt (by omega) (by omega) (by omega);have a:=uD (m:=2100) (k:=20) q C s E (by omega);rw [l] at a;by_cases g:hH rows (times.map aP) k= ((gl.getD k 0:Int):Rat)
   .have e:=(oN _ _).2 g;rw [decide_eq_true g,Wa];refine aj ?_;rw [uQ];simp only [ai,↓reduceIte,GD,h1,u,f,and_self,bT,gy i,o,p,a,e,next k (by omega)];exact B
   .have e:¬lX (hH rows (times.map aP) k) ((gl.getD k 0:Int):Rat)=0:=λh=>g ((oN _ _).1 h);rw [decide_eq_false g,Wm,Wm];refine aj ?_;rw [uQ];simp only [ai,↓reduceIte,GD,h1,u,f,and_self,bT,gy i,o,p,a,e]
  .have f:¬(k:Int) < (gl.length:Int):=by omega
   have i:gl.getD k 0=0:=by rw [U7,V8 (by omega)];rfl
   obtain⟨b,p,C⟩:=nJ 0 1 (by unfold Sm;omega) (by unfold Sm;omega) (by omega);have l:Rat.divInt 0 1= ((0:Int):Rat):=p5 _;have E:QB 20 (Rat.divInt 0 1):=QB.divInt (by omega) (by decide) (by decide);have a:=uD (m:=2100) (k:=20) q C s E (by omega);rw [l] at a;rw [i];by_cases g:hH rows (times.map aP) k= ((0:Int):Rat)
   .have e:=(oN _ _).2 g;rw [decide_eq_true g,Wa];refine aj ?_;rw [uQ];simp only [ai,↓reduceIte,GD,h1,u,f,bT,o,p,a,e,next k (by omega)];exact B
   .have e:¬lX (hH rows (times.map aP) k) ((0:Int):Rat)=0:=λh=>g ((oN _ _).1 h);rw [decide_eq_false g,Wm,Wm];refine aj ?_;rw [uQ];simp only [ai,↓reduceIte,GD,h1,u,f,bT,o,p,a,e]
theorem MY(B:n<=12)(hm:rows.length<=40)(ok:∀r∈rows,ei n r)(u:gl.length<=n)(s:∀c∈gl, -1000000<=c/\c<=1000000)(w:times.length=rows.length)(y:∀x∈times,bf x){z:T}(hz:WR (aP v) z)(hv:bf v):
  ∀(a:List R) (ts:List Fr) (i:Nat),rows.drop i=a->times.drop i=ts->
  Or xU [LR er rows,I (n:Int),aa eg gl,LN et times,AV.t z,I (i:Int)] []=
   some [tb (gg a ts && ((List.range n).all λj=>decide (hH rows (times.map aP) j= ((gl.getD j 0:Int):Rat))) && decide (iR rows (times.map aP)=aP v))]:=by
 intro a;induction a with
 | nil=>
  intro ts i h p;have h1:¬(i:Int) < (rows.length:Int):=by have:=bm h;omega
  have g:gg [] ts=true:=by cases ts <;> rfl
  have:=MX rows er eg et n gl v times B hm ok u s w y hz hv n 0 (by omega);rw [<-XW] at this;rw [g,Wa];refine aj ?_;rw [zk];simp only [ai,↓reduceIte,GD,h1,bq];exact this
 | cons r a C=>
  intro ts i h p;obtain⟨l,E,A⟩:=bh h;cases ts with
  | nil=>have:=bm p;omega
  | cons t ts=>
   obtain⟨q,F,D⟩:=bh p;have h1:(i:Int) < (rows.length:Int):=by omega
   have m: 0<=(i:Int):=by omega
   have o:(i:Int) < (times.length:Int):=by omega
   have k:=C ts (i+1) A D;have g:gg (r::a) (t::ts)= (!(decide (r.kd=1) && decide (t.1 < 0)) && gg a ts):=rfl;rw [g];by_cases f:r.kd=1
   .have d:(r.kd==1)=true:=by simpa using f
    by_cases b:t.1 < 0
    .refine aj ?_;rw [zk];simp only [ai,↓reduceIte,GD,h1,m,o,and_self,bq,cV l,cm,fi q,b,decide_true];simp [f]
    .have e:(!(decide (r.kd=1) && decide (t.1 < 0)) && gg a ts)=gg a ts:=by simp [f,b]
     rw [e];refine aj ?_;rw [zk];simp only [ai,↓reduceIte,GD,h1,m,o,and_self,bq,cV l,cm,fi q,b,decide_false,next i (by omega)];split
     .exact k
     .exact k
   .have d:(r.kd==1)=false:=by simpa using f
    have e:(!(decide (r.kd=1) && decide (t.1 < 0)) && gg a ts)=gg a ts:=by simp [f]
    rw [e];refine aj ?_;rw [zk];simp only [ai,↓reduceIte,GD,h1,m,o,and_self,bq,cV l,f,cm,fi q,next i (by omega)];exact k
theorem MW(F:n<=12)(hm:rows.length<=40)(ok:∀r∈rows,ei n r)(u:gl.length<=n)(j:∀c∈gl, -1000000<=c/\c<=1000000)(G:point.length=n)(l:∀x∈point,bf x)(w:times.length=rows.length)(A:∀x∈times,bf x)(hv:bf v):
  Or (.call 11) [LR er rows,I (n:Int),aa eg gl,Av v,LN ep point,LN et times] []=some [tb (mu n rows gl v point times)]:=by
 have B:=hv.b;unfold im at B;obtain⟨z,q,J⟩:=zC v.1 v.2 (by unfold Sm;omega) (by unfold Sm;omega) (by omega);have hz:WR (aP v) z:=J;have a:=SF er rows ep point (by omega) (λr d=>by rw [G];exact ok r d) l hm;have p:(rows.all λr=>oV (qT r) point)=rows.all λr=>gz r (bo r.of (point.map aP)):=by rw [ZI,Vt,Vt];exact forall_congr' λr=>⟨λh d=>by rw [<-IA r point (ok r d).kd];exact h d,λh d=>by rw [IA r point (ok r d).kd];exact h d⟩
 rw [p] at a;obtain⟨y,C,D,E⟩:=Ay eg ep gl point j (λx H=>(l x H).b) (by omega) (by omega);rw [EC] at D E;have o:=uD (m:=51 * gl.length) (k:=30) D hz E (sB hv.b.1 hv.b.2) (by omega);have g:=MY rows er eg et n gl v times F hm ok u j w A hz hv rows times 0 rfl rfl;have i:mu n rows gl v point times= ((rows.all λr=>gz r (bo r.of (point.map aP))) && (decide (bo gl (point.map aP)=aP v) && (gg rows times && ((List.range n).all λk=>decide (hH rows (times.map aP) k= ((gl.getD k 0:Int):Rat))) && decide (iR rows (times.map aP)=aP v)))):=by unfold mu;simp only [ZL]
 rw [i];cases s:rows.all λr=>gz r (bo r.of (point.map aP))
 .rw [s] at a;refine aj ?_;rw [CC];simp only [bL,ai,GD,q,a]
 .rw [s] at a;by_cases f:bo gl (point.map aP)=aP v
  .have e:=(oN _ _).2 f;rw [decide_eq_true f,Wa,Wa];refine aj ?_;rw [CC];simp only [ai,↓reduceIte,GD,q,a,C,o,e];exact g
  .have e:¬lX (bo gl (point.map aP)) (aP v)=0:=λh=>f ((oN _ _).1 h);have t:(!(lX (bo gl (point.map aP)) (aP v)==0))=true:=by simpa using e
   rw [decide_eq_false f,Wa,Wm];refine aj ?_;rw [CC];simp only [ai,↓reduceIte,GD,q,a,C,o,e]
theorem sT(q:Rat):(q.num.sign > 0)↔0 < q:=by
 have h1:=o7 q;have a:=gm q;rcases px q with e | e | e
 .rw [e] at h1 a⊢;refine⟨λ_=> ?_,λ_=>by decide⟩;have c:¬q < 0:=λh=>absurd (h1.2 h) (by decide);have b:q≠0:=λh=>absurd (a.2 h) (by decide);grind
 .rw [e] at h1⊢;refine⟨λh=>absurd h (by decide),λh=> ?_⟩;have:=h1.1 (by decide);exact absurd h (by grind)
 .rw [e] at a⊢;refine⟨λh=>absurd h (by decide),λh=> ?_⟩;have:=a.1 rfl;rw [this] at h;exact absurd h (by grind)
theorem M0(M:n<=12)(hm:rows.length<=40)(ok:∀r∈rows,ei n r)(D:∀r∈rows,r.kd≠2)(K:gl.length<=n)(B:∀c∈gl, -1000000<=c/\c<=1000000)(N:point.length=n)(u:∀x∈point,bf x):
  ∀(l:List R) (i:Nat),rows.drop i=l->
  Or xV [LR er rows,aa eg gl,LN ep point,I (i:Int)] []=some [tb (((l.map lM).all λr=>gz r (bo r.of (point.map aP))) && decide (0 < bo gl (point.map aP)))]:=by
 intro l;induction l with
 | nil=>
  intro i h;have h1:¬(i:Int) < (rows.length:Int):=by have:=bm h;omega
  obtain⟨y,f,m,J⟩:=Ay eg ep gl point B (λx A=>(u x A).b) (by omega) (by omega);rw [EC] at m;have d:=vf m;have hb:decide ((bo gl (point.map aP)).num.sign > 0)=decide (0 < bo gl (point.map aP)):=decide_eq_decide.2 (sT _);refine aj ?_;rw [uR];simp only [ai,↓reduceIte,GD,h1,bq,f,d,hb,XA,YW]
 | cons r l H=>
  intro i h;obtain⟨g,L,F⟩:=bh h;have h1:(i:Int) < (rows.length:Int):=by omega
  have o: 0<=(i:Int):=by omega
  have w:=U8 g;have k:=ok r w;have G:=k.len;obtain⟨y,f,m,J⟩:=Ay r.e ep r.of point k.of (λx A=>(u x A).b) (by omega) (by omega);rw [EC] at m;have d:=vf m;have z:=H (i+1) F;have t:=sT (bo r.of (point.map aP));have p:=o7 (bo r.of (point.map aP));have C:gz (lM r) (bo (lM r).of (point.map aP))= !(decide ((bo r.of (point.map aP)).num.sign > 0) || (decide ((bo r.of (point.map aP)).num.sign < 0) && decide (r.kd=3))):=by
   show(if r.kd=1 then decide (bo r.of (point.map aP)<=((0:Int):Rat)) else if r.kd=2 then decide (bo r.of (point.map aP) < ((0:Int):Rat)) else decide (bo r.of (point.map aP)= ((0:Int):Rat)))=_;have hz:((0:Int):Rat)=0:=rfl;rw [hz];generalize bo r.of (point.map aP)=q at t p;have E:decide (q.num.sign > 0)=decide (0 < q):=decide_eq_decide.2 t;have e2:decide (q.num.sign < 0)=decide (q < 0):=decide_eq_decide.2 p;rw [E,e2];rcases k.kd with e | e | e
   .rw [if_pos e,e];by_cases a: 0 < q
    .have:¬q<=0:=by grind
     simp [a,this]
    .have:q<=0:=by grind
     simp [a,this]
   .exact absurd e (D r w)
   .rw [if_neg (by omega),if_neg (by omega),e];by_cases a: 0 < q
    .have:¬q=0:=by grind
     simp [a,this]
    .by_cases b:q < 0
     .have:¬q=0:=by grind
      simp [b,this]
     .have:q=0:=by grind
      simp [this]
  rw [VN,WK,C];generalize (bo r.of (point.map aP)).num.sign=s at d;by_cases a:s > 0
  .refine aj ?_;rw [uR];simp only [ai,↓reduceIte,GD,h1,o,and_self,bq,cV g,f,d,a,decide_true];simp []
  .by_cases b:s < 0
   .by_cases c:r.kd=3
    .have j:(r.kd==3)=true:=by simpa using c
     refine aj ?_;rw [uR];simp only [ai,↓reduceIte,GD,h1,o,and_self,bq,cV g,f,d,a,b,j,decide_true,decide_false];simp [c]
    .have j:(r.kd==3)=false:=by simpa using c
     have e:(!(decide (s > 0) || (decide (s < 0) && decide (r.kd=3))))=true:=by simp [a,c]
     rw [e,Wa];refine aj ?_;rw [uR];simp only [ai,↓reduceIte,GD,h1,o,and_self,bq,cV g,f,d,a,b,j,decide_true,next i (by omega)];exact z
   .have e:(!(decide (s > 0) || (decide (s < 0) && decide (r.kd=3))))=true:=by simp [a,b]
    rw [e,Wa];refine aj ?_;rw [uR];simp only [ai,↓reduceIte,GD,h1,o,and_self,bq,cV g,f,d,a,b,next i (by omega)];exact z
theorem MZ(f:n<=12)(hm:rows.length<=40)(ok:∀r∈rows,ei n r)(d:∀r∈rows,r.kd≠2)(b:gl.length<=n)(a:∀c∈gl, -1000000<=c/\c<=1000000)(g:point.length=n)(e:∀x∈point,bf x):
  Or (.call 12) [LR er rows,aa eg gl,LN ep point] []=some [tb (nW rows gl point)]:=by
 have:=M0 rows er eg ep n gl point f hm ok d b a g e rows 0 rfl;refine aj ?_;rw [OL];exact this
end
end Go.Aev.Wd.Lg
