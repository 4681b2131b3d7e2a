import Derived.Test.YtdjbbnlgpddbmaaAwayAllQ14
import Derived.Test.YtdjbbnlgpddbmaaAwayAllQ6
set_option linter.all false
namespace Go.Aev.Wd.Lg
open Go Go.Aev Go.Aev.Gen Go.Aev.Wd Go.Aev.Tb
section
variable {n:Nat} {rows:List R} (f:Fl) (t:TL)
end
def iX(n:Nat)(rows:List R)(v:Nat)(ao:Int)(t:TL):TL:=
 if(eI n rows t v ao).1>=0 then
  fI (eI n rows t v ao).1.toNat v (t.st.ah (eI n rows t v ao).1.toNat) (bX (ay t.ak (eI n rows t v ao).1.toNat) v (t.st.ah (eI n rows t v ao).1.toNat)) false (dA v (fE (eI n rows t v ao).2.1 (iN ao)) t)
 else dA v (fE (eI n rows t v ao).2.1 (iN ao)) t
section
variable {n:Nat} {rows:List R} (f:Fl) (t:TL)
end
section
variable {n:Nat} {rows:List R} (f:Fl) (t:TL)
end
open Go Go.Aev Go.Aev.Gen Go.Aev.Wd Go.Aev.Tb
def gR(gl:List Int)(k:Nat):Rat:=((gl.getD k 0:Int):Rat)
structure mg (n:Nat) (rows:List R) (gl:List Int) (t:TL):Prop where
 tok:ch n rows t
 len:t.aT.length=n+rows.length
 g:(aQ n rows).CE (gR gl) t.st (λv=>nv (aF t.aT v))
 fe:(aQ n rows).B6 t.st
structure tT (n:Nat) (rows:List R) (gl:List Int):Prop where
 ro:eM n rows
 k2:∀r∈rows,r.kd≠2
 gb:∀c∈gl, -1000000<=c/\c<=1000000
 gl:gl.length<=n
theorem MW{gl:List Int}(h:∀c∈gl, -1000000<=c/\c<=1000000)(k:Nat):ba 1000000 (gR gl k):=by
 refine ba.int ?_;by_cases hk:k < gl.length
 .have:=h (gl.getD k 0) (by rw [RO,RR hk];exact Uf hk);omega
 .rw [RO,SZ (by omega)];decide
theorem mg.gq{n:Nat}{rows:List R}{gl:List Int}{t:TL}(go:tT n rows gl)(h:mg n rows gl t):∀y∈t.aT,QN 270 y:=by
 obtain⟨D,h1,a,_,b⟩:=h.tok.den go.ro;intro y hy;obtain⟨v,hv,e⟩:=TN hy;have hn:aF t.aT v=y:=by unfold aF;rw [RO,RR hv];exact e
 have:=b (λv=>nv (aF t.aT v)) (gR gl) h.g.z (λk _=>MW go.gb k) h.g.same v (by rw [<-h.len];exact hv);rw [hn] at this;exact uO h1 a this
theorem mg.nb{n:Nat}{rows:List R}{gl:List Int}{t:TL}(h:mg n rows gl t){v:Nat}(hv:nv (aF t.aT v)≠0):v∉t.ah:=by intro hb;obtain⟨j,a,e,_⟩:=nO h.tok.aZ hb;exact hv (by rw [<-e];exact h.g.z j a)
theorem z0{n:Nat}{rows:List R}{t:TL}(h:ch n rows t)(k2:∀r∈rows,r.kd≠2){v:Nat}(hv:v < n+rows.length):t.st.z v=0:=by
 have hn:∀u,u < n+rows.length->(∀i,i < rows.length->t.st.ah i≠u)->t.st.z u=0:=λu l hb=>by
  have:=congrArg Prod.snd (h.ok.fix u l hb);show(t.st.val u).2=0;rw [this];unfold Sy.fx;show(if u < n then((0:Rat),(0:Rat)) else(aQ n rows).up u).2=0;by_cases g:u < n
  .rw [if_pos g]
  .rw [if_neg g];have hk:=k2 _ (gJ (rows:=rows) (i:=u - n) (by omega));unfold Sy.up;exact if_neg hk
 by_cases hb:∃i,i < rows.length/\t.st.ah i=v
 .obtain⟨i,hi,e⟩:=hb;have:=(h.ok.wf.same _).2 h.ok.hz i hi;rw [<-e,this];refine l7 (λk hk=> ?_);by_cases d:∃j,j < rows.length/\t.st.ah j=k
  .obtain⟨j,b,a⟩:=d;have hz:t.st.c i k=0:=by rw [<-a];exact h.ok.wf.z i j hi b
   rw [hz,T6]
  .rw [hn k hk (λj b a=>d ⟨j,b,a⟩),Tm]
 .exact hn v hv (λj b a=>hb ⟨j,b,a⟩)
def hZ(n:Nat)(rows:List R)(t:TL)(v:Nat)(ao:Int)(j:Nat):Prop:=
 n<=t.st.ah j/\(0 < t.st.c j v * (ao:Rat)\/t.st.c j v * (ao:Rat) < 0/\(aQ n rows).kd (t.st.ah j - n)=3)
def cv(n:Nat)(rows:List R)(t:TL)(v:Nat)(ao:Int)(j:Nat):Rat:=((aQ n rows).to (t.st.ah j - n) - t.st.y (t.st.ah j)) / (t.st.c j v * (ao:Rat))
theorem C9{n:Nat}{rows:List R}{t:TL}{v:Nat}{ao:Int}{j:Nat}:¬(nv (tm (aF (ay t.ak j) v) (iN ao))=0\/oO n rows (t.st.ah j) (tm (aF (ay t.ak j) v) (iN ao))=false)↔hZ n rows t v ao j:=by
 have e:nv (tm (aF (ay t.ak j) v) (iN ao))=t.st.c j v * (ao:Rat):=rfl;unfold oO hZ;rw [e];by_cases a:t.st.c j v * (ao:Rat) < 0
 .rw [if_pos a];constructor
  .intro h;have i:e9 n rows (t.st.ah j)=true:=by
    cases hb:e9 n rows (t.st.ah j)
    .exact absurd (.inr hb) h
    .rfl
   have:=lV.1 i;exact⟨UH this.1, .inr ⟨a,this.2⟩⟩
  .rintro⟨h1,d | ⟨_,d⟩⟩
   .exact absurd a (by grind)
   .rintro(b | b)
    .rw [b] at a;exact absurd a (by grind)
    .rw [lV.2 ⟨T2.2 h1,d⟩] at b;cases b
 .rw [if_neg a];constructor
  .intro h;have k:t.st.c j v * (ao:Rat)≠0:=λg=>h (.inl g);have hb:¬t.st.ah j < n:=λg=>h (.inr (by simp [g]));exact⟨UH hb, .inl (by grind)⟩
  .rintro⟨h1,d | ⟨d,_⟩⟩
   .rintro(b | b)
    .rw [b] at d;exact absurd d (by grind)
    .have:¬t.st.ah j < n:=T2.2 h1;simp [this] at b
   .exact absurd d a
theorem zo{n:Nat}{rows:List R}{t:TL}(h:ch n rows t)(k2:∀r∈rows,r.kd≠2){v:Nat}{ao:Int}{j:Nat}(o:j < rows.length)(hb:hZ n rows t v ao j):
  vv (iR n rows t (t.st.ah j) (tm (aF (ay t.ak j) v) (iN ao)))= (cv n rows t v ao j,0):=by
 have e:nv (tm (aF (ay t.ak j) v) (iN ao))=t.st.c j v * (ao:Rat):=rfl;have g:¬t.st.ah j < n:=T2.2 hb.1;have k:t.st.ah j < n+rows.length:=h.ok.wf.hb j o;have hz:=z0 h k2 k;have hk:=k2 _ (gJ (rows:=rows) (i:=t.st.ah j - n) (by omega));have l:(aQ n rows).up (t.st.ah j)= ((aQ n rows).to (t.st.ah j - n),0):=by unfold Sy.up;refine VO rfl ?_;exact if_neg hk
 have b:vv (uX n rows (t.st.ah j) (tm (aF (ay t.ak j) v) (iN ao)))= ((aQ n rows).to (t.st.ah j - n),0):=by
  unfold uX;rw [e,<-l];by_cases a:t.st.c j v * (ao:Rat) < 0
  .rw [if_pos a];rcases hb.2 with d | ⟨_,d⟩
   .exact absurd a (by grind)
   .exact sF (lV.2 ⟨g,d⟩)
  .rw [if_neg a];exact tI g
 unfold iR;generalize uX n rows (t.st.ah j) (tm (aF (ay t.ak j) v) (iN ao))=bd at b;have h1:nv bd.1= (aQ n rows).to (t.st.ah j - n):=congrArg Prod.fst b;have d:nv bd.2=0:=congrArg Prod.snd b;have m:nv (aH t.val (t.st.ah j)).2=0:=hz;refine VO ?_ ?_
 .show(nv bd.1 - t.st.y (t.st.ah j)) * (((1:Int):Rat) / (t.st.c j v * (ao:Rat)))=cv n rows t v ao j;unfold cv;rw [h1,SF,SF];have:((1:Int):Rat)=1:=rfl;rw [this];grind
 .show(nv bd.2 - nv (aH t.val (t.st.ah j)).2) * (((1:Int):Rat) / (t.st.c j v * (ao:Rat)))=0;rw [d,m];grind
theorem Np{n:Nat}{rows:List R}{t:TL}(h:ch n rows t)(k2:∀r∈rows,r.kd≠2){v:Nat}{ao:Int}(G:oO n rows v (iN ao)=false):
  ((eI n rows t v ao).2.2=false/\∀j,j < rows.length->¬hZ n rows t v ao j)\/
  ∃i,i < rows.length/\(eI n rows t v ao).1= (i:Int)/\(eI n rows t v ao).2.2=true/\hZ n rows t v ao i/\(eI n rows t v ao).2.1=iR n rows t (t.st.ah i) (tm (aF (ay t.ak i) v) (iN ao))/\
   ∀j,j < rows.length->hZ n rows t v ao j->cv n rows t v ao i<=cv n rows t v ao j/\(cv n rows t v ao i=cv n rows t v ao j->t.st.ah i<=t.st.ah j):=by
 have hbl:=h.aZ.b;have hcl:=h.aZ.c
 have O:∀(bs:List Nat) (xs:List (List Nm)) (k:Nat) (s:LF),t.ah.drop k=bs->t.ak.drop k=xs->bs.length=xs.length->k<=rows.length->
   ((s.2.2=false/\∀j,j < k->¬hZ n rows t v ao j)\/
    ∃i,i < k/\s.1= (i:Int)/\s.2.2=true/\hZ n rows t v ao i/\s.2.1=iR n rows t (t.st.ah i) (tm (aF (ay t.ak i) v) (iN ao))/\
     ∀j,j < k->hZ n rows t v ao j->cv n rows t v ao i<=cv n rows t v ao j/\(cv n rows t v ao i=cv n rows t v ao j->t.st.ah i<=t.st.ah j))->
   (((nN n rows t v ao bs xs k s).2.2=false/\∀j,j < rows.length->¬hZ n rows t v ao j)\/
    ∃i,i < rows.length/\(nN n rows t v ao bs xs k s).1= (i:Int)/\(nN n rows t v ao bs xs k s).2.2=true/\hZ n rows t v ao i/\(nN n rows t v ao bs xs k s).2.1=iR n rows t (t.st.ah i) (tm (aF (ay t.ak i) v) (iN ao))/\
     ∀j,j < rows.length->hZ n rows t v ao j->cv n rows t v ao i<=cv n rows t v ao j/\(cv n rows t v ao i=cv n rows t v ao j->t.st.ah i<=t.st.ah j)):=by
  intro bs;induction bs with
  | nil=>
   intro xs k s hb V hl hk F;have T:k=rows.length:=by have:=bU hb;omega
   have U:nN n rows t v ao [] xs k s=s:=by cases xs <;> rfl
   rw [U,<-T];exact F
  | cons b bs ih=>
   intro xs k s hb V hl hk F;obtain⟨X,g2,Y⟩:=bR hb;cases xs with
   | nil=>simp at hl
   | cons x xs=>
    obtain⟨x1,x2,x3⟩:=bR V;have Q:ay t.ak k=x:=by have:=mn (ak:=t.ak) (i:=k) (by omega);rw [x1] at this;exact(Tx this).symm
    have P:t.st.ah k=b:=by have:=lH (t:=t) (i:=k) (by omega);rw [X] at this;exact(Tx this).symm
    rw [nN,<-Q,<-P];refine ih xs (k+1) _ Y x3 (by simpa using hl) (by omega) ?_;by_cases o:hZ n rows t v ao k
    .have hz:=C9.2 o;have I:=zo h k2 (by omega) o;have C:nB n rows t (t.st.ah k) (tm (aF (ay t.ak k) v) (iN ao)) (k:Int) s=if mw n rows t (t.st.ah k) (tm (aF (ay t.ak k) v) (iN ao)) (k:Int) s then((k:Int),iR n rows t (t.st.ah k) (tm (aF (ay t.ak k) v) (iN ao)),true) else s:=by
      unfold nB;rw [if_neg hz]
     rw [C];rcases F with⟨N,E⟩ | ⟨i,S,p,q,y,u,z⟩
     .have A:mw n rows t (t.st.ah k) (tm (aF (ay t.ak k) v) (iN ao)) (k:Int) s:=by
       unfold mw;rw [N];exact .inl (by simp)
      rw [if_pos A];refine .inr ⟨k,by omega,rfl,rfl,o,rfl,λj D l=> ?_⟩;by_cases g:j=k
      .subst g;exact⟨To,λ_=>R3 _⟩
      .exact absurd l (E j (by omega))
     .have H:=zo h k2 (by omega) y;have w:eE s.2.1 (iR n rows t (t.st.ah k) (tm (aF (ay t.ak k) v) (iN ao))) > 0↔cv n rows t v ao k < cv n rows t v ao i:=by
       rw [u9,I,u,H];unfold cH;constructor
       .rintro(h | ⟨_,h⟩)
        .exact h
        .exact absurd h (by grind)
       .intro h;exact .inl h
      have K:eE s.2.1 (iR n rows t (t.st.ah k) (tm (aF (ay t.ak k) v) (iN ao))) < 0↔cv n rows t v ao i < cv n rows t v ao k:=by
       rw [vd,I,u,H];unfold cH;constructor
       .rintro(h | ⟨_,h⟩)
        .exact h
        .exact absurd h (by grind)
       .intro h;exact .inl h
      have J:eE s.2.1 (iR n rows t (t.st.ah k) (tm (aF (ay t.ak k) v) (iN ao)))=0↔cv n rows t v ao i=cv n rows t v ao k:=by
       constructor
       .intro L;have a:¬cv n rows t v ao k < cv n rows t v ao i:=λm=>by have:=w.2 m;omega
        have b:¬cv n rows t v ao i < cv n rows t v ao k:=λm=>by have:=K.2 m;omega
        grind
       .intro L;have a:¬eE s.2.1 (iR n rows t (t.st.ah k) (tm (aF (ay t.ak k) v) (iN ao))) > 0:=λm=>by have:=w.1 m;grind
        have b:¬eE s.2.1 (iR n rows t (t.st.ah k) (tm (aF (ay t.ak k) v) (iN ao))) < 0:=λm=>by have:=K.1 m;grind
        omega
      by_cases A:mw n rows t (t.st.ah k) (tm (aF (ay t.ak k) v) (iN ao)) (k:Int) s
      .rw [if_pos A];have d:=A;unfold mw at d;rw [if_pos q,p,Sr,w,J] at d;have B:t.ah.getD i 0=t.st.ah i:=rfl;rw [B] at d;refine .inr ⟨k,by omega,rfl,rfl,o,rfl,λj D l=> ?_⟩;by_cases g:j=k
       .subst g;exact⟨To,λ_=>R3 _⟩
       .obtain⟨c1,W⟩:=z j (by omega) l;rcases d with h1 | ⟨h1,_,Z | Z⟩
        .exact⟨by grind,λM=>absurd h1 (by grind)⟩
        .omega
        .exact⟨by grind,λM=>by have:=W (by grind);omega⟩
      .rw [if_neg A];have d:=A;unfold mw at d;rw [if_pos q,p,Sr,w,J] at d;have B:t.ah.getD i 0=t.st.ah i:=rfl;rw [B] at d;refine .inr ⟨i,by omega,p,q,y,u,λj D l=> ?_⟩;by_cases g:j=k
       .subst g;refine⟨VZ.1 λm=>d (.inl m),λM=> ?_⟩;refine UH λm=>d (.inr ⟨M,by omega, .inr (by omega)⟩)
       .exact z j (by omega) l
    .have hz:nv (tm (aF (ay t.ak k) v) (iN ao))=0\/oO n rows (t.st.ah k) (tm (aF (ay t.ak k) v) (iN ao))=false:=V5 λm=>o (C9.1 m);have C:nB n rows t (t.st.ah k) (tm (aF (ay t.ak k) v) (iN ao)) (k:Int) s=s:=by unfold nB;rw [if_pos hz]
     rw [C];rcases F with⟨N,E⟩ | ⟨i,S,p,q,y,u,z⟩
     .refine .inl ⟨N,λj D=> ?_⟩;by_cases g:j=k
      .subst g;exact o
      .exact E j (by omega)
     .refine .inr ⟨i,by omega,p,q,y,u,λj D l=> ?_⟩;by_cases g:j=k
      .subst g;exact absurd l o
      .exact z j (by omega) l
 have L:nB n rows t v (iN ao) (-1) (-1,(none,none),false)= (-1,(none,none),false):=by unfold nB;rw [if_pos (.inr G)]
 unfold eI;rw [L];exact O t.ah t.ak 0 _ rfl rfl (by omega) (Vt _) (.inl ⟨rfl,λj D=>by omega⟩)
open Go Go.Aev Go.Aev.Gen Go.Aev.Wd Go.Aev.Tb
theorem ch.aT{n:Nat}{rows:List R}{t:TL}(h:ch n rows t)(g:List Nm):ch n rows {t with aT:=g}:=
 ⟨⟨h.aZ.b,h.aZ.c,h.aZ.r,h.aZ.v,h.aZ.lt,h.aZ.nd⟩,h.ok,h.ln,h.Ge,h.ky⟩
theorem P1{q:Rat}(b:q≠0):((q.num.sign:Int):Rat)=ja q:=by
 unfold ja;have h1:=IA (w:=1) (.inl rfl) b;have a:(1:Int) * q.num.sign > 0↔0 < q:=by rw [h1.2];have:((1:Int):Rat)=1:=rfl;rw [this,Vd]
 rw [TD] at a;rcases tp q with e | e | e
 .rw [e,if_pos (a.1 (by rw [e];decide))];rfl
 .rw [e,if_neg (λh=>by have:=a.2 h;rw [e] at this;exact absurd this (by decide))];rfl
 .exact absurd ((jz q).1 e) b
theorem IB{q:Rat}(a:q≠0):q.num.sign=1\/q.num.sign= -1:=by
 rcases tp q with e | e | e
 .exact .inl e
 .exact .inr e
 .exact absurd ((jz q).1 e) a
section
variable {n:Nat} {rows:List R} {gl:List Int} {t:TL}
theorem mg.self(go:tT n rows gl)(h:mg n rows gl t){v:Nat}(hv:v < n+rows.length)(g:nv (aF t.aT v)≠0)(a:fp n rows t.val v (nv (aF t.aT v)).num.sign=true):
  oO n rows v (iN (nv (aF t.aT v)).num.sign)=false:=by
 have m:=h.nb g;have c:=h.tok.ok.fix v hv (λi hi e=>m (by rw [<-e];exact jK h.tok.aZ hi));have o:=IB g;have p:(nv (aF t.aT v)).num.sign≠0:=by rcases o with e | e <;> rw [e] <;> decide
 rw [yY t v p] at a;unfold oO;rcases o with e | e
 .rw [e] at a⊢;rw [if_pos (by decide)] at a;have h1:¬nv (iN 1) < 0:=by
   show ¬((1:Int):Rat) < 0;have:((1:Int):Rat)=1:=rfl;rw [this];grind
  rw [if_neg h1];rcases a with b | b
  .have b:v < n:=b;simp [b]
  .by_cases j:v < n
   .simp [j]
   .unfold Sy.fx at c;have d:¬v < (aQ n rows).n:=j;rw [if_neg d] at c;rw [c] at b;exact absurd b (xX _)
 .rw [e] at a⊢;rw [if_neg (by decide)] at a;have h1:nv (iN (-1)) < 0:=by
   show((-1:Int):Rat) < 0;have:((-1:Int):Rat)= -1:=rfl;rw [this];grind
  rw [if_pos h1];cases l:e9 n rows v
  .rfl
  .have k:=lV.1 l;rcases a with b | b | b
   .exact absurd b k.1
   .exact absurd k.2 b
   .unfold Sy.fx at c;have d:¬v < (aQ n rows).n:=k.1;rw [if_neg d] at c;rw [c] at b;exact absurd b (xX _)
theorem Dt(h:ch n rows t)(k2:∀r∈rows,r.kd≠2){u:Nat}(j:u < n+rows.length){q:Rat}(g:q≠0):
  fp n rows t.val u (1 * q.num.sign)=true↔(aQ n rows).tN t.st q u:=by
 have h1:=rV (n:=n) (rows:=rows) t (w:=1) (.inl rfl) g (v:=u);have d:((1:Int):Rat) * q=q:=by have:((1:Int):Rat)=1:=rfl;rw [this,Vd]
 rw [d] at h1;rw [h1];have hz:=z0 h k2 j;have up:(aQ n rows).rz t.st u↔(aQ n rows).yy t.st u:=by
  unfold Sy.rz Sy.yy;by_cases b:u < n
  .exact⟨λ_=> .inl b,λ_=> .inl b⟩
  .have hk:=k2 _ (gJ (rows:=rows) (i:=u - n) (by omega));have c:(aQ n rows).up u= ((aQ n rows).to (u - n),0):=VO rfl (if_neg hk);rw [c];unfold cH bV.val;rw [hz];constructor
   .rintro(a | a | ⟨_,a⟩)
    .exact .inl a
    .exact .inr a
    .exact absurd a (by grind)
   .rintro(a | a)
    .exact .inl a
    .exact .inr (.inl a)
 have dn:(aQ n rows).ry t.st u↔(aQ n rows).yc t.st u:=by
  unfold Sy.ry Sy.yc;by_cases b:u < n
  .exact⟨λ_=> .inl b,λ_=> .inl b⟩
  .have hk:=k2 _ (gJ (rows:=rows) (i:=u - n) (by omega));have c:(aQ n rows).up u= ((aQ n rows).to (u - n),0):=VO rfl (if_neg hk);rw [c];unfold cH bV.val;rw [hz];constructor
   .rintro(a | a | a | ⟨_,a⟩)
    .exact .inl a
    .exact .inr (.inl a)
    .exact .inr (.inr a)
    .exact absurd a (by grind)
   .rintro(a | a | a)
    .exact .inl a
    .exact .inr (.inl a)
    .exact .inr (.inr (.inl a))
 unfold Sy.Can Sy.tN;rw [up,dn]
theorem mg.step(go:tT n rows gl)(h:mg n rows gl t){v:Nat}(hen:bx n rows t.val 1 t.aT 0=some v)(hfd:(eI n rows t v (nv (aF t.aT v)).num.sign).2.2=true):
  mg n rows gl (iX n rows v (nv (aF t.aT v)).num.sign t)/\∃i,(aQ n rows).rN t.st (λu=>nv (aF t.aT u)) (iX n rows v (nv (aF t.aT v)).num.sign t).st i v:=by
 obtain⟨_,m,e3,x,e5⟩:=mB hen;rw [Te] at e3 x;rw [TD] at x;rw [Sn,h.len] at m;have hself:=h.self go m e3 x;have w:=h.nb e3;have hvB:¬t.st.lr rows.length v:=λ⟨i,hi,e⟩=>w (by rw [<-e];exact jK h.tok.aZ hi);have hw:=IB e3;have hsw:=P1 e3;generalize hwv:(nv (aF t.aT v)).num.sign=ao at *
 have hwne:(ao:Rat)≠0:=by
  rcases hw with rfl | rfl
  .have:((1:Int):Rat)=1:=rfl;rw [this];grind
  .have:((-1:Int):Rat)= -1:=rfl;rw [this];grind
 rcases Np h.tok go.k2 (v:=v) (ao:=ao) hself with⟨hf,_⟩ | ⟨i,hi,l1,l2,l3,l4,l5⟩
 .rw [hf] at hfd;cases hfd
 .have hd0:t.st.c i v * (ao:Rat)≠0:=by
   rcases l3.2 with A | ⟨A,_⟩
   .intro H;rw [H] at A;exact absurd A (by grind)
   .intro H;rw [H] at A;exact absurd A (by grind)
  have hc0:nv (aF (ay t.ak i) v)≠0:=λH=>hd0 (by
   show nv (aF (ay t.ak i) v) * (ao:Rat)=0;rw [H,T6])
  have P:=l3.1;have N:t.st.ah i < n+rows.length:=h.tok.ok.wf.hb i hi;have hg:=lH (t:=t) (i:=i) (by rw [h.tok.aZ.b];exact hi);have I:=zo h.tok go.k2 hi l3;rw [<-l4] at I;have T:nv (eI n rows t v ao).2.1.1=cv n rows t v ao i:=congrArg Prod.fst I;have hfz:nv (eI n rows t v ao).2.1.2=0:=congrArg Prod.snd I;have X:iX n rows v ao t=fI i v (t.st.ah i) (bX (ay t.ak i) v (t.st.ah i)) false (dA v (fE (eI n rows t v ao).2.1 (iN ao)) t):=by unfold iX;rw [l1,if_pos (by omega),Sr]
  have hk:=go.k2 _ (gJ (rows:=rows) (i:=t.st.ah i - n) (by omega));have hfx:(aQ n rows).fx (t.st.ah i)= ((aQ n rows).to (t.st.ah i - n),0):=by unfold Sy.fx;have hn':¬t.st.ah i < (aQ n rows).n:=T2.2 P;rw [if_neg hn'];unfold Sy.up;refine VO rfl ?_;exact if_neg hk
  have hval:vv (aH (dA v (fE (eI n rows t v ao).2.1 (iN ao)) t).val (t.st.ah i))= (aQ n rows).fx (t.st.ah i):=by
   rw [wI h.tok.aZ v _ m w hg,hfx];have hz:=z0 h.tok go.k2 N;refine VO ?_ ?_
   .show t.st.y (t.st.ah i)+nv (eI n rows t v ao).2.1.1 * (ao:Rat) * t.st.c i v= (aQ n rows).to (t.st.ah i - n);rw [T];unfold cv;rw [SF];have:=Vm _ hd0;grind
   .show t.st.z (t.st.ah i)+nv (eI n rows t v ao).2.1.2 * (ao:Rat) * t.st.c i v=0;rw [hfz,hz];grind
  obtain⟨p1,p2⟩:=h.tok.HA (i:=i) (v:=v) (fE (eI n rows t v ao).2.1 (iN ao)) false hi m hc0 hval;have L:(iX n rows v ao t).aT=iF (bX (ay t.ak i) v (t.st.ah i)) v t.aT:=by rw [X];rfl
  rw [<-X] at p1 p2;have K:t.st.ah i≠v:=λe=>w (by rw [<-e];exact jK h.tok.aZ hi);have hrow:=h.tok.aZ.row hi;have hpl:(bX (ay t.ak i) v (t.st.ah i)).length=n+rows.length:=by unfold bX;simp;exact hrow
  have hpr:∀k,k < n+rows.length->nv (aF (bX (ay t.ak i) v (t.st.ah i)) k)=fH (t.st.c i) (t.st.ah i) v k:=λk hk=>HD (by omega) (by omega) (by omega) K;have U:∀k,k < n+rows.length->nv (aF (iX n rows v ao t).aT k)=ju (fH (t.st.c i) (t.st.ah i) v) v (λu=>nv (aF t.aT u)) k:=λk hk=>by
   rw [L,IV (by rw [hpl,h.len]) (by rw [h.len];exact m) (by rw [h.len];exact hk) (by rw [hpr v m];exact sV K)];unfold ju;by_cases l:k=v
   .rw [if_pos l,if_pos l]
   .rw [if_neg l,if_neg l];show _+ _ * nv (aF (bX (ay t.ak i) v (t.st.ah i)) k)=_;rw [hpr k hk]
  have hy':∀k,k < n+rows.length->(iX n rows v ao t).st.y k=t.st.y k+cv n rows t v ao i * t.st.dir rows.length v (ao:Rat) k:=by
   intro k hk;have e:(iX n rows v ao t).st.y k=nv (aH (dA v (fE (eI n rows t v ao).2.1 (iN ao)) t).val k).1:=by rw [X];rfl
   rw [e];by_cases W:k∈t.ah
   .obtain⟨j,a,e,hgj⟩:=nO h.tok.aZ W;have G:t.st.dir rows.length v (ao:Rat) (t.st.ah j)=t.st.c j v * (ao:Rat):=DR (S:=aQ n rows) h.tok.ok (ao:Rat) a hvB;rw [wI h.tok.aZ v _ m w hgj,<-e,G];show t.st.y (t.st.ah j)+nv (eI n rows t v ao).2.1.1 * (ao:Rat) * t.st.c j v=_;rw [T];grind
   .rw [AF h.tok.aZ v _ m W];by_cases l:k=v
    .rw [if_pos l,l,DT];show t.st.y v+nv (eI n rows t v ao).2.1.1 * (ao:Rat)=_;rw [T]
    .rw [if_neg l,DS t.st (ao:Rat) l (λ⟨j,a,e⟩=>W (by rw [<-e];exact jK h.tok.aZ a)),Tm,U0];rfl
  have C: 0<=cv n rows t v ao i:=by
   obtain⟨E,r⟩:=h.fe _ P N;unfold cv;refine HP ?_;rcases l3.2 with A | ⟨_,A⟩
   .refine .inl ⟨A, ?_⟩;have:t.st.y (t.st.ah i)<=(aQ n rows).to (t.st.ah i - n):=E;grind
   .refine .inr ?_;have:t.st.y (t.st.ah i)= (aQ n rows).to (t.st.ah i - n):=r A;grind
  refine⟨⟨p1, ?_,⟨λj a=> ?_,λy hy=> ?_⟩,λu p M=> ?_⟩,i, ?_⟩
  .rw [L,IW];exact h.len
  .have hbj:(iX n rows v ao t).st.ah j < n+rows.length:=p1.ok.wf.hb j a;show nv (aF (iX n rows v ao t).aT ((iX n rows v ao t).st.ah j))=0;rw [U _ hbj,p2 j];unfold ju fZ;by_cases V:j=i
   .rw [if_pos V,if_pos rfl]
   .rw [if_neg V];have F:t.st.ah j≠v:=λe=>w (by rw [<-e];exact jK h.tok.aZ a);have hne2:t.st.ah j≠t.st.ah i:=λe=>V (h.tok.ok.wf.inj j i a hi e);rw [if_neg F];have h1:nv (aF t.aT (t.st.ah j))=0:=h.g.z j a;have q:fH (t.st.c i) (t.st.ah i) v (t.st.ah j)=0:=by
     unfold fH;rw [if_neg hne2,if_neg F,h.tok.ok.wf.z i j hi a,SF];grind
    show nv (aF t.aT (t.st.ah j))+nv (aF t.aT v) * fH (t.st.c i) (t.st.ah i) v (t.st.ah j)=0;rw [h1,q];grind
  .have h1:=h.g.same y hy;show sm (n+rows.length) (λk=>nv (aF (iX n rows v ao t).aT k) * y k)=_;rw [eJ (g:=λk=>ju (fH (t.st.c i) (t.st.ah i) v) v (λu=>nv (aF t.aT u)) k * y k) (λk hk=>by rw [U k hk])];rw [AY m (sV K),HG N m K (h.tok.ok.wf.z i i hi hi) hc0];have q:y (t.st.ah i)=sm (n+rows.length) (λk=>t.st.c i k * y k):=(h.tok.ok.wf.same y).2 hy i hi;rw [<-q];have h3:sm (n+rows.length) (λk=>nv (aF t.aT k) * y k)=sm n (λk=>gR gl k * y k):=h1;show _=sm n (λk=>gR gl k * y k);rw [<-h3,SF];grind
  ·
   have p:n<=u:=p;have M:u < n+rows.length:=M;obtain⟨E,r⟩:=h.fe u p M;show(iX n rows v ao t).st.y u<=(aQ n rows).to (u - n)/\((aQ n rows).kd (u - n)=3->(iX n rows v ao t).st.y u= (aQ n rows).to (u - n));have E:t.st.y u<=(aQ n rows).to (u - n):=E;have r:(aQ n rows).kd (u - n)=3->t.st.y u= (aQ n rows).to (u - n):=r;rw [hy' u M];by_cases Z:u=v
   .rw [Z,DT];rw [Z] at E r p;have hwm:ao= -1/\(aQ n rows).kd (v - n)≠3:=by
     have D:=h.tok.ok.fix v m (λi hi e=>w (by rw [<-e];exact jK h.tok.aZ hi));unfold Sy.fx at D;have J:¬v < (aQ n rows).n:=T2.2 p;rw [if_neg J] at D;have hw0:ao≠0:=by rcases hw with e | e <;> rw [e] <;> decide
     rw [yY t v hw0] at x;rcases hw with e | e
     .rw [e,if_pos (by decide)] at x;rcases x with o | o
      .exact absurd o J
      .rw [D] at o;exact absurd o (xX _)
     .rw [e,if_neg (by decide)] at x;rcases x with o | o | o
      .exact absurd o J
      .exact⟨e,o⟩
      .rw [D] at o;exact absurd o (xX _)
    refine⟨?_,λs=>absurd s hwm.2⟩;rw [hwm.1];have:((-1:Int):Rat)= -1:=rfl;rw [hwm.1] at C;rw [this];grind
   .by_cases hub:u∈t.ah
    .obtain⟨j,a,e,_⟩:=nO h.tok.aZ hub;have G:t.st.dir rows.length v (ao:Rat) (t.st.ah j)=t.st.c j v * (ao:Rat):=DR (S:=aQ n rows) h.tok.ok (ao:Rat) a hvB;rw [<-e,G];rw [<-e] at E r p;generalize Q:t.st.c j v * (ao:Rat)=d;have key:hZ n rows t v ao j->cv n rows t v ao i<=((aQ n rows).to (t.st.ah j - n) - t.st.y (t.st.ah j)) * d⁻¹:=λhB=>by
      have:=(l5 j a hB).1;unfold cv at this⊢;rw [SF _ (t.st.c j v * (ao:Rat)),Q] at this;exact this
     have htri:d < 0\/0 < d\/d=0:=by grind
     rcases htri with B | B | B
     ·
      constructor
      .have:=TU C (show 0<= -d by grind);grind
      .intro s;have hy0:=r s;have h1:=key ⟨p, .inr ⟨by rw [Q];exact B,s⟩⟩;rw [hy0] at h1⊢;have q:cv n rows t v ao i=0:=by grind
       rw [q];grind
     .have hB:hZ n rows t v ao j:=⟨p, .inl (by rw [Q];exact B)⟩;have h1:=key hB;have q:=UQ h1 (Tn B);have h3:=UP d (λH=>by rw [H] at B;exact absurd B (by grind));have h4:cv n rows t v ao i * d<=(aQ n rows).to (t.st.ah j - n) - t.st.y (t.st.ah j):=by
       rw [Rat.mul_assoc,h3,Rat.mul_one] at q;exact q
      refine⟨by grind,λs=> ?_⟩;have hy0:=r s;have h5:=TU C (Tn B);rw [hy0] at h4⊢;grind
     .rw [B,Tm,U0];exact⟨E,r⟩
    .rw [DS t.st (ao:Rat) Z (λ⟨j,a,e⟩=>hub (by rw [<-e];exact jK h.tok.aZ a)),Tm,U0];exact⟨E,r⟩
  .have Y:ja ((λu=>nv (aF t.aT u)) v)= (ao:Rat):=hsw.symm;refine⟨hi,m,e3, ?_,λu hu F=> ?_,P, ?_,λj a hbnj O=> ?_,funext p2,λk hk=> ?_⟩
   .have hw1:fp n rows t.val v (1 * (nv (aF t.aT v)).num.sign)=true:=by rw [TD,hwv];exact x
    exact(Dt h.tok go.k2 m e3).1 hw1
   .intro o;have h1:=e5 u (Vt _) hu (by rw [Te];exact F);rw [Te] at h1;have q:=(Dt h.tok go.k2 (by omega) F).2 o;rw [h1] at q;cases q
   .rw [Y];exact l3.2
   .rw [Y] at O⊢;exact l5 j a ⟨hbnj,O⟩
   .rw [Y];exact hy' k hk
end
open Go Go.Aev Go.Aev.Gen Go.Aev.Wd Go.Aev.Tb
open Go Go.Aev Go.Aev.Gen
end Go.Aev.Wd.Lg
namespace Go.Aev.Gen
open Go Go.Aev
structure cS (n:Nat) (r:R):Prop where
 e:r.e=true->r.of= []
 kd:r.kd=1\/r.kd=2\/r.kd=3
 len:r.of.length<=n
 of:Bd 1000000 r.of
 tv: -1000000<=r.tv/\r.tv<=1000000
theorem Dx:∀{l:List Int} {i:Nat},(jM l i).1=0->∀x∈l, -1000000<=x/\x<=1000000
 | [],_,_,x,a=>by cases a
 | y::l,i,h,x,a=>by
  rw [jM] at h;split at h
  .rename_i hy;rcases RV.1 a with rfl | a
   .exact hy
   .exact Dx h x a
  .simp at h
theorem y8:∀{l:List Int} {i:Nat},(∀x∈l, -1000000<=x/\x<=1000000)->(jM l i).1=0
 | [],_,_=>rfl
 | y::l,i,h=>by rw [jM,if_pos (h y RL)];exact y8 (λx a=>h x (RM _ a))
theorem KB{n:Nat}{r:R}(a:r.e=true->r.of= [])(h:(gp n r).1=0):cS n r:=by
 unfold gp at h;split at h
 .simp at h
 .rename_i hk;split at h
  .simp at h
  .have:=Dx h;exact⟨a,by omega,by omega,λx b=>this x (RY _ b),this r.tv (by simp)⟩
theorem DA{n:Nat}:∀{rows:List R} {i:Nat},(∀r∈rows,r.e=true->r.of= [])->(mq n rows i).1=0->∀r∈rows,cS n r
 | [],_,_,_,r,hr=>by cases hr
 | q::rows,i,b,h,r,hr=>by
  rw [mq] at h;split at h
  .rename_i a;rcases RV.1 hr with rfl | hr
   .exact KB (b _ RL) a
   .exact DA (λr hr=>b r (RM _ hr)) h r hr
  .rename_i a;exact absurd h a
def iO(n:Int)(rows:List R):Int×Int:=if n < 0\/n > 12 then(3, -1) else rY n.toNat rows
theorem Bt(rows:List R)(e:Bool)(n:Int)(hr:∀r∈rows,r.e=true->r.of= []):Or (.call 10) [LR e rows,I n] []=fl (iO n rows):=by
 unfold iO;by_cases h:n < 0\/n > 12
 .rw [if_pos h];refine an ?_;rw [Ep];simp only [im,<-S7];simp only [aj,↓reduceIte,Int.reduceBEq,Int.reduceEq,GD,h]
 .rw [if_neg h];have:=PI rows n.toNat e (by omega) hr;rw [Int.toNat_of_nonneg (by omega)] at this;exact this
theorem Dy{n:Int}{rows:List R}(hr:∀r∈rows,r.e=true->r.of= [])(h:(iO n rows).1=0): 0<=n/\n<=12/\rows.length<=40/\∀r∈rows,cS n.toNat r:=by
 unfold iO at h;split at h
 .simp at h
 .unfold rY at h;split at h
  .simp at h
  .exact⟨by omega,by omega,by omega,DA hr h⟩
end Go.Aev.Gen
namespace Go.Aev.Wd.Lg
open Go Go.Aev Go.Aev.Gen Go.Aev.Wd
abbrev bo(r:R):List Int×Int×Int:=(r.of,r.kd,r.tv)
def z5(r:List Int×Int×Int)(l:List Fr):Bool:=decide ((tB r.1 l 0 < (r.2.2:Rat)/\r.2.1≠3)\/(tB r.1 l 0= (r.2.2:Rat)/\r.2.1≠2))
open Go Go.Aev Go.Aev.Gen Go.Aev.Wd Go.Aev.Tb
def fN(x:Fr):Nm:=some (dI x)
theorem OI{x:Fr}(h:oC x):Or (.call 70) [AV.agg [I x.1,I x.2]] []=some (NL (fN x)):=Qt x.1 x.2 (by unfold oC at h;omega) (by unfold oC at h;omega) (by unfold oC at h;omega)
theorem ME{x:Fr}(h:oC x):QN 30 (fN x):=MM h.1 h.2
def b9:List Int->List Rat->Rat
 | c::of,x::xs=>(c:Rat) * x+b9 of xs
 | _,_=>0
theorem vu(xs:List Rat):b9 [] xs=0:=by cases xs <;> rfl
theorem QJ(er e:Bool)(of:List Int)(l:List Fr)(hb:∀c∈of, -1000000<=c/\c<=1000000)(D:∀x∈l,oC x)(hl:of.length<=l.length)(hn:of.length<=12)(z:Nm):
  ∀(a:List Int) (i:Nat) (b:Nm) (k:Nat),of.drop i=a->QN k b->k+51 * a.length<=6300->
  ∃y,Or yv [LN e l,r0,AV.ref (Id.c 1) 0,ae er of,I (of.length:Int),I (i:Int)] [ny z,ny b]=some (NL y)/\nv y=nv b+b9 a ((l.drop i).map dI)/\QN (k+51 * a.length) y:=by
 intro a;induction a with
 | nil=>
  intro i b k h g hk;have h1:¬(i:Int) < (of.length:Int):=by have:=bU h;omega
  refine⟨b,an ?_,by rw [vu];grind,g.mono (by omega)⟩;rw [E3];simp only [aj,↓reduceIte,Int.reduceBEq,Int.reduceEq,GD,h1]
 | cons c a E=>
  intro i b k h g hk;obtain⟨p,K,w⟩:=bR h;rw [Sc,Nat.mul_add,Wn] at hk;have h1:(i:Int) < (of.length:Int):=by omega
  have A: 0<=(i:Int):=by omega
  have B:(i:Int) < (l.length:Int):=by omega
  have J:=hb c (RN p);have r:=nY c (by omega);have m:QN 20 (iN c):=kQ (by omega);obtain⟨x,d⟩:∃x,l[i]? =some x:=⟨_,RR (by omega)⟩;have j:=D x (RN d);have q:=OI j;have o:=ME j;have u:=wT m o (by omega);have s:=AT (x:=b) (y:=tm (iN c) (fN x)) g (m.mul o) (by omega);obtain⟨y,F,G,H⟩:=E (i+1) (pl b (tm (iN c) (fN x))) (k+51) w ((g.add (m.mul o)).mono (by omega)) (by omega);have C:(l.drop i).map dI=dI x:: (l.drop (i+1)).map dI:=by
   have:l.drop i=x::l.drop (i+1):=by rw [TW (by omega)];congr 1;rw [RR (by omega)] at d;exact Tx d
   rw [this];rfl
  refine⟨y,an ?_, ?_,by rw [Sc,Nat.mul_add,Wn];exact H.mono (by omega)⟩
  .rw [E3];simp only [aj,↓reduceIte,Int.reduceBEq,Int.reduceEq,GD,h1,A,B,and_self,bH,dE p,r,vL,EP d,q,u,s,next i (by omega)];exact F
  .rw [G,C,b9];show nv b+ (c:Rat) * dI x+ _=_;grind
theorem Rb(r:R)(n:Nat)(hn:n<=12)(ok:cS n r):Or (.call 31) [AV.agg [ae r.e r.of,I r.kd,I r.tv],I (n:Int)] []=some [ti 0,ti 0]:=by
 have b:=Bu r n hn ok.e;have c:gp n r= (0,0):=by
  have h1:=ok.kd;have g:=ok.len;unfold gp;rw [if_neg (by omega),if_neg (by omega)];have:∀(m:List Int) (i:Nat),(∀x∈m, -1000000<=x/\x<=1000000)->jM m i= (0,0):=by
   intro m;induction m with
   | nil=>intro i _;rfl
   | cons y m d=>intro i h;rw [jM,if_pos (h y RL)];exact d _ λx a=>h x (RM _ a)
  refine this _ 0 λx a=> ?_;rcases RX.1 a with a | a
  .exact ok.of x a
  .rw [RP.1 a];exact ok.tv
 rw [c] at b;exact b
theorem QI(e:Bool)(l:List Fr)(hl:l.length<=100)(j:∀x∈l,eU x):∀(a:List Fr) (i:Nat),l.drop i=a->Or uF [r0,LN e l,I (l.length:Int),I (i:Int)] [ab.box [I 0,I 0]]=some [ti 0,ti 0]:=by
 intro a;induction a with
 | nil=>
  intro i h;have h1:¬(i:Int) < (l.length:Int):=by have:=bU h;omega
  refine an ?_;rw [E0];simp only [aj,↓reduceIte,Int.reduceBEq,Int.reduceEq,GD,h1]
 | cons x a k=>
  intro i h;obtain⟨b,m,d⟩:=bR h;have h1:(i:Int) < (l.length:Int):=by omega
  have g: 0<=(i:Int):=by omega
  have c:=tg x;rw [if_pos (j x (RN b))] at c;refine an ?_;rw [E0];simp only [aj,↓reduceIte,Int.reduceBEq,Int.reduceEq,GD,h1,g,and_self,vL,EP b,c,next i (by omega)];exact k (i+1) d
def jU(r:R)(q:Rat):Bool:=if r.kd=1 then decide (q<=(r.tv:Rat)) else if r.kd=2 then decide (q < (r.tv:Rat)) else decide (q= (r.tv:Rat))
theorem QY(r:R)(e:Bool)(l:List Fr)(hn:l.length<=12)(ok:cS l.length r)(q:∀x∈l,eU x):
  Or (.call 13) [AV.agg [ae r.e r.of,I r.kd,I r.tv],LN e l] []=some [tb (jU r (b9 r.of (l.map dI))),ti 0,ti 0]:=by
 have s:=Rb r l.length hn ok;have j:=QI e l (by omega) q l 0 rfl;have a:Or (.call 33) [AV.agg [ae r.e r.of,I r.kd,I r.tv],LN e l] []=some [ti 0,ti 0]:=by refine an ?_;rw [Md];simp only [aj,↓reduceIte,Int.reduceBEq,Int.reduceEq,GD,vL,s];exact j
 have C:=ok.len;have G:=ok.tv;obtain⟨y,D,E,F⟩:=QJ r.e e r.of l ok.of (λx h=>(q x h).b) ok.len (by omega) none r.of 0 none 0 rfl (mb 0) (by omega);have c:Or (.call 34) [AV.agg [ae r.e r.of,I r.kd,I r.tv],LN e l] []=some (NL y):=an (by rw [Me,bH];exact D);have g:=nY r.tv (by omega);have d:=xE (x:=y) (y:=iN r.tv) (m:=0+51 * r.of.length) (k:=20) F (kQ (by omega)) (by omega);have hy:nv y=b9 r.of (l.map dI):=by rw [E,Hg,Vp];grind
 have hv:nv (iN r.tv)= (r.tv:Rat):=rfl;rw [hy,hv] at d;have u:=rZ (b9 r.of (l.map dI)) (r.tv:Rat);have w:=p6 (b9 r.of (l.map dI)) (r.tv:Rat);have p:=za (b9 r.of (l.map dI)) (r.tv:Rat);have z:decide (cq (b9 r.of (l.map dI)) (r.tv:Rat)<=0)=decide (b9 r.of (l.map dI)<=(r.tv:Rat)):=by refine decide_eq_decide.2 ⟨λh=>VZ.1 λo=>by have:=p.2 o;omega,λh=>Int.not_lt.1 λo=>by have:=p.1 o;grind⟩
 have A:decide (cq (b9 r.of (l.map dI)) (r.tv:Rat) < 0)=decide (b9 r.of (l.map dI) < (r.tv:Rat)):=decide_eq_decide.2 u;have B:(cq (b9 r.of (l.map dI)) (r.tv:Rat)==0)=decide (b9 r.of (l.map dI)= (r.tv:Rat)):=by rw [rU];exact decide_eq_decide.2 w
 unfold jU;by_cases h1:r.kd=1
 .rw [if_pos h1];refine an ?_;rw [zJ];simp only [aj,↓reduceIte,Int.reduceBEq,Int.reduceEq,GD,a,c,g,d];rw [if_pos h1,z]
 .by_cases i:r.kd=2
  .rw [if_neg h1,if_pos i];refine an ?_;rw [zJ];simp only [aj,↓reduceIte,Int.reduceBEq,Int.reduceEq,GD,a,c,g,d];rw [if_neg h1,if_pos i,A]
  .rw [if_neg h1,if_neg i];refine an ?_;rw [zJ];simp only [aj,↓reduceIte,Int.reduceBEq,Int.reduceEq,GD,a,c,g,d];rw [if_neg h1,if_neg i,B]
open Go Go.Aev Go.Aev.Gen Go.Aev.Wd Go.Aev.Tb
section
variable (er e:Bool) (rows:List R) (ts:List Nm) {n:Nat}
end
section
variable {n:Nat} (rows:List R) (er eg ep et:Bool) (gl:List Int) (v:Fr) (point times:List Fr)
end
open Go Go.Aev Go.Aev.Gen Go.Aev.Wd Go.Aev.Tb
def iT(x:Nm):Fr:=if fy (nv x)=true then((nv x).num,((nv x).den:Int)) else(0,0)
theorem OJ{m:Nat}{x:Nm}(b:QN m x)(h:m<=6300):Or (.call 29) [EN x] []=some [ti (iT x).1,ti (iT x).2,tb (fy (nv x))]:=by
 have:=Qv b h;unfold iT;cases a:fy (nv x)
 .rw [a] at this;exact this
 .rw [a] at this;exact this
theorem QV(e:Bool)(l:List Nm)(hl:l.length<=1000){m:Nat}(s:∀x∈l,QN m x)(hm:m<=6300):∀(a dn:List Nm) (i:Nat) (b:Bool),l.drop i=a->dn.length=i->dn++a=l->b=dn.all (λx=>fy (nv x))->
  Or uH [AV.own (Id.c 0),B b,AV.t (T.ae 4 e (bg l)),I (l.length:Int),I (i:Int)] [ab.sl false 2 (decide (dn= [])) (eZ (dn.map iT))]=some [T.ae 2 (decide (l= [])) (eZ (l.map iT)),tb (l.all λx=>fy (nv x))]:=by
 intro a;induction a with
 | nil=>
  intro dn i b h r d hb;have h1:¬(i:Int) < (l.length:Int):=by have:=bU h;omega
  rw [SN] at d;subst d;rw [<-hb];refine an ?_;rw [E7];simp only [aj,↓reduceIte,Int.reduceBEq,Int.reduceEq,GD,h1]
 | cons x a u=>
  intro dn i b h r d hb;obtain⟨g,y,o⟩:=bR h;have h1:(i:Int) < (l.length:Int):=by omega
  have p: 0<=(i:Int):=by omega
  have w:=OJ (s x (RN g)) hm;have s1:bw 16 ((eZ (dn.map iT)).length+ [[ti (iT x).1,ti (iT x).2]].length)=some ():=iD (by rw [vL];simp;omega);have q:eZ (dn.map iT)++ [[ti (iT x).1,ti (iT x).2]]=eZ ((dn++ [x]).map iT):=by simp [eZ]
  have:=u (dn++ [x]) (i+1) (if b=true then fy (nv x) else false) o (by simp;omega) (by simpa using d) (by rw [hb,List.all_append];cases dn.all (λx=>fy (nv x)) <;> simp);have k:decide (dn++ [x]= [])=false:=by simp
  rw [k] at this;have j:(bif b then fy (nv x) else false)=if b=true then fy (nv x) else false:=by cases b <;> rfl
  refine an ?_;rw [E7];simp only [aj,↓reduceIte,Int.reduceBEq,Int.reduceEq,GD,h1,p,and_self,dP,fU g,w,s1,q,j,next i (by omega)];exact this
theorem BW(e:Bool)(l:List Nm)(hl:l.length<=1000){m:Nat}(a:∀x∈l,QN m x)(hm:m<=6300):
  Or (.call 17) [AV.t (T.ae 4 e (bg l))] []=some [T.ae 2 (decide (l= [])) (eZ (l.map iT)),tb (l.all λx=>fy (nv x))]:=by
 have:=QV e l hl a hm l [] 0 true rfl rfl rfl rfl;refine an ?_;rw [Mk,dP];exact this
open Go Go.Aev Go.Aev.Gen Go.Aev.Wd Go.Aev.Tb
open Go Go.Aev Go.Aev.Gen Go.Aev.Wd Go.Aev.Tb
theorem q1:Rat.divInt 0 1=0:=rfl
section
variable (rows:List R) (er eg ep et:Bool) (n:Nat) (gl:List Int) (v:Fr) (point times:List Fr)
theorem HC(q:Rat):(q.num.sign > 0)↔0 < q:=by
 have h1:=Og q;have a:=jz q;rcases tp q with e | e | e
 .rw [e] at h1 a⊢;refine⟨λ_=> ?_,λ_=>by decide⟩;have c:¬q < 0:=λh=>absurd (h1.2 h) (by decide);have b:q≠0:=λh=>absurd (a.2 h) (by decide);grind
 .rw [e] at h1⊢;refine⟨λh=>absurd h (by decide),λh=> ?_⟩;have:=h1.1 (by decide);exact absurd h (by grind)
 .rw [e] at a⊢;refine⟨λh=>absurd h (by decide),λh=> ?_⟩;have:=a.1 rfl;rw [this] at h;exact absurd h (by grind)
end
end Go.Aev.Wd.Lg
