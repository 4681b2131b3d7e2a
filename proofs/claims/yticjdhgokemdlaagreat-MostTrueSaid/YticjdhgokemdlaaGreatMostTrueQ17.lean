import Derived.Test.YticjdhgokemdlaaGreatMostTrueQ16
set_option linter.all false
namespace Go.Aev.Wd.Lg
open Go Go.Aev Go.Aev.Gen Go.Aev.Wd Go.Aev.Tb Go.IntKind
abbrev S3(n:Nat)(rows:List R)(f:Fl)(t:TL)(a:Bool)(go:List (List T)):List ab:=
 [ab.box [I (n:Int),AV.t (T.aa 3 f.er (dK rows)),AV.own (Id.c 1),AV.own (Id.c 2),AV.own (Id.c 3),AV.own (Id.c 4),AV.own (Id.c 6)],ab.sl false 1 f.eb (cX t.ah),ab.mp false [Ck.i .i64] (Ck.i .i64) (bZ t.mp),
  ab.rows f.ec 1 0 4 t.al.length (bK 0 t.al),ab.sl false 8 f.ev (eB t.val),ab.sl false 4 a go,ab.sl false 4 f.eg (aS t.aB)]
abbrev S4(n:Nat)(rows:List R)(f:Fl)(t:TL)(a:Bool)(go:List (List T)):List ab:=
 [ab.box [I (n:Int),AV.t (T.aa 3 f.er (dK rows)),AV.own (Id.c 1),AV.own (Id.c 2),AV.own (Id.c 6),AV.own (Id.c 4),AV.own (Id.c 7)],ab.sl false 1 f.eb (cX t.ah),ab.mp false [Ck.i .i64] (Ck.i .i64) (bZ t.mp),
  ab.dead,ab.sl false 8 f.ev (eB t.val),ab.sl false 4 a go,ab.rows f.ec 1 0 4 t.al.length (bK 0 t.al),ab.sl false 4 f.eg (aS t.aB)]
abbrev LY(n:Nat)(rows:List R)(f:Fl)(t:TL)(a:Bool)(go:List (List T)):List ab:=
 [ab.box [I (n:Int),AV.t (T.aa 3 f.er (dK rows)),AV.own (Id.c 1),AV.own (Id.c 2),AV.own (Id.c 7),AV.own (Id.c 4),AV.own (Id.c 6)],ab.sl false 1 f.eb (cX t.ah),ab.mp false [Ck.i .i64] (Ck.i .i64) (bZ t.mp),
  ab.dead,ab.sl false 8 f.ev (eB t.val),ab.sl false 4 a go,ab.sl false 4 f.eg (aS t.aB),ab.rows f.ec 1 0 4 t.al.length (bK 0 t.al)]
def rK(n:Nat)(rows:List R)(f:Fl)(t:TL):List T:=
 [ti (n:Int),T.aa 3 f.er (dK rows),T.ax,T.ax,bN f.ec (bK 0 t.al),T.ax,T.aa 4 f.eg (aS t.aB),T.aa 1 f.eb (cX t.ah),bS (bZ t.mp),T.aa 8 f.ev (eB t.val)]
theorem qG(n:Nat)(rows:List R)(f:Fl)(t:TL):rK n rows f t= [ti (n:Int),T.aa 3 f.er (dK rows),T.ax,T.ax,bN f.ec (bK 0 t.al),T.ax,T.aa 4 f.eg (aS t.aB),T.aa 1 f.eb (cX t.ah),bS (bZ t.mp),T.aa 8 f.ev (eB t.val)]:=rfl
def iJ(c:Nm):List Nm->List Nm->List Nm
 | a::d,g::b=>pl g (tm a c)::iJ c d b
 | _,b=>b
def js(t:TL):List Int->Nat->List Nm->List Nm
 | [],_,g=>g
 | c::cs,k,g=>js t cs (k+1) (match cv k t.mp with
  | some i=>iJ (iN c) (az t.al i) g
  | none=>g.set k (pl (aq g k) (iN c)))
theorem zG(c:Nm):∀(a g:List Nm),(iJ c a g).length=g.length
 | [],_=>by simp [iJ]
 | _::_,[]=>by simp [iJ]
 | a::l,g::r=>by simp [iJ,zG c l r]
theorem Ir{m k:Nat}{c:Nm}(i:QN 20 c):∀(a g:List Nm),(∀x∈a,QN k x)->(∀x∈g,QN m x)->∀x∈iJ c a g,QN (m+ (k+20)+1) x
 | [],g,_,d=>by intro x b;simp [iJ] at b;exact(d x b).mono (by omega)
 | _::_,[],_,_=>by intro x b;simp [iJ] at b
 | a::l,g::r,e,d=>by
  intro x b;rw [iJ] at b;rcases Vk.1 b with rfl | b
  .exact(d g U9).add ((e a U9).mul i)
  .exact Ir i l r (λx h=>e x (Va _ h)) (λx h=>d x (Va _ h)) x b
section
variable {n:Nat} {rows:List R} (f:Fl) (t:TL)
theorem Ui{mc mg:Nat}(g:cR n rows.length t)(W:n<=12)(hm:rows.length<=40)(L:∀x∈t.al,∀y∈x,QN mc y)(s:Bool)(go:List (List T))(p:Int){c:Int}(Q: -1000000<=c/\c<=1000000)(el:Bool)(gl:List Int)(k:Nat)(V:k<=1000){i:Nat}(hi:i < rows.length)
  (hs:mg+ (mc+20)+1<=6300) {res:List T} {w:List Nm}
  (q:Or rJ [r0,I p,aa el gl,I (gl.length:Int),I ((k+1:Nat):Int)] (S3 n rows f {t with aB:=w} s go)=some res):
  ∀(d a b:List Nm) (j:Nat),(az t.al i).drop j=d->b.length=j->d.length=a.length->(∀y∈a,QN mg y)->b++iJ (iN c) d a=w->
  Or Bo [r0,I p,I c,aa el gl,I (gl.length:Int),I (k:Int),AV.row (Id.c 3) i,I ((az t.al i).length:Int),I (j:Int)] (S3 n rows f {t with aB:=b++a} s go)=some res:=by
 have S:=g.c;have M:=g.row hi;have z:=jQ (al:=t.al) (i:=i) (by omega);have E:=gh c (by omega);have H:QN 20 (iN c):=eM (by omega);intro d;induction d with
 | nil=>
  intro a b j h m o hy e;have h1:¬(j:Int) < ((az t.al i).length:Int):=by have:=bm h;omega
  have A:iJ (iN c) [] a=a:=rfl;rw [A] at e;refine aj ?_;rw [HD];simp only [ai,↓reduceIte,GD,h1,next k (by omega)];rw [e];exact q
 | cons r d O=>
  intro a b j h m o hy e;obtain⟨v,U,K⟩:=bh h;cases a with
  | nil=>simp at o
  | cons y a=>
   have h1:(j:Int) < ((az t.al i).length:Int):=by omega
   have C: 0<=(j:Int):=by omega
   have D:(j:Int) < ((b++y::a).length:Int):=by simp;omega
   have B:(b++y::a)[j]? =some y:=by rw [Wo (by omega),m,XQ];rfl
   have q1:=L _ (U8 (jm (al:=t.al) (i:=i) (by omega))) r (U8 v);have P:=hy y U9;have G:=lB q1 H (by omega);have F:=mW (x:=y) (y:=tm r (iN c)) P (q1.mul H) hs;have J:=kz (l:=b++y::a) (i:=j) (by omega) (pl y (tm r (iN c)));rw [qQ _ _ _ _ _ m] at J;have:=O a (b++ [pl y (tm r (iN c))]) (j+1) K (by simp;omega) (by simpa using o) (λu N=>hy u (Va _ N)) (by rw [<-e];simp [iJ]);simp only [VI,Vc,Ve] at this;refine aj ?_;rw [HD];simp only [ai,↓reduceIte,GD,h1,C,D,and_self,z,bH,cE v,cE B,E,G,F,J,next j (by omega)];exact this
theorem Uj{mc:Nat}(j:cR n rows.length t)(M:n<=12)(hm:rows.length<=40)(v:∀x∈t.al,∀y∈x,QN mc y)(F:∀k i,cv k t.mp=some i->i < rows.length)
  (o:Bool) (go:List (List T)) (p:Int) (el:Bool) (gl:List Int) (B:∀c∈gl, -1000000<=c/\c<=1000000) (Q:gl.length<=n) {res:List T}:
  ∀(cs:List Int) (k mg:Nat) (g:List Nm),gl.drop k=cs->g.length=n+rows.length->(∀y∈g,QN mg y)->mg+ (mc+21) * cs.length<=6300->
  Or oG [r0,I p] (S3 n rows f {t with aB:=js t cs k g} o go)=some res->
  Or rJ [r0,I p,aa el gl,I (gl.length:Int),I (k:Int)] (S3 n rows f {t with aB:=g} o go)=some res:=by
 have P:=j.c;intro cs;induction cs with
 | nil=>
  intro k mg g h d e hs a;have h1:¬(k:Int) < (gl.length:Int):=by have:=bm h;omega
  refine aj ?_;rw [CI];simp only [ai,↓reduceIte,GD,h1];exact a
 | cons c cs G=>
  intro k mg g h d e hs a;obtain⟨q,S,u⟩:=bh h;have h1:(k:Int) < (gl.length:Int):=by omega
  have m: 0<=(k:Int):=by omega
  have w:=B c (U8 q);have s:QN 20 (iN c):=eM (by omega);rw [Vw,YR,Yw] at hs;have b:=uY k t.mp;rw [js] at a;cases r:cv k t.mp with
  | none=>
   rw [r] at b a;simp only at a;have E:(k:Int) < (g.length:Int):=by omega
   have H:=gh c (by omega);have K:=e _ (U8 (gL (l:=g) (i:=k) (by omega)));have J:=mW (x:=aq g k) (y:=iN c) K s (by omega);have O:=kz (l:=g) (i:=k) (by omega) (pl (aq g k) (iN c));have:=G (k+1) (mg+ (mc+21)) (g.set k (pl (aq g k) (iN c))) u (by rw [V6];exact d) (λy hy=>by
    rcases VR hy with hy | hy
    .exact(e y hy).mono (by omega)
    .subst hy;exact(K.add s).mono (by omega)) (by omega) a
   refine aj ?_;rw [CI];simp only [ai,↓reduceIte,GD,h1,m,E,and_self,bT,gy q,b,YB,VZ,Zn,bH,cE (gL (l:=g) (i:=k) (by omega)),H,J,O,next k (by omega)];exact this
  | some i=>
   rw [r] at b a;simp only at a;have hi:=F k i r;have N:=j.row hi;have D: 0<=(i:Int)/\(i:Int) < (t.al.length:Int):=by omega
   have C:=lj (al:=t.al) (i:=i) (by omega);have A:=jQ (al:=t.al) (i:=i) (by omega);have z:=v _ (U8 (jm (al:=t.al) (i:=i) (by omega)));have L:=G (k+1) (mg+ (mc+21)) (iJ (iN c) (az t.al i) g) u (by rw [zG];exact d) (λy hy=>(Ir s _ _ z e y hy).mono (by omega)) (by omega) a;have:=Ui (n:=n) (rows:=rows) f t j M hm v o go p w el gl k (by omega) hi (mg:=mg) (by omega) L (az t.al i) g [] 0 rfl rfl (by omega) e rfl;simp only [Ve] at this;refine aj ?_;rw [CI];simp only [ai,↓reduceIte,GD,h1,m,and_self,bT,gy q,b,Xg,Vx,Zo,D,cM,C,A,bH];exact this
theorem Uf{mc:Nat}(b:cR n rows.length t)(o:n<=12)(hm:rows.length<=40)(m:∀x∈t.al,∀y∈x,QN mc y)(j:∀k i,cv k t.mp=some i->i < rows.length)
  (p:Int) (el:Bool) (gl:List Int) (g:∀c∈gl, -1000000<=c/\c<=1000000) (h:gl.length<=n) (hs:(mc+21) * 12<=6300) {res:List T}
  (e:Or oG [r0,I p] (S3 n rows ⟨f.er,f.eb,f.ec,f.ev,false⟩ {t with aB:=js t gl 0 (List.replicate (n+rows.length) none)} f.eg (aS t.aB))=some res):
  Or (.call 41) [r0,aa el gl,I p] (S1 n rows f t)=some res:=by
 have d:=b.v;have a:=qy (k:=t.val.length) (by omega);have l:((t.val.length:Nat):Int).toNat=t.val.length:=by omega
 have:=Uj (n:=n) (rows:=rows) ⟨f.er,f.eb,f.ec,f.ev,false⟩ t b o hm m j f.eg (aS t.aB) p el gl g h gl 0 0 (List.replicate (n+rows.length) none) rfl (by simp)
  (λy hy=>by rw [WN hy];exact iC _) (by
   have:(mc+21) * gl.length<=(mc+21) * 12:=Nat.mul_le_mul_left _ (by omega);omega) e
 refine aj ?_;rw [OY];simp only [cO,r9,d,bT];rw [d] at a;simp only [GD,a];exact this
end
theorem rZ{a:Type}(x y z u v t w s p q:a)(l:List a):(x::y::z::u::v::t::w::s::p::q::l).drop 10=l:=by cases l <;> rfl
def fj(n:Nat)(rows:List R)(v:Nat)(ak:Int)(t:TL):TL:=
 if(br n rows t v ak).1>=0 then
  fB (br n rows t v ak).1.toNat v (t.st.ah (br n rows t v ak).1.toNat) (cH (az t.al (br n rows t v ak).1.toNat) v (t.st.ah (br n rows t v ak).1.toNat)) false (eC v (fM (br n rows t v ak).2.1 (iN ak)) t)
 else eC v (fM (br n rows t v ak).2.1 (iN ak)) t
noncomputable def mR(n:Nat)(rows:List R)(f:Fl)(t:TL)(p:Nat)(a:Bool)(go:List (List T))(v:Nat)(ak:Int):Option (List T):=
 match p with
 | 0=>some (T.aJ true::T.aJ true::tb false::rK n rows f t)
 | p+1=>if(br n rows t v ak).2.2=false then some (T.aJ true::T.aa 4 false (aS (jV n t v ak))::tb true::rK n rows f t)
  else Or oG [r0,I (p:Int)] (S4 n rows f (fj n rows v ak t) a go)
theorem IT{n:Nat}{rows:List R}{t:TL}{mv mc:Nat}(sz:Sz n rows)(c:cR n rows.length t)(e:∀u,u < n+rows.length->VB mv (aI t.val u))(j:∀x∈t.al,∀y∈x,QN mc y)
  {v:Nat} (hv:v < n+rows.length) {ak:Int} (k:ak=1\/ak= -1) (q:mv+mc+40<=2000):VB (mv+mc+40) (br n rows t v ak).2.1:=by
 have g:QN 2 (iN ak):=by rcases k with rfl | rfl <;> exact eM (by decide)
 have o:=yK sz (t:=t) hv (e v hv) g (M:=mv+mc+40) (by omega) (by omega) (-1) (s:=(-1,(none,none),false)) (EU _);have d:∀(bs:List Nat) (xs:List (List Nm)) (i:Nat) (s:LF),(∀b∈bs,b < n+rows.length)->(∀x∈xs,x.length=n+rows.length/\∀y∈x,QN mc y)->VB (mv+mc+40) s.2.1->VB (mv+mc+40) (hY n rows t v ak bs xs i s).2.1:=by
  intro bs;induction bs with
  | nil=>intro xs i s _ _ h;cases xs <;> exact h
  | cons b bs l=>
   intro xs i s hb a h;cases xs with
   | nil=>exact h
   | cons x xs=>rw [hY];obtain⟨w,p⟩:=a x U9;have m:QN mc (aq x v):=p _ (U8 (gL (by omega)));exact l xs (i+1) _ (λb h=>hb b (Va _ h)) (λx h=>a x (Va _ h)) (yK sz (hb b U9) (e b (hb b U9)) (m.mul g) (by omega) (by omega) (i:Int) h)
 exact d _ _ _ _ c.lt (λx a=>⟨c.r x a,j x a⟩) o
section
variable {n:Nat} {rows:List R} (f:Fl) (t:TL)
set_option maxRecDepth 20000 in
theorem Ug{mv mc:Nat}(sz:Sz n rows)(l:cR n rows.length t)(X:f.eg=false)
  (W:∀u,u < n+rows.length->VB mv (aI t.val u)) (N:∀x∈t.al,∀y∈x,QN mc y) (hgl:t.aB.length=n+rows.length) (Y:∀y∈t.aB,QN mc y)
  (hln:∀k i,cv k t.mp=some i->i < rows.length) (eo:Bool) (go:List (List T)) (p:Nat) (hp:p<=100000)
  (h1s: 20<=mv) (h2s: 3 * mv+3 * mc+60<=2000)
  (hnb:∀v,nv (aq t.aB v)≠0->v∉t.ah)
  (hlim:∀v ak,ak=1\/ak= -1->(br n rows t v ak).1>=0->(br n rows t v ak).1.toNat < rows.length/\nv (aq (az t.al (br n rows t v ak).1.toNat) v)≠0) {res:List T}
  (d:(match aW n rows t.val 1 t.aB 0 with
   | none=>some (T.aa 4 false (aS (t.aB.drop n))::T.aJ true::tb true::rK n rows f t)
   | some v=>mR n rows f t p eo go v (nv (aq t.aB v)).num.sign)=some res):
  ∀(xs:List Nm) (k:Nat),t.aB.drop k=xs->aW n rows t.val 1 xs k=aW n rows t.val 1 t.aB 0->
  Or oH [r0,I (p:Int),I (-1),I 0,AV.own (Id.c 6),I (t.aB.length:Int),I (k:Int)] (S3 n rows f t eo go)=some res:=by
 have hn:=sz.n;have hm:=sz.m;have hcl:=l.c;have hvl:=l.v;intro xs;induction xs with
 | nil=>
  intro k h O;have h1:¬(k:Int) < (t.aB.length:Int):=by have:=bm h;omega
  have P:aW n rows t.val 1 t.aB 0=none:=by rw [<-O];rfl
  have hin:bO (n:Int) (t.aB.length:Int) (t.aB.length:Int)=some ():=sI (by omega);have hneg:(-1:Int) < 0:=by decide
  have htk:List.take (((t.aB.length:Int)).toNat - ((n:Int)).toNat) (List.drop ((n:Int)).toNat (aS t.aB))=aS (t.aB.drop n):=by
   have K:((t.aB.length:Int)).toNat=t.aB.length:=by omega
   have e2:((n:Int)).toNat=n:=by omega
   rw [K,e2,We (by simp [aS])];simp [aS,List.map_drop]
  rw [P] at d;simp only at d;rw [qG] at d;rw [<-d];refine aj ?_;rw [p7];simp only [ai,↓reduceIte,GD,h1,hneg,bH,hin,htk,cK,X]
 | cons x xs ih=>
  intro k h O;obtain⟨B,g2,g3⟩:=bh h;have h1:(k:Int) < (t.aB.length:Int):=by omega
  have z: 0<=(k:Int):=by omega
  have ks:=lK x;have qx:=Y x (U8 B);by_cases M:nv x=0
  .have j:=(gm (nv x)).2 M;have D:aW n rows t.val 1 (x::xs) k=aW n rows t.val 1 xs (k+1):=by rw [aW,if_neg (λL=>L.1 M)]
   have:=ih (k+1) g3 (by rw [<-D];exact O);refine aj ?_;rw [p7];simp only [bL,ai,↓reduceIte,GD,h1,z,and_self,bH,cE B,ks,j,next k (by omega)];exact this
  .have j:¬(nv x).num.sign=0:=λL=>M ((gm _).1 L);have C:(!((nv x).num.sign==0))=true:=by simpa using j
   have J:(nv x).num.sign=1\/(nv x).num.sign= -1:=by
    rcases px (nv x) with e | e | e
    .exact .inl e
    .exact .inr e
    .exact absurd e j
   have U:=AQ sz f.er f.eb f.ev f.eg t.ah t.val t.aB hvl W (by omega) (v:=k) (by omega) (nv x).num.sign;by_cases g:fq n rows t.val k (nv x).num.sign=true
   .have D:aW n rows t.val 1 (x::xs) k=some k:=by rw [aW,if_pos ⟨M,by rw [Ww];exact g⟩]
    have P:aW n rows t.val 1 t.aB 0=some k:=by rw [<-O,D]
    have Z:aq t.aB k=x:=by unfold aq;rw [U7,B];rfl
    have hkb:=hnb k (by rw [Z];exact M);have G:¬(k:Int) < 0:=by omega
    rw [P] at d;simp only at d;rw [Z] at d;generalize hwv:(nv x).num.sign=ak at *
    cases p with
    | zero=>have hz:((0:Nat):Int)=0:=rfl;simp only [mR] at d;rw [qG] at d;rw [<-d];refine aj ?_;rw [p7];simp only [ai,↓reduceIte,GD,h1,z,G,hz,and_self,bH,cE B,ks,j,C,U,g,cK]
    | succ p=>
     have hz:¬((p+1:Nat):Int)=0:=by omega
     have hwp:i64.wrap (((p+1:Nat):Int) - 1)= (p:Int):=by rw [Go.Aev.wr (by omega)];omega
     have o:=LD (n:=n) (rows:=rows) f t sz l W N (v:=k) (by omega) J h1s (by omega);have qL:=IT (n:=n) (rows:=rows) sz l W N (v:=k) (by omega) J (by omega);rw [eE,cN] at o;simp only [Vc,Ve] at o;simp only [mR] at d;cases F:(br n rows t k ak).2.2
     .rw [if_pos F,qG] at d;rw [F] at o;have k87:=LG (n:=n) (rows:=rows) f t l hn hm N hln (v:=k) (by omega) J (by omega);rw [eE] at k87;rw [<-d];refine aj ?_;rw [p7];simp only [ai,↓reduceIte,GD,dZ,cu,rZ,h1,z,G,hz,and_self,bH,cE B,ks,j,C,U,g,o,k87,dY,dB,Vf,cM,cK]
     .rw [if_neg (by rw [F];decide)] at d;rw [F] at o;have k32:=gh ak (by rcases J with rfl | rfl <;> decide);have qw:QN 2 (iN ak):=by rcases J with rfl | rfl <;> exact eM (by decide)
      have S:=pA (b:=iN ak) qL qw (by omega);have qW:=nQ (b:=iN ak) qL qw;have hcx:∀y∈t.al,QB mc (nv (aq y k)):=λy hy=>N y hy _ (U8 (gL (by rw [l.r y hy];omega)));have H:=tC (n:=n) (rows:=rows) f t l (v:=k) (by omega) hm hkb qW hcx (a:=mv) (by omega) W;obtain⟨A,s⟩:∃A,A=eC k (fM (br n rows t k ak).2.1 (iN ak)) t:=⟨_,rfl⟩;have K:A.al=t.al:=by rw [s];rfl
      have e2:A.aB=t.aB:=by rw [s];rfl
      rw [<-s] at H;rw [eE] at H;rw [cN] at S;by_cases w:(br n rows t k ak).1>=0
      .obtain⟨hi,Q⟩:=hlim k ak J w;have q:fj n rows k ak t=fB (br n rows t k ak).1.toNat k (t.st.ah (br n rows t k ak).1.toNat) (cH (az t.al (br n rows t k ak).1.toNat) k (t.st.ah (br n rows t k ak).1.toNat)) false A:=by
        unfold fj;rw [if_pos w,s]
       obtain⟨i,hii⟩:∃i:Nat,(br n rows t k ak).1= (i:Int):=⟨(br n rows t k ak).1.toNat,by omega⟩;rw [hii] at hi Q q o w;simp only [VA] at hi Q q;have hb1:A.ah[i]? =some (t.st.ah i):=by rw [s];exact jg (t:=t) (by rw [l.b];exact hi)
       have E:=tD (n:=n) (rows:=rows) f A (by rw [s];exact l.mv _ _) hn hm hi (v:=k) (by omega) hb1 (by rw [K];exact N) (by rw [K];exact Q) (λ_=>by rw [e2];exact⟨hgl,Y⟩) (by omega);rw [K,X] at E;generalize cH (az t.al i) k (t.st.ah i)=row1 at E q;generalize hT2:fB i k (t.st.ah i) row1 false A=t2 at E q;rw [q] at d;rw [eE] at E;refine aj ?_;rw [p7];simp only [ai,↓reduceIte,GD,dZ,cu,rZ,h1,z,G,hz,hwp,and_self,bH,cE B,ks,j,C,U,g,o,k32,S,H,w,E,dY,dB,Vf,cM];exact d
      .have q:fj n rows k ak t=A:=by unfold fj;rw [if_neg w,s]
       rw [q] at d;refine aj ?_;rw [p7];simp only [ai,↓reduceIte,GD,dZ,cu,rZ,h1,z,G,hz,hwp,and_self,bH,cE B,ks,j,C,U,g,o,k32,S,H,w,dY,dB,Vf,cM];exact d
   .have D:aW n rows t.val 1 (x::xs) k=aW n rows t.val 1 xs (k+1):=by rw [aW,if_neg (λL=>g (by rw [<-Ww (nv x).num.sign];exact L.2))]
    have V:fq n rows t.val k (nv x).num.sign=false:=by simpa using g
    have:=ih (k+1) g3 (by rw [<-D];exact O);refine aj ?_;rw [p7];simp only [ai,↓reduceIte,GD,h1,z,and_self,bH,cE B,ks,j,C,U,V,next k (by omega)];exact this
end
section
variable {n:Nat} {rows:List R} (f:Fl) (t:TL)
set_option maxRecDepth 20000 in
theorem Uh{mv mc:Nat}(sz:Sz n rows)(l:cR n rows.length t)(X:f.eg=false)
  (W:∀u,u < n+rows.length->VB mv (aI t.val u)) (N:∀x∈t.al,∀y∈x,QN mc y) (hgl:t.aB.length=n+rows.length) (Y:∀y∈t.aB,QN mc y)
  (hln:∀k i,cv k t.mp=some i->i < rows.length) (eo:Bool) (go:List (List T)) (p:Nat) (hp:p<=100000)
  (h1s: 20<=mv) (h2s: 3 * mv+3 * mc+60<=2000)
  (hnb:∀v,nv (aq t.aB v)≠0->v∉t.ah)
  (hlim:∀v ak,ak=1\/ak= -1->(br n rows t v ak).1>=0->(br n rows t v ak).1.toNat < rows.length/\nv (aq (az t.al (br n rows t v ak).1.toNat) v)≠0) {res:List T}
  (d:(match aW n rows t.val 1 t.aB 0 with
   | none=>some (T.aa 4 false (aS (t.aB.drop n))::T.aJ true::tb true::rK n rows f t)
   | some v=>mR n rows f t p eo go v (nv (aq t.aB v)).num.sign)=some res):
  ∀(xs:List Nm) (k:Nat),t.aB.drop k=xs->aW n rows t.val 1 xs k=aW n rows t.val 1 t.aB 0->
  Or oH [r0,I (p:Int),I (-1),I 0,AV.own (Id.c 6),I (t.aB.length:Int),I (k:Int)] (LY n rows f t eo go)=some res:=by
 have hn:=sz.n;have hm:=sz.m;have hcl:=l.c;have hvl:=l.v;intro xs;induction xs with
 | nil=>
  intro k h O;have h1:¬(k:Int) < (t.aB.length:Int):=by have:=bm h;omega
  have P:aW n rows t.val 1 t.aB 0=none:=by rw [<-O];rfl
  have hin:bO (n:Int) (t.aB.length:Int) (t.aB.length:Int)=some ():=sI (by omega);have hneg:(-1:Int) < 0:=by decide
  have htk:List.take (((t.aB.length:Int)).toNat - ((n:Int)).toNat) (List.drop ((n:Int)).toNat (aS t.aB))=aS (t.aB.drop n):=by
   have K:((t.aB.length:Int)).toNat=t.aB.length:=by omega
   have e2:((n:Int)).toNat=n:=by omega
   rw [K,e2,We (by simp [aS])];simp [aS,List.map_drop]
  rw [P] at d;simp only at d;rw [qG] at d;rw [<-d];refine aj ?_;rw [p9];simp only [ai,↓reduceIte,GD,h1,hneg,bH,hin,htk,cK,X]
 | cons x xs ih=>
  intro k h O;obtain⟨B,g2,g3⟩:=bh h;have h1:(k:Int) < (t.aB.length:Int):=by omega
  have z: 0<=(k:Int):=by omega
  have ks:=lK x;have qx:=Y x (U8 B);by_cases M:nv x=0
  .have j:=(gm (nv x)).2 M;have D:aW n rows t.val 1 (x::xs) k=aW n rows t.val 1 xs (k+1):=by rw [aW,if_neg (λL=>L.1 M)]
   have:=ih (k+1) g3 (by rw [<-D];exact O);refine aj ?_;rw [p9];simp only [bL,ai,↓reduceIte,GD,h1,z,and_self,bH,cE B,ks,j,next k (by omega)];exact this
  .have j:¬(nv x).num.sign=0:=λL=>M ((gm _).1 L);have C:(!((nv x).num.sign==0))=true:=by simpa using j
   have J:(nv x).num.sign=1\/(nv x).num.sign= -1:=by
    rcases px (nv x) with e | e | e
    .exact .inl e
    .exact .inr e
    .exact absurd e j
   have U:=AQ sz f.er f.eb f.ev f.eg t.ah t.val t.aB hvl W (by omega) (v:=k) (by omega) (nv x).num.sign;by_cases g:fq n rows t.val k (nv x).num.sign=true
   .have D:aW n rows t.val 1 (x::xs) k=some k:=by rw [aW,if_pos ⟨M,by rw [Ww];exact g⟩]
    have P:aW n rows t.val 1 t.aB 0=some k:=by rw [<-O,D]
    have Z:aq t.aB k=x:=by unfold aq;rw [U7,B];rfl
    have hkb:=hnb k (by rw [Z];exact M);have G:¬(k:Int) < 0:=by omega
    rw [P] at d;simp only at d;rw [Z] at d;generalize hwv:(nv x).num.sign=ak at *
    cases p with
    | zero=>have hz:((0:Nat):Int)=0:=rfl;simp only [mR] at d;rw [qG] at d;rw [<-d];refine aj ?_;rw [p9];simp only [ai,↓reduceIte,GD,h1,z,G,hz,and_self,bH,cE B,ks,j,C,U,g,cK]
    | succ p=>
     have hz:¬((p+1:Nat):Int)=0:=by omega
     have hwp:i64.wrap (((p+1:Nat):Int) - 1)= (p:Int):=by rw [Go.Aev.wr (by omega)];omega
     have o:=LD (n:=n) (rows:=rows) f t sz l W N (v:=k) (by omega) J h1s (by omega);have qL:=IT (n:=n) (rows:=rows) sz l W N (v:=k) (by omega) J (by omega);rw [eE,cN] at o;simp only [Vc,Ve] at o;simp only [mR] at d;cases F:(br n rows t k ak).2.2
     .rw [if_pos F,qG] at d;rw [F] at o;have k87:=LG (n:=n) (rows:=rows) f t l hn hm N hln (v:=k) (by omega) J (by omega);rw [eE] at k87;rw [<-d];refine aj ?_;rw [p9];simp only [ai,↓reduceIte,GD,dZ,cu,rZ,h1,z,G,hz,and_self,bH,cE B,ks,j,C,U,g,o,k87,dY,dB,Vf,cM,cK]
     .rw [if_neg (by rw [F];decide)] at d;rw [F] at o;have k32:=gh ak (by rcases J with rfl | rfl <;> decide);have qw:QN 2 (iN ak):=by rcases J with rfl | rfl <;> exact eM (by decide)
      have S:=pA (b:=iN ak) qL qw (by omega);have qW:=nQ (b:=iN ak) qL qw;have hcx:∀y∈t.al,QB mc (nv (aq y k)):=λy hy=>N y hy _ (U8 (gL (by rw [l.r y hy];omega)));have H:=tC (n:=n) (rows:=rows) f t l (v:=k) (by omega) hm hkb qW hcx (a:=mv) (by omega) W;obtain⟨A,s⟩:∃A,A=eC k (fM (br n rows t k ak).2.1 (iN ak)) t:=⟨_,rfl⟩;have K:A.al=t.al:=by rw [s];rfl
      have e2:A.aB=t.aB:=by rw [s];rfl
      rw [<-s] at H;rw [eE] at H;rw [cN] at S;by_cases w:(br n rows t k ak).1>=0
      .obtain⟨hi,Q⟩:=hlim k ak J w;have q:fj n rows k ak t=fB (br n rows t k ak).1.toNat k (t.st.ah (br n rows t k ak).1.toNat) (cH (az t.al (br n rows t k ak).1.toNat) k (t.st.ah (br n rows t k ak).1.toNat)) false A:=by
        unfold fj;rw [if_pos w,s]
       obtain⟨i,hii⟩:∃i:Nat,(br n rows t k ak).1= (i:Int):=⟨(br n rows t k ak).1.toNat,by omega⟩;rw [hii] at hi Q q o w;simp only [VA] at hi Q q;have hb1:A.ah[i]? =some (t.st.ah i):=by rw [s];exact jg (t:=t) (by rw [l.b];exact hi)
       have E:=tD (n:=n) (rows:=rows) f A (by rw [s];exact l.mv _ _) hn hm hi (v:=k) (by omega) hb1 (by rw [K];exact N) (by rw [K];exact Q) (λ_=>by rw [e2];exact⟨hgl,Y⟩) (by omega);rw [K,X] at E;generalize cH (az t.al i) k (t.st.ah i)=row1 at E q;generalize hT2:fB i k (t.st.ah i) row1 false A=t2 at E q;rw [q] at d;rw [eE] at E;refine aj ?_;rw [p9];simp only [ai,↓reduceIte,GD,dZ,cu,rZ,h1,z,G,hz,hwp,and_self,bH,cE B,ks,j,C,U,g,o,k32,S,H,w,E,dY,dB,Vf,cM];exact d
      .have q:fj n rows k ak t=A:=by unfold fj;rw [if_neg w,s]
       rw [q] at d;refine aj ?_;rw [p9];simp only [ai,↓reduceIte,GD,dZ,cu,rZ,h1,z,G,hz,hwp,and_self,bH,cE B,ks,j,C,U,g,o,k32,S,H,w,dY,dB,Vf,cM];exact d
   .have D:aW n rows t.val 1 (x::xs) k=aW n rows t.val 1 xs (k+1):=by rw [aW,if_neg (λL=>g (by rw [<-Ww (nv x).num.sign];exact L.2))]
    have V:fq n rows t.val k (nv x).num.sign=false:=by simpa using g
    have:=ih (k+1) g3 (by rw [<-D];exact O);refine aj ?_;rw [p9];simp only [ai,↓reduceIte,GD,h1,z,and_self,bH,cE B,ks,j,C,U,V,next k (by omega)];exact this
end
open Go Go.Aev Go.Aev.Gen Go.Aev.Wd Go.Aev.Tb
def gR(gl:List Int)(k:Nat):Rat:=((gl.getD k 0:Int):Rat)
structure fm (n:Nat) (rows:List R) (gl:List Int) (t:TL):Prop where
 tok:cr n rows t
 len:t.aB.length=n+rows.length
 g:(aM n rows).xf (gR gl) t.st (λv=>nv (aq t.aB v))
 fe:(aM n rows).rf t.st
structure ir (n:Nat) (rows:List R) (gl:List Int):Prop where
 ro:gv n rows
 k2:∀r∈rows,r.kd≠2
 gb:∀c∈gl, -1000000<=c/\c<=1000000
 gl:gl.length<=n
theorem P7{gl:List Int}(h:∀c∈gl, -1000000<=c/\c<=1000000)(k:Nat):bz 1000000 (gR gl k):=by
 refine bz.int ?_;by_cases a:k < gl.length
 .have:=h (gl.getD k 0) (by rw [U7,Vb a];exact W2 a);omega
 .rw [U7,V8 (by omega)];decide
theorem fm.gq{n:Nat}{rows:List R}{gl:List Int}{t:TL}(go:ir n rows gl)(h:fm n rows gl t):∀y∈t.aB,QN 270 y:=by
 obtain⟨D,h1,a,_,b⟩:=h.tok.den go.ro;intro y hy;obtain⟨v,hv,e⟩:=WU hy;have c:aq t.aB v=y:=by unfold aq;rw [U7,Vb hv];exact e
 have:=b (λv=>nv (aq t.aB v)) (gR gl) h.g.z (λk _=>P7 go.gb k) h.g.same v (by rw [<-h.len];exact hv);rw [c] at this;exact yn h1 a this
theorem fm.nb{n:Nat}{rows:List R}{gl:List Int}{t:TL}(h:fm n rows gl t){v:Nat}(hv:nv (aq t.aB v)≠0):v∉t.ah:=by intro hb;obtain⟨j,a,e,_⟩:=l9 h.tok.aZ hb;exact hv (by rw [<-e];exact h.g.z j a)
theorem cr.vB{n:Nat}{rows:List R}{t:TL}(h:cr n rows t){k i:Nat}(a:cv k t.mp=some i):i < rows.length:=by
 by_cases b:k∈t.ah
 .obtain⟨j,d,_,c⟩:=l9 h.aZ b;rw [h.ln j k c] at a;cases a;exact d
 .rw [h.vA k b] at a;cases a
theorem z0{n:Nat}{rows:List R}{t:TL}(h:cr n rows t)(k2:∀r∈rows,r.kd≠2){v:Nat}(hv:v < n+rows.length):t.st.z v=0:=by
 have l:∀u,u < n+rows.length->(∀i,i < rows.length->t.st.ah i≠u)->t.st.z u=0:=λu m hb=>by
  have:=congrArg Prod.snd (h.ok.fix u m hb);show(t.st.val u).2=0;rw [this];unfold Sy.fx;show(if u < n then((0:Rat),(0:Rat)) else(aM n rows).up u).2=0;by_cases d:u < n
  .rw [if_pos d]
  .rw [if_neg d];have g:=k2 _ (jy (rows:=rows) (i:=u - n) (by omega));unfold Sy.up;exact if_neg g
 by_cases hb:∃i,i < rows.length/\t.st.ah i=v
 .obtain⟨i,hi,e⟩:=hb;have:=(h.ok.wf.same _).2 h.ok.hz i hi;rw [<-e,this];refine my (λk g=> ?_);by_cases b:∃j,j < rows.length/\t.st.ah j=k
  .obtain⟨j,a,e'⟩:=b;have hz:t.st.c i k=0:=by rw [<-e'];exact h.ok.wf.z i j hi a
   rw [hz,WQ]
  .rw [l k g (λj a e'=>b ⟨j,a,e'⟩),WT]
 .exact l v hv (λj a e'=>hb ⟨j,a,e'⟩)
theorem IU{n:Nat}{rows:List R}{t:TL}(d:cR n rows.length t)(v:Nat)(ak:Int)(h:(br n rows t v ak).1>=0):
  (br n rows t v ak).1.toNat < rows.length/\nv (aq (az t.al (br n rows t v ak).1.toNat) v)≠0:=by
 have q:=d.b;have r:=d.c
 have g:∀(bs:List Nat) (xs:List (List Nm)) (i:Nat) (s:LF),t.ah.drop i=bs->t.al.drop i=xs->(s.1>=0->s.1.toNat < rows.length/\nv (aq (az t.al s.1.toNat) v)≠0)->
   (hY n rows t v ak bs xs i s).1>=0->(hY n rows t v ak bs xs i s).1.toNat < rows.length/\nv (aq (az t.al (hY n rows t v ak bs xs i s).1.toNat) v)≠0:=by
  intro bs;induction bs with
  | nil=>intro xs i s _ _ h;cases xs <;> exact h
  | cons b bs m=>
   intro xs i s hb l h;obtain⟨u,w,k⟩:=bh hb;cases xs with
   | nil=>exact h
   | cons x xs=>
    obtain⟨o,x2,p⟩:=bh l;have j:az t.al i=x:=by have:=jm (al:=t.al) (i:=i) (by omega);rw [o] at this;exact(V5 this).symm
    rw [hY];refine m xs (i+1) _ k p ?_;unfold dJ;by_cases hz:nv (tm (aq x v) (iN ak))=0\/jh n rows b (tm (aq x v) (iN ak))=false
    .rw [if_pos hz];exact h
    .rw [if_neg hz];split
     .intro _;show((i:Nat):Int).toNat < _/\nv (aq (az t.al ((i:Nat):Int).toNat) v)≠0;rw [VA,j];refine⟨by omega,λa=>hz (.inl ?_)⟩;rw [RC,a,WQ]
     .exact h
 unfold br at h⊢;refine g _ _ _ _ rfl rfl (λa=> ?_) h;rcases B5 n rows t v (iN ak) (-1) (-1,(none,none),false) with e | e <;> rw [e] at a <;> exact absurd a (by decide)
def iD(n:Nat)(rows:List R)(t:TL)(v:Nat)(ak:Int)(j:Nat):Prop:=
 n<=t.st.ah j/\(0 < t.st.c j v * (ak:Rat)\/t.st.c j v * (ak:Rat) < 0/\(aM n rows).kd (t.st.ah j - n)=3)
def dv(n:Nat)(rows:List R)(t:TL)(v:Nat)(ak:Int)(j:Nat):Rat:=((aM n rows).to (t.st.ah j - n) - t.st.y (t.st.ah j)) / (t.st.c j v * (ak:Rat))
theorem Fz{n:Nat}{rows:List R}{t:TL}{v:Nat}{ak:Int}{j:Nat}:¬(nv (tm (aq (az t.al j) v) (iN ak))=0\/jh n rows (t.st.ah j) (tm (aq (az t.al j) v) (iN ak))=false)↔iD n rows t v ak j:=by
 have e:nv (tm (aq (az t.al j) v) (iN ak))=t.st.c j v * (ak:Rat):=rfl;unfold jh iD;rw [e];by_cases a:t.st.c j v * (ak:Rat) < 0
 .rw [if_pos a];constructor
  .intro h;have i:fy n rows (t.st.ah j)=true:=by
    cases hb:fy n rows (t.st.ah j)
    .exact absurd (.inr hb) h
    .rfl
   have:=l8.1 i;exact⟨XJ this.1, .inr ⟨a,this.2⟩⟩
  .rintro⟨h1,d | ⟨_,d⟩⟩
   .exact absurd a (by grind)
   .rintro(b | b)
    .rw [b] at a;exact absurd a (by grind)
    .rw [l8.2 ⟨Xu.2 h1,d⟩] at b;cases b
 .rw [if_neg a];constructor
  .intro h;have k:t.st.c j v * (ak:Rat)≠0:=λg=>h (.inl g);have hb:¬t.st.ah j < n:=λg=>h (.inr (by simp [g]));exact⟨XJ hb, .inl (by grind)⟩
  .rintro⟨h1,d | ⟨d,_⟩⟩
   .rintro(b | b)
    .rw [b] at d;exact absurd d (by grind)
    .have:¬t.st.ah j < n:=Xu.2 h1;simp [this] at b
   .exact absurd d a
theorem Ci{n:Nat}{rows:List R}{t:TL}(h:cr n rows t)(k2:∀r∈rows,r.kd≠2){v:Nat}{ak:Int}{j:Nat}(o:j < rows.length)(hb:iD n rows t v ak j):
  vv (fV n rows t (t.st.ah j) (tm (aq (az t.al j) v) (iN ak)))= (dv n rows t v ak j,0):=by
 have e:nv (tm (aq (az t.al j) v) (iN ak))=t.st.c j v * (ak:Rat):=rfl;have g:¬t.st.ah j < n:=Xu.2 hb.1;have k:t.st.ah j < n+rows.length:=h.ok.wf.hb j o;have hz:=z0 h k2 k;have p:=k2 _ (jy (rows:=rows) (i:=t.st.ah j - n) (by omega));have l:(aM n rows).up (t.st.ah j)= ((aM n rows).to (t.st.ah j - n),0):=by unfold Sy.up;refine Ys rfl ?_;exact if_neg p
 have b:vv (lU n rows (t.st.ah j) (tm (aq (az t.al j) v) (iN ak)))= ((aM n rows).to (t.st.ah j - n),0):=by
  unfold lU;rw [e,<-l];by_cases a:t.st.c j v * (ak:Rat) < 0
  .rw [if_pos a];rcases hb.2 with d | ⟨_,d⟩
   .exact absurd a (by grind)
   .exact vD (l8.2 ⟨g,d⟩)
  .rw [if_neg a];exact wK g
 unfold fV;generalize lU n rows (t.st.ah j) (tm (aq (az t.al j) v) (iN ak))=bd at b;have h1:nv bd.1= (aM n rows).to (t.st.ah j - n):=congrArg Prod.fst b;have d:nv bd.2=0:=congrArg Prod.snd b;have m:nv (aI t.val (t.st.ah j)).2=0:=hz;refine Ys ?_ ?_
 .show(nv bd.1 - t.st.y (t.st.ah j)) * (((1:Int):Rat) / (t.st.c j v * (ak:Rat)))=dv n rows t v ak j;unfold dv;rw [h1,WM,WM];have:((1:Int):Rat)=1:=rfl;rw [this];grind
 .show(nv bd.2 - nv (aI t.val (t.st.ah j)).2) * (((1:Int):Rat) / (t.st.c j v * (ak:Rat)))=0;rw [d,m];grind
theorem IV{n:Nat}{rows:List R}{t:TL}(h:cr n rows t)(k2:∀r∈rows,r.kd≠2){v:Nat}{ak:Int}(F:jh n rows v (iN ak)=false):
  ((br n rows t v ak).2.2=false/\∀j,j < rows.length->¬iD n rows t v ak j)\/
  ∃i,i < rows.length/\(br n rows t v ak).1= (i:Int)/\(br n rows t v ak).2.2=true/\iD n rows t v ak i/\(br n rows t v ak).2.1=fV n rows t (t.st.ah i) (tm (aq (az t.al i) v) (iN ak))/\
   ∀j,j < rows.length->iD n rows t v ak j->dv n rows t v ak i<=dv n rows t v ak j/\(dv n rows t v ak i=dv n rows t v ak j->t.st.ah i<=t.st.ah j):=by
 have hbl:=h.aZ.b;have hcl:=h.aZ.c
 have O:∀(bs:List Nat) (xs:List (List Nm)) (k:Nat) (s:LF),t.ah.drop k=bs->t.al.drop k=xs->bs.length=xs.length->k<=rows.length->
   ((s.2.2=false/\∀j,j < k->¬iD n rows t v ak j)\/
    ∃i,i < k/\s.1= (i:Int)/\s.2.2=true/\iD n rows t v ak i/\s.2.1=fV n rows t (t.st.ah i) (tm (aq (az t.al i) v) (iN ak))/\
     ∀j,j < k->iD n rows t v ak j->dv n rows t v ak i<=dv n rows t v ak j/\(dv n rows t v ak i=dv n rows t v ak j->t.st.ah i<=t.st.ah j))->
   (((hY n rows t v ak bs xs k s).2.2=false/\∀j,j < rows.length->¬iD n rows t v ak j)\/
    ∃i,i < rows.length/\(hY n rows t v ak bs xs k s).1= (i:Int)/\(hY n rows t v ak bs xs k s).2.2=true/\iD n rows t v ak i/\(hY n rows t v ak bs xs k s).2.1=fV n rows t (t.st.ah i) (tm (aq (az t.al i) v) (iN ak))/\
     ∀j,j < rows.length->iD n rows t v ak j->dv n rows t v ak i<=dv n rows t v ak j/\(dv n rows t v ak i=dv n rows t v ak j->t.st.ah i<=t.st.ah j)):=by
  intro bs;induction bs with
  | nil=>
   intro xs k s hb V N hk E;have T:k=rows.length:=by have:=bm hb;omega
   have U:hY n rows t v ak [] xs k s=s:=by cases xs <;> rfl
   rw [U,<-T];exact E
  | cons b bs ih=>
   intro xs k s hb V N hk E;obtain⟨X,g2,Y⟩:=bh hb;cases xs with
   | nil=>simp at N
   | cons x xs=>
    obtain⟨x1,x2,x3⟩:=bh V;have Q:az t.al k=x:=by have:=jm (al:=t.al) (i:=k) (by omega);rw [x1] at this;exact(V5 this).symm
    have P:t.st.ah k=b:=by have:=jg (t:=t) (i:=k) (by omega);rw [X] at this;exact(V5 this).symm
    rw [hY,<-Q,<-P];refine ih xs (k+1) _ Y x3 (by simpa using N) (by omega) ?_;by_cases m:iD n rows t v ak k
    .have hz:=Fz.2 m;have H:=Ci h k2 (by omega) m;have B:dJ n rows t (t.st.ah k) (tm (aq (az t.al k) v) (iN ak)) (k:Int) s=if fh n rows t (t.st.ah k) (tm (aq (az t.al k) v) (iN ak)) (k:Int) s then((k:Int),fV n rows t (t.st.ah k) (tm (aq (az t.al k) v) (iN ak)),true) else s:=by
      unfold dJ;rw [if_neg hz]
     rw [B];rcases E with⟨M,D⟩ | ⟨i,S,o,p,w,q,y⟩
     .have z:fh n rows t (t.st.ah k) (tm (aq (az t.al k) v) (iN ak)) (k:Int) s:=by
       unfold fh;rw [M];exact .inl (by simp)
      rw [if_pos z];refine .inr ⟨k,by omega,rfl,rfl,m,rfl,λj C g=> ?_⟩;by_cases e:j=k
      .subst e;exact⟨XM,λ_=>Vs _⟩
      .exact absurd g (D j (by omega))
     .have G:=Ci h k2 (by omega) w;have u:eU s.2.1 (fV n rows t (t.st.ah k) (tm (aq (az t.al k) v) (iN ak))) > 0↔dv n rows t v ak k < dv n rows t v ak i:=by
       rw [yH,H,q,G];unfold eY;constructor
       .rintro(h | ⟨_,h⟩)
        .exact h
        .exact absurd h (by grind)
       .intro h;exact .inl h
      have J:eU s.2.1 (fV n rows t (t.st.ah k) (tm (aq (az t.al k) v) (iN ak))) < 0↔dv n rows t v ak i < dv n rows t v ak k:=by
       rw [yI,H,q,G];unfold eY;constructor
       .rintro(h | ⟨_,h⟩)
        .exact h
        .exact absurd h (by grind)
       .intro h;exact .inl h
      have I:eU s.2.1 (fV n rows t (t.st.ah k) (tm (aq (az t.al k) v) (iN ak)))=0↔dv n rows t v ak i=dv n rows t v ak k:=by
       constructor
       .intro K;have a:¬dv n rows t v ak k < dv n rows t v ak i:=λl=>by have:=u.2 l;omega
        have b:¬dv n rows t v ak i < dv n rows t v ak k:=λl=>by have:=J.2 l;omega
        grind
       .intro K;have a:¬eU s.2.1 (fV n rows t (t.st.ah k) (tm (aq (az t.al k) v) (iN ak))) > 0:=λl=>by have:=u.1 l;grind
        have b:¬eU s.2.1 (fV n rows t (t.st.ah k) (tm (aq (az t.al k) v) (iN ak))) < 0:=λl=>by have:=J.1 l;grind
        omega
      by_cases z:fh n rows t (t.st.ah k) (tm (aq (az t.al k) v) (iN ak)) (k:Int) s
      .rw [if_pos z];have d:=z;unfold fh at d;rw [if_pos p,o,VA,u,I] at d;have A:t.ah.getD i 0=t.st.ah i:=rfl;rw [A] at d;refine .inr ⟨k,by omega,rfl,rfl,m,rfl,λj C g=> ?_⟩;by_cases e:j=k
       .subst e;exact⟨XM,λ_=>Vs _⟩
       .obtain⟨c1,W⟩:=y j (by omega) g;rcases d with h1 | ⟨h1,_,Z | Z⟩
        .exact⟨by grind,λL=>absurd h1 (by grind)⟩
        .omega
        .exact⟨by grind,λL=>by have:=W (by grind);omega⟩
      .rw [if_neg z];have d:=z;unfold fh at d;rw [if_pos p,o,VA,u,I] at d;have A:t.ah.getD i 0=t.st.ah i:=rfl;rw [A] at d;refine .inr ⟨i,by omega,o,p,w,q,λj C g=> ?_⟩;by_cases e:j=k
       .subst e;refine⟨ZO.1 λl=>d (.inl l),λL=> ?_⟩;refine XJ λl=>d (.inr ⟨L,by omega, .inr (by omega)⟩)
       .exact y j (by omega) g
    .have hz:nv (tm (aq (az t.al k) v) (iN ak))=0\/jh n rows (t.st.ah k) (tm (aq (az t.al k) v) (iN ak))=false:=YD λl=>m (Fz.1 l);have B:dJ n rows t (t.st.ah k) (tm (aq (az t.al k) v) (iN ak)) (k:Int) s=s:=by unfold dJ;rw [if_pos hz]
     rw [B];rcases E with⟨M,D⟩ | ⟨i,S,o,p,w,q,y⟩
     .refine .inl ⟨M,λj C=> ?_⟩;by_cases e:j=k
      .subst e;exact m
      .exact D j (by omega)
     .refine .inr ⟨i,by omega,o,p,w,q,λj C g=> ?_⟩;by_cases e:j=k
      .subst e;exact absurd g m
      .exact y j (by omega) g
 have K:dJ n rows t v (iN ak) (-1) (-1,(none,none),false)= (-1,(none,none),false):=by unfold dJ;rw [if_pos (.inr F)]
 unfold br;rw [K];exact O t.ah t.al 0 _ rfl rfl (by omega) (Ye _) (.inl ⟨rfl,λj C=>by omega⟩)
open Go Go.Aev Go.Aev.Gen Go.Aev.Wd Go.Aev.Tb
theorem C0(c:Nm):∀(a g:List Nm) (v:Nat),a.length=g.length->nv (aq (iJ c a g) v)=nv (aq g v)+nv c * nv (aq a v)
 | [],[],v,_=>by show nv none=nv none+nv c * nv none;rw [vK];grind
 | a::l,g::r,0,_=>by show nv g+nv a * nv c=nv g+nv c * nv a;grind
 | a::l,g::r,v+1,h=>C0 c l r v (by simpa using h)
 | [],_::_,_,h=>by simp at h
 | _::_,[],_,h=>by simp at h
theorem Iu{n m:Nat}{t:TL}(a:cR n m t):∀(cs:List Int) (k:Nat) (g:List Nm),(js t cs k g).length=g.length
 | [],_,_=>rfl
 | c::cs,k,g=>by
  rw [js,Iu a cs];split
  .rw [zG]
  .rw [V6]
theorem C3{n:Nat}{rows:List R}{t:TL}(h:cr n rows t):∀(cs:List Int) (k:Nat) (g:List Nm),g.length=n+rows.length->k+cs.length<=n->(∀j,j < rows.length->nv (aq g (t.st.ah j))=0)->
  (∀j,j < rows.length->nv (aq (js t cs k g) (t.st.ah j))=0)/\
  ∀y,gr n rows.length (aM n rows).A y->sm (n+rows.length) (λv=>nv (aq (js t cs k g) v) * y v)=sm (n+rows.length) (λv=>nv (aq g v) * y v)+sm cs.length (λj=>((cs.getD j 0:Int):Rat) * y (k+j))
 | [],k,g,s,x,hz=>⟨hz,λy hy=>by simp only [js,VL,sm];grind⟩
 | c::cs,k,g,s,x,hz=>by
  simp only [Vw] at x;have b:∀y:Nat->Rat,sm (cs.length+1) (λj=>(((c::cs).getD j 0:Int):Rat) * y (k+j))= (c:Rat) * y k+sm cs.length (λj=>((cs.getD j 0:Int):Rat) * y (k+1+j)):=by
   intro y;have u:∀(m:Nat) (f:Nat->Rat),sm (m+1) f=f 0+sm m (λj=>f (j+1)):=by
    intro m f;induction m with
    | zero=>simp only [sm];grind
    | succ m D=>rw [sm,D,sm];grind
   rw [u];have e:(λj=>(((c::cs).getD (j+1) 0:Int):Rat) * y (k+ (j+1)))= (λj=>((cs.getD j 0:Int):Rat) * y (k+1+j)):=by funext j;rw [show k+ (j+1)=k+1+j by omega];rfl
   rw [e];rfl
  rw [js];cases a:cv k t.mp with
  | some i=>
   have hi:=h.vB a;have C:=h.aZ.row hi;have w:t.st.ah i=k:=by
    by_cases o:k∈t.ah
    .obtain⟨j,l,e,r⟩:=l9 h.aZ o;rw [h.ln j k r] at a;cases a;exact e
    .rw [h.vA k o] at a;cases a
   simp only;obtain⟨p,q⟩:=C3 h cs (k+1) (iJ (iN c) (az t.al i) g) (by rw [zG];exact s) (by omega) (λj l=>by
    rw [C0 _ _ _ _ (by omega),hz j l];have:nv (aq (az t.al i) (t.st.ah j))=0:=h.ok.wf.z i j hi l;rw [this];grind)
   refine⟨p,λy hy=> ?_⟩;rw [q y hy,Vw,b y];have B:y k=sm (n+rows.length) (λv=>t.st.c i v * y v):=by have:=(h.ok.wf.same y).2 hy i hi;rw [w] at this;exact this
   have e:(λv=>nv (aq (iJ (iN c) (az t.al i) g) v) * y v)= (λv=>1 * (nv (aq g v) * y v)+ (c:Rat) * (t.st.c i v * y v)):=by funext v;rw [C0 _ _ _ _ (by omega)];show(nv (aq g v)+ (c:Rat) * t.st.c i v) * y v=_;grind
   rw [e,mw,<-B];grind
  | none=>
   have o:k∉t.ah:=λhb=>by obtain⟨j,l,e,r⟩:=l9 h.aZ hb;rw [h.ln j k r] at a;cases a
   simp only;obtain⟨p,q⟩:=C3 h cs (k+1) (g.set k (pl (aq g k) (iN c))) (by rw [V6];exact s) (by omega) (λj l=>by
    rw [vG (by omega),if_neg (λe=>o (by rw [<-e];exact kf h.aZ l))];exact hz j l)
   refine⟨p,λy hy=> ?_⟩;rw [q y hy,Vw,b y];have e:sm (n+rows.length) (λv=>nv (aq (g.set k (pl (aq g k) (iN c))) v) * y v)=sm (n+rows.length) (λv=>1 * (nv (aq g v) * y v)+ (c:Rat) * (if v=k then y v else 0)):=by
    refine ef (λv hv=> ?_);rw [vG (by omega)];by_cases d:v=k
    .rw [if_pos d,if_pos d,d];show(nv (aq g k)+ (c:Rat)) * y k=_;grind
    .rw [if_neg d,if_neg d];grind
   rw [e,mw,oe (by omega) y];grind
theorem cr.aB{n:Nat}{rows:List R}{t:TL}(h:cr n rows t)(g:List Nm):cr n rows {t with aB:=g}:=
 ⟨⟨h.aZ.b,h.aZ.c,h.aZ.r,h.aZ.v,h.aZ.lt,h.aZ.nd⟩,h.ok,h.ln,h.vA,h.ky⟩
theorem C1{n:Nat}{rows:List R}{gl:List Int}{t:TL}(h:cr n rows t)(b:(aM n rows).rf t.st)(c:gl.length<=n):
  fm n rows gl {t with aB:=js t gl 0 (List.replicate (n+rows.length) none)}:=by
 have a:∀v,nv (aq (List.replicate (n+rows.length) (none:Nm)) v)=0:=λv=>by unfold aq;rw [U7,Xa];split <;> rfl
 obtain⟨d,e⟩:=C3 h gl 0 (List.replicate (n+rows.length) none) (by simp) (by omega) (λj _=>a _);refine⟨h.aB _, ?_,⟨d,λy hy=> ?_⟩,b⟩
 .show(js t gl 0 _).length=_;rw [Iu h.aZ];simp
 .have:=e y hy;show sm (n+rows.length) (λv=>nv (aq (js t gl 0 (List.replicate (n+rows.length) none)) v) * y v)=sm n (λk=>gR gl k * y k);rw [this,my (λv _=>by rw [a v];exact WQ _),X6];rw [KY (n:=gl.length) (N:=n) c (λk g _=>by
   unfold gR;rw [U7,V8 (by omega)];show((0:Int):Rat) * _=0;exact WQ _)]
  refine ef (λk g=> ?_);rw [VM];rfl
theorem Tg{q:Rat}(b:q≠0):((q.num.sign:Int):Rat)=kL q:=by
 unfold kL;have h1:=KV (w:=1) (.inl rfl) b;have a:(1:Int) * q.num.sign > 0↔0 < q:=by rw [h1.2];have:((1:Int):Rat)=1:=rfl;rw [this,Zj]
 rw [Ww] at a;rcases px q with e | e | e
 .rw [e,if_pos (a.1 (by rw [e];decide))];rfl
 .rw [e,if_neg (λh=>by have:=a.2 h;rw [e] at this;exact absurd this (by decide))];rfl
 .exact absurd ((gm q).1 e) b
theorem wv{q:Rat}(a:q≠0):q.num.sign=1\/q.num.sign= -1:=by
 rcases px q with e | e | e
 .exact .inl e
 .exact .inr e
 .exact absurd ((gm q).1 e) a
section
variable {n:Nat} {rows:List R} {gl:List Int} {t:TL}
theorem fm.self(go:ir n rows gl)(h:fm n rows gl t){v:Nat}(hv:v < n+rows.length)(g:nv (aq t.aB v)≠0)(a:fq n rows t.val v (nv (aq t.aB v)).num.sign=true):
  jh n rows v (iN (nv (aq t.aB v)).num.sign)=false:=by
 have m:=h.nb g;have c:=h.tok.ok.fix v hv (λi hi e=>m (by rw [<-e];exact kf h.tok.aZ hi));have o:=wv g;have p:(nv (aq t.aB v)).num.sign≠0:=by rcases o with e | e <;> rw [e] <;> decide
 rw [BZ t v p] at a;unfold jh;rcases o with e | e
 .rw [e] at a⊢;rw [if_pos (by decide)] at a;have h1:¬nv (iN 1) < 0:=by
   show ¬((1:Int):Rat) < 0;have:((1:Int):Rat)=1:=rfl;rw [this];grind
  rw [if_neg h1];rcases a with b | b
  .have b:v < n:=b;simp [b]
  .by_cases j:v < n
   .simp [j]
   .unfold Sy.fx at c;have d:¬v < (aM n rows).n:=j;rw [if_neg d] at c;rw [c] at b;exact absurd b (AX _)
 .rw [e] at a⊢;rw [if_neg (by decide)] at a;have h1:nv (iN (-1)) < 0:=by
   show((-1:Int):Rat) < 0;have:((-1:Int):Rat)= -1:=rfl;rw [this];grind
  rw [if_pos h1];cases l:fy n rows v
  .rfl
  .have k:=l8.1 l;rcases a with b | b | b
   .exact absurd b k.1
   .exact absurd k.2 b
   .unfold Sy.fx at c;have d:¬v < (aM n rows).n:=k.1;rw [if_neg d] at c;rw [c] at b;exact absurd b (AX _)
theorem BX(h:cr n rows t)(k2:∀r∈rows,r.kd≠2){u:Nat}(k:u < n+rows.length){q:Rat}(j:q≠0):
  fq n rows t.val u (1 * q.num.sign)=true↔(aM n rows).tH t.st q u:=by
 have h1:=uA (n:=n) (rows:=rows) t (w:=1) (.inl rfl) j (v:=u);have g:((1:Int):Rat) * q=q:=by have:((1:Int):Rat)=1:=rfl;rw [this,Zj]
 rw [g] at h1;rw [h1];have hz:=z0 h k2 k;have up:(aM n rows).tJ t.st u↔(aM n rows).uo t.st u:=by
  unfold Sy.tJ Sy.uo;by_cases b:u < n
  .exact⟨λ_=> .inl b,λ_=> .inl b⟩
  .have d:=k2 _ (jy (rows:=rows) (i:=u - n) (by omega));have c:(aM n rows).up u= ((aM n rows).to (u - n),0):=Ys rfl (if_neg d);rw [c];unfold eY cD.val;rw [hz];constructor
   .rintro(a | a | ⟨_,a⟩)
    .exact .inl a
    .exact .inr a
    .exact absurd a (by grind)
   .rintro(a | a)
    .exact .inl a
    .exact .inr (.inl a)
 have e:(aM n rows).tI t.st u↔(aM n rows).tK t.st u:=by
  unfold Sy.tI Sy.tK;by_cases b:u < n
  .exact⟨λ_=> .inl b,λ_=> .inl b⟩
  .have d:=k2 _ (jy (rows:=rows) (i:=u - n) (by omega));have c:(aM n rows).up u= ((aM n rows).to (u - n),0):=Ys rfl (if_neg d);rw [c];unfold eY cD.val;rw [hz];constructor
   .rintro(a | a | a | ⟨_,a⟩)
    .exact .inl a
    .exact .inr (.inl a)
    .exact .inr (.inr a)
    .exact absurd a (by grind)
   .rintro(a | a | a)
    .exact .inl a
    .exact .inr (.inl a)
    .exact .inr (.inr (.inl a))
 unfold Sy.Can Sy.tH;rw [up,e]
theorem fm.step(go:ir n rows gl)(h:fm n rows gl t){v:Nat}(hen:aW n rows t.val 1 t.aB 0=some v)(hfd:(br n rows t v (nv (aq t.aB v)).num.sign).2.2=true):
  fm n rows gl (fj n rows v (nv (aq t.aB v)).num.sign t)/\∃i,(aM n rows).Bt t.st (λu=>nv (aq t.aB u)) (fj n rows v (nv (aq t.aB v)).num.sign t).st i v:=by
 obtain⟨_,e2,e3,x,e5⟩:=kW hen;rw [Ws] at e3 x;rw [Ww] at x;rw [VM,h.len] at e2;have hself:=h.self go e2 e3 x;have w:=h.nb e3;have hvB:¬t.st.gB rows.length v:=λ⟨i,hi,e⟩=>w (by rw [<-e];exact kf h.tok.aZ hi);have hw:=wv e3;have hsw:=Tg e3;generalize hwv:(nv (aq t.aB v)).num.sign=ak at *
 have hwne:(ak:Rat)≠0:=by
  rcases hw with rfl | rfl
  .have:((1:Int):Rat)=1:=rfl;rw [this];grind
  .have:((-1:Int):Rat)= -1:=rfl;rw [this];grind
 rcases IV h.tok go.k2 (v:=v) (ak:=ak) hself with⟨hf,_⟩ | ⟨i,hi,l1,l2,l3,l4,l5⟩
 .rw [hf] at hfd;cases hfd
 .have hd0:t.st.c i v * (ak:Rat)≠0:=by
   rcases l3.2 with A | ⟨A,_⟩
   .intro H;rw [H] at A;exact absurd A (by grind)
   .intro H;rw [H] at A;exact absurd A (by grind)
  have hc0:nv (aq (az t.al i) v)≠0:=λH=>hd0 (by
   show nv (aq (az t.al i) v) * (ak:Rat)=0;rw [H,WQ])
  have P:=l3.1;have N:t.st.ah i < n+rows.length:=h.tok.ok.wf.hb i hi;have hg:=jg (t:=t) (i:=i) (by rw [h.tok.aZ.b];exact hi);have I:=Ci h.tok go.k2 hi l3;rw [<-l4] at I;have T:nv (br n rows t v ak).2.1.1=dv n rows t v ak i:=congrArg Prod.fst I;have hfz:nv (br n rows t v ak).2.1.2=0:=congrArg Prod.snd I;have X:fj n rows v ak t=fB i v (t.st.ah i) (cH (az t.al i) v (t.st.ah i)) false (eC v (fM (br n rows t v ak).2.1 (iN ak)) t):=by unfold fj;rw [l1,if_pos (by omega),VA]
  have r:=go.k2 _ (jy (rows:=rows) (i:=t.st.ah i - n) (by omega));have hfx:(aM n rows).fx (t.st.ah i)= ((aM n rows).to (t.st.ah i - n),0):=by unfold Sy.fx;have hn':¬t.st.ah i < (aM n rows).n:=Xu.2 P;rw [if_neg hn'];unfold Sy.up;refine Ys rfl ?_;exact if_neg r
  have hval:vv (aI (eC v (fM (br n rows t v ak).2.1 (iN ak)) t).val (t.st.ah i))= (aM n rows).fx (t.st.ah i):=by
   rw [z5 h.tok.aZ v _ e2 w hg,hfx];have hz:=z0 h.tok go.k2 N;refine Ys ?_ ?_
   .show t.st.y (t.st.ah i)+nv (br n rows t v ak).2.1.1 * (ak:Rat) * t.st.c i v= (aM n rows).to (t.st.ah i - n);rw [T];unfold dv;rw [WM];have:=YH _ hd0;grind
   .show t.st.z (t.st.ah i)+nv (br n rows t v ak).2.1.2 * (ak:Rat) * t.st.c i v=0;rw [hfz,hz];grind
  obtain⟨p1,p2⟩:=h.tok.JX (i:=i) (v:=v) (fM (br n rows t v ak).2.1 (iN ak)) false hi e2 hc0 hval;have L:(fj n rows v ak t).aB=jC (cH (az t.al i) v (t.st.ah i)) v t.aB:=by rw [X];rfl
  rw [<-X] at p1 p2;have K:t.st.ah i≠v:=λe=>w (by rw [<-e];exact kf h.tok.aZ hi);have hrow:=h.tok.aZ.row hi;have hpl:(cH (az t.al i) v (t.st.ah i)).length=n+rows.length:=by unfold cH;simp;exact hrow
  have hpr:∀k,k < n+rows.length->nv (aq (cH (az t.al i) v (t.st.ah i)) k)=gP (t.st.c i) (t.st.ah i) v k:=λk r=>JY (by omega) (by omega) (by omega) K;have U:∀k,k < n+rows.length->nv (aq (fj n rows v ak t).aB k)=kH (gP (t.st.c i) (t.st.ah i) v) v (λu=>nv (aq t.aB u)) k:=λk r=>by
   rw [L,Lc (by rw [hpl,h.len]) (by rw [h.len];exact e2) (by rw [h.len];exact r) (by rw [hpr v e2];exact vR K)];unfold kH;by_cases l:k=v
   .rw [if_pos l,if_pos l]
   .rw [if_neg l,if_neg l];show _+ _ * nv (aq (cH (az t.al i) v (t.st.ah i)) k)=_;rw [hpr k r]
  have hy':∀k,k < n+rows.length->(fj n rows v ak t).st.y k=t.st.y k+dv n rows t v ak i * t.st.dir rows.length v (ak:Rat) k:=by
   intro k r;have e:(fj n rows v ak t).st.y k=nv (aI (eC v (fM (br n rows t v ak).2.1 (iN ak)) t).val k).1:=by rw [X];rfl
   rw [e];by_cases W:k∈t.ah
   .obtain⟨j,a,e,hgj⟩:=l9 h.tok.aZ W;have G:t.st.dir rows.length v (ak:Rat) (t.st.ah j)=t.st.c j v * (ak:Rat):=uJ (S:=aM n rows) h.tok.ok (ak:Rat) a hvB;rw [z5 h.tok.aZ v _ e2 w hgj,<-e,G];show t.st.y (t.st.ah j)+nv (br n rows t v ak).2.1.1 * (ak:Rat) * t.st.c j v=_;rw [T];grind
   .rw [DA h.tok.aZ v _ e2 W];by_cases l:k=v
    .rw [if_pos l,l,rY];show t.st.y v+nv (br n rows t v ak).2.1.1 * (ak:Rat)=_;rw [T]
    .rw [if_neg l,rX t.st (ak:Rat) l (λ⟨j,a,e⟩=>W (by rw [<-e];exact kf h.tok.aZ a)),WT,YG];rfl
  have C: 0<=dv n rows t v ak i:=by
   obtain⟨E,q⟩:=h.fe _ P N;unfold dv;refine R8 ?_;rcases l3.2 with A | ⟨_,A⟩
   .refine .inl ⟨A, ?_⟩;have:t.st.y (t.st.ah i)<=(aM n rows).to (t.st.ah i - n):=E;grind
   .refine .inr ?_;have:t.st.y (t.st.ah i)= (aM n rows).to (t.st.ah i - n):=q A;grind
  refine⟨⟨p1, ?_,⟨λj a=> ?_,λy hy=> ?_⟩,λu o M=> ?_⟩,i, ?_⟩
  .rw [L,Ld];exact h.len
  .have hbj:(fj n rows v ak t).st.ah j < n+rows.length:=p1.ok.wf.hb j a;show nv (aq (fj n rows v ak t).aB ((fj n rows v ak t).st.ah j))=0;rw [U _ hbj,p2 j];unfold kH ic;by_cases V:j=i
   .rw [if_pos V,if_pos rfl]
   .rw [if_neg V];have F:t.st.ah j≠v:=λe=>w (by rw [<-e];exact kf h.tok.aZ a);have hne2:t.st.ah j≠t.st.ah i:=λe=>V (h.tok.ok.wf.inj j i a hi e);rw [if_neg F];have h1:nv (aq t.aB (t.st.ah j))=0:=h.g.z j a;have p:gP (t.st.c i) (t.st.ah i) v (t.st.ah j)=0:=by
     unfold gP;rw [if_neg hne2,if_neg F,h.tok.ok.wf.z i j hi a,WM];grind
    show nv (aq t.aB (t.st.ah j))+nv (aq t.aB v) * gP (t.st.c i) (t.st.ah i) v (t.st.ah j)=0;rw [h1,p];grind
  .have h1:=h.g.same y hy;show sm (n+rows.length) (λk=>nv (aq (fj n rows v ak t).aB k) * y k)=_;rw [ef (g:=λk=>kH (gP (t.st.c i) (t.st.ah i) v) v (λu=>nv (aq t.aB u)) k * y k) (λk r=>by rw [U k r])];rw [DP e2 (vR K),J1 N e2 K (h.tok.ok.wf.z i i hi hi) hc0];have p:y (t.st.ah i)=sm (n+rows.length) (λk=>t.st.c i k * y k):=(h.tok.ok.wf.same y).2 hy i hi;rw [<-p];have h3:sm (n+rows.length) (λk=>nv (aq t.aB k) * y k)=sm n (λk=>gR gl k * y k):=h1;show _=sm n (λk=>gR gl k * y k);rw [<-h3,WM];grind
  ·
   have o:n<=u:=o;have M:u < n+rows.length:=M;obtain⟨E,q⟩:=h.fe u o M;show(fj n rows v ak t).st.y u<=(aM n rows).to (u - n)/\((aM n rows).kd (u - n)=3->(fj n rows v ak t).st.y u= (aM n rows).to (u - n));have E:t.st.y u<=(aM n rows).to (u - n):=E;have q:(aM n rows).kd (u - n)=3->t.st.y u= (aM n rows).to (u - n):=q;rw [hy' u M];by_cases Z:u=v
   .rw [Z,rY];rw [Z] at E q o;have hwm:ak= -1/\(aM n rows).kd (v - n)≠3:=by
     have D:=h.tok.ok.fix v e2 (λi hi e=>w (by rw [<-e];exact kf h.tok.aZ hi));unfold Sy.fx at D;have J:¬v < (aM n rows).n:=Xu.2 o;rw [if_neg J] at D;have hw0:ak≠0:=by rcases hw with e | e <;> rw [e] <;> decide
     rw [BZ t v hw0] at x;rcases hw with e | e
     .rw [e,if_pos (by decide)] at x;rcases x with m | m
      .exact absurd m J
      .rw [D] at m;exact absurd m (AX _)
     .rw [e,if_neg (by decide)] at x;rcases x with m | m | m
      .exact absurd m J
      .exact⟨e,m⟩
      .rw [D] at m;exact absurd m (AX _)
    refine⟨?_,λs=>absurd s hwm.2⟩;rw [hwm.1];have:((-1:Int):Rat)= -1:=rfl;rw [hwm.1] at C;rw [this];grind
   .by_cases hub:u∈t.ah
    .obtain⟨j,a,e,_⟩:=l9 h.tok.aZ hub;have G:t.st.dir rows.length v (ak:Rat) (t.st.ah j)=t.st.c j v * (ak:Rat):=uJ (S:=aM n rows) h.tok.ok (ak:Rat) a hvB;rw [<-e,G];rw [<-e] at E q o;generalize Q:t.st.c j v * (ak:Rat)=d;have key:iD n rows t v ak j->dv n rows t v ak i<=((aM n rows).to (t.st.ah j - n) - t.st.y (t.st.ah j)) * d⁻¹:=λhB=>by
      have:=(l5 j a hB).1;unfold dv at this⊢;rw [WM _ (t.st.c j v * (ak:Rat)),Q] at this;exact this
     have htri:d < 0\/0 < d\/d=0:=by grind
     rcases htri with B | B | B
     ·
      constructor
      .have:=Zi C (show 0<= -d by grind);grind
      .intro s;have hy0:=q s;have h1:=key ⟨o, .inr ⟨by rw [Q];exact B,s⟩⟩;rw [hy0] at h1⊢;have p:dv n rows t v ak i=0:=by grind
       rw [p];grind
     .have hB:iD n rows t v ak j:=⟨o, .inl (by rw [Q];exact B)⟩;have h1:=key hB;have p:=Rat.mul_le_mul_of_nonneg_right h1 (ZF B);have h3:=Rat.inv_mul_cancel d (λH=>by rw [H] at B;exact absurd B (by grind));have h4:dv n rows t v ak i * d<=(aM n rows).to (t.st.ah j - n) - t.st.y (t.st.ah j):=by
       rw [Rat.mul_assoc,h3,ZK] at p;exact p
      refine⟨by grind,λs=> ?_⟩;have hy0:=q s;have h5:=Zi C (ZF B);rw [hy0] at h4⊢;grind
     .rw [B,WT,YG];exact⟨E,q⟩
    .rw [rX t.st (ak:Rat) Z (λ⟨j,a,e⟩=>hub (by rw [<-e];exact kf h.tok.aZ a)),WT,YG];exact⟨E,q⟩
  .have Y:kL ((λu=>nv (aq t.aB u)) v)= (ak:Rat):=hsw.symm;refine⟨hi,e2,e3, ?_,λu hu F=> ?_,P, ?_,λj a hbnj O=> ?_,funext p2,λk r=> ?_⟩
   .have hw1:fq n rows t.val v (1 * (nv (aq t.aB v)).num.sign)=true:=by rw [Ww,hwv];exact x
    exact(BX h.tok go.k2 e2 e3).1 hw1
   .intro m;have h1:=e5 u (Ye _) hu (by rw [Ws];exact F);rw [Ws] at h1;have p:=(BX h.tok go.k2 (by omega) F).2 m;rw [h1] at p;cases p
   .rw [Y];exact l3.2
   .rw [Y] at O⊢;exact l5 j a ⟨hbnj,O⟩
   .rw [Y];exact hy' k r
end
open Go Go.Aev Go.Aev.Gen Go.Aev.Wd Go.Aev.Tb
def dM(n:Nat)(rows:List R):Nat->TL->Option (List Nm)×Option (List Nm)×Bool×TL
 | p,t=>match aW n rows t.val 1 t.aB 0 with
  | none=>(some (t.aB.drop n),none,true,t)
  | some v=>match p with
   | 0=>(none,none,false,t)
   | p+1=>if(br n rows t v (nv (aq t.aB v)).num.sign).2.2=false then(none,some (jV n t v (nv (aq t.aB v)).num.sign),true,t)
    else dM n rows p (fj n rows v (nv (aq t.aB v)).num.sign t)
def sP(n:Nat)(rows:List R)(f:Fl)(r:Option (List Nm)×Option (List Nm)×Bool×TL):List T:=e9 r.1::e9 r.2.1::tb r.2.2.1::rK n rows f r.2.2.2
theorem mS{n:Nat}{rows:List R}{t:TL}(p:Nat)(h:aW n rows t.val 1 t.aB 0=none):dM n rows p t= (some (t.aB.drop n),none,true,t):=by
 cases p with
 | zero=>rw [dM,h]
 | succ p=>rw [dM,h]
theorem qC{n:Nat}{rows:List R}{t:TL}{v:Nat}(h:aW n rows t.val 1 t.aB 0=some v):dM n rows 0 t= (none,none,false,t):=by rw [dM,h]
theorem qA{n:Nat}{rows:List R}{t:TL}(p:Nat){v:Nat}(h:aW n rows t.val 1 t.aB 0=some v)(a:(br n rows t v (nv (aq t.aB v)).num.sign).2.2=false):
  dM n rows (p+1) t= (none,some (jV n t v (nv (aq t.aB v)).num.sign),true,t):=by
 rw [dM,h];simp only [a,if_true]
theorem qB{n:Nat}{rows:List R}{t:TL}(p:Nat){v:Nat}(h:aW n rows t.val 1 t.aB 0=some v)(a:(br n rows t v (nv (aq t.aB v)).num.sign).2.2=true):
  dM n rows (p+1) t=dM n rows p (fj n rows v (nv (aq t.aB v)).num.sign t):=by
 rw [dM,h];simp only [a];rfl
theorem Ul{n:Nat}{rows:List R}{gl:List Int}(f:Fl)(j:f.eg=false)(go:ir n rows gl)(g:Bool)(o:List (List T)):∀(p:Nat) (t:TL),p<=100000->fm n rows gl t->
  Or oG [r0,I (p:Int)] (S4 n rows f t g o)=some (sP n rows f (dM n rows p t)):=by
 intro p;induction p using Nat.strongRecOn with
 | _ p r=>
 intro t q h;have m:=go.ro.sz;have e:=h.tok.val go.ro;have c:=h.tok.al go.ro;have l:=h.gq go;have:=Uh (n:=n) (rows:=rows) f t m h.tok.aZ j e c h.len l (λk i d=>h.tok.vB d) g o p q (by omega) (by omega) (λv hv=>h.nb hv)
  (λv ak _ d=>IU h.tok.aZ v ak d) (res:=sP n rows f (dM n rows p t)) (by
   cases b:aW n rows t.val 1 t.aB 0 with
   | none=>simp only;rw [mS p b];rfl
   | some v=>
    simp only;cases p with
    | zero=>rw [qC b];rfl
    | succ p=>
     cases a:(br n rows t v (nv (aq t.aB v)).num.sign).2.2
     .rw [qA p b a];simp only [mR,a,if_true];rfl
     .rw [qB p b a];simp only [mR,a,Bool.true_eq_false,if_false];exact r p (Xc p) _ (by omega) (h.step go b a).1) t.aB 0 rfl rfl
 refine aj ?_;rw [O5];simp only [bH];exact this
theorem Uk{n:Nat}{rows:List R}{gl:List Int}(f:Fl)(c:f.eg=false)(go:ir n rows gl)(d:Bool)(l:List (List T)):∀(p:Nat) (t:TL),p<=100000->fm n rows gl t->
  Or oG [r0,I (p:Int)] (S3 n rows f t d l)=some (sP n rows f (dM n rows p t)):=by
 intro p
 skip
 intro t q h;have o:=go.ro.sz;have j:=h.tok.val go.ro;have e:=h.tok.al go.ro;have m:=h.gq go;have:=Ug (n:=n) (rows:=rows) f t o h.tok.aZ c j e h.len m (λk i g=>h.tok.vB g) d l p q (by omega) (by omega) (λv hv=>h.nb hv)
  (λv ak _ g=>IU h.tok.aZ v ak g) (res:=sP n rows f (dM n rows p t)) (by
   cases b:aW n rows t.val 1 t.aB 0 with
   | none=>simp only;rw [mS p b];rfl
   | some v=>
    simp only;cases p with
    | zero=>rw [qC b];rfl
    | succ p=>
     cases a:(br n rows t v (nv (aq t.aB v)).num.sign).2.2
     .rw [qA p b a];simp only [mR,a,if_true];rfl
     .rw [qB p b a];simp only [mR,a,Bool.true_eq_false,if_false];exact Ul f c go d l p _ (by omega) (h.step go b a).1) t.aB 0 rfl rfl
 refine aj ?_;rw [OZ];simp only [bH];exact this
theorem Ue{n:Nat}{rows:List R}{gl:List Int}(f:Fl)(go:ir n rows gl)(el:Bool)(p:Nat)(t:TL)(e:p<=100000)(h:cr n rows t)(a:(aM n rows).rf t.st):
  Or (.call 41) [r0,aa el gl,I (p:Int)] (S1 n rows f t)=
   some (sP n rows ⟨f.er,f.eb,f.ec,f.ev,false⟩ (dM n rows p {t with aB:=js t gl 0 (List.replicate (n+rows.length) none)})):=by
 have c:=C1 h a go.gl;have b:=Uk (n:=n) (rows:=rows) ⟨f.er,f.eb,f.ec,f.ev,false⟩ rfl go f.eg (aS t.aB) p _ e c;exact Uf (n:=n) (rows:=rows) f t h.aZ go.ro.sz.n go.ro.sz.m (h.al go.ro) (λk i d=>h.vB d) (p:Int) el gl go.gb go.gl (by omega) b
end Go.Aev.Wd.Lg
