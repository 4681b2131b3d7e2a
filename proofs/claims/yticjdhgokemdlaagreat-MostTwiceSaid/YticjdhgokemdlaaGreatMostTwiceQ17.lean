import Derived.Test.YticjdhgokemdlaaGreatMostTwiceQ16
set_option linter.all false
namespace Go.Aev.Wd.Lg
open Go Go.Aev Go.Aev.Gen Go.Aev.Wd Go.Aev.Tb Go.IntKind
abbrev S3(n:Nat)(rows:List R)(f:Fl)(t:TL)(a:Bool)(go:List (List T)):List ab:=
 [ab.box [I (n:Int),AV.t (T.aa 3 f.er (cU rows)),AV.own (Id.c 1),AV.own (Id.c 2),AV.own (Id.c 3),AV.own (Id.c 4),AV.own (Id.c 6)],ab.sl false 1 f.eb (cY t.af),ab.mp false [Ck.i .i64] (Ck.i .i64) (bZ t.mp),
  ab.rows f.ec 1 0 4 t.ak.length (bK 0 t.ak),ab.sl false 8 f.ev (dX t.val),ab.sl false 4 a go,ab.sl false 4 f.eg (aS t.aA)]
abbrev S4(n:Nat)(rows:List R)(f:Fl)(t:TL)(a:Bool)(go:List (List T)):List ab:=
 [ab.box [I (n:Int),AV.t (T.aa 3 f.er (cU rows)),AV.own (Id.c 1),AV.own (Id.c 2),AV.own (Id.c 6),AV.own (Id.c 4),AV.own (Id.c 7)],ab.sl false 1 f.eb (cY t.af),ab.mp false [Ck.i .i64] (Ck.i .i64) (bZ t.mp),
  ab.dead,ab.sl false 8 f.ev (dX t.val),ab.sl false 4 a go,ab.rows f.ec 1 0 4 t.ak.length (bK 0 t.ak),ab.sl false 4 f.eg (aS t.aA)]
abbrev Mf(n:Nat)(rows:List R)(f:Fl)(t:TL)(a:Bool)(go:List (List T)):List ab:=
 [ab.box [I (n:Int),AV.t (T.aa 3 f.er (cU rows)),AV.own (Id.c 1),AV.own (Id.c 2),AV.own (Id.c 7),AV.own (Id.c 4),AV.own (Id.c 6)],ab.sl false 1 f.eb (cY t.af),ab.mp false [Ck.i .i64] (Ck.i .i64) (bZ t.mp),
  ab.dead,ab.sl false 8 f.ev (dX t.val),ab.sl false 4 a go,ab.sl false 4 f.eg (aS t.aA),ab.rows f.ec 1 0 4 t.ak.length (bK 0 t.ak)]
def rY(n:Nat)(rows:List R)(f:Fl)(t:TL):List T:=
 [ti (n:Int),T.aa 3 f.er (cU rows),T.aw,T.aw,bO f.ec (bK 0 t.ak),T.aw,T.aa 4 f.eg (aS t.aA),T.aa 1 f.eb (cY t.af),bT (bZ t.mp),T.aa 8 f.ev (dX t.val)]
theorem qV(n:Nat)(rows:List R)(f:Fl)(t:TL):rY n rows f t= [ti (n:Int),T.aa 3 f.er (cU rows),T.aw,T.aw,bO f.ec (bK 0 t.ak),T.aw,T.aa 4 f.eg (aS t.aA),T.aa 1 f.eb (cY t.af),bT (bZ t.mp),T.aa 8 f.ev (dX t.val)]:=rfl
def iD(c:Nm):List Nm->List Nm->List Nm
 | a::d,g::b=>pl g (tm a c)::iD c d b
 | _,b=>b
def jr(t:TL):List Int->Nat->List Nm->List Nm
 | [],_,g=>g
 | c::cs,k,g=>jr t cs (k+1) (match cg k t.mp with
  | some i=>iD (iN c) (ay t.ak i) g
  | none=>g.set k (pl (aq g k) (iN c)))
theorem zk(c:Nm):∀(a g:List Nm),(iD c a g).length=g.length
 | [],_=>by simp [iD]
 | _::_,[]=>by simp [iD]
 | a::l,g::r=>by simp [iD,zk c l r]
theorem Iv{m k:Nat}{c:Nm}(i:QN 20 c):∀(a g:List Nm),(∀x∈a,QN k x)->(∀x∈g,QN m x)->∀x∈iD c a g,QN (m+ (k+20)+1) x
 | [],g,_,d=>by intro x b;simp [iD] at b;exact(d x b).mono (by omega)
 | _::_,[],_,_=>by intro x b;simp [iD] at b
 | a::l,g::r,e,d=>by
  intro x b;rw [iD] at b;rcases Vo.1 b with rfl | b
  .exact(d g Vb).add ((e a Vb).mul i)
  .exact Iv i l r (λx h=>e x (Vc _ h)) (λx h=>d x (Vc _ h)) x b
section
variable {n:Nat} {rows:List R} (f:Fl) (t:TL)
theorem Ul{mc mg:Nat}(g:cO n rows.length t)(W:n<=12)(hm:rows.length<=40)(L:∀x∈t.ak,∀y∈x,QN mc y)(s:Bool)(go:List (List T))(p:Int){c:Int}(Q: -1000000<=c/\c<=1000000)(el:Bool)(gl:List Int)(k:Nat)(V:k<=1000){i:Nat}(hi:i < rows.length)
  (hs:mg+ (mc+20)+1<=6300) {res:List T} {w:List Nm}
  (q:Or rX [r0,I p,aa el gl,I (gl.length:Int),I ((k+1:Nat):Int)] (S3 n rows f {t with aA:=w} s go)=some res):
  ∀(d a b:List Nm) (j:Nat),(ay t.ak i).drop j=d->b.length=j->d.length=a.length->(∀y∈a,QN mg y)->b++iD (iN c) d a=w->
  Or A8 [r0,I p,I c,aa el gl,I (gl.length:Int),I (k:Int),AV.row (Id.c 3) i,I ((ay t.ak i).length:Int),I (j:Int)] (S3 n rows f {t with aA:=b++a} s go)=some res:=by
 have S:=g.c;have M:=g.row hi;have z:=jN (ak:=t.ak) (i:=i) (by omega);have E:=fT c (by omega);have H:QN 20 (iN c):=eF (by omega);intro d;induction d with
 | nil=>
  intro a b j h m o hy e;have h1:¬(j:Int) < ((ay t.ak i).length:Int):=by have:=bw h;omega
  have A:iD (iN c) [] a=a:=rfl;rw [A] at e;refine al ?_;rw [HI];simp only [ai,↓reduceIte,Int.reduceBEq,Int.reduceEq,GD,h1,next k (by omega)];rw [e];exact q
 | cons r d O=>
  intro a b j h m o hy e;obtain⟨v,U,K⟩:=bt h;cases a with
  | nil=>simp at o
  | cons y a=>
   have h1:(j:Int) < ((ay t.ak i).length:Int):=by omega
   have C: 0<=(j:Int):=by omega
   have D:(j:Int) < ((b++y::a).length:Int):=by simp;omega
   have B:(b++y::a)[j]? =some y:=by rw [Wn (by omega),m,XW];rfl
   have q1:=L _ (Va (jh (ak:=t.ak) (i:=i) (by omega))) r (Va v);have P:=hy y Vb;have G:=mo q1 H (by omega);have F:=nU (x:=y) (y:=tm r (iN c)) P (q1.mul H) hs;have J:=kk (l:=b++y::a) (i:=j) (by omega) (pl y (tm r (iN c)));rw [rr _ _ _ _ _ m] at J;have:=O a (b++ [pl y (tm r (iN c))]) (j+1) K (by simp;omega) (by simpa using o) (λu N=>hy u (Vc _ N)) (by rw [<-e];simp [iD]);simp only [VJ,Vf,Vg] at this;refine al ?_;rw [HI];simp only [ai,↓reduceIte,Int.reduceBEq,Int.reduceEq,GD,h1,C,D,and_self,z,bJ,cw v,cw B,E,G,F,J,next j (by omega)];exact this
theorem Um{mc:Nat}(j:cO n rows.length t)(M:n<=12)(hm:rows.length<=40)(v:∀x∈t.ak,∀y∈x,QN mc y)(F:∀k i,cg k t.mp=some i->i < rows.length)
  (o:Bool) (go:List (List T)) (p:Int) (el:Bool) (gl:List Int) (B:∀c∈gl, -1000000<=c/\c<=1000000) (Q:gl.length<=n) {res:List T}:
  ∀(cs:List Int) (k mg:Nat) (g:List Nm),gl.drop k=cs->g.length=n+rows.length->(∀y∈g,QN mg y)->mg+ (mc+21) * cs.length<=6300->
  Or oJ [r0,I p] (S3 n rows f {t with aA:=jr t cs k g} o go)=some res->
  Or rX [r0,I p,aa el gl,I (gl.length:Int),I (k:Int)] (S3 n rows f {t with aA:=g} o go)=some res:=by
 have P:=j.c;intro cs;induction cs with
 | nil=>
  intro k mg g h d e hs a;have h1:¬(k:Int) < (gl.length:Int):=by have:=bw h;omega
  refine al ?_;rw [Cj];simp only [ai,↓reduceIte,Int.reduceBEq,Int.reduceEq,GD,h1];exact a
 | cons c cs G=>
  intro k mg g h d e hs a;obtain⟨q,S,u⟩:=bt h;have h1:(k:Int) < (gl.length:Int):=by omega
  have m: 0<=(k:Int):=by omega
  have w:=B c (Va q);have s:QN 20 (iN c):=eF (by omega);rw [Vy,YU,YD] at hs;have b:=u5 k t.mp;rw [jr] at a;cases r:cg k t.mp with
  | none=>
   rw [r] at b a;simp only at a;have E:(k:Int) < (g.length:Int):=by omega
   have H:=fT c (by omega);have K:=e _ (Va (gF (l:=g) (i:=k) (by omega)));have J:=nU (x:=aq g k) (y:=iN c) K s (by omega);have O:=kk (l:=g) (i:=k) (by omega) (pl (aq g k) (iN c));have:=G (k+1) (mg+ (mc+21)) (g.set k (pl (aq g k) (iN c))) u (by rw [Wa];exact d) (λy hy=>by
    rcases VM hy with hy | hy
    .exact(e y hy).mono (by omega)
    .subst hy;exact(K.add s).mono (by omega)) (by omega) a
   refine al ?_;rw [Cj];simp only [ai,↓reduceIte,Int.reduceBEq,Int.reduceEq,GD,h1,m,E,and_self,cJ,iV q,b,YH,V7,Zt,bJ,cw (gF (l:=g) (i:=k) (by omega)),H,J,O,next k (by omega)];exact this
  | some i=>
   rw [r] at b a;simp only at a;have hi:=F k i r;have N:=j.row hi;have D: 0<=(i:Int)/\(i:Int) < (t.ak.length:Int):=by omega
   have C:=lj (ak:=t.ak) (i:=i) (by omega);have A:=jN (ak:=t.ak) (i:=i) (by omega);have z:=v _ (Va (jh (ak:=t.ak) (i:=i) (by omega)));have L:=G (k+1) (mg+ (mc+21)) (iD (iN c) (ay t.ak i) g) u (by rw [zk];exact d) (λy hy=>(Iv s _ _ z e y hy).mono (by omega)) (by omega) a;have:=Ul (n:=n) (rows:=rows) f t j M hm v o go p w el gl k (by omega) hi (mg:=mg) (by omega) L (ay t.ak i) g [] 0 rfl rfl (by omega) e rfl;simp only [Vg] at this;refine al ?_;rw [Cj];simp only [ai,↓reduceIte,Int.reduceBEq,Int.reduceEq,GD,h1,m,and_self,cJ,iV q,b,Xm,VD,Zu,D,dh,C,A,bJ];exact this
theorem Ui{mc:Nat}(b:cO n rows.length t)(o:n<=12)(hm:rows.length<=40)(m:∀x∈t.ak,∀y∈x,QN mc y)(j:∀k i,cg k t.mp=some i->i < rows.length)
  (p:Int) (el:Bool) (gl:List Int) (g:∀c∈gl, -1000000<=c/\c<=1000000) (h:gl.length<=n) (hs:(mc+21) * 12<=6300) {res:List T}
  (e:Or oJ [r0,I p] (S3 n rows ⟨f.er,f.eb,f.ec,f.ev,false⟩ {t with aA:=jr t gl 0 (List.replicate (n+rows.length) none)} f.eg (aS t.aA))=some res):
  Or (.call 41) [r0,aa el gl,I p] (S1 n rows f t)=some res:=by
 have d:=b.v;have a:=qR (k:=t.val.length) (by omega);have l:((t.val.length:Nat):Int).toNat=t.val.length:=by omega
 have:=Um (n:=n) (rows:=rows) ⟨f.er,f.eb,f.ec,f.ev,false⟩ t b o hm m j f.eg (aS t.aA) p el gl g h gl 0 0 (List.replicate (n+rows.length) none) rfl (by simp)
  (λy hy=>by rw [WD hy];exact iM _) (by
   have:(mc+21) * gl.length<=(mc+21) * 12:=Nat.mul_le_mul_left _ (by omega);omega) e
 refine al ?_;rw [OT];simp only [ai,↓reduceIte,Int.reduceBEq,Int.reduceEq,GD,cQ,a,l,sF,d,cJ];rw [d] at a;simp only [ai,↓reduceIte,Int.reduceBEq,Int.reduceEq,GD,a];exact this
end
theorem sB{a:Type}(x y z u v t w s p q:a)(l:List a):(x::y::z::u::v::t::w::s::p::q::l).drop 10=l:=by cases l <;> rfl
def fb(n:Nat)(rows:List R)(v:Nat)(aj:Int)(t:TL):TL:=
 if(bm n rows t v aj).1>=0 then
  fk (bm n rows t v aj).1.toNat v (t.st.af (bm n rows t v aj).1.toNat) (cD (ay t.ak (bm n rows t v aj).1.toNat) v (t.st.af (bm n rows t v aj).1.toNat)) false (dZ v (fE (bm n rows t v aj).2.1 (iN aj)) t)
 else dZ v (fE (bm n rows t v aj).2.1 (iN aj)) t
noncomputable def mV(n:Nat)(rows:List R)(f:Fl)(t:TL)(p:Nat)(a:Bool)(go:List (List T))(v:Nat)(aj:Int):Option (List T):=
 match p with
 | 0=>some (T.aK true::T.aK true::tb false::rY n rows f t)
 | p+1=>if(bm n rows t v aj).2.2=false then some (T.aK true::T.aa 4 false (aS (jx n t v aj))::tb true::rY n rows f t)
  else Or oJ [r0,I (p:Int)] (S4 n rows f (fb n rows v aj t) a go)
theorem IV{n:Nat}{rows:List R}{t:TL}{mv mc:Nat}(sz:Sz n rows)(c:cO n rows.length t)(e:∀u,u < n+rows.length->VB mv (aJ t.val u))(j:∀x∈t.ak,∀y∈x,QN mc y)
  {v:Nat} (hv:v < n+rows.length) {aj:Int} (k:aj=1\/aj= -1) (q:mv+mc+40<=2000):VB (mv+mc+40) (bm n rows t v aj).2.1:=by
 have g:QN 2 (iN aj):=by rcases k with rfl | rfl <;> exact eF (by decide)
 have o:=yx sz (t:=t) hv (e v hv) g (M:=mv+mc+40) (by omega) (by omega) (-1) (s:=(-1,(none,none),false)) (EM _);have d:∀(bs:List Nat) (xs:List (List Nm)) (i:Nat) (s:LF),(∀b∈bs,b < n+rows.length)->(∀x∈xs,x.length=n+rows.length/\∀y∈x,QN mc y)->VB (mv+mc+40) s.2.1->VB (mv+mc+40) (gZ n rows t v aj bs xs i s).2.1:=by
  intro bs;induction bs with
  | nil=>intro xs i s _ _ h;cases xs <;> exact h
  | cons b bs l=>
   intro xs i s hb a h;cases xs with
   | nil=>exact h
   | cons x xs=>rw [gZ];obtain⟨w,p⟩:=a x Vb;have m:QN mc (aq x v):=p _ (Va (gF (by omega)));exact l xs (i+1) _ (λb h=>hb b (Vc _ h)) (λx h=>a x (Vc _ h)) (yx sz (hb b Vb) (e b (hb b Vb)) (m.mul g) (by omega) (by omega) (i:Int) h)
 exact d _ _ _ _ c.lt (λx a=>⟨c.r x a,j x a⟩) o
section
variable {n:Nat} {rows:List R} (f:Fl) (t:TL)
set_option maxRecDepth 20000 in
theorem Uj{mv mc:Nat}(sz:Sz n rows)(l:cO n rows.length t)(X:f.eg=false)
  (W:∀u,u < n+rows.length->VB mv (aJ t.val u)) (N:∀x∈t.ak,∀y∈x,QN mc y) (hgl:t.aA.length=n+rows.length) (Y:∀y∈t.aA,QN mc y)
  (hln:∀k i,cg k t.mp=some i->i < rows.length) (eo:Bool) (go:List (List T)) (p:Nat) (hp:p<=100000)
  (h1s: 20<=mv) (h2s: 3 * mv+3 * mc+60<=2000)
  (hnb:∀v,nv (aq t.aA v)≠0->v∉t.af)
  (hlim:∀v aj,aj=1\/aj= -1->(bm n rows t v aj).1>=0->(bm n rows t v aj).1.toNat < rows.length/\nv (aq (ay t.ak (bm n rows t v aj).1.toNat) v)≠0) {res:List T}
  (d:(match aV n rows t.val 1 t.aA 0 with
   | none=>some (T.aa 4 false (aS (t.aA.drop n))::T.aK true::tb true::rY n rows f t)
   | some v=>mV n rows f t p eo go v (nv (aq t.aA v)).num.sign)=some res):
  ∀(xs:List Nm) (k:Nat),t.aA.drop k=xs->aV n rows t.val 1 xs k=aV n rows t.val 1 t.aA 0->
  Or oK [r0,I (p:Int),I (-1),I 0,AV.own (Id.c 6),I (t.aA.length:Int),I (k:Int)] (S3 n rows f t eo go)=some res:=by
 have hn:=sz.n;have hm:=sz.m;have hcl:=l.c;have hvl:=l.v;intro xs;induction xs with
 | nil=>
  intro k h O;have h1:¬(k:Int) < (t.aA.length:Int):=by have:=bw h;omega
  have P:aV n rows t.val 1 t.aA 0=none:=by rw [<-O];rfl
  have hin:bQ (n:Int) (t.aA.length:Int) (t.aA.length:Int)=some ():=vo (by omega);have hneg:(-1:Int) < 0:=by decide
  have htk:List.take (((t.aA.length:Int)).toNat - ((n:Int)).toNat) (List.drop ((n:Int)).toNat (aS t.aA))=aS (t.aA.drop n):=by
   have K:((t.aA.length:Int)).toNat=t.aA.length:=by omega
   have e2:((n:Int)).toNat=n:=by omega
   rw [K,e2,V9 (by simp [aS])];simp [aS,List.map_drop]
  rw [P] at d;simp only at d;rw [qV] at d;rw [<-d];refine al ?_;rw [qB];simp only [ai,↓reduceIte,Int.reduceBEq,Int.reduceEq,GD,h1,hneg,bJ,hin,htk,cI,cL,X]
 | cons x xs ih=>
  intro k h O;obtain⟨B,g2,g3⟩:=bt h;have h1:(k:Int) < (t.aA.length:Int):=by omega
  have z: 0<=(k:Int):=by omega
  have ks:=lM x;have qx:=Y x (Va B);by_cases M:nv x=0
  .have j:=(gu (nv x)).2 M;have D:aV n rows t.val 1 (x::xs) k=aV n rows t.val 1 xs (k+1):=by rw [aV,if_neg (λL=>L.1 M)]
   have:=ih (k+1) g3 (by rw [<-D];exact O);refine al ?_;rw [qB];simp only [bE,ai,↓reduceIte,Int.reduceBEq,Int.reduceEq,GD,h1,z,and_self,bJ,cw B,ks,j,next k (by omega)];exact this
  .have j:¬(nv x).num.sign=0:=λL=>M ((gu _).1 L);have C:(!((nv x).num.sign==0))=true:=by simpa using j
   have J:(nv x).num.sign=1\/(nv x).num.sign= -1:=by
    rcases pJ (nv x) with e | e | e
    .exact .inl e
    .exact .inr e
    .exact absurd e j
   have U:=Au sz f.er f.eb f.ev f.eg t.af t.val t.aA hvl W (by omega) (v:=k) (by omega) (nv x).num.sign;by_cases g:fg n rows t.val k (nv x).num.sign=true
   .have D:aV n rows t.val 1 (x::xs) k=some k:=by rw [aV,if_pos ⟨M,by rw [Ww];exact g⟩]
    have P:aV n rows t.val 1 t.aA 0=some k:=by rw [<-O,D]
    have Z:aq t.aA k=x:=by unfold aq;rw [U9,B];rfl
    have hkb:=hnb k (by rw [Z];exact M);have G:¬(k:Int) < 0:=by omega
    rw [P] at d;simp only at d;rw [Z] at d;generalize hwv:(nv x).num.sign=aj at *
    cases p with
    | zero=>have hz:((0:Nat):Int)=0:=rfl;simp only [mV] at d;rw [qV] at d;rw [<-d];refine al ?_;rw [qB];simp only [ai,↓reduceIte,Int.reduceBEq,Int.reduceEq,GD,h1,z,G,hz,and_self,bJ,cw B,ks,j,C,U,g,cI,cL]
    | succ p=>
     have hz:¬((p+1:Nat):Int)=0:=by omega
     have hwp:i64.wrap (((p+1:Nat):Int) - 1)= (p:Int):=by rw [Go.Aev.wr (by omega)];omega
     have o:=LX (n:=n) (rows:=rows) f t sz l W N (v:=k) (by omega) J h1s (by omega);have qL:=IV (n:=n) (rows:=rows) sz l W N (v:=k) (by omega) J (by omega);rw [eO,cH] at o;simp only [Vf,Vg] at o;simp only [mV] at d;cases F:(bm n rows t k aj).2.2
     .rw [if_pos F,qV] at d;rw [F] at o;have k87:=LY (n:=n) (rows:=rows) f t l hn hm N hln (v:=k) (by omega) J (by omega);rw [eO] at k87;rw [<-d];refine al ?_;rw [qB];simp only [ai,↓reduceIte,Int.reduceBEq,Int.reduceEq,GD,fa,cm,sB,h1,z,G,hz,and_self,bJ,cw B,ks,j,C,U,g,o,k87,e9,eM,Vj,dh,cI,cL]
     .rw [if_neg (by rw [F];decide)] at d;rw [F] at o;have k32:=fT aj (by rcases J with rfl | rfl <;> decide);have qw:QN 2 (iN aj):=by rcases J with rfl | rfl <;> exact eF (by decide)
      have S:=pM (b:=iN aj) qL qw (by omega);have qW:=nP (b:=iN aj) qL qw;have hcx:∀y∈t.ak,QB mc (nv (aq y k)):=λy hy=>N y hy _ (Va (gF (by rw [l.r y hy];omega)));have H:=tO (n:=n) (rows:=rows) f t l (v:=k) (by omega) hm hkb qW hcx (a:=mv) (by omega) W;obtain⟨A,s⟩:∃A,A=dZ k (fE (bm n rows t k aj).2.1 (iN aj)) t:=⟨_,rfl⟩;have K:A.ak=t.ak:=by rw [s];rfl
      have e2:A.aA=t.aA:=by rw [s];rfl
      rw [<-s] at H;rw [eO] at H;rw [cH] at S;by_cases w:(bm n rows t k aj).1>=0
      .obtain⟨hi,Q⟩:=hlim k aj J w;have q:fb n rows k aj t=fk (bm n rows t k aj).1.toNat k (t.st.af (bm n rows t k aj).1.toNat) (cD (ay t.ak (bm n rows t k aj).1.toNat) k (t.st.af (bm n rows t k aj).1.toNat)) false A:=by
        unfold fb;rw [if_pos w,s]
       obtain⟨i,hii⟩:∃i:Nat,(bm n rows t k aj).1= (i:Int):=⟨(bm n rows t k aj).1.toNat,by omega⟩;rw [hii] at hi Q q o w;simp only [VE] at hi Q q;have hb1:A.af[i]? =some (t.st.af i):=by rw [s];exact jd (t:=t) (by rw [l.b];exact hi)
       have E:=tP (n:=n) (rows:=rows) f A (by rw [s];exact l.mv _ _) hn hm hi (v:=k) (by omega) hb1 (by rw [K];exact N) (by rw [K];exact Q) (λ_=>by rw [e2];exact⟨hgl,Y⟩) (by omega);rw [K,X] at E;generalize cD (ay t.ak i) k (t.st.af i)=row1 at E q;generalize hT2:fk i k (t.st.af i) row1 false A=t2 at E q;rw [q] at d;rw [eO] at E;refine al ?_;rw [qB];simp only [ai,↓reduceIte,Int.reduceBEq,Int.reduceEq,GD,fa,cm,sB,h1,z,G,hz,hwp,and_self,bJ,cw B,ks,j,C,U,g,o,k32,S,H,w,E,e9,eM,Vj,dh];exact d
      .have q:fb n rows k aj t=A:=by unfold fb;rw [if_neg w,s]
       rw [q] at d;refine al ?_;rw [qB];simp only [ai,↓reduceIte,Int.reduceBEq,Int.reduceEq,GD,fa,cm,sB,h1,z,G,hz,hwp,and_self,bJ,cw B,ks,j,C,U,g,o,k32,S,H,w,e9,eM,Vj,dh];exact d
   .have D:aV n rows t.val 1 (x::xs) k=aV n rows t.val 1 xs (k+1):=by rw [aV,if_neg (λL=>g (by rw [<-Ww (nv x).num.sign];exact L.2))]
    have V:fg n rows t.val k (nv x).num.sign=false:=by simpa using g
    have:=ih (k+1) g3 (by rw [<-D];exact O);refine al ?_;rw [qB];simp only [ai,↓reduceIte,Int.reduceBEq,Int.reduceEq,GD,h1,z,and_self,bJ,cw B,ks,j,C,U,V,next k (by omega)];exact this
end
section
variable {n:Nat} {rows:List R} (f:Fl) (t:TL)
set_option maxRecDepth 20000 in
theorem Uk{mv mc:Nat}(sz:Sz n rows)(l:cO n rows.length t)(X:f.eg=false)
  (W:∀u,u < n+rows.length->VB mv (aJ t.val u)) (N:∀x∈t.ak,∀y∈x,QN mc y) (hgl:t.aA.length=n+rows.length) (Y:∀y∈t.aA,QN mc y)
  (hln:∀k i,cg k t.mp=some i->i < rows.length) (eo:Bool) (go:List (List T)) (p:Nat) (hp:p<=100000)
  (h1s: 20<=mv) (h2s: 3 * mv+3 * mc+60<=2000)
  (hnb:∀v,nv (aq t.aA v)≠0->v∉t.af)
  (hlim:∀v aj,aj=1\/aj= -1->(bm n rows t v aj).1>=0->(bm n rows t v aj).1.toNat < rows.length/\nv (aq (ay t.ak (bm n rows t v aj).1.toNat) v)≠0) {res:List T}
  (d:(match aV n rows t.val 1 t.aA 0 with
   | none=>some (T.aa 4 false (aS (t.aA.drop n))::T.aK true::tb true::rY n rows f t)
   | some v=>mV n rows f t p eo go v (nv (aq t.aA v)).num.sign)=some res):
  ∀(xs:List Nm) (k:Nat),t.aA.drop k=xs->aV n rows t.val 1 xs k=aV n rows t.val 1 t.aA 0->
  Or oK [r0,I (p:Int),I (-1),I 0,AV.own (Id.c 6),I (t.aA.length:Int),I (k:Int)] (Mf n rows f t eo go)=some res:=by
 have hn:=sz.n;have hm:=sz.m;have hcl:=l.c;have hvl:=l.v;intro xs;induction xs with
 | nil=>
  intro k h O;have h1:¬(k:Int) < (t.aA.length:Int):=by have:=bw h;omega
  have P:aV n rows t.val 1 t.aA 0=none:=by rw [<-O];rfl
  have hin:bQ (n:Int) (t.aA.length:Int) (t.aA.length:Int)=some ():=vo (by omega);have hneg:(-1:Int) < 0:=by decide
  have htk:List.take (((t.aA.length:Int)).toNat - ((n:Int)).toNat) (List.drop ((n:Int)).toNat (aS t.aA))=aS (t.aA.drop n):=by
   have K:((t.aA.length:Int)).toNat=t.aA.length:=by omega
   have e2:((n:Int)).toNat=n:=by omega
   rw [K,e2,V9 (by simp [aS])];simp [aS,List.map_drop]
  rw [P] at d;simp only at d;rw [qV] at d;rw [<-d];refine al ?_;rw [qC];simp only [ai,↓reduceIte,Int.reduceBEq,Int.reduceEq,GD,h1,hneg,bJ,hin,htk,cI,cL,X]
 | cons x xs ih=>
  intro k h O;obtain⟨B,g2,g3⟩:=bt h;have h1:(k:Int) < (t.aA.length:Int):=by omega
  have z: 0<=(k:Int):=by omega
  have ks:=lM x;have qx:=Y x (Va B);by_cases M:nv x=0
  .have j:=(gu (nv x)).2 M;have D:aV n rows t.val 1 (x::xs) k=aV n rows t.val 1 xs (k+1):=by rw [aV,if_neg (λL=>L.1 M)]
   have:=ih (k+1) g3 (by rw [<-D];exact O);refine al ?_;rw [qC];simp only [bE,ai,↓reduceIte,Int.reduceBEq,Int.reduceEq,GD,h1,z,and_self,bJ,cw B,ks,j,next k (by omega)];exact this
  .have j:¬(nv x).num.sign=0:=λL=>M ((gu _).1 L);have C:(!((nv x).num.sign==0))=true:=by simpa using j
   have J:(nv x).num.sign=1\/(nv x).num.sign= -1:=by
    rcases pJ (nv x) with e | e | e
    .exact .inl e
    .exact .inr e
    .exact absurd e j
   have U:=Au sz f.er f.eb f.ev f.eg t.af t.val t.aA hvl W (by omega) (v:=k) (by omega) (nv x).num.sign;by_cases g:fg n rows t.val k (nv x).num.sign=true
   .have D:aV n rows t.val 1 (x::xs) k=some k:=by rw [aV,if_pos ⟨M,by rw [Ww];exact g⟩]
    have P:aV n rows t.val 1 t.aA 0=some k:=by rw [<-O,D]
    have Z:aq t.aA k=x:=by unfold aq;rw [U9,B];rfl
    have hkb:=hnb k (by rw [Z];exact M);have G:¬(k:Int) < 0:=by omega
    rw [P] at d;simp only at d;rw [Z] at d;generalize hwv:(nv x).num.sign=aj at *
    cases p with
    | zero=>have hz:((0:Nat):Int)=0:=rfl;simp only [mV] at d;rw [qV] at d;rw [<-d];refine al ?_;rw [qC];simp only [ai,↓reduceIte,Int.reduceBEq,Int.reduceEq,GD,h1,z,G,hz,and_self,bJ,cw B,ks,j,C,U,g,cI,cL]
    | succ p=>
     have hz:¬((p+1:Nat):Int)=0:=by omega
     have hwp:i64.wrap (((p+1:Nat):Int) - 1)= (p:Int):=by rw [Go.Aev.wr (by omega)];omega
     have o:=LX (n:=n) (rows:=rows) f t sz l W N (v:=k) (by omega) J h1s (by omega);have qL:=IV (n:=n) (rows:=rows) sz l W N (v:=k) (by omega) J (by omega);rw [eO,cH] at o;simp only [Vf,Vg] at o;simp only [mV] at d;cases F:(bm n rows t k aj).2.2
     .rw [if_pos F,qV] at d;rw [F] at o;have k87:=LY (n:=n) (rows:=rows) f t l hn hm N hln (v:=k) (by omega) J (by omega);rw [eO] at k87;rw [<-d];refine al ?_;rw [qC];simp only [ai,↓reduceIte,Int.reduceBEq,Int.reduceEq,GD,fa,cm,sB,h1,z,G,hz,and_self,bJ,cw B,ks,j,C,U,g,o,k87,e9,eM,Vj,dh,cI,cL]
     .rw [if_neg (by rw [F];decide)] at d;rw [F] at o;have k32:=fT aj (by rcases J with rfl | rfl <;> decide);have qw:QN 2 (iN aj):=by rcases J with rfl | rfl <;> exact eF (by decide)
      have S:=pM (b:=iN aj) qL qw (by omega);have qW:=nP (b:=iN aj) qL qw;have hcx:∀y∈t.ak,QB mc (nv (aq y k)):=λy hy=>N y hy _ (Va (gF (by rw [l.r y hy];omega)));have H:=tO (n:=n) (rows:=rows) f t l (v:=k) (by omega) hm hkb qW hcx (a:=mv) (by omega) W;obtain⟨A,s⟩:∃A,A=dZ k (fE (bm n rows t k aj).2.1 (iN aj)) t:=⟨_,rfl⟩;have K:A.ak=t.ak:=by rw [s];rfl
      have e2:A.aA=t.aA:=by rw [s];rfl
      rw [<-s] at H;rw [eO] at H;rw [cH] at S;by_cases w:(bm n rows t k aj).1>=0
      .obtain⟨hi,Q⟩:=hlim k aj J w;have q:fb n rows k aj t=fk (bm n rows t k aj).1.toNat k (t.st.af (bm n rows t k aj).1.toNat) (cD (ay t.ak (bm n rows t k aj).1.toNat) k (t.st.af (bm n rows t k aj).1.toNat)) false A:=by
        unfold fb;rw [if_pos w,s]
       obtain⟨i,hii⟩:∃i:Nat,(bm n rows t k aj).1= (i:Int):=⟨(bm n rows t k aj).1.toNat,by omega⟩;rw [hii] at hi Q q o w;simp only [VE] at hi Q q;have hb1:A.af[i]? =some (t.st.af i):=by rw [s];exact jd (t:=t) (by rw [l.b];exact hi)
       have E:=tP (n:=n) (rows:=rows) f A (by rw [s];exact l.mv _ _) hn hm hi (v:=k) (by omega) hb1 (by rw [K];exact N) (by rw [K];exact Q) (λ_=>by rw [e2];exact⟨hgl,Y⟩) (by omega);rw [K,X] at E;generalize cD (ay t.ak i) k (t.st.af i)=row1 at E q;generalize hT2:fk i k (t.st.af i) row1 false A=t2 at E q;rw [q] at d;rw [eO] at E;refine al ?_;rw [qC];simp only [ai,↓reduceIte,Int.reduceBEq,Int.reduceEq,GD,fa,cm,sB,h1,z,G,hz,hwp,and_self,bJ,cw B,ks,j,C,U,g,o,k32,S,H,w,E,e9,eM,Vj,dh];exact d
      .have q:fb n rows k aj t=A:=by unfold fb;rw [if_neg w,s]
       rw [q] at d;refine al ?_;rw [qC];simp only [ai,↓reduceIte,Int.reduceBEq,Int.reduceEq,GD,fa,cm,sB,h1,z,G,hz,hwp,and_self,bJ,cw B,ks,j,C,U,g,o,k32,S,H,w,e9,eM,Vj,dh];exact d
   .have D:aV n rows t.val 1 (x::xs) k=aV n rows t.val 1 xs (k+1):=by rw [aV,if_neg (λL=>g (by rw [<-Ww (nv x).num.sign];exact L.2))]
    have V:fg n rows t.val k (nv x).num.sign=false:=by simpa using g
    have:=ih (k+1) g3 (by rw [<-D];exact O);refine al ?_;rw [qC];simp only [ai,↓reduceIte,Int.reduceBEq,Int.reduceEq,GD,h1,z,and_self,bJ,cw B,ks,j,C,U,V,next k (by omega)];exact this
end
open Go Go.Aev Go.Aev.Gen Go.Aev.Wd Go.Aev.Tb
def gR(gl:List Int)(k:Nat):Rat:=((gl.getD k 0:Int):Rat)
structure eA (n:Nat) (rows:List R) (gl:List Int) (t:TL):Prop where
 tok:bL n rows t
 len:t.aA.length=n+rows.length
 g:(aI n rows).uc (gR gl) t.st (λv=>nv (aq t.aA v))
 fe:(aI n rows).oD t.st
structure ez (n:Nat) (rows:List R) (gl:List Int):Prop where
 ro:fy n rows
 k2:∀r∈rows,r.kd≠2
 gb:∀c∈gl, -1000000<=c/\c<=1000000
 gl:gl.length<=n
theorem Qb{gl:List Int}(h:∀c∈gl, -1000000<=c/\c<=1000000)(k:Nat):aU 1000000 (gR gl k):=by
 refine aU.int ?_;by_cases a:k < gl.length
 .have:=h (gl.getD k 0) (by rw [U9,Vd a];exact WT a);omega
 .rw [U9,Wc (by omega)];decide
theorem eA.gq{n:Nat}{rows:List R}{gl:List Int}{t:TL}(go:ez n rows gl)(h:eA n rows gl t):∀y∈t.aA,QN 270 y:=by
 obtain⟨D,h1,a,_,b⟩:=h.tok.den go.ro;intro y hy;obtain⟨v,hv,e⟩:=WB hy;have c:aq t.aA v=y:=by unfold aq;rw [U9,Vd hv];exact e
 have:=b (λv=>nv (aq t.aA v)) (gR gl) h.g.z (λk _=>Qb go.gb k) h.g.same v (by rw [<-h.len];exact hv);rw [c] at this;exact xZ h1 a this
theorem eA.nb{n:Nat}{rows:List R}{gl:List Int}{t:TL}(h:eA n rows gl t){v:Nat}(hv:nv (aq t.aA v)≠0):v∉t.af:=by intro hb;obtain⟨j,a,e,_⟩:=mb h.tok.be hb;exact hv (by rw [<-e];exact h.g.z j a)
theorem bL.sT{n:Nat}{rows:List R}{t:TL}(h:bL n rows t){k i:Nat}(a:cg k t.mp=some i):i < rows.length:=by
 by_cases b:k∈t.af
 .obtain⟨j,d,_,c⟩:=mb h.be b;rw [h.ln j k c] at a;cases a;exact d
 .rw [h.vE k b] at a;cases a
theorem z0{n:Nat}{rows:List R}{t:TL}(h:bL n rows t)(k2:∀r∈rows,r.kd≠2){v:Nat}(hv:v < n+rows.length):t.st.z v=0:=by
 have l:∀u,u < n+rows.length->(∀i,i < rows.length->t.st.af i≠u)->t.st.z u=0:=λu m hb=>by
  have:=congrArg Prod.snd (h.ok.fix u m hb);show(t.st.val u).2=0;rw [this];unfold Sy.fx;show(if u < n then((0:Rat),(0:Rat)) else(aI n rows).up u).2=0;by_cases d:u < n
  .rw [if_pos d]
  .rw [if_neg d];have g:=k2 _ (gN (rows:=rows) (i:=u - n) (by omega));unfold Sy.up;exact if_neg g
 by_cases hb:∃i,i < rows.length/\t.st.af i=v
 .obtain⟨i,hi,e⟩:=hb;have:=(h.ok.wf.same _).2 h.ok.hz i hi;rw [<-e,this];refine mz (λk g=> ?_);by_cases b:∃j,j < rows.length/\t.st.af j=k
  .obtain⟨j,a,e'⟩:=b;have hz:t.st.c i k=0:=by rw [<-e'];exact h.ok.wf.z i j hi a
   rw [hz,V8]
  .rw [l k g (λj a e'=>b ⟨j,a,e'⟩),Wz]
 .exact l v hv (λj a e'=>hb ⟨j,a,e'⟩)
theorem IW{n:Nat}{rows:List R}{t:TL}(d:cO n rows.length t)(v:Nat)(aj:Int)(h:(bm n rows t v aj).1>=0):
  (bm n rows t v aj).1.toNat < rows.length/\nv (aq (ay t.ak (bm n rows t v aj).1.toNat) v)≠0:=by
 have q:=d.b;have r:=d.c
 have g:∀(bs:List Nat) (xs:List (List Nm)) (i:Nat) (s:LF),t.af.drop i=bs->t.ak.drop i=xs->(s.1>=0->s.1.toNat < rows.length/\nv (aq (ay t.ak s.1.toNat) v)≠0)->
   (gZ n rows t v aj bs xs i s).1>=0->(gZ n rows t v aj bs xs i s).1.toNat < rows.length/\nv (aq (ay t.ak (gZ n rows t v aj bs xs i s).1.toNat) v)≠0:=by
  intro bs;induction bs with
  | nil=>intro xs i s _ _ h;cases xs <;> exact h
  | cons b bs m=>
   intro xs i s hb l h;obtain⟨u,w,k⟩:=bt hb;cases xs with
   | nil=>exact h
   | cons x xs=>
    obtain⟨o,x2,p⟩:=bt l;have j:ay t.ak i=x:=by have:=jh (ak:=t.ak) (i:=i) (by omega);rw [o] at this;exact(VR this).symm
    rw [gZ];refine m xs (i+1) _ k p ?_;unfold dH;by_cases hz:nv (tm (aq x v) (iN aj))=0\/je n rows b (tm (aq x v) (iN aj))=false
    .rw [if_pos hz];exact h
    .rw [if_neg hz];split
     .intro _;show((i:Nat):Int).toNat < _/\nv (aq (ay t.ak ((i:Nat):Int).toNat) v)≠0;rw [VE,j];refine⟨by omega,λa=>hz (.inl ?_)⟩;rw [JR,a,V8]
     .exact h
 unfold bm at h⊢;refine g _ _ _ _ rfl rfl (λa=> ?_) h;rcases BR n rows t v (iN aj) (-1) (-1,(none,none),false) with e | e <;> rw [e] at a <;> exact absurd a (by decide)
def iw(n:Nat)(rows:List R)(t:TL)(v:Nat)(aj:Int)(j:Nat):Prop:=
 n<=t.st.af j/\(0 < t.st.c j v * (aj:Rat)\/t.st.c j v * (aj:Rat) < 0/\(aI n rows).kd (t.st.af j - n)=3)
def du(n:Nat)(rows:List R)(t:TL)(v:Nat)(aj:Int)(j:Nat):Rat:=((aI n rows).to (t.st.af j - n) - t.st.y (t.st.af j)) / (t.st.c j v * (aj:Rat))
theorem Fw{n:Nat}{rows:List R}{t:TL}{v:Nat}{aj:Int}{j:Nat}:¬(nv (tm (aq (ay t.ak j) v) (iN aj))=0\/je n rows (t.st.af j) (tm (aq (ay t.ak j) v) (iN aj))=false)↔iw n rows t v aj j:=by
 have e:nv (tm (aq (ay t.ak j) v) (iN aj))=t.st.c j v * (aj:Rat):=rfl;unfold je iw;rw [e];by_cases a:t.st.c j v * (aj:Rat) < 0
 .rw [if_pos a];constructor
  .intro h;have i:fi n rows (t.st.af j)=true:=by
    cases hb:fi n rows (t.st.af j)
    .exact absurd (.inr hb) h
    .rfl
   have:=l9.1 i;exact⟨Xg this.1, .inr ⟨a,this.2⟩⟩
  .rintro⟨h1,d | ⟨_,d⟩⟩
   .exact absurd a (by grind)
   .rintro(b | b)
    .rw [b] at a;exact absurd a (by grind)
    .rw [l9.2 ⟨XC.2 h1,d⟩] at b;cases b
 .rw [if_neg a];constructor
  .intro h;have k:t.st.c j v * (aj:Rat)≠0:=λg=>h (.inl g);have hb:¬t.st.af j < n:=λg=>h (.inr (by simp [g]));exact⟨Xg hb, .inl (by grind)⟩
  .rintro⟨h1,d | ⟨d,_⟩⟩
   .rintro(b | b)
    .rw [b] at d;exact absurd d (by grind)
    .have:¬t.st.af j < n:=XC.2 h1;simp [this] at b
   .exact absurd d a
theorem B0{n:Nat}{rows:List R}{t:TL}(h:bL n rows t)(k2:∀r∈rows,r.kd≠2){v:Nat}{aj:Int}{j:Nat}(o:j < rows.length)(hb:iw n rows t v aj j):
  vv (fJ n rows t (t.st.af j) (tm (aq (ay t.ak j) v) (iN aj)))= (du n rows t v aj j,0):=by
 have e:nv (tm (aq (ay t.ak j) v) (iN aj))=t.st.c j v * (aj:Rat):=rfl;have g:¬t.st.af j < n:=XC.2 hb.1;have k:t.st.af j < n+rows.length:=h.ok.wf.hb j o;have hz:=z0 h k2 k;have p:=k2 _ (gN (rows:=rows) (i:=t.st.af j - n) (by omega));have l:(aI n rows).up (t.st.af j)= ((aI n rows).to (t.st.af j - n),0):=by unfold Sy.up;refine Yj rfl ?_;exact if_neg p
 have b:vv (lU n rows (t.st.af j) (tm (aq (ay t.ak j) v) (iN aj)))= ((aI n rows).to (t.st.af j - n),0):=by
  unfold lU;rw [e,<-l];by_cases a:t.st.c j v * (aj:Rat) < 0
  .rw [if_pos a];rcases hb.2 with d | ⟨_,d⟩
   .exact absurd a (by grind)
   .exact vG (l9.2 ⟨g,d⟩)
  .rw [if_neg a];exact wM g
 unfold fJ;generalize lU n rows (t.st.af j) (tm (aq (ay t.ak j) v) (iN aj))=bd at b;have h1:nv bd.1= (aI n rows).to (t.st.af j - n):=congrArg Prod.fst b;have d:nv bd.2=0:=congrArg Prod.snd b;have m:nv (aJ t.val (t.st.af j)).2=0:=hz;refine Yj ?_ ?_
 .show(nv bd.1 - t.st.y (t.st.af j)) * (((1:Int):Rat) / (t.st.c j v * (aj:Rat)))=du n rows t v aj j;unfold du;rw [h1,Wv,Wv];have:((1:Int):Rat)=1:=rfl;rw [this];grind
 .show(nv bd.2 - nv (aJ t.val (t.st.af j)).2) * (((1:Int):Rat) / (t.st.c j v * (aj:Rat)))=0;rw [d,m];grind
theorem IX{n:Nat}{rows:List R}{t:TL}(h:bL n rows t)(k2:∀r∈rows,r.kd≠2){v:Nat}{aj:Int}(F:je n rows v (iN aj)=false):
  ((bm n rows t v aj).2.2=false/\∀j,j < rows.length->¬iw n rows t v aj j)\/
  ∃i,i < rows.length/\(bm n rows t v aj).1= (i:Int)/\(bm n rows t v aj).2.2=true/\iw n rows t v aj i/\(bm n rows t v aj).2.1=fJ n rows t (t.st.af i) (tm (aq (ay t.ak i) v) (iN aj))/\
   ∀j,j < rows.length->iw n rows t v aj j->du n rows t v aj i<=du n rows t v aj j/\(du n rows t v aj i=du n rows t v aj j->t.st.af i<=t.st.af j):=by
 have hbl:=h.be.b;have hcl:=h.be.c
 have O:∀(bs:List Nat) (xs:List (List Nm)) (k:Nat) (s:LF),t.af.drop k=bs->t.ak.drop k=xs->bs.length=xs.length->k<=rows.length->
   ((s.2.2=false/\∀j,j < k->¬iw n rows t v aj j)\/
    ∃i,i < k/\s.1= (i:Int)/\s.2.2=true/\iw n rows t v aj i/\s.2.1=fJ n rows t (t.st.af i) (tm (aq (ay t.ak i) v) (iN aj))/\
     ∀j,j < k->iw n rows t v aj j->du n rows t v aj i<=du n rows t v aj j/\(du n rows t v aj i=du n rows t v aj j->t.st.af i<=t.st.af j))->
   (((gZ n rows t v aj bs xs k s).2.2=false/\∀j,j < rows.length->¬iw n rows t v aj j)\/
    ∃i,i < rows.length/\(gZ n rows t v aj bs xs k s).1= (i:Int)/\(gZ n rows t v aj bs xs k s).2.2=true/\iw n rows t v aj i/\(gZ n rows t v aj bs xs k s).2.1=fJ n rows t (t.st.af i) (tm (aq (ay t.ak i) v) (iN aj))/\
     ∀j,j < rows.length->iw n rows t v aj j->du n rows t v aj i<=du n rows t v aj j/\(du n rows t v aj i=du n rows t v aj j->t.st.af i<=t.st.af j)):=by
  intro bs;induction bs with
  | nil=>
   intro xs k s hb V N hk E;have T:k=rows.length:=by have:=bw hb;omega
   have U:gZ n rows t v aj [] xs k s=s:=by cases xs <;> rfl
   rw [U,<-T];exact E
  | cons b bs ih=>
   intro xs k s hb V N hk E;obtain⟨X,g2,Y⟩:=bt hb;cases xs with
   | nil=>simp at N
   | cons x xs=>
    obtain⟨x1,x2,x3⟩:=bt V;have Q:ay t.ak k=x:=by have:=jh (ak:=t.ak) (i:=k) (by omega);rw [x1] at this;exact(VR this).symm
    have P:t.st.af k=b:=by have:=jd (t:=t) (i:=k) (by omega);rw [X] at this;exact(VR this).symm
    rw [gZ,<-Q,<-P];refine ih xs (k+1) _ Y x3 (by simpa using N) (by omega) ?_;by_cases m:iw n rows t v aj k
    .have hz:=Fw.2 m;have H:=B0 h k2 (by omega) m;have B:dH n rows t (t.st.af k) (tm (aq (ay t.ak k) v) (iN aj)) (k:Int) s=if e8 n rows t (t.st.af k) (tm (aq (ay t.ak k) v) (iN aj)) (k:Int) s then((k:Int),fJ n rows t (t.st.af k) (tm (aq (ay t.ak k) v) (iN aj)),true) else s:=by
      unfold dH;rw [if_neg hz]
     rw [B];rcases E with⟨M,D⟩ | ⟨i,S,o,p,w,q,y⟩
     .have z:e8 n rows t (t.st.af k) (tm (aq (ay t.ak k) v) (iN aj)) (k:Int) s:=by
       unfold e8;rw [M];exact .inl (by simp)
      rw [if_pos z];refine .inr ⟨k,by omega,rfl,rfl,m,rfl,λj C g=> ?_⟩;by_cases e:j=k
      .subst e;exact⟨WQ,λ_=>Vq _⟩
      .exact absurd g (D j (by omega))
     .have G:=B0 h k2 (by omega) w;have u:eL s.2.1 (fJ n rows t (t.st.af k) (tm (aq (ay t.ak k) v) (iN aj))) > 0↔du n rows t v aj k < du n rows t v aj i:=by
       rw [yu,H,q,G];unfold dc;constructor
       .rintro(h | ⟨_,h⟩)
        .exact h
        .exact absurd h (by grind)
       .intro h;exact .inl h
      have J:eL s.2.1 (fJ n rows t (t.st.af k) (tm (aq (ay t.ak k) v) (iN aj))) < 0↔du n rows t v aj i < du n rows t v aj k:=by
       rw [yv,H,q,G];unfold dc;constructor
       .rintro(h | ⟨_,h⟩)
        .exact h
        .exact absurd h (by grind)
       .intro h;exact .inl h
      have I:eL s.2.1 (fJ n rows t (t.st.af k) (tm (aq (ay t.ak k) v) (iN aj)))=0↔du n rows t v aj i=du n rows t v aj k:=by
       constructor
       .intro K;have a:¬du n rows t v aj k < du n rows t v aj i:=λl=>by have:=u.2 l;omega
        have b:¬du n rows t v aj i < du n rows t v aj k:=λl=>by have:=J.2 l;omega
        grind
       .intro K;have a:¬eL s.2.1 (fJ n rows t (t.st.af k) (tm (aq (ay t.ak k) v) (iN aj))) > 0:=λl=>by have:=u.1 l;grind
        have b:¬eL s.2.1 (fJ n rows t (t.st.af k) (tm (aq (ay t.ak k) v) (iN aj))) < 0:=λl=>by have:=J.1 l;grind
        omega
      by_cases z:e8 n rows t (t.st.af k) (tm (aq (ay t.ak k) v) (iN aj)) (k:Int) s
      .rw [if_pos z];have d:=z;unfold e8 at d;rw [if_pos p,o,VE,u,I] at d;have A:t.af.getD i 0=t.st.af i:=rfl;rw [A] at d;refine .inr ⟨k,by omega,rfl,rfl,m,rfl,λj C g=> ?_⟩;by_cases e:j=k
       .subst e;exact⟨WQ,λ_=>Vq _⟩
       .obtain⟨c1,W⟩:=y j (by omega) g;rcases d with h1 | ⟨h1,_,Z | Z⟩
        .exact⟨by grind,λL=>absurd h1 (by grind)⟩
        .omega
        .exact⟨by grind,λL=>by have:=W (by grind);omega⟩
      .rw [if_neg z];have d:=z;unfold e8 at d;rw [if_pos p,o,VE,u,I] at d;have A:t.af.getD i 0=t.st.af i:=rfl;rw [A] at d;refine .inr ⟨i,by omega,o,p,w,q,λj C g=> ?_⟩;by_cases e:j=k
       .subst e;refine⟨Zg.1 λl=>d (.inl l),λL=> ?_⟩;refine Xg λl=>d (.inr ⟨L,by omega, .inr (by omega)⟩)
       .exact y j (by omega) g
    .have hz:nv (tm (aq (ay t.ak k) v) (iN aj))=0\/je n rows (t.st.af k) (tm (aq (ay t.ak k) v) (iN aj))=false:=Xo λl=>m (Fw.1 l);have B:dH n rows t (t.st.af k) (tm (aq (ay t.ak k) v) (iN aj)) (k:Int) s=s:=by unfold dH;rw [if_pos hz]
     rw [B];rcases E with⟨M,D⟩ | ⟨i,S,o,p,w,q,y⟩
     .refine .inl ⟨M,λj C=> ?_⟩;by_cases e:j=k
      .subst e;exact m
      .exact D j (by omega)
     .refine .inr ⟨i,by omega,o,p,w,q,λj C g=> ?_⟩;by_cases e:j=k
      .subst e;exact absurd g m
      .exact y j (by omega) g
 have K:dH n rows t v (iN aj) (-1) (-1,(none,none),false)= (-1,(none,none),false):=by unfold dH;rw [if_pos (.inr F)]
 unfold bm;rw [K];exact O t.af t.ak 0 _ rfl rfl (by omega) (Yk _) (.inl ⟨rfl,λj C=>by omega⟩)
open Go Go.Aev Go.Aev.Gen Go.Aev.Wd Go.Aev.Tb
theorem CK(c:Nm):∀(a g:List Nm) (v:Nat),a.length=g.length->nv (aq (iD c a g) v)=nv (aq g v)+nv c * nv (aq a v)
 | [],[],v,_=>by show nv none=nv none+nv c * nv none;rw [tc];grind
 | a::l,g::r,0,_=>by show nv g+nv a * nv c=nv g+nv c * nv a;grind
 | a::l,g::r,v+1,h=>CK c l r v (by simpa using h)
 | [],_::_,_,h=>by simp at h
 | _::_,[],_,h=>by simp at h
theorem Ix{n m:Nat}{t:TL}(a:cO n m t):∀(cs:List Int) (k:Nat) (g:List Nm),(jr t cs k g).length=g.length
 | [],_,_=>rfl
 | c::cs,k,g=>by
  rw [jr,Ix a cs];split
  .rw [zk]
  .rw [Wa]
theorem CP{n:Nat}{rows:List R}{t:TL}(h:bL n rows t):∀(cs:List Int) (k:Nat) (g:List Nm),g.length=n+rows.length->k+cs.length<=n->(∀j,j < rows.length->nv (aq g (t.st.af j))=0)->
  (∀j,j < rows.length->nv (aq (jr t cs k g) (t.st.af j))=0)/\
  ∀y,eW n rows.length (aI n rows).A y->sm (n+rows.length) (λv=>nv (aq (jr t cs k g) v) * y v)=sm (n+rows.length) (λv=>nv (aq g v) * y v)+sm cs.length (λj=>((cs.getD j 0:Int):Rat) * y (k+j))
 | [],k,g,s,x,hz=>⟨hz,λy hy=>by simp only [jr,VS,sm];grind⟩
 | c::cs,k,g,s,x,hz=>by
  simp only [Vy] at x;have b:∀y:Nat->Rat,sm (cs.length+1) (λj=>(((c::cs).getD j 0:Int):Rat) * y (k+j))= (c:Rat) * y k+sm cs.length (λj=>((cs.getD j 0:Int):Rat) * y (k+1+j)):=by
   intro y;have u:∀(m:Nat) (f:Nat->Rat),sm (m+1) f=f 0+sm m (λj=>f (j+1)):=by
    intro m f;induction m with
    | zero=>simp only [sm];grind
    | succ m D=>rw [sm,D,sm];grind
   rw [u];have e:(λj=>(((c::cs).getD (j+1) 0:Int):Rat) * y (k+ (j+1)))= (λj=>((cs.getD j 0:Int):Rat) * y (k+1+j)):=by funext j;rw [show k+ (j+1)=k+1+j by omega];rfl
   rw [e];rfl
  rw [jr];cases a:cg k t.mp with
  | some i=>
   have hi:=h.sT a;have C:=h.be.row hi;have w:t.st.af i=k:=by
    by_cases o:k∈t.af
    .obtain⟨j,l,e,r⟩:=mb h.be o;rw [h.ln j k r] at a;cases a;exact e
    .rw [h.vE k o] at a;cases a
   simp only;obtain⟨p,q⟩:=CP h cs (k+1) (iD (iN c) (ay t.ak i) g) (by rw [zk];exact s) (by omega) (λj l=>by
    rw [CK _ _ _ _ (by omega),hz j l];have:nv (aq (ay t.ak i) (t.st.af j))=0:=h.ok.wf.z i j hi l;rw [this];grind)
   refine⟨p,λy hy=> ?_⟩;rw [q y hy,Vy,b y];have B:y k=sm (n+rows.length) (λv=>t.st.c i v * y v):=by have:=(h.ok.wf.same y).2 hy i hi;rw [w] at this;exact this
   have e:(λv=>nv (aq (iD (iN c) (ay t.ak i) g) v) * y v)= (λv=>1 * (nv (aq g v) * y v)+ (c:Rat) * (t.st.c i v * y v)):=by funext v;rw [CK _ _ _ _ (by omega)];show(nv (aq g v)+ (c:Rat) * t.st.c i v) * y v=_;grind
   rw [e,lG,<-B];grind
  | none=>
   have o:k∉t.af:=λhb=>by obtain⟨j,l,e,r⟩:=mb h.be hb;rw [h.ln j k r] at a;cases a
   simp only;obtain⟨p,q⟩:=CP h cs (k+1) (g.set k (pl (aq g k) (iN c))) (by rw [Wa];exact s) (by omega) (λj l=>by
    rw [vI (by omega),if_neg (λe=>o (by rw [<-e];exact jZ h.be l))];exact hz j l)
   refine⟨p,λy hy=> ?_⟩;rw [q y hy,Vy,b y];have e:sm (n+rows.length) (λv=>nv (aq (g.set k (pl (aq g k) (iN c))) v) * y v)=sm (n+rows.length) (λv=>1 * (nv (aq g v) * y v)+ (c:Rat) * (if v=k then y v else 0)):=by
    refine dv (λv hv=> ?_);rw [vI (by omega)];by_cases d:v=k
    .rw [if_pos d,if_pos d,d];show(nv (aq g k)+ (c:Rat)) * y k=_;grind
    .rw [if_neg d,if_neg d];grind
   rw [e,lG,oe (by omega) y];grind
theorem bL.aA{n:Nat}{rows:List R}{t:TL}(h:bL n rows t)(g:List Nm):bL n rows {t with aA:=g}:=
 ⟨⟨h.be.b,h.be.c,h.be.r,h.be.v,h.be.lt,h.be.nd⟩,h.ok,h.ln,h.vE,h.ky⟩
theorem zl{n:Nat}{rows:List R}{gl:List Int}{t:TL}(h:bL n rows t)(b:(aI n rows).oD t.st)(c:gl.length<=n):
  eA n rows gl {t with aA:=jr t gl 0 (List.replicate (n+rows.length) none)}:=by
 have a:∀v,nv (aq (List.replicate (n+rows.length) (none:Nm)) v)=0:=λv=>by unfold aq;rw [U9,Xc];split <;> rfl
 obtain⟨d,e⟩:=CP h gl 0 (List.replicate (n+rows.length) none) (by simp) (by omega) (λj _=>a _);refine⟨h.aA _, ?_,⟨d,λy hy=> ?_⟩,b⟩
 .show(jr t gl 0 _).length=_;rw [Ix h.be];simp
 .have:=e y hy;show sm (n+rows.length) (λv=>nv (aq (jr t gl 0 (List.replicate (n+rows.length) none)) v) * y v)=sm n (λk=>gR gl k * y k);rw [this,mz (λv _=>by rw [a v];exact V8 _),Zh];rw [La (n:=gl.length) (N:=n) c (λk g _=>by
   unfold gR;rw [U9,Wc (by omega)];show((0:Int):Rat) * _=0;exact V8 _)]
  refine dv (λk g=> ?_);rw [VP];rfl
theorem Tk{q:Rat}(b:q≠0):((q.num.sign:Int):Rat)=cW q:=by
 unfold cW;have h1:=K7 (w:=1) (.inl rfl) b;have a:(1:Int) * q.num.sign > 0↔0 < q:=by rw [h1.2];have:((1:Int):Rat)=1:=rfl;rw [this,Zp]
 rw [Ww] at a;rcases pJ q with e | e | e
 .rw [e,if_pos (a.1 (by rw [e];decide))];rfl
 .rw [e,if_neg (λh=>by have:=a.2 h;rw [e] at this;exact absurd this (by decide))];rfl
 .exact absurd ((gu q).1 e) b
theorem tB{q:Rat}(a:q≠0):q.num.sign=1\/q.num.sign= -1:=by
 rcases pJ q with e | e | e
 .exact .inl e
 .exact .inr e
 .exact absurd ((gu q).1 e) a
section
variable {n:Nat} {rows:List R} {gl:List Int} {t:TL}
theorem eA.self(go:ez n rows gl)(h:eA n rows gl t){v:Nat}(hv:v < n+rows.length)(g:nv (aq t.aA v)≠0)(a:fg n rows t.val v (nv (aq t.aA v)).num.sign=true):
  je n rows v (iN (nv (aq t.aA v)).num.sign)=false:=by
 have m:=h.nb g;have c:=h.tok.ok.fix v hv (λi hi e=>m (by rw [<-e];exact jZ h.tok.be hi));have o:=tB g;have p:(nv (aq t.aA v)).num.sign≠0:=by rcases o with e | e <;> rw [e] <;> decide
 rw [BM t v p] at a;unfold je;rcases o with e | e
 .rw [e] at a⊢;rw [if_pos (by decide)] at a;have h1:¬nv (iN 1) < 0:=by
   show ¬((1:Int):Rat) < 0;have:((1:Int):Rat)=1:=rfl;rw [this];grind
  rw [if_neg h1];rcases a with b | b
  .have b:v < n:=b;simp [b]
  .by_cases j:v < n
   .simp [j]
   .unfold Sy.fx at c;have d:¬v < (aI n rows).n:=j;rw [if_neg d] at c;rw [c] at b;exact absurd b (pS _)
 .rw [e] at a⊢;rw [if_neg (by decide)] at a;have h1:nv (iN (-1)) < 0:=by
   show((-1:Int):Rat) < 0;have:((-1:Int):Rat)= -1:=rfl;rw [this];grind
  rw [if_pos h1];cases l:fi n rows v
  .rfl
  .have k:=l9.1 l;rcases a with b | b | b
   .exact absurd b k.1
   .exact absurd k.2 b
   .unfold Sy.fx at c;have d:¬v < (aI n rows).n:=k.1;rw [if_neg d] at c;rw [c] at b;exact absurd b (pS _)
theorem BK(h:bL n rows t)(k2:∀r∈rows,r.kd≠2){u:Nat}(k:u < n+rows.length){q:Rat}(j:q≠0):
  fg n rows t.val u (1 * q.num.sign)=true↔(aI n rows).tT t.st q u:=by
 have h1:=uJ (n:=n) (rows:=rows) t (w:=1) (.inl rfl) j (v:=u);have g:((1:Int):Rat) * q=q:=by have:((1:Int):Rat)=1:=rfl;rw [this,Zp]
 rw [g] at h1;rw [h1];have hz:=z0 h k2 k;have up:(aI n rows).tV t.st u↔(aI n rows).uA t.st u:=by
  unfold Sy.tV Sy.uA;by_cases b:u < n
  .exact⟨λ_=> .inl b,λ_=> .inl b⟩
  .have d:=k2 _ (gN (rows:=rows) (i:=u - n) (by omega));have c:(aI n rows).up u= ((aI n rows).to (u - n),0):=Yj rfl (if_neg d);rw [c];unfold dc bx.val;rw [hz];constructor
   .rintro(a | a | ⟨_,a⟩)
    .exact .inl a
    .exact .inr a
    .exact absurd a (by grind)
   .rintro(a | a)
    .exact .inl a
    .exact .inr (.inl a)
 have e:(aI n rows).tU t.st u↔(aI n rows).tW t.st u:=by
  unfold Sy.tU Sy.tW;by_cases b:u < n
  .exact⟨λ_=> .inl b,λ_=> .inl b⟩
  .have d:=k2 _ (gN (rows:=rows) (i:=u - n) (by omega));have c:(aI n rows).up u= ((aI n rows).to (u - n),0):=Yj rfl (if_neg d);rw [c];unfold dc bx.val;rw [hz];constructor
   .rintro(a | a | a | ⟨_,a⟩)
    .exact .inl a
    .exact .inr (.inl a)
    .exact .inr (.inr a)
    .exact absurd a (by grind)
   .rintro(a | a | a)
    .exact .inl a
    .exact .inr (.inl a)
    .exact .inr (.inr (.inl a))
 unfold Sy.Can Sy.tT;rw [up,e]
theorem eA.step(go:ez n rows gl)(h:eA n rows gl t){v:Nat}(hen:aV n rows t.val 1 t.aA 0=some v)(hfd:(bm n rows t v (nv (aq t.aA v)).num.sign).2.2=true):
  eA n rows gl (fb n rows v (nv (aq t.aA v)).num.sign t)/\∃i,(aI n rows).kR t.st (λu=>nv (aq t.aA u)) (fb n rows v (nv (aq t.aA v)).num.sign t).st i v:=by
 obtain⟨_,e2,e3,x,e5⟩:=jo hen;rw [Wq] at e3 x;rw [Ww] at x;rw [VP,h.len] at e2;have hself:=h.self go e2 e3 x;have w:=h.nb e3;have hvB:¬t.st.bN rows.length v:=λ⟨i,hi,e⟩=>w (by rw [<-e];exact jZ h.tok.be hi);have hw:=tB e3;have hsw:=Tk e3;generalize hwv:(nv (aq t.aA v)).num.sign=aj at *
 have hwne:(aj:Rat)≠0:=by
  rcases hw with rfl | rfl
  .have:((1:Int):Rat)=1:=rfl;rw [this];grind
  .have:((-1:Int):Rat)= -1:=rfl;rw [this];grind
 rcases IX h.tok go.k2 (v:=v) (aj:=aj) hself with⟨hf,_⟩ | ⟨i,hi,l1,l2,l3,l4,l5⟩
 .rw [hf] at hfd;cases hfd
 .have hd0:t.st.c i v * (aj:Rat)≠0:=by
   rcases l3.2 with A | ⟨A,_⟩
   .intro H;rw [H] at A;exact absurd A (by grind)
   .intro H;rw [H] at A;exact absurd A (by grind)
  have hc0:nv (aq (ay t.ak i) v)≠0:=λH=>hd0 (by
   show nv (aq (ay t.ak i) v) * (aj:Rat)=0;rw [H,V8])
  have P:=l3.1;have N:t.st.af i < n+rows.length:=h.tok.ok.wf.hb i hi;have hg:=jd (t:=t) (i:=i) (by rw [h.tok.be.b];exact hi);have I:=B0 h.tok go.k2 hi l3;rw [<-l4] at I;have T:nv (bm n rows t v aj).2.1.1=du n rows t v aj i:=congrArg Prod.fst I;have hfz:nv (bm n rows t v aj).2.1.2=0:=congrArg Prod.snd I;have X:fb n rows v aj t=fk i v (t.st.af i) (cD (ay t.ak i) v (t.st.af i)) false (dZ v (fE (bm n rows t v aj).2.1 (iN aj)) t):=by unfold fb;rw [l1,if_pos (by omega),VE]
  have r:=go.k2 _ (gN (rows:=rows) (i:=t.st.af i - n) (by omega));have hfx:(aI n rows).fx (t.st.af i)= ((aI n rows).to (t.st.af i - n),0):=by unfold Sy.fx;have hn':¬t.st.af i < (aI n rows).n:=XC.2 P;rw [if_neg hn'];unfold Sy.up;refine Yj rfl ?_;exact if_neg r
  have hval:vv (aJ (dZ v (fE (bm n rows t v aj).2.1 (iN aj)) t).val (t.st.af i))= (aI n rows).fx (t.st.af i):=by
   rw [zE h.tok.be v _ e2 w hg,hfx];have hz:=z0 h.tok go.k2 N;refine Yj ?_ ?_
   .show t.st.y (t.st.af i)+nv (bm n rows t v aj).2.1.1 * (aj:Rat) * t.st.c i v= (aI n rows).to (t.st.af i - n);rw [T];unfold du;rw [Wv];have:=Yf _ hd0;grind
   .show t.st.z (t.st.af i)+nv (bm n rows t v aj).2.1.2 * (aj:Rat) * t.st.c i v=0;rw [hfz,hz];grind
  obtain⟨p1,p2⟩:=h.tok.J8 (i:=i) (v:=v) (fE (bm n rows t v aj).2.1 (iN aj)) false hi e2 hc0 hval;have L:(fb n rows v aj t).aA=jA (cD (ay t.ak i) v (t.st.af i)) v t.aA:=by rw [X];rfl
  rw [<-X] at p1 p2;have K:t.st.af i≠v:=λe=>w (by rw [<-e];exact jZ h.tok.be hi);have hrow:=h.tok.be.row hi;have hpl:(cD (ay t.ak i) v (t.st.af i)).length=n+rows.length:=by unfold cD;simp;exact hrow
  have hpr:∀k,k < n+rows.length->nv (aq (cD (ay t.ak i) v (t.st.af i)) k)=gJ (t.st.c i) (t.st.af i) v k:=λk r=>Ka (by omega) (by omega) (by omega) K;have U:∀k,k < n+rows.length->nv (aq (fb n rows v aj t).aA k)=kE (gJ (t.st.c i) (t.st.af i) v) v (λu=>nv (aq t.aA u)) k:=λk r=>by
   rw [L,Ls (by rw [hpl,h.len]) (by rw [h.len];exact e2) (by rw [h.len];exact r) (by rw [hpr v e2];exact vT K)];unfold kE;by_cases l:k=v
   .rw [if_pos l,if_pos l]
   .rw [if_neg l,if_neg l];show _+ _ * nv (aq (cD (ay t.ak i) v (t.st.af i)) k)=_;rw [hpr k r]
  have hy':∀k,k < n+rows.length->(fb n rows v aj t).st.y k=t.st.y k+du n rows t v aj i * t.st.dir rows.length v (aj:Rat) k:=by
   intro k r;have e:(fb n rows v aj t).st.y k=nv (aJ (dZ v (fE (bm n rows t v aj).2.1 (iN aj)) t).val k).1:=by rw [X];rfl
   rw [e];by_cases W:k∈t.af
   .obtain⟨j,a,e,hgj⟩:=mb h.tok.be W;have G:t.st.dir rows.length v (aj:Rat) (t.st.af j)=t.st.c j v * (aj:Rat):=oS (S:=aI n rows) h.tok.ok (aj:Rat) a hvB;rw [zE h.tok.be v _ e2 w hgj,<-e,G];show t.st.y (t.st.af j)+nv (bm n rows t v aj).2.1.1 * (aj:Rat) * t.st.c j v=_;rw [T];grind
   .rw [Dk h.tok.be v _ e2 W];by_cases l:k=v
    .rw [if_pos l,l,oT];show t.st.y v+nv (bm n rows t v aj).2.1.1 * (aj:Rat)=_;rw [T]
    .rw [if_neg l,nC t.st (aj:Rat) l (λ⟨j,a,e⟩=>W (by rw [<-e];exact jZ h.tok.be a)),Wz,Ys];rfl
  have C: 0<=du n rows t v aj i:=by
   obtain⟨E,q⟩:=h.fe _ P N;unfold du;refine Km ?_;rcases l3.2 with A | ⟨_,A⟩
   .refine .inl ⟨A, ?_⟩;have:t.st.y (t.st.af i)<=(aI n rows).to (t.st.af i - n):=E;grind
   .refine .inr ?_;have:t.st.y (t.st.af i)= (aI n rows).to (t.st.af i - n):=q A;grind
  refine⟨⟨p1, ?_,⟨λj a=> ?_,λy hy=> ?_⟩,λu o M=> ?_⟩,i, ?_⟩
  .rw [L,Lt];exact h.len
  .have hbj:(fb n rows v aj t).st.af j < n+rows.length:=p1.ok.wf.hb j a;show nv (aq (fb n rows v aj t).aA ((fb n rows v aj t).st.af j))=0;rw [U _ hbj,p2 j];unfold kE gh;by_cases V:j=i
   .rw [if_pos V,if_pos rfl]
   .rw [if_neg V];have F:t.st.af j≠v:=λe=>w (by rw [<-e];exact jZ h.tok.be a);have hne2:t.st.af j≠t.st.af i:=λe=>V (h.tok.ok.wf.inj j i a hi e);rw [if_neg F];have h1:nv (aq t.aA (t.st.af j))=0:=h.g.z j a;have p:gJ (t.st.c i) (t.st.af i) v (t.st.af j)=0:=by
     unfold gJ;rw [if_neg hne2,if_neg F,h.tok.ok.wf.z i j hi a,Wv];grind
    show nv (aq t.aA (t.st.af j))+nv (aq t.aA v) * gJ (t.st.c i) (t.st.af i) v (t.st.af j)=0;rw [h1,p];grind
  .have h1:=h.g.same y hy;show sm (n+rows.length) (λk=>nv (aq (fb n rows v aj t).aA k) * y k)=_;rw [dv (g:=λk=>kE (gJ (t.st.c i) (t.st.af i) v) v (λu=>nv (aq t.aA u)) k * y k) (λk r=>by rw [U k r])];rw [DD e2 (vT K),Kd N e2 K (h.tok.ok.wf.z i i hi hi) hc0];have p:y (t.st.af i)=sm (n+rows.length) (λk=>t.st.c i k * y k):=(h.tok.ok.wf.same y).2 hy i hi;rw [<-p];have h3:sm (n+rows.length) (λk=>nv (aq t.aA k) * y k)=sm n (λk=>gR gl k * y k):=h1;show _=sm n (λk=>gR gl k * y k);rw [<-h3,Wv];grind
  ·
   have o:n<=u:=o;have M:u < n+rows.length:=M;obtain⟨E,q⟩:=h.fe u o M;show(fb n rows v aj t).st.y u<=(aI n rows).to (u - n)/\((aI n rows).kd (u - n)=3->(fb n rows v aj t).st.y u= (aI n rows).to (u - n));have E:t.st.y u<=(aI n rows).to (u - n):=E;have q:(aI n rows).kd (u - n)=3->t.st.y u= (aI n rows).to (u - n):=q;rw [hy' u M];by_cases Z:u=v
   .rw [Z,oT];rw [Z] at E q o;have hwm:aj= -1/\(aI n rows).kd (v - n)≠3:=by
     have D:=h.tok.ok.fix v e2 (λi hi e=>w (by rw [<-e];exact jZ h.tok.be hi));unfold Sy.fx at D;have J:¬v < (aI n rows).n:=XC.2 o;rw [if_neg J] at D;have hw0:aj≠0:=by rcases hw with e | e <;> rw [e] <;> decide
     rw [BM t v hw0] at x;rcases hw with e | e
     .rw [e,if_pos (by decide)] at x;rcases x with m | m
      .exact absurd m J
      .rw [D] at m;exact absurd m (pS _)
     .rw [e,if_neg (by decide)] at x;rcases x with m | m | m
      .exact absurd m J
      .exact⟨e,m⟩
      .rw [D] at m;exact absurd m (pS _)
    refine⟨?_,λs=>absurd s hwm.2⟩;rw [hwm.1];have:((-1:Int):Rat)= -1:=rfl;rw [hwm.1] at C;rw [this];grind
   .by_cases hub:u∈t.af
    .obtain⟨j,a,e,_⟩:=mb h.tok.be hub;have G:t.st.dir rows.length v (aj:Rat) (t.st.af j)=t.st.c j v * (aj:Rat):=oS (S:=aI n rows) h.tok.ok (aj:Rat) a hvB;rw [<-e,G];rw [<-e] at E q o;generalize Q:t.st.c j v * (aj:Rat)=d;have key:iw n rows t v aj j->du n rows t v aj i<=((aI n rows).to (t.st.af j - n) - t.st.y (t.st.af j)) * d⁻¹:=λhB=>by
      have:=(l5 j a hB).1;unfold du at this⊢;rw [Wv _ (t.st.c j v * (aj:Rat)),Q] at this;exact this
     have htri:d < 0\/0 < d\/d=0:=by grind
     rcases htri with B | B | B
     ·
      constructor
      .have:=XQ C (show 0<= -d by grind);grind
      .intro s;have hy0:=q s;have h1:=key ⟨o, .inr ⟨by rw [Q];exact B,s⟩⟩;rw [hy0] at h1⊢;have p:du n rows t v aj i=0:=by grind
       rw [p];grind
     .have hB:iw n rows t v aj j:=⟨o, .inl (by rw [Q];exact B)⟩;have h1:=key hB;have p:=Rat.mul_le_mul_of_nonneg_right h1 (Yt B);have h3:=Rat.inv_mul_cancel d (λH=>by rw [H] at B;exact absurd B (by grind));have h4:du n rows t v aj i * d<=(aI n rows).to (t.st.af j - n) - t.st.y (t.st.af j):=by
       rw [Rat.mul_assoc,h3,ZS] at p;exact p
      refine⟨by grind,λs=> ?_⟩;have hy0:=q s;have h5:=XQ C (Yt B);rw [hy0] at h4⊢;grind
     .rw [B,Wz,Ys];exact⟨E,q⟩
    .rw [nC t.st (aj:Rat) Z (λ⟨j,a,e⟩=>hub (by rw [<-e];exact jZ h.tok.be a)),Wz,Ys];exact⟨E,q⟩
  .have Y:cW ((λu=>nv (aq t.aA u)) v)= (aj:Rat):=hsw.symm;refine⟨hi,e2,e3, ?_,λu hu F=> ?_,P, ?_,λj a hbnj O=> ?_,funext p2,λk r=> ?_⟩
   .have hw1:fg n rows t.val v (1 * (nv (aq t.aA v)).num.sign)=true:=by rw [Ww,hwv];exact x
    exact(BK h.tok go.k2 e2 e3).1 hw1
   .intro m;have h1:=e5 u (Yk _) hu (by rw [Wq];exact F);rw [Wq] at h1;have p:=(BK h.tok go.k2 (by omega) F).2 m;rw [h1] at p;cases p
   .rw [Y];exact l3.2
   .rw [Y] at O⊢;exact l5 j a ⟨hbnj,O⟩
   .rw [Y];exact hy' k r
end
open Go Go.Aev Go.Aev.Gen Go.Aev.Wd Go.Aev.Tb
def cS(n:Nat)(rows:List R):Nat->TL->Option (List Nm)×Option (List Nm)×Bool×TL
 | p,t=>match aV n rows t.val 1 t.aA 0 with
  | none=>(some (t.aA.drop n),none,true,t)
  | some v=>match p with
   | 0=>(none,none,false,t)
   | p+1=>if(bm n rows t v (nv (aq t.aA v)).num.sign).2.2=false then(none,some (jx n t v (nv (aq t.aA v)).num.sign),true,t)
    else cS n rows p (fb n rows v (nv (aq t.aA v)).num.sign t)
def sY(n:Nat)(rows:List R)(f:Fl)(r:Option (List Nm)×Option (List Nm)×Bool×TL):List T:=gg r.1::gg r.2.1::tb r.2.2.1::rY n rows f r.2.2.2
theorem kB{n:Nat}{rows:List R}{t:TL}(p:Nat)(h:aV n rows t.val 1 t.aA 0=none):cS n rows p t= (some (t.aA.drop n),none,true,t):=by
 cases p with
 | zero=>rw [cS,h]
 | succ p=>rw [cS,h]
theorem pg{n:Nat}{rows:List R}{t:TL}{v:Nat}(h:aV n rows t.val 1 t.aA 0=some v):cS n rows 0 t= (none,none,false,t):=by rw [cS,h]
theorem nQ{n:Nat}{rows:List R}{t:TL}(p:Nat){v:Nat}(h:aV n rows t.val 1 t.aA 0=some v)(a:(bm n rows t v (nv (aq t.aA v)).num.sign).2.2=false):
  cS n rows (p+1) t= (none,some (jx n t v (nv (aq t.aA v)).num.sign),true,t):=by
 rw [cS,h];simp only [a,if_true]
theorem nR{n:Nat}{rows:List R}{t:TL}(p:Nat){v:Nat}(h:aV n rows t.val 1 t.aA 0=some v)(a:(bm n rows t v (nv (aq t.aA v)).num.sign).2.2=true):
  cS n rows (p+1) t=cS n rows p (fb n rows v (nv (aq t.aA v)).num.sign t):=by
 rw [cS,h];simp only [a];rfl
theorem Uo{n:Nat}{rows:List R}{gl:List Int}(f:Fl)(j:f.eg=false)(go:ez n rows gl)(g:Bool)(o:List (List T)):∀(p:Nat) (t:TL),p<=100000->eA n rows gl t->
  Or oJ [r0,I (p:Int)] (S4 n rows f t g o)=some (sY n rows f (cS n rows p t)):=by
 intro p;induction p using Nat.strongRecOn with
 | _ p r=>
 intro t q h;have m:=go.ro.sz;have e:=h.tok.val go.ro;have c:=h.tok.ak go.ro;have l:=h.gq go;have:=Uk (n:=n) (rows:=rows) f t m h.tok.be j e c h.len l (λk i d=>h.tok.sT d) g o p q (by omega) (by omega) (λv hv=>h.nb hv)
  (λv aj _ d=>IW h.tok.be v aj d) (res:=sY n rows f (cS n rows p t)) (by
   cases b:aV n rows t.val 1 t.aA 0 with
   | none=>simp only;rw [kB p b];rfl
   | some v=>
    simp only;cases p with
    | zero=>rw [pg b];rfl
    | succ p=>
     cases a:(bm n rows t v (nv (aq t.aA v)).num.sign).2.2
     .rw [nQ p b a];simp only [mV,a,if_true];rfl
     .rw [nR p b a];simp only [mV,a,Bool.true_eq_false,if_false];exact r p (Xf p) _ (by omega) (h.step go b a).1) t.aA 0 rfl rfl
 refine al ?_;rw [OV];simp only [bJ];exact this
theorem Un{n:Nat}{rows:List R}{gl:List Int}(f:Fl)(c:f.eg=false)(go:ez n rows gl)(d:Bool)(l:List (List T)):∀(p:Nat) (t:TL),p<=100000->eA n rows gl t->
  Or oJ [r0,I (p:Int)] (S3 n rows f t d l)=some (sY n rows f (cS n rows p t)):=by
 intro p
 skip
 intro t q h;have o:=go.ro.sz;have j:=h.tok.val go.ro;have e:=h.tok.ak go.ro;have m:=h.gq go;have:=Uj (n:=n) (rows:=rows) f t o h.tok.be c j e h.len m (λk i g=>h.tok.sT g) d l p q (by omega) (by omega) (λv hv=>h.nb hv)
  (λv aj _ g=>IW h.tok.be v aj g) (res:=sY n rows f (cS n rows p t)) (by
   cases b:aV n rows t.val 1 t.aA 0 with
   | none=>simp only;rw [kB p b];rfl
   | some v=>
    simp only;cases p with
    | zero=>rw [pg b];rfl
    | succ p=>
     cases a:(bm n rows t v (nv (aq t.aA v)).num.sign).2.2
     .rw [nQ p b a];simp only [mV,a,if_true];rfl
     .rw [nR p b a];simp only [mV,a,Bool.true_eq_false,if_false];exact Uo f c go d l p _ (by omega) (h.step go b a).1) t.aA 0 rfl rfl
 refine al ?_;rw [OU];simp only [bJ];exact this
theorem Uh{n:Nat}{rows:List R}{gl:List Int}(f:Fl)(go:ez n rows gl)(el:Bool)(p:Nat)(t:TL)(e:p<=100000)(h:bL n rows t)(a:(aI n rows).oD t.st):
  Or (.call 41) [r0,aa el gl,I (p:Int)] (S1 n rows f t)=
   some (sY n rows ⟨f.er,f.eb,f.ec,f.ev,false⟩ (cS n rows p {t with aA:=jr t gl 0 (List.replicate (n+rows.length) none)})):=by
 have c:=zl h a go.gl;have b:=Un (n:=n) (rows:=rows) ⟨f.er,f.eb,f.ec,f.ev,false⟩ rfl go f.eg (aS t.aA) p _ e c;exact Ui (n:=n) (rows:=rows) f t h.be go.ro.sz.n go.ro.sz.m (h.ak go.ro) (λk i d=>h.sT d) (p:Int) el gl go.gb go.gl (by omega) b
end Go.Aev.Wd.Lg
