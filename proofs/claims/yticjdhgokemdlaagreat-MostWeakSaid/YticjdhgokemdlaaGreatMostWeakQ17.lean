import Derived.Test.YticjdhgokemdlaaGreatMostWeakQ16
set_option linter.all false
namespace Go.Aev.Wd.Lg
open Go Go.Aev Go.Aev.Gen Go.Aev.Wd Go.Aev.Tb Go.IntKind
abbrev S3(n:Nat)(rows:List R)(f:Fl)(t:TL)(a:Bool)(go:List (List T)):List ab:=
 [ab.box [I (n:Int),AV.t (T.aa 3 f.er (dC rows)),AV.own (Id.c 1),AV.own (Id.c 2),AV.own (Id.c 3),AV.own (Id.c 4),AV.own (Id.c 6)],ab.sl false 1 f.eb (cS t.ah),ab.mp false [Ck.i .i64] (Ck.i .i64) (bW t.mp),
  ab.rows f.ec 1 0 4 t.al.length (bI 0 t.al),ab.sl false 8 f.ev (dO t.val),ab.sl false 4 a go,ab.sl false 4 f.eg (aR t.aB)]
abbrev S4(n:Nat)(rows:List R)(f:Fl)(t:TL)(a:Bool)(go:List (List T)):List ab:=
 [ab.box [I (n:Int),AV.t (T.aa 3 f.er (dC rows)),AV.own (Id.c 1),AV.own (Id.c 2),AV.own (Id.c 6),AV.own (Id.c 4),AV.own (Id.c 7)],ab.sl false 1 f.eb (cS t.ah),ab.mp false [Ck.i .i64] (Ck.i .i64) (bW t.mp),
  ab.dead,ab.sl false 8 f.ev (dO t.val),ab.sl false 4 a go,ab.rows f.ec 1 0 4 t.al.length (bI 0 t.al),ab.sl false 4 f.eg (aR t.aB)]
abbrev La(n:Nat)(rows:List R)(f:Fl)(t:TL)(a:Bool)(go:List (List T)):List ab:=
 [ab.box [I (n:Int),AV.t (T.aa 3 f.er (dC rows)),AV.own (Id.c 1),AV.own (Id.c 2),AV.own (Id.c 7),AV.own (Id.c 4),AV.own (Id.c 6)],ab.sl false 1 f.eb (cS t.ah),ab.mp false [Ck.i .i64] (Ck.i .i64) (bW t.mp),
  ab.dead,ab.sl false 8 f.ev (dO t.val),ab.sl false 4 a go,ab.sl false 4 f.eg (aR t.aB),ab.rows f.ec 1 0 4 t.al.length (bI 0 t.al)]
def rA(n:Nat)(rows:List R)(f:Fl)(t:TL):List T:=
 [ti (n:Int),T.aa 3 f.er (dC rows),T.aw,T.aw,bK f.ec (bI 0 t.al),T.aw,T.aa 4 f.eg (aR t.aB),T.aa 1 f.eb (cS t.ah),bQ (bW t.mp),T.aa 8 f.ev (dO t.val)]
theorem qp(n:Nat)(rows:List R)(f:Fl)(t:TL):rA n rows f t= [ti (n:Int),T.aa 3 f.er (dC rows),T.aw,T.aw,bK f.ec (bI 0 t.al),T.aw,T.aa 4 f.eg (aR t.aB),T.aa 1 f.eb (cS t.ah),bQ (bW t.mp),T.aa 8 f.ev (dO t.val)]:=rfl
def iB(c:Nm):List Nm->List Nm->List Nm
 | a::d,g::b=>pl g (tm a c)::iB c d b
 | _,b=>b
def ji(t:TL):List Int->Nat->List Nm->List Nm
 | [],_,g=>g
 | c::cs,k,g=>ji t cs (k+1) (match cg k t.mp with
  | some i=>iB (iN c) (az t.al i) g
  | none=>g.set k (pl (aq g k) (iN c)))
theorem yV(c:Nm):∀(a g:List Nm),(iB c a g).length=g.length
 | [],_=>by simp [iB]
 | _::_,[]=>by simp [iB]
 | a::l,g::r=>by simp [iB,yV c l r]
theorem HN{m k:Nat}{c:Nm}(i:QN 20 c):∀(a g:List Nm),(∀x∈a,QN k x)->(∀x∈g,QN m x)->∀x∈iB c a g,QN (m+ (k+20)+1) x
 | [],g,_,d=>by intro x b;simp [iB] at b;exact(d x b).mono (by omega)
 | _::_,[],_,_=>by intro x b;simp [iB] at b
 | a::l,g::r,e,d=>by
  intro x b;rw [iB] at b;rcases Uw.1 b with rfl | b
  .exact(d g Uk).add ((e a Uk).mul i)
  .exact HN i l r (λx h=>e x (Um _ h)) (λx h=>d x (Um _ h)) x b
section
variable {n:Nat} {rows:List R} (f:Fl) (t:TL)
theorem Tx{mc mg:Nat}(g:cL n rows.length t)(W:n<=12)(hm:rows.length<=40)(L:∀x∈t.al,∀y∈x,QN mc y)(s:Bool)(go:List (List T))(p:Int){c:Int}(Q: -1000000<=c/\c<=1000000)(el:Bool)(gl:List Int)(k:Nat)(V:k<=1000){i:Nat}(hi:i < rows.length)
  (hs:mg+ (mc+20)+1<=6300) {res:List T} {w:List Nm}
  (q:Or rz [r0,I p,aa el gl,I (gl.length:Int),I ((k+1:Nat):Int)] (S3 n rows f {t with aB:=w} s go)=some res):
  ∀(d a b:List Nm) (j:Nat),(az t.al i).drop j=d->b.length=j->d.length=a.length->(∀y∈a,QN mg y)->b++iB (iN c) d a=w->
  Or AI [r0,I p,I c,aa el gl,I (gl.length:Int),I (k:Int),AV.row (Id.c 3) i,I ((az t.al i).length:Int),I (j:Int)] (S3 n rows f {t with aB:=b++a} s go)=some res:=by
 have S:=g.c;have M:=g.row hi;have z:=jL (al:=t.al) (i:=i) (by omega);have E:=fK c (by omega);have H:QN 20 (iN c):=eu (by omega);intro d;induction d with
 | nil=>
  intro a b j h m o hy e;have h1:¬(j:Int) < ((az t.al i).length:Int):=by have:=bu h;omega
  have A:iB (iN c) [] a=a:=rfl;rw [A] at e;refine ak ?_;rw [GR];simp only [ai,↓reduceIte,Int.reduceBEq,Int.reduceEq,GD,h1,next k (by omega)];rw [e];exact q
 | cons r d O=>
  intro a b j h m o hy e;obtain⟨v,U,K⟩:=bq h;cases a with
  | nil=>simp at o
  | cons y a=>
   have h1:(j:Int) < ((az t.al i).length:Int):=by omega
   have C: 0<=(j:Int):=by omega
   have D:(j:Int) < ((b++y::a).length:Int):=by simp;omega
   have B:(b++y::a)[j]? =some y:=by rw [Vq (by omega),m,W2];rfl
   have q1:=L _ (Uj (jc (al:=t.al) (i:=i) (by omega))) r (Uj v);have P:=hy y Uk;have G:=l9 q1 H (by omega);have F:=nI (x:=y) (y:=tm r (iN c)) P (q1.mul H) hs;have J:=kj (l:=b++y::a) (i:=j) (by omega) (pl y (tm r (iN c)));rw [qF _ _ _ _ _ m] at J;have:=O a (b++ [pl y (tm r (iN c))]) (j+1) K (by simp;omega) (by simpa using o) (λu N=>hy u (Um _ N)) (by rw [<-e];simp [iB]);simp only [UR,Uo,Uq] at this;refine ak ?_;rw [GR];simp only [ai,↓reduceIte,Int.reduceBEq,Int.reduceEq,GD,h1,C,D,and_self,z,bH,cu v,cu B,E,G,F,J,next j (by omega)];exact this
theorem Ty{mc:Nat}(j:cL n rows.length t)(M:n<=12)(hm:rows.length<=40)(v:∀x∈t.al,∀y∈x,QN mc y)(F:∀k i,cg k t.mp=some i->i < rows.length)
  (o:Bool) (go:List (List T)) (p:Int) (el:Bool) (gl:List Int) (B:∀c∈gl, -1000000<=c/\c<=1000000) (Q:gl.length<=n) {res:List T}:
  ∀(cs:List Int) (k mg:Nat) (g:List Nm),gl.drop k=cs->g.length=n+rows.length->(∀y∈g,QN mg y)->mg+ (mc+21) * cs.length<=6300->
  Or ow [r0,I p] (S3 n rows f {t with aB:=ji t cs k g} o go)=some res->
  Or rz [r0,I p,aa el gl,I (gl.length:Int),I (k:Int)] (S3 n rows f {t with aB:=g} o go)=some res:=by
 have P:=j.c;intro cs;induction cs with
 | nil=>
  intro k mg g h d e hs a;have h1:¬(k:Int) < (gl.length:Int):=by have:=bu h;omega
  refine ak ?_;rw [BV];simp only [ai,↓reduceIte,Int.reduceBEq,Int.reduceEq,GD,h1];exact a
 | cons c cs G=>
  intro k mg g h d e hs a;obtain⟨q,S,u⟩:=bq h;have h1:(k:Int) < (gl.length:Int):=by omega
  have m: 0<=(k:Int):=by omega
  have w:=B c (Uj q);have s:QN 20 (iN c):=eu (by omega);rw [UH,X5,XL] at hs;have b:=uF k t.mp;rw [ji] at a;cases r:cg k t.mp with
  | none=>
   rw [r] at b a;simp only at a;have E:(k:Int) < (g.length:Int):=by omega
   have H:=fK c (by omega);have K:=e _ (Uj (gA (l:=g) (i:=k) (by omega)));have J:=nI (x:=aq g k) (y:=iN c) K s (by omega);have O:=kj (l:=g) (i:=k) (by omega) (pl (aq g k) (iN c));have:=G (k+1) (mg+ (mc+21)) (g.set k (pl (aq g k) (iN c))) u (by rw [Vc];exact d) (λy hy=>by
    rcases U1 hy with hy | hy
    .exact(e y hy).mono (by omega)
    .subst hy;exact(K.add s).mono (by omega)) (by omega) a
   refine ak ?_;rw [BV];simp only [ai,↓reduceIte,Int.reduceBEq,Int.reduceEq,GD,h1,m,E,and_self,cW,jg q,b,XQ,Va,Ys,bH,cu (gA (l:=g) (i:=k) (by omega)),H,J,O,next k (by omega)];exact this
  | some i=>
   rw [r] at b a;simp only at a;have hi:=F k i r;have N:=j.row hi;have D: 0<=(i:Int)/\(i:Int) < (t.al.length:Int):=by omega
   have C:=lf (al:=t.al) (i:=i) (by omega);have A:=jL (al:=t.al) (i:=i) (by omega);have z:=v _ (Uj (jc (al:=t.al) (i:=i) (by omega)));have L:=G (k+1) (mg+ (mc+21)) (iB (iN c) (az t.al i) g) u (by rw [yV];exact d) (λy hy=>(HN s _ _ z e y hy).mono (by omega)) (by omega) a;have:=Tx (n:=n) (rows:=rows) f t j M hm v o go p w el gl k (by omega) hi (mg:=mg) (by omega) L (az t.al i) g [] 0 rfl rfl (by omega) e rfl;simp only [Uq] at this;refine ak ?_;rw [BV];simp only [ai,↓reduceIte,Int.reduceBEq,Int.reduceEq,GD,h1,m,and_self,cW,jg q,b,Wp,UK,Yt,D,cX,C,A,bH];exact this
theorem Tu{mc:Nat}(b:cL n rows.length t)(o:n<=12)(hm:rows.length<=40)(m:∀x∈t.al,∀y∈x,QN mc y)(j:∀k i,cg k t.mp=some i->i < rows.length)
  (p:Int) (el:Bool) (gl:List Int) (g:∀c∈gl, -1000000<=c/\c<=1000000) (h:gl.length<=n) (hs:(mc+21) * 12<=6300) {res:List T}
  (e:Or ow [r0,I p] (S3 n rows ⟨f.er,f.eb,f.ec,f.ev,false⟩ {t with aB:=ji t gl 0 (List.replicate (n+rows.length) none)} f.eg (aR t.aB))=some res):
  Or (.call 41) [r0,aa el gl,I p] (S1 n rows f t)=some res:=by
 have d:=b.v;have a:=qe (k:=t.val.length) (by omega);have l:((t.val.length:Nat):Int).toNat=t.val.length:=by omega
 have:=Ty (n:=n) (rows:=rows) ⟨f.er,f.eb,f.ec,f.ev,false⟩ t b o hm m j f.eg (aR t.aB) p el gl g h gl 0 0 (List.replicate (n+rows.length) none) rfl (by simp)
  (λy hy=>by rw [VO hy];exact iI _) (by
   have:(mc+21) * gl.length<=(mc+21) * 12:=Nat.mul_le_mul_left _ (by omega);omega) e
 refine ak ?_;rw [N5];simp only [ai,↓reduceIte,Int.reduceBEq,Int.reduceEq,GD,cN,a,l,rT,d,cW];rw [d] at a;simp only [ai,↓reduceIte,Int.reduceBEq,Int.reduceEq,GD,a];exact this
end
theorem rP{a:Type}(x y z u v t w s p q:a)(l:List a):(x::y::z::u::v::t::w::s::p::q::l).drop 10=l:=by cases l <;> rfl
def eX(n:Nat)(rows:List R)(v:Nat)(aj:Int)(t:TL):TL:=
 if(bo n rows t v aj).1>=0 then
  fg (bo n rows t v aj).1.toNat v (t.st.ah (bo n rows t v aj).1.toNat) (cC (az t.al (bo n rows t v aj).1.toNat) v (t.st.ah (bo n rows t v aj).1.toNat)) false (dP v (fB (bo n rows t v aj).2.1 (iN aj)) t)
 else dP v (fB (bo n rows t v aj).2.1 (iN aj)) t
noncomputable def mL(n:Nat)(rows:List R)(f:Fl)(t:TL)(p:Nat)(a:Bool)(go:List (List T))(v:Nat)(aj:Int):Option (List T):=
 match p with
 | 0=>some (T.aJ true::T.aJ true::tb false::rA n rows f t)
 | p+1=>if(bo n rows t v aj).2.2=false then some (T.aJ true::T.aa 4 false (aR (jQ n t v aj))::tb true::rA n rows f t)
  else Or ow [r0,I (p:Int)] (S4 n rows f (eX n rows v aj t) a go)
theorem Ie{n:Nat}{rows:List R}{t:TL}{mv mc:Nat}(sz:Sz n rows)(c:cL n rows.length t)(e:∀u,u < n+rows.length->VB mv (aI t.val u))(j:∀x∈t.al,∀y∈x,QN mc y)
  {v:Nat} (hv:v < n+rows.length) {aj:Int} (k:aj=1\/aj= -1) (q:mv+mc+40<=2000):VB (mv+mc+40) (bo n rows t v aj).2.1:=by
 have g:QN 2 (iN aj):=by rcases k with rfl | rfl <;> exact eu (by decide)
 have o:=x7 sz (t:=t) hv (e v hv) g (M:=mv+mc+40) (by omega) (by omega) (-1) (s:=(-1,(none,none),false)) (D6 _);have d:∀(bs:List Nat) (xs:List (List Nm)) (i:Nat) (s:LF),(∀b∈bs,b < n+rows.length)->(∀x∈xs,x.length=n+rows.length/\∀y∈x,QN mc y)->VB (mv+mc+40) s.2.1->VB (mv+mc+40) (gU n rows t v aj bs xs i s).2.1:=by
  intro bs;induction bs with
  | nil=>intro xs i s _ _ h;cases xs <;> exact h
  | cons b bs l=>
   intro xs i s hb a h;cases xs with
   | nil=>exact h
   | cons x xs=>rw [gU];obtain⟨w,p⟩:=a x Uk;have m:QN mc (aq x v):=p _ (Uj (gA (by omega)));exact l xs (i+1) _ (λb h=>hb b (Um _ h)) (λx h=>a x (Um _ h)) (x7 sz (hb b Uk) (e b (hb b Uk)) (m.mul g) (by omega) (by omega) (i:Int) h)
 exact d _ _ _ _ c.lt (λx a=>⟨c.r x a,j x a⟩) o
section
variable {n:Nat} {rows:List R} (f:Fl) (t:TL)
set_option maxRecDepth 20000 in
theorem Tv{mv mc:Nat}(sz:Sz n rows)(l:cL n rows.length t)(X:f.eg=false)
  (W:∀u,u < n+rows.length->VB mv (aI t.val u)) (N:∀x∈t.al,∀y∈x,QN mc y) (hgl:t.aB.length=n+rows.length) (Y:∀y∈t.aB,QN mc y)
  (hln:∀k i,cg k t.mp=some i->i < rows.length) (eo:Bool) (go:List (List T)) (p:Nat) (hp:p<=100000)
  (h1s: 20<=mv) (h2s: 3 * mv+3 * mc+60<=2000)
  (hnb:∀v,nv (aq t.aB v)≠0->v∉t.ah)
  (hlim:∀v aj,aj=1\/aj= -1->(bo n rows t v aj).1>=0->(bo n rows t v aj).1.toNat < rows.length/\nv (aq (az t.al (bo n rows t v aj).1.toNat) v)≠0) {res:List T}
  (d:(match aV n rows t.val 1 t.aB 0 with
   | none=>some (T.aa 4 false (aR (t.aB.drop n))::T.aJ true::tb true::rA n rows f t)
   | some v=>mL n rows f t p eo go v (nv (aq t.aB v)).num.sign)=some res):
  ∀(xs:List Nm) (k:Nat),t.aB.drop k=xs->aV n rows t.val 1 xs k=aV n rows t.val 1 t.aB 0->
  Or oz [r0,I (p:Int),I (-1),I 0,AV.own (Id.c 6),I (t.aB.length:Int),I (k:Int)] (S3 n rows f t eo go)=some res:=by
 have hn:=sz.n;have hm:=sz.m;have hcl:=l.c;have hvl:=l.v;intro xs;induction xs with
 | nil=>
  intro k h O;have h1:¬(k:Int) < (t.aB.length:Int):=by have:=bu h;omega
  have P:aV n rows t.val 1 t.aB 0=none:=by rw [<-O];rfl
  have hin:bO (n:Int) (t.aB.length:Int) (t.aB.length:Int)=some ():=uM (by omega);have hneg:(-1:Int) < 0:=by decide
  have htk:List.take (((t.aB.length:Int)).toNat - ((n:Int)).toNat) (List.drop ((n:Int)).toNat (aR t.aB))=aR (t.aB.drop n):=by
   have K:((t.aB.length:Int)).toNat=t.aB.length:=by omega
   have e2:((n:Int)).toNat=n:=by omega
   rw [K,e2,Vh (by simp [aR])];simp [aR,List.map_drop]
  rw [P] at d;simp only at d;rw [qp] at d;rw [<-d];refine ak ?_;rw [pT];simp only [ai,↓reduceIte,Int.reduceBEq,Int.reduceEq,GD,h1,hneg,bH,hin,htk,cF,cH,X]
 | cons x xs ih=>
  intro k h O;obtain⟨B,g2,g3⟩:=bq h;have h1:(k:Int) < (t.aB.length:Int):=by omega
  have z: 0<=(k:Int):=by omega
  have ks:=lH x;have qx:=Y x (Uj B);by_cases M:nv x=0
  .have j:=(fY (nv x)).2 M;have D:aV n rows t.val 1 (x::xs) k=aV n rows t.val 1 xs (k+1):=by rw [aV,if_neg (λL=>L.1 M)]
   have:=ih (k+1) g3 (by rw [<-D];exact O);refine ak ?_;rw [pT];simp only [bT,ai,↓reduceIte,Int.reduceBEq,Int.reduceEq,GD,h1,z,and_self,bH,cu B,ks,j,next k (by omega)];exact this
  .have j:¬(nv x).num.sign=0:=λL=>M ((fY _).1 L);have C:(!((nv x).num.sign==0))=true:=by simpa using j
   have J:(nv x).num.sign=1\/(nv x).num.sign= -1:=by
    rcases pn (nv x) with e | e | e
    .exact .inl e
    .exact .inr e
    .exact absurd e j
   have U:=z7 sz f.er f.eb f.ev f.eg t.ah t.val t.aB hvl W (by omega) (v:=k) (by omega) (nv x).num.sign;by_cases g:e9 n rows t.val k (nv x).num.sign=true
   .have D:aV n rows t.val 1 (x::xs) k=some k:=by rw [aV,if_pos ⟨M,by rw [Vy];exact g⟩]
    have P:aV n rows t.val 1 t.aB 0=some k:=by rw [<-O,D]
    have Z:aq t.aB k=x:=by unfold aq;rw [Ul,B];rfl
    have hkb:=hnb k (by rw [Z];exact M);have G:¬(k:Int) < 0:=by omega
    rw [P] at d;simp only at d;rw [Z] at d;generalize hwv:(nv x).num.sign=aj at *
    cases p with
    | zero=>have hz:((0:Nat):Int)=0:=rfl;simp only [mL] at d;rw [qp] at d;rw [<-d];refine ak ?_;rw [pT];simp only [ai,↓reduceIte,Int.reduceBEq,Int.reduceEq,GD,h1,z,G,hz,and_self,bH,cu B,ks,j,C,U,g,cF,cH]
    | succ p=>
     have hz:¬((p+1:Nat):Int)=0:=by omega
     have hwp:i64.wrap (((p+1:Nat):Int) - 1)= (p:Int):=by rw [Go.Aev.wr (by omega)];omega
     have o:=KW (n:=n) (rows:=rows) f t sz l W N (v:=k) (by omega) J h1s (by omega);have qL:=Ie (n:=n) (rows:=rows) sz l W N (v:=k) (by omega) J (by omega);rw [eI,cE] at o;simp only [Uo,Uq] at o;simp only [mL] at d;cases F:(bo n rows t k aj).2.2
     .rw [if_pos F,qp] at d;rw [F] at o;have k87:=KX (n:=n) (rows:=rows) f t l hn hm N hln (v:=k) (by omega) J (by omega);rw [eI] at k87;rw [<-d];refine ak ?_;rw [pT];simp only [ai,↓reduceIte,Int.reduceBEq,Int.reduceEq,GD,eW,cf,rP,h1,z,G,hz,and_self,bH,cu B,ks,j,C,U,g,o,k87,eV,eG,Ut,cX,cF,cH]
     .rw [if_neg (by rw [F];decide)] at d;rw [F] at o;have k32:=fK aj (by rcases J with rfl | rfl <;> decide);have qw:QN 2 (iN aj):=by rcases J with rfl | rfl <;> exact eu (by decide)
      have S:=pq (b:=iN aj) qL qw (by omega);have qW:=nF (b:=iN aj) qL qw;have hcx:∀y∈t.al,QB mc (nv (aq y k)):=λy hy=>N y hy _ (Uj (gA (by rw [l.r y hy];omega)));have H:=te (n:=n) (rows:=rows) f t l (v:=k) (by omega) hm hkb qW hcx (a:=mv) (by omega) W;obtain⟨A,s⟩:∃A,A=dP k (fB (bo n rows t k aj).2.1 (iN aj)) t:=⟨_,rfl⟩;have K:A.al=t.al:=by rw [s];rfl
      have e2:A.aB=t.aB:=by rw [s];rfl
      rw [<-s] at H;rw [eI] at H;rw [cE] at S;by_cases w:(bo n rows t k aj).1>=0
      .obtain⟨hi,Q⟩:=hlim k aj J w;have q:eX n rows k aj t=fg (bo n rows t k aj).1.toNat k (t.st.ah (bo n rows t k aj).1.toNat) (cC (az t.al (bo n rows t k aj).1.toNat) k (t.st.ah (bo n rows t k aj).1.toNat)) false A:=by
        unfold eX;rw [if_pos w,s]
       obtain⟨i,hii⟩:∃i:Nat,(bo n rows t k aj).1= (i:Int):=⟨(bo n rows t k aj).1.toNat,by omega⟩;rw [hii] at hi Q q o w;simp only [UL] at hi Q q;have hb1:A.ah[i]? =some (t.st.ah i):=by rw [s];exact iY (t:=t) (by rw [l.b];exact hi)
       have E:=tg (n:=n) (rows:=rows) f A (by rw [s];exact l.mv _ _) hn hm hi (v:=k) (by omega) hb1 (by rw [K];exact N) (by rw [K];exact Q) (λ_=>by rw [e2];exact⟨hgl,Y⟩) (by omega);rw [K,X] at E;generalize cC (az t.al i) k (t.st.ah i)=row1 at E q;generalize hT2:fg i k (t.st.ah i) row1 false A=t2 at E q;rw [q] at d;rw [eI] at E;refine ak ?_;rw [pT];simp only [ai,↓reduceIte,Int.reduceBEq,Int.reduceEq,GD,eW,cf,rP,h1,z,G,hz,hwp,and_self,bH,cu B,ks,j,C,U,g,o,k32,S,H,w,E,eV,eG,Ut,cX];exact d
      .have q:eX n rows k aj t=A:=by unfold eX;rw [if_neg w,s]
       rw [q] at d;refine ak ?_;rw [pT];simp only [ai,↓reduceIte,Int.reduceBEq,Int.reduceEq,GD,eW,cf,rP,h1,z,G,hz,hwp,and_self,bH,cu B,ks,j,C,U,g,o,k32,S,H,w,eV,eG,Ut,cX];exact d
   .have D:aV n rows t.val 1 (x::xs) k=aV n rows t.val 1 xs (k+1):=by rw [aV,if_neg (λL=>g (by rw [<-Vy (nv x).num.sign];exact L.2))]
    have V:e9 n rows t.val k (nv x).num.sign=false:=by simpa using g
    have:=ih (k+1) g3 (by rw [<-D];exact O);refine ak ?_;rw [pT];simp only [ai,↓reduceIte,Int.reduceBEq,Int.reduceEq,GD,h1,z,and_self,bH,cu B,ks,j,C,U,V,next k (by omega)];exact this
end
section
variable {n:Nat} {rows:List R} (f:Fl) (t:TL)
set_option maxRecDepth 20000 in
theorem Tw{mv mc:Nat}(sz:Sz n rows)(l:cL n rows.length t)(X:f.eg=false)
  (W:∀u,u < n+rows.length->VB mv (aI t.val u)) (N:∀x∈t.al,∀y∈x,QN mc y) (hgl:t.aB.length=n+rows.length) (Y:∀y∈t.aB,QN mc y)
  (hln:∀k i,cg k t.mp=some i->i < rows.length) (eo:Bool) (go:List (List T)) (p:Nat) (hp:p<=100000)
  (h1s: 20<=mv) (h2s: 3 * mv+3 * mc+60<=2000)
  (hnb:∀v,nv (aq t.aB v)≠0->v∉t.ah)
  (hlim:∀v aj,aj=1\/aj= -1->(bo n rows t v aj).1>=0->(bo n rows t v aj).1.toNat < rows.length/\nv (aq (az t.al (bo n rows t v aj).1.toNat) v)≠0) {res:List T}
  (d:(match aV n rows t.val 1 t.aB 0 with
   | none=>some (T.aa 4 false (aR (t.aB.drop n))::T.aJ true::tb true::rA n rows f t)
   | some v=>mL n rows f t p eo go v (nv (aq t.aB v)).num.sign)=some res):
  ∀(xs:List Nm) (k:Nat),t.aB.drop k=xs->aV n rows t.val 1 xs k=aV n rows t.val 1 t.aB 0->
  Or oz [r0,I (p:Int),I (-1),I 0,AV.own (Id.c 6),I (t.aB.length:Int),I (k:Int)] (La n rows f t eo go)=some res:=by
 have hn:=sz.n;have hm:=sz.m;have hcl:=l.c;have hvl:=l.v;intro xs;induction xs with
 | nil=>
  intro k h O;have h1:¬(k:Int) < (t.aB.length:Int):=by have:=bu h;omega
  have P:aV n rows t.val 1 t.aB 0=none:=by rw [<-O];rfl
  have hin:bO (n:Int) (t.aB.length:Int) (t.aB.length:Int)=some ():=uM (by omega);have hneg:(-1:Int) < 0:=by decide
  have htk:List.take (((t.aB.length:Int)).toNat - ((n:Int)).toNat) (List.drop ((n:Int)).toNat (aR t.aB))=aR (t.aB.drop n):=by
   have K:((t.aB.length:Int)).toNat=t.aB.length:=by omega
   have e2:((n:Int)).toNat=n:=by omega
   rw [K,e2,Vh (by simp [aR])];simp [aR,List.map_drop]
  rw [P] at d;simp only at d;rw [qp] at d;rw [<-d];refine ak ?_;rw [pU];simp only [ai,↓reduceIte,Int.reduceBEq,Int.reduceEq,GD,h1,hneg,bH,hin,htk,cF,cH,X]
 | cons x xs ih=>
  intro k h O;obtain⟨B,g2,g3⟩:=bq h;have h1:(k:Int) < (t.aB.length:Int):=by omega
  have z: 0<=(k:Int):=by omega
  have ks:=lH x;have qx:=Y x (Uj B);by_cases M:nv x=0
  .have j:=(fY (nv x)).2 M;have D:aV n rows t.val 1 (x::xs) k=aV n rows t.val 1 xs (k+1):=by rw [aV,if_neg (λL=>L.1 M)]
   have:=ih (k+1) g3 (by rw [<-D];exact O);refine ak ?_;rw [pU];simp only [bT,ai,↓reduceIte,Int.reduceBEq,Int.reduceEq,GD,h1,z,and_self,bH,cu B,ks,j,next k (by omega)];exact this
  .have j:¬(nv x).num.sign=0:=λL=>M ((fY _).1 L);have C:(!((nv x).num.sign==0))=true:=by simpa using j
   have J:(nv x).num.sign=1\/(nv x).num.sign= -1:=by
    rcases pn (nv x) with e | e | e
    .exact .inl e
    .exact .inr e
    .exact absurd e j
   have U:=z7 sz f.er f.eb f.ev f.eg t.ah t.val t.aB hvl W (by omega) (v:=k) (by omega) (nv x).num.sign;by_cases g:e9 n rows t.val k (nv x).num.sign=true
   .have D:aV n rows t.val 1 (x::xs) k=some k:=by rw [aV,if_pos ⟨M,by rw [Vy];exact g⟩]
    have P:aV n rows t.val 1 t.aB 0=some k:=by rw [<-O,D]
    have Z:aq t.aB k=x:=by unfold aq;rw [Ul,B];rfl
    have hkb:=hnb k (by rw [Z];exact M);have G:¬(k:Int) < 0:=by omega
    rw [P] at d;simp only at d;rw [Z] at d;generalize hwv:(nv x).num.sign=aj at *
    cases p with
    | zero=>have hz:((0:Nat):Int)=0:=rfl;simp only [mL] at d;rw [qp] at d;rw [<-d];refine ak ?_;rw [pU];simp only [ai,↓reduceIte,Int.reduceBEq,Int.reduceEq,GD,h1,z,G,hz,and_self,bH,cu B,ks,j,C,U,g,cF,cH]
    | succ p=>
     have hz:¬((p+1:Nat):Int)=0:=by omega
     have hwp:i64.wrap (((p+1:Nat):Int) - 1)= (p:Int):=by rw [Go.Aev.wr (by omega)];omega
     have o:=KW (n:=n) (rows:=rows) f t sz l W N (v:=k) (by omega) J h1s (by omega);have qL:=Ie (n:=n) (rows:=rows) sz l W N (v:=k) (by omega) J (by omega);rw [eI,cE] at o;simp only [Uo,Uq] at o;simp only [mL] at d;cases F:(bo n rows t k aj).2.2
     .rw [if_pos F,qp] at d;rw [F] at o;have k87:=KX (n:=n) (rows:=rows) f t l hn hm N hln (v:=k) (by omega) J (by omega);rw [eI] at k87;rw [<-d];refine ak ?_;rw [pU];simp only [ai,↓reduceIte,Int.reduceBEq,Int.reduceEq,GD,eW,cf,rP,h1,z,G,hz,and_self,bH,cu B,ks,j,C,U,g,o,k87,eV,eG,Ut,cX,cF,cH]
     .rw [if_neg (by rw [F];decide)] at d;rw [F] at o;have k32:=fK aj (by rcases J with rfl | rfl <;> decide);have qw:QN 2 (iN aj):=by rcases J with rfl | rfl <;> exact eu (by decide)
      have S:=pq (b:=iN aj) qL qw (by omega);have qW:=nF (b:=iN aj) qL qw;have hcx:∀y∈t.al,QB mc (nv (aq y k)):=λy hy=>N y hy _ (Uj (gA (by rw [l.r y hy];omega)));have H:=te (n:=n) (rows:=rows) f t l (v:=k) (by omega) hm hkb qW hcx (a:=mv) (by omega) W;obtain⟨A,s⟩:∃A,A=dP k (fB (bo n rows t k aj).2.1 (iN aj)) t:=⟨_,rfl⟩;have K:A.al=t.al:=by rw [s];rfl
      have e2:A.aB=t.aB:=by rw [s];rfl
      rw [<-s] at H;rw [eI] at H;rw [cE] at S;by_cases w:(bo n rows t k aj).1>=0
      .obtain⟨hi,Q⟩:=hlim k aj J w;have q:eX n rows k aj t=fg (bo n rows t k aj).1.toNat k (t.st.ah (bo n rows t k aj).1.toNat) (cC (az t.al (bo n rows t k aj).1.toNat) k (t.st.ah (bo n rows t k aj).1.toNat)) false A:=by
        unfold eX;rw [if_pos w,s]
       obtain⟨i,hii⟩:∃i:Nat,(bo n rows t k aj).1= (i:Int):=⟨(bo n rows t k aj).1.toNat,by omega⟩;rw [hii] at hi Q q o w;simp only [UL] at hi Q q;have hb1:A.ah[i]? =some (t.st.ah i):=by rw [s];exact iY (t:=t) (by rw [l.b];exact hi)
       have E:=tg (n:=n) (rows:=rows) f A (by rw [s];exact l.mv _ _) hn hm hi (v:=k) (by omega) hb1 (by rw [K];exact N) (by rw [K];exact Q) (λ_=>by rw [e2];exact⟨hgl,Y⟩) (by omega);rw [K,X] at E;generalize cC (az t.al i) k (t.st.ah i)=row1 at E q;generalize hT2:fg i k (t.st.ah i) row1 false A=t2 at E q;rw [q] at d;rw [eI] at E;refine ak ?_;rw [pU];simp only [ai,↓reduceIte,Int.reduceBEq,Int.reduceEq,GD,eW,cf,rP,h1,z,G,hz,hwp,and_self,bH,cu B,ks,j,C,U,g,o,k32,S,H,w,E,eV,eG,Ut,cX];exact d
      .have q:eX n rows k aj t=A:=by unfold eX;rw [if_neg w,s]
       rw [q] at d;refine ak ?_;rw [pU];simp only [ai,↓reduceIte,Int.reduceBEq,Int.reduceEq,GD,eW,cf,rP,h1,z,G,hz,hwp,and_self,bH,cu B,ks,j,C,U,g,o,k32,S,H,w,eV,eG,Ut,cX];exact d
   .have D:aV n rows t.val 1 (x::xs) k=aV n rows t.val 1 xs (k+1):=by rw [aV,if_neg (λL=>g (by rw [<-Vy (nv x).num.sign];exact L.2))]
    have V:e9 n rows t.val k (nv x).num.sign=false:=by simpa using g
    have:=ih (k+1) g3 (by rw [<-D];exact O);refine ak ?_;rw [pU];simp only [ai,↓reduceIte,Int.reduceBEq,Int.reduceEq,GD,h1,z,and_self,bH,cu B,ks,j,C,U,V,next k (by omega)];exact this
end
open Go Go.Aev Go.Aev.Gen Go.Aev.Wd Go.Aev.Tb
def gR(gl:List Int)(k:Nat):Rat:=((gl.getD k 0:Int):Rat)
structure fu (n:Nat) (rows:List R) (gl:List Int) (t:TL):Prop where
 tok:b8 n rows t
 len:t.aB.length=n+rows.length
 g:(aN n rows).wD (gR gl) t.st (λv=>nv (aq t.aB v))
 fe:(aN n rows).tA t.st
structure iv (n:Nat) (rows:List R) (gl:List Int):Prop where
 ro:gm n rows
 k2:∀r∈rows,r.kd≠2
 gb:∀c∈gl, -1000000<=c/\c<=1000000
 gl:gl.length<=n
theorem Pn{gl:List Int}(h:∀c∈gl, -1000000<=c/\c<=1000000)(k:Nat):bw 1000000 (gR gl k):=by
 refine bw.int ?_;by_cases a:k < gl.length
 .have:=h (gl.getD k 0) (by rw [Ul,Up a];exact Wu a);omega
 .rw [Ul,VI (by omega)];decide
theorem fu.gq{n:Nat}{rows:List R}{gl:List Int}{t:TL}(go:iv n rows gl)(h:fu n rows gl t):∀y∈t.aB,QN 270 y:=by
 obtain⟨D,h1,a,_,b⟩:=h.tok.den go.ro;intro y hy;obtain⟨v,hv,e⟩:=Wa hy;have c:aq t.aB v=y:=by unfold aq;rw [Ul,Up hv];exact e
 have:=b (λv=>nv (aq t.aB v)) (gR gl) h.g.z (λk _=>Pn go.gb k) h.g.same v (by rw [<-h.len];exact hv);rw [c] at this;exact xE h1 a this
theorem fu.nb{n:Nat}{rows:List R}{gl:List Int}{t:TL}(h:fu n rows gl t){v:Nat}(hv:nv (aq t.aB v)≠0):v∉t.ah:=by intro hb;obtain⟨j,a,e,_⟩:=lY h.tok.aZ hb;exact hv (by rw [<-e];exact h.g.z j a)
theorem b8.uT{n:Nat}{rows:List R}{t:TL}(h:b8 n rows t){k i:Nat}(a:cg k t.mp=some i):i < rows.length:=by
 by_cases b:k∈t.ah
 .obtain⟨j,d,_,c⟩:=lY h.aZ b;rw [h.ln j k c] at a;cases a;exact d
 .rw [h.uS k b] at a;cases a
theorem z0{n:Nat}{rows:List R}{t:TL}(h:b8 n rows t)(k2:∀r∈rows,r.kd≠2){v:Nat}(hv:v < n+rows.length):t.st.z v=0:=by
 have l:∀u,u < n+rows.length->(∀i,i < rows.length->t.st.ah i≠u)->t.st.z u=0:=λu m hb=>by
  have:=congrArg Prod.snd (h.ok.fix u m hb);show(t.st.val u).2=0;rw [this];unfold Sy.fx;show(if u < n then((0:Rat),(0:Rat)) else(aN n rows).up u).2=0;by_cases d:u < n
  .rw [if_pos d]
  .rw [if_neg d];have g:=k2 _ (jt (rows:=rows) (i:=u - n) (by omega));unfold Sy.up;exact if_neg g
 by_cases hb:∃i,i < rows.length/\t.st.ah i=v
 .obtain⟨i,hi,e⟩:=hb;have:=(h.ok.wf.same _).2 h.ok.hz i hi;rw [<-e,this];refine mU (λk g=> ?_);by_cases b:∃j,j < rows.length/\t.st.ah j=k
  .obtain⟨j,a,e'⟩:=b;have hz:t.st.c i k=0:=by rw [<-e'];exact h.ok.wf.z i j hi a
   rw [hz,VQ]
  .rw [l k g (λj a e'=>b ⟨j,a,e'⟩),V8]
 .exact l v hv (λj a e'=>hb ⟨j,a,e'⟩)
theorem If{n:Nat}{rows:List R}{t:TL}(d:cL n rows.length t)(v:Nat)(aj:Int)(h:(bo n rows t v aj).1>=0):
  (bo n rows t v aj).1.toNat < rows.length/\nv (aq (az t.al (bo n rows t v aj).1.toNat) v)≠0:=by
 have q:=d.b;have r:=d.c
 have g:∀(bs:List Nat) (xs:List (List Nm)) (i:Nat) (s:LF),t.ah.drop i=bs->t.al.drop i=xs->(s.1>=0->s.1.toNat < rows.length/\nv (aq (az t.al s.1.toNat) v)≠0)->
   (gU n rows t v aj bs xs i s).1>=0->(gU n rows t v aj bs xs i s).1.toNat < rows.length/\nv (aq (az t.al (gU n rows t v aj bs xs i s).1.toNat) v)≠0:=by
  intro bs;induction bs with
  | nil=>intro xs i s _ _ h;cases xs <;> exact h
  | cons b bs m=>
   intro xs i s hb l h;obtain⟨u,w,k⟩:=bq hb;cases xs with
   | nil=>exact h
   | cons x xs=>
    obtain⟨o,x2,p⟩:=bq l;have j:az t.al i=x:=by have:=jc (al:=t.al) (i:=i) (by omega);rw [o] at this;exact(Vb this).symm
    rw [gU];refine m xs (i+1) _ k p ?_;unfold dB;by_cases hz:nv (tm (aq x v) (iN aj))=0\/iZ n rows b (tm (aq x v) (iN aj))=false
    .rw [if_pos hz];exact h
    .rw [if_neg hz];split
     .intro _;show((i:Nat):Int).toNat < _/\nv (aq (az t.al ((i:Nat):Int).toNat) v)≠0;rw [UL,j];refine⟨by omega,λa=>hz (.inl ?_)⟩;rw [QO,a,VQ]
     .exact h
 unfold bo at h⊢;refine g _ _ _ _ rfl rfl (λa=> ?_) h;rcases Bp n rows t v (iN aj) (-1) (-1,(none,none),false) with e | e <;> rw [e] at a <;> exact absurd a (by decide)
def ir(n:Nat)(rows:List R)(t:TL)(v:Nat)(aj:Int)(j:Nat):Prop:=
 n<=t.st.ah j/\(0 < t.st.c j v * (aj:Rat)\/t.st.c j v * (aj:Rat) < 0/\(aN n rows).kd (t.st.ah j - n)=3)
def dc(n:Nat)(rows:List R)(t:TL)(v:Nat)(aj:Int)(j:Nat):Rat:=((aN n rows).to (t.st.ah j - n) - t.st.y (t.st.ah j)) / (t.st.c j v * (aj:Rat))
theorem EM{n:Nat}{rows:List R}{t:TL}{v:Nat}{aj:Int}{j:Nat}:¬(nv (tm (aq (az t.al j) v) (iN aj))=0\/iZ n rows (t.st.ah j) (tm (aq (az t.al j) v) (iN aj))=false)↔ir n rows t v aj j:=by
 have e:nv (tm (aq (az t.al j) v) (iN aj))=t.st.c j v * (aj:Rat):=rfl;unfold iZ ir;rw [e];by_cases a:t.st.c j v * (aj:Rat) < 0
 .rw [if_pos a];constructor
  .intro h;have i:fb n rows (t.st.ah j)=true:=by
    cases hb:fb n rows (t.st.ah j)
    .exact absurd (.inr hb) h
    .rfl
   have:=lX.1 i;exact⟨WW this.1, .inr ⟨a,this.2⟩⟩
  .rintro⟨h1,d | ⟨_,d⟩⟩
   .exact absurd a (by grind)
   .rintro(b | b)
    .rw [b] at a;exact absurd a (by grind)
    .rw [lX.2 ⟨WJ.2 h1,d⟩] at b;cases b
 .rw [if_neg a];constructor
  .intro h;have k:t.st.c j v * (aj:Rat)≠0:=λg=>h (.inl g);have hb:¬t.st.ah j < n:=λg=>h (.inr (by simp [g]));exact⟨WW hb, .inl (by grind)⟩
  .rintro⟨h1,d | ⟨d,_⟩⟩
   .rintro(b | b)
    .rw [b] at d;exact absurd d (by grind)
    .have:¬t.st.ah j < n:=WJ.2 h1;simp [this] at b
   .exact absurd d a
theorem BA{n:Nat}{rows:List R}{t:TL}(h:b8 n rows t)(k2:∀r∈rows,r.kd≠2){v:Nat}{aj:Int}{j:Nat}(o:j < rows.length)(hb:ir n rows t v aj j):
  vv (fE n rows t (t.st.ah j) (tm (aq (az t.al j) v) (iN aj)))= (dc n rows t v aj j,0):=by
 have e:nv (tm (aq (az t.al j) v) (iN aj))=t.st.c j v * (aj:Rat):=rfl;have g:¬t.st.ah j < n:=WJ.2 hb.1;have k:t.st.ah j < n+rows.length:=h.ok.wf.hb j o;have hz:=z0 h k2 k;have p:=k2 _ (jt (rows:=rows) (i:=t.st.ah j - n) (by omega));have l:(aN n rows).up (t.st.ah j)= ((aN n rows).to (t.st.ah j - n),0):=by unfold Sy.up;refine XH rfl ?_;exact if_neg p
 have b:vv (lQ n rows (t.st.ah j) (tm (aq (az t.al j) v) (iN aj)))= ((aN n rows).to (t.st.ah j - n),0):=by
  unfold lQ;rw [e,<-l];by_cases a:t.st.c j v * (aj:Rat) < 0
  .rw [if_pos a];rcases hb.2 with d | ⟨_,d⟩
   .exact absurd a (by grind)
   .exact uV (lX.2 ⟨g,d⟩)
  .rw [if_neg a];exact vW g
 unfold fE;generalize lQ n rows (t.st.ah j) (tm (aq (az t.al j) v) (iN aj))=bd at b;have h1:nv bd.1= (aN n rows).to (t.st.ah j - n):=congrArg Prod.fst b;have d:nv bd.2=0:=congrArg Prod.snd b;have m:nv (aI t.val (t.st.ah j)).2=0:=hz;refine XH ?_ ?_
 .show(nv bd.1 - t.st.y (t.st.ah j)) * (((1:Int):Rat) / (t.st.c j v * (aj:Rat)))=dc n rows t v aj j;unfold dc;rw [h1,VN,VN];have:((1:Int):Rat)=1:=rfl;rw [this];grind
 .show(nv bd.2 - nv (aI t.val (t.st.ah j)).2) * (((1:Int):Rat) / (t.st.c j v * (aj:Rat)))=0;rw [d,m];grind
theorem Ig{n:Nat}{rows:List R}{t:TL}(h:b8 n rows t)(k2:∀r∈rows,r.kd≠2){v:Nat}{aj:Int}(F:iZ n rows v (iN aj)=false):
  ((bo n rows t v aj).2.2=false/\∀j,j < rows.length->¬ir n rows t v aj j)\/
  ∃i,i < rows.length/\(bo n rows t v aj).1= (i:Int)/\(bo n rows t v aj).2.2=true/\ir n rows t v aj i/\(bo n rows t v aj).2.1=fE n rows t (t.st.ah i) (tm (aq (az t.al i) v) (iN aj))/\
   ∀j,j < rows.length->ir n rows t v aj j->dc n rows t v aj i<=dc n rows t v aj j/\(dc n rows t v aj i=dc n rows t v aj j->t.st.ah i<=t.st.ah j):=by
 have hbl:=h.aZ.b;have hcl:=h.aZ.c
 have O:∀(bs:List Nat) (xs:List (List Nm)) (k:Nat) (s:LF),t.ah.drop k=bs->t.al.drop k=xs->bs.length=xs.length->k<=rows.length->
   ((s.2.2=false/\∀j,j < k->¬ir n rows t v aj j)\/
    ∃i,i < k/\s.1= (i:Int)/\s.2.2=true/\ir n rows t v aj i/\s.2.1=fE n rows t (t.st.ah i) (tm (aq (az t.al i) v) (iN aj))/\
     ∀j,j < k->ir n rows t v aj j->dc n rows t v aj i<=dc n rows t v aj j/\(dc n rows t v aj i=dc n rows t v aj j->t.st.ah i<=t.st.ah j))->
   (((gU n rows t v aj bs xs k s).2.2=false/\∀j,j < rows.length->¬ir n rows t v aj j)\/
    ∃i,i < rows.length/\(gU n rows t v aj bs xs k s).1= (i:Int)/\(gU n rows t v aj bs xs k s).2.2=true/\ir n rows t v aj i/\(gU n rows t v aj bs xs k s).2.1=fE n rows t (t.st.ah i) (tm (aq (az t.al i) v) (iN aj))/\
     ∀j,j < rows.length->ir n rows t v aj j->dc n rows t v aj i<=dc n rows t v aj j/\(dc n rows t v aj i=dc n rows t v aj j->t.st.ah i<=t.st.ah j)):=by
  intro bs;induction bs with
  | nil=>
   intro xs k s hb V N hk E;have T:k=rows.length:=by have:=bu hb;omega
   have U:gU n rows t v aj [] xs k s=s:=by cases xs <;> rfl
   rw [U,<-T];exact E
  | cons b bs ih=>
   intro xs k s hb V N hk E;obtain⟨X,g2,Y⟩:=bq hb;cases xs with
   | nil=>simp at N
   | cons x xs=>
    obtain⟨x1,x2,x3⟩:=bq V;have Q:az t.al k=x:=by have:=jc (al:=t.al) (i:=k) (by omega);rw [x1] at this;exact(Vb this).symm
    have P:t.st.ah k=b:=by have:=iY (t:=t) (i:=k) (by omega);rw [X] at this;exact(Vb this).symm
    rw [gU,<-Q,<-P];refine ih xs (k+1) _ Y x3 (by simpa using N) (by omega) ?_;by_cases m:ir n rows t v aj k
    .have hz:=EM.2 m;have H:=BA h k2 (by omega) m;have B:dB n rows t (t.st.ah k) (tm (aq (az t.al k) v) (iN aj)) (k:Int) s=if eU n rows t (t.st.ah k) (tm (aq (az t.al k) v) (iN aj)) (k:Int) s then((k:Int),fE n rows t (t.st.ah k) (tm (aq (az t.al k) v) (iN aj)),true) else s:=by
      unfold dB;rw [if_neg hz]
     rw [B];rcases E with⟨M,D⟩ | ⟨i,S,o,p,w,q,y⟩
     .have z:eU n rows t (t.st.ah k) (tm (aq (az t.al k) v) (iN aj)) (k:Int) s:=by
       unfold eU;rw [M];exact .inl (by simp)
      rw [if_pos z];refine .inr ⟨k,by omega,rfl,rfl,m,rfl,λj C g=> ?_⟩;by_cases e:j=k
      .subst e;exact⟨WN,λ_=>UC _⟩
      .exact absurd g (D j (by omega))
     .have G:=BA h k2 (by omega) w;have u:eF s.2.1 (fE n rows t (t.st.ah k) (tm (aq (az t.al k) v) (iN aj))) > 0↔dc n rows t v aj k < dc n rows t v aj i:=by
       rw [xX,H,q,G];unfold eL;constructor
       .rintro(h | ⟨_,h⟩)
        .exact h
        .exact absurd h (by grind)
       .intro h;exact .inl h
      have J:eF s.2.1 (fE n rows t (t.st.ah k) (tm (aq (az t.al k) v) (iN aj))) < 0↔dc n rows t v aj i < dc n rows t v aj k:=by
       rw [xY,H,q,G];unfold eL;constructor
       .rintro(h | ⟨_,h⟩)
        .exact h
        .exact absurd h (by grind)
       .intro h;exact .inl h
      have I:eF s.2.1 (fE n rows t (t.st.ah k) (tm (aq (az t.al k) v) (iN aj)))=0↔dc n rows t v aj i=dc n rows t v aj k:=by
       constructor
       .intro K;have a:¬dc n rows t v aj k < dc n rows t v aj i:=λl=>by have:=u.2 l;omega
        have b:¬dc n rows t v aj i < dc n rows t v aj k:=λl=>by have:=J.2 l;omega
        grind
       .intro K;have a:¬eF s.2.1 (fE n rows t (t.st.ah k) (tm (aq (az t.al k) v) (iN aj))) > 0:=λl=>by have:=u.1 l;grind
        have b:¬eF s.2.1 (fE n rows t (t.st.ah k) (tm (aq (az t.al k) v) (iN aj))) < 0:=λl=>by have:=J.1 l;grind
        omega
      by_cases z:eU n rows t (t.st.ah k) (tm (aq (az t.al k) v) (iN aj)) (k:Int) s
      .rw [if_pos z];have d:=z;unfold eU at d;rw [if_pos p,o,UL,u,I] at d;have A:t.ah.getD i 0=t.st.ah i:=rfl;rw [A] at d;refine .inr ⟨k,by omega,rfl,rfl,m,rfl,λj C g=> ?_⟩;by_cases e:j=k
       .subst e;exact⟨WN,λ_=>UC _⟩
       .obtain⟨c1,W⟩:=y j (by omega) g;rcases d with h1 | ⟨h1,_,Z | Z⟩
        .exact⟨by grind,λL=>absurd h1 (by grind)⟩
        .omega
        .exact⟨by grind,λL=>by have:=W (by grind);omega⟩
      .rw [if_neg z];have d:=z;unfold eU at d;rw [if_pos p,o,UL,u,I] at d;have A:t.ah.getD i 0=t.st.ah i:=rfl;rw [A] at d;refine .inr ⟨i,by omega,o,p,w,q,λj C g=> ?_⟩;by_cases e:j=k
       .subst e;refine⟨YQ.1 λl=>d (.inl l),λL=> ?_⟩;refine WW λl=>d (.inr ⟨L,by omega, .inr (by omega)⟩)
       .exact y j (by omega) g
    .have hz:nv (tm (aq (az t.al k) v) (iN aj))=0\/iZ n rows (t.st.ah k) (tm (aq (az t.al k) v) (iN aj))=false:=XS λl=>m (EM.1 l);have B:dB n rows t (t.st.ah k) (tm (aq (az t.al k) v) (iN aj)) (k:Int) s=s:=by unfold dB;rw [if_pos hz]
     rw [B];rcases E with⟨M,D⟩ | ⟨i,S,o,p,w,q,y⟩
     .refine .inl ⟨M,λj C=> ?_⟩;by_cases e:j=k
      .subst e;exact m
      .exact D j (by omega)
     .refine .inr ⟨i,by omega,o,p,w,q,λj C g=> ?_⟩;by_cases e:j=k
      .subst e;exact absurd g m
      .exact y j (by omega) g
 have K:dB n rows t v (iN aj) (-1) (-1,(none,none),false)= (-1,(none,none),false):=by unfold dB;rw [if_pos (.inr F)]
 unfold bo;rw [K];exact O t.ah t.al 0 _ rfl rfl (by omega) (Xr _) (.inl ⟨rfl,λj C=>by omega⟩)
open Go Go.Aev Go.Aev.Gen Go.Aev.Wd Go.Aev.Tb
theorem Ce(c:Nm):∀(a g:List Nm) (v:Nat),a.length=g.length->nv (aq (iB c a g) v)=nv (aq g v)+nv c * nv (aq a v)
 | [],[],v,_=>by show nv none=nv none+nv c * nv none;rw [u5];grind
 | a::l,g::r,0,_=>by show nv g+nv a * nv c=nv g+nv c * nv a;grind
 | a::l,g::r,v+1,h=>Ce c l r v (by simpa using h)
 | [],_::_,_,h=>by simp at h
 | _::_,[],_,h=>by simp at h
theorem HP{n m:Nat}{t:TL}(a:cL n m t):∀(cs:List Int) (k:Nat) (g:List Nm),(ji t cs k g).length=g.length
 | [],_,_=>rfl
 | c::cs,k,g=>by
  rw [ji,HP a cs];split
  .rw [yV]
  .rw [Vc]
theorem Cj{n:Nat}{rows:List R}{t:TL}(h:b8 n rows t):∀(cs:List Int) (k:Nat) (g:List Nm),g.length=n+rows.length->k+cs.length<=n->(∀j,j < rows.length->nv (aq g (t.st.ah j))=0)->
  (∀j,j < rows.length->nv (aq (ji t cs k g) (t.st.ah j))=0)/\
  ∀y,gg n rows.length (aN n rows).A y->sm (n+rows.length) (λv=>nv (aq (ji t cs k g) v) * y v)=sm (n+rows.length) (λv=>nv (aq g v) * y v)+sm cs.length (λj=>((cs.getD j 0:Int):Rat) * y (k+j))
 | [],k,g,s,x,hz=>⟨hz,λy hy=>by simp only [ji,UX,sm];grind⟩
 | c::cs,k,g,s,x,hz=>by
  simp only [UH] at x;have b:∀y:Nat->Rat,sm (cs.length+1) (λj=>(((c::cs).getD j 0:Int):Rat) * y (k+j))= (c:Rat) * y k+sm cs.length (λj=>((cs.getD j 0:Int):Rat) * y (k+1+j)):=by
   intro y;have u:∀(m:Nat) (f:Nat->Rat),sm (m+1) f=f 0+sm m (λj=>f (j+1)):=by
    intro m f;induction m with
    | zero=>simp only [sm];grind
    | succ m D=>rw [sm,D,sm];grind
   rw [u];have e:(λj=>(((c::cs).getD (j+1) 0:Int):Rat) * y (k+ (j+1)))= (λj=>((cs.getD j 0:Int):Rat) * y (k+1+j)):=by funext j;rw [show k+ (j+1)=k+1+j by omega];rfl
   rw [e];rfl
  rw [ji];cases a:cg k t.mp with
  | some i=>
   have hi:=h.uT a;have C:=h.aZ.row hi;have w:t.st.ah i=k:=by
    by_cases o:k∈t.ah
    .obtain⟨j,l,e,r⟩:=lY h.aZ o;rw [h.ln j k r] at a;cases a;exact e
    .rw [h.uS k o] at a;cases a
   simp only;obtain⟨p,q⟩:=Cj h cs (k+1) (iB (iN c) (az t.al i) g) (by rw [yV];exact s) (by omega) (λj l=>by
    rw [Ce _ _ _ _ (by omega),hz j l];have:nv (aq (az t.al i) (t.st.ah j))=0:=h.ok.wf.z i j hi l;rw [this];grind)
   refine⟨p,λy hy=> ?_⟩;rw [q y hy,UH,b y];have B:y k=sm (n+rows.length) (λv=>t.st.c i v * y v):=by have:=(h.ok.wf.same y).2 hy i hi;rw [w] at this;exact this
   have e:(λv=>nv (aq (iB (iN c) (az t.al i) g) v) * y v)= (λv=>1 * (nv (aq g v) * y v)+ (c:Rat) * (t.st.c i v * y v)):=by funext v;rw [Ce _ _ _ _ (by omega)];show(nv (aq g v)+ (c:Rat) * t.st.c i v) * y v=_;grind
   rw [e,mj,<-B];grind
  | none=>
   have o:k∉t.ah:=λhb=>by obtain⟨j,l,e,r⟩:=lY h.aZ hb;rw [h.ln j k r] at a;cases a
   simp only;obtain⟨p,q⟩:=Cj h cs (k+1) (g.set k (pl (aq g k) (iN c))) (by rw [Vc];exact s) (by omega) (λj l=>by
    rw [uX (by omega),if_neg (λe=>o (by rw [<-e];exact jX h.aZ l))];exact hz j l)
   refine⟨p,λy hy=> ?_⟩;rw [q y hy,UH,b y];have e:sm (n+rows.length) (λv=>nv (aq (g.set k (pl (aq g k) (iN c))) v) * y v)=sm (n+rows.length) (λv=>1 * (nv (aq g v) * y v)+ (c:Rat) * (if v=k then y v else 0)):=by
    refine eJ (λv hv=> ?_);rw [uX (by omega)];by_cases d:v=k
    .rw [if_pos d,if_pos d,d];show(nv (aq g k)+ (c:Rat)) * y k=_;grind
    .rw [if_neg d,if_neg d];grind
   rw [e,mj,nW (by omega) y];grind
theorem b8.aB{n:Nat}{rows:List R}{t:TL}(h:b8 n rows t)(g:List Nm):b8 n rows {t with aB:=g}:=
 ⟨⟨h.aZ.b,h.aZ.c,h.aZ.r,h.aZ.v,h.aZ.lt,h.aZ.nd⟩,h.ok,h.ln,h.uS,h.ky⟩
theorem Cg{n:Nat}{rows:List R}{gl:List Int}{t:TL}(h:b8 n rows t)(b:(aN n rows).tA t.st)(c:gl.length<=n):
  fu n rows gl {t with aB:=ji t gl 0 (List.replicate (n+rows.length) none)}:=by
 have a:∀v,nv (aq (List.replicate (n+rows.length) (none:Nm)) v)=0:=λv=>by unfold aq;rw [Ul,Wi];split <;> rfl
 obtain⟨d,e⟩:=Cj h gl 0 (List.replicate (n+rows.length) none) (by simp) (by omega) (λj _=>a _);refine⟨h.aB _, ?_,⟨d,λy hy=> ?_⟩,b⟩
 .show(ji t gl 0 _).length=_;rw [HP h.aZ];simp
 .have:=e y hy;show sm (n+rows.length) (λv=>nv (aq (ji t gl 0 (List.replicate (n+rows.length) none)) v) * y v)=sm n (λk=>gR gl k * y k);rw [this,mU (λv _=>by rw [a v];exact VQ _),XA];rw [Kl (n:=gl.length) (N:=n) c (λk g _=>by
   unfold gR;rw [Ul,VI (by omega)];show((0:Int):Rat) * _=0;exact VQ _)]
  refine eJ (λk g=> ?_);rw [UW];rfl
theorem Sk{q:Rat}(b:q≠0):((q.num.sign:Int):Rat)=kH q:=by
 unfold kH;have h1:=Ki (w:=1) (.inl rfl) b;have a:(1:Int) * q.num.sign > 0↔0 < q:=by rw [h1.2];have:((1:Int):Rat)=1:=rfl;rw [this,Yo]
 rw [Vy] at a;rcases pn q with e | e | e
 .rw [e,if_pos (a.1 (by rw [e];decide))];rfl
 .rw [e,if_neg (λh=>by have:=a.2 h;rw [e] at this;exact absurd this (by decide))];rfl
 .exact absurd ((fY q).1 e) b
theorem vL{q:Rat}(a:q≠0):q.num.sign=1\/q.num.sign= -1:=by
 rcases pn q with e | e | e
 .exact .inl e
 .exact .inr e
 .exact absurd ((fY q).1 e) a
section
variable {n:Nat} {rows:List R} {gl:List Int} {t:TL}
theorem fu.self(go:iv n rows gl)(h:fu n rows gl t){v:Nat}(hv:v < n+rows.length)(g:nv (aq t.aB v)≠0)(a:e9 n rows t.val v (nv (aq t.aB v)).num.sign=true):
  iZ n rows v (iN (nv (aq t.aB v)).num.sign)=false:=by
 have m:=h.nb g;have c:=h.tok.ok.fix v hv (λi hi e=>m (by rw [<-e];exact jX h.tok.aZ hi));have o:=vL g;have p:(nv (aq t.aB v)).num.sign≠0:=by rcases o with e | e <;> rw [e] <;> decide
 rw [Bl t v p] at a;unfold iZ;rcases o with e | e
 .rw [e] at a⊢;rw [if_pos (by decide)] at a;have h1:¬nv (iN 1) < 0:=by
   show ¬((1:Int):Rat) < 0;have:((1:Int):Rat)=1:=rfl;rw [this];grind
  rw [if_neg h1];rcases a with b | b
  .have b:v < n:=b;simp [b]
  .by_cases j:v < n
   .simp [j]
   .unfold Sy.fx at c;have d:¬v < (aN n rows).n:=j;rw [if_neg d] at c;rw [c] at b;exact absurd b (Ae _)
 .rw [e] at a⊢;rw [if_neg (by decide)] at a;have h1:nv (iN (-1)) < 0:=by
   show((-1:Int):Rat) < 0;have:((-1:Int):Rat)= -1:=rfl;rw [this];grind
  rw [if_pos h1];cases l:fb n rows v
  .rfl
  .have k:=lX.1 l;rcases a with b | b | b
   .exact absurd b k.1
   .exact absurd k.2 b
   .unfold Sy.fx at c;have d:¬v < (aN n rows).n:=k.1;rw [if_neg d] at c;rw [c] at b;exact absurd b (Ae _)
theorem Bj(h:b8 n rows t)(k2:∀r∈rows,r.kd≠2){u:Nat}(k:u < n+rows.length){q:Rat}(j:q≠0):
  e9 n rows t.val u (1 * q.num.sign)=true↔(aN n rows).tq t.st q u:=by
 have h1:=uf (n:=n) (rows:=rows) t (w:=1) (.inl rfl) j (v:=u);have g:((1:Int):Rat) * q=q:=by have:((1:Int):Rat)=1:=rfl;rw [this,Yo]
 rw [g] at h1;rw [h1];have hz:=z0 h k2 k;have up:(aN n rows).tw t.st u↔(aN n rows).tU t.st u:=by
  unfold Sy.tw Sy.tU;by_cases b:u < n
  .exact⟨λ_=> .inl b,λ_=> .inl b⟩
  .have d:=k2 _ (jt (rows:=rows) (i:=u - n) (by omega));have c:(aN n rows).up u= ((aN n rows).to (u - n),0):=XH rfl (if_neg d);rw [c];unfold eL cw.val;rw [hz];constructor
   .rintro(a | a | ⟨_,a⟩)
    .exact .inl a
    .exact .inr a
    .exact absurd a (by grind)
   .rintro(a | a)
    .exact .inl a
    .exact .inr (.inl a)
 have e:(aN n rows).tu t.st u↔(aN n rows).tz t.st u:=by
  unfold Sy.tu Sy.tz;by_cases b:u < n
  .exact⟨λ_=> .inl b,λ_=> .inl b⟩
  .have d:=k2 _ (jt (rows:=rows) (i:=u - n) (by omega));have c:(aN n rows).up u= ((aN n rows).to (u - n),0):=XH rfl (if_neg d);rw [c];unfold eL cw.val;rw [hz];constructor
   .rintro(a | a | a | ⟨_,a⟩)
    .exact .inl a
    .exact .inr (.inl a)
    .exact .inr (.inr a)
    .exact absurd a (by grind)
   .rintro(a | a | a)
    .exact .inl a
    .exact .inr (.inl a)
    .exact .inr (.inr (.inl a))
 unfold Sy.Can Sy.tq;rw [up,e]
theorem fu.step(go:iv n rows gl)(h:fu n rows gl t){v:Nat}(hen:aV n rows t.val 1 t.aB 0=some v)(hfd:(bo n rows t v (nv (aq t.aB v)).num.sign).2.2=true):
  fu n rows gl (eX n rows v (nv (aq t.aB v)).num.sign t)/\∃i,(aN n rows).AN t.st (λu=>nv (aq t.aB u)) (eX n rows v (nv (aq t.aB v)).num.sign t).st i v:=by
 obtain⟨_,e2,e3,x,e5⟩:=kT hen;rw [Vv] at e3 x;rw [Vy] at x;rw [UW,h.len] at e2;have hself:=h.self go e2 e3 x;have w:=h.nb e3;have hvB:¬t.st.fZ rows.length v:=λ⟨i,hi,e⟩=>w (by rw [<-e];exact jX h.tok.aZ hi);have hw:=vL e3;have hsw:=Sk e3;generalize hwv:(nv (aq t.aB v)).num.sign=aj at *
 have hwne:(aj:Rat)≠0:=by
  rcases hw with rfl | rfl
  .have:((1:Int):Rat)=1:=rfl;rw [this];grind
  .have:((-1:Int):Rat)= -1:=rfl;rw [this];grind
 rcases Ig h.tok go.k2 (v:=v) (aj:=aj) hself with⟨hf,_⟩ | ⟨i,hi,l1,l2,l3,l4,l5⟩
 .rw [hf] at hfd;cases hfd
 .have hd0:t.st.c i v * (aj:Rat)≠0:=by
   rcases l3.2 with A | ⟨A,_⟩
   .intro H;rw [H] at A;exact absurd A (by grind)
   .intro H;rw [H] at A;exact absurd A (by grind)
  have hc0:nv (aq (az t.al i) v)≠0:=λH=>hd0 (by
   show nv (aq (az t.al i) v) * (aj:Rat)=0;rw [H,VQ])
  have P:=l3.1;have N:t.st.ah i < n+rows.length:=h.tok.ok.wf.hb i hi;have hg:=iY (t:=t) (i:=i) (by rw [h.tok.aZ.b];exact hi);have I:=BA h.tok go.k2 hi l3;rw [<-l4] at I;have T:nv (bo n rows t v aj).2.1.1=dc n rows t v aj i:=congrArg Prod.fst I;have hfz:nv (bo n rows t v aj).2.1.2=0:=congrArg Prod.snd I;have X:eX n rows v aj t=fg i v (t.st.ah i) (cC (az t.al i) v (t.st.ah i)) false (dP v (fB (bo n rows t v aj).2.1 (iN aj)) t):=by unfold eX;rw [l1,if_pos (by omega),UL]
  have r:=go.k2 _ (jt (rows:=rows) (i:=t.st.ah i - n) (by omega));have hfx:(aN n rows).fx (t.st.ah i)= ((aN n rows).to (t.st.ah i - n),0):=by unfold Sy.fx;have hn':¬t.st.ah i < (aN n rows).n:=WJ.2 P;rw [if_neg hn'];unfold Sy.up;refine XH rfl ?_;exact if_neg r
  have hval:vv (aI (dP v (fB (bo n rows t v aj).2.1 (iN aj)) t).val (t.st.ah i))= (aN n rows).fx (t.st.ah i):=by
   rw [zl h.tok.aZ v _ e2 w hg,hfx];have hz:=z0 h.tok go.k2 N;refine XH ?_ ?_
   .show t.st.y (t.st.ah i)+nv (bo n rows t v aj).2.1.1 * (aj:Rat) * t.st.c i v= (aN n rows).to (t.st.ah i - n);rw [T];unfold dc;rw [VN];have:=XW _ hd0;grind
   .show t.st.z (t.st.ah i)+nv (bo n rows t v aj).2.1.2 * (aj:Rat) * t.st.c i v=0;rw [hfz,hz];grind
  obtain⟨p1,p2⟩:=h.tok.Je (i:=i) (v:=v) (fB (bo n rows t v aj).2.1 (iN aj)) false hi e2 hc0 hval;have L:(eX n rows v aj t).aB=jy (cC (az t.al i) v (t.st.ah i)) v t.aB:=by rw [X];rfl
  rw [<-X] at p1 p2;have K:t.st.ah i≠v:=λe=>w (by rw [<-e];exact jX h.tok.aZ hi);have hrow:=h.tok.aZ.row hi;have hpl:(cC (az t.al i) v (t.st.ah i)).length=n+rows.length:=by unfold cC;simp;exact hrow
  have hpr:∀k,k < n+rows.length->nv (aq (cC (az t.al i) v (t.st.ah i)) k)=gF (t.st.c i) (t.st.ah i) v k:=λk r=>Jf (by omega) (by omega) (by omega) K;have U:∀k,k < n+rows.length->nv (aq (eX n rows v aj t).aB k)=kC (gF (t.st.c i) (t.st.ah i) v) v (λu=>nv (aq t.aB u)) k:=λk r=>by
   rw [L,Kz (by rw [hpl,h.len]) (by rw [h.len];exact e2) (by rw [h.len];exact r) (by rw [hpr v e2];exact vq K)];unfold kC;by_cases l:k=v
   .rw [if_pos l,if_pos l]
   .rw [if_neg l,if_neg l];show _+ _ * nv (aq (cC (az t.al i) v (t.st.ah i)) k)=_;rw [hpr k r]
  have hy':∀k,k < n+rows.length->(eX n rows v aj t).st.y k=t.st.y k+dc n rows t v aj i * t.st.dir rows.length v (aj:Rat) k:=by
   intro k r;have e:(eX n rows v aj t).st.y k=nv (aI (dP v (fB (bo n rows t v aj).2.1 (iN aj)) t).val k).1:=by rw [X];rfl
   rw [e];by_cases W:k∈t.ah
   .obtain⟨j,a,e,hgj⟩:=lY h.tok.aZ W;have G:t.st.dir rows.length v (aj:Rat) (t.st.ah j)=t.st.c j v * (aj:Rat):=uu (S:=aN n rows) h.tok.ok (aj:Rat) a hvB;rw [zl h.tok.aZ v _ e2 w hgj,<-e,G];show t.st.y (t.st.ah j)+nv (bo n rows t v aj).2.1.1 * (aj:Rat) * t.st.c j v=_;rw [T];grind
   .rw [CO h.tok.aZ v _ e2 W];by_cases l:k=v
    .rw [if_pos l,l,rO];show t.st.y v+nv (bo n rows t v aj).2.1.1 * (aj:Rat)=_;rw [T]
    .rw [if_neg l,rN t.st (aj:Rat) l (λ⟨j,a,e⟩=>W (by rw [<-e];exact jX h.tok.aZ a)),V8,XV];rfl
  have C: 0<=dc n rows t v aj i:=by
   obtain⟨E,q⟩:=h.fe _ P N;unfold dc;refine Rq ?_;rcases l3.2 with A | ⟨_,A⟩
   .refine .inl ⟨A, ?_⟩;have:t.st.y (t.st.ah i)<=(aN n rows).to (t.st.ah i - n):=E;grind
   .refine .inr ?_;have:t.st.y (t.st.ah i)= (aN n rows).to (t.st.ah i - n):=q A;grind
  refine⟨⟨p1, ?_,⟨λj a=> ?_,λy hy=> ?_⟩,λu o M=> ?_⟩,i, ?_⟩
  .rw [L,KA];exact h.len
  .have hbj:(eX n rows v aj t).st.ah j < n+rows.length:=p1.ok.wf.hb j a;show nv (aq (eX n rows v aj t).aB ((eX n rows v aj t).st.ah j))=0;rw [U _ hbj,p2 j];unfold kC gW;by_cases V:j=i
   .rw [if_pos V,if_pos rfl]
   .rw [if_neg V];have F:t.st.ah j≠v:=λe=>w (by rw [<-e];exact jX h.tok.aZ a);have hne2:t.st.ah j≠t.st.ah i:=λe=>V (h.tok.ok.wf.inj j i a hi e);rw [if_neg F];have h1:nv (aq t.aB (t.st.ah j))=0:=h.g.z j a;have p:gF (t.st.c i) (t.st.ah i) v (t.st.ah j)=0:=by
     unfold gF;rw [if_neg hne2,if_neg F,h.tok.ok.wf.z i j hi a,VN];grind
    show nv (aq t.aB (t.st.ah j))+nv (aq t.aB v) * gF (t.st.c i) (t.st.ah i) v (t.st.ah j)=0;rw [h1,p];grind
  .have h1:=h.g.same y hy;show sm (n+rows.length) (λk=>nv (aq (eX n rows v aj t).aB k) * y k)=_;rw [eJ (g:=λk=>kC (gF (t.st.c i) (t.st.ah i) v) v (λu=>nv (aq t.aB u)) k * y k) (λk r=>by rw [U k r])];rw [C2 e2 (vq K),Jk N e2 K (h.tok.ok.wf.z i i hi hi) hc0];have p:y (t.st.ah i)=sm (n+rows.length) (λk=>t.st.c i k * y k):=(h.tok.ok.wf.same y).2 hy i hi;rw [<-p];have h3:sm (n+rows.length) (λk=>nv (aq t.aB k) * y k)=sm n (λk=>gR gl k * y k):=h1;show _=sm n (λk=>gR gl k * y k);rw [<-h3,VN];grind
  ·
   have o:n<=u:=o;have M:u < n+rows.length:=M;obtain⟨E,q⟩:=h.fe u o M;show(eX n rows v aj t).st.y u<=(aN n rows).to (u - n)/\((aN n rows).kd (u - n)=3->(eX n rows v aj t).st.y u= (aN n rows).to (u - n));have E:t.st.y u<=(aN n rows).to (u - n):=E;have q:(aN n rows).kd (u - n)=3->t.st.y u= (aN n rows).to (u - n):=q;rw [hy' u M];by_cases Z:u=v
   .rw [Z,rO];rw [Z] at E q o;have hwm:aj= -1/\(aN n rows).kd (v - n)≠3:=by
     have D:=h.tok.ok.fix v e2 (λi hi e=>w (by rw [<-e];exact jX h.tok.aZ hi));unfold Sy.fx at D;have J:¬v < (aN n rows).n:=WJ.2 o;rw [if_neg J] at D;have hw0:aj≠0:=by rcases hw with e | e <;> rw [e] <;> decide
     rw [Bl t v hw0] at x;rcases hw with e | e
     .rw [e,if_pos (by decide)] at x;rcases x with m | m
      .exact absurd m J
      .rw [D] at m;exact absurd m (Ae _)
     .rw [e,if_neg (by decide)] at x;rcases x with m | m | m
      .exact absurd m J
      .exact⟨e,m⟩
      .rw [D] at m;exact absurd m (Ae _)
    refine⟨?_,λs=>absurd s hwm.2⟩;rw [hwm.1];have:((-1:Int):Rat)= -1:=rfl;rw [hwm.1] at C;rw [this];grind
   .by_cases hub:u∈t.ah
    .obtain⟨j,a,e,_⟩:=lY h.tok.aZ hub;have G:t.st.dir rows.length v (aj:Rat) (t.st.ah j)=t.st.c j v * (aj:Rat):=uu (S:=aN n rows) h.tok.ok (aj:Rat) a hvB;rw [<-e,G];rw [<-e] at E q o;generalize Q:t.st.c j v * (aj:Rat)=d;have key:ir n rows t v aj j->dc n rows t v aj i<=((aN n rows).to (t.st.ah j - n) - t.st.y (t.st.ah j)) * d⁻¹:=λhB=>by
      have:=(l5 j a hB).1;unfold dc at this⊢;rw [VN _ (t.st.c j v * (aj:Rat)),Q] at this;exact this
     have htri:d < 0\/0 < d\/d=0:=by grind
     rcases htri with B | B | B
     ·
      constructor
      .have:=Yn C (show 0<= -d by grind);grind
      .intro s;have hy0:=q s;have h1:=key ⟨o, .inr ⟨by rw [Q];exact B,s⟩⟩;rw [hy0] at h1⊢;have p:dc n rows t v aj i=0:=by grind
       rw [p];grind
     .have hB:ir n rows t v aj j:=⟨o, .inl (by rw [Q];exact B)⟩;have h1:=key hB;have p:=Rat.mul_le_mul_of_nonneg_right h1 (YK B);have h3:=Rat.inv_mul_cancel d (λH=>by rw [H] at B;exact absurd B (by grind));have h4:dc n rows t v aj i * d<=(aN n rows).to (t.st.ah j - n) - t.st.y (t.st.ah j):=by
       rw [Rat.mul_assoc,h3,YN] at p;exact p
      refine⟨by grind,λs=> ?_⟩;have hy0:=q s;have h5:=Yn C (YK B);rw [hy0] at h4⊢;grind
     .rw [B,V8,XV];exact⟨E,q⟩
    .rw [rN t.st (aj:Rat) Z (λ⟨j,a,e⟩=>hub (by rw [<-e];exact jX h.tok.aZ a)),V8,XV];exact⟨E,q⟩
  .have Y:kH ((λu=>nv (aq t.aB u)) v)= (aj:Rat):=hsw.symm;refine⟨hi,e2,e3, ?_,λu hu F=> ?_,P, ?_,λj a hbnj O=> ?_,funext p2,λk r=> ?_⟩
   .have hw1:e9 n rows t.val v (1 * (nv (aq t.aB v)).num.sign)=true:=by rw [Vy,hwv];exact x
    exact(Bj h.tok go.k2 e2 e3).1 hw1
   .intro m;have h1:=e5 u (Xr _) hu (by rw [Vv];exact F);rw [Vv] at h1;have p:=(Bj h.tok go.k2 (by omega) F).2 m;rw [h1] at p;cases p
   .rw [Y];exact l3.2
   .rw [Y] at O⊢;exact l5 j a ⟨hbnj,O⟩
   .rw [Y];exact hy' k r
end
open Go Go.Aev Go.Aev.Gen Go.Aev.Wd Go.Aev.Tb
def dF(n:Nat)(rows:List R):Nat->TL->Option (List Nm)×Option (List Nm)×Bool×TL
 | p,t=>match aV n rows t.val 1 t.aB 0 with
  | none=>(some (t.aB.drop n),none,true,t)
  | some v=>match p with
   | 0=>(none,none,false,t)
   | p+1=>if(bo n rows t v (nv (aq t.aB v)).num.sign).2.2=false then(none,some (jQ n t v (nv (aq t.aB v)).num.sign),true,t)
    else dF n rows p (eX n rows v (nv (aq t.aB v)).num.sign t)
def sE(n:Nat)(rows:List R)(f:Fl)(r:Option (List Nm)×Option (List Nm)×Bool×TL):List T:=fW r.1::fW r.2.1::tb r.2.2.1::rA n rows f r.2.2.2
theorem mM{n:Nat}{rows:List R}{t:TL}(p:Nat)(h:aV n rows t.val 1 t.aB 0=none):dF n rows p t= (some (t.aB.drop n),none,true,t):=by
 cases p with
 | zero=>rw [dF,h]
 | succ p=>rw [dF,h]
theorem ql{n:Nat}{rows:List R}{t:TL}{v:Nat}(h:aV n rows t.val 1 t.aB 0=some v):dF n rows 0 t= (none,none,false,t):=by rw [dF,h]
theorem qf{n:Nat}{rows:List R}{t:TL}(p:Nat){v:Nat}(h:aV n rows t.val 1 t.aB 0=some v)(a:(bo n rows t v (nv (aq t.aB v)).num.sign).2.2=false):
  dF n rows (p+1) t= (none,some (jQ n t v (nv (aq t.aB v)).num.sign),true,t):=by
 rw [dF,h];simp only [a,if_true]
theorem qg{n:Nat}{rows:List R}{t:TL}(p:Nat){v:Nat}(h:aV n rows t.val 1 t.aB 0=some v)(a:(bo n rows t v (nv (aq t.aB v)).num.sign).2.2=true):
  dF n rows (p+1) t=dF n rows p (eX n rows v (nv (aq t.aB v)).num.sign t):=by
 rw [dF,h];simp only [a];rfl
theorem TA{n:Nat}{rows:List R}{gl:List Int}(f:Fl)(j:f.eg=false)(go:iv n rows gl)(g:Bool)(o:List (List T)):∀(p:Nat) (t:TL),p<=100000->fu n rows gl t->
  Or ow [r0,I (p:Int)] (S4 n rows f t g o)=some (sE n rows f (dF n rows p t)):=by
 intro p;induction p using Nat.strongRecOn with
 | _ p r=>
 intro t q h;have m:=go.ro.sz;have e:=h.tok.val go.ro;have c:=h.tok.al go.ro;have l:=h.gq go;have:=Tw (n:=n) (rows:=rows) f t m h.tok.aZ j e c h.len l (λk i d=>h.tok.uT d) g o p q (by omega) (by omega) (λv hv=>h.nb hv)
  (λv aj _ d=>If h.tok.aZ v aj d) (res:=sE n rows f (dF n rows p t)) (by
   cases b:aV n rows t.val 1 t.aB 0 with
   | none=>simp only;rw [mM p b];rfl
   | some v=>
    simp only;cases p with
    | zero=>rw [ql b];rfl
    | succ p=>
     cases a:(bo n rows t v (nv (aq t.aB v)).num.sign).2.2
     .rw [qf p b a];simp only [mL,a,if_true];rfl
     .rw [qg p b a];simp only [mL,a,Bool.true_eq_false,if_false];exact r p (Wl p) _ (by omega) (h.step go b a).1) t.aB 0 rfl rfl
 refine ak ?_;rw [N7];simp only [bH];exact this
theorem Tz{n:Nat}{rows:List R}{gl:List Int}(f:Fl)(c:f.eg=false)(go:iv n rows gl)(d:Bool)(l:List (List T)):∀(p:Nat) (t:TL),p<=100000->fu n rows gl t->
  Or ow [r0,I (p:Int)] (S3 n rows f t d l)=some (sE n rows f (dF n rows p t)):=by
 intro p
 skip
 intro t q h;have o:=go.ro.sz;have j:=h.tok.val go.ro;have e:=h.tok.al go.ro;have m:=h.gq go;have:=Tv (n:=n) (rows:=rows) f t o h.tok.aZ c j e h.len m (λk i g=>h.tok.uT g) d l p q (by omega) (by omega) (λv hv=>h.nb hv)
  (λv aj _ g=>If h.tok.aZ v aj g) (res:=sE n rows f (dF n rows p t)) (by
   cases b:aV n rows t.val 1 t.aB 0 with
   | none=>simp only;rw [mM p b];rfl
   | some v=>
    simp only;cases p with
    | zero=>rw [ql b];rfl
    | succ p=>
     cases a:(bo n rows t v (nv (aq t.aB v)).num.sign).2.2
     .rw [qf p b a];simp only [mL,a,if_true];rfl
     .rw [qg p b a];simp only [mL,a,Bool.true_eq_false,if_false];exact TA f c go d l p _ (by omega) (h.step go b a).1) t.aB 0 rfl rfl
 refine ak ?_;rw [N6];simp only [bH];exact this
theorem Ts{n:Nat}{rows:List R}{gl:List Int}(f:Fl)(go:iv n rows gl)(el:Bool)(p:Nat)(t:TL)(e:p<=100000)(h:b8 n rows t)(a:(aN n rows).tA t.st):
  Or (.call 41) [r0,aa el gl,I (p:Int)] (S1 n rows f t)=
   some (sE n rows ⟨f.er,f.eb,f.ec,f.ev,false⟩ (dF n rows p {t with aB:=ji t gl 0 (List.replicate (n+rows.length) none)})):=by
 have c:=Cg h a go.gl;have b:=Tz (n:=n) (rows:=rows) ⟨f.er,f.eb,f.ec,f.ev,false⟩ rfl go f.eg (aR t.aB) p _ e c;exact Tu (n:=n) (rows:=rows) f t h.aZ go.ro.sz.n go.ro.sz.m (h.al go.ro) (λk i d=>h.uT d) (p:Int) el gl go.gb go.gl (by omega) b
end Go.Aev.Wd.Lg
