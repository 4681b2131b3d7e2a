import Derived.Test.YticjdhgokemdlaaMostSureQ14
set_option linter.all false
namespace Go.Aev.Wd.Lg
open Go Go.Aev Go.Aev.Gen Go.Aev.Wd Go.Aev.Tb Go.IntKind
abbrev S3(n:Nat)(rows:List R)(f:Fl)(t:TL)(a:Bool)(go:List (List T)):List aa:=
 [aa.box [I (n:Int),AV.t (T.ae 3 f.er (cV rows)),AV.own (Id.c 1),AV.own (Id.c 2),AV.own (Id.c 3),AV.own (Id.c 4),AV.own (Id.c 6)],aa.sl false 1 f.eb (cP t.af),aa.mp false [Ck.i .i64] (Ck.i .i64) (bP t.mp),
  aa.rows f.ec 1 0 4 t.aj.length (bE 0 t.aj),aa.sl false 8 f.ev (dF t.val),aa.sl false 4 a go,aa.sl false 4 f.eg (aQ t.aw)]
abbrev S4(n:Nat)(rows:List R)(f:Fl)(t:TL)(a:Bool)(go:List (List T)):List aa:=
 [aa.box [I (n:Int),AV.t (T.ae 3 f.er (cV rows)),AV.own (Id.c 1),AV.own (Id.c 2),AV.own (Id.c 6),AV.own (Id.c 4),AV.own (Id.c 7)],aa.sl false 1 f.eb (cP t.af),aa.mp false [Ck.i .i64] (Ck.i .i64) (bP t.mp),
  aa.dead,aa.sl false 8 f.ev (dF t.val),aa.sl false 4 a go,aa.rows f.ec 1 0 4 t.aj.length (bE 0 t.aj),aa.sl false 4 f.eg (aQ t.aw)]
abbrev Kf(n:Nat)(rows:List R)(f:Fl)(t:TL)(a:Bool)(go:List (List T)):List aa:=
 [aa.box [I (n:Int),AV.t (T.ae 3 f.er (cV rows)),AV.own (Id.c 1),AV.own (Id.c 2),AV.own (Id.c 7),AV.own (Id.c 4),AV.own (Id.c 6)],aa.sl false 1 f.eb (cP t.af),aa.mp false [Ck.i .i64] (Ck.i .i64) (bP t.mp),
  aa.dead,aa.sl false 8 f.ev (dF t.val),aa.sl false 4 a go,aa.sl false 4 f.eg (aQ t.aw),aa.rows f.ec 1 0 4 t.aj.length (bE 0 t.aj)]
def qU(n:Nat)(rows:List R)(f:Fl)(t:TL):List T:=
 [ti (n:Int),T.ae 3 f.er (cV rows),T.aC,T.aC,bI f.ec (bE 0 t.aj),T.aC,T.ae 4 f.eg (aQ t.aw),T.ae 1 f.eb (cP t.af),bK (bP t.mp),T.ae 8 f.ev (dF t.val)]
theorem p5(n:Nat)(rows:List R)(f:Fl)(t:TL):qU n rows f t= [ti (n:Int),T.ae 3 f.er (cV rows),T.aC,T.aC,bI f.ec (bE 0 t.aj),T.aC,T.ae 4 f.eg (aQ t.aw),T.ae 1 f.eb (cP t.af),bK (bP t.mp),T.ae 8 f.ev (dF t.val)]:=rfl
def hH(c:Nm):List Nm->List Nm->List Nm
 | a::d,g::b=>pl g (tm a c)::hH c d b
 | _,b=>b
def iW(t:TL):List Int->Nat->List Nm->List Nm
 | [],_,g=>g
 | c::cs,k,g=>iW t cs (k+1) (match bV k t.mp with
  | some i=>hH (iN c) (au t.aj i) g
  | none=>g.set k (pl (ao g k) (iN c)))
theorem xS(c:Nm):∀(a g:List Nm),(hH c a g).length=g.length
 | [],_=>by simp [hH]
 | _::_,[]=>by simp [hH]
 | a::l,g::r=>by simp [hH,xS c l r]
theorem GA{m k:Nat}{c:Nm}(i:QN 20 c):∀(a g:List Nm),(∀x∈a,QN k x)->(∀x∈g,QN m x)->∀x∈hH c a g,QN (m+ (k+20)+1) x
 | [],g,_,d=>by intro x b;simp [hH] at b;exact(d x b).mono (by omega)
 | _::_,[],_,_=>by intro x b;simp [hH] at b
 | a::l,g::r,e,d=>by
  intro x b;rw [hH] at b;rcases Tg.1 b with rfl | b
  .exact(d g SW).add ((e a SW).mul i)
  .exact GA i l r (λx h=>e x (SY _ h)) (λx h=>d x (SY _ h)) x b
section
variable {n:Nat} {rows:List R} (f:Fl) (t:TL)
theorem R3{mc mg:Nat}(g:cF n rows.length t)(W:n<=12)(hm:rows.length<=40)(L:∀x∈t.aj,∀y∈x,QN mc y)(s:Bool)(go:List (List T))(p:Int){c:Int}(Q: -1000000<=c/\c<=1000000)(el:Bool)(gl:List Int)(k:Nat)(V:k<=1000){i:Nat}(hi:i < rows.length)
  (hs:mg+ (mc+20)+1<=6300) {res:List T} {w:List Nm}
  (q:Or qT [r0,I p,ae el gl,I (gl.length:Int),I ((k+1:Nat):Int)] (S3 n rows f {t with aw:=w} s go)=some res):
  ∀(d a b:List Nm) (j:Nat),(au t.aj i).drop j=d->b.length=j->d.length=a.length->(∀y∈a,QN mg y)->b++hH (iN c) d a=w->
  Or zF [r0,I p,I c,ae el gl,I (gl.length:Int),I (k:Int),AV.row (Id.c 3) i,I ((au t.aj i).length:Int),I (j:Int)] (S3 n rows f {t with aw:=b++a} s go)=some res:=by
 have S:=g.c;have M:=g.row hi;have z:=jx (aj:=t.aj) (i:=i) (by omega);have E:=fy c (by omega);have H:QN 20 (iN c):=dS (by omega);intro d;induction d with
 | nil=>
  intro a b j h m o hy e;have h1:¬(j:Int) < ((au t.aj i).length:Int):=by have:=bF h;omega
  have A:hH (iN c) [] a=a:=rfl;rw [A] at e;refine an ?_;rw [FT];simp only [ak,↓reduceIte,Int.reduceBEq,Int.reduceEq,GD,h1,next k (by omega)];rw [e];exact q
 | cons r d O=>
  intro a b j h m o hy e;obtain⟨v,U,K⟩:=bz h;cases a with
  | nil=>simp at o
  | cons y a=>
   have h1:(j:Int) < ((au t.aj i).length:Int):=by omega
   have C: 0<=(j:Int):=by omega
   have D:(j:Int) < ((b++y::a).length:Int):=by simp;omega
   have B:(b++y::a)[j]? =some y:=by rw [T4 (by omega),m,VF];rfl
   have q1:=L _ (SX (iQ (aj:=t.aj) (i:=i) (by omega))) r (SX v);have P:=hy y SW;have G:=kT q1 H (by omega);have F:=mG (x:=y) (y:=tm r (iN c)) P (q1.mul H) hs;have J:=jQ (l:=b++y::a) (i:=j) (by omega) (pl y (tm r (iN c)));rw [qm _ _ _ _ _ m] at J;have:=O a (b++ [pl y (tm r (iN c))]) (j+1) K (by simp;omega) (by simpa using o) (λu N=>hy u (SY _ N)) (by rw [<-e];simp [hH]);simp only [TN,S7,S8] at this;refine an ?_;rw [FT];simp only [ak,↓reduceIte,Int.reduceBEq,Int.reduceEq,GD,h1,C,D,and_self,z,bA,cg v,cg B,E,G,F,J,next j (by omega)];exact this
theorem R4{mc:Nat}(j:cF n rows.length t)(M:n<=12)(hm:rows.length<=40)(v:∀x∈t.aj,∀y∈x,QN mc y)(F:∀k i,bV k t.mp=some i->i < rows.length)
  (o:Bool) (go:List (List T)) (p:Int) (el:Bool) (gl:List Int) (B:∀c∈gl, -1000000<=c/\c<=1000000) (Q:gl.length<=n) {res:List T}:
  ∀(cs:List Int) (k mg:Nat) (g:List Nm),gl.drop k=cs->g.length=n+rows.length->(∀y∈g,QN mg y)->mg+ (mc+21) * cs.length<=6300->
  Or od [r0,I p] (S3 n rows f {t with aw:=iW t cs k g} o go)=some res->
  Or qT [r0,I p,ae el gl,I (gl.length:Int),I (k:Int)] (S3 n rows f {t with aw:=g} o go)=some res:=by
 have P:=j.c;intro cs;induction cs with
 | nil=>
  intro k mg g h d e hs a;have h1:¬(k:Int) < (gl.length:Int):=by have:=bF h;omega
  refine an ?_;rw [AS];simp only [ak,↓reduceIte,Int.reduceBEq,Int.reduceEq,GD,h1];exact a
 | cons c cs G=>
  intro k mg g h d e hs a;obtain⟨q,S,u⟩:=bz h;have h1:(k:Int) < (gl.length:Int):=by omega
  have m: 0<=(k:Int):=by omega
  have w:=B c (SX q);have s:QN 20 (iN c):=dS (by omega);rw [Tr,WG,Wp] at hs;have b:=tP k t.mp;rw [iW] at a;cases r:bV k t.mp with
  | none=>
   rw [r] at b a;simp only at a;have E:(k:Int) < (g.length:Int):=by omega
   have H:=fy c (by omega);have K:=e _ (SX (gg (l:=g) (i:=k) (by omega)));have J:=mG (x:=ao g k) (y:=iN c) K s (by omega);have O:=jQ (l:=g) (i:=k) (by omega) (pl (ao g k) (iN c));have:=G (k+1) (mg+ (mc+21)) (g.set k (pl (ao g k) (iN c))) u (by rw [TT];exact d) (λy hy=>by
    rcases Ty hy with hy | hy
    .exact(e y hy).mono (by omega)
    .subst hy;exact(K.add s).mono (by omega)) (by omega) a
   refine an ?_;rw [AS];simp only [ak,↓reduceIte,Int.reduceBEq,Int.reduceEq,GD,h1,m,E,and_self,bN,fW q,b,Ww,TS,W6,bA,cg (gg (l:=g) (i:=k) (by omega)),H,J,O,next k (by omega)];exact this
  | some i=>
   rw [r] at b a;simp only at a;have hi:=F k i r;have N:=j.row hi;have D: 0<=(i:Int)/\(i:Int) < (t.aj.length:Int):=by omega
   have C:=kQ (aj:=t.aj) (i:=i) (by omega);have A:=jx (aj:=t.aj) (i:=i) (by omega);have z:=v _ (SX (iQ (aj:=t.aj) (i:=i) (by omega)));have L:=G (k+1) (mg+ (mc+21)) (hH (iN c) (au t.aj i) g) u (by rw [xS];exact d) (λy hy=>(GA s _ _ z e y hy).mono (by omega)) (by omega) a;have:=R3 (n:=n) (rows:=rows) f t j M hm v o go p w el gl k (by omega) hi (mg:=mg) (by omega) L (au t.aj i) g [] 0 rfl rfl (by omega) e rfl;simp only [S8] at this;refine an ?_;rw [AS];simp only [ak,↓reduceIte,Int.reduceBEq,Int.reduceEq,GD,h1,m,and_self,bN,fW q,b,UR,Ts,W7,D,cB,C,A,bA];exact this
theorem R0{mc:Nat}(b:cF n rows.length t)(o:n<=12)(hm:rows.length<=40)(m:∀x∈t.aj,∀y∈x,QN mc y)(j:∀k i,bV k t.mp=some i->i < rows.length)
  (p:Int) (el:Bool) (gl:List Int) (g:∀c∈gl, -1000000<=c/\c<=1000000) (h:gl.length<=n) (hs:(mc+21) * 12<=6300) {res:List T}
  (e:Or od [r0,I p] (S3 n rows ⟨f.er,f.eb,f.ec,f.ev,false⟩ {t with aw:=iW t gl 0 (List.replicate (n+rows.length) none)} f.eg (aQ t.aw))=some res):
  Or (.call 18) [r0,ae el gl,I p] (S1 n rows f t)=some res:=by
 have d:=b.v;have a:=pW (k:=t.val.length) (by omega);have l:((t.val.length:Nat):Int).toNat=t.val.length:=by omega
 have:=R4 (n:=n) (rows:=rows) ⟨f.er,f.eb,f.ec,f.ev,false⟩ t b o hm m j f.eg (aQ t.aw) p el gl g h gl 0 0 (List.replicate (n+rows.length) none) rfl (by simp)
  (λy hy=>by rw [UE hy];exact im _) (by
   have:(mc+21) * gl.length<=(mc+21) * 12:=Nat.mul_le_mul_left _ (by omega);omega) e
 refine an ?_;rw [MG];simp only [ak,↓reduceIte,Int.reduceBEq,Int.reduceEq,GD,cD,a,l,rz,d,bN];rw [d] at a;simp only [ak,↓reduceIte,Int.reduceBEq,Int.reduceEq,GD,a];exact this
end
theorem rr{a:Type}(x y z u v t w s p q:a)(l:List a):(x::y::z::u::v::t::w::s::p::q::l).drop 10=l:=by cases l <;> rfl
def eM(n:Nat)(rows:List R)(v:Nat)(ai:Int)(t:TL):TL:=
 if(bf n rows t v ai).1>=0 then
  eX (bf n rows t v ai).1.toNat v (t.st.af (bf n rows t v ai).1.toNat) (ct (au t.aj (bf n rows t v ai).1.toNat) v (t.st.af (bf n rows t v ai).1.toNat)) false (dG v (fg (bf n rows t v ai).2.1 (iN ai)) t)
 else dG v (fg (bf n rows t v ai).2.1 (iN ai)) t
noncomputable def mD(n:Nat)(rows:List R)(f:Fl)(t:TL)(p:Nat)(a:Bool)(go:List (List T))(v:Nat)(ai:Int):Option (List T):=
 match p with
 | 0=>some (T.aO true::T.aO true::tb false::qU n rows f t)
 | p+1=>if(bf n rows t v ai).2.2=false then some (T.aO true::T.ae 4 false (aQ (je n t v ai))::tb true::qU n rows f t)
  else Or od [r0,I (p:Int)] (S4 n rows f (eM n rows v ai t) a go)
theorem Hb{n:Nat}{rows:List R}{t:TL}{mv mc:Nat}(sz:Sz n rows)(c:cF n rows.length t)(e:∀u,u < n+rows.length->VB mv (aG t.val u))(j:∀x∈t.aj,∀y∈x,QN mc y)
  {v:Nat} (hv:v < n+rows.length) {ai:Int} (k:ai=1\/ai= -1) (q:mv+mc+40<=2000):VB (mv+mc+40) (bf n rows t v ai).2.1:=by
 have g:QN 2 (iN ai):=by rcases k with rfl | rfl <;> exact dS (by decide)
 have o:=xd sz (t:=t) hv (e v hv) g (M:=mv+mc+40) (by omega) (by omega) (-1) (s:=(-1,(none,none),false)) (Db _);have d:∀(bs:List Nat) (xs:List (List Nm)) (i:Nat) (s:LF),(∀b∈bs,b < n+rows.length)->(∀x∈xs,x.length=n+rows.length/\∀y∈x,QN mc y)->VB (mv+mc+40) s.2.1->VB (mv+mc+40) (gH n rows t v ai bs xs i s).2.1:=by
  intro bs;induction bs with
  | nil=>intro xs i s _ _ h;cases xs <;> exact h
  | cons b bs l=>
   intro xs i s hb a h;cases xs with
   | nil=>exact h
   | cons x xs=>rw [gH];obtain⟨w,p⟩:=a x SW;have m:QN mc (ao x v):=p _ (SX (gg (by omega)));exact l xs (i+1) _ (λb h=>hb b (SY _ h)) (λx h=>a x (SY _ h)) (xd sz (hb b SW) (e b (hb b SW)) (m.mul g) (by omega) (by omega) (i:Int) h)
 exact d _ _ _ _ c.lt (λx a=>⟨c.r x a,j x a⟩) o
section
variable {n:Nat} {rows:List R} (f:Fl) (t:TL)
set_option maxRecDepth 20000 in
theorem R1{mv mc:Nat}(sz:Sz n rows)(l:cF n rows.length t)(X:f.eg=false)
  (W:∀u,u < n+rows.length->VB mv (aG t.val u)) (N:∀x∈t.aj,∀y∈x,QN mc y) (hgl:t.aw.length=n+rows.length) (Y:∀y∈t.aw,QN mc y)
  (hln:∀k i,bV k t.mp=some i->i < rows.length) (eo:Bool) (go:List (List T)) (p:Nat) (hp:p<=100000)
  (h1s: 20<=mv) (h2s: 3 * mv+3 * mc+60<=2000)
  (hnb:∀v,nv (ao t.aw v)≠0->v∉t.af)
  (hlim:∀v ai,ai=1\/ai= -1->(bf n rows t v ai).1>=0->(bf n rows t v ai).1.toNat < rows.length/\nv (ao (au t.aj (bf n rows t v ai).1.toNat) v)≠0) {res:List T}
  (d:(match aT n rows t.val 1 t.aw 0 with
   | none=>some (T.ae 4 false (aQ (t.aw.drop n))::T.aO true::tb true::qU n rows f t)
   | some v=>mD n rows f t p eo go v (nv (ao t.aw v)).num.sign)=some res):
  ∀(xs:List Nm) (k:Nat),t.aw.drop k=xs->aT n rows t.val 1 xs k=aT n rows t.val 1 t.aw 0->
  Or oe [r0,I (p:Int),I (-1),I 0,AV.own (Id.c 6),I (t.aw.length:Int),I (k:Int)] (S3 n rows f t eo go)=some res:=by
 have hn:=sz.n;have hm:=sz.m;have hcl:=l.c;have hvl:=l.v;intro xs;induction xs with
 | nil=>
  intro k h O;have h1:¬(k:Int) < (t.aw.length:Int):=by have:=bF h;omega
  have P:aT n rows t.val 1 t.aw 0=none:=by rw [<-O];rfl
  have hin:cT (n:Int) (t.aw.length:Int) (t.aw.length:Int)=some ():=rM (by omega);have hneg:(-1:Int) < 0:=by decide
  have htk:List.take (((t.aw.length:Int)).toNat - ((n:Int)).toNat) (List.drop ((n:Int)).toNat (aQ t.aw))=aQ (t.aw.drop n):=by
   have K:((t.aw.length:Int)).toNat=t.aw.length:=by omega
   have e2:((n:Int)).toNat=n:=by omega
   rw [K,e2,Um (by simp [aQ])];simp [aQ,List.map_drop]
  rw [P] at d;simp only at d;rw [p5] at d;rw [<-d];refine an ?_;rw [pK];simp only [ak,↓reduceIte,Int.reduceBEq,Int.reduceEq,GD,h1,hneg,bA,hin,htk,cu,cA,X]
 | cons x xs ih=>
  intro k h O;obtain⟨B,g2,g3⟩:=bz h;have h1:(k:Int) < (t.aw.length:Int):=by omega
  have z: 0<=(k:Int):=by omega
  have ks:=lf x;have qx:=Y x (SX B);by_cases M:nv x=0
  .have j:=(fO (nv x)).2 M;have D:aT n rows t.val 1 (x::xs) k=aT n rows t.val 1 xs (k+1):=by rw [aT,if_neg (λL=>L.1 M)]
   have:=ih (k+1) g3 (by rw [<-D];exact O);refine an ?_;rw [pK];simp only [bD,ak,↓reduceIte,Int.reduceBEq,Int.reduceEq,GD,h1,z,and_self,bA,cg B,ks,j,next k (by omega)];exact this
  .have j:¬(nv x).num.sign=0:=λL=>M ((fO _).1 L);have C:(!((nv x).num.sign==0))=true:=by simpa using j
   have J:(nv x).num.sign=1\/(nv x).num.sign= -1:=by
    rcases pa (nv x) with e | e | e
    .exact .inl e
    .exact .inr e
    .exact absurd e j
   have U:=y7 sz f.er f.eb f.ev f.eg t.af t.val t.aw hvl W (by omega) (v:=k) (by omega) (nv x).num.sign;by_cases g:eT n rows t.val k (nv x).num.sign=true
   .have D:aT n rows t.val 1 (x::xs) k=some k:=by rw [aT,if_pos ⟨M,by rw [Ur];exact g⟩]
    have P:aT n rows t.val 1 t.aw 0=some k:=by rw [<-O,D]
    have Z:ao t.aw k=x:=by unfold ao;rw [SV,B];rfl
    have hkb:=hnb k (by rw [Z];exact M);have G:¬(k:Int) < 0:=by omega
    rw [P] at d;simp only at d;rw [Z] at d;generalize hwv:(nv x).num.sign=ai at *
    cases p with
    | zero=>have hz:((0:Nat):Int)=0:=rfl;simp only [mD] at d;rw [p5] at d;rw [<-d];refine an ?_;rw [pK];simp only [ak,↓reduceIte,Int.reduceBEq,Int.reduceEq,GD,h1,z,G,hz,and_self,bA,cg B,ks,j,C,U,g,cu,cA]
    | succ p=>
     have hz:¬((p+1:Nat):Int)=0:=by omega
     have hwp:i64.wrap (((p+1:Nat):Int) - 1)= (p:Int):=by rw [Go.Aev.wr (by omega)];omega
     have o:=J3 (n:=n) (rows:=rows) f t sz l W N (v:=k) (by omega) J h1s (by omega);have qL:=Hb (n:=n) (rows:=rows) sz l W N (v:=k) (by omega) J (by omega);rw [dJ,cC] at o;simp only [S7,S8] at o;simp only [mD] at d;cases F:(bf n rows t k ai).2.2
     .rw [if_pos F,p5] at d;rw [F] at o;have k87:=J4 (n:=n) (rows:=rows) f t l hn hm N hln (v:=k) (by omega) J (by omega);rw [dJ] at k87;rw [<-d];refine an ?_;rw [pK];simp only [ak,↓reduceIte,Int.reduceBEq,Int.reduceEq,GD,dB,bX,rr,h1,z,G,hz,and_self,bA,cg B,ks,j,C,U,g,o,k87,dA,cZ,S9,cB,cu,cA]
     .rw [if_neg (by rw [F];decide)] at d;rw [F] at o;have k32:=fy ai (by rcases J with rfl | rfl <;> decide);have qw:QN 2 (iN ai):=by rcases J with rfl | rfl <;> exact dS (by decide)
      have S:=pd (b:=iN ai) qL qw (by omega);have qW:=nD (b:=iN ai) qL qw;have hcx:∀y∈t.aj,QB mc (nv (ao y k)):=λy hy=>N y hy _ (SX (gg (by rw [l.r y hy];omega)));have H:=sG (n:=n) (rows:=rows) f t l (v:=k) (by omega) hm hkb qW hcx (a:=mv) (by omega) W;obtain⟨A,s⟩:∃A,A=dG k (fg (bf n rows t k ai).2.1 (iN ai)) t:=⟨_,rfl⟩;have K:A.aj=t.aj:=by rw [s];rfl
      have e2:A.aw=t.aw:=by rw [s];rfl
      rw [<-s] at H;rw [dJ] at H;rw [cC] at S;by_cases w:(bf n rows t k ai).1>=0
      .obtain⟨hi,Q⟩:=hlim k ai J w;have q:eM n rows k ai t=eX (bf n rows t k ai).1.toNat k (t.st.af (bf n rows t k ai).1.toNat) (ct (au t.aj (bf n rows t k ai).1.toNat) k (t.st.af (bf n rows t k ai).1.toNat)) false A:=by
        unfold eM;rw [if_pos w,s]
       obtain⟨i,hii⟩:∃i:Nat,(bf n rows t k ai).1= (i:Int):=⟨(bf n rows t k ai).1.toNat,by omega⟩;rw [hii] at hi Q q o w;simp only [TB] at hi Q q;have hb1:A.af[i]? =some (t.st.af i):=by rw [s];exact iL (t:=t) (by rw [l.b];exact hi)
       have E:=sH (n:=n) (rows:=rows) f A (by rw [s];exact l.mv _ _) hn hm hi (v:=k) (by omega) hb1 (by rw [K];exact N) (by rw [K];exact Q) (λ_=>by rw [e2];exact⟨hgl,Y⟩) (by omega);rw [K,X] at E;generalize ct (au t.aj i) k (t.st.af i)=row1 at E q;generalize hT2:eX i k (t.st.af i) row1 false A=t2 at E q;rw [q] at d;rw [dJ] at E;refine an ?_;rw [pK];simp only [ak,↓reduceIte,Int.reduceBEq,Int.reduceEq,GD,dB,bX,rr,h1,z,G,hz,hwp,and_self,bA,cg B,ks,j,C,U,g,o,k32,S,H,w,E,dA,cZ,S9,cB];exact d
      .have q:eM n rows k ai t=A:=by unfold eM;rw [if_neg w,s]
       rw [q] at d;refine an ?_;rw [pK];simp only [ak,↓reduceIte,Int.reduceBEq,Int.reduceEq,GD,dB,bX,rr,h1,z,G,hz,hwp,and_self,bA,cg B,ks,j,C,U,g,o,k32,S,H,w,dA,cZ,S9,cB];exact d
   .have D:aT n rows t.val 1 (x::xs) k=aT n rows t.val 1 xs (k+1):=by rw [aT,if_neg (λL=>g (by rw [<-Ur (nv x).num.sign];exact L.2))]
    have V:eT n rows t.val k (nv x).num.sign=false:=by simpa using g
    have:=ih (k+1) g3 (by rw [<-D];exact O);refine an ?_;rw [pK];simp only [ak,↓reduceIte,Int.reduceBEq,Int.reduceEq,GD,h1,z,and_self,bA,cg B,ks,j,C,U,V,next k (by omega)];exact this
end
section
variable {n:Nat} {rows:List R} (f:Fl) (t:TL)
set_option maxRecDepth 20000 in
theorem R2{mv mc:Nat}(sz:Sz n rows)(l:cF n rows.length t)(X:f.eg=false)
  (W:∀u,u < n+rows.length->VB mv (aG t.val u)) (N:∀x∈t.aj,∀y∈x,QN mc y) (hgl:t.aw.length=n+rows.length) (Y:∀y∈t.aw,QN mc y)
  (hln:∀k i,bV k t.mp=some i->i < rows.length) (eo:Bool) (go:List (List T)) (p:Nat) (hp:p<=100000)
  (h1s: 20<=mv) (h2s: 3 * mv+3 * mc+60<=2000)
  (hnb:∀v,nv (ao t.aw v)≠0->v∉t.af)
  (hlim:∀v ai,ai=1\/ai= -1->(bf n rows t v ai).1>=0->(bf n rows t v ai).1.toNat < rows.length/\nv (ao (au t.aj (bf n rows t v ai).1.toNat) v)≠0) {res:List T}
  (d:(match aT n rows t.val 1 t.aw 0 with
   | none=>some (T.ae 4 false (aQ (t.aw.drop n))::T.aO true::tb true::qU n rows f t)
   | some v=>mD n rows f t p eo go v (nv (ao t.aw v)).num.sign)=some res):
  ∀(xs:List Nm) (k:Nat),t.aw.drop k=xs->aT n rows t.val 1 xs k=aT n rows t.val 1 t.aw 0->
  Or oe [r0,I (p:Int),I (-1),I 0,AV.own (Id.c 6),I (t.aw.length:Int),I (k:Int)] (Kf n rows f t eo go)=some res:=by
 have hn:=sz.n;have hm:=sz.m;have hcl:=l.c;have hvl:=l.v;intro xs;induction xs with
 | nil=>
  intro k h O;have h1:¬(k:Int) < (t.aw.length:Int):=by have:=bF h;omega
  have P:aT n rows t.val 1 t.aw 0=none:=by rw [<-O];rfl
  have hin:cT (n:Int) (t.aw.length:Int) (t.aw.length:Int)=some ():=rM (by omega);have hneg:(-1:Int) < 0:=by decide
  have htk:List.take (((t.aw.length:Int)).toNat - ((n:Int)).toNat) (List.drop ((n:Int)).toNat (aQ t.aw))=aQ (t.aw.drop n):=by
   have K:((t.aw.length:Int)).toNat=t.aw.length:=by omega
   have e2:((n:Int)).toNat=n:=by omega
   rw [K,e2,Um (by simp [aQ])];simp [aQ,List.map_drop]
  rw [P] at d;simp only at d;rw [p5] at d;rw [<-d];refine an ?_;rw [pL];simp only [ak,↓reduceIte,Int.reduceBEq,Int.reduceEq,GD,h1,hneg,bA,hin,htk,cu,cA,X]
 | cons x xs ih=>
  intro k h O;obtain⟨B,g2,g3⟩:=bz h;have h1:(k:Int) < (t.aw.length:Int):=by omega
  have z: 0<=(k:Int):=by omega
  have ks:=lf x;have qx:=Y x (SX B);by_cases M:nv x=0
  .have j:=(fO (nv x)).2 M;have D:aT n rows t.val 1 (x::xs) k=aT n rows t.val 1 xs (k+1):=by rw [aT,if_neg (λL=>L.1 M)]
   have:=ih (k+1) g3 (by rw [<-D];exact O);refine an ?_;rw [pL];simp only [bD,ak,↓reduceIte,Int.reduceBEq,Int.reduceEq,GD,h1,z,and_self,bA,cg B,ks,j,next k (by omega)];exact this
  .have j:¬(nv x).num.sign=0:=λL=>M ((fO _).1 L);have C:(!((nv x).num.sign==0))=true:=by simpa using j
   have J:(nv x).num.sign=1\/(nv x).num.sign= -1:=by
    rcases pa (nv x) with e | e | e
    .exact .inl e
    .exact .inr e
    .exact absurd e j
   have U:=y7 sz f.er f.eb f.ev f.eg t.af t.val t.aw hvl W (by omega) (v:=k) (by omega) (nv x).num.sign;by_cases g:eT n rows t.val k (nv x).num.sign=true
   .have D:aT n rows t.val 1 (x::xs) k=some k:=by rw [aT,if_pos ⟨M,by rw [Ur];exact g⟩]
    have P:aT n rows t.val 1 t.aw 0=some k:=by rw [<-O,D]
    have Z:ao t.aw k=x:=by unfold ao;rw [SV,B];rfl
    have hkb:=hnb k (by rw [Z];exact M);have G:¬(k:Int) < 0:=by omega
    rw [P] at d;simp only at d;rw [Z] at d;generalize hwv:(nv x).num.sign=ai at *
    cases p with
    | zero=>have hz:((0:Nat):Int)=0:=rfl;simp only [mD] at d;rw [p5] at d;rw [<-d];refine an ?_;rw [pL];simp only [ak,↓reduceIte,Int.reduceBEq,Int.reduceEq,GD,h1,z,G,hz,and_self,bA,cg B,ks,j,C,U,g,cu,cA]
    | succ p=>
     have hz:¬((p+1:Nat):Int)=0:=by omega
     have hwp:i64.wrap (((p+1:Nat):Int) - 1)= (p:Int):=by rw [Go.Aev.wr (by omega)];omega
     have o:=J3 (n:=n) (rows:=rows) f t sz l W N (v:=k) (by omega) J h1s (by omega);have qL:=Hb (n:=n) (rows:=rows) sz l W N (v:=k) (by omega) J (by omega);rw [dJ,cC] at o;simp only [S7,S8] at o;simp only [mD] at d;cases F:(bf n rows t k ai).2.2
     .rw [if_pos F,p5] at d;rw [F] at o;have k87:=J4 (n:=n) (rows:=rows) f t l hn hm N hln (v:=k) (by omega) J (by omega);rw [dJ] at k87;rw [<-d];refine an ?_;rw [pL];simp only [ak,↓reduceIte,Int.reduceBEq,Int.reduceEq,GD,dB,bX,rr,h1,z,G,hz,and_self,bA,cg B,ks,j,C,U,g,o,k87,dA,cZ,S9,cB,cu,cA]
     .rw [if_neg (by rw [F];decide)] at d;rw [F] at o;have k32:=fy ai (by rcases J with rfl | rfl <;> decide);have qw:QN 2 (iN ai):=by rcases J with rfl | rfl <;> exact dS (by decide)
      have S:=pd (b:=iN ai) qL qw (by omega);have qW:=nD (b:=iN ai) qL qw;have hcx:∀y∈t.aj,QB mc (nv (ao y k)):=λy hy=>N y hy _ (SX (gg (by rw [l.r y hy];omega)));have H:=sG (n:=n) (rows:=rows) f t l (v:=k) (by omega) hm hkb qW hcx (a:=mv) (by omega) W;obtain⟨A,s⟩:∃A,A=dG k (fg (bf n rows t k ai).2.1 (iN ai)) t:=⟨_,rfl⟩;have K:A.aj=t.aj:=by rw [s];rfl
      have e2:A.aw=t.aw:=by rw [s];rfl
      rw [<-s] at H;rw [dJ] at H;rw [cC] at S;by_cases w:(bf n rows t k ai).1>=0
      .obtain⟨hi,Q⟩:=hlim k ai J w;have q:eM n rows k ai t=eX (bf n rows t k ai).1.toNat k (t.st.af (bf n rows t k ai).1.toNat) (ct (au t.aj (bf n rows t k ai).1.toNat) k (t.st.af (bf n rows t k ai).1.toNat)) false A:=by
        unfold eM;rw [if_pos w,s]
       obtain⟨i,hii⟩:∃i:Nat,(bf n rows t k ai).1= (i:Int):=⟨(bf n rows t k ai).1.toNat,by omega⟩;rw [hii] at hi Q q o w;simp only [TB] at hi Q q;have hb1:A.af[i]? =some (t.st.af i):=by rw [s];exact iL (t:=t) (by rw [l.b];exact hi)
       have E:=sH (n:=n) (rows:=rows) f A (by rw [s];exact l.mv _ _) hn hm hi (v:=k) (by omega) hb1 (by rw [K];exact N) (by rw [K];exact Q) (λ_=>by rw [e2];exact⟨hgl,Y⟩) (by omega);rw [K,X] at E;generalize ct (au t.aj i) k (t.st.af i)=row1 at E q;generalize hT2:eX i k (t.st.af i) row1 false A=t2 at E q;rw [q] at d;rw [dJ] at E;refine an ?_;rw [pL];simp only [ak,↓reduceIte,Int.reduceBEq,Int.reduceEq,GD,dB,bX,rr,h1,z,G,hz,hwp,and_self,bA,cg B,ks,j,C,U,g,o,k32,S,H,w,E,dA,cZ,S9,cB];exact d
      .have q:eM n rows k ai t=A:=by unfold eM;rw [if_neg w,s]
       rw [q] at d;refine an ?_;rw [pL];simp only [ak,↓reduceIte,Int.reduceBEq,Int.reduceEq,GD,dB,bX,rr,h1,z,G,hz,hwp,and_self,bA,cg B,ks,j,C,U,g,o,k32,S,H,w,dA,cZ,S9,cB];exact d
   .have D:aT n rows t.val 1 (x::xs) k=aT n rows t.val 1 xs (k+1):=by rw [aT,if_neg (λL=>g (by rw [<-Ur (nv x).num.sign];exact L.2))]
    have V:eT n rows t.val k (nv x).num.sign=false:=by simpa using g
    have:=ih (k+1) g3 (by rw [<-D];exact O);refine an ?_;rw [pL];simp only [ak,↓reduceIte,Int.reduceBEq,Int.reduceEq,GD,h1,z,and_self,bA,cg B,ks,j,C,U,V,next k (by omega)];exact this
end
open Go Go.Aev Go.Aev.Gen Go.Aev.Wd Go.Aev.Tb
def gR(gl:List Int)(k:Nat):Rat:=((gl.getD k 0:Int):Rat)
structure dM (n:Nat) (rows:List R) (gl:List Int) (t:TL):Prop where
 tok:bq n rows t
 len:t.aw.length=n+rows.length
 g:(aI n rows).sT (gR gl) t.st (λv=>nv (ao t.aw v))
 fe:(aI n rows).n6 t.st
structure dY (n:Nat) (rows:List R) (gl:List Int):Prop where
 ro:ef n rows
 k2:∀r∈rows,r.kd≠2
 gb:∀c∈gl, -1000000<=c/\c<=1000000
 gl:gl.length<=n
theorem NO{gl:List Int}(h:∀c∈gl, -1000000<=c/\c<=1000000)(k:Nat):aJ 1000000 (gR gl k):=by
 refine aJ.int ?_;by_cases a:k < gl.length
 .have:=h (gl.getD k 0) (by rw [SV,SZ a];exact UA a);omega
 .rw [SV,TU (by omega)];decide
theorem dM.gq{n:Nat}{rows:List R}{gl:List Int}{t:TL}(go:dY n rows gl)(h:dM n rows gl t):∀y∈t.aw,QN 270 y:=by
 obtain⟨D,h1,a,_,b⟩:=h.tok.den go.ro;intro y hy;obtain⟨v,hv,e⟩:=TY hy;have c:ao t.aw v=y:=by unfold ao;rw [SV,SZ hv];exact e
 have:=b (λv=>nv (ao t.aw v)) (gR gl) h.g.z (λk _=>NO go.gb k) h.g.same v (by rw [<-h.len];exact hv);rw [c] at this;exact wJ h1 a this
theorem dM.nb{n:Nat}{rows:List R}{gl:List Int}{t:TL}(h:dM n rows gl t){v:Nat}(hv:nv (ao t.aw v)≠0):v∉t.af:=by intro hb;obtain⟨j,a,e,_⟩:=lQ h.tok.aW hb;exact hv (by rw [<-e];exact h.g.z j a)
theorem bq.rO{n:Nat}{rows:List R}{t:TL}(h:bq n rows t){k i:Nat}(a:bV k t.mp=some i):i < rows.length:=by
 by_cases b:k∈t.af
 .obtain⟨j,d,_,c⟩:=lQ h.aW b;rw [h.ln j k c] at a;cases a;exact d
 .rw [h.ue k b] at a;cases a
theorem z0{n:Nat}{rows:List R}{t:TL}(h:bq n rows t)(k2:∀r∈rows,r.kd≠2){v:Nat}(hv:v < n+rows.length):t.st.z v=0:=by
 have m:∀u,u < n+rows.length->(∀i,i < rows.length->t.st.af i≠u)->t.st.z u=0:=λu o hb=>by
  have:=congrArg Prod.snd (h.ok.fix u o hb);show(t.st.val u).2=0;rw [this];unfold Sy.fx;show(if u < n then((0:Rat),(0:Rat)) else(aI n rows).up u).2=0;by_cases g:u < n
  .rw [if_pos g]
  .rw [if_neg g];have l:=k2 _ (eG (rows:=rows) (i:=u - n) (by omega));unfold Sy.up;exact if_neg l
 by_cases hb:∃i,i < rows.length/\t.st.af i=v
 .obtain⟨i,hi,e⟩:=hb;have:=(h.ok.wf.same _).2 h.ok.hz i hi;rw [<-e,this];refine jD (λk l=> ?_);by_cases d:∃j,j < rows.length/\t.st.af j=k
  .obtain⟨j,b,a⟩:=d;have hz:t.st.c i k=0:=by rw [<-a];exact h.ok.wf.z i j hi b
   rw [hz,TI]
  .rw [m k l (λj b a=>d ⟨j,b,a⟩),TV]
 .exact m v hv (λj b a=>hb ⟨j,b,a⟩)
theorem Hc{n:Nat}{rows:List R}{t:TL}(d:cF n rows.length t)(v:Nat)(ai:Int)(h:(bf n rows t v ai).1>=0):
  (bf n rows t v ai).1.toNat < rows.length/\nv (ao (au t.aj (bf n rows t v ai).1.toNat) v)≠0:=by
 have q:=d.b;have r:=d.c
 have g:∀(bs:List Nat) (xs:List (List Nm)) (i:Nat) (s:LF),t.af.drop i=bs->t.aj.drop i=xs->(s.1>=0->s.1.toNat < rows.length/\nv (ao (au t.aj s.1.toNat) v)≠0)->
   (gH n rows t v ai bs xs i s).1>=0->(gH n rows t v ai bs xs i s).1.toNat < rows.length/\nv (ao (au t.aj (gH n rows t v ai bs xs i s).1.toNat) v)≠0:=by
  intro bs;induction bs with
  | nil=>intro xs i s _ _ h;cases xs <;> exact h
  | cons b bs m=>
   intro xs i s hb l h;obtain⟨u,w,k⟩:=bz hb;cases xs with
   | nil=>exact h
   | cons x xs=>
    obtain⟨o,x2,p⟩:=bz l;have j:au t.aj i=x:=by have:=iQ (aj:=t.aj) (i:=i) (by omega);rw [o] at this;exact(TE this).symm
    rw [gH];refine m xs (i+1) _ k p ?_;unfold dm;by_cases hz:nv (tm (ao x v) (iN ai))=0\/iM n rows b (tm (ao x v) (iN ai))=false
    .rw [if_pos hz];exact h
    .rw [if_neg hz];split
     .intro _;show((i:Nat):Int).toNat < _/\nv (ao (au t.aj ((i:Nat):Int).toNat) v)≠0;rw [TB,j];refine⟨by omega,λa=>hz (.inl ?_)⟩;rw [HX,a,TI]
     .exact h
 unfold bf at h⊢;refine g _ _ _ _ rfl rfl (λa=> ?_) h;rcases Aq n rows t v (iN ai) (-1) (-1,(none,none),false) with e | e <;> rw [e] at a <;> exact absurd a (by decide)
def gV(n:Nat)(rows:List R)(t:TL)(v:Nat)(ai:Int)(j:Nat):Prop:=
 n<=t.st.af j/\(0 < t.st.c j v * (ai:Rat)\/t.st.c j v * (ai:Rat) < 0/\(aI n rows).kd (t.st.af j - n)=3)
def cX(n:Nat)(rows:List R)(t:TL)(v:Nat)(ai:Int)(j:Nat):Rat:=((aI n rows).to (t.st.af j - n) - t.st.y (t.st.af j)) / (t.st.c j v * (ai:Rat))
theorem DW{n:Nat}{rows:List R}{t:TL}{v:Nat}{ai:Int}{j:Nat}:¬(nv (tm (ao (au t.aj j) v) (iN ai))=0\/iM n rows (t.st.af j) (tm (ao (au t.aj j) v) (iN ai))=false)↔gV n rows t v ai j:=by
 have e:nv (tm (ao (au t.aj j) v) (iN ai))=t.st.c j v * (ai:Rat):=rfl;unfold iM gV;rw [e];by_cases a:t.st.c j v * (ai:Rat) < 0
 .rw [if_pos a];constructor
  .intro h;have i:eV n rows (t.st.af j)=true:=by
    cases hb:eV n rows (t.st.af j)
    .exact absurd (.inr hb) h
    .rfl
   have:=lP.1 i;exact⟨UN this.1, .inr ⟨a,this.2⟩⟩
  .rintro⟨h1,d | ⟨_,d⟩⟩
   .exact absurd a (by grind)
   .rintro(b | b)
    .rw [b] at a;exact absurd a (by grind)
    .rw [lP.2 ⟨Vb.2 h1,d⟩] at b;cases b
 .rw [if_neg a];constructor
  .intro h;have k:t.st.c j v * (ai:Rat)≠0:=λg=>h (.inl g);have hb:¬t.st.af j < n:=λg=>h (.inr (by simp [g]));exact⟨UN hb, .inl (by grind)⟩
  .rintro⟨h1,d | ⟨d,_⟩⟩
   .rintro(b | b)
    .rw [b] at d;exact absurd d (by grind)
    .have:¬t.st.af j < n:=Vb.2 h1;simp [this] at b
   .exact absurd d a
theorem AD{n:Nat}{rows:List R}{t:TL}(h:bq n rows t)(k2:∀r∈rows,r.kd≠2){v:Nat}{ai:Int}{j:Nat}(o:j < rows.length)(hb:gV n rows t v ai j):
  vv (fk n rows t (t.st.af j) (tm (ao (au t.aj j) v) (iN ai)))= (cX n rows t v ai j,0):=by
 have e:nv (tm (ao (au t.aj j) v) (iN ai))=t.st.c j v * (ai:Rat):=rfl;have g:¬t.st.af j < n:=Vb.2 hb.1;have k:t.st.af j < n+rows.length:=h.ok.wf.hb j o;have hz:=z0 h k2 k;have p:=k2 _ (eG (rows:=rows) (i:=t.st.af j - n) (by omega));have l:(aI n rows).up (t.st.af j)= ((aI n rows).to (t.st.af j - n),0):=by unfold Sy.up;refine V9 rfl ?_;exact if_neg p
 have b:vv (lG n rows (t.st.af j) (tm (ao (au t.aj j) v) (iN ai)))= ((aI n rows).to (t.st.af j - n),0):=by
  unfold lG;rw [e,<-l];by_cases a:t.st.c j v * (ai:Rat) < 0
  .rw [if_pos a];rcases hb.2 with d | ⟨_,d⟩
   .exact absurd a (by grind)
   .exact ug (lP.2 ⟨g,d⟩)
  .rw [if_neg a];exact uZ g
 unfold fk;generalize lG n rows (t.st.af j) (tm (ao (au t.aj j) v) (iN ai))=bd at b;have h1:nv bd.1= (aI n rows).to (t.st.af j - n):=congrArg Prod.fst b;have d:nv bd.2=0:=congrArg Prod.snd b;have m:nv (aG t.val (t.st.af j)).2=0:=hz;refine V9 ?_ ?_
 .show(nv bd.1 - t.st.y (t.st.af j)) * (((1:Int):Rat) / (t.st.c j v * (ai:Rat)))=cX n rows t v ai j;unfold cX;rw [h1,TR,TR];have:((1:Int):Rat)=1:=rfl;rw [this];grind
 .show(nv bd.2 - nv (aG t.val (t.st.af j)).2) * (((1:Int):Rat) / (t.st.c j v * (ai:Rat)))=0;rw [d,m];grind
theorem Hd{n:Nat}{rows:List R}{t:TL}(h:bq n rows t)(k2:∀r∈rows,r.kd≠2){v:Nat}{ai:Int}(F:iM n rows v (iN ai)=false):
  ((bf n rows t v ai).2.2=false/\∀j,j < rows.length->¬gV n rows t v ai j)\/
  ∃i,i < rows.length/\(bf n rows t v ai).1= (i:Int)/\(bf n rows t v ai).2.2=true/\gV n rows t v ai i/\(bf n rows t v ai).2.1=fk n rows t (t.st.af i) (tm (ao (au t.aj i) v) (iN ai))/\
   ∀j,j < rows.length->gV n rows t v ai j->cX n rows t v ai i<=cX n rows t v ai j/\(cX n rows t v ai i=cX n rows t v ai j->t.st.af i<=t.st.af j):=by
 have hbl:=h.aW.b;have hcl:=h.aW.c
 have O:∀(bs:List Nat) (xs:List (List Nm)) (k:Nat) (s:LF),t.af.drop k=bs->t.aj.drop k=xs->bs.length=xs.length->k<=rows.length->
   ((s.2.2=false/\∀j,j < k->¬gV n rows t v ai j)\/
    ∃i,i < k/\s.1= (i:Int)/\s.2.2=true/\gV n rows t v ai i/\s.2.1=fk n rows t (t.st.af i) (tm (ao (au t.aj i) v) (iN ai))/\
     ∀j,j < k->gV n rows t v ai j->cX n rows t v ai i<=cX n rows t v ai j/\(cX n rows t v ai i=cX n rows t v ai j->t.st.af i<=t.st.af j))->
   (((gH n rows t v ai bs xs k s).2.2=false/\∀j,j < rows.length->¬gV n rows t v ai j)\/
    ∃i,i < rows.length/\(gH n rows t v ai bs xs k s).1= (i:Int)/\(gH n rows t v ai bs xs k s).2.2=true/\gV n rows t v ai i/\(gH n rows t v ai bs xs k s).2.1=fk n rows t (t.st.af i) (tm (ao (au t.aj i) v) (iN ai))/\
     ∀j,j < rows.length->gV n rows t v ai j->cX n rows t v ai i<=cX n rows t v ai j/\(cX n rows t v ai i=cX n rows t v ai j->t.st.af i<=t.st.af j)):=by
  intro bs;induction bs with
  | nil=>
   intro xs k s hb V N hk E;have T:k=rows.length:=by have:=bF hb;omega
   have U:gH n rows t v ai [] xs k s=s:=by cases xs <;> rfl
   rw [U,<-T];exact E
  | cons b bs ih=>
   intro xs k s hb V N hk E;obtain⟨X,g2,Y⟩:=bz hb;cases xs with
   | nil=>simp at N
   | cons x xs=>
    obtain⟨x1,x2,x3⟩:=bz V;have Q:au t.aj k=x:=by have:=iQ (aj:=t.aj) (i:=k) (by omega);rw [x1] at this;exact(TE this).symm
    have P:t.st.af k=b:=by have:=iL (t:=t) (i:=k) (by omega);rw [X] at this;exact(TE this).symm
    rw [gH,<-Q,<-P];refine ih xs (k+1) _ Y x3 (by simpa using N) (by omega) ?_;by_cases m:gV n rows t v ai k
    .have hz:=DW.2 m;have H:=AD h k2 (by omega) m;have B:dm n rows t (t.st.af k) (tm (ao (au t.aj k) v) (iN ai)) (k:Int) s=if eK n rows t (t.st.af k) (tm (ao (au t.aj k) v) (iN ai)) (k:Int) s then((k:Int),fk n rows t (t.st.af k) (tm (ao (au t.aj k) v) (iN ai)),true) else s:=by
      unfold dm;rw [if_neg hz]
     rw [B];rcases E with⟨M,D⟩ | ⟨i,S,o,p,w,q,y⟩
     .have z:eK n rows t (t.st.af k) (tm (ao (au t.aj k) v) (iN ai)) (k:Int) s:=by
       unfold eK;rw [M];exact .inl (by simp)
      rw [if_pos z];refine .inr ⟨k,by omega,rfl,rfl,m,rfl,λj C g=> ?_⟩;by_cases e:j=k
      .subst e;exact⟨Uc,λ_=>Tl _⟩
      .exact absurd g (D j (by omega))
     .have G:=AD h k2 (by omega) w;have u:eu s.2.1 (fk n rows t (t.st.af k) (tm (ao (au t.aj k) v) (iN ai))) > 0↔cX n rows t v ai k < cX n rows t v ai i:=by
       rw [w7,H,q,G];unfold bW;constructor
       .rintro(h | ⟨_,h⟩)
        .exact h
        .exact absurd h (by grind)
       .intro h;exact .inl h
      have J:eu s.2.1 (fk n rows t (t.st.af k) (tm (ao (au t.aj k) v) (iN ai))) < 0↔cX n rows t v ai i < cX n rows t v ai k:=by
       rw [w9,H,q,G];unfold bW;constructor
       .rintro(h | ⟨_,h⟩)
        .exact h
        .exact absurd h (by grind)
       .intro h;exact .inl h
      have I:eu s.2.1 (fk n rows t (t.st.af k) (tm (ao (au t.aj k) v) (iN ai)))=0↔cX n rows t v ai i=cX n rows t v ai k:=by
       constructor
       .intro K;have a:¬cX n rows t v ai k < cX n rows t v ai i:=λl=>by have:=u.2 l;omega
        have b:¬cX n rows t v ai i < cX n rows t v ai k:=λl=>by have:=J.2 l;omega
        grind
       .intro K;have a:¬eu s.2.1 (fk n rows t (t.st.af k) (tm (ao (au t.aj k) v) (iN ai))) > 0:=λl=>by have:=u.1 l;grind
        have b:¬eu s.2.1 (fk n rows t (t.st.af k) (tm (ao (au t.aj k) v) (iN ai))) < 0:=λl=>by have:=J.1 l;grind
        omega
      by_cases z:eK n rows t (t.st.af k) (tm (ao (au t.aj k) v) (iN ai)) (k:Int) s
      .rw [if_pos z];have d:=z;unfold eK at d;rw [if_pos p,o,TB,u,I] at d;have A:t.af.getD i 0=t.st.af i:=rfl;rw [A] at d;refine .inr ⟨k,by omega,rfl,rfl,m,rfl,λj C g=> ?_⟩;by_cases e:j=k
       .subst e;exact⟨Uc,λ_=>Tl _⟩
       .obtain⟨c1,W⟩:=y j (by omega) g;rcases d with h1 | ⟨h1,_,Z | Z⟩
        .exact⟨by grind,λL=>absurd h1 (by grind)⟩
        .omega
        .exact⟨by grind,λL=>by have:=W (by grind);omega⟩
      .rw [if_neg z];have d:=z;unfold eK at d;rw [if_pos p,o,TB,u,I] at d;have A:t.af.getD i 0=t.st.af i:=rfl;rw [A] at d;refine .inr ⟨i,by omega,o,p,w,q,λj C g=> ?_⟩;by_cases e:j=k
       .subst e;refine⟨Wk.1 λl=>d (.inl l),λL=> ?_⟩;refine UN λl=>d (.inr ⟨L,by omega, .inr (by omega)⟩)
       .exact y j (by omega) g
    .have hz:nv (tm (ao (au t.aj k) v) (iN ai))=0\/iM n rows (t.st.af k) (tm (ao (au t.aj k) v) (iN ai))=false:=UW λl=>m (DW.1 l);have B:dm n rows t (t.st.af k) (tm (ao (au t.aj k) v) (iN ai)) (k:Int) s=s:=by unfold dm;rw [if_pos hz]
     rw [B];rcases E with⟨M,D⟩ | ⟨i,S,o,p,w,q,y⟩
     .refine .inl ⟨M,λj C=> ?_⟩;by_cases e:j=k
      .subst e;exact m
      .exact D j (by omega)
     .refine .inr ⟨i,by omega,o,p,w,q,λj C g=> ?_⟩;by_cases e:j=k
      .subst e;exact absurd g m
      .exact y j (by omega) g
 have K:dm n rows t v (iN ai) (-1) (-1,(none,none),false)= (-1,(none,none),false):=by unfold dm;rw [if_pos (.inr F)]
 unfold bf;rw [K];exact O t.af t.aj 0 _ rfl rfl (by omega) (Vx _) (.inl ⟨rfl,λj C=>by omega⟩)
open Go Go.Aev Go.Aev.Gen Go.Aev.Wd Go.Aev.Tb
theorem Bk(c:Nm):∀(a g:List Nm) (v:Nat),a.length=g.length->nv (ao (hH c a g) v)=nv (ao g v)+nv c * nv (ao a v)
 | [],[],v,_=>by show nv none=nv none+nv c * nv none;rw [rY];grind
 | a::l,g::r,0,_=>by show nv g+nv a * nv c=nv g+nv c * nv a;grind
 | a::l,g::r,v+1,h=>Bk c l r v (by simpa using h)
 | [],_::_,_,h=>by simp at h
 | _::_,[],_,h=>by simp at h
theorem GF{n m:Nat}{t:TL}(a:cF n m t):∀(cs:List Int) (k:Nat) (g:List Nm),(iW t cs k g).length=g.length
 | [],_,_=>rfl
 | c::cs,k,g=>by
  rw [iW,GF a cs];split
  .rw [xS]
  .rw [TT]
theorem Bn{n:Nat}{rows:List R}{t:TL}(h:bq n rows t):∀(cs:List Int) (k:Nat) (g:List Nm),g.length=n+rows.length->k+cs.length<=n->(∀j,j < rows.length->nv (ao g (t.st.af j))=0)->
  (∀j,j < rows.length->nv (ao (iW t cs k g) (t.st.af j))=0)/\
  ∀y,df n rows.length (aI n rows).A y->sm (n+rows.length) (λv=>nv (ao (iW t cs k g) v) * y v)=sm (n+rows.length) (λv=>nv (ao g v) * y v)+sm cs.length (λj=>((cs.getD j 0:Int):Rat) * y (k+j))
 | [],k,g,s,x,hz=>⟨hz,λy hy=>by simp only [iW,T6,sm];grind⟩
 | c::cs,k,g,s,x,hz=>by
  simp only [Tr] at x;have b:∀y:Nat->Rat,sm (cs.length+1) (λj=>(((c::cs).getD j 0:Int):Rat) * y (k+j))= (c:Rat) * y k+sm cs.length (λj=>((cs.getD j 0:Int):Rat) * y (k+1+j)):=by
   intro y;have u:∀(m:Nat) (f:Nat->Rat),sm (m+1) f=f 0+sm m (λj=>f (j+1)):=by
    intro m f;induction m with
    | zero=>simp only [sm];grind
    | succ m D=>rw [sm,D,sm];grind
   rw [u];have e:(λj=>(((c::cs).getD (j+1) 0:Int):Rat) * y (k+ (j+1)))= (λj=>((cs.getD j 0:Int):Rat) * y (k+1+j)):=by funext j;rw [show k+ (j+1)=k+1+j by omega];rfl
   rw [e];rfl
  rw [iW];cases a:bV k t.mp with
  | some i=>
   have hi:=h.rO a;have C:=h.aW.row hi;have w:t.st.af i=k:=by
    by_cases o:k∈t.af
    .obtain⟨j,l,e,r⟩:=lQ h.aW o;rw [h.ln j k r] at a;cases a;exact e
    .rw [h.ue k o] at a;cases a
   simp only;obtain⟨p,q⟩:=Bn h cs (k+1) (hH (iN c) (au t.aj i) g) (by rw [xS];exact s) (by omega) (λj l=>by
    rw [Bk _ _ _ _ (by omega),hz j l];have:nv (ao (au t.aj i) (t.st.af j))=0:=h.ok.wf.z i j hi l;rw [this];grind)
   refine⟨p,λy hy=> ?_⟩;rw [q y hy,Tr,b y];have B:y k=sm (n+rows.length) (λv=>t.st.c i v * y v):=by have:=(h.ok.wf.same y).2 hy i hi;rw [w] at this;exact this
   have e:(λv=>nv (ao (hH (iN c) (au t.aj i) g) v) * y v)= (λv=>1 * (nv (ao g v) * y v)+ (c:Rat) * (t.st.c i v * y v)):=by funext v;rw [Bk _ _ _ _ (by omega)];show(nv (ao g v)+ (c:Rat) * t.st.c i v) * y v=_;grind
   rw [e,ik,<-B];grind
  | none=>
   have o:k∉t.af:=λhb=>by obtain⟨j,l,e,r⟩:=lQ h.aW hb;rw [h.ln j k r] at a;cases a
   simp only;obtain⟨p,q⟩:=Bn h cs (k+1) (g.set k (pl (ao g k) (iN c))) (by rw [TT];exact s) (by omega) (λj l=>by
    rw [uk (by omega),if_neg (λe=>o (by rw [<-e];exact jK h.aW l))];exact hz j l)
   refine⟨p,λy hy=> ?_⟩;rw [q y hy,Tr,b y];have e:sm (n+rows.length) (λv=>nv (ao (g.set k (pl (ao g k) (iN c))) v) * y v)=sm (n+rows.length) (λv=>1 * (nv (ao g v) * y v)+ (c:Rat) * (if v=k then y v else 0)):=by
    refine cf (λv hv=> ?_);rw [uk (by omega)];by_cases d:v=k
    .rw [if_pos d,if_pos d,d];show(nv (ao g k)+ (c:Rat)) * y k=_;grind
    .rw [if_neg d,if_neg d];grind
   rw [e,ik,l0 (by omega) y];grind
theorem bq.aw{n:Nat}{rows:List R}{t:TL}(h:bq n rows t)(g:List Nm):bq n rows {t with aw:=g}:=
 ⟨⟨h.aW.b,h.aW.c,h.aW.r,h.aW.v,h.aW.lt,h.aW.nd⟩,h.ok,h.ln,h.ue,h.ky⟩
theorem xU{n:Nat}{rows:List R}{gl:List Int}{t:TL}(h:bq n rows t)(b:(aI n rows).n6 t.st)(c:gl.length<=n):
  dM n rows gl {t with aw:=iW t gl 0 (List.replicate (n+rows.length) none)}:=by
 have a:∀v,nv (ao (List.replicate (n+rows.length) (none:Nm)) v)=0:=λv=>by unfold ao;rw [SV,UJ];split <;> rfl
 obtain⟨d,e⟩:=Bn h gl 0 (List.replicate (n+rows.length) none) (by simp) (by omega) (λj _=>a _);refine⟨h.aw _, ?_,⟨d,λy hy=> ?_⟩,b⟩
 .show(iW t gl 0 _).length=_;rw [GF h.aW];simp
 .have:=e y hy;show sm (n+rows.length) (λv=>nv (ao (iW t gl 0 (List.replicate (n+rows.length) none)) v) * y v)=sm n (λk=>gR gl k * y k);rw [this,jD (λv _=>by rw [a v];exact TI _),WQ];rw [Jh (n:=gl.length) (N:=n) c (λk g _=>by
   unfold gR;rw [SV,TU (by omega)];show((0:Int):Rat) * _=0;exact TI _)]
  refine cf (λk g=> ?_);rw [TC];rfl
theorem QX{q:Rat}(b:q≠0):((q.num.sign:Int):Rat)=cN q:=by
 unfold cN;have h1:=I8 (w:=1) (.inl rfl) b;have a:(1:Int) * q.num.sign > 0↔0 < q:=by rw [h1.2];have:((1:Int):Rat)=1:=rfl;rw [this,WE]
 rw [Ur] at a;rcases pa q with e | e | e
 .rw [e,if_pos (a.1 (by rw [e];decide))];rfl
 .rw [e,if_neg (λh=>by have:=a.2 h;rw [e] at this;exact absurd this (by decide))];rfl
 .exact absurd ((fO q).1 e) b
theorem sf{q:Rat}(a:q≠0):q.num.sign=1\/q.num.sign= -1:=by
 rcases pa q with e | e | e
 .exact .inl e
 .exact .inr e
 .exact absurd ((fO q).1 e) a
section
variable {n:Nat} {rows:List R} {gl:List Int} {t:TL}
theorem dM.self(go:dY n rows gl)(h:dM n rows gl t){v:Nat}(hv:v < n+rows.length)(g:nv (ao t.aw v)≠0)(a:eT n rows t.val v (nv (ao t.aw v)).num.sign=true):
  iM n rows v (iN (nv (ao t.aw v)).num.sign)=false:=by
 have m:=h.nb g;have c:=h.tok.ok.fix v hv (λi hi e=>m (by rw [<-e];exact jK h.tok.aW hi));have o:=sf g;have p:(nv (ao t.aw v)).num.sign≠0:=by rcases o with e | e <;> rw [e] <;> decide
 rw [Aj t v p] at a;unfold iM;rcases o with e | e
 .rw [e] at a⊢;rw [if_pos (by decide)] at a;have h1:¬nv (iN 1) < 0:=by
   show ¬((1:Int):Rat) < 0;have:((1:Int):Rat)=1:=rfl;rw [this];grind
  rw [if_neg h1];rcases a with b | b
  .have b:v < n:=b;simp [b]
  .by_cases j:v < n
   .simp [j]
   .unfold Sy.fx at c;have d:¬v < (aI n rows).n:=j;rw [if_neg d] at c;rw [c] at b;exact absurd b (pj _)
 .rw [e] at a⊢;rw [if_neg (by decide)] at a;have h1:nv (iN (-1)) < 0:=by
   show((-1:Int):Rat) < 0;have:((-1:Int):Rat)= -1:=rfl;rw [this];grind
  rw [if_pos h1];cases l:eV n rows v
  .rfl
  .have k:=lP.1 l;rcases a with b | b | b
   .exact absurd b k.1
   .exact absurd k.2 b
   .unfold Sy.fx at c;have d:¬v < (aI n rows).n:=k.1;rw [if_neg d] at c;rw [c] at b;exact absurd b (pj _)
theorem Ah(h:bq n rows t)(k2:∀r∈rows,r.kd≠2){u:Nat}(k:u < n+rows.length){q:Rat}(j:q≠0):
  eT n rows t.val u (1 * q.num.sign)=true↔(aI n rows).sN t.st q u:=by
 have h1:=rf (n:=n) (rows:=rows) t (w:=1) (.inl rfl) j (v:=u);have g:((1:Int):Rat) * q=q:=by have:((1:Int):Rat)=1:=rfl;rw [this,WE]
 rw [g] at h1;rw [h1];have hz:=z0 h k2 k;have up:(aI n rows).sP t.st u↔(aI n rows).tf t.st u:=by
  unfold Sy.sP Sy.tf;by_cases b:u < n
  .exact⟨λ_=> .inl b,λ_=> .inl b⟩
  .have d:=k2 _ (eG (rows:=rows) (i:=u - n) (by omega));have c:(aI n rows).up u= ((aI n rows).to (u - n),0):=V9 rfl (if_neg d);rw [c];unfold bW bh.val;rw [hz];constructor
   .rintro(a | a | ⟨_,a⟩)
    .exact .inl a
    .exact .inr a
    .exact absurd a (by grind)
   .rintro(a | a)
    .exact .inl a
    .exact .inr (.inl a)
 have e:(aI n rows).sO t.st u↔(aI n rows).sQ t.st u:=by
  unfold Sy.sO Sy.sQ;by_cases b:u < n
  .exact⟨λ_=> .inl b,λ_=> .inl b⟩
  .have d:=k2 _ (eG (rows:=rows) (i:=u - n) (by omega));have c:(aI n rows).up u= ((aI n rows).to (u - n),0):=V9 rfl (if_neg d);rw [c];unfold bW bh.val;rw [hz];constructor
   .rintro(a | a | a | ⟨_,a⟩)
    .exact .inl a
    .exact .inr (.inl a)
    .exact .inr (.inr a)
    .exact absurd a (by grind)
   .rintro(a | a | a)
    .exact .inl a
    .exact .inr (.inl a)
    .exact .inr (.inr (.inl a))
 unfold Sy.Can Sy.sN;rw [up,e]
theorem dM.step(go:dY n rows gl)(h:dM n rows gl t){v:Nat}(hen:aT n rows t.val 1 t.aw 0=some v)(hfd:(bf n rows t v (nv (ao t.aw v)).num.sign).2.2=true):
  dM n rows gl (eM n rows v (nv (ao t.aw v)).num.sign t)/\∃i,(aI n rows).kD t.st (λu=>nv (ao t.aw u)) (eM n rows v (nv (ao t.aw v)).num.sign t).st i v:=by
 obtain⟨_,m,e3,A,e5⟩:=iB hen;rw [TZ] at e3 A;rw [Ur] at A;rw [TC,h.len] at m;have hself:=h.self go m e3 A;have x:=h.nb e3;have hvB:¬t.st.bG rows.length v:=λ⟨i,hi,e⟩=>x (by rw [<-e];exact jK h.tok.aW hi);have hw:=sf e3;have hsw:=QX e3;generalize hwv:(nv (ao t.aw v)).num.sign=ai at *
 have hwne:(ai:Rat)≠0:=by
  rcases hw with rfl | rfl
  .have:((1:Int):Rat)=1:=rfl;rw [this];grind
  .have:((-1:Int):Rat)= -1:=rfl;rw [this];grind
 rcases Hd h.tok go.k2 (v:=v) (ai:=ai) hself with⟨hf,_⟩ | ⟨i,hi,l1,l2,l3,l4,l5⟩
 .rw [hf] at hfd;cases hfd
 .have hd0:t.st.c i v * (ai:Rat)≠0:=by
   rcases l3.2 with B | ⟨B,_⟩
   .intro I;rw [I] at B;exact absurd B (by grind)
   .intro I;rw [I] at B;exact absurd B (by grind)
  have hc0:nv (ao (au t.aj i) v)≠0:=λI=>hd0 (by
   show nv (ao (au t.aj i) v) * (ai:Rat)=0;rw [I,TI])
  have Q:=l3.1;have O:t.st.af i < n+rows.length:=h.tok.ok.wf.hb i hi;have hg:=iL (t:=t) (i:=i) (by rw [h.tok.aW.b];exact hi);have J:=AD h.tok go.k2 hi l3;rw [<-l4] at J;have U:nv (bf n rows t v ai).2.1.1=cX n rows t v ai i:=congrArg Prod.fst J;have hfz:nv (bf n rows t v ai).2.1.2=0:=congrArg Prod.snd J;have Y:eM n rows v ai t=eX i v (t.st.af i) (ct (au t.aj i) v (t.st.af i)) false (dG v (fg (bf n rows t v ai).2.1 (iN ai)) t):=by unfold eM;rw [l1,if_pos (by omega),TB]
  have s:=go.k2 _ (eG (rows:=rows) (i:=t.st.af i - n) (by omega));have hfx:(aI n rows).fx (t.st.af i)= ((aI n rows).to (t.st.af i - n),0):=by unfold Sy.fx;have hn':¬t.st.af i < (aI n rows).n:=Vb.2 Q;rw [if_neg hn'];unfold Sy.up;refine V9 rfl ?_;exact if_neg s
  have hval:vv (aG (dG v (fg (bf n rows t v ai).2.1 (iN ai)) t).val (t.st.af i))= (aI n rows).fx (t.st.af i):=by
   rw [yf h.tok.aW v _ m x hg,hfx];have hz:=z0 h.tok go.k2 O;refine V9 ?_ ?_
   .show t.st.y (t.st.af i)+nv (bf n rows t v ai).2.1.1 * (ai:Rat) * t.st.c i v= (aI n rows).to (t.st.af i - n);rw [U];unfold cX;rw [TR];have:=VG _ hd0;grind
   .show t.st.z (t.st.af i)+nv (bf n rows t v ai).2.1.2 * (ai:Rat) * t.st.c i v=0;rw [hfz,hz];grind
  obtain⟨p1,p2⟩:=h.tok.Ii (i:=i) (v:=v) (fg (bf n rows t v ai).2.1 (iN ai)) false hi m hc0 hval;have M:(eM n rows v ai t).aw=ji (ct (au t.aj i) v (t.st.af i)) v t.aw:=by rw [Y];rfl
  rw [<-Y] at p1 p2;have L:t.st.af i≠v:=λe=>x (by rw [<-e];exact jK h.tok.aW hi);have hrow:=h.tok.aW.row hi;have hpl:(ct (au t.aj i) v (t.st.af i)).length=n+rows.length:=by unfold ct;simp;exact hrow
  have hpr:∀k,k < n+rows.length->nv (ao (ct (au t.aj i) v (t.st.af i)) k)=gp (t.st.c i) (t.st.af i) v k:=λk s=>Ij (by omega) (by omega) (by omega) L;have V:∀k,k < n+rows.length->nv (ao (eM n rows v ai t).aw k)=ke (gp (t.st.c i) (t.st.af i) v) v (λu=>nv (ao t.aw u)) k:=λk s=>by
   rw [M,JD (by rw [hpl,h.len]) (by rw [h.len];exact m) (by rw [h.len];exact s) (by rw [hpr v m];exact uB L)];unfold ke;by_cases l:k=v
   .rw [if_pos l,if_pos l]
   .rw [if_neg l,if_neg l];show _+ _ * nv (ao (ct (au t.aj i) v (t.st.af i)) k)=_;rw [hpr k s]
  have hy':∀k,k < n+rows.length->(eM n rows v ai t).st.y k=t.st.y k+cX n rows t v ai i * t.st.dir rows.length v (ai:Rat) k:=by
   intro k s;have e:(eM n rows v ai t).st.y k=nv (aG (dG v (fg (bf n rows t v ai).2.1 (iN ai)) t).val k).1:=by rw [Y];rfl
   rw [e];by_cases X:k∈t.af
   .obtain⟨j,a,e,hgj⟩:=lQ h.tok.aW X;have H:t.st.dir rows.length v (ai:Rat) (t.st.af j)=t.st.c j v * (ai:Rat):=ow (S:=aI n rows) h.tok.ok (ai:Rat) a hvB;rw [yf h.tok.aW v _ m x hgj,<-e,H];show t.st.y (t.st.af j)+nv (bf n rows t v ai).2.1.1 * (ai:Rat) * t.st.c j v=_;rw [U];grind
   .rw [BP h.tok.aW v _ m X];by_cases l:k=v
    .rw [if_pos l,l,oz];show t.st.y v+nv (bf n rows t v ai).2.1.1 * (ai:Rat)=_;rw [U]
    .rw [if_neg l,m8 t.st (ai:Rat) l (λ⟨j,a,e⟩=>X (by rw [<-e];exact jK h.tok.aW a)),TV,Wf];rfl
  have D: 0<=cX n rows t v ai i:=by
   obtain⟨F,r⟩:=h.fe _ Q O;unfold cX;refine Iw ?_;rcases l3.2 with B | ⟨_,B⟩
   .refine .inl ⟨B, ?_⟩;have:t.st.y (t.st.af i)<=(aI n rows).to (t.st.af i - n):=F;grind
   .refine .inr ?_;have:t.st.y (t.st.af i)= (aI n rows).to (t.st.af i - n):=r B;grind
  refine⟨⟨p1, ?_,⟨λj a=> ?_,λy hy=> ?_⟩,λu p N=> ?_⟩,i, ?_⟩
  .rw [M,JE];exact h.len
  .have hbj:(eM n rows v ai t).st.af j < n+rows.length:=p1.ok.wf.hb j a;show nv (ao (eM n rows v ai t).aw ((eM n rows v ai t).st.af j))=0;rw [V _ hbj,p2 j];unfold ke fJ;by_cases W:j=i
   .rw [if_pos W,if_pos rfl]
   .rw [if_neg W];have G:t.st.af j≠v:=λe=>x (by rw [<-e];exact jK h.tok.aW a);have hne2:t.st.af j≠t.st.af i:=λe=>W (h.tok.ok.wf.inj j i a hi e);rw [if_neg G];have h1:nv (ao t.aw (t.st.af j))=0:=h.g.z j a;have q:gp (t.st.c i) (t.st.af i) v (t.st.af j)=0:=by
     unfold gp;rw [if_neg hne2,if_neg G,h.tok.ok.wf.z i j hi a,TR];grind
    show nv (ao t.aw (t.st.af j))+nv (ao t.aw v) * gp (t.st.c i) (t.st.af i) v (t.st.af j)=0;rw [h1,q];grind
  .have h1:=h.g.same y hy;show sm (n+rows.length) (λk=>nv (ao (eM n rows v ai t).aw k) * y k)=_;rw [cf (g:=λk=>ke (gp (t.st.c i) (t.st.af i) v) v (λu=>nv (ao t.aw u)) k * y k) (λk s=>by rw [V k s])];rw [Cc m (uB L),Im O m L (h.tok.ok.wf.z i i hi hi) hc0];have q:y (t.st.af i)=sm (n+rows.length) (λk=>t.st.c i k * y k):=(h.tok.ok.wf.same y).2 hy i hi;rw [<-q];have h3:sm (n+rows.length) (λk=>nv (ao t.aw k) * y k)=sm n (λk=>gR gl k * y k):=h1;show _=sm n (λk=>gR gl k * y k);rw [<-h3,TR];grind
  ·
   have p:n<=u:=p;have N:u < n+rows.length:=N;obtain⟨F,r⟩:=h.fe u p N;show(eM n rows v ai t).st.y u<=(aI n rows).to (u - n)/\((aI n rows).kd (u - n)=3->(eM n rows v ai t).st.y u= (aI n rows).to (u - n));have F:t.st.y u<=(aI n rows).to (u - n):=F;have r:(aI n rows).kd (u - n)=3->t.st.y u= (aI n rows).to (u - n):=r;rw [hy' u N];by_cases huv:u=v
   .rw [huv,oz];rw [huv] at F r p;have hwm:ai= -1/\(aI n rows).kd (v - n)≠3:=by
     have E:=h.tok.ok.fix v m (λi hi e=>x (by rw [<-e];exact jK h.tok.aW hi));unfold Sy.fx at E;have K:¬v < (aI n rows).n:=Vb.2 p;rw [if_neg K] at E;have hw0:ai≠0:=by rcases hw with e | e <;> rw [e] <;> decide
     rw [Aj t v hw0] at A;rcases hw with e | e
     .rw [e,if_pos (by decide)] at A;rcases A with o | o
      .exact absurd o K
      .rw [E] at o;exact absurd o (pj _)
     .rw [e,if_neg (by decide)] at A;rcases A with o | o | o
      .exact absurd o K
      .exact⟨e,o⟩
      .rw [E] at o;exact absurd o (pj _)
    refine⟨?_,λw=>absurd w hwm.2⟩;rw [hwm.1];have:((-1:Int):Rat)= -1:=rfl;rw [hwm.1] at D;rw [this];grind
   .by_cases hub:u∈t.af
    .obtain⟨j,a,e,_⟩:=lQ h.tok.aW hub;have H:t.st.dir rows.length v (ai:Rat) (t.st.af j)=t.st.c j v * (ai:Rat):=ow (S:=aI n rows) h.tok.ok (ai:Rat) a hvB;rw [<-e,H];rw [<-e] at F r p;generalize T:t.st.c j v * (ai:Rat)=d;have key:gV n rows t v ai j->cX n rows t v ai i<=((aI n rows).to (t.st.af j - n) - t.st.y (t.st.af j)) * d⁻¹:=λhB=>by
      have:=(l5 j a hB).1;unfold cX at this⊢;rw [TR _ (t.st.c j v * (ai:Rat)),T] at this;exact this
     have htri:d < 0\/0 < d\/d=0:=by grind
     rcases htri with C | C | C
     ·
      constructor
      .have:=Un D (show 0<= -d by grind);grind
      .intro w;have hy0:=r w;have h1:=key ⟨p, .inr ⟨by rw [T];exact C,w⟩⟩;rw [hy0] at h1⊢;have q:cX n rows t v ai i=0:=by grind
       rw [q];grind
     .have hB:gV n rows t v ai j:=⟨p, .inl (by rw [T];exact C)⟩;have h1:=key hB;have q:=V7 h1 (Wg C);have h3:=V5 d (λI=>by rw [I] at C;exact absurd C (by grind));have h4:cX n rows t v ai i * d<=(aI n rows).to (t.st.af j - n) - t.st.y (t.st.af j):=by
       rw [Xe,h3,WH] at q;exact q
      refine⟨by grind,λw=> ?_⟩;have hy0:=r w;have h5:=Un D (Wg C);rw [hy0] at h4⊢;grind
     .rw [C,TV,Wf];exact⟨F,r⟩
    .rw [m8 t.st (ai:Rat) huv (λ⟨j,a,e⟩=>hub (by rw [<-e];exact jK h.tok.aW a)),TV,Wf];exact⟨F,r⟩
  .have Z:cN ((λu=>nv (ao t.aw u)) v)= (ai:Rat):=hsw.symm;refine⟨hi,m,e3, ?_,λu hu G=> ?_,Q, ?_,λj a hbnj P=> ?_,funext p2,λk s=> ?_⟩
   .have hw1:eT n rows t.val v (1 * (nv (ao t.aw v)).num.sign)=true:=by rw [Ur,hwv];exact A
    exact(Ah h.tok go.k2 m e3).1 hw1
   .intro o;have h1:=e5 u (Vx _) hu (by rw [TZ];exact G);rw [TZ] at h1;have q:=(Ah h.tok go.k2 (by omega) G).2 o;rw [h1] at q;cases q
   .rw [Z];exact l3.2
   .rw [Z] at P⊢;exact l5 j a ⟨hbnj,P⟩
   .rw [Z];exact hy' k s
end
open Go Go.Aev Go.Aev.Gen Go.Aev.Wd Go.Aev.Tb
def cI(n:Nat)(rows:List R):Nat->TL->Option (List Nm)×Option (List Nm)×Bool×TL
 | p,t=>match aT n rows t.val 1 t.aw 0 with
  | none=>(some (t.aw.drop n),none,true,t)
  | some v=>match p with
   | 0=>(none,none,false,t)
   | p+1=>if(bf n rows t v (nv (ao t.aw v)).num.sign).2.2=false then(none,some (je n t v (nv (ao t.aw v)).num.sign),true,t)
    else cI n rows p (eM n rows v (nv (ao t.aw v)).num.sign t)
def rU(n:Nat)(rows:List R)(f:Fl)(r:Option (List Nm)×Option (List Nm)×Bool×TL):List T:=eD r.1::eD r.2.1::tb r.2.2.1::qU n rows f r.2.2.2
theorem jX{n:Nat}{rows:List R}{t:TL}(p:Nat)(h:aT n rows t.val 1 t.aw 0=none):cI n rows p t= (some (t.aw.drop n),none,true,t):=by
 cases p with
 | zero=>rw [cI,h]
 | succ p=>rw [cI,h]
theorem oO{n:Nat}{rows:List R}{t:TL}{v:Nat}(h:aT n rows t.val 1 t.aw 0=some v):cI n rows 0 t= (none,none,false,t):=by rw [cI,h]
theorem nE{n:Nat}{rows:List R}{t:TL}(p:Nat){v:Nat}(h:aT n rows t.val 1 t.aw 0=some v)(a:(bf n rows t v (nv (ao t.aw v)).num.sign).2.2=false):
  cI n rows (p+1) t= (none,some (je n t v (nv (ao t.aw v)).num.sign),true,t):=by
 rw [cI,h];simp only [a,if_true]
theorem nF{n:Nat}{rows:List R}{t:TL}(p:Nat){v:Nat}(h:aT n rows t.val 1 t.aw 0=some v)(a:(bf n rows t v (nv (ao t.aw v)).num.sign).2.2=true):
  cI n rows (p+1) t=cI n rows p (eM n rows v (nv (ao t.aw v)).num.sign t):=by
 rw [cI,h];simp only [a];rfl
theorem R6{n:Nat}{rows:List R}{gl:List Int}(f:Fl)(j:f.eg=false)(go:dY n rows gl)(g:Bool)(o:List (List T)):∀(p:Nat) (t:TL),p<=100000->dM n rows gl t->
  Or od [r0,I (p:Int)] (S4 n rows f t g o)=some (rU n rows f (cI n rows p t)):=by
 intro p;induction p using Nat.strongRecOn with
 | _ p r=>
 intro t q h;have m:=go.ro.sz;have e:=h.tok.val go.ro;have c:=h.tok.aj go.ro;have l:=h.gq go;have:=R2 (n:=n) (rows:=rows) f t m h.tok.aW j e c h.len l (λk i d=>h.tok.rO d) g o p q (by omega) (by omega) (λv hv=>h.nb hv)
  (λv ai _ d=>Hc h.tok.aW v ai d) (res:=rU n rows f (cI n rows p t)) (by
   cases b:aT n rows t.val 1 t.aw 0 with
   | none=>simp only;rw [jX p b];rfl
   | some v=>
    simp only;cases p with
    | zero=>rw [oO b];rfl
    | succ p=>
     cases a:(bf n rows t v (nv (ao t.aw v)).num.sign).2.2
     .rw [nE p b a];simp only [mD,a,if_true];rfl
     .rw [nF p b a];simp only [mD,a,Bool.true_eq_false,if_false];exact r p (UM p) _ (by omega) (h.step go b a).1) t.aw 0 rfl rfl
 refine an ?_;rw [MI];simp only [bA];exact this
theorem R5{n:Nat}{rows:List R}{gl:List Int}(f:Fl)(c:f.eg=false)(go:dY n rows gl)(d:Bool)(l:List (List T)):∀(p:Nat) (t:TL),p<=100000->dM n rows gl t->
  Or od [r0,I (p:Int)] (S3 n rows f t d l)=some (rU n rows f (cI n rows p t)):=by
 intro p
 skip
 intro t q h;have o:=go.ro.sz;have j:=h.tok.val go.ro;have e:=h.tok.aj go.ro;have m:=h.gq go;have:=R1 (n:=n) (rows:=rows) f t o h.tok.aW c j e h.len m (λk i g=>h.tok.rO g) d l p q (by omega) (by omega) (λv hv=>h.nb hv)
  (λv ai _ g=>Hc h.tok.aW v ai g) (res:=rU n rows f (cI n rows p t)) (by
   cases b:aT n rows t.val 1 t.aw 0 with
   | none=>simp only;rw [jX p b];rfl
   | some v=>
    simp only;cases p with
    | zero=>rw [oO b];rfl
    | succ p=>
     cases a:(bf n rows t v (nv (ao t.aw v)).num.sign).2.2
     .rw [nE p b a];simp only [mD,a,if_true];rfl
     .rw [nF p b a];simp only [mD,a,Bool.true_eq_false,if_false];exact R6 f c go d l p _ (by omega) (h.step go b a).1) t.aw 0 rfl rfl
 refine an ?_;rw [MH];simp only [bA];exact this
theorem RY{n:Nat}{rows:List R}{gl:List Int}(f:Fl)(go:dY n rows gl)(el:Bool)(p:Nat)(t:TL)(e:p<=100000)(h:bq n rows t)(a:(aI n rows).n6 t.st):
  Or (.call 18) [r0,ae el gl,I (p:Int)] (S1 n rows f t)=
   some (rU n rows ⟨f.er,f.eb,f.ec,f.ev,false⟩ (cI n rows p {t with aw:=iW t gl 0 (List.replicate (n+rows.length) none)})):=by
 have c:=xU h a go.gl;have b:=R5 (n:=n) (rows:=rows) ⟨f.er,f.eb,f.ec,f.ev,false⟩ rfl go f.eg (aQ t.aw) p _ e c;exact R0 (n:=n) (rows:=rows) f t h.aW go.ro.sz.n go.ro.sz.m (h.aj go.ro) (λk i d=>h.rO d) (p:Int) el gl go.gb go.gl (by omega) b
end Go.Aev.Wd.Lg
