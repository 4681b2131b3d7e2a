import Derived.Test.YtgkhhafdkdmlpaaGreatTopMostQ14
set_option linter.all false
namespace Go.Aev.Wd.Lg
open Go Go.Aev Go.Aev.Gen Go.Aev.Wd Go.Aev.Tb Go.IntKind
abbrev S3(n:Nat)(rows:List R)(f:Fl)(t:TL)(a:Bool)(go:List (List T)):List ab:=
 [ab.box [I (n:Int),AV.t (T.ae 3 f.er (bX rows)),AV.own (Id.c 1),AV.own (Id.c 2),AV.own (Id.c 3),AV.own (Id.c 4),AV.own (Id.c 6)],ab.sl false 1 f.eb (cP t.af),ab.mp false [Ck.i .i64] (Ck.i .i64) (bS t.mp),
  ab.rows f.ec 1 0 4 t.aj.length (bB 0 t.aj),ab.sl false 8 f.ev (dB t.val),ab.sl false 4 a go,ab.sl false 4 f.eg (aO t.ax)]
abbrev S4(n:Nat)(rows:List R)(f:Fl)(t:TL)(a:Bool)(go:List (List T)):List ab:=
 [ab.box [I (n:Int),AV.t (T.ae 3 f.er (bX rows)),AV.own (Id.c 1),AV.own (Id.c 2),AV.own (Id.c 6),AV.own (Id.c 4),AV.own (Id.c 7)],ab.sl false 1 f.eb (cP t.af),ab.mp false [Ck.i .i64] (Ck.i .i64) (bS t.mp),
  ab.dead,ab.sl false 8 f.ev (dB t.val),ab.sl false 4 a go,ab.rows f.ec 1 0 4 t.aj.length (bB 0 t.aj),ab.sl false 4 f.eg (aO t.ax)]
abbrev Je(n:Nat)(rows:List R)(f:Fl)(t:TL)(a:Bool)(go:List (List T)):List ab:=
 [ab.box [I (n:Int),AV.t (T.ae 3 f.er (bX rows)),AV.own (Id.c 1),AV.own (Id.c 2),AV.own (Id.c 7),AV.own (Id.c 4),AV.own (Id.c 6)],ab.sl false 1 f.eb (cP t.af),ab.mp false [Ck.i .i64] (Ck.i .i64) (bS t.mp),
  ab.dead,ab.sl false 8 f.ev (dB t.val),ab.sl false 4 a go,ab.sl false 4 f.eg (aO t.ax),ab.rows f.ec 1 0 4 t.aj.length (bB 0 t.aj)]
def qH(n:Nat)(rows:List R)(f:Fl)(t:TL):List T:=
 [ti (n:Int),T.ae 3 f.er (bX rows),T.aD,T.aD,bH f.ec (bB 0 t.aj),T.aD,T.ae 4 f.eg (aO t.ax),T.ae 1 f.eb (cP t.af),bK (bS t.mp),T.ae 8 f.ev (dB t.val)]
theorem pS(n:Nat)(rows:List R)(f:Fl)(t:TL):qH n rows f t= [ti (n:Int),T.ae 3 f.er (bX rows),T.aD,T.aD,bH f.ec (bB 0 t.aj),T.aD,T.ae 4 f.eg (aO t.ax),T.ae 1 f.eb (cP t.af),bK (bS t.mp),T.ae 8 f.ev (dB t.val)]:=rfl
def gW(c:Nm):List Nm->List Nm->List Nm
 | a::d,g::b=>pl g (tm a c)::gW c d b
 | _,b=>b
def iL(t:TL):List Int->Nat->List Nm->List Nm
 | [],_,g=>g
 | c::cs,k,g=>iL t cs (k+1) (match bV k t.mp with
  | some i=>gW (iN c) (au t.aj i) g
  | none=>g.set k (pl (an g k) (iN c)))
theorem xg(c:Nm):∀(a g:List Nm),(gW c a g).length=g.length
 | [],_=>by simp [gW]
 | _::_,[]=>by simp [gW]
 | a::l,g::r=>by simp [gW,xg c l r]
theorem FM{m k:Nat}{c:Nm}(i:QN 20 c):∀(a g:List Nm),(∀x∈a,QN k x)->(∀x∈g,QN m x)->∀x∈gW c a g,QN (m+ (k+20)+1) x
 | [],g,_,d=>by intro x b;simp [gW] at b;exact(d x b).mono (by omega)
 | _::_,[],_,_=>by intro x b;simp [gW] at b
 | a::l,g::r,e,d=>by
  intro x b;rw [gW] at b;rcases RC.1 b with rfl | b
  .exact(d g Rs).add ((e a Rs).mul i)
  .exact FM i l r (λx h=>e x (Ru _ h)) (λx h=>d x (Ru _ h)) x b
section
variable {n:Nat} {rows:List R} (f:Fl) (t:TL)
theorem Qx{mc mg:Nat}(g:cH n rows.length t)(W:n<=12)(hm:rows.length<=40)(L:∀x∈t.aj,∀y∈x,QN mc y)(s:Bool)(go:List (List T))(p:Int){c:Int}(Q: -1000000<=c/\c<=1000000)(el:Bool)(gl:List Int)(k:Nat)(V:k<=1000){i:Nat}(hi:i < rows.length)
  (hs:mg+ (mc+20)+1<=6300) {res:List T} {w:List Nm}
  (q:Or qG [r0,I p,ae el gl,I (gl.length:Int),I ((k+1:Nat):Int)] (S3 n rows f {t with ax:=w} s go)=some res):
  ∀(d a b:List Nm) (j:Nat),(au t.aj i).drop j=d->b.length=j->d.length=a.length->(∀y∈a,QN mg y)->b++gW (iN c) d a=w->
  Or y5 [r0,I p,I c,ae el gl,I (gl.length:Int),I (k:Int),AV.row (Id.c 3) i,I ((au t.aj i).length:Int),I (j:Int)] (S3 n rows f {t with ax:=b++a} s go)=some res:=by
 have S:=g.c;have M:=g.row hi;have z:=ji (aj:=t.aj) (i:=i) (by omega);have E:=fE c (by omega);have H:QN 20 (iN c):=dP (by omega);intro d;induction d with
 | nil=>
  intro a b j h m o hy e;have h1:¬(j:Int) < ((au t.aj i).length:Int):=by have:=bP h;omega
  have A:gW (iN c) [] a=a:=rfl;rw [A] at e;refine ao ?_;rw [E5];simp only [al,↓reduceIte,Int.reduceBEq,Int.reduceEq,GD,h1,next k (by omega)];rw [e];exact q
 | cons r d O=>
  intro a b j h m o hy e;obtain⟨v,U,K⟩:=bG h;cases a with
  | nil=>simp at o
  | cons y a=>
   have h1:(j:Int) < ((au t.aj i).length:Int):=by omega
   have C: 0<=(j:Int):=by omega
   have D:(j:Int) < ((b++y::a).length:Int):=by simp;omega
   have B:(b++y::a)[j]? =some y:=by rw [Sp (by omega),m,TU];rfl
   have q1:=L _ (Rt (iF (aj:=t.aj) (i:=i) (by omega))) r (Rt v);have P:=hy y Rs;have G:=mo q1 H (by omega);have F:=oL (x:=y) (y:=tm r (iN c)) P (q1.mul H) hs;have J:=jA (l:=b++y::a) (i:=j) (by omega) (pl y (tm r (iN c)));rw [pZ _ _ _ _ _ m] at J;have:=O a (b++ [pl y (tm r (iN c))]) (j+1) K (by simp;omega) (by simpa using o) (λu N=>hy u (Ru _ N)) (by rw [<-e];simp [gW]);simp only [R6,Rx,Ry] at this;refine ao ?_;rw [E5];simp only [al,↓reduceIte,Int.reduceBEq,Int.reduceEq,GD,h1,C,D,and_self,z,bA,cg v,cg B,E,G,F,J,next j (by omega)];exact this
theorem Qy{mc:Nat}(j:cH n rows.length t)(M:n<=12)(hm:rows.length<=40)(v:∀x∈t.aj,∀y∈x,QN mc y)(F:∀k i,bV k t.mp=some i->i < rows.length)
  (o:Bool) (go:List (List T)) (p:Int) (el:Bool) (gl:List Int) (B:∀c∈gl, -1000000<=c/\c<=1000000) (Q:gl.length<=n) {res:List T}:
  ∀(cs:List Int) (k mg:Nat) (g:List Nm),gl.drop k=cs->g.length=n+rows.length->(∀y∈g,QN mg y)->mg+ (mc+21) * cs.length<=6300->
  Or nV [r0,I p] (S3 n rows f {t with ax:=iL t cs k g} o go)=some res->
  Or qG [r0,I p,ae el gl,I (gl.length:Int),I (k:Int)] (S3 n rows f {t with ax:=g} o go)=some res:=by
 have P:=j.c;intro cs;induction cs with
 | nil=>
  intro k mg g h d e hs a;have h1:¬(k:Int) < (gl.length:Int):=by have:=bP h;omega
  refine ao ?_;rw [Ae];simp only [al,↓reduceIte,Int.reduceBEq,Int.reduceEq,GD,h1];exact a
 | cons c cs G=>
  intro k mg g h d e hs a;obtain⟨q,S,u⟩:=bG h;have h1:(k:Int) < (gl.length:Int):=by omega
  have m: 0<=(k:Int):=by omega
  have w:=B c (Rt q);have s:QN 20 (iN c):=dP (by omega);rw [RP,U6,UO] at hs;have b:=tw k t.mp;rw [iL] at a;cases r:bV k t.mp with
  | none=>
   rw [r] at b a;simp only at a;have E:(k:Int) < (g.length:Int):=by omega
   have H:=fE c (by omega);have K:=e _ (Rt (fW (l:=g) (i:=k) (by omega)));have J:=oL (x:=an g k) (y:=iN c) K s (by omega);have O:=jA (l:=g) (i:=k) (by omega) (pl (an g k) (iN c));have:=G (k+1) (mg+ (mc+21)) (g.set k (pl (an g k) (iN c))) u (by rw [Sf];exact d) (λy hy=>by
    rcases RV hy with hy | hy
    .exact(e y hy).mono (by omega)
    .subst hy;exact(K.add s).mono (by omega)) (by omega) a
   refine ao ?_;rw [Ae];simp only [al,↓reduceIte,Int.reduceBEq,Int.reduceEq,GD,h1,m,E,and_self,dC,jB q,b,UW,Sd,Vv,bA,cg (fW (l:=g) (i:=k) (by omega)),H,J,O,next k (by omega)];exact this
  | some i=>
   rw [r] at b a;simp only at a;have hi:=F k i r;have N:=j.row hi;have D: 0<=(i:Int)/\(i:Int) < (t.aj.length:Int):=by omega
   have C:=kz (aj:=t.aj) (i:=i) (by omega);have A:=ji (aj:=t.aj) (i:=i) (by omega);have z:=v _ (Rt (iF (aj:=t.aj) (i:=i) (by omega)));have L:=G (k+1) (mg+ (mc+21)) (gW (iN c) (au t.aj i) g) u (by rw [xg];exact d) (λy hy=>(FM s _ _ z e y hy).mono (by omega)) (by omega) a;have:=Qx (n:=n) (rows:=rows) f t j M hm v o go p w el gl k (by omega) hi (mg:=mg) (by omega) L (au t.aj i) g [] 0 rfl rfl (by omega) e rfl;simp only [Ry] at this;refine ao ?_;rw [Ae];simp only [al,↓reduceIte,Int.reduceBEq,Int.reduceEq,GD,h1,m,and_self,dC,jB q,b,Ts,RQ,Vw,D,cU,C,A,bA];exact this
theorem Qu{mc:Nat}(b:cH n rows.length t)(o:n<=12)(hm:rows.length<=40)(m:∀x∈t.aj,∀y∈x,QN mc y)(j:∀k i,bV k t.mp=some i->i < rows.length)
  (p:Int) (el:Bool) (gl:List Int) (g:∀c∈gl, -1000000<=c/\c<=1000000) (h:gl.length<=n) (hs:(mc+21) * 12<=6300) {res:List T}
  (e:Or nV [r0,I p] (S3 n rows ⟨f.er,f.eb,f.ec,f.ev,false⟩ {t with ax:=iL t gl 0 (List.replicate (n+rows.length) none)} f.eg (aO t.ax))=some res):
  Or (.call 15) [r0,ae el gl,I p] (S1 n rows f t)=some res:=by
 have d:=b.v;have a:=pP (k:=t.val.length) (by omega);have l:((t.val.length:Nat):Int).toNat=t.val.length:=by omega
 have:=Qy (n:=n) (rows:=rows) ⟨f.er,f.eb,f.ec,f.ev,false⟩ t b o hm m j f.eg (aO t.ax) p el gl g h gl 0 0 (List.replicate (n+rows.length) none) rfl (by simp)
  (λy hy=>by rw [Te hy];exact hY _) (by
   have:(mc+21) * gl.length<=(mc+21) * 12:=Nat.mul_le_mul_left _ (by omega);omega) e
 refine ao ?_;rw [LB];simp only [al,↓reduceIte,Int.reduceBEq,Int.reduceEq,GD,cJ,a,l,qX,d,dC];rw [d] at a;simp only [al,↓reduceIte,Int.reduceBEq,Int.reduceEq,GD,a];exact this
end
theorem qT{a:Type}(x y z u v t w s p q:a)(l:List a):(x::y::z::u::v::t::w::s::p::q::l).drop 10=l:=by cases l <;> rfl
def eJ(n:Nat)(rows:List R)(v:Nat)(ai:Int)(t:TL):TL:=
 if(bf n rows t v ai).1>=0 then
  eV (bf n rows t v ai).1.toNat v (t.st.af (bf n rows t v ai).1.toNat) (cw (au t.aj (bf n rows t v ai).1.toNat) v (t.st.af (bf n rows t v ai).1.toNat)) false (dE v (fb (bf n rows t v ai).2.1 (iN ai)) t)
 else dE v (fb (bf n rows t v ai).2.1 (iN ai)) t
noncomputable def mj(n:Nat)(rows:List R)(f:Fl)(t:TL)(p:Nat)(a:Bool)(go:List (List T))(v:Nat)(ai:Int):Option (List T):=
 match p with
 | 0=>some (T.aT true::T.aT true::tb false::qH n rows f t)
 | p+1=>if(bf n rows t v ai).2.2=false then some (T.aT true::T.ae 4 false (aO (iU n t v ai))::tb true::qH n rows f t)
  else Or nV [r0,I (p:Int)] (S4 n rows f (eJ n rows v ai t) a go)
theorem Gc{n:Nat}{rows:List R}{t:TL}{mv mc:Nat}(sz:Sz n rows)(c:cH n rows.length t)(e:∀u,u < n+rows.length->VB mv (aH t.val u))(j:∀x∈t.aj,∀y∈x,QN mc y)
  {v:Nat} (hv:v < n+rows.length) {ai:Int} (k:ai=1\/ai= -1) (q:mv+mc+40<=2000):VB (mv+mc+40) (bf n rows t v ai).2.1:=by
 have g:QN 2 (iN ai):=by rcases k with rfl | rfl <;> exact dP (by decide)
 have o:=wo sz (t:=t) hv (e v hv) g (M:=mv+mc+40) (by omega) (by omega) (-1) (s:=(-1,(none,none),false)) (Cu _);have d:∀(bs:List Nat) (xs:List (List Nm)) (i:Nat) (s:LF),(∀b∈bs,b < n+rows.length)->(∀x∈xs,x.length=n+rows.length/\∀y∈x,QN mc y)->VB (mv+mc+40) s.2.1->VB (mv+mc+40) (gB n rows t v ai bs xs i s).2.1:=by
  intro bs;induction bs with
  | nil=>intro xs i s _ _ h;cases xs <;> exact h
  | cons b bs l=>
   intro xs i s hb a h;cases xs with
   | nil=>exact h
   | cons x xs=>rw [gB];obtain⟨w,p⟩:=a x Rs;have m:QN mc (an x v):=p _ (Rt (fW (by omega)));exact l xs (i+1) _ (λb h=>hb b (Ru _ h)) (λx h=>a x (Ru _ h)) (wo sz (hb b Rs) (e b (hb b Rs)) (m.mul g) (by omega) (by omega) (i:Int) h)
 exact d _ _ _ _ c.lt (λx a=>⟨c.r x a,j x a⟩) o
section
variable {n:Nat} {rows:List R} (f:Fl) (t:TL)
set_option maxRecDepth 20000 in
theorem Qv{mv mc:Nat}(sz:Sz n rows)(l:cH n rows.length t)(X:f.eg=false)
  (W:∀u,u < n+rows.length->VB mv (aH t.val u)) (N:∀x∈t.aj,∀y∈x,QN mc y) (hgl:t.ax.length=n+rows.length) (Y:∀y∈t.ax,QN mc y)
  (hln:∀k i,bV k t.mp=some i->i < rows.length) (eo:Bool) (go:List (List T)) (p:Nat) (hp:p<=100000)
  (h1s: 20<=mv) (h2s: 3 * mv+3 * mc+60<=2000)
  (hnb:∀v,nv (an t.ax v)≠0->v∉t.af)
  (hlim:∀v ai,ai=1\/ai= -1->(bf n rows t v ai).1>=0->(bf n rows t v ai).1.toNat < rows.length/\nv (an (au t.aj (bf n rows t v ai).1.toNat) v)≠0) {res:List T}
  (d:(match aR n rows t.val 1 t.ax 0 with
   | none=>some (T.ae 4 false (aO (t.ax.drop n))::T.aT true::tb true::qH n rows f t)
   | some v=>mj n rows f t p eo go v (nv (an t.ax v)).num.sign)=some res):
  ∀(xs:List Nm) (k:Nat),t.ax.drop k=xs->aR n rows t.val 1 xs k=aR n rows t.val 1 t.ax 0->
  Or nW [r0,I (p:Int),I (-1),I 0,AV.own (Id.c 6),I (t.ax.length:Int),I (k:Int)] (S3 n rows f t eo go)=some res:=by
 have hn:=sz.n;have hm:=sz.m;have hcl:=l.c;have hvl:=l.v;intro xs;induction xs with
 | nil=>
  intro k h O;have h1:¬(k:Int) < (t.ax.length:Int):=by have:=bP h;omega
  have P:aR n rows t.val 1 t.ax 0=none:=by rw [<-O];rfl
  have hin:cZ (n:Int) (t.ax.length:Int) (t.ax.length:Int)=some ():=tC (by omega);have hneg:(-1:Int) < 0:=by decide
  have htk:List.take (((t.ax.length:Int)).toNat - ((n:Int)).toNat) (List.drop ((n:Int)).toNat (aO t.ax))=aO (t.ax.drop n):=by
   have K:((t.ax.length:Int)).toNat=t.ax.length:=by omega
   have e2:((n:Int)).toNat=n:=by omega
   rw [K,e2,SM (by simp [aO])];simp [aO,List.map_drop]
  rw [P] at d;simp only at d;rw [pS] at d;rw [<-d];refine ao ?_;rw [pC];simp only [al,↓reduceIte,Int.reduceBEq,Int.reduceEq,GD,h1,hneg,bA,hin,htk,cE,cF,X]
 | cons x xs ih=>
  intro k h O;obtain⟨B,g2,g3⟩:=bG h;have h1:(k:Int) < (t.ax.length:Int):=by omega
  have z: 0<=(k:Int):=by omega
  have ks:=lM x;have qx:=Y x (Rt B);by_cases M:nv x=0
  .have j:=(fK (nv x)).2 M;have D:aR n rows t.val 1 (x::xs) k=aR n rows t.val 1 xs (k+1):=by rw [aR,if_neg (λL=>L.1 M)]
   have:=ih (k+1) g3 (by rw [<-D];exact O);refine ao ?_;rw [pC];simp only [cm,al,↓reduceIte,Int.reduceBEq,Int.reduceEq,GD,h1,z,and_self,bA,cg B,ks,j,next k (by omega)];exact this
  .have j:¬(nv x).num.sign=0:=λL=>M ((fK _).1 L);have C:(!((nv x).num.sign==0))=true:=by simpa using j
   have J:(nv x).num.sign=1\/(nv x).num.sign= -1:=by
    rcases oW (nv x) with e | e | e
    .exact .inl e
    .exact .inr e
    .exact absurd e j
   have U:=yz sz f.er f.eb f.ev f.eg t.af t.val t.ax hvl W (by omega) (v:=k) (by omega) (nv x).num.sign;by_cases g:eP n rows t.val k (nv x).num.sign=true
   .have D:aR n rows t.val 1 (x::xs) k=some k:=by rw [aR,if_pos ⟨M,by rw [SU];exact g⟩]
    have P:aR n rows t.val 1 t.ax 0=some k:=by rw [<-O,D]
    have Z:an t.ax k=x:=by unfold an;rw [Rr,B];rfl
    have hkb:=hnb k (by rw [Z];exact M);have G:¬(k:Int) < 0:=by omega
    rw [P] at d;simp only at d;rw [Z] at d;generalize hwv:(nv x).num.sign=ai at *
    cases p with
    | zero=>have hz:((0:Nat):Int)=0:=rfl;simp only [mj] at d;rw [pS] at d;rw [<-d];refine ao ?_;rw [pC];simp only [al,↓reduceIte,Int.reduceBEq,Int.reduceEq,GD,h1,z,G,hz,and_self,bA,cg B,ks,j,C,U,g,cE,cF]
    | succ p=>
     have hz:¬((p+1:Nat):Int)=0:=by omega
     have hwp:i64.wrap (((p+1:Nat):Int) - 1)= (p:Int):=by rw [Go.Aev.wr (by omega)];omega
     have o:=I1 (n:=n) (rows:=rows) f t sz l W N (v:=k) (by omega) J h1s (by omega);have qL:=Gc (n:=n) (rows:=rows) sz l W N (v:=k) (by omega) J (by omega);rw [ei,cD] at o;simp only [Rx,Ry] at o;simp only [mj] at d;cases F:(bf n rows t k ai).2.2
     .rw [if_pos F,pS] at d;rw [F] at o;have k87:=I2 (n:=n) (rows:=rows) f t l hn hm N hln (v:=k) (by omega) J (by omega);rw [ei] at k87;rw [<-d];refine ao ?_;rw [pC];simp only [al,↓reduceIte,Int.reduceBEq,Int.reduceEq,GD,eI,bW,qT,h1,z,G,hz,and_self,bA,cg B,ks,j,C,U,g,o,k87,eH,dZ,RA,cU,cE,cF]
     .rw [if_neg (by rw [F];decide)] at d;rw [F] at o;have k32:=fE ai (by rcases J with rfl | rfl <;> decide);have qw:QN 2 (iN ai):=by rcases J with rfl | rfl <;> exact dP (by decide)
      have S:=o4 (b:=iN ai) qL qw (by omega);have qW:=m9 (b:=iN ai) qL qw;have hcx:∀y∈t.aj,QB mc (nv (an y k)):=λy hy=>N y hy _ (Rt (fW (by rw [l.r y hy];omega)));have H:=sb (n:=n) (rows:=rows) f t l (v:=k) (by omega) hm hkb qW hcx (a:=mv) (by omega) W;obtain⟨A,s⟩:∃A,A=dE k (fb (bf n rows t k ai).2.1 (iN ai)) t:=⟨_,rfl⟩;have K:A.aj=t.aj:=by rw [s];rfl
      have e2:A.ax=t.ax:=by rw [s];rfl
      rw [<-s] at H;rw [ei] at H;rw [cD] at S;by_cases w:(bf n rows t k ai).1>=0
      .obtain⟨hi,Q⟩:=hlim k ai J w;have q:eJ n rows k ai t=eV (bf n rows t k ai).1.toNat k (t.st.af (bf n rows t k ai).1.toNat) (cw (au t.aj (bf n rows t k ai).1.toNat) k (t.st.af (bf n rows t k ai).1.toNat)) false A:=by
        unfold eJ;rw [if_pos w,s]
       obtain⟨i,hii⟩:∃i:Nat,(bf n rows t k ai).1= (i:Int):=⟨(bf n rows t k ai).1.toNat,by omega⟩;rw [hii] at hi Q q o w;simp only [R5] at hi Q q;have hb1:A.af[i]? =some (t.st.af i):=by rw [s];exact iB (t:=t) (by rw [l.b];exact hi)
       have E:=sc (n:=n) (rows:=rows) f A (by rw [s];exact l.mv _ _) hn hm hi (v:=k) (by omega) hb1 (by rw [K];exact N) (by rw [K];exact Q) (λ_=>by rw [e2];exact⟨hgl,Y⟩) (by omega);rw [K,X] at E;generalize cw (au t.aj i) k (t.st.af i)=row1 at E q;generalize hT2:eV i k (t.st.af i) row1 false A=t2 at E q;rw [q] at d;rw [ei] at E;refine ao ?_;rw [pC];simp only [al,↓reduceIte,Int.reduceBEq,Int.reduceEq,GD,eI,bW,qT,h1,z,G,hz,hwp,and_self,bA,cg B,ks,j,C,U,g,o,k32,S,H,w,E,eH,dZ,RA,cU];exact d
      .have q:eJ n rows k ai t=A:=by unfold eJ;rw [if_neg w,s]
       rw [q] at d;refine ao ?_;rw [pC];simp only [al,↓reduceIte,Int.reduceBEq,Int.reduceEq,GD,eI,bW,qT,h1,z,G,hz,hwp,and_self,bA,cg B,ks,j,C,U,g,o,k32,S,H,w,eH,dZ,RA,cU];exact d
   .have D:aR n rows t.val 1 (x::xs) k=aR n rows t.val 1 xs (k+1):=by rw [aR,if_neg (λL=>g (by rw [<-SU (nv x).num.sign];exact L.2))]
    have V:eP n rows t.val k (nv x).num.sign=false:=by simpa using g
    have:=ih (k+1) g3 (by rw [<-D];exact O);refine ao ?_;rw [pC];simp only [al,↓reduceIte,Int.reduceBEq,Int.reduceEq,GD,h1,z,and_self,bA,cg B,ks,j,C,U,V,next k (by omega)];exact this
end
section
variable {n:Nat} {rows:List R} (f:Fl) (t:TL)
set_option maxRecDepth 20000 in
theorem Qw{mv mc:Nat}(sz:Sz n rows)(l:cH n rows.length t)(X:f.eg=false)
  (W:∀u,u < n+rows.length->VB mv (aH t.val u)) (N:∀x∈t.aj,∀y∈x,QN mc y) (hgl:t.ax.length=n+rows.length) (Y:∀y∈t.ax,QN mc y)
  (hln:∀k i,bV k t.mp=some i->i < rows.length) (eo:Bool) (go:List (List T)) (p:Nat) (hp:p<=100000)
  (h1s: 20<=mv) (h2s: 3 * mv+3 * mc+60<=2000)
  (hnb:∀v,nv (an t.ax v)≠0->v∉t.af)
  (hlim:∀v ai,ai=1\/ai= -1->(bf n rows t v ai).1>=0->(bf n rows t v ai).1.toNat < rows.length/\nv (an (au t.aj (bf n rows t v ai).1.toNat) v)≠0) {res:List T}
  (d:(match aR n rows t.val 1 t.ax 0 with
   | none=>some (T.ae 4 false (aO (t.ax.drop n))::T.aT true::tb true::qH n rows f t)
   | some v=>mj n rows f t p eo go v (nv (an t.ax v)).num.sign)=some res):
  ∀(xs:List Nm) (k:Nat),t.ax.drop k=xs->aR n rows t.val 1 xs k=aR n rows t.val 1 t.ax 0->
  Or nW [r0,I (p:Int),I (-1),I 0,AV.own (Id.c 6),I (t.ax.length:Int),I (k:Int)] (Je n rows f t eo go)=some res:=by
 have hn:=sz.n;have hm:=sz.m;have hcl:=l.c;have hvl:=l.v;intro xs;induction xs with
 | nil=>
  intro k h O;have h1:¬(k:Int) < (t.ax.length:Int):=by have:=bP h;omega
  have P:aR n rows t.val 1 t.ax 0=none:=by rw [<-O];rfl
  have hin:cZ (n:Int) (t.ax.length:Int) (t.ax.length:Int)=some ():=tC (by omega);have hneg:(-1:Int) < 0:=by decide
  have htk:List.take (((t.ax.length:Int)).toNat - ((n:Int)).toNat) (List.drop ((n:Int)).toNat (aO t.ax))=aO (t.ax.drop n):=by
   have K:((t.ax.length:Int)).toNat=t.ax.length:=by omega
   have e2:((n:Int)).toNat=n:=by omega
   rw [K,e2,SM (by simp [aO])];simp [aO,List.map_drop]
  rw [P] at d;simp only at d;rw [pS] at d;rw [<-d];refine ao ?_;rw [pD];simp only [al,↓reduceIte,Int.reduceBEq,Int.reduceEq,GD,h1,hneg,bA,hin,htk,cE,cF,X]
 | cons x xs ih=>
  intro k h O;obtain⟨B,g2,g3⟩:=bG h;have h1:(k:Int) < (t.ax.length:Int):=by omega
  have z: 0<=(k:Int):=by omega
  have ks:=lM x;have qx:=Y x (Rt B);by_cases M:nv x=0
  .have j:=(fK (nv x)).2 M;have D:aR n rows t.val 1 (x::xs) k=aR n rows t.val 1 xs (k+1):=by rw [aR,if_neg (λL=>L.1 M)]
   have:=ih (k+1) g3 (by rw [<-D];exact O);refine ao ?_;rw [pD];simp only [cm,al,↓reduceIte,Int.reduceBEq,Int.reduceEq,GD,h1,z,and_self,bA,cg B,ks,j,next k (by omega)];exact this
  .have j:¬(nv x).num.sign=0:=λL=>M ((fK _).1 L);have C:(!((nv x).num.sign==0))=true:=by simpa using j
   have J:(nv x).num.sign=1\/(nv x).num.sign= -1:=by
    rcases oW (nv x) with e | e | e
    .exact .inl e
    .exact .inr e
    .exact absurd e j
   have U:=yz sz f.er f.eb f.ev f.eg t.af t.val t.ax hvl W (by omega) (v:=k) (by omega) (nv x).num.sign;by_cases g:eP n rows t.val k (nv x).num.sign=true
   .have D:aR n rows t.val 1 (x::xs) k=some k:=by rw [aR,if_pos ⟨M,by rw [SU];exact g⟩]
    have P:aR n rows t.val 1 t.ax 0=some k:=by rw [<-O,D]
    have Z:an t.ax k=x:=by unfold an;rw [Rr,B];rfl
    have hkb:=hnb k (by rw [Z];exact M);have G:¬(k:Int) < 0:=by omega
    rw [P] at d;simp only at d;rw [Z] at d;generalize hwv:(nv x).num.sign=ai at *
    cases p with
    | zero=>have hz:((0:Nat):Int)=0:=rfl;simp only [mj] at d;rw [pS] at d;rw [<-d];refine ao ?_;rw [pD];simp only [al,↓reduceIte,Int.reduceBEq,Int.reduceEq,GD,h1,z,G,hz,and_self,bA,cg B,ks,j,C,U,g,cE,cF]
    | succ p=>
     have hz:¬((p+1:Nat):Int)=0:=by omega
     have hwp:i64.wrap (((p+1:Nat):Int) - 1)= (p:Int):=by rw [Go.Aev.wr (by omega)];omega
     have o:=I1 (n:=n) (rows:=rows) f t sz l W N (v:=k) (by omega) J h1s (by omega);have qL:=Gc (n:=n) (rows:=rows) sz l W N (v:=k) (by omega) J (by omega);rw [ei,cD] at o;simp only [Rx,Ry] at o;simp only [mj] at d;cases F:(bf n rows t k ai).2.2
     .rw [if_pos F,pS] at d;rw [F] at o;have k87:=I2 (n:=n) (rows:=rows) f t l hn hm N hln (v:=k) (by omega) J (by omega);rw [ei] at k87;rw [<-d];refine ao ?_;rw [pD];simp only [al,↓reduceIte,Int.reduceBEq,Int.reduceEq,GD,eI,bW,qT,h1,z,G,hz,and_self,bA,cg B,ks,j,C,U,g,o,k87,eH,dZ,RA,cU,cE,cF]
     .rw [if_neg (by rw [F];decide)] at d;rw [F] at o;have k32:=fE ai (by rcases J with rfl | rfl <;> decide);have qw:QN 2 (iN ai):=by rcases J with rfl | rfl <;> exact dP (by decide)
      have S:=o4 (b:=iN ai) qL qw (by omega);have qW:=m9 (b:=iN ai) qL qw;have hcx:∀y∈t.aj,QB mc (nv (an y k)):=λy hy=>N y hy _ (Rt (fW (by rw [l.r y hy];omega)));have H:=sb (n:=n) (rows:=rows) f t l (v:=k) (by omega) hm hkb qW hcx (a:=mv) (by omega) W;obtain⟨A,s⟩:∃A,A=dE k (fb (bf n rows t k ai).2.1 (iN ai)) t:=⟨_,rfl⟩;have K:A.aj=t.aj:=by rw [s];rfl
      have e2:A.ax=t.ax:=by rw [s];rfl
      rw [<-s] at H;rw [ei] at H;rw [cD] at S;by_cases w:(bf n rows t k ai).1>=0
      .obtain⟨hi,Q⟩:=hlim k ai J w;have q:eJ n rows k ai t=eV (bf n rows t k ai).1.toNat k (t.st.af (bf n rows t k ai).1.toNat) (cw (au t.aj (bf n rows t k ai).1.toNat) k (t.st.af (bf n rows t k ai).1.toNat)) false A:=by
        unfold eJ;rw [if_pos w,s]
       obtain⟨i,hii⟩:∃i:Nat,(bf n rows t k ai).1= (i:Int):=⟨(bf n rows t k ai).1.toNat,by omega⟩;rw [hii] at hi Q q o w;simp only [R5] at hi Q q;have hb1:A.af[i]? =some (t.st.af i):=by rw [s];exact iB (t:=t) (by rw [l.b];exact hi)
       have E:=sc (n:=n) (rows:=rows) f A (by rw [s];exact l.mv _ _) hn hm hi (v:=k) (by omega) hb1 (by rw [K];exact N) (by rw [K];exact Q) (λ_=>by rw [e2];exact⟨hgl,Y⟩) (by omega);rw [K,X] at E;generalize cw (au t.aj i) k (t.st.af i)=row1 at E q;generalize hT2:eV i k (t.st.af i) row1 false A=t2 at E q;rw [q] at d;rw [ei] at E;refine ao ?_;rw [pD];simp only [al,↓reduceIte,Int.reduceBEq,Int.reduceEq,GD,eI,bW,qT,h1,z,G,hz,hwp,and_self,bA,cg B,ks,j,C,U,g,o,k32,S,H,w,E,eH,dZ,RA,cU];exact d
      .have q:eJ n rows k ai t=A:=by unfold eJ;rw [if_neg w,s]
       rw [q] at d;refine ao ?_;rw [pD];simp only [al,↓reduceIte,Int.reduceBEq,Int.reduceEq,GD,eI,bW,qT,h1,z,G,hz,hwp,and_self,bA,cg B,ks,j,C,U,g,o,k32,S,H,w,eH,dZ,RA,cU];exact d
   .have D:aR n rows t.val 1 (x::xs) k=aR n rows t.val 1 xs (k+1):=by rw [aR,if_neg (λL=>g (by rw [<-SU (nv x).num.sign];exact L.2))]
    have V:eP n rows t.val k (nv x).num.sign=false:=by simpa using g
    have:=ih (k+1) g3 (by rw [<-D];exact O);refine ao ?_;rw [pD];simp only [al,↓reduceIte,Int.reduceBEq,Int.reduceEq,GD,h1,z,and_self,bA,cg B,ks,j,C,U,V,next k (by omega)];exact this
end
open Go Go.Aev Go.Aev.Gen Go.Aev.Wd Go.Aev.Tb Go.IntKind
def gR(gl:List Int)(k:Nat):Rat:=((gl.getD k 0:Int):Rat)
structure dS (n:Nat) (rows:List R) (gl:List Int) (t:TL):Prop where
 tok:bC n rows t
 len:t.ax.length=n+rows.length
 g:(aI n rows).sB (gR gl) t.st (λv=>nv (an t.ax v))
 fe:(aI n rows).nP t.st
structure eC (n:Nat) (rows:List R) (gl:List Int):Prop where
 ro:fv n rows
 k2:∀r∈rows,r.kd≠2
 gb:∀c∈gl, -1000000<=c/\c<=1000000
 gl:gl.length<=n
theorem ME{gl:List Int}(h:∀c∈gl, -1000000<=c/\c<=1000000)(k:Nat):aQ 1000000 (gR gl k):=by
 refine aQ.int ?_;by_cases a:k < gl.length
 .have:=h (gl.getD k 0) (by rw [Rr,Rv a];exact S9 a);omega
 .rw [Rr,Sh (by omega)];decide
theorem dS.gq{n:Nat}{rows:List R}{gl:List Int}{t:TL}(go:eC n rows gl)(h:dS n rows gl t):∀y∈t.ax,QN 270 y:=by
 obtain⟨D,h1,a,_,b⟩:=h.tok.den go.ro;intro y hy;obtain⟨v,hv,e⟩:=SF hy;have c:an t.ax v=y:=by unfold an;rw [Rr,Rv hv];exact e
 have:=b (λv=>nv (an t.ax v)) (gR gl) h.g.z (λk _=>ME go.gb k) h.g.same v (by rw [<-h.len];exact hv);rw [c] at this;exact vO h1 a this
theorem dS.nb{n:Nat}{rows:List R}{gl:List Int}{t:TL}(h:dS n rows gl t){v:Nat}(hv:nv (an t.ax v)≠0):v∉t.af:=by intro hb;obtain⟨j,a,e,_⟩:=lp h.tok.aX hb;exact hv (by rw [<-e];exact h.g.z j a)
theorem bC.rA{n:Nat}{rows:List R}{t:TL}(h:bC n rows t){k i:Nat}(a:bV k t.mp=some i):i < rows.length:=by
 by_cases b:k∈t.af
 .obtain⟨j,d,_,c⟩:=lp h.aX b;rw [h.ln j k c] at a;cases a;exact d
 .rw [h.tJ k b] at a;cases a
theorem z0{n:Nat}{rows:List R}{t:TL}(h:bC n rows t)(k2:∀r∈rows,r.kd≠2){v:Nat}(hv:v < n+rows.length):t.st.z v=0:=by
 have m:∀u,u < n+rows.length->(∀i,i < rows.length->t.st.af i≠u)->t.st.z u=0:=λu o hb=>by
  have:=congrArg Prod.snd (h.ok.fix u o hb);show(t.st.val u).2=0;rw [this];unfold Sy.fx;show(if u < n then((0:Rat),(0:Rat)) else(aI n rows).up u).2=0;by_cases g:u < n
  .rw [if_pos g]
  .rw [if_neg g];have l:=k2 _ (gF (rows:=rows) (i:=u - n) (by omega));unfold Sy.up;exact if_neg l
 by_cases hb:∃i,i < rows.length/\t.st.af i=v
 .obtain⟨i,hi,e⟩:=hb;have:=(h.ok.wf.same _).2 h.ok.hz i hi;rw [<-e,this];refine lJ (λk l=> ?_);by_cases d:∃j,j < rows.length/\t.st.af j=k
  .obtain⟨j,b,a⟩:=d;have hz:t.st.c i k=0:=by rw [<-a];exact h.ok.wf.z i j hi b
   rw [hz,Se]
  .rw [m k l (λj b a=>d ⟨j,b,a⟩),SG]
 .exact m v hv (λj b a=>hb ⟨j,b,a⟩)
theorem Gd{n:Nat}{rows:List R}{t:TL}(d:cH n rows.length t)(v:Nat)(ai:Int)(h:(bf n rows t v ai).1>=0):
  (bf n rows t v ai).1.toNat < rows.length/\nv (an (au t.aj (bf n rows t v ai).1.toNat) v)≠0:=by
 have q:=d.b;have r:=d.c
 have g:∀(bs:List Nat) (xs:List (List Nm)) (i:Nat) (s:LF),t.af.drop i=bs->t.aj.drop i=xs->(s.1>=0->s.1.toNat < rows.length/\nv (an (au t.aj s.1.toNat) v)≠0)->
   (gB n rows t v ai bs xs i s).1>=0->(gB n rows t v ai bs xs i s).1.toNat < rows.length/\nv (an (au t.aj (gB n rows t v ai bs xs i s).1.toNat) v)≠0:=by
  intro bs;induction bs with
  | nil=>intro xs i s _ _ h;cases xs <;> exact h
  | cons b bs m=>
   intro xs i s hb l h;obtain⟨u,w,k⟩:=bG hb;cases xs with
   | nil=>exact h
   | cons x xs=>
    obtain⟨o,x2,p⟩:=bG l;have j:au t.aj i=x:=by have:=iF (aj:=t.aj) (i:=i) (by omega);rw [o] at this;exact(R1 this).symm
    rw [gB];refine m xs (i+1) _ k p ?_;unfold dh;by_cases hz:nv (tm (an x v) (iN ai))=0\/iC n rows b (tm (an x v) (iN ai))=false
    .rw [if_pos hz];exact h
    .rw [if_neg hz];split
     .intro _;show((i:Nat):Int).toNat < _/\nv (an (au t.aj ((i:Nat):Int).toNat) v)≠0;rw [R5,j];refine⟨by omega,λa=>hz (.inl ?_)⟩;rw [Hb,a,Se]
     .exact h
 unfold bf at h⊢;refine g _ _ _ _ rfl rfl (λa=> ?_) h;rcases zN n rows t v (iN ai) (-1) (-1,(none,none),false) with e | e <;> rw [e] at a <;> exact absurd a (by decide)
def gQ(n:Nat)(rows:List R)(t:TL)(v:Nat)(ai:Int)(j:Nat):Prop:=
 n<=t.st.af j/\(0 < t.st.c j v * (ai:Rat)\/t.st.c j v * (ai:Rat) < 0/\(aI n rows).kd (t.st.af j - n)=3)
def cW(n:Nat)(rows:List R)(t:TL)(v:Nat)(ai:Int)(j:Nat):Rat:=((aI n rows).to (t.st.af j - n) - t.st.y (t.st.af j)) / (t.st.c j v * (ai:Rat))
theorem Dm{n:Nat}{rows:List R}{t:TL}{v:Nat}{ai:Int}{j:Nat}:¬(nv (tm (an (au t.aj j) v) (iN ai))=0\/iC n rows (t.st.af j) (tm (an (au t.aj j) v) (iN ai))=false)↔gQ n rows t v ai j:=by
 have e:nv (tm (an (au t.aj j) v) (iN ai))=t.st.c j v * (ai:Rat):=rfl;unfold iC gQ;rw [e];by_cases a:t.st.c j v * (ai:Rat) < 0
 .rw [if_pos a];constructor
  .intro h;have i:eT n rows (t.st.af j)=true:=by
    cases hb:eT n rows (t.st.af j)
    .exact absurd (.inr hb) h
    .rfl
   have:=lk.1 i;exact⟨To this.1, .inr ⟨a,this.2⟩⟩
  .rintro⟨h1,d | ⟨_,d⟩⟩
   .exact absurd a (by grind)
   .rintro(b | b)
    .rw [b] at a;exact absurd a (by grind)
    .rw [lk.2 ⟨TG.2 h1,d⟩] at b;cases b
 .rw [if_neg a];constructor
  .intro h;have k:t.st.c j v * (ai:Rat)≠0:=λg=>h (.inl g);have hb:¬t.st.af j < n:=λg=>h (.inr (by simp [g]));exact⟨To hb, .inl (by grind)⟩
  .rintro⟨h1,d | ⟨d,_⟩⟩
   .rintro(b | b)
    .rw [b] at d;exact absurd d (by grind)
    .have:¬t.st.af j < n:=TG.2 h1;simp [this] at b
   .exact absurd d a
theorem zW{n:Nat}{rows:List R}{t:TL}(h:bC n rows t)(k2:∀r∈rows,r.kd≠2){v:Nat}{ai:Int}{j:Nat}(o:j < rows.length)(hb:gQ n rows t v ai j):
  vv (fg n rows t (t.st.af j) (tm (an (au t.aj j) v) (iN ai)))= (cW n rows t v ai j,0):=by
 have e:nv (tm (an (au t.aj j) v) (iN ai))=t.st.c j v * (ai:Rat):=rfl;have g:¬t.st.af j < n:=TG.2 hb.1;have k:t.st.af j < n+rows.length:=h.ok.wf.hb j o;have hz:=z0 h k2 k;have p:=k2 _ (gF (rows:=rows) (i:=t.st.af j - n) (by omega));have l:(aI n rows).up (t.st.af j)= ((aI n rows).to (t.st.af j - n),0):=by unfold Sy.up;refine Uz rfl ?_;exact if_neg p
 have b:vv (kT n rows (t.st.af j) (tm (an (au t.aj j) v) (iN ai)))= ((aI n rows).to (t.st.af j - n),0):=by
  unfold kT;rw [e,<-l];by_cases a:t.st.c j v * (ai:Rat) < 0
  .rw [if_pos a];rcases hb.2 with d | ⟨_,d⟩
   .exact absurd a (by grind)
   .exact tL (lk.2 ⟨g,d⟩)
  .rw [if_neg a];exact uH g
 unfold fg;generalize kT n rows (t.st.af j) (tm (an (au t.aj j) v) (iN ai))=bd at b;have h1:nv bd.1= (aI n rows).to (t.st.af j - n):=congrArg Prod.fst b;have d:nv bd.2=0:=congrArg Prod.snd b;have m:nv (aH t.val (t.st.af j)).2=0:=hz;refine Uz ?_ ?_
 .show(nv bd.1 - t.st.y (t.st.af j)) * (((1:Int):Rat) / (t.st.c j v * (ai:Rat)))=cW n rows t v ai j;unfold cW;rw [h1,Sv,Sv];have:((1:Int):Rat)=1:=rfl;rw [this];grind
 .show(nv bd.2 - nv (aH t.val (t.st.af j)).2) * (((1:Int):Rat) / (t.st.c j v * (ai:Rat)))=0;rw [d,m];grind
theorem Ge{n:Nat}{rows:List R}{t:TL}(h:bC n rows t)(k2:∀r∈rows,r.kd≠2){v:Nat}{ai:Int}(F:iC n rows v (iN ai)=false):
  ((bf n rows t v ai).2.2=false/\∀j,j < rows.length->¬gQ n rows t v ai j)\/
  ∃i,i < rows.length/\(bf n rows t v ai).1= (i:Int)/\(bf n rows t v ai).2.2=true/\gQ n rows t v ai i/\(bf n rows t v ai).2.1=fg n rows t (t.st.af i) (tm (an (au t.aj i) v) (iN ai))/\
   ∀j,j < rows.length->gQ n rows t v ai j->cW n rows t v ai i<=cW n rows t v ai j/\(cW n rows t v ai i=cW n rows t v ai j->t.st.af i<=t.st.af j):=by
 have hbl:=h.aX.b;have hcl:=h.aX.c
 have O:∀(bs:List Nat) (xs:List (List Nm)) (k:Nat) (s:LF),t.af.drop k=bs->t.aj.drop k=xs->bs.length=xs.length->k<=rows.length->
   ((s.2.2=false/\∀j,j < k->¬gQ n rows t v ai j)\/
    ∃i,i < k/\s.1= (i:Int)/\s.2.2=true/\gQ n rows t v ai i/\s.2.1=fg n rows t (t.st.af i) (tm (an (au t.aj i) v) (iN ai))/\
     ∀j,j < k->gQ n rows t v ai j->cW n rows t v ai i<=cW n rows t v ai j/\(cW n rows t v ai i=cW n rows t v ai j->t.st.af i<=t.st.af j))->
   (((gB n rows t v ai bs xs k s).2.2=false/\∀j,j < rows.length->¬gQ n rows t v ai j)\/
    ∃i,i < rows.length/\(gB n rows t v ai bs xs k s).1= (i:Int)/\(gB n rows t v ai bs xs k s).2.2=true/\gQ n rows t v ai i/\(gB n rows t v ai bs xs k s).2.1=fg n rows t (t.st.af i) (tm (an (au t.aj i) v) (iN ai))/\
     ∀j,j < rows.length->gQ n rows t v ai j->cW n rows t v ai i<=cW n rows t v ai j/\(cW n rows t v ai i=cW n rows t v ai j->t.st.af i<=t.st.af j)):=by
  intro bs;induction bs with
  | nil=>
   intro xs k s hb V N hk E;have T:k=rows.length:=by have:=bP hb;omega
   have U:gB n rows t v ai [] xs k s=s:=by cases xs <;> rfl
   rw [U,<-T];exact E
  | cons b bs ih=>
   intro xs k s hb V N hk E;obtain⟨X,g2,Y⟩:=bG hb;cases xs with
   | nil=>simp at N
   | cons x xs=>
    obtain⟨x1,x2,x3⟩:=bG V;have Q:au t.aj k=x:=by have:=iF (aj:=t.aj) (i:=k) (by omega);rw [x1] at this;exact(R1 this).symm
    have P:t.st.af k=b:=by have:=iB (t:=t) (i:=k) (by omega);rw [X] at this;exact(R1 this).symm
    rw [gB,<-Q,<-P];refine ih xs (k+1) _ Y x3 (by simpa using N) (by omega) ?_;by_cases m:gQ n rows t v ai k
    .have hz:=Dm.2 m;have H:=zW h k2 (by omega) m;have B:dh n rows t (t.st.af k) (tm (an (au t.aj k) v) (iN ai)) (k:Int) s=if eG n rows t (t.st.af k) (tm (an (au t.aj k) v) (iN ai)) (k:Int) s then((k:Int),fg n rows t (t.st.af k) (tm (an (au t.aj k) v) (iN ai)),true) else s:=by
      unfold dh;rw [if_neg hz]
     rw [B];rcases E with⟨M,D⟩ | ⟨i,S,o,p,w,q,y⟩
     .have z:eG n rows t (t.st.af k) (tm (an (au t.aj k) v) (iN ai)) (k:Int) s:=by
       unfold eG;rw [M];exact .inl (by simp)
      rw [if_pos z];refine .inr ⟨k,by omega,rfl,rfl,m,rfl,λj C g=> ?_⟩;by_cases e:j=k
      .subst e;exact⟨SN,λ_=>RI _⟩
      .exact absurd g (D j (by omega))
     .have G:=zW h k2 (by omega) w;have u:dY s.2.1 (fg n rows t (t.st.af k) (tm (an (au t.aj k) v) (iN ai))) > 0↔cW n rows t v ai k < cW n rows t v ai i:=by
       rw [wg,H,q,G];unfold cQ;constructor
       .rintro(h | ⟨_,h⟩)
        .exact h
        .exact absurd h (by grind)
       .intro h;exact .inl h
      have J:dY s.2.1 (fg n rows t (t.st.af k) (tm (an (au t.aj k) v) (iN ai))) < 0↔cW n rows t v ai i < cW n rows t v ai k:=by
       rw [wh,H,q,G];unfold cQ;constructor
       .rintro(h | ⟨_,h⟩)
        .exact h
        .exact absurd h (by grind)
       .intro h;exact .inl h
      have I:dY s.2.1 (fg n rows t (t.st.af k) (tm (an (au t.aj k) v) (iN ai)))=0↔cW n rows t v ai i=cW n rows t v ai k:=by
       constructor
       .intro K;have a:¬cW n rows t v ai k < cW n rows t v ai i:=λl=>by have:=u.2 l;omega
        have b:¬cW n rows t v ai i < cW n rows t v ai k:=λl=>by have:=J.2 l;omega
        grind
       .intro K;have a:¬dY s.2.1 (fg n rows t (t.st.af k) (tm (an (au t.aj k) v) (iN ai))) > 0:=λl=>by have:=u.1 l;grind
        have b:¬dY s.2.1 (fg n rows t (t.st.af k) (tm (an (au t.aj k) v) (iN ai))) < 0:=λl=>by have:=J.1 l;grind
        omega
      by_cases z:eG n rows t (t.st.af k) (tm (an (au t.aj k) v) (iN ai)) (k:Int) s
      .rw [if_pos z];have d:=z;unfold eG at d;rw [if_pos p,o,R5,u,I] at d;have A:t.af.getD i 0=t.st.af i:=rfl;rw [A] at d;refine .inr ⟨k,by omega,rfl,rfl,m,rfl,λj C g=> ?_⟩;by_cases e:j=k
       .subst e;exact⟨SN,λ_=>RI _⟩
       .obtain⟨c1,W⟩:=y j (by omega) g;rcases d with h1 | ⟨h1,_,Z | Z⟩
        .exact⟨by grind,λL=>absurd h1 (by grind)⟩
        .omega
        .exact⟨by grind,λL=>by have:=W (by grind);omega⟩
      .rw [if_neg z];have d:=z;unfold eG at d;rw [if_pos p,o,R5,u,I] at d;have A:t.af.getD i 0=t.st.af i:=rfl;rw [A] at d;refine .inr ⟨i,by omega,o,p,w,q,λj C g=> ?_⟩;by_cases e:j=k
       .subst e;refine⟨Vg.1 λl=>d (.inl l),λL=> ?_⟩;refine To λl=>d (.inr ⟨L,by omega, .inr (by omega)⟩)
       .exact y j (by omega) g
    .have hz:nv (tm (an (au t.aj k) v) (iN ai))=0\/iC n rows (t.st.af k) (tm (an (au t.aj k) v) (iN ai))=false:=Tu λl=>m (Dm.1 l);have B:dh n rows t (t.st.af k) (tm (an (au t.aj k) v) (iN ai)) (k:Int) s=s:=by unfold dh;rw [if_pos hz]
     rw [B];rcases E with⟨M,D⟩ | ⟨i,S,o,p,w,q,y⟩
     .refine .inl ⟨M,λj C=> ?_⟩;by_cases e:j=k
      .subst e;exact m
      .exact D j (by omega)
     .refine .inr ⟨i,by omega,o,p,w,q,λj C g=> ?_⟩;by_cases e:j=k
      .subst e;exact absurd g m
      .exact y j (by omega) g
 have K:dh n rows t v (iN ai) (-1) (-1,(none,none),false)= (-1,(none,none),false):=by unfold dh;rw [if_pos (.inr F)]
 unfold bf;rw [K];exact O t.af t.aj 0 _ rfl rfl (by omega) (UA _) (.inl ⟨rfl,λj C=>by omega⟩)
open Go Go.Aev Go.Aev.Gen Go.Aev.Wd Go.Aev.Tb Go.IntKind
theorem AG(c:Nm):∀(a g:List Nm) (v:Nat),a.length=g.length->nv (an (gW c a g) v)=nv (an g v)+nv c * nv (an a v)
 | [],[],v,_=>by show nv none=nv none+nv c * nv none;rw [rJ];grind
 | a::l,g::r,0,_=>by show nv g+nv a * nv c=nv g+nv c * nv a;grind
 | a::l,g::r,v+1,h=>AG c l r v (by simpa using h)
 | [],_::_,_,h=>by simp at h
 | _::_,[],_,h=>by simp at h
theorem FQ{n m:Nat}{t:TL}(a:cH n m t):∀(cs:List Int) (k:Nat) (g:List Nm),(iL t cs k g).length=g.length
 | [],_,_=>rfl
 | c::cs,k,g=>by
  rw [iL,FQ a cs];split
  .rw [xg]
  .rw [Sf]
theorem AK{n:Nat}{rows:List R}{t:TL}(h:bC n rows t):∀(cs:List Int) (k:Nat) (g:List Nm),g.length=n+rows.length->k+cs.length<=n->(∀j,j < rows.length->nv (an g (t.st.af j))=0)->
  (∀j,j < rows.length->nv (an (iL t cs k g) (t.st.af j))=0)/\
  ∀y,eN n rows.length (aI n rows).A y->sm (n+rows.length) (λv=>nv (an (iL t cs k g) v) * y v)=sm (n+rows.length) (λv=>nv (an g v) * y v)+sm cs.length (λj=>((cs.getD j 0:Int):Rat) * y (k+j))
 | [],k,g,s,x,hz=>⟨hz,λy hy=>by simp only [iL,Su,sm];grind⟩
 | c::cs,k,g,s,x,hz=>by
  simp only [RP] at x;have b:∀y:Nat->Rat,sm (cs.length+1) (λj=>(((c::cs).getD j 0:Int):Rat) * y (k+j))= (c:Rat) * y k+sm cs.length (λj=>((cs.getD j 0:Int):Rat) * y (k+1+j)):=by
   intro y;have u:∀(m:Nat) (f:Nat->Rat),sm (m+1) f=f 0+sm m (λj=>f (j+1)):=by
    intro m f;induction m with
    | zero=>simp only [sm];grind
    | succ m D=>rw [sm,D,sm];grind
   rw [u];have e:(λj=>(((c::cs).getD (j+1) 0:Int):Rat) * y (k+ (j+1)))= (λj=>((cs.getD j 0:Int):Rat) * y (k+1+j)):=by funext j;rw [show k+ (j+1)=k+1+j by omega];rfl
   rw [e];rfl
  rw [iL];cases a:bV k t.mp with
  | some i=>
   have hi:=h.rA a;have C:=h.aX.row hi;have w:t.st.af i=k:=by
    by_cases o:k∈t.af
    .obtain⟨j,l,e,r⟩:=lp h.aX o;rw [h.ln j k r] at a;cases a;exact e
    .rw [h.tJ k o] at a;cases a
   simp only;obtain⟨p,q⟩:=AK h cs (k+1) (gW (iN c) (au t.aj i) g) (by rw [xg];exact s) (by omega) (λj l=>by
    rw [AG _ _ _ _ (by omega),hz j l];have:nv (an (au t.aj i) (t.st.af j))=0:=h.ok.wf.z i j hi l;rw [this];grind)
   refine⟨p,λy hy=> ?_⟩;rw [q y hy,RP,b y];have B:y k=sm (n+rows.length) (λv=>t.st.c i v * y v):=by have:=(h.ok.wf.same y).2 hy i hi;rw [w] at this;exact this
   have e:(λv=>nv (an (gW (iN c) (au t.aj i) g) v) * y v)= (λv=>1 * (nv (an g v) * y v)+ (c:Rat) * (t.st.c i v * y v)):=by funext v;rw [AG _ _ _ _ (by omega)];show(nv (an g v)+ (c:Rat) * t.st.c i v) * y v=_;grind
   rw [e,kG,<-B];grind
  | none=>
   have o:k∉t.af:=λhb=>by obtain⟨j,l,e,r⟩:=lp h.aX hb;rw [h.ln j k r] at a;cases a
   simp only;obtain⟨p,q⟩:=AK h cs (k+1) (g.set k (pl (an g k) (iN c))) (by rw [Sf];exact s) (by omega) (λj l=>by
    rw [tO (by omega),if_neg (λe=>o (by rw [<-e];exact jv h.aX l))];exact hz j l)
   refine⟨p,λy hy=> ?_⟩;rw [q y hy,RP,b y];have e:sm (n+rows.length) (λv=>nv (an (g.set k (pl (an g k) (iN c))) v) * y v)=sm (n+rows.length) (λv=>1 * (nv (an g v) * y v)+ (c:Rat) * (if v=k then y v else 0)):=by
    refine de (λv hv=> ?_);rw [tO (by omega)];by_cases d:v=k
    .rw [if_pos d,if_pos d,d];show(nv (an g k)+ (c:Rat)) * y k=_;grind
    .rw [if_neg d,if_neg d];grind
   rw [e,kG,nG (by omega) y];grind
theorem bC.ax{n:Nat}{rows:List R}{t:TL}(h:bC n rows t)(g:List Nm):bC n rows {t with ax:=g}:=
 ⟨⟨h.aX.b,h.aX.c,h.aX.r,h.aX.v,h.aX.lt,h.aX.nd⟩,h.ok,h.ln,h.tJ,h.ky⟩
theorem xh{n:Nat}{rows:List R}{gl:List Int}{t:TL}(h:bC n rows t)(b:(aI n rows).nP t.st)(c:gl.length<=n):
  dS n rows gl {t with ax:=iL t gl 0 (List.replicate (n+rows.length) none)}:=by
 have a:∀v,nv (an (List.replicate (n+rows.length) (none:Nm)) v)=0:=λv=>by unfold an;rw [Rr,Tj];split <;> rfl
 obtain⟨d,e⟩:=AK h gl 0 (List.replicate (n+rows.length) none) (by simp) (by omega) (λj _=>a _);refine⟨h.ax _, ?_,⟨d,λy hy=> ?_⟩,b⟩
 .show(iL t gl 0 _).length=_;rw [FQ h.aX];simp
 .have:=e y hy;show sm (n+rows.length) (λv=>nv (an (iL t gl 0 (List.replicate (n+rows.length) none)) v) * y v)=sm n (λk=>gR gl k * y k);rw [this,lJ (λv _=>by rw [a v];exact Se _),Vh];rw [Ip (n:=gl.length) (N:=n) c (λk g _=>by
   unfold gR;rw [Rr,Sh (by omega)];show((0:Int):Rat) * _=0;exact Se _)]
  refine de (λk g=> ?_);rw [RY];rfl
theorem Py{q:Rat}(b:q≠0):((q.num.sign:Int):Rat)=cN q:=by
 unfold cN;have h1:=Ii (w:=1) (.inl rfl) b;have a:(1:Int) * q.num.sign > 0↔0 < q:=by rw [h1.2];have:((1:Int):Rat)=1:=rfl;rw [this,Vr]
 rw [SU] at a;rcases oW q with e | e | e
 .rw [e,if_pos (a.1 (by rw [e];decide))];rfl
 .rw [e,if_neg (λh=>by have:=a.2 h;rw [e] at this;exact absurd this (by decide))];rfl
 .exact absurd ((fK q).1 e) b
theorem rV{q:Rat}(a:q≠0):q.num.sign=1\/q.num.sign= -1:=by
 rcases oW q with e | e | e
 .exact .inl e
 .exact .inr e
 .exact absurd ((fK q).1 e) a
section
variable {n:Nat} {rows:List R} {gl:List Int} {t:TL}
theorem dS.self(go:eC n rows gl)(h:dS n rows gl t){v:Nat}(hv:v < n+rows.length)(g:nv (an t.ax v)≠0)(a:eP n rows t.val v (nv (an t.ax v)).num.sign=true):
  iC n rows v (iN (nv (an t.ax v)).num.sign)=false:=by
 have m:=h.nb g;have c:=h.tok.ok.fix v hv (λi hi e=>m (by rw [<-e];exact jv h.tok.aX hi));have o:=rV g;have p:(nv (an t.ax v)).num.sign≠0:=by rcases o with e | e <;> rw [e] <;> decide
 rw [zH t v p] at a;unfold iC;rcases o with e | e
 .rw [e] at a⊢;rw [if_pos (by decide)] at a;have h1:¬nv (iN 1) < 0:=by
   show ¬((1:Int):Rat) < 0;have:((1:Int):Rat)=1:=rfl;rw [this];grind
  rw [if_neg h1];rcases a with b | b
  .have b:v < n:=b;simp [b]
  .by_cases j:v < n
   .simp [j]
   .unfold Sy.fx at c;have d:¬v < (aI n rows).n:=j;rw [if_neg d] at c;rw [c] at b;exact absurd b (o9 _)
 .rw [e] at a⊢;rw [if_neg (by decide)] at a;have h1:nv (iN (-1)) < 0:=by
   show((-1:Int):Rat) < 0;have:((-1:Int):Rat)= -1:=rfl;rw [this];grind
  rw [if_pos h1];cases l:eT n rows v
  .rfl
  .have k:=lk.1 l;rcases a with b | b | b
   .exact absurd b k.1
   .exact absurd k.2 b
   .unfold Sy.fx at c;have d:¬v < (aI n rows).n:=k.1;rw [if_neg d] at c;rw [c] at b;exact absurd b (o9 _)
theorem zF(h:bC n rows t)(k2:∀r∈rows,r.kd≠2){u:Nat}(k:u < n+rows.length){q:Rat}(j:q≠0):
  eP n rows t.val u (1 * q.num.sign)=true↔(aI n rows).sr t.st q u:=by
 have h1:=sV (n:=n) (rows:=rows) t (w:=1) (.inl rfl) j (v:=u);have g:((1:Int):Rat) * q=q:=by have:((1:Int):Rat)=1:=rfl;rw [this,Vr]
 rw [g] at h1;rw [h1];have hz:=z0 h k2 k;have up:(aI n rows).sv t.st u↔(aI n rows).sM t.st u:=by
  unfold Sy.sv Sy.sM;by_cases b:u < n
  .exact⟨λ_=> .inl b,λ_=> .inl b⟩
  .have d:=k2 _ (gF (rows:=rows) (i:=u - n) (by omega));have c:(aI n rows).up u= ((aI n rows).to (u - n),0):=Uz rfl (if_neg d);rw [c];unfold cQ bm.val;rw [hz];constructor
   .rintro(a | a | ⟨_,a⟩)
    .exact .inl a
    .exact .inr a
    .exact absurd a (by grind)
   .rintro(a | a)
    .exact .inl a
    .exact .inr (.inl a)
 have e:(aI n rows).su t.st u↔(aI n rows).sw t.st u:=by
  unfold Sy.su Sy.sw;by_cases b:u < n
  .exact⟨λ_=> .inl b,λ_=> .inl b⟩
  .have d:=k2 _ (gF (rows:=rows) (i:=u - n) (by omega));have c:(aI n rows).up u= ((aI n rows).to (u - n),0):=Uz rfl (if_neg d);rw [c];unfold cQ bm.val;rw [hz];constructor
   .rintro(a | a | a | ⟨_,a⟩)
    .exact .inl a
    .exact .inr (.inl a)
    .exact .inr (.inr a)
    .exact absurd a (by grind)
   .rintro(a | a | a)
    .exact .inl a
    .exact .inr (.inl a)
    .exact .inr (.inr (.inl a))
 unfold Sy.Can Sy.sr;rw [up,e]
theorem dS.step(go:eC n rows gl)(h:dS n rows gl t){v:Nat}(hen:aR n rows t.val 1 t.ax 0=some v)(hfd:(bf n rows t v (nv (an t.ax v)).num.sign).2.2=true):
  dS n rows gl (eJ n rows v (nv (an t.ax v)).num.sign t)/\∃i,(aI n rows).jX t.st (λu=>nv (an t.ax u)) (eJ n rows v (nv (an t.ax v)).num.sign t).st i v:=by
 obtain⟨_,m,e3,e4,e5⟩:=iJ hen;rw [Sr] at e3 e4;rw [SU] at e4;rw [RY,h.len] at m;have hself:=h.self go m e3 e4;have x:=h.nb e3;have hvB:¬t.st.bD rows.length v:=λ⟨i,hi,e⟩=>x (by rw [<-e];exact jv h.tok.aX hi);have hw:=rV e3;have hsw:=Py e3;generalize hwv:(nv (an t.ax v)).num.sign=ai at *
 have hwne:(ai:Rat)≠0:=by
  rcases hw with rfl | rfl
  .have:((1:Int):Rat)=1:=rfl;rw [this];grind
  .have:((-1:Int):Rat)= -1:=rfl;rw [this];grind
 rcases Ge h.tok go.k2 (v:=v) (ai:=ai) hself with⟨hf,_⟩ | ⟨i,hi,l1,l2,l3,l4,l5⟩
 .rw [hf] at hfd;cases hfd
 .have hd0:t.st.c i v * (ai:Rat)≠0:=by
   rcases l3.2 with A | ⟨A,_⟩
   .intro H;rw [H] at A;exact absurd A (by grind)
   .intro H;rw [H] at A;exact absurd A (by grind)
  have hc0:nv (an (au t.aj i) v)≠0:=λH=>hd0 (by
   show nv (an (au t.aj i) v) * (ai:Rat)=0;rw [H,Se])
  have P:=l3.1;have N:t.st.af i < n+rows.length:=h.tok.ok.wf.hb i hi;have hg:=iB (t:=t) (i:=i) (by rw [h.tok.aX.b];exact hi);have I:=zW h.tok go.k2 hi l3;rw [<-l4] at I;have T:nv (bf n rows t v ai).2.1.1=cW n rows t v ai i:=congrArg Prod.fst I;have hfz:nv (bf n rows t v ai).2.1.2=0:=congrArg Prod.snd I;have X:eJ n rows v ai t=eV i v (t.st.af i) (cw (au t.aj i) v (t.st.af i)) false (dE v (fb (bf n rows t v ai).2.1 (iN ai)) t):=by unfold eJ;rw [l1,if_pos (by omega),R5]
  have s:=go.k2 _ (gF (rows:=rows) (i:=t.st.af i - n) (by omega));have hfx:(aI n rows).fx (t.st.af i)= ((aI n rows).to (t.st.af i - n),0):=by unfold Sy.fx;have hn':¬t.st.af i < (aI n rows).n:=TG.2 P;rw [if_neg hn'];unfold Sy.up;refine Uz rfl ?_;exact if_neg s
  have hval:vv (aH (dE v (fb (bf n rows t v ai).2.1 (iN ai)) t).val (t.st.af i))= (aI n rows).fx (t.st.af i):=by
   rw [xA h.tok.aX v _ m x hg,hfx];have hz:=z0 h.tok go.k2 N;refine Uz ?_ ?_
   .show t.st.y (t.st.af i)+nv (bf n rows t v ai).2.1.1 * (ai:Rat) * t.st.c i v= (aI n rows).to (t.st.af i - n);rw [T];unfold cW;rw [Sv];have:=Uw _ hd0;grind
   .show t.st.z (t.st.af i)+nv (bf n rows t v ai).2.1.2 * (ai:Rat) * t.st.c i v=0;rw [hfz,hz];grind
  obtain⟨p1,p2⟩:=h.tok.Hu (i:=i) (v:=v) (fb (bf n rows t v ai).2.1 (iN ai)) false hi m hc0 hval;have L:(eJ n rows v ai t).ax=iX (cw (au t.aj i) v (t.st.af i)) v t.ax:=by rw [X];rfl
  rw [<-X] at p1 p2;have K:t.st.af i≠v:=λe=>x (by rw [<-e];exact jv h.tok.aX hi);have hrow:=h.tok.aX.row hi;have hpl:(cw (au t.aj i) v (t.st.af i)).length=n+rows.length:=by unfold cw;simp;exact hrow
  have hpr:∀k,k < n+rows.length->nv (an (cw (au t.aj i) v (t.st.af i)) k)=fZ (t.st.c i) (t.st.af i) v k:=λk s=>Hw (by omega) (by omega) (by omega) K;have U:∀k,k < n+rows.length->nv (an (eJ n rows v ai t).ax k)=jL (fZ (t.st.c i) (t.st.af i) v) v (λu=>nv (an t.ax u)) k:=λk s=>by
   rw [L,IE (by rw [hpl,h.len]) (by rw [h.len];exact m) (by rw [h.len];exact s) (by rw [hpr v m];exact uc K)];unfold jL;by_cases l:k=v
   .rw [if_pos l,if_pos l]
   .rw [if_neg l,if_neg l];show _+ _ * nv (an (cw (au t.aj i) v (t.st.af i)) k)=_;rw [hpr k s]
  have hy':∀k,k < n+rows.length->(eJ n rows v ai t).st.y k=t.st.y k+cW n rows t v ai i * t.st.dir rows.length v (ai:Rat) k:=by
   intro k s;have e:(eJ n rows v ai t).st.y k=nv (aH (dE v (fb (bf n rows t v ai).2.1 (iN ai)) t).val k).1:=by rw [X];rfl
   rw [e];by_cases W:k∈t.af
   .obtain⟨j,a,e,hgj⟩:=lp h.tok.aX W;have G:t.st.dir rows.length v (ai:Rat) (t.st.af j)=t.st.c j v * (ai:Rat):=n8 (S:=aI n rows) h.tok.ok (ai:Rat) a hvB;rw [xA h.tok.aX v _ m x hgj,<-e,G];show t.st.y (t.st.af j)+nv (bf n rows t v ai).2.1.1 * (ai:Rat) * t.st.c j v=_;rw [T];grind
   .rw [Bf h.tok.aX v _ m W];by_cases l:k=v
    .rw [if_pos l,l,n9];show t.st.y v+nv (bf n rows t v ai).2.1.1 * (ai:Rat)=_;rw [T]
    .rw [if_neg l,mP t.st (ai:Rat) l (λ⟨j,a,e⟩=>W (by rw [<-e];exact jv h.tok.aX a)),SG,UH];rfl
  have C: 0<=cW n rows t v ai i:=by
   obtain⟨E,r⟩:=h.fe _ P N;unfold cW;refine HI ?_;rcases l3.2 with A | ⟨_,A⟩
   .refine .inl ⟨A, ?_⟩;have:t.st.y (t.st.af i)<=(aI n rows).to (t.st.af i - n):=E;grind
   .refine .inr ?_;have:t.st.y (t.st.af i)= (aI n rows).to (t.st.af i - n):=r A;grind
  refine⟨⟨p1, ?_,⟨λj a=> ?_,λy hy=> ?_⟩,λu p M=> ?_⟩,i, ?_⟩
  .rw [L,IF];exact h.len
  .have hbj:(eJ n rows v ai t).st.af j < n+rows.length:=p1.ok.wf.hb j a;show nv (an (eJ n rows v ai t).ax ((eJ n rows v ai t).st.af j))=0;rw [U _ hbj,p2 j];unfold jL fF;by_cases V:j=i
   .rw [if_pos V,if_pos rfl]
   .rw [if_neg V];have F:t.st.af j≠v:=λe=>x (by rw [<-e];exact jv h.tok.aX a);have hne2:t.st.af j≠t.st.af i:=λe=>V (h.tok.ok.wf.inj j i a hi e);rw [if_neg F];have h1:nv (an t.ax (t.st.af j))=0:=h.g.z j a;have q:fZ (t.st.c i) (t.st.af i) v (t.st.af j)=0:=by
     unfold fZ;rw [if_neg hne2,if_neg F,h.tok.ok.wf.z i j hi a,Sv];grind
    show nv (an t.ax (t.st.af j))+nv (an t.ax v) * fZ (t.st.c i) (t.st.af i) v (t.st.af j)=0;rw [h1,q];grind
  .have h1:=h.g.same y hy;show sm (n+rows.length) (λk=>nv (an (eJ n rows v ai t).ax k) * y k)=_;rw [de (g:=λk=>jL (fZ (t.st.c i) (t.st.af i) v) v (λu=>nv (an t.ax u)) k * y k) (λk s=>by rw [U k s])];rw [Bu m (uc K),Hz N m K (h.tok.ok.wf.z i i hi hi) hc0];have q:y (t.st.af i)=sm (n+rows.length) (λk=>t.st.c i k * y k):=(h.tok.ok.wf.same y).2 hy i hi;rw [<-q];have h3:sm (n+rows.length) (λk=>nv (an t.ax k) * y k)=sm n (λk=>gR gl k * y k):=h1;show _=sm n (λk=>gR gl k * y k);rw [<-h3,Sv];grind
  ·
   have p:n<=u:=p;have M:u < n+rows.length:=M;obtain⟨E,r⟩:=h.fe u p M;show(eJ n rows v ai t).st.y u<=(aI n rows).to (u - n)/\((aI n rows).kd (u - n)=3->(eJ n rows v ai t).st.y u= (aI n rows).to (u - n));have E:t.st.y u<=(aI n rows).to (u - n):=E;have r:(aI n rows).kd (u - n)=3->t.st.y u= (aI n rows).to (u - n):=r;rw [hy' u M];by_cases Z:u=v
   .rw [Z,n9];rw [Z] at E r p;have hwm:ai= -1/\(aI n rows).kd (v - n)≠3:=by
     have D:=h.tok.ok.fix v m (λi hi e=>x (by rw [<-e];exact jv h.tok.aX hi));unfold Sy.fx at D;have J:¬v < (aI n rows).n:=TG.2 p;rw [if_neg J] at D;have hw0:ai≠0:=by rcases hw with e | e <;> rw [e] <;> decide
     rw [zH t v hw0] at e4;rcases hw with e | e
     .rw [e,if_pos (by decide)] at e4;rcases e4 with o | o
      .exact absurd o J
      .rw [D] at o;exact absurd o (o9 _)
     .rw [e,if_neg (by decide)] at e4;rcases e4 with o | o | o
      .exact absurd o J
      .exact⟨e,o⟩
      .rw [D] at o;exact absurd o (o9 _)
    refine⟨?_,λw=>absurd w hwm.2⟩;rw [hwm.1];have:((-1:Int):Rat)= -1:=rfl;rw [hwm.1] at C;rw [this];grind
   .by_cases hub:u∈t.af
    .obtain⟨j,a,e,_⟩:=lp h.tok.aX hub;have G:t.st.dir rows.length v (ai:Rat) (t.st.af j)=t.st.c j v * (ai:Rat):=n8 (S:=aI n rows) h.tok.ok (ai:Rat) a hvB;rw [<-e,G];rw [<-e] at E r p;generalize Q:t.st.c j v * (ai:Rat)=d;have key:gQ n rows t v ai j->cW n rows t v ai i<=((aI n rows).to (t.st.af j - n) - t.st.y (t.st.af j)) * d⁻¹:=λhB=>by
      have:=(l5 j a hB).1;unfold cW at this⊢;rw [Sv _ (t.st.c j v * (ai:Rat)),Q] at this;exact this
     have htri:d < 0\/0 < d\/d=0:=by grind
     rcases htri with B | B | B
     ·
      constructor
      .have:=T0 C (show 0<= -d by grind);grind
      .intro w;have hy0:=r w;have h1:=key ⟨p, .inr ⟨by rw [Q];exact B,w⟩⟩;rw [hy0] at h1⊢;have q:cW n rows t v ai i=0:=by grind
       rw [q];grind
     .have hB:gQ n rows t v ai j:=⟨p, .inl (by rw [Q];exact B)⟩;have h1:=key hB;have q:=Vk h1 (Uq B);have h3:=Rat.inv_mul_cancel d (λH=>by rw [H] at B;exact absurd B (by grind));have h4:cW n rows t v ai i * d<=(aI n rows).to (t.st.af j - n) - t.st.y (t.st.af j):=by
       rw [Rat.mul_assoc,h3,VT] at q;exact q
      refine⟨by grind,λw=> ?_⟩;have hy0:=r w;have h5:=T0 C (Uq B);rw [hy0] at h4⊢;grind
     .rw [B,SG,UH];exact⟨E,r⟩
    .rw [mP t.st (ai:Rat) Z (λ⟨j,a,e⟩=>hub (by rw [<-e];exact jv h.tok.aX a)),SG,UH];exact⟨E,r⟩
  .have Y:cN ((λu=>nv (an t.ax u)) v)= (ai:Rat):=hsw.symm;refine⟨hi,m,e3, ?_,λu hu F=> ?_,P, ?_,λj a hbnj O=> ?_,funext p2,λk s=> ?_⟩
   .have hw1:eP n rows t.val v (1 * (nv (an t.ax v)).num.sign)=true:=by rw [SU,hwv];exact e4
    exact(zF h.tok go.k2 m e3).1 hw1
   .intro o;have h1:=e5 u (UA _) hu (by rw [Sr];exact F);rw [Sr] at h1;have q:=(zF h.tok go.k2 (by omega) F).2 o;rw [h1] at q;cases q
   .rw [Y];exact l3.2
   .rw [Y] at O⊢;exact l5 j a ⟨hbnj,O⟩
   .rw [Y];exact hy' k s
end
open Go Go.Aev Go.Aev.Gen Go.Aev.Wd Go.Aev.Tb Go.IntKind
def cL(n:Nat)(rows:List R):Nat->TL->Option (List Nm)×Option (List Nm)×Bool×TL
 | p,t=>match aR n rows t.val 1 t.ax 0 with
  | none=>(some (t.ax.drop n),none,true,t)
  | some v=>match p with
   | 0=>(none,none,false,t)
   | p+1=>if(bf n rows t v (nv (an t.ax v)).num.sign).2.2=false then(none,some (iU n t v (nv (an t.ax v)).num.sign),true,t)
    else cL n rows p (eJ n rows v (nv (an t.ax v)).num.sign t)
def rF(n:Nat)(rows:List R)(f:Fl)(r:Option (List Nm)×Option (List Nm)×Bool×TL):List T:=fD r.1::fD r.2.1::tb r.2.2.1::qH n rows f r.2.2.2
theorem jJ{n:Nat}{rows:List R}{t:TL}(p:Nat)(h:aR n rows t.val 1 t.ax 0=none):cL n rows p t= (some (t.ax.drop n),none,true,t):=by
 cases p with
 | zero=>rw [cL,h]
 | succ p=>rw [cL,h]
theorem oC{n:Nat}{rows:List R}{t:TL}{v:Nat}(h:aR n rows t.val 1 t.ax 0=some v):cL n rows 0 t= (none,none,false,t):=by rw [cL,h]
theorem na{n:Nat}{rows:List R}{t:TL}(p:Nat){v:Nat}(h:aR n rows t.val 1 t.ax 0=some v)(a:(bf n rows t v (nv (an t.ax v)).num.sign).2.2=false):
  cL n rows (p+1) t= (none,some (iU n t v (nv (an t.ax v)).num.sign),true,t):=by
 rw [cL,h];simp only [a,if_true]
theorem nf{n:Nat}{rows:List R}{t:TL}(p:Nat){v:Nat}(h:aR n rows t.val 1 t.ax 0=some v)(a:(bf n rows t v (nv (an t.ax v)).num.sign).2.2=true):
  cL n rows (p+1) t=cL n rows p (eJ n rows v (nv (an t.ax v)).num.sign t):=by
 rw [cL,h];simp only [a];rfl
theorem QA{n:Nat}{rows:List R}{gl:List Int}(f:Fl)(j:f.eg=false)(go:eC n rows gl)(g:Bool)(o:List (List T)):∀(p:Nat) (t:TL),p<=100000->dS n rows gl t->
  Or nV [r0,I (p:Int)] (S4 n rows f t g o)=some (rF n rows f (cL n rows p t)):=by
 intro p;induction p using Nat.strongRecOn with
 | _ p r=>
 intro t q h;have m:=go.ro.sz;have e:=h.tok.val go.ro;have c:=h.tok.aj go.ro;have l:=h.gq go;have:=Qw (n:=n) (rows:=rows) f t m h.tok.aX j e c h.len l (λk i d=>h.tok.rA d) g o p q (by omega) (by omega) (λv hv=>h.nb hv)
  (λv ai _ d=>Gd h.tok.aX v ai d) (res:=rF n rows f (cL n rows p t)) (by
   cases b:aR n rows t.val 1 t.ax 0 with
   | none=>simp only;rw [jJ p b];rfl
   | some v=>
    simp only;cases p with
    | zero=>rw [oC b];rfl
    | succ p=>
     cases a:(bf n rows t v (nv (an t.ax v)).num.sign).2.2
     .rw [na p b a];simp only [mj,a,if_true];rfl
     .rw [nf p b a];simp only [mj,a,Bool.true_eq_false,if_false];exact r p (Tn p) _ (by omega) (h.step go b a).1) t.ax 0 rfl rfl
 refine ao ?_;rw [LD];simp only [bA];exact this
theorem Qz{n:Nat}{rows:List R}{gl:List Int}(f:Fl)(c:f.eg=false)(go:eC n rows gl)(d:Bool)(l:List (List T)):∀(p:Nat) (t:TL),p<=100000->dS n rows gl t->
  Or nV [r0,I (p:Int)] (S3 n rows f t d l)=some (rF n rows f (cL n rows p t)):=by
 intro p
 skip
 intro t q h;have o:=go.ro.sz;have j:=h.tok.val go.ro;have e:=h.tok.aj go.ro;have m:=h.gq go;have:=Qv (n:=n) (rows:=rows) f t o h.tok.aX c j e h.len m (λk i g=>h.tok.rA g) d l p q (by omega) (by omega) (λv hv=>h.nb hv)
  (λv ai _ g=>Gd h.tok.aX v ai g) (res:=rF n rows f (cL n rows p t)) (by
   cases b:aR n rows t.val 1 t.ax 0 with
   | none=>simp only;rw [jJ p b];rfl
   | some v=>
    simp only;cases p with
    | zero=>rw [oC b];rfl
    | succ p=>
     cases a:(bf n rows t v (nv (an t.ax v)).num.sign).2.2
     .rw [na p b a];simp only [mj,a,if_true];rfl
     .rw [nf p b a];simp only [mj,a,Bool.true_eq_false,if_false];exact QA f c go d l p _ (by omega) (h.step go b a).1) t.ax 0 rfl rfl
 refine ao ?_;rw [LC];simp only [bA];exact this
theorem Qt{n:Nat}{rows:List R}{gl:List Int}(f:Fl)(go:eC n rows gl)(el:Bool)(p:Nat)(t:TL)(e:p<=100000)(h:bC n rows t)(a:(aI n rows).nP t.st):
  Or (.call 15) [r0,ae el gl,I (p:Int)] (S1 n rows f t)=
   some (rF n rows ⟨f.er,f.eb,f.ec,f.ev,false⟩ (cL n rows p {t with ax:=iL t gl 0 (List.replicate (n+rows.length) none)})):=by
 have c:=xh h a go.gl;have b:=Qz (n:=n) (rows:=rows) ⟨f.er,f.eb,f.ec,f.ev,false⟩ rfl go f.eg (aO t.ax) p _ e c;exact Qu (n:=n) (rows:=rows) f t h.aX go.ro.sz.n go.ro.sz.m (h.aj go.ro) (λk i d=>h.rA d) (p:Int) el gl go.gb go.gl (by omega) b
end Go.Aev.Wd.Lg
