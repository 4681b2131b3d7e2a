import Derived.Test.YtcffabneepdohaaGreatDoorBlastMeansQ11
import Derived.Lib.IndexBytes
set_option linter.all false
namespace Go.Aev.Gen
open Go Go.Aev Go.IntKind
def kq(M:Mk)(a:Int):List Int->Int×Mk
 | []=>(a,M)
 | y::l=>kq (cA M a y).2 (cA M a y).1 l
theorem D4:∀{l:List Int} {M:Mk} {a:Int},Ok M->In M a->(∀y∈l,In M y)->Up M (kq M a l).2 l.length/\In (kq M a l).2 (kq M a l).1
 | [],M,a,h,c,_=>⟨Up.refl h,c⟩
 | y::l,M,a,h,c,hl=>by obtain⟨b,d⟩:=iS h c (hl y Wl);obtain⟨e,f⟩:=D4 (l:=l) b.ok d (b.all λz g=>hl z (Wn _ g));exact⟨(b.trans e).mono (by rw [Wz];omega),f⟩
def oZ(M:Mk)(a b:List Int):Int×Mk:=
 kq (aT eF (dx M true).2 a b).2 (dx M true).1 (aT eF (dx M true).2 a b).1
theorem Ud{M:Mk}(h:Ok M){a b:List Int}(j:a.length=b.length)(g:∀x∈a,In M x)(i:∀x∈b,In M x):Up M (oZ M a b).2 (1+ (1 * a.length+a.length))/\In (oZ M a b).2 (oZ M a b).1:=by obtain⟨d,n⟩:=kB h true;obtain⟨e,l,e3⟩:=tB (f:=eF) (c:=1) (λM a b h g i=>rM h g i) d.ok (d.all g) (d.all i) j;obtain⟨k,m⟩:=D4 e.ok (e.In n) l;rw [e3] at k;exact⟨d.trans (e.trans k),m⟩
theorem QJ{c:Cx}{t:Tr}{e:Bool}{l:List Int}(hl:l.length<=100):∀(r:List Int) (j:Nat) (M:Mk) (a:Int),l.drop j=r->Ok M->In M a->(∀y∈r,In M y)->M.N.length+r.length<=60000->
  Or Aa [r0,I a,ad e l,I (l.length:Int),I (j:Int)] [aa.box [Y'1,AV.t (T.ad 3 c.ed (aN c.ds)),AV.t (T.ad 5 c.en (ba c.ns)),AV.t (T.ad 1 c.eh (enc c.hs)),AV.t (T.str c.p),AV.t (T.ad 1 c.es (enc c.ss)),V'2,V'3],aa.box [V'6,V'5],aa.sl false 1 t.bits.isEmpty (bx t.bits),aa.sl false 1 t.to.isEmpty (enc t.to),aa.dead,aa.mp false [Ck.s] (Ck.i .i64) (cC M.K),aa.rows M.N.isEmpty 5 1 1 M.N.length (rows M.N)]=some [ti (kq M a r).1,T.ax,T.ad 3 c.ed (aN c.ds),T.ad 5 c.en (ba c.ns),T.ad 1 c.eh (enc c.hs),T.str c.p,T.ad 1 c.es (enc c.ss),T.ax,T.ax,RW ((kq M a r).2).N,T.ax,T.ad 1 t.bits.isEmpty (bx t.bits),T.ad 1 t.to.isEmpty (enc t.to),EM ((kq M a r).2).K]:=by
 intro r;induction r with
 | nil=>
  intro j M a g h d f n;have b:¬(j:Int) < (l.length:Int):=by have:=bt g;omega
  refine ai ?_;rw [FC];simp only [an,↓reduceIte,Int.reduceBEq,Int.reduceEq,b,be,bd,Wq,aZ,aW,dI,dJ,de,kq];rfl
 | cons y r u=>
  intro j M a g h d f n;obtain⟨g1,w,q⟩:=br g;have b:(j:Int) < (l.length:Int):=by omega
  have h0: 0<=(j:Int):=by omega
  have o:=f y Wl;rw [Wz] at n;have k1:=nc (show M.N.length<=100000 by omega) d o;obtain⟨m,v⟩:=iS h d o;have k:=u (j+1) _ _ q m.ok v (m.all λz k=>f z (Wn _ k)) (by have:=m.up;omega);rw [kq];refine ai ?_;rw [FC];simp only [an,↓reduceIte,Int.reduceBEq,Int.reduceEq,b,h0,and_self,k1,aD,bP g1,next j (by omega),be,bd,Wq,aZ,aW,dI,dJ,de];exact k
theorem S8{c:Cx}{t:Tr}{M:Mk}{x:Nd}{i:Nat}{s:Int}(k:c.ns[i]? =some x)(j:x.op=22){k1 k2:Int}(d:x.ks= [k1,k2])(l:KW c i k1 s)(m:KW c i k2 s)(f:aE s=true)(e:cG c t M i)(D:M.N.length<=40000):
  Or (.call 19) [r0,I (i:Int)] [aa.box [Y'1,AV.t (T.ad 3 c.ed (aN c.ds)),AV.t (T.ad 5 c.en (ba c.ns)),AV.t (T.ad 1 c.eh (enc c.hs)),AV.t (T.str c.p),AV.t (T.ad 1 c.es (enc c.ss)),V'2,V'3],aa.box [V'4,V'5],aa.sl false 1 t.bits.isEmpty (bx t.bits),aa.sl false 1 t.to.isEmpty (enc t.to),aa.rows M.N.isEmpty 5 1 1 M.N.length (rows M.N),aa.mp false [Ck.s] (Ck.i .i64) (cC M.K)]=some [ti (me M (aG t k1) (aG t k2)).1,T.ax,T.ad 3 c.ed (aN c.ds),T.ad 5 c.en (ba c.ns),T.ad 1 c.eh (enc c.hs),T.str c.p,T.ad 1 c.es (enc c.ss),T.ax,T.ax,RW ((me M (aG t k1) (aG t k2)).2).N,T.ax,T.ad 1 t.bits.isEmpty (bx t.bits),T.ad 1 t.to.isEmpty (enc t.to),EM ((me M (aG t k1) (aG t k2)).2).K]:=by
 have hl:=gL f;have u: 0<=(i:Int)/\(i:Int) < (c.ns.length:Int):=by have:=(Wm.1 k).1;omega
 obtain⟨g,B,n⟩:=l.word e f;obtain⟨h,C,o⟩:=m.word e f;have A:=(J1 e.ok (ea:=(aG t k1).isEmpty) (eb:=(aG t k2).isEmpty) (a:=aG t k1) (b:=aG t k2) (by omega) (by omega) n o (by omega)).1;have v:(0:Int)<=0/\(0:Int) < ((x.ks.length:Nat):Int):=by rw [d];simp
 have w:(0:Int)<=1/\(1:Int) < ((x.ks.length:Nat):Int):=by rw [d];simp
 have g0:(enc x.ks)[0]? =some [ti k1]:=by rw [d];rfl
 have g1:(enc x.ks)[1]? =some [ti k2]:=by rw [d];rfl
 have y: 0<=k1/\k1 < (t.bits.length:Int):=by have:=(Wm.1 g).1;have:=l.h0;omega
 have z: 0<=k2/\k2 < (t.bits.length:Int):=by have:=(Wm.1 h).1;have:=m.h0;omega
 have q:(bx t.bits)[k1.toNat]? =some [LO (aG t k1)]:=by simp [bx,g]
 have r:(bx t.bits)[k2.toNat]? =some [LO (aG t k2)]:=by simp [bx,h]
 refine ai ?_;rw [yh];simp (maxSteps:=1000000) only [an,↓reduceIte,Int.reduceBEq,Int.reduceEq,u,v,w,and_self,dR,gf k,j,aD,g0,g1,y,z,pT,q,r,A,be,bd,Wq,aZ,aW,dI,dJ,de];rfl
theorem S9{c:Cx}{t:Tr}{M:Mk}{x:Nd}{i:Nat}{s:Int}(w:c.ns[i]? =some x)(v:x.op=8){k1 k2:Int}(g:x.ks= [k1,k2])(A:KW c i k1 s)(B:KW c i k2 s)(m:aE s=true)(k:cG c t M i)(V:M.N.length<=40000):
  Or (.call 19) [r0,I (i:Int)] [aa.box [Y'1,AV.t (T.ad 3 c.ed (aN c.ds)),AV.t (T.ad 5 c.en (ba c.ns)),AV.t (T.ad 1 c.eh (enc c.hs)),AV.t (T.str c.p),AV.t (T.ad 1 c.es (enc c.ss)),V'2,V'3],aa.box [V'4,V'5],aa.sl false 1 t.bits.isEmpty (bx t.bits),aa.sl false 1 t.to.isEmpty (enc t.to),aa.rows M.N.isEmpty 5 1 1 M.N.length (rows M.N),aa.mp false [Ck.s] (Ck.i .i64) (cC M.K)]=some [ti (oZ M (aG t k1) (aG t k2)).1,T.ax,T.ad 3 c.ed (aN c.ds),T.ad 5 c.en (ba c.ns),T.ad 1 c.eh (enc c.hs),T.str c.p,T.ad 1 c.es (enc c.ss),T.ax,T.ax,RW ((oZ M (aG t k1) (aG t k2)).2).N,T.ax,T.ad 1 t.bits.isEmpty (bx t.bits),T.ad 1 t.to.isEmpty (enc t.to),EM ((oZ M (aG t k1) (aG t k2)).2).K]:=by
 have hl:=gL m;have F: 0<=(i:Int)/\(i:Int) < (c.ns.length:Int):=by have:=(Wm.1 w).1;omega
 obtain⟨n,o,q⟩:=A.word k m;obtain⟨r,U,u⟩:=B.word k m;obtain⟨d,S⟩:=kB k.ok true;have Q:=nX (show M.N.length<=100000 by omega) true;have z:=Tv d.ok (ea:=(aG t k1).isEmpty) (eb:=(aG t k2).isEmpty) (a:=aG t k1) (b:=aG t k2) (by omega) (by omega) (d.all q) (d.all u) (by have:=d.up;omega);obtain⟨j,C,e3⟩:=tB (f:=eF) (c:=1) (λM a b h J L=>rM h J L) d.ok (d.all q) (d.all u) (show(aG t k1).length= (aG t k2).length by omega);have R:=QJ (c:=c) (t:=t) (e:=(aT eF (dx M true).2 (aG t k1) (aG t k2)).1.isEmpty) (l:=(aT eF (dx M true).2 (aG t k1) (aG t k2)).1) (by omega) (aT eF (dx M true).2 (aG t k1) (aG t k2)).1 0 _ _ rfl j.ok (j.In S) C (by have:=d.up;have:=j.up;omega);have G:(0:Int)<=0/\(0:Int) < ((x.ks.length:Nat):Int):=by rw [g];simp
 have H:(0:Int)<=1/\(1:Int) < ((x.ks.length:Nat):Int):=by rw [g];simp
 have g0:(enc x.ks)[0]? =some [ti k1]:=by rw [g];rfl
 have g1:(enc x.ks)[1]? =some [ti k2]:=by rw [g];rfl
 have O: 0<=k1/\k1 < (t.bits.length:Int):=by have:=(Wm.1 n).1;have:=A.h0;omega
 have P: 0<=k2/\k2 < (t.bits.length:Int):=by have:=(Wm.1 r).1;have:=B.h0;omega
 have D:(bx t.bits)[k1.toNat]? =some [LO (aG t k1)]:=by simp [bx,n]
 have E:(bx t.bits)[k2.toNat]? =some [LO (aG t k2)]:=by simp [bx,r]
 have y:(aG t k1).isEmpty=false:=by
  cases h:aG t k1 with
  | nil=>rw [h] at o;simp at o;omega
  | cons=>rfl
 rw [y] at z;refine ai ?_;rw [yh];simp (maxSteps:=1000000) only [an,↓reduceIte,Int.reduceBEq,Int.reduceEq,F,G,H,and_self,dR,gf w,v,aD,g0,g1,O,P,pT,D,E,Q,z,y,Wu,be,bd,Wq,aZ,aW,dI,dJ,de];exact R
theorem QK{c:Cx}{t:Tr}{M:Mk}{x:Nd}(h:Ok M)(F:M.N.length<=50000)(D:x.ks.length<=100)(l:∀k∈x.ks,0<=k/\t.to[k.toNat]? =some (bp t k)/\In M (bp t k))(ho:fv x.op)(z:fv x.n)(v:fv x.d)(hm:x.nm.size<=1000):∀(f:List Int) (j:Nat) (a:List Int),x.ks.drop j=f->j<=x.ks.length->a.length=j->a≠[]->a++f.map (bp t)=x.ks.map (bp t)->
  Or qO [r0,Y'6,V'7,ad x.ek x.ks,I (x.ks.length:Int),I (j:Int)] [aa.box [Y'1,AV.t (T.ad 3 c.ed (aN c.ds)),AV.t (T.ad 5 c.en (ba c.ns)),AV.t (T.ad 1 c.eh (enc c.hs)),AV.t (T.str c.p),AV.t (T.ad 1 c.es (enc c.ss)),V'2,V'3],aa.box [V'4,V'5],aa.sl false 1 t.bits.isEmpty (bx t.bits),aa.sl false 1 t.to.isEmpty (enc t.to),aa.rows M.N.isEmpty 5 1 1 M.N.length (rows M.N),aa.mp false [Ck.s] (Ck.i .i64) (cC M.K),aa.box [I x.op,ad x.ek x.ks,I x.n,I x.d,AV.t (T.str x.nm)],aa.sl false 1 false (enc a)]=some [ti (dA M x.op x.nm x.n x.d (x.ks.map (bp t))).1,T.ax,T.ad 3 c.ed (aN c.ds),T.ad 5 c.en (ba c.ns),T.ad 1 c.eh (enc c.hs),T.str c.p,T.ad 1 c.es (enc c.ss),T.ax,T.ax,RW ((dA M x.op x.nm x.n x.d (x.ks.map (bp t))).2).N,T.ax,T.ad 1 t.bits.isEmpty (bx t.bits),T.ad 1 t.to.isEmpty (enc t.to),EM ((dA M x.op x.nm x.n x.d (x.ks.map (bp t))).2).K]:=by
 intro f;induction f with
 | nil=>
  intro j a g w b m e;have o:¬(j:Int) < (x.ks.length:Int):=by have:=bt g;omega
  rw [Xj,WQ] at e;have q:false=a.isEmpty:=by cases a with
   | nil=>exact absurd rfl m
   | cons=>rfl
  have k1:=lP M (show M.N.length<=100000 by omega) x.op x.nm x.n x.d a false q (λy r=>by
   rw [e] at r;obtain⟨k,hm,rfl⟩:=WU.1 r;exact(l k hm).2.2.i64 (by omega)) (by omega) ho z v (by omega)
  rw [<-e];refine ai ?_;rw [FA];simp only [an,↓reduceIte,Int.reduceBEq,Int.reduceEq,o,k1,be,bd,Wq,aZ,aW,dI,dJ,de];rfl
 | cons k f B=>
  intro j a g w b m e;obtain⟨g1,E,u⟩:=br g;have o:(j:Int) < (x.ks.length:Int):=by omega
  have h0: 0<=(j:Int):=by omega
  obtain⟨G,k1,_⟩:=l k (Wx g1);have k2: 0<=k/\k < (t.to.length:Int):=by have:=(Wm.1 k1).1;omega
  have C:bA 8 (a.length+1)=some ():=cM (by omega);have A:=B (j+1) (a++ [bp t k]) u (by omega) (by simp [b]) (by simp) (by rw [<-e];simp);refine ai ?_;rw [FA];simp only [an,↓reduceIte,Int.reduceBEq,Int.reduceEq,o,h0,and_self,aD,bP g1,k2,fS k1,Wy,C,next j (by omega),fI];exact A
theorem JV{c:Cx}{t:Tr}{M:Mk}{x:Nd}{i:Nat}(o:c.ns[i]? =some x)(f:x.op≠22)(H:x.op=8->∃k1 r,x.ks=k1::r)(m:cG c t M i)(P:M.N.length<=40000)(A:x.ks.length<=100)(z:∀k∈x.ks,∃s',KW c i k s'/\aE s'=false)(ho:fv x.op)(B:fv x.n)(w:fv x.d)(hm:x.nm.size<=1000):
  Or (.call 19) [r0,I (i:Int)] [aa.box [Y'1,AV.t (T.ad 3 c.ed (aN c.ds)),AV.t (T.ad 5 c.en (ba c.ns)),AV.t (T.ad 1 c.eh (enc c.hs)),AV.t (T.str c.p),AV.t (T.ad 1 c.es (enc c.ss)),V'2,V'3],aa.box [V'4,V'5],aa.sl false 1 t.bits.isEmpty (bx t.bits),aa.sl false 1 t.to.isEmpty (enc t.to),aa.rows M.N.isEmpty 5 1 1 M.N.length (rows M.N),aa.mp false [Ck.s] (Ck.i .i64) (cC M.K)]=some [ti (dA M x.op x.nm x.n x.d (x.ks.map (bp t))).1,T.ax,T.ad 3 c.ed (aN c.ds),T.ad 5 c.en (ba c.ns),T.ad 1 c.eh (enc c.hs),T.str c.p,T.ad 1 c.es (enc c.ss),T.ax,T.ax,RW ((dA M x.op x.nm x.n x.d (x.ks.map (bp t))).2).N,T.ax,T.ad 1 t.bits.isEmpty (bx t.bits),T.ad 1 t.to.isEmpty (enc t.to),EM ((dA M x.op x.nm x.n x.d (x.ks.map (bp t))).2).K]:=by
 have v: 0<=(i:Int)/\(i:Int) < (c.ns.length:Int):=by have:=(Wm.1 o).1;omega
 have l:∀k∈x.ks,0<=k/\t.to[k.toNat]? =some (bp t k)/\In M (bp t k):=λk hm=>by obtain⟨s',g,G⟩:=z k hm;exact⟨g.h0,(g.plain m G).2⟩
 have a:Or qO [r0,Y'6,AV.t (T.aB true),ad x.ek x.ks,I (x.ks.length:Int),I 0] [aa.box [Y'1,AV.t (T.ad 3 c.ed (aN c.ds)),AV.t (T.ad 5 c.en (ba c.ns)),AV.t (T.ad 1 c.eh (enc c.hs)),AV.t (T.str c.p),AV.t (T.ad 1 c.es (enc c.ss)),V'2,V'3],aa.box [V'4,V'5],aa.sl false 1 t.bits.isEmpty (bx t.bits),aa.sl false 1 t.to.isEmpty (enc t.to),aa.rows M.N.isEmpty 5 1 1 M.N.length (rows M.N),aa.mp false [Ck.s] (Ck.i .i64) (cC M.K),aa.box [I x.op,ad x.ek x.ks,I x.n,I x.d,AV.t (T.str x.nm)]]=some [ti (dA M x.op x.nm x.n x.d (x.ks.map (bp t))).1,T.ax,T.ad 3 c.ed (aN c.ds),T.ad 5 c.en (ba c.ns),T.ad 1 c.eh (enc c.hs),T.str c.p,T.ad 1 c.es (enc c.ss),T.ax,T.ax,RW ((dA M x.op x.nm x.n x.d (x.ks.map (bp t))).2).N,T.ax,T.ad 1 t.bits.isEmpty (bx t.bits),T.ad 1 t.to.isEmpty (enc t.to),EM ((dA M x.op x.nm x.n x.d (x.ks.map (bp t))).2).K]:=by
  cases b:x.ks with
  | nil=>have k1:=lP M (show M.N.length<=100000 by omega) x.op x.nm x.n x.d [] true rfl (λy J=>by cases J) (by simp) ho B w (by omega);replace k1:Or (.call 38) [r0,I x.op,AV.t (T.str x.nm),I x.n,I x.d,AV.t (T.ad 1 true [])] (dW M)=_:=k1;refine ai ?_;rw [Fz];simp only [an,↓reduceIte,Int.reduceBEq,Int.reduceEq,WN,W3,Xb,decide_false,k1,be,bd,Wq,aZ,aW,dI,dJ,de];rfl
  | cons k q=>
   obtain⟨Q,k1,_⟩:=l k (by rw [b];exact Wl);have k2: 0<=k/\k < (t.to.length:Int):=by have:=(Wm.1 k1).1;omega
   have C:=QK (c:=c) (t:=t) (M:=M) (x:=x) m.ok (by omega) A l ho B w hm q 1 [bp t k] (by rw [b];rfl) (by rw [b];simp) rfl (by simp) (by rw [b];rfl);have g:(0:Int) < (((k::q).length:Nat):Int):=by simp
   have h0:(0:Int)<=0:=by omega
   have g1:(enc (k::q))[(0:Int).toNat]? =some [ti k]:=rfl;have h:i64.wrap (0+1)= ((1:Nat):Int):=by decide
   rw [b] at C;refine ai ?_;rw [Fz];simp only [an,↓reduceIte,Int.reduceBEq,Int.reduceEq,g,h0,and_self,aD,g1,k2,fS k1,h];exact C
 have j:(x.op==22)=false:=by simpa using f
 by_cases c8:x.op=8
 .obtain⟨k1,r,e⟩:=H c8;have F:(0:Int)<=0/\(0:Int) < ((x.ks.length:Nat):Int):=by rw [e];simp
  have g0:(enc x.ks)[0]? =some [ti k1]:=by rw [e];rfl
  obtain⟨s',h,O⟩:=z k1 (by rw [e];exact Wl);obtain⟨u,_⟩:=h.plain m O;have L: 0<=k1/\k1 < (t.bits.length:Int):=by have:=(Wm.1 u).1;have:=h.h0;omega
  have E:(bx t.bits)[k1.toNat]? =some [LO []]:=by simp [bx,u]
  refine ai ?_;rw [yh];simp (maxSteps:=1000000) only [an,↓reduceIte,Int.reduceBEq,Int.reduceEq,v,F,and_self,dR,gf o,c8,j,f,aD,g0,L,pT,E,de,Y9,Ws];rw [c8] at a;exact a
 .have D:(x.op==8)=false:=by simpa using c8
  refine ai ?_;rw [yh];simp (maxSteps:=1000000) only [an,↓reduceIte,Int.reduceBEq,Int.reduceEq,v,and_self,dR,gf o,j,D,f,c8,bE,aD];exact a
structure oe (c:Cx) (i:Nat) (x:Nd) (s:Int):Prop where
 op: 1<=x.op/\x.op<=25
 kl:x.ks.length<=8
 n: -1000000<=x.n/\x.n<=1000000
 d: -1000000<=x.d/\x.d<=1000000
 nm:x.nm.size<=12
 k:∀k∈x.ks,∃s',KW c i k s'
 c3:x.op=3->∃k r,x.ks=k::r
 c7:x.op=7->∃a b d,x.ks= [a,b,d]/\KW c i a 1/\KW c i b s/\KW c i d s
 c8:x.op=8->aE s=false/\∃a b s',x.ks= [a,b]/\((aE s'=true/\KW c i a s'/\KW c i b s')\/∀k∈x.ks,∃s',KW c i k s'/\aE s'=false)
 fh:x.op=15->x.ks= []/\1<=x.d/\x.d<=8/\0<=x.n/\x.n < 2 ^ x.d.toNat/\s=10+x.d
 dZ:x.op=16\/x.op=23->aE s=true/\∃a,x.ks= [a]/\KW c i a s
 gy: 17<=x.op->x.op<=21->aE s=true/\∃a b,x.ks= [a,b]/\KW c i a s/\KW c i b s
 dP:x.op=22->aE s=false/\∃a b s',aE s'=true/\x.ks= [a,b]/\KW c i a s'/\KW c i b s'
 bH:x.op=23->0<=x.n/\x.n<=8
 pl:x.op≠7->x.op≠8->(x.op < 15\/24<=x.op)->(x.op≠9->aE s=false)/\∀k∈x.ks,∃s',KW c i k s'/\aE s'=false
def gq(c:Cx)(t:Tr)(M:Mk)(x:Nd)(s:Int):List Int×Mk:=
 if x.op=9 then dC M (c.p++it (bm c.ds x.nm)++us) (x.ks.map (bp t)) 0 (s - 10).toNat
 else if x.op=7 then aT (dt (bp t (x.ks.getD 0 0))) M (aG t (x.ks.getD 1 0)) (aG t (x.ks.getD 2 0))
 else if x.op=15 then fQ M x.n 0 x.d.toNat
 else if x.op=16 then fU M (aG t (x.ks.getD 0 0))
 else if x.op=17 then aT cA M (aG t (x.ks.getD 0 0)) (aG t (x.ks.getD 1 0))
 else if x.op=18 then aT eS M (aG t (x.ks.getD 0 0)) (aG t (x.ks.getD 1 0))
 else if x.op=19 then aT bJ M (aG t (x.ks.getD 0 0)) (aG t (x.ks.getD 1 0))
 else if x.op=20 then eu M (aG t (x.ks.getD 0 0)) (aG t (x.ks.getD 1 0))
 else if x.op=21 then jt M (aG t (x.ks.getD 0 0)) (aG t (x.ks.getD 1 0))
 else bG M (aG t (x.ks.getD 0 0)) x.n
def gZ(t:Tr)(M:Mk)(x:Nd):Int×Mk:=
 if x.op=22 then me M (aG t (x.ks.getD 0 0)) (aG t (x.ks.getD 1 0))
 else if x.op=8/\(aG t (x.ks.getD 0 0)).isEmpty=false then oZ M (aG t (x.ks.getD 0 0)) (aG t (x.ks.getD 1 0))
 else dA M x.op x.nm x.n x.d (x.ks.map (bp t))
theorem yY{l:List Int}(h: 1<=l.length):l.isEmpty=false:=by cases l with
 | nil=>simp at h
 | cons=>rfl
theorem yU{l:List Int}{n:Nat}(h:l.length=n)(a: 1<=n):T.ad 1 false (enc l)=T.ad 1 l.isEmpty (enc l):=by rw [yY (l:=l) (by omega)]
theorem yM:aE 1=false:=rfl
theorem K9{c:Cx}{t:Tr}{M:Mk}{x:Nd}{i:Nat}{s:Int}(F:c.ns[i]? =some x)(hs:c.ss[i]? =some s)(m:aE s=true)(ok:oe c i x s)(l:cG c t M i)(hds:c.ds.length<=100)(hp:c.p.size<=100)(E:M.N.length<=40000):
  Or (.call 18) [r0,I (i:Int)] [aa.box [Y'1,AV.t (T.ad 3 c.ed (aN c.ds)),AV.t (T.ad 5 c.en (ba c.ns)),AV.t (T.ad 1 c.eh (enc c.hs)),AV.t (T.str c.p),AV.t (T.ad 1 c.es (enc c.ss)),V'2,V'3],aa.box [V'4,V'5],aa.sl false 1 t.bits.isEmpty (bx t.bits),aa.sl false 1 t.to.isEmpty (enc t.to),aa.rows M.N.isEmpty 5 1 1 M.N.length (rows M.N),aa.mp false [Ck.s] (Ck.i .i64) (cC M.K)]=some [T.ad 1 (gq c t M x s).1.isEmpty (enc (gq c t M x s).1),T.ax,T.ad 3 c.ed (aN c.ds),T.ad 5 c.en (ba c.ns),T.ad 1 c.eh (enc c.hs),T.str c.p,T.ad 1 c.es (enc c.ss),T.ax,T.ax,RW ((gq c t M x s).2).N,T.ax,T.ad 1 t.bits.isEmpty (bx t.bits),T.ad 1 t.to.isEmpty (enc t.to),EM ((gq c t M x s).2).K]/\
   Up M (gq c t M x s).2 1000/\(∀y∈(gq c t M x s).1,In (gq c t M x s).2 y)/\((gq c t M x s).1.length:Int)=s - 10:=by
 have hl:=gL m;have L:∀{a b:Int},x.ks= [a,b]->x.ks.getD 0 0=a/\x.ks.getD 1 0=b:=λe=>by rw [e];exact⟨rfl,rfl⟩
 unfold gq;by_cases c9:x.op=9
 .have hk:=(ok.pl (by omega) (by omega) (by omega)).2;have hkin:∀y∈x.ks.map (bp t),In M y:=λy hy=>by
   obtain⟨k,hm,rfl⟩:=WU.1 hy;obtain⟨s',h1,h4⟩:=hk k hm;exact(h1.plain l h4).2.2
  have q:=S7 F hs c9 m l hds hp (by have:=ok.kl;omega) hk E;obtain⟨o,u,u3⟩:=Ix (pre:=c.p++it (bm c.ds x.nm)++us) (kids:=x.ks.map (bp t)) (k:=(s - 10).toNat) (b:=0) l.ok hkin (by have:=ok.kl;simp;omega);rw [yU u3 (by omega)] at q;rw [if_pos c9];exact⟨q,o.mono (by omega),u,by omega⟩
 rw [if_neg c9];by_cases c7:x.op=7
 .obtain⟨a,b,d,j,w0,r,v⟩:=ok.c7 c7;have q:=S6 F c7 j w0 yM r v m l E;obtain⟨_,_,p2⟩:=w0.plain l yM;obtain⟨O,P,w⟩:=r.word l m;obtain⟨S,U,C⟩:=v.word l m;have up:Up M (aT (dt (bp t a)) M (aG t b) (aG t d)).2 (1 * (aG t b).length)/\(∀y∈(aT (dt (bp t a)) M (aG t b) (aG t d)).1,In (aT (dt (bp t a)) M (aG t b) (aG t d)).2 y)/\(aT (dt (bp t a)) M (aG t b) (aG t d)).1.length= (aG t b).length:=by
   have gen:∀(D B:List Int) (A:Mk),Ok A->In A (bp t a)->(∀y∈D,In A y)->(∀y∈B,In A y)->D.length=B.length->
     Up A (aT (dt (bp t a)) A D B).2 (1 * D.length)/\(∀y∈(aT (dt (bp t a)) A D B).1,In (aT (dt (bp t a)) A D B).2 y)/\(aT (dt (bp t a)) A D B).1.length=D.length:=by
    intro D;induction D with
    | nil=>intro B A h0 _ _ _ _;rw [show aT (dt (bp t a)) A [] B= ([],A) by simp [aT]];exact⟨Up.refl h0,λy hy=>(by cases hy),rfl⟩
    | cons y D ih=>
     intro B A h0 hc h1 h2 e;cases B with
     | nil=>cases e
     | cons z B=>
      obtain⟨o,u⟩:=CD h0 hc (h1 y Wl) (h2 z Wl);obtain⟨h3,h4,h5⟩:=ih B _ o.ok (o.In hc) (o.all λz Q=>h1 z (Wn _ Q)) (o.all λz Q=>h2 z (Wn _ Q)) (by simpa using e);refine⟨(o.trans h3).mono (by rw [Wz];omega),λz Q=> ?_,by simp [aT,h5]⟩;rcases WC.1 Q with rfl | Q
      .exact h3.In u
      .exact h4 z Q
   exact gen _ _ M l.ok p2 w C (by omega)
  obtain⟨o,u,u3⟩:=up;have g:x.ks.getD 0 0=a/\x.ks.getD 1 0=b/\x.ks.getD 2 0=d:=by rw [j];exact⟨rfl,rfl,rfl⟩
  rw [yU u3 (by omega)] at q;rw [if_pos c7,g.1,g.2.1,g.2.2];exact⟨q,o.mono (by omega),u,by omega⟩
 rw [if_neg c7];by_cases fh:x.op=15
 .obtain⟨j,aL,hd2,hn1,hn2,hs'⟩:=ok.fh fh;have q:=SY F fh ⟨aL,hd2⟩ l E;obtain⟨o,u,u3⟩:=ER (n:=x.n) (k:=x.d.toNat) (b:=0) l.ok;rw [yU u3 (by omega)] at q;rw [if_pos fh];exact⟨q,o.mono (by omega),u,by omega⟩
 rw [if_neg fh];by_cases dZ:x.op=16
 .obtain⟨_,a,j,r⟩:=ok.dZ (.inl dZ);have q:=SZ F dZ j r m l E;obtain⟨O,P,w⟩:=r.word l m;obtain⟨o,u,u3⟩:=II l.ok w;rw [yU u3 (by omega)] at q;rw [if_pos dZ,show x.ks.getD 0 0=a by rw [j];rfl];exact⟨q,o.mono (by omega),u,by omega⟩
 rw [if_neg dZ];by_cases gy:x.op=17
 .obtain⟨_,a,b,j,r,v⟩:=ok.gy (by omega) (by omega);have q:=S0 F gy j r v m l E;obtain⟨O,P,w⟩:=r.word l m;obtain⟨S,U,C⟩:=v.word l m;obtain⟨o,u,u3⟩:=tB (f:=cA) (c:=1) (λM a b h Z hb=>iS h Z hb) l.ok w C (show(aG t a).length= (aG t b).length by omega);obtain⟨G,H⟩:=L j;rw [if_pos gy,G,H];refine⟨q,o.mono ?_,u,by omega⟩;have R:(aG t a).length<=8:=by omega
  have J:(aG t b).length<=8:=by omega
  omega
 rw [if_neg gy];by_cases V:x.op=18
 .obtain⟨_,a,b,j,r,v⟩:=ok.gy (by omega) (by omega);have q:=S1 F V j r v m l E;obtain⟨O,P,w⟩:=r.word l m;obtain⟨S,U,C⟩:=v.word l m;obtain⟨o,u,u3⟩:=tB (f:=eS) (c:=1) (λM a b h Z hb=>r9 h Z hb) l.ok w C (show(aG t a).length= (aG t b).length by omega);obtain⟨G,H⟩:=L j;rw [if_pos V,G,H];refine⟨q,o.mono ?_,u,by omega⟩;have R:(aG t a).length<=8:=by omega
  have J:(aG t b).length<=8:=by omega
  omega
 rw [if_neg V];by_cases W:x.op=19
 .obtain⟨_,a,b,j,r,v⟩:=ok.gy (by omega) (by omega);have q:=S2 F W j r v m l E;obtain⟨O,P,w⟩:=r.word l m;obtain⟨S,U,C⟩:=v.word l m;obtain⟨o,u,u3⟩:=tB (f:=bJ) (c:=2) (λM a b h Z hb=>qE h Z hb) l.ok w C (show(aG t a).length= (aG t b).length by omega);obtain⟨G,H⟩:=L j;rw [if_pos W,G,H];refine⟨q,o.mono ?_,u,by omega⟩;have R:(aG t a).length<=8:=by omega
  have J:(aG t b).length<=8:=by omega
  omega
 rw [if_neg W];by_cases X:x.op=20
 .obtain⟨_,a,b,j,r,v⟩:=ok.gy (by omega) (by omega);have q:=S3 F X j r v m l E;obtain⟨O,P,w⟩:=r.word l m;obtain⟨S,U,C⟩:=v.word l m;obtain⟨o,u,u3⟩:=Kw l.ok w C (show(aG t a).length= (aG t b).length by omega);obtain⟨G,H⟩:=L j;rw [if_pos X,G,H];refine⟨q,o.mono ?_,u,by omega⟩;have R:(aG t a).length<=8:=by omega
  have J:(aG t b).length<=8:=by omega
  omega
 rw [if_neg X];by_cases Y:x.op=21
 .obtain⟨_,a,b,j,r,v⟩:=ok.gy (by omega) (by omega);have q:=S4 F Y j r v m l E;obtain⟨O,P,w⟩:=r.word l m;obtain⟨S,U,C⟩:=v.word l m;obtain⟨o,u,u3⟩:=UK l.ok w C;obtain⟨G,H⟩:=L j;rw [if_pos Y,G,H];refine⟨q,o.mono ?_,u,by omega⟩;have R:(aG t a).length<=8:=by omega
  have J:(aG t b).length<=8:=by omega
  have:=ZG (show 9 * (aG t a).length+1<=73 by omega) J;omega
 rw [if_neg Y];have bH:x.op=23:=by
  rcases YN (x.op=23) with h | h
  .exact h
  .exfalso;have hop:=ok.op;by_cases dP:x.op=22
   .rw [(ok.dP dP).1] at m;cases m
   by_cases c8:x.op=8
   .rw [(ok.c8 c8).1] at m;cases m
   .have:=(ok.pl c7 c8 (by omega)).1 c9;rw [this] at m;cases m
 obtain⟨_,a,j,r⟩:=ok.dZ (.inr bH);have hn:=ok.bH bH;have q:=S5 F bH j r hn m l E;obtain⟨O,P,w⟩:=r.word l m;obtain⟨o,u,u3⟩:=vX (n:=x.n) hn.1 l.ok w;rw [show x.ks.getD 0 0=a by rw [j];rfl];exact⟨q,o.mono (by omega),u,by omega⟩
theorem I5{c:Cx}{t:Tr}{M:Mk}{x:Nd}{i:Nat}{s:Int}(D:c.ns[i]? =some x)(u:aE s=false)(ok:oe c i x s)(g:cG c t M i)(C:M.N.length<=40000):
  Or (.call 19) [r0,I (i:Int)] [aa.box [Y'1,AV.t (T.ad 3 c.ed (aN c.ds)),AV.t (T.ad 5 c.en (ba c.ns)),AV.t (T.ad 1 c.eh (enc c.hs)),AV.t (T.str c.p),AV.t (T.ad 1 c.es (enc c.ss)),V'2,V'3],aa.box [V'4,V'5],aa.sl false 1 t.bits.isEmpty (bx t.bits),aa.sl false 1 t.to.isEmpty (enc t.to),aa.rows M.N.isEmpty 5 1 1 M.N.length (rows M.N),aa.mp false [Ck.s] (Ck.i .i64) (cC M.K)]=some [ti (gZ t M x).1,T.ax,T.ad 3 c.ed (aN c.ds),T.ad 5 c.en (ba c.ns),T.ad 1 c.eh (enc c.hs),T.str c.p,T.ad 1 c.es (enc c.ss),T.ax,T.ax,RW ((gZ t M x).2).N,T.ax,T.ad 1 t.bits.isEmpty (bx t.bits),T.ad 1 t.to.isEmpty (enc t.to),EM ((gZ t M x).2).K]/\Up M (gZ t M x).2 1000/\In (gZ t M x).2 (gZ t M x).1:=by
 have Y:=ok.op;have hn:=ok.n;have hd:=ok.d;have A:∀{a b:Int},x.ks= [a,b]->x.ks.getD 0 0=a/\x.ks.getD 1 0=b:=λe=>by rw [e];exact⟨rfl,rfl⟩
 have E:(∀k∈x.ks,∃s',KW c i k s'/\aE s'=false)->∀y∈x.ks.map (bp t),In M y:=λo y W=>by obtain⟨k,hm,rfl⟩:=WU.1 W;obtain⟨s',H,V⟩:=o k hm;exact(H.plain g V).2.2
 unfold gZ;by_cases dP:x.op=22
 .obtain⟨_,a,b,s',j,f,l,m⟩:=ok.dP dP;have hl:=gL j;have q:=S8 D dP f l m j g C;obtain⟨L,O,F⟩:=l.word g j;obtain⟨P,Q,G⟩:=m.word g j;obtain⟨_,v,w⟩:=J1 g.ok (ea:=true) (eb:=true) (a:=aG t a) (b:=aG t b) (by omega) (by omega) F G (by omega);obtain⟨z,B⟩:=A f;rw [if_pos dP,z,B];exact⟨q,v.mono (by omega),w⟩
 rw [if_neg dP];by_cases c8:x.op=8
 .obtain⟨_,a,b,s',f,⟨j,l,m⟩ | o⟩:=ok.c8 c8
  .have hl:=gL j;have q:=S9 D c8 f l m j g C;obtain⟨L,O,F⟩:=l.word g j;obtain⟨P,Q,G⟩:=m.word g j;obtain⟨v,w⟩:=Ud g.ok (show(aG t a).length= (aG t b).length by omega) F G;obtain⟨z,B⟩:=A f;rw [z,B,if_pos ⟨c8,yY (by omega)⟩];exact⟨q,v.mono (by omega),w⟩
  .have q:=JV D dP (λ_=>⟨a,[b],f⟩) g C (by have:=ok.kl;omega) o ⟨by omega,by omega⟩ ⟨by omega,by omega⟩ ⟨by omega,by omega⟩ (by have:=ok.nm;omega);obtain⟨v,w⟩:=lL g.ok x.op x.nm x.n x.d (x.ks.map (bp t)) (E o) (λe=>by omega) (by have:=ok.kl;simp;omega);obtain⟨z,B⟩:=A f;obtain⟨s2,l,m⟩:=o a (by rw [f];exact Wl);obtain⟨R,_⟩:=l.plain g m;have S:aG t a= []:=by unfold aG;rw [Wp,R];rfl
   rw [if_neg (by rw [z,S];simp)];exact⟨q,v.mono (by omega),w⟩
 .have o:∀k∈x.ks,∃s',KW c i k s'/\aE s'=false:=by
   by_cases c7:x.op=7
   .obtain⟨a,b,d,f,X,l,m⟩:=ok.c7 c7;intro k hm;rw [f] at hm;simp only [WC,XE,or_false] at hm;rcases hm with rfl | rfl | rfl
    .exact⟨_,X,yM⟩
    .exact⟨_,l,u⟩
    .exact⟨_,m,u⟩
   .refine(ok.pl c7 c8 ?_).2;rcases YN (x.op < 15\/24<=x.op) with h | h
    .exact h
    .exfalso;by_cases fh:x.op=15
     .obtain⟨_,H,Z,_,_,U⟩:=ok.fh fh;subst U;unfold aE at u;simp at u;omega
     by_cases dZ:x.op=16\/x.op=23
     .rw [(ok.dZ dZ).1] at u;cases u
     .rw [(ok.gy (by omega) (by omega)).1] at u;cases u
  have q:=JV D dP (λe=>absurd e c8) g C (by have:=ok.kl;omega) o ⟨by omega,by omega⟩ ⟨by omega,by omega⟩ ⟨by omega,by omega⟩ (by have:=ok.nm;omega);obtain⟨v,w⟩:=lL g.ok x.op x.nm x.n x.d (x.ks.map (bp t)) (E o) (λe=>by
   obtain⟨k,r,J⟩:=ok.c3 e;exact⟨bp t k,r.map (bp t),by rw [J];rfl⟩) (by have:=ok.kl;simp;omega)
  rw [if_neg (λe=>c8 e.1)];exact⟨q,v.mono (by omega),w⟩
open Go Go.Aev Go.IntKind
def mZ(k:Nat)(p:Nd×Bool):Row:=Row.mk k [ti p.1.op,T.ax,ti p.1.n,ti p.1.d,T.str p.1.nm] (cond p.2 none (some (p.1.ek,enc p.1.ks)))
def ft:Nat->List (Nd×Bool)->List Row
 | _,[]=> []
 | k,p::r=>mZ k p::ft (k+1) r
theorem wR:∀(k:Nat) (l:List (Nd×Bool)),(ft k l).length=l.length
 | _,[]=>rfl
 | k,p::r=>by rw [ft,Wz,wR,Wz]
theorem JD:∀{k:Nat} {l:List (Nd×Bool)} {i:Nat} {p:Nd×Bool},l[i]? =some p->(ft k l)[i]? =some (mZ (k+i) p)
 | _,[],_,_,h=>by simp at h
 | k,y::r,0,x,h=>by simp at h;subst h;rfl
 | k,y::r,i+1,x,h=>by rw [ft,XH,JD (by simpa using h),show k+1+i=k+ (i+1) by omega]
theorem JC:∀{k:Nat} {l:List (Nd×Bool)} {i:Nat} {x:Nd},l[i]? =some (x,false)->cP (k+i) (ft k l)=some (x.ek,enc x.ks)
 | _,[],_,_,h=>by simp at h
 | k,y::r,0,x,h=>by simp at h;subst h;simp [ft,mZ,cP]
 | k,y::r,i+1,x,h=>by have a:=JC (k:=k+1) (l:=r) (i:=i) (x:=x) (by simpa using h);rw [show k+1+i=k+ (i+1) by omega] at a;rw [ft,cP,if_neg (by simp [mZ]),a]
theorem JF{ks:List Int}:∀{k:Nat} {l:List (Nd×Bool)} {i:Nat} {x:Nd} {g:Bool},l[i]? =some (x,g)->dG (k+i) (some (x.ek,enc ks)) (ft k l)=ft k (l.set i (⟨x.op,x.ek,ks,x.n,x.d,x.nm⟩,false))
 | _,[],_,_,_,h=>by simp at h
 | k,y::r,0,x,g,h=>by simp at h;subst h;simp [ft,mZ,dG]
 | k,y::r,i+1,x,g,h=>by have a:=JF (ks:=ks) (k:=k+1) (l:=r) (i:=i) (x:=x) (g:=g) (by simpa using h);rw [show k+1+i=k+ (i+1) by omega] at a;rw [ft,dG,if_neg (by simp [mZ]),a,YG,ft]
theorem JE:∀{k:Nat} {l:List (Nd×Bool)} {i:Nat} {x:Nd} {g:Bool},l[i]? =some (x,g)->dG (k+i) none (ft k l)=ft k (l.set i (x,true))
 | _,[],_,_,_,h=>by simp at h
 | k,y::r,0,x,g,h=>by simp at h;subst h;simp [ft,mZ,dG]
 | k,y::r,i+1,x,g,h=>by have a:=JE (k:=k+1) (l:=r) (i:=i) (x:=x) (g:=g) (by simpa using h);rw [show k+1+i=k+ (i+1) by omega] at a;rw [ft,dG,if_neg (by simp [mZ]),a,YG,ft]
theorem JB:∀(k:Nat) (l:List Nd),ft k (l.map λx=>(x,false))=gO k l
 | _,[]=>rfl
 | k,x::r=>by rw [WL,ft,JB (k+1) r];rfl
def eW(l:List Bool):List (List T):=l.map λb=> [tb b]
theorem nI(l:List Bool):(eW l).length=l.length:=by simp [eW]
theorem rB{l:List Bool}{i:Nat}{b:Bool}(h:l[i]? =some b):(eW l)[i]? =some [tb b]:=by simp [eW,h]
theorem Kr{l:List Bool}{i:Nat}(v:Bool)(h:i < l.length):iZ i 0 [tb v] (eW l)=some (eW (l.set i v)):=by unfold iZ;rw [rB (Wv h)];simp [cH,eW]
theorem zK{l:List Int}{i:Nat}(v:Int)(h:i < l.length):iZ i 0 [ti v] (enc l)=some (enc (l.set i v)):=by unfold iZ;rw [fS (Wv h)];simp [cH,enc]
def eG(need:List Bool):List Int->List Bool
 | []=>need
 | k::r=>eG (need.set k.toNat true) r
theorem rW:∀(ks:List Int) (need:List Bool),(eG need ks).length=need.length
 | [],_=>rfl
 | k::r,need=>by rw [eG,rW r,Yg]
def back(N:List Nd)(need:List Bool):Nat->List Bool
 | 0=>need
 | i+1=>back N (if need.getD i false then eG need ((N.getD i ⟨0,true,[],0,0,s0⟩).ks) else need) i
theorem Ep(N:List Nd):∀(i:Nat) (need:List Bool),(back N need i).length=need.length
 | 0,_=>rfl
 | i+1,need=>by rw [back,Ep N i];split <;> simp [rW]
def eJ(need:List Bool):Nat->List Nd->List Int->List Nd->List Int×List Nd
 | _,[],to,out=>(to,out)
 | i,x::r,to,out=>
  if need.getD i false then eJ need (i+1) r (to.set i (out.length:Int)) (out++ [⟨x.op,x.ek,x.ks.map λk=>(to.set i (out.length:Int)).getD k.toNat 0,x.n,x.d,x.nm⟩])
  else eJ need (i+1) r to out
def ja(N:List Nd)(hold:List Int):List Nd×List Int:=
 let need:=back N (eG (List.replicate N.length false) hold) N.length;let q:=eJ need 0 N (List.replicate N.length 0) []
 (q.2,hold.map λk=>q.1.getD k.toNat 0)
abbrev dr:aa:=aa.box [AV.t (T.aB true),AV.t (T.aB true),AV.t (T.aB true)]
theorem QQ{N:List Nd}{eh:Bool}{hold:List Int}{ed:Bool}{ds:List (List T)}(hl:hold.length<=1000){r:List T}:∀(a:List Int) (j:Nat) (need:List Bool),hold.drop j=a->need.length=N.length->N.length<=100000->(∀k∈a,0<=k/\k < (N.length:Int))->
  Or oc [Y'2,Y'3,o4,I ((N.length:Int) - 1)] [aa.rows N.isEmpty 5 1 1 N.length (rows N),aa.sl false 1 eh (enc hold),aa.box [AV.t (T.ad 3 ed ds),o0,o1],dr,aa.sl false 1 false (eW (eG need a))]=some r->
  Or xq [Y'2,Y'3,o4,o1,I (hold.length:Int),I (j:Int)] [aa.rows N.isEmpty 5 1 1 N.length (rows N),aa.sl false 1 eh (enc hold),aa.box [AV.t (T.ad 3 ed ds),o0,o1],dr,aa.sl false 1 false (eW need)]=some r:=by
 intro a;induction a with
 | nil=>
  intro j need g f h e b;have d:¬(j:Int) < (hold.length:Int):=by have:=bt g;omega
  have w:i64.wrap ((N.length:Int) - 1)= (N.length:Int) - 1:=wr (by omega);rw [eG] at b;refine ai ?_;rw [FG];simp only [an,↓reduceIte,Int.reduceBEq,Int.reduceEq,d,nI,f,w];exact b
 | cons k a s=>
  intro j need g f h e b;obtain⟨g1,v,n⟩:=br g;have d:(j:Int) < (hold.length:Int):=by omega
  have h0: 0<=(j:Int):=by omega
  have u:=e k Wl;have o: 0<=k/\k < (need.length:Int):=by omega
  have m:=Kr (l:=need) (i:=k.toNat) true (by omega);rw [eG] at b;have q:=s (j+1) (need.set k.toNat true) n (by simp [f]) h (λy p=>e y (Wn _ p)) b;refine ai ?_;rw [FG];simp only [an,↓reduceIte,Int.reduceBEq,Int.reduceEq,d,h0,and_self,aD,bP g1,nI,o,m,next j (by omega)];exact q
theorem QP{N:List Nd}{eh:Bool}{hold:List Int}{ed:Bool}{ds:List (List T)}{i:Nat}{x:Nd}(m:N[i]? =some x)(v:x.ks.length<=1000)(A:N.length<=100000){r:List T}:∀(a:List Int) (j:Nat) (need:List Bool),x.ks.drop j=a->need.length=N.length->(∀k∈a,0<=k/\k < (N.length:Int))->
  Or oc [Y'2,Y'3,o4,I ((i:Int) - 1)] [aa.rows N.isEmpty 5 1 1 N.length (rows N),aa.sl false 1 eh (enc hold),aa.box [AV.t (T.ad 3 ed ds),o0,o1],dr,aa.sl false 1 false (eW (eG need a))]=some r->
  Or xp [Y'2,Y'3,o4,I (i:Int),AV.row (Id.c 0) i,I (x.ks.length:Int),I (j:Int)] [aa.rows N.isEmpty 5 1 1 N.length (rows N),aa.sl false 1 eh (enc hold),aa.box [AV.t (T.ad 3 ed ds),o0,o1],dr,aa.sl false 1 false (eW need)]=some r:=by
 have B:i < N.length:=(Wm.1 m).1;intro a;induction a with
 | nil=>
  intro j need g f e b;have d:¬(j:Int) < (x.ks.length:Int):=by have:=bt g;omega
  have w:i64.wrap ((i:Int) - 1)= (i:Int) - 1:=wr (by omega);rw [eG] at b;refine ai ?_;rw [FD];simp only [an,↓reduceIte,Int.reduceBEq,Int.reduceEq,d,w];exact b
 | cons k a s=>
  intro j need g f e b;obtain⟨g1,z,n⟩:=br g;have d:(j:Int) < (x.ks.length:Int):=by omega
  have h0: 0<=(j:Int):=by omega
  have u:=e k Wl;have o: 0<=k/\k < (need.length:Int):=by omega
  have h:=Kr (l:=need) (i:=k.toNat) true (by omega);rw [eG] at b;have q:=s (j+1) (need.set k.toNat true) n (by simp [f]) (λy p=>e y (Wn _ p)) b;refine ai ?_;rw [FD];simp only [an,↓reduceIte,Int.reduceBEq,Int.reduceEq,d,h0,and_self,CW m,aD,bP g1,nI,o,h,next j (by omega)];exact q
theorem QL{N:List Nd}{eh:Bool}{hold:List Int}{ed:Bool}{ds:List (List T)}(s:N.length<=100000)(l:∀x∈N,x.ks.length<=1000)(m:∀(i:Nat) (x:Nd),N[i]? =some x->∀k∈x.ks,0<=k/\k < (i:Int)){r:List T}:∀(i:Nat) (need:List Bool),i<=N.length->need.length=N.length->
  Or oc [Y'2,Y'3,o4,I (-1)] [aa.rows N.isEmpty 5 1 1 N.length (rows N),aa.sl false 1 eh (enc hold),aa.box [AV.t (T.ad 3 ed ds),o0,o1],dr,aa.sl false 1 false (eW (back N need i))]=some r->
  Or oc [Y'2,Y'3,o4,I ((i:Int) - 1)] [aa.rows N.isEmpty 5 1 1 N.length (rows N),aa.sl false 1 eh (enc hold),aa.box [AV.t (T.ad 3 ed ds),o0,o1],dr,aa.sl false 1 false (eW need)]=some r:=by
 intro i;induction i with
 | zero=>intro need _ e a;exact a
 | succ i o=>
  intro need y e a;have g:i < N.length:=by omega
  have p:(((i+1:Nat):Int) - 1)= (i:Int):=by omega
  have j:(i:Int)>=0:=by omega
  have h0: 0<=(i:Int)/\(i:Int) < (need.length:Int):=by omega
  have q: 0<=(i:Int)/\(i:Int) < (N.length:Int):=by omega
  have b:=Wv g;have d:need[i]? =some (need.getD i false):=by rw [Wp,Wv (by omega)];rfl
  have w:i64.wrap ((i:Int) - 1)= (i:Int) - 1:=wr (by omega);rw [p];rw [back] at a;cases f:need.getD i false with
  | false=>rw [f] at a d;have h:=o need (by omega) e (by simpa using a);refine ai ?_;rw [AZ];simp only [an,↓reduceIte,Int.reduceBEq,Int.reduceEq,j,h0,and_self,nI,WW,rB d,w];exact h
  | true=>
   rw [f] at a d;have n:N.getD i ⟨0,true,[],0,0,s0⟩=N[i]:=by rw [Wp,b];rfl
   rw [n] at a;have h:=o (eG need N[i].ks) (by omega) (by rw [rW,e]) (by simpa using a);have v:=QP (eh:=eh) (hold:=hold) (ed:=ed) (ds:=ds) b (l _ (YD g)) s N[i].ks 0 need rfl e (λk u=>by have:=m i _ b k u;omega) h;refine ai ?_;rw [AZ];simp only [an,↓reduceIte,Int.reduceBEq,Int.reduceEq,j,h0,q,and_self,nI,WW,rB d,aW,CX b,JA,CW b,aD];exact v
abbrev GR(L:List (Nd×Bool))(e:Bool)(n:Nat):aa:=aa.rows e 5 1 1 n (ft 0 L)
theorem yF{L:List (Nd×Bool)}{i:Nat}{p:Nd×Bool}(h:L[i]? =some p):(ft 0 L)[i]? =some (mZ i p):=by have:=JD (k:=0) h;rwa [WZ] at this
theorem tJ{L:List (Nd×Bool)}{i:Nat}{x:Nd}(h:L[i]? =some (x,false)):cP i (ft 0 L)=some (x.ek,enc x.ks):=by have:=JC (k:=0) h;rwa [WZ] at this
theorem G7{ks:List Int}{L:List (Nd×Bool)}{i:Nat}{x:Nd}{g:Bool}(h:L[i]? =some (x,g)):dG i (some (x.ek,enc ks)) (ft 0 L)=ft 0 (L.set i (⟨x.op,x.ek,ks,x.n,x.d,x.nm⟩,false)):=by have:=JF (ks:=ks) (k:=0) h;rwa [WZ] at this
theorem G6{L:List (Nd×Bool)}{i:Nat}{x:Nd}{g:Bool}(h:L[i]? =some (x,g)):dG i none (ft 0 L)=ft 0 (L.set i (x,true)):=by have:=JE (k:=0) h;rwa [WZ] at this
theorem Jy(k:Nat)(p:Nd×Bool):(mZ k p).n=k:=rfl
theorem zq(k:Nat)(p:Nd×Bool):(mZ k p).cs= [ti p.1.op,T.ax,ti p.1.n,ti p.1.d,T.str p.1.nm]:=rfl
abbrev dT(ed:Bool)(ds:List (List T))(x y:AV):aa:=aa.box [AV.t (T.ad 3 ed ds),x,y]
def jm(x:Nd):List T:= [ti x.op,T.ad 1 x.ek (enc x.ks),ti x.n,ti x.d,T.str x.nm]
theorem Iq{eh:Bool}{hold:List Int}{ed ee:Bool}{ds:List (List T)}{need:List Bool}{to:List Int}{i n:Nat}{x:Nd}(D:n<=100000)(B:x.ks.length<=1000)(w:∀k∈x.ks,0<=k/\k < (to.length:Int)){outB:AV}{more:List aa}{r:List T}
  (step:∀(L:List (Nd×Bool)) (j:Nat) (k v:Int) (a:List Int),(j:Int) < (x.ks.length:Int)->L[i]? =some (⟨x.op,x.ek,a,x.n,x.d,x.nm⟩,false)->a[j]? =some k->(0<=k/\k < (to.length:Int))->to[k.toNat]? =some v->j < a.length->a.length=x.ks.length->
   Or jb [Y'2,Y'3,o4,o5,Y'6,Y'7,o0,I (n:Int),I (i:Int),AV.row (Id.c 0) i,I (x.ks.length:Int),I ((j+1:Nat):Int)] ([GR (L.set i (⟨x.op,x.ek,a.set j v,x.n,x.d,x.nm⟩,false)) ee n,aa.sl false 1 eh (enc hold),dT ed ds o0 o1,dr,aa.sl false 1 false (eW need),aa.sl false 1 false (enc to),dT ed ds outB (AV.t (T.aB true)),aa.box [I x.op,AV.row (Id.c 0) i,I x.n,I x.d,AV.t (T.str x.nm)]] ++more)=some r->
   Or jb [Y'2,Y'3,o4,o5,Y'6,Y'7,o0,I (n:Int),I (i:Int),AV.row (Id.c 0) i,I (x.ks.length:Int),I (j:Int)] ([GR L ee n,aa.sl false 1 eh (enc hold),dT ed ds o0 o1,dr,aa.sl false 1 false (eW need),aa.sl false 1 false (enc to),dT ed ds outB (AV.t (T.aB true)),aa.box [I x.op,AV.row (Id.c 0) i,I x.n,I x.d,AV.t (T.str x.nm)]] ++more)=some r):
  ∀(b:List Int) (j:Nat) (L:List (Nd×Bool)) (a:List Int),x.ks.drop j=b->j<=x.ks.length->i < L.length->a.length=j->L[i]? =some (⟨x.op,x.ek,a++b,x.n,x.d,x.nm⟩,false)->
   Or jb [Y'2,Y'3,o4,o5,Y'6,Y'7,o0,I (n:Int),I (i:Int),AV.row (Id.c 0) i,I (x.ks.length:Int),I (x.ks.length:Int)] ([GR (L.set i (⟨x.op,x.ek,a++b.map (λk=>to.getD k.toNat 0),x.n,x.d,x.nm⟩,false)) ee n,aa.sl false 1 eh (enc hold),dT ed ds o0 o1,dr,aa.sl false 1 false (eW need),aa.sl false 1 false (enc to),dT ed ds outB (AV.t (T.aB true)),aa.box [I x.op,AV.row (Id.c 0) i,I x.n,I x.d,AV.t (T.str x.nm)]] ++more)=some r->
   Or jb [Y'2,Y'3,o4,o5,Y'6,Y'7,o0,I (n:Int),I (i:Int),AV.row (Id.c 0) i,I (x.ks.length:Int),I (j:Int)] ([GR L ee n,aa.sl false 1 eh (enc hold),dT ed ds o0 o1,dr,aa.sl false 1 false (eW need),aa.sl false 1 false (enc to),dT ed ds outB (AV.t (T.aB true)),aa.box [I x.op,AV.row (Id.c 0) i,I x.n,I x.d,AV.t (T.str x.nm)]] ++more)=some r:=by
 intro b;induction b with
 | nil=>
  intro j L a g u f e l h;have q:j=x.ks.length:=by have:=bt g;omega
  have m:L.set i (⟨x.op,x.ek,a++ ([]:List Int).map (λk=>to.getD k.toNat 0),x.n,x.d,x.nm⟩,false)=L:=by have s:=(Wm.1 l).2;rw [Xj,<-s,List.set_getElem_self]
  rw [m] at h;rw [q];exact h
 | cons k b A=>
  intro j L a g u f e l h;obtain⟨g1,C,o⟩:=br g;have p:=w k (Wx g1);have z:to[k.toNat]? =some (to.getD k.toNat 0):=by rw [Wp,Wv (by omega)];rfl
  have y:=E9 o (by omega);refine step L j k (to.getD k.toNat 0) (a++k::b) (by omega) l (by rw [WJ (by omega),e,Xx];rfl) p z (by simp;omega) (by simp;omega) ?_;have hs:(a++k::b).set j (to.getD k.toNat 0)= (a++ [to.getD k.toNat 0])++b:=by rw [List.set_append_right _ _ (by omega),e,Xx,YX,WV];rfl
  rw [hs];refine A (j+1) _ (a++ [to.getD k.toNat 0]) o (by omega) (by simpa using f) (by simp [e]) ?_ ?_
  .rw [X1 f]
  .rw [List.set_set];rw [WL] at h;simpa only [WV,W5] using h
def gK(need:List Bool)(i:Nat)(N:List Nd)(D:Nat->Nd):List (Nd×Bool):=N.mapIdx λj x=>if j < i then(if need.getD j false then(D j,true) else(x,false)) else(x,false)
theorem BM(need:List Bool)(i:Nat)(N:List Nd)(D:Nat->Nd):(gK need i N D).length=N.length:=by simp [gK]
theorem BK{need:List Bool}{i j:Nat}{N:List Nd}{D:Nat->Nd}{x:Nd}(h:N[j]? =some x):(gK need i N D)[j]? =some (if j < i then(if need.getD j false then(D j,true) else(x,false)) else(x,false)):=by unfold gK;rw [Yh,h];rfl
theorem Ha{need:List Bool}{i:Nat}{N:List Nd}{D:Nat->Nd}(h:need.getD i false=false):gK need (i+1) N D=gK need i N D:=by
 unfold gK;refine XU λj=> ?_;rw [Yh,Yh];cases N[j]? with
 | none=>rfl
 | some x=>
  simp only [X4];by_cases e:j=i
  .subst e;rw [if_pos (YQ _),h,if_neg (XY _)];rfl
  .by_cases a:j < i
   .rw [if_pos a,if_pos (by omega)]
   .rw [if_neg a,if_neg (by omega)]
theorem Hb{need:List Bool}{i:Nat}{N:List Nd}{D a:Nat->Nd}{y:Nd}(h:need.getD i false=true)(d:i < N.length)(c:a=λj=>if j=i then y else D j):gK need (i+1) N a= (gK need i N D).set i (y,true):=by
 refine XU λj=> ?_;by_cases e:j=i
 .subst e;rw [X1 (by rw [BM];exact d),BK (Wv d),if_pos (YQ _),h,c];simp
 .rw [Yi (Za e)];unfold gK;rw [Yh,Yh];cases N[j]? with
  | none=>rfl
  | some x=>
   simp only [X4];by_cases b:j < i
   .rw [if_pos b,if_pos (by omega),c];simp only [if_neg e]
   .rw [if_neg b,if_neg (by omega)]
theorem Py(need:List Bool)(N:List Nd)(D:Nat->Nd):gK need 0 N D=N.map λx=>(x,false):=by unfold gK;refine XU λj=> ?_;rw [Yh,Xh];cases N[j]? <;> simp
open Go Go.Aev Go.IntKind
abbrev MF(L:List (Nd×Bool))(ee eh ed:Bool)(n:Nat)(hold:List Int)(ds:List (List T))(need:List Bool)(to:List Int)(x:AV):List aa:=
 [GR L ee n,aa.sl false 1 eh (enc hold),dT ed ds o0 o1,dr,aa.sl false 1 false (eW need),aa.sl false 1 false (enc to),dT ed ds x (AV.t (T.aB true))]
theorem PB{eh ee ed:Bool}{hold:List Int}{ds:List (List T)}{need:List Bool}{to:List Int}{i n:Nat}{x:Nd}(z:n<=100000)(m:x.ks.length<=1000)(w:∀k∈x.ks,0<=k/\k < (to.length:Int)){L:List (Nd×Bool)}(g:i < L.length)(s:L[i]? =some (x,false)){r:List T}
  (e:Or jZ [Y'2,Y'3,o4,o5,Y'6,o0,I (n:Int),I ((i+1:Nat):Int)] (MF (L.set i (⟨x.op,x.ek,x.ks.map λk=>to.getD k.toNat 0,x.n,x.d,x.nm⟩,true)) ee eh ed n hold ds need to V'7++ [aa.sl false 5 false [jm ⟨x.op,x.ek,x.ks.map λk=>to.getD k.toNat 0,x.n,x.d,x.nm⟩]])=some r) (B:i<=100000):
  Or jb [Y'2,Y'3,o4,o5,Y'6,Y'7,o0,I (n:Int),I (i:Int),AV.row (Id.c 0) i,I (x.ks.length:Int),I 0] (MF L ee eh ed n hold ds need to (AV.t (T.aB true))++ [aa.box [I x.op,AV.row (Id.c 0) i,I x.n,I x.d,AV.t (T.str x.nm)]])=some r:=by
 refine Iq (need:=need) (outB:=AV.t (T.aB true)) (more:= []) z m w (λL j k v o p f l h A u y e=> ?_) x.ks 0 L [] rfl (Xr _) g rfl s ?_
 .have h0: 0<=(j:Int):=by omega
  have q:(j:Int) < (o.length:Int):=by omega
  refine ai ?_;show au aj ann Or jb _ [GR L ee n,aa.sl false 1 eh (enc hold),dT ed ds o0 o1,dr,aa.sl false 1 false (eW need),aa.sl false 1 false (enc to),dT ed ds (AV.t (T.aB true)) (AV.t (T.aB true)),aa.box [I x.op,AV.row (Id.c 0) i,I x.n,I x.d,AV.t (T.str x.nm)]]=_;rw [FE];simp only [an,↓reduceIte,Int.reduceBEq,Int.reduceEq,p,h0,and_self,tJ f,aD,q,fS l,h,fS A,WW,zK v u,next j (by omega)];have:=G7 (ks:=o.set j v) f;rw [this];exact e
 .have a:(L.set i (⟨x.op,x.ek,[] ++x.ks.map (λk=>to.getD k.toNat 0),x.n,x.d,x.nm⟩,false))[i]? =some (⟨x.op,x.ek,x.ks.map λk=>to.getD k.toNat 0,x.n,x.d,x.nm⟩,false):=by
   rw [X1 g];rfl
  have b:=G6 a;rw [List.set_set] at b;refine ai ?_;show au aj ann Or jb _ [GR (L.set i (⟨x.op,x.ek,[] ++x.ks.map (λk=>to.getD k.toNat 0),x.n,x.d,x.nm⟩,false)) ee n,aa.sl false 1 eh (enc hold),dT ed ds o0 o1,dr,aa.sl false 1 false (eW need),aa.sl false 1 false (enc to),dT ed ds (AV.t (T.aB true)) (AV.t (T.aB true)),aa.box [I x.op,AV.row (Id.c 0) i,I x.n,I x.d,AV.t (T.str x.nm)]]=_;rw [FE];simp only [an,↓reduceIte,Int.reduceBEq,Int.reduceEq,Xb,decide_false,tJ a,b,next i (by omega)];exact e
theorem PC{eh ee ed:Bool}{hold:List Int}{ds:List (List T)}{need:List Bool}{to:List Int}{i n:Nat}{x:Nd}{out:List Nd}(C:out.length<=100000)(z:n<=100000)(m:x.ks.length<=1000)(w:∀k∈x.ks,0<=k/\k < (to.length:Int)){L:List (Nd×Bool)}(g:i < L.length)(s:L[i]? =some (x,false)){r:List T}
  (a:Or jZ [Y'2,Y'3,o4,o5,Y'6,o0,I (n:Int),I ((i+1:Nat):Int)] (MF (L.set i (⟨x.op,x.ek,x.ks.map λk=>to.getD k.toNat 0,x.n,x.d,x.nm⟩,true)) ee eh ed n hold ds need to V'7++ [aa.sl false 5 false ((out++ [(⟨x.op,x.ek,x.ks.map λk=>to.getD k.toNat 0,x.n,x.d,x.nm⟩:Nd)]).map jm)])=some r) (B:i<=100000):
  Or jb [Y'2,Y'3,o4,o5,Y'6,Y'7,o0,I (n:Int),I (i:Int),AV.row (Id.c 0) i,I (x.ks.length:Int),I 0] (MF L ee eh ed n hold ds need to V'8++ [aa.box [I x.op,AV.row (Id.c 0) i,I x.n,I x.d,AV.t (T.str x.nm)],aa.sl false 5 false (out.map jm)])=some r:=by
 refine Iq (need:=need) (outB:=V'8) (more:= [aa.sl false 5 false (out.map jm)]) z m w (λL j k v o p f l h A u y a=> ?_) x.ks 0 L [] rfl (Xr _) g rfl s ?_
 .have h0: 0<=(j:Int):=by omega
  have q:(j:Int) < (o.length:Int):=by omega
  refine ai ?_;show au aj ann Or jb _ [GR L ee n,aa.sl false 1 eh (enc hold),dT ed ds o0 o1,dr,aa.sl false 1 false (eW need),aa.sl false 1 false (enc to),dT ed ds V'8 (AV.t (T.aB true)),aa.box [I x.op,AV.row (Id.c 0) i,I x.n,I x.d,AV.t (T.str x.nm)],aa.sl false 5 false (out.map jm)]=_;rw [FF];simp only [an,↓reduceIte,Int.reduceBEq,Int.reduceEq,p,h0,and_self,tJ f,aD,q,fS l,h,fS A,WW,zK v u,next j (by omega)];have:=G7 (ks:=o.set j v) f;rw [this];exact a
 .have b:(L.set i (⟨x.op,x.ek,[] ++x.ks.map (λk=>to.getD k.toNat 0),x.n,x.d,x.nm⟩,false))[i]? =some (⟨x.op,x.ek,x.ks.map λk=>to.getD k.toNat 0,x.n,x.d,x.nm⟩,false):=by
   rw [X1 g];rfl
  have e:=G6 b;rw [List.set_set] at e;rw [Yf] at a;refine ai ?_;show au aj ann Or jb _ [GR (L.set i (⟨x.op,x.ek,[] ++x.ks.map (λk=>to.getD k.toNat 0),x.n,x.d,x.nm⟩,false)) ee n,aa.sl false 1 eh (enc hold),dT ed ds o0 o1,dr,aa.sl false 1 false (eW need),aa.sl false 1 false (enc to),dT ed ds V'8 (AV.t (T.aB true)),aa.box [I x.op,AV.row (Id.c 0) i,I x.n,I x.d,AV.t (T.str x.nm)],aa.sl false 5 false (out.map jm)]=_;rw [FF];simp only [an,↓reduceIte,Int.reduceBEq,Int.reduceEq,Xb,decide_false,tJ b,e,next i (by omega),W6,Wy,cM (show out.length+1<=1000000 by omega)];exact a
theorem HF{need:List Bool}{i:Nat}{x:Nd}{r:List Nd}{to:List Int}{out:List Nd}(h:need.getD i false=true):eJ need i (x::r) to out=eJ need (i+1) r (to.set i (out.length:Int)) (out++ [⟨x.op,x.ek,x.ks.map λk=>(to.set i (out.length:Int)).getD k.toNat 0,x.n,x.d,x.nm⟩]):=by rw [eJ,if_pos h]
theorem HE{need:List Bool}{i:Nat}{x:Nd}{r:List Nd}{to:List Int}{out:List Nd}(h:need.getD i false=false):eJ need i (x::r) to out=eJ need (i+1) r to out:=by rw [eJ,if_neg (by rw [h];simp)]
theorem QN{N:List Nd}{eh ee ed:Bool}{hold:List Int}{ds:List (List T)}{need:List Bool}(J:N.length<=90000)(v:∀x∈N,x.ks.length<=1000)(w:∀(i:Nat) (x:Nd),N[i]? =some x->∀k∈x.ks,0<=k/\k < (i:Int))(G:need.length=N.length){r:List T}:∀(a:List Nd) (i:Nat) (to:List Int) (out:List Nd) (D:Nat->Nd),N.drop i=a->i<=N.length->to.length=N.length->out.length<=i->
  (∀L,Or ik [Y'2,V'3,Y'4,o1,I (hold.length:Int),I 0] [GR L ee N.length,aa.sl false 1 eh (enc hold),dr,aa.sl false 1 false (enc (eJ need i a to out).1),dT ed ds V'5 (AV.t (T.aB true)),aa.sl false 5 false ((eJ need i a to out).2.map jm)]=some r)->
  Or jZ [Y'2,Y'3,o4,o5,Y'6,o0,I (N.length:Int),I (i:Int)] (MF (gK need i N D) ee eh ed N.length hold ds need to V'7++ [aa.sl false 5 false (out.map jm)])=some r:=by
 intro a;induction a with
 | nil=>
  intro i to out D g C h z e;have o:¬(i:Int) < (N.length:Int):=by have:=bt g;omega
  refine ai ?_;show au aj ann Or jZ _ [GR (gK need i N D) ee N.length,aa.sl false 1 eh (enc hold),dT ed ds o0 o1,dr,aa.sl false 1 false (eW need),aa.sl false 1 false (enc to),dT ed ds V'7 (AV.t (T.aB true)),aa.sl false 5 false (out.map jm)]=_;rw [AY];simp only [an,↓reduceIte,Int.reduceBEq,Int.reduceEq,o,aD];exact e _
 | cons x a A=>
  intro i to out D g C h z e;obtain⟨g1,H,s⟩:=br g;have o:(i:Int) < (N.length:Int):=by omega
  have h0: 0<=(i:Int):=by omega
  have p:need[i]? =some (need.getD i false):=by rw [Wp,Wv (by omega)];rfl
  have q:(gK need i N D)[i]? =some (x,false):=by rw [BK g1,if_neg (XY _)]
  have f:=BM need i N D;have u:(i:Int) < (need.length:Int):=by omega
  cases b:need.getD i false with
  | false=>rw [b] at p;rw [HE b] at e;have m:=A (i+1) to out D s (by omega) h (by omega) e;rw [Ha b] at m;refine ai ?_;show au aj ann Or jZ _ [GR (gK need i N D) ee N.length,aa.sl false 1 eh (enc hold),dT ed ds o0 o1,dr,aa.sl false 1 false (eW need),aa.sl false 1 false (enc to),dT ed ds V'7 (AV.t (T.aB true)),aa.sl false 5 false (out.map jm)]=_;rw [AY];simp only [an,↓reduceIte,Int.reduceBEq,Int.reduceEq,o,h0,and_self,wR,f,WW,yF q,zq,nI,u,rB p,Wu,next i (by omega)];exact m
  | true=>
   rw [b] at p;rw [HF b] at e;have B:(i:Int) < (to.length:Int):=by omega
   have y:=w i x g1;have m:=A (i+1) (to.set i (out.length:Int)) (out++ [⟨x.op,x.ek,x.ks.map λk=>(to.set i (out.length:Int)).getD k.toNat 0,x.n,x.d,x.nm⟩]) (λj=>if j=i then⟨x.op,x.ek,x.ks.map λk=>(to.set i (out.length:Int)).getD k.toNat 0,x.n,x.d,x.nm⟩ else D j) s (by omega) (by simp [h]) (by simp;omega) e;rw [Hb b (by omega) rfl] at m;have F:=PC (eh:=eh) (ee:=ee) (ed:=ed) (hold:=hold) (ds:=ds) (need:=need) (to:=to.set i (out.length:Int)) (i:=i) (n:=N.length) (x:=x) (out:=out) (by omega) (by omega) (v x (Wx g1)) (λk E=>by have:=y k E;rw [Yg];omega) (L:=gK need i N D) (by rw [f];omega) q m (by omega);refine ai ?_;show au aj ann Or jZ _ [GR (gK need i N D) ee N.length,aa.sl false 1 eh (enc hold),dT ed ds o0 o1,dr,aa.sl false 1 false (eW need),aa.sl false 1 false (enc to),dT ed ds V'7 (AV.t (T.aB true)),aa.sl false 5 false (out.map jm)]=_;rw [AY];simp only [an,↓reduceIte,Int.reduceBEq,Int.reduceEq,o,h0,and_self,wR,f,WW,yF q,zq,Jy,nI,u,rB p,Ws,aD,B,W6,zK (l:=to) (i:=i) (out.length:Int) (by omega),tJ q];exact F
def LN(l:List Nd):T:=if l.isEmpty then T.aB true else T.ad 5 false (ba l)
theorem P3(l:List Nd):(LN l).aQ 5=some (l.isEmpty,ba l):=by cases l <;> rfl
abbrev FB(L:List (Nd×Bool))(ee eh ed:Bool)(n:Nat)(hold:List Int)(ds:List (List T))(to:List Int)(out:List Nd):List aa:=
 match out with
 | []=> [GR L ee n,aa.sl false 1 eh (enc hold),dr,aa.sl false 1 false (enc to),dT ed ds (AV.t (T.aB true)) (AV.t (T.aB true))]
 | x::r=> [GR L ee n,aa.sl false 1 eh (enc hold),dr,aa.sl false 1 false (enc to),dT ed ds V'5 (AV.t (T.aB true)),aa.sl false 5 false ((x::r).map jm)]
theorem BZ{need:List Bool}:∀(a:List Nd) (i:Nat) (to:List Int) (out:List Nd),out≠[]->(eJ need i a to out).2≠[]
 | [],_,_,_,h=>h
 | x::a,i,to,out,h=>by
  rw [eJ];split
  .exact BZ a _ _ _ (by simp)
  .exact BZ a _ _ _ h
theorem QM{N:List Nd}{eh ee ed:Bool}{hold:List Int}{ds:List (List T)}{need:List Bool}(H:N.length<=90000)(z:∀x∈N,x.ks.length<=1000)(A:∀(i:Nat) (x:Nd),N[i]? =some x->∀k∈x.ks,0<=k/\k < (i:Int))(F:need.length=N.length){r:List T}:∀(e:List Nd) (i:Nat) (to:List Int) (D:Nat->Nd),N.drop i=e->i<=N.length->to.length=N.length->
  (∀L,Or ik [Y'2,V'3,Y'4,o1,I (hold.length:Int),I 0] (FB L ee eh ed N.length hold ds (eJ need i e to []).1 (eJ need i e to []).2)=some r)->
  Or jZ [Y'2,Y'3,o4,o5,Y'6,o0,I (N.length:Int),I (i:Int)] (MF (gK need i N D) ee eh ed N.length hold ds need to (AV.t (T.aB true)))=some r:=by
 intro e;induction e with
 | nil=>
  intro i to D g J u o;have m:¬(i:Int) < (N.length:Int):=by have:=bt g;omega
  refine ai ?_;rw [AX];simp only [an,↓reduceIte,Int.reduceBEq,Int.reduceEq,m,aD];exact o _
 | cons x e O=>
  intro i to D g J u o;obtain⟨g1,P,B⟩:=br g;have m:(i:Int) < (N.length:Int):=by omega
  have h0: 0<=(i:Int):=by omega
  have w:need[i]? =some (need.getD i false):=by rw [Wp,Wv (by omega)];rfl
  have y:(gK need i N D)[i]? =some (x,false):=by rw [BK g1,if_neg (XY _)]
  have s:=BM need i N D;have p:(i:Int) < (need.length:Int):=by omega
  cases f:need.getD i false with
  | false=>rw [f] at w;rw [HE f] at o;have v:=O (i+1) to D B (by omega) u o;rw [Ha f] at v;refine ai ?_;rw [AX];simp only [an,↓reduceIte,Int.reduceBEq,Int.reduceEq,m,h0,and_self,wR,s,WW,yF y,zq,nI,p,rB w,Wu,next i (by omega)];exact v
  | true=>
   rw [f] at w;rw [HF f] at o;have G:(i:Int) < (to.length:Int):=by omega
   have C:=A i x g1;have v:=QN (eh:=eh) (ee:=ee) (ed:=ed) (hold:=hold) (ds:=ds) (need:=need) H z A F (r:=r) e (i+1) (to.set i ((0:Nat):Int)) [⟨x.op,x.ek,x.ks.map λk=>(to.set i ((0:Nat):Int)).getD k.toNat 0,x.n,x.d,x.nm⟩] (λj=>if j=i then⟨x.op,x.ek,x.ks.map λk=>(to.set i ((0:Nat):Int)).getD k.toNat 0,x.n,x.d,x.nm⟩ else D j) B (by omega) (by simp [u]) (by simp) (λL=>by
    have h:=o L;have E:=BZ (need:=need) e (i+1) (to.set i ((0:Nat):Int)) [⟨x.op,x.ek,x.ks.map λk=>(to.set i ((0:Nat):Int)).getD k.toNat 0,x.n,x.d,x.nm⟩] (by simp);simp only [WN,XB] at h;revert h E;generalize (eJ need (i+1) e (to.set i ((0:Nat):Int)) [⟨x.op,x.ek,x.ks.map λk=>(to.set i ((0:Nat):Int)).getD k.toNat 0,x.n,x.d,x.nm⟩]).2=q;intro m p;cases q with
    | nil=>first | exact absurd rfl m | exact absurd rfl p
    | cons a b=>first | exact m | exact p)
   rw [Hb f (by omega) rfl] at v;have M:=PB (eh:=eh) (ee:=ee) (ed:=ed) (hold:=hold) (ds:=ds) (need:=need) (to:=to.set i ((0:Nat):Int)) (i:=i) (n:=N.length) (x:=x) (by omega) (z x (Wx g1)) (λk K=>by have:=C k K;rw [Yg];omega) (L:=gK need i N D) (by rw [s];omega) y v (by omega);refine ai ?_;rw [AX];simp only [an,↓reduceIte,Int.reduceBEq,Int.reduceEq,m,h0,and_self,wR,s,WW,yF y,zq,Jy,nI,p,rB w,Ws,aD,G,zK (l:=to) (i:=i) (0:Int) (by omega),tJ y];exact M
theorem QO{L:List (Nd×Bool)}{ee eh ed:Bool}{n:Nat}{hold:List Int}{ds:List (List T)}{to:List Int}{out:List Nd}(hl:hold.length<=1000)(o:∀k∈hold,0<=k/\k < (to.length:Int)):
  Or ik [Y'2,V'3,Y'4,o1,I (hold.length:Int),I 0] (FB L ee eh ed n hold ds to out)=some [T.ad 3 ed ds,LN out,LO (hold.map λk=>to.getD k.toNat 0)]:=by
 have p:∀k∈hold,to[k.toNat]? =some (to.getD k.toNat 0):=λk hm=>by have:=o k hm;rw [Wp,Wv (by omega)];rfl
 cases out with
 | nil=>
  have u:∀(b:List Int) (j:Nat) (a:List Int),hold.drop j=b->j<=hold.length->a.length=j->
    Or ik [Y'2,V'3,Y'4,o1,I (hold.length:Int),I (j:Int)] [GR L ee n,aa.sl false 1 eh (enc hold),dr,aa.sl false 1 false (enc to),dT ed ds (AV.t (T.aB true)) V'5,aa.sl false 1 false (enc a)]=some [T.ad 3 ed ds,T.aB true,T.ad 1 false (enc (a++b.map λk=>to.getD k.toNat 0))]:=by
   intro b;induction b with
   | nil=>
    intro j a g r e;have d:¬(j:Int) < (hold.length:Int):=by have:=bt g;omega
    refine ai ?_;rw [FI];simp only [an,↓reduceIte,Int.reduceBEq,Int.reduceEq,d,Xj,WQ]
   | cons k b s=>
    intro j a g r e;obtain⟨g1,w,q⟩:=br g;have d:(j:Int) < (hold.length:Int):=by omega
    have h0: 0<=(j:Int):=by omega
    have h:=o k (Wx g1);have i:=p k (Wx g1);have m:=s (j+1) (a++ [to.getD k.toNat 0]) q (by omega) (by simp [e]);simp only [WV,W5] at m;rw [WL];refine ai ?_;rw [FI];simp only [an,↓reduceIte,Int.reduceBEq,Int.reduceEq,d,h0,and_self,aD,bP g1,h,fS i,Wy,cM (show a.length+1<=1000000 by omega),next j (by omega),fI];exact m
  cases f:hold with
  | nil=>refine ai ?_;show au aj ann Or ik _ [GR L ee n,aa.sl false 1 eh (enc []),dr,aa.sl false 1 false (enc to),dT ed ds (AV.t (T.aB true)) (AV.t (T.aB true))]=_;rw [FH];simp only [an,↓reduceIte,Int.reduceBEq,Int.reduceEq,WN,W3,Xb,decide_false];rfl
  | cons k b=>
   have h:=o k (by rw [f];exact Wl);have i:=p k (by rw [f];exact Wl);have m:=u b 1 [to.getD k.toNat 0] (by rw [f];rfl) (by rw [f];simp) rfl;rw [f] at m;have d:(0:Int) < (((k::b).length:Nat):Int):=by simp
   have h0:(0:Int)<=0:=by omega
   have g1:(enc (k::b))[(0:Int).toNat]? =some [ti k]:=rfl;have v:i64.wrap (0+1)= ((1:Nat):Int):=by decide
   refine ai ?_;show au aj ann Or ik _ [GR L ee n,aa.sl false 1 eh (enc (k::b)),dr,aa.sl false 1 false (enc to),dT ed ds (AV.t (T.aB true)) (AV.t (T.aB true))]=_;rw [FH];simp only [an,↓reduceIte,Int.reduceBEq,Int.reduceEq,d,h0,and_self,aD,g1,h,fS i,v];exact m
 | cons x xs=>
  have u:∀(b:List Int) (j:Nat) (a:List Int),hold.drop j=b->j<=hold.length->a.length=j->
    Or ik [Y'2,V'3,Y'4,o1,I (hold.length:Int),I (j:Int)] [GR L ee n,aa.sl false 1 eh (enc hold),dr,aa.sl false 1 false (enc to),dT ed ds V'5 V'6,aa.sl false 5 false ((x::xs).map jm),aa.sl false 1 false (enc a)]=some [T.ad 3 ed ds,T.ad 5 false ((x::xs).map jm),T.ad 1 false (enc (a++b.map λk=>to.getD k.toNat 0))]:=by
   intro b;induction b with
   | nil=>
    intro j a g r e;have d:¬(j:Int) < (hold.length:Int):=by have:=bt g;omega
    refine ai ?_;rw [FK];simp only [an,↓reduceIte,Int.reduceBEq,Int.reduceEq,d,Xj,WQ]
   | cons k b s=>
    intro j a g r e;obtain⟨g1,w,q⟩:=br g;have d:(j:Int) < (hold.length:Int):=by omega
    have h0: 0<=(j:Int):=by omega
    have h:=o k (Wx g1);have i:=p k (Wx g1);have m:=s (j+1) (a++ [to.getD k.toNat 0]) q (by omega) (by simp [e]);simp only [WV,W5] at m;rw [WL (l:=b)];refine ai ?_;rw [FK];simp only [an,↓reduceIte,Int.reduceBEq,Int.reduceEq,d,h0,and_self,aD,bP g1,h,fS i,Wy,cM (show a.length+1<=1000000 by omega),next j (by omega),fI];exact m
  cases f:hold with
  | nil=>refine ai ?_;show au aj ann Or ik _ [GR L ee n,aa.sl false 1 eh (enc []),dr,aa.sl false 1 false (enc to),dT ed ds V'5 (AV.t (T.aB true)),aa.sl false 5 false ((x::xs).map jm)]=_;rw [FJ];simp only [an,↓reduceIte,Int.reduceBEq,Int.reduceEq,WN,W3,Xb,decide_false];rfl
  | cons k b=>
   have h:=o k (by rw [f];exact Wl);have i:=p k (by rw [f];exact Wl);have m:=u b 1 [to.getD k.toNat 0] (by rw [f];rfl) (by rw [f];simp) rfl;rw [f] at m;have d:(0:Int) < (((k::b).length:Nat):Int):=by simp
   have h0:(0:Int)<=0:=by omega
   have g1:(enc (k::b))[(0:Int).toNat]? =some [ti k]:=rfl;have v:i64.wrap (0+1)= ((1:Nat):Int):=by decide
   refine ai ?_;show au aj ann Or ik _ [GR L ee n,aa.sl false 1 eh (enc (k::b)),dr,aa.sl false 1 false (enc to),dT ed ds V'5 (AV.t (T.aB true)),aa.sl false 5 false ((x::xs).map jm)]=_;rw [FJ];simp only [an,↓reduceIte,Int.reduceBEq,Int.reduceEq,d,h0,and_self,aD,g1,h,fS i,v];exact m
theorem BY{need:List Bool}:∀(a:List Nd) (i:Nat) (to:List Int) (out:List Nd),(eJ need i a to out).1.length=to.length
 | [],_,_,_=>rfl
 | x::a,i,to,out=>by
  rw [eJ];split
  .rw [BY a];simp
  .exact BY a _ _ _
theorem Ta{N:List Nd}{eh ed:Bool}{hold:List Int}{ds:List (List T)}(p:N.length<=90000)(hl:hold.length<=1000)(d:∀x∈N,x.ks.length<=1000)(e:∀(i:Nat) (x:Nd),N[i]? =some x->∀k∈x.ks,0<=k/\k < (i:Int))(l:∀k∈hold,0<=k/\k < (N.length:Int)):
  Or (.call 20) [AV.agg [AV.t (T.ad 3 ed ds),o0,o1]] [aa.rows N.isEmpty 5 1 1 N.length (rows N),aa.sl false 1 eh (enc hold)]=some [T.ad 3 ed ds,LN (ja N hold).1,LO (ja N hold).2]:=by
 unfold ja;dsimp only;have g:(eG (List.replicate N.length false) hold).length=N.length:=by rw [rW,XL]
 have b:(back N (eG (List.replicate N.length false) hold) N.length).length=N.length:=by rw [Ep,g]
 have f:=λL=>QO (L:=L) (ee:=N.isEmpty) (eh:=eh) (ed:=ed) (n:=N.length) (hold:=hold) (ds:=ds) (to:=(eJ (back N (eG (List.replicate N.length false) hold) N.length) 0 N (List.replicate N.length 0) []).1) (out:=(eJ (back N (eG (List.replicate N.length false) hold) N.length) 0 N (List.replicate N.length 0) []).2) hl (λk hm=>by rw [BY,XL];exact l k hm);have h:=QM (eh:=eh) (ee:=N.isEmpty) (ed:=ed) (hold:=hold) (ds:=ds) p d e b N 0 (List.replicate N.length 0) (λ_=>⟨0,true,[],0,0,s0⟩) rfl (Xr _) (by simp) f;rw [Py] at h;have j:Or oc [Y'2,Y'3,o4,I (-1)] [aa.rows N.isEmpty 5 1 1 N.length (rows N),aa.sl false 1 eh (enc hold),aa.box [AV.t (T.ad 3 ed ds),o0,o1],dr,aa.sl false 1 false (eW (back N (eG (List.replicate N.length false) hold) N.length))]=some [T.ad 3 ed ds,LN (eJ (back N (eG (List.replicate N.length false) hold) N.length) 0 N (List.replicate N.length 0) []).2,LO (hold.map λk=>(eJ (back N (eG (List.replicate N.length false) hold) N.length) 0 N (List.replicate N.length 0) []).1.getD k.toNat 0)]:=by
  have o:¬(-1:Int)>=0:=by omega
  have hm:nT (N.length:Int) (N.length:Int)=some ():=by unfold nT;rw [if_pos ⟨by omega,by omega,by unfold nQ;omega⟩]
  have a:List.replicate ((N.length:Int)).toNat [ti 0]=enc (List.replicate N.length 0):=by simp [enc]
  refine ai ?_;rw [AZ];simp only [an,↓reduceIte,Int.reduceBEq,Int.reduceEq,o,nI,b,hm,a,aW];simp only [MF,GR,JB] at h;exact h
 have q:=QL (eh:=eh) (hold:=hold) (ed:=ed) (ds:=ds) (show N.length<=100000 by omega) d e N.length (eG (List.replicate N.length false) hold) (WH _) g j;have m:=QQ (eh:=eh) (ed:=ed) (ds:=ds) hl hold 0 (List.replicate N.length false) rfl (by simp) (by omega) l q;have hm:nT (N.length:Int) (N.length:Int)=some ():=by unfold nT;rw [if_pos ⟨by omega,by omega,by unfold nQ;omega⟩]
 have a:List.replicate ((N.length:Int)).toNat [tb false]=eW (List.replicate N.length false):=by simp [eW]
 refine ai ?_;rw [Nb];simp only [an,↓reduceIte,Int.reduceBEq,Int.reduceEq,aW,hm,a,aD];exact m
open Go Go.Aev Go.IntKind
theorem sX(x:ByteArray):x.data.toList.length=x.size:=by rw [WY];rfl
def mK(s p:ByteArray):Bool:=decide ((s.size:Int)>=(p.size:Int)) && decide (s.extract 0 p.size=p)
def qB(s p:ByteArray):Bool:=mK s p && (match s.data.toList[p.size]? with
 | some u=>decide ((u.toNat:Int)>=48) && decide ((u.toNat:Int)<=57)
 | none=>false)
theorem SM(s p:ByteArray):Or (.call 102) [AV.t (T.str s),AV.t (T.str p)] []=some [tb (mK s p)]:=by
 unfold mK;refine ai ?_;rw [MR];by_cases h:(s.size:Int)>=(p.size:Int)
 .have a:iI 0 (p.size:Int) (s.size:Int)=some ():=by unfold iI;rw [if_pos ⟨by omega,by omega,by omega⟩]
  simp only [an,↓reduceIte,Int.reduceBEq,Int.reduceEq,h,a,decide_true,WW,uD]
 .simp only [bE,an,↓reduceIte,Int.reduceBEq,Int.reduceEq,h,decide_false]
def lM(s p:ByteArray):ByteArray:=if mK s p then s.extract p.size s.size else s
theorem To(s p:ByteArray):Or (.call 35) [AV.t (T.str s),AV.t (T.str p)] []=some [T.str (lM s p),tb (mK s p)]:=by
 have k:=SM s p;have c:Or (.call 76) [AV.t (T.str s),AV.t (T.str p)] []=some [T.str (lM s p),tb (mK s p)]:=by
  unfold lM;refine ai ?_;rw [OH];cases a:mK s p with
  | false=>rw [a] at k;simp only [an,↓reduceIte,Int.reduceBEq,Int.reduceEq,k,Wu];rfl
  | true=>
   rw [a] at k;have hs:(p.size:Int)<=(s.size:Int):=by unfold mK at a;simp only [Ww,decide_eq_true_eq] at a;exact a.1
   have b:iI (p.size:Int) (s.size:Int) (s.size:Int)=some ():=by unfold iI;rw [if_pos ⟨by omega,by omega,by omega⟩]
   simp only [an,↓reduceIte,Int.reduceBEq,Int.reduceEq,k,Ws,b,WW]
 refine ai ?_;rw [NB];simp only [an,↓reduceIte,Int.reduceBEq,Int.reduceEq,c]
theorem Tn(nm p:ByteArray)(ea:Bool)(ar:List (List T))(so:Int):Or (.call 34) [AV.agg [AV.t (T.str nm),AV.t (T.ad 1 ea ar),I so],AV.t (T.ptr [T.str p])] []=some [tb (qB nm p)]:=by
 have k:=To nm p;unfold qB;refine ai ?_;rw [NA];cases c:mK nm p with
 | false=>rw [c] at k;simp only [bE,an,↓reduceIte,Int.reduceBEq,Int.reduceEq,k]
 | true=>
  have e:lM nm p=nm.extract p.size nm.size:=by unfold lM;rw [c];rfl
  have el:(lM nm p).data.toList=nm.data.toList.drop p.size:=by rw [e];exact Go.Lib.extract_to_end nm p.size
  have es:(lM nm p).size=nm.size - p.size:=by have:=congrArg List.length el;rw [XK,sX,sX] at this;exact this
  rw [c] at k;have g0:(lM nm p).data.toList[0]? =nm.data.toList[p.size]?:=by rw [el,YF,Yr]
  cases b:nm.data.toList[p.size]? with
  | none=>
   have f:lM nm p=ByteArray.mk #[]:=by
    have:(lM nm p).data.toList= []:=by rw [el];have:=List.getElem?_eq_none_iff.1 b;exact Yo this
    cases h:lM nm p with
    | mk d=>rw [h] at this;simp only at this;rw [Array.toList_eq_nil_iff.1 this]
   simp only [bE,an,↓reduceIte,Int.reduceBEq,Int.reduceEq,k,uD,f,decide_true,Ws]
  | some u=>
   have i:p.size < nm.size:=by have:=(Wm.1 b).1;rw [sX] at this;exact this
   have f:¬lM nm p=ByteArray.mk #[]:=λh=>by have:=congrArg ByteArray.size h;rw [es] at this;have j:(ByteArray.mk #[]).size=0:=rfl;omega
   have g:(0:Int)<=0/\(0:Int) < ((lM nm p).size:Int):=by rw [es];omega
   rw [b] at g0;simp only [an,↓reduceIte,Int.reduceBEq,Int.reduceEq,k,uD,f,decide_false,Wu,g,and_self,g0];by_cases a:(u.toNat:Int)>=48
   .simp only [an,↓reduceIte,Int.reduceBEq,Int.reduceEq,a,decide_true]
   .simp only [bE,an,↓reduceIte,Int.reduceBEq,Int.reduceEq,a,decide_false]
def kN(ds:List Dc)(p:ByteArray):Bool:=ds.any λd=>qB d.nm p
theorem It{e:Bool}{ds:List Dc}{p:ByteArray}(hl:ds.length<=100):∀(r:List Dc) (i:Nat),ds.drop i=r->
  ∃z:Int,Or jd [AV.t (T.ad 3 e (aN ds)),AV.fn 34 [] [AV.t (T.ptr [T.str p])],I (ds.length:Int),I (i:Int)] []=some [ti z]/\decide (z>=0)=r.any λd=>qB d.nm p:=by
 intro r;induction r with
 | nil=>
  intro i g;have a:¬(i:Int) < (ds.length:Int):=by have:=bt g;omega
  refine⟨-1,ai ?_,by simp⟩;rw [Bq];simp only [an,↓reduceIte,Int.reduceBEq,Int.reduceEq,a]
 | cons d r f=>
  intro i g;obtain⟨g1,l,c⟩:=br g;have a:(i:Int) < (ds.length:Int):=by omega
  have h0: 0<=(i:Int):=by omega
  have k:=Tn d.nm p d.ea (enc d.ar) d.so;cases b:qB d.nm p with
  | true=>rw [b] at k;refine⟨(i:Int),ai ?_,by simp [b]⟩;rw [Bq];simp only [an,↓reduceIte,Int.reduceBEq,Int.reduceEq,a,h0,and_self,cX,fR g1,k]
  | false=>rw [b] at k;obtain⟨z,h,j⟩:=f (i+1) c;refine⟨z,ai ?_,by rw [j];simp [b]⟩;rw [Bq];simp only [an,↓reduceIte,Int.reduceBEq,Int.reduceEq,a,h0,and_self,cX,fR g1,k,next i (by omega)];exact h
def mj(ds:List Dc):Nat->ByteArray->ByteArray
 | 0,p=>p
 | k+1,p=>if kN ds p then mj ds k (p++us) else p
theorem zN{ds:List Dc}{p:ByteArray}(hs:∀d∈ds,d.nm.size<=12)(h:kN ds p=true):p.size < 12:=by
 unfold kN at h;obtain⟨d,a,h⟩:=Yl.1 h;unfold qB at h;simp only [Ww] at h;split at h
 .rename_i u b;have:=(Wm.1 b).1;have c:=hs d a;have e:=sX d.nm;omega
 .cases h.2
theorem QA{ed en eh:Bool}{ds:List Dc}{ns:List (List T)}{hs:List (List T)}(hl:ds.length<=100)(c:∀d∈ds,d.nm.size<=12):∀(k:Nat) (p:ByteArray),12<=p.size+k->p.size<=12->
  Or xo [r0,r1] [aa.box [AV.t (T.ad 3 ed (aN ds)),AV.t (T.ad 5 en ns),AV.t (T.ad 1 eh hs)],aa.box [AV.t (T.str p)]]=some [T.str (mj ds k p)]:=by
 intro k;induction k with
 | zero=>
  intro p l m;obtain⟨z,g,i⟩:=It (e:=ed) (p:=p) hl ds 0 rfl;have b:Or (.call 75) [AV.t (T.ad 3 ed (aN ds)),AV.fn 34 [] [AV.t (T.ptr [T.str p])]] []=some [ti z]:=by refine ai ?_;rw [Gk];simp only [cX];exact g
  have nt:kN ds p=false:=by
   cases h:kN ds p with
   | false=>rfl
   | true=>have:=zN c h;omega
  have a:Or (.call 32) [AV.t (T.ad 3 ed (aN ds)),AV.fn 34 [] [AV.t (T.ptr [T.str p])]] []=some [tb false]:=by rw [<-nt];refine ai ?_;rw [FO];simp only [an,↓reduceIte,Int.reduceBEq,Int.reduceEq,b,i,kN]
  rw [mj];refine ai ?_;rw [AT];simp only [an,↓reduceIte,Int.reduceBEq,Int.reduceEq,a]
 | succ k o=>
  intro p l m;obtain⟨z,g,i⟩:=It (e:=ed) (p:=p) hl ds 0 rfl;have b:Or (.call 75) [AV.t (T.ad 3 ed (aN ds)),AV.fn 34 [] [AV.t (T.ptr [T.str p])]] []=some [ti z]:=by refine ai ?_;rw [Gk];simp only [cX];exact g
  have a:Or (.call 32) [AV.t (T.ad 3 ed (aN ds)),AV.fn 34 [] [AV.t (T.ptr [T.str p])]] []=some [tb (kN ds p)]:=by refine ai ?_;rw [FO];simp only [an,↓reduceIte,Int.reduceBEq,Int.reduceEq,b,i,kN]
  rw [mj];cases f:kN ds p with
  | false=>rw [f] at a;refine ai ?_;rw [AT];simp only [an,↓reduceIte,Int.reduceBEq,Int.reduceEq,a];rfl
  | true=>
   rw [f] at a;have:=zN c f;have n:=o (p++us) (by rw [WS,hU];omega) (by rw [WS,hU];omega);have j:p.size+1<=4294967296:=by omega
   refine ai ?_;rw [AT];simp only [an,↓reduceIte,Int.reduceBEq,Int.reduceEq,a,j];exact n
def cV(ds:List Dc):ByteArray:=mj ds 11 us
theorem ze{ds:List Dc}(a:∀d∈ds,d.nm.size<=12):∀(k:Nat) (p:ByteArray),p.size<=12->(mj ds k p).size<=12
 | 0,p,h=>h
 | k+1,p,h=>by
  rw [mj];split
  .rename_i b;have:=zN a b;exact ze a k _ (by rw [WS,hU];omega)
  .exact h
theorem SW{ed en eh:Bool}{ds:List Dc}{ns:List (List T)}{hs:List (List T)}(hl:ds.length<=100)(a:∀d∈ds,d.nm.size<=12):
  Or (.call 15) [AV.agg [AV.t (T.ad 3 ed (aN ds)),AV.t (T.ad 5 en ns),AV.t (T.ad 1 eh hs)]] []=some [T.str (cV ds)]:=by
 have:=QA (ed:=ed) (en:=en) (eh:=eh) (ns:=ns) (hs:=hs) hl a 11 us (by rw [hU];omega) (by rw [hU];omega);refine ai ?_;rw [M3];exact this
theorem Rw{e:Bool}{l:List Int}(hl:l.length<=1000):∀(r:List Int) (i:Nat),l.drop i=r->
  ∃z:Int,Or fN [ad e l,AV.fn 17 [] [],I (l.length:Int),I (i:Int)] []=some [ti z]/\decide (z>=0)=r.any aE:=by
 intro r;induction r with
 | nil=>
  intro i g;have a:¬(i:Int) < (l.length:Int):=by have:=bt g;omega
  refine⟨-1,ai ?_,by simp⟩;rw [Bj];simp only [an,↓reduceIte,Int.reduceBEq,Int.reduceEq,a]
 | cons d r f=>
  intro i g;obtain⟨g1,m,c⟩:=br g;have a:(i:Int) < (l.length:Int):=by omega
  have h0: 0<=(i:Int):=by omega
  have k:=hH d;cases b:aE d with
  | true=>rw [b] at k;refine⟨(i:Int),ai ?_,by simp [b]⟩;rw [Bj];simp only [an,↓reduceIte,Int.reduceBEq,Int.reduceEq,a,h0,and_self,aD,bP g1,k]
  | false=>rw [b] at k;obtain⟨z,h,j⟩:=f (i+1) c;refine⟨z,ai ?_,by rw [j];simp [b]⟩;rw [Bj];simp only [an,↓reduceIte,Int.reduceBEq,Int.reduceEq,a,h0,and_self,aD,bP g1,k,next i (by omega)];exact h
theorem RE{e:Bool}{ds:List Dc}(hl:ds.length<=1000):∀(r:List Dc) (i:Nat),ds.drop i=r->
  ∃z:Int,Or jd [AV.t (T.ad 3 e (aN ds)),AV.fn 33 [] [],I (ds.length:Int),I (i:Int)] []=some [ti z]/\decide (z>=0)=r.any λd=>aE d.so:=by
 intro r;induction r with
 | nil=>
  intro i g;have a:¬(i:Int) < (ds.length:Int):=by have:=bt g;omega
  refine⟨-1,ai ?_,by simp⟩;rw [Bp];simp only [an,↓reduceIte,Int.reduceBEq,Int.reduceEq,a]
 | cons d r h=>
  intro i g;obtain⟨g1,m,f⟩:=br g;have a:(i:Int) < (ds.length:Int):=by omega
  have h0: 0<=(i:Int):=by omega
  have c:=hH d.so;have k:Or (.call 33) [AV.agg [AV.t (T.str d.nm),AV.t (T.ad 1 d.ea (enc d.ar)),I d.so]] []=some [tb (aE d.so)]:=by refine ai ?_;rw [Nz];simp only [an,↓reduceIte,Int.reduceBEq,Int.reduceEq,c]
  cases b:aE d.so with
  | true=>rw [b] at k;refine⟨(i:Int),ai ?_,by simp [b]⟩;rw [Bp];simp only [an,↓reduceIte,Int.reduceBEq,Int.reduceEq,a,h0,and_self,cX,fR g1,k]
  | false=>rw [b] at k;obtain⟨z,j,l⟩:=h (i+1) f;refine⟨z,ai ?_,by rw [l];simp [b]⟩;rw [Bp];simp only [an,↓reduceIte,Int.reduceBEq,Int.reduceEq,a,h0,and_self,cX,fR g1,k,next i (by omega)];exact j
def pf(ds:List Dc)(ss:List Int):Bool:=ss.any aE || ds.any λd=>aE d.so
theorem Ti{e:Bool}{l:List Int}(hl:l.length<=1000):Or (.call 31) [ad e l,AV.fn 17 [] []] []=some [tb (l.any aE)]:=by
 obtain⟨z,b,c⟩:=Rw (e:=e) hl l 0 rfl;have a:Or (.call 74) [ad e l,AV.fn 17 [] []] []=some [ti z]:=by refine ai ?_;rw [Ov];simp only [aD];exact b
 refine ai ?_;rw [Nk];simp only [an,↓reduceIte,Int.reduceBEq,Int.reduceEq,a,c]
theorem SU{ed en eh es:Bool}{ds:List Dc}{ns:List (List T)}{hs:List (List T)}{ss:List Int}(hl:ds.length<=100)(c:ss.length<=1000):
  Or (.call 13) [AV.agg [AV.t (T.ad 3 ed (aN ds)),AV.t (T.ad 5 en ns),AV.t (T.ad 1 eh hs)],ad es ss] []=some [tb (pf ds ss)]:=by
 have a:=Ti (e:=es) c;obtain⟨z,h,i⟩:=RE (e:=ed) (ds:=ds) (by omega) ds 0 rfl;have g:Or (.call 75) [AV.t (T.ad 3 ed (aN ds)),AV.fn 33 [] []] []=some [ti z]:=by refine ai ?_;rw [OE];simp only [cX];exact h
 have f:Or (.call 32) [AV.t (T.ad 3 ed (aN ds)),AV.fn 33 [] []] []=some [tb (ds.any λd=>aE d.so)]:=by refine ai ?_;rw [Nx];simp only [an,↓reduceIte,Int.reduceBEq,Int.reduceEq,g,i]
 unfold pf;refine ai ?_;rw [M2];cases b:ss.any aE with
 | true=>rw [b] at a;simp only [bE,an,↓reduceIte,Int.reduceBEq,Int.reduceEq,a,Ws];rfl
 | false=>rw [b] at a;simp only [an,↓reduceIte,Int.reduceBEq,Int.reduceEq,a,Wu,f];rfl
def fZ(p:ByteArray)(k:Nat)(d:Dc):Nat->Nat->List Dc
 | _,0=> []
 | b,n+1=>⟨p++it (k:Int)++us++it (b:Int),d.ea,d.ar,1⟩::fZ p k d (b+1) n
def nU(p:ByteArray)(k:Nat):Nat->Nat->Bool->Bool
 | _,0,ok=>ok
 | b,n+1,ok=>nU p k (b+1) n (ok && decide (((p++it (k:Int)++us++it (b:Int)).size:Int)<=12))
def cE(p:ByteArray):Nat->List Dc->List Dc
 | _,[]=> []
 | k,d::r=>(if aE d.so then fZ p k d 0 (d.so - 10).toNat else [d])++cE p (k+1) r
def iY(p:ByteArray):Nat->List Dc->Bool->Bool
 | _,[],ok=>ok
 | k,d::r,ok=>iY p (k+1) r (if aE d.so then nU p k 0 (d.so - 10).toNat ok else ok)
theorem sW(p:ByteArray)(k:Nat)(d:Dc):∀(n b:Nat),(fZ p k d b n).length=n
 | 0,_=>rfl
 | n+1,b=>by rw [fZ,Wz,sW p k d n]
theorem kL(e:Bool)(l:List Int)(a:e=true->l= [])(hl:l.length<=1000000):∃x,Or (.call 24) [ad e l] []=some [x]/\x.aQ 1=some (e,enc l):=by
 refine⟨_,JT e l a hl, ?_⟩;cases e with
 | true=>rw [a rfl];rfl
 | false=>rfl
theorem jg(v x:Bool):(bif v then x else false)= (v && x):=by cases v <;> rfl
def rC(d:Dc):List T:= [T.str d.nm,T.ad 1 d.ea (enc d.ar),ti d.so]
theorem Ip{p:ByteArray}{ed:Bool}{ds:List Dc}{k w:Nat}{d:Dc}(y:p.size<=100)(v:k<=100)(h:d.ea=true->d.ar= [])(u:d.ar.length<=1000)(z:w<=100){r:List T}:∀(n b:Nat) (a:List Dc) (ok:Bool),b+n=w->a.length+n<=100000->
  Or nr [AV.t (T.str p),o0,B (nU p k b n ok),AV.t (T.ad 3 ed (aN ds)),I (ds.length:Int),I ((k+1:Nat):Int)] [aa.sl false 3 false ((a++fZ p k d b n).map rC)]=some r->
  Or pr [AV.t (T.str p),o0,B ok,I (k:Int),r1,AV.t (T.ad 3 ed (aN ds)),I (ds.length:Int),I (k:Int),I (w:Int),I (b:Int)] [aa.sl false 3 false (a.map rC),aa.box [AV.t (T.str d.nm),ad d.ea d.ar,I d.so]]=some r:=by
 have f:fv (k:Int):=⟨by omega,by omega⟩;have A:=jN f;intro n;induction n with
 | zero=>
  intro b a ok o hl c;have g:¬(b:Int) < (w:Int):=by omega
  rw [fZ,WQ,nU] at c;refine ai ?_;rw [Fs];simp only [an,↓reduceIte,Int.reduceBEq,Int.reduceEq,g,next k (by omega)];exact c
 | succ n s=>
  intro b a ok o hl c;have g:(b:Int) < (w:Int):=by omega
  have e:fv (b:Int):=⟨by omega,by omega⟩;have C:=jN e;have l:p.size+ (it (k:Int)).size<=4294967296:=by omega
  have m:(p++it (k:Int)).size+1<=4294967296:=by rw [WS];omega
  have c3:(p++it (k:Int)++us).size+ (it (b:Int)).size<=4294967296:=by simp only [WS,hU];omega
  obtain⟨x,j,q⟩:=kL d.ea d.ar h (by omega);rw [fZ,nU] at c;have i:=s (b+1) (a++ [⟨p++it (k:Int)++us++it (b:Int),d.ea,d.ar,1⟩]) _ (by omega) (by simp;omega) (by simpa only [WV,W5] using c);rw [Yf] at i;refine ai ?_;rw [Fs];simp only [an,↓reduceIte,Int.reduceBEq,Int.reduceEq,g,jT f,jT e,l,m,c3,j,q,W6,Wy,cM (show a.length+1<=1000000 by omega),next b (by omega),jg];exact i
theorem Io{p:ByteArray}{ed:Bool}{ds:List Dc}(q:p.size<=100)(hl:ds.length<=100)(f:∀d∈ds,d.ea=true->d.ar= [])(h:∀d∈ds,d.ar.length<=1000):∀(r:List Dc) (k:Nat) (a:List Dc) (ok:Bool),ds.drop k=r->k<=ds.length->a.length<=100 * k->
  Or nr [AV.t (T.str p),o0,B ok,AV.t (T.ad 3 ed (aN ds)),I (ds.length:Int),I (k:Int)] [aa.sl false 3 false (a.map rC)]=some [T.ad 3 false ((a++cE p k r).map rC),tb (iY p k r ok && decide ((((a++cE p k r).length:Nat):Int)<=30))]:=by
 intro r;induction r with
 | nil=>
  intro k a ok g o n;have e:¬(k:Int) < (ds.length:Int):=by have:=bt g;omega
  rw [cE,iY,WQ];refine ai ?_;rw [AW];simp only [an,↓reduceIte,Int.reduceBEq,Int.reduceEq,e,W6,jg]
 | cons d r l=>
  intro k a ok g o n;obtain⟨g1,z,j⟩:=br g;have hm:=Wx g1;have e:(k:Int) < (ds.length:Int):=by omega
  have h0: 0<=(k:Int):=by omega
  have b:=hH d.so;obtain⟨x,m,s⟩:=kL d.ea d.ar (f d hm) (by have:=h d hm;omega);rw [cE,iY];cases i:aE d.so with
  | false=>rw [i] at b;have c:=l (k+1) (a++ [d]) ok j (by omega) (by simp;omega);simp only [WV,W5] at c;rw [Yf] at c;simp only [WX,↓reduceIte,W5];refine ai ?_;rw [AW];simp only [an,↓reduceIte,Int.reduceBEq,Int.reduceEq,e,h0,and_self,cX,fR g1,b,Wu,m,s,W6,Wy,cM (show a.length+1<=1000000 by omega),next k (by omega)];exact c
  | true=>
   rw [i] at b;have y:=gL i;have c:=l (k+1) (a++fZ p k d 0 (d.so - 10).toNat) (nU p k 0 (d.so - 10).toNat ok) j (by omega) (by simp [sW];omega);have u:=Ip (p:=p) (ed:=ed) (ds:=ds) (k:=k) (w:=(d.so - 10).toNat) (d:=d) q (by omega) (f d hm) (h d hm) (by omega) (d.so - 10).toNat 0 a ok (by omega) (by omega) c;have v:i64.wrap (d.so - 10)= ((d.so - 10).toNat:Int):=by rw [wr (by omega)];omega
   simp only [↓reduceIte];rw [<-WV];refine ai ?_;rw [AW];simp only [an,↓reduceIte,Int.reduceBEq,Int.reduceEq,e,h0,and_self,cX,fR g1,b,Ws,v];exact u
theorem QB{p:ByteArray}{ed:Bool}{ds:List Dc}(j:p.size<=100)(hl:ds.length<=100)(b:∀d∈ds,d.ea=true->d.ar= [])(c:∀d∈ds,d.ar.length<=1000):∃x,Or nr [AV.t (T.str p),AV.t (T.aB true),B true,AV.t (T.ad 3 ed (aN ds)),I (ds.length:Int),I 0] []=some [x,tb (iY p 0 ds true && decide ((((cE p 0 ds).length:Nat):Int)<=30))]/\x.aQ 3=some ((cE p 0 ds).isEmpty,aN (cE p 0 ds)):=by
 cases a:ds with
 | nil=>refine⟨T.aB true,ai ?_,rfl⟩;rw [AU];simp only [an,↓reduceIte,Int.reduceBEq,Int.reduceEq,WN,W3,Xb,decide_false];rfl
 | cons d r=>
  have hm:d∈ds:=by rw [a];exact Wl
  have o:(0:Int) < (((d::r).length:Nat):Int):=by simp
  have h0:(0:Int)<=0:=by omega
  have g1:(aN (d::r))[(0:Int).toNat]? =some [T.str d.nm,T.ad 1 d.ea (enc d.ar),ti d.so]:=rfl;have e:=hH d.so;have v:i64.wrap (0+1)= ((1:Nat):Int):=by decide
  obtain⟨x,i,s⟩:=kL d.ea d.ar (b d hm) (by have:=c d hm;omega);rw [cE,iY];cases l:aE d.so with
  | false=>rw [l] at e;have f:=Io (p:=p) (ed:=ed) (ds:=ds) j hl b c r 1 [d] true (by rw [a];rfl) (by rw [a];simp) (by simp);rw [a] at f;simp only [WX,↓reduceIte,W5];refine⟨T.ad 3 false (([d] ++cE p (0+1) r).map rC),ai ?_,rfl⟩;rw [AU];simp only [an,↓reduceIte,Int.reduceBEq,Int.reduceEq,o,h0,and_self,cX,g1,e,Wu,i,s,v];exact f
  | true=>
   rw [l] at e;have E:=gL l;obtain⟨n,A⟩:∃n,(d.so - 10).toNat=n+1:=⟨(d.so - 10).toNat - 1,by omega⟩;have h:fv ((0:Nat):Int):=⟨by omega,by omega⟩;have m:=jN h;have y:p.size+ (it 0).size<=4294967296:=by have:(it 0).size<=21:=m;omega
   have z:(p++it 0).size+1<=4294967296:=by have:(it 0).size<=21:=m;rw [WS];omega
   have c3:(p++it 0++us).size+ (it 0).size<=4294967296:=by have:(it 0).size<=21:=m;simp only [WS,hU];omega
   have u:Or (.call 36) [I 0] []=some [T.str (it 0)]:=jT h;have f:=Io (p:=p) (ed:=ed) (ds:=ds) j hl b c r 1 (fZ p 0 d 0 (n+1)) (nU p 0 0 (n+1) true) (by rw [a];rfl) (by rw [a];simp) (by rw [sW];omega);have C:=Ip (p:=p) (ed:=ed) (ds:=ds) (k:=0) (w:=n+1) (d:=d) j (by omega) (b d hm) (c d hm) (by omega) n 1 [⟨p++it 0++us++it 0,d.ea,d.ar,1⟩] (true && decide (((p++it 0++us++it 0).size:Int)<=12)) (by omega) (by simp;omega) f;have D:i64.wrap (d.so - 10)= ((n+1:Nat):Int):=by rw [wr (by omega)];omega
   have q:(0:Int) < ((n+1:Nat):Int):=by omega
   have g:Or pr [AV.t (T.str p),AV.t (T.aB true),B true,I 0,r0,AV.t (T.ad 3 ed (aN ds)),I (ds.length:Int),I 0,I ((n+1:Nat):Int),I 0] [aa.box [AV.t (T.str d.nm),ad d.ea d.ar,I d.so]]=some [T.ad 3 false ((fZ p 0 d 0 (n+1)++cE p 1 r).map rC),tb (iY p 1 r (nU p 0 0 (n+1) true) && decide ((((fZ p 0 d 0 (n+1)++cE p 1 r).length:Nat):Int)<=30))]:=by refine ai ?_;rw [M5];simp only [an,↓reduceIte,Int.reduceBEq,Int.reduceEq,q,u,y,z,c3,i,s,v,jg];exact C
   rw [a] at g;simp only [↓reduceIte,A];refine⟨T.ad 3 false ((fZ p 0 d 0 (n+1)++cE p (0+1) r).map rC),ai ?_,rfl⟩;rw [AU];simp only [an,↓reduceIte,Int.reduceBEq,Int.reduceEq,o,h0,and_self,cX,g1,e,Ws,D];exact g
theorem SX{p:ByteArray}{ed en eh:Bool}{ds:List Dc}{ns hs:List (List T)}(f:p.size<=100)(hl:ds.length<=100)(a:∀d∈ds,d.ea=true->d.ar= [])(b:∀d∈ds,d.ar.length<=1000):
  ∃x,Or (.call 16) [AV.agg [AV.t (T.ad 3 ed (aN ds)),AV.t (T.ad 5 en ns),AV.t (T.ad 1 eh hs)],AV.t (T.str p)] []=some [x,tb (iY p 0 ds true && decide ((((cE p 0 ds).length:Nat):Int)<=30))]/\x.aQ 3=some ((cE p 0 ds).isEmpty,aN (cE p 0 ds)):=by
 obtain⟨x,c,e⟩:=QB (p:=p) (ed:=ed) f hl a b;refine⟨x,ai ?_,e⟩;rw [M4];simp only [cX];exact c
open Go Go.Aev Go.IntKind
def iP(c:Cx)(t:Tr)(M:Mk)(x:Nd)(s:Int):Tr×Mk:=
 if aE s then(⟨t.bits++ [(gq c t M x s).1],t.to++ [0]⟩,(gq c t M x s).2)
 else(⟨t.bits++ [[]],t.to++ [(gZ t M x).1]⟩,(gZ t M x).2)
def fT(c:Cx):List Nd->List Int->Tr->Mk->Tr×Mk
 | x::r,s::q,t,M=>if 800 < (iP c t M x s).2.N.length then iP c t M x s else fT c r q (iP c t M x s).1 (iP c t M x s).2
 | _,_,t,M=>(t,M)
def wg:List T:= [T.aB true,T.aB true,T.aB true,ti 10,ti 0]
def pc(c:Cx)(q:Tr×Mk):List Nd×List Int:=ja q.2.N (c.hs.map (bp q.1))
def mY(c:Cx)(dl:List Dc)(ok:Bool)(q:Tr×Mk):List T:=
 if ok=false\/800 < q.2.N.length then wg
 else if 200 < (pc c q).1.length then wg
 else [T.ad 3 dl.isEmpty (aN dl),T.ad 5 (pc c q).1.isEmpty (ba (pc c q).1),T.ad 1 (pc c q).2.isEmpty (enc (pc c q).2),ti 0,ti 0]
theorem Gt(l:List (List Int))(b:List Int):bx l++ [[LO b]]=bx (l++ [b]):=by simp [bx]
theorem P5(w:List Int)(h: 1<=w.length):T.ad 1 w.isEmpty (enc w)=LO w:=by cases w with
 | nil=>simp at h
 | cons=>rfl
theorem De{a:Type}(l:List a)(x:a):(l++ [x]).isEmpty=false:=by cases l <;> rfl
theorem cG.word{c:Cx}{t:Tr}{M f:Mk}{i n:Nat}{s:Int}{w:List Int}(h:cG c t M i)(hs:c.ss[i]? =some s)(r:aE s=true)(u:Up M f n)(hl:(w.length:Int)=s - 10)(o:∀y∈w,In f y):cG c ⟨t.bits++ [w],t.to++ [0]⟩ f (i+1):=by
 have m:=h.up u;refine⟨u.ok,by simp [h.bl],by simp [h.tl],λk s' q a d=> ?_,λk s' q a d=> ?_⟩
 .by_cases e:k=i
  .subst e;rw [hs] at a;simp only [Wj] at a;subst a;exact⟨w,by rw [WJ (by rw [h.bl];exact WH _),h.bl,Xx];rfl,hl,o⟩
  .obtain⟨b,g,j,l⟩:=m.w k s' (by omega) a d;exact⟨b,by rw [WB (by rw [h.bl];omega)];exact g,j,l⟩
 .by_cases e:k=i
  .subst e;rw [hs] at a;simp only [Wj] at a;subst a;rw [r] at d;cases d
  .obtain⟨g,v,j,l⟩:=m.p k s' (by omega) a d;exact⟨by rw [WB (by rw [h.bl];omega)];exact g,v,by rw [WB (by rw [h.tl];omega)];exact j,l⟩
theorem cG.plain{c:Cx}{t:Tr}{M f:Mk}{i n:Nat}{s v:Int}(h:cG c t M i)(hs:c.ss[i]? =some s)(r:aE s=false)(u:Up M f n)(o:In f v):cG c ⟨t.bits++ [[]],t.to++ [v]⟩ f (i+1):=by
 have m:=h.up u;refine⟨u.ok,by simp [h.bl],by simp [h.tl],λk s' q a d=> ?_,λk s' q a d=> ?_⟩
 .by_cases e:k=i
  .subst e;rw [hs] at a;simp only [Wj] at a;subst a;rw [r] at d;cases d
  .obtain⟨b,g,j,l⟩:=m.w k s' (by omega) a d;exact⟨b,by rw [WB (by rw [h.bl];omega)];exact g,j,l⟩
 .by_cases e:k=i
  .subst e;exact⟨by rw [WJ (by rw [h.bl];exact WH _),h.bl,Xx];rfl,v,by rw [WJ (by rw [h.tl];exact WH _),h.tl,Xx];rfl,o⟩
  .obtain⟨g,x,j,l⟩:=m.p k s' (by omega) a d;exact⟨by rw [WB (by rw [h.bl];omega)];exact g,x,by rw [WB (by rw [h.tl];omega)];exact j,l⟩
structure qG (c:Cx):Prop where
 sl:c.ss.length=c.ns.length
 nl:c.ns.length<=200
 dl:c.ds.length<=30
 hl:c.hs.length<=200
 ds:∀d∈c.ds,d.nm.size<=12
 nd:∀(i:Nat) (x:Nd) (s:Int),c.ns[i]? =some x->c.ss[i]? =some s->oe c i x s
 ho:∀k∈c.hs,0<=k/\c.ss[k.toNat]? =some 1
theorem Di{c:Cx}(ok:qG c){t:Tr}{M:Mk}{i:Nat}{x:Nd}{s:Int}(d:c.ns[i]? =some x)(hs:c.ss[i]? =some s)(a:cG c t M i)(g:c.p.size<=100)(f:M.N.length<=40000):
  cG c (iP c t M x s).1 (iP c t M x s).2 (i+1)/\Up M (iP c t M x s).2 1000:=by
 unfold iP;cases b:aE s with
 | true=>obtain⟨_,u,e,hl⟩:=K9 d hs b (ok.nd i x s d hs) a (by have:=ok.dl;omega) g f;exact⟨a.word hs b u hl e,u⟩
 | false=>obtain⟨_,u,e⟩:=I5 d b (ok.nd i x s d hs) a f;exact⟨a.plain hs b u e,u⟩
abbrev Mj(c:Cx):aa:=aa.box [AV.t (T.ad 3 c.ed (aN c.ds)),AV.t (T.ad 5 c.en (ba c.ns)),AV.t (T.ad 1 c.eh (enc c.hs))]
abbrev kP:aa:=aa.box [I 0,I 0]
abbrev KB(c:Cx):aa:=aa.box [Y'4,AV.t (T.ad 3 c.ed (aN c.ds)),AV.t (T.ad 5 c.en (ba c.ns)),AV.t (T.ad 1 c.eh (enc c.hs)),AV.t (T.str c.p),AV.t (T.ad 1 c.es (enc c.ss)),V'5,V'6]
theorem RM{c:Cx}{t:Tr}{M:Mk}{dl:List Dc}{n:Nat}(ok:qG c)(H:n=c.ns.length)(q:cG c t M n)(G:M.N.length<=800):∀(h:List Int) (j:Nat) (a:List Int),c.hs.drop j=h->j<=c.hs.length->a.length=j->a++h.map (bp t)=c.hs.map (bp t)->
  Or sO [Y'0,Y'1,Y'2,Y'3,ad c.eh c.hs,I (c.hs.length:Int),I (j:Int)] [dr,kP,KB c,aa.box [AV.t (T.ad 3 dl.isEmpty (aN dl)),V'7,V'8],aa.box [V'7,V'9],aa.sl false 1 t.bits.isEmpty (bx t.bits),aa.sl false 1 t.to.isEmpty (enc t.to),aa.rows M.N.isEmpty 5 1 1 M.N.length (rows M.N),aa.sl false 1 a.isEmpty (enc a),aa.mp false [Ck.s] (Ck.i .i64) (cC M.K)]=some (mY c dl true (t,M)):=by
 have m:∀k∈c.hs,0<=k/\t.to[k.toNat]? =some (bp t k)/\In M (bp t k):=λk l=>by obtain⟨d,b⟩:=ok.ho k l;have E:k.toNat < c.ss.length:=(Wm.1 b).1;have r:KW c n k 1:=⟨d,by have:=ok.sl;omega,b⟩;exact⟨d,(r.plain q yM).2⟩
 intro h;induction h with
 | nil=>
  intro j a g A e f;have d:¬(j:Int) < (c.hs.length:Int):=by have:=bt g;omega
  rw [Xj,WQ] at f;have v:=Ta (N:=M.N) (eh:=a.isEmpty) (ed:=dl.isEmpty) (hold:=a) (ds:=aN dl) (by omega) (by have:=ok.hl;omega) (λx B=>by obtain⟨i,z⟩:=Xv B;exact q.ok.kl i x z) q.ok.ks (λk l=>by
   rw [f] at l;obtain⟨D,hm,rfl⟩:=WU.1 l;exact(m D hm).2.2)
  unfold mY pc;rw [<-f];refine ai ?_;rw [Gm];simp only [an,↓reduceIte,Int.reduceBEq,Int.reduceEq,d,v,P3,de];have o:¬(true=false\/800 < M.N.length):=by simp;omega
  rw [if_neg o];by_cases b: 200 < (ja M.N a).1.length
  .have p:((ba (ja M.N a).1).length:Int) > 200:=by rw [dR];omega
   rw [if_pos b];simp only [an,↓reduceIte,Int.reduceBEq,Int.reduceEq,p,decide_true];rfl
  .have p:¬((ba (ja M.N a).1).length:Int) > 200:=by rw [dR];omega
   rw [if_neg b];simp only [an,↓reduceIte,Int.reduceBEq,Int.reduceEq,p,decide_false]
 | cons k h C=>
  intro j a g A e f;obtain⟨g1,F,y⟩:=br g;have d:(j:Int) < (c.hs.length:Int):=by omega
  have h0: 0<=(j:Int):=by omega
  obtain⟨J,w,_⟩:=m k (Wx g1);have b: 0<=k/\k < (t.to.length:Int):=by have:=(Wm.1 w).1;omega
  have u:=C (j+1) (a++ [bp t k]) y (by omega) (by simp [e]) (by rw [<-f];simp);rw [De] at u;refine ai ?_;rw [Gm];simp only [an,↓reduceIte,Int.reduceBEq,Int.reduceEq,d,h0,and_self,aD,bP g1,b,fS w,Wy,cM (show a.length+1<=1000000 by have:=ok.hl;omega),next j (by have:=ok.hl;omega),fI];exact u
abbrev M9(c:Cx)(t:Tr)(M:Mk):List aa:= [Mj c,dr,kP,KB c,aa.box [V'7,V'8],aa.sl false 1 t.bits.isEmpty (bx t.bits),aa.sl false 1 t.to.isEmpty (enc t.to),aa.rows M.N.isEmpty 5 1 1 M.N.length (rows M.N),aa.mp false [Ck.s] (Ck.i .i64) (cC M.K)]
theorem RN{c:Cx}{dl:List Dc}{okb:Bool}(ok:qG c)(E:c.p.size<=100):∀(rn:List Nd) (rs:List Int) (i:Nat) (t:Tr) (M:Mk),c.ns.drop i=rn->c.ss.drop i=rs->i<=c.ns.length->cG c t M i->M.N.length<=800->
  Or uM [r0,r1,Y'2,ad c.es c.ss,AV.t (T.ad 3 dl.isEmpty (aN dl)),B okb,Y'3,I (c.ns.length:Int),I (i:Int)] (M9 c t M)=some (mY c dl okb (fT c rn rs t M)):=by
 intro rn;induction rn with
 | nil=>
  intro rs i t M n v J f z;have k:¬(i:Int) < (c.ns.length:Int):=by have:=bt n;omega
  have C:i=c.ns.length:=by have:=bt n;omega
  have a:¬(M.N.length:Int) > 800:=by omega
  have w:fT c [] rs t M= (t,M):=by simp [fT]
  rw [w];cases okb with
  | false=>refine ai ?_;rw [tA];simp only [an,↓reduceIte,Int.reduceBEq,Int.reduceEq,k,Wu];rfl
  | true=>have m:=RM (dl:=dl) ok C f z c.hs 0 [] rfl (Xr _) rfl rfl;refine ai ?_;rw [tA];simp only [an,↓reduceIte,Int.reduceBEq,Int.reduceEq,k,Ws,aW,a,decide_false,aD];exact m
 | cons x rn K=>
  intro rs i t M n v J f z;obtain⟨g1,O,G⟩:=br n;cases rs with
  | nil=>exact absurd (bt v) (by have:=ok.sl;omega)
  | cons s rs=>
   obtain⟨g,P,H⟩:=br v;have k:(i:Int) < (c.ns.length:Int):=by omega
   have o: 0<=(i:Int)/\(i:Int) < (c.ss.length:Int):=by omega
   have e:=hH s;obtain⟨iO,lQ⟩:=Di ok g1 g f E (by omega);have d:=λa=>K rs (i+1) _ _ G H (by omega) iO a;have F:=next i (by have:=ok.nl;omega);rw [fT];cases l:aE s with
   | true=>
    rw [l] at e;obtain⟨q,u,A,hl⟩:=K9 g1 g l (ok.nd i x s g1 g) f (by have:=ok.dl;omega) E (by omega);have L:=gL l;have es:iP c t M x s= (⟨t.bits++ [(gq c t M x s).1],t.to++ [0]⟩,(gq c t M x s).2):=by unfold iP;rw [l];rfl
    rw [es] at d iO⊢;dsimp only at d iO⊢;have h:bA 24 (t.bits.length+1)=some ():=cM (by have:=f.bl;have:=ok.nl;omega);have j:bA 8 (t.to.length+1)=some ():=cM (by have:=f.tl;have:=ok.nl;omega);have D:=P5 (gq c t M x s).1 (by omega);have w: [T.int i64 0]= [ti 0]:=rfl;by_cases a: 800 < (gq c t M x s).2.N.length
    .have b:((gq c t M x s).2.N.length:Int) > 800:=by omega
     rw [if_pos a];have er:mY c dl okb (⟨t.bits++ [(gq c t M x s).1],t.to++ [0]⟩,(gq c t M x s).2)=wg:=by unfold mY;rw [if_pos (.inr a)]
     rw [er];refine ai ?_;rw [tA];simp (maxSteps:=1000000) only [an,↓reduceIte,Int.reduceBEq,Int.reduceEq,k,o,and_self,aD,bP g,e,q,be,bd,Wq,aZ,aW,dI,dJ,de,pT,Wy,h,j,b,decide_true];cases okb <;> rfl
    .have b:¬((gq c t M x s).2.N.length:Int) > 800:=by omega
     rw [if_neg a];have m:=d (by omega);simp only [M9,De] at m;refine ai ?_;rw [tA];simp (maxSteps:=1000000) only [an,↓reduceIte,Int.reduceBEq,Int.reduceEq,k,o,and_self,aD,bP g,e,q,be,bd,Wq,aZ,aW,dI,dJ,de,pT,Wy,h,j,b,decide_false,D,Gt,fI,F];exact m
   | false=>
    rw [l] at e;obtain⟨r,u,A⟩:=I5 g1 l (ok.nd i x s g1 g) f (by omega);have es:iP c t M x s= (⟨t.bits++ [[]],t.to++ [(gZ t M x).1]⟩,(gZ t M x).2):=by unfold iP;rw [l];rfl
    rw [es] at d iO⊢;dsimp only at d iO⊢;have h:bA 24 (t.bits.length+1)=some ():=cM (by have:=f.bl;have:=ok.nl;omega);have j:bA 8 (t.to.length+1)=some ():=cM (by have:=f.tl;have:=ok.nl;omega);by_cases a: 800 < (gZ t M x).2.N.length
    .have b:((gZ t M x).2.N.length:Int) > 800:=by omega
     rw [if_pos a];have er:mY c dl okb (⟨t.bits++ [[]],t.to++ [(gZ t M x).1]⟩,(gZ t M x).2)=wg:=by unfold mY;rw [if_pos (.inr a)]
     rw [er];refine ai ?_;rw [tA];simp (maxSteps:=1000000) only [an,↓reduceIte,Int.reduceBEq,Int.reduceEq,k,o,and_self,aD,bP g,e,r,be,bd,Wq,aZ,aW,dI,dJ,de,pT,Wy,h,j,b,decide_true];cases okb <;> rfl
    .have b:¬((gZ t M x).2.N.length:Int) > 800:=by omega
     rw [if_neg a];have m:=d (by omega);simp only [M9,De] at m;have y:bx t.bits++ [[T.aB true]]=bx (t.bits++ [[]]):=Gt t.bits [];refine ai ?_;rw [tA];simp (maxSteps:=1000000) only [an,↓reduceIte,Int.reduceBEq,Int.reduceEq,k,o,and_self,aD,bP g,e,r,be,bd,Wq,aZ,aW,dI,dJ,de,pT,Wy,h,j,b,decide_false,y,fI,F];exact m
open Go Go.Aev Go.IntKind
structure As where
 ed:Bool
 ds:List Dc
 en:Bool
 ns:List Nd
 eh:Bool
 hs:List Int
abbrev AG(a:As):AV:=AV.agg [AV.t (T.ad 3 a.ed (aN a.ds)),AV.t (T.ad 5 a.en (ba a.ns)),AV.t (T.ad 1 a.eh (enc a.hs))]
abbrev kZ(a:As):aa:=aa.box [AV.t (T.ad 3 a.ed (aN a.ds)),AV.t (T.ad 5 a.en (ba a.ns)),AV.t (T.ad 1 a.eh (enc a.hs))]
structure pj (a:As):Prop where
 d:∀d∈a.ds,d.ea=true->d.ar= []
 n:∀x∈a.ns,x.ek=true->x.ks= []
 h:a.eh=true->a.hs= []
theorem OU(l:List Dc)(d:Dc):aN l++ [[T.str d.nm,T.ad 1 d.ea (enc d.ar),T.int .i64 d.so]]=aN (l++ [d]):=by simp [aN]
theorem Gv(l:List Nd)(x:Nd):ba l++ [[T.int .i64 x.op,T.ad 1 x.ek (enc x.ks),T.int .i64 x.n,T.int .i64 x.d,T.str x.nm]]=ba (l++ [x]):=by simp [ba]
theorem Qy{e eh:Bool}{ns:List Nd}{hs:List Int}{dl:List (List T)}(hl:ns.length<=1000)(n:∀x∈ns,x.ek=true->x.ks= [])(f:∀x∈ns,x.ks.length<=1000):∀(r:List Nd) (i:Nat) (a:List Nd),ns.drop i=r->i<=ns.length->a.length=i->
  Or jx [r0,r1,AV.t (T.ad 5 e (ba ns)),I (ns.length:Int),I (i:Int)] [dr,aa.box [o2,o3,o4],aa.sl false 3 false dl,aa.sl false 5 false (ba a),aa.sl false 1 eh (enc hs)]=some [T.ad 3 false dl,T.ad 5 false (ba (a++r)),T.ad 1 eh (enc hs)]/\
  Or jx [r0,r1,AV.t (T.ad 5 e (ba ns)),I (ns.length:Int),I (i:Int)] [dr,aa.box [AV.t (T.aB true),o2,o3],aa.sl false 5 false (ba a),aa.sl false 1 eh (enc hs)]=some [T.aB true,T.ad 5 false (ba (a++r)),T.ad 1 eh (enc hs)]:=by
 intro r;induction r with
 | nil=>
  intro i a g m c;have b:¬(i:Int) < (ns.length:Int):=by have:=bt g;omega
  rw [WQ];refine⟨ai ?_,ai ?_⟩
  .rw [Fq];simp only [an,↓reduceIte,Int.reduceBEq,Int.reduceEq,b]
  .rw [Fp];simp only [an,↓reduceIte,Int.reduceBEq,Int.reduceEq,b]
 | cons x r o=>
  intro i a g m c;obtain⟨g1,p,l⟩:=br g;have hm:=Wx g1;have b:(i:Int) < (ns.length:Int):=by omega
  have h0: 0<=(i:Int):=by omega
  obtain⟨y,d,h⟩:=kL x.ek x.ks (n x hm) (by have:=f x hm;omega);obtain⟨j,k⟩:=o (i+1) (a++ [x]) l (by omega) (by simp [c]);simp only [WV,W5] at j k;refine⟨ai ?_,ai ?_⟩
  .rw [Fq];simp only [an,↓reduceIte,Int.reduceBEq,Int.reduceEq,b,h0,and_self,dR,gf g1,d,h,Wy,cM (show a.length+1<=1000000 by omega),next i (by omega),Gv];exact j
  .rw [Fp];simp only [an,↓reduceIte,Int.reduceBEq,Int.reduceEq,b,h0,and_self,dR,gf g1,d,h,Wy,cM (show a.length+1<=1000000 by omega),next i (by omega),Gv];exact k
theorem Qz{e eh:Bool}{ns:List Nd}{hs:List Int}{dl:List (List T)}(hl:ns.length<=1000)(g:∀x∈ns,x.ek=true->x.ks= [])(b:∀x∈ns,x.ks.length<=1000):
  (∃z,Or jx [r0,r1,AV.t (T.ad 5 e (ba ns)),I (ns.length:Int),I 0] [dr,aa.box [o2,AV.t (T.aB true),o3],aa.sl false 3 false dl,aa.sl false 1 eh (enc hs)]=some [T.ad 3 false dl,z,T.ad 1 eh (enc hs)]/\z.aQ 5=some (ns.isEmpty,ba ns))/\
  (∃z,Or jx [r0,r1,AV.t (T.ad 5 e (ba ns)),I (ns.length:Int),I 0] [dr,aa.box [AV.t (T.aB true),AV.t (T.aB true),o2],aa.sl false 1 eh (enc hs)]=some [T.aB true,z,T.ad 1 eh (enc hs)]/\z.aQ 5=some (ns.isEmpty,ba ns)):=by
 cases a:ns with
 | nil=>
  refine⟨⟨T.aB true,ai ?_,rfl⟩,⟨T.aB true,ai ?_,rfl⟩⟩
  .rw [Fo];simp only [an,↓reduceIte,Int.reduceBEq,Int.reduceEq,WN,W3,Xb,decide_false]
  .rw [Fm];simp only [an,↓reduceIte,Int.reduceBEq,Int.reduceEq,WN,W3,Xb,decide_false]
 | cons x r=>
  have hm:x∈ns:=by rw [a];exact Wl
  have f:(0:Int) < (((x::r).length:Nat):Int):=by simp
  have h0:(0:Int)<=0:=by omega
  have g1:(ba (x::r))[(0:Int).toNat]? =some [ti x.op,T.ad 1 x.ek (enc x.ks),ti x.n,ti x.d,T.str x.nm]:=rfl;have i:i64.wrap (0+1)= ((1:Nat):Int):=by decide
  obtain⟨y,c,h⟩:=kL x.ek x.ks (g x hm) (by have:=b x hm;omega);obtain⟨j,k⟩:=Qy (e:=e) (eh:=eh) (ns:=ns) (hs:=hs) (dl:=dl) hl g b r 1 [x] (by rw [a];rfl) (by rw [a];simp) rfl;rw [a] at j k;refine⟨⟨T.ad 5 false (ba ([x] ++r)),ai ?_,rfl⟩,⟨T.ad 5 false (ba ([x] ++r)),ai ?_,rfl⟩⟩
  .rw [Fo];simp only [an,↓reduceIte,Int.reduceBEq,Int.reduceEq,f,h0,and_self,dR,g1,c,h,i];exact j
  .rw [Fm];simp only [an,↓reduceIte,Int.reduceBEq,Int.reduceEq,f,h0,and_self,dR,g1,c,h,i];exact k
theorem Qx{a:As}{e eh:Bool}{hs:List Int}(hl:a.ds.length<=1000)(q:∀d∈a.ds,d.ea=true->d.ar= [])(k:∀d∈a.ds,d.ar.length<=1000){z:T}
  (l:Or jx [r0,r1,AV.t (T.ad 5 a.en (ba a.ns)),I (a.ns.length:Int),I 0] [dr,aa.box [o2,AV.t (T.aB true),o3],aa.sl false 3 false (aN a.ds),aa.sl false 1 eh (enc hs)]=some [T.ad 3 false (aN a.ds),z,T.ad 1 eh (enc hs)]):∀(r:List Dc) (i:Nat) (b:List Dc),a.ds.drop i=r->i<=a.ds.length->b.length=i->b++r=a.ds->
  Or pq [r0,r1,Y'2,AV.t (T.ad 3 e (aN a.ds)),I (a.ds.length:Int),I (i:Int)] [kZ a,dr,aa.box [o3,AV.t (T.aB true),o4],aa.sl false 3 false (aN b),aa.sl false 1 eh (enc hs)]=some [T.ad 3 false (aN a.ds),z,T.ad 1 eh (enc hs)]:=by
 intro r;induction r with
 | nil=>
  intro i b g o h f;have j:¬(i:Int) < (a.ds.length:Int):=by have:=bt g;omega
  rw [WQ] at f;rw [<-f] at l;refine ai ?_;rw [Fl,<-f];rw [<-f] at j;simp only [an,↓reduceIte,Int.reduceBEq,Int.reduceEq,j,dR];exact l
 | cons d r u=>
  intro i b g o h f;obtain⟨g1,v,n⟩:=br g;have hm:=Wx g1;have j:(i:Int) < (a.ds.length:Int):=by omega
  have h0: 0<=(i:Int):=by omega
  obtain⟨y,m,s⟩:=kL d.ea d.ar (q d hm) (by have:=k d hm;omega);have p:=u (i+1) (b++ [d]) n (by omega) (by simp [h]) (by rw [<-f];simp);refine ai ?_;rw [Fl];simp only [an,↓reduceIte,Int.reduceBEq,Int.reduceEq,j,h0,and_self,cX,fR g1,m,s,Wy,cM (show b.length+1<=1000000 by omega),next i (by omega),OU];exact p
theorem SV{a:As}(wf:pj a)(l:a.ds.length<=1000)(o:a.ns.length<=1000)(F:a.hs.length<=1000)(f:∀d∈a.ds,d.ar.length<=1000)(m:∀x∈a.ns,x.ks.length<=1000):
  ∃x y z,Or (.call 14) [AG a] []=some [x,y,z]/\x.aQ 3=some (a.ds.isEmpty,aN a.ds)/\y.aQ 5=some (a.ns.isEmpty,ba a.ns)/\z.aQ 1=some (a.eh,enc a.hs):=by
 obtain⟨v,g,p⟩:=kL a.eh a.hs wf.h (by omega);obtain⟨⟨q,A,B⟩,⟨s,C,D⟩⟩:=Qz (e:=a.en) (eh:=a.eh) (ns:=a.ns) (hs:=a.hs) (dl:=aN a.ds) o wf.n m;cases b:a.ds with
 | nil=>
  have i:Or pq [r0,r1,Y'2,AV.t (T.ad 3 a.ed (aN a.ds)),I (a.ds.length:Int),I 0] [kZ a,dr,aa.box [AV.t (T.aB true),AV.t (T.aB true),o3],aa.sl false 1 a.eh (enc a.hs)]=some [T.aB true,s,T.ad 1 a.eh (enc a.hs)]:=by refine ai ?_;rw [Fk,b];simp only [an,↓reduceIte,Int.reduceBEq,Int.reduceEq,WN,W3,Xb,decide_false,dR];exact C
  refine⟨T.aB true,s,T.ad 1 a.eh (enc a.hs),ai ?_,rfl,D,by rw [cu]⟩;rw [Fj];simp only [an,↓reduceIte,Int.reduceBEq,Int.reduceEq,g,p,cX];exact i
 | cons d r=>
  have hm:d∈a.ds:=by rw [b];exact Wl
  have j:=Qx (a:=a) (e:=a.ed) (eh:=a.eh) (hs:=a.hs) l wf.d f A r 1 [d] (by rw [b];rfl) (by rw [b];simp) rfl (by rw [b];rfl);have u:(0:Int) < (((d::r).length:Nat):Int):=by simp
  have h0:(0:Int)<=0:=by omega
  have g1:(aN (d::r))[(0:Int).toNat]? =some [T.str d.nm,T.ad 1 d.ea (enc d.ar),ti d.so]:=rfl;have E:i64.wrap (0+1)= ((1:Nat):Int):=by decide
  obtain⟨y,k,w⟩:=kL d.ea d.ar (wf.d d hm) (by have:=f d hm;omega);have i:Or pq [r0,r1,Y'2,AV.t (T.ad 3 a.ed (aN a.ds)),I (a.ds.length:Int),I 0] [kZ a,dr,aa.box [AV.t (T.aB true),AV.t (T.aB true),o3],aa.sl false 1 a.eh (enc a.hs)]=some [T.ad 3 false (aN a.ds),q,T.ad 1 a.eh (enc a.hs)]:=by refine ai ?_;rw [Fk,b];rw [b] at j;simp only [an,↓reduceIte,Int.reduceBEq,Int.reduceEq,u,h0,and_self,cX,g1,k,w,E];rw [<-b] at j⊢;exact j
  refine⟨T.ad 3 false (aN a.ds),q,T.ad 1 a.eh (enc a.hs),ai ?_,by rw [b];rfl,B,by rw [cu]⟩;rw [Fj];simp only [an,↓reduceIte,Int.reduceBEq,Int.reduceEq,g,p,cX];exact i
def lB(a:As)(es:Bool)(ss:List Int):Cx:=⟨a.ed,a.ds,a.en,a.ns,a.eh,a.hs,cV a.ds,es,ss⟩
def lE(a:As)(es:Bool)(ss:List Int):List T:=
 if pf a.ds ss then mY (lB a es ss) (cE (cV a.ds) 0 a.ds) (iY (cV a.ds) 0 a.ds true && decide ((((cE (cV a.ds) 0 a.ds).length:Nat):Int)<=30)) (fT (lB a es ss) a.ns ss ⟨[],[]⟩ ⟨[],[]⟩)
 else [T.ad 3 a.ds.isEmpty (aN a.ds),T.ad 5 a.ns.isEmpty (ba a.ns),T.ad 1 a.eh (enc a.hs),ti 0,ti 0]
theorem s9{a:As}{es:Bool}{ss:List Int}(wf:pj a)(ok:qG (lB a es ss))(e:∀d∈a.ds,d.ar.length<=1000){x:T}(g:Or (.call 12) [AG a] []=some [x,ti 0,ti 0])(o:x.aQ 1=some (es,enc ss)):
  Or (.call 6) [AG a] []=some (lE a es ss):=by
 have D:a.ds.length<=30:=ok.dl;have F:a.ns.length<=200:=ok.nl;have E:a.hs.length<=200:=ok.hl;have m:ss.length=a.ns.length:=ok.sl;have f:∀d∈a.ds,d.nm.size<=12:=ok.ds;have b:=SU (ed:=a.ed) (en:=a.en) (eh:=a.eh) (es:=es) (ds:=a.ds) (ns:=ba a.ns) (hs:=enc a.hs) (ss:=ss) (by omega) (by omega);unfold lE;cases n:pf a.ds ss with
 | false=>
  rw [n] at b;obtain⟨H,I,J,q,v,w,z⟩:=SV wf (by omega) (by omega) (by omega) e (λx hm=>by
   obtain⟨i,j⟩:=Xv hm;have l:i < ss.length:=by rw [m];exact(Wm.1 j).1
   have:=(ok.nd i x _ j (Wv l)).kl;omega)
  refine ai ?_;rw [e9];simp only [an,↓reduceIte,Int.reduceBEq,Int.reduceEq,g,o,Ws,b,Wu,q,v,w,z];rfl
 | true=>
  rw [n] at b;have r:=SW (ed:=a.ed) (en:=a.en) (eh:=a.eh) (ns:=ba a.ns) (hs:=enc a.hs) (show a.ds.length<=100 by omega) f;have G:(cV a.ds).size<=12:=ze f 11 us (by rw [hU];omega);obtain⟨y,u,C⟩:=SX (p:=cV a.ds) (ed:=a.ed) (en:=a.en) (eh:=a.eh) (ds:=a.ds) (ns:=ba a.ns) (hs:=enc a.hs) (by omega) (by omega) wf.d e;have h0:cG (lB a es ss) ⟨[],[]⟩ ⟨[],[]⟩ 0:=⟨⟨λi x h=>(by simp at h),λi x h=>(by simp at h),λp h=>(by cases h),λi x h=>(by simp at h),λi x h=>(by simp at h)⟩,rfl,rfl,λk s h=>by omega,λk s h=>by omega⟩;have hl:=RN (dl:=cE (cV a.ds) 0 a.ds) (okb:=iY (cV a.ds) 0 a.ds true && decide ((((cE (cV a.ds) 0 a.ds).length:Nat):Int)<=30)) ok (show(cV a.ds).size<=100 by omega) a.ns ss 0 ⟨[],[]⟩ ⟨[],[]⟩ rfl rfl (Xr _) h0 (by simp);have A:Or Ac [r0,r1,Y'2,ad es ss,AV.t (T.ad 3 (cE (cV a.ds) 0 a.ds).isEmpty (aN (cE (cV a.ds) 0 a.ds))),B (iY (cV a.ds) 0 a.ds true && decide ((((cE (cV a.ds) 0 a.ds).length:Nat):Int)<=30)),Y'3,Y'3,Y'4] (M9 (lB a es ss) ⟨[],[]⟩ ⟨[],[]⟩)=some (mY (lB a es ss) (cE (cV a.ds) 0 a.ds) (iY (cV a.ds) 0 a.ds true && decide ((((cE (cV a.ds) 0 a.ds).length:Nat):Int)<=30)) (fT (lB a es ss) a.ns ss ⟨[],[]⟩ ⟨[],[]⟩)):=by refine ai ?_;rw [OS];simp only [dR];exact hl
  simp only [↓reduceIte];refine ai ?_;rw [e9];simp only [an,↓reduceIte,Int.reduceBEq,Int.reduceEq,g,o,Ws,b,r,u,C];exact A
end Go.Aev.Gen
