import Derived.Test.YtcffabneepdohaaGreatDoorBlastBackQ11
import Derived.Lib.IndexBytes
set_option linter.all false
namespace Go.Aev.Gen
open Go Go.Aev Go.IntKind
def kq(M:Mk)(acc:Int):List Int->Int×Mk
 | []=>(acc,M)
 | y::l=>kq (cE M acc y).2 (cE M acc y).1 l
theorem Eu:∀{l:List Int} {M:Mk} {acc:Int},Ok M->In M acc->(∀y∈l,In M y)->Up M (kq M acc l).2 l.length/\In (kq M acc l).2 (kq M acc l).1
 | [],M,acc,h,b,_=>⟨Up.refl h,b⟩
 | y::l,M,acc,h,b,hl=>by obtain⟨a,c⟩:=iU h b (hl y W7);obtain⟨d,e⟩:=Eu (l:=l) a.ok c (a.all λz f=>hl z (W8 _ f));exact⟨(a.trans d).mono (by rw [Xj];omega),e⟩
def pj(M:Mk)(a b:List Int):Int×Mk:=
 kq (aX eJ (dy M true).2 a b).2 (dy M true).1 (aX eJ (dy M true).2 a b).1
theorem US{M:Mk}(h:Ok M){a b:List Int}(j:a.length=b.length)(g:∀x∈a,In M x)(i:∀x∈b,In M x):Up M (pj M a b).2 (1+ (1 * a.length+a.length))/\In (pj M a b).2 (pj M a b).1:=by obtain⟨d,n⟩:=kA h true;obtain⟨e,l,e3⟩:=tQ (f:=eJ) (c:=1) (λM a b h g i=>sc h g i) d.ok (d.all g) (d.all i) j;obtain⟨k,m⟩:=Eu e.ok (e.In n) l;rw [e3] at k;exact⟨d.trans (e.trans k),m⟩
theorem Rr{c:Cx}{t:Tr}{e:Bool}{l:List Int}(hl:l.length<=100):∀(r:List Int) (j:Nat) (M:Mk) (acc:Int),l.drop j=r->Ok M->In M acc->(∀y∈r,In M y)->M.N.length+r.length<=60000->
  Or AD [r0,I acc,aa e l,I (l.length:Int),I (j:Int)] [ad.box [Y'1,AV.t (T.aa 3 c.ed (aT c.ds)),AV.t (T.aa 5 c.en (bd c.ns)),AV.t (T.aa 1 c.eh (enc c.hs)),AV.t (T.str c.p),AV.t (T.aa 1 c.es (enc c.ss)),V'2,V'3],ad.box [V'6,V'5],ad.sl false 1 t.bits.isEmpty (bD t.bits),ad.sl false 1 t.to.isEmpty (enc t.to),ad.dead,ad.mp false [Ck.s] (Ck.i .i64) (cG M.K),ad.rows M.N.isEmpty 5 1 1 M.N.length (rows M.N)]=some [ti (kq M acc r).1,T.ax,T.aa 3 c.ed (aT c.ds),T.aa 5 c.en (bd c.ns),T.aa 1 c.eh (enc c.hs),T.str c.p,T.aa 1 c.es (enc c.ss),T.ax,T.ax,RW ((kq M acc r).2).N,T.ax,T.aa 1 t.bits.isEmpty (bD t.bits),T.aa 1 t.to.isEmpty (enc t.to),EM ((kq M acc r).2).K]:=by
 intro r;induction r with
 | nil=>
  intro j M acc g h b d m;have a:¬(j:Int) < (l.length:Int):=by have:=bu g;omega
  refine ai ?_;rw [F5];simp only [ao,↓reduceIte,a,bc,kq];rfl
 | cons y r q=>
  intro j M acc g h b d m;obtain⟨g1,v,o⟩:=bt g;have a:(j:Int) < (l.length:Int):=by omega
  have h0: 0<=(j:Int):=by omega
  have n:=d y W7;rw [Xj] at m;have k1:=nb (show M.N.length<=100000 by omega) b n;obtain⟨k,u⟩:=iU h b n;have f:=q (j+1) _ _ o k.ok u (k.all λz f=>d z (W8 _ f)) (by have:=k.up;omega);rw [kq];refine ai ?_;rw [F5];simp only [ao,↓reduceIte,a,h0,and_self,k1,aE,bR g1,next j (by omega),bg,bf,Xb,bc,aZ];exact f
theorem TM{c:Cx}{t:Tr}{M:Mk}{x:Nd}{i:Nat}{s:Int}(k:c.ns[i]? =some x)(j:x.op=22){k1 k2:Int}(d:x.ks= [k1,k2])(l:KW c i k1 s)(m:KW c i k2 s)(f:aG s=true)(e:cJ c t M i)(D:M.N.length<=40000):
  Or (.call 19) [r0,I (i:Int)] [ad.box [Y'1,AV.t (T.aa 3 c.ed (aT c.ds)),AV.t (T.aa 5 c.en (bd c.ns)),AV.t (T.aa 1 c.eh (enc c.hs)),AV.t (T.str c.p),AV.t (T.aa 1 c.es (enc c.ss)),V'2,V'3],ad.box [V'4,V'5],ad.sl false 1 t.bits.isEmpty (bD t.bits),ad.sl false 1 t.to.isEmpty (enc t.to),ad.rows M.N.isEmpty 5 1 1 M.N.length (rows M.N),ad.mp false [Ck.s] (Ck.i .i64) (cG M.K)]=some [ti (mc M (aJ t k1) (aJ t k2)).1,T.ax,T.aa 3 c.ed (aT c.ds),T.aa 5 c.en (bd c.ns),T.aa 1 c.eh (enc c.hs),T.str c.p,T.aa 1 c.es (enc c.ss),T.ax,T.ax,RW ((mc M (aJ t k1) (aJ t k2)).2).N,T.ax,T.aa 1 t.bits.isEmpty (bD t.bits),T.aa 1 t.to.isEmpty (enc t.to),EM ((mc M (aJ t k1) (aJ t k2)).2).K]:=by
 have hl:=gP f;have u: 0<=(i:Int)/\(i:Int) < (c.ns.length:Int):=by have:=(W9.1 k).1;omega
 obtain⟨g,B,n⟩:=l.word e f;obtain⟨h,C,o⟩:=m.word e f;have A:=(Kw e.ok (ea:=(aJ t k1).isEmpty) (eb:=(aJ t k2).isEmpty) (a:=aJ t k1) (b:=aJ t k2) (by omega) (by omega) n o (by omega)).1;have v:(0:Int)<=0/\(0:Int) < ((x.ks.length:Nat):Int):=by rw [d];simp
 have w:(0:Int)<=1/\(1:Int) < ((x.ks.length:Nat):Int):=by rw [d];simp
 have g0:(enc x.ks)[0]? =some [ti k1]:=by rw [d];rfl
 have g1:(enc x.ks)[1]? =some [ti k2]:=by rw [d];rfl
 have y: 0<=k1/\k1 < (t.bits.length:Int):=by have:=(W9.1 g).1;have:=l.h0;omega
 have z: 0<=k2/\k2 < (t.bits.length:Int):=by have:=(W9.1 h).1;have:=m.h0;omega
 have q:(bD t.bits)[k1.toNat]? =some [LO (aJ t k1)]:=by simp [bD,g]
 have r:(bD t.bits)[k2.toNat]? =some [LO (aJ t k2)]:=by simp [bD,h]
 refine ai ?_;rw [yC];simp (maxSteps:=1000000) only [ao,↓reduceIte,u,v,w,and_self,dV,fZ k,j,aE,g0,g1,y,z,ql,q,r,A,bg,bf,Xb,bc,dm];rfl
theorem TN{c:Cx}{t:Tr}{M:Mk}{x:Nd}{i:Nat}{s:Int}(w:c.ns[i]? =some x)(v:x.op=8){k1 k2:Int}(g:x.ks= [k1,k2])(A:KW c i k1 s)(B:KW c i k2 s)(m:aG s=true)(k:cJ c t M i)(V:M.N.length<=40000):
  Or (.call 19) [r0,I (i:Int)] [ad.box [Y'1,AV.t (T.aa 3 c.ed (aT c.ds)),AV.t (T.aa 5 c.en (bd c.ns)),AV.t (T.aa 1 c.eh (enc c.hs)),AV.t (T.str c.p),AV.t (T.aa 1 c.es (enc c.ss)),V'2,V'3],ad.box [V'4,V'5],ad.sl false 1 t.bits.isEmpty (bD t.bits),ad.sl false 1 t.to.isEmpty (enc t.to),ad.rows M.N.isEmpty 5 1 1 M.N.length (rows M.N),ad.mp false [Ck.s] (Ck.i .i64) (cG M.K)]=some [ti (pj M (aJ t k1) (aJ t k2)).1,T.ax,T.aa 3 c.ed (aT c.ds),T.aa 5 c.en (bd c.ns),T.aa 1 c.eh (enc c.hs),T.str c.p,T.aa 1 c.es (enc c.ss),T.ax,T.ax,RW ((pj M (aJ t k1) (aJ t k2)).2).N,T.ax,T.aa 1 t.bits.isEmpty (bD t.bits),T.aa 1 t.to.isEmpty (enc t.to),EM ((pj M (aJ t k1) (aJ t k2)).2).K]:=by
 have hl:=gP m;have F: 0<=(i:Int)/\(i:Int) < (c.ns.length:Int):=by have:=(W9.1 w).1;omega
 obtain⟨n,o,q⟩:=A.word k m;obtain⟨r,U,u⟩:=B.word k m;obtain⟨d,S⟩:=kA k.ok true;have Q:=n7 (show M.N.length<=100000 by omega) true;have z:=T9 d.ok (ea:=(aJ t k1).isEmpty) (eb:=(aJ t k2).isEmpty) (a:=aJ t k1) (b:=aJ t k2) (by omega) (by omega) (d.all q) (d.all u) (by have:=d.up;omega);obtain⟨j,C,e3⟩:=tQ (f:=eJ) (c:=1) (λM a b h J L=>sc h J L) d.ok (d.all q) (d.all u) (show(aJ t k1).length= (aJ t k2).length by omega);have R:=Rr (c:=c) (t:=t) (e:=(aX eJ (dy M true).2 (aJ t k1) (aJ t k2)).1.isEmpty) (l:=(aX eJ (dy M true).2 (aJ t k1) (aJ t k2)).1) (by omega) (aX eJ (dy M true).2 (aJ t k1) (aJ t k2)).1 0 _ _ rfl j.ok (j.In S) C (by have:=d.up;have:=j.up;omega);have G:(0:Int)<=0/\(0:Int) < ((x.ks.length:Nat):Int):=by rw [g];simp
 have H:(0:Int)<=1/\(1:Int) < ((x.ks.length:Nat):Int):=by rw [g];simp
 have g0:(enc x.ks)[0]? =some [ti k1]:=by rw [g];rfl
 have g1:(enc x.ks)[1]? =some [ti k2]:=by rw [g];rfl
 have O: 0<=k1/\k1 < (t.bits.length:Int):=by have:=(W9.1 n).1;have:=A.h0;omega
 have P: 0<=k2/\k2 < (t.bits.length:Int):=by have:=(W9.1 r).1;have:=B.h0;omega
 have D:(bD t.bits)[k1.toNat]? =some [LO (aJ t k1)]:=by simp [bD,n]
 have E:(bD t.bits)[k2.toNat]? =some [LO (aJ t k2)]:=by simp [bD,r]
 have y:(aJ t k1).isEmpty=false:=by
  cases h:aJ t k1 with
  | nil=>rw [h] at o;simp at o;omega
  | cons=>rfl
 rw [y] at z;refine ai ?_;rw [yC];simp (maxSteps:=1000000) only [ao,↓reduceIte,Int.reduceEq,F,G,H,and_self,dV,fZ w,v,aE,g0,g1,O,P,ql,D,E,Q,z,y,bg,bf,Xb,aZ,dm];exact R
theorem Rs{c:Cx}{t:Tr}{M:Mk}{x:Nd}(h:Ok M)(E:M.N.length<=50000)(C:x.ks.length<=100)(f:∀k∈x.ks,0<=k/\t.to[k.toNat]? =some (br t k)/\In M (br t k))(ho:fx x.op)(w:fx x.n)(u:fx x.d)(hm:x.nm.size<=1000):∀(e:List Int) (j:Nat) (acc:List Int),x.ks.drop j=e->j<=x.ks.length->acc.length=j->acc≠[]->acc++e.map (br t)=x.ks.map (br t)->
  Or rv [r0,Y'6,V'7,aa x.ek x.ks,I (x.ks.length:Int),I (j:Int)] [ad.box [Y'1,AV.t (T.aa 3 c.ed (aT c.ds)),AV.t (T.aa 5 c.en (bd c.ns)),AV.t (T.aa 1 c.eh (enc c.hs)),AV.t (T.str c.p),AV.t (T.aa 1 c.es (enc c.ss)),V'2,V'3],ad.box [V'4,V'5],ad.sl false 1 t.bits.isEmpty (bD t.bits),ad.sl false 1 t.to.isEmpty (enc t.to),ad.rows M.N.isEmpty 5 1 1 M.N.length (rows M.N),ad.mp false [Ck.s] (Ck.i .i64) (cG M.K),ad.box [I x.op,aa x.ek x.ks,I x.n,I x.d,AV.t (T.str x.nm)],ad.sl false 1 false (enc acc)]=some [ti (dC M x.op x.nm x.n x.d (x.ks.map (br t))).1,T.ax,T.aa 3 c.ed (aT c.ds),T.aa 5 c.en (bd c.ns),T.aa 1 c.eh (enc c.hs),T.str c.p,T.aa 1 c.es (enc c.ss),T.ax,T.ax,RW ((dC M x.op x.nm x.n x.d (x.ks.map (br t))).2).N,T.ax,T.aa 1 t.bits.isEmpty (bD t.bits),T.aa 1 t.to.isEmpty (enc t.to),EM ((dC M x.op x.nm x.n x.d (x.ks.map (br t))).2).K]:=by
 intro e;induction e with
 | nil=>
  intro j acc g v a l b;have m:¬(j:Int) < (x.ks.length:Int):=by have:=bu g;omega
  rw [XY,XA] at b;have o:false=acc.isEmpty:=by cases acc with
   | nil=>exact absurd rfl l
   | cons=>rfl
  have k1:=lM M (show M.N.length<=100000 by omega) x.op x.nm x.n x.d acc false o (λy q=>by
   rw [b] at q;obtain⟨k,hm,rfl⟩:=XB.1 q;exact(f k hm).2.2.i64 (by omega)) (by omega) ho w u (by omega)
  rw [<-b];refine ai ?_;rw [F4];simp only [ao,↓reduceIte,m,k1,bg,bf,Xb,bc];rfl
 | cons k e A=>
  intro j acc g v a l b;obtain⟨g1,D,r⟩:=bt g;have m:(j:Int) < (x.ks.length:Int):=by omega
  have h0: 0<=(j:Int):=by omega
  obtain⟨F,k1,_⟩:=f k (Xg g1);have k2: 0<=k/\k < (t.to.length:Int):=by have:=(W9.1 k1).1;omega
  have B:bH 8 (acc.length+1)=some ():=dc (by omega);have z:=A (j+1) (acc++ [br t k]) r (by omega) (by simp [a]) (by simp) (by rw [<-b];simp);refine ai ?_;rw [F4];simp only [ao,↓reduceIte,m,h0,and_self,aE,bR g1,k2,fP k1,B,next j (by omega),fH];exact z
theorem Kq{c:Cx}{t:Tr}{M:Mk}{x:Nd}{i:Nat}(o:c.ns[i]? =some x)(f:x.op≠22)(H:x.op=8->∃k1 r,x.ks=k1::r)(m:cJ c t M i)(P:M.N.length<=40000)(A:x.ks.length<=100)(z:∀k∈x.ks,∃s',KW c i k s'/\aG s'=false)(ho:fx x.op)(B:fx x.n)(w:fx x.d)(hm:x.nm.size<=1000):
  Or (.call 19) [r0,I (i:Int)] [ad.box [Y'1,AV.t (T.aa 3 c.ed (aT c.ds)),AV.t (T.aa 5 c.en (bd c.ns)),AV.t (T.aa 1 c.eh (enc c.hs)),AV.t (T.str c.p),AV.t (T.aa 1 c.es (enc c.ss)),V'2,V'3],ad.box [V'4,V'5],ad.sl false 1 t.bits.isEmpty (bD t.bits),ad.sl false 1 t.to.isEmpty (enc t.to),ad.rows M.N.isEmpty 5 1 1 M.N.length (rows M.N),ad.mp false [Ck.s] (Ck.i .i64) (cG M.K)]=some [ti (dC M x.op x.nm x.n x.d (x.ks.map (br t))).1,T.ax,T.aa 3 c.ed (aT c.ds),T.aa 5 c.en (bd c.ns),T.aa 1 c.eh (enc c.hs),T.str c.p,T.aa 1 c.es (enc c.ss),T.ax,T.ax,RW ((dC M x.op x.nm x.n x.d (x.ks.map (br t))).2).N,T.ax,T.aa 1 t.bits.isEmpty (bD t.bits),T.aa 1 t.to.isEmpty (enc t.to),EM ((dC M x.op x.nm x.n x.d (x.ks.map (br t))).2).K]:=by
 have v: 0<=(i:Int)/\(i:Int) < (c.ns.length:Int):=by have:=(W9.1 o).1;omega
 have l:∀k∈x.ks,0<=k/\t.to[k.toNat]? =some (br t k)/\In M (br t k):=λk hm=>by obtain⟨s',g,G⟩:=z k hm;exact⟨g.h0,(g.plain m G).2⟩
 have a:Or rv [r0,Y'6,AV.t (T.aC true),aa x.ek x.ks,I (x.ks.length:Int),I 0] [ad.box [Y'1,AV.t (T.aa 3 c.ed (aT c.ds)),AV.t (T.aa 5 c.en (bd c.ns)),AV.t (T.aa 1 c.eh (enc c.hs)),AV.t (T.str c.p),AV.t (T.aa 1 c.es (enc c.ss)),V'2,V'3],ad.box [V'4,V'5],ad.sl false 1 t.bits.isEmpty (bD t.bits),ad.sl false 1 t.to.isEmpty (enc t.to),ad.rows M.N.isEmpty 5 1 1 M.N.length (rows M.N),ad.mp false [Ck.s] (Ck.i .i64) (cG M.K),ad.box [I x.op,aa x.ek x.ks,I x.n,I x.d,AV.t (T.str x.nm)]]=some [ti (dC M x.op x.nm x.n x.d (x.ks.map (br t))).1,T.ax,T.aa 3 c.ed (aT c.ds),T.aa 5 c.en (bd c.ns),T.aa 1 c.eh (enc c.hs),T.str c.p,T.aa 1 c.es (enc c.ss),T.ax,T.ax,RW ((dC M x.op x.nm x.n x.d (x.ks.map (br t))).2).N,T.ax,T.aa 1 t.bits.isEmpty (bD t.bits),T.aa 1 t.to.isEmpty (enc t.to),EM ((dC M x.op x.nm x.n x.d (x.ks.map (br t))).2).K]:=by
  cases b:x.ks with
  | nil=>have k1:=lM M (show M.N.length<=100000 by omega) x.op x.nm x.n x.d [] true rfl (λy J=>by cases J) (by simp) ho B w (by omega);replace k1:Or (.call 38) [r0,I x.op,AV.t (T.str x.nm),I x.n,I x.d,AV.t (T.aa 1 true [])] (ef M)=_:=k1;refine ai ?_;rw [F3];simp only [ao,↓reduceIte,Xu,XN,XS,decide_false,k1,bg,bf,Xb,bc];rfl
  | cons k q=>
   obtain⟨Q,k1,_⟩:=l k (by rw [b];exact W7);have k2: 0<=k/\k < (t.to.length:Int):=by have:=(W9.1 k1).1;omega
   have C:=Rs (c:=c) (t:=t) (M:=M) (x:=x) m.ok (by omega) A l ho B w hm q 1 [br t k] (by rw [b];rfl) (by rw [b];simp) rfl (by simp) (by rw [b];rfl);have g:(0:Int) < (((k::q).length:Nat):Int):=by simp
   have h0:(0:Int)<=0:=by omega
   have g1:(enc (k::q))[(0:Int).toNat]? =some [ti k]:=rfl;have h:i64.wrap (0+1)= ((1:Nat):Int):=by decide
   rw [b] at C;refine ai ?_;rw [F3];simp only [ao,↓reduceIte,g,h0,and_self,aE,g1,k2,fP k1,h];exact C
 have j:(x.op==22)=false:=by simpa using f
 by_cases c8:x.op=8
 .obtain⟨k1,r,e⟩:=H c8;have F:(0:Int)<=0/\(0:Int) < ((x.ks.length:Nat):Int):=by rw [e];simp
  have g0:(enc x.ks)[0]? =some [ti k1]:=by rw [e];rfl
  obtain⟨s',h,O⟩:=z k1 (by rw [e];exact W7);obtain⟨u,_⟩:=h.plain m O;have L: 0<=k1/\k1 < (t.bits.length:Int):=by have:=(W9.1 u).1;have:=h.h0;omega
  have E:(bD t.bits)[k1.toNat]? =some [LO []]:=by simp [bD,u]
  refine ai ?_;rw [yC];simp (maxSteps:=1000000) only [ao,↓reduceIte,Int.reduceEq,v,F,and_self,dV,fZ o,c8,aE,g0,L,ql,E,dm,ZT];rw [c8] at a;exact a
 .have D:(x.op==8)=false:=by simpa using c8
  refine ai ?_;rw [yC];simp (maxSteps:=1000000) only [ao,↓reduceIte,v,and_self,dV,fZ o,D,f,c8,bI,aE];exact a
structure ov (c:Cx) (i:Nat) (x:Nd) (s:Int):Prop where
 op: 1<=x.op/\x.op<=25
 kl:x.ks.length<=8
 n: -1000000<=x.n/\x.n<=1000000
 d: -1000000<=x.d/\x.d<=1000000
 nm:x.nm.size<=12
 k:∀k∈x.ks,∃s',KW c i k s'
 c3:x.op=3->∃k r,x.ks=k::r
 c7:x.op=7->∃a b d,x.ks= [a,b,d]/\KW c i a 1/\KW c i b s/\KW c i d s
 c8:x.op=8->aG s=false/\∃a b s',x.ks= [a,b]/\((aG s'=true/\KW c i a s'/\KW c i b s')\/∀k∈x.ks,∃s',KW c i k s'/\aG s'=false)
 fm:x.op=15->x.ks= []/\1<=x.d/\x.d<=8/\0<=x.n/\x.n < 2 ^ x.d.toNat/\s=10+x.d
 eA:x.op=16\/x.op=23->aG s=true/\∃a,x.ks= [a]/\KW c i a s
 gA: 17<=x.op->x.op<=21->aG s=true/\∃a b,x.ks= [a,b]/\KW c i a s/\KW c i b s
 dT:x.op=22->aG s=false/\∃a b s',aG s'=true/\x.ks= [a,b]/\KW c i a s'/\KW c i b s'
 bK:x.op=23->0<=x.n/\x.n<=8
 pl:x.op≠7->x.op≠8->(x.op < 15\/24<=x.op)->(x.op≠9->aG s=false)/\∀k∈x.ks,∃s',KW c i k s'/\aG s'=false
def gu(c:Cx)(t:Tr)(M:Mk)(x:Nd)(s:Int):List Int×Mk:=
 if x.op=9 then dE M (c.p++it (bp c.ds x.nm)++us) (x.ks.map (br t)) 0 (s - 10).toNat
 else if x.op=7 then aX (dv (br t (x.ks.getD 0 0))) M (aJ t (x.ks.getD 1 0)) (aJ t (x.ks.getD 2 0))
 else if x.op=15 then fM M x.n 0 x.d.toNat
 else if x.op=16 then fS M (aJ t (x.ks.getD 0 0))
 else if x.op=17 then aX cE M (aJ t (x.ks.getD 0 0)) (aJ t (x.ks.getD 1 0))
 else if x.op=18 then aX eZ M (aJ t (x.ks.getD 0 0)) (aJ t (x.ks.getD 1 0))
 else if x.op=19 then aX bL M (aJ t (x.ks.getD 0 0)) (aJ t (x.ks.getD 1 0))
 else if x.op=20 then eE M (aJ t (x.ks.getD 0 0)) (aJ t (x.ks.getD 1 0))
 else if x.op=21 then jv M (aJ t (x.ks.getD 0 0)) (aJ t (x.ks.getD 1 0))
 else bJ M (aJ t (x.ks.getD 0 0)) x.n
def hH(t:Tr)(M:Mk)(x:Nd):Int×Mk:=
 if x.op=22 then mc M (aJ t (x.ks.getD 0 0)) (aJ t (x.ks.getD 1 0))
 else if x.op=8/\(aJ t (x.ks.getD 0 0)).isEmpty=false then pj M (aJ t (x.ks.getD 0 0)) (aJ t (x.ks.getD 1 0))
 else dC M x.op x.nm x.n x.d (x.ks.map (br t))
theorem zr{l:List Int}(h: 1<=l.length):l.isEmpty=false:=by cases l with
 | nil=>simp at h
 | cons=>rfl
theorem zk{l:List Int}{n:Nat}(h:l.length=n)(a: 1<=n):T.aa 1 false (enc l)=T.aa 1 l.isEmpty (enc l):=by rw [zr (l:=l) (by omega)]
theorem y9:aG 1=false:=rfl
theorem LL{c:Cx}{t:Tr}{M:Mk}{x:Nd}{i:Nat}{s:Int}(F:c.ns[i]? =some x)(hs:c.ss[i]? =some s)(m:aG s=true)(ok:ov c i x s)(l:cJ c t M i)(hds:c.ds.length<=100)(hp:c.p.size<=100)(E:M.N.length<=40000):
  Or (.call 18) [r0,I (i:Int)] [ad.box [Y'1,AV.t (T.aa 3 c.ed (aT c.ds)),AV.t (T.aa 5 c.en (bd c.ns)),AV.t (T.aa 1 c.eh (enc c.hs)),AV.t (T.str c.p),AV.t (T.aa 1 c.es (enc c.ss)),V'2,V'3],ad.box [V'4,V'5],ad.sl false 1 t.bits.isEmpty (bD t.bits),ad.sl false 1 t.to.isEmpty (enc t.to),ad.rows M.N.isEmpty 5 1 1 M.N.length (rows M.N),ad.mp false [Ck.s] (Ck.i .i64) (cG M.K)]=some [T.aa 1 (gu c t M x s).1.isEmpty (enc (gu c t M x s).1),T.ax,T.aa 3 c.ed (aT c.ds),T.aa 5 c.en (bd c.ns),T.aa 1 c.eh (enc c.hs),T.str c.p,T.aa 1 c.es (enc c.ss),T.ax,T.ax,RW ((gu c t M x s).2).N,T.ax,T.aa 1 t.bits.isEmpty (bD t.bits),T.aa 1 t.to.isEmpty (enc t.to),EM ((gu c t M x s).2).K]/\
   Up M (gu c t M x s).2 1000/\(∀y∈(gu c t M x s).1,In (gu c t M x s).2 y)/\((gu c t M x s).1.length:Int)=s - 10:=by
 have hl:=gP m;have L:∀{a b:Int},x.ks= [a,b]->x.ks.getD 0 0=a/\x.ks.getD 1 0=b:=λe=>by rw [e];exact⟨rfl,rfl⟩
 unfold gu;by_cases c9:x.op=9
 .have hk:=(ok.pl (by omega) (by omega) (by omega)).2;have hkin:∀y∈x.ks.map (br t),In M y:=λy hy=>by
   obtain⟨k,hm,rfl⟩:=XB.1 hy;obtain⟨s',h1,h4⟩:=hk k hm;exact(h1.plain l h4).2.2
  have q:=TL F hs c9 m l hds hp (by have:=ok.kl;omega) hk E;obtain⟨o,u,u3⟩:=I3 (pre:=c.p++it (bp c.ds x.nm)++us) (kids:=x.ks.map (br t)) (k:=(s - 10).toNat) (b:=0) l.ok hkin (by have:=ok.kl;simp;omega);rw [zk u3 (by omega)] at q;rw [if_pos c9];exact⟨q,o.mono (by omega),u,by omega⟩
 rw [if_neg c9];by_cases c7:x.op=7
 .obtain⟨a,b,d,j,w0,r,v⟩:=ok.c7 c7;have q:=TK F c7 j w0 y9 r v m l E;obtain⟨_,_,p2⟩:=w0.plain l y9;obtain⟨O,P,w⟩:=r.word l m;obtain⟨S,U,C⟩:=v.word l m;have up:Up M (aX (dv (br t a)) M (aJ t b) (aJ t d)).2 (1 * (aJ t b).length)/\(∀y∈(aX (dv (br t a)) M (aJ t b) (aJ t d)).1,In (aX (dv (br t a)) M (aJ t b) (aJ t d)).2 y)/\(aX (dv (br t a)) M (aJ t b) (aJ t d)).1.length= (aJ t b).length:=by
   have gen:∀(D B:List Int) (A:Mk),Ok A->In A (br t a)->(∀y∈D,In A y)->(∀y∈B,In A y)->D.length=B.length->
     Up A (aX (dv (br t a)) A D B).2 (1 * D.length)/\(∀y∈(aX (dv (br t a)) A D B).1,In (aX (dv (br t a)) A D B).2 y)/\(aX (dv (br t a)) A D B).1.length=D.length:=by
    intro D;induction D with
    | nil=>intro B A h0 _ _ _ _;rw [show aX (dv (br t a)) A [] B= ([],A) by simp [aX]];exact⟨Up.refl h0,λy hy=>(by cases hy),rfl⟩
    | cons y D ih=>
     intro B A h0 hc h1 h2 e;cases B with
     | nil=>cases e
     | cons z B=>
      obtain⟨o,u⟩:=C3 h0 hc (h1 y W7) (h2 z W7);obtain⟨h3,h4,h5⟩:=ih B _ o.ok (o.In hc) (o.all λz Q=>h1 z (W8 _ Q)) (o.all λz Q=>h2 z (W8 _ Q)) (by simpa using e);refine⟨(o.trans h3).mono (by rw [Xj];omega),λz Q=> ?_,by simp [aX,h5]⟩;rcases Xl.1 Q with rfl | Q
      .exact h3.In u
      .exact h4 z Q
   exact gen _ _ M l.ok p2 w C (by omega)
  obtain⟨o,u,u3⟩:=up;have g:x.ks.getD 0 0=a/\x.ks.getD 1 0=b/\x.ks.getD 2 0=d:=by rw [j];exact⟨rfl,rfl,rfl⟩
  rw [zk u3 (by omega)] at q;rw [if_pos c7,g.1,g.2.1,g.2.2];exact⟨q,o.mono (by omega),u,by omega⟩
 rw [if_neg c7];by_cases fm:x.op=15
 .obtain⟨j,aL,hd2,hn1,hn2,hs'⟩:=ok.fm fm;have q:=TC F fm ⟨aL,hd2⟩ l E;obtain⟨o,u,u3⟩:=Fl (n:=x.n) (k:=x.d.toNat) (b:=0) l.ok;rw [zk u3 (by omega)] at q;rw [if_pos fm];exact⟨q,o.mono (by omega),u,by omega⟩
 rw [if_neg fm];by_cases eA:x.op=16
 .obtain⟨_,a,j,r⟩:=ok.eA (.inl eA);have q:=TD F eA j r m l E;obtain⟨O,P,w⟩:=r.word l m;obtain⟨o,u,u3⟩:=Je l.ok w;rw [zk u3 (by omega)] at q;rw [if_pos eA,show x.ks.getD 0 0=a by rw [j];rfl];exact⟨q,o.mono (by omega),u,by omega⟩
 rw [if_neg eA];by_cases gA:x.op=17
 .obtain⟨_,a,b,j,r,v⟩:=ok.gA (by omega) (by omega);have q:=TE F gA j r v m l E;obtain⟨O,P,w⟩:=r.word l m;obtain⟨S,U,C⟩:=v.word l m;obtain⟨o,u,u3⟩:=tQ (f:=cE) (c:=1) (λM a b h Z hb=>iU h Z hb) l.ok w C (show(aJ t a).length= (aJ t b).length by omega);obtain⟨G,H⟩:=L j;rw [if_pos gA,G,H];refine⟨q,o.mono ?_,u,by omega⟩;have R:(aJ t a).length<=8:=by omega
  have J:(aJ t b).length<=8:=by omega
  omega
 rw [if_neg gA];by_cases V:x.op=18
 .obtain⟨_,a,b,j,r,v⟩:=ok.gA (by omega) (by omega);have q:=TF F V j r v m l E;obtain⟨O,P,w⟩:=r.word l m;obtain⟨S,U,C⟩:=v.word l m;obtain⟨o,u,u3⟩:=tQ (f:=eZ) (c:=1) (λM a b h Z hb=>sH h Z hb) l.ok w C (show(aJ t a).length= (aJ t b).length by omega);obtain⟨G,H⟩:=L j;rw [if_pos V,G,H];refine⟨q,o.mono ?_,u,by omega⟩;have R:(aJ t a).length<=8:=by omega
  have J:(aJ t b).length<=8:=by omega
  omega
 rw [if_neg V];by_cases W:x.op=19
 .obtain⟨_,a,b,j,r,v⟩:=ok.gA (by omega) (by omega);have q:=TG F W j r v m l E;obtain⟨O,P,w⟩:=r.word l m;obtain⟨S,U,C⟩:=v.word l m;obtain⟨o,u,u3⟩:=tQ (f:=bL) (c:=2) (λM a b h Z hb=>qW h Z hb) l.ok w C (show(aJ t a).length= (aJ t b).length by omega);obtain⟨G,H⟩:=L j;rw [if_pos W,G,H];refine⟨q,o.mono ?_,u,by omega⟩;have R:(aJ t a).length<=8:=by omega
  have J:(aJ t b).length<=8:=by omega
  omega
 rw [if_neg W];by_cases X:x.op=20
 .obtain⟨_,a,b,j,r,v⟩:=ok.gA (by omega) (by omega);have q:=TH F X j r v m l E;obtain⟨O,P,w⟩:=r.word l m;obtain⟨S,U,C⟩:=v.word l m;obtain⟨o,u,u3⟩:=K1 l.ok w C (show(aJ t a).length= (aJ t b).length by omega);obtain⟨G,H⟩:=L j;rw [if_pos X,G,H];refine⟨q,o.mono ?_,u,by omega⟩;have R:(aJ t a).length<=8:=by omega
  have J:(aJ t b).length<=8:=by omega
  omega
 rw [if_neg X];by_cases Y:x.op=21
 .obtain⟨_,a,b,j,r,v⟩:=ok.gA (by omega) (by omega);have q:=TI F Y j r v m l E;obtain⟨O,P,w⟩:=r.word l m;obtain⟨S,U,C⟩:=v.word l m;obtain⟨o,u,u3⟩:=Vr l.ok w C;obtain⟨G,H⟩:=L j;rw [if_pos Y,G,H];refine⟨q,o.mono ?_,u,by omega⟩;have R:(aJ t a).length<=8:=by omega
  have J:(aJ t b).length<=8:=by omega
  have:=aar (show 9 * (aJ t a).length+1<=73 by omega) J;omega
 rw [if_neg Y];have bK:x.op=23:=by
  rcases Zt (x.op=23) with h | h
  .exact h
  .exfalso;have hop:=ok.op;by_cases dT:x.op=22
   .rw [(ok.dT dT).1] at m;cases m
   by_cases c8:x.op=8
   .rw [(ok.c8 c8).1] at m;cases m
   .have:=(ok.pl c7 c8 (by omega)).1 c9;rw [this] at m;cases m
 obtain⟨_,a,j,r⟩:=ok.eA (.inr bK);have hn:=ok.bK bK;have q:=TJ F bK j r hn m l E;obtain⟨O,P,w⟩:=r.word l m;obtain⟨o,u,u3⟩:=wE (n:=x.n) hn.1 l.ok w;rw [show x.ks.getD 0 0=a by rw [j];rfl];exact⟨q,o.mono (by omega),u,by omega⟩
theorem JB{c:Cx}{t:Tr}{M:Mk}{x:Nd}{i:Nat}{s:Int}(D:c.ns[i]? =some x)(u:aG s=false)(ok:ov c i x s)(g:cJ c t M i)(C:M.N.length<=40000):
  Or (.call 19) [r0,I (i:Int)] [ad.box [Y'1,AV.t (T.aa 3 c.ed (aT c.ds)),AV.t (T.aa 5 c.en (bd c.ns)),AV.t (T.aa 1 c.eh (enc c.hs)),AV.t (T.str c.p),AV.t (T.aa 1 c.es (enc c.ss)),V'2,V'3],ad.box [V'4,V'5],ad.sl false 1 t.bits.isEmpty (bD t.bits),ad.sl false 1 t.to.isEmpty (enc t.to),ad.rows M.N.isEmpty 5 1 1 M.N.length (rows M.N),ad.mp false [Ck.s] (Ck.i .i64) (cG M.K)]=some [ti (hH t M x).1,T.ax,T.aa 3 c.ed (aT c.ds),T.aa 5 c.en (bd c.ns),T.aa 1 c.eh (enc c.hs),T.str c.p,T.aa 1 c.es (enc c.ss),T.ax,T.ax,RW ((hH t M x).2).N,T.ax,T.aa 1 t.bits.isEmpty (bD t.bits),T.aa 1 t.to.isEmpty (enc t.to),EM ((hH t M x).2).K]/\Up M (hH t M x).2 1000/\In (hH t M x).2 (hH t M x).1:=by
 have Y:=ok.op;have hn:=ok.n;have hd:=ok.d;have A:∀{a b:Int},x.ks= [a,b]->x.ks.getD 0 0=a/\x.ks.getD 1 0=b:=λe=>by rw [e];exact⟨rfl,rfl⟩
 have E:(∀k∈x.ks,∃s',KW c i k s'/\aG s'=false)->∀y∈x.ks.map (br t),In M y:=λo y W=>by obtain⟨k,hm,rfl⟩:=XB.1 W;obtain⟨s',H,V⟩:=o k hm;exact(H.plain g V).2.2
 unfold hH;by_cases dT:x.op=22
 .obtain⟨_,a,b,s',j,f,l,m⟩:=ok.dT dT;have hl:=gP j;have q:=TM D dT f l m j g C;obtain⟨L,O,F⟩:=l.word g j;obtain⟨P,Q,G⟩:=m.word g j;obtain⟨_,v,w⟩:=Kw g.ok (ea:=true) (eb:=true) (a:=aJ t a) (b:=aJ t b) (by omega) (by omega) F G (by omega);obtain⟨z,B⟩:=A f;rw [if_pos dT,z,B];exact⟨q,v.mono (by omega),w⟩
 rw [if_neg dT];by_cases c8:x.op=8
 .obtain⟨_,a,b,s',f,⟨j,l,m⟩ | o⟩:=ok.c8 c8
  .have hl:=gP j;have q:=TN D c8 f l m j g C;obtain⟨L,O,F⟩:=l.word g j;obtain⟨P,Q,G⟩:=m.word g j;obtain⟨v,w⟩:=US g.ok (show(aJ t a).length= (aJ t b).length by omega) F G;obtain⟨z,B⟩:=A f;rw [z,B,if_pos ⟨c8,zr (by omega)⟩];exact⟨q,v.mono (by omega),w⟩
  .have q:=Kq D dT (λ_=>⟨a,[b],f⟩) g C (by have:=ok.kl;omega) o ⟨by omega,by omega⟩ ⟨by omega,by omega⟩ ⟨by omega,by omega⟩ (by have:=ok.nm;omega);obtain⟨v,w⟩:=lI g.ok x.op x.nm x.n x.d (x.ks.map (br t)) (E o) (λe=>by omega) (by have:=ok.kl;simp;omega);obtain⟨z,B⟩:=A f;obtain⟨s2,l,m⟩:=o a (by rw [f];exact W7);obtain⟨R,_⟩:=l.plain g m;have S:aJ t a= []:=by unfold aJ;rw [Xa,R];rfl
   rw [if_neg (by rw [z,S];simp)];exact⟨q,v.mono (by omega),w⟩
 .have o:∀k∈x.ks,∃s',KW c i k s'/\aG s'=false:=by
   by_cases c7:x.op=7
   .obtain⟨a,b,d,f,X,l,m⟩:=ok.c7 c7;intro k hm;rw [f] at hm;simp only [Xl,Yj,or_false] at hm;rcases hm with rfl | rfl | rfl
    .exact⟨_,X,y9⟩
    .exact⟨_,l,u⟩
    .exact⟨_,m,u⟩
   .refine(ok.pl c7 c8 ?_).2;rcases Zt (x.op < 15\/24<=x.op) with h | h
    .exact h
    .exfalso;by_cases fm:x.op=15
     .obtain⟨_,H,Z,_,_,U⟩:=ok.fm fm;subst U;unfold aG at u;simp at u;omega
     by_cases eA:x.op=16\/x.op=23
     .rw [(ok.eA eA).1] at u;cases u
     .rw [(ok.gA (by omega) (by omega)).1] at u;cases u
  have q:=Kq D dT (λe=>absurd e c8) g C (by have:=ok.kl;omega) o ⟨by omega,by omega⟩ ⟨by omega,by omega⟩ ⟨by omega,by omega⟩ (by have:=ok.nm;omega);obtain⟨v,w⟩:=lI g.ok x.op x.nm x.n x.d (x.ks.map (br t)) (E o) (λe=>by
   obtain⟨k,r,J⟩:=ok.c3 e;exact⟨br t k,r.map (br t),by rw [J];rfl⟩) (by have:=ok.kl;simp;omega)
  rw [if_neg (λe=>c8 e.1)];exact⟨q,v.mono (by omega),w⟩
open Go Go.Aev Go.IntKind
def mX(k:Nat)(p:Nd×Bool):Row:=Row.mk k [ti p.1.op,T.ax,ti p.1.n,ti p.1.d,T.str p.1.nm] (cond p.2 none (some (p.1.ek,enc p.1.ks)))
def fv:Nat->List (Nd×Bool)->List Row
 | _,[]=> []
 | k,p::r=>mX k p::fv (k+1) r
theorem xf:∀(k:Nat) (l:List (Nd×Bool)),(fv k l).length=l.length
 | _,[]=>rfl
 | k,p::r=>by rw [fv,Xj,xf,Xj]
theorem J8:∀{k:Nat} {l:List (Nd×Bool)} {i:Nat} {p:Nd×Bool},l[i]? =some p->(fv k l)[i]? =some (mX (k+i) p)
 | _,[],_,_,h=>by simp at h
 | k,y::r,0,x,h=>by simp at h;subst h;rfl
 | k,y::r,i+1,x,h=>by rw [fv,Yn,J8 (by simpa using h),show k+1+i=k+ (i+1) by omega]
theorem J7:∀{k:Nat} {l:List (Nd×Bool)} {i:Nat} {x:Nd},l[i]? =some (x,false)->cU (k+i) (fv k l)=some (x.ek,enc x.ks)
 | _,[],_,_,h=>by simp at h
 | k,y::r,0,x,h=>by simp at h;subst h;simp [fv,mX,cU]
 | k,y::r,i+1,x,h=>by have a:=J7 (k:=k+1) (l:=r) (i:=i) (x:=x) (by simpa using h);rw [show k+1+i=k+ (i+1) by omega] at a;rw [fv,cU,if_neg (by simp [mX]),a]
theorem Ka{ks:List Int}:∀{k:Nat} {l:List (Nd×Bool)} {i:Nat} {x:Nd} {g:Bool},l[i]? =some (x,g)->dG (k+i) (some (x.ek,enc ks)) (fv k l)=fv k (l.set i (⟨x.op,x.ek,ks,x.n,x.d,x.nm⟩,false))
 | _,[],_,_,_,h=>by simp at h
 | k,y::r,0,x,g,h=>by simp at h;subst h;simp [fv,mX,dG]
 | k,y::r,i+1,x,g,h=>by have a:=Ka (ks:=ks) (k:=k+1) (l:=r) (i:=i) (x:=x) (g:=g) (by simpa using h);rw [show k+1+i=k+ (i+1) by omega] at a;rw [fv,dG,if_neg (by simp [mX]),a,Zn,fv]
theorem J9:∀{k:Nat} {l:List (Nd×Bool)} {i:Nat} {x:Nd} {g:Bool},l[i]? =some (x,g)->dG (k+i) none (fv k l)=fv k (l.set i (x,true))
 | _,[],_,_,_,h=>by simp at h
 | k,y::r,0,x,g,h=>by simp at h;subst h;simp [fv,mX,dG]
 | k,y::r,i+1,x,g,h=>by have a:=J9 (k:=k+1) (l:=r) (i:=i) (x:=x) (g:=g) (by simpa using h);rw [show k+1+i=k+ (i+1) by omega] at a;rw [fv,dG,if_neg (by simp [mX]),a,Zn,fv]
theorem J6:∀(k:Nat) (l:List Nd),fv k (l.map λx=>(x,false))=gR k l
 | _,[]=>rfl
 | k,x::r=>by rw [Xq,fv,J6 (k+1) r];rfl
def fg(l:List Bool):List (List T):=l.map λb=> [tb b]
theorem nM(l:List Bool):(fg l).length=l.length:=by simp [fg]
theorem rT{l:List Bool}{i:Nat}{b:Bool}(h:l[i]? =some b):(fg l)[i]? =some [tb b]:=by simp [fg,h]
theorem KX{l:List Bool}{i:Nat}(v:Bool)(h:i < l.length):jd i 0 [tb v] (fg l)=some (fg (l.set i v)):=by unfold jd;rw [rT (Xd h)];simp [cK,fg]
theorem Ai{l:List Int}{i:Nat}(v:Int)(h:i < l.length):jd i 0 [ti v] (enc l)=some (enc (l.set i v)):=by unfold jd;rw [fP (Xd h)];simp [cK,enc]
def eK(need:List Bool):List Int->List Bool
 | []=>need
 | k::r=>eK (need.set k.toNat true) r
theorem sA:∀(ks:List Int) (need:List Bool),(eK need ks).length=need.length
 | [],_=>rfl
 | k::r,need=>by rw [eK,sA r,YZ]
def back(N:List Nd)(need:List Bool):Nat->List Bool
 | 0=>need
 | i+1=>back N (if need.getD i false then eK need ((N.getD i ⟨0,true,[],0,0,s0⟩).ks) else need) i
theorem ES(N:List Nd):∀(i:Nat) (need:List Bool),(back N need i).length=need.length
 | 0,_=>rfl
 | i+1,need=>by rw [back,ES N i];split <;> simp [sA]
def eO(need:List Bool):Nat->List Nd->List Int->List Nd->List Int×List Nd
 | _,[],to,out=>(to,out)
 | i,x::r,to,out=>
  if need.getD i false then eO need (i+1) r (to.set i (out.length:Int)) (out++ [⟨x.op,x.ek,x.ks.map λk=>(to.set i (out.length:Int)).getD k.toNat 0,x.n,x.d,x.nm⟩])
  else eO need (i+1) r to out
def jf(N:List Nd)(hold:List Int):List Nd×List Int:=
 let need:=back N (eK (List.replicate N.length false) hold) N.length;let q:=eO need 0 N (List.replicate N.length 0) []
 (q.2,hold.map λk=>q.1.getD k.toNat 0)
abbrev du:ad:=ad.box [AV.t (T.aC true),AV.t (T.aC true),AV.t (T.aC true)]
theorem Ry{N:List Nd}{eh:Bool}{hold:List Int}{ed:Bool}{ds:List (List T)}(hl:hold.length<=1000){r:List T}:∀(a:List Int) (j:Nat) (need:List Bool),hold.drop j=a->need.length=N.length->N.length<=100000->(∀k∈a,0<=k/\k < (N.length:Int))->
  Or ot [Y'2,Y'3,o4,I ((N.length:Int) - 1)] [ad.rows N.isEmpty 5 1 1 N.length (rows N),ad.sl false 1 eh (enc hold),ad.box [AV.t (T.aa 3 ed ds),o0,o1],du,ad.sl false 1 false (fg (eK need a))]=some r->
  Or xG [Y'2,Y'3,o4,o1,I (hold.length:Int),I (j:Int)] [ad.rows N.isEmpty 5 1 1 N.length (rows N),ad.sl false 1 eh (enc hold),ad.box [AV.t (T.aa 3 ed ds),o0,o1],du,ad.sl false 1 false (fg need)]=some r:=by
 intro a;induction a with
 | nil=>
  intro j need g f h e b;have d:¬(j:Int) < (hold.length:Int):=by have:=bu g;omega
  have w:i64.wrap ((N.length:Int) - 1)= (N.length:Int) - 1:=wr (by omega);rw [eK] at b;refine ai ?_;rw [F9];simp only [ao,↓reduceIte,d,nM,f,w];exact b
 | cons k a s=>
  intro j need g f h e b;obtain⟨g1,v,n⟩:=bt g;have d:(j:Int) < (hold.length:Int):=by omega
  have h0: 0<=(j:Int):=by omega
  have u:=e k W7;have o: 0<=k/\k < (need.length:Int):=by omega
  have m:=KX (l:=need) (i:=k.toNat) true (by omega);rw [eK] at b;have q:=s (j+1) (need.set k.toNat true) n (by simp [f]) h (λy p=>e y (W8 _ p)) b;refine ai ?_;rw [F9];simp only [ao,↓reduceIte,d,h0,and_self,aE,bR g1,nM,o,m,next j (by omega)];exact q
theorem Rx{N:List Nd}{eh:Bool}{hold:List Int}{ed:Bool}{ds:List (List T)}{i:Nat}{x:Nd}(m:N[i]? =some x)(v:x.ks.length<=1000)(A:N.length<=100000){r:List T}:∀(a:List Int) (j:Nat) (need:List Bool),x.ks.drop j=a->need.length=N.length->(∀k∈a,0<=k/\k < (N.length:Int))->
  Or ot [Y'2,Y'3,o4,I ((i:Int) - 1)] [ad.rows N.isEmpty 5 1 1 N.length (rows N),ad.sl false 1 eh (enc hold),ad.box [AV.t (T.aa 3 ed ds),o0,o1],du,ad.sl false 1 false (fg (eK need a))]=some r->
  Or xF [Y'2,Y'3,o4,I (i:Int),AV.row (Id.c 0) i,I (x.ks.length:Int),I (j:Int)] [ad.rows N.isEmpty 5 1 1 N.length (rows N),ad.sl false 1 eh (enc hold),ad.box [AV.t (T.aa 3 ed ds),o0,o1],du,ad.sl false 1 false (fg need)]=some r:=by
 have B:i < N.length:=(W9.1 m).1;intro a;induction a with
 | nil=>
  intro j need g f e b;have d:¬(j:Int) < (x.ks.length:Int):=by have:=bu g;omega
  have w:i64.wrap ((i:Int) - 1)= (i:Int) - 1:=wr (by omega);rw [eK] at b;refine ai ?_;rw [F6];simp only [ao,↓reduceIte,d,w];exact b
 | cons k a s=>
  intro j need g f e b;obtain⟨g1,z,n⟩:=bt g;have d:(j:Int) < (x.ks.length:Int):=by omega
  have h0: 0<=(j:Int):=by omega
  have u:=e k W7;have o: 0<=k/\k < (need.length:Int):=by omega
  have h:=KX (l:=need) (i:=k.toNat) true (by omega);rw [eK] at b;have q:=s (j+1) (need.set k.toNat true) n (by simp [f]) (λy p=>e y (W8 _ p)) b;refine ai ?_;rw [F6];simp only [ao,↓reduceIte,d,h0,and_self,Dn m,aE,bR g1,nM,o,h,next j (by omega)];exact q
theorem Rt{N:List Nd}{eh:Bool}{hold:List Int}{ed:Bool}{ds:List (List T)}(s:N.length<=100000)(l:∀x∈N,x.ks.length<=1000)(m:∀(i:Nat) (x:Nd),N[i]? =some x->∀k∈x.ks,0<=k/\k < (i:Int)){r:List T}:∀(i:Nat) (need:List Bool),i<=N.length->need.length=N.length->
  Or ot [Y'2,Y'3,o4,I (-1)] [ad.rows N.isEmpty 5 1 1 N.length (rows N),ad.sl false 1 eh (enc hold),ad.box [AV.t (T.aa 3 ed ds),o0,o1],du,ad.sl false 1 false (fg (back N need i))]=some r->
  Or ot [Y'2,Y'3,o4,I ((i:Int) - 1)] [ad.rows N.isEmpty 5 1 1 N.length (rows N),ad.sl false 1 eh (enc hold),ad.box [AV.t (T.aa 3 ed ds),o0,o1],du,ad.sl false 1 false (fg need)]=some r:=by
 intro i;induction i with
 | zero=>intro need _ e a;exact a
 | succ i o=>
  intro need y e a;have g:i < N.length:=by omega
  have p:(((i+1:Nat):Int) - 1)= (i:Int):=by omega
  have j:(i:Int)>=0:=by omega
  have h0: 0<=(i:Int)/\(i:Int) < (need.length:Int):=by omega
  have q: 0<=(i:Int)/\(i:Int) < (N.length:Int):=by omega
  have b:=Xd g;have d:need[i]? =some (need.getD i false):=by rw [Xa,Xd (by omega)];rfl
  have w:i64.wrap ((i:Int) - 1)= (i:Int) - 1:=wr (by omega);rw [p];rw [back] at a;cases f:need.getD i false with
  | false=>rw [f] at a d;have h:=o need (by omega) e (by simpa using a);refine ai ?_;rw [Bu];simp only [ao,↓reduceIte,j,h0,and_self,nM,Xv,rT d,w];exact h
  | true=>
   rw [f] at a d;have n:N.getD i ⟨0,true,[],0,0,s0⟩=N[i]:=by rw [Xa,b];rfl
   rw [n] at a;have h:=o (eK need N[i].ks) (by omega) (by rw [sA,e]) (by simpa using a);have v:=Rx (eh:=eh) (hold:=hold) (ed:=ed) (ds:=ds) b (l _ (Y5 g)) s N[i].ks 0 need rfl e (λk u=>by have:=m i _ b k u;omega) h;refine ai ?_;rw [Bu];simp only [ao,↓reduceIte,j,h0,q,and_self,nM,Xv,rT d,aZ,Dp b,J5,Dn b,aE];exact v
abbrev GR(L:List (Nd×Bool))(e:Bool)(n:Nat):ad:=ad.rows e 5 1 1 n (fv 0 L)
theorem yY{L:List (Nd×Bool)}{i:Nat}{p:Nd×Bool}(h:L[i]? =some p):(fv 0 L)[i]? =some (mX i p):=by have:=J8 (k:=0) h;rwa [XF] at this
theorem tY{L:List (Nd×Bool)}{i:Nat}{x:Nd}(h:L[i]? =some (x,false)):cU i (fv 0 L)=some (x.ek,enc x.ks):=by have:=J7 (k:=0) h;rwa [XF] at this
theorem Hz{ks:List Int}{L:List (Nd×Bool)}{i:Nat}{x:Nd}{g:Bool}(h:L[i]? =some (x,g)):dG i (some (x.ek,enc ks)) (fv 0 L)=fv 0 (L.set i (⟨x.op,x.ek,ks,x.n,x.d,x.nm⟩,false)):=by have:=Ka (ks:=ks) (k:=0) h;rwa [XF] at this
theorem Hy{L:List (Nd×Bool)}{i:Nat}{x:Nd}{g:Bool}(h:L[i]? =some (x,g)):dG i none (fv 0 L)=fv 0 (L.set i (x,true)):=by have:=J9 (k:=0) h;rwa [XF] at this
theorem J3(k:Nat)(p:Nd×Bool):(mX k p).n=k:=rfl
theorem zR(k:Nat)(p:Nd×Bool):(mX k p).cs= [ti p.1.op,T.ax,ti p.1.n,ti p.1.d,T.str p.1.nm]:=rfl
abbrev dX(ed:Bool)(ds:List (List T))(x y:AV):ad:=ad.box [AV.t (T.aa 3 ed ds),x,y]
def jo(x:Nd):List T:= [ti x.op,T.aa 1 x.ek (enc x.ks),ti x.n,ti x.d,T.str x.nm]
theorem IX{eh:Bool}{hold:List Int}{ed ee:Bool}{ds:List (List T)}{need:List Bool}{to:List Int}{i n:Nat}{x:Nd}(D:n<=100000)(B:x.ks.length<=1000)(w:∀k∈x.ks,0<=k/\k < (to.length:Int)){outB:AV}{more:List ad}{r:List T}
  (step:∀(L:List (Nd×Bool)) (j:Nat) (k v:Int) (a:List Int),(j:Int) < (x.ks.length:Int)->L[i]? =some (⟨x.op,x.ek,a,x.n,x.d,x.nm⟩,false)->a[j]? =some k->(0<=k/\k < (to.length:Int))->to[k.toNat]? =some v->j < a.length->a.length=x.ks.length->
   Or jg [Y'2,Y'3,o4,o5,Y'6,Y'7,o0,I (n:Int),I (i:Int),AV.row (Id.c 0) i,I (x.ks.length:Int),I ((j+1:Nat):Int)] ([GR (L.set i (⟨x.op,x.ek,a.set j v,x.n,x.d,x.nm⟩,false)) ee n,ad.sl false 1 eh (enc hold),dX ed ds o0 o1,du,ad.sl false 1 false (fg need),ad.sl false 1 false (enc to),dX ed ds outB (AV.t (T.aC true)),ad.box [I x.op,AV.row (Id.c 0) i,I x.n,I x.d,AV.t (T.str x.nm)]] ++more)=some r->
   Or jg [Y'2,Y'3,o4,o5,Y'6,Y'7,o0,I (n:Int),I (i:Int),AV.row (Id.c 0) i,I (x.ks.length:Int),I (j:Int)] ([GR L ee n,ad.sl false 1 eh (enc hold),dX ed ds o0 o1,du,ad.sl false 1 false (fg need),ad.sl false 1 false (enc to),dX ed ds outB (AV.t (T.aC true)),ad.box [I x.op,AV.row (Id.c 0) i,I x.n,I x.d,AV.t (T.str x.nm)]] ++more)=some r):
  ∀(b:List Int) (j:Nat) (L:List (Nd×Bool)) (a:List Int),x.ks.drop j=b->j<=x.ks.length->i < L.length->a.length=j->L[i]? =some (⟨x.op,x.ek,a++b,x.n,x.d,x.nm⟩,false)->
   Or jg [Y'2,Y'3,o4,o5,Y'6,Y'7,o0,I (n:Int),I (i:Int),AV.row (Id.c 0) i,I (x.ks.length:Int),I (x.ks.length:Int)] ([GR (L.set i (⟨x.op,x.ek,a++b.map (λk=>to.getD k.toNat 0),x.n,x.d,x.nm⟩,false)) ee n,ad.sl false 1 eh (enc hold),dX ed ds o0 o1,du,ad.sl false 1 false (fg need),ad.sl false 1 false (enc to),dX ed ds outB (AV.t (T.aC true)),ad.box [I x.op,AV.row (Id.c 0) i,I x.n,I x.d,AV.t (T.str x.nm)]] ++more)=some r->
   Or jg [Y'2,Y'3,o4,o5,Y'6,Y'7,o0,I (n:Int),I (i:Int),AV.row (Id.c 0) i,I (x.ks.length:Int),I (j:Int)] ([GR L ee n,ad.sl false 1 eh (enc hold),dX ed ds o0 o1,du,ad.sl false 1 false (fg need),ad.sl false 1 false (enc to),dX ed ds outB (AV.t (T.aC true)),ad.box [I x.op,AV.row (Id.c 0) i,I x.n,I x.d,AV.t (T.str x.nm)]] ++more)=some r:=by
 intro b;induction b with
 | nil=>
  intro j L a g u f e l h;have q:j=x.ks.length:=by have:=bu g;omega
  have m:L.set i (⟨x.op,x.ek,a++ ([]:List Int).map (λk=>to.getD k.toNat 0),x.n,x.d,x.nm⟩,false)=L:=by have s:=(W9.1 l).2;rw [XY,<-s,List.set_getElem_self]
  rw [m] at h;rw [q];exact h
 | cons k b A=>
  intro j L a g u f e l h;obtain⟨g1,C,o⟩:=bt g;have p:=w k (Xg g1);have z:to[k.toNat]? =some (to.getD k.toNat 0):=by rw [Xa,Xd (by omega)];rfl
  have y:=FC o (by omega);refine step L j k (to.getD k.toNat 0) (a++k::b) (by omega) l (by rw [Xs (by omega),e,Yc];rfl) p z (by simp;omega) (by simp;omega) ?_;have hs:(a++k::b).set j (to.getD k.toNat 0)= (a++ [to.getD k.toNat 0])++b:=by rw [List.set_append_right _ _ (by omega),e,Yc,ZD,XC];rfl
  rw [hs];refine A (j+1) _ (a++ [to.getD k.toNat 0]) o (by omega) (by simpa using f) (by simp [e]) ?_ ?_
  .rw [YG f]
  .rw [List.set_set];rw [Xq] at h;simpa only [XC,XL] using h
def gO(need:List Bool)(i:Nat)(N:List Nd)(D:Nat->Nd):List (Nd×Bool):=N.mapIdx λj x=>if j < i then(if need.getD j false then(D j,true) else(x,false)) else(x,false)
theorem B9(need:List Bool)(i:Nat)(N:List Nd)(D:Nat->Nd):(gO need i N D).length=N.length:=by simp [gO]
theorem B8{need:List Bool}{i j:Nat}{N:List Nd}{D:Nat->Nd}{x:Nd}(h:N[j]? =some x):(gO need i N D)[j]? =some (if j < i then(if need.getD j false then(D j,true) else(x,false)) else(x,false)):=by unfold gO;rw [Y0,h];rfl
theorem HC{need:List Bool}{i:Nat}{N:List Nd}{D:Nat->Nd}(h:need.getD i false=false):gO need (i+1) N D=gO need i N D:=by
 unfold gO;refine Yz λj=> ?_;rw [Y0,Y0];cases N[j]? with
 | none=>rfl
 | some x=>
  simp only [YJ];by_cases e:j=i
  .subst e;rw [if_pos (Zv _),h,if_neg (YD _)];rfl
  .by_cases a:j < i
   .rw [if_pos a,if_pos (by omega)]
   .rw [if_neg a,if_neg (by omega)]
theorem HD{need:List Bool}{i:Nat}{N:List Nd}{D a:Nat->Nd}{y:Nd}(h:need.getD i false=true)(d:i < N.length)(c:a=λj=>if j=i then y else D j):gO need (i+1) N a= (gO need i N D).set i (y,true):=by
 refine Yz λj=> ?_;by_cases e:j=i
 .subst e;rw [YG (by rw [B9];exact d),B8 (Xd d),if_pos (Zv _),h,c];simp
 .rw [Y1 (ZU e)];unfold gO;rw [Y0,Y0];cases N[j]? with
  | none=>rfl
  | some x=>
   simp only [YJ];by_cases b:j < i
   .rw [if_pos b,if_pos (by omega),c];simp only [if_neg e]
   .rw [if_neg b,if_neg (by omega)]
theorem Qf(need:List Bool)(N:List Nd)(D:Nat->Nd):gO need 0 N D=N.map λx=>(x,false):=by unfold gO;refine Yz λj=> ?_;rw [Y0,XU];cases N[j]? <;> simp
open Go Go.Aev Go.IntKind
abbrev MF(L:List (Nd×Bool))(ee eh ed:Bool)(n:Nat)(hold:List Int)(ds:List (List T))(need:List Bool)(to:List Int)(x:AV):List ad:=
 [GR L ee n,ad.sl false 1 eh (enc hold),dX ed ds o0 o1,du,ad.sl false 1 false (fg need),ad.sl false 1 false (enc to),dX ed ds x (AV.t (T.aC true))]
theorem Qi{eh ee ed:Bool}{hold:List Int}{ds:List (List T)}{need:List Bool}{to:List Int}{i n:Nat}{x:Nd}(z:n<=100000)(m:x.ks.length<=1000)(w:∀k∈x.ks,0<=k/\k < (to.length:Int)){L:List (Nd×Bool)}(g:i < L.length)(s:L[i]? =some (x,false)){r:List T}
  (e:Or ke [Y'2,Y'3,o4,o5,Y'6,o0,I (n:Int),I ((i+1:Nat):Int)] (MF (L.set i (⟨x.op,x.ek,x.ks.map λk=>to.getD k.toNat 0,x.n,x.d,x.nm⟩,true)) ee eh ed n hold ds need to V'7++ [ad.sl false 5 false [jo ⟨x.op,x.ek,x.ks.map λk=>to.getD k.toNat 0,x.n,x.d,x.nm⟩]])=some r) (B:i<=100000):
  Or jg [Y'2,Y'3,o4,o5,Y'6,Y'7,o0,I (n:Int),I (i:Int),AV.row (Id.c 0) i,I (x.ks.length:Int),I 0] (MF L ee eh ed n hold ds need to (AV.t (T.aC true))++ [ad.box [I x.op,AV.row (Id.c 0) i,I x.n,I x.d,AV.t (T.str x.nm)]])=some r:=by
 refine IX (need:=need) (outB:=AV.t (T.aC true)) (more:= []) z m w (λL j k v o p f l h A u y e=> ?_) x.ks 0 L [] rfl (XZ _) g rfl s ?_
 .have h0: 0<=(j:Int):=by omega
  have q:(j:Int) < (o.length:Int):=by omega
  refine ai ?_;show au aj ann Or jg _ [GR L ee n,ad.sl false 1 eh (enc hold),dX ed ds o0 o1,du,ad.sl false 1 false (fg need),ad.sl false 1 false (enc to),dX ed ds (AV.t (T.aC true)) (AV.t (T.aC true)),ad.box [I x.op,AV.row (Id.c 0) i,I x.n,I x.d,AV.t (T.str x.nm)]]=_;rw [F7];simp only [ao,↓reduceIte,p,h0,and_self,tY f,aE,q,fP l,h,fP A,Xv,Ai v u,next j (by omega)];have:=Hz (ks:=o.set j v) f;rw [this];exact e
 .have a:(L.set i (⟨x.op,x.ek,[] ++x.ks.map (λk=>to.getD k.toNat 0),x.n,x.d,x.nm⟩,false))[i]? =some (⟨x.op,x.ek,x.ks.map λk=>to.getD k.toNat 0,x.n,x.d,x.nm⟩,false):=by
   rw [YG g];rfl
  have b:=Hy a;rw [List.set_set] at b;refine ai ?_;show au aj ann Or jg _ [GR (L.set i (⟨x.op,x.ek,[] ++x.ks.map (λk=>to.getD k.toNat 0),x.n,x.d,x.nm⟩,false)) ee n,ad.sl false 1 eh (enc hold),dX ed ds o0 o1,du,ad.sl false 1 false (fg need),ad.sl false 1 false (enc to),dX ed ds (AV.t (T.aC true)) (AV.t (T.aC true)),ad.box [I x.op,AV.row (Id.c 0) i,I x.n,I x.d,AV.t (T.str x.nm)]]=_;rw [F7];simp only [ao,XS,decide_false,tY a,b,next i (by omega)];exact e
theorem Qj{eh ee ed:Bool}{hold:List Int}{ds:List (List T)}{need:List Bool}{to:List Int}{i n:Nat}{x:Nd}{out:List Nd}(C:out.length<=100000)(z:n<=100000)(m:x.ks.length<=1000)(w:∀k∈x.ks,0<=k/\k < (to.length:Int)){L:List (Nd×Bool)}(g:i < L.length)(s:L[i]? =some (x,false)){r:List T}
  (a:Or ke [Y'2,Y'3,o4,o5,Y'6,o0,I (n:Int),I ((i+1:Nat):Int)] (MF (L.set i (⟨x.op,x.ek,x.ks.map λk=>to.getD k.toNat 0,x.n,x.d,x.nm⟩,true)) ee eh ed n hold ds need to V'7++ [ad.sl false 5 false ((out++ [(⟨x.op,x.ek,x.ks.map λk=>to.getD k.toNat 0,x.n,x.d,x.nm⟩:Nd)]).map jo)])=some r) (B:i<=100000):
  Or jg [Y'2,Y'3,o4,o5,Y'6,Y'7,o0,I (n:Int),I (i:Int),AV.row (Id.c 0) i,I (x.ks.length:Int),I 0] (MF L ee eh ed n hold ds need to V'8++ [ad.box [I x.op,AV.row (Id.c 0) i,I x.n,I x.d,AV.t (T.str x.nm)],ad.sl false 5 false (out.map jo)])=some r:=by
 refine IX (need:=need) (outB:=V'8) (more:= [ad.sl false 5 false (out.map jo)]) z m w (λL j k v o p f l h A u y a=> ?_) x.ks 0 L [] rfl (XZ _) g rfl s ?_
 .have h0: 0<=(j:Int):=by omega
  have q:(j:Int) < (o.length:Int):=by omega
  refine ai ?_;show au aj ann Or jg _ [GR L ee n,ad.sl false 1 eh (enc hold),dX ed ds o0 o1,du,ad.sl false 1 false (fg need),ad.sl false 1 false (enc to),dX ed ds V'8 (AV.t (T.aC true)),ad.box [I x.op,AV.row (Id.c 0) i,I x.n,I x.d,AV.t (T.str x.nm)],ad.sl false 5 false (out.map jo)]=_;rw [F8];simp only [ao,↓reduceIte,p,h0,and_self,tY f,aE,q,fP l,h,fP A,Xv,Ai v u,next j (by omega)];have:=Hz (ks:=o.set j v) f;rw [this];exact a
 .have b:(L.set i (⟨x.op,x.ek,[] ++x.ks.map (λk=>to.getD k.toNat 0),x.n,x.d,x.nm⟩,false))[i]? =some (⟨x.op,x.ek,x.ks.map λk=>to.getD k.toNat 0,x.n,x.d,x.nm⟩,false):=by
   rw [YG g];rfl
  have e:=Hy b;rw [List.set_set] at e;rw [YY] at a;refine ai ?_;show au aj ann Or jg _ [GR (L.set i (⟨x.op,x.ek,[] ++x.ks.map (λk=>to.getD k.toNat 0),x.n,x.d,x.nm⟩,false)) ee n,ad.sl false 1 eh (enc hold),dX ed ds o0 o1,du,ad.sl false 1 false (fg need),ad.sl false 1 false (enc to),dX ed ds V'8 (AV.t (T.aC true)),ad.box [I x.op,AV.row (Id.c 0) i,I x.n,I x.d,AV.t (T.str x.nm)],ad.sl false 5 false (out.map jo)]=_;rw [F8];simp only [ao,XS,decide_false,tY b,e,next i (by omega),XQ,dc (show out.length+1<=1000000 by omega)];exact a
theorem Ig{need:List Bool}{i:Nat}{x:Nd}{r:List Nd}{to:List Int}{out:List Nd}(h:need.getD i false=true):eO need i (x::r) to out=eO need (i+1) r (to.set i (out.length:Int)) (out++ [⟨x.op,x.ek,x.ks.map λk=>(to.set i (out.length:Int)).getD k.toNat 0,x.n,x.d,x.nm⟩]):=by rw [eO,if_pos h]
theorem If{need:List Bool}{i:Nat}{x:Nd}{r:List Nd}{to:List Int}{out:List Nd}(h:need.getD i false=false):eO need i (x::r) to out=eO need (i+1) r to out:=by rw [eO,if_neg (by rw [h];simp)]
theorem Rv{N:List Nd}{eh ee ed:Bool}{hold:List Int}{ds:List (List T)}{need:List Bool}(H:N.length<=90000)(u:∀x∈N,x.ks.length<=1000)(v:∀(i:Nat) (x:Nd),N[i]? =some x->∀k∈x.ks,0<=k/\k < (i:Int))(F:need.length=N.length){r:List T}:∀(rest:List Nd) (i:Nat) (to:List Int) (out:List Nd) (D:Nat->Nd),N.drop i=rest->i<=N.length->to.length=N.length->out.length<=i->
  (∀L,Or il [Y'2,V'3,Y'4,o1,I (hold.length:Int),I 0] [GR L ee N.length,ad.sl false 1 eh (enc hold),du,ad.sl false 1 false (enc (eO need i rest to out).1),dX ed ds V'5 (AV.t (T.aC true)),ad.sl false 5 false ((eO need i rest to out).2.map jo)]=some r)->
  Or ke [Y'2,Y'3,o4,o5,Y'6,o0,I (N.length:Int),I (i:Int)] (MF (gO need i N D) ee eh ed N.length hold ds need to V'7++ [ad.sl false 5 false (out.map jo)])=some r:=by
 intro rest;induction rest with
 | nil=>
  intro i to out D g B f y b;have m:¬(i:Int) < (N.length:Int):=by have:=bu g;omega
  refine ai ?_;show au aj ann Or ke _ [GR (gO need i N D) ee N.length,ad.sl false 1 eh (enc hold),dX ed ds o0 o1,du,ad.sl false 1 false (fg need),ad.sl false 1 false (enc to),dX ed ds V'7 (AV.t (T.aC true)),ad.sl false 5 false (out.map jo)]=_;rw [Bt];simp only [ao,↓reduceIte,m,aE];exact b _
 | cons x rest z=>
  intro i to out D g B f y b;obtain⟨g1,G,q⟩:=bt g;have m:(i:Int) < (N.length:Int):=by omega
  have h0: 0<=(i:Int):=by omega
  have o:need[i]? =some (need.getD i false):=by rw [Xa,Xd (by omega)];rfl
  have p:(gO need i N D)[i]? =some (x,false):=by rw [B8 g1,if_neg (YD _)]
  have e:=B9 need i N D;have s:(i:Int) < (need.length:Int):=by omega
  cases a:need.getD i false with
  | false=>rw [a] at o;rw [If a] at b;have h:=z (i+1) to out D q (by omega) f (by omega) b;rw [HC a] at h;refine ai ?_;show au aj ann Or ke _ [GR (gO need i N D) ee N.length,ad.sl false 1 eh (enc hold),dX ed ds o0 o1,du,ad.sl false 1 false (fg need),ad.sl false 1 false (enc to),dX ed ds V'7 (AV.t (T.aC true)),ad.sl false 5 false (out.map jo)]=_;rw [Bt];simp only [ao,↓reduceIte,m,h0,and_self,xf,e,Xv,yY p,zR,nM,s,rT o,next i (by omega)];exact h
  | true=>
   rw [a] at o;rw [Ig a] at b;have A:(i:Int) < (to.length:Int):=by omega
   have w:=v i x g1;have h:=z (i+1) (to.set i (out.length:Int)) (out++ [⟨x.op,x.ek,x.ks.map λk=>(to.set i (out.length:Int)).getD k.toNat 0,x.n,x.d,x.nm⟩]) (λj=>if j=i then⟨x.op,x.ek,x.ks.map λk=>(to.set i (out.length:Int)).getD k.toNat 0,x.n,x.d,x.nm⟩ else D j) q (by omega) (by simp [f]) (by simp;omega) b;rw [HD a (by omega) rfl] at h;have E:=Qj (eh:=eh) (ee:=ee) (ed:=ed) (hold:=hold) (ds:=ds) (need:=need) (to:=to.set i (out.length:Int)) (i:=i) (n:=N.length) (x:=x) (out:=out) (by omega) (by omega) (u x (Xg g1)) (λk C=>by have:=w k C;rw [YZ];omega) (L:=gO need i N D) (by rw [e];omega) p h (by omega);refine ai ?_;show au aj ann Or ke _ [GR (gO need i N D) ee N.length,ad.sl false 1 eh (enc hold),dX ed ds o0 o1,du,ad.sl false 1 false (fg need),ad.sl false 1 false (enc to),dX ed ds V'7 (AV.t (T.aC true)),ad.sl false 5 false (out.map jo)]=_;rw [Bt];simp only [ao,↓reduceIte,m,h0,and_self,xf,e,Xv,yY p,zR,J3,nM,s,rT o,aE,A,XQ,Ai (l:=to) (i:=i) (out.length:Int) (by omega),tY p];exact E
def LN(l:List Nd):T:=if l.isEmpty then T.aC true else T.aa 5 false (bd l)
theorem QE(l:List Nd):(LN l).aQ 5=some (l.isEmpty,bd l):=by cases l <;> rfl
abbrev FB(L:List (Nd×Bool))(ee eh ed:Bool)(n:Nat)(hold:List Int)(ds:List (List T))(to:List Int)(out:List Nd):List ad:=
 match out with
 | []=> [GR L ee n,ad.sl false 1 eh (enc hold),du,ad.sl false 1 false (enc to),dX ed ds (AV.t (T.aC true)) (AV.t (T.aC true))]
 | x::r=> [GR L ee n,ad.sl false 1 eh (enc hold),du,ad.sl false 1 false (enc to),dX ed ds V'5 (AV.t (T.aC true)),ad.sl false 5 false ((x::r).map jo)]
theorem Cq{need:List Bool}:∀(rest:List Nd) (i:Nat) (to:List Int) (out:List Nd),out≠[]->(eO need i rest to out).2≠[]
 | [],_,_,_,h=>h
 | x::rest,i,to,out,h=>by
  rw [eO];split
  .exact Cq rest _ _ _ (by simp)
  .exact Cq rest _ _ _ h
theorem Ru{N:List Nd}{eh ee ed:Bool}{hold:List Int}{ds:List (List T)}{need:List Bool}(G:N.length<=90000)(y:∀x∈N,x.ks.length<=1000)(z:∀(i:Nat) (x:Nd),N[i]? =some x->∀k∈x.ks,0<=k/\k < (i:Int))(E:need.length=N.length){r:List T}:∀(rest:List Nd) (i:Nat) (to:List Int) (D:Nat->Nd),N.drop i=rest->i<=N.length->to.length=N.length->
  (∀L,Or il [Y'2,V'3,Y'4,o1,I (hold.length:Int),I 0] (FB L ee eh ed N.length hold ds (eO need i rest to []).1 (eO need i rest to []).2)=some r)->
  Or ke [Y'2,Y'3,o4,o5,Y'6,o0,I (N.length:Int),I (i:Int)] (MF (gO need i N D) ee eh ed N.length hold ds need to (AV.t (T.aC true)))=some r:=by
 intro rest;induction rest with
 | nil=>
  intro i to D g H s m;have f:¬(i:Int) < (N.length:Int):=by have:=bu g;omega
  refine ai ?_;rw [Bs];simp only [ao,↓reduceIte,f,aE];exact m _
 | cons x rest M=>
  intro i to D g H s m;obtain⟨g1,O,A⟩:=bt g;have f:(i:Int) < (N.length:Int):=by omega
  have h0: 0<=(i:Int):=by omega
  have v:need[i]? =some (need.getD i false):=by rw [Xa,Xd (by omega)];rfl
  have w:(gO need i N D)[i]? =some (x,false):=by rw [B8 g1,if_neg (YD _)]
  have p:=B9 need i N D;have o:(i:Int) < (need.length:Int):=by omega
  cases e:need.getD i false with
  | false=>rw [e] at v;rw [If e] at m;have u:=M (i+1) to D A (by omega) s m;rw [HC e] at u;refine ai ?_;rw [Bs];simp only [ao,↓reduceIte,f,h0,and_self,xf,p,Xv,yY w,zR,nM,o,rT v,next i (by omega)];exact u
  | true=>
   rw [e] at v;rw [Ig e] at m;have F:(i:Int) < (to.length:Int):=by omega
   have B:=z i x g1;have u:=Rv (eh:=eh) (ee:=ee) (ed:=ed) (hold:=hold) (ds:=ds) (need:=need) G y z E (r:=r) rest (i+1) (to.set i ((0:Nat):Int)) [⟨x.op,x.ek,x.ks.map λk=>(to.set i ((0:Nat):Int)).getD k.toNat 0,x.n,x.d,x.nm⟩] (λj=>if j=i then⟨x.op,x.ek,x.ks.map λk=>(to.set i ((0:Nat):Int)).getD k.toNat 0,x.n,x.d,x.nm⟩ else D j) A (by omega) (by simp [s]) (by simp) (λL=>by
    have h:=m L;have C:=Cq (need:=need) rest (i+1) (to.set i ((0:Nat):Int)) [⟨x.op,x.ek,x.ks.map λk=>(to.set i ((0:Nat):Int)).getD k.toNat 0,x.n,x.d,x.nm⟩] (by simp);simp only [Xu,Yf] at h;revert h C;generalize (eO need (i+1) rest (to.set i ((0:Nat):Int)) [⟨x.op,x.ek,x.ks.map λk=>(to.set i ((0:Nat):Int)).getD k.toNat 0,x.n,x.d,x.nm⟩]).2=q;intro f o;cases q with
    | nil=>first | exact absurd rfl f | exact absurd rfl o
    | cons a b=>first | exact f | exact o)
   rw [HD e (by omega) rfl] at u;have K:=Qi (eh:=eh) (ee:=ee) (ed:=ed) (hold:=hold) (ds:=ds) (need:=need) (to:=to.set i ((0:Nat):Int)) (i:=i) (n:=N.length) (x:=x) (by omega) (y x (Xg g1)) (λk J=>by have:=B k J;rw [YZ];omega) (L:=gO need i N D) (by rw [p];omega) w u (by omega);refine ai ?_;rw [Bs];simp only [ao,↓reduceIte,f,h0,and_self,xf,p,Xv,yY w,zR,J3,nM,o,rT v,aE,F,Ai (l:=to) (i:=i) (0:Int) (by omega),tY w];exact K
theorem Rw{L:List (Nd×Bool)}{ee eh ed:Bool}{n:Nat}{hold:List Int}{ds:List (List T)}{to:List Int}{out:List Nd}(hl:hold.length<=1000)(m:∀k∈hold,0<=k/\k < (to.length:Int)):
  Or il [Y'2,V'3,Y'4,o1,I (hold.length:Int),I 0] (FB L ee eh ed n hold ds to out)=some [T.aa 3 ed ds,LN out,LO (hold.map λk=>to.getD k.toNat 0)]:=by
 have o:∀k∈hold,to[k.toNat]? =some (to.getD k.toNat 0):=λk hm=>by have:=m k hm;rw [Xa,Xd (by omega)];rfl
 cases out with
 | nil=>
  have s:∀(a:List Int) (j:Nat) (acc:List Int),hold.drop j=a->j<=hold.length->acc.length=j->
    Or il [Y'2,V'3,Y'4,o1,I (hold.length:Int),I (j:Int)] [GR L ee n,ad.sl false 1 eh (enc hold),du,ad.sl false 1 false (enc to),dX ed ds (AV.t (T.aC true)) V'5,ad.sl false 1 false (enc acc)]=some [T.aa 3 ed ds,T.aC true,T.aa 1 false (enc (acc++a.map λk=>to.getD k.toNat 0))]:=by
   intro a;induction a with
   | nil=>
    intro j acc g q d;have b:¬(j:Int) < (hold.length:Int):=by have:=bu g;omega
    refine ai ?_;rw [Gb];simp only [ao,↓reduceIte,b,XY,XA]
   | cons k a r=>
    intro j acc g q d;obtain⟨g1,v,p⟩:=bt g;have b:(j:Int) < (hold.length:Int):=by omega
    have h0: 0<=(j:Int):=by omega
    have f:=m k (Xg g1);have h:=o k (Xg g1);have i:=r (j+1) (acc++ [to.getD k.toNat 0]) p (by omega) (by simp [d]);simp only [XC,XL] at i;rw [Xq];refine ai ?_;rw [Gb];simp only [ao,↓reduceIte,b,h0,and_self,aE,bR g1,f,fP h,dc (show acc.length+1<=1000000 by omega),next j (by omega),fH];exact i
  cases e:hold with
  | nil=>refine ai ?_;show au aj ann Or il _ [GR L ee n,ad.sl false 1 eh (enc []),du,ad.sl false 1 false (enc to),dX ed ds (AV.t (T.aC true)) (AV.t (T.aC true))]=_;rw [Ga];simp only [ao,Xu,XN,XS,decide_false];rfl
  | cons k a=>
   have f:=m k (by rw [e];exact W7);have h:=o k (by rw [e];exact W7);have i:=s a 1 [to.getD k.toNat 0] (by rw [e];rfl) (by rw [e];simp) rfl;rw [e] at i;have b:(0:Int) < (((k::a).length:Nat):Int):=by simp
   have h0:(0:Int)<=0:=by omega
   have g1:(enc (k::a))[(0:Int).toNat]? =some [ti k]:=rfl;have u:i64.wrap (0+1)= ((1:Nat):Int):=by decide
   refine ai ?_;show au aj ann Or il _ [GR L ee n,ad.sl false 1 eh (enc (k::a)),du,ad.sl false 1 false (enc to),dX ed ds (AV.t (T.aC true)) (AV.t (T.aC true))]=_;rw [Ga];simp only [ao,↓reduceIte,b,h0,and_self,aE,g1,f,fP h,u];exact i
 | cons x xs=>
  have s:∀(a:List Int) (j:Nat) (acc:List Int),hold.drop j=a->j<=hold.length->acc.length=j->
    Or il [Y'2,V'3,Y'4,o1,I (hold.length:Int),I (j:Int)] [GR L ee n,ad.sl false 1 eh (enc hold),du,ad.sl false 1 false (enc to),dX ed ds V'5 V'6,ad.sl false 5 false ((x::xs).map jo),ad.sl false 1 false (enc acc)]=some [T.aa 3 ed ds,T.aa 5 false ((x::xs).map jo),T.aa 1 false (enc (acc++a.map λk=>to.getD k.toNat 0))]:=by
   intro a;induction a with
   | nil=>
    intro j acc g q d;have b:¬(j:Int) < (hold.length:Int):=by have:=bu g;omega
    refine ai ?_;rw [Gd];simp only [ao,↓reduceIte,b,XY,XA]
   | cons k a r=>
    intro j acc g q d;obtain⟨g1,v,p⟩:=bt g;have b:(j:Int) < (hold.length:Int):=by omega
    have h0: 0<=(j:Int):=by omega
    have f:=m k (Xg g1);have h:=o k (Xg g1);have i:=r (j+1) (acc++ [to.getD k.toNat 0]) p (by omega) (by simp [d]);simp only [XC,XL] at i;rw [Xq (l:=a)];refine ai ?_;rw [Gd];simp only [ao,↓reduceIte,b,h0,and_self,aE,bR g1,f,fP h,dc (show acc.length+1<=1000000 by omega),next j (by omega),fH];exact i
  cases e:hold with
  | nil=>refine ai ?_;show au aj ann Or il _ [GR L ee n,ad.sl false 1 eh (enc []),du,ad.sl false 1 false (enc to),dX ed ds V'5 (AV.t (T.aC true)),ad.sl false 5 false ((x::xs).map jo)]=_;rw [Gc];simp only [ao,Xu,XN,XS,decide_false];rfl
  | cons k a=>
   have f:=m k (by rw [e];exact W7);have h:=o k (by rw [e];exact W7);have i:=s a 1 [to.getD k.toNat 0] (by rw [e];rfl) (by rw [e];simp) rfl;rw [e] at i;have b:(0:Int) < (((k::a).length:Nat):Int):=by simp
   have h0:(0:Int)<=0:=by omega
   have g1:(enc (k::a))[(0:Int).toNat]? =some [ti k]:=rfl;have u:i64.wrap (0+1)= ((1:Nat):Int):=by decide
   refine ai ?_;show au aj ann Or il _ [GR L ee n,ad.sl false 1 eh (enc (k::a)),du,ad.sl false 1 false (enc to),dX ed ds V'5 (AV.t (T.aC true)),ad.sl false 5 false ((x::xs).map jo)]=_;rw [Gc];simp only [ao,↓reduceIte,b,h0,and_self,aE,g1,f,fP h,u];exact i
theorem Cp{need:List Bool}:∀(rest:List Nd) (i:Nat) (to:List Int) (out:List Nd),(eO need i rest to out).1.length=to.length
 | [],_,_,_=>rfl
 | x::rest,i,to,out=>by
  rw [eO];split
  .rw [Cp rest];simp
  .exact Cp rest _ _ _
theorem TO{N:List Nd}{eh ed:Bool}{hold:List Int}{ds:List (List T)}(p:N.length<=90000)(hl:hold.length<=1000)(d:∀x∈N,x.ks.length<=1000)(e:∀(i:Nat) (x:Nd),N[i]? =some x->∀k∈x.ks,0<=k/\k < (i:Int))(l:∀k∈hold,0<=k/\k < (N.length:Int)):
  Or (.call 20) [AV.agg [AV.t (T.aa 3 ed ds),o0,o1]] [ad.rows N.isEmpty 5 1 1 N.length (rows N),ad.sl false 1 eh (enc hold)]=some [T.aa 3 ed ds,LN (jf N hold).1,LO (jf N hold).2]:=by
 unfold jf;dsimp only;have g:(eK (List.replicate N.length false) hold).length=N.length:=by rw [sA,Ys]
 have b:(back N (eK (List.replicate N.length false) hold) N.length).length=N.length:=by rw [ES,g]
 have f:=λL=>Rw (L:=L) (ee:=N.isEmpty) (eh:=eh) (ed:=ed) (n:=N.length) (hold:=hold) (ds:=ds) (to:=(eO (back N (eK (List.replicate N.length false) hold) N.length) 0 N (List.replicate N.length 0) []).1) (out:=(eO (back N (eK (List.replicate N.length false) hold) N.length) 0 N (List.replicate N.length 0) []).2) hl (λk hm=>by rw [Cp,Ys];exact l k hm);have h:=Ru (eh:=eh) (ee:=N.isEmpty) (ed:=ed) (hold:=hold) (ds:=ds) p d e b N 0 (List.replicate N.length 0) (λ_=>⟨0,true,[],0,0,s0⟩) rfl (XZ _) (by simp) f;rw [Qf] at h;have j:Or ot [Y'2,Y'3,o4,I (-1)] [ad.rows N.isEmpty 5 1 1 N.length (rows N),ad.sl false 1 eh (enc hold),ad.box [AV.t (T.aa 3 ed ds),o0,o1],du,ad.sl false 1 false (fg (back N (eK (List.replicate N.length false) hold) N.length))]=some [T.aa 3 ed ds,LN (eO (back N (eK (List.replicate N.length false) hold) N.length) 0 N (List.replicate N.length 0) []).2,LO (hold.map λk=>(eO (back N (eK (List.replicate N.length false) hold) N.length) 0 N (List.replicate N.length 0) []).1.getD k.toNat 0)]:=by
  have o:¬(-1:Int)>=0:=by omega
  have hm:nY (N.length:Int) (N.length:Int)=some ():=by unfold nY;rw [if_pos ⟨by omega,by omega,by unfold nU;omega⟩]
  have a:List.replicate ((N.length:Int)).toNat [ti 0]=enc (List.replicate N.length 0):=by simp [enc]
  refine ai ?_;rw [Bu];simp only [ao,↓reduceIte,o,nM,b,hm,a,aZ];simp only [MF,GR,J6] at h;exact h
 have q:=Rt (eh:=eh) (hold:=hold) (ed:=ed) (ds:=ds) (show N.length<=100000 by omega) d e N.length (eK (List.replicate N.length false) hold) (Xr _) g j;have m:=Ry (eh:=eh) (ed:=ed) (ds:=ds) hl hold 0 (List.replicate N.length false) rfl (by simp) (by omega) l q;have hm:nY (N.length:Int) (N.length:Int)=some ():=by unfold nY;rw [if_pos ⟨by omega,by omega,by unfold nU;omega⟩]
 have a:List.replicate ((N.length:Int)).toNat [tb false]=fg (List.replicate N.length false):=by simp [fg]
 refine ai ?_;rw [NQ];simp only [ao,aZ,hm,a,aE];exact m
open Go Go.Aev Go.IntKind
theorem tq(x:ByteArray):x.data.toList.length=x.size:=by rw [XE];rfl
def mK(s p:ByteArray):Bool:=decide ((s.size:Int)>=(p.size:Int)) && decide (s.extract 0 p.size=p)
def qT(s p:ByteArray):Bool:=mK s p && (match s.data.toList[p.size]? with
 | some u=>decide ((u.toNat:Int)>=48) && decide ((u.toNat:Int)<=57)
 | none=>false)
theorem Tp(s p:ByteArray):Or (.call 102) [AV.t (T.str s),AV.t (T.str p)] []=some [tb (mK s p)]:=by
 unfold mK;refine ai ?_;rw [Ny];by_cases h:(s.size:Int)>=(p.size:Int)
 .have a:gH 0 (p.size:Int) (s.size:Int)=some ():=by unfold gH;rw [if_pos ⟨by omega,by omega,by omega⟩]
  simp only [ao,h,a,decide_true,Xv,uQ]
 .simp only [bI,ao,h,decide_false]
def lJ(s p:ByteArray):ByteArray:=if mK s p then s.extract p.size s.size else s
theorem T3(s p:ByteArray):Or (.call 35) [AV.t (T.str s),AV.t (T.str p)] []=some [T.str (lJ s p),tb (mK s p)]:=by
 have k:=Tp s p;have c:Or (.call 76) [AV.t (T.str s),AV.t (T.str p)] []=some [T.str (lJ s p),tb (mK s p)]:=by
  unfold lJ;refine ai ?_;rw [Ps];cases a:mK s p with
  | false=>rw [a] at k;simp only [ao,k];rfl
  | true=>
   rw [a] at k;have hs:(p.size:Int)<=(s.size:Int):=by unfold mK at a;simp only [Xf,decide_eq_true_eq] at a;exact a.1
   have b:gH (p.size:Int) (s.size:Int) (s.size:Int)=some ():=by unfold gH;rw [if_pos ⟨by omega,by omega,by omega⟩]
   simp only [ao,↓reduceIte,k,b,Xv]
 refine ai ?_;rw [Oh];simp only [ao,c]
theorem T2(nm p:ByteArray)(ea:Bool)(ar:List (List T))(so:Int):Or (.call 34) [AV.agg [AV.t (T.str nm),AV.t (T.aa 1 ea ar),I so],AV.t (T.ptr [T.str p])] []=some [tb (qT nm p)]:=by
 have k:=T3 nm p;unfold qT;refine ai ?_;rw [Og];cases c:mK nm p with
 | false=>rw [c] at k;simp only [bI,ao,k]
 | true=>
  have e:lJ nm p=nm.extract p.size nm.size:=by unfold lJ;rw [c];rfl
  have el:(lJ nm p).data.toList=nm.data.toList.drop p.size:=by rw [e];exact Go.Lib.extract_to_end nm p.size
  have es:(lJ nm p).size=nm.size - p.size:=by have:=congrArg List.length el;rw [Yi,tq,tq] at this;exact this
  rw [c] at k;have g0:(lJ nm p).data.toList[0]? =nm.data.toList[p.size]?:=by rw [el,YT,Y9]
  cases b:nm.data.toList[p.size]? with
  | none=>
   have f:lJ nm p=ByteArray.mk #[]:=by
    have:(lJ nm p).data.toList= []:=by rw [el];have:=List.getElem?_eq_none_iff.1 b;exact Y7 this
    cases h:lJ nm p with
    | mk d=>rw [h] at this;simp only at this;rw [Array.toList_eq_nil_iff.1 this]
   simp only [bI,ao,↓reduceIte,k,uQ,f,decide_true]
  | some u=>
   have i:p.size < nm.size:=by have:=(W9.1 b).1;rw [tq] at this;exact this
   have f:¬lJ nm p=ByteArray.mk #[]:=λh=>by have:=congrArg ByteArray.size h;rw [es] at this;have j:(ByteArray.mk #[]).size=0:=rfl;omega
   have g:(0:Int)<=0/\(0:Int) < ((lJ nm p).size:Int):=by rw [es];omega
   rw [b] at g0;simp only [ao,↓reduceIte,k,uQ,f,decide_false,g,and_self,g0];by_cases a:(u.toNat:Int)>=48
   .simp only [ao,↓reduceIte,a,decide_true]
   .simp only [ao,↓reduceIte,a,decide_false]
def kL(ds:List Dc)(p:ByteArray):Bool:=ds.any λd=>qT d.nm p
theorem IZ{e:Bool}{ds:List Dc}{p:ByteArray}(hl:ds.length<=100):∀(r:List Dc) (i:Nat),ds.drop i=r->
  ∃z:Int,Or jh [AV.t (T.aa 3 e (aT ds)),AV.fn 34 [] [AV.t (T.ptr [T.str p])],I (ds.length:Int),I (i:Int)] []=some [ti z]/\decide (z>=0)=r.any λd=>qT d.nm p:=by
 intro r;induction r with
 | nil=>
  intro i g;have a:¬(i:Int) < (ds.length:Int):=by have:=bu g;omega
  refine⟨-1,ai ?_,by simp⟩;rw [BQ];simp only [ao,↓reduceIte,a]
 | cons d r f=>
  intro i g;obtain⟨g1,l,c⟩:=bt g;have a:(i:Int) < (ds.length:Int):=by omega
  have h0: 0<=(i:Int):=by omega
  have k:=T2 d.nm p d.ea (enc d.ar) d.so;cases b:qT d.nm p with
  | true=>rw [b] at k;refine⟨(i:Int),ai ?_,by simp [b]⟩;rw [BQ];simp only [ao,↓reduceIte,a,h0,and_self,cR,fh g1,k]
  | false=>rw [b] at k;obtain⟨z,h,j⟩:=f (i+1) c;refine⟨z,ai ?_,by rw [j];simp [b]⟩;rw [BQ];simp only [ao,↓reduceIte,a,h0,and_self,cR,fh g1,k,next i (by omega)];exact h
def mi(ds:List Dc):Nat->ByteArray->ByteArray
 | 0,p=>p
 | k+1,p=>if kL ds p then mi ds k (p++us) else p
theorem Al{ds:List Dc}{p:ByteArray}(hs:∀d∈ds,d.nm.size<=12)(h:kL ds p=true):p.size < 12:=by
 unfold kL at h;obtain⟨d,a,h⟩:=YS.1 h;unfold qT at h;simp only [Xf] at h;split at h
 .rename_i u b;have:=(W9.1 b).1;have c:=hs d a;have e:=tq d.nm;omega
 .cases h.2
theorem Ri{ed en eh:Bool}{ds:List Dc}{ns:List (List T)}{hs:List (List T)}(hl:ds.length<=100)(c:∀d∈ds,d.nm.size<=12):∀(k:Nat) (p:ByteArray),12<=p.size+k->p.size<=12->
  Or xE [r0,r1] [ad.box [AV.t (T.aa 3 ed (aT ds)),AV.t (T.aa 5 en ns),AV.t (T.aa 1 eh hs)],ad.box [AV.t (T.str p)]]=some [T.str (mi ds k p)]:=by
 intro k;induction k with
 | zero=>
  intro p l m;obtain⟨z,g,i⟩:=IZ (e:=ed) (p:=p) hl ds 0 rfl;have b:Or (.call 75) [AV.t (T.aa 3 ed (aT ds)),AV.fn 34 [] [AV.t (T.ptr [T.str p])]] []=some [ti z]:=by refine ai ?_;rw [GQ];simp only [cR];exact g
  have nt:kL ds p=false:=by
   cases h:kL ds p with
   | false=>rfl
   | true=>have:=Al c h;omega
  have a:Or (.call 32) [AV.t (T.aa 3 ed (aT ds)),AV.fn 34 [] [AV.t (T.ptr [T.str p])]] []=some [tb false]:=by rw [<-nt];refine ai ?_;rw [Gm];simp only [ao,b,i,kL]
  rw [mi];refine ai ?_;rw [Bp];simp only [ao,a]
 | succ k o=>
  intro p l m;obtain⟨z,g,i⟩:=IZ (e:=ed) (p:=p) hl ds 0 rfl;have b:Or (.call 75) [AV.t (T.aa 3 ed (aT ds)),AV.fn 34 [] [AV.t (T.ptr [T.str p])]] []=some [ti z]:=by refine ai ?_;rw [GQ];simp only [cR];exact g
  have a:Or (.call 32) [AV.t (T.aa 3 ed (aT ds)),AV.fn 34 [] [AV.t (T.ptr [T.str p])]] []=some [tb (kL ds p)]:=by refine ai ?_;rw [Gm];simp only [ao,b,i,kL]
  rw [mi];cases f:kL ds p with
  | false=>rw [f] at a;refine ai ?_;rw [Bp];simp only [ao,a];rfl
  | true=>
   rw [f] at a;have:=Al c f;have n:=o (p++us) (by rw [Xy,ig];omega) (by rw [Xy,ig];omega);have j:p.size+1<=4294967296:=by omega
   refine ai ?_;rw [Bp];simp only [ao,↓reduceIte,a,j];exact n
def cZ(ds:List Dc):ByteArray:=mi ds 11 us
theorem zF{ds:List Dc}(a:∀d∈ds,d.nm.size<=12):∀(k:Nat) (p:ByteArray),p.size<=12->(mi ds k p).size<=12
 | 0,p,h=>h
 | k+1,p,h=>by
  rw [mi];split
  .rename_i b;have:=Al a b;exact zF a k _ (by rw [Xy,ig];omega)
  .exact h
theorem TA{ed en eh:Bool}{ds:List Dc}{ns:List (List T)}{hs:List (List T)}(hl:ds.length<=100)(a:∀d∈ds,d.nm.size<=12):
  Or (.call 15) [AV.agg [AV.t (T.aa 3 ed (aT ds)),AV.t (T.aa 5 en ns),AV.t (T.aa 1 eh hs)]] []=some [T.str (cZ ds)]:=by
 have:=Ri (ed:=ed) (en:=en) (eh:=eh) (ns:=ns) (hs:=hs) hl a 11 us (by rw [ig];omega) (by rw [ig];omega);refine ai ?_;rw [NJ];exact this
theorem Sb{e:Bool}{l:List Int}(hl:l.length<=1000):∀(r:List Int) (i:Nat),l.drop i=r->
  ∃z:Int,Or fK [aa e l,AV.fn 17 [] [],I (l.length:Int),I (i:Int)] []=some [ti z]/\decide (z>=0)=r.any aG:=by
 intro r;induction r with
 | nil=>
  intro i g;have a:¬(i:Int) < (l.length:Int):=by have:=bu g;omega
  refine⟨-1,ai ?_,by simp⟩;rw [BI];simp only [ao,↓reduceIte,a]
 | cons d r f=>
  intro i g;obtain⟨g1,m,c⟩:=bt g;have a:(i:Int) < (l.length:Int):=by omega
  have h0: 0<=(i:Int):=by omega
  have k:=iB d;cases b:aG d with
  | true=>rw [b] at k;refine⟨(i:Int),ai ?_,by simp [b]⟩;rw [BI];simp only [ao,↓reduceIte,a,h0,and_self,aE,bR g1,k]
  | false=>rw [b] at k;obtain⟨z,h,j⟩:=f (i+1) c;refine⟨z,ai ?_,by rw [j];simp [b]⟩;rw [BI];simp only [ao,↓reduceIte,a,h0,and_self,aE,bR g1,k,next i (by omega)];exact h
theorem Si{e:Bool}{ds:List Dc}(hl:ds.length<=1000):∀(r:List Dc) (i:Nat),ds.drop i=r->
  ∃z:Int,Or jh [AV.t (T.aa 3 e (aT ds)),AV.fn 33 [] [],I (ds.length:Int),I (i:Int)] []=some [ti z]/\decide (z>=0)=r.any λd=>aG d.so:=by
 intro r;induction r with
 | nil=>
  intro i g;have a:¬(i:Int) < (ds.length:Int):=by have:=bu g;omega
  refine⟨-1,ai ?_,by simp⟩;rw [BP];simp only [ao,↓reduceIte,a]
 | cons d r h=>
  intro i g;obtain⟨g1,m,f⟩:=bt g;have a:(i:Int) < (ds.length:Int):=by omega
  have h0: 0<=(i:Int):=by omega
  have c:=iB d.so;have k:Or (.call 33) [AV.agg [AV.t (T.str d.nm),AV.t (T.aa 1 d.ea (enc d.ar)),I d.so]] []=some [tb (aG d.so)]:=by refine ai ?_;rw [Oe];simp only [ao,c]
  cases b:aG d.so with
  | true=>rw [b] at k;refine⟨(i:Int),ai ?_,by simp [b]⟩;rw [BP];simp only [ao,↓reduceIte,a,h0,and_self,cR,fh g1,k]
  | false=>rw [b] at k;obtain⟨z,j,l⟩:=h (i+1) f;refine⟨z,ai ?_,by rw [l];simp [b]⟩;rw [BP];simp only [ao,↓reduceIte,a,h0,and_self,cR,fh g1,k,next i (by omega)];exact j
def pF(ds:List Dc)(ss:List Int):Bool:=ss.any aG || ds.any λd=>aG d.so
theorem TX{e:Bool}{l:List Int}(hl:l.length<=1000):Or (.call 31) [aa e l,AV.fn 17 [] []] []=some [tb (l.any aG)]:=by
 obtain⟨z,b,c⟩:=Sb (e:=e) hl l 0 rfl;have a:Or (.call 74) [aa e l,AV.fn 17 [] []] []=some [ti z]:=by refine ai ?_;rw [Pe];simp only [aE];exact b
 refine ai ?_;rw [N1];simp only [ao,a,c]
theorem Tx{ed en eh es:Bool}{ds:List Dc}{ns:List (List T)}{hs:List (List T)}{ss:List Int}(hl:ds.length<=100)(c:ss.length<=1000):
  Or (.call 13) [AV.agg [AV.t (T.aa 3 ed (aT ds)),AV.t (T.aa 5 en ns),AV.t (T.aa 1 eh hs)],aa es ss] []=some [tb (pF ds ss)]:=by
 have a:=TX (e:=es) c;obtain⟨z,h,i⟩:=Si (e:=ed) (ds:=ds) (by omega) ds 0 rfl;have g:Or (.call 75) [AV.t (T.aa 3 ed (aT ds)),AV.fn 33 [] []] []=some [ti z]:=by refine ai ?_;rw [Pp];simp only [cR];exact h
 have f:Or (.call 32) [AV.t (T.aa 3 ed (aT ds)),AV.fn 33 [] []] []=some [tb (ds.any λd=>aG d.so)]:=by refine ai ?_;rw [Oc];simp only [ao,g,i]
 unfold pF;refine ai ?_;rw [NI];cases b:ss.any aG with
 | true=>rw [b] at a;simp only [bI,ao,a];rfl
 | false=>rw [b] at a;simp only [ao,a,f];rfl
def fY(p:ByteArray)(k:Nat)(d:Dc):Nat->Nat->List Dc
 | _,0=> []
 | b,n+1=>⟨p++it (k:Int)++us++it (b:Int),d.ea,d.ar,1⟩::fY p k d (b+1) n
def n5(p:ByteArray)(k:Nat):Nat->Nat->Bool->Bool
 | _,0,ok=>ok
 | b,n+1,ok=>n5 p k (b+1) n (ok && decide (((p++it (k:Int)++us++it (b:Int)).size:Int)<=12))
def cz(p:ByteArray):Nat->List Dc->List Dc
 | _,[]=> []
 | k,d::r=>(if aG d.so then fY p k d 0 (d.so - 10).toNat else [d])++cz p (k+1) r
def jc(p:ByteArray):Nat->List Dc->Bool->Bool
 | _,[],ok=>ok
 | k,d::r,ok=>jc p (k+1) r (if aG d.so then n5 p k 0 (d.so - 10).toNat ok else ok)
theorem nz(p:ByteArray)(k:Nat)(d:Dc):∀(n b:Nat),(fY p k d b n).length=n
 | 0,_=>rfl
 | n+1,b=>by rw [fY,Xj,nz p k d n]
theorem na(e:Bool)(l:List Int)(a:e=true->l= [])(hl:l.length<=1000000):∃x,Or (.call 24) [aa e l] []=some [x]/\x.aQ 1=some (e,enc l):=by
 refine⟨_,Kn e l a hl, ?_⟩;cases e with
 | true=>rw [a rfl];rfl
 | false=>rfl
theorem jk(v x:Bool):(bif v then x else false)= (v && x):=by cases v <;> rfl
def rU(d:Dc):List T:= [T.str d.nm,T.aa 1 d.ea (enc d.ar),ti d.so]
theorem IW{p:ByteArray}{ed:Bool}{ds:List Dc}{k w:Nat}{d:Dc}(v:p.size<=100)(u:k<=100)(g:d.ea=true->d.ar= [])(s:d.ar.length<=1000)(y:w<=100){r:List T}:∀(n b:Nat) (acc:List Dc) (ok:Bool),b+n=w->acc.length+n<=100000->
  Or nq [AV.t (T.str p),o0,B (n5 p k b n ok),AV.t (T.aa 3 ed (aT ds)),I (ds.length:Int),I ((k+1:Nat):Int)] [ad.sl false 3 false ((acc++fY p k d b n).map rU)]=some r->
  Or pQ [AV.t (T.str p),o0,B ok,I (k:Int),r1,AV.t (T.aa 3 ed (aT ds)),I (ds.length:Int),I (k:Int),I (w:Int),I (b:Int)] [ad.sl false 3 false (acc.map rU),ad.box [AV.t (T.str d.nm),aa d.ea d.ar,I d.so]]=some r:=by
 have e:fx (k:Int):=⟨by omega,by omega⟩;have z:=jP e;intro n;induction n with
 | zero=>
  intro b acc ok m hl a;have f:¬(b:Int) < (w:Int):=by omega
  rw [fY,XA,n5] at a;refine ai ?_;rw [FW];simp only [ao,↓reduceIte,f,next k (by omega)];exact a
 | succ n q=>
  intro b acc ok m hl a;have f:(b:Int) < (w:Int):=by omega
  have c:fx (b:Int):=⟨by omega,by omega⟩;have A:=jP c;have j:p.size+ (it (k:Int)).size<=4294967296:=by omega
  have l:(p++it (k:Int)).size+1<=4294967296:=by rw [Xy];omega
  have c3:(p++it (k:Int)++us).size+ (it (b:Int)).size<=4294967296:=by simp only [Xy,ig];omega
  obtain⟨x,i,o⟩:=na d.ea d.ar g (by omega);rw [fY,n5] at a;have h:=q (b+1) (acc++ [⟨p++it (k:Int)++us++it (b:Int),d.ea,d.ar,1⟩]) _ (by omega) (by simp;omega) (by simpa only [XC,XL] using a);rw [YY] at h;refine ai ?_;rw [FW];simp only [ao,↓reduceIte,f,jV e,jV c,j,l,c3,i,o,XQ,dc (show acc.length+1<=1000000 by omega),next b (by omega),jk];exact h
theorem IV{p:ByteArray}{ed:Bool}{ds:List Dc}(o:p.size<=100)(hl:ds.length<=100)(e:∀d∈ds,d.ea=true->d.ar= [])(f:∀d∈ds,d.ar.length<=1000):∀(r:List Dc) (k:Nat) (acc:List Dc) (ok:Bool),ds.drop k=r->k<=ds.length->acc.length<=100 * k->
  Or nq [AV.t (T.str p),o0,B ok,AV.t (T.aa 3 ed (aT ds)),I (ds.length:Int),I (k:Int)] [ad.sl false 3 false (acc.map rU)]=some [T.aa 3 false ((acc++cz p k r).map rU),tb (jc p k r ok && decide ((((acc++cz p k r).length:Nat):Int)<=30))]:=by
 intro r;induction r with
 | nil=>
  intro k acc ok g n m;have c:¬(k:Int) < (ds.length:Int):=by have:=bu g;omega
  rw [cz,jc,XA];refine ai ?_;rw [Br];simp only [ao,↓reduceIte,c,XQ,jk]
 | cons d r j=>
  intro k acc ok g n m;obtain⟨g1,y,i⟩:=bt g;have hm:=Xg g1;have c:(k:Int) < (ds.length:Int):=by omega
  have h0: 0<=(k:Int):=by omega
  have a:=iB d.so;obtain⟨x,l,q⟩:=na d.ea d.ar (e d hm) (by have:=f d hm;omega);rw [cz,jc];cases h:aG d.so with
  | false=>rw [h] at a;have b:=j (k+1) (acc++ [d]) ok i (by omega) (by simp;omega);simp only [XC,XL] at b;rw [YY] at b;simp only [XD,↓reduceIte,XL];refine ai ?_;rw [Br];simp only [ao,↓reduceIte,c,h0,and_self,cR,fh g1,a,l,q,XQ,dc (show acc.length+1<=1000000 by omega),next k (by omega)];exact b
  | true=>
   rw [h] at a;have v:=gP h;have b:=j (k+1) (acc++fY p k d 0 (d.so - 10).toNat) (n5 p k 0 (d.so - 10).toNat ok) i (by omega) (by simp [nz];omega);have s:=IW (p:=p) (ed:=ed) (ds:=ds) (k:=k) (w:=(d.so - 10).toNat) (d:=d) o (by omega) (e d hm) (f d hm) (by omega) (d.so - 10).toNat 0 acc ok (by omega) (by omega) b;have u:i64.wrap (d.so - 10)= ((d.so - 10).toNat:Int):=by rw [wr (by omega)];omega
   simp only [↓reduceIte];rw [<-XC];refine ai ?_;rw [Br];simp only [ao,↓reduceIte,c,h0,and_self,cR,fh g1,a,u];exact s
theorem Rj{p:ByteArray}{ed:Bool}{ds:List Dc}(j:p.size<=100)(hl:ds.length<=100)(b:∀d∈ds,d.ea=true->d.ar= [])(c:∀d∈ds,d.ar.length<=1000):∃x,Or nq [AV.t (T.str p),AV.t (T.aC true),B true,AV.t (T.aa 3 ed (aT ds)),I (ds.length:Int),I 0] []=some [x,tb (jc p 0 ds true && decide ((((cz p 0 ds).length:Nat):Int)<=30))]/\x.aQ 3=some ((cz p 0 ds).isEmpty,aT (cz p 0 ds)):=by
 cases a:ds with
 | nil=>refine⟨T.aC true,ai ?_,rfl⟩;rw [Bq];simp only [ao,Xu,XN,XS,decide_false];rfl
 | cons d r=>
  have hm:d∈ds:=by rw [a];exact W7
  have o:(0:Int) < (((d::r).length:Nat):Int):=by simp
  have h0:(0:Int)<=0:=by omega
  have g1:(aT (d::r))[(0:Int).toNat]? =some [T.str d.nm,T.aa 1 d.ea (enc d.ar),ti d.so]:=rfl;have e:=iB d.so;have v:i64.wrap (0+1)= ((1:Nat):Int):=by decide
  obtain⟨x,i,s⟩:=na d.ea d.ar (b d hm) (by have:=c d hm;omega);rw [cz,jc];cases l:aG d.so with
  | false=>rw [l] at e;have f:=IV (p:=p) (ed:=ed) (ds:=ds) j hl b c r 1 [d] true (by rw [a];rfl) (by rw [a];simp) (by simp);rw [a] at f;simp only [XD,↓reduceIte,XL];refine⟨T.aa 3 false (([d] ++cz p (0+1) r).map rU),ai ?_,rfl⟩;rw [Bq];simp only [ao,↓reduceIte,o,h0,and_self,cR,g1,e,i,s,v];exact f
  | true=>
   rw [l] at e;have E:=gP l;obtain⟨n,A⟩:∃n,(d.so - 10).toNat=n+1:=⟨(d.so - 10).toNat - 1,by omega⟩;have h:fx ((0:Nat):Int):=⟨by omega,by omega⟩;have m:=jP h;have y:p.size+ (it 0).size<=4294967296:=by have:(it 0).size<=21:=m;omega
   have z:(p++it 0).size+1<=4294967296:=by have:(it 0).size<=21:=m;rw [Xy];omega
   have c3:(p++it 0++us).size+ (it 0).size<=4294967296:=by have:(it 0).size<=21:=m;simp only [Xy,ig];omega
   have u:Or (.call 36) [I 0] []=some [T.str (it 0)]:=jV h;have f:=IV (p:=p) (ed:=ed) (ds:=ds) j hl b c r 1 (fY p 0 d 0 (n+1)) (n5 p 0 0 (n+1) true) (by rw [a];rfl) (by rw [a];simp) (by rw [nz];omega);have C:=IW (p:=p) (ed:=ed) (ds:=ds) (k:=0) (w:=n+1) (d:=d) j (by omega) (b d hm) (c d hm) (by omega) n 1 [⟨p++it 0++us++it 0,d.ea,d.ar,1⟩] (true && decide (((p++it 0++us++it 0).size:Int)<=12)) (by omega) (by simp;omega) f;have D:i64.wrap (d.so - 10)= ((n+1:Nat):Int):=by rw [wr (by omega)];omega
   have q:(0:Int) < ((n+1:Nat):Int):=by omega
   have g:Or pQ [AV.t (T.str p),AV.t (T.aC true),B true,I 0,r0,AV.t (T.aa 3 ed (aT ds)),I (ds.length:Int),I 0,I ((n+1:Nat):Int),I 0] [ad.box [AV.t (T.str d.nm),aa d.ea d.ar,I d.so]]=some [T.aa 3 false ((fY p 0 d 0 (n+1)++cz p 1 r).map rU),tb (jc p 1 r (n5 p 0 0 (n+1) true) && decide ((((fY p 0 d 0 (n+1)++cz p 1 r).length:Nat):Int)<=30))]:=by refine ai ?_;rw [NL];simp only [ao,↓reduceIte,q,u,y,z,c3,i,s,v];exact C
   rw [a] at g;simp only [↓reduceIte,A];refine⟨T.aa 3 false ((fY p 0 d 0 (n+1)++cz p (0+1) r).map rU),ai ?_,rfl⟩;rw [Bq];simp only [ao,↓reduceIte,o,h0,and_self,cR,g1,e,D];exact g
theorem TB{p:ByteArray}{ed en eh:Bool}{ds:List Dc}{ns hs:List (List T)}(f:p.size<=100)(hl:ds.length<=100)(a:∀d∈ds,d.ea=true->d.ar= [])(b:∀d∈ds,d.ar.length<=1000):
  ∃x,Or (.call 16) [AV.agg [AV.t (T.aa 3 ed (aT ds)),AV.t (T.aa 5 en ns),AV.t (T.aa 1 eh hs)],AV.t (T.str p)] []=some [x,tb (jc p 0 ds true && decide ((((cz p 0 ds).length:Nat):Int)<=30))]/\x.aQ 3=some ((cz p 0 ds).isEmpty,aT (cz p 0 ds)):=by
 obtain⟨x,c,e⟩:=Rj (p:=p) (ed:=ed) f hl a b;refine⟨x,ai ?_,e⟩;rw [NK];simp only [cR];exact c
open Go Go.Aev Go.IntKind
def iR(c:Cx)(t:Tr)(M:Mk)(x:Nd)(s:Int):Tr×Mk:=
 if aG s then(⟨t.bits++ [(gu c t M x s).1],t.to++ [0]⟩,(gu c t M x s).2)
 else(⟨t.bits++ [[]],t.to++ [(hH t M x).1]⟩,(hH t M x).2)
def fR(c:Cx):List Nd->List Int->Tr->Mk->Tr×Mk
 | x::r,s::q,t,M=>if 800 < (iR c t M x s).2.N.length then iR c t M x s else fR c r q (iR c t M x s).1 (iR c t M x s).2
 | _,_,t,M=>(t,M)
def wI:List T:= [T.aC true,T.aC true,T.aC true,ti 10,ti 0]
def pC(c:Cx)(q:Tr×Mk):List Nd×List Int:=jf q.2.N (c.hs.map (br q.1))
def mW(c:Cx)(dl:List Dc)(ok:Bool)(q:Tr×Mk):List T:=
 if ok=false\/800 < q.2.N.length then wI
 else if 200 < (pC c q).1.length then wI
 else [T.aa 3 dl.isEmpty (aT dl),T.aa 5 (pC c q).1.isEmpty (bd (pC c q).1),T.aa 1 (pC c q).2.isEmpty (enc (pC c q).2),ti 0,ti 0]
theorem GZ(l:List (List Int))(b:List Int):bD l++ [[LO b]]=bD (l++ [b]):=by simp [bD]
theorem QF(w:List Int)(h: 1<=w.length):T.aa 1 w.isEmpty (enc w)=LO w:=by cases w with
 | nil=>simp at h
 | cons=>rfl
theorem DH{a:Type}(l:List a)(x:a):(l++ [x]).isEmpty=false:=by cases l <;> rfl
theorem cJ.word{c:Cx}{t:Tr}{M f:Mk}{i n:Nat}{s:Int}{w:List Int}(h:cJ c t M i)(hs:c.ss[i]? =some s)(r:aG s=true)(u:Up M f n)(hl:(w.length:Int)=s - 10)(o:∀y∈w,In f y):cJ c ⟨t.bits++ [w],t.to++ [0]⟩ f (i+1):=by
 have m:=h.up u;refine⟨u.ok,by simp [h.bl],by simp [h.tl],λk s' q a d=> ?_,λk s' q a d=> ?_⟩
 .by_cases e:k=i
  .subst e;rw [hs] at a;simp only [W5] at a;subst a;exact⟨w,by rw [Xs (by rw [h.bl];exact Xr _),h.bl,Yc];rfl,hl,o⟩
  .obtain⟨b,g,j,l⟩:=m.w k s' (by omega) a d;exact⟨b,by rw [Xk (by rw [h.bl];omega)];exact g,j,l⟩
 .by_cases e:k=i
  .subst e;rw [hs] at a;simp only [W5] at a;subst a;rw [r] at d;cases d
  .obtain⟨g,v,j,l⟩:=m.p k s' (by omega) a d;exact⟨by rw [Xk (by rw [h.bl];omega)];exact g,v,by rw [Xk (by rw [h.tl];omega)];exact j,l⟩
theorem cJ.plain{c:Cx}{t:Tr}{M f:Mk}{i n:Nat}{s v:Int}(h:cJ c t M i)(hs:c.ss[i]? =some s)(r:aG s=false)(u:Up M f n)(o:In f v):cJ c ⟨t.bits++ [[]],t.to++ [v]⟩ f (i+1):=by
 have m:=h.up u;refine⟨u.ok,by simp [h.bl],by simp [h.tl],λk s' q a d=> ?_,λk s' q a d=> ?_⟩
 .by_cases e:k=i
  .subst e;rw [hs] at a;simp only [W5] at a;subst a;rw [r] at d;cases d
  .obtain⟨b,g,j,l⟩:=m.w k s' (by omega) a d;exact⟨b,by rw [Xk (by rw [h.bl];omega)];exact g,j,l⟩
 .by_cases e:k=i
  .subst e;exact⟨by rw [Xs (by rw [h.bl];exact Xr _),h.bl,Yc];rfl,v,by rw [Xs (by rw [h.tl];exact Xr _),h.tl,Yc];rfl,o⟩
  .obtain⟨g,x,j,l⟩:=m.p k s' (by omega) a d;exact⟨by rw [Xk (by rw [h.bl];omega)];exact g,x,by rw [Xk (by rw [h.tl];omega)];exact j,l⟩
structure qY (c:Cx):Prop where
 sl:c.ss.length=c.ns.length
 nl:c.ns.length<=200
 dl:c.ds.length<=30
 hl:c.hs.length<=200
 ds:∀d∈c.ds,d.nm.size<=12
 nd:∀(i:Nat) (x:Nd) (s:Int),c.ns[i]? =some x->c.ss[i]? =some s->ov c i x s
 ho:∀k∈c.hs,0<=k/\c.ss[k.toNat]? =some 1
theorem DL{c:Cx}(ok:qY c){t:Tr}{M:Mk}{i:Nat}{x:Nd}{s:Int}(d:c.ns[i]? =some x)(hs:c.ss[i]? =some s)(a:cJ c t M i)(g:c.p.size<=100)(f:M.N.length<=40000):
  cJ c (iR c t M x s).1 (iR c t M x s).2 (i+1)/\Up M (iR c t M x s).2 1000:=by
 unfold iR;cases b:aG s with
 | true=>obtain⟨_,u,e,hl⟩:=LL d hs b (ok.nd i x s d hs) a (by have:=ok.dl;omega) g f;exact⟨a.word hs b u hl e,u⟩
 | false=>obtain⟨_,u,e⟩:=JB d b (ok.nd i x s d hs) a f;exact⟨a.plain hs b u e,u⟩
abbrev MZ(c:Cx):ad:=ad.box [AV.t (T.aa 3 c.ed (aT c.ds)),AV.t (T.aa 5 c.en (bd c.ns)),AV.t (T.aa 1 c.eh (enc c.hs))]
abbrev kN:ad:=ad.box [I 0,I 0]
abbrev K6(c:Cx):ad:=ad.box [Y'4,AV.t (T.aa 3 c.ed (aT c.ds)),AV.t (T.aa 5 c.en (bd c.ns)),AV.t (T.aa 1 c.eh (enc c.hs)),AV.t (T.str c.p),AV.t (T.aa 1 c.es (enc c.ss)),V'5,V'6]
theorem Sp{c:Cx}{t:Tr}{M:Mk}{dl:List Dc}{n:Nat}(ok:qY c)(G:n=c.ns.length)(p:cJ c t M n)(F:M.N.length<=800):∀(f:List Int) (j:Nat) (acc:List Int),c.hs.drop j=f->j<=c.hs.length->acc.length=j->acc++f.map (br t)=c.hs.map (br t)->
  Or tc [Y'0,Y'1,Y'2,Y'3,aa c.eh c.hs,I (c.hs.length:Int),I (j:Int)] [du,kN,K6 c,ad.box [AV.t (T.aa 3 dl.isEmpty (aT dl)),V'7,V'8],ad.box [V'7,V'9],ad.sl false 1 t.bits.isEmpty (bD t.bits),ad.sl false 1 t.to.isEmpty (enc t.to),ad.rows M.N.isEmpty 5 1 1 M.N.length (rows M.N),ad.sl false 1 acc.isEmpty (enc acc),ad.mp false [Ck.s] (Ck.i .i64) (cG M.K)]=some (mW c dl true (t,M)):=by
 have l:∀k∈c.hs,0<=k/\t.to[k.toNat]? =some (br t k)/\In M (br t k):=λk h=>by obtain⟨b,a⟩:=ok.ho k h;have D:k.toNat < c.ss.length:=(W9.1 a).1;have q:KW c n k 1:=⟨b,by have:=ok.sl;omega,a⟩;exact⟨b,(q.plain p y9).2⟩
 intro f;induction f with
 | nil=>
  intro j acc g z d e;have b:¬(j:Int) < (c.hs.length:Int):=by have:=bu g;omega
  rw [XY,XA] at e;have u:=TO (N:=M.N) (eh:=acc.isEmpty) (ed:=dl.isEmpty) (hold:=acc) (ds:=aT dl) (by omega) (by have:=ok.hl;omega) (λx A=>by obtain⟨i,y⟩:=X1 A;exact p.ok.kl i x y) p.ok.ks (λk h=>by
   rw [e] at h;obtain⟨C,hm,rfl⟩:=XB.1 h;exact(l C hm).2.2)
  unfold mW pC;rw [<-e];refine ai ?_;rw [GU];simp only [ao,↓reduceIte,b,u,QE,dm];have m:¬(true=false\/800 < M.N.length):=by simp;omega
  rw [if_neg m];by_cases a: 200 < (jf M.N acc).1.length
  .have o:((bd (jf M.N acc).1).length:Int) > 200:=by rw [dV];omega
   rw [if_pos a];simp only [↓reduceIte,o];rfl
  .have o:¬((bd (jf M.N acc).1).length:Int) > 200:=by rw [dV];omega
   rw [if_neg a];simp only [↓reduceIte,o]
 | cons k f B=>
  intro j acc g z d e;obtain⟨g1,E,w⟩:=bt g;have b:(j:Int) < (c.hs.length:Int):=by omega
  have h0: 0<=(j:Int):=by omega
  obtain⟨H,v,_⟩:=l k (Xg g1);have a: 0<=k/\k < (t.to.length:Int):=by have:=(W9.1 v).1;omega
  have r:=B (j+1) (acc++ [br t k]) w (by omega) (by simp [d]) (by rw [<-e];simp);rw [DH] at r;refine ai ?_;rw [GU];simp only [ao,↓reduceIte,b,h0,and_self,aE,bR g1,a,fP v,dc (show acc.length+1<=1000000 by have:=ok.hl;omega),next j (by have:=ok.hl;omega),fH];exact r
abbrev M9(c:Cx)(t:Tr)(M:Mk):List ad:= [MZ c,du,kN,K6 c,ad.box [V'7,V'8],ad.sl false 1 t.bits.isEmpty (bD t.bits),ad.sl false 1 t.to.isEmpty (enc t.to),ad.rows M.N.isEmpty 5 1 1 M.N.length (rows M.N),ad.mp false [Ck.s] (Ck.i .i64) (cG M.K)]
theorem Sq{c:Cx}{dl:List Dc}{okb:Bool}(ok:qY c)(E:c.p.size<=100):∀(rn:List Nd) (rs:List Int) (i:Nat) (t:Tr) (M:Mk),c.ns.drop i=rn->c.ss.drop i=rs->i<=c.ns.length->cJ c t M i->M.N.length<=800->
  Or ve [r0,r1,Y'2,aa c.es c.ss,AV.t (T.aa 3 dl.isEmpty (aT dl)),B okb,Y'3,I (c.ns.length:Int),I (i:Int)] (M9 c t M)=some (mW c dl okb (fR c rn rs t M)):=by
 intro rn;induction rn with
 | nil=>
  intro rs i t M n v J f z;have k:¬(i:Int) < (c.ns.length:Int):=by have:=bu n;omega
  have C:i=c.ns.length:=by have:=bu n;omega
  have a:¬(M.N.length:Int) > 800:=by omega
  have w:fR c [] rs t M= (t,M):=by simp [fR]
  rw [w];cases okb with
  | false=>refine ai ?_;rw [tP];simp only [ao,↓reduceIte,k];rfl
  | true=>have m:=Sp (dl:=dl) ok C f z c.hs 0 [] rfl (XZ _) rfl rfl;refine ai ?_;rw [tP];simp only [ao,k,aZ,a,decide_false,aE];exact m
 | cons x rn K=>
  intro rs i t M n v J f z;obtain⟨g1,O,G⟩:=bt n;cases rs with
  | nil=>exact absurd (bu v) (by have:=ok.sl;omega)
  | cons s rs=>
   obtain⟨g,P,H⟩:=bt v;have k:(i:Int) < (c.ns.length:Int):=by omega
   have o: 0<=(i:Int)/\(i:Int) < (c.ss.length:Int):=by omega
   have e:=iB s;obtain⟨fW,lN⟩:=DL ok g1 g f E (by omega);have d:=λa=>K rs (i+1) _ _ G H (by omega) fW a;have F:=next i (by have:=ok.nl;omega);rw [fR];cases l:aG s with
   | true=>
    rw [l] at e;obtain⟨q,u,A,hl⟩:=LL g1 g l (ok.nd i x s g1 g) f (by have:=ok.dl;omega) E (by omega);have L:=gP l;have es:iR c t M x s= (⟨t.bits++ [(gu c t M x s).1],t.to++ [0]⟩,(gu c t M x s).2):=by unfold iR;rw [l];rfl
    rw [es] at d fW⊢;dsimp only at d fW⊢;have h:bH 24 (t.bits.length+1)=some ():=dc (by have:=f.bl;have:=ok.nl;omega);have j:bH 8 (t.to.length+1)=some ():=dc (by have:=f.tl;have:=ok.nl;omega);have D:=QF (gu c t M x s).1 (by omega);have w: [T.int i64 0]= [ti 0]:=rfl;by_cases a: 800 < (gu c t M x s).2.N.length
    .have b:((gu c t M x s).2.N.length:Int) > 800:=by omega
     rw [if_pos a];have er:mW c dl okb (⟨t.bits++ [(gu c t M x s).1],t.to++ [0]⟩,(gu c t M x s).2)=wI:=by unfold mW;rw [if_pos (.inr a)]
     rw [er];refine ai ?_;rw [tP];simp (maxSteps:=1000000) only [ao,↓reduceIte,k,o,and_self,aE,bR g,e,q,bg,bf,Xb,aZ,dL,ql,h,j,b,decide_true];cases okb <;> rfl
    .have b:¬((gu c t M x s).2.N.length:Int) > 800:=by omega
     rw [if_neg a];have m:=d (by omega);simp only [M9,DH] at m;refine ai ?_;rw [tP];simp (maxSteps:=1000000) only [ao,↓reduceIte,k,o,and_self,aE,bR g,e,q,bg,bf,Xb,aZ,dL,dm,ql,h,j,b,D,GZ,fH,F];exact m
   | false=>
    rw [l] at e;obtain⟨r,u,A⟩:=JB g1 l (ok.nd i x s g1 g) f (by omega);have es:iR c t M x s= (⟨t.bits++ [[]],t.to++ [(hH t M x).1]⟩,(hH t M x).2):=by unfold iR;rw [l];rfl
    rw [es] at d fW⊢;dsimp only at d fW⊢;have h:bH 24 (t.bits.length+1)=some ():=dc (by have:=f.bl;have:=ok.nl;omega);have j:bH 8 (t.to.length+1)=some ():=dc (by have:=f.tl;have:=ok.nl;omega);by_cases a: 800 < (hH t M x).2.N.length
    .have b:((hH t M x).2.N.length:Int) > 800:=by omega
     rw [if_pos a];have er:mW c dl okb (⟨t.bits++ [[]],t.to++ [(hH t M x).1]⟩,(hH t M x).2)=wI:=by unfold mW;rw [if_pos (.inr a)]
     rw [er];refine ai ?_;rw [tP];simp (maxSteps:=1000000) only [ao,↓reduceIte,k,o,and_self,aE,bR g,e,r,bg,bf,Xb,aZ,dL,ql,h,j,b,decide_true];cases okb <;> rfl
    .have b:¬((hH t M x).2.N.length:Int) > 800:=by omega
     rw [if_neg a];have m:=d (by omega);simp only [M9,DH] at m;have y:bD t.bits++ [[T.aC true]]=bD (t.bits++ [[]]):=GZ t.bits [];refine ai ?_;rw [tP];simp (maxSteps:=1000000) only [ao,↓reduceIte,k,o,and_self,aE,bR g,e,r,bg,bf,Xb,aZ,dL,ql,h,j,b,y,fH,F];exact m
open Go Go.Aev Go.IntKind
structure As where
 ed:Bool
 ds:List Dc
 en:Bool
 ns:List Nd
 eh:Bool
 hs:List Int
abbrev AG(a:As):AV:=AV.agg [AV.t (T.aa 3 a.ed (aT a.ds)),AV.t (T.aa 5 a.en (bd a.ns)),AV.t (T.aa 1 a.eh (enc a.hs))]
abbrev kV(a:As):ad:=ad.box [AV.t (T.aa 3 a.ed (aT a.ds)),AV.t (T.aa 5 a.en (bd a.ns)),AV.t (T.aa 1 a.eh (enc a.hs))]
structure pJ (a:As):Prop where
 d:∀d∈a.ds,d.ea=true->d.ar= []
 n:∀x∈a.ns,x.ek=true->x.ks= []
 h:a.eh=true->a.hs= []
theorem PF(l:List Dc)(d:Dc):aT l++ [[T.str d.nm,T.aa 1 d.ea (enc d.ar),T.int .i64 d.so]]=aT (l++ [d]):=by simp [aT]
theorem G1(l:List Nd)(x:Nd):bd l++ [[T.int .i64 x.op,T.aa 1 x.ek (enc x.ks),T.int .i64 x.n,T.int .i64 x.d,T.str x.nm]]=bd (l++ [x]):=by simp [bd]
theorem Rg{e eh:Bool}{ns:List Nd}{hs:List Int}{dl:List (List T)}(hl:ns.length<=1000)(m:∀x∈ns,x.ek=true->x.ks= [])(d:∀x∈ns,x.ks.length<=1000):∀(r:List Nd) (i:Nat) (acc:List Nd),ns.drop i=r->i<=ns.length->acc.length=i->
  Or jz [r0,r1,AV.t (T.aa 5 e (bd ns)),I (ns.length:Int),I (i:Int)] [du,ad.box [o2,o3,o4],ad.sl false 3 false dl,ad.sl false 5 false (bd acc),ad.sl false 1 eh (enc hs)]=some [T.aa 3 false dl,T.aa 5 false (bd (acc++r)),T.aa 1 eh (enc hs)]/\
  Or jz [r0,r1,AV.t (T.aa 5 e (bd ns)),I (ns.length:Int),I (i:Int)] [du,ad.box [AV.t (T.aC true),o2,o3],ad.sl false 5 false (bd acc),ad.sl false 1 eh (enc hs)]=some [T.aC true,T.aa 5 false (bd (acc++r)),T.aa 1 eh (enc hs)]:=by
 intro r;induction r with
 | nil=>
  intro i acc g l b;have a:¬(i:Int) < (ns.length:Int):=by have:=bu g;omega
  rw [XA];refine⟨ai ?_,ai ?_⟩
  .rw [FV];simp only [ao,↓reduceIte,a]
  .rw [FU];simp only [ao,↓reduceIte,a]
 | cons x r n=>
  intro i acc g l b;obtain⟨g1,o,k⟩:=bt g;have hm:=Xg g1;have a:(i:Int) < (ns.length:Int):=by omega
  have h0: 0<=(i:Int):=by omega
  obtain⟨y,c,f⟩:=na x.ek x.ks (m x hm) (by have:=d x hm;omega);obtain⟨h,j⟩:=n (i+1) (acc++ [x]) k (by omega) (by simp [b]);simp only [XC,XL] at h j;refine⟨ai ?_,ai ?_⟩
  .rw [FV];simp only [ao,↓reduceIte,a,h0,and_self,dV,fZ g1,c,f,dc (show acc.length+1<=1000000 by omega),next i (by omega),G1];exact h
  .rw [FU];simp only [ao,↓reduceIte,a,h0,and_self,dV,fZ g1,c,f,dc (show acc.length+1<=1000000 by omega),next i (by omega),G1];exact j
theorem Rh{e eh:Bool}{ns:List Nd}{hs:List Int}{dl:List (List T)}(hl:ns.length<=1000)(g:∀x∈ns,x.ek=true->x.ks= [])(b:∀x∈ns,x.ks.length<=1000):
  (∃z,Or jz [r0,r1,AV.t (T.aa 5 e (bd ns)),I (ns.length:Int),I 0] [du,ad.box [o2,AV.t (T.aC true),o3],ad.sl false 3 false dl,ad.sl false 1 eh (enc hs)]=some [T.aa 3 false dl,z,T.aa 1 eh (enc hs)]/\z.aQ 5=some (ns.isEmpty,bd ns))/\
  (∃z,Or jz [r0,r1,AV.t (T.aa 5 e (bd ns)),I (ns.length:Int),I 0] [du,ad.box [AV.t (T.aC true),AV.t (T.aC true),o2],ad.sl false 1 eh (enc hs)]=some [T.aC true,z,T.aa 1 eh (enc hs)]/\z.aQ 5=some (ns.isEmpty,bd ns)):=by
 cases a:ns with
 | nil=>
  refine⟨⟨T.aC true,ai ?_,rfl⟩,⟨T.aC true,ai ?_,rfl⟩⟩
  .rw [FT];simp only [ao,Xu,XN,XS,decide_false]
  .rw [FR];simp only [ao,Xu,XN,XS,decide_false]
 | cons x r=>
  have hm:x∈ns:=by rw [a];exact W7
  have f:(0:Int) < (((x::r).length:Nat):Int):=by simp
  have h0:(0:Int)<=0:=by omega
  have g1:(bd (x::r))[(0:Int).toNat]? =some [ti x.op,T.aa 1 x.ek (enc x.ks),ti x.n,ti x.d,T.str x.nm]:=rfl;have i:i64.wrap (0+1)= ((1:Nat):Int):=by decide
  obtain⟨y,c,h⟩:=na x.ek x.ks (g x hm) (by have:=b x hm;omega);obtain⟨j,k⟩:=Rg (e:=e) (eh:=eh) (ns:=ns) (hs:=hs) (dl:=dl) hl g b r 1 [x] (by rw [a];rfl) (by rw [a];simp) rfl;rw [a] at j k;refine⟨⟨T.aa 5 false (bd ([x] ++r)),ai ?_,rfl⟩,⟨T.aa 5 false (bd ([x] ++r)),ai ?_,rfl⟩⟩
  .rw [FT];simp only [ao,↓reduceIte,f,h0,and_self,dV,g1,c,h,i];exact j
  .rw [FR];simp only [ao,↓reduceIte,f,h0,and_self,dV,g1,c,h,i];exact k
theorem Rf{a:As}{e eh:Bool}{hs:List Int}(hl:a.ds.length<=1000)(p:∀d∈a.ds,d.ea=true->d.ar= [])(j:∀d∈a.ds,d.ar.length<=1000){z:T}
  (k:Or jz [r0,r1,AV.t (T.aa 5 a.en (bd a.ns)),I (a.ns.length:Int),I 0] [du,ad.box [o2,AV.t (T.aC true),o3],ad.sl false 3 false (aT a.ds),ad.sl false 1 eh (enc hs)]=some [T.aa 3 false (aT a.ds),z,T.aa 1 eh (enc hs)]):∀(r:List Dc) (i:Nat) (acc:List Dc),a.ds.drop i=r->i<=a.ds.length->acc.length=i->acc++r=a.ds->
  Or pP [r0,r1,Y'2,AV.t (T.aa 3 e (aT a.ds)),I (a.ds.length:Int),I (i:Int)] [kV a,du,ad.box [o3,AV.t (T.aC true),o4],ad.sl false 3 false (aT acc),ad.sl false 1 eh (enc hs)]=some [T.aa 3 false (aT a.ds),z,T.aa 1 eh (enc hs)]:=by
 intro r;induction r with
 | nil=>
  intro i acc g n f b;have h:¬(i:Int) < (a.ds.length:Int):=by have:=bu g;omega
  rw [XA] at b;rw [<-b] at k;refine ai ?_;rw [FQ,<-b];rw [<-b] at h;simp only [ao,↓reduceIte,h,dV];exact k
 | cons d r s=>
  intro i acc g n f b;obtain⟨g1,u,m⟩:=bt g;have hm:=Xg g1;have h:(i:Int) < (a.ds.length:Int):=by omega
  have h0: 0<=(i:Int):=by omega
  obtain⟨y,l,q⟩:=na d.ea d.ar (p d hm) (by have:=j d hm;omega);have o:=s (i+1) (acc++ [d]) m (by omega) (by simp [f]) (by rw [<-b];simp);refine ai ?_;rw [FQ];simp only [ao,↓reduceIte,h,h0,and_self,cR,fh g1,l,q,dc (show acc.length+1<=1000000 by omega),next i (by omega),PF];exact o
theorem Tz{a:As}(wf:pJ a)(l:a.ds.length<=1000)(o:a.ns.length<=1000)(F:a.hs.length<=1000)(f:∀d∈a.ds,d.ar.length<=1000)(m:∀x∈a.ns,x.ks.length<=1000):
  ∃x y z,Or (.call 14) [AG a] []=some [x,y,z]/\x.aQ 3=some (a.ds.isEmpty,aT a.ds)/\y.aQ 5=some (a.ns.isEmpty,bd a.ns)/\z.aQ 1=some (a.eh,enc a.hs):=by
 obtain⟨v,g,p⟩:=na a.eh a.hs wf.h (by omega);obtain⟨⟨q,A,B⟩,⟨s,C,D⟩⟩:=Rh (e:=a.en) (eh:=a.eh) (ns:=a.ns) (hs:=a.hs) (dl:=aT a.ds) o wf.n m;cases b:a.ds with
 | nil=>
  have i:Or pP [r0,r1,Y'2,AV.t (T.aa 3 a.ed (aT a.ds)),I (a.ds.length:Int),I 0] [kV a,du,ad.box [AV.t (T.aC true),AV.t (T.aC true),o3],ad.sl false 1 a.eh (enc a.hs)]=some [T.aC true,s,T.aa 1 a.eh (enc a.hs)]:=by refine ai ?_;rw [FP,b];simp only [ao,Xu,XN,XS,decide_false,dV];exact C
  refine⟨T.aC true,s,T.aa 1 a.eh (enc a.hs),ai ?_,rfl,D,by rw [bO]⟩;rw [FO];simp only [ao,g,p,cR];exact i
 | cons d r=>
  have hm:d∈a.ds:=by rw [b];exact W7
  have j:=Rf (a:=a) (e:=a.ed) (eh:=a.eh) (hs:=a.hs) l wf.d f A r 1 [d] (by rw [b];rfl) (by rw [b];simp) rfl (by rw [b];rfl);have u:(0:Int) < (((d::r).length:Nat):Int):=by simp
  have h0:(0:Int)<=0:=by omega
  have g1:(aT (d::r))[(0:Int).toNat]? =some [T.str d.nm,T.aa 1 d.ea (enc d.ar),ti d.so]:=rfl;have E:i64.wrap (0+1)= ((1:Nat):Int):=by decide
  obtain⟨y,k,w⟩:=na d.ea d.ar (wf.d d hm) (by have:=f d hm;omega);have i:Or pP [r0,r1,Y'2,AV.t (T.aa 3 a.ed (aT a.ds)),I (a.ds.length:Int),I 0] [kV a,du,ad.box [AV.t (T.aC true),AV.t (T.aC true),o3],ad.sl false 1 a.eh (enc a.hs)]=some [T.aa 3 false (aT a.ds),q,T.aa 1 a.eh (enc a.hs)]:=by refine ai ?_;rw [FP,b];rw [b] at j;simp only [ao,↓reduceIte,u,h0,and_self,cR,g1,k,w,E];rw [<-b] at j⊢;exact j
  refine⟨T.aa 3 false (aT a.ds),q,T.aa 1 a.eh (enc a.hs),ai ?_,by rw [b];rfl,B,by rw [bO]⟩;rw [FO];simp only [ao,g,p,cR];exact i
def lu(a:As)(es:Bool)(ss:List Int):Cx:=⟨a.ed,a.ds,a.en,a.ns,a.eh,a.hs,cZ a.ds,es,ss⟩
def lC(a:As)(es:Bool)(ss:List Int):List T:=
 if pF a.ds ss then mW (lu a es ss) (cz (cZ a.ds) 0 a.ds) (jc (cZ a.ds) 0 a.ds true && decide ((((cz (cZ a.ds) 0 a.ds).length:Nat):Int)<=30)) (fR (lu a es ss) a.ns ss ⟨[],[]⟩ ⟨[],[]⟩)
 else [T.aa 3 a.ds.isEmpty (aT a.ds),T.aa 5 a.ns.isEmpty (bd a.ns),T.aa 1 a.eh (enc a.hs),ti 0,ti 0]
theorem s9{a:As}{es:Bool}{ss:List Int}(wf:pJ a)(ok:qY (lu a es ss))(e:∀d∈a.ds,d.ar.length<=1000){x:T}(g:Or (.call 12) [AG a] []=some [x,ti 0,ti 0])(o:x.aQ 1=some (es,enc ss)):
  Or (.call 6) [AG a] []=some (lC a es ss):=by
 have D:a.ds.length<=30:=ok.dl;have F:a.ns.length<=200:=ok.nl;have E:a.hs.length<=200:=ok.hl;have m:ss.length=a.ns.length:=ok.sl;have f:∀d∈a.ds,d.nm.size<=12:=ok.ds;have b:=Tx (ed:=a.ed) (en:=a.en) (eh:=a.eh) (es:=es) (ds:=a.ds) (ns:=bd a.ns) (hs:=enc a.hs) (ss:=ss) (by omega) (by omega);unfold lC;cases n:pF a.ds ss with
 | false=>
  rw [n] at b;obtain⟨H,I,J,q,v,w,z⟩:=Tz wf (by omega) (by omega) (by omega) e (λx hm=>by
   obtain⟨i,j⟩:=X1 hm;have l:i < ss.length:=by rw [m];exact(W9.1 j).1
   have:=(ok.nd i x _ j (Xd l)).kl;omega)
  refine ai ?_;rw [e9];simp only [ao,↓reduceIte,g,o,b,q,v,w,z];rfl
 | true=>
  rw [n] at b;have r:=TA (ed:=a.ed) (en:=a.en) (eh:=a.eh) (ns:=bd a.ns) (hs:=enc a.hs) (show a.ds.length<=100 by omega) f;have G:(cZ a.ds).size<=12:=zF f 11 us (by rw [ig];omega);obtain⟨y,u,C⟩:=TB (p:=cZ a.ds) (ed:=a.ed) (en:=a.en) (eh:=a.eh) (ds:=a.ds) (ns:=bd a.ns) (hs:=enc a.hs) (by omega) (by omega) wf.d e;have h0:cJ (lu a es ss) ⟨[],[]⟩ ⟨[],[]⟩ 0:=⟨⟨λi x h=>(by simp at h),λi x h=>(by simp at h),λp h=>(by cases h),λi x h=>(by simp at h),λi x h=>(by simp at h)⟩,rfl,rfl,λk s h=>by omega,λk s h=>by omega⟩;have hl:=Sq (dl:=cz (cZ a.ds) 0 a.ds) (okb:=jc (cZ a.ds) 0 a.ds true && decide ((((cz (cZ a.ds) 0 a.ds).length:Nat):Int)<=30)) ok (show(cZ a.ds).size<=100 by omega) a.ns ss 0 ⟨[],[]⟩ ⟨[],[]⟩ rfl rfl (XZ _) h0 (by simp);have A:Or AF [r0,r1,Y'2,aa es ss,AV.t (T.aa 3 (cz (cZ a.ds) 0 a.ds).isEmpty (aT (cz (cZ a.ds) 0 a.ds))),B (jc (cZ a.ds) 0 a.ds true && decide ((((cz (cZ a.ds) 0 a.ds).length:Nat):Int)<=30)),Y'3,Y'3,Y'4] (M9 (lu a es ss) ⟨[],[]⟩ ⟨[],[]⟩)=some (mW (lu a es ss) (cz (cZ a.ds) 0 a.ds) (jc (cZ a.ds) 0 a.ds true && decide ((((cz (cZ a.ds) 0 a.ds).length:Nat):Int)<=30)) (fR (lu a es ss) a.ns ss ⟨[],[]⟩ ⟨[],[]⟩)):=by refine ai ?_;rw [PD];simp only [dV];exact hl
  simp only [↓reduceIte];refine ai ?_;rw [e9];simp only [ao,↓reduceIte,g,o,b,r,u,C];exact A
end Go.Aev.Gen
