import Derived.Test.YtcjplcpngagalaaDoorBlastNoneQ9
set_option linter.all false
namespace Go.Aev.Gen
open Go Go.Aev Go.IntKind
def aH(s:Int):Bool:=decide (10 < s) && decide (s<=18)
theorem gM(n:Int):Or (.call 14) [I n] []=some [tb (aH n)]:=by
 refine ai ?_;rw [EW];unfold aH;by_cases h: 10 < n
 .have:n > 10:=h;simp only [aj,↓reduceIte,Int.reduceBEq,Int.reduceEq,h,this,decide_true,MC]
 .have:¬n > 10:=h;simp only [aj,↓reduceIte,Int.reduceBEq,Int.reduceEq,h,this,decide_false,Nw]
def aE(t:Tr)(k:Int):List Int:=t.bits.getD k.toNat []
def bh(t:Tr)(k:Int):Int:=t.to.getD k.toNat 0
structure cy (c:Cx) (t:Tr) (M:Mk) (i:Nat):Prop where
 ok:Ok M
 bl:t.bits.length=i
 tl:t.to.length=i
 w:∀(k:Nat) (s:Int),k < i->c.ss[k]? =some s->aH s=true->∃b,t.bits[k]? =some b/\(b.length:Int)=s - 10/\∀x∈b,In M x
 p:∀(k:Nat) (s:Int),k < i->c.ss[k]? =some s->aH s=false->t.bits[k]? =some []/\∃v,t.to[k]? =some v/\In M v
theorem cy.up{c:Cx}{t:Tr}{M j:Mk}{i n:Nat}(h:cy c t M i)(u:Up M j n):cy c t j i:=
 ⟨u.ok,h.bl,h.tl,λk s f hs g=>by obtain⟨b,a,d,e⟩:=h.w k s f hs g;exact⟨b,a,d,u.all e⟩,
  λk s f hs g=>by obtain⟨a,v,d,e⟩:=h.p k s f hs g;exact⟨a,v,d,u.In e⟩⟩
structure KW (c:Cx) (i:Nat) (k:Int) (s:Int):Prop where
 h0: 0<=k
 lt:k < (i:Int)
 so:c.ss[k.toNat]? =some s
theorem KW.word{c:Cx}{t:Tr}{M:Mk}{i:Nat}{k s:Int}(h:KW c i k s)(g:cy c t M i)(j:aH s=true):
  t.bits[k.toNat]? =some (aE t k)/\((aE t k).length:Int)=s - 10/\∀x∈aE t k,In M x:=by
 obtain⟨b,a,d,f⟩:=g.w k.toNat s (by have:=h.h0;have:=h.lt;omega) h.so j;have e:aE t k=b:=by unfold aE;rw [Lw,a];rfl
 rw [e];exact⟨a,d,f⟩
theorem KW.plain{c:Cx}{t:Tr}{M:Mk}{i:Nat}{k s:Int}(h:KW c i k s)(f:cy c t M i)(g:aH s=false):
  t.bits[k.toNat]? =some []/\t.to[k.toNat]? =some (bh t k)/\In M (bh t k):=by
 obtain⟨b,v,a,d⟩:=f.p k.toNat s (by have:=h.h0;have:=h.lt;omega) h.so g;have e:bh t k=v:=by unfold bh;rw [Lw,a];rfl
 rw [e];exact⟨b,a,d⟩
theorem fv{s:Int}(h:aH s=true): 1<=s - 10/\s - 10<=8:=by unfold aH at h;simp only [Lu,decide_eq_true_eq] at h;omega
def cM(M:Mk)(pre:ByteArray)(kids:List Int):Nat->Nat->List Int×Mk
 | _,0=>([],M)
 | b,k+1=>((cR M 9 (pre++it (b:Int)) 0 0 kids).1:: (cM (cR M 9 (pre++it (b:Int)) 0 0 kids).2 pre kids (b+1) k).1,(cM (cR M 9 (pre++it (b:Int)) 0 0 kids).2 pre kids (b+1) k).2)
theorem BG{pre:ByteArray}{kids:List Int}:∀{k b:Nat} {M:Mk},Ok M->(∀x∈kids,In M x)->kids.length<=1000->
  Up M (cM M pre kids b k).2 k/\(∀x∈(cM M pre kids b k).1,In (cM M pre kids b k).2 x)/\(cM M pre kids b k).1.length=k
 | 0,b,M,h,_,_=>⟨Up.refl h,λx j=>(by cases j),rfl⟩
 | k+1,b,M,h,e,hl=>by
  obtain⟨a,f⟩:=iE h 9 (pre++it (b:Int)) 0 0 kids e (by simp) hl;obtain⟨d,g,i⟩:=BG (k:=k) (b:=b+1) a.ok (a.all e) hl;refine⟨(a.trans d).mono (by omega),λz c=> ?_,by simp [cM,i]⟩;rcases LC.1 c with rfl | c
  .exact d.In f
  .exact g z c
theorem HK{c:Cx}{t:Tr}{x:Nd}{w:Nat}{kids:List Int}{e:Bool}(C:e=kids.isEmpty)(o:c.ds.length<=100)(J:c.p.size<=100)(L:w<=100)(H:kids.length<=100):∀(k b:Nat) (M:Mk) (a:List Int),b+k=w->Ok M->(∀y∈kids,In M y)->M.N.length+k<=60000->a.length=b->
  Or gh [AV.ref (Id.c 6) 0,AV.ref (Id.c 7) 0,AV.own (Id.c 8),ad e kids,I (w:Int),I (b:Int)] [ab.box [AV.ref (Id.c 1) 0,AV.t (T.ad 3 c.ed (aJ c.ds)),AV.t (T.ad 5 c.en (aU c.ns)),AV.t (T.ad 1 c.eh (enc c.hs)),AV.t (T.str c.p),AV.t (T.ad 1 c.es (enc c.ss)),AV.own (Id.c 2),AV.own (Id.c 3)],ab.box [AV.own (Id.c 9),AV.own (Id.c 5)],ab.sl false 1 t.bits.isEmpty (bd t.bits),ab.sl false 1 t.to.isEmpty (enc t.to),ab.dead,ab.mp false [Ck.s] (Ck.i .i64) (bR M.K),ab.box [r0],ab.box [I x.op,ad x.ek x.ks,I x.n,I x.d,AV.t (T.str x.nm)],ab.sl false 1 false (enc a),ab.rows M.N.isEmpty 5 1 1 M.N.length (rows M.N)]=
   some [T.ad 1 false (enc (a++ (cM M (c.p++it (bc c.ds x.nm)++us) kids b k).1)),T.ak,T.ad 3 c.ed (aJ c.ds),T.ad 5 c.en (aU c.ns),T.ad 1 c.eh (enc c.hs),T.str c.p,T.ad 1 c.es (enc c.ss),T.ak,T.ak,RW ((cM M (c.p++it (bc c.ds x.nm)++us) kids b k).2).N,T.ak,T.ad 1 t.bits.isEmpty (bd t.bits),T.ad 1 t.to.isEmpty (enc t.to),EM ((cM M (c.p++it (bc c.ds x.nm)++us) kids b k).2).K]:=by
 have u:=qW (ed:=c.ed) (en:=c.en) (eh:=c.eh) (ns:=c.ns) (hs:=c.hs) (nm:=x.nm) o;have q:dL (bc c.ds x.nm):=by have:=qc x.nm 0 c.ds;unfold bc;constructor <;> omega
 have P:=gG q;intro k;induction k with
 | zero=>
  intro b M a B h g A f;have l:¬(b:Int) < (w:Int):=by omega
  refine ai ?_;rw [y5];simp only [aj,↓reduceIte,Int.reduceBEq,Int.reduceEq,l,aT,aS,Lt,aR,aO,cI,cJ,cv,cM,LW];rfl
 | succ k E=>
  intro b M a B h g A f;have l:(b:Int) < (w:Int):=by omega
  have j:dL (b:Int):=⟨by omega,by omega⟩;have Q:=gG j;have v:c.p.size+ (it (bc c.ds x.nm)).size<=4294967296:=by omega
  have z:(c.p++it (bc c.ds x.nm)).size+1<=4294967296:=by rw [LQ];omega
  have c3:(c.p++it (bc c.ds x.nm)++us).size+ (it (b:Int)).size<=4294967296:=by simp only [LQ,fk];omega
  have F:=iI M (show M.N.length<=100000 by omega) 9 (c.p++it (bc c.ds x.nm)++us++it (b:Int)) 0 0 kids e C (λy D=>(g y D).i64 (by omega)) (by omega) (by omega) (by omega) (by omega) (by simp only [LQ,fk];omega);obtain⟨m,O⟩:=iE h 9 (c.p++it (bc c.ds x.nm)++us++it (b:Int)) 0 0 kids g (by simp) (by omega);have G:bq 8 (a.length+1)=some ():=cS (by omega);have r:=E (b+1) _ (a++ [(cR M 9 (c.p++it (bc c.ds x.nm)++us++it (b:Int)) 0 0 kids).1]) (by omega) m.ok (m.all g) (by have:=m.up;omega) (by simp [f]);simp only [LV,LZ] at r;rw [cM];refine ai ?_;rw [y5];simp only [aj,↓reduceIte,Int.reduceBEq,Int.reduceEq,l,u,gO q,gO j,v,z,c3,F,aD,LG,G,next b (by omega),dS,aT,aS,Lt,aR,aO,cI,cJ,cv];exact r
theorem HL{c:Cx}{t:Tr}{x:Nd}{w:Nat}(m:c.ds.length<=100)(E:c.p.size<=100)(F:w<=100):∀(k b:Nat) (M:Mk) (a:List Int),b+k=w->Ok M->M.N.length+k<=60000->a.length=b->
  Or gh [AV.ref (Id.c 6) 0,AV.ref (Id.c 7) 0,AV.own (Id.c 8),AV.t (T.af true),I (w:Int),I (b:Int)] [ab.box [AV.ref (Id.c 1) 0,AV.t (T.ad 3 c.ed (aJ c.ds)),AV.t (T.ad 5 c.en (aU c.ns)),AV.t (T.ad 1 c.eh (enc c.hs)),AV.t (T.str c.p),AV.t (T.ad 1 c.es (enc c.ss)),AV.own (Id.c 2),AV.own (Id.c 3)],ab.box [AV.own (Id.c 9),AV.own (Id.c 5)],ab.sl false 1 t.bits.isEmpty (bd t.bits),ab.sl false 1 t.to.isEmpty (enc t.to),ab.dead,ab.mp false [Ck.s] (Ck.i .i64) (bR M.K),ab.box [r0],ab.box [I x.op,ad x.ek x.ks,I x.n,I x.d,AV.t (T.str x.nm)],ab.sl false 1 false (enc a),ab.rows M.N.isEmpty 5 1 1 M.N.length (rows M.N)]=
   some [T.ad 1 false (enc (a++ (cM M (c.p++it (bc c.ds x.nm)++us) [] b k).1)),T.ak,T.ad 3 c.ed (aJ c.ds),T.ad 5 c.en (aU c.ns),T.ad 1 c.eh (enc c.hs),T.str c.p,T.ad 1 c.es (enc c.ss),T.ak,T.ak,RW ((cM M (c.p++it (bc c.ds x.nm)++us) [] b k).2).N,T.ak,T.ad 1 t.bits.isEmpty (bd t.bits),T.ad 1 t.to.isEmpty (enc t.to),EM ((cM M (c.p++it (bc c.ds x.nm)++us) [] b k).2).K]:=by
 have r:=qW (ed:=c.ed) (en:=c.en) (eh:=c.eh) (ns:=c.ns) (hs:=c.hs) (nm:=x.nm) m;have o:dL (bc c.ds x.nm):=by have:=qc x.nm 0 c.ds;unfold bc;constructor <;> omega
 have H:=gG o;intro k;induction k with
 | zero=>
  intro b M a B h A e;have g:¬(b:Int) < (w:Int):=by omega
  refine ai ?_;rw [y0];simp only [aj,↓reduceIte,Int.reduceBEq,Int.reduceEq,g,aT,aS,Lt,aR,aO,cI,cJ,cv,cM,LW];rfl
 | succ k C=>
  intro b M a B h A e;have g:(b:Int) < (w:Int):=by omega
  have f:dL (b:Int):=⟨by omega,by omega⟩;have J:=gG f;have v:c.p.size+ (it (bc c.ds x.nm)).size<=4294967296:=by omega
  have z:(c.p++it (bc c.ds x.nm)).size+1<=4294967296:=by rw [LQ];omega
  have c3:(c.p++it (bc c.ds x.nm)++us).size+ (it (b:Int)).size<=4294967296:=by simp only [LQ,fk];omega
  have l:=iI M (show M.N.length<=100000 by omega) 9 (c.p++it (bc c.ds x.nm)++us++it (b:Int)) 0 0 [] true rfl (λy j=>by cases j) (by simp) (by omega) (by omega) (by omega) (by simp only [LQ,fk];omega);replace l:Or (.call 46) [r0,I 9,AV.t (T.str (c.p++it (bc c.ds x.nm)++us++it (b:Int))),I 0,I 0,AV.t (T.ad 1 true [])] (cW M)=_:=l;obtain⟨u,G⟩:=iE h 9 (c.p++it (bc c.ds x.nm)++us++it (b:Int)) 0 0 [] (λy j=>by cases j) (by simp);have D:bq 8 (a.length+1)=some ():=cS (by omega);have q:=C (b+1) _ (a++ [(cR M 9 (c.p++it (bc c.ds x.nm)++us++it (b:Int)) 0 0 []).1]) (by omega) u.ok (by have:=u.up;omega) (by simp [e]);simp only [LV,LZ] at q;rw [cM];refine ai ?_;rw [y0];simp only [aj,↓reduceIte,Int.reduceBEq,Int.reduceEq,g,r,gO o,gO f,v,z,c3,l,aD,LG,D,next b (by omega),dS,aT,aS,Lt,aR,aO,cI,cJ,cv];exact q
theorem HM{c:Cx}{t:Tr}{M:Mk}{x:Nd}{w:Nat}{kids:List Int}(o:kids≠[])(b:c.ds.length<=100)(z:c.p.size<=100)(F: 1<=w)(A:w<=100)(m:kids.length<=100)(h:Ok M)(g:∀y∈kids,In M y)(G:M.N.length<=50000):
  Or gh [AV.ref (Id.c 6) 0,AV.ref (Id.c 7) 0,AV.t (T.af true),AV.own (Id.c 8),I (w:Int),I 0] [ab.box [AV.ref (Id.c 1) 0,AV.t (T.ad 3 c.ed (aJ c.ds)),AV.t (T.ad 5 c.en (aU c.ns)),AV.t (T.ad 1 c.eh (enc c.hs)),AV.t (T.str c.p),AV.t (T.ad 1 c.es (enc c.ss)),AV.own (Id.c 2),AV.own (Id.c 3)],ab.box [AV.own (Id.c 4),AV.own (Id.c 5)],ab.sl false 1 t.bits.isEmpty (bd t.bits),ab.sl false 1 t.to.isEmpty (enc t.to),ab.rows M.N.isEmpty 5 1 1 M.N.length (rows M.N),ab.mp false [Ck.s] (Ck.i .i64) (bR M.K),ab.box [r0],ab.box [I x.op,ad x.ek x.ks,I x.n,I x.d,AV.t (T.str x.nm)],ab.sl false 1 false (enc kids)]=
   some [T.ad 1 false (enc (cM M (c.p++it (bc c.ds x.nm)++us) kids 0 w).1),T.ak,T.ad 3 c.ed (aJ c.ds),T.ad 5 c.en (aU c.ns),T.ad 1 c.eh (enc c.hs),T.str c.p,T.ad 1 c.es (enc c.ss),T.ak,T.ak,RW ((cM M (c.p++it (bc c.ds x.nm)++us) kids 0 w).2).N,T.ak,T.ad 1 t.bits.isEmpty (bd t.bits),T.ad 1 t.to.isEmpty (enc t.to),EM ((cM M (c.p++it (bc c.ds x.nm)++us) kids 0 w).2).K]:=by
 have q:=qW (ed:=c.ed) (en:=c.en) (eh:=c.eh) (ns:=c.ns) (hs:=c.hs) (nm:=x.nm) b;have l:dL (bc c.ds x.nm):=by have:=qc x.nm 0 c.ds;unfold bc;constructor <;> omega
 have J:=gG l;obtain⟨k,rfl⟩:∃k,w=k+1:=⟨w - 1,by omega⟩;have v:(0:Int) < ((k+1:Nat):Int):=by omega
 have a:dL (0:Int):=⟨by omega,by omega⟩;have L:=gG a;have r:c.p.size+ (it (bc c.ds x.nm)).size<=4294967296:=by omega
 have u:(c.p++it (bc c.ds x.nm)).size+1<=4294967296:=by rw [LQ];omega
 have c3:(c.p++it (bc c.ds x.nm)++us).size+ (it (0:Int)).size<=4294967296:=by simp only [LQ,fk];omega
 have f:false=kids.isEmpty:=by cases kids with
  | nil=>exact absurd rfl o
  | cons=>rfl
 have D:=iI M (show M.N.length<=100000 by omega) 9 (c.p++it (bc c.ds x.nm)++us++it (0:Int)) 0 0 kids false f (λy B=>(g y B).i64 (by omega)) (by omega) (by omega) (by omega) (by omega) (by simp only [LQ,fk];omega);obtain⟨j,H⟩:=iE h 9 (c.p++it (bc c.ds x.nm)++us++it (0:Int)) 0 0 kids g (by simp) (by omega);have E:i64.wrap (0+1)= ((1:Nat):Int):=by decide
 have C:=HK (t:=t) (x:=x) (w:=k+1) (e:=false) f b z A m k 1 _ [(cR M 9 (c.p++it (bc c.ds x.nm)++us++it (0:Int)) 0 0 kids).1] (by omega) j.ok (j.all g) (by have:=j.up;omega) rfl;rw [cM];refine ai ?_;rw [E5];simp only [aj,↓reduceIte,Int.reduceBEq,Int.reduceEq,v,q,gO l,gO a,r,u,c3,D,E,aT,aS,Lt,aR,aO,cI,cJ,cv];exact C
theorem HN{c:Cx}{t:Tr}{M:Mk}{x:Nd}{w:Nat}(b:c.ds.length<=100)(r:c.p.size<=100)(A: 1<=w)(u:w<=100)(h:Ok M)(B:M.N.length<=50000):
  Or gh [AV.ref (Id.c 6) 0,AV.ref (Id.c 7) 0,AV.t (T.af true),AV.t (T.af true),I (w:Int),I 0] [ab.box [AV.ref (Id.c 1) 0,AV.t (T.ad 3 c.ed (aJ c.ds)),AV.t (T.ad 5 c.en (aU c.ns)),AV.t (T.ad 1 c.eh (enc c.hs)),AV.t (T.str c.p),AV.t (T.ad 1 c.es (enc c.ss)),AV.own (Id.c 2),AV.own (Id.c 3)],ab.box [AV.own (Id.c 4),AV.own (Id.c 5)],ab.sl false 1 t.bits.isEmpty (bd t.bits),ab.sl false 1 t.to.isEmpty (enc t.to),ab.rows M.N.isEmpty 5 1 1 M.N.length (rows M.N),ab.mp false [Ck.s] (Ck.i .i64) (bR M.K),ab.box [r0],ab.box [I x.op,ad x.ek x.ks,I x.n,I x.d,AV.t (T.str x.nm)]]=
   some [T.ad 1 false (enc (cM M (c.p++it (bc c.ds x.nm)++us) [] 0 w).1),T.ak,T.ad 3 c.ed (aJ c.ds),T.ad 5 c.en (aU c.ns),T.ad 1 c.eh (enc c.hs),T.str c.p,T.ad 1 c.es (enc c.ss),T.ak,T.ak,RW ((cM M (c.p++it (bc c.ds x.nm)++us) [] 0 w).2).N,T.ak,T.ad 1 t.bits.isEmpty (bd t.bits),T.ad 1 t.to.isEmpty (enc t.to),EM ((cM M (c.p++it (bc c.ds x.nm)++us) [] 0 w).2).K]:=by
 have j:=qW (ed:=c.ed) (en:=c.en) (eh:=c.eh) (ns:=c.ns) (hs:=c.hs) (nm:=x.nm) b;have g:dL (bc c.ds x.nm):=by have:=qc x.nm 0 c.ds;unfold bc;constructor <;> omega
 have D:=gG g;obtain⟨k,rfl⟩:∃k,w=k+1:=⟨w - 1,by omega⟩;have q:(0:Int) < ((k+1:Nat):Int):=by omega
 have a:dL (0:Int):=⟨by omega,by omega⟩;have E:=gG a;have m:c.p.size+ (it (bc c.ds x.nm)).size<=4294967296:=by omega
 have o:(c.p++it (bc c.ds x.nm)).size+1<=4294967296:=by rw [LQ];omega
 have c3:(c.p++it (bc c.ds x.nm)++us).size+ (it (0:Int)).size<=4294967296:=by simp only [LQ,fk];omega
 have f:=iI M (show M.N.length<=100000 by omega) 9 (c.p++it (bc c.ds x.nm)++us++it (0:Int)) 0 0 [] true rfl (λy e=>by cases e) (by simp) (by omega) (by omega) (by omega) (by simp only [LQ,fk];omega);replace f:Or (.call 46) [r0,I 9,AV.t (T.str (c.p++it (bc c.ds x.nm)++us++it (0:Int))),I 0,I 0,AV.t (T.ad 1 true [])] (cW M)=_:=f;obtain⟨l,C⟩:=iE h 9 (c.p++it (bc c.ds x.nm)++us++it (0:Int)) 0 0 [] (λy e=>by cases e) (by simp);have z:i64.wrap (0+1)= ((1:Nat):Int):=by decide
 have v:=HL (t:=t) (x:=x) (w:=k+1) b r u k 1 _ [(cR M 9 (c.p++it (bc c.ds x.nm)++us++it (0:Int)) 0 0 []).1] (by omega) l.ok (by have:=l.up;omega) rfl;rw [cM];refine ai ?_;rw [E4];simp only [aj,↓reduceIte,Int.reduceBEq,Int.reduceEq,q,j,gO g,gO a,m,o,c3,f,z,aT,aS,Lt,aR,aO,cI,cJ,cv];exact v
theorem HP{c:Cx}{t:Tr}{M:Mk}{x:Nd}{i w:Nat}{s:Int}(hs:c.ss[i]? =some s)(y:s - 10= (w:Int))(F:w<=100)(E:x.ks.length<=100)(m:∀k∈x.ks,0<=k/\t.to[k.toNat]? =some (bh t k)){r:List T}:∀(f:List Int) (j:Nat) (a:List Int),x.ks.drop j=f->j<=x.ks.length->a.length=j->
  Or gh [AV.ref (Id.c 6) 0,AV.ref (Id.c 7) 0,AV.t (T.af true),AV.own (Id.c 8),I (w:Int),I 0] [ab.box [AV.ref (Id.c 1) 0,AV.t (T.ad 3 c.ed (aJ c.ds)),AV.t (T.ad 5 c.en (aU c.ns)),AV.t (T.ad 1 c.eh (enc c.hs)),AV.t (T.str c.p),AV.t (T.ad 1 c.es (enc c.ss)),AV.own (Id.c 2),AV.own (Id.c 3)],ab.box [AV.own (Id.c 4),AV.own (Id.c 5)],ab.sl false 1 t.bits.isEmpty (bd t.bits),ab.sl false 1 t.to.isEmpty (enc t.to),ab.rows M.N.isEmpty 5 1 1 M.N.length (rows M.N),ab.mp false [Ck.s] (Ck.i .i64) (bR M.K),ab.box [r0],ab.box [I x.op,ad x.ek x.ks,I x.n,I x.d,AV.t (T.str x.nm)],ab.sl false 1 false (enc (a++f.map (bh t)))]=some r->
  Or mG [I (i:Int),AV.ref (Id.c 6) 0,AV.ref (Id.c 7) 0,AV.t (T.af true),AV.own (Id.c 8),ad x.ek x.ks,I (x.ks.length:Int),I (j:Int)] [ab.box [AV.ref (Id.c 1) 0,AV.t (T.ad 3 c.ed (aJ c.ds)),AV.t (T.ad 5 c.en (aU c.ns)),AV.t (T.ad 1 c.eh (enc c.hs)),AV.t (T.str c.p),AV.t (T.ad 1 c.es (enc c.ss)),AV.own (Id.c 2),AV.own (Id.c 3)],ab.box [AV.own (Id.c 4),AV.own (Id.c 5)],ab.sl false 1 t.bits.isEmpty (bd t.bits),ab.sl false 1 t.to.isEmpty (enc t.to),ab.rows M.N.isEmpty 5 1 1 M.N.length (rows M.N),ab.mp false [Ck.s] (Ck.i .i64) (bR M.K),ab.box [r0],ab.box [I x.op,ad x.ek x.ks,I x.n,I x.d,AV.t (T.str x.nm)],ab.sl false 1 false (enc a)]=some r:=by
 intro f;induction f with
 | nil=>
  intro j a g v b e;have h:¬(j:Int) < (x.ks.length:Int):=by have:=br g;omega
  have u: 0<=(i:Int)/\(i:Int) < (c.ss.length:Int):=by have:=(Ls.1 hs).1;omega
  have D:i64.wrap (s - 10)= (w:Int):=by rw [y,wr (by omega)]
  rw [MD,LW] at e;refine ai ?_;rw [y9];simp only [aj,↓reduceIte,Int.reduceBEq,Int.reduceEq,h,u,and_self,aD,bJ hs,D];exact e
 | cons k f A=>
  intro j a g v b e;obtain⟨l,G,q⟩:=bu g;have h:(j:Int) < (x.ks.length:Int):=by omega
  have h0: 0<=(j:Int):=by omega
  obtain⟨H,o⟩:=m k (LB l);have B: 0<=k/\k < (t.to.length:Int):=by have:=(Ls.1 o).1;omega
  have C:bq 8 (a.length+1)=some ():=cS (by omega);have z:=A (j+1) (a++ [bh t k]) q (by omega) (by simp [b]) (by
   rw [L6] at e;simpa only [LV,LZ] using e)
  refine ai ?_;rw [y9];simp only [aj,↓reduceIte,Int.reduceBEq,Int.reduceEq,h,h0,and_self,aD,bJ l,B,eC o,LG,C,next j (by omega),dS];exact z
theorem JI{c:Cx}{t:Tr}{M:Mk}{x:Nd}{i:Nat}{s:Int}(C:c.ns[i]? =some x)(hs:c.ss[i]? =some s)(m:x.op=9)(H:aH s=true)(g:cy c t M i)(h:c.ds.length<=100)(A:c.p.size<=100)(l:x.ks.length<=100)(v:∀k∈x.ks,∃s',KW c i k s'/\aH s'=false)(Q:M.N.length<=40000):
  Or (.call 27) [r0,I (i:Int)] [ab.box [AV.ref (Id.c 1) 0,AV.t (T.ad 3 c.ed (aJ c.ds)),AV.t (T.ad 5 c.en (aU c.ns)),AV.t (T.ad 1 c.eh (enc c.hs)),AV.t (T.str c.p),AV.t (T.ad 1 c.es (enc c.ss)),AV.own (Id.c 2),AV.own (Id.c 3)],ab.box [AV.own (Id.c 4),AV.own (Id.c 5)],ab.sl false 1 t.bits.isEmpty (bd t.bits),ab.sl false 1 t.to.isEmpty (enc t.to),ab.rows M.N.isEmpty 5 1 1 M.N.length (rows M.N),ab.mp false [Ck.s] (Ck.i .i64) (bR M.K)]=some [T.ad 1 false (enc (cM M (c.p++it (bc c.ds x.nm)++us) (x.ks.map (bh t)) 0 (s - 10).toNat).1),T.ak,T.ad 3 c.ed (aJ c.ds),T.ad 5 c.en (aU c.ns),T.ad 1 c.eh (enc c.hs),T.str c.p,T.ad 1 c.es (enc c.ss),T.ak,T.ak,RW ((cM M (c.p++it (bc c.ds x.nm)++us) (x.ks.map (bh t)) 0 (s - 10).toNat).2).N,T.ak,T.ad 1 t.bits.isEmpty (bd t.bits),T.ad 1 t.to.isEmpty (enc t.to),EM ((cM M (c.p++it (bc c.ds x.nm)++us) (x.ks.map (bh t)) 0 (s - 10).toNat).2).K]:=by
 have hl:=fv H;have F: 0<=(i:Int)/\(i:Int) < (c.ns.length:Int):=by have:=(Ls.1 C).1;omega
 have G: 0<=(i:Int)/\(i:Int) < (c.ss.length:Int):=by have:=(Ls.1 hs).1;omega
 have B:s - 10= ((s - 10).toNat:Int):=by omega
 have j:∀k∈x.ks,0<=k/\t.to[k.toNat]? =some (bh t k):=λk hm=>by obtain⟨s',e,q⟩:=v k hm;exact⟨e.h0,(e.plain g q).2.1⟩
 have r:∀y∈x.ks.map (bh t),In M y:=λy J=>by obtain⟨k,hm,rfl⟩:=L4.1 J;obtain⟨s',e,q⟩:=v k hm;exact(e.plain g q).2.2
 have b:Or mG [I (i:Int),AV.ref (Id.c 6) 0,AV.ref (Id.c 7) 0,AV.t (T.af true),AV.t (T.af true),ad x.ek x.ks,I (x.ks.length:Int),I 0] [ab.box [AV.ref (Id.c 1) 0,AV.t (T.ad 3 c.ed (aJ c.ds)),AV.t (T.ad 5 c.en (aU c.ns)),AV.t (T.ad 1 c.eh (enc c.hs)),AV.t (T.str c.p),AV.t (T.ad 1 c.es (enc c.ss)),AV.own (Id.c 2),AV.own (Id.c 3)],ab.box [AV.own (Id.c 4),AV.own (Id.c 5)],ab.sl false 1 t.bits.isEmpty (bd t.bits),ab.sl false 1 t.to.isEmpty (enc t.to),ab.rows M.N.isEmpty 5 1 1 M.N.length (rows M.N),ab.mp false [Ck.s] (Ck.i .i64) (bR M.K),ab.box [r0],ab.box [I x.op,ad x.ek x.ks,I x.n,I x.d,AV.t (T.str x.nm)]]=
   some [T.ad 1 false (enc (cM M (c.p++it (bc c.ds x.nm)++us) (x.ks.map (bh t)) 0 (s - 10).toNat).1),T.ak,T.ad 3 c.ed (aJ c.ds),T.ad 5 c.en (aU c.ns),T.ad 1 c.eh (enc c.hs),T.str c.p,T.ad 1 c.es (enc c.ss),T.ak,T.ak,RW ((cM M (c.p++it (bc c.ds x.nm)++us) (x.ks.map (bh t)) 0 (s - 10).toNat).2).N,T.ak,T.ad 1 t.bits.isEmpty (bd t.bits),T.ad 1 t.to.isEmpty (enc t.to),EM ((cM M (c.p++it (bc c.ds x.nm)++us) (x.ks.map (bh t)) 0 (s - 10).toNat).2).K]:=by
  cases a:x.ks with
  | nil=>
   have f:=HN (c:=c) (t:=t) (M:=M) (x:=x) (w:=(s - 10).toNat) h A (by omega) (by omega) g.ok (by omega);have P:i64.wrap (s - 10)= ((s - 10).toNat:Int):=by rw [wr (by omega)];omega
   rw [a] at f;refine ai ?_;rw [y8];simp only [aj,↓reduceIte,Int.reduceBEq,Int.reduceEq,LS,L9,Md,decide_false,G,and_self,aD,bJ hs,P];exact f
  | cons k u=>
   have z:x.ks.map (bh t)≠[]:=by rw [a];simp
   have f:=HM (c:=c) (t:=t) (M:=M) (x:=x) (w:=(s - 10).toNat) z h A (by omega) (by omega) (by simpa using l) g.ok r (by omega);obtain⟨R,D⟩:=j k (by rw [a];exact Lq);have L: 0<=k/\k < (t.to.length:Int):=by have:=(Ls.1 D).1;omega
   have o:=HP (c:=c) (t:=t) (M:=M) (x:=x) hs B (by omega) l j u 1 [bh t k] (by rw [a];rfl) (by rw [a];simp) rfl (by
    rw [a] at f⊢;exact f)
   have e:(0:Int) < (((k::u).length:Nat):Int):=by simp
   have h0:(0:Int)<=0:=by omega
   have E:(enc (k::u))[(0:Int).toNat]? =some [ti k]:=rfl;have O:i64.wrap (0+1)= ((1:Nat):Int):=by decide
   rw [a] at o;refine ai ?_;rw [y8];simp only [aj,↓reduceIte,Int.reduceBEq,Int.reduceEq,e,h0,and_self,aD,E,L,eC D,O];exact o
 refine ai ?_;rw [jT];simp (maxSteps:=1000000) only [aj,↓reduceIte,Int.reduceBEq,Int.reduceEq,F,and_self,cO,ef C,m,aD];rw [m] at b;exact b
theorem JB{c:Cx}{t:Tr}{M:Mk}{x:Nd}{i:Nat}{s:Int}(o:c.ns[i]? =some x)(l:x.op=17){d e:Int}(h:x.ks= [d,e])(q:KW c i d s)(r:KW c i e s)(n:aH s=true)(m:cy c t M i)(D:M.N.length<=40000):
  Or (.call 27) [r0,I (i:Int)] [ab.box [AV.ref (Id.c 1) 0,AV.t (T.ad 3 c.ed (aJ c.ds)),AV.t (T.ad 5 c.en (aU c.ns)),AV.t (T.ad 1 c.eh (enc c.hs)),AV.t (T.str c.p),AV.t (T.ad 1 c.es (enc c.ss)),AV.own (Id.c 2),AV.own (Id.c 3)],ab.box [AV.own (Id.c 4),AV.own (Id.c 5)],ab.sl false 1 t.bits.isEmpty (bd t.bits),ab.sl false 1 t.to.isEmpty (enc t.to),ab.rows M.N.isEmpty 5 1 1 M.N.length (rows M.N),ab.mp false [Ck.s] (Ck.i .i64) (bR M.K)]=some [T.ad 1 (aP bW M (aE t d) (aE t e)).1.isEmpty (enc (aP bW M (aE t d) (aE t e)).1),T.ak,T.ad 3 c.ed (aJ c.ds),T.ad 5 c.en (aU c.ns),T.ad 1 c.eh (enc c.hs),T.str c.p,T.ad 1 c.es (enc c.ss),T.ak,T.ak,RW ((aP bW M (aE t d) (aE t e)).2).N,T.ak,T.ad 1 t.bits.isEmpty (bd t.bits),T.ad 1 t.to.isEmpty (enc t.to),EM ((aP bW M (aE t d) (aE t e)).2).K]:=by
 have hl:=fv n;have z: 0<=(i:Int)/\(i:Int) < (c.ns.length:Int):=by have:=(Ls.1 o).1;omega
 obtain⟨u,B,v⟩:=q.word m n;obtain⟨w,C,y⟩:=r.word m n;have f:=ig (c:=c) (t:=t) (M:=M) (x:=x) (j:=0) (k:=d) (by rw [h];rfl) q.h0 u;have g:=ig (c:=c) (t:=t) (M:=M) (x:=x) (j:=1) (k:=e) (by rw [h];rfl) r.h0 w;rw [l] at f g;replace f:Or (.call 45) [I 0,r0,r1] _=_:=f;replace g:Or (.call 45) [I 1,r0,r1] _=_:=g;have A:=JU m.ok (ea:=(aE t d).isEmpty) (eb:=(aE t e).isEmpty) (a:=aE t d) (b:=aE t e) (by omega) (by omega) v y (by omega);refine ai ?_;rw [jT];simp (maxSteps:=1000000) only [aj,↓reduceIte,Int.reduceBEq,Int.reduceEq,z,and_self,cO,ef o,l,f,g,A,aT,aS,Lt,aR,aO,cI,cJ,cv];rfl
theorem JC{c:Cx}{t:Tr}{M:Mk}{x:Nd}{i:Nat}{s:Int}(o:c.ns[i]? =some x)(l:x.op=18){d e:Int}(h:x.ks= [d,e])(q:KW c i d s)(r:KW c i e s)(n:aH s=true)(m:cy c t M i)(D:M.N.length<=40000):
  Or (.call 27) [r0,I (i:Int)] [ab.box [AV.ref (Id.c 1) 0,AV.t (T.ad 3 c.ed (aJ c.ds)),AV.t (T.ad 5 c.en (aU c.ns)),AV.t (T.ad 1 c.eh (enc c.hs)),AV.t (T.str c.p),AV.t (T.ad 1 c.es (enc c.ss)),AV.own (Id.c 2),AV.own (Id.c 3)],ab.box [AV.own (Id.c 4),AV.own (Id.c 5)],ab.sl false 1 t.bits.isEmpty (bd t.bits),ab.sl false 1 t.to.isEmpty (enc t.to),ab.rows M.N.isEmpty 5 1 1 M.N.length (rows M.N),ab.mp false [Ck.s] (Ck.i .i64) (bR M.K)]=some [T.ad 1 (aP dI M (aE t d) (aE t e)).1.isEmpty (enc (aP dI M (aE t d) (aE t e)).1),T.ak,T.ad 3 c.ed (aJ c.ds),T.ad 5 c.en (aU c.ns),T.ad 1 c.eh (enc c.hs),T.str c.p,T.ad 1 c.es (enc c.ss),T.ak,T.ak,RW ((aP dI M (aE t d) (aE t e)).2).N,T.ak,T.ad 1 t.bits.isEmpty (bd t.bits),T.ad 1 t.to.isEmpty (enc t.to),EM ((aP dI M (aE t d) (aE t e)).2).K]:=by
 have hl:=fv n;have z: 0<=(i:Int)/\(i:Int) < (c.ns.length:Int):=by have:=(Ls.1 o).1;omega
 obtain⟨u,B,v⟩:=q.word m n;obtain⟨w,C,y⟩:=r.word m n;have f:=ig (c:=c) (t:=t) (M:=M) (x:=x) (j:=0) (k:=d) (by rw [h];rfl) q.h0 u;have g:=ig (c:=c) (t:=t) (M:=M) (x:=x) (j:=1) (k:=e) (by rw [h];rfl) r.h0 w;rw [l] at f g;replace f:Or (.call 45) [I 0,r0,r1] _=_:=f;replace g:Or (.call 45) [I 1,r0,r1] _=_:=g;have A:=JV m.ok (ea:=(aE t d).isEmpty) (eb:=(aE t e).isEmpty) (a:=aE t d) (b:=aE t e) (by omega) (by omega) v y (by omega);refine ai ?_;rw [jT];simp (maxSteps:=1000000) only [aj,↓reduceIte,Int.reduceBEq,Int.reduceEq,z,and_self,cO,ef o,l,f,g,A,aT,aS,Lt,aR,aO,cI,cJ,cv];rfl
theorem JD{c:Cx}{t:Tr}{M:Mk}{x:Nd}{i:Nat}{s:Int}(o:c.ns[i]? =some x)(l:x.op=19){d e:Int}(h:x.ks= [d,e])(q:KW c i d s)(r:KW c i e s)(n:aH s=true)(m:cy c t M i)(D:M.N.length<=40000):
  Or (.call 27) [r0,I (i:Int)] [ab.box [AV.ref (Id.c 1) 0,AV.t (T.ad 3 c.ed (aJ c.ds)),AV.t (T.ad 5 c.en (aU c.ns)),AV.t (T.ad 1 c.eh (enc c.hs)),AV.t (T.str c.p),AV.t (T.ad 1 c.es (enc c.ss)),AV.own (Id.c 2),AV.own (Id.c 3)],ab.box [AV.own (Id.c 4),AV.own (Id.c 5)],ab.sl false 1 t.bits.isEmpty (bd t.bits),ab.sl false 1 t.to.isEmpty (enc t.to),ab.rows M.N.isEmpty 5 1 1 M.N.length (rows M.N),ab.mp false [Ck.s] (Ck.i .i64) (bR M.K)]=some [T.ad 1 (aP bm M (aE t d) (aE t e)).1.isEmpty (enc (aP bm M (aE t d) (aE t e)).1),T.ak,T.ad 3 c.ed (aJ c.ds),T.ad 5 c.en (aU c.ns),T.ad 1 c.eh (enc c.hs),T.str c.p,T.ad 1 c.es (enc c.ss),T.ak,T.ak,RW ((aP bm M (aE t d) (aE t e)).2).N,T.ak,T.ad 1 t.bits.isEmpty (bd t.bits),T.ad 1 t.to.isEmpty (enc t.to),EM ((aP bm M (aE t d) (aE t e)).2).K]:=by
 have hl:=fv n;have z: 0<=(i:Int)/\(i:Int) < (c.ns.length:Int):=by have:=(Ls.1 o).1;omega
 obtain⟨u,B,v⟩:=q.word m n;obtain⟨w,C,y⟩:=r.word m n;have f:=ig (c:=c) (t:=t) (M:=M) (x:=x) (j:=0) (k:=d) (by rw [h];rfl) q.h0 u;have g:=ig (c:=c) (t:=t) (M:=M) (x:=x) (j:=1) (k:=e) (by rw [h];rfl) r.h0 w;rw [l] at f g;replace f:Or (.call 45) [I 0,r0,r1] _=_:=f;replace g:Or (.call 45) [I 1,r0,r1] _=_:=g;have A:=JW m.ok (ea:=(aE t d).isEmpty) (eb:=(aE t e).isEmpty) (a:=aE t d) (b:=aE t e) (by omega) (by omega) v y (by omega);refine ai ?_;rw [jT];simp (maxSteps:=1000000) only [aj,↓reduceIte,Int.reduceBEq,Int.reduceEq,z,and_self,cO,ef o,l,f,g,A,aT,aS,Lt,aR,aO,cI,cJ,cv];rfl
theorem JE{c:Cx}{t:Tr}{M:Mk}{x:Nd}{i:Nat}{s:Int}(o:c.ns[i]? =some x)(l:x.op=20){d e:Int}(h:x.ks= [d,e])(q:KW c i d s)(r:KW c i e s)(n:aH s=true)(m:cy c t M i)(D:M.N.length<=40000):
  Or (.call 27) [r0,I (i:Int)] [ab.box [AV.ref (Id.c 1) 0,AV.t (T.ad 3 c.ed (aJ c.ds)),AV.t (T.ad 5 c.en (aU c.ns)),AV.t (T.ad 1 c.eh (enc c.hs)),AV.t (T.str c.p),AV.t (T.ad 1 c.es (enc c.ss)),AV.own (Id.c 2),AV.own (Id.c 3)],ab.box [AV.own (Id.c 4),AV.own (Id.c 5)],ab.sl false 1 t.bits.isEmpty (bd t.bits),ab.sl false 1 t.to.isEmpty (enc t.to),ab.rows M.N.isEmpty 5 1 1 M.N.length (rows M.N),ab.mp false [Ck.s] (Ck.i .i64) (bR M.K)]=some [T.ad 1 (df M (aE t d) (aE t e)).1.isEmpty (enc (df M (aE t d) (aE t e)).1),T.ak,T.ad 3 c.ed (aJ c.ds),T.ad 5 c.en (aU c.ns),T.ad 1 c.eh (enc c.hs),T.str c.p,T.ad 1 c.es (enc c.ss),T.ak,T.ak,RW ((df M (aE t d) (aE t e)).2).N,T.ak,T.ad 1 t.bits.isEmpty (bd t.bits),T.ad 1 t.to.isEmpty (enc t.to),EM ((df M (aE t d) (aE t e)).2).K]:=by
 have hl:=fv n;have z: 0<=(i:Int)/\(i:Int) < (c.ns.length:Int):=by have:=(Ls.1 o).1;omega
 obtain⟨u,B,v⟩:=q.word m n;obtain⟨w,C,y⟩:=r.word m n;have f:=ig (c:=c) (t:=t) (M:=M) (x:=x) (j:=0) (k:=d) (by rw [h];rfl) q.h0 u;have g:=ig (c:=c) (t:=t) (M:=M) (x:=x) (j:=1) (k:=e) (by rw [h];rfl) r.h0 w;rw [l] at f g;replace f:Or (.call 45) [I 0,r0,r1] _=_:=f;replace g:Or (.call 45) [I 1,r0,r1] _=_:=g;have A:=CW m.ok (ea:=(aE t d).isEmpty) (eb:=(aE t e).isEmpty) (a:=aE t d) (b:=aE t e) (by omega) (by omega) v y (by omega);refine ai ?_;rw [jT];simp (maxSteps:=1000000) only [aj,↓reduceIte,Int.reduceBEq,Int.reduceEq,z,and_self,cO,ef o,l,f,g,A,aT,aS,Lt,aR,aO,cI,cJ,cv];rfl
theorem JF{c:Cx}{t:Tr}{M:Mk}{x:Nd}{i:Nat}{s:Int}(o:c.ns[i]? =some x)(l:x.op=21){d e:Int}(h:x.ks= [d,e])(q:KW c i d s)(r:KW c i e s)(n:aH s=true)(m:cy c t M i)(D:M.N.length<=40000):
  Or (.call 27) [r0,I (i:Int)] [ab.box [AV.ref (Id.c 1) 0,AV.t (T.ad 3 c.ed (aJ c.ds)),AV.t (T.ad 5 c.en (aU c.ns)),AV.t (T.ad 1 c.eh (enc c.hs)),AV.t (T.str c.p),AV.t (T.ad 1 c.es (enc c.ss)),AV.own (Id.c 2),AV.own (Id.c 3)],ab.box [AV.own (Id.c 4),AV.own (Id.c 5)],ab.sl false 1 t.bits.isEmpty (bd t.bits),ab.sl false 1 t.to.isEmpty (enc t.to),ab.rows M.N.isEmpty 5 1 1 M.N.length (rows M.N),ab.mp false [Ck.s] (Ck.i .i64) (bR M.K)]=some [T.ad 1 (ik M (aE t d) (aE t e)).1.isEmpty (enc (ik M (aE t d) (aE t e)).1),T.ak,T.ad 3 c.ed (aJ c.ds),T.ad 5 c.en (aU c.ns),T.ad 1 c.eh (enc c.hs),T.str c.p,T.ad 1 c.es (enc c.ss),T.ak,T.ak,RW ((ik M (aE t d) (aE t e)).2).N,T.ak,T.ad 1 t.bits.isEmpty (bd t.bits),T.ad 1 t.to.isEmpty (enc t.to),EM ((ik M (aE t d) (aE t e)).2).K]:=by
 have hl:=fv n;have z: 0<=(i:Int)/\(i:Int) < (c.ns.length:Int):=by have:=(Ls.1 o).1;omega
 obtain⟨u,B,v⟩:=q.word m n;obtain⟨w,C,y⟩:=r.word m n;have f:=ig (c:=c) (t:=t) (M:=M) (x:=x) (j:=0) (k:=d) (by rw [h];rfl) q.h0 u;have g:=ig (c:=c) (t:=t) (M:=M) (x:=x) (j:=1) (k:=e) (by rw [h];rfl) r.h0 w;rw [l] at f g;replace f:Or (.call 45) [I 0,r0,r1] _=_:=f;replace g:Or (.call 45) [I 1,r0,r1] _=_:=g;have A:=JY m.ok (ea:=(aE t d).isEmpty) (eb:=(aE t e).isEmpty) (a:=aE t d) (b:=aE t e) (by omega) (by omega) (by omega) v y (by omega);refine ai ?_;rw [jT];simp (maxSteps:=1000000) only [aj,↓reduceIte,Int.reduceBEq,Int.reduceEq,z,and_self,cO,ef o,l,f,g,A,aT,aS,Lt,aR,aO,cI,cJ,cv];rfl
theorem JG{c:Cx}{t:Tr}{M:Mk}{x:Nd}{i:Nat}{s:Int}(l:c.ns[i]? =some x)(e:x.op=23){b:Int}(f:x.ks= [b])(m:KW c i b s)(r: 0<=x.n/\x.n<=8)(h:aH s=true)(g:cy c t M i)(y:M.N.length<=40000):
  Or (.call 27) [r0,I (i:Int)] [ab.box [AV.ref (Id.c 1) 0,AV.t (T.ad 3 c.ed (aJ c.ds)),AV.t (T.ad 5 c.en (aU c.ns)),AV.t (T.ad 1 c.eh (enc c.hs)),AV.t (T.str c.p),AV.t (T.ad 1 c.es (enc c.ss)),AV.own (Id.c 2),AV.own (Id.c 3)],ab.box [AV.own (Id.c 4),AV.own (Id.c 5)],ab.sl false 1 t.bits.isEmpty (bd t.bits),ab.sl false 1 t.to.isEmpty (enc t.to),ab.rows M.N.isEmpty 5 1 1 M.N.length (rows M.N),ab.mp false [Ck.s] (Ck.i .i64) (bR M.K)]=some [T.ad 1 (bg M (aE t b) x.n).1.isEmpty (enc (bg M (aE t b) x.n).1),T.ak,T.ad 3 c.ed (aJ c.ds),T.ad 5 c.en (aU c.ns),T.ad 1 c.eh (enc c.hs),T.str c.p,T.ad 1 c.es (enc c.ss),T.ak,T.ak,RW ((bg M (aE t b) x.n).2).N,T.ak,T.ad 1 t.bits.isEmpty (bd t.bits),T.ad 1 t.to.isEmpty (enc t.to),EM ((bg M (aE t b) x.n).2).K]:=by
 have hl:=fv h;have q: 0<=(i:Int)/\(i:Int) < (c.ns.length:Int):=by have:=(Ls.1 l).1;omega
 obtain⟨o,v,w⟩:=m.word g h;have d:=ig (c:=c) (t:=t) (M:=M) (x:=x) (j:=0) (k:=b) (by rw [f];rfl) m.h0 o;rw [e] at d;replace d:Or (.call 45) [I 0,r0,r1] _=_:=d;have u:=xf g.ok (ea:=(aE t b).isEmpty) (a:=aE t b) (n:=x.n) r.1 (by omega) (by omega) (by omega);refine ai ?_;rw [jT];simp (maxSteps:=1000000) only [aj,↓reduceIte,Int.reduceBEq,Int.reduceEq,q,and_self,cO,ef l,e,d,u,aT,aS,Lt,aR,aO,cI,cJ,cv];rfl
theorem JH{c:Cx}{t:Tr}{M:Mk}{x:Nd}{i:Nat}{s s0:Int}(r:c.ns[i]? =some x)(n:x.op=7){d e f:Int}(g:x.ks= [d,e,f])(v:KW c i d s0)(q:aH s0=false)(w:KW c i e s)(y:KW c i f s)(o:aH s=true)(h:cy c t M i)(P:M.N.length<=40000):
  Or (.call 27) [r0,I (i:Int)] [ab.box [AV.ref (Id.c 1) 0,AV.t (T.ad 3 c.ed (aJ c.ds)),AV.t (T.ad 5 c.en (aU c.ns)),AV.t (T.ad 1 c.eh (enc c.hs)),AV.t (T.str c.p),AV.t (T.ad 1 c.es (enc c.ss)),AV.own (Id.c 2),AV.own (Id.c 3)],ab.box [AV.own (Id.c 4),AV.own (Id.c 5)],ab.sl false 1 t.bits.isEmpty (bd t.bits),ab.sl false 1 t.to.isEmpty (enc t.to),ab.rows M.N.isEmpty 5 1 1 M.N.length (rows M.N),ab.mp false [Ck.s] (Ck.i .i64) (bR M.K)]=some [T.ad 1 false (enc (aP (cG (bh t d)) M (aE t e) (aE t f)).1),T.ak,T.ad 3 c.ed (aJ c.ds),T.ad 5 c.en (aU c.ns),T.ad 1 c.eh (enc c.hs),T.str c.p,T.ad 1 c.es (enc c.ss),T.ak,T.ak,RW ((aP (cG (bh t d)) M (aE t e) (aE t f)).2).N,T.ak,T.ad 1 t.bits.isEmpty (bd t.bits),T.ad 1 t.to.isEmpty (enc t.to),EM ((aP (cG (bh t d)) M (aE t e) (aE t f)).2).K]:=by
 have hl:=fv o;have E: 0<=(i:Int)/\(i:Int) < (c.ns.length:Int):=by have:=(Ls.1 r).1;omega
 obtain⟨_,u,H⟩:=v.plain h q;obtain⟨z,L,A⟩:=w.word h o;obtain⟨B,O,C⟩:=y.word h o;have l:=ig (c:=c) (t:=t) (M:=M) (x:=x) (j:=1) (k:=e) (by rw [g];rfl) w.h0 z;have m:=ig (c:=c) (t:=t) (M:=M) (x:=x) (j:=2) (k:=f) (by rw [g];rfl) y.h0 B;rw [n] at l m;replace l:Or (.call 45) [I 1,r0,r1] _=_:=l;replace m:Or (.call 45) [I 2,r0,r1] _=_:=m;have J:=JT (c:=c) (t:=t) h.ok H (ea:=(aE t e).isEmpty) (eb:=(aE t f).isEmpty) (a:=aE t e) (b:=aE t f) (by omega) (by omega) (by omega) A C (by omega);have F:(0:Int)<=0/\(0:Int) < ((x.ks.length:Nat):Int):=by rw [g];simp
 have D:(enc x.ks)[0]? =some [ti d]:=by rw [g];rfl
 have G: 0<=d/\d < (t.to.length:Int):=by have:=(Ls.1 u).1;have:=v.h0;omega
 refine ai ?_;rw [jT];simp (maxSteps:=1000000) only [aj,↓reduceIte,Int.reduceBEq,Int.reduceEq,E,F,G,and_self,cO,ef r,n,aD,D,eC u,l,m,J,aT,aS,Lt,aR,aO,cI,cJ,cv];rfl
def iR(n:Int)(b:Nat):Bool:=i64.wrap (((BitVec.ofInt 64 (n.fdiv (2 ^ min ((b:Int)).toNat 64)) &&& BitVec.ofInt 64 1).toNat:Nat):Int)==1
def eB(M:Mk)(n:Int):Nat->Nat->List Int×Mk
 | _,0=>([],M)
 | b,k+1=>((cE M (iR n b)).1:: (eB (cE M (iR n b)).2 n (b+1) k).1,(eB (cE M (iR n b)).2 n (b+1) k).2)
theorem yw{n:Int}:∀{k b:Nat} {M:Mk},Ok M->Up M (eB M n b k).2 k/\(∀x∈(eB M n b k).1,In (eB M n b k).2 x)/\(eB M n b k).1.length=k
 | 0,b,M,h=>⟨Up.refl h,λx i=>(by cases i),rfl⟩
 | k+1,b,M,h=>by
  obtain⟨c,e⟩:=gZ h (iR n b);obtain⟨d,f,g⟩:=yw (n:=n) (k:=k) (b:=b+1) c.ok;refine⟨(c.trans d).mono (by omega),λz a=> ?_,by simp [eB,g]⟩;rcases LC.1 a with rfl | a
  .exact d.In e
  .exact f z a
theorem HO{c:Cx}{t:Tr}{x:Nd}{w:Nat}(v:w<=100):∀(k b:Nat) (M:Mk) (a:List Int),b+k=w->Ok M->M.N.length+k<=60000->a.length=b->
  Or mF [AV.ref (Id.c 6) 0,AV.ref (Id.c 7) 0,AV.own (Id.c 8),I (w:Int),I (b:Int)] [ab.box [AV.ref (Id.c 1) 0,AV.t (T.ad 3 c.ed (aJ c.ds)),AV.t (T.ad 5 c.en (aU c.ns)),AV.t (T.ad 1 c.eh (enc c.hs)),AV.t (T.str c.p),AV.t (T.ad 1 c.es (enc c.ss)),AV.own (Id.c 2),AV.own (Id.c 3)],ab.box [AV.own (Id.c 9),AV.own (Id.c 5)],ab.sl false 1 t.bits.isEmpty (bd t.bits),ab.sl false 1 t.to.isEmpty (enc t.to),ab.dead,ab.mp false [Ck.s] (Ck.i .i64) (bR M.K),ab.box [r0],ab.box [I x.op,ad x.ek x.ks,I x.n,I x.d,AV.t (T.str x.nm)],ab.sl false 1 false (enc a),ab.rows M.N.isEmpty 5 1 1 M.N.length (rows M.N)]=
   some [T.ad 1 false (enc (a++ (eB M x.n b k).1)),T.ak,T.ad 3 c.ed (aJ c.ds),T.ad 5 c.en (aU c.ns),T.ad 1 c.eh (enc c.hs),T.str c.p,T.ad 1 c.es (enc c.ss),T.ak,T.ak,RW ((eB M x.n b k).2).N,T.ak,T.ad 1 t.bits.isEmpty (bd t.bits),T.ad 1 t.to.isEmpty (enc t.to),EM ((eB M x.n b k).2).K]:=by
 intro k;induction k with
 | zero=>
  intro b M a o h m e;have f:¬(b:Int) < (w:Int):=by omega
  refine ai ?_;rw [y6];simp only [aj,↓reduceIte,Int.reduceBEq,Int.reduceEq,f,aT,aS,Lt,aR,aO,cI,cJ,cv,eB,LW];rfl
 | succ k q=>
  intro b M a o h m e;have f:(b:Int) < (w:Int):=by omega
  have l:¬(b:Int) < 0:=by omega
  have r:=ko (show M.N.length<=100000 by omega) (iR x.n b);obtain⟨j,y⟩:=gZ h (iR x.n b);have u:bq 8 (a.length+1)=some ():=cS (by omega);have g:=q (b+1) _ (a++ [(cE M (iR x.n b)).1]) (by omega) j.ok (by have:=j.up;omega) (by simp [e]);simp only [LV,LZ] at g;rw [eB];refine ai ?_;rw [y6];simp only [bK,bO,f,l,decide_true,cond_true,↓reduceIte];change aa none (Or (.call 50) [r0,B (iR x.n b)] _) _=_;simp only [aj,↓reduceIte,Int.reduceBEq,Int.reduceEq,r,aD,LG,u,next b (by omega),dS,aT,aS,Lt,aR,aO,cI,cJ,cv];exact g
theorem Jz{c:Cx}{t:Tr}{M:Mk}{x:Nd}{i:Nat}(f:c.ns[i]? =some x)(b:x.op=15)(y: 1<=x.d/\x.d<=8)(q:cy c t M i)(v:M.N.length<=40000):
  Or (.call 27) [r0,I (i:Int)] [ab.box [AV.ref (Id.c 1) 0,AV.t (T.ad 3 c.ed (aJ c.ds)),AV.t (T.ad 5 c.en (aU c.ns)),AV.t (T.ad 1 c.eh (enc c.hs)),AV.t (T.str c.p),AV.t (T.ad 1 c.es (enc c.ss)),AV.own (Id.c 2),AV.own (Id.c 3)],ab.box [AV.own (Id.c 4),AV.own (Id.c 5)],ab.sl false 1 t.bits.isEmpty (bd t.bits),ab.sl false 1 t.to.isEmpty (enc t.to),ab.rows M.N.isEmpty 5 1 1 M.N.length (rows M.N),ab.mp false [Ck.s] (Ck.i .i64) (bR M.K)]=some [T.ad 1 false (enc (eB M x.n 0 x.d.toNat).1),T.ak,T.ad 3 c.ed (aJ c.ds),T.ad 5 c.en (aU c.ns),T.ad 1 c.eh (enc c.hs),T.str c.p,T.ad 1 c.es (enc c.ss),T.ak,T.ak,RW ((eB M x.n 0 x.d.toNat).2).N,T.ak,T.ad 1 t.bits.isEmpty (bd t.bits),T.ad 1 t.to.isEmpty (enc t.to),EM ((eB M x.n 0 x.d.toNat).2).K]:=by
 have l: 0<=(i:Int)/\(i:Int) < (c.ns.length:Int):=by have:=(Ls.1 f).1;omega
 obtain⟨k,o⟩:∃k:Nat,x.d.toNat=k+1:=⟨x.d.toNat - 1,by omega⟩;have e:x.d= ((k+1:Nat):Int):=by omega
 have a:Or mF [AV.ref (Id.c 6) 0,AV.ref (Id.c 7) 0,AV.t (T.af true),I x.d,I 0] [ab.box [AV.ref (Id.c 1) 0,AV.t (T.ad 3 c.ed (aJ c.ds)),AV.t (T.ad 5 c.en (aU c.ns)),AV.t (T.ad 1 c.eh (enc c.hs)),AV.t (T.str c.p),AV.t (T.ad 1 c.es (enc c.ss)),AV.own (Id.c 2),AV.own (Id.c 3)],ab.box [AV.own (Id.c 4),AV.own (Id.c 5)],ab.sl false 1 t.bits.isEmpty (bd t.bits),ab.sl false 1 t.to.isEmpty (enc t.to),ab.rows M.N.isEmpty 5 1 1 M.N.length (rows M.N),ab.mp false [Ck.s] (Ck.i .i64) (bR M.K),ab.box [r0],ab.box [I x.op,ad x.ek x.ks,I x.n,I x.d,AV.t (T.str x.nm)]]=
   some [T.ad 1 false (enc (eB M x.n 0 (k+1)).1),T.ak,T.ad 3 c.ed (aJ c.ds),T.ad 5 c.en (aU c.ns),T.ad 1 c.eh (enc c.hs),T.str c.p,T.ad 1 c.es (enc c.ss),T.ak,T.ak,RW ((eB M x.n 0 (k+1)).2).N,T.ak,T.ad 1 t.bits.isEmpty (bd t.bits),T.ad 1 t.to.isEmpty (enc t.to),EM ((eB M x.n 0 (k+1)).2).K]:=by
  have j:(0:Int) < x.d:=by omega
  have m:¬(0:Int) < 0:=by omega
  have r:=ko (show M.N.length<=100000 by omega) (iR x.n 0);obtain⟨h,z⟩:=gZ q.ok (iR x.n 0);have u:i64.wrap (0+1)= ((1:Nat):Int):=by decide
  have g:=HO (c:=c) (t:=t) (x:=x) (w:=k+1) (by omega) k 1 _ [(cE M (iR x.n 0)).1] (by omega) h.ok (by have:=h.up;omega) rfl;rw [<-e] at g;rw [eB];refine ai ?_;rw [E6];simp only [bK,bO,j,m,decide_true,cond_true,↓reduceIte];change aa none (Or (.call 50) [r0,B (iR x.n 0)] _) _=_;simp only [aj,↓reduceIte,Int.reduceBEq,Int.reduceEq,r,u,aT,aS,Lt,aR,aO,cI,cJ,cv];exact g
 rw [o];refine ai ?_;rw [jT];simp (maxSteps:=1000000) only [aj,↓reduceIte,Int.reduceBEq,Int.reduceEq,l,and_self,cO,ef f,b];rw [b] at a;exact a
def eF(M:Mk):List Int->List Int×Mk
 | y::l=>((fy M y).1:: (eF (fy M y).2 l).1,(eF (fy M y).2 l).2)
 | []=>([],M)
theorem BP:∀{l:List Int} {M:Mk},Ok M->(∀y∈l,In M y)->
  Up M (eF M l).2 l.length/\(∀y∈(eF M l).1,In (eF M l).2 y)/\(eF M l).1.length=l.length
 | [],M,h,_=>⟨Up.refl h,λx g=>(by cases g),rfl⟩
 | y::l,M,h,hl=>by
  obtain⟨b,d⟩:=nB h (hl y Lq);obtain⟨c,e,f⟩:=BP (l:=l) b.ok (b.all λz a=>hl z (Lr _ a));refine⟨(b.trans c).mono (by rw [LD];omega),λz a=> ?_,by simp [eF,f]⟩;rcases LC.1 a with rfl | a
  .exact c.In d
  .exact e z a
theorem HQ{c:Cx}{t:Tr}{e:Bool}{l:List Int}(hl:l.length<=100):∀(r:List Int) (j:Nat) (M:Mk) (a:List Int),l.drop j=r->j<=l.length->Ok M->(∀y∈r,In M y)->M.N.length+r.length<=60000->a.length=j->
  Or nV [AV.ref (Id.c 6) 0,AV.own (Id.c 7),ad e l,I (l.length:Int),I (j:Int)] [ab.box [AV.ref (Id.c 1) 0,AV.t (T.ad 3 c.ed (aJ c.ds)),AV.t (T.ad 5 c.en (aU c.ns)),AV.t (T.ad 1 c.eh (enc c.hs)),AV.t (T.str c.p),AV.t (T.ad 1 c.es (enc c.ss)),AV.own (Id.c 2),AV.own (Id.c 3)],ab.box [AV.own (Id.c 8),AV.own (Id.c 5)],ab.sl false 1 t.bits.isEmpty (bd t.bits),ab.sl false 1 t.to.isEmpty (enc t.to),ab.dead,ab.mp false [Ck.s] (Ck.i .i64) (bR M.K),ab.box [r0],ab.sl false 1 false (enc a),ab.rows M.N.isEmpty 5 1 1 M.N.length (rows M.N)]=
   some [T.ad 1 false (enc (a++ (eF M r).1)),T.ak,T.ad 3 c.ed (aJ c.ds),T.ad 5 c.en (aU c.ns),T.ad 1 c.eh (enc c.hs),T.str c.p,T.ad 1 c.es (enc c.ss),T.ak,T.ak,RW ((eF M r).2).N,T.ak,T.ad 1 t.bits.isEmpty (bd t.bits),T.ad 1 t.to.isEmpty (enc t.to),EM ((eF M r).2).K]:=by
 intro r;induction r with
 | nil=>
  intro j M a g v h k n b;have f:¬(j:Int) < (l.length:Int):=by have:=br g;omega
  refine ai ?_;rw [y7];simp only [aj,↓reduceIte,Int.reduceBEq,Int.reduceEq,f,aT,aS,Lt,aR,aO,cI,cJ,cv,eF,LW];rfl
 | cons y r w=>
  intro j M a g v h k n b;obtain⟨q,B,u⟩:=bu g;have f:(j:Int) < (l.length:Int):=by omega
  have h0: 0<=(j:Int):=by omega
  have o:=k y Lq;rw [LD] at n;have x:=pk h (show M.N.length<=100000 by omega) o;obtain⟨m,C⟩:=nB h o;have A:bq 8 (a.length+1)=some ():=cS (by omega);have d:=w (j+1) _ (a++ [(fy M y).1]) u (by omega) m.ok (m.all λz d=>k z (Lr _ d)) (by have:=m.up;omega) (by simp [b]);simp only [LV,LZ] at d;rw [eF];refine ai ?_;rw [y7];simp only [aj,↓reduceIte,Int.reduceBEq,Int.reduceEq,f,h0,and_self,x,aD,bJ q,LG,A,next j (by omega),dS,aT,aS,Lt,aR,aO,cI,cJ,cv];exact d
theorem JA{c:Cx}{t:Tr}{M:Mk}{x:Nd}{i:Nat}{s:Int}(A:c.ns[i]? =some x)(h:x.op=16){a:Int}(u:x.ks= [a])(g:KW c i a s)(w:aH s=true)(n:cy c t M i)(G:M.N.length<=40000):
  Or (.call 27) [r0,I (i:Int)] [ab.box [AV.ref (Id.c 1) 0,AV.t (T.ad 3 c.ed (aJ c.ds)),AV.t (T.ad 5 c.en (aU c.ns)),AV.t (T.ad 1 c.eh (enc c.hs)),AV.t (T.str c.p),AV.t (T.ad 1 c.es (enc c.ss)),AV.own (Id.c 2),AV.own (Id.c 3)],ab.box [AV.own (Id.c 4),AV.own (Id.c 5)],ab.sl false 1 t.bits.isEmpty (bd t.bits),ab.sl false 1 t.to.isEmpty (enc t.to),ab.rows M.N.isEmpty 5 1 1 M.N.length (rows M.N),ab.mp false [Ck.s] (Ck.i .i64) (bR M.K)]=some [T.ad 1 false (enc (eF M (aE t a)).1),T.ak,T.ad 3 c.ed (aJ c.ds),T.ad 5 c.en (aU c.ns),T.ad 1 c.eh (enc c.hs),T.str c.p,T.ad 1 c.es (enc c.ss),T.ak,T.ak,RW ((eF M (aE t a)).2).N,T.ak,T.ad 1 t.bits.isEmpty (bd t.bits),T.ad 1 t.to.isEmpty (enc t.to),EM ((eF M (aE t a)).2).K]:=by
 have hl:=fv w;have F: 0<=(i:Int)/\(i:Int) < (c.ns.length:Int):=by have:=(Ls.1 A).1;omega
 obtain⟨C,m,b⟩:=g.word n w;have f:=ig (c:=c) (t:=t) (M:=M) (x:=x) (j:=0) (k:=a) (by rw [u];rfl) g.h0 C;rw [h] at f;replace f:Or (.call 45) [I 0,r0,r1] _=_:=f
 have d:Or nV [AV.ref (Id.c 6) 0,AV.t (T.af true),ad (aE t a).isEmpty (aE t a),I ((aE t a).length:Int),I 0] [ab.box [AV.ref (Id.c 1) 0,AV.t (T.ad 3 c.ed (aJ c.ds)),AV.t (T.ad 5 c.en (aU c.ns)),AV.t (T.ad 1 c.eh (enc c.hs)),AV.t (T.str c.p),AV.t (T.ad 1 c.es (enc c.ss)),AV.own (Id.c 2),AV.own (Id.c 3)],ab.box [AV.own (Id.c 7),AV.own (Id.c 5)],ab.sl false 1 t.bits.isEmpty (bd t.bits),ab.sl false 1 t.to.isEmpty (enc t.to),ab.dead,ab.mp false [Ck.s] (Ck.i .i64) (bR M.K),ab.box [r0],ab.rows M.N.isEmpty 5 1 1 M.N.length (rows M.N)]=
   some [T.ad 1 false (enc (eF M (aE t a)).1),T.ak,T.ad 3 c.ed (aJ c.ds),T.ad 5 c.en (aU c.ns),T.ad 1 c.eh (enc c.hs),T.str c.p,T.ad 1 c.es (enc c.ss),T.ak,T.ak,RW ((eF M (aE t a)).2).N,T.ak,T.ad 1 t.bits.isEmpty (bd t.bits),T.ad 1 t.to.isEmpty (enc t.to),EM ((eF M (aE t a)).2).K]:=by
  revert m b;generalize aE t a=l;intro m b;cases l with
  | nil=>simp at m;omega
  | cons y r=>
   have B:=b y Lq;have a:=pk n.ok (show M.N.length<=100000 by omega) B;obtain⟨q,H⟩:=nB n.ok B;have E:(0:Int) < (((y::r).length:Nat):Int):=by simp
   have h0:(0:Int)<=0:=by omega
   have D:(enc (y::r))[(0:Int).toNat]? =some [ti y]:=rfl;have g:i64.wrap (0+1)= ((1:Nat):Int):=by decide
   have v:((y::r).length:Int)<=8:=by omega
   have o:=HQ (c:=c) (t:=t) (e:=(y::r).isEmpty) (l:=y::r) (by omega) r 1 _ [(fy M y).1] rfl (by simp) q.ok (q.all λz o=>b z (Lr _ o)) (by have:=q.up;rw [LD] at v;omega) rfl;rw [eF];refine ai ?_;rw [E7];simp only [aj,↓reduceIte,Int.reduceBEq,Int.reduceEq,E,h0,and_self,a,aD,D,g,aT,aS,Lt,aR,aO,cI,cJ,cv];exact o
 refine ai ?_;rw [jT];simp (maxSteps:=1000000) only [aj,↓reduceIte,Int.reduceBEq,Int.reduceEq,F,and_self,cO,ef A,h,f,aD,aT,aS,Lt,aR,aO,cI,cJ,cv];exact d
open Go Go.Aev Go.IntKind
def iP(M:Mk)(a:Int):List Int->Int×Mk
 | []=>(a,M)
 | y::l=>iP (bW M a y).2 (bW M a y).1 l
theorem xO:∀{l:List Int} {M:Mk} {a:Int},Ok M->In M a->(∀y∈l,In M y)->Up M (iP M a l).2 l.length/\In (iP M a l).2 (iP M a l).1
 | [],M,a,h,c,_=>⟨Up.refl h,c⟩
 | y::l,M,a,h,c,hl=>by obtain⟨b,d⟩:=fE h c (hl y Lq);obtain⟨e,f⟩:=xO (l:=l) b.ok d (b.all λz g=>hl z (Lr _ g));exact⟨(b.trans e).mono (by rw [LD];omega),f⟩
def mr(M:Mk)(a b:List Int):Int×Mk:=
 iP (aP du (cE M true).2 a b).2 (cE M true).1 (aP du (cE M true).2 a b).1
theorem Kw{M:Mk}(h:Ok M){a b:List Int}(j:a.length=b.length)(g:∀x∈a,In M x)(i:∀x∈b,In M x):Up M (mr M a b).2 (1+ (1 * a.length+a.length))/\In (mr M a b).2 (mr M a b).1:=by obtain⟨d,o⟩:=gZ h true;obtain⟨e,l,m⟩:=oE (f:=du) (c:=1) (λM a b h g i=>nu h g i) d.ok (d.all g) (d.all i) j;obtain⟨k,n⟩:=xO e.ok (e.In o) l;rw [m] at k;exact⟨d.trans (e.trans k),n⟩
theorem HR{c:Cx}{t:Tr}{e:Bool}{l:List Int}(hl:l.length<=100):∀(r:List Int) (j:Nat) (M:Mk) (a:Int),l.drop j=r->Ok M->In M a->(∀y∈r,In M y)->M.N.length+r.length<=60000->
  Or tZ [r0,I a,ad e l,I (l.length:Int),I (j:Int)] [ab.box [AV.ref (Id.c 1) 0,AV.t (T.ad 3 c.ed (aJ c.ds)),AV.t (T.ad 5 c.en (aU c.ns)),AV.t (T.ad 1 c.eh (enc c.hs)),AV.t (T.str c.p),AV.t (T.ad 1 c.es (enc c.ss)),AV.own (Id.c 2),AV.own (Id.c 3)],ab.box [AV.own (Id.c 6),AV.own (Id.c 5)],ab.sl false 1 t.bits.isEmpty (bd t.bits),ab.sl false 1 t.to.isEmpty (enc t.to),ab.dead,ab.mp false [Ck.s] (Ck.i .i64) (bR M.K),ab.rows M.N.isEmpty 5 1 1 M.N.length (rows M.N)]=some [ti (iP M a r).1,T.ak,T.ad 3 c.ed (aJ c.ds),T.ad 5 c.en (aU c.ns),T.ad 1 c.eh (enc c.hs),T.str c.p,T.ad 1 c.es (enc c.ss),T.ak,T.ak,RW ((iP M a r).2).N,T.ak,T.ad 1 t.bits.isEmpty (bd t.bits),T.ad 1 t.to.isEmpty (enc t.to),EM ((iP M a r).2).K]:=by
 intro r;induction r with
 | nil=>
  intro j M a g h d f n;have b:¬(j:Int) < (l.length:Int):=by have:=br g;omega
  refine ai ?_;rw [zd];simp only [aj,↓reduceIte,Int.reduceBEq,Int.reduceEq,b,aT,aS,Lt,aR,aO,cI,cJ,cv,iP];rfl
 | cons y r v=>
  intro j M a g h d f n;obtain⟨q,A,u⟩:=bu g;have b:(j:Int) < (l.length:Int):=by omega
  have h0: 0<=(j:Int):=by omega
  have o:=f y Lq;rw [LD] at n;have w:=jH (show M.N.length<=100000 by omega) d o;obtain⟨m,x⟩:=fE h d o;have k:=v (j+1) _ _ u m.ok x (m.all λz k=>f z (Lr _ k)) (by have:=m.up;omega);rw [iP];refine ai ?_;rw [zd];simp only [aj,↓reduceIte,Int.reduceBEq,Int.reduceEq,b,h0,and_self,w,aD,bJ q,next j (by omega),aT,aS,Lt,aR,aO,cI,cJ,cv];exact k
theorem JJ{c:Cx}{t:Tr}{M:Mk}{x:Nd}{i:Nat}{s:Int}(m:c.ns[i]? =some x)(l:x.op=22){d e:Int}(f:x.ks= [d,e])(n:KW c i d s)(o:KW c i e s)(h:aH s=true)(g:cy c t M i)(H:M.N.length<=40000):
  Or (.call 28) [r0,I (i:Int)] [ab.box [AV.ref (Id.c 1) 0,AV.t (T.ad 3 c.ed (aJ c.ds)),AV.t (T.ad 5 c.en (aU c.ns)),AV.t (T.ad 1 c.eh (enc c.hs)),AV.t (T.str c.p),AV.t (T.ad 1 c.es (enc c.ss)),AV.own (Id.c 2),AV.own (Id.c 3)],ab.box [AV.own (Id.c 4),AV.own (Id.c 5)],ab.sl false 1 t.bits.isEmpty (bd t.bits),ab.sl false 1 t.to.isEmpty (enc t.to),ab.rows M.N.isEmpty 5 1 1 M.N.length (rows M.N),ab.mp false [Ck.s] (Ck.i .i64) (bR M.K)]=some [ti (jx M (aE t d) (aE t e)).1,T.ak,T.ad 3 c.ed (aJ c.ds),T.ad 5 c.en (aU c.ns),T.ad 1 c.eh (enc c.hs),T.str c.p,T.ad 1 c.es (enc c.ss),T.ak,T.ak,RW ((jx M (aE t d) (aE t e)).2).N,T.ak,T.ad 1 t.bits.isEmpty (bd t.bits),T.ad 1 t.to.isEmpty (enc t.to),EM ((jx M (aE t d) (aE t e)).2).K]:=by
 have hl:=fv h;have z: 0<=(i:Int)/\(i:Int) < (c.ns.length:Int):=by have:=(Ls.1 m).1;omega
 obtain⟨j,F,q⟩:=n.word g h;obtain⟨k,G,r⟩:=o.word g h;have E:=(CX g.ok (ea:=(aE t d).isEmpty) (eb:=(aE t e).isEmpty) (a:=aE t d) (b:=aE t e) (by omega) (by omega) q r (by omega)).1;have A:(0:Int)<=0/\(0:Int) < ((x.ks.length:Nat):Int):=by rw [f];simp
 have B:(0:Int)<=1/\(1:Int) < ((x.ks.length:Nat):Int):=by rw [f];simp
 have w:(enc x.ks)[0]? =some [ti d]:=by rw [f];rfl
 have y:(enc x.ks)[1]? =some [ti e]:=by rw [f];rfl
 have C: 0<=d/\d < (t.bits.length:Int):=by have:=(Ls.1 j).1;have:=n.h0;omega
 have D: 0<=e/\e < (t.bits.length:Int):=by have:=(Ls.1 k).1;have:=o.h0;omega
 have u:(bd t.bits)[d.toNat]? =some [LO (aE t d)]:=by simp [bd,j]
 have v:(bd t.bits)[e.toNat]? =some [LO (aE t e)]:=by simp [bd,k]
 refine ai ?_;rw [sd];simp (maxSteps:=1000000) only [aj,↓reduceIte,Int.reduceBEq,Int.reduceEq,z,A,B,and_self,cO,ef m,l,aD,w,y,C,D,lS,u,v,E,aT,aS,Lt,aR,aO,cI,cJ,cv];rfl
theorem JK{c:Cx}{t:Tr}{M:Mk}{x:Nd}{i:Nat}{s:Int}(z:c.ns[i]? =some x)(y:x.op=8){d g:Int}(k:x.ks= [d,g])(C:KW c i d s)(D:KW c i g s)(o:aH s=true)(n:cy c t M i)(hM:M.N.length<=40000):
  Or (.call 28) [r0,I (i:Int)] [ab.box [AV.ref (Id.c 1) 0,AV.t (T.ad 3 c.ed (aJ c.ds)),AV.t (T.ad 5 c.en (aU c.ns)),AV.t (T.ad 1 c.eh (enc c.hs)),AV.t (T.str c.p),AV.t (T.ad 1 c.es (enc c.ss)),AV.own (Id.c 2),AV.own (Id.c 3)],ab.box [AV.own (Id.c 4),AV.own (Id.c 5)],ab.sl false 1 t.bits.isEmpty (bd t.bits),ab.sl false 1 t.to.isEmpty (enc t.to),ab.rows M.N.isEmpty 5 1 1 M.N.length (rows M.N),ab.mp false [Ck.s] (Ck.i .i64) (bR M.K)]=some [ti (mr M (aE t d) (aE t g)).1,T.ak,T.ad 3 c.ed (aJ c.ds),T.ad 5 c.en (aU c.ns),T.ad 1 c.eh (enc c.hs),T.str c.p,T.ad 1 c.es (enc c.ss),T.ak,T.ak,RW ((mr M (aE t d) (aE t g)).2).N,T.ak,T.ad 1 t.bits.isEmpty (bd t.bits),T.ad 1 t.to.isEmpty (enc t.to),EM ((mr M (aE t d) (aE t g)).2).K]:=by
 have hl:=fv o;have L: 0<=(i:Int)/\(i:Int) < (c.ns.length:Int):=by have:=(Ls.1 z).1;omega
 obtain⟨q,r,u⟩:=C.word n o;obtain⟨v,Y,w⟩:=D.word n o;obtain⟨j,X⟩:=gZ n.ok true;have V:=ko (show M.N.length<=100000 by omega) true;have B:=JX j.ok (ea:=(aE t d).isEmpty) (eb:=(aE t g).isEmpty) (a:=aE t d) (b:=aE t g) (by omega) (by omega) (j.all u) (j.all w) (by have:=j.up;omega);obtain⟨m,E,Z⟩:=oE (f:=du) (c:=1) (λM a b h Q R=>nu h Q R) j.ok (j.all u) (j.all w) (show(aE t d).length= (aE t g).length by omega);have W:=HR (c:=c) (t:=t) (e:=(aP du (cE M true).2 (aE t d) (aE t g)).1.isEmpty) (l:=(aP du (cE M true).2 (aE t d) (aE t g)).1) (by omega) (aP du (cE M true).2 (aE t d) (aE t g)).1 0 _ _ rfl m.ok (m.In X) E (by have:=j.up;have:=m.up;omega);have O:(0:Int)<=0/\(0:Int) < ((x.ks.length:Nat):Int):=by rw [k];simp
 have P:(0:Int)<=1/\(1:Int) < ((x.ks.length:Nat):Int):=by rw [k];simp
 have H:(enc x.ks)[0]? =some [ti d]:=by rw [k];rfl
 have J:(enc x.ks)[1]? =some [ti g]:=by rw [k];rfl
 have S: 0<=d/\d < (t.bits.length:Int):=by have:=(Ls.1 q).1;have:=C.h0;omega
 have U: 0<=g/\g < (t.bits.length:Int):=by have:=(Ls.1 v).1;have:=D.h0;omega
 have F:(bd t.bits)[d.toNat]? =some [LO (aE t d)]:=by simp [bd,q]
 have G:(bd t.bits)[g.toNat]? =some [LO (aE t g)]:=by simp [bd,v]
 have A:(aE t d).isEmpty=false:=by
  cases h:aE t d with
  | nil=>rw [h] at r;simp at r;omega
  | cons=>rfl
 rw [A] at B;refine ai ?_;rw [sd];simp (maxSteps:=1000000) only [aj,↓reduceIte,Int.reduceBEq,Int.reduceEq,L,O,P,and_self,cO,ef z,y,aD,H,J,S,U,lS,F,G,V,B,A,Lx,aT,aS,Lt,aR,aO,cI,cJ,cv];exact W
theorem HT{c:Cx}{t:Tr}{M:Mk}{x:Nd}(h:Ok M)(J:M.N.length<=50000)(G:x.ks.length<=100)(m:∀k∈x.ks,0<=k/\t.to[k.toNat]? =some (bh t k)/\In M (bh t k))(ho:dL x.op)(B:dL x.n)(z:dL x.d)(hm:x.nm.size<=1000):∀(f:List Int) (j:Nat) (a:List Int),x.ks.drop j=f->j<=x.ks.length->a.length=j->a≠[]->a++f.map (bh t)=x.ks.map (bh t)->
  Or mH [r0,AV.ref (Id.c 6) 0,AV.own (Id.c 7),ad x.ek x.ks,I (x.ks.length:Int),I (j:Int)] [ab.box [AV.ref (Id.c 1) 0,AV.t (T.ad 3 c.ed (aJ c.ds)),AV.t (T.ad 5 c.en (aU c.ns)),AV.t (T.ad 1 c.eh (enc c.hs)),AV.t (T.str c.p),AV.t (T.ad 1 c.es (enc c.ss)),AV.own (Id.c 2),AV.own (Id.c 3)],ab.box [AV.own (Id.c 4),AV.own (Id.c 5)],ab.sl false 1 t.bits.isEmpty (bd t.bits),ab.sl false 1 t.to.isEmpty (enc t.to),ab.rows M.N.isEmpty 5 1 1 M.N.length (rows M.N),ab.mp false [Ck.s] (Ck.i .i64) (bR M.K),ab.box [I x.op,ad x.ek x.ks,I x.n,I x.d,AV.t (T.str x.nm)],ab.sl false 1 false (enc a)]=some [ti (cR M x.op x.nm x.n x.d (x.ks.map (bh t))).1,T.ak,T.ad 3 c.ed (aJ c.ds),T.ad 5 c.en (aU c.ns),T.ad 1 c.eh (enc c.hs),T.str c.p,T.ad 1 c.es (enc c.ss),T.ak,T.ak,RW ((cR M x.op x.nm x.n x.d (x.ks.map (bh t))).2).N,T.ak,T.ad 1 t.bits.isEmpty (bd t.bits),T.ad 1 t.to.isEmpty (enc t.to),EM ((cR M x.op x.nm x.n x.d (x.ks.map (bh t))).2).K]:=by
 intro f;induction f with
 | nil=>
  intro j a g A b o e;have q:¬(j:Int) < (x.ks.length:Int):=by have:=br g;omega
  rw [MD,LW] at e;have u:false=a.isEmpty:=by cases a with
   | nil=>exact absurd rfl o
   | cons=>rfl
  have l:=iI M (show M.N.length<=100000 by omega) x.op x.nm x.n x.d a false u (λy v=>by
   rw [e] at v;obtain⟨k,hm,rfl⟩:=L4.1 v;exact(m k hm).2.2.i64 (by omega)) (by omega) ho B z (by omega)
  rw [<-e];refine ai ?_;rw [zb];simp only [aj,↓reduceIte,Int.reduceBEq,Int.reduceEq,q,l,aT,aS,Lt,aR,aO,cI,cJ,cv];rfl
 | cons k f D=>
  intro j a g A b o e;obtain⟨r,H,w⟩:=bu g;have q:(j:Int) < (x.ks.length:Int):=by omega
  have h0: 0<=(j:Int):=by omega
  obtain⟨L,l,_⟩:=m k (LB r);have E: 0<=k/\k < (t.to.length:Int):=by have:=(Ls.1 l).1;omega
  have F:bq 8 (a.length+1)=some ():=cS (by omega);have C:=D (j+1) (a++ [bh t k]) w (by omega) (by simp [b]) (by simp) (by rw [<-e];simp);refine ai ?_;rw [zb];simp only [aj,↓reduceIte,Int.reduceBEq,Int.reduceEq,q,h0,and_self,aD,bJ r,E,eC l,LG,F,next j (by omega),dS];exact C
theorem CT{c:Cx}{t:Tr}{M:Mk}{x:Nd}{i:Nat}(q:c.ns[i]? =some x)(g:x.op≠22)(O:x.op=8->∃a r,x.ks=a::r)(o:cy c t M i)(U:M.N.length<=40000)(B:x.ks.length<=100)(A:∀k∈x.ks,∃s',KW c i k s'/\aH s'=false)(ho:dL x.op)(C:dL x.n)(z:dL x.d)(hm:x.nm.size<=1000):
  Or (.call 28) [r0,I (i:Int)] [ab.box [AV.ref (Id.c 1) 0,AV.t (T.ad 3 c.ed (aJ c.ds)),AV.t (T.ad 5 c.en (aU c.ns)),AV.t (T.ad 1 c.eh (enc c.hs)),AV.t (T.str c.p),AV.t (T.ad 1 c.es (enc c.ss)),AV.own (Id.c 2),AV.own (Id.c 3)],ab.box [AV.own (Id.c 4),AV.own (Id.c 5)],ab.sl false 1 t.bits.isEmpty (bd t.bits),ab.sl false 1 t.to.isEmpty (enc t.to),ab.rows M.N.isEmpty 5 1 1 M.N.length (rows M.N),ab.mp false [Ck.s] (Ck.i .i64) (bR M.K)]=some [ti (cR M x.op x.nm x.n x.d (x.ks.map (bh t))).1,T.ak,T.ad 3 c.ed (aJ c.ds),T.ad 5 c.en (aU c.ns),T.ad 1 c.eh (enc c.hs),T.str c.p,T.ad 1 c.es (enc c.ss),T.ak,T.ak,RW ((cR M x.op x.nm x.n x.d (x.ks.map (bh t))).2).N,T.ak,T.ad 1 t.bits.isEmpty (bd t.bits),T.ad 1 t.to.isEmpty (enc t.to),EM ((cR M x.op x.nm x.n x.d (x.ks.map (bh t))).2).K]:=by
 have w: 0<=(i:Int)/\(i:Int) < (c.ns.length:Int):=by have:=(Ls.1 q).1;omega
 have m:∀k∈x.ks,0<=k/\t.to[k.toNat]? =some (bh t k)/\In M (bh t k):=λk hm=>by obtain⟨s',h,L⟩:=A k hm;exact⟨h.h0,(h.plain o L).2⟩
 have b:Or mH [r0,AV.ref (Id.c 6) 0,AV.t (T.af true),ad x.ek x.ks,I (x.ks.length:Int),I 0] [ab.box [AV.ref (Id.c 1) 0,AV.t (T.ad 3 c.ed (aJ c.ds)),AV.t (T.ad 5 c.en (aU c.ns)),AV.t (T.ad 1 c.eh (enc c.hs)),AV.t (T.str c.p),AV.t (T.ad 1 c.es (enc c.ss)),AV.own (Id.c 2),AV.own (Id.c 3)],ab.box [AV.own (Id.c 4),AV.own (Id.c 5)],ab.sl false 1 t.bits.isEmpty (bd t.bits),ab.sl false 1 t.to.isEmpty (enc t.to),ab.rows M.N.isEmpty 5 1 1 M.N.length (rows M.N),ab.mp false [Ck.s] (Ck.i .i64) (bR M.K),ab.box [I x.op,ad x.ek x.ks,I x.n,I x.d,AV.t (T.str x.nm)]]=some [ti (cR M x.op x.nm x.n x.d (x.ks.map (bh t))).1,T.ak,T.ad 3 c.ed (aJ c.ds),T.ad 5 c.en (aU c.ns),T.ad 1 c.eh (enc c.hs),T.str c.p,T.ad 1 c.es (enc c.ss),T.ak,T.ak,RW ((cR M x.op x.nm x.n x.d (x.ks.map (bh t))).2).N,T.ak,T.ad 1 t.bits.isEmpty (bd t.bits),T.ad 1 t.to.isEmpty (enc t.to),EM ((cR M x.op x.nm x.n x.d (x.ks.map (bh t))).2).K]:=by
  cases e:x.ks with
  | nil=>have a:=iI M (show M.N.length<=100000 by omega) x.op x.nm x.n x.d [] true rfl (λy P=>by cases P) (by simp) ho C z (by omega);replace a:Or (.call 46) [r0,I x.op,AV.t (T.str x.nm),I x.n,I x.d,AV.t (T.ad 1 true [])] (cW M)=_:=a;refine ai ?_;rw [za];simp only [aj,↓reduceIte,Int.reduceBEq,Int.reduceEq,LS,L9,Md,decide_false,a,aT,aS,Lt,aR,aO,cI,cJ,cv];rfl
  | cons k u=>
   obtain⟨V,a,_⟩:=m k (by rw [e];exact Lq);have Q: 0<=k/\k < (t.to.length:Int):=by have:=(Ls.1 a).1;omega
   have D:=HT (c:=c) (t:=t) (M:=M) (x:=x) o.ok (by omega) B m ho C z hm u 1 [bh t k] (by rw [e];rfl) (by rw [e];simp) rfl (by simp) (by rw [e];rfl);have h:(0:Int) < (((k::u).length:Nat):Int):=by simp
   have h0:(0:Int)<=0:=by omega
   have H:(enc (k::u))[(0:Int).toNat]? =some [ti k]:=rfl;have j:i64.wrap (0+1)= ((1:Nat):Int):=by decide
   rw [e] at D;refine ai ?_;rw [za];simp only [aj,↓reduceIte,Int.reduceBEq,Int.reduceEq,h,h0,and_self,aD,H,Q,eC a,j];exact D
 have l:(x.op==22)=false:=by simpa using g
 by_cases c8:x.op=8
 .obtain⟨a,r,f⟩:=O c8;have J:(0:Int)<=0/\(0:Int) < ((x.ks.length:Nat):Int):=by rw [f];simp
  have G:(enc x.ks)[0]? =some [ti a]:=by rw [f];rfl
  obtain⟨s',j,S⟩:=A a (by rw [f];exact Lq);obtain⟨v,_⟩:=j.plain o S;have R: 0<=a/\a < (t.bits.length:Int):=by have:=(Ls.1 v).1;have:=j.h0;omega
  have F:(bd t.bits)[a.toNat]? =some [LO []]:=by simp [bd,v]
  refine ai ?_;rw [sd];simp (maxSteps:=1000000) only [aj,↓reduceIte,Int.reduceBEq,Int.reduceEq,w,J,and_self,cO,ef q,c8,l,g,aD,G,R,lS,F,cv,Oy,Lv];rw [c8] at b;exact b
 .have E:(x.op==8)=false:=by simpa using c8
  refine ai ?_;rw [sd];simp (maxSteps:=1000000) only [aj,↓reduceIte,Int.reduceBEq,Int.reduceEq,w,and_self,cO,ef q,l,E,g,c8,bo,aD];exact b
structure nZ (c:Cx) (i:Nat) (x:Nd) (s:Int):Prop where
 op: 1<=x.op/\x.op<=25
 kl:x.ks.length<=8
 n: -1000000<=x.n/\x.n<=1000000
 d: -1000000<=x.d/\x.d<=1000000
 nm:x.nm.size<=12
 k:∀k∈x.ks,∃s',KW c i k s'
 c3:x.op=3->∃k r,x.ks=k::r
 c7:x.op=7->∃a b d,x.ks= [a,b,d]/\KW c i a 1/\KW c i b s/\KW c i d s
 c8:x.op=8->aH s=false/\∃a b s',x.ks= [a,b]/\((aH s'=true/\KW c i a s'/\KW c i b s')\/∀k∈x.ks,∃s',KW c i k s'/\aH s'=false)
 fq:x.op=15->x.ks= []/\1<=x.d/\x.d<=8/\0<=x.n/\x.n < 2 ^ x.d.toNat/\s=10+x.d
 eA:x.op=16\/x.op=23->aH s=true/\∃a,x.ks= [a]/\KW c i a s
 fO: 17<=x.op->x.op<=21->aH s=true/\∃a b,x.ks= [a,b]/\KW c i a s/\KW c i b s
 dZ:x.op=22->aH s=false/\∃a b s',aH s'=true/\x.ks= [a,b]/\KW c i a s'/\KW c i b s'
 bn:x.op=23->0<=x.n/\x.n<=8
 pl:x.op≠7->x.op≠8->(x.op < 15\/24<=x.op)->(x.op≠9->aH s=false)/\∀k∈x.ks,∃s',KW c i k s'/\aH s'=false
def eO(c:Cx)(t:Tr)(M:Mk)(x:Nd)(s:Int):List Int×Mk:=
 if x.op=9 then cM M (c.p++it (bc c.ds x.nm)++us) (x.ks.map (bh t)) 0 (s - 10).toNat
 else if x.op=7 then aP (cG (bh t (x.ks.getD 0 0))) M (aE t (x.ks.getD 1 0)) (aE t (x.ks.getD 2 0))
 else if x.op=15 then eB M x.n 0 x.d.toNat
 else if x.op=16 then eF M (aE t (x.ks.getD 0 0))
 else if x.op=17 then aP bW M (aE t (x.ks.getD 0 0)) (aE t (x.ks.getD 1 0))
 else if x.op=18 then aP dI M (aE t (x.ks.getD 0 0)) (aE t (x.ks.getD 1 0))
 else if x.op=19 then aP bm M (aE t (x.ks.getD 0 0)) (aE t (x.ks.getD 1 0))
 else if x.op=20 then df M (aE t (x.ks.getD 0 0)) (aE t (x.ks.getD 1 0))
 else if x.op=21 then ik M (aE t (x.ks.getD 0 0)) (aE t (x.ks.getD 1 0))
 else bg M (aE t (x.ks.getD 0 0)) x.n
def fB(t:Tr)(M:Mk)(x:Nd):Int×Mk:=
 if x.op=22 then jx M (aE t (x.ks.getD 0 0)) (aE t (x.ks.getD 1 0))
 else if x.op=8/\(aE t (x.ks.getD 0 0)).isEmpty=false then mr M (aE t (x.ks.getD 0 0)) (aE t (x.ks.getD 1 0))
 else cR M x.op x.nm x.n x.d (x.ks.map (bh t))
theorem wz{l:List Int}(h: 1<=l.length):l.isEmpty=false:=by cases l with
 | nil=>simp at h
 | cons=>rfl
theorem sW{l:List Int}{n:Nat}(h:l.length=n)(a: 1<=n):T.ad 1 false (enc l)=T.ad 1 l.isEmpty (enc l):=by rw [wz (l:=l) (by omega)]
theorem sQ:aH 1=false:=rfl
theorem DH{c:Cx}{t:Tr}{M:Mk}{x:Nd}{i:Nat}{s:Int}(F:c.ns[i]? =some x)(hs:c.ss[i]? =some s)(m:aH s=true)(ok:nZ c i x s)(l:cy c t M i)(hds:c.ds.length<=100)(hp:c.p.size<=100)(E:M.N.length<=40000):
  Or (.call 27) [r0,I (i:Int)] [ab.box [AV.ref (Id.c 1) 0,AV.t (T.ad 3 c.ed (aJ c.ds)),AV.t (T.ad 5 c.en (aU c.ns)),AV.t (T.ad 1 c.eh (enc c.hs)),AV.t (T.str c.p),AV.t (T.ad 1 c.es (enc c.ss)),AV.own (Id.c 2),AV.own (Id.c 3)],ab.box [AV.own (Id.c 4),AV.own (Id.c 5)],ab.sl false 1 t.bits.isEmpty (bd t.bits),ab.sl false 1 t.to.isEmpty (enc t.to),ab.rows M.N.isEmpty 5 1 1 M.N.length (rows M.N),ab.mp false [Ck.s] (Ck.i .i64) (bR M.K)]=some [T.ad 1 (eO c t M x s).1.isEmpty (enc (eO c t M x s).1),T.ak,T.ad 3 c.ed (aJ c.ds),T.ad 5 c.en (aU c.ns),T.ad 1 c.eh (enc c.hs),T.str c.p,T.ad 1 c.es (enc c.ss),T.ak,T.ak,RW ((eO c t M x s).2).N,T.ak,T.ad 1 t.bits.isEmpty (bd t.bits),T.ad 1 t.to.isEmpty (enc t.to),EM ((eO c t M x s).2).K]/\
   Up M (eO c t M x s).2 1000/\(∀y∈(eO c t M x s).1,In (eO c t M x s).2 y)/\((eO c t M x s).1.length:Int)=s - 10:=by
 have hl:=fv m;have L:∀{a b:Int},x.ks= [a,b]->x.ks.getD 0 0=a/\x.ks.getD 1 0=b:=λe=>by rw [e];exact⟨rfl,rfl⟩
 unfold eO;by_cases c9:x.op=9
 .have hk:=(ok.pl (by omega) (by omega) (by omega)).2;have hkin:∀y∈x.ks.map (bh t),In M y:=λy hy=>by
   obtain⟨k,hm,rfl⟩:=L4.1 hy;obtain⟨s',h1,h4⟩:=hk k hm;exact(h1.plain l h4).2.2
  have q:=JI F hs c9 m l hds hp (by have:=ok.kl;omega) hk E;obtain⟨o,u,u3⟩:=BG (pre:=c.p++it (bc c.ds x.nm)++us) (kids:=x.ks.map (bh t)) (k:=(s - 10).toNat) (b:=0) l.ok hkin (by have:=ok.kl;simp;omega);rw [sW u3 (by omega)] at q;rw [if_pos c9];exact⟨q,o.mono (by omega),u,by omega⟩
 rw [if_neg c9];by_cases c7:x.op=7
 .obtain⟨a,b,d,j,w0,r,v⟩:=ok.c7 c7;have q:=JH F c7 j w0 sQ r v m l E;obtain⟨_,_,p2⟩:=w0.plain l sQ;obtain⟨O,P,w⟩:=r.word l m;obtain⟨S,U,C⟩:=v.word l m;have up:Up M (aP (cG (bh t a)) M (aE t b) (aE t d)).2 (1 * (aE t b).length)/\(∀y∈(aP (cG (bh t a)) M (aE t b) (aE t d)).1,In (aP (cG (bh t a)) M (aE t b) (aE t d)).2 y)/\(aP (cG (bh t a)) M (aE t b) (aE t d)).1.length= (aE t b).length:=by
   have gen:∀(D B:List Int) (A:Mk),Ok A->In A (bh t a)->(∀y∈D,In A y)->(∀y∈B,In A y)->D.length=B.length->
     Up A (aP (cG (bh t a)) A D B).2 (1 * D.length)/\(∀y∈(aP (cG (bh t a)) A D B).1,In (aP (cG (bh t a)) A D B).2 y)/\(aP (cG (bh t a)) A D B).1.length=D.length:=by
    intro D;induction D with
    | nil=>intro B A h0 _ _ _ _;rw [show aP (cG (bh t a)) A [] B= ([],A) by simp [aP]];exact⟨Up.refl h0,λy hy=>(by cases hy),rfl⟩
    | cons y D ih=>
     intro B A h0 hc h1 h2 e;cases B with
     | nil=>cases e
     | cons z B=>
      obtain⟨o,u⟩:=wL h0 hc (h1 y Lq) (h2 z Lq);obtain⟨h3,h4,h5⟩:=ih B _ o.ok (o.In hc) (o.all λz Q=>h1 z (Lr _ Q)) (o.all λz Q=>h2 z (Lr _ Q)) (by simpa using e);refine⟨(o.trans h3).mono (by rw [LD];omega),λz Q=> ?_,by simp [aP,h5]⟩;rcases LC.1 Q with rfl | Q
      .exact h3.In u
      .exact h4 z Q
   exact gen _ _ M l.ok p2 w C (by omega)
  obtain⟨o,u,u3⟩:=up;have g:x.ks.getD 0 0=a/\x.ks.getD 1 0=b/\x.ks.getD 2 0=d:=by rw [j];exact⟨rfl,rfl,rfl⟩
  rw [sW u3 (by omega)] at q;rw [if_pos c7,g.1,g.2.1,g.2.2];exact⟨q,o.mono (by omega),u,by omega⟩
 rw [if_neg c7];by_cases fq:x.op=15
 .obtain⟨j,bO,hd2,hn1,hn2,hs'⟩:=ok.fq fq;have q:=Jz F fq ⟨bO,hd2⟩ l E;obtain⟨o,u,u3⟩:=yw (n:=x.n) (k:=x.d.toNat) (b:=0) l.ok;rw [sW u3 (by omega)] at q;rw [if_pos fq];exact⟨q,o.mono (by omega),u,by omega⟩
 rw [if_neg fq];by_cases eA:x.op=16
 .obtain⟨_,a,j,r⟩:=ok.eA (.inl eA);have q:=JA F eA j r m l E;obtain⟨O,P,w⟩:=r.word l m;obtain⟨o,u,u3⟩:=BP l.ok w;rw [sW u3 (by omega)] at q;rw [if_pos eA,show x.ks.getD 0 0=a by rw [j];rfl];exact⟨q,o.mono (by omega),u,by omega⟩
 rw [if_neg eA];by_cases fO:x.op=17
 .obtain⟨_,a,b,j,r,v⟩:=ok.fO (by omega) (by omega);have q:=JB F fO j r v m l E;obtain⟨O,P,w⟩:=r.word l m;obtain⟨S,U,C⟩:=v.word l m;obtain⟨o,u,u3⟩:=oE (f:=bW) (c:=1) (λM a b h Z hb=>fE h Z hb) l.ok w C (show(aE t a).length= (aE t b).length by omega);obtain⟨G,H⟩:=L j;rw [if_pos fO,G,H];refine⟨q,o.mono ?_,u,by omega⟩;have R:(aE t a).length<=8:=by omega
  have J:(aE t b).length<=8:=by omega
  omega
 rw [if_neg fO];by_cases V:x.op=18
 .obtain⟨_,a,b,j,r,v⟩:=ok.fO (by omega) (by omega);have q:=JC F V j r v m l E;obtain⟨O,P,w⟩:=r.word l m;obtain⟨S,U,C⟩:=v.word l m;obtain⟨o,u,u3⟩:=oE (f:=dI) (c:=1) (λM a b h Z hb=>nD h Z hb) l.ok w C (show(aE t a).length= (aE t b).length by omega);obtain⟨G,H⟩:=L j;rw [if_pos V,G,H];refine⟨q,o.mono ?_,u,by omega⟩;have R:(aE t a).length<=8:=by omega
  have J:(aE t b).length<=8:=by omega
  omega
 rw [if_neg V];by_cases W:x.op=19
 .obtain⟨_,a,b,j,r,v⟩:=ok.fO (by omega) (by omega);have q:=JD F W j r v m l E;obtain⟨O,P,w⟩:=r.word l m;obtain⟨S,U,C⟩:=v.word l m;obtain⟨o,u,u3⟩:=oE (f:=bm) (c:=2) (λM a b h Z hb=>mA h Z hb) l.ok w C (show(aE t a).length= (aE t b).length by omega);obtain⟨G,H⟩:=L j;rw [if_pos W,G,H];refine⟨q,o.mono ?_,u,by omega⟩;have R:(aE t a).length<=8:=by omega
  have J:(aE t b).length<=8:=by omega
  omega
 rw [if_neg W];by_cases X:x.op=20
 .obtain⟨_,a,b,j,r,v⟩:=ok.fO (by omega) (by omega);have q:=JE F X j r v m l E;obtain⟨O,P,w⟩:=r.word l m;obtain⟨S,U,C⟩:=v.word l m;obtain⟨o,u,u3⟩:=Dp l.ok w C (show(aE t a).length= (aE t b).length by omega);obtain⟨G,H⟩:=L j;rw [if_pos X,G,H];refine⟨q,o.mono ?_,u,by omega⟩;have R:(aE t a).length<=8:=by omega
  have J:(aE t b).length<=8:=by omega
  omega
 rw [if_neg X];by_cases Y:x.op=21
 .obtain⟨_,a,b,j,r,v⟩:=ok.fO (by omega) (by omega);have q:=JF F Y j r v m l E;obtain⟨O,P,w⟩:=r.word l m;obtain⟨S,U,C⟩:=v.word l m;obtain⟨o,u,u3⟩:=KX l.ok w C;obtain⟨G,H⟩:=L j;rw [if_pos Y,G,H];refine⟨q,o.mono ?_,u,by omega⟩;have R:(aE t a).length<=8:=by omega
  have J:(aE t b).length<=8:=by omega
  have:=OE (show 9 * (aE t a).length+1<=73 by omega) J;omega
 rw [if_neg Y];have bn:x.op=23:=by
  rcases Oh (x.op=23) with h | h
  .exact h
  .exfalso;have hop:=ok.op;by_cases dZ:x.op=22
   .rw [(ok.dZ dZ).1] at m;cases m
   by_cases c8:x.op=8
   .rw [(ok.c8 c8).1] at m;cases m
   .have:=(ok.pl c7 c8 (by omega)).1 c9;rw [this] at m;cases m
 obtain⟨_,a,j,r⟩:=ok.eA (.inr bn);have hn:=ok.bn bn;have q:=JG F bn j r hn m l E;obtain⟨O,P,w⟩:=r.word l m;obtain⟨o,u,u3⟩:=qv (n:=x.n) hn.1 l.ok w;rw [show x.ks.getD 0 0=a by rw [j];rfl];exact⟨q,o.mono (by omega),u,by omega⟩
theorem B9{c:Cx}{t:Tr}{M:Mk}{x:Nd}{i:Nat}{s:Int}(D:c.ns[i]? =some x)(u:aH s=false)(ok:nZ c i x s)(g:cy c t M i)(C:M.N.length<=40000):
  Or (.call 28) [r0,I (i:Int)] [ab.box [AV.ref (Id.c 1) 0,AV.t (T.ad 3 c.ed (aJ c.ds)),AV.t (T.ad 5 c.en (aU c.ns)),AV.t (T.ad 1 c.eh (enc c.hs)),AV.t (T.str c.p),AV.t (T.ad 1 c.es (enc c.ss)),AV.own (Id.c 2),AV.own (Id.c 3)],ab.box [AV.own (Id.c 4),AV.own (Id.c 5)],ab.sl false 1 t.bits.isEmpty (bd t.bits),ab.sl false 1 t.to.isEmpty (enc t.to),ab.rows M.N.isEmpty 5 1 1 M.N.length (rows M.N),ab.mp false [Ck.s] (Ck.i .i64) (bR M.K)]=some [ti (fB t M x).1,T.ak,T.ad 3 c.ed (aJ c.ds),T.ad 5 c.en (aU c.ns),T.ad 1 c.eh (enc c.hs),T.str c.p,T.ad 1 c.es (enc c.ss),T.ak,T.ak,RW ((fB t M x).2).N,T.ak,T.ad 1 t.bits.isEmpty (bd t.bits),T.ad 1 t.to.isEmpty (enc t.to),EM ((fB t M x).2).K]/\Up M (fB t M x).2 1000/\In (fB t M x).2 (fB t M x).1:=by
 have Y:=ok.op;have hn:=ok.n;have hd:=ok.d;have A:∀{a b:Int},x.ks= [a,b]->x.ks.getD 0 0=a/\x.ks.getD 1 0=b:=λe=>by rw [e];exact⟨rfl,rfl⟩
 have E:(∀k∈x.ks,∃s',KW c i k s'/\aH s'=false)->∀y∈x.ks.map (bh t),In M y:=λo y W=>by obtain⟨k,hm,rfl⟩:=L4.1 W;obtain⟨s',H,V⟩:=o k hm;exact(H.plain g V).2.2
 unfold fB;by_cases dZ:x.op=22
 .obtain⟨_,a,b,s',j,f,l,m⟩:=ok.dZ dZ;have hl:=fv j;have q:=JJ D dZ f l m j g C;obtain⟨L,O,F⟩:=l.word g j;obtain⟨P,Q,G⟩:=m.word g j;obtain⟨_,v,w⟩:=CX g.ok (ea:=true) (eb:=true) (a:=aE t a) (b:=aE t b) (by omega) (by omega) F G (by omega);obtain⟨z,B⟩:=A f;rw [if_pos dZ,z,B];exact⟨q,v.mono (by omega),w⟩
 rw [if_neg dZ];by_cases c8:x.op=8
 .obtain⟨_,a,b,s',f,⟨j,l,m⟩ | o⟩:=ok.c8 c8
  .have hl:=fv j;have q:=JK D c8 f l m j g C;obtain⟨L,O,F⟩:=l.word g j;obtain⟨P,Q,G⟩:=m.word g j;obtain⟨v,w⟩:=Kw g.ok (show(aE t a).length= (aE t b).length by omega) F G;obtain⟨z,B⟩:=A f;rw [z,B,if_pos ⟨c8,wz (by omega)⟩];exact⟨q,v.mono (by omega),w⟩
  .have q:=CT D dZ (λ_=>⟨a,[b],f⟩) g C (by have:=ok.kl;omega) o ⟨by omega,by omega⟩ ⟨by omega,by omega⟩ ⟨by omega,by omega⟩ (by have:=ok.nm;omega);obtain⟨v,w⟩:=iE g.ok x.op x.nm x.n x.d (x.ks.map (bh t)) (E o) (λe=>by omega) (by have:=ok.kl;simp;omega);obtain⟨z,B⟩:=A f;obtain⟨s2,l,m⟩:=o a (by rw [f];exact Lq);obtain⟨R,_⟩:=l.plain g m;have S:aE t a= []:=by unfold aE;rw [Lw,R];rfl
   rw [if_neg (by rw [z,S];simp)];exact⟨q,v.mono (by omega),w⟩
 .have o:∀k∈x.ks,∃s',KW c i k s'/\aH s'=false:=by
   by_cases c7:x.op=7
   .obtain⟨a,b,d,f,X,l,m⟩:=ok.c7 c7;intro k hm;rw [f] at hm;simp only [LC,MH,or_false] at hm;rcases hm with rfl | rfl | rfl
    .exact⟨_,X,sQ⟩
    .exact⟨_,l,u⟩
    .exact⟨_,m,u⟩
   .refine(ok.pl c7 c8 ?_).2;rcases Oh (x.op < 15\/24<=x.op) with h | h
    .exact h
    .exfalso;by_cases fq:x.op=15
     .obtain⟨_,H,Z,_,_,U⟩:=ok.fq fq;subst U;unfold aH at u;simp at u;omega
     by_cases eA:x.op=16\/x.op=23
     .rw [(ok.eA eA).1] at u;cases u
     .rw [(ok.fO (by omega) (by omega)).1] at u;cases u
  have q:=CT D dZ (λe=>absurd e c8) g C (by have:=ok.kl;omega) o ⟨by omega,by omega⟩ ⟨by omega,by omega⟩ ⟨by omega,by omega⟩ (by have:=ok.nm;omega);obtain⟨v,w⟩:=iE g.ok x.op x.nm x.n x.d (x.ks.map (bh t)) (E o) (λe=>by
   obtain⟨k,r,J⟩:=ok.c3 e;exact⟨bh t k,r.map (bh t),by rw [J];rfl⟩) (by have:=ok.kl;simp;omega)
  rw [if_neg (λe=>c8 e.1)];exact⟨q,v.mono (by omega),w⟩
end Go.Aev.Gen
