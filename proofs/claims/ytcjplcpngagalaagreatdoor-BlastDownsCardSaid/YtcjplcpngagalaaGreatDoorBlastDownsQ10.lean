import Derived.Test.YtcjplcpngagalaaGreatDoorBlastDownsQ9
set_option linter.all false
namespace Go.Aev.Gen
open Go Go.Aev Go.IntKind
def aH(s:Int):Bool:=decide (10 < s) && decide (s<=18)
theorem fI(n:Int):Or (.call 21) [I n] []=some [tb (aH n)]:=by
 refine ah ?_;rw [Ff];unfold aH;by_cases h: 10 < n
 .have:n > 10:=h;simp only [ai,↓reduceIte,Int.reduceBEq,Int.reduceEq,h,this,decide_true,NA]
 .have:¬n > 10:=h;simp only [ai,↓reduceIte,Int.reduceBEq,Int.reduceEq,h,this,decide_false,NF]
def aD(t:Tr)(k:Int):List Int:=t.bits.getD k.toNat []
def bA(t:Tr)(k:Int):Int:=t.to.getD k.toNat 0
structure de (c:Cx) (t:Tr) (M:Mk) (i:Nat):Prop where
 ok:Ok M
 bl:t.bits.length=i
 tl:t.to.length=i
 w:∀(k:Nat) (s:Int),k < i->c.ss[k]? =some s->aH s=true->∃b,t.bits[k]? =some b/\(b.length:Int)=s - 10/\∀x∈b,In M x
 p:∀(k:Nat) (s:Int),k < i->c.ss[k]? =some s->aH s=false->t.bits[k]? =some []/\∃v,t.to[k]? =some v/\In M v
theorem de.up{c:Cx}{t:Tr}{M j:Mk}{i n:Nat}(h:de c t M i)(u:Up M j n):de c t j i:=
 ⟨u.ok,h.bl,h.tl,λk s f hs g=>by obtain⟨b,a,d,e⟩:=h.w k s f hs g;exact⟨b,a,d,u.all e⟩,
  λk s f hs g=>by obtain⟨a,v,d,e⟩:=h.p k s f hs g;exact⟨a,v,d,u.In e⟩⟩
structure KW (c:Cx) (i:Nat) (k:Int) (s:Int):Prop where
 h0: 0<=k
 lt:k < (i:Int)
 so:c.ss[k.toNat]? =some s
theorem KW.word{c:Cx}{t:Tr}{M:Mk}{i:Nat}{k s:Int}(h:KW c i k s)(g:de c t M i)(j:aH s=true):
  t.bits[k.toNat]? =some (aD t k)/\((aD t k).length:Int)=s - 10/\∀x∈aD t k,In M x:=by
 obtain⟨b,a,d,f⟩:=g.w k.toNat s (by have:=h.h0;have:=h.lt;omega) h.so j;have e:aD t k=b:=by unfold aD;rw [MT,a];rfl
 rw [e];exact⟨a,d,f⟩
theorem KW.plain{c:Cx}{t:Tr}{M:Mk}{i:Nat}{k s:Int}(h:KW c i k s)(f:de c t M i)(g:aH s=false):
  t.bits[k.toNat]? =some []/\t.to[k.toNat]? =some (bA t k)/\In M (bA t k):=by
 obtain⟨b,v,a,d⟩:=f.p k.toNat s (by have:=h.h0;have:=h.lt;omega) h.so g;have e:bA t k=v:=by unfold bA;rw [MT,a];rfl
 rw [e];exact⟨b,a,d⟩
theorem fP{s:Int}(h:aH s=true): 1<=s - 10/\s - 10<=8:=by unfold aH at h;simp only [MB,decide_eq_true_eq] at h;omega
def cV(M:Mk)(pre:ByteArray)(kids:List Int):Nat->Nat->List Int×Mk
 | _,0=>([],M)
 | b,k+1=>((du M 9 (pre++it (b:Int)) 0 0 kids).1:: (cV (du M 9 (pre++it (b:Int)) 0 0 kids).2 pre kids (b+1) k).1,(cV (du M 9 (pre++it (b:Int)) 0 0 kids).2 pre kids (b+1) k).2)
theorem BT{pre:ByteArray}{kids:List Int}:∀{k b:Nat} {M:Mk},Ok M->(∀x∈kids,In M x)->kids.length<=1000->
  Up M (cV M pre kids b k).2 k/\(∀x∈(cV M pre kids b k).1,In (cV M pre kids b k).2 x)/\(cV M pre kids b k).1.length=k
 | 0,b,M,h,_,_=>⟨Up.refl h,λx j=>(by cases j),rfl⟩
 | k+1,b,M,h,e,hl=>by
  obtain⟨a,f⟩:=iJ h 9 (pre++it (b:Int)) 0 0 kids e (by simp) hl;obtain⟨d,g,i⟩:=BT (k:=k) (b:=b+1) a.ok (a.all e) hl;refine⟨(a.trans d).mono (by omega),λz c=> ?_,by simp [cV,i]⟩;rcases MN.1 c with rfl | c
  .exact d.In f
  .exact g z c
theorem IB{c:Cx}{t:Tr}{x:Nd}{w:Nat}{kids:List Int}{e:Bool}(C:e=kids.isEmpty)(o:c.ds.length<=100)(J:c.p.size<=100)(L:w<=100)(H:kids.length<=100):∀(k b:Nat) (M:Mk) (a:List Int),b+k=w->Ok M->(∀y∈kids,In M y)->M.N.length+k<=60000->a.length=b->
  Or gB [AV.ref (Id.c 6) 0,AV.ref (Id.c 7) 0,AV.own (Id.c 8),ab e kids,I (w:Int),I (b:Int)] [ad.box [AV.ref (Id.c 1) 0,AV.t (T.ab 3 c.ed (aI c.ds)),AV.t (T.ab 5 c.en (aV c.ns)),AV.t (T.ab 1 c.eh (enc c.hs)),AV.t (T.str c.p),AV.t (T.ab 1 c.es (enc c.ss)),AV.own (Id.c 2),AV.own (Id.c 3)],ad.box [AV.own (Id.c 9),AV.own (Id.c 5)],ad.sl false 1 t.bits.isEmpty (bd t.bits),ad.sl false 1 t.to.isEmpty (enc t.to),ad.dead,ad.mp false [Ck.s] (Ck.i .i64) (bV M.K),ad.box [r0],ad.box [I x.op,ab x.ek x.ks,I x.n,I x.d,AV.t (T.str x.nm)],ad.sl false 1 false (enc a),ad.rows M.N.isEmpty 5 1 1 M.N.length (rows M.N)]=
   some [T.ab 1 false (enc (a++ (cV M (c.p++it (bu c.ds x.nm)++us) kids b k).1)),T.ao,T.ab 3 c.ed (aI c.ds),T.ab 5 c.en (aV c.ns),T.ab 1 c.eh (enc c.hs),T.str c.p,T.ab 1 c.es (enc c.ss),T.ao,T.ao,RW ((cV M (c.p++it (bu c.ds x.nm)++us) kids b k).2).N,T.ao,T.ab 1 t.bits.isEmpty (bd t.bits),T.ab 1 t.to.isEmpty (enc t.to),EM ((cV M (c.p++it (bu c.ds x.nm)++us) kids b k).2).K]:=by
 have u:=rz (ed:=c.ed) (en:=c.en) (eh:=c.eh) (ns:=c.ns) (hs:=c.hs) (nm:=x.nm) o;have q:dI (bu c.ds x.nm):=by have:=qt x.nm 0 c.ds;unfold bu;constructor <;> omega
 have P:=gQ q;intro k;induction k with
 | zero=>
  intro b M a B h g A f;have l:¬(b:Int) < (w:Int):=by omega
  refine ah ?_;rw [zm];simp only [ai,↓reduceIte,Int.reduceBEq,Int.reduceEq,l,aT,aS,Mw,aR,aO,cJ,cK,cx,cV,MU];rfl
 | succ k E=>
  intro b M a B h g A f;have l:(b:Int) < (w:Int):=by omega
  have j:dI (b:Int):=⟨by omega,by omega⟩;have Q:=gQ j;have v:c.p.size+ (it (bu c.ds x.nm)).size<=4294967296:=by omega
  have z:(c.p++it (bu c.ds x.nm)).size+1<=4294967296:=by rw [MX];omega
  have c3:(c.p++it (bu c.ds x.nm)++us).size+ (it (b:Int)).size<=4294967296:=by simp only [MX,gx];omega
  have F:=iN M (show M.N.length<=100000 by omega) 9 (c.p++it (bu c.ds x.nm)++us++it (b:Int)) 0 0 kids e C (λy D=>(g y D).i64 (by omega)) (by omega) (by omega) (by omega) (by omega) (by simp only [MX,gx];omega);obtain⟨m,O⟩:=iJ h 9 (c.p++it (bu c.ds x.nm)++us++it (b:Int)) 0 0 kids g (by simp) (by omega);have G:bg 8 (a.length+1)=some ():=cm (by omega);have r:=E (b+1) _ (a++ [(du M 9 (c.p++it (bu c.ds x.nm)++us++it (b:Int)) 0 0 kids).1]) (by omega) m.ok (m.all g) (by have:=m.up;omega) (by simp [f]);simp only [MY,M5] at r;rw [cV];refine ah ?_;rw [zm];simp only [ai,↓reduceIte,Int.reduceBEq,Int.reduceEq,l,u,gW q,gW j,v,z,c3,F,aC,MC,G,next b (by omega),dP,aT,aS,Mw,aR,aO,cJ,cK,cx];exact r
theorem IC{c:Cx}{t:Tr}{x:Nd}{w:Nat}(m:c.ds.length<=100)(E:c.p.size<=100)(F:w<=100):∀(k b:Nat) (M:Mk) (a:List Int),b+k=w->Ok M->M.N.length+k<=60000->a.length=b->
  Or gB [AV.ref (Id.c 6) 0,AV.ref (Id.c 7) 0,AV.own (Id.c 8),AV.t (T.af true),I (w:Int),I (b:Int)] [ad.box [AV.ref (Id.c 1) 0,AV.t (T.ab 3 c.ed (aI c.ds)),AV.t (T.ab 5 c.en (aV c.ns)),AV.t (T.ab 1 c.eh (enc c.hs)),AV.t (T.str c.p),AV.t (T.ab 1 c.es (enc c.ss)),AV.own (Id.c 2),AV.own (Id.c 3)],ad.box [AV.own (Id.c 9),AV.own (Id.c 5)],ad.sl false 1 t.bits.isEmpty (bd t.bits),ad.sl false 1 t.to.isEmpty (enc t.to),ad.dead,ad.mp false [Ck.s] (Ck.i .i64) (bV M.K),ad.box [r0],ad.box [I x.op,ab x.ek x.ks,I x.n,I x.d,AV.t (T.str x.nm)],ad.sl false 1 false (enc a),ad.rows M.N.isEmpty 5 1 1 M.N.length (rows M.N)]=
   some [T.ab 1 false (enc (a++ (cV M (c.p++it (bu c.ds x.nm)++us) [] b k).1)),T.ao,T.ab 3 c.ed (aI c.ds),T.ab 5 c.en (aV c.ns),T.ab 1 c.eh (enc c.hs),T.str c.p,T.ab 1 c.es (enc c.ss),T.ao,T.ao,RW ((cV M (c.p++it (bu c.ds x.nm)++us) [] b k).2).N,T.ao,T.ab 1 t.bits.isEmpty (bd t.bits),T.ab 1 t.to.isEmpty (enc t.to),EM ((cV M (c.p++it (bu c.ds x.nm)++us) [] b k).2).K]:=by
 have r:=rz (ed:=c.ed) (en:=c.en) (eh:=c.eh) (ns:=c.ns) (hs:=c.hs) (nm:=x.nm) m;have o:dI (bu c.ds x.nm):=by have:=qt x.nm 0 c.ds;unfold bu;constructor <;> omega
 have H:=gQ o;intro k;induction k with
 | zero=>
  intro b M a B h A e;have g:¬(b:Int) < (w:Int):=by omega
  refine ah ?_;rw [zl];simp only [ai,↓reduceIte,Int.reduceBEq,Int.reduceEq,g,aT,aS,Mw,aR,aO,cJ,cK,cx,cV,MU];rfl
 | succ k C=>
  intro b M a B h A e;have g:(b:Int) < (w:Int):=by omega
  have f:dI (b:Int):=⟨by omega,by omega⟩;have J:=gQ f;have v:c.p.size+ (it (bu c.ds x.nm)).size<=4294967296:=by omega
  have z:(c.p++it (bu c.ds x.nm)).size+1<=4294967296:=by rw [MX];omega
  have c3:(c.p++it (bu c.ds x.nm)++us).size+ (it (b:Int)).size<=4294967296:=by simp only [MX,gx];omega
  have l:=iN M (show M.N.length<=100000 by omega) 9 (c.p++it (bu c.ds x.nm)++us++it (b:Int)) 0 0 [] true rfl (λy j=>by cases j) (by simp) (by omega) (by omega) (by omega) (by simp only [MX,gx];omega);replace l:Or (.call 61) [r0,I 9,AV.t (T.str (c.p++it (bu c.ds x.nm)++us++it (b:Int))),I 0,I 0,AV.t (T.ab 1 true [])] (cS M)=_:=l;obtain⟨u,G⟩:=iJ h 9 (c.p++it (bu c.ds x.nm)++us++it (b:Int)) 0 0 [] (λy j=>by cases j) (by simp);have D:bg 8 (a.length+1)=some ():=cm (by omega);have q:=C (b+1) _ (a++ [(du M 9 (c.p++it (bu c.ds x.nm)++us++it (b:Int)) 0 0 []).1]) (by omega) u.ok (by have:=u.up;omega) (by simp [e]);simp only [MY,M5] at q;rw [cV];refine ah ?_;rw [zl];simp only [ai,↓reduceIte,Int.reduceBEq,Int.reduceEq,g,r,gW o,gW f,v,z,c3,l,aC,MC,D,next b (by omega),dP,aT,aS,Mw,aR,aO,cJ,cK,cx];exact q
theorem ID{c:Cx}{t:Tr}{M:Mk}{x:Nd}{w:Nat}{kids:List Int}(o:kids≠[])(b:c.ds.length<=100)(z:c.p.size<=100)(F: 1<=w)(A:w<=100)(m:kids.length<=100)(h:Ok M)(g:∀y∈kids,In M y)(G:M.N.length<=50000):
  Or gB [AV.ref (Id.c 6) 0,AV.ref (Id.c 7) 0,AV.t (T.af true),AV.own (Id.c 8),I (w:Int),I 0] [ad.box [AV.ref (Id.c 1) 0,AV.t (T.ab 3 c.ed (aI c.ds)),AV.t (T.ab 5 c.en (aV c.ns)),AV.t (T.ab 1 c.eh (enc c.hs)),AV.t (T.str c.p),AV.t (T.ab 1 c.es (enc c.ss)),AV.own (Id.c 2),AV.own (Id.c 3)],ad.box [AV.own (Id.c 4),AV.own (Id.c 5)],ad.sl false 1 t.bits.isEmpty (bd t.bits),ad.sl false 1 t.to.isEmpty (enc t.to),ad.rows M.N.isEmpty 5 1 1 M.N.length (rows M.N),ad.mp false [Ck.s] (Ck.i .i64) (bV M.K),ad.box [r0],ad.box [I x.op,ab x.ek x.ks,I x.n,I x.d,AV.t (T.str x.nm)],ad.sl false 1 false (enc kids)]=
   some [T.ab 1 false (enc (cV M (c.p++it (bu c.ds x.nm)++us) kids 0 w).1),T.ao,T.ab 3 c.ed (aI c.ds),T.ab 5 c.en (aV c.ns),T.ab 1 c.eh (enc c.hs),T.str c.p,T.ab 1 c.es (enc c.ss),T.ao,T.ao,RW ((cV M (c.p++it (bu c.ds x.nm)++us) kids 0 w).2).N,T.ao,T.ab 1 t.bits.isEmpty (bd t.bits),T.ab 1 t.to.isEmpty (enc t.to),EM ((cV M (c.p++it (bu c.ds x.nm)++us) kids 0 w).2).K]:=by
 have q:=rz (ed:=c.ed) (en:=c.en) (eh:=c.eh) (ns:=c.ns) (hs:=c.hs) (nm:=x.nm) b;have l:dI (bu c.ds x.nm):=by have:=qt x.nm 0 c.ds;unfold bu;constructor <;> omega
 have J:=gQ l;obtain⟨k,rfl⟩:∃k,w=k+1:=⟨w - 1,by omega⟩;have v:(0:Int) < ((k+1:Nat):Int):=by omega
 have a:dI (0:Int):=⟨by omega,by omega⟩;have L:=gQ a;have r:c.p.size+ (it (bu c.ds x.nm)).size<=4294967296:=by omega
 have u:(c.p++it (bu c.ds x.nm)).size+1<=4294967296:=by rw [MX];omega
 have c3:(c.p++it (bu c.ds x.nm)++us).size+ (it (0:Int)).size<=4294967296:=by simp only [MX,gx];omega
 have f:false=kids.isEmpty:=by cases kids with
  | nil=>exact absurd rfl o
  | cons=>rfl
 have D:=iN M (show M.N.length<=100000 by omega) 9 (c.p++it (bu c.ds x.nm)++us++it (0:Int)) 0 0 kids false f (λy B=>(g y B).i64 (by omega)) (by omega) (by omega) (by omega) (by omega) (by simp only [MX,gx];omega);obtain⟨j,H⟩:=iJ h 9 (c.p++it (bu c.ds x.nm)++us++it (0:Int)) 0 0 kids g (by simp) (by omega);have E:i64.wrap (0+1)= ((1:Nat):Int):=by decide
 have C:=IB (t:=t) (x:=x) (w:=k+1) (e:=false) f b z A m k 1 _ [(du M 9 (c.p++it (bu c.ds x.nm)++us++it (0:Int)) 0 0 kids).1] (by omega) j.ok (j.all g) (by have:=j.up;omega) rfl;rw [cV];refine ah ?_;rw [Fs];simp only [ai,↓reduceIte,Int.reduceBEq,Int.reduceEq,v,q,gW l,gW a,r,u,c3,D,E,aT,aS,Mw,aR,aO,cJ,cK,cx];exact C
theorem IE{c:Cx}{t:Tr}{M:Mk}{x:Nd}{w:Nat}(b:c.ds.length<=100)(r:c.p.size<=100)(A: 1<=w)(u:w<=100)(h:Ok M)(B:M.N.length<=50000):
  Or gB [AV.ref (Id.c 6) 0,AV.ref (Id.c 7) 0,AV.t (T.af true),AV.t (T.af true),I (w:Int),I 0] [ad.box [AV.ref (Id.c 1) 0,AV.t (T.ab 3 c.ed (aI c.ds)),AV.t (T.ab 5 c.en (aV c.ns)),AV.t (T.ab 1 c.eh (enc c.hs)),AV.t (T.str c.p),AV.t (T.ab 1 c.es (enc c.ss)),AV.own (Id.c 2),AV.own (Id.c 3)],ad.box [AV.own (Id.c 4),AV.own (Id.c 5)],ad.sl false 1 t.bits.isEmpty (bd t.bits),ad.sl false 1 t.to.isEmpty (enc t.to),ad.rows M.N.isEmpty 5 1 1 M.N.length (rows M.N),ad.mp false [Ck.s] (Ck.i .i64) (bV M.K),ad.box [r0],ad.box [I x.op,ab x.ek x.ks,I x.n,I x.d,AV.t (T.str x.nm)]]=
   some [T.ab 1 false (enc (cV M (c.p++it (bu c.ds x.nm)++us) [] 0 w).1),T.ao,T.ab 3 c.ed (aI c.ds),T.ab 5 c.en (aV c.ns),T.ab 1 c.eh (enc c.hs),T.str c.p,T.ab 1 c.es (enc c.ss),T.ao,T.ao,RW ((cV M (c.p++it (bu c.ds x.nm)++us) [] 0 w).2).N,T.ao,T.ab 1 t.bits.isEmpty (bd t.bits),T.ab 1 t.to.isEmpty (enc t.to),EM ((cV M (c.p++it (bu c.ds x.nm)++us) [] 0 w).2).K]:=by
 have j:=rz (ed:=c.ed) (en:=c.en) (eh:=c.eh) (ns:=c.ns) (hs:=c.hs) (nm:=x.nm) b;have g:dI (bu c.ds x.nm):=by have:=qt x.nm 0 c.ds;unfold bu;constructor <;> omega
 have D:=gQ g;obtain⟨k,rfl⟩:∃k,w=k+1:=⟨w - 1,by omega⟩;have q:(0:Int) < ((k+1:Nat):Int):=by omega
 have a:dI (0:Int):=⟨by omega,by omega⟩;have E:=gQ a;have m:c.p.size+ (it (bu c.ds x.nm)).size<=4294967296:=by omega
 have o:(c.p++it (bu c.ds x.nm)).size+1<=4294967296:=by rw [MX];omega
 have c3:(c.p++it (bu c.ds x.nm)++us).size+ (it (0:Int)).size<=4294967296:=by simp only [MX,gx];omega
 have f:=iN M (show M.N.length<=100000 by omega) 9 (c.p++it (bu c.ds x.nm)++us++it (0:Int)) 0 0 [] true rfl (λy e=>by cases e) (by simp) (by omega) (by omega) (by omega) (by simp only [MX,gx];omega);replace f:Or (.call 61) [r0,I 9,AV.t (T.str (c.p++it (bu c.ds x.nm)++us++it (0:Int))),I 0,I 0,AV.t (T.ab 1 true [])] (cS M)=_:=f;obtain⟨l,C⟩:=iJ h 9 (c.p++it (bu c.ds x.nm)++us++it (0:Int)) 0 0 [] (λy e=>by cases e) (by simp);have z:i64.wrap (0+1)= ((1:Nat):Int):=by decide
 have v:=IC (t:=t) (x:=x) (w:=k+1) b r u k 1 _ [(du M 9 (c.p++it (bu c.ds x.nm)++us++it (0:Int)) 0 0 []).1] (by omega) l.ok (by have:=l.up;omega) rfl;rw [cV];refine ah ?_;rw [Fq];simp only [ai,↓reduceIte,Int.reduceBEq,Int.reduceEq,q,j,gW g,gW a,m,o,c3,f,z,aT,aS,Mw,aR,aO,cJ,cK,cx];exact v
theorem IG{c:Cx}{t:Tr}{M:Mk}{x:Nd}{i w:Nat}{s:Int}(hs:c.ss[i]? =some s)(y:s - 10= (w:Int))(F:w<=100)(E:x.ks.length<=100)(m:∀k∈x.ks,0<=k/\t.to[k.toNat]? =some (bA t k)){r:List T}:∀(f:List Int) (j:Nat) (a:List Int),x.ks.drop j=f->j<=x.ks.length->a.length=j->
  Or gB [AV.ref (Id.c 6) 0,AV.ref (Id.c 7) 0,AV.t (T.af true),AV.own (Id.c 8),I (w:Int),I 0] [ad.box [AV.ref (Id.c 1) 0,AV.t (T.ab 3 c.ed (aI c.ds)),AV.t (T.ab 5 c.en (aV c.ns)),AV.t (T.ab 1 c.eh (enc c.hs)),AV.t (T.str c.p),AV.t (T.ab 1 c.es (enc c.ss)),AV.own (Id.c 2),AV.own (Id.c 3)],ad.box [AV.own (Id.c 4),AV.own (Id.c 5)],ad.sl false 1 t.bits.isEmpty (bd t.bits),ad.sl false 1 t.to.isEmpty (enc t.to),ad.rows M.N.isEmpty 5 1 1 M.N.length (rows M.N),ad.mp false [Ck.s] (Ck.i .i64) (bV M.K),ad.box [r0],ad.box [I x.op,ab x.ek x.ks,I x.n,I x.d,AV.t (T.str x.nm)],ad.sl false 1 false (enc (a++f.map (bA t)))]=some r->
  Or mQ [I (i:Int),AV.ref (Id.c 6) 0,AV.ref (Id.c 7) 0,AV.t (T.af true),AV.own (Id.c 8),ab x.ek x.ks,I (x.ks.length:Int),I (j:Int)] [ad.box [AV.ref (Id.c 1) 0,AV.t (T.ab 3 c.ed (aI c.ds)),AV.t (T.ab 5 c.en (aV c.ns)),AV.t (T.ab 1 c.eh (enc c.hs)),AV.t (T.str c.p),AV.t (T.ab 1 c.es (enc c.ss)),AV.own (Id.c 2),AV.own (Id.c 3)],ad.box [AV.own (Id.c 4),AV.own (Id.c 5)],ad.sl false 1 t.bits.isEmpty (bd t.bits),ad.sl false 1 t.to.isEmpty (enc t.to),ad.rows M.N.isEmpty 5 1 1 M.N.length (rows M.N),ad.mp false [Ck.s] (Ck.i .i64) (bV M.K),ad.box [r0],ad.box [I x.op,ab x.ek x.ks,I x.n,I x.d,AV.t (T.str x.nm)],ad.sl false 1 false (enc a)]=some r:=by
 intro f;induction f with
 | nil=>
  intro j a g v b e;have h:¬(j:Int) < (x.ks.length:Int):=by have:=bh g;omega
  have u: 0<=(i:Int)/\(i:Int) < (c.ss.length:Int):=by have:=(My.1 hs).1;omega
  have D:i64.wrap (s - 10)= (w:Int):=by rw [y,wr (by omega)]
  rw [ND,MU] at e;refine ah ?_;rw [zq];simp only [ai,↓reduceIte,Int.reduceBEq,Int.reduceEq,h,u,and_self,aC,bD hs,D];exact e
 | cons k f A=>
  intro j a g v b e;obtain⟨l,G,q⟩:=bp g;have h:(j:Int) < (x.ks.length:Int):=by omega
  have h0: 0<=(j:Int):=by omega
  obtain⟨H,o⟩:=m k (MD l);have B: 0<=k/\k < (t.to.length:Int):=by have:=(My.1 o).1;omega
  have C:bg 8 (a.length+1)=some ():=cm (by omega);have z:=A (j+1) (a++ [bA t k]) q (by omega) (by simp [b]) (by
   rw [Nh] at e;simpa only [MY,M5] using e)
  refine ah ?_;rw [zq];simp only [ai,↓reduceIte,Int.reduceBEq,Int.reduceEq,h,h0,and_self,aC,bD l,B,eB o,MC,C,next j (by omega),dP];exact z
theorem Ky{c:Cx}{t:Tr}{M:Mk}{x:Nd}{i:Nat}{s:Int}(C:c.ns[i]? =some x)(hs:c.ss[i]? =some s)(m:x.op=9)(H:aH s=true)(g:de c t M i)(h:c.ds.length<=100)(A:c.p.size<=100)(l:x.ks.length<=100)(v:∀k∈x.ks,∃s',KW c i k s'/\aH s'=false)(Q:M.N.length<=40000):
  Or (.call 32) [r0,I (i:Int)] [ad.box [AV.ref (Id.c 1) 0,AV.t (T.ab 3 c.ed (aI c.ds)),AV.t (T.ab 5 c.en (aV c.ns)),AV.t (T.ab 1 c.eh (enc c.hs)),AV.t (T.str c.p),AV.t (T.ab 1 c.es (enc c.ss)),AV.own (Id.c 2),AV.own (Id.c 3)],ad.box [AV.own (Id.c 4),AV.own (Id.c 5)],ad.sl false 1 t.bits.isEmpty (bd t.bits),ad.sl false 1 t.to.isEmpty (enc t.to),ad.rows M.N.isEmpty 5 1 1 M.N.length (rows M.N),ad.mp false [Ck.s] (Ck.i .i64) (bV M.K)]=some [T.ab 1 false (enc (cV M (c.p++it (bu c.ds x.nm)++us) (x.ks.map (bA t)) 0 (s - 10).toNat).1),T.ao,T.ab 3 c.ed (aI c.ds),T.ab 5 c.en (aV c.ns),T.ab 1 c.eh (enc c.hs),T.str c.p,T.ab 1 c.es (enc c.ss),T.ao,T.ao,RW ((cV M (c.p++it (bu c.ds x.nm)++us) (x.ks.map (bA t)) 0 (s - 10).toNat).2).N,T.ao,T.ab 1 t.bits.isEmpty (bd t.bits),T.ab 1 t.to.isEmpty (enc t.to),EM ((cV M (c.p++it (bu c.ds x.nm)++us) (x.ks.map (bA t)) 0 (s - 10).toNat).2).K]:=by
 have hl:=fP H;have F: 0<=(i:Int)/\(i:Int) < (c.ns.length:Int):=by have:=(My.1 C).1;omega
 have G: 0<=(i:Int)/\(i:Int) < (c.ss.length:Int):=by have:=(My.1 hs).1;omega
 have B:s - 10= ((s - 10).toNat:Int):=by omega
 have j:∀k∈x.ks,0<=k/\t.to[k.toNat]? =some (bA t k):=λk hm=>by obtain⟨s',e,q⟩:=v k hm;exact⟨e.h0,(e.plain g q).2.1⟩
 have r:∀y∈x.ks.map (bA t),In M y:=λy J=>by obtain⟨k,hm,rfl⟩:=M7.1 J;obtain⟨s',e,q⟩:=v k hm;exact(e.plain g q).2.2
 have b:Or mQ [I (i:Int),AV.ref (Id.c 6) 0,AV.ref (Id.c 7) 0,AV.t (T.af true),AV.t (T.af true),ab x.ek x.ks,I (x.ks.length:Int),I 0] [ad.box [AV.ref (Id.c 1) 0,AV.t (T.ab 3 c.ed (aI c.ds)),AV.t (T.ab 5 c.en (aV c.ns)),AV.t (T.ab 1 c.eh (enc c.hs)),AV.t (T.str c.p),AV.t (T.ab 1 c.es (enc c.ss)),AV.own (Id.c 2),AV.own (Id.c 3)],ad.box [AV.own (Id.c 4),AV.own (Id.c 5)],ad.sl false 1 t.bits.isEmpty (bd t.bits),ad.sl false 1 t.to.isEmpty (enc t.to),ad.rows M.N.isEmpty 5 1 1 M.N.length (rows M.N),ad.mp false [Ck.s] (Ck.i .i64) (bV M.K),ad.box [r0],ad.box [I x.op,ab x.ek x.ks,I x.n,I x.d,AV.t (T.str x.nm)]]=
   some [T.ab 1 false (enc (cV M (c.p++it (bu c.ds x.nm)++us) (x.ks.map (bA t)) 0 (s - 10).toNat).1),T.ao,T.ab 3 c.ed (aI c.ds),T.ab 5 c.en (aV c.ns),T.ab 1 c.eh (enc c.hs),T.str c.p,T.ab 1 c.es (enc c.ss),T.ao,T.ao,RW ((cV M (c.p++it (bu c.ds x.nm)++us) (x.ks.map (bA t)) 0 (s - 10).toNat).2).N,T.ao,T.ab 1 t.bits.isEmpty (bd t.bits),T.ab 1 t.to.isEmpty (enc t.to),EM ((cV M (c.p++it (bu c.ds x.nm)++us) (x.ks.map (bA t)) 0 (s - 10).toNat).2).K]:=by
  cases a:x.ks with
  | nil=>
   have f:=IE (c:=c) (t:=t) (M:=M) (x:=x) (w:=(s - 10).toNat) h A (by omega) (by omega) g.ok (by omega);have P:i64.wrap (s - 10)= ((s - 10).toNat:Int):=by rw [wr (by omega)];omega
   rw [a] at f;refine ah ?_;rw [zp];simp only [ai,↓reduceIte,Int.reduceBEq,Int.reduceEq,MS,M4,Na,decide_false,G,and_self,aC,bD hs,P];exact f
  | cons k u=>
   have z:x.ks.map (bA t)≠[]:=by rw [a];simp
   have f:=ID (c:=c) (t:=t) (M:=M) (x:=x) (w:=(s - 10).toNat) z h A (by omega) (by omega) (by simpa using l) g.ok r (by omega);obtain⟨R,D⟩:=j k (by rw [a];exact Mv);have L: 0<=k/\k < (t.to.length:Int):=by have:=(My.1 D).1;omega
   have o:=IG (c:=c) (t:=t) (M:=M) (x:=x) hs B (by omega) l j u 1 [bA t k] (by rw [a];rfl) (by rw [a];simp) rfl (by
    rw [a] at f⊢;exact f)
   have e:(0:Int) < (((k::u).length:Nat):Int):=by simp
   have h0:(0:Int)<=0:=by omega
   have E:(enc (k::u))[(0:Int).toNat]? =some [ti k]:=rfl;have O:i64.wrap (0+1)= ((1:Nat):Int):=by decide
   rw [a] at o;refine ah ?_;rw [zp];simp only [ai,↓reduceIte,Int.reduceBEq,Int.reduceEq,e,h0,and_self,aC,E,L,eB D,O];exact o
 refine ah ?_;rw [kg];simp (maxSteps:=1000000) only [ai,↓reduceIte,Int.reduceBEq,Int.reduceEq,F,and_self,dm,eA C,m,aC];rw [m] at b;exact b
theorem Kr{c:Cx}{t:Tr}{M:Mk}{x:Nd}{i:Nat}{s:Int}(o:c.ns[i]? =some x)(l:x.op=17){d e:Int}(h:x.ks= [d,e])(q:KW c i d s)(r:KW c i e s)(n:aH s=true)(m:de c t M i)(D:M.N.length<=40000):
  Or (.call 32) [r0,I (i:Int)] [ad.box [AV.ref (Id.c 1) 0,AV.t (T.ab 3 c.ed (aI c.ds)),AV.t (T.ab 5 c.en (aV c.ns)),AV.t (T.ab 1 c.eh (enc c.hs)),AV.t (T.str c.p),AV.t (T.ab 1 c.es (enc c.ss)),AV.own (Id.c 2),AV.own (Id.c 3)],ad.box [AV.own (Id.c 4),AV.own (Id.c 5)],ad.sl false 1 t.bits.isEmpty (bd t.bits),ad.sl false 1 t.to.isEmpty (enc t.to),ad.rows M.N.isEmpty 5 1 1 M.N.length (rows M.N),ad.mp false [Ck.s] (Ck.i .i64) (bV M.K)]=some [T.ab 1 (aU cf M (aD t d) (aD t e)).1.isEmpty (enc (aU cf M (aD t d) (aD t e)).1),T.ao,T.ab 3 c.ed (aI c.ds),T.ab 5 c.en (aV c.ns),T.ab 1 c.eh (enc c.hs),T.str c.p,T.ab 1 c.es (enc c.ss),T.ao,T.ao,RW ((aU cf M (aD t d) (aD t e)).2).N,T.ao,T.ab 1 t.bits.isEmpty (bd t.bits),T.ab 1 t.to.isEmpty (enc t.to),EM ((aU cf M (aD t d) (aD t e)).2).K]:=by
 have hl:=fP n;have z: 0<=(i:Int)/\(i:Int) < (c.ns.length:Int):=by have:=(My.1 o).1;omega
 obtain⟨u,B,v⟩:=q.word m n;obtain⟨w,C,y⟩:=r.word m n;have f:=iu (c:=c) (t:=t) (M:=M) (x:=x) (j:=0) (k:=d) (by rw [h];rfl) q.h0 u;have g:=iu (c:=c) (t:=t) (M:=M) (x:=x) (j:=1) (k:=e) (by rw [h];rfl) r.h0 w;rw [l] at f g;replace f:Or (.call 60) [I 0,r0,r1] _=_:=f;replace g:Or (.call 60) [I 1,r0,r1] _=_:=g;have A:=KS m.ok (ea:=(aD t d).isEmpty) (eb:=(aD t e).isEmpty) (a:=aD t d) (b:=aD t e) (by omega) (by omega) v y (by omega);refine ah ?_;rw [kg];simp (maxSteps:=1000000) only [ai,↓reduceIte,Int.reduceBEq,Int.reduceEq,z,and_self,dm,eA o,l,f,g,A,aT,aS,Mw,aR,aO,cJ,cK,cx];rfl
theorem Ks{c:Cx}{t:Tr}{M:Mk}{x:Nd}{i:Nat}{s:Int}(o:c.ns[i]? =some x)(l:x.op=18){d e:Int}(h:x.ks= [d,e])(q:KW c i d s)(r:KW c i e s)(n:aH s=true)(m:de c t M i)(D:M.N.length<=40000):
  Or (.call 32) [r0,I (i:Int)] [ad.box [AV.ref (Id.c 1) 0,AV.t (T.ab 3 c.ed (aI c.ds)),AV.t (T.ab 5 c.en (aV c.ns)),AV.t (T.ab 1 c.eh (enc c.hs)),AV.t (T.str c.p),AV.t (T.ab 1 c.es (enc c.ss)),AV.own (Id.c 2),AV.own (Id.c 3)],ad.box [AV.own (Id.c 4),AV.own (Id.c 5)],ad.sl false 1 t.bits.isEmpty (bd t.bits),ad.sl false 1 t.to.isEmpty (enc t.to),ad.rows M.N.isEmpty 5 1 1 M.N.length (rows M.N),ad.mp false [Ck.s] (Ck.i .i64) (bV M.K)]=some [T.ab 1 (aU dQ M (aD t d) (aD t e)).1.isEmpty (enc (aU dQ M (aD t d) (aD t e)).1),T.ao,T.ab 3 c.ed (aI c.ds),T.ab 5 c.en (aV c.ns),T.ab 1 c.eh (enc c.hs),T.str c.p,T.ab 1 c.es (enc c.ss),T.ao,T.ao,RW ((aU dQ M (aD t d) (aD t e)).2).N,T.ao,T.ab 1 t.bits.isEmpty (bd t.bits),T.ab 1 t.to.isEmpty (enc t.to),EM ((aU dQ M (aD t d) (aD t e)).2).K]:=by
 have hl:=fP n;have z: 0<=(i:Int)/\(i:Int) < (c.ns.length:Int):=by have:=(My.1 o).1;omega
 obtain⟨u,B,v⟩:=q.word m n;obtain⟨w,C,y⟩:=r.word m n;have f:=iu (c:=c) (t:=t) (M:=M) (x:=x) (j:=0) (k:=d) (by rw [h];rfl) q.h0 u;have g:=iu (c:=c) (t:=t) (M:=M) (x:=x) (j:=1) (k:=e) (by rw [h];rfl) r.h0 w;rw [l] at f g;replace f:Or (.call 60) [I 0,r0,r1] _=_:=f;replace g:Or (.call 60) [I 1,r0,r1] _=_:=g;have A:=KT m.ok (ea:=(aD t d).isEmpty) (eb:=(aD t e).isEmpty) (a:=aD t d) (b:=aD t e) (by omega) (by omega) v y (by omega);refine ah ?_;rw [kg];simp (maxSteps:=1000000) only [ai,↓reduceIte,Int.reduceBEq,Int.reduceEq,z,and_self,dm,eA o,l,f,g,A,aT,aS,Mw,aR,aO,cJ,cK,cx];rfl
theorem Kt{c:Cx}{t:Tr}{M:Mk}{x:Nd}{i:Nat}{s:Int}(o:c.ns[i]? =some x)(l:x.op=19){d e:Int}(h:x.ks= [d,e])(q:KW c i d s)(r:KW c i e s)(n:aH s=true)(m:de c t M i)(D:M.N.length<=40000):
  Or (.call 32) [r0,I (i:Int)] [ad.box [AV.ref (Id.c 1) 0,AV.t (T.ab 3 c.ed (aI c.ds)),AV.t (T.ab 5 c.en (aV c.ns)),AV.t (T.ab 1 c.eh (enc c.hs)),AV.t (T.str c.p),AV.t (T.ab 1 c.es (enc c.ss)),AV.own (Id.c 2),AV.own (Id.c 3)],ad.box [AV.own (Id.c 4),AV.own (Id.c 5)],ad.sl false 1 t.bits.isEmpty (bd t.bits),ad.sl false 1 t.to.isEmpty (enc t.to),ad.rows M.N.isEmpty 5 1 1 M.N.length (rows M.N),ad.mp false [Ck.s] (Ck.i .i64) (bV M.K)]=some [T.ab 1 (aU br M (aD t d) (aD t e)).1.isEmpty (enc (aU br M (aD t d) (aD t e)).1),T.ao,T.ab 3 c.ed (aI c.ds),T.ab 5 c.en (aV c.ns),T.ab 1 c.eh (enc c.hs),T.str c.p,T.ab 1 c.es (enc c.ss),T.ao,T.ao,RW ((aU br M (aD t d) (aD t e)).2).N,T.ao,T.ab 1 t.bits.isEmpty (bd t.bits),T.ab 1 t.to.isEmpty (enc t.to),EM ((aU br M (aD t d) (aD t e)).2).K]:=by
 have hl:=fP n;have z: 0<=(i:Int)/\(i:Int) < (c.ns.length:Int):=by have:=(My.1 o).1;omega
 obtain⟨u,B,v⟩:=q.word m n;obtain⟨w,C,y⟩:=r.word m n;have f:=iu (c:=c) (t:=t) (M:=M) (x:=x) (j:=0) (k:=d) (by rw [h];rfl) q.h0 u;have g:=iu (c:=c) (t:=t) (M:=M) (x:=x) (j:=1) (k:=e) (by rw [h];rfl) r.h0 w;rw [l] at f g;replace f:Or (.call 60) [I 0,r0,r1] _=_:=f;replace g:Or (.call 60) [I 1,r0,r1] _=_:=g;have A:=KU m.ok (ea:=(aD t d).isEmpty) (eb:=(aD t e).isEmpty) (a:=aD t d) (b:=aD t e) (by omega) (by omega) v y (by omega);refine ah ?_;rw [kg];simp (maxSteps:=1000000) only [ai,↓reduceIte,Int.reduceBEq,Int.reduceEq,z,and_self,dm,eA o,l,f,g,A,aT,aS,Mw,aR,aO,cJ,cK,cx];rfl
theorem Ku{c:Cx}{t:Tr}{M:Mk}{x:Nd}{i:Nat}{s:Int}(o:c.ns[i]? =some x)(l:x.op=20){d e:Int}(h:x.ks= [d,e])(q:KW c i d s)(r:KW c i e s)(n:aH s=true)(m:de c t M i)(D:M.N.length<=40000):
  Or (.call 32) [r0,I (i:Int)] [ad.box [AV.ref (Id.c 1) 0,AV.t (T.ab 3 c.ed (aI c.ds)),AV.t (T.ab 5 c.en (aV c.ns)),AV.t (T.ab 1 c.eh (enc c.hs)),AV.t (T.str c.p),AV.t (T.ab 1 c.es (enc c.ss)),AV.own (Id.c 2),AV.own (Id.c 3)],ad.box [AV.own (Id.c 4),AV.own (Id.c 5)],ad.sl false 1 t.bits.isEmpty (bd t.bits),ad.sl false 1 t.to.isEmpty (enc t.to),ad.rows M.N.isEmpty 5 1 1 M.N.length (rows M.N),ad.mp false [Ck.s] (Ck.i .i64) (bV M.K)]=some [T.ab 1 (dv M (aD t d) (aD t e)).1.isEmpty (enc (dv M (aD t d) (aD t e)).1),T.ao,T.ab 3 c.ed (aI c.ds),T.ab 5 c.en (aV c.ns),T.ab 1 c.eh (enc c.hs),T.str c.p,T.ab 1 c.es (enc c.ss),T.ao,T.ao,RW ((dv M (aD t d) (aD t e)).2).N,T.ao,T.ab 1 t.bits.isEmpty (bd t.bits),T.ab 1 t.to.isEmpty (enc t.to),EM ((dv M (aD t d) (aD t e)).2).K]:=by
 have hl:=fP n;have z: 0<=(i:Int)/\(i:Int) < (c.ns.length:Int):=by have:=(My.1 o).1;omega
 obtain⟨u,B,v⟩:=q.word m n;obtain⟨w,C,y⟩:=r.word m n;have f:=iu (c:=c) (t:=t) (M:=M) (x:=x) (j:=0) (k:=d) (by rw [h];rfl) q.h0 u;have g:=iu (c:=c) (t:=t) (M:=M) (x:=x) (j:=1) (k:=e) (by rw [h];rfl) r.h0 w;rw [l] at f g;replace f:Or (.call 60) [I 0,r0,r1] _=_:=f;replace g:Or (.call 60) [I 1,r0,r1] _=_:=g;have A:=C7 m.ok (ea:=(aD t d).isEmpty) (eb:=(aD t e).isEmpty) (a:=aD t d) (b:=aD t e) (by omega) (by omega) v y (by omega);refine ah ?_;rw [kg];simp (maxSteps:=1000000) only [ai,↓reduceIte,Int.reduceBEq,Int.reduceEq,z,and_self,dm,eA o,l,f,g,A,aT,aS,Mw,aR,aO,cJ,cK,cx];rfl
theorem Kv{c:Cx}{t:Tr}{M:Mk}{x:Nd}{i:Nat}{s:Int}(o:c.ns[i]? =some x)(l:x.op=21){d e:Int}(h:x.ks= [d,e])(q:KW c i d s)(r:KW c i e s)(n:aH s=true)(m:de c t M i)(D:M.N.length<=40000):
  Or (.call 32) [r0,I (i:Int)] [ad.box [AV.ref (Id.c 1) 0,AV.t (T.ab 3 c.ed (aI c.ds)),AV.t (T.ab 5 c.en (aV c.ns)),AV.t (T.ab 1 c.eh (enc c.hs)),AV.t (T.str c.p),AV.t (T.ab 1 c.es (enc c.ss)),AV.own (Id.c 2),AV.own (Id.c 3)],ad.box [AV.own (Id.c 4),AV.own (Id.c 5)],ad.sl false 1 t.bits.isEmpty (bd t.bits),ad.sl false 1 t.to.isEmpty (enc t.to),ad.rows M.N.isEmpty 5 1 1 M.N.length (rows M.N),ad.mp false [Ck.s] (Ck.i .i64) (bV M.K)]=some [T.ab 1 (iS M (aD t d) (aD t e)).1.isEmpty (enc (iS M (aD t d) (aD t e)).1),T.ao,T.ab 3 c.ed (aI c.ds),T.ab 5 c.en (aV c.ns),T.ab 1 c.eh (enc c.hs),T.str c.p,T.ab 1 c.es (enc c.ss),T.ao,T.ao,RW ((iS M (aD t d) (aD t e)).2).N,T.ao,T.ab 1 t.bits.isEmpty (bd t.bits),T.ab 1 t.to.isEmpty (enc t.to),EM ((iS M (aD t d) (aD t e)).2).K]:=by
 have hl:=fP n;have z: 0<=(i:Int)/\(i:Int) < (c.ns.length:Int):=by have:=(My.1 o).1;omega
 obtain⟨u,B,v⟩:=q.word m n;obtain⟨w,C,y⟩:=r.word m n;have f:=iu (c:=c) (t:=t) (M:=M) (x:=x) (j:=0) (k:=d) (by rw [h];rfl) q.h0 u;have g:=iu (c:=c) (t:=t) (M:=M) (x:=x) (j:=1) (k:=e) (by rw [h];rfl) r.h0 w;rw [l] at f g;replace f:Or (.call 60) [I 0,r0,r1] _=_:=f;replace g:Or (.call 60) [I 1,r0,r1] _=_:=g;have A:=KX m.ok (ea:=(aD t d).isEmpty) (eb:=(aD t e).isEmpty) (a:=aD t d) (b:=aD t e) (by omega) (by omega) (by omega) v y (by omega);refine ah ?_;rw [kg];simp (maxSteps:=1000000) only [ai,↓reduceIte,Int.reduceBEq,Int.reduceEq,z,and_self,dm,eA o,l,f,g,A,aT,aS,Mw,aR,aO,cJ,cK,cx];rfl
theorem Kw{c:Cx}{t:Tr}{M:Mk}{x:Nd}{i:Nat}{s:Int}(l:c.ns[i]? =some x)(e:x.op=23){b:Int}(f:x.ks= [b])(m:KW c i b s)(r: 0<=x.n/\x.n<=8)(h:aH s=true)(g:de c t M i)(y:M.N.length<=40000):
  Or (.call 32) [r0,I (i:Int)] [ad.box [AV.ref (Id.c 1) 0,AV.t (T.ab 3 c.ed (aI c.ds)),AV.t (T.ab 5 c.en (aV c.ns)),AV.t (T.ab 1 c.eh (enc c.hs)),AV.t (T.str c.p),AV.t (T.ab 1 c.es (enc c.ss)),AV.own (Id.c 2),AV.own (Id.c 3)],ad.box [AV.own (Id.c 4),AV.own (Id.c 5)],ad.sl false 1 t.bits.isEmpty (bd t.bits),ad.sl false 1 t.to.isEmpty (enc t.to),ad.rows M.N.isEmpty 5 1 1 M.N.length (rows M.N),ad.mp false [Ck.s] (Ck.i .i64) (bV M.K)]=some [T.ab 1 (bq M (aD t b) x.n).1.isEmpty (enc (bq M (aD t b) x.n).1),T.ao,T.ab 3 c.ed (aI c.ds),T.ab 5 c.en (aV c.ns),T.ab 1 c.eh (enc c.hs),T.str c.p,T.ab 1 c.es (enc c.ss),T.ao,T.ao,RW ((bq M (aD t b) x.n).2).N,T.ao,T.ab 1 t.bits.isEmpty (bd t.bits),T.ab 1 t.to.isEmpty (enc t.to),EM ((bq M (aD t b) x.n).2).K]:=by
 have hl:=fP h;have q: 0<=(i:Int)/\(i:Int) < (c.ns.length:Int):=by have:=(My.1 l).1;omega
 obtain⟨o,v,w⟩:=m.word g h;have d:=iu (c:=c) (t:=t) (M:=M) (x:=x) (j:=0) (k:=b) (by rw [f];rfl) m.h0 o;rw [e] at d;replace d:Or (.call 60) [I 0,r0,r1] _=_:=d;have u:=xA g.ok (ea:=(aD t b).isEmpty) (a:=aD t b) (n:=x.n) r.1 (by omega) (by omega) (by omega);refine ah ?_;rw [kg];simp (maxSteps:=1000000) only [ai,↓reduceIte,Int.reduceBEq,Int.reduceEq,q,and_self,dm,eA l,e,d,u,aT,aS,Mw,aR,aO,cJ,cK,cx];rfl
theorem Kx{c:Cx}{t:Tr}{M:Mk}{x:Nd}{i:Nat}{s s0:Int}(r:c.ns[i]? =some x)(n:x.op=7){d e f:Int}(g:x.ks= [d,e,f])(v:KW c i d s0)(q:aH s0=false)(w:KW c i e s)(y:KW c i f s)(o:aH s=true)(h:de c t M i)(P:M.N.length<=40000):
  Or (.call 32) [r0,I (i:Int)] [ad.box [AV.ref (Id.c 1) 0,AV.t (T.ab 3 c.ed (aI c.ds)),AV.t (T.ab 5 c.en (aV c.ns)),AV.t (T.ab 1 c.eh (enc c.hs)),AV.t (T.str c.p),AV.t (T.ab 1 c.es (enc c.ss)),AV.own (Id.c 2),AV.own (Id.c 3)],ad.box [AV.own (Id.c 4),AV.own (Id.c 5)],ad.sl false 1 t.bits.isEmpty (bd t.bits),ad.sl false 1 t.to.isEmpty (enc t.to),ad.rows M.N.isEmpty 5 1 1 M.N.length (rows M.N),ad.mp false [Ck.s] (Ck.i .i64) (bV M.K)]=some [T.ab 1 false (enc (aU (cW (bA t d)) M (aD t e) (aD t f)).1),T.ao,T.ab 3 c.ed (aI c.ds),T.ab 5 c.en (aV c.ns),T.ab 1 c.eh (enc c.hs),T.str c.p,T.ab 1 c.es (enc c.ss),T.ao,T.ao,RW ((aU (cW (bA t d)) M (aD t e) (aD t f)).2).N,T.ao,T.ab 1 t.bits.isEmpty (bd t.bits),T.ab 1 t.to.isEmpty (enc t.to),EM ((aU (cW (bA t d)) M (aD t e) (aD t f)).2).K]:=by
 have hl:=fP o;have E: 0<=(i:Int)/\(i:Int) < (c.ns.length:Int):=by have:=(My.1 r).1;omega
 obtain⟨_,u,H⟩:=v.plain h q;obtain⟨z,L,A⟩:=w.word h o;obtain⟨B,O,C⟩:=y.word h o;have l:=iu (c:=c) (t:=t) (M:=M) (x:=x) (j:=1) (k:=e) (by rw [g];rfl) w.h0 z;have m:=iu (c:=c) (t:=t) (M:=M) (x:=x) (j:=2) (k:=f) (by rw [g];rfl) y.h0 B;rw [n] at l m;replace l:Or (.call 60) [I 1,r0,r1] _=_:=l;replace m:Or (.call 60) [I 2,r0,r1] _=_:=m;have J:=KR (c:=c) (t:=t) h.ok H (ea:=(aD t e).isEmpty) (eb:=(aD t f).isEmpty) (a:=aD t e) (b:=aD t f) (by omega) (by omega) (by omega) A C (by omega);have F:(0:Int)<=0/\(0:Int) < ((x.ks.length:Nat):Int):=by rw [g];simp
 have D:(enc x.ks)[0]? =some [ti d]:=by rw [g];rfl
 have G: 0<=d/\d < (t.to.length:Int):=by have:=(My.1 u).1;have:=v.h0;omega
 refine ah ?_;rw [kg];simp (maxSteps:=1000000) only [ai,↓reduceIte,Int.reduceBEq,Int.reduceEq,E,F,G,and_self,dm,eA r,n,aC,D,eB u,l,m,J,aT,aS,Mw,aR,aO,cJ,cK,cx];rfl
def iX(n:Int)(b:Nat):Bool:=i64.wrap (((BitVec.ofInt 64 (n.fdiv (2 ^ min ((b:Int)).toNat 64)) &&& BitVec.ofInt 64 1).toNat:Nat):Int)==1
def eO(M:Mk)(n:Int):Nat->Nat->List Int×Mk
 | _,0=>([],M)
 | b,k+1=>((cI M (iX n b)).1:: (eO (cI M (iX n b)).2 n (b+1) k).1,(eO (cI M (iX n b)).2 n (b+1) k).2)
theorem yI{n:Int}:∀{k b:Nat} {M:Mk},Ok M->Up M (eO M n b k).2 k/\(∀x∈(eO M n b k).1,In (eO M n b k).2 x)/\(eO M n b k).1.length=k
 | 0,b,M,h=>⟨Up.refl h,λx i=>(by cases i),rfl⟩
 | k+1,b,M,h=>by
  obtain⟨c,e⟩:=ic h (iX n b);obtain⟨d,f,g⟩:=yI (n:=n) (k:=k) (b:=b+1) c.ok;refine⟨(c.trans d).mono (by omega),λz a=> ?_,by simp [eO,g]⟩;rcases MN.1 a with rfl | a
  .exact d.In e
  .exact f z a
theorem IF{c:Cx}{t:Tr}{x:Nd}{w:Nat}(v:w<=100):∀(k b:Nat) (M:Mk) (a:List Int),b+k=w->Ok M->M.N.length+k<=60000->a.length=b->
  Or mP [AV.ref (Id.c 6) 0,AV.ref (Id.c 7) 0,AV.own (Id.c 8),I (w:Int),I (b:Int)] [ad.box [AV.ref (Id.c 1) 0,AV.t (T.ab 3 c.ed (aI c.ds)),AV.t (T.ab 5 c.en (aV c.ns)),AV.t (T.ab 1 c.eh (enc c.hs)),AV.t (T.str c.p),AV.t (T.ab 1 c.es (enc c.ss)),AV.own (Id.c 2),AV.own (Id.c 3)],ad.box [AV.own (Id.c 9),AV.own (Id.c 5)],ad.sl false 1 t.bits.isEmpty (bd t.bits),ad.sl false 1 t.to.isEmpty (enc t.to),ad.dead,ad.mp false [Ck.s] (Ck.i .i64) (bV M.K),ad.box [r0],ad.box [I x.op,ab x.ek x.ks,I x.n,I x.d,AV.t (T.str x.nm)],ad.sl false 1 false (enc a),ad.rows M.N.isEmpty 5 1 1 M.N.length (rows M.N)]=
   some [T.ab 1 false (enc (a++ (eO M x.n b k).1)),T.ao,T.ab 3 c.ed (aI c.ds),T.ab 5 c.en (aV c.ns),T.ab 1 c.eh (enc c.hs),T.str c.p,T.ab 1 c.es (enc c.ss),T.ao,T.ao,RW ((eO M x.n b k).2).N,T.ao,T.ab 1 t.bits.isEmpty (bd t.bits),T.ab 1 t.to.isEmpty (enc t.to),EM ((eO M x.n b k).2).K]:=by
 intro k;induction k with
 | zero=>
  intro b M a o h m e;have f:¬(b:Int) < (w:Int):=by omega
  refine ah ?_;rw [zn];simp only [ai,↓reduceIte,Int.reduceBEq,Int.reduceEq,f,aT,aS,Mw,aR,aO,cJ,cK,cx,eO,MU];rfl
 | succ k q=>
  intro b M a o h m e;have f:(b:Int) < (w:Int):=by omega
  have l:¬(b:Int) < 0:=by omega
  have r:=kF (show M.N.length<=100000 by omega) (iX x.n b);obtain⟨j,y⟩:=ic h (iX x.n b);have u:bg 8 (a.length+1)=some ():=cm (by omega);have g:=q (b+1) _ (a++ [(cI M (iX x.n b)).1]) (by omega) j.ok (by have:=j.up;omega) (by simp [e]);simp only [MY,M5] at g;rw [eO];refine ah ?_;rw [zn];simp only [aP,aX,f,l,decide_true,cond_true,↓reduceIte];change aa none (Or (.call 65) [r0,B (iX x.n b)] _) _=_;simp only [ai,↓reduceIte,Int.reduceBEq,Int.reduceEq,r,aC,MC,u,next b (by omega),dP,aT,aS,Mw,aR,aO,cJ,cK,cx];exact g
theorem Kp{c:Cx}{t:Tr}{M:Mk}{x:Nd}{i:Nat}(f:c.ns[i]? =some x)(b:x.op=15)(y: 1<=x.d/\x.d<=8)(q:de c t M i)(v:M.N.length<=40000):
  Or (.call 32) [r0,I (i:Int)] [ad.box [AV.ref (Id.c 1) 0,AV.t (T.ab 3 c.ed (aI c.ds)),AV.t (T.ab 5 c.en (aV c.ns)),AV.t (T.ab 1 c.eh (enc c.hs)),AV.t (T.str c.p),AV.t (T.ab 1 c.es (enc c.ss)),AV.own (Id.c 2),AV.own (Id.c 3)],ad.box [AV.own (Id.c 4),AV.own (Id.c 5)],ad.sl false 1 t.bits.isEmpty (bd t.bits),ad.sl false 1 t.to.isEmpty (enc t.to),ad.rows M.N.isEmpty 5 1 1 M.N.length (rows M.N),ad.mp false [Ck.s] (Ck.i .i64) (bV M.K)]=some [T.ab 1 false (enc (eO M x.n 0 x.d.toNat).1),T.ao,T.ab 3 c.ed (aI c.ds),T.ab 5 c.en (aV c.ns),T.ab 1 c.eh (enc c.hs),T.str c.p,T.ab 1 c.es (enc c.ss),T.ao,T.ao,RW ((eO M x.n 0 x.d.toNat).2).N,T.ao,T.ab 1 t.bits.isEmpty (bd t.bits),T.ab 1 t.to.isEmpty (enc t.to),EM ((eO M x.n 0 x.d.toNat).2).K]:=by
 have l: 0<=(i:Int)/\(i:Int) < (c.ns.length:Int):=by have:=(My.1 f).1;omega
 obtain⟨k,o⟩:∃k:Nat,x.d.toNat=k+1:=⟨x.d.toNat - 1,by omega⟩;have e:x.d= ((k+1:Nat):Int):=by omega
 have a:Or mP [AV.ref (Id.c 6) 0,AV.ref (Id.c 7) 0,AV.t (T.af true),I x.d,I 0] [ad.box [AV.ref (Id.c 1) 0,AV.t (T.ab 3 c.ed (aI c.ds)),AV.t (T.ab 5 c.en (aV c.ns)),AV.t (T.ab 1 c.eh (enc c.hs)),AV.t (T.str c.p),AV.t (T.ab 1 c.es (enc c.ss)),AV.own (Id.c 2),AV.own (Id.c 3)],ad.box [AV.own (Id.c 4),AV.own (Id.c 5)],ad.sl false 1 t.bits.isEmpty (bd t.bits),ad.sl false 1 t.to.isEmpty (enc t.to),ad.rows M.N.isEmpty 5 1 1 M.N.length (rows M.N),ad.mp false [Ck.s] (Ck.i .i64) (bV M.K),ad.box [r0],ad.box [I x.op,ab x.ek x.ks,I x.n,I x.d,AV.t (T.str x.nm)]]=
   some [T.ab 1 false (enc (eO M x.n 0 (k+1)).1),T.ao,T.ab 3 c.ed (aI c.ds),T.ab 5 c.en (aV c.ns),T.ab 1 c.eh (enc c.hs),T.str c.p,T.ab 1 c.es (enc c.ss),T.ao,T.ao,RW ((eO M x.n 0 (k+1)).2).N,T.ao,T.ab 1 t.bits.isEmpty (bd t.bits),T.ab 1 t.to.isEmpty (enc t.to),EM ((eO M x.n 0 (k+1)).2).K]:=by
  have j:(0:Int) < x.d:=by omega
  have m:¬(0:Int) < 0:=by omega
  have r:=kF (show M.N.length<=100000 by omega) (iX x.n 0);obtain⟨h,z⟩:=ic q.ok (iX x.n 0);have u:i64.wrap (0+1)= ((1:Nat):Int):=by decide
  have g:=IF (c:=c) (t:=t) (x:=x) (w:=k+1) (by omega) k 1 _ [(cI M (iX x.n 0)).1] (by omega) h.ok (by have:=h.up;omega) rfl;rw [<-e] at g;rw [eO];refine ah ?_;rw [Ft];simp only [aP,aX,j,m,decide_true,cond_true,↓reduceIte];change aa none (Or (.call 65) [r0,B (iX x.n 0)] _) _=_;simp only [ai,↓reduceIte,Int.reduceBEq,Int.reduceEq,r,u,aT,aS,Mw,aR,aO,cJ,cK,cx];exact g
 rw [o];refine ah ?_;rw [kg];simp (maxSteps:=1000000) only [ai,↓reduceIte,Int.reduceBEq,Int.reduceEq,l,and_self,dm,eA f,b];rw [b] at a;exact a
def eV(M:Mk):List Int->List Int×Mk
 | y::l=>((gq M y).1:: (eV (gq M y).2 l).1,(eV (gq M y).2 l).2)
 | []=>([],M)
theorem B2:∀{l:List Int} {M:Mk},Ok M->(∀y∈l,In M y)->
  Up M (eV M l).2 l.length/\(∀y∈(eV M l).1,In (eV M l).2 y)/\(eV M l).1.length=l.length
 | [],M,h,_=>⟨Up.refl h,λx g=>(by cases g),rfl⟩
 | y::l,M,h,hl=>by
  obtain⟨b,d⟩:=nG h (hl y Mv);obtain⟨c,e,f⟩:=B2 (l:=l) b.ok (b.all λz a=>hl z (Mx _ a));refine⟨(b.trans c).mono (by rw [ME];omega),λz a=> ?_,by simp [eV,f]⟩;rcases MN.1 a with rfl | a
  .exact c.In d
  .exact e z a
theorem IH{c:Cx}{t:Tr}{e:Bool}{l:List Int}(hl:l.length<=100):∀(r:List Int) (j:Nat) (M:Mk) (a:List Int),l.drop j=r->j<=l.length->Ok M->(∀y∈r,In M y)->M.N.length+r.length<=60000->a.length=j->
  Or n7 [AV.ref (Id.c 6) 0,AV.own (Id.c 7),ab e l,I (l.length:Int),I (j:Int)] [ad.box [AV.ref (Id.c 1) 0,AV.t (T.ab 3 c.ed (aI c.ds)),AV.t (T.ab 5 c.en (aV c.ns)),AV.t (T.ab 1 c.eh (enc c.hs)),AV.t (T.str c.p),AV.t (T.ab 1 c.es (enc c.ss)),AV.own (Id.c 2),AV.own (Id.c 3)],ad.box [AV.own (Id.c 8),AV.own (Id.c 5)],ad.sl false 1 t.bits.isEmpty (bd t.bits),ad.sl false 1 t.to.isEmpty (enc t.to),ad.dead,ad.mp false [Ck.s] (Ck.i .i64) (bV M.K),ad.box [r0],ad.sl false 1 false (enc a),ad.rows M.N.isEmpty 5 1 1 M.N.length (rows M.N)]=
   some [T.ab 1 false (enc (a++ (eV M r).1)),T.ao,T.ab 3 c.ed (aI c.ds),T.ab 5 c.en (aV c.ns),T.ab 1 c.eh (enc c.hs),T.str c.p,T.ab 1 c.es (enc c.ss),T.ao,T.ao,RW ((eV M r).2).N,T.ao,T.ab 1 t.bits.isEmpty (bd t.bits),T.ab 1 t.to.isEmpty (enc t.to),EM ((eV M r).2).K]:=by
 intro r;induction r with
 | nil=>
  intro j M a g v h k n b;have f:¬(j:Int) < (l.length:Int):=by have:=bh g;omega
  refine ah ?_;rw [zo];simp only [ai,↓reduceIte,Int.reduceBEq,Int.reduceEq,f,aT,aS,Mw,aR,aO,cJ,cK,cx,eV,MU];rfl
 | cons y r w=>
  intro j M a g v h k n b;obtain⟨q,B,u⟩:=bp g;have f:(j:Int) < (l.length:Int):=by omega
  have h0: 0<=(j:Int):=by omega
  have o:=k y Mv;rw [ME] at n;have x:=pC h (show M.N.length<=100000 by omega) o;obtain⟨m,C⟩:=nG h o;have A:bg 8 (a.length+1)=some ():=cm (by omega);have d:=w (j+1) _ (a++ [(gq M y).1]) u (by omega) m.ok (m.all λz d=>k z (Mx _ d)) (by have:=m.up;omega) (by simp [b]);simp only [MY,M5] at d;rw [eV];refine ah ?_;rw [zo];simp only [ai,↓reduceIte,Int.reduceBEq,Int.reduceEq,f,h0,and_self,x,aC,bD q,MC,A,next j (by omega),dP,aT,aS,Mw,aR,aO,cJ,cK,cx];exact d
theorem Kq{c:Cx}{t:Tr}{M:Mk}{x:Nd}{i:Nat}{s:Int}(A:c.ns[i]? =some x)(h:x.op=16){a:Int}(u:x.ks= [a])(g:KW c i a s)(w:aH s=true)(n:de c t M i)(G:M.N.length<=40000):
  Or (.call 32) [r0,I (i:Int)] [ad.box [AV.ref (Id.c 1) 0,AV.t (T.ab 3 c.ed (aI c.ds)),AV.t (T.ab 5 c.en (aV c.ns)),AV.t (T.ab 1 c.eh (enc c.hs)),AV.t (T.str c.p),AV.t (T.ab 1 c.es (enc c.ss)),AV.own (Id.c 2),AV.own (Id.c 3)],ad.box [AV.own (Id.c 4),AV.own (Id.c 5)],ad.sl false 1 t.bits.isEmpty (bd t.bits),ad.sl false 1 t.to.isEmpty (enc t.to),ad.rows M.N.isEmpty 5 1 1 M.N.length (rows M.N),ad.mp false [Ck.s] (Ck.i .i64) (bV M.K)]=some [T.ab 1 false (enc (eV M (aD t a)).1),T.ao,T.ab 3 c.ed (aI c.ds),T.ab 5 c.en (aV c.ns),T.ab 1 c.eh (enc c.hs),T.str c.p,T.ab 1 c.es (enc c.ss),T.ao,T.ao,RW ((eV M (aD t a)).2).N,T.ao,T.ab 1 t.bits.isEmpty (bd t.bits),T.ab 1 t.to.isEmpty (enc t.to),EM ((eV M (aD t a)).2).K]:=by
 have hl:=fP w;have F: 0<=(i:Int)/\(i:Int) < (c.ns.length:Int):=by have:=(My.1 A).1;omega
 obtain⟨C,m,b⟩:=g.word n w;have f:=iu (c:=c) (t:=t) (M:=M) (x:=x) (j:=0) (k:=a) (by rw [u];rfl) g.h0 C;rw [h] at f;replace f:Or (.call 60) [I 0,r0,r1] _=_:=f
 have d:Or n7 [AV.ref (Id.c 6) 0,AV.t (T.af true),ab (aD t a).isEmpty (aD t a),I ((aD t a).length:Int),I 0] [ad.box [AV.ref (Id.c 1) 0,AV.t (T.ab 3 c.ed (aI c.ds)),AV.t (T.ab 5 c.en (aV c.ns)),AV.t (T.ab 1 c.eh (enc c.hs)),AV.t (T.str c.p),AV.t (T.ab 1 c.es (enc c.ss)),AV.own (Id.c 2),AV.own (Id.c 3)],ad.box [AV.own (Id.c 7),AV.own (Id.c 5)],ad.sl false 1 t.bits.isEmpty (bd t.bits),ad.sl false 1 t.to.isEmpty (enc t.to),ad.dead,ad.mp false [Ck.s] (Ck.i .i64) (bV M.K),ad.box [r0],ad.rows M.N.isEmpty 5 1 1 M.N.length (rows M.N)]=
   some [T.ab 1 false (enc (eV M (aD t a)).1),T.ao,T.ab 3 c.ed (aI c.ds),T.ab 5 c.en (aV c.ns),T.ab 1 c.eh (enc c.hs),T.str c.p,T.ab 1 c.es (enc c.ss),T.ao,T.ao,RW ((eV M (aD t a)).2).N,T.ao,T.ab 1 t.bits.isEmpty (bd t.bits),T.ab 1 t.to.isEmpty (enc t.to),EM ((eV M (aD t a)).2).K]:=by
  revert m b;generalize aD t a=l;intro m b;cases l with
  | nil=>simp at m;omega
  | cons y r=>
   have B:=b y Mv;have a:=pC n.ok (show M.N.length<=100000 by omega) B;obtain⟨q,H⟩:=nG n.ok B;have E:(0:Int) < (((y::r).length:Nat):Int):=by simp
   have h0:(0:Int)<=0:=by omega
   have D:(enc (y::r))[(0:Int).toNat]? =some [ti y]:=rfl;have g:i64.wrap (0+1)= ((1:Nat):Int):=by decide
   have v:((y::r).length:Int)<=8:=by omega
   have o:=IH (c:=c) (t:=t) (e:=(y::r).isEmpty) (l:=y::r) (by omega) r 1 _ [(gq M y).1] rfl (by simp) q.ok (q.all λz o=>b z (Mx _ o)) (by have:=q.up;rw [ME] at v;omega) rfl;rw [eV];refine ah ?_;rw [Fu];simp only [ai,↓reduceIte,Int.reduceBEq,Int.reduceEq,E,h0,and_self,a,aC,D,g,aT,aS,Mw,aR,aO,cJ,cK,cx];exact o
 refine ah ?_;rw [kg];simp (maxSteps:=1000000) only [ai,↓reduceIte,Int.reduceBEq,Int.reduceEq,F,and_self,dm,eA A,h,f,aC,aT,aS,Mw,aR,aO,cJ,cK,cx];exact d
open Go Go.Aev Go.IntKind
def jU(M:Mk)(a:Int):List Int->Int×Mk
 | []=>(a,M)
 | y::l=>jU (cf M a y).2 (cf M a y).1 l
theorem x7:∀{l:List Int} {M:Mk} {a:Int},Ok M->In M a->(∀y∈l,In M y)->Up M (jU M a l).2 l.length/\In (jU M a l).2 (jU M a l).1
 | [],M,a,h,c,_=>⟨Up.refl h,c⟩
 | y::l,M,a,h,c,hl=>by obtain⟨b,d⟩:=fK h c (hl y Mv);obtain⟨e,f⟩:=x7 (l:=l) b.ok d (b.all λz g=>hl z (Mx _ g));exact⟨(b.trans e).mono (by rw [ME];omega),f⟩
def nO(M:Mk)(a b:List Int):Int×Mk:=
 jU (aU dE (cI M true).2 a b).2 (cI M true).1 (aU dE (cI M true).2 a b).1
theorem Ly{M:Mk}(h:Ok M){a b:List Int}(j:a.length=b.length)(g:∀x∈a,In M x)(i:∀x∈b,In M x):Up M (nO M a b).2 (1+ (1 * a.length+a.length))/\In (nO M a b).2 (nO M a b).1:=by obtain⟨d,n⟩:=ic h true;obtain⟨e,l,e3⟩:=oJ (f:=dE) (c:=1) (λM a b h g i=>nA h g i) d.ok (d.all g) (d.all i) j;obtain⟨k,m⟩:=x7 e.ok (e.In n) l;rw [e3] at k;exact⟨d.trans (e.trans k),m⟩
theorem II{c:Cx}{t:Tr}{e:Bool}{l:List Int}(hl:l.length<=100):∀(r:List Int) (j:Nat) (M:Mk) (a:Int),l.drop j=r->Ok M->In M a->(∀y∈r,In M y)->M.N.length+r.length<=60000->
  Or uG [r0,I a,ab e l,I (l.length:Int),I (j:Int)] [ad.box [AV.ref (Id.c 1) 0,AV.t (T.ab 3 c.ed (aI c.ds)),AV.t (T.ab 5 c.en (aV c.ns)),AV.t (T.ab 1 c.eh (enc c.hs)),AV.t (T.str c.p),AV.t (T.ab 1 c.es (enc c.ss)),AV.own (Id.c 2),AV.own (Id.c 3)],ad.box [AV.own (Id.c 6),AV.own (Id.c 5)],ad.sl false 1 t.bits.isEmpty (bd t.bits),ad.sl false 1 t.to.isEmpty (enc t.to),ad.dead,ad.mp false [Ck.s] (Ck.i .i64) (bV M.K),ad.rows M.N.isEmpty 5 1 1 M.N.length (rows M.N)]=some [ti (jU M a r).1,T.ao,T.ab 3 c.ed (aI c.ds),T.ab 5 c.en (aV c.ns),T.ab 1 c.eh (enc c.hs),T.str c.p,T.ab 1 c.es (enc c.ss),T.ao,T.ao,RW ((jU M a r).2).N,T.ao,T.ab 1 t.bits.isEmpty (bd t.bits),T.ab 1 t.to.isEmpty (enc t.to),EM ((jU M a r).2).K]:=by
 intro r;induction r with
 | nil=>
  intro j M a g h d f n;have b:¬(j:Int) < (l.length:Int):=by have:=bh g;omega
  refine ah ?_;rw [zu];simp only [ai,↓reduceIte,Int.reduceBEq,Int.reduceEq,b,aT,aS,Mw,aR,aO,cJ,cK,cx,jU];rfl
 | cons y r v=>
  intro j M a g h d f n;obtain⟨q,A,u⟩:=bp g;have b:(j:Int) < (l.length:Int):=by omega
  have h0: 0<=(j:Int):=by omega
  have o:=f y Mv;rw [ME] at n;have w:=jN (show M.N.length<=100000 by omega) d o;obtain⟨m,x⟩:=fK h d o;have k:=v (j+1) _ _ u m.ok x (m.all λz k=>f z (Mx _ k)) (by have:=m.up;omega);rw [jU];refine ah ?_;rw [zu];simp only [ai,↓reduceIte,Int.reduceBEq,Int.reduceEq,b,h0,and_self,w,aC,bD q,next j (by omega),aT,aS,Mw,aR,aO,cJ,cK,cx];exact k
theorem Kz{c:Cx}{t:Tr}{M:Mk}{x:Nd}{i:Nat}{s:Int}(m:c.ns[i]? =some x)(l:x.op=22){d e:Int}(f:x.ks= [d,e])(n:KW c i d s)(o:KW c i e s)(h:aH s=true)(g:de c t M i)(H:M.N.length<=40000):
  Or (.call 33) [r0,I (i:Int)] [ad.box [AV.ref (Id.c 1) 0,AV.t (T.ab 3 c.ed (aI c.ds)),AV.t (T.ab 5 c.en (aV c.ns)),AV.t (T.ab 1 c.eh (enc c.hs)),AV.t (T.str c.p),AV.t (T.ab 1 c.es (enc c.ss)),AV.own (Id.c 2),AV.own (Id.c 3)],ad.box [AV.own (Id.c 4),AV.own (Id.c 5)],ad.sl false 1 t.bits.isEmpty (bd t.bits),ad.sl false 1 t.to.isEmpty (enc t.to),ad.rows M.N.isEmpty 5 1 1 M.N.length (rows M.N),ad.mp false [Ck.s] (Ck.i .i64) (bV M.K)]=some [ti (kx M (aD t d) (aD t e)).1,T.ao,T.ab 3 c.ed (aI c.ds),T.ab 5 c.en (aV c.ns),T.ab 1 c.eh (enc c.hs),T.str c.p,T.ab 1 c.es (enc c.ss),T.ao,T.ao,RW ((kx M (aD t d) (aD t e)).2).N,T.ao,T.ab 1 t.bits.isEmpty (bd t.bits),T.ab 1 t.to.isEmpty (enc t.to),EM ((kx M (aD t d) (aD t e)).2).K]:=by
 have hl:=fP h;have z: 0<=(i:Int)/\(i:Int) < (c.ns.length:Int):=by have:=(My.1 m).1;omega
 obtain⟨j,F,q⟩:=n.word g h;obtain⟨k,G,r⟩:=o.word g h;have E:=(C8 g.ok (ea:=(aD t d).isEmpty) (eb:=(aD t e).isEmpty) (a:=aD t d) (b:=aD t e) (by omega) (by omega) q r (by omega)).1;have A:(0:Int)<=0/\(0:Int) < ((x.ks.length:Nat):Int):=by rw [f];simp
 have B:(0:Int)<=1/\(1:Int) < ((x.ks.length:Nat):Int):=by rw [f];simp
 have w:(enc x.ks)[0]? =some [ti d]:=by rw [f];rfl
 have y:(enc x.ks)[1]? =some [ti e]:=by rw [f];rfl
 have C: 0<=d/\d < (t.bits.length:Int):=by have:=(My.1 j).1;have:=n.h0;omega
 have D: 0<=e/\e < (t.bits.length:Int):=by have:=(My.1 k).1;have:=o.h0;omega
 have u:(bd t.bits)[d.toNat]? =some [LO (aD t d)]:=by simp [bd,j]
 have v:(bd t.bits)[e.toNat]? =some [LO (aD t e)]:=by simp [bd,k]
 refine ah ?_;rw [sJ];simp (maxSteps:=1000000) only [ai,↓reduceIte,Int.reduceBEq,Int.reduceEq,z,A,B,and_self,dm,eA m,l,aC,w,y,C,D,l7,u,v,E,aT,aS,Mw,aR,aO,cJ,cK,cx];rfl
theorem KA{c:Cx}{t:Tr}{M:Mk}{x:Nd}{i:Nat}{s:Int}(z:c.ns[i]? =some x)(y:x.op=8){d g:Int}(k:x.ks= [d,g])(C:KW c i d s)(D:KW c i g s)(o:aH s=true)(n:de c t M i)(Z:M.N.length<=40000):
  Or (.call 33) [r0,I (i:Int)] [ad.box [AV.ref (Id.c 1) 0,AV.t (T.ab 3 c.ed (aI c.ds)),AV.t (T.ab 5 c.en (aV c.ns)),AV.t (T.ab 1 c.eh (enc c.hs)),AV.t (T.str c.p),AV.t (T.ab 1 c.es (enc c.ss)),AV.own (Id.c 2),AV.own (Id.c 3)],ad.box [AV.own (Id.c 4),AV.own (Id.c 5)],ad.sl false 1 t.bits.isEmpty (bd t.bits),ad.sl false 1 t.to.isEmpty (enc t.to),ad.rows M.N.isEmpty 5 1 1 M.N.length (rows M.N),ad.mp false [Ck.s] (Ck.i .i64) (bV M.K)]=some [ti (nO M (aD t d) (aD t g)).1,T.ao,T.ab 3 c.ed (aI c.ds),T.ab 5 c.en (aV c.ns),T.ab 1 c.eh (enc c.hs),T.str c.p,T.ab 1 c.es (enc c.ss),T.ao,T.ao,RW ((nO M (aD t d) (aD t g)).2).N,T.ao,T.ab 1 t.bits.isEmpty (bd t.bits),T.ab 1 t.to.isEmpty (enc t.to),EM ((nO M (aD t d) (aD t g)).2).K]:=by
 have hl:=fP o;have L: 0<=(i:Int)/\(i:Int) < (c.ns.length:Int):=by have:=(My.1 z).1;omega
 obtain⟨q,r,u⟩:=C.word n o;obtain⟨v,Y,w⟩:=D.word n o;obtain⟨j,X⟩:=ic n.ok true;have V:=kF (show M.N.length<=100000 by omega) true;have B:=KV j.ok (ea:=(aD t d).isEmpty) (eb:=(aD t g).isEmpty) (a:=aD t d) (b:=aD t g) (by omega) (by omega) (j.all u) (j.all w) (by have:=j.up;omega);obtain⟨m,E,e3⟩:=oJ (f:=dE) (c:=1) (λM a b h Q R=>nA h Q R) j.ok (j.all u) (j.all w) (show(aD t d).length= (aD t g).length by omega);have W:=II (c:=c) (t:=t) (e:=(aU dE (cI M true).2 (aD t d) (aD t g)).1.isEmpty) (l:=(aU dE (cI M true).2 (aD t d) (aD t g)).1) (by omega) (aU dE (cI M true).2 (aD t d) (aD t g)).1 0 _ _ rfl m.ok (m.In X) E (by have:=j.up;have:=m.up;omega);have O:(0:Int)<=0/\(0:Int) < ((x.ks.length:Nat):Int):=by rw [k];simp
 have P:(0:Int)<=1/\(1:Int) < ((x.ks.length:Nat):Int):=by rw [k];simp
 have H:(enc x.ks)[0]? =some [ti d]:=by rw [k];rfl
 have J:(enc x.ks)[1]? =some [ti g]:=by rw [k];rfl
 have S: 0<=d/\d < (t.bits.length:Int):=by have:=(My.1 q).1;have:=C.h0;omega
 have U: 0<=g/\g < (t.bits.length:Int):=by have:=(My.1 v).1;have:=D.h0;omega
 have F:(bd t.bits)[d.toNat]? =some [LO (aD t d)]:=by simp [bd,q]
 have G:(bd t.bits)[g.toNat]? =some [LO (aD t g)]:=by simp [bd,v]
 have A:(aD t d).isEmpty=false:=by
  cases h:aD t d with
  | nil=>rw [h] at r;simp at r;omega
  | cons=>rfl
 rw [A] at B;refine ah ?_;rw [sJ];simp (maxSteps:=1000000) only [ai,↓reduceIte,Int.reduceBEq,Int.reduceEq,L,O,P,and_self,dm,eA z,y,aC,H,J,S,U,l7,F,G,V,B,A,MA,aT,aS,Mw,aR,aO,cJ,cK,cx];exact W
theorem IJ{c:Cx}{t:Tr}{M:Mk}{x:Nd}(h:Ok M)(J:M.N.length<=50000)(G:x.ks.length<=100)(m:∀k∈x.ks,0<=k/\t.to[k.toNat]? =some (bA t k)/\In M (bA t k))(ho:dI x.op)(B:dI x.n)(z:dI x.d)(hm:x.nm.size<=1000):∀(f:List Int) (j:Nat) (a:List Int),x.ks.drop j=f->j<=x.ks.length->a.length=j->a≠[]->a++f.map (bA t)=x.ks.map (bA t)->
  Or mR [r0,AV.ref (Id.c 6) 0,AV.own (Id.c 7),ab x.ek x.ks,I (x.ks.length:Int),I (j:Int)] [ad.box [AV.ref (Id.c 1) 0,AV.t (T.ab 3 c.ed (aI c.ds)),AV.t (T.ab 5 c.en (aV c.ns)),AV.t (T.ab 1 c.eh (enc c.hs)),AV.t (T.str c.p),AV.t (T.ab 1 c.es (enc c.ss)),AV.own (Id.c 2),AV.own (Id.c 3)],ad.box [AV.own (Id.c 4),AV.own (Id.c 5)],ad.sl false 1 t.bits.isEmpty (bd t.bits),ad.sl false 1 t.to.isEmpty (enc t.to),ad.rows M.N.isEmpty 5 1 1 M.N.length (rows M.N),ad.mp false [Ck.s] (Ck.i .i64) (bV M.K),ad.box [I x.op,ab x.ek x.ks,I x.n,I x.d,AV.t (T.str x.nm)],ad.sl false 1 false (enc a)]=some [ti (du M x.op x.nm x.n x.d (x.ks.map (bA t))).1,T.ao,T.ab 3 c.ed (aI c.ds),T.ab 5 c.en (aV c.ns),T.ab 1 c.eh (enc c.hs),T.str c.p,T.ab 1 c.es (enc c.ss),T.ao,T.ao,RW ((du M x.op x.nm x.n x.d (x.ks.map (bA t))).2).N,T.ao,T.ab 1 t.bits.isEmpty (bd t.bits),T.ab 1 t.to.isEmpty (enc t.to),EM ((du M x.op x.nm x.n x.d (x.ks.map (bA t))).2).K]:=by
 intro f;induction f with
 | nil=>
  intro j a g A b o e;have q:¬(j:Int) < (x.ks.length:Int):=by have:=bh g;omega
  rw [ND,MU] at e;have u:false=a.isEmpty:=by cases a with
   | nil=>exact absurd rfl o
   | cons=>rfl
  have l:=iN M (show M.N.length<=100000 by omega) x.op x.nm x.n x.d a false u (λy v=>by
   rw [e] at v;obtain⟨k,hm,rfl⟩:=M7.1 v;exact(m k hm).2.2.i64 (by omega)) (by omega) ho B z (by omega)
  rw [<-e];refine ah ?_;rw [zt];simp only [ai,↓reduceIte,Int.reduceBEq,Int.reduceEq,q,l,aT,aS,Mw,aR,aO,cJ,cK,cx];rfl
 | cons k f D=>
  intro j a g A b o e;obtain⟨r,H,w⟩:=bp g;have q:(j:Int) < (x.ks.length:Int):=by omega
  have h0: 0<=(j:Int):=by omega
  obtain⟨L,l,_⟩:=m k (MD r);have E: 0<=k/\k < (t.to.length:Int):=by have:=(My.1 l).1;omega
  have F:bg 8 (a.length+1)=some ():=cm (by omega);have C:=D (j+1) (a++ [bA t k]) w (by omega) (by simp [b]) (by simp) (by rw [<-e];simp);refine ah ?_;rw [zt];simp only [ai,↓reduceIte,Int.reduceBEq,Int.reduceEq,q,h0,and_self,aC,bD r,E,eB l,MC,F,next j (by omega),dP];exact C
theorem C1{c:Cx}{t:Tr}{M:Mk}{x:Nd}{i:Nat}(q:c.ns[i]? =some x)(g:x.op≠22)(O:x.op=8->∃a r,x.ks=a::r)(o:de c t M i)(U:M.N.length<=40000)(B:x.ks.length<=100)(A:∀k∈x.ks,∃s',KW c i k s'/\aH s'=false)(ho:dI x.op)(C:dI x.n)(z:dI x.d)(hm:x.nm.size<=1000):
  Or (.call 33) [r0,I (i:Int)] [ad.box [AV.ref (Id.c 1) 0,AV.t (T.ab 3 c.ed (aI c.ds)),AV.t (T.ab 5 c.en (aV c.ns)),AV.t (T.ab 1 c.eh (enc c.hs)),AV.t (T.str c.p),AV.t (T.ab 1 c.es (enc c.ss)),AV.own (Id.c 2),AV.own (Id.c 3)],ad.box [AV.own (Id.c 4),AV.own (Id.c 5)],ad.sl false 1 t.bits.isEmpty (bd t.bits),ad.sl false 1 t.to.isEmpty (enc t.to),ad.rows M.N.isEmpty 5 1 1 M.N.length (rows M.N),ad.mp false [Ck.s] (Ck.i .i64) (bV M.K)]=some [ti (du M x.op x.nm x.n x.d (x.ks.map (bA t))).1,T.ao,T.ab 3 c.ed (aI c.ds),T.ab 5 c.en (aV c.ns),T.ab 1 c.eh (enc c.hs),T.str c.p,T.ab 1 c.es (enc c.ss),T.ao,T.ao,RW ((du M x.op x.nm x.n x.d (x.ks.map (bA t))).2).N,T.ao,T.ab 1 t.bits.isEmpty (bd t.bits),T.ab 1 t.to.isEmpty (enc t.to),EM ((du M x.op x.nm x.n x.d (x.ks.map (bA t))).2).K]:=by
 have w: 0<=(i:Int)/\(i:Int) < (c.ns.length:Int):=by have:=(My.1 q).1;omega
 have m:∀k∈x.ks,0<=k/\t.to[k.toNat]? =some (bA t k)/\In M (bA t k):=λk hm=>by obtain⟨s',h,L⟩:=A k hm;exact⟨h.h0,(h.plain o L).2⟩
 have b:Or mR [r0,AV.ref (Id.c 6) 0,AV.t (T.af true),ab x.ek x.ks,I (x.ks.length:Int),I 0] [ad.box [AV.ref (Id.c 1) 0,AV.t (T.ab 3 c.ed (aI c.ds)),AV.t (T.ab 5 c.en (aV c.ns)),AV.t (T.ab 1 c.eh (enc c.hs)),AV.t (T.str c.p),AV.t (T.ab 1 c.es (enc c.ss)),AV.own (Id.c 2),AV.own (Id.c 3)],ad.box [AV.own (Id.c 4),AV.own (Id.c 5)],ad.sl false 1 t.bits.isEmpty (bd t.bits),ad.sl false 1 t.to.isEmpty (enc t.to),ad.rows M.N.isEmpty 5 1 1 M.N.length (rows M.N),ad.mp false [Ck.s] (Ck.i .i64) (bV M.K),ad.box [I x.op,ab x.ek x.ks,I x.n,I x.d,AV.t (T.str x.nm)]]=some [ti (du M x.op x.nm x.n x.d (x.ks.map (bA t))).1,T.ao,T.ab 3 c.ed (aI c.ds),T.ab 5 c.en (aV c.ns),T.ab 1 c.eh (enc c.hs),T.str c.p,T.ab 1 c.es (enc c.ss),T.ao,T.ao,RW ((du M x.op x.nm x.n x.d (x.ks.map (bA t))).2).N,T.ao,T.ab 1 t.bits.isEmpty (bd t.bits),T.ab 1 t.to.isEmpty (enc t.to),EM ((du M x.op x.nm x.n x.d (x.ks.map (bA t))).2).K]:=by
  cases e:x.ks with
  | nil=>have a:=iN M (show M.N.length<=100000 by omega) x.op x.nm x.n x.d [] true rfl (λy P=>by cases P) (by simp) ho C z (by omega);replace a:Or (.call 61) [r0,I x.op,AV.t (T.str x.nm),I x.n,I x.d,AV.t (T.ab 1 true [])] (cS M)=_:=a;refine ah ?_;rw [zr];simp only [ai,↓reduceIte,Int.reduceBEq,Int.reduceEq,MS,M4,Na,decide_false,a,aT,aS,Mw,aR,aO,cJ,cK,cx];rfl
  | cons k u=>
   obtain⟨V,a,_⟩:=m k (by rw [e];exact Mv);have Q: 0<=k/\k < (t.to.length:Int):=by have:=(My.1 a).1;omega
   have D:=IJ (c:=c) (t:=t) (M:=M) (x:=x) o.ok (by omega) B m ho C z hm u 1 [bA t k] (by rw [e];rfl) (by rw [e];simp) rfl (by simp) (by rw [e];rfl);have h:(0:Int) < (((k::u).length:Nat):Int):=by simp
   have h0:(0:Int)<=0:=by omega
   have H:(enc (k::u))[(0:Int).toNat]? =some [ti k]:=rfl;have j:i64.wrap (0+1)= ((1:Nat):Int):=by decide
   rw [e] at D;refine ah ?_;rw [zr];simp only [ai,↓reduceIte,Int.reduceBEq,Int.reduceEq,h,h0,and_self,aC,H,Q,eB a,j];exact D
 have l:(x.op==22)=false:=by simpa using g
 by_cases c8:x.op=8
 .obtain⟨a,r,f⟩:=O c8;have J:(0:Int)<=0/\(0:Int) < ((x.ks.length:Nat):Int):=by rw [f];simp
  have G:(enc x.ks)[0]? =some [ti a]:=by rw [f];rfl
  obtain⟨s',j,S⟩:=A a (by rw [f];exact Mv);obtain⟨v,_⟩:=j.plain o S;have R: 0<=a/\a < (t.bits.length:Int):=by have:=(My.1 v).1;have:=j.h0;omega
  have F:(bd t.bits)[a.toNat]? =some [LO []]:=by simp [bd,v]
  refine ah ?_;rw [sJ];simp (maxSteps:=1000000) only [ai,↓reduceIte,Int.reduceBEq,Int.reduceEq,w,J,and_self,dm,eA q,c8,l,g,aC,G,R,l7,F,cx,Pu,Mz];rw [c8] at b;exact b
 .have E:(x.op==8)=false:=by simpa using c8
  refine ah ?_;rw [sJ];simp (maxSteps:=1000000) only [ai,↓reduceIte,Int.reduceBEq,Int.reduceEq,w,and_self,dm,eA q,l,E,g,c8,bm,aC];exact b
structure r6 (c:Cx) (i:Nat) (x:Nd) (s:Int):Prop where
 op: 1<=x.op/\x.op<=25
 kl:x.ks.length<=8
 n: -1000000<=x.n/\x.n<=1000000
 d: -1000000<=x.d/\x.d<=1000000
 nm:x.nm.size<=12
 k:∀k∈x.ks,∃s',KW c i k s'
 c3:x.op=3->∃k r,x.ks=k::r
 c7:x.op=7->∃a b d,x.ks= [a,b,d]/\KW c i a 1/\KW c i b s/\KW c i d s
 c8:x.op=8->aH s=false/\∃a b s',x.ks= [a,b]/\((aH s'=true/\KW c i a s'/\KW c i b s')\/∀k∈x.ks,∃s',KW c i k s'/\aH s'=false)
 kP:x.op=15->x.ks= []/\1<=x.d/\x.d<=8/\0<=x.n/\x.n < 2 ^ x.d.toNat/\s=10+x.d
 jY:x.op=16\/x.op=23->aH s=true/\∃a,x.ks= [a]/\KW c i a s
 jZ: 17<=x.op->x.op<=21->aH s=true/\∃a b,x.ks= [a,b]/\KW c i a s/\KW c i b s
 ju:x.op=22->aH s=false/\∃a b s',aH s'=true/\x.ks= [a,b]/\KW c i a s'/\KW c i b s'
 bx:x.op=23->0<=x.n/\x.n<=8
 pl:x.op≠7->x.op≠8->(x.op < 15\/24<=x.op)->(x.op≠9->aH s=false)/\∀k∈x.ks,∃s',KW c i k s'/\aH s'=false
def fv(c:Cx)(t:Tr)(M:Mk)(x:Nd)(s:Int):List Int×Mk:=
 if x.op=9 then cV M (c.p++it (bu c.ds x.nm)++us) (x.ks.map (bA t)) 0 (s - 10).toNat
 else if x.op=7 then aU (cW (bA t (x.ks.getD 0 0))) M (aD t (x.ks.getD 1 0)) (aD t (x.ks.getD 2 0))
 else if x.op=15 then eO M x.n 0 x.d.toNat
 else if x.op=16 then eV M (aD t (x.ks.getD 0 0))
 else if x.op=17 then aU cf M (aD t (x.ks.getD 0 0)) (aD t (x.ks.getD 1 0))
 else if x.op=18 then aU dQ M (aD t (x.ks.getD 0 0)) (aD t (x.ks.getD 1 0))
 else if x.op=19 then aU br M (aD t (x.ks.getD 0 0)) (aD t (x.ks.getD 1 0))
 else if x.op=20 then dv M (aD t (x.ks.getD 0 0)) (aD t (x.ks.getD 1 0))
 else if x.op=21 then iS M (aD t (x.ks.getD 0 0)) (aD t (x.ks.getD 1 0))
 else bq M (aD t (x.ks.getD 0 0)) x.n
def gr(t:Tr)(M:Mk)(x:Nd):Int×Mk:=
 if x.op=22 then kx M (aD t (x.ks.getD 0 0)) (aD t (x.ks.getD 1 0))
 else if x.op=8/\(aD t (x.ks.getD 0 0)).isEmpty=false then nO M (aD t (x.ks.getD 0 0)) (aD t (x.ks.getD 1 0))
 else du M x.op x.nm x.n x.d (x.ks.map (bA t))
theorem BV{l:List Int}(h: 1<=l.length):l.isEmpty=false:=by cases l with
 | nil=>simp at h
 | cons=>rfl
theorem tu{l:List Int}{n:Nat}(h:l.length=n)(a: 1<=n):T.ab 1 false (enc l)=T.ab 1 l.isEmpty (enc l):=by rw [BV (l:=l) (by omega)]
theorem te:aH 1=false:=rfl
theorem DQ{c:Cx}{t:Tr}{M:Mk}{x:Nd}{i:Nat}{s:Int}(F:c.ns[i]? =some x)(hs:c.ss[i]? =some s)(m:aH s=true)(ok:r6 c i x s)(l:de c t M i)(hds:c.ds.length<=100)(hp:c.p.size<=100)(E:M.N.length<=40000):
  Or (.call 32) [r0,I (i:Int)] [ad.box [AV.ref (Id.c 1) 0,AV.t (T.ab 3 c.ed (aI c.ds)),AV.t (T.ab 5 c.en (aV c.ns)),AV.t (T.ab 1 c.eh (enc c.hs)),AV.t (T.str c.p),AV.t (T.ab 1 c.es (enc c.ss)),AV.own (Id.c 2),AV.own (Id.c 3)],ad.box [AV.own (Id.c 4),AV.own (Id.c 5)],ad.sl false 1 t.bits.isEmpty (bd t.bits),ad.sl false 1 t.to.isEmpty (enc t.to),ad.rows M.N.isEmpty 5 1 1 M.N.length (rows M.N),ad.mp false [Ck.s] (Ck.i .i64) (bV M.K)]=some [T.ab 1 (fv c t M x s).1.isEmpty (enc (fv c t M x s).1),T.ao,T.ab 3 c.ed (aI c.ds),T.ab 5 c.en (aV c.ns),T.ab 1 c.eh (enc c.hs),T.str c.p,T.ab 1 c.es (enc c.ss),T.ao,T.ao,RW ((fv c t M x s).2).N,T.ao,T.ab 1 t.bits.isEmpty (bd t.bits),T.ab 1 t.to.isEmpty (enc t.to),EM ((fv c t M x s).2).K]/\
   Up M (fv c t M x s).2 1000/\(∀y∈(fv c t M x s).1,In (fv c t M x s).2 y)/\((fv c t M x s).1.length:Int)=s - 10:=by
 have hl:=fP m;have L:∀{a b:Int},x.ks= [a,b]->x.ks.getD 0 0=a/\x.ks.getD 1 0=b:=λe=>by rw [e];exact⟨rfl,rfl⟩
 unfold fv;by_cases c9:x.op=9
 .have hk:=(ok.pl (by omega) (by omega) (by omega)).2;have hkin:∀y∈x.ks.map (bA t),In M y:=λy hy=>by
   obtain⟨k,hm,rfl⟩:=M7.1 hy;obtain⟨s',h1,h4⟩:=hk k hm;exact(h1.plain l h4).2.2
  have q:=Ky F hs c9 m l hds hp (by have:=ok.kl;omega) hk E;obtain⟨o,u,u3⟩:=BT (pre:=c.p++it (bu c.ds x.nm)++us) (kids:=x.ks.map (bA t)) (k:=(s - 10).toNat) (b:=0) l.ok hkin (by have:=ok.kl;simp;omega);rw [tu u3 (by omega)] at q;rw [if_pos c9];exact⟨q,o.mono (by omega),u,by omega⟩
 rw [if_neg c9];by_cases c7:x.op=7
 .obtain⟨a,b,d,j,w0,r,v⟩:=ok.c7 c7;have q:=Kx F c7 j w0 te r v m l E;obtain⟨_,_,p2⟩:=w0.plain l te;obtain⟨O,P,w⟩:=r.word l m;obtain⟨S,U,C⟩:=v.word l m;have up:Up M (aU (cW (bA t a)) M (aD t b) (aD t d)).2 (1 * (aD t b).length)/\(∀y∈(aU (cW (bA t a)) M (aD t b) (aD t d)).1,In (aU (cW (bA t a)) M (aD t b) (aD t d)).2 y)/\(aU (cW (bA t a)) M (aD t b) (aD t d)).1.length= (aD t b).length:=by
   have gen:∀(D B:List Int) (A:Mk),Ok A->In A (bA t a)->(∀y∈D,In A y)->(∀y∈B,In A y)->D.length=B.length->
     Up A (aU (cW (bA t a)) A D B).2 (1 * D.length)/\(∀y∈(aU (cW (bA t a)) A D B).1,In (aU (cW (bA t a)) A D B).2 y)/\(aU (cW (bA t a)) A D B).1.length=D.length:=by
    intro D;induction D with
    | nil=>intro B A h0 _ _ _ _;rw [show aU (cW (bA t a)) A [] B= ([],A) by simp [aU]];exact⟨Up.refl h0,λy hy=>(by cases hy),rfl⟩
    | cons y D ih=>
     intro B A h0 hc h1 h2 e;cases B with
     | nil=>cases e
     | cons z B=>
      obtain⟨o,u⟩:=w9 h0 hc (h1 y Mv) (h2 z Mv);obtain⟨h3,h4,h5⟩:=ih B _ o.ok (o.In hc) (o.all λz Q=>h1 z (Mx _ Q)) (o.all λz Q=>h2 z (Mx _ Q)) (by simpa using e);refine⟨(o.trans h3).mono (by rw [ME];omega),λz Q=> ?_,by simp [aU,h5]⟩;rcases MN.1 Q with rfl | Q
      .exact h3.In u
      .exact h4 z Q
   exact gen _ _ M l.ok p2 w C (by omega)
  obtain⟨o,u,u3⟩:=up;have g:x.ks.getD 0 0=a/\x.ks.getD 1 0=b/\x.ks.getD 2 0=d:=by rw [j];exact⟨rfl,rfl,rfl⟩
  rw [tu u3 (by omega)] at q;rw [if_pos c7,g.1,g.2.1,g.2.2];exact⟨q,o.mono (by omega),u,by omega⟩
 rw [if_neg c7];by_cases kP:x.op=15
 .obtain⟨j,aX,hd2,hn1,hn2,hs'⟩:=ok.kP kP;have q:=Kp F kP ⟨aX,hd2⟩ l E;obtain⟨o,u,u3⟩:=yI (n:=x.n) (k:=x.d.toNat) (b:=0) l.ok;rw [tu u3 (by omega)] at q;rw [if_pos kP];exact⟨q,o.mono (by omega),u,by omega⟩
 rw [if_neg kP];by_cases jY:x.op=16
 .obtain⟨_,a,j,r⟩:=ok.jY (.inl jY);have q:=Kq F jY j r m l E;obtain⟨O,P,w⟩:=r.word l m;obtain⟨o,u,u3⟩:=B2 l.ok w;rw [tu u3 (by omega)] at q;rw [if_pos jY,show x.ks.getD 0 0=a by rw [j];rfl];exact⟨q,o.mono (by omega),u,by omega⟩
 rw [if_neg jY];by_cases jZ:x.op=17
 .obtain⟨_,a,b,j,r,v⟩:=ok.jZ (by omega) (by omega);have q:=Kr F jZ j r v m l E;obtain⟨O,P,w⟩:=r.word l m;obtain⟨S,U,C⟩:=v.word l m;obtain⟨o,u,u3⟩:=oJ (f:=cf) (c:=1) (λM a b h Z hb=>fK h Z hb) l.ok w C (show(aD t a).length= (aD t b).length by omega);obtain⟨G,H⟩:=L j;rw [if_pos jZ,G,H];refine⟨q,o.mono ?_,u,by omega⟩;have R:(aD t a).length<=8:=by omega
  have J:(aD t b).length<=8:=by omega
  omega
 rw [if_neg jZ];by_cases V:x.op=18
 .obtain⟨_,a,b,j,r,v⟩:=ok.jZ (by omega) (by omega);have q:=Ks F V j r v m l E;obtain⟨O,P,w⟩:=r.word l m;obtain⟨S,U,C⟩:=v.word l m;obtain⟨o,u,u3⟩:=oJ (f:=dQ) (c:=1) (λM a b h Z hb=>nI h Z hb) l.ok w C (show(aD t a).length= (aD t b).length by omega);obtain⟨G,H⟩:=L j;rw [if_pos V,G,H];refine⟨q,o.mono ?_,u,by omega⟩;have R:(aD t a).length<=8:=by omega
  have J:(aD t b).length<=8:=by omega
  omega
 rw [if_neg V];by_cases W:x.op=19
 .obtain⟨_,a,b,j,r,v⟩:=ok.jZ (by omega) (by omega);have q:=Kt F W j r v m l E;obtain⟨O,P,w⟩:=r.word l m;obtain⟨S,U,C⟩:=v.word l m;obtain⟨o,u,u3⟩:=oJ (f:=br) (c:=2) (λM a b h Z hb=>mK h Z hb) l.ok w C (show(aD t a).length= (aD t b).length by omega);obtain⟨G,H⟩:=L j;rw [if_pos W,G,H];refine⟨q,o.mono ?_,u,by omega⟩;have R:(aD t a).length<=8:=by omega
  have J:(aD t b).length<=8:=by omega
  omega
 rw [if_neg W];by_cases X:x.op=20
 .obtain⟨_,a,b,j,r,v⟩:=ok.jZ (by omega) (by omega);have q:=Ku F X j r v m l E;obtain⟨O,P,w⟩:=r.word l m;obtain⟨S,U,C⟩:=v.word l m;obtain⟨o,u,u3⟩:=Dx l.ok w C (show(aD t a).length= (aD t b).length by omega);obtain⟨G,H⟩:=L j;rw [if_pos X,G,H];refine⟨q,o.mono ?_,u,by omega⟩;have R:(aD t a).length<=8:=by omega
  have J:(aD t b).length<=8:=by omega
  omega
 rw [if_neg X];by_cases Y:x.op=21
 .obtain⟨_,a,b,j,r,v⟩:=ok.jZ (by omega) (by omega);have q:=Kv F Y j r v m l E;obtain⟨O,P,w⟩:=r.word l m;obtain⟨S,U,C⟩:=v.word l m;obtain⟨o,u,u3⟩:=L4 l.ok w C;obtain⟨G,H⟩:=L j;rw [if_pos Y,G,H];refine⟨q,o.mono ?_,u,by omega⟩;have R:(aD t a).length<=8:=by omega
  have J:(aD t b).length<=8:=by omega
  have:=Px (show 9 * (aD t a).length+1<=73 by omega) J;omega
 rw [if_neg Y];have bx:x.op=23:=by
  rcases Classical.em (x.op=23) with h | h
  .exact h
  .exfalso;have hop:=ok.op;by_cases ju:x.op=22
   .rw [(ok.ju ju).1] at m;cases m
   by_cases c8:x.op=8
   .rw [(ok.c8 c8).1] at m;cases m
   .have:=(ok.pl c7 c8 (by omega)).1 c9;rw [this] at m;cases m
 obtain⟨_,a,j,r⟩:=ok.jY (.inr bx);have hn:=ok.bx bx;have q:=Kw F bx j r hn m l E;obtain⟨O,P,w⟩:=r.word l m;obtain⟨o,u,u3⟩:=qI (n:=x.n) hn.1 l.ok w;rw [show x.ks.getD 0 0=a by rw [j];rfl];exact⟨q,o.mono (by omega),u,by omega⟩
theorem Cf{c:Cx}{t:Tr}{M:Mk}{x:Nd}{i:Nat}{s:Int}(D:c.ns[i]? =some x)(u:aH s=false)(ok:r6 c i x s)(g:de c t M i)(C:M.N.length<=40000):
  Or (.call 33) [r0,I (i:Int)] [ad.box [AV.ref (Id.c 1) 0,AV.t (T.ab 3 c.ed (aI c.ds)),AV.t (T.ab 5 c.en (aV c.ns)),AV.t (T.ab 1 c.eh (enc c.hs)),AV.t (T.str c.p),AV.t (T.ab 1 c.es (enc c.ss)),AV.own (Id.c 2),AV.own (Id.c 3)],ad.box [AV.own (Id.c 4),AV.own (Id.c 5)],ad.sl false 1 t.bits.isEmpty (bd t.bits),ad.sl false 1 t.to.isEmpty (enc t.to),ad.rows M.N.isEmpty 5 1 1 M.N.length (rows M.N),ad.mp false [Ck.s] (Ck.i .i64) (bV M.K)]=some [ti (gr t M x).1,T.ao,T.ab 3 c.ed (aI c.ds),T.ab 5 c.en (aV c.ns),T.ab 1 c.eh (enc c.hs),T.str c.p,T.ab 1 c.es (enc c.ss),T.ao,T.ao,RW ((gr t M x).2).N,T.ao,T.ab 1 t.bits.isEmpty (bd t.bits),T.ab 1 t.to.isEmpty (enc t.to),EM ((gr t M x).2).K]/\Up M (gr t M x).2 1000/\In (gr t M x).2 (gr t M x).1:=by
 have Y:=ok.op;have hn:=ok.n;have hd:=ok.d;have A:∀{a b:Int},x.ks= [a,b]->x.ks.getD 0 0=a/\x.ks.getD 1 0=b:=λe=>by rw [e];exact⟨rfl,rfl⟩
 have E:(∀k∈x.ks,∃s',KW c i k s'/\aH s'=false)->∀y∈x.ks.map (bA t),In M y:=λo y W=>by obtain⟨k,hm,rfl⟩:=M7.1 W;obtain⟨s',H,V⟩:=o k hm;exact(H.plain g V).2.2
 unfold gr;by_cases ju:x.op=22
 .obtain⟨_,a,b,s',j,f,l,m⟩:=ok.ju ju;have hl:=fP j;have q:=Kz D ju f l m j g C;obtain⟨L,O,F⟩:=l.word g j;obtain⟨P,Q,G⟩:=m.word g j;obtain⟨_,v,w⟩:=C8 g.ok (ea:=true) (eb:=true) (a:=aD t a) (b:=aD t b) (by omega) (by omega) F G (by omega);obtain⟨z,B⟩:=A f;rw [if_pos ju,z,B];exact⟨q,v.mono (by omega),w⟩
 rw [if_neg ju];by_cases c8:x.op=8
 .obtain⟨_,a,b,s',f,⟨j,l,m⟩ | o⟩:=ok.c8 c8
  .have hl:=fP j;have q:=KA D c8 f l m j g C;obtain⟨L,O,F⟩:=l.word g j;obtain⟨P,Q,G⟩:=m.word g j;obtain⟨v,w⟩:=Ly g.ok (show(aD t a).length= (aD t b).length by omega) F G;obtain⟨z,B⟩:=A f;rw [z,B,if_pos ⟨c8,BV (by omega)⟩];exact⟨q,v.mono (by omega),w⟩
  .have q:=C1 D ju (λ_=>⟨a,[b],f⟩) g C (by have:=ok.kl;omega) o ⟨by omega,by omega⟩ ⟨by omega,by omega⟩ ⟨by omega,by omega⟩ (by have:=ok.nm;omega);obtain⟨v,w⟩:=iJ g.ok x.op x.nm x.n x.d (x.ks.map (bA t)) (E o) (λe=>by omega) (by have:=ok.kl;simp;omega);obtain⟨z,B⟩:=A f;obtain⟨s2,l,m⟩:=o a (by rw [f];exact Mv);obtain⟨R,_⟩:=l.plain g m;have S:aD t a= []:=by unfold aD;rw [MT,R];rfl
   rw [if_neg (by rw [z,S];simp)];exact⟨q,v.mono (by omega),w⟩
 .have o:∀k∈x.ks,∃s',KW c i k s'/\aH s'=false:=by
   by_cases c7:x.op=7
   .obtain⟨a,b,d,f,X,l,m⟩:=ok.c7 c7;intro k hm;rw [f] at hm;simp only [MN,N5,or_false] at hm;rcases hm with rfl | rfl | rfl
    .exact⟨_,X,te⟩
    .exact⟨_,l,u⟩
    .exact⟨_,m,u⟩
   .refine(ok.pl c7 c8 ?_).2;rcases Classical.em (x.op < 15\/24<=x.op) with h | h
    .exact h
    .exfalso;by_cases kP:x.op=15
     .obtain⟨_,H,Z,_,_,U⟩:=ok.kP kP;subst U;unfold aH at u;simp at u;omega
     by_cases jY:x.op=16\/x.op=23
     .rw [(ok.jY jY).1] at u;cases u
     .rw [(ok.jZ (by omega) (by omega)).1] at u;cases u
  have q:=C1 D ju (λe=>absurd e c8) g C (by have:=ok.kl;omega) o ⟨by omega,by omega⟩ ⟨by omega,by omega⟩ ⟨by omega,by omega⟩ (by have:=ok.nm;omega);obtain⟨v,w⟩:=iJ g.ok x.op x.nm x.n x.d (x.ks.map (bA t)) (E o) (λe=>by
   obtain⟨k,r,J⟩:=ok.c3 e;exact⟨bA t k,r.map (bA t),by rw [J];rfl⟩) (by have:=ok.kl;simp;omega)
  rw [if_neg (λe=>c8 e.1)];exact⟨q,v.mono (by omega),w⟩
end Go.Aev.Gen
