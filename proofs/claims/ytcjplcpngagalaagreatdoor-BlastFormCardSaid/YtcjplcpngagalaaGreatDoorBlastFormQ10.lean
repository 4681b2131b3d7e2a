import Derived.Test.YtcjplcpngagalaaGreatDoorBlastFormQ9
set_option linter.all false
namespace Go.Aev.Gen
open Go Go.Aev Go.IntKind
def aF(s:Int):Bool:=decide (10 < s) && decide (s<=18)
theorem gX(n:Int):Or (.call 21) [I n] []=some [tb (aF n)]:=by
 refine ah ?_;rw [Gb];unfold aF;by_cases h: 10 < n
 .have:n > 10:=h;simp only [aj,↓reduceIte,Int.reduceBEq,Int.reduceEq,h,this,decide_true,N1]
 .have:¬n > 10:=h;simp only [aj,↓reduceIte,Int.reduceBEq,Int.reduceEq,h,this,decide_false,OG]
def aB(t:Tr)(k:Int):List Int:=t.bits.getD k.toNat []
def bm(t:Tr)(k:Int):Int:=t.to.getD k.toNat 0
structure cy (c:Cx) (t:Tr) (M:Mk) (i:Nat):Prop where
 ok:Ok M
 bl:t.bits.length=i
 tl:t.to.length=i
 w:∀(k:Nat) (s:Int),k < i->c.ss[k]? =some s->aF s=true->∃b,t.bits[k]? =some b/\(b.length:Int)=s - 10/\∀x∈b,In M x
 p:∀(k:Nat) (s:Int),k < i->c.ss[k]? =some s->aF s=false->t.bits[k]? =some []/\∃v,t.to[k]? =some v/\In M v
theorem cy.up{c:Cx}{t:Tr}{M j:Mk}{i n:Nat}(h:cy c t M i)(u:Up M j n):cy c t j i:=
 ⟨u.ok,h.bl,h.tl,λk s f hs g=>by obtain⟨b,a,d,e⟩:=h.w k s f hs g;exact⟨b,a,d,u.all e⟩,
  λk s f hs g=>by obtain⟨a,v,d,e⟩:=h.p k s f hs g;exact⟨a,v,d,u.In e⟩⟩
structure KW (c:Cx) (i:Nat) (k:Int) (s:Int):Prop where
 h0: 0<=k
 lt:k < (i:Int)
 so:c.ss[k.toNat]? =some s
theorem KW.word{c:Cx}{t:Tr}{M:Mk}{i:Nat}{k s:Int}(h:KW c i k s)(g:cy c t M i)(j:aF s=true):
  t.bits[k.toNat]? =some (aB t k)/\((aB t k).length:Int)=s - 10/\∀x∈aB t k,In M x:=by
 obtain⟨b,a,d,f⟩:=g.w k.toNat s (by have:=h.h0;have:=h.lt;omega) h.so j;have e:aB t k=b:=by unfold aB;rw [Na,a];rfl
 rw [e];exact⟨a,d,f⟩
theorem KW.plain{c:Cx}{t:Tr}{M:Mk}{i:Nat}{k s:Int}(h:KW c i k s)(f:cy c t M i)(g:aF s=false):
  t.bits[k.toNat]? =some []/\t.to[k.toNat]? =some (bm t k)/\In M (bm t k):=by
 obtain⟨b,v,a,d⟩:=f.p k.toNat s (by have:=h.h0;have:=h.lt;omega) h.so g;have e:bm t k=v:=by unfold bm;rw [Na,a];rfl
 rw [e];exact⟨b,a,d⟩
theorem e8{s:Int}(h:aF s=true): 1<=s - 10/\s - 10<=8:=by unfold aF at h;simp only [M7,decide_eq_true_eq] at h;omega
def cL(M:Mk)(pre:ByteArray)(kids:List Int):Nat->Nat->List Int×Mk
 | _,0=>([],M)
 | b,k+1=>((cI M 9 (pre++it (b:Int)) 0 0 kids).1:: (cL (cI M 9 (pre++it (b:Int)) 0 0 kids).2 pre kids (b+1) k).1,(cL (cI M 9 (pre++it (b:Int)) 0 0 kids).2 pre kids (b+1) k).2)
theorem CB{pre:ByteArray}{kids:List Int}:∀{k b:Nat} {M:Mk},Ok M->(∀x∈kids,In M x)->kids.length<=1000->
  Up M (cL M pre kids b k).2 k/\(∀x∈(cL M pre kids b k).1,In (cL M pre kids b k).2 x)/\(cL M pre kids b k).1.length=k
 | 0,b,M,h,_,_=>⟨Up.refl h,λx j=>(by cases j),rfl⟩
 | k+1,b,M,h,e,hl=>by
  obtain⟨a,f⟩:=iR h 9 (pre++it (b:Int)) 0 0 kids e (by simp) hl;obtain⟨d,g,i⟩:=CB (k:=k) (b:=b+1) a.ok (a.all e) hl;refine⟨(a.trans d).mono (by omega),λz c=> ?_,by simp [cL,i]⟩;rcases Nj.1 c with rfl | c
  .exact d.In f
  .exact g z c
theorem I3{c:Cx}{t:Tr}{x:Nd}{w:Nat}{kids:List Int}{e:Bool}(B:e=kids.isEmpty)(m:c.ds.length<=100)(H:c.p.size<=100)(J:w<=100)(G:kids.length<=100):∀(k b:Nat) (M:Mk) (acc:List Int),b+k=w->Ok M->(∀y∈kids,In M y)->M.N.length+k<=60000->acc.length=b->
  Or gE [AV.ref (Id.c 6) 0,AV.ref (Id.c 7) 0,AV.own (Id.c 8),ad e kids,I (w:Int),I (b:Int)] [ab.box [AV.ref (Id.c 1) 0,AV.t (T.ad 3 c.ed (aI c.ds)),AV.t (T.ad 5 c.en (aV c.ns)),AV.t (T.ad 1 c.eh (enc c.hs)),AV.t (T.str c.p),AV.t (T.ad 1 c.es (enc c.ss)),AV.own (Id.c 2),AV.own (Id.c 3)],ab.box [AV.own (Id.c 9),AV.own (Id.c 5)],ab.sl false 1 t.bits.isEmpty (bg t.bits),ab.sl false 1 t.to.isEmpty (enc t.to),ab.dead,ab.mp false [Ck.s] (Ck.i .i64) (cb M.K),ab.box [r0],ab.box [I x.op,ad x.ek x.ks,I x.n,I x.d,AV.t (T.str x.nm)],ab.sl false 1 false (enc acc),ab.rows M.N.isEmpty 5 1 1 M.N.length (rows M.N)]=
   some [T.ad 1 false (enc (acc++ (cL M (c.p++it (bf c.ds x.nm)++us) kids b k).1)),T.ak,T.ad 3 c.ed (aI c.ds),T.ad 5 c.en (aV c.ns),T.ad 1 c.eh (enc c.hs),T.str c.p,T.ad 1 c.es (enc c.ss),T.ak,T.ak,RW ((cL M (c.p++it (bf c.ds x.nm)++us) kids b k).2).N,T.ak,T.ad 1 t.bits.isEmpty (bg t.bits),T.ad 1 t.to.isEmpty (enc t.to),EM ((cL M (c.p++it (bf c.ds x.nm)++us) kids b k).2).K]:=by
 have r:=rP (ed:=c.ed) (en:=c.en) (eh:=c.eh) (ns:=c.ns) (hs:=c.hs) (nm:=x.nm) m;have o:dX (bf c.ds x.nm):=by have:=qH x.nm 0 c.ds;unfold bf;constructor <;> omega
 have O:=fq o;intro k;induction k with
 | zero=>
  intro b M acc A h f z a;have j:¬(b:Int) < (w:Int):=by omega
  refine ah ?_;rw [zR];simp only [aj,↓reduceIte,Int.reduceBEq,Int.reduceEq,j,aU,aT,M6,aS,aQ,cU,cV,cB,cL,Nz];rfl
 | succ k D=>
  intro b M acc A h f z a;have j:(b:Int) < (w:Int):=by omega
  have g:dX (b:Int):=⟨by omega,by omega⟩;have P:=fq g;have u:c.p.size+ (it (bf c.ds x.nm)).size<=4294967296:=by omega
  have v:(c.p++it (bf c.ds x.nm)).size+1<=4294967296:=by rw [Np];omega
  have c3:(c.p++it (bf c.ds x.nm)++us).size+ (it (b:Int)).size<=4294967296:=by simp only [Np,dW];omega
  have E:=iV M (show M.N.length<=100000 by omega) 9 (c.p++it (bf c.ds x.nm)++us++it (b:Int)) 0 0 kids e B (λy C=>(f y C).i64 (by omega)) (by omega) (by omega) (by omega) (by omega) (by simp only [Np,dW];omega);obtain⟨l,L⟩:=iR h 9 (c.p++it (bf c.ds x.nm)++us++it (b:Int)) 0 0 kids f (by simp) (by omega);have F:bp 8 (acc.length+1)=some ():=cS (by omega);have q:=D (b+1) _ (acc++ [(cI M 9 (c.p++it (bf c.ds x.nm)++us++it (b:Int)) 0 0 kids).1]) (by omega) l.ok (l.all f) (by have:=l.up;omega) (by simp [a]);simp only [Nx,ND] at q;rw [cL];refine ah ?_;rw [zR];simp only [aj,↓reduceIte,Int.reduceBEq,Int.reduceEq,j,r,gY o,gY g,u,v,c3,E,aD,Nk,F,next b (by omega),ez,aU,aT,M6,aS,aQ,cU,cV,cB];exact q
theorem I4{c:Cx}{t:Tr}{x:Nd}{w:Nat}(l:c.ds.length<=100)(D:c.p.size<=100)(E:w<=100):∀(k b:Nat) (M:Mk) (acc:List Int),b+k=w->Ok M->M.N.length+k<=60000->acc.length=b->
  Or gE [AV.ref (Id.c 6) 0,AV.ref (Id.c 7) 0,AV.own (Id.c 8),AV.t (T.af true),I (w:Int),I (b:Int)] [ab.box [AV.ref (Id.c 1) 0,AV.t (T.ad 3 c.ed (aI c.ds)),AV.t (T.ad 5 c.en (aV c.ns)),AV.t (T.ad 1 c.eh (enc c.hs)),AV.t (T.str c.p),AV.t (T.ad 1 c.es (enc c.ss)),AV.own (Id.c 2),AV.own (Id.c 3)],ab.box [AV.own (Id.c 9),AV.own (Id.c 5)],ab.sl false 1 t.bits.isEmpty (bg t.bits),ab.sl false 1 t.to.isEmpty (enc t.to),ab.dead,ab.mp false [Ck.s] (Ck.i .i64) (cb M.K),ab.box [r0],ab.box [I x.op,ad x.ek x.ks,I x.n,I x.d,AV.t (T.str x.nm)],ab.sl false 1 false (enc acc),ab.rows M.N.isEmpty 5 1 1 M.N.length (rows M.N)]=
   some [T.ad 1 false (enc (acc++ (cL M (c.p++it (bf c.ds x.nm)++us) [] b k).1)),T.ak,T.ad 3 c.ed (aI c.ds),T.ad 5 c.en (aV c.ns),T.ad 1 c.eh (enc c.hs),T.str c.p,T.ad 1 c.es (enc c.ss),T.ak,T.ak,RW ((cL M (c.p++it (bf c.ds x.nm)++us) [] b k).2).N,T.ak,T.ad 1 t.bits.isEmpty (bg t.bits),T.ad 1 t.to.isEmpty (enc t.to),EM ((cL M (c.p++it (bf c.ds x.nm)++us) [] b k).2).K]:=by
 have q:=rP (ed:=c.ed) (en:=c.en) (eh:=c.eh) (ns:=c.ns) (hs:=c.hs) (nm:=x.nm) l;have m:dX (bf c.ds x.nm):=by have:=qH x.nm 0 c.ds;unfold bf;constructor <;> omega
 have G:=fq m;intro k;induction k with
 | zero=>
  intro b M acc A h z a;have f:¬(b:Int) < (w:Int):=by omega
  refine ah ?_;rw [zQ];simp only [aj,↓reduceIte,Int.reduceBEq,Int.reduceEq,f,aU,aT,M6,aS,aQ,cU,cV,cB,cL,Nz];rfl
 | succ k B=>
  intro b M acc A h z a;have f:(b:Int) < (w:Int):=by omega
  have e:dX (b:Int):=⟨by omega,by omega⟩;have H:=fq e;have u:c.p.size+ (it (bf c.ds x.nm)).size<=4294967296:=by omega
  have v:(c.p++it (bf c.ds x.nm)).size+1<=4294967296:=by rw [Np];omega
  have c3:(c.p++it (bf c.ds x.nm)++us).size+ (it (b:Int)).size<=4294967296:=by simp only [Np,dW];omega
  have j:=iV M (show M.N.length<=100000 by omega) 9 (c.p++it (bf c.ds x.nm)++us++it (b:Int)) 0 0 [] true rfl (λy g=>by cases g) (by simp) (by omega) (by omega) (by omega) (by simp only [Np,dW];omega);replace j:Or (.call 61) [r0,I 9,AV.t (T.str (c.p++it (bf c.ds x.nm)++us++it (b:Int))),I 0,I 0,AV.t (T.ad 1 true [])] (df M)=_:=j;obtain⟨r,F⟩:=iR h 9 (c.p++it (bf c.ds x.nm)++us++it (b:Int)) 0 0 [] (λy g=>by cases g) (by simp);have C:bp 8 (acc.length+1)=some ():=cS (by omega);have o:=B (b+1) _ (acc++ [(cI M 9 (c.p++it (bf c.ds x.nm)++us++it (b:Int)) 0 0 []).1]) (by omega) r.ok (by have:=r.up;omega) (by simp [a]);simp only [Nx,ND] at o;rw [cL];refine ah ?_;rw [zQ];simp only [aj,↓reduceIte,Int.reduceBEq,Int.reduceEq,f,q,gY m,gY e,u,v,c3,j,aD,Nk,C,next b (by omega),ez,aU,aT,M6,aS,aQ,cU,cV,cB];exact o
theorem I5{c:Cx}{t:Tr}{M:Mk}{x:Nd}{w:Nat}{kids:List Int}(o:kids≠[])(b:c.ds.length<=100)(z:c.p.size<=100)(F: 1<=w)(A:w<=100)(m:kids.length<=100)(h:Ok M)(g:∀y∈kids,In M y)(G:M.N.length<=50000):
  Or gE [AV.ref (Id.c 6) 0,AV.ref (Id.c 7) 0,AV.t (T.af true),AV.own (Id.c 8),I (w:Int),I 0] [ab.box [AV.ref (Id.c 1) 0,AV.t (T.ad 3 c.ed (aI c.ds)),AV.t (T.ad 5 c.en (aV c.ns)),AV.t (T.ad 1 c.eh (enc c.hs)),AV.t (T.str c.p),AV.t (T.ad 1 c.es (enc c.ss)),AV.own (Id.c 2),AV.own (Id.c 3)],ab.box [AV.own (Id.c 4),AV.own (Id.c 5)],ab.sl false 1 t.bits.isEmpty (bg t.bits),ab.sl false 1 t.to.isEmpty (enc t.to),ab.rows M.N.isEmpty 5 1 1 M.N.length (rows M.N),ab.mp false [Ck.s] (Ck.i .i64) (cb M.K),ab.box [r0],ab.box [I x.op,ad x.ek x.ks,I x.n,I x.d,AV.t (T.str x.nm)],ab.sl false 1 false (enc kids)]=
   some [T.ad 1 false (enc (cL M (c.p++it (bf c.ds x.nm)++us) kids 0 w).1),T.ak,T.ad 3 c.ed (aI c.ds),T.ad 5 c.en (aV c.ns),T.ad 1 c.eh (enc c.hs),T.str c.p,T.ad 1 c.es (enc c.ss),T.ak,T.ak,RW ((cL M (c.p++it (bf c.ds x.nm)++us) kids 0 w).2).N,T.ak,T.ad 1 t.bits.isEmpty (bg t.bits),T.ad 1 t.to.isEmpty (enc t.to),EM ((cL M (c.p++it (bf c.ds x.nm)++us) kids 0 w).2).K]:=by
 have q:=rP (ed:=c.ed) (en:=c.en) (eh:=c.eh) (ns:=c.ns) (hs:=c.hs) (nm:=x.nm) b;have l:dX (bf c.ds x.nm):=by have:=qH x.nm 0 c.ds;unfold bf;constructor <;> omega
 have J:=fq l;obtain⟨k,rfl⟩:∃k,w=k+1:=⟨w - 1,by omega⟩;have v:(0:Int) < ((k+1:Nat):Int):=by omega
 have a:dX (0:Int):=⟨by omega,by omega⟩;have L:=fq a;have r:c.p.size+ (it (bf c.ds x.nm)).size<=4294967296:=by omega
 have u:(c.p++it (bf c.ds x.nm)).size+1<=4294967296:=by rw [Np];omega
 have c3:(c.p++it (bf c.ds x.nm)++us).size+ (it (0:Int)).size<=4294967296:=by simp only [Np,dW];omega
 have f:false=kids.isEmpty:=by cases kids with
  | nil=>exact absurd rfl o
  | cons=>rfl
 have D:=iV M (show M.N.length<=100000 by omega) 9 (c.p++it (bf c.ds x.nm)++us++it (0:Int)) 0 0 kids false f (λy B=>(g y B).i64 (by omega)) (by omega) (by omega) (by omega) (by omega) (by simp only [Np,dW];omega);obtain⟨j,H⟩:=iR h 9 (c.p++it (bf c.ds x.nm)++us++it (0:Int)) 0 0 kids g (by simp) (by omega);have E:i64.wrap (0+1)= ((1:Nat):Int):=by decide
 have C:=I3 (t:=t) (x:=x) (w:=k+1) (e:=false) f b z A m k 1 _ [(cI M 9 (c.p++it (bf c.ds x.nm)++us++it (0:Int)) 0 0 kids).1] (by omega) j.ok (j.all g) (by have:=j.up;omega) rfl;rw [cL];refine ah ?_;rw [Gi];simp only [aj,↓reduceIte,Int.reduceBEq,Int.reduceEq,v,q,gY l,gY a,r,u,c3,D,E,aU,aT,M6,aS,aQ,cU,cV,cB];exact C
theorem I6{c:Cx}{t:Tr}{M:Mk}{x:Nd}{w:Nat}(b:c.ds.length<=100)(r:c.p.size<=100)(A: 1<=w)(u:w<=100)(h:Ok M)(B:M.N.length<=50000):
  Or gE [AV.ref (Id.c 6) 0,AV.ref (Id.c 7) 0,AV.t (T.af true),AV.t (T.af true),I (w:Int),I 0] [ab.box [AV.ref (Id.c 1) 0,AV.t (T.ad 3 c.ed (aI c.ds)),AV.t (T.ad 5 c.en (aV c.ns)),AV.t (T.ad 1 c.eh (enc c.hs)),AV.t (T.str c.p),AV.t (T.ad 1 c.es (enc c.ss)),AV.own (Id.c 2),AV.own (Id.c 3)],ab.box [AV.own (Id.c 4),AV.own (Id.c 5)],ab.sl false 1 t.bits.isEmpty (bg t.bits),ab.sl false 1 t.to.isEmpty (enc t.to),ab.rows M.N.isEmpty 5 1 1 M.N.length (rows M.N),ab.mp false [Ck.s] (Ck.i .i64) (cb M.K),ab.box [r0],ab.box [I x.op,ad x.ek x.ks,I x.n,I x.d,AV.t (T.str x.nm)]]=
   some [T.ad 1 false (enc (cL M (c.p++it (bf c.ds x.nm)++us) [] 0 w).1),T.ak,T.ad 3 c.ed (aI c.ds),T.ad 5 c.en (aV c.ns),T.ad 1 c.eh (enc c.hs),T.str c.p,T.ad 1 c.es (enc c.ss),T.ak,T.ak,RW ((cL M (c.p++it (bf c.ds x.nm)++us) [] 0 w).2).N,T.ak,T.ad 1 t.bits.isEmpty (bg t.bits),T.ad 1 t.to.isEmpty (enc t.to),EM ((cL M (c.p++it (bf c.ds x.nm)++us) [] 0 w).2).K]:=by
 have j:=rP (ed:=c.ed) (en:=c.en) (eh:=c.eh) (ns:=c.ns) (hs:=c.hs) (nm:=x.nm) b;have g:dX (bf c.ds x.nm):=by have:=qH x.nm 0 c.ds;unfold bf;constructor <;> omega
 have D:=fq g;obtain⟨k,rfl⟩:∃k,w=k+1:=⟨w - 1,by omega⟩;have q:(0:Int) < ((k+1:Nat):Int):=by omega
 have a:dX (0:Int):=⟨by omega,by omega⟩;have E:=fq a;have m:c.p.size+ (it (bf c.ds x.nm)).size<=4294967296:=by omega
 have o:(c.p++it (bf c.ds x.nm)).size+1<=4294967296:=by rw [Np];omega
 have c3:(c.p++it (bf c.ds x.nm)++us).size+ (it (0:Int)).size<=4294967296:=by simp only [Np,dW];omega
 have f:=iV M (show M.N.length<=100000 by omega) 9 (c.p++it (bf c.ds x.nm)++us++it (0:Int)) 0 0 [] true rfl (λy e=>by cases e) (by simp) (by omega) (by omega) (by omega) (by simp only [Np,dW];omega);replace f:Or (.call 61) [r0,I 9,AV.t (T.str (c.p++it (bf c.ds x.nm)++us++it (0:Int))),I 0,I 0,AV.t (T.ad 1 true [])] (df M)=_:=f;obtain⟨l,C⟩:=iR h 9 (c.p++it (bf c.ds x.nm)++us++it (0:Int)) 0 0 [] (λy e=>by cases e) (by simp);have z:i64.wrap (0+1)= ((1:Nat):Int):=by decide
 have v:=I4 (t:=t) (x:=x) (w:=k+1) b r u k 1 _ [(cI M 9 (c.p++it (bf c.ds x.nm)++us++it (0:Int)) 0 0 []).1] (by omega) l.ok (by have:=l.up;omega) rfl;rw [cL];refine ah ?_;rw [Gh];simp only [aj,↓reduceIte,Int.reduceBEq,Int.reduceEq,q,j,gY g,gY a,m,o,c3,f,z,aU,aT,M6,aS,aQ,cU,cV,cB];exact v
theorem I8{c:Cx}{t:Tr}{M:Mk}{x:Nd}{i w:Nat}{s:Int}(hs:c.ss[i]? =some s)(v:s - 10= (w:Int))(E:w<=100)(D:x.ks.length<=100)(l:∀k∈x.ks,0<=k/\t.to[k.toNat]? =some (bm t k)){r:List T}:∀(e:List Int) (j:Nat) (acc:List Int),x.ks.drop j=e->j<=x.ks.length->acc.length=j->
  Or gE [AV.ref (Id.c 6) 0,AV.ref (Id.c 7) 0,AV.t (T.af true),AV.own (Id.c 8),I (w:Int),I 0] [ab.box [AV.ref (Id.c 1) 0,AV.t (T.ad 3 c.ed (aI c.ds)),AV.t (T.ad 5 c.en (aV c.ns)),AV.t (T.ad 1 c.eh (enc c.hs)),AV.t (T.str c.p),AV.t (T.ad 1 c.es (enc c.ss)),AV.own (Id.c 2),AV.own (Id.c 3)],ab.box [AV.own (Id.c 4),AV.own (Id.c 5)],ab.sl false 1 t.bits.isEmpty (bg t.bits),ab.sl false 1 t.to.isEmpty (enc t.to),ab.rows M.N.isEmpty 5 1 1 M.N.length (rows M.N),ab.mp false [Ck.s] (Ck.i .i64) (cb M.K),ab.box [r0],ab.box [I x.op,ad x.ek x.ks,I x.n,I x.d,AV.t (T.str x.nm)],ab.sl false 1 false (enc (acc++e.map (bm t)))]=some r->
  Or nq [I (i:Int),AV.ref (Id.c 6) 0,AV.ref (Id.c 7) 0,AV.t (T.af true),AV.own (Id.c 8),ad x.ek x.ks,I (x.ks.length:Int),I (j:Int)] [ab.box [AV.ref (Id.c 1) 0,AV.t (T.ad 3 c.ed (aI c.ds)),AV.t (T.ad 5 c.en (aV c.ns)),AV.t (T.ad 1 c.eh (enc c.hs)),AV.t (T.str c.p),AV.t (T.ad 1 c.es (enc c.ss)),AV.own (Id.c 2),AV.own (Id.c 3)],ab.box [AV.own (Id.c 4),AV.own (Id.c 5)],ab.sl false 1 t.bits.isEmpty (bg t.bits),ab.sl false 1 t.to.isEmpty (enc t.to),ab.rows M.N.isEmpty 5 1 1 M.N.length (rows M.N),ab.mp false [Ck.s] (Ck.i .i64) (cb M.K),ab.box [r0],ab.box [I x.op,ad x.ek x.ks,I x.n,I x.d,AV.t (T.str x.nm)],ab.sl false 1 false (enc acc)]=some r:=by
 intro e;induction e with
 | nil=>
  intro j acc g u a b;have f:¬(j:Int) < (x.ks.length:Int):=by have:=bx g;omega
  have q: 0<=(i:Int)/\(i:Int) < (c.ss.length:Int):=by have:=(M5.1 hs).1;omega
  have C:i64.wrap (s - 10)= (w:Int):=by rw [v,wr (by omega)]
  rw [Oe,Nz] at b;refine ah ?_;rw [zV];simp only [aj,↓reduceIte,Int.reduceBEq,Int.reduceEq,f,q,and_self,aD,bC hs,C];exact b
 | cons k e z=>
  intro j acc g u a b;obtain⟨h,F,o⟩:=bz g;have f:(j:Int) < (x.ks.length:Int):=by omega
  have h0: 0<=(j:Int):=by omega
  obtain⟨G,m⟩:=l k (Nh h);have A: 0<=k/\k < (t.to.length:Int):=by have:=(M5.1 m).1;omega
  have B:bp 8 (acc.length+1)=some ():=cS (by omega);have y:=z (j+1) (acc++ [bm t k]) o (by omega) (by simp [a]) (by
   rw [NH] at b;simpa only [Nx,ND] using b)
  refine ah ?_;rw [zV];simp only [aj,↓reduceIte,Int.reduceBEq,Int.reduceEq,f,h0,and_self,aD,bC h,A,eO m,Nk,B,next j (by omega),ez];exact y
theorem K2{c:Cx}{t:Tr}{M:Mk}{x:Nd}{i:Nat}{s:Int}(C:c.ns[i]? =some x)(hs:c.ss[i]? =some s)(m:x.op=9)(H:aF s=true)(g:cy c t M i)(h:c.ds.length<=100)(A:c.p.size<=100)(l:x.ks.length<=100)(v:∀k∈x.ks,∃s',KW c i k s'/\aF s'=false)(Q:M.N.length<=40000):
  Or (.call 32) [r0,I (i:Int)] [ab.box [AV.ref (Id.c 1) 0,AV.t (T.ad 3 c.ed (aI c.ds)),AV.t (T.ad 5 c.en (aV c.ns)),AV.t (T.ad 1 c.eh (enc c.hs)),AV.t (T.str c.p),AV.t (T.ad 1 c.es (enc c.ss)),AV.own (Id.c 2),AV.own (Id.c 3)],ab.box [AV.own (Id.c 4),AV.own (Id.c 5)],ab.sl false 1 t.bits.isEmpty (bg t.bits),ab.sl false 1 t.to.isEmpty (enc t.to),ab.rows M.N.isEmpty 5 1 1 M.N.length (rows M.N),ab.mp false [Ck.s] (Ck.i .i64) (cb M.K)]=some [T.ad 1 false (enc (cL M (c.p++it (bf c.ds x.nm)++us) (x.ks.map (bm t)) 0 (s - 10).toNat).1),T.ak,T.ad 3 c.ed (aI c.ds),T.ad 5 c.en (aV c.ns),T.ad 1 c.eh (enc c.hs),T.str c.p,T.ad 1 c.es (enc c.ss),T.ak,T.ak,RW ((cL M (c.p++it (bf c.ds x.nm)++us) (x.ks.map (bm t)) 0 (s - 10).toNat).2).N,T.ak,T.ad 1 t.bits.isEmpty (bg t.bits),T.ad 1 t.to.isEmpty (enc t.to),EM ((cL M (c.p++it (bf c.ds x.nm)++us) (x.ks.map (bm t)) 0 (s - 10).toNat).2).K]:=by
 have hl:=e8 H;have F: 0<=(i:Int)/\(i:Int) < (c.ns.length:Int):=by have:=(M5.1 C).1;omega
 have G: 0<=(i:Int)/\(i:Int) < (c.ss.length:Int):=by have:=(M5.1 hs).1;omega
 have B:s - 10= ((s - 10).toNat:Int):=by omega
 have j:∀k∈x.ks,0<=k/\t.to[k.toNat]? =some (bm t k):=λk hm=>by obtain⟨s',e,q⟩:=v k hm;exact⟨e.h0,(e.plain g q).2.1⟩
 have r:∀y∈x.ks.map (bm t),In M y:=λy J=>by obtain⟨k,hm,rfl⟩:=NG.1 J;obtain⟨s',e,q⟩:=v k hm;exact(e.plain g q).2.2
 have b:Or nq [I (i:Int),AV.ref (Id.c 6) 0,AV.ref (Id.c 7) 0,AV.t (T.af true),AV.t (T.af true),ad x.ek x.ks,I (x.ks.length:Int),I 0] [ab.box [AV.ref (Id.c 1) 0,AV.t (T.ad 3 c.ed (aI c.ds)),AV.t (T.ad 5 c.en (aV c.ns)),AV.t (T.ad 1 c.eh (enc c.hs)),AV.t (T.str c.p),AV.t (T.ad 1 c.es (enc c.ss)),AV.own (Id.c 2),AV.own (Id.c 3)],ab.box [AV.own (Id.c 4),AV.own (Id.c 5)],ab.sl false 1 t.bits.isEmpty (bg t.bits),ab.sl false 1 t.to.isEmpty (enc t.to),ab.rows M.N.isEmpty 5 1 1 M.N.length (rows M.N),ab.mp false [Ck.s] (Ck.i .i64) (cb M.K),ab.box [r0],ab.box [I x.op,ad x.ek x.ks,I x.n,I x.d,AV.t (T.str x.nm)]]=
   some [T.ad 1 false (enc (cL M (c.p++it (bf c.ds x.nm)++us) (x.ks.map (bm t)) 0 (s - 10).toNat).1),T.ak,T.ad 3 c.ed (aI c.ds),T.ad 5 c.en (aV c.ns),T.ad 1 c.eh (enc c.hs),T.str c.p,T.ad 1 c.es (enc c.ss),T.ak,T.ak,RW ((cL M (c.p++it (bf c.ds x.nm)++us) (x.ks.map (bm t)) 0 (s - 10).toNat).2).N,T.ak,T.ad 1 t.bits.isEmpty (bg t.bits),T.ad 1 t.to.isEmpty (enc t.to),EM ((cL M (c.p++it (bf c.ds x.nm)++us) (x.ks.map (bm t)) 0 (s - 10).toNat).2).K]:=by
  cases a:x.ks with
  | nil=>
   have f:=I6 (c:=c) (t:=t) (M:=M) (x:=x) (w:=(s - 10).toNat) h A (by omega) (by omega) g.ok (by omega);have P:i64.wrap (s - 10)= ((s - 10).toNat:Int):=by rw [wr (by omega)];omega
   rw [a] at f;refine ah ?_;rw [zU];simp only [aj,↓reduceIte,Int.reduceBEq,Int.reduceEq,Nw,NK,NO,decide_false,G,and_self,aD,bC hs,P];exact f
  | cons k u=>
   have z:x.ks.map (bm t)≠[]:=by rw [a];simp
   have f:=I5 (c:=c) (t:=t) (M:=M) (x:=x) (w:=(s - 10).toNat) z h A (by omega) (by omega) (by simpa using l) g.ok r (by omega);obtain⟨R,D⟩:=j k (by rw [a];exact M3);have L: 0<=k/\k < (t.to.length:Int):=by have:=(M5.1 D).1;omega
   have o:=I8 (c:=c) (t:=t) (M:=M) (x:=x) hs B (by omega) l j u 1 [bm t k] (by rw [a];rfl) (by rw [a];simp) rfl (by
    rw [a] at f⊢;exact f)
   have e:(0:Int) < (((k::u).length:Nat):Int):=by simp
   have h0:(0:Int)<=0:=by omega
   have E:(enc (k::u))[(0:Int).toNat]? =some [ti k]:=rfl;have O:i64.wrap (0+1)= ((1:Nat):Int):=by decide
   rw [a] at o;refine ah ?_;rw [zU];simp only [aj,↓reduceIte,Int.reduceBEq,Int.reduceEq,e,h0,and_self,aD,E,L,eO D,O];exact o
 refine ah ?_;rw [kq];simp (maxSteps:=1000000) only [aj,↓reduceIte,Int.reduceBEq,Int.reduceEq,F,and_self,cK,ew C,m,aD];rw [m] at b;exact b
theorem KU{c:Cx}{t:Tr}{M:Mk}{x:Nd}{i:Nat}{s:Int}(o:c.ns[i]? =some x)(l:x.op=17){d e:Int}(h:x.ks= [d,e])(q:KW c i d s)(r:KW c i e s)(n:aF s=true)(m:cy c t M i)(D:M.N.length<=40000):
  Or (.call 32) [r0,I (i:Int)] [ab.box [AV.ref (Id.c 1) 0,AV.t (T.ad 3 c.ed (aI c.ds)),AV.t (T.ad 5 c.en (aV c.ns)),AV.t (T.ad 1 c.eh (enc c.hs)),AV.t (T.str c.p),AV.t (T.ad 1 c.es (enc c.ss)),AV.own (Id.c 2),AV.own (Id.c 3)],ab.box [AV.own (Id.c 4),AV.own (Id.c 5)],ab.sl false 1 t.bits.isEmpty (bg t.bits),ab.sl false 1 t.to.isEmpty (enc t.to),ab.rows M.N.isEmpty 5 1 1 M.N.length (rows M.N),ab.mp false [Ck.s] (Ck.i .i64) (cb M.K)]=some [T.ad 1 (aK bc M (aB t d) (aB t e)).1.isEmpty (enc (aK bc M (aB t d) (aB t e)).1),T.ak,T.ad 3 c.ed (aI c.ds),T.ad 5 c.en (aV c.ns),T.ad 1 c.eh (enc c.hs),T.str c.p,T.ad 1 c.es (enc c.ss),T.ak,T.ak,RW ((aK bc M (aB t d) (aB t e)).2).N,T.ak,T.ad 1 t.bits.isEmpty (bg t.bits),T.ad 1 t.to.isEmpty (enc t.to),EM ((aK bc M (aB t d) (aB t e)).2).K]:=by
 have hl:=e8 n;have z: 0<=(i:Int)/\(i:Int) < (c.ns.length:Int):=by have:=(M5.1 o).1;omega
 obtain⟨u,B,v⟩:=q.word m n;obtain⟨w,C,y⟩:=r.word m n;have f:=iB (c:=c) (t:=t) (M:=M) (x:=x) (j:=0) (k:=d) (by rw [h];rfl) q.h0 u;have g:=iB (c:=c) (t:=t) (M:=M) (x:=x) (j:=1) (k:=e) (by rw [h];rfl) r.h0 w;rw [l] at f g;replace f:Or (.call 60) [I 0,r0,r1] _=_:=f;replace g:Or (.call 60) [I 1,r0,r1] _=_:=g;have A:=Lf m.ok (ea:=(aB t d).isEmpty) (eb:=(aB t e).isEmpty) (a:=aB t d) (b:=aB t e) (by omega) (by omega) v y (by omega);refine ah ?_;rw [kq];simp (maxSteps:=1000000) only [aj,↓reduceIte,Int.reduceBEq,Int.reduceEq,z,and_self,cK,ew o,l,f,g,A,aU,aT,M6,aS,aQ,cU,cV,cB];rfl
theorem KV{c:Cx}{t:Tr}{M:Mk}{x:Nd}{i:Nat}{s:Int}(o:c.ns[i]? =some x)(l:x.op=18){d e:Int}(h:x.ks= [d,e])(q:KW c i d s)(r:KW c i e s)(n:aF s=true)(m:cy c t M i)(D:M.N.length<=40000):
  Or (.call 32) [r0,I (i:Int)] [ab.box [AV.ref (Id.c 1) 0,AV.t (T.ad 3 c.ed (aI c.ds)),AV.t (T.ad 5 c.en (aV c.ns)),AV.t (T.ad 1 c.eh (enc c.hs)),AV.t (T.str c.p),AV.t (T.ad 1 c.es (enc c.ss)),AV.own (Id.c 2),AV.own (Id.c 3)],ab.box [AV.own (Id.c 4),AV.own (Id.c 5)],ab.sl false 1 t.bits.isEmpty (bg t.bits),ab.sl false 1 t.to.isEmpty (enc t.to),ab.rows M.N.isEmpty 5 1 1 M.N.length (rows M.N),ab.mp false [Ck.s] (Ck.i .i64) (cb M.K)]=some [T.ad 1 (aK cY M (aB t d) (aB t e)).1.isEmpty (enc (aK cY M (aB t d) (aB t e)).1),T.ak,T.ad 3 c.ed (aI c.ds),T.ad 5 c.en (aV c.ns),T.ad 1 c.eh (enc c.hs),T.str c.p,T.ad 1 c.es (enc c.ss),T.ak,T.ak,RW ((aK cY M (aB t d) (aB t e)).2).N,T.ak,T.ad 1 t.bits.isEmpty (bg t.bits),T.ad 1 t.to.isEmpty (enc t.to),EM ((aK cY M (aB t d) (aB t e)).2).K]:=by
 have hl:=e8 n;have z: 0<=(i:Int)/\(i:Int) < (c.ns.length:Int):=by have:=(M5.1 o).1;omega
 obtain⟨u,B,v⟩:=q.word m n;obtain⟨w,C,y⟩:=r.word m n;have f:=iB (c:=c) (t:=t) (M:=M) (x:=x) (j:=0) (k:=d) (by rw [h];rfl) q.h0 u;have g:=iB (c:=c) (t:=t) (M:=M) (x:=x) (j:=1) (k:=e) (by rw [h];rfl) r.h0 w;rw [l] at f g;replace f:Or (.call 60) [I 0,r0,r1] _=_:=f;replace g:Or (.call 60) [I 1,r0,r1] _=_:=g;have A:=Lg m.ok (ea:=(aB t d).isEmpty) (eb:=(aB t e).isEmpty) (a:=aB t d) (b:=aB t e) (by omega) (by omega) v y (by omega);refine ah ?_;rw [kq];simp (maxSteps:=1000000) only [aj,↓reduceIte,Int.reduceBEq,Int.reduceEq,z,and_self,cK,ew o,l,f,g,A,aU,aT,M6,aS,aQ,cU,cV,cB];rfl
theorem KX{c:Cx}{t:Tr}{M:Mk}{x:Nd}{i:Nat}{s:Int}(o:c.ns[i]? =some x)(l:x.op=19){d e:Int}(h:x.ks= [d,e])(q:KW c i d s)(r:KW c i e s)(n:aF s=true)(m:cy c t M i)(D:M.N.length<=40000):
  Or (.call 32) [r0,I (i:Int)] [ab.box [AV.ref (Id.c 1) 0,AV.t (T.ad 3 c.ed (aI c.ds)),AV.t (T.ad 5 c.en (aV c.ns)),AV.t (T.ad 1 c.eh (enc c.hs)),AV.t (T.str c.p),AV.t (T.ad 1 c.es (enc c.ss)),AV.own (Id.c 2),AV.own (Id.c 3)],ab.box [AV.own (Id.c 4),AV.own (Id.c 5)],ab.sl false 1 t.bits.isEmpty (bg t.bits),ab.sl false 1 t.to.isEmpty (enc t.to),ab.rows M.N.isEmpty 5 1 1 M.N.length (rows M.N),ab.mp false [Ck.s] (Ck.i .i64) (cb M.K)]=some [T.ad 1 (aK aO M (aB t d) (aB t e)).1.isEmpty (enc (aK aO M (aB t d) (aB t e)).1),T.ak,T.ad 3 c.ed (aI c.ds),T.ad 5 c.en (aV c.ns),T.ad 1 c.eh (enc c.hs),T.str c.p,T.ad 1 c.es (enc c.ss),T.ak,T.ak,RW ((aK aO M (aB t d) (aB t e)).2).N,T.ak,T.ad 1 t.bits.isEmpty (bg t.bits),T.ad 1 t.to.isEmpty (enc t.to),EM ((aK aO M (aB t d) (aB t e)).2).K]:=by
 have hl:=e8 n;have z: 0<=(i:Int)/\(i:Int) < (c.ns.length:Int):=by have:=(M5.1 o).1;omega
 obtain⟨u,B,v⟩:=q.word m n;obtain⟨w,C,y⟩:=r.word m n;have f:=iB (c:=c) (t:=t) (M:=M) (x:=x) (j:=0) (k:=d) (by rw [h];rfl) q.h0 u;have g:=iB (c:=c) (t:=t) (M:=M) (x:=x) (j:=1) (k:=e) (by rw [h];rfl) r.h0 w;rw [l] at f g;replace f:Or (.call 60) [I 0,r0,r1] _=_:=f;replace g:Or (.call 60) [I 1,r0,r1] _=_:=g;have A:=Lh m.ok (ea:=(aB t d).isEmpty) (eb:=(aB t e).isEmpty) (a:=aB t d) (b:=aB t e) (by omega) (by omega) v y (by omega);refine ah ?_;rw [kq];simp (maxSteps:=1000000) only [aj,↓reduceIte,Int.reduceBEq,Int.reduceEq,z,and_self,cK,ew o,l,f,g,A,aU,aT,M6,aS,aQ,cU,cV,cB];rfl
theorem KY{c:Cx}{t:Tr}{M:Mk}{x:Nd}{i:Nat}{s:Int}(o:c.ns[i]? =some x)(l:x.op=20){d e:Int}(h:x.ks= [d,e])(q:KW c i d s)(r:KW c i e s)(n:aF s=true)(m:cy c t M i)(D:M.N.length<=40000):
  Or (.call 32) [r0,I (i:Int)] [ab.box [AV.ref (Id.c 1) 0,AV.t (T.ad 3 c.ed (aI c.ds)),AV.t (T.ad 5 c.en (aV c.ns)),AV.t (T.ad 1 c.eh (enc c.hs)),AV.t (T.str c.p),AV.t (T.ad 1 c.es (enc c.ss)),AV.own (Id.c 2),AV.own (Id.c 3)],ab.box [AV.own (Id.c 4),AV.own (Id.c 5)],ab.sl false 1 t.bits.isEmpty (bg t.bits),ab.sl false 1 t.to.isEmpty (enc t.to),ab.rows M.N.isEmpty 5 1 1 M.N.length (rows M.N),ab.mp false [Ck.s] (Ck.i .i64) (cb M.K)]=some [T.ad 1 (cN M (aB t d) (aB t e)).1.isEmpty (enc (cN M (aB t d) (aB t e)).1),T.ak,T.ad 3 c.ed (aI c.ds),T.ad 5 c.en (aV c.ns),T.ad 1 c.eh (enc c.hs),T.str c.p,T.ad 1 c.es (enc c.ss),T.ak,T.ak,RW ((cN M (aB t d) (aB t e)).2).N,T.ak,T.ad 1 t.bits.isEmpty (bg t.bits),T.ad 1 t.to.isEmpty (enc t.to),EM ((cN M (aB t d) (aB t e)).2).K]:=by
 have hl:=e8 n;have z: 0<=(i:Int)/\(i:Int) < (c.ns.length:Int):=by have:=(M5.1 o).1;omega
 obtain⟨u,B,v⟩:=q.word m n;obtain⟨w,C,y⟩:=r.word m n;have f:=iB (c:=c) (t:=t) (M:=M) (x:=x) (j:=0) (k:=d) (by rw [h];rfl) q.h0 u;have g:=iB (c:=c) (t:=t) (M:=M) (x:=x) (j:=1) (k:=e) (by rw [h];rfl) r.h0 w;rw [l] at f g;replace f:Or (.call 60) [I 0,r0,r1] _=_:=f;replace g:Or (.call 60) [I 1,r0,r1] _=_:=g;have A:=DV m.ok (ea:=(aB t d).isEmpty) (eb:=(aB t e).isEmpty) (a:=aB t d) (b:=aB t e) (by omega) (by omega) v y (by omega);refine ah ?_;rw [kq];simp (maxSteps:=1000000) only [aj,↓reduceIte,Int.reduceBEq,Int.reduceEq,z,and_self,cK,ew o,l,f,g,A,aU,aT,M6,aS,aQ,cU,cV,cB];rfl
theorem KZ{c:Cx}{t:Tr}{M:Mk}{x:Nd}{i:Nat}{s:Int}(o:c.ns[i]? =some x)(l:x.op=21){d e:Int}(h:x.ks= [d,e])(q:KW c i d s)(r:KW c i e s)(n:aF s=true)(m:cy c t M i)(D:M.N.length<=40000):
  Or (.call 32) [r0,I (i:Int)] [ab.box [AV.ref (Id.c 1) 0,AV.t (T.ad 3 c.ed (aI c.ds)),AV.t (T.ad 5 c.en (aV c.ns)),AV.t (T.ad 1 c.eh (enc c.hs)),AV.t (T.str c.p),AV.t (T.ad 1 c.es (enc c.ss)),AV.own (Id.c 2),AV.own (Id.c 3)],ab.box [AV.own (Id.c 4),AV.own (Id.c 5)],ab.sl false 1 t.bits.isEmpty (bg t.bits),ab.sl false 1 t.to.isEmpty (enc t.to),ab.rows M.N.isEmpty 5 1 1 M.N.length (rows M.N),ab.mp false [Ck.s] (Ck.i .i64) (cb M.K)]=some [T.ad 1 (gy M (aB t d) (aB t e)).1.isEmpty (enc (gy M (aB t d) (aB t e)).1),T.ak,T.ad 3 c.ed (aI c.ds),T.ad 5 c.en (aV c.ns),T.ad 1 c.eh (enc c.hs),T.str c.p,T.ad 1 c.es (enc c.ss),T.ak,T.ak,RW ((gy M (aB t d) (aB t e)).2).N,T.ak,T.ad 1 t.bits.isEmpty (bg t.bits),T.ad 1 t.to.isEmpty (enc t.to),EM ((gy M (aB t d) (aB t e)).2).K]:=by
 have hl:=e8 n;have z: 0<=(i:Int)/\(i:Int) < (c.ns.length:Int):=by have:=(M5.1 o).1;omega
 obtain⟨u,B,v⟩:=q.word m n;obtain⟨w,C,y⟩:=r.word m n;have f:=iB (c:=c) (t:=t) (M:=M) (x:=x) (j:=0) (k:=d) (by rw [h];rfl) q.h0 u;have g:=iB (c:=c) (t:=t) (M:=M) (x:=x) (j:=1) (k:=e) (by rw [h];rfl) r.h0 w;rw [l] at f g;replace f:Or (.call 60) [I 0,r0,r1] _=_:=f;replace g:Or (.call 60) [I 1,r0,r1] _=_:=g;have A:=Lj m.ok (ea:=(aB t d).isEmpty) (eb:=(aB t e).isEmpty) (a:=aB t d) (b:=aB t e) (by omega) (by omega) (by omega) v y (by omega);refine ah ?_;rw [kq];simp (maxSteps:=1000000) only [aj,↓reduceIte,Int.reduceBEq,Int.reduceEq,z,and_self,cK,ew o,l,f,g,A,aU,aT,M6,aS,aQ,cU,cV,cB];rfl
theorem K0{c:Cx}{t:Tr}{M:Mk}{x:Nd}{i:Nat}{s:Int}(l:c.ns[i]? =some x)(e:x.op=23){b:Int}(f:x.ks= [b])(m:KW c i b s)(r: 0<=x.n/\x.n<=8)(h:aF s=true)(g:cy c t M i)(y:M.N.length<=40000):
  Or (.call 32) [r0,I (i:Int)] [ab.box [AV.ref (Id.c 1) 0,AV.t (T.ad 3 c.ed (aI c.ds)),AV.t (T.ad 5 c.en (aV c.ns)),AV.t (T.ad 1 c.eh (enc c.hs)),AV.t (T.str c.p),AV.t (T.ad 1 c.es (enc c.ss)),AV.own (Id.c 2),AV.own (Id.c 3)],ab.box [AV.own (Id.c 4),AV.own (Id.c 5)],ab.sl false 1 t.bits.isEmpty (bg t.bits),ab.sl false 1 t.to.isEmpty (enc t.to),ab.rows M.N.isEmpty 5 1 1 M.N.length (rows M.N),ab.mp false [Ck.s] (Ck.i .i64) (cb M.K)]=some [T.ad 1 (aW M (aB t b) x.n).1.isEmpty (enc (aW M (aB t b) x.n).1),T.ak,T.ad 3 c.ed (aI c.ds),T.ad 5 c.en (aV c.ns),T.ad 1 c.eh (enc c.hs),T.str c.p,T.ad 1 c.es (enc c.ss),T.ak,T.ak,RW ((aW M (aB t b) x.n).2).N,T.ak,T.ad 1 t.bits.isEmpty (bg t.bits),T.ad 1 t.to.isEmpty (enc t.to),EM ((aW M (aB t b) x.n).2).K]:=by
 have hl:=e8 h;have q: 0<=(i:Int)/\(i:Int) < (c.ns.length:Int):=by have:=(M5.1 l).1;omega
 obtain⟨o,v,w⟩:=m.word g h;have d:=iB (c:=c) (t:=t) (M:=M) (x:=x) (j:=0) (k:=b) (by rw [f];rfl) m.h0 o;rw [e] at d;replace d:Or (.call 60) [I 0,r0,r1] _=_:=d;have u:=xY g.ok (ea:=(aB t b).isEmpty) (a:=aB t b) (n:=x.n) r.1 (by omega) (by omega) (by omega);refine ah ?_;rw [kq];simp (maxSteps:=1000000) only [aj,↓reduceIte,Int.reduceBEq,Int.reduceEq,q,and_self,cK,ew l,e,d,u,aU,aT,M6,aS,aQ,cU,cV,cB];rfl
theorem K1{c:Cx}{t:Tr}{M:Mk}{x:Nd}{i:Nat}{s s0:Int}(r:c.ns[i]? =some x)(n:x.op=7){d e f:Int}(g:x.ks= [d,e,f])(v:KW c i d s0)(q:aF s0=false)(w:KW c i e s)(y:KW c i f s)(o:aF s=true)(h:cy c t M i)(P:M.N.length<=40000):
  Or (.call 32) [r0,I (i:Int)] [ab.box [AV.ref (Id.c 1) 0,AV.t (T.ad 3 c.ed (aI c.ds)),AV.t (T.ad 5 c.en (aV c.ns)),AV.t (T.ad 1 c.eh (enc c.hs)),AV.t (T.str c.p),AV.t (T.ad 1 c.es (enc c.ss)),AV.own (Id.c 2),AV.own (Id.c 3)],ab.box [AV.own (Id.c 4),AV.own (Id.c 5)],ab.sl false 1 t.bits.isEmpty (bg t.bits),ab.sl false 1 t.to.isEmpty (enc t.to),ab.rows M.N.isEmpty 5 1 1 M.N.length (rows M.N),ab.mp false [Ck.s] (Ck.i .i64) (cb M.K)]=some [T.ad 1 false (enc (aK (cE (bm t d)) M (aB t e) (aB t f)).1),T.ak,T.ad 3 c.ed (aI c.ds),T.ad 5 c.en (aV c.ns),T.ad 1 c.eh (enc c.hs),T.str c.p,T.ad 1 c.es (enc c.ss),T.ak,T.ak,RW ((aK (cE (bm t d)) M (aB t e) (aB t f)).2).N,T.ak,T.ad 1 t.bits.isEmpty (bg t.bits),T.ad 1 t.to.isEmpty (enc t.to),EM ((aK (cE (bm t d)) M (aB t e) (aB t f)).2).K]:=by
 have hl:=e8 o;have E: 0<=(i:Int)/\(i:Int) < (c.ns.length:Int):=by have:=(M5.1 r).1;omega
 obtain⟨_,u,H⟩:=v.plain h q;obtain⟨z,L,A⟩:=w.word h o;obtain⟨B,O,C⟩:=y.word h o;have l:=iB (c:=c) (t:=t) (M:=M) (x:=x) (j:=1) (k:=e) (by rw [g];rfl) w.h0 z;have m:=iB (c:=c) (t:=t) (M:=M) (x:=x) (j:=2) (k:=f) (by rw [g];rfl) y.h0 B;rw [n] at l m;replace l:Or (.call 60) [I 1,r0,r1] _=_:=l;replace m:Or (.call 60) [I 2,r0,r1] _=_:=m;have J:=Ld (c:=c) (t:=t) h.ok H (ea:=(aB t e).isEmpty) (eb:=(aB t f).isEmpty) (a:=aB t e) (b:=aB t f) (by omega) (by omega) (by omega) A C (by omega);have F:(0:Int)<=0/\(0:Int) < ((x.ks.length:Nat):Int):=by rw [g];simp
 have D:(enc x.ks)[0]? =some [ti d]:=by rw [g];rfl
 have G: 0<=d/\d < (t.to.length:Int):=by have:=(M5.1 u).1;have:=v.h0;omega
 refine ah ?_;rw [kq];simp (maxSteps:=1000000) only [aj,↓reduceIte,Int.reduceBEq,Int.reduceEq,E,F,G,and_self,cK,ew r,n,aD,D,eO u,l,m,J,aU,aT,M6,aS,aQ,cU,cV,cB];rfl
def il(n:Int)(b:Nat):Bool:=i64.wrap (((BitVec.ofInt 64 (n.fdiv (2 ^ min ((b:Int)).toNat 64)) &&& BitVec.ofInt 64 1).toNat:Nat):Int)==1
def eu(M:Mk)(n:Int):Nat->Nat->List Int×Mk
 | _,0=>([],M)
 | b,k+1=>((bV M (il n b)).1:: (eu (bV M (il n b)).2 n (b+1) k).1,(eu (bV M (il n b)).2 n (b+1) k).2)
theorem zk{n:Int}:∀{k b:Nat} {M:Mk},Ok M->Up M (eu M n b k).2 k/\(∀x∈(eu M n b k).1,In (eu M n b k).2 x)/\(eu M n b k).1.length=k
 | 0,b,M,h=>⟨Up.refl h,λx i=>(by cases i),rfl⟩
 | k+1,b,M,h=>by
  obtain⟨c,e⟩:=iq h (il n b);obtain⟨d,f,g⟩:=zk (n:=n) (k:=k) (b:=b+1) c.ok;refine⟨(c.trans d).mono (by omega),λz a=> ?_,by simp [eu,g]⟩;rcases Nj.1 a with rfl | a
  .exact d.In e
  .exact f z a
theorem I7{c:Cx}{t:Tr}{x:Nd}{w:Nat}(u:w<=100):∀(k b:Nat) (M:Mk) (acc:List Int),b+k=w->Ok M->M.N.length+k<=60000->acc.length=b->
  Or np [AV.ref (Id.c 6) 0,AV.ref (Id.c 7) 0,AV.own (Id.c 8),I (w:Int),I (b:Int)] [ab.box [AV.ref (Id.c 1) 0,AV.t (T.ad 3 c.ed (aI c.ds)),AV.t (T.ad 5 c.en (aV c.ns)),AV.t (T.ad 1 c.eh (enc c.hs)),AV.t (T.str c.p),AV.t (T.ad 1 c.es (enc c.ss)),AV.own (Id.c 2),AV.own (Id.c 3)],ab.box [AV.own (Id.c 9),AV.own (Id.c 5)],ab.sl false 1 t.bits.isEmpty (bg t.bits),ab.sl false 1 t.to.isEmpty (enc t.to),ab.dead,ab.mp false [Ck.s] (Ck.i .i64) (cb M.K),ab.box [r0],ab.box [I x.op,ad x.ek x.ks,I x.n,I x.d,AV.t (T.str x.nm)],ab.sl false 1 false (enc acc),ab.rows M.N.isEmpty 5 1 1 M.N.length (rows M.N)]=
   some [T.ad 1 false (enc (acc++ (eu M x.n b k).1)),T.ak,T.ad 3 c.ed (aI c.ds),T.ad 5 c.en (aV c.ns),T.ad 1 c.eh (enc c.hs),T.str c.p,T.ad 1 c.es (enc c.ss),T.ak,T.ak,RW ((eu M x.n b k).2).N,T.ak,T.ad 1 t.bits.isEmpty (bg t.bits),T.ad 1 t.to.isEmpty (enc t.to),EM ((eu M x.n b k).2).K]:=by
 intro k;induction k with
 | zero=>
  intro b M acc m h l a;have e:¬(b:Int) < (w:Int):=by omega
  refine ah ?_;rw [zS];simp only [aj,↓reduceIte,Int.reduceBEq,Int.reduceEq,e,aU,aT,M6,aS,aQ,cU,cV,cB,eu,Nz];rfl
 | succ k o=>
  intro b M acc m h l a;have e:(b:Int) < (w:Int):=by omega
  have j:¬(b:Int) < 0:=by omega
  have q:=kE (show M.N.length<=100000 by omega) (il x.n b);obtain⟨g,v⟩:=iq h (il x.n b);have r:bp 8 (acc.length+1)=some ():=cS (by omega);have f:=o (b+1) _ (acc++ [(bV M (il x.n b)).1]) (by omega) g.ok (by have:=g.up;omega) (by simp [a]);simp only [Nx,ND] at f;rw [eu];refine ah ?_;rw [zS];simp only [bu,bA,e,j,decide_true,cond_true,↓reduceIte];change aa none (Or (.call 65) [r0,B (il x.n b)] _) _=_;simp only [aj,↓reduceIte,Int.reduceBEq,Int.reduceEq,q,aD,Nk,r,next b (by omega),ez,aU,aT,M6,aS,aQ,cU,cV,cB];exact f
theorem KS{c:Cx}{t:Tr}{M:Mk}{x:Nd}{i:Nat}(f:c.ns[i]? =some x)(b:x.op=15)(y: 1<=x.d/\x.d<=8)(q:cy c t M i)(v:M.N.length<=40000):
  Or (.call 32) [r0,I (i:Int)] [ab.box [AV.ref (Id.c 1) 0,AV.t (T.ad 3 c.ed (aI c.ds)),AV.t (T.ad 5 c.en (aV c.ns)),AV.t (T.ad 1 c.eh (enc c.hs)),AV.t (T.str c.p),AV.t (T.ad 1 c.es (enc c.ss)),AV.own (Id.c 2),AV.own (Id.c 3)],ab.box [AV.own (Id.c 4),AV.own (Id.c 5)],ab.sl false 1 t.bits.isEmpty (bg t.bits),ab.sl false 1 t.to.isEmpty (enc t.to),ab.rows M.N.isEmpty 5 1 1 M.N.length (rows M.N),ab.mp false [Ck.s] (Ck.i .i64) (cb M.K)]=some [T.ad 1 false (enc (eu M x.n 0 x.d.toNat).1),T.ak,T.ad 3 c.ed (aI c.ds),T.ad 5 c.en (aV c.ns),T.ad 1 c.eh (enc c.hs),T.str c.p,T.ad 1 c.es (enc c.ss),T.ak,T.ak,RW ((eu M x.n 0 x.d.toNat).2).N,T.ak,T.ad 1 t.bits.isEmpty (bg t.bits),T.ad 1 t.to.isEmpty (enc t.to),EM ((eu M x.n 0 x.d.toNat).2).K]:=by
 have l: 0<=(i:Int)/\(i:Int) < (c.ns.length:Int):=by have:=(M5.1 f).1;omega
 obtain⟨k,o⟩:∃k:Nat,x.d.toNat=k+1:=⟨x.d.toNat - 1,by omega⟩;have e:x.d= ((k+1:Nat):Int):=by omega
 have a:Or np [AV.ref (Id.c 6) 0,AV.ref (Id.c 7) 0,AV.t (T.af true),I x.d,I 0] [ab.box [AV.ref (Id.c 1) 0,AV.t (T.ad 3 c.ed (aI c.ds)),AV.t (T.ad 5 c.en (aV c.ns)),AV.t (T.ad 1 c.eh (enc c.hs)),AV.t (T.str c.p),AV.t (T.ad 1 c.es (enc c.ss)),AV.own (Id.c 2),AV.own (Id.c 3)],ab.box [AV.own (Id.c 4),AV.own (Id.c 5)],ab.sl false 1 t.bits.isEmpty (bg t.bits),ab.sl false 1 t.to.isEmpty (enc t.to),ab.rows M.N.isEmpty 5 1 1 M.N.length (rows M.N),ab.mp false [Ck.s] (Ck.i .i64) (cb M.K),ab.box [r0],ab.box [I x.op,ad x.ek x.ks,I x.n,I x.d,AV.t (T.str x.nm)]]=
   some [T.ad 1 false (enc (eu M x.n 0 (k+1)).1),T.ak,T.ad 3 c.ed (aI c.ds),T.ad 5 c.en (aV c.ns),T.ad 1 c.eh (enc c.hs),T.str c.p,T.ad 1 c.es (enc c.ss),T.ak,T.ak,RW ((eu M x.n 0 (k+1)).2).N,T.ak,T.ad 1 t.bits.isEmpty (bg t.bits),T.ad 1 t.to.isEmpty (enc t.to),EM ((eu M x.n 0 (k+1)).2).K]:=by
  have j:(0:Int) < x.d:=by omega
  have m:¬(0:Int) < 0:=by omega
  have r:=kE (show M.N.length<=100000 by omega) (il x.n 0);obtain⟨h,z⟩:=iq q.ok (il x.n 0);have u:i64.wrap (0+1)= ((1:Nat):Int):=by decide
  have g:=I7 (c:=c) (t:=t) (x:=x) (w:=k+1) (by omega) k 1 _ [(bV M (il x.n 0)).1] (by omega) h.ok (by have:=h.up;omega) rfl;rw [<-e] at g;rw [eu];refine ah ?_;rw [Gj];simp only [bu,bA,j,m,decide_true,cond_true,↓reduceIte];change aa none (Or (.call 65) [r0,B (il x.n 0)] _) _=_;simp only [aj,↓reduceIte,Int.reduceBEq,Int.reduceEq,r,u,aU,aT,M6,aS,aQ,cU,cV,cB];exact g
 rw [o];refine ah ?_;rw [kq];simp (maxSteps:=1000000) only [aj,↓reduceIte,Int.reduceBEq,Int.reduceEq,l,and_self,cK,ew f,b];rw [b] at a;exact a
def eA(M:Mk):List Int->List Int×Mk
 | y::l=>((bR M y).1:: (eA (bR M y).2 l).1,(eA (bR M y).2 l).2)
 | []=>([],M)
theorem CM:∀{l:List Int} {M:Mk},Ok M->(∀y∈l,In M y)->
  Up M (eA M l).2 l.length/\(∀y∈(eA M l).1,In (eA M l).2 y)/\(eA M l).1.length=l.length
 | [],M,h,_=>⟨Up.refl h,λx g=>(by cases g),rfl⟩
 | y::l,M,h,hl=>by
  obtain⟨b,d⟩:=n7 h (hl y M3);obtain⟨c,e,f⟩:=CM (l:=l) b.ok (b.all λz a=>hl z (M4 _ a));refine⟨(b.trans c).mono (by rw [Nf];omega),λz a=> ?_,by simp [eA,f]⟩;rcases Nj.1 a with rfl | a
  .exact c.In d
  .exact e z a
theorem I9{c:Cx}{t:Tr}{e:Bool}{l:List Int}(hl:l.length<=100):∀(r:List Int) (j:Nat) (M:Mk) (acc:List Int),l.drop j=r->j<=l.length->Ok M->(∀y∈r,In M y)->M.N.length+r.length<=60000->acc.length=j->
  Or oC [AV.ref (Id.c 6) 0,AV.own (Id.c 7),ad e l,I (l.length:Int),I (j:Int)] [ab.box [AV.ref (Id.c 1) 0,AV.t (T.ad 3 c.ed (aI c.ds)),AV.t (T.ad 5 c.en (aV c.ns)),AV.t (T.ad 1 c.eh (enc c.hs)),AV.t (T.str c.p),AV.t (T.ad 1 c.es (enc c.ss)),AV.own (Id.c 2),AV.own (Id.c 3)],ab.box [AV.own (Id.c 8),AV.own (Id.c 5)],ab.sl false 1 t.bits.isEmpty (bg t.bits),ab.sl false 1 t.to.isEmpty (enc t.to),ab.dead,ab.mp false [Ck.s] (Ck.i .i64) (cb M.K),ab.box [r0],ab.sl false 1 false (enc acc),ab.rows M.N.isEmpty 5 1 1 M.N.length (rows M.N)]=
   some [T.ad 1 false (enc (acc++ (eA M r).1)),T.ak,T.ad 3 c.ed (aI c.ds),T.ad 5 c.en (aV c.ns),T.ad 1 c.eh (enc c.hs),T.str c.p,T.ad 1 c.es (enc c.ss),T.ak,T.ak,RW ((eA M r).2).N,T.ak,T.ad 1 t.bits.isEmpty (bg t.bits),T.ad 1 t.to.isEmpty (enc t.to),EM ((eA M r).2).K]:=by
 intro r;induction r with
 | nil=>
  intro j M acc g u h f m a;have d:¬(j:Int) < (l.length:Int):=by have:=bx g;omega
  refine ah ?_;rw [zT];simp only [aj,↓reduceIte,Int.reduceBEq,Int.reduceEq,d,aU,aT,M6,aS,aQ,cU,cV,cB,eA,Nz];rfl
 | cons y r v=>
  intro j M acc g u h f m a;obtain⟨o,A,q⟩:=bz g;have d:(j:Int) < (l.length:Int):=by omega
  have h0: 0<=(j:Int):=by omega
  have n:=f y M3;rw [Nf] at m;have w:=pS h (show M.N.length<=100000 by omega) n;obtain⟨k,B⟩:=n7 h n;have x:bp 8 (acc.length+1)=some ():=cS (by omega);have b:=v (j+1) _ (acc++ [(bR M y).1]) q (by omega) k.ok (k.all λz b=>f z (M4 _ b)) (by have:=k.up;omega) (by simp [a]);simp only [Nx,ND] at b;rw [eA];refine ah ?_;rw [zT];simp only [aj,↓reduceIte,Int.reduceBEq,Int.reduceEq,d,h0,and_self,w,aD,bC o,Nk,x,next j (by omega),ez,aU,aT,M6,aS,aQ,cU,cV,cB];exact b
theorem KT{c:Cx}{t:Tr}{M:Mk}{x:Nd}{i:Nat}{s:Int}(A:c.ns[i]? =some x)(h:x.op=16){a:Int}(u:x.ks= [a])(g:KW c i a s)(w:aF s=true)(n:cy c t M i)(G:M.N.length<=40000):
  Or (.call 32) [r0,I (i:Int)] [ab.box [AV.ref (Id.c 1) 0,AV.t (T.ad 3 c.ed (aI c.ds)),AV.t (T.ad 5 c.en (aV c.ns)),AV.t (T.ad 1 c.eh (enc c.hs)),AV.t (T.str c.p),AV.t (T.ad 1 c.es (enc c.ss)),AV.own (Id.c 2),AV.own (Id.c 3)],ab.box [AV.own (Id.c 4),AV.own (Id.c 5)],ab.sl false 1 t.bits.isEmpty (bg t.bits),ab.sl false 1 t.to.isEmpty (enc t.to),ab.rows M.N.isEmpty 5 1 1 M.N.length (rows M.N),ab.mp false [Ck.s] (Ck.i .i64) (cb M.K)]=some [T.ad 1 false (enc (eA M (aB t a)).1),T.ak,T.ad 3 c.ed (aI c.ds),T.ad 5 c.en (aV c.ns),T.ad 1 c.eh (enc c.hs),T.str c.p,T.ad 1 c.es (enc c.ss),T.ak,T.ak,RW ((eA M (aB t a)).2).N,T.ak,T.ad 1 t.bits.isEmpty (bg t.bits),T.ad 1 t.to.isEmpty (enc t.to),EM ((eA M (aB t a)).2).K]:=by
 have hl:=e8 w;have F: 0<=(i:Int)/\(i:Int) < (c.ns.length:Int):=by have:=(M5.1 A).1;omega
 obtain⟨C,m,b⟩:=g.word n w;have f:=iB (c:=c) (t:=t) (M:=M) (x:=x) (j:=0) (k:=a) (by rw [u];rfl) g.h0 C;rw [h] at f;replace f:Or (.call 60) [I 0,r0,r1] _=_:=f
 have d:Or oC [AV.ref (Id.c 6) 0,AV.t (T.af true),ad (aB t a).isEmpty (aB t a),I ((aB t a).length:Int),I 0] [ab.box [AV.ref (Id.c 1) 0,AV.t (T.ad 3 c.ed (aI c.ds)),AV.t (T.ad 5 c.en (aV c.ns)),AV.t (T.ad 1 c.eh (enc c.hs)),AV.t (T.str c.p),AV.t (T.ad 1 c.es (enc c.ss)),AV.own (Id.c 2),AV.own (Id.c 3)],ab.box [AV.own (Id.c 7),AV.own (Id.c 5)],ab.sl false 1 t.bits.isEmpty (bg t.bits),ab.sl false 1 t.to.isEmpty (enc t.to),ab.dead,ab.mp false [Ck.s] (Ck.i .i64) (cb M.K),ab.box [r0],ab.rows M.N.isEmpty 5 1 1 M.N.length (rows M.N)]=
   some [T.ad 1 false (enc (eA M (aB t a)).1),T.ak,T.ad 3 c.ed (aI c.ds),T.ad 5 c.en (aV c.ns),T.ad 1 c.eh (enc c.hs),T.str c.p,T.ad 1 c.es (enc c.ss),T.ak,T.ak,RW ((eA M (aB t a)).2).N,T.ak,T.ad 1 t.bits.isEmpty (bg t.bits),T.ad 1 t.to.isEmpty (enc t.to),EM ((eA M (aB t a)).2).K]:=by
  revert m b;generalize aB t a=l;intro m b;cases l with
  | nil=>simp at m;omega
  | cons y r=>
   have B:=b y M3;have a:=pS n.ok (show M.N.length<=100000 by omega) B;obtain⟨q,H⟩:=n7 n.ok B;have E:(0:Int) < (((y::r).length:Nat):Int):=by simp
   have h0:(0:Int)<=0:=by omega
   have D:(enc (y::r))[(0:Int).toNat]? =some [ti y]:=rfl;have g:i64.wrap (0+1)= ((1:Nat):Int):=by decide
   have v:((y::r).length:Int)<=8:=by omega
   have o:=I9 (c:=c) (t:=t) (e:=(y::r).isEmpty) (l:=y::r) (by omega) r 1 _ [(bR M y).1] rfl (by simp) q.ok (q.all λz o=>b z (M4 _ o)) (by have:=q.up;rw [Nf] at v;omega) rfl;rw [eA];refine ah ?_;rw [Gk];simp only [aj,↓reduceIte,Int.reduceBEq,Int.reduceEq,E,h0,and_self,a,aD,D,g,aU,aT,M6,aS,aQ,cU,cV,cB];exact o
 refine ah ?_;rw [kq];simp (maxSteps:=1000000) only [aj,↓reduceIte,Int.reduceBEq,Int.reduceEq,F,and_self,cK,ew A,h,f,aD,aU,aT,M6,aS,aQ,cU,cV,cB];exact d
open Go Go.Aev Go.IntKind
def gJ(M:Mk)(acc:Int):List Int->Int×Mk
 | []=>(acc,M)
 | y::l=>gJ (bc M acc y).2 (bc M acc y).1 l
theorem yG:∀{l:List Int} {M:Mk} {acc:Int},Ok M->In M acc->(∀y∈l,In M y)->Up M (gJ M acc l).2 l.length/\In (gJ M acc l).2 (gJ M acc l).1
 | [],M,acc,h,b,_=>⟨Up.refl h,b⟩
 | y::l,M,acc,h,b,hl=>by obtain⟨a,c⟩:=fS h b (hl y M3);obtain⟨d,e⟩:=yG (l:=l) a.ok c (a.all λz f=>hl z (M4 _ f));exact⟨(a.trans d).mono (by rw [Nf];omega),e⟩
def kF(M:Mk)(a b:List Int):Int×Mk:=
 gJ (aK bY (bV M true).2 a b).2 (bV M true).1 (aK bY (bV M true).2 a b).1
theorem LV{M:Mk}(h:Ok M){a b:List Int}(j:a.length=b.length)(g:∀x∈a,In M x)(i:∀x∈b,In M x):Up M (kF M a b).2 (1+ (1 * a.length+a.length))/\In (kF M a b).2 (kF M a b).1:=by obtain⟨d,n⟩:=iq h true;obtain⟨e,l,e3⟩:=o7 (f:=bY) (c:=1) (λM a b h g i=>nV h g i) d.ok (d.all g) (d.all i) j;obtain⟨k,m⟩:=yG e.ok (e.In n) l;rw [e3] at k;exact⟨d.trans (e.trans k),m⟩
theorem Ja{c:Cx}{t:Tr}{e:Bool}{l:List Int}(hl:l.length<=100):∀(r:List Int) (j:Nat) (M:Mk) (acc:Int),l.drop j=r->Ok M->In M acc->(∀y∈r,In M y)->M.N.length+r.length<=60000->
  Or uQ [r0,I acc,ad e l,I (l.length:Int),I (j:Int)] [ab.box [AV.ref (Id.c 1) 0,AV.t (T.ad 3 c.ed (aI c.ds)),AV.t (T.ad 5 c.en (aV c.ns)),AV.t (T.ad 1 c.eh (enc c.hs)),AV.t (T.str c.p),AV.t (T.ad 1 c.es (enc c.ss)),AV.own (Id.c 2),AV.own (Id.c 3)],ab.box [AV.own (Id.c 6),AV.own (Id.c 5)],ab.sl false 1 t.bits.isEmpty (bg t.bits),ab.sl false 1 t.to.isEmpty (enc t.to),ab.dead,ab.mp false [Ck.s] (Ck.i .i64) (cb M.K),ab.rows M.N.isEmpty 5 1 1 M.N.length (rows M.N)]=some [ti (gJ M acc r).1,T.ak,T.ad 3 c.ed (aI c.ds),T.ad 5 c.en (aV c.ns),T.ad 1 c.eh (enc c.hs),T.str c.p,T.ad 1 c.es (enc c.ss),T.ak,T.ak,RW ((gJ M acc r).2).N,T.ak,T.ad 1 t.bits.isEmpty (bg t.bits),T.ad 1 t.to.isEmpty (enc t.to),EM ((gJ M acc r).2).K]:=by
 intro r;induction r with
 | nil=>
  intro j M acc g h b d m;have a:¬(j:Int) < (l.length:Int):=by have:=bx g;omega
  refine ah ?_;rw [zY];simp only [aj,↓reduceIte,Int.reduceBEq,Int.reduceEq,a,aU,aT,M6,aS,aQ,cU,cV,cB,gJ];rfl
 | cons y r u=>
  intro j M acc g h b d m;obtain⟨o,x,q⟩:=bz g;have a:(j:Int) < (l.length:Int):=by omega
  have h0: 0<=(j:Int):=by omega
  have n:=d y M3;rw [Nf] at m;have v:=jT (show M.N.length<=100000 by omega) b n;obtain⟨k,w⟩:=fS h b n;have f:=u (j+1) _ _ q k.ok w (k.all λz f=>d z (M4 _ f)) (by have:=k.up;omega);rw [gJ];refine ah ?_;rw [zY];simp only [aj,↓reduceIte,Int.reduceBEq,Int.reduceEq,a,h0,and_self,v,aD,bC o,next j (by omega),aU,aT,M6,aS,aQ,cU,cV,cB];exact f
theorem K3{c:Cx}{t:Tr}{M:Mk}{x:Nd}{i:Nat}{s:Int}(m:c.ns[i]? =some x)(l:x.op=22){d e:Int}(f:x.ks= [d,e])(n:KW c i d s)(o:KW c i e s)(h:aF s=true)(g:cy c t M i)(H:M.N.length<=40000):
  Or (.call 33) [r0,I (i:Int)] [ab.box [AV.ref (Id.c 1) 0,AV.t (T.ad 3 c.ed (aI c.ds)),AV.t (T.ad 5 c.en (aV c.ns)),AV.t (T.ad 1 c.eh (enc c.hs)),AV.t (T.str c.p),AV.t (T.ad 1 c.es (enc c.ss)),AV.own (Id.c 2),AV.own (Id.c 3)],ab.box [AV.own (Id.c 4),AV.own (Id.c 5)],ab.sl false 1 t.bits.isEmpty (bg t.bits),ab.sl false 1 t.to.isEmpty (enc t.to),ab.rows M.N.isEmpty 5 1 1 M.N.length (rows M.N),ab.mp false [Ck.s] (Ck.i .i64) (cb M.K)]=some [ti (iP M (aB t d) (aB t e)).1,T.ak,T.ad 3 c.ed (aI c.ds),T.ad 5 c.en (aV c.ns),T.ad 1 c.eh (enc c.hs),T.str c.p,T.ad 1 c.es (enc c.ss),T.ak,T.ak,RW ((iP M (aB t d) (aB t e)).2).N,T.ak,T.ad 1 t.bits.isEmpty (bg t.bits),T.ad 1 t.to.isEmpty (enc t.to),EM ((iP M (aB t d) (aB t e)).2).K]:=by
 have hl:=e8 h;have z: 0<=(i:Int)/\(i:Int) < (c.ns.length:Int):=by have:=(M5.1 m).1;omega
 obtain⟨j,F,q⟩:=n.word g h;obtain⟨k,G,r⟩:=o.word g h;have E:=(DW g.ok (ea:=(aB t d).isEmpty) (eb:=(aB t e).isEmpty) (a:=aB t d) (b:=aB t e) (by omega) (by omega) q r (by omega)).1;have A:(0:Int)<=0/\(0:Int) < ((x.ks.length:Nat):Int):=by rw [f];simp
 have B:(0:Int)<=1/\(1:Int) < ((x.ks.length:Nat):Int):=by rw [f];simp
 have w:(enc x.ks)[0]? =some [ti d]:=by rw [f];rfl
 have y:(enc x.ks)[1]? =some [ti e]:=by rw [f];rfl
 have C: 0<=d/\d < (t.bits.length:Int):=by have:=(M5.1 j).1;have:=n.h0;omega
 have D: 0<=e/\e < (t.bits.length:Int):=by have:=(M5.1 k).1;have:=o.h0;omega
 have u:(bg t.bits)[d.toNat]? =some [LO (aB t d)]:=by simp [bg,j]
 have v:(bg t.bits)[e.toNat]? =some [LO (aB t e)]:=by simp [bg,k]
 refine ah ?_;rw [sT];simp (maxSteps:=1000000) only [aj,↓reduceIte,Int.reduceBEq,Int.reduceEq,z,A,B,and_self,cK,ew m,l,aD,w,y,C,D,mo,u,v,E,aU,aT,M6,aS,aQ,cU,cV,cB];rfl
theorem K4{c:Cx}{t:Tr}{M:Mk}{x:Nd}{i:Nat}{s:Int}(z:c.ns[i]? =some x)(y:x.op=8){d g:Int}(k:x.ks= [d,g])(C:KW c i d s)(D:KW c i g s)(o:aF s=true)(n:cy c t M i)(Z:M.N.length<=40000):
  Or (.call 33) [r0,I (i:Int)] [ab.box [AV.ref (Id.c 1) 0,AV.t (T.ad 3 c.ed (aI c.ds)),AV.t (T.ad 5 c.en (aV c.ns)),AV.t (T.ad 1 c.eh (enc c.hs)),AV.t (T.str c.p),AV.t (T.ad 1 c.es (enc c.ss)),AV.own (Id.c 2),AV.own (Id.c 3)],ab.box [AV.own (Id.c 4),AV.own (Id.c 5)],ab.sl false 1 t.bits.isEmpty (bg t.bits),ab.sl false 1 t.to.isEmpty (enc t.to),ab.rows M.N.isEmpty 5 1 1 M.N.length (rows M.N),ab.mp false [Ck.s] (Ck.i .i64) (cb M.K)]=some [ti (kF M (aB t d) (aB t g)).1,T.ak,T.ad 3 c.ed (aI c.ds),T.ad 5 c.en (aV c.ns),T.ad 1 c.eh (enc c.hs),T.str c.p,T.ad 1 c.es (enc c.ss),T.ak,T.ak,RW ((kF M (aB t d) (aB t g)).2).N,T.ak,T.ad 1 t.bits.isEmpty (bg t.bits),T.ad 1 t.to.isEmpty (enc t.to),EM ((kF M (aB t d) (aB t g)).2).K]:=by
 have hl:=e8 o;have L: 0<=(i:Int)/\(i:Int) < (c.ns.length:Int):=by have:=(M5.1 z).1;omega
 obtain⟨q,r,u⟩:=C.word n o;obtain⟨v,Y,w⟩:=D.word n o;obtain⟨j,X⟩:=iq n.ok true;have V:=kE (show M.N.length<=100000 by omega) true;have B:=Li j.ok (ea:=(aB t d).isEmpty) (eb:=(aB t g).isEmpty) (a:=aB t d) (b:=aB t g) (by omega) (by omega) (j.all u) (j.all w) (by have:=j.up;omega);obtain⟨m,E,e3⟩:=o7 (f:=bY) (c:=1) (λM a b h Q R=>nV h Q R) j.ok (j.all u) (j.all w) (show(aB t d).length= (aB t g).length by omega);have W:=Ja (c:=c) (t:=t) (e:=(aK bY (bV M true).2 (aB t d) (aB t g)).1.isEmpty) (l:=(aK bY (bV M true).2 (aB t d) (aB t g)).1) (by omega) (aK bY (bV M true).2 (aB t d) (aB t g)).1 0 _ _ rfl m.ok (m.In X) E (by have:=j.up;have:=m.up;omega);have O:(0:Int)<=0/\(0:Int) < ((x.ks.length:Nat):Int):=by rw [k];simp
 have P:(0:Int)<=1/\(1:Int) < ((x.ks.length:Nat):Int):=by rw [k];simp
 have H:(enc x.ks)[0]? =some [ti d]:=by rw [k];rfl
 have J:(enc x.ks)[1]? =some [ti g]:=by rw [k];rfl
 have S: 0<=d/\d < (t.bits.length:Int):=by have:=(M5.1 q).1;have:=C.h0;omega
 have U: 0<=g/\g < (t.bits.length:Int):=by have:=(M5.1 v).1;have:=D.h0;omega
 have F:(bg t.bits)[d.toNat]? =some [LO (aB t d)]:=by simp [bg,q]
 have G:(bg t.bits)[g.toNat]? =some [LO (aB t g)]:=by simp [bg,v]
 have A:(aB t d).isEmpty=false:=by
  cases h:aB t d with
  | nil=>rw [h] at r;simp at r;omega
  | cons=>rfl
 rw [A] at B;refine ah ?_;rw [sT];simp (maxSteps:=1000000) only [aj,↓reduceIte,Int.reduceBEq,Int.reduceEq,L,O,P,and_self,cK,ew z,y,aD,H,J,S,U,mo,F,G,V,B,A,Nb,aU,aT,M6,aS,aQ,cU,cV,cB];exact W
theorem Jb{c:Cx}{t:Tr}{M:Mk}{x:Nd}(h:Ok M)(H:M.N.length<=50000)(F:x.ks.length<=100)(l:∀k∈x.ks,0<=k/\t.to[k.toNat]? =some (bm t k)/\In M (bm t k))(ho:dX x.op)(A:dX x.n)(w:dX x.d)(hm:x.nm.size<=1000):∀(e:List Int) (j:Nat) (acc:List Int),x.ks.drop j=e->j<=x.ks.length->acc.length=j->acc≠[]->acc++e.map (bm t)=x.ks.map (bm t)->
  Or nr [r0,AV.ref (Id.c 6) 0,AV.own (Id.c 7),ad x.ek x.ks,I (x.ks.length:Int),I (j:Int)] [ab.box [AV.ref (Id.c 1) 0,AV.t (T.ad 3 c.ed (aI c.ds)),AV.t (T.ad 5 c.en (aV c.ns)),AV.t (T.ad 1 c.eh (enc c.hs)),AV.t (T.str c.p),AV.t (T.ad 1 c.es (enc c.ss)),AV.own (Id.c 2),AV.own (Id.c 3)],ab.box [AV.own (Id.c 4),AV.own (Id.c 5)],ab.sl false 1 t.bits.isEmpty (bg t.bits),ab.sl false 1 t.to.isEmpty (enc t.to),ab.rows M.N.isEmpty 5 1 1 M.N.length (rows M.N),ab.mp false [Ck.s] (Ck.i .i64) (cb M.K),ab.box [I x.op,ad x.ek x.ks,I x.n,I x.d,AV.t (T.str x.nm)],ab.sl false 1 false (enc acc)]=some [ti (cI M x.op x.nm x.n x.d (x.ks.map (bm t))).1,T.ak,T.ad 3 c.ed (aI c.ds),T.ad 5 c.en (aV c.ns),T.ad 1 c.eh (enc c.hs),T.str c.p,T.ad 1 c.es (enc c.ss),T.ak,T.ak,RW ((cI M x.op x.nm x.n x.d (x.ks.map (bm t))).2).N,T.ak,T.ad 1 t.bits.isEmpty (bg t.bits),T.ad 1 t.to.isEmpty (enc t.to),EM ((cI M x.op x.nm x.n x.d (x.ks.map (bm t))).2).K]:=by
 intro e;induction e with
 | nil=>
  intro j acc g z a m b;have o:¬(j:Int) < (x.ks.length:Int):=by have:=bx g;omega
  rw [Oe,Nz] at b;have r:false=acc.isEmpty:=by cases acc with
   | nil=>exact absurd rfl m
   | cons=>rfl
  have f:=iV M (show M.N.length<=100000 by omega) x.op x.nm x.n x.d acc false r (λy u=>by
   rw [b] at u;obtain⟨k,hm,rfl⟩:=NG.1 u;exact(l k hm).2.2.i64 (by omega)) (by omega) ho A w (by omega)
  rw [<-b];refine ah ?_;rw [zX];simp only [aj,↓reduceIte,Int.reduceBEq,Int.reduceEq,o,f,aU,aT,M6,aS,aQ,cU,cV,cB];rfl
 | cons k e C=>
  intro j acc g z a m b;obtain⟨q,G,v⟩:=bz g;have o:(j:Int) < (x.ks.length:Int):=by omega
  have h0: 0<=(j:Int):=by omega
  obtain⟨J,f,_⟩:=l k (Nh q);have D: 0<=k/\k < (t.to.length:Int):=by have:=(M5.1 f).1;omega
  have E:bp 8 (acc.length+1)=some ():=cS (by omega);have B:=C (j+1) (acc++ [bm t k]) v (by omega) (by simp [a]) (by simp) (by rw [<-b];simp);refine ah ?_;rw [zX];simp only [aj,↓reduceIte,Int.reduceBEq,Int.reduceEq,o,h0,and_self,aD,bC q,D,eO f,Nk,E,next j (by omega),ez];exact B
theorem DR{c:Cx}{t:Tr}{M:Mk}{x:Nd}{i:Nat}(q:c.ns[i]? =some x)(g:x.op≠22)(O:x.op=8->∃a r,x.ks=a::r)(o:cy c t M i)(U:M.N.length<=40000)(B:x.ks.length<=100)(A:∀k∈x.ks,∃s',KW c i k s'/\aF s'=false)(ho:dX x.op)(C:dX x.n)(z:dX x.d)(hm:x.nm.size<=1000):
  Or (.call 33) [r0,I (i:Int)] [ab.box [AV.ref (Id.c 1) 0,AV.t (T.ad 3 c.ed (aI c.ds)),AV.t (T.ad 5 c.en (aV c.ns)),AV.t (T.ad 1 c.eh (enc c.hs)),AV.t (T.str c.p),AV.t (T.ad 1 c.es (enc c.ss)),AV.own (Id.c 2),AV.own (Id.c 3)],ab.box [AV.own (Id.c 4),AV.own (Id.c 5)],ab.sl false 1 t.bits.isEmpty (bg t.bits),ab.sl false 1 t.to.isEmpty (enc t.to),ab.rows M.N.isEmpty 5 1 1 M.N.length (rows M.N),ab.mp false [Ck.s] (Ck.i .i64) (cb M.K)]=some [ti (cI M x.op x.nm x.n x.d (x.ks.map (bm t))).1,T.ak,T.ad 3 c.ed (aI c.ds),T.ad 5 c.en (aV c.ns),T.ad 1 c.eh (enc c.hs),T.str c.p,T.ad 1 c.es (enc c.ss),T.ak,T.ak,RW ((cI M x.op x.nm x.n x.d (x.ks.map (bm t))).2).N,T.ak,T.ad 1 t.bits.isEmpty (bg t.bits),T.ad 1 t.to.isEmpty (enc t.to),EM ((cI M x.op x.nm x.n x.d (x.ks.map (bm t))).2).K]:=by
 have w: 0<=(i:Int)/\(i:Int) < (c.ns.length:Int):=by have:=(M5.1 q).1;omega
 have m:∀k∈x.ks,0<=k/\t.to[k.toNat]? =some (bm t k)/\In M (bm t k):=λk hm=>by obtain⟨s',h,L⟩:=A k hm;exact⟨h.h0,(h.plain o L).2⟩
 have b:Or nr [r0,AV.ref (Id.c 6) 0,AV.t (T.af true),ad x.ek x.ks,I (x.ks.length:Int),I 0] [ab.box [AV.ref (Id.c 1) 0,AV.t (T.ad 3 c.ed (aI c.ds)),AV.t (T.ad 5 c.en (aV c.ns)),AV.t (T.ad 1 c.eh (enc c.hs)),AV.t (T.str c.p),AV.t (T.ad 1 c.es (enc c.ss)),AV.own (Id.c 2),AV.own (Id.c 3)],ab.box [AV.own (Id.c 4),AV.own (Id.c 5)],ab.sl false 1 t.bits.isEmpty (bg t.bits),ab.sl false 1 t.to.isEmpty (enc t.to),ab.rows M.N.isEmpty 5 1 1 M.N.length (rows M.N),ab.mp false [Ck.s] (Ck.i .i64) (cb M.K),ab.box [I x.op,ad x.ek x.ks,I x.n,I x.d,AV.t (T.str x.nm)]]=some [ti (cI M x.op x.nm x.n x.d (x.ks.map (bm t))).1,T.ak,T.ad 3 c.ed (aI c.ds),T.ad 5 c.en (aV c.ns),T.ad 1 c.eh (enc c.hs),T.str c.p,T.ad 1 c.es (enc c.ss),T.ak,T.ak,RW ((cI M x.op x.nm x.n x.d (x.ks.map (bm t))).2).N,T.ak,T.ad 1 t.bits.isEmpty (bg t.bits),T.ad 1 t.to.isEmpty (enc t.to),EM ((cI M x.op x.nm x.n x.d (x.ks.map (bm t))).2).K]:=by
  cases e:x.ks with
  | nil=>have a:=iV M (show M.N.length<=100000 by omega) x.op x.nm x.n x.d [] true rfl (λy P=>by cases P) (by simp) ho C z (by omega);replace a:Or (.call 61) [r0,I x.op,AV.t (T.str x.nm),I x.n,I x.d,AV.t (T.ad 1 true [])] (df M)=_:=a;refine ah ?_;rw [zW];simp only [aj,↓reduceIte,Int.reduceBEq,Int.reduceEq,Nw,NK,NO,decide_false,a,aU,aT,M6,aS,aQ,cU,cV,cB];rfl
  | cons k u=>
   obtain⟨V,a,_⟩:=m k (by rw [e];exact M3);have Q: 0<=k/\k < (t.to.length:Int):=by have:=(M5.1 a).1;omega
   have D:=Jb (c:=c) (t:=t) (M:=M) (x:=x) o.ok (by omega) B m ho C z hm u 1 [bm t k] (by rw [e];rfl) (by rw [e];simp) rfl (by simp) (by rw [e];rfl);have h:(0:Int) < (((k::u).length:Nat):Int):=by simp
   have h0:(0:Int)<=0:=by omega
   have H:(enc (k::u))[(0:Int).toNat]? =some [ti k]:=rfl;have j:i64.wrap (0+1)= ((1:Nat):Int):=by decide
   rw [e] at D;refine ah ?_;rw [zW];simp only [aj,↓reduceIte,Int.reduceBEq,Int.reduceEq,h,h0,and_self,aD,H,Q,eO a,j];exact D
 have l:(x.op==22)=false:=by simpa using g
 by_cases c8:x.op=8
 .obtain⟨a,r,f⟩:=O c8;have J:(0:Int)<=0/\(0:Int) < ((x.ks.length:Nat):Int):=by rw [f];simp
  have G:(enc x.ks)[0]? =some [ti a]:=by rw [f];rfl
  obtain⟨s',j,S⟩:=A a (by rw [f];exact M3);obtain⟨v,_⟩:=j.plain o S;have R: 0<=a/\a < (t.bits.length:Int):=by have:=(M5.1 v).1;have:=j.h0;omega
  have F:(bg t.bits)[a.toNat]? =some [LO []]:=by simp [bg,v]
  refine ah ?_;rw [sT];simp (maxSteps:=1000000) only [aj,↓reduceIte,Int.reduceBEq,Int.reduceEq,w,J,and_self,cK,ew q,c8,l,g,aD,G,R,mo,F,cB,P6,M8];rw [c8] at b;exact b
 .have E:(x.op==8)=false:=by simpa using c8
  refine ah ?_;rw [sT];simp (maxSteps:=1000000) only [aj,↓reduceIte,Int.reduceBEq,Int.reduceEq,w,and_self,cK,ew q,l,E,g,c8,bo,aD];exact b
structure kR (c:Cx) (i:Nat) (x:Nd) (s:Int):Prop where
 op: 1<=x.op/\x.op<=25
 kl:x.ks.length<=8
 n: -1000000<=x.n/\x.n<=1000000
 d: -1000000<=x.d/\x.d<=1000000
 nm:x.nm.size<=12
 k:∀k∈x.ks,∃s',KW c i k s'
 c3:x.op=3->∃k r,x.ks=k::r
 c7:x.op=7->∃a b d,x.ks= [a,b,d]/\KW c i a 1/\KW c i b s/\KW c i d s
 c8:x.op=8->aF s=false/\∃a b s',x.ks= [a,b]/\((aF s'=true/\KW c i a s'/\KW c i b s')\/∀k∈x.ks,∃s',KW c i k s'/\aF s'=false)
 eH:x.op=15->x.ks= []/\1<=x.d/\x.d<=8/\0<=x.n/\x.n < 2 ^ x.d.toNat/\s=10+x.d
 dR:x.op=16\/x.op=23->aF s=true/\∃a,x.ks= [a]/\KW c i a s
 fj: 17<=x.op->x.op<=21->aF s=true/\∃a b,x.ks= [a,b]/\KW c i a s/\KW c i b s
 du:x.op=22->aF s=false/\∃a b s',aF s'=true/\x.ks= [a,b]/\KW c i a s'/\KW c i b s'
 bq:x.op=23->0<=x.n/\x.n<=8
 pl:x.op≠7->x.op≠8->(x.op < 15\/24<=x.op)->(x.op≠9->aF s=false)/\∀k∈x.ks,∃s',KW c i k s'/\aF s'=false
def eG(c:Cx)(t:Tr)(M:Mk)(x:Nd)(s:Int):List Int×Mk:=
 if x.op=9 then cL M (c.p++it (bf c.ds x.nm)++us) (x.ks.map (bm t)) 0 (s - 10).toNat
 else if x.op=7 then aK (cE (bm t (x.ks.getD 0 0))) M (aB t (x.ks.getD 1 0)) (aB t (x.ks.getD 2 0))
 else if x.op=15 then eu M x.n 0 x.d.toNat
 else if x.op=16 then eA M (aB t (x.ks.getD 0 0))
 else if x.op=17 then aK bc M (aB t (x.ks.getD 0 0)) (aB t (x.ks.getD 1 0))
 else if x.op=18 then aK cY M (aB t (x.ks.getD 0 0)) (aB t (x.ks.getD 1 0))
 else if x.op=19 then aK aO M (aB t (x.ks.getD 0 0)) (aB t (x.ks.getD 1 0))
 else if x.op=20 then cN M (aB t (x.ks.getD 0 0)) (aB t (x.ks.getD 1 0))
 else if x.op=21 then gy M (aB t (x.ks.getD 0 0)) (aB t (x.ks.getD 1 0))
 else aW M (aB t (x.ks.getD 0 0)) x.n
def fc(t:Tr)(M:Mk)(x:Nd):Int×Mk:=
 if x.op=22 then iP M (aB t (x.ks.getD 0 0)) (aB t (x.ks.getD 1 0))
 else if x.op=8/\(aB t (x.ks.getD 0 0)).isEmpty=false then kF M (aB t (x.ks.getD 0 0)) (aB t (x.ks.getD 1 0))
 else cI M x.op x.nm x.n x.d (x.ks.map (bm t))
theorem xm{l:List Int}(h: 1<=l.length):l.isEmpty=false:=by cases l with
 | nil=>simp at h
 | cons=>rfl
theorem tH{l:List Int}{n:Nat}(h:l.length=n)(a: 1<=n):T.ad 1 false (enc l)=T.ad 1 l.isEmpty (enc l):=by rw [xm (l:=l) (by omega)]
theorem tA:aF 1=false:=rfl
theorem EI{c:Cx}{t:Tr}{M:Mk}{x:Nd}{i:Nat}{s:Int}(F:c.ns[i]? =some x)(hs:c.ss[i]? =some s)(m:aF s=true)(ok:kR c i x s)(l:cy c t M i)(hds:c.ds.length<=100)(hp:c.p.size<=100)(E:M.N.length<=40000):
  Or (.call 32) [r0,I (i:Int)] [ab.box [AV.ref (Id.c 1) 0,AV.t (T.ad 3 c.ed (aI c.ds)),AV.t (T.ad 5 c.en (aV c.ns)),AV.t (T.ad 1 c.eh (enc c.hs)),AV.t (T.str c.p),AV.t (T.ad 1 c.es (enc c.ss)),AV.own (Id.c 2),AV.own (Id.c 3)],ab.box [AV.own (Id.c 4),AV.own (Id.c 5)],ab.sl false 1 t.bits.isEmpty (bg t.bits),ab.sl false 1 t.to.isEmpty (enc t.to),ab.rows M.N.isEmpty 5 1 1 M.N.length (rows M.N),ab.mp false [Ck.s] (Ck.i .i64) (cb M.K)]=some [T.ad 1 (eG c t M x s).1.isEmpty (enc (eG c t M x s).1),T.ak,T.ad 3 c.ed (aI c.ds),T.ad 5 c.en (aV c.ns),T.ad 1 c.eh (enc c.hs),T.str c.p,T.ad 1 c.es (enc c.ss),T.ak,T.ak,RW ((eG c t M x s).2).N,T.ak,T.ad 1 t.bits.isEmpty (bg t.bits),T.ad 1 t.to.isEmpty (enc t.to),EM ((eG c t M x s).2).K]/\
   Up M (eG c t M x s).2 1000/\(∀y∈(eG c t M x s).1,In (eG c t M x s).2 y)/\((eG c t M x s).1.length:Int)=s - 10:=by
 have hl:=e8 m;have L:∀{a b:Int},x.ks= [a,b]->x.ks.getD 0 0=a/\x.ks.getD 1 0=b:=λe=>by rw [e];exact⟨rfl,rfl⟩
 unfold eG;by_cases c9:x.op=9
 .have hk:=(ok.pl (by omega) (by omega) (by omega)).2;have hkin:∀y∈x.ks.map (bm t),In M y:=λy hy=>by
   obtain⟨k,hm,rfl⟩:=NG.1 hy;obtain⟨s',h1,h4⟩:=hk k hm;exact(h1.plain l h4).2.2
  have q:=K2 F hs c9 m l hds hp (by have:=ok.kl;omega) hk E;obtain⟨o,u,u3⟩:=CB (pre:=c.p++it (bf c.ds x.nm)++us) (kids:=x.ks.map (bm t)) (k:=(s - 10).toNat) (b:=0) l.ok hkin (by have:=ok.kl;simp;omega);rw [tH u3 (by omega)] at q;rw [if_pos c9];exact⟨q,o.mono (by omega),u,by omega⟩
 rw [if_neg c9];by_cases c7:x.op=7
 .obtain⟨a,b,d,j,w0,r,v⟩:=ok.c7 c7;have q:=K1 F c7 j w0 tA r v m l E;obtain⟨_,_,p2⟩:=w0.plain l tA;obtain⟨O,P,w⟩:=r.word l m;obtain⟨S,U,C⟩:=v.word l m;have up:Up M (aK (cE (bm t a)) M (aB t b) (aB t d)).2 (1 * (aB t b).length)/\(∀y∈(aK (cE (bm t a)) M (aB t b) (aB t d)).1,In (aK (cE (bm t a)) M (aB t b) (aB t d)).2 y)/\(aK (cE (bm t a)) M (aB t b) (aB t d)).1.length= (aB t b).length:=by
   have gen:∀(D B:List Int) (A:Mk),Ok A->In A (bm t a)->(∀y∈D,In A y)->(∀y∈B,In A y)->D.length=B.length->
     Up A (aK (cE (bm t a)) A D B).2 (1 * D.length)/\(∀y∈(aK (cE (bm t a)) A D B).1,In (aK (cE (bm t a)) A D B).2 y)/\(aK (cE (bm t a)) A D B).1.length=D.length:=by
    intro D;induction D with
    | nil=>intro B A h0 _ _ _ _;rw [show aK (cE (bm t a)) A [] B= ([],A) by simp [aK]];exact⟨Up.refl h0,λy hy=>(by cases hy),rfl⟩
    | cons y D ih=>
     intro B A h0 hc h1 h2 e;cases B with
     | nil=>cases e
     | cons z B=>
      obtain⟨o,u⟩:=xA h0 hc (h1 y M3) (h2 z M3);obtain⟨h3,h4,h5⟩:=ih B _ o.ok (o.In hc) (o.all λz Q=>h1 z (M4 _ Q)) (o.all λz Q=>h2 z (M4 _ Q)) (by simpa using e);refine⟨(o.trans h3).mono (by rw [Nf];omega),λz Q=> ?_,by simp [aK,h5]⟩;rcases Nj.1 Q with rfl | Q
      .exact h3.In u
      .exact h4 z Q
   exact gen _ _ M l.ok p2 w C (by omega)
  obtain⟨o,u,u3⟩:=up;have g:x.ks.getD 0 0=a/\x.ks.getD 1 0=b/\x.ks.getD 2 0=d:=by rw [j];exact⟨rfl,rfl,rfl⟩
  rw [tH u3 (by omega)] at q;rw [if_pos c7,g.1,g.2.1,g.2.2];exact⟨q,o.mono (by omega),u,by omega⟩
 rw [if_neg c7];by_cases eH:x.op=15
 .obtain⟨j,bA,hd2,hn1,hn2,hs'⟩:=ok.eH eH;have q:=KS F eH ⟨bA,hd2⟩ l E;obtain⟨o,u,u3⟩:=zk (n:=x.n) (k:=x.d.toNat) (b:=0) l.ok;rw [tH u3 (by omega)] at q;rw [if_pos eH];exact⟨q,o.mono (by omega),u,by omega⟩
 rw [if_neg eH];by_cases dR:x.op=16
 .obtain⟨_,a,j,r⟩:=ok.dR (.inl dR);have q:=KT F dR j r m l E;obtain⟨O,P,w⟩:=r.word l m;obtain⟨o,u,u3⟩:=CM l.ok w;rw [tH u3 (by omega)] at q;rw [if_pos dR,show x.ks.getD 0 0=a by rw [j];rfl];exact⟨q,o.mono (by omega),u,by omega⟩
 rw [if_neg dR];by_cases fj:x.op=17
 .obtain⟨_,a,b,j,r,v⟩:=ok.fj (by omega) (by omega);have q:=KU F fj j r v m l E;obtain⟨O,P,w⟩:=r.word l m;obtain⟨S,U,C⟩:=v.word l m;obtain⟨o,u,u3⟩:=o7 (f:=bc) (c:=1) (λM a b h Z hb=>fS h Z hb) l.ok w C (show(aB t a).length= (aB t b).length by omega);obtain⟨G,H⟩:=L j;rw [if_pos fj,G,H];refine⟨q,o.mono ?_,u,by omega⟩;have R:(aB t a).length<=8:=by omega
  have J:(aB t b).length<=8:=by omega
  omega
 rw [if_neg fj];by_cases V:x.op=18
 .obtain⟨_,a,b,j,r,v⟩:=ok.fj (by omega) (by omega);have q:=KV F V j r v m l E;obtain⟨O,P,w⟩:=r.word l m;obtain⟨S,U,C⟩:=v.word l m;obtain⟨o,u,u3⟩:=o7 (f:=cY) (c:=1) (λM a b h Z hb=>n9 h Z hb) l.ok w C (show(aB t a).length= (aB t b).length by omega);obtain⟨G,H⟩:=L j;rw [if_pos V,G,H];refine⟨q,o.mono ?_,u,by omega⟩;have R:(aB t a).length<=8:=by omega
  have J:(aB t b).length<=8:=by omega
  omega
 rw [if_neg V];by_cases W:x.op=19
 .obtain⟨_,a,b,j,r,v⟩:=ok.fj (by omega) (by omega);have q:=KX F W j r v m l E;obtain⟨O,P,w⟩:=r.word l m;obtain⟨S,U,C⟩:=v.word l m;obtain⟨o,u,u3⟩:=o7 (f:=aO) (c:=2) (λM a b h Z hb=>na h Z hb) l.ok w C (show(aB t a).length= (aB t b).length by omega);obtain⟨G,H⟩:=L j;rw [if_pos W,G,H];refine⟨q,o.mono ?_,u,by omega⟩;have R:(aB t a).length<=8:=by omega
  have J:(aB t b).length<=8:=by omega
  omega
 rw [if_neg W];by_cases X:x.op=20
 .obtain⟨_,a,b,j,r,v⟩:=ok.fj (by omega) (by omega);have q:=KY F X j r v m l E;obtain⟨O,P,w⟩:=r.word l m;obtain⟨S,U,C⟩:=v.word l m;obtain⟨o,u,u3⟩:=Ek l.ok w C (show(aB t a).length= (aB t b).length by omega);obtain⟨G,H⟩:=L j;rw [if_pos X,G,H];refine⟨q,o.mono ?_,u,by omega⟩;have R:(aB t a).length<=8:=by omega
  have J:(aB t b).length<=8:=by omega
  omega
 rw [if_neg X];by_cases Y:x.op=21
 .obtain⟨_,a,b,j,r,v⟩:=ok.fj (by omega) (by omega);have q:=KZ F Y j r v m l E;obtain⟨O,P,w⟩:=r.word l m;obtain⟨S,U,C⟩:=v.word l m;obtain⟨o,u,u3⟩:=Mv l.ok w C;obtain⟨G,H⟩:=L j;rw [if_pos Y,G,H];refine⟨q,o.mono ?_,u,by omega⟩;have R:(aB t a).length<=8:=by omega
  have J:(aB t b).length<=8:=by omega
  have:=Qc (show 9 * (aB t a).length+1<=73 by omega) J;omega
 rw [if_neg Y];have bq:x.op=23:=by
  rcases PC (x.op=23) with h | h
  .exact h
  .exfalso;have hop:=ok.op;by_cases du:x.op=22
   .rw [(ok.du du).1] at m;cases m
   by_cases c8:x.op=8
   .rw [(ok.c8 c8).1] at m;cases m
   .have:=(ok.pl c7 c8 (by omega)).1 c9;rw [this] at m;cases m
 obtain⟨_,a,j,r⟩:=ok.dR (.inr bq);have hn:=ok.bq bq;have q:=K0 F bq j r hn m l E;obtain⟨O,P,w⟩:=r.word l m;obtain⟨o,u,u3⟩:=qW (n:=x.n) hn.1 l.ok w;rw [show x.ks.getD 0 0=a by rw [j];rfl];exact⟨q,o.mono (by omega),u,by omega⟩
theorem C8{c:Cx}{t:Tr}{M:Mk}{x:Nd}{i:Nat}{s:Int}(D:c.ns[i]? =some x)(u:aF s=false)(ok:kR c i x s)(g:cy c t M i)(C:M.N.length<=40000):
  Or (.call 33) [r0,I (i:Int)] [ab.box [AV.ref (Id.c 1) 0,AV.t (T.ad 3 c.ed (aI c.ds)),AV.t (T.ad 5 c.en (aV c.ns)),AV.t (T.ad 1 c.eh (enc c.hs)),AV.t (T.str c.p),AV.t (T.ad 1 c.es (enc c.ss)),AV.own (Id.c 2),AV.own (Id.c 3)],ab.box [AV.own (Id.c 4),AV.own (Id.c 5)],ab.sl false 1 t.bits.isEmpty (bg t.bits),ab.sl false 1 t.to.isEmpty (enc t.to),ab.rows M.N.isEmpty 5 1 1 M.N.length (rows M.N),ab.mp false [Ck.s] (Ck.i .i64) (cb M.K)]=some [ti (fc t M x).1,T.ak,T.ad 3 c.ed (aI c.ds),T.ad 5 c.en (aV c.ns),T.ad 1 c.eh (enc c.hs),T.str c.p,T.ad 1 c.es (enc c.ss),T.ak,T.ak,RW ((fc t M x).2).N,T.ak,T.ad 1 t.bits.isEmpty (bg t.bits),T.ad 1 t.to.isEmpty (enc t.to),EM ((fc t M x).2).K]/\Up M (fc t M x).2 1000/\In (fc t M x).2 (fc t M x).1:=by
 have Y:=ok.op;have hn:=ok.n;have hd:=ok.d;have A:∀{a b:Int},x.ks= [a,b]->x.ks.getD 0 0=a/\x.ks.getD 1 0=b:=λe=>by rw [e];exact⟨rfl,rfl⟩
 have E:(∀k∈x.ks,∃s',KW c i k s'/\aF s'=false)->∀y∈x.ks.map (bm t),In M y:=λo y W=>by obtain⟨k,hm,rfl⟩:=NG.1 W;obtain⟨s',H,V⟩:=o k hm;exact(H.plain g V).2.2
 unfold fc;by_cases du:x.op=22
 .obtain⟨_,a,b,s',j,f,l,m⟩:=ok.du du;have hl:=e8 j;have q:=K3 D du f l m j g C;obtain⟨L,O,F⟩:=l.word g j;obtain⟨P,Q,G⟩:=m.word g j;obtain⟨_,v,w⟩:=DW g.ok (ea:=true) (eb:=true) (a:=aB t a) (b:=aB t b) (by omega) (by omega) F G (by omega);obtain⟨z,B⟩:=A f;rw [if_pos du,z,B];exact⟨q,v.mono (by omega),w⟩
 rw [if_neg du];by_cases c8:x.op=8
 .obtain⟨_,a,b,s',f,⟨j,l,m⟩ | o⟩:=ok.c8 c8
  .have hl:=e8 j;have q:=K4 D c8 f l m j g C;obtain⟨L,O,F⟩:=l.word g j;obtain⟨P,Q,G⟩:=m.word g j;obtain⟨v,w⟩:=LV g.ok (show(aB t a).length= (aB t b).length by omega) F G;obtain⟨z,B⟩:=A f;rw [z,B,if_pos ⟨c8,xm (by omega)⟩];exact⟨q,v.mono (by omega),w⟩
  .have q:=DR D du (λ_=>⟨a,[b],f⟩) g C (by have:=ok.kl;omega) o ⟨by omega,by omega⟩ ⟨by omega,by omega⟩ ⟨by omega,by omega⟩ (by have:=ok.nm;omega);obtain⟨v,w⟩:=iR g.ok x.op x.nm x.n x.d (x.ks.map (bm t)) (E o) (λe=>by omega) (by have:=ok.kl;simp;omega);obtain⟨z,B⟩:=A f;obtain⟨s2,l,m⟩:=o a (by rw [f];exact M3);obtain⟨R,_⟩:=l.plain g m;have S:aB t a= []:=by unfold aB;rw [Na,R];rfl
   rw [if_neg (by rw [z,S];simp)];exact⟨q,v.mono (by omega),w⟩
 .have o:∀k∈x.ks,∃s',KW c i k s'/\aF s'=false:=by
   by_cases c7:x.op=7
   .obtain⟨a,b,d,f,X,l,m⟩:=ok.c7 c7;intro k hm;rw [f] at hm;simp only [Nj,Ol,or_false] at hm;rcases hm with rfl | rfl | rfl
    .exact⟨_,X,tA⟩
    .exact⟨_,l,u⟩
    .exact⟨_,m,u⟩
   .refine(ok.pl c7 c8 ?_).2;rcases PC (x.op < 15\/24<=x.op) with h | h
    .exact h
    .exfalso;by_cases eH:x.op=15
     .obtain⟨_,H,Z,_,_,U⟩:=ok.eH eH;subst U;unfold aF at u;simp at u;omega
     by_cases dR:x.op=16\/x.op=23
     .rw [(ok.dR dR).1] at u;cases u
     .rw [(ok.fj (by omega) (by omega)).1] at u;cases u
  have q:=DR D du (λe=>absurd e c8) g C (by have:=ok.kl;omega) o ⟨by omega,by omega⟩ ⟨by omega,by omega⟩ ⟨by omega,by omega⟩ (by have:=ok.nm;omega);obtain⟨v,w⟩:=iR g.ok x.op x.nm x.n x.d (x.ks.map (bm t)) (E o) (λe=>by
   obtain⟨k,r,J⟩:=ok.c3 e;exact⟨bm t k,r.map (bm t),by rw [J];rfl⟩) (by have:=ok.kl;simp;omega)
  rw [if_neg (λe=>c8 e.1)];exact⟨q,v.mono (by omega),w⟩
end Go.Aev.Gen
