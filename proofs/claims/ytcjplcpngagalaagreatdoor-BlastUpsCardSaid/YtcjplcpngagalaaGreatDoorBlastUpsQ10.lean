import Derived.Test.YtcjplcpngagalaaGreatDoorBlastUpsQ9
set_option linter.all false
namespace Go.Aev.Gen
open Go Go.Aev Go.IntKind
def aJ(s:Int):Bool:=decide (10 < s) && decide (s<=18)
theorem gg(n:Int):Or (.call 21) [I n] []=some [tb (aJ n)]:=by
 refine ah ?_;rw [Gk];unfold aJ;by_cases h: 10 < n
 .have:n > 10:=h;simp only [an,↓reduceIte,Int.reduceBEq,Int.reduceEq,h,this,decide_true,OR]
 .have:¬n > 10:=h;simp only [an,↓reduceIte,Int.reduceBEq,Int.reduceEq,h,this,decide_false,OX]
def aE(t:Tr)(k:Int):List Int:=t.bits.getD k.toNat []
def bJ(t:Tr)(k:Int):Int:=t.to.getD k.toNat 0
structure dv (c:Cx) (t:Tr) (M:Mk) (i:Nat):Prop where
 ok:Ok M
 bl:t.bits.length=i
 tl:t.to.length=i
 w:∀(k:Nat) (s:Int),k < i->c.ss[k]? =some s->aJ s=true->∃b,t.bits[k]? =some b/\(b.length:Int)=s - 10/\∀x∈b,In M x
 p:∀(k:Nat) (s:Int),k < i->c.ss[k]? =some s->aJ s=false->t.bits[k]? =some []/\∃v,t.to[k]? =some v/\In M v
theorem dv.up{c:Cx}{t:Tr}{M j:Mk}{i n:Nat}(h:dv c t M i)(u:Up M j n):dv c t j i:=
 ⟨u.ok,h.bl,h.tl,λk s f hs g=>by obtain⟨b,a,d,e⟩:=h.w k s f hs g;exact⟨b,a,d,u.all e⟩,
  λk s f hs g=>by obtain⟨a,v,d,e⟩:=h.p k s f hs g;exact⟨a,v,d,u.In e⟩⟩
structure KW (c:Cx) (i:Nat) (k:Int) (s:Int):Prop where
 h0: 0<=k
 lt:k < (i:Int)
 so:c.ss[k.toNat]? =some s
theorem KW.word{c:Cx}{t:Tr}{M:Mk}{i:Nat}{k s:Int}(h:KW c i k s)(g:dv c t M i)(j:aJ s=true):
  t.bits[k.toNat]? =some (aE t k)/\((aE t k).length:Int)=s - 10/\∀x∈aE t k,In M x:=by
 obtain⟨b,a,d,f⟩:=g.w k.toNat s (by have:=h.h0;have:=h.lt;omega) h.so j;have e:aE t k=b:=by unfold aE;rw [N8,a];rfl
 rw [e];exact⟨a,d,f⟩
theorem KW.plain{c:Cx}{t:Tr}{M:Mk}{i:Nat}{k s:Int}(h:KW c i k s)(f:dv c t M i)(g:aJ s=false):
  t.bits[k.toNat]? =some []/\t.to[k.toNat]? =some (bJ t k)/\In M (bJ t k):=by
 obtain⟨b,v,a,d⟩:=f.p k.toNat s (by have:=h.h0;have:=h.lt;omega) h.so g;have e:bJ t k=v:=by unfold bJ;rw [N8,a];rfl
 rw [e];exact⟨b,a,d⟩
theorem fX{s:Int}(h:aJ s=true): 1<=s - 10/\s - 10<=8:=by unfold aJ at h;simp only [NT,decide_eq_true_eq] at h;omega
def dm(M:Mk)(pre:ByteArray)(kids:List Int):Nat->Nat->List Int×Mk
 | _,0=>([],M)
 | b,k+1=>((dC M 9 (pre++it (b:Int)) 0 0 kids).1:: (dm (dC M 9 (pre++it (b:Int)) 0 0 kids).2 pre kids (b+1) k).1,(dm (dC M 9 (pre++it (b:Int)) 0 0 kids).2 pre kids (b+1) k).2)
theorem CS{pre:ByteArray}{kids:List Int}:∀{k b:Nat} {M:Mk},Ok M->(∀x∈kids,In M x)->kids.length<=1000->
  Up M (dm M pre kids b k).2 k/\(∀x∈(dm M pre kids b k).1,In (dm M pre kids b k).2 x)/\(dm M pre kids b k).1.length=k
 | 0,b,M,h,_,_=>⟨Up.refl h,λx j=>(by cases j),rfl⟩
 | k+1,b,M,h,e,hl=>by
  obtain⟨a,f⟩:=iT h 9 (pre++it (b:Int)) 0 0 kids e (by simp) hl;obtain⟨d,g,i⟩:=CS (k:=k) (b:=b+1) a.ok (a.all e) hl;refine⟨(a.trans d).mono (by omega),λz c=> ?_,by simp [dm,i]⟩;rcases N2.1 c with rfl | c
  .exact d.In f
  .exact g z c
theorem JG{c:Cx}{t:Tr}{x:Nd}{w:Nat}{kids:List Int}{e:Bool}(B:e=kids.isEmpty)(m:c.ds.length<=100)(H:c.p.size<=100)(J:w<=100)(G:kids.length<=100):∀(k b:Nat) (M:Mk) (acc:List Int),b+k=w->Ok M->(∀y∈kids,In M y)->M.N.length+k<=60000->acc.length=b->
  Or gJ [Y'6,Y'7,V'8,ab e kids,I (w:Int),I (b:Int)] [ad.box [Y'1,AV.t (T.ab 3 c.ed (aM c.ds)),AV.t (T.ab 5 c.en (ba c.ns)),AV.t (T.ab 1 c.eh (enc c.hs)),AV.t (T.str c.p),AV.t (T.ab 1 c.es (enc c.ss)),V'2,V'3],ad.box [V'9,V'5],ad.sl false 1 t.bits.isEmpty (bm t.bits),ad.sl false 1 t.to.isEmpty (enc t.to),ad.dead,ad.mp false [Ck.s] (Ck.i .i64) (cg M.K),ad.box [r0],ad.box [I x.op,ab x.ek x.ks,I x.n,I x.d,AV.t (T.str x.nm)],ad.sl false 1 false (enc acc),ad.rows M.N.isEmpty 5 1 1 M.N.length (rows M.N)]=
   some [T.ab 1 false (enc (acc++ (dm M (c.p++it (bA c.ds x.nm)++us) kids b k).1)),T.ao,T.ab 3 c.ed (aM c.ds),T.ab 5 c.en (ba c.ns),T.ab 1 c.eh (enc c.hs),T.str c.p,T.ab 1 c.es (enc c.ss),T.ao,T.ao,RW ((dm M (c.p++it (bA c.ds x.nm)++us) kids b k).2).N,T.ao,T.ab 1 t.bits.isEmpty (bm t.bits),T.ab 1 t.to.isEmpty (enc t.to),EM ((dm M (c.p++it (bA c.ds x.nm)++us) kids b k).2).K]:=by
 have r:=rS (ed:=c.ed) (en:=c.en) (eh:=c.eh) (ns:=c.ns) (hs:=c.hs) (nm:=x.nm) m;have o:dS (bA c.ds x.nm):=by have:=qJ x.nm 0 c.ds;unfold bA;constructor <;> omega
 have O:=fY o;intro k;induction k with
 | zero=>
  intro b M acc A h f z a;have j:¬(b:Int) < (w:Int):=by omega
  refine ah ?_;rw [Al];simp only [an,↓reduceIte,Int.reduceBEq,Int.reduceEq,j,aY,aX,NO,aV,aS,cU,cV,cH,dm,Oj];rfl
 | succ k D=>
  intro b M acc A h f z a;have j:(b:Int) < (w:Int):=by omega
  have g:dS (b:Int):=⟨by omega,by omega⟩;have P:=fY g;have u:c.p.size+ (it (bA c.ds x.nm)).size<=4294967296:=by omega
  have v:(c.p++it (bA c.ds x.nm)).size+1<=4294967296:=by rw [Ob];omega
  have c3:(c.p++it (bA c.ds x.nm)++us).size+ (it (b:Int)).size<=4294967296:=by simp only [Ob,fS];omega
  have E:=iX M (show M.N.length<=100000 by omega) 9 (c.p++it (bA c.ds x.nm)++us++it (b:Int)) 0 0 kids e B (λy C=>(f y C).i64 (by omega)) (by omega) (by omega) (by omega) (by omega) (by simp only [Ob,fS];omega);obtain⟨l,L⟩:=iT h 9 (c.p++it (bA c.ds x.nm)++us++it (b:Int)) 0 0 kids f (by simp) (by omega);have F:bt 8 (acc.length+1)=some ():=cE (by omega);have q:=D (b+1) _ (acc++ [(dC M 9 (c.p++it (bA c.ds x.nm)++us++it (b:Int)) 0 0 kids).1]) (by omega) l.ok (l.all f) (by have:=l.up;omega) (by simp [a]);simp only [Og,Ol] at q;rw [dm];refine ah ?_;rw [Al];simp only [an,↓reduceIte,Int.reduceBEq,Int.reduceEq,j,r,hH o,hH g,u,v,c3,E,aD,NW,F,next b (by omega),dX,aY,aX,NO,aV,aS,cU,cV,cH];exact q
theorem JH{c:Cx}{t:Tr}{x:Nd}{w:Nat}(l:c.ds.length<=100)(D:c.p.size<=100)(E:w<=100):∀(k b:Nat) (M:Mk) (acc:List Int),b+k=w->Ok M->M.N.length+k<=60000->acc.length=b->
  Or gJ [Y'6,Y'7,V'8,AV.t (T.ae true),I (w:Int),I (b:Int)] [ad.box [Y'1,AV.t (T.ab 3 c.ed (aM c.ds)),AV.t (T.ab 5 c.en (ba c.ns)),AV.t (T.ab 1 c.eh (enc c.hs)),AV.t (T.str c.p),AV.t (T.ab 1 c.es (enc c.ss)),V'2,V'3],ad.box [V'9,V'5],ad.sl false 1 t.bits.isEmpty (bm t.bits),ad.sl false 1 t.to.isEmpty (enc t.to),ad.dead,ad.mp false [Ck.s] (Ck.i .i64) (cg M.K),ad.box [r0],ad.box [I x.op,ab x.ek x.ks,I x.n,I x.d,AV.t (T.str x.nm)],ad.sl false 1 false (enc acc),ad.rows M.N.isEmpty 5 1 1 M.N.length (rows M.N)]=
   some [T.ab 1 false (enc (acc++ (dm M (c.p++it (bA c.ds x.nm)++us) [] b k).1)),T.ao,T.ab 3 c.ed (aM c.ds),T.ab 5 c.en (ba c.ns),T.ab 1 c.eh (enc c.hs),T.str c.p,T.ab 1 c.es (enc c.ss),T.ao,T.ao,RW ((dm M (c.p++it (bA c.ds x.nm)++us) [] b k).2).N,T.ao,T.ab 1 t.bits.isEmpty (bm t.bits),T.ab 1 t.to.isEmpty (enc t.to),EM ((dm M (c.p++it (bA c.ds x.nm)++us) [] b k).2).K]:=by
 have q:=rS (ed:=c.ed) (en:=c.en) (eh:=c.eh) (ns:=c.ns) (hs:=c.hs) (nm:=x.nm) l;have m:dS (bA c.ds x.nm):=by have:=qJ x.nm 0 c.ds;unfold bA;constructor <;> omega
 have G:=fY m;intro k;induction k with
 | zero=>
  intro b M acc A h z a;have f:¬(b:Int) < (w:Int):=by omega
  refine ah ?_;rw [Ak];simp only [an,↓reduceIte,Int.reduceBEq,Int.reduceEq,f,aY,aX,NO,aV,aS,cU,cV,cH,dm,Oj];rfl
 | succ k B=>
  intro b M acc A h z a;have f:(b:Int) < (w:Int):=by omega
  have e:dS (b:Int):=⟨by omega,by omega⟩;have H:=fY e;have u:c.p.size+ (it (bA c.ds x.nm)).size<=4294967296:=by omega
  have v:(c.p++it (bA c.ds x.nm)).size+1<=4294967296:=by rw [Ob];omega
  have c3:(c.p++it (bA c.ds x.nm)++us).size+ (it (b:Int)).size<=4294967296:=by simp only [Ob,fS];omega
  have j:=iX M (show M.N.length<=100000 by omega) 9 (c.p++it (bA c.ds x.nm)++us++it (b:Int)) 0 0 [] true rfl (λy g=>by cases g) (by simp) (by omega) (by omega) (by omega) (by simp only [Ob,fS];omega);replace j:Or (.call 61) [r0,I 9,AV.t (T.str (c.p++it (bA c.ds x.nm)++us++it (b:Int))),I 0,I 0,AV.t (T.ab 1 true [])] (df M)=_:=j;obtain⟨r,F⟩:=iT h 9 (c.p++it (bA c.ds x.nm)++us++it (b:Int)) 0 0 [] (λy g=>by cases g) (by simp);have C:bt 8 (acc.length+1)=some ():=cE (by omega);have o:=B (b+1) _ (acc++ [(dC M 9 (c.p++it (bA c.ds x.nm)++us++it (b:Int)) 0 0 []).1]) (by omega) r.ok (by have:=r.up;omega) (by simp [a]);simp only [Og,Ol] at o;rw [dm];refine ah ?_;rw [Ak];simp only [an,↓reduceIte,Int.reduceBEq,Int.reduceEq,f,q,hH m,hH e,u,v,c3,j,aD,NW,C,next b (by omega),dX,aY,aX,NO,aV,aS,cU,cV,cH];exact o
theorem JI{c:Cx}{t:Tr}{M:Mk}{x:Nd}{w:Nat}{kids:List Int}(o:kids≠[])(b:c.ds.length<=100)(z:c.p.size<=100)(F: 1<=w)(A:w<=100)(m:kids.length<=100)(h:Ok M)(g:∀y∈kids,In M y)(G:M.N.length<=50000):
  Or gJ [Y'6,Y'7,AV.t (T.ae true),V'8,I (w:Int),I 0] [ad.box [Y'1,AV.t (T.ab 3 c.ed (aM c.ds)),AV.t (T.ab 5 c.en (ba c.ns)),AV.t (T.ab 1 c.eh (enc c.hs)),AV.t (T.str c.p),AV.t (T.ab 1 c.es (enc c.ss)),V'2,V'3],ad.box [V'4,V'5],ad.sl false 1 t.bits.isEmpty (bm t.bits),ad.sl false 1 t.to.isEmpty (enc t.to),ad.rows M.N.isEmpty 5 1 1 M.N.length (rows M.N),ad.mp false [Ck.s] (Ck.i .i64) (cg M.K),ad.box [r0],ad.box [I x.op,ab x.ek x.ks,I x.n,I x.d,AV.t (T.str x.nm)],ad.sl false 1 false (enc kids)]=
   some [T.ab 1 false (enc (dm M (c.p++it (bA c.ds x.nm)++us) kids 0 w).1),T.ao,T.ab 3 c.ed (aM c.ds),T.ab 5 c.en (ba c.ns),T.ab 1 c.eh (enc c.hs),T.str c.p,T.ab 1 c.es (enc c.ss),T.ao,T.ao,RW ((dm M (c.p++it (bA c.ds x.nm)++us) kids 0 w).2).N,T.ao,T.ab 1 t.bits.isEmpty (bm t.bits),T.ab 1 t.to.isEmpty (enc t.to),EM ((dm M (c.p++it (bA c.ds x.nm)++us) kids 0 w).2).K]:=by
 have q:=rS (ed:=c.ed) (en:=c.en) (eh:=c.eh) (ns:=c.ns) (hs:=c.hs) (nm:=x.nm) b;have l:dS (bA c.ds x.nm):=by have:=qJ x.nm 0 c.ds;unfold bA;constructor <;> omega
 have J:=fY l;obtain⟨k,rfl⟩:∃k,w=k+1:=⟨w - 1,by omega⟩;have v:(0:Int) < ((k+1:Nat):Int):=by omega
 have a:dS (0:Int):=⟨by omega,by omega⟩;have L:=fY a;have r:c.p.size+ (it (bA c.ds x.nm)).size<=4294967296:=by omega
 have u:(c.p++it (bA c.ds x.nm)).size+1<=4294967296:=by rw [Ob];omega
 have c3:(c.p++it (bA c.ds x.nm)++us).size+ (it (0:Int)).size<=4294967296:=by simp only [Ob,fS];omega
 have f:false=kids.isEmpty:=by cases kids with
  | nil=>exact absurd rfl o
  | cons=>rfl
 have D:=iX M (show M.N.length<=100000 by omega) 9 (c.p++it (bA c.ds x.nm)++us++it (0:Int)) 0 0 kids false f (λy B=>(g y B).i64 (by omega)) (by omega) (by omega) (by omega) (by omega) (by simp only [Ob,fS];omega);obtain⟨j,H⟩:=iT h 9 (c.p++it (bA c.ds x.nm)++us++it (0:Int)) 0 0 kids g (by simp) (by omega);have E:i64.wrap (0+1)= ((1:Nat):Int):=by decide
 have C:=JG (t:=t) (x:=x) (w:=k+1) (e:=false) f b z A m k 1 _ [(dC M 9 (c.p++it (bA c.ds x.nm)++us++it (0:Int)) 0 0 kids).1] (by omega) j.ok (j.all g) (by have:=j.up;omega) rfl;rw [dm];refine ah ?_;rw [Gv];simp only [an,↓reduceIte,Int.reduceBEq,Int.reduceEq,v,q,hH l,hH a,r,u,c3,D,E,aY,aX,NO,aV,aS,cU,cV,cH];exact C
theorem JJ{c:Cx}{t:Tr}{M:Mk}{x:Nd}{w:Nat}(b:c.ds.length<=100)(r:c.p.size<=100)(A: 1<=w)(u:w<=100)(h:Ok M)(B:M.N.length<=50000):
  Or gJ [Y'6,Y'7,AV.t (T.ae true),AV.t (T.ae true),I (w:Int),I 0] [ad.box [Y'1,AV.t (T.ab 3 c.ed (aM c.ds)),AV.t (T.ab 5 c.en (ba c.ns)),AV.t (T.ab 1 c.eh (enc c.hs)),AV.t (T.str c.p),AV.t (T.ab 1 c.es (enc c.ss)),V'2,V'3],ad.box [V'4,V'5],ad.sl false 1 t.bits.isEmpty (bm t.bits),ad.sl false 1 t.to.isEmpty (enc t.to),ad.rows M.N.isEmpty 5 1 1 M.N.length (rows M.N),ad.mp false [Ck.s] (Ck.i .i64) (cg M.K),ad.box [r0],ad.box [I x.op,ab x.ek x.ks,I x.n,I x.d,AV.t (T.str x.nm)]]=
   some [T.ab 1 false (enc (dm M (c.p++it (bA c.ds x.nm)++us) [] 0 w).1),T.ao,T.ab 3 c.ed (aM c.ds),T.ab 5 c.en (ba c.ns),T.ab 1 c.eh (enc c.hs),T.str c.p,T.ab 1 c.es (enc c.ss),T.ao,T.ao,RW ((dm M (c.p++it (bA c.ds x.nm)++us) [] 0 w).2).N,T.ao,T.ab 1 t.bits.isEmpty (bm t.bits),T.ab 1 t.to.isEmpty (enc t.to),EM ((dm M (c.p++it (bA c.ds x.nm)++us) [] 0 w).2).K]:=by
 have j:=rS (ed:=c.ed) (en:=c.en) (eh:=c.eh) (ns:=c.ns) (hs:=c.hs) (nm:=x.nm) b;have g:dS (bA c.ds x.nm):=by have:=qJ x.nm 0 c.ds;unfold bA;constructor <;> omega
 have D:=fY g;obtain⟨k,rfl⟩:∃k,w=k+1:=⟨w - 1,by omega⟩;have q:(0:Int) < ((k+1:Nat):Int):=by omega
 have a:dS (0:Int):=⟨by omega,by omega⟩;have E:=fY a;have m:c.p.size+ (it (bA c.ds x.nm)).size<=4294967296:=by omega
 have o:(c.p++it (bA c.ds x.nm)).size+1<=4294967296:=by rw [Ob];omega
 have c3:(c.p++it (bA c.ds x.nm)++us).size+ (it (0:Int)).size<=4294967296:=by simp only [Ob,fS];omega
 have f:=iX M (show M.N.length<=100000 by omega) 9 (c.p++it (bA c.ds x.nm)++us++it (0:Int)) 0 0 [] true rfl (λy e=>by cases e) (by simp) (by omega) (by omega) (by omega) (by simp only [Ob,fS];omega);replace f:Or (.call 61) [r0,I 9,AV.t (T.str (c.p++it (bA c.ds x.nm)++us++it (0:Int))),I 0,I 0,AV.t (T.ab 1 true [])] (df M)=_:=f;obtain⟨l,C⟩:=iT h 9 (c.p++it (bA c.ds x.nm)++us++it (0:Int)) 0 0 [] (λy e=>by cases e) (by simp);have z:i64.wrap (0+1)= ((1:Nat):Int):=by decide
 have v:=JH (t:=t) (x:=x) (w:=k+1) b r u k 1 _ [(dC M 9 (c.p++it (bA c.ds x.nm)++us++it (0:Int)) 0 0 []).1] (by omega) l.ok (by have:=l.up;omega) rfl;rw [dm];refine ah ?_;rw [Gu];simp only [an,↓reduceIte,Int.reduceBEq,Int.reduceEq,q,j,hH g,hH a,m,o,c3,f,z,aY,aX,NO,aV,aS,cU,cV,cH];exact v
theorem JL{c:Cx}{t:Tr}{M:Mk}{x:Nd}{i w:Nat}{s:Int}(hs:c.ss[i]? =some s)(v:s - 10= (w:Int))(E:w<=100)(D:x.ks.length<=100)(l:∀k∈x.ks,0<=k/\t.to[k.toNat]? =some (bJ t k)){r:List T}:∀(e:List Int) (j:Nat) (acc:List Int),x.ks.drop j=e->j<=x.ks.length->acc.length=j->
  Or gJ [Y'6,Y'7,AV.t (T.ae true),V'8,I (w:Int),I 0] [ad.box [Y'1,AV.t (T.ab 3 c.ed (aM c.ds)),AV.t (T.ab 5 c.en (ba c.ns)),AV.t (T.ab 1 c.eh (enc c.hs)),AV.t (T.str c.p),AV.t (T.ab 1 c.es (enc c.ss)),V'2,V'3],ad.box [V'4,V'5],ad.sl false 1 t.bits.isEmpty (bm t.bits),ad.sl false 1 t.to.isEmpty (enc t.to),ad.rows M.N.isEmpty 5 1 1 M.N.length (rows M.N),ad.mp false [Ck.s] (Ck.i .i64) (cg M.K),ad.box [r0],ad.box [I x.op,ab x.ek x.ks,I x.n,I x.d,AV.t (T.str x.nm)],ad.sl false 1 false (enc (acc++e.map (bJ t)))]=some r->
  Or nq [I (i:Int),Y'6,Y'7,AV.t (T.ae true),V'8,ab x.ek x.ks,I (x.ks.length:Int),I (j:Int)] [ad.box [Y'1,AV.t (T.ab 3 c.ed (aM c.ds)),AV.t (T.ab 5 c.en (ba c.ns)),AV.t (T.ab 1 c.eh (enc c.hs)),AV.t (T.str c.p),AV.t (T.ab 1 c.es (enc c.ss)),V'2,V'3],ad.box [V'4,V'5],ad.sl false 1 t.bits.isEmpty (bm t.bits),ad.sl false 1 t.to.isEmpty (enc t.to),ad.rows M.N.isEmpty 5 1 1 M.N.length (rows M.N),ad.mp false [Ck.s] (Ck.i .i64) (cg M.K),ad.box [r0],ad.box [I x.op,ab x.ek x.ks,I x.n,I x.d,AV.t (T.str x.nm)],ad.sl false 1 false (enc acc)]=some r:=by
 intro e;induction e with
 | nil=>
  intro j acc g u a b;have f:¬(j:Int) < (x.ks.length:Int):=by have:=bp g;omega
  have q: 0<=(i:Int)/\(i:Int) < (c.ss.length:Int):=by have:=(NQ.1 hs).1;omega
  have C:i64.wrap (s - 10)= (w:Int):=by rw [v,wr (by omega)]
  rw [OV,Oj] at b;refine ah ?_;rw [Aq];simp only [an,↓reduceIte,Int.reduceBEq,Int.reduceEq,f,q,and_self,aD,bM hs,C];exact b
 | cons k e z=>
  intro j acc g u a b;obtain⟨h,F,o⟩:=bq g;have f:(j:Int) < (x.ks.length:Int):=by omega
  have h0: 0<=(j:Int):=by omega
  obtain⟨G,m⟩:=l k (NU h);have A: 0<=k/\k < (t.to.length:Int):=by have:=(NQ.1 m).1;omega
  have B:bt 8 (acc.length+1)=some ():=cE (by omega);have y:=z (j+1) (acc++ [bJ t k]) o (by omega) (by simp [a]) (by
   rw [Oq] at b;simpa only [Og,Ol] using b)
  refine ah ?_;rw [Aq];simp only [an,↓reduceIte,Int.reduceBEq,Int.reduceEq,f,h0,and_self,aD,bM h,A,eK m,NW,B,next j (by omega),dX];exact y
theorem LF{c:Cx}{t:Tr}{M:Mk}{x:Nd}{i:Nat}{s:Int}(C:c.ns[i]? =some x)(hs:c.ss[i]? =some s)(m:x.op=9)(H:aJ s=true)(g:dv c t M i)(h:c.ds.length<=100)(A:c.p.size<=100)(l:x.ks.length<=100)(v:∀k∈x.ks,∃s',KW c i k s'/\aJ s'=false)(Q:M.N.length<=40000):
  Or (.call 32) [r0,I (i:Int)] [ad.box [Y'1,AV.t (T.ab 3 c.ed (aM c.ds)),AV.t (T.ab 5 c.en (ba c.ns)),AV.t (T.ab 1 c.eh (enc c.hs)),AV.t (T.str c.p),AV.t (T.ab 1 c.es (enc c.ss)),V'2,V'3],ad.box [V'4,V'5],ad.sl false 1 t.bits.isEmpty (bm t.bits),ad.sl false 1 t.to.isEmpty (enc t.to),ad.rows M.N.isEmpty 5 1 1 M.N.length (rows M.N),ad.mp false [Ck.s] (Ck.i .i64) (cg M.K)]=some [T.ab 1 false (enc (dm M (c.p++it (bA c.ds x.nm)++us) (x.ks.map (bJ t)) 0 (s - 10).toNat).1),T.ao,T.ab 3 c.ed (aM c.ds),T.ab 5 c.en (ba c.ns),T.ab 1 c.eh (enc c.hs),T.str c.p,T.ab 1 c.es (enc c.ss),T.ao,T.ao,RW ((dm M (c.p++it (bA c.ds x.nm)++us) (x.ks.map (bJ t)) 0 (s - 10).toNat).2).N,T.ao,T.ab 1 t.bits.isEmpty (bm t.bits),T.ab 1 t.to.isEmpty (enc t.to),EM ((dm M (c.p++it (bA c.ds x.nm)++us) (x.ks.map (bJ t)) 0 (s - 10).toNat).2).K]:=by
 have hl:=fX H;have F: 0<=(i:Int)/\(i:Int) < (c.ns.length:Int):=by have:=(NQ.1 C).1;omega
 have G: 0<=(i:Int)/\(i:Int) < (c.ss.length:Int):=by have:=(NQ.1 hs).1;omega
 have B:s - 10= ((s - 10).toNat:Int):=by omega
 have j:∀k∈x.ks,0<=k/\t.to[k.toNat]? =some (bJ t k):=λk hm=>by obtain⟨s',e,q⟩:=v k hm;exact⟨e.h0,(e.plain g q).2.1⟩
 have r:∀y∈x.ks.map (bJ t),In M y:=λy J=>by obtain⟨k,hm,rfl⟩:=Ou.1 J;obtain⟨s',e,q⟩:=v k hm;exact(e.plain g q).2.2
 have b:Or nq [I (i:Int),Y'6,Y'7,AV.t (T.ae true),AV.t (T.ae true),ab x.ek x.ks,I (x.ks.length:Int),I 0] [ad.box [Y'1,AV.t (T.ab 3 c.ed (aM c.ds)),AV.t (T.ab 5 c.en (ba c.ns)),AV.t (T.ab 1 c.eh (enc c.hs)),AV.t (T.str c.p),AV.t (T.ab 1 c.es (enc c.ss)),V'2,V'3],ad.box [V'4,V'5],ad.sl false 1 t.bits.isEmpty (bm t.bits),ad.sl false 1 t.to.isEmpty (enc t.to),ad.rows M.N.isEmpty 5 1 1 M.N.length (rows M.N),ad.mp false [Ck.s] (Ck.i .i64) (cg M.K),ad.box [r0],ad.box [I x.op,ab x.ek x.ks,I x.n,I x.d,AV.t (T.str x.nm)]]=
   some [T.ab 1 false (enc (dm M (c.p++it (bA c.ds x.nm)++us) (x.ks.map (bJ t)) 0 (s - 10).toNat).1),T.ao,T.ab 3 c.ed (aM c.ds),T.ab 5 c.en (ba c.ns),T.ab 1 c.eh (enc c.hs),T.str c.p,T.ab 1 c.es (enc c.ss),T.ao,T.ao,RW ((dm M (c.p++it (bA c.ds x.nm)++us) (x.ks.map (bJ t)) 0 (s - 10).toNat).2).N,T.ao,T.ab 1 t.bits.isEmpty (bm t.bits),T.ab 1 t.to.isEmpty (enc t.to),EM ((dm M (c.p++it (bA c.ds x.nm)++us) (x.ks.map (bJ t)) 0 (s - 10).toNat).2).K]:=by
  cases a:x.ks with
  | nil=>
   have f:=JJ (c:=c) (t:=t) (M:=M) (x:=x) (w:=(s - 10).toNat) h A (by omega) (by omega) g.ok (by omega);have P:i64.wrap (s - 10)= ((s - 10).toNat:Int):=by rw [wr (by omega)];omega
   rw [a] at f;refine ah ?_;rw [Ap];simp only [an,↓reduceIte,Int.reduceBEq,Int.reduceEq,N7,On,Ox,decide_false,G,and_self,aD,bM hs,P];exact f
  | cons k u=>
   have z:x.ks.map (bJ t)≠[]:=by rw [a];simp
   have f:=JI (c:=c) (t:=t) (M:=M) (x:=x) (w:=(s - 10).toNat) z h A (by omega) (by omega) (by simpa using l) g.ok r (by omega);obtain⟨R,D⟩:=j k (by rw [a];exact NN);have L: 0<=k/\k < (t.to.length:Int):=by have:=(NQ.1 D).1;omega
   have o:=JL (c:=c) (t:=t) (M:=M) (x:=x) hs B (by omega) l j u 1 [bJ t k] (by rw [a];rfl) (by rw [a];simp) rfl (by
    rw [a] at f⊢;exact f)
   have e:(0:Int) < (((k::u).length:Nat):Int):=by simp
   have h0:(0:Int)<=0:=by omega
   have E:(enc (k::u))[(0:Int).toNat]? =some [ti k]:=rfl;have O:i64.wrap (0+1)= ((1:Nat):Int):=by decide
   rw [a] at o;refine ah ?_;rw [Ap];simp only [an,↓reduceIte,Int.reduceBEq,Int.reduceEq,e,h0,and_self,aD,E,L,eK D,O];exact o
 refine ah ?_;rw [kD];simp (maxSteps:=1000000) only [an,↓reduceIte,Int.reduceBEq,Int.reduceEq,F,and_self,dy,eJ C,m,aD];rw [m] at b;exact b
theorem Lx{c:Cx}{t:Tr}{M:Mk}{x:Nd}{i:Nat}{s:Int}(o:c.ns[i]? =some x)(l:x.op=17){d e:Int}(h:x.ks= [d,e])(q:KW c i d s)(r:KW c i e s)(n:aJ s=true)(m:dv c t M i)(D:M.N.length<=40000):
  Or (.call 32) [r0,I (i:Int)] [ad.box [Y'1,AV.t (T.ab 3 c.ed (aM c.ds)),AV.t (T.ab 5 c.en (ba c.ns)),AV.t (T.ab 1 c.eh (enc c.hs)),AV.t (T.str c.p),AV.t (T.ab 1 c.es (enc c.ss)),V'2,V'3],ad.box [V'4,V'5],ad.sl false 1 t.bits.isEmpty (bm t.bits),ad.sl false 1 t.to.isEmpty (enc t.to),ad.rows M.N.isEmpty 5 1 1 M.N.length (rows M.N),ad.mp false [Ck.s] (Ck.i .i64) (cg M.K)]=some [T.ab 1 (a8 cu M (aE t d) (aE t e)).1.isEmpty (enc (a8 cu M (aE t d) (aE t e)).1),T.ao,T.ab 3 c.ed (aM c.ds),T.ab 5 c.en (ba c.ns),T.ab 1 c.eh (enc c.hs),T.str c.p,T.ab 1 c.es (enc c.ss),T.ao,T.ao,RW ((a8 cu M (aE t d) (aE t e)).2).N,T.ao,T.ab 1 t.bits.isEmpty (bm t.bits),T.ab 1 t.to.isEmpty (enc t.to),EM ((a8 cu M (aE t d) (aE t e)).2).K]:=by
 have hl:=fX n;have z: 0<=(i:Int)/\(i:Int) < (c.ns.length:Int):=by have:=(NQ.1 o).1;omega
 obtain⟨u,B,v⟩:=q.word m n;obtain⟨w,C,y⟩:=r.word m n;have f:=iA (c:=c) (t:=t) (M:=M) (x:=x) (j:=0) (k:=d) (by rw [h];rfl) q.h0 u;have g:=iA (c:=c) (t:=t) (M:=M) (x:=x) (j:=1) (k:=e) (by rw [h];rfl) r.h0 w;rw [l] at f g;replace f:Or (.call 60) [I 0,r0,r1] _=_:=f;replace g:Or (.call 60) [I 1,r0,r1] _=_:=g;have A:=L7 m.ok (ea:=(aE t d).isEmpty) (eb:=(aE t e).isEmpty) (a:=aE t d) (b:=aE t e) (by omega) (by omega) v y (by omega);refine ah ?_;rw [kD];simp (maxSteps:=1000000) only [an,↓reduceIte,Int.reduceBEq,Int.reduceEq,z,and_self,dy,eJ o,l,f,g,A,aY,aX,NO,aV,aS,cU,cV,cH];rfl
theorem Ly{c:Cx}{t:Tr}{M:Mk}{x:Nd}{i:Nat}{s:Int}(o:c.ns[i]? =some x)(l:x.op=18){d e:Int}(h:x.ks= [d,e])(q:KW c i d s)(r:KW c i e s)(n:aJ s=true)(m:dv c t M i)(D:M.N.length<=40000):
  Or (.call 32) [r0,I (i:Int)] [ad.box [Y'1,AV.t (T.ab 3 c.ed (aM c.ds)),AV.t (T.ab 5 c.en (ba c.ns)),AV.t (T.ab 1 c.eh (enc c.hs)),AV.t (T.str c.p),AV.t (T.ab 1 c.es (enc c.ss)),V'2,V'3],ad.box [V'4,V'5],ad.sl false 1 t.bits.isEmpty (bm t.bits),ad.sl false 1 t.to.isEmpty (enc t.to),ad.rows M.N.isEmpty 5 1 1 M.N.length (rows M.N),ad.mp false [Ck.s] (Ck.i .i64) (cg M.K)]=some [T.ab 1 (a8 dZ M (aE t d) (aE t e)).1.isEmpty (enc (a8 dZ M (aE t d) (aE t e)).1),T.ao,T.ab 3 c.ed (aM c.ds),T.ab 5 c.en (ba c.ns),T.ab 1 c.eh (enc c.hs),T.str c.p,T.ab 1 c.es (enc c.ss),T.ao,T.ao,RW ((a8 dZ M (aE t d) (aE t e)).2).N,T.ao,T.ab 1 t.bits.isEmpty (bm t.bits),T.ab 1 t.to.isEmpty (enc t.to),EM ((a8 dZ M (aE t d) (aE t e)).2).K]:=by
 have hl:=fX n;have z: 0<=(i:Int)/\(i:Int) < (c.ns.length:Int):=by have:=(NQ.1 o).1;omega
 obtain⟨u,B,v⟩:=q.word m n;obtain⟨w,C,y⟩:=r.word m n;have f:=iA (c:=c) (t:=t) (M:=M) (x:=x) (j:=0) (k:=d) (by rw [h];rfl) q.h0 u;have g:=iA (c:=c) (t:=t) (M:=M) (x:=x) (j:=1) (k:=e) (by rw [h];rfl) r.h0 w;rw [l] at f g;replace f:Or (.call 60) [I 0,r0,r1] _=_:=f;replace g:Or (.call 60) [I 1,r0,r1] _=_:=g;have A:=L8 m.ok (ea:=(aE t d).isEmpty) (eb:=(aE t e).isEmpty) (a:=aE t d) (b:=aE t e) (by omega) (by omega) v y (by omega);refine ah ?_;rw [kD];simp (maxSteps:=1000000) only [an,↓reduceIte,Int.reduceBEq,Int.reduceEq,z,and_self,dy,eJ o,l,f,g,A,aY,aX,NO,aV,aS,cU,cV,cH];rfl
theorem Lz{c:Cx}{t:Tr}{M:Mk}{x:Nd}{i:Nat}{s:Int}(o:c.ns[i]? =some x)(l:x.op=19){d e:Int}(h:x.ks= [d,e])(q:KW c i d s)(r:KW c i e s)(n:aJ s=true)(m:dv c t M i)(D:M.N.length<=40000):
  Or (.call 32) [r0,I (i:Int)] [ad.box [Y'1,AV.t (T.ab 3 c.ed (aM c.ds)),AV.t (T.ab 5 c.en (ba c.ns)),AV.t (T.ab 1 c.eh (enc c.hs)),AV.t (T.str c.p),AV.t (T.ab 1 c.es (enc c.ss)),V'2,V'3],ad.box [V'4,V'5],ad.sl false 1 t.bits.isEmpty (bm t.bits),ad.sl false 1 t.to.isEmpty (enc t.to),ad.rows M.N.isEmpty 5 1 1 M.N.length (rows M.N),ad.mp false [Ck.s] (Ck.i .i64) (cg M.K)]=some [T.ab 1 (a8 bz M (aE t d) (aE t e)).1.isEmpty (enc (a8 bz M (aE t d) (aE t e)).1),T.ao,T.ab 3 c.ed (aM c.ds),T.ab 5 c.en (ba c.ns),T.ab 1 c.eh (enc c.hs),T.str c.p,T.ab 1 c.es (enc c.ss),T.ao,T.ao,RW ((a8 bz M (aE t d) (aE t e)).2).N,T.ao,T.ab 1 t.bits.isEmpty (bm t.bits),T.ab 1 t.to.isEmpty (enc t.to),EM ((a8 bz M (aE t d) (aE t e)).2).K]:=by
 have hl:=fX n;have z: 0<=(i:Int)/\(i:Int) < (c.ns.length:Int):=by have:=(NQ.1 o).1;omega
 obtain⟨u,B,v⟩:=q.word m n;obtain⟨w,C,y⟩:=r.word m n;have f:=iA (c:=c) (t:=t) (M:=M) (x:=x) (j:=0) (k:=d) (by rw [h];rfl) q.h0 u;have g:=iA (c:=c) (t:=t) (M:=M) (x:=x) (j:=1) (k:=e) (by rw [h];rfl) r.h0 w;rw [l] at f g;replace f:Or (.call 60) [I 0,r0,r1] _=_:=f;replace g:Or (.call 60) [I 1,r0,r1] _=_:=g;have A:=L9 m.ok (ea:=(aE t d).isEmpty) (eb:=(aE t e).isEmpty) (a:=aE t d) (b:=aE t e) (by omega) (by omega) v y (by omega);refine ah ?_;rw [kD];simp (maxSteps:=1000000) only [an,↓reduceIte,Int.reduceBEq,Int.reduceEq,z,and_self,dy,eJ o,l,f,g,A,aY,aX,NO,aV,aS,cU,cV,cH];rfl
theorem LA{c:Cx}{t:Tr}{M:Mk}{x:Nd}{i:Nat}{s:Int}(o:c.ns[i]? =some x)(l:x.op=20){d e:Int}(h:x.ks= [d,e])(q:KW c i d s)(r:KW c i e s)(n:aJ s=true)(m:dv c t M i)(D:M.N.length<=40000):
  Or (.call 32) [r0,I (i:Int)] [ad.box [Y'1,AV.t (T.ab 3 c.ed (aM c.ds)),AV.t (T.ab 5 c.en (ba c.ns)),AV.t (T.ab 1 c.eh (enc c.hs)),AV.t (T.str c.p),AV.t (T.ab 1 c.es (enc c.ss)),V'2,V'3],ad.box [V'4,V'5],ad.sl false 1 t.bits.isEmpty (bm t.bits),ad.sl false 1 t.to.isEmpty (enc t.to),ad.rows M.N.isEmpty 5 1 1 M.N.length (rows M.N),ad.mp false [Ck.s] (Ck.i .i64) (cg M.K)]=some [T.ab 1 (dD M (aE t d) (aE t e)).1.isEmpty (enc (dD M (aE t d) (aE t e)).1),T.ao,T.ab 3 c.ed (aM c.ds),T.ab 5 c.en (ba c.ns),T.ab 1 c.eh (enc c.hs),T.str c.p,T.ab 1 c.es (enc c.ss),T.ao,T.ao,RW ((dD M (aE t d) (aE t e)).2).N,T.ao,T.ab 1 t.bits.isEmpty (bm t.bits),T.ab 1 t.to.isEmpty (enc t.to),EM ((dD M (aE t d) (aE t e)).2).K]:=by
 have hl:=fX n;have z: 0<=(i:Int)/\(i:Int) < (c.ns.length:Int):=by have:=(NQ.1 o).1;omega
 obtain⟨u,B,v⟩:=q.word m n;obtain⟨w,C,y⟩:=r.word m n;have f:=iA (c:=c) (t:=t) (M:=M) (x:=x) (j:=0) (k:=d) (by rw [h];rfl) q.h0 u;have g:=iA (c:=c) (t:=t) (M:=M) (x:=x) (j:=1) (k:=e) (by rw [h];rfl) r.h0 w;rw [l] at f g;replace f:Or (.call 60) [I 0,r0,r1] _=_:=f;replace g:Or (.call 60) [I 1,r0,r1] _=_:=g;have A:=D6 m.ok (ea:=(aE t d).isEmpty) (eb:=(aE t e).isEmpty) (a:=aE t d) (b:=aE t e) (by omega) (by omega) v y (by omega);refine ah ?_;rw [kD];simp (maxSteps:=1000000) only [an,↓reduceIte,Int.reduceBEq,Int.reduceEq,z,and_self,dy,eJ o,l,f,g,A,aY,aX,NO,aV,aS,cU,cV,cH];rfl
theorem LB{c:Cx}{t:Tr}{M:Mk}{x:Nd}{i:Nat}{s:Int}(o:c.ns[i]? =some x)(l:x.op=21){d e:Int}(h:x.ks= [d,e])(q:KW c i d s)(r:KW c i e s)(n:aJ s=true)(m:dv c t M i)(D:M.N.length<=40000):
  Or (.call 32) [r0,I (i:Int)] [ad.box [Y'1,AV.t (T.ab 3 c.ed (aM c.ds)),AV.t (T.ab 5 c.en (ba c.ns)),AV.t (T.ab 1 c.eh (enc c.hs)),AV.t (T.str c.p),AV.t (T.ab 1 c.es (enc c.ss)),V'2,V'3],ad.box [V'4,V'5],ad.sl false 1 t.bits.isEmpty (bm t.bits),ad.sl false 1 t.to.isEmpty (enc t.to),ad.rows M.N.isEmpty 5 1 1 M.N.length (rows M.N),ad.mp false [Ck.s] (Ck.i .i64) (cg M.K)]=some [T.ab 1 (jc M (aE t d) (aE t e)).1.isEmpty (enc (jc M (aE t d) (aE t e)).1),T.ao,T.ab 3 c.ed (aM c.ds),T.ab 5 c.en (ba c.ns),T.ab 1 c.eh (enc c.hs),T.str c.p,T.ab 1 c.es (enc c.ss),T.ao,T.ao,RW ((jc M (aE t d) (aE t e)).2).N,T.ao,T.ab 1 t.bits.isEmpty (bm t.bits),T.ab 1 t.to.isEmpty (enc t.to),EM ((jc M (aE t d) (aE t e)).2).K]:=by
 have hl:=fX n;have z: 0<=(i:Int)/\(i:Int) < (c.ns.length:Int):=by have:=(NQ.1 o).1;omega
 obtain⟨u,B,v⟩:=q.word m n;obtain⟨w,C,y⟩:=r.word m n;have f:=iA (c:=c) (t:=t) (M:=M) (x:=x) (j:=0) (k:=d) (by rw [h];rfl) q.h0 u;have g:=iA (c:=c) (t:=t) (M:=M) (x:=x) (j:=1) (k:=e) (by rw [h];rfl) r.h0 w;rw [l] at f g;replace f:Or (.call 60) [I 0,r0,r1] _=_:=f;replace g:Or (.call 60) [I 1,r0,r1] _=_:=g;have A:=Mb m.ok (ea:=(aE t d).isEmpty) (eb:=(aE t e).isEmpty) (a:=aE t d) (b:=aE t e) (by omega) (by omega) (by omega) v y (by omega);refine ah ?_;rw [kD];simp (maxSteps:=1000000) only [an,↓reduceIte,Int.reduceBEq,Int.reduceEq,z,and_self,dy,eJ o,l,f,g,A,aY,aX,NO,aV,aS,cU,cV,cH];rfl
theorem LC{c:Cx}{t:Tr}{M:Mk}{x:Nd}{i:Nat}{s:Int}(l:c.ns[i]? =some x)(e:x.op=23){b:Int}(f:x.ks= [b])(m:KW c i b s)(r: 0<=x.n/\x.n<=8)(h:aJ s=true)(g:dv c t M i)(y:M.N.length<=40000):
  Or (.call 32) [r0,I (i:Int)] [ad.box [Y'1,AV.t (T.ab 3 c.ed (aM c.ds)),AV.t (T.ab 5 c.en (ba c.ns)),AV.t (T.ab 1 c.eh (enc c.hs)),AV.t (T.str c.p),AV.t (T.ab 1 c.es (enc c.ss)),V'2,V'3],ad.box [V'4,V'5],ad.sl false 1 t.bits.isEmpty (bm t.bits),ad.sl false 1 t.to.isEmpty (enc t.to),ad.rows M.N.isEmpty 5 1 1 M.N.length (rows M.N),ad.mp false [Ck.s] (Ck.i .i64) (cg M.K)]=some [T.ab 1 (bx M (aE t b) x.n).1.isEmpty (enc (bx M (aE t b) x.n).1),T.ao,T.ab 3 c.ed (aM c.ds),T.ab 5 c.en (ba c.ns),T.ab 1 c.eh (enc c.hs),T.str c.p,T.ab 1 c.es (enc c.ss),T.ao,T.ao,RW ((bx M (aE t b) x.n).2).N,T.ao,T.ab 1 t.bits.isEmpty (bm t.bits),T.ab 1 t.to.isEmpty (enc t.to),EM ((bx M (aE t b) x.n).2).K]:=by
 have hl:=fX h;have q: 0<=(i:Int)/\(i:Int) < (c.ns.length:Int):=by have:=(NQ.1 l).1;omega
 obtain⟨o,v,w⟩:=m.word g h;have d:=iA (c:=c) (t:=t) (M:=M) (x:=x) (j:=0) (k:=b) (by rw [f];rfl) m.h0 o;rw [e] at d;replace d:Or (.call 60) [I 0,r0,r1] _=_:=d;have u:=ym g.ok (ea:=(aE t b).isEmpty) (a:=aE t b) (n:=x.n) r.1 (by omega) (by omega) (by omega);refine ah ?_;rw [kD];simp (maxSteps:=1000000) only [an,↓reduceIte,Int.reduceBEq,Int.reduceEq,q,and_self,dy,eJ l,e,d,u,aY,aX,NO,aV,aS,cU,cV,cH];rfl
theorem LD{c:Cx}{t:Tr}{M:Mk}{x:Nd}{i:Nat}{s s0:Int}(r:c.ns[i]? =some x)(n:x.op=7){d e f:Int}(g:x.ks= [d,e,f])(v:KW c i d s0)(q:aJ s0=false)(w:KW c i e s)(y:KW c i f s)(o:aJ s=true)(h:dv c t M i)(P:M.N.length<=40000):
  Or (.call 32) [r0,I (i:Int)] [ad.box [Y'1,AV.t (T.ab 3 c.ed (aM c.ds)),AV.t (T.ab 5 c.en (ba c.ns)),AV.t (T.ab 1 c.eh (enc c.hs)),AV.t (T.str c.p),AV.t (T.ab 1 c.es (enc c.ss)),V'2,V'3],ad.box [V'4,V'5],ad.sl false 1 t.bits.isEmpty (bm t.bits),ad.sl false 1 t.to.isEmpty (enc t.to),ad.rows M.N.isEmpty 5 1 1 M.N.length (rows M.N),ad.mp false [Ck.s] (Ck.i .i64) (cg M.K)]=some [T.ab 1 false (enc (a8 (dq (bJ t d)) M (aE t e) (aE t f)).1),T.ao,T.ab 3 c.ed (aM c.ds),T.ab 5 c.en (ba c.ns),T.ab 1 c.eh (enc c.hs),T.str c.p,T.ab 1 c.es (enc c.ss),T.ao,T.ao,RW ((a8 (dq (bJ t d)) M (aE t e) (aE t f)).2).N,T.ao,T.ab 1 t.bits.isEmpty (bm t.bits),T.ab 1 t.to.isEmpty (enc t.to),EM ((a8 (dq (bJ t d)) M (aE t e) (aE t f)).2).K]:=by
 have hl:=fX o;have E: 0<=(i:Int)/\(i:Int) < (c.ns.length:Int):=by have:=(NQ.1 r).1;omega
 obtain⟨_,u,H⟩:=v.plain h q;obtain⟨z,L,A⟩:=w.word h o;obtain⟨B,O,C⟩:=y.word h o;have l:=iA (c:=c) (t:=t) (M:=M) (x:=x) (j:=1) (k:=e) (by rw [g];rfl) w.h0 z;have m:=iA (c:=c) (t:=t) (M:=M) (x:=x) (j:=2) (k:=f) (by rw [g];rfl) y.h0 B;rw [n] at l m;replace l:Or (.call 60) [I 1,r0,r1] _=_:=l;replace m:Or (.call 60) [I 2,r0,r1] _=_:=m;have J:=L6 (c:=c) (t:=t) h.ok H (ea:=(aE t e).isEmpty) (eb:=(aE t f).isEmpty) (a:=aE t e) (b:=aE t f) (by omega) (by omega) (by omega) A C (by omega);have F:(0:Int)<=0/\(0:Int) < ((x.ks.length:Nat):Int):=by rw [g];simp
 have D:(enc x.ks)[0]? =some [ti d]:=by rw [g];rfl
 have G: 0<=d/\d < (t.to.length:Int):=by have:=(NQ.1 u).1;have:=v.h0;omega
 refine ah ?_;rw [kD];simp (maxSteps:=1000000) only [an,↓reduceIte,Int.reduceBEq,Int.reduceEq,E,F,G,and_self,dy,eJ r,n,aD,D,eK u,l,m,J,aY,aX,NO,aV,aS,cU,cV,cH];rfl
def jg(n:Int)(b:Nat):Bool:=i64.wrap (((BitVec.ofInt 64 (n.fdiv (2 ^ min ((b:Int)).toNat 64)) &&& BitVec.ofInt 64 1).toNat:Nat):Int)==1
def fc(M:Mk)(n:Int):Nat->Nat->List Int×Mk
 | _,0=>([],M)
 | b,k+1=>((cS M (jg n b)).1:: (fc (cS M (jg n b)).2 n (b+1) k).1,(fc (cS M (jg n b)).2 n (b+1) k).2)
theorem zu{n:Int}:∀{k b:Nat} {M:Mk},Ok M->Up M (fc M n b k).2 k/\(∀x∈(fc M n b k).1,In (fc M n b k).2 x)/\(fc M n b k).1.length=k
 | 0,b,M,h=>⟨Up.refl h,λx i=>(by cases i),rfl⟩
 | k+1,b,M,h=>by
  obtain⟨c,e⟩:=ir h (jg n b);obtain⟨d,f,g⟩:=zu (n:=n) (k:=k) (b:=b+1) c.ok;refine⟨(c.trans d).mono (by omega),λz a=> ?_,by simp [fc,g]⟩;rcases N2.1 a with rfl | a
  .exact d.In e
  .exact f z a
theorem JK{c:Cx}{t:Tr}{x:Nd}{w:Nat}(u:w<=100):∀(k b:Nat) (M:Mk) (acc:List Int),b+k=w->Ok M->M.N.length+k<=60000->acc.length=b->
  Or np [Y'6,Y'7,V'8,I (w:Int),I (b:Int)] [ad.box [Y'1,AV.t (T.ab 3 c.ed (aM c.ds)),AV.t (T.ab 5 c.en (ba c.ns)),AV.t (T.ab 1 c.eh (enc c.hs)),AV.t (T.str c.p),AV.t (T.ab 1 c.es (enc c.ss)),V'2,V'3],ad.box [V'9,V'5],ad.sl false 1 t.bits.isEmpty (bm t.bits),ad.sl false 1 t.to.isEmpty (enc t.to),ad.dead,ad.mp false [Ck.s] (Ck.i .i64) (cg M.K),ad.box [r0],ad.box [I x.op,ab x.ek x.ks,I x.n,I x.d,AV.t (T.str x.nm)],ad.sl false 1 false (enc acc),ad.rows M.N.isEmpty 5 1 1 M.N.length (rows M.N)]=
   some [T.ab 1 false (enc (acc++ (fc M x.n b k).1)),T.ao,T.ab 3 c.ed (aM c.ds),T.ab 5 c.en (ba c.ns),T.ab 1 c.eh (enc c.hs),T.str c.p,T.ab 1 c.es (enc c.ss),T.ao,T.ao,RW ((fc M x.n b k).2).N,T.ao,T.ab 1 t.bits.isEmpty (bm t.bits),T.ab 1 t.to.isEmpty (enc t.to),EM ((fc M x.n b k).2).K]:=by
 intro k;induction k with
 | zero=>
  intro b M acc m h l a;have e:¬(b:Int) < (w:Int):=by omega
  refine ah ?_;rw [Am];simp only [an,↓reduceIte,Int.reduceBEq,Int.reduceEq,e,aY,aX,NO,aV,aS,cU,cV,cH,fc,Oj];rfl
 | succ k o=>
  intro b M acc m h l a;have e:(b:Int) < (w:Int):=by omega
  have j:¬(b:Int) < 0:=by omega
  have q:=kT (show M.N.length<=100000 by omega) (jg x.n b);obtain⟨g,v⟩:=ir h (jg x.n b);have r:bt 8 (acc.length+1)=some ():=cE (by omega);have f:=o (b+1) _ (acc++ [(cS M (jg x.n b)).1]) (by omega) g.ok (by have:=g.up;omega) (by simp [a]);simp only [Og,Ol] at f;rw [fc];refine ah ?_;rw [Am];simp only [aG,aI,e,j,decide_true,cond_true,↓reduceIte];change U' (Or (.call 65) [r0,B (jg x.n b)] _) _=_;simp only [an,↓reduceIte,Int.reduceBEq,Int.reduceEq,q,aD,NW,r,next b (by omega),dX,aY,aX,NO,aV,aS,cU,cV,cH];exact f
theorem Lv{c:Cx}{t:Tr}{M:Mk}{x:Nd}{i:Nat}(f:c.ns[i]? =some x)(b:x.op=15)(y: 1<=x.d/\x.d<=8)(q:dv c t M i)(v:M.N.length<=40000):
  Or (.call 32) [r0,I (i:Int)] [ad.box [Y'1,AV.t (T.ab 3 c.ed (aM c.ds)),AV.t (T.ab 5 c.en (ba c.ns)),AV.t (T.ab 1 c.eh (enc c.hs)),AV.t (T.str c.p),AV.t (T.ab 1 c.es (enc c.ss)),V'2,V'3],ad.box [V'4,V'5],ad.sl false 1 t.bits.isEmpty (bm t.bits),ad.sl false 1 t.to.isEmpty (enc t.to),ad.rows M.N.isEmpty 5 1 1 M.N.length (rows M.N),ad.mp false [Ck.s] (Ck.i .i64) (cg M.K)]=some [T.ab 1 false (enc (fc M x.n 0 x.d.toNat).1),T.ao,T.ab 3 c.ed (aM c.ds),T.ab 5 c.en (ba c.ns),T.ab 1 c.eh (enc c.hs),T.str c.p,T.ab 1 c.es (enc c.ss),T.ao,T.ao,RW ((fc M x.n 0 x.d.toNat).2).N,T.ao,T.ab 1 t.bits.isEmpty (bm t.bits),T.ab 1 t.to.isEmpty (enc t.to),EM ((fc M x.n 0 x.d.toNat).2).K]:=by
 have l: 0<=(i:Int)/\(i:Int) < (c.ns.length:Int):=by have:=(NQ.1 f).1;omega
 obtain⟨k,o⟩:∃k:Nat,x.d.toNat=k+1:=⟨x.d.toNat - 1,by omega⟩;have e:x.d= ((k+1:Nat):Int):=by omega
 have a:Or np [Y'6,Y'7,AV.t (T.ae true),I x.d,I 0] [ad.box [Y'1,AV.t (T.ab 3 c.ed (aM c.ds)),AV.t (T.ab 5 c.en (ba c.ns)),AV.t (T.ab 1 c.eh (enc c.hs)),AV.t (T.str c.p),AV.t (T.ab 1 c.es (enc c.ss)),V'2,V'3],ad.box [V'4,V'5],ad.sl false 1 t.bits.isEmpty (bm t.bits),ad.sl false 1 t.to.isEmpty (enc t.to),ad.rows M.N.isEmpty 5 1 1 M.N.length (rows M.N),ad.mp false [Ck.s] (Ck.i .i64) (cg M.K),ad.box [r0],ad.box [I x.op,ab x.ek x.ks,I x.n,I x.d,AV.t (T.str x.nm)]]=
   some [T.ab 1 false (enc (fc M x.n 0 (k+1)).1),T.ao,T.ab 3 c.ed (aM c.ds),T.ab 5 c.en (ba c.ns),T.ab 1 c.eh (enc c.hs),T.str c.p,T.ab 1 c.es (enc c.ss),T.ao,T.ao,RW ((fc M x.n 0 (k+1)).2).N,T.ao,T.ab 1 t.bits.isEmpty (bm t.bits),T.ab 1 t.to.isEmpty (enc t.to),EM ((fc M x.n 0 (k+1)).2).K]:=by
  have j:(0:Int) < x.d:=by omega
  have m:¬(0:Int) < 0:=by omega
  have r:=kT (show M.N.length<=100000 by omega) (jg x.n 0);obtain⟨h,z⟩:=ir q.ok (jg x.n 0);have u:i64.wrap (0+1)= ((1:Nat):Int):=by decide
  have g:=JK (c:=c) (t:=t) (x:=x) (w:=k+1) (by omega) k 1 _ [(cS M (jg x.n 0)).1] (by omega) h.ok (by have:=h.up;omega) rfl;rw [<-e] at g;rw [fc];refine ah ?_;rw [Gw];simp only [aG,aI,j,m,decide_true,cond_true,↓reduceIte];change U' (Or (.call 65) [r0,B (jg x.n 0)] _) _=_;simp only [an,↓reduceIte,Int.reduceBEq,Int.reduceEq,r,u,aY,aX,NO,aV,aS,cU,cV,cH];exact g
 rw [o];refine ah ?_;rw [kD];simp (maxSteps:=1000000) only [an,↓reduceIte,Int.reduceBEq,Int.reduceEq,l,and_self,dy,eJ f,b];rw [b] at a;exact a
def fk(M:Mk):List Int->List Int×Mk
 | y::l=>((gy M y).1:: (fk (gy M y).2 l).1,(fk (gy M y).2 l).2)
 | []=>([],M)
theorem C1:∀{l:List Int} {M:Mk},Ok M->(∀y∈l,In M y)->
  Up M (fk M l).2 l.length/\(∀y∈(fk M l).1,In (fk M l).2 y)/\(fk M l).1.length=l.length
 | [],M,h,_=>⟨Up.refl h,λx g=>(by cases g),rfl⟩
 | y::l,M,h,hl=>by
  obtain⟨b,d⟩:=n7 h (hl y NN);obtain⟨c,e,f⟩:=C1 (l:=l) b.ok (b.all λz a=>hl z (NP _ a));refine⟨(b.trans c).mono (by rw [NV];omega),λz a=> ?_,by simp [fk,f]⟩;rcases N2.1 a with rfl | a
  .exact c.In d
  .exact e z a
theorem JM{c:Cx}{t:Tr}{e:Bool}{l:List Int}(hl:l.length<=100):∀(r:List Int) (j:Nat) (M:Mk) (acc:List Int),l.drop j=r->j<=l.length->Ok M->(∀y∈r,In M y)->M.N.length+r.length<=60000->acc.length=j->
  Or oH [Y'6,V'7,ab e l,I (l.length:Int),I (j:Int)] [ad.box [Y'1,AV.t (T.ab 3 c.ed (aM c.ds)),AV.t (T.ab 5 c.en (ba c.ns)),AV.t (T.ab 1 c.eh (enc c.hs)),AV.t (T.str c.p),AV.t (T.ab 1 c.es (enc c.ss)),V'2,V'3],ad.box [V'8,V'5],ad.sl false 1 t.bits.isEmpty (bm t.bits),ad.sl false 1 t.to.isEmpty (enc t.to),ad.dead,ad.mp false [Ck.s] (Ck.i .i64) (cg M.K),ad.box [r0],ad.sl false 1 false (enc acc),ad.rows M.N.isEmpty 5 1 1 M.N.length (rows M.N)]=
   some [T.ab 1 false (enc (acc++ (fk M r).1)),T.ao,T.ab 3 c.ed (aM c.ds),T.ab 5 c.en (ba c.ns),T.ab 1 c.eh (enc c.hs),T.str c.p,T.ab 1 c.es (enc c.ss),T.ao,T.ao,RW ((fk M r).2).N,T.ao,T.ab 1 t.bits.isEmpty (bm t.bits),T.ab 1 t.to.isEmpty (enc t.to),EM ((fk M r).2).K]:=by
 intro r;induction r with
 | nil=>
  intro j M acc g u h f m a;have d:¬(j:Int) < (l.length:Int):=by have:=bp g;omega
  refine ah ?_;rw [Ao];simp only [an,↓reduceIte,Int.reduceBEq,Int.reduceEq,d,aY,aX,NO,aV,aS,cU,cV,cH,fk,Oj];rfl
 | cons y r v=>
  intro j M acc g u h f m a;obtain⟨o,A,q⟩:=bq g;have d:(j:Int) < (l.length:Int):=by omega
  have h0: 0<=(j:Int):=by omega
  have n:=f y NN;rw [NV] at m;have w:=pT h (show M.N.length<=100000 by omega) n;obtain⟨k,B⟩:=n7 h n;have x:bt 8 (acc.length+1)=some ():=cE (by omega);have b:=v (j+1) _ (acc++ [(gy M y).1]) q (by omega) k.ok (k.all λz b=>f z (NP _ b)) (by have:=k.up;omega) (by simp [a]);simp only [Og,Ol] at b;rw [fk];refine ah ?_;rw [Ao];simp only [an,↓reduceIte,Int.reduceBEq,Int.reduceEq,d,h0,and_self,w,aD,bM o,NW,x,next j (by omega),dX,aY,aX,NO,aV,aS,cU,cV,cH];exact b
theorem Lw{c:Cx}{t:Tr}{M:Mk}{x:Nd}{i:Nat}{s:Int}(A:c.ns[i]? =some x)(h:x.op=16){a:Int}(u:x.ks= [a])(g:KW c i a s)(w:aJ s=true)(n:dv c t M i)(G:M.N.length<=40000):
  Or (.call 32) [r0,I (i:Int)] [ad.box [Y'1,AV.t (T.ab 3 c.ed (aM c.ds)),AV.t (T.ab 5 c.en (ba c.ns)),AV.t (T.ab 1 c.eh (enc c.hs)),AV.t (T.str c.p),AV.t (T.ab 1 c.es (enc c.ss)),V'2,V'3],ad.box [V'4,V'5],ad.sl false 1 t.bits.isEmpty (bm t.bits),ad.sl false 1 t.to.isEmpty (enc t.to),ad.rows M.N.isEmpty 5 1 1 M.N.length (rows M.N),ad.mp false [Ck.s] (Ck.i .i64) (cg M.K)]=some [T.ab 1 false (enc (fk M (aE t a)).1),T.ao,T.ab 3 c.ed (aM c.ds),T.ab 5 c.en (ba c.ns),T.ab 1 c.eh (enc c.hs),T.str c.p,T.ab 1 c.es (enc c.ss),T.ao,T.ao,RW ((fk M (aE t a)).2).N,T.ao,T.ab 1 t.bits.isEmpty (bm t.bits),T.ab 1 t.to.isEmpty (enc t.to),EM ((fk M (aE t a)).2).K]:=by
 have hl:=fX w;have F: 0<=(i:Int)/\(i:Int) < (c.ns.length:Int):=by have:=(NQ.1 A).1;omega
 obtain⟨C,m,b⟩:=g.word n w;have f:=iA (c:=c) (t:=t) (M:=M) (x:=x) (j:=0) (k:=a) (by rw [u];rfl) g.h0 C;rw [h] at f;replace f:Or (.call 60) [I 0,r0,r1] _=_:=f
 have d:Or oH [Y'6,AV.t (T.ae true),ab (aE t a).isEmpty (aE t a),I ((aE t a).length:Int),I 0] [ad.box [Y'1,AV.t (T.ab 3 c.ed (aM c.ds)),AV.t (T.ab 5 c.en (ba c.ns)),AV.t (T.ab 1 c.eh (enc c.hs)),AV.t (T.str c.p),AV.t (T.ab 1 c.es (enc c.ss)),V'2,V'3],ad.box [V'7,V'5],ad.sl false 1 t.bits.isEmpty (bm t.bits),ad.sl false 1 t.to.isEmpty (enc t.to),ad.dead,ad.mp false [Ck.s] (Ck.i .i64) (cg M.K),ad.box [r0],ad.rows M.N.isEmpty 5 1 1 M.N.length (rows M.N)]=
   some [T.ab 1 false (enc (fk M (aE t a)).1),T.ao,T.ab 3 c.ed (aM c.ds),T.ab 5 c.en (ba c.ns),T.ab 1 c.eh (enc c.hs),T.str c.p,T.ab 1 c.es (enc c.ss),T.ao,T.ao,RW ((fk M (aE t a)).2).N,T.ao,T.ab 1 t.bits.isEmpty (bm t.bits),T.ab 1 t.to.isEmpty (enc t.to),EM ((fk M (aE t a)).2).K]:=by
  revert m b;generalize aE t a=l;intro m b;cases l with
  | nil=>simp at m;omega
  | cons y r=>
   have B:=b y NN;have a:=pT n.ok (show M.N.length<=100000 by omega) B;obtain⟨q,H⟩:=n7 n.ok B;have E:(0:Int) < (((y::r).length:Nat):Int):=by simp
   have h0:(0:Int)<=0:=by omega
   have D:(enc (y::r))[(0:Int).toNat]? =some [ti y]:=rfl;have g:i64.wrap (0+1)= ((1:Nat):Int):=by decide
   have v:((y::r).length:Int)<=8:=by omega
   have o:=JM (c:=c) (t:=t) (e:=(y::r).isEmpty) (l:=y::r) (by omega) r 1 _ [(gy M y).1] rfl (by simp) q.ok (q.all λz o=>b z (NP _ o)) (by have:=q.up;rw [NV] at v;omega) rfl;rw [fk];refine ah ?_;rw [Gx];simp only [an,↓reduceIte,Int.reduceBEq,Int.reduceEq,E,h0,and_self,a,aD,D,g,aY,aX,NO,aV,aS,cU,cV,cH];exact o
 refine ah ?_;rw [kD];simp (maxSteps:=1000000) only [an,↓reduceIte,Int.reduceBEq,Int.reduceEq,F,and_self,dy,eJ A,h,f,aD,aY,aX,NO,aV,aS,cU,cV,cH];exact d
open Go Go.Aev Go.IntKind
def kq(M:Mk)(acc:Int):List Int->Int×Mk
 | []=>(acc,M)
 | y::l=>kq (cu M acc y).2 (cu M acc y).1 l
theorem yT:∀{l:List Int} {M:Mk} {acc:Int},Ok M->In M acc->(∀y∈l,In M y)->Up M (kq M acc l).2 l.length/\In (kq M acc l).2 (kq M acc l).1
 | [],M,acc,h,b,_=>⟨Up.refl h,b⟩
 | y::l,M,acc,h,b,hl=>by obtain⟨a,c⟩:=fT h b (hl y NN);obtain⟨d,e⟩:=yT (l:=l) a.ok c (a.all λz f=>hl z (NP _ f));exact⟨(a.trans d).mono (by rw [NV];omega),e⟩
def oo(M:Mk)(a b:List Int):Int×Mk:=
 kq (a8 dO (cS M true).2 a b).2 (cS M true).1 (a8 dO (cS M true).2 a b).1
theorem MS{M:Mk}(h:Ok M){a b:List Int}(j:a.length=b.length)(g:∀x∈a,In M x)(i:∀x∈b,In M x):Up M (oo M a b).2 (1+ (1 * a.length+a.length))/\In (oo M a b).2 (oo M a b).1:=by obtain⟨d,n⟩:=ir h true;obtain⟨e,l,e3⟩:=pc (f:=dO) (c:=1) (λM a b h g i=>nW h g i) d.ok (d.all g) (d.all i) j;obtain⟨k,m⟩:=yT e.ok (e.In n) l;rw [e3] at k;exact⟨d.trans (e.trans k),m⟩
theorem JN{c:Cx}{t:Tr}{e:Bool}{l:List Int}(hl:l.length<=100):∀(r:List Int) (j:Nat) (M:Mk) (acc:Int),l.drop j=r->Ok M->In M acc->(∀y∈r,In M y)->M.N.length+r.length<=60000->
  Or vq [r0,I acc,ab e l,I (l.length:Int),I (j:Int)] [ad.box [Y'1,AV.t (T.ab 3 c.ed (aM c.ds)),AV.t (T.ab 5 c.en (ba c.ns)),AV.t (T.ab 1 c.eh (enc c.hs)),AV.t (T.str c.p),AV.t (T.ab 1 c.es (enc c.ss)),V'2,V'3],ad.box [V'6,V'5],ad.sl false 1 t.bits.isEmpty (bm t.bits),ad.sl false 1 t.to.isEmpty (enc t.to),ad.dead,ad.mp false [Ck.s] (Ck.i .i64) (cg M.K),ad.rows M.N.isEmpty 5 1 1 M.N.length (rows M.N)]=some [ti (kq M acc r).1,T.ao,T.ab 3 c.ed (aM c.ds),T.ab 5 c.en (ba c.ns),T.ab 1 c.eh (enc c.hs),T.str c.p,T.ab 1 c.es (enc c.ss),T.ao,T.ao,RW ((kq M acc r).2).N,T.ao,T.ab 1 t.bits.isEmpty (bm t.bits),T.ab 1 t.to.isEmpty (enc t.to),EM ((kq M acc r).2).K]:=by
 intro r;induction r with
 | nil=>
  intro j M acc g h b d m;have a:¬(j:Int) < (l.length:Int):=by have:=bp g;omega
  refine ah ?_;rw [Au];simp only [an,↓reduceIte,Int.reduceBEq,Int.reduceEq,a,aY,aX,NO,aV,aS,cU,cV,cH,kq];rfl
 | cons y r u=>
  intro j M acc g h b d m;obtain⟨o,x,q⟩:=bq g;have a:(j:Int) < (l.length:Int):=by omega
  have h0: 0<=(j:Int):=by omega
  have n:=d y NN;rw [NV] at m;have v:=jV (show M.N.length<=100000 by omega) b n;obtain⟨k,w⟩:=fT h b n;have f:=u (j+1) _ _ q k.ok w (k.all λz f=>d z (NP _ f)) (by have:=k.up;omega);rw [kq];refine ah ?_;rw [Au];simp only [an,↓reduceIte,Int.reduceBEq,Int.reduceEq,a,h0,and_self,v,aD,bM o,next j (by omega),aY,aX,NO,aV,aS,cU,cV,cH];exact f
theorem LG{c:Cx}{t:Tr}{M:Mk}{x:Nd}{i:Nat}{s:Int}(m:c.ns[i]? =some x)(l:x.op=22){d e:Int}(f:x.ks= [d,e])(n:KW c i d s)(o:KW c i e s)(h:aJ s=true)(g:dv c t M i)(H:M.N.length<=40000):
  Or (.call 33) [r0,I (i:Int)] [ad.box [Y'1,AV.t (T.ab 3 c.ed (aM c.ds)),AV.t (T.ab 5 c.en (ba c.ns)),AV.t (T.ab 1 c.eh (enc c.hs)),AV.t (T.str c.p),AV.t (T.ab 1 c.es (enc c.ss)),V'2,V'3],ad.box [V'4,V'5],ad.sl false 1 t.bits.isEmpty (bm t.bits),ad.sl false 1 t.to.isEmpty (enc t.to),ad.rows M.N.isEmpty 5 1 1 M.N.length (rows M.N),ad.mp false [Ck.s] (Ck.i .i64) (cg M.K)]=some [ti (kL M (aE t d) (aE t e)).1,T.ao,T.ab 3 c.ed (aM c.ds),T.ab 5 c.en (ba c.ns),T.ab 1 c.eh (enc c.hs),T.str c.p,T.ab 1 c.es (enc c.ss),T.ao,T.ao,RW ((kL M (aE t d) (aE t e)).2).N,T.ao,T.ab 1 t.bits.isEmpty (bm t.bits),T.ab 1 t.to.isEmpty (enc t.to),EM ((kL M (aE t d) (aE t e)).2).K]:=by
 have hl:=fX h;have z: 0<=(i:Int)/\(i:Int) < (c.ns.length:Int):=by have:=(NQ.1 m).1;omega
 obtain⟨j,F,q⟩:=n.word g h;obtain⟨k,G,r⟩:=o.word g h;have E:=(D7 g.ok (ea:=(aE t d).isEmpty) (eb:=(aE t e).isEmpty) (a:=aE t d) (b:=aE t e) (by omega) (by omega) q r (by omega)).1;have A:(0:Int)<=0/\(0:Int) < ((x.ks.length:Nat):Int):=by rw [f];simp
 have B:(0:Int)<=1/\(1:Int) < ((x.ks.length:Nat):Int):=by rw [f];simp
 have w:(enc x.ks)[0]? =some [ti d]:=by rw [f];rfl
 have y:(enc x.ks)[1]? =some [ti e]:=by rw [f];rfl
 have C: 0<=d/\d < (t.bits.length:Int):=by have:=(NQ.1 j).1;have:=n.h0;omega
 have D: 0<=e/\e < (t.bits.length:Int):=by have:=(NQ.1 k).1;have:=o.h0;omega
 have u:(bm t.bits)[d.toNat]? =some [LO (aE t d)]:=by simp [bm,j]
 have v:(bm t.bits)[e.toNat]? =some [LO (aE t e)]:=by simp [bm,k]
 refine ah ?_;rw [tp];simp (maxSteps:=1000000) only [an,↓reduceIte,Int.reduceBEq,Int.reduceEq,z,A,B,and_self,dy,eJ m,l,aD,w,y,C,D,mw,u,v,E,aY,aX,NO,aV,aS,cU,cV,cH];rfl
theorem LH{c:Cx}{t:Tr}{M:Mk}{x:Nd}{i:Nat}{s:Int}(z:c.ns[i]? =some x)(y:x.op=8){d g:Int}(k:x.ks= [d,g])(C:KW c i d s)(D:KW c i g s)(o:aJ s=true)(n:dv c t M i)(Z:M.N.length<=40000):
  Or (.call 33) [r0,I (i:Int)] [ad.box [Y'1,AV.t (T.ab 3 c.ed (aM c.ds)),AV.t (T.ab 5 c.en (ba c.ns)),AV.t (T.ab 1 c.eh (enc c.hs)),AV.t (T.str c.p),AV.t (T.ab 1 c.es (enc c.ss)),V'2,V'3],ad.box [V'4,V'5],ad.sl false 1 t.bits.isEmpty (bm t.bits),ad.sl false 1 t.to.isEmpty (enc t.to),ad.rows M.N.isEmpty 5 1 1 M.N.length (rows M.N),ad.mp false [Ck.s] (Ck.i .i64) (cg M.K)]=some [ti (oo M (aE t d) (aE t g)).1,T.ao,T.ab 3 c.ed (aM c.ds),T.ab 5 c.en (ba c.ns),T.ab 1 c.eh (enc c.hs),T.str c.p,T.ab 1 c.es (enc c.ss),T.ao,T.ao,RW ((oo M (aE t d) (aE t g)).2).N,T.ao,T.ab 1 t.bits.isEmpty (bm t.bits),T.ab 1 t.to.isEmpty (enc t.to),EM ((oo M (aE t d) (aE t g)).2).K]:=by
 have hl:=fX o;have L: 0<=(i:Int)/\(i:Int) < (c.ns.length:Int):=by have:=(NQ.1 z).1;omega
 obtain⟨q,r,u⟩:=C.word n o;obtain⟨v,Y,w⟩:=D.word n o;obtain⟨j,X⟩:=ir n.ok true;have V:=kT (show M.N.length<=100000 by omega) true;have B:=Ma j.ok (ea:=(aE t d).isEmpty) (eb:=(aE t g).isEmpty) (a:=aE t d) (b:=aE t g) (by omega) (by omega) (j.all u) (j.all w) (by have:=j.up;omega);obtain⟨m,E,e3⟩:=pc (f:=dO) (c:=1) (λM a b h Q R=>nW h Q R) j.ok (j.all u) (j.all w) (show(aE t d).length= (aE t g).length by omega);have W:=JN (c:=c) (t:=t) (e:=(a8 dO (cS M true).2 (aE t d) (aE t g)).1.isEmpty) (l:=(a8 dO (cS M true).2 (aE t d) (aE t g)).1) (by omega) (a8 dO (cS M true).2 (aE t d) (aE t g)).1 0 _ _ rfl m.ok (m.In X) E (by have:=j.up;have:=m.up;omega);have O:(0:Int)<=0/\(0:Int) < ((x.ks.length:Nat):Int):=by rw [k];simp
 have P:(0:Int)<=1/\(1:Int) < ((x.ks.length:Nat):Int):=by rw [k];simp
 have H:(enc x.ks)[0]? =some [ti d]:=by rw [k];rfl
 have J:(enc x.ks)[1]? =some [ti g]:=by rw [k];rfl
 have S: 0<=d/\d < (t.bits.length:Int):=by have:=(NQ.1 q).1;have:=C.h0;omega
 have U: 0<=g/\g < (t.bits.length:Int):=by have:=(NQ.1 v).1;have:=D.h0;omega
 have F:(bm t.bits)[d.toNat]? =some [LO (aE t d)]:=by simp [bm,q]
 have G:(bm t.bits)[g.toNat]? =some [LO (aE t g)]:=by simp [bm,v]
 have A:(aE t d).isEmpty=false:=by
  cases h:aE t d with
  | nil=>rw [h] at r;simp at r;omega
  | cons=>rfl
 rw [A] at B;refine ah ?_;rw [tp];simp (maxSteps:=1000000) only [an,↓reduceIte,Int.reduceBEq,Int.reduceEq,L,O,P,and_self,dy,eJ z,y,aD,H,J,S,U,mw,F,G,V,B,A,NS,aY,aX,NO,aV,aS,cU,cV,cH];exact W
theorem JO{c:Cx}{t:Tr}{M:Mk}{x:Nd}(h:Ok M)(H:M.N.length<=50000)(F:x.ks.length<=100)(l:∀k∈x.ks,0<=k/\t.to[k.toNat]? =some (bJ t k)/\In M (bJ t k))(ho:dS x.op)(A:dS x.n)(w:dS x.d)(hm:x.nm.size<=1000):∀(e:List Int) (j:Nat) (acc:List Int),x.ks.drop j=e->j<=x.ks.length->acc.length=j->acc≠[]->acc++e.map (bJ t)=x.ks.map (bJ t)->
  Or nr [r0,Y'6,V'7,ab x.ek x.ks,I (x.ks.length:Int),I (j:Int)] [ad.box [Y'1,AV.t (T.ab 3 c.ed (aM c.ds)),AV.t (T.ab 5 c.en (ba c.ns)),AV.t (T.ab 1 c.eh (enc c.hs)),AV.t (T.str c.p),AV.t (T.ab 1 c.es (enc c.ss)),V'2,V'3],ad.box [V'4,V'5],ad.sl false 1 t.bits.isEmpty (bm t.bits),ad.sl false 1 t.to.isEmpty (enc t.to),ad.rows M.N.isEmpty 5 1 1 M.N.length (rows M.N),ad.mp false [Ck.s] (Ck.i .i64) (cg M.K),ad.box [I x.op,ab x.ek x.ks,I x.n,I x.d,AV.t (T.str x.nm)],ad.sl false 1 false (enc acc)]=some [ti (dC M x.op x.nm x.n x.d (x.ks.map (bJ t))).1,T.ao,T.ab 3 c.ed (aM c.ds),T.ab 5 c.en (ba c.ns),T.ab 1 c.eh (enc c.hs),T.str c.p,T.ab 1 c.es (enc c.ss),T.ao,T.ao,RW ((dC M x.op x.nm x.n x.d (x.ks.map (bJ t))).2).N,T.ao,T.ab 1 t.bits.isEmpty (bm t.bits),T.ab 1 t.to.isEmpty (enc t.to),EM ((dC M x.op x.nm x.n x.d (x.ks.map (bJ t))).2).K]:=by
 intro e;induction e with
 | nil=>
  intro j acc g z a m b;have o:¬(j:Int) < (x.ks.length:Int):=by have:=bp g;omega
  rw [OV,Oj] at b;have r:false=acc.isEmpty:=by cases acc with
   | nil=>exact absurd rfl m
   | cons=>rfl
  have f:=iX M (show M.N.length<=100000 by omega) x.op x.nm x.n x.d acc false r (λy u=>by
   rw [b] at u;obtain⟨k,hm,rfl⟩:=Ou.1 u;exact(l k hm).2.2.i64 (by omega)) (by omega) ho A w (by omega)
  rw [<-b];refine ah ?_;rw [At];simp only [an,↓reduceIte,Int.reduceBEq,Int.reduceEq,o,f,aY,aX,NO,aV,aS,cU,cV,cH];rfl
 | cons k e C=>
  intro j acc g z a m b;obtain⟨q,G,v⟩:=bq g;have o:(j:Int) < (x.ks.length:Int):=by omega
  have h0: 0<=(j:Int):=by omega
  obtain⟨J,f,_⟩:=l k (NU q);have D: 0<=k/\k < (t.to.length:Int):=by have:=(NQ.1 f).1;omega
  have E:bt 8 (acc.length+1)=some ():=cE (by omega);have B:=C (j+1) (acc++ [bJ t k]) v (by omega) (by simp [a]) (by simp) (by rw [<-b];simp);refine ah ?_;rw [At];simp only [an,↓reduceIte,Int.reduceBEq,Int.reduceEq,o,h0,and_self,aD,bM q,D,eK f,NW,E,next j (by omega),dX];exact B
theorem D1{c:Cx}{t:Tr}{M:Mk}{x:Nd}{i:Nat}(q:c.ns[i]? =some x)(g:x.op≠22)(O:x.op=8->∃a r,x.ks=a::r)(o:dv c t M i)(U:M.N.length<=40000)(B:x.ks.length<=100)(A:∀k∈x.ks,∃s',KW c i k s'/\aJ s'=false)(ho:dS x.op)(C:dS x.n)(z:dS x.d)(hm:x.nm.size<=1000):
  Or (.call 33) [r0,I (i:Int)] [ad.box [Y'1,AV.t (T.ab 3 c.ed (aM c.ds)),AV.t (T.ab 5 c.en (ba c.ns)),AV.t (T.ab 1 c.eh (enc c.hs)),AV.t (T.str c.p),AV.t (T.ab 1 c.es (enc c.ss)),V'2,V'3],ad.box [V'4,V'5],ad.sl false 1 t.bits.isEmpty (bm t.bits),ad.sl false 1 t.to.isEmpty (enc t.to),ad.rows M.N.isEmpty 5 1 1 M.N.length (rows M.N),ad.mp false [Ck.s] (Ck.i .i64) (cg M.K)]=some [ti (dC M x.op x.nm x.n x.d (x.ks.map (bJ t))).1,T.ao,T.ab 3 c.ed (aM c.ds),T.ab 5 c.en (ba c.ns),T.ab 1 c.eh (enc c.hs),T.str c.p,T.ab 1 c.es (enc c.ss),T.ao,T.ao,RW ((dC M x.op x.nm x.n x.d (x.ks.map (bJ t))).2).N,T.ao,T.ab 1 t.bits.isEmpty (bm t.bits),T.ab 1 t.to.isEmpty (enc t.to),EM ((dC M x.op x.nm x.n x.d (x.ks.map (bJ t))).2).K]:=by
 have w: 0<=(i:Int)/\(i:Int) < (c.ns.length:Int):=by have:=(NQ.1 q).1;omega
 have m:∀k∈x.ks,0<=k/\t.to[k.toNat]? =some (bJ t k)/\In M (bJ t k):=λk hm=>by obtain⟨s',h,L⟩:=A k hm;exact⟨h.h0,(h.plain o L).2⟩
 have b:Or nr [r0,Y'6,AV.t (T.ae true),ab x.ek x.ks,I (x.ks.length:Int),I 0] [ad.box [Y'1,AV.t (T.ab 3 c.ed (aM c.ds)),AV.t (T.ab 5 c.en (ba c.ns)),AV.t (T.ab 1 c.eh (enc c.hs)),AV.t (T.str c.p),AV.t (T.ab 1 c.es (enc c.ss)),V'2,V'3],ad.box [V'4,V'5],ad.sl false 1 t.bits.isEmpty (bm t.bits),ad.sl false 1 t.to.isEmpty (enc t.to),ad.rows M.N.isEmpty 5 1 1 M.N.length (rows M.N),ad.mp false [Ck.s] (Ck.i .i64) (cg M.K),ad.box [I x.op,ab x.ek x.ks,I x.n,I x.d,AV.t (T.str x.nm)]]=some [ti (dC M x.op x.nm x.n x.d (x.ks.map (bJ t))).1,T.ao,T.ab 3 c.ed (aM c.ds),T.ab 5 c.en (ba c.ns),T.ab 1 c.eh (enc c.hs),T.str c.p,T.ab 1 c.es (enc c.ss),T.ao,T.ao,RW ((dC M x.op x.nm x.n x.d (x.ks.map (bJ t))).2).N,T.ao,T.ab 1 t.bits.isEmpty (bm t.bits),T.ab 1 t.to.isEmpty (enc t.to),EM ((dC M x.op x.nm x.n x.d (x.ks.map (bJ t))).2).K]:=by
  cases e:x.ks with
  | nil=>have a:=iX M (show M.N.length<=100000 by omega) x.op x.nm x.n x.d [] true rfl (λy P=>by cases P) (by simp) ho C z (by omega);replace a:Or (.call 61) [r0,I x.op,AV.t (T.str x.nm),I x.n,I x.d,AV.t (T.ab 1 true [])] (df M)=_:=a;refine ah ?_;rw [Ar];simp only [an,↓reduceIte,Int.reduceBEq,Int.reduceEq,N7,On,Ox,decide_false,a,aY,aX,NO,aV,aS,cU,cV,cH];rfl
  | cons k u=>
   obtain⟨V,a,_⟩:=m k (by rw [e];exact NN);have Q: 0<=k/\k < (t.to.length:Int):=by have:=(NQ.1 a).1;omega
   have D:=JO (c:=c) (t:=t) (M:=M) (x:=x) o.ok (by omega) B m ho C z hm u 1 [bJ t k] (by rw [e];rfl) (by rw [e];simp) rfl (by simp) (by rw [e];rfl);have h:(0:Int) < (((k::u).length:Nat):Int):=by simp
   have h0:(0:Int)<=0:=by omega
   have H:(enc (k::u))[(0:Int).toNat]? =some [ti k]:=rfl;have j:i64.wrap (0+1)= ((1:Nat):Int):=by decide
   rw [e] at D;refine ah ?_;rw [Ar];simp only [an,↓reduceIte,Int.reduceBEq,Int.reduceEq,h,h0,and_self,aD,H,Q,eK a,j];exact D
 have l:(x.op==22)=false:=by simpa using g
 by_cases c8:x.op=8
 .obtain⟨a,r,f⟩:=O c8;have J:(0:Int)<=0/\(0:Int) < ((x.ks.length:Nat):Int):=by rw [f];simp
  have G:(enc x.ks)[0]? =some [ti a]:=by rw [f];rfl
  obtain⟨s',j,S⟩:=A a (by rw [f];exact NN);obtain⟨v,_⟩:=j.plain o S;have R: 0<=a/\a < (t.bits.length:Int):=by have:=(NQ.1 v).1;have:=j.h0;omega
  have F:(bm t.bits)[a.toNat]? =some [LO []]:=by simp [bm,v]
  refine ah ?_;rw [tp];simp (maxSteps:=1000000) only [an,↓reduceIte,Int.reduceBEq,Int.reduceEq,w,J,and_self,dy,eJ q,c8,l,g,aD,G,R,mw,F,cH,QG,NR];rw [c8] at b;exact b
 .have E:(x.op==8)=false:=by simpa using c8
  refine ah ?_;rw [tp];simp (maxSteps:=1000000) only [an,↓reduceIte,Int.reduceBEq,Int.reduceEq,w,and_self,dy,eJ q,l,E,g,c8,br,aD];exact b
structure sJ (c:Cx) (i:Nat) (x:Nd) (s:Int):Prop where
 op: 1<=x.op/\x.op<=25
 kl:x.ks.length<=8
 n: -1000000<=x.n/\x.n<=1000000
 d: -1000000<=x.d/\x.d<=1000000
 nm:x.nm.size<=12
 k:∀k∈x.ks,∃s',KW c i k s'
 c3:x.op=3->∃k r,x.ks=k::r
 c7:x.op=7->∃a b d,x.ks= [a,b,d]/\KW c i a 1/\KW c i b s/\KW c i d s
 c8:x.op=8->aJ s=false/\∃a b s',x.ks= [a,b]/\((aJ s'=true/\KW c i a s'/\KW c i b s')\/∀k∈x.ks,∃s',KW c i k s'/\aJ s'=false)
 lu:x.op=15->x.ks= []/\1<=x.d/\x.d<=8/\0<=x.n/\x.n < 2 ^ x.d.toNat/\s=10+x.d
 kx:x.op=16\/x.op=23->aJ s=true/\∃a,x.ks= [a]/\KW c i a s
 kz: 17<=x.op->x.op<=21->aJ s=true/\∃a b,x.ks= [a,b]/\KW c i a s/\KW c i b s
 jF:x.op=22->aJ s=false/\∃a b s',aJ s'=true/\x.ks= [a,b]/\KW c i a s'/\KW c i b s'
 bE:x.op=23->0<=x.n/\x.n<=8
 pl:x.op≠7->x.op≠8->(x.op < 15\/24<=x.op)->(x.op≠9->aJ s=false)/\∀k∈x.ks,∃s',KW c i k s'/\aJ s'=false
def fI(c:Cx)(t:Tr)(M:Mk)(x:Nd)(s:Int):List Int×Mk:=
 if x.op=9 then dm M (c.p++it (bA c.ds x.nm)++us) (x.ks.map (bJ t)) 0 (s - 10).toNat
 else if x.op=7 then a8 (dq (bJ t (x.ks.getD 0 0))) M (aE t (x.ks.getD 1 0)) (aE t (x.ks.getD 2 0))
 else if x.op=15 then fc M x.n 0 x.d.toNat
 else if x.op=16 then fk M (aE t (x.ks.getD 0 0))
 else if x.op=17 then a8 cu M (aE t (x.ks.getD 0 0)) (aE t (x.ks.getD 1 0))
 else if x.op=18 then a8 dZ M (aE t (x.ks.getD 0 0)) (aE t (x.ks.getD 1 0))
 else if x.op=19 then a8 bz M (aE t (x.ks.getD 0 0)) (aE t (x.ks.getD 1 0))
 else if x.op=20 then dD M (aE t (x.ks.getD 0 0)) (aE t (x.ks.getD 1 0))
 else if x.op=21 then jc M (aE t (x.ks.getD 0 0)) (aE t (x.ks.getD 1 0))
 else bx M (aE t (x.ks.getD 0 0)) x.n
def gz(t:Tr)(M:Mk)(x:Nd):Int×Mk:=
 if x.op=22 then kL M (aE t (x.ks.getD 0 0)) (aE t (x.ks.getD 1 0))
 else if x.op=8/\(aE t (x.ks.getD 0 0)).isEmpty=false then oo M (aE t (x.ks.getD 0 0)) (aE t (x.ks.getD 1 0))
 else dC M x.op x.nm x.n x.d (x.ks.map (bJ t))
theorem CU{l:List Int}(h: 1<=l.length):l.isEmpty=false:=by cases l with
 | nil=>simp at h
 | cons=>rfl
theorem ue{l:List Int}{n:Nat}(h:l.length=n)(a: 1<=n):T.ab 1 false (enc l)=T.ab 1 l.isEmpty (enc l):=by rw [CU (l:=l) (by omega)]
theorem tS:aJ 1=false:=rfl
theorem EV{c:Cx}{t:Tr}{M:Mk}{x:Nd}{i:Nat}{s:Int}(F:c.ns[i]? =some x)(hs:c.ss[i]? =some s)(m:aJ s=true)(ok:sJ c i x s)(l:dv c t M i)(hds:c.ds.length<=100)(hp:c.p.size<=100)(E:M.N.length<=40000):
  Or (.call 32) [r0,I (i:Int)] [ad.box [Y'1,AV.t (T.ab 3 c.ed (aM c.ds)),AV.t (T.ab 5 c.en (ba c.ns)),AV.t (T.ab 1 c.eh (enc c.hs)),AV.t (T.str c.p),AV.t (T.ab 1 c.es (enc c.ss)),V'2,V'3],ad.box [V'4,V'5],ad.sl false 1 t.bits.isEmpty (bm t.bits),ad.sl false 1 t.to.isEmpty (enc t.to),ad.rows M.N.isEmpty 5 1 1 M.N.length (rows M.N),ad.mp false [Ck.s] (Ck.i .i64) (cg M.K)]=some [T.ab 1 (fI c t M x s).1.isEmpty (enc (fI c t M x s).1),T.ao,T.ab 3 c.ed (aM c.ds),T.ab 5 c.en (ba c.ns),T.ab 1 c.eh (enc c.hs),T.str c.p,T.ab 1 c.es (enc c.ss),T.ao,T.ao,RW ((fI c t M x s).2).N,T.ao,T.ab 1 t.bits.isEmpty (bm t.bits),T.ab 1 t.to.isEmpty (enc t.to),EM ((fI c t M x s).2).K]/\
   Up M (fI c t M x s).2 1000/\(∀y∈(fI c t M x s).1,In (fI c t M x s).2 y)/\((fI c t M x s).1.length:Int)=s - 10:=by
 have hl:=fX m;have L:∀{a b:Int},x.ks= [a,b]->x.ks.getD 0 0=a/\x.ks.getD 1 0=b:=λe=>by rw [e];exact⟨rfl,rfl⟩
 unfold fI;by_cases c9:x.op=9
 .have hk:=(ok.pl (by omega) (by omega) (by omega)).2;have hkin:∀y∈x.ks.map (bJ t),In M y:=λy hy=>by
   obtain⟨k,hm,rfl⟩:=Ou.1 hy;obtain⟨s',h1,h4⟩:=hk k hm;exact(h1.plain l h4).2.2
  have q:=LF F hs c9 m l hds hp (by have:=ok.kl;omega) hk E;obtain⟨o,u,u3⟩:=CS (pre:=c.p++it (bA c.ds x.nm)++us) (kids:=x.ks.map (bJ t)) (k:=(s - 10).toNat) (b:=0) l.ok hkin (by have:=ok.kl;simp;omega);rw [ue u3 (by omega)] at q;rw [if_pos c9];exact⟨q,o.mono (by omega),u,by omega⟩
 rw [if_neg c9];by_cases c7:x.op=7
 .obtain⟨a,b,d,j,w0,r,v⟩:=ok.c7 c7;have q:=LD F c7 j w0 tS r v m l E;obtain⟨_,_,p2⟩:=w0.plain l tS;obtain⟨O,P,w⟩:=r.word l m;obtain⟨S,U,C⟩:=v.word l m;have up:Up M (a8 (dq (bJ t a)) M (aE t b) (aE t d)).2 (1 * (aE t b).length)/\(∀y∈(a8 (dq (bJ t a)) M (aE t b) (aE t d)).1,In (a8 (dq (bJ t a)) M (aE t b) (aE t d)).2 y)/\(a8 (dq (bJ t a)) M (aE t b) (aE t d)).1.length= (aE t b).length:=by
   have gen:∀(D B:List Int) (A:Mk),Ok A->In A (bJ t a)->(∀y∈D,In A y)->(∀y∈B,In A y)->D.length=B.length->
     Up A (a8 (dq (bJ t a)) A D B).2 (1 * D.length)/\(∀y∈(a8 (dq (bJ t a)) A D B).1,In (a8 (dq (bJ t a)) A D B).2 y)/\(a8 (dq (bJ t a)) A D B).1.length=D.length:=by
    intro D;induction D with
    | nil=>intro B A h0 _ _ _ _;rw [show a8 (dq (bJ t a)) A [] B= ([],A) by simp [a8]];exact⟨Up.refl h0,λy hy=>(by cases hy),rfl⟩
    | cons y D ih=>
     intro B A h0 hc h1 h2 e;cases B with
     | nil=>cases e
     | cons z B=>
      obtain⟨o,u⟩:=xO h0 hc (h1 y NN) (h2 z NN);obtain⟨h3,h4,h5⟩:=ih B _ o.ok (o.In hc) (o.all λz Q=>h1 z (NP _ Q)) (o.all λz Q=>h2 z (NP _ Q)) (by simpa using e);refine⟨(o.trans h3).mono (by rw [NV];omega),λz Q=> ?_,by simp [a8,h5]⟩;rcases N2.1 Q with rfl | Q
      .exact h3.In u
      .exact h4 z Q
   exact gen _ _ M l.ok p2 w C (by omega)
  obtain⟨o,u,u3⟩:=up;have g:x.ks.getD 0 0=a/\x.ks.getD 1 0=b/\x.ks.getD 2 0=d:=by rw [j];exact⟨rfl,rfl,rfl⟩
  rw [ue u3 (by omega)] at q;rw [if_pos c7,g.1,g.2.1,g.2.2];exact⟨q,o.mono (by omega),u,by omega⟩
 rw [if_neg c7];by_cases lu:x.op=15
 .obtain⟨j,aI,hd2,hn1,hn2,hs'⟩:=ok.lu lu;have q:=Lv F lu ⟨aI,hd2⟩ l E;obtain⟨o,u,u3⟩:=zu (n:=x.n) (k:=x.d.toNat) (b:=0) l.ok;rw [ue u3 (by omega)] at q;rw [if_pos lu];exact⟨q,o.mono (by omega),u,by omega⟩
 rw [if_neg lu];by_cases kx:x.op=16
 .obtain⟨_,a,j,r⟩:=ok.kx (.inl kx);have q:=Lw F kx j r m l E;obtain⟨O,P,w⟩:=r.word l m;obtain⟨o,u,u3⟩:=C1 l.ok w;rw [ue u3 (by omega)] at q;rw [if_pos kx,show x.ks.getD 0 0=a by rw [j];rfl];exact⟨q,o.mono (by omega),u,by omega⟩
 rw [if_neg kx];by_cases kz:x.op=17
 .obtain⟨_,a,b,j,r,v⟩:=ok.kz (by omega) (by omega);have q:=Lx F kz j r v m l E;obtain⟨O,P,w⟩:=r.word l m;obtain⟨S,U,C⟩:=v.word l m;obtain⟨o,u,u3⟩:=pc (f:=cu) (c:=1) (λM a b h Z hb=>fT h Z hb) l.ok w C (show(aE t a).length= (aE t b).length by omega);obtain⟨G,H⟩:=L j;rw [if_pos kz,G,H];refine⟨q,o.mono ?_,u,by omega⟩;have R:(aE t a).length<=8:=by omega
  have J:(aE t b).length<=8:=by omega
  omega
 rw [if_neg kz];by_cases V:x.op=18
 .obtain⟨_,a,b,j,r,v⟩:=ok.kz (by omega) (by omega);have q:=Ly F V j r v m l E;obtain⟨O,P,w⟩:=r.word l m;obtain⟨S,U,C⟩:=v.word l m;obtain⟨o,u,u3⟩:=pc (f:=dZ) (c:=1) (λM a b h Z hb=>oa h Z hb) l.ok w C (show(aE t a).length= (aE t b).length by omega);obtain⟨G,H⟩:=L j;rw [if_pos V,G,H];refine⟨q,o.mono ?_,u,by omega⟩;have R:(aE t a).length<=8:=by omega
  have J:(aE t b).length<=8:=by omega
  omega
 rw [if_neg V];by_cases W:x.op=19
 .obtain⟨_,a,b,j,r,v⟩:=ok.kz (by omega) (by omega);have q:=Lz F W j r v m l E;obtain⟨O,P,w⟩:=r.word l m;obtain⟨S,U,C⟩:=v.word l m;obtain⟨o,u,u3⟩:=pc (f:=bz) (c:=2) (λM a b h Z hb=>nc h Z hb) l.ok w C (show(aE t a).length= (aE t b).length by omega);obtain⟨G,H⟩:=L j;rw [if_pos W,G,H];refine⟨q,o.mono ?_,u,by omega⟩;have R:(aE t a).length<=8:=by omega
  have J:(aE t b).length<=8:=by omega
  omega
 rw [if_neg W];by_cases X:x.op=20
 .obtain⟨_,a,b,j,r,v⟩:=ok.kz (by omega) (by omega);have q:=LA F X j r v m l E;obtain⟨O,P,w⟩:=r.word l m;obtain⟨S,U,C⟩:=v.word l m;obtain⟨o,u,u3⟩:=Ex l.ok w C (show(aE t a).length= (aE t b).length by omega);obtain⟨G,H⟩:=L j;rw [if_pos X,G,H];refine⟨q,o.mono ?_,u,by omega⟩;have R:(aE t a).length<=8:=by omega
  have J:(aE t b).length<=8:=by omega
  omega
 rw [if_neg X];by_cases Y:x.op=21
 .obtain⟨_,a,b,j,r,v⟩:=ok.kz (by omega) (by omega);have q:=LB F Y j r v m l E;obtain⟨O,P,w⟩:=r.word l m;obtain⟨S,U,C⟩:=v.word l m;obtain⟨o,u,u3⟩:=Nk l.ok w C;obtain⟨G,H⟩:=L j;rw [if_pos Y,G,H];refine⟨q,o.mono ?_,u,by omega⟩;have R:(aE t a).length<=8:=by omega
  have J:(aE t b).length<=8:=by omega
  have:=QK (show 9 * (aE t a).length+1<=73 by omega) J;omega
 rw [if_neg Y];have bE:x.op=23:=by
  rcases Classical.em (x.op=23) with h | h
  .exact h
  .exfalso;have hop:=ok.op;by_cases jF:x.op=22
   .rw [(ok.jF jF).1] at m;cases m
   by_cases c8:x.op=8
   .rw [(ok.c8 c8).1] at m;cases m
   .have:=(ok.pl c7 c8 (by omega)).1 c9;rw [this] at m;cases m
 obtain⟨_,a,j,r⟩:=ok.kx (.inr bE);have hn:=ok.bE bE;have q:=LC F bE j r hn m l E;obtain⟨O,P,w⟩:=r.word l m;obtain⟨o,u,u3⟩:=rp (n:=x.n) hn.1 l.ok w;rw [show x.ks.getD 0 0=a by rw [j];rfl];exact⟨q,o.mono (by omega),u,by omega⟩
theorem Dg{c:Cx}{t:Tr}{M:Mk}{x:Nd}{i:Nat}{s:Int}(D:c.ns[i]? =some x)(u:aJ s=false)(ok:sJ c i x s)(g:dv c t M i)(C:M.N.length<=40000):
  Or (.call 33) [r0,I (i:Int)] [ad.box [Y'1,AV.t (T.ab 3 c.ed (aM c.ds)),AV.t (T.ab 5 c.en (ba c.ns)),AV.t (T.ab 1 c.eh (enc c.hs)),AV.t (T.str c.p),AV.t (T.ab 1 c.es (enc c.ss)),V'2,V'3],ad.box [V'4,V'5],ad.sl false 1 t.bits.isEmpty (bm t.bits),ad.sl false 1 t.to.isEmpty (enc t.to),ad.rows M.N.isEmpty 5 1 1 M.N.length (rows M.N),ad.mp false [Ck.s] (Ck.i .i64) (cg M.K)]=some [ti (gz t M x).1,T.ao,T.ab 3 c.ed (aM c.ds),T.ab 5 c.en (ba c.ns),T.ab 1 c.eh (enc c.hs),T.str c.p,T.ab 1 c.es (enc c.ss),T.ao,T.ao,RW ((gz t M x).2).N,T.ao,T.ab 1 t.bits.isEmpty (bm t.bits),T.ab 1 t.to.isEmpty (enc t.to),EM ((gz t M x).2).K]/\Up M (gz t M x).2 1000/\In (gz t M x).2 (gz t M x).1:=by
 have Y:=ok.op;have hn:=ok.n;have hd:=ok.d;have A:∀{a b:Int},x.ks= [a,b]->x.ks.getD 0 0=a/\x.ks.getD 1 0=b:=λe=>by rw [e];exact⟨rfl,rfl⟩
 have E:(∀k∈x.ks,∃s',KW c i k s'/\aJ s'=false)->∀y∈x.ks.map (bJ t),In M y:=λo y W=>by obtain⟨k,hm,rfl⟩:=Ou.1 W;obtain⟨s',H,V⟩:=o k hm;exact(H.plain g V).2.2
 unfold gz;by_cases jF:x.op=22
 .obtain⟨_,a,b,s',j,f,l,m⟩:=ok.jF jF;have hl:=fX j;have q:=LG D jF f l m j g C;obtain⟨L,O,F⟩:=l.word g j;obtain⟨P,Q,G⟩:=m.word g j;obtain⟨_,v,w⟩:=D7 g.ok (ea:=true) (eb:=true) (a:=aE t a) (b:=aE t b) (by omega) (by omega) F G (by omega);obtain⟨z,B⟩:=A f;rw [if_pos jF,z,B];exact⟨q,v.mono (by omega),w⟩
 rw [if_neg jF];by_cases c8:x.op=8
 .obtain⟨_,a,b,s',f,⟨j,l,m⟩ | o⟩:=ok.c8 c8
  .have hl:=fX j;have q:=LH D c8 f l m j g C;obtain⟨L,O,F⟩:=l.word g j;obtain⟨P,Q,G⟩:=m.word g j;obtain⟨v,w⟩:=MS g.ok (show(aE t a).length= (aE t b).length by omega) F G;obtain⟨z,B⟩:=A f;rw [z,B,if_pos ⟨c8,CU (by omega)⟩];exact⟨q,v.mono (by omega),w⟩
  .have q:=D1 D jF (λ_=>⟨a,[b],f⟩) g C (by have:=ok.kl;omega) o ⟨by omega,by omega⟩ ⟨by omega,by omega⟩ ⟨by omega,by omega⟩ (by have:=ok.nm;omega);obtain⟨v,w⟩:=iT g.ok x.op x.nm x.n x.d (x.ks.map (bJ t)) (E o) (λe=>by omega) (by have:=ok.kl;simp;omega);obtain⟨z,B⟩:=A f;obtain⟨s2,l,m⟩:=o a (by rw [f];exact NN);obtain⟨R,_⟩:=l.plain g m;have S:aE t a= []:=by unfold aE;rw [N8,R];rfl
   rw [if_neg (by rw [z,S];simp)];exact⟨q,v.mono (by omega),w⟩
 .have o:∀k∈x.ks,∃s',KW c i k s'/\aJ s'=false:=by
   by_cases c7:x.op=7
   .obtain⟨a,b,d,f,X,l,m⟩:=ok.c7 c7;intro k hm;rw [f] at hm;simp only [N2,Pt,or_false] at hm;rcases hm with rfl | rfl | rfl
    .exact⟨_,X,tS⟩
    .exact⟨_,l,u⟩
    .exact⟨_,m,u⟩
   .refine(ok.pl c7 c8 ?_).2;rcases Classical.em (x.op < 15\/24<=x.op) with h | h
    .exact h
    .exfalso;by_cases lu:x.op=15
     .obtain⟨_,H,Z,_,_,U⟩:=ok.lu lu;subst U;unfold aJ at u;simp at u;omega
     by_cases kx:x.op=16\/x.op=23
     .rw [(ok.kx kx).1] at u;cases u
     .rw [(ok.kz (by omega) (by omega)).1] at u;cases u
  have q:=D1 D jF (λe=>absurd e c8) g C (by have:=ok.kl;omega) o ⟨by omega,by omega⟩ ⟨by omega,by omega⟩ ⟨by omega,by omega⟩ (by have:=ok.nm;omega);obtain⟨v,w⟩:=iT g.ok x.op x.nm x.n x.d (x.ks.map (bJ t)) (E o) (λe=>by
   obtain⟨k,r,J⟩:=ok.c3 e;exact⟨bJ t k,r.map (bJ t),by rw [J];rfl⟩) (by have:=ok.kl;simp;omega)
  rw [if_neg (λe=>c8 e.1)];exact⟨q,v.mono (by omega),w⟩
end Go.Aev.Gen
