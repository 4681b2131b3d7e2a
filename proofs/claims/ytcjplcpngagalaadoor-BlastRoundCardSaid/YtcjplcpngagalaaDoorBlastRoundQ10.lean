import Derived.Test.YtcjplcpngagalaaDoorBlastRoundQ9
set_option linter.all false
namespace Go.Aev.Gen
open Go Go.Aev Go.IntKind
def aE(s:Int):Bool:=decide (10 < s) && decide (s<=18)
theorem fZ(n:Int):Or (.call 14) [I n] []=some [tb (aE n)]:=by
 refine ah ?_;rw [IA];unfold aE;by_cases h: 10 < n
 .have:n > 10:=h;simp only [aj,h,decide_true]
 .have:¬n > 10:=h;simp only [aj,h,decide_false]
def aD(t:Tr)(k:Int):List Int:=t.bits.getD k.toNat []
def bu(t:Tr)(k:Int):Int:=t.to.getD k.toNat 0
structure cJ (c:Cx) (t:Tr) (M:Mk) (i:Nat):Prop where
 ok:Ok M
 bl:t.bits.length=i
 tl:t.to.length=i
 w:∀(k:Nat) (s:Int),k < i->c.ss[k]? =some s->aE s=true->∃b,t.bits[k]? =some b/\(b.length:Int)=s - 10/\∀x∈b,In M x
 p:∀(k:Nat) (s:Int),k < i->c.ss[k]? =some s->aE s=false->t.bits[k]? =some []/\∃v,t.to[k]? =some v/\In M v
theorem cJ.up{c:Cx}{t:Tr}{M j:Mk}{i n:Nat}(h:cJ c t M i)(u:Up M j n):cJ c t j i:=
 ⟨u.ok,h.bl,h.tl,λk s f hs g=>by obtain⟨b,a,d,e⟩:=h.w k s f hs g;exact⟨b,a,d,u.all e⟩,
  λk s f hs g=>by obtain⟨a,v,d,e⟩:=h.p k s f hs g;exact⟨a,v,d,u.In e⟩⟩
structure KW (c:Cx) (i:Nat) (k:Int) (s:Int):Prop where
 h0: 0<=k
 lt:k < (i:Int)
 so:c.ss[k.toNat]? =some s
theorem KW.word{c:Cx}{t:Tr}{M:Mk}{i:Nat}{k s:Int}(h:KW c i k s)(g:cJ c t M i)(j:aE s=true):
  t.bits[k.toNat]? =some (aD t k)/\((aD t k).length:Int)=s - 10/\∀x∈aD t k,In M x:=by
 obtain⟨b,a,d,f⟩:=g.w k.toNat s (by have:=h.h0;have:=h.lt;omega) h.so j;have e:aD t k=b:=by unfold aD;rw [QI,a];rfl
 rw [e];exact⟨a,d,f⟩
theorem KW.plain{c:Cx}{t:Tr}{M:Mk}{i:Nat}{k s:Int}(h:KW c i k s)(f:cJ c t M i)(g:aE s=false):
  t.bits[k.toNat]? =some []/\t.to[k.toNat]? =some (bu t k)/\In M (bu t k):=by
 obtain⟨b,v,a,d⟩:=f.p k.toNat s (by have:=h.h0;have:=h.lt;omega) h.so g;have e:bu t k=v:=by unfold bu;rw [QI,a];rfl
 rw [e];exact⟨b,a,d⟩
theorem gw{s:Int}(h:aE s=true): 1<=s - 10/\s - 10<=8:=by unfold aE at h;simp only [QF,decide_eq_true_eq] at h;omega
def dc(M:Mk)(pre:ByteArray)(kids:List Int):Nat->Nat->List Int×Mk
 | _,0=>([],M)
 | b,k+1=>((dq M 9 (pre++it (b:Int)) 0 0 kids).1:: (dc (dq M 9 (pre++it (b:Int)) 0 0 kids).2 pre kids (b+1) k).1,(dc (dq M 9 (pre++it (b:Int)) 0 0 kids).2 pre kids (b+1) k).2)
theorem EJ{pre:ByteArray}{kids:List Int}:∀{k b:Nat} {M:Mk},Ok M->(∀x∈kids,In M x)->kids.length<=1000->
  Up M (dc M pre kids b k).2 k/\(∀x∈(dc M pre kids b k).1,In (dc M pre kids b k).2 x)/\(dc M pre kids b k).1.length=k
 | 0,b,M,h,_,_=>⟨Up.refl h,λx j=>(by cases j),rfl⟩
 | k+1,b,M,h,e,hl=>by
  obtain⟨a,f⟩:=jB h 9 (pre++it (b:Int)) 0 0 kids e (by simp) hl;obtain⟨d,g,i⟩:=EJ (k:=k) (b:=b+1) a.ok (a.all e) hl;refine⟨(a.trans d).mono (by omega),λz c=> ?_,by simp [dc,i]⟩;rcases QN.1 c with rfl | c
  .exact d.In f
  .exact g z c
theorem LZ{c:Cx}{t:Tr}{x:Nd}{w:Nat}{kids:List Int}{e:Bool}(C:e=kids.isEmpty)(o:c.ds.length<=100)(J:c.p.size<=100)(L:w<=100)(H:kids.length<=100):∀(k b:Nat) (M:Mk) (a:List Int),b+k=w->Ok M->(∀y∈kids,In M y)->M.N.length+k<=60000->a.length=b->
  Or ij [Y'6,Y'7,V'8,ab e kids,I (w:Int),I (b:Int)] [ad.box [Y'1,AV.t (T.ab 3 c.ed (aI c.ds)),AV.t (T.ab 5 c.en (aW c.ns)),AV.t (T.ab 1 c.eh (enc c.hs)),AV.t (T.str c.p),AV.t (T.ab 1 c.es (enc c.ss)),V'2,V'3],ad.box [V'9,V'5],ad.sl false 1 t.bits.isEmpty (bg t.bits),ad.sl false 1 t.to.isEmpty (enc t.to),ad.dead,ad.mp false [Ck.s] (Ck.i .i64) (bZ M.K),ad.box [r0],ad.box [I x.op,ab x.ek x.ks,I x.n,I x.d,AV.t (T.str x.nm)],ad.sl false 1 false (enc a),ad.rows M.N.isEmpty 5 1 1 M.N.length (rows M.N)]=
   some [T.ab 1 false (enc (a++ (dc M (c.p++it (bf c.ds x.nm)++us) kids b k).1)),T.ao,T.ab 3 c.ed (aI c.ds),T.ab 5 c.en (aW c.ns),T.ab 1 c.eh (enc c.hs),T.str c.p,T.ab 1 c.es (enc c.ss),T.ao,T.ao,RW ((dc M (c.p++it (bf c.ds x.nm)++us) kids b k).2).N,T.ao,T.ab 1 t.bits.isEmpty (bg t.bits),T.ab 1 t.to.isEmpty (enc t.to),EM ((dc M (c.p++it (bf c.ds x.nm)++us) kids b k).2).K]:=by
 have u:=te (ed:=c.ed) (en:=c.en) (eh:=c.eh) (ns:=c.ns) (hs:=c.hs) (nm:=x.nm) o;have q:eF (bf c.ds x.nm):=by have:=r8 x.nm 0 c.ds;unfold bf;constructor <;> omega
 have P:=iy q;intro k;induction k with
 | zero=>
  intro b M a B h g A f;have l:¬(b:Int) < (w:Int):=by omega
  refine ah ?_;rw [BP];simp only [aj,↓reduceIte,l,aT,dc,QX];rfl
 | succ k E=>
  intro b M a B h g A f;have l:(b:Int) < (w:Int):=by omega
  have j:eF (b:Int):=⟨by omega,by omega⟩;have Q:=iy j;have v:c.p.size+ (it (bf c.ds x.nm)).size<=4294967296:=by omega
  have z:(c.p++it (bf c.ds x.nm)).size+1<=4294967296:=by rw [QZ];omega
  have c3:(c.p++it (bf c.ds x.nm)++us).size+ (it (b:Int)).size<=4294967296:=by simp only [QZ,gf];omega
  have F:=jF M (show M.N.length<=100000 by omega) 9 (c.p++it (bf c.ds x.nm)++us++it (b:Int)) 0 0 kids e C (λy D=>(g y D).i64 (by omega)) (by omega) (by omega) (by omega) (by omega) (by simp only [QZ,gf];omega);obtain⟨m,O⟩:=jB h 9 (c.p++it (bf c.ds x.nm)++us++it (b:Int)) 0 0 kids g (by simp) (by omega);have G:bp 8 (a.length+1)=some ():=cC (by omega);have r:=E (b+1) _ (a++ [(dq M 9 (c.p++it (bf c.ds x.nm)++us++it (b:Int)) 0 0 kids).1]) (by omega) m.ok (m.all g) (by have:=m.up;omega) (by simp [f]);simp only [Q6,Rf] at r;rw [dc];refine ah ?_;rw [BP];simp only [aj,↓reduceIte,l,u,iF q,iF j,v,z,c3,F,aC,QM,G,next b (by omega),eK,aV,aU,QD,aT,aQ];exact r
theorem L4{c:Cx}{t:Tr}{x:Nd}{w:Nat}(m:c.ds.length<=100)(E:c.p.size<=100)(F:w<=100):∀(k b:Nat) (M:Mk) (a:List Int),b+k=w->Ok M->M.N.length+k<=60000->a.length=b->
  Or ij [Y'6,Y'7,V'8,AV.t (T.ae true),I (w:Int),I (b:Int)] [ad.box [Y'1,AV.t (T.ab 3 c.ed (aI c.ds)),AV.t (T.ab 5 c.en (aW c.ns)),AV.t (T.ab 1 c.eh (enc c.hs)),AV.t (T.str c.p),AV.t (T.ab 1 c.es (enc c.ss)),V'2,V'3],ad.box [V'9,V'5],ad.sl false 1 t.bits.isEmpty (bg t.bits),ad.sl false 1 t.to.isEmpty (enc t.to),ad.dead,ad.mp false [Ck.s] (Ck.i .i64) (bZ M.K),ad.box [r0],ad.box [I x.op,ab x.ek x.ks,I x.n,I x.d,AV.t (T.str x.nm)],ad.sl false 1 false (enc a),ad.rows M.N.isEmpty 5 1 1 M.N.length (rows M.N)]=
   some [T.ab 1 false (enc (a++ (dc M (c.p++it (bf c.ds x.nm)++us) [] b k).1)),T.ao,T.ab 3 c.ed (aI c.ds),T.ab 5 c.en (aW c.ns),T.ab 1 c.eh (enc c.hs),T.str c.p,T.ab 1 c.es (enc c.ss),T.ao,T.ao,RW ((dc M (c.p++it (bf c.ds x.nm)++us) [] b k).2).N,T.ao,T.ab 1 t.bits.isEmpty (bg t.bits),T.ab 1 t.to.isEmpty (enc t.to),EM ((dc M (c.p++it (bf c.ds x.nm)++us) [] b k).2).K]:=by
 have r:=te (ed:=c.ed) (en:=c.en) (eh:=c.eh) (ns:=c.ns) (hs:=c.hs) (nm:=x.nm) m;have o:eF (bf c.ds x.nm):=by have:=r8 x.nm 0 c.ds;unfold bf;constructor <;> omega
 have H:=iy o;intro k;induction k with
 | zero=>
  intro b M a B h A e;have g:¬(b:Int) < (w:Int):=by omega
  refine ah ?_;rw [BO];simp only [aj,↓reduceIte,g,aT,dc,QX];rfl
 | succ k C=>
  intro b M a B h A e;have g:(b:Int) < (w:Int):=by omega
  have f:eF (b:Int):=⟨by omega,by omega⟩;have J:=iy f;have v:c.p.size+ (it (bf c.ds x.nm)).size<=4294967296:=by omega
  have z:(c.p++it (bf c.ds x.nm)).size+1<=4294967296:=by rw [QZ];omega
  have c3:(c.p++it (bf c.ds x.nm)++us).size+ (it (b:Int)).size<=4294967296:=by simp only [QZ,gf];omega
  have l:=jF M (show M.N.length<=100000 by omega) 9 (c.p++it (bf c.ds x.nm)++us++it (b:Int)) 0 0 [] true rfl (λy j=>by cases j) (by simp) (by omega) (by omega) (by omega) (by simp only [QZ,gf];omega);replace l:Or (.call 46) [r0,I 9,AV.t (T.str (c.p++it (bf c.ds x.nm)++us++it (b:Int))),I 0,I 0,AV.t (T.ab 1 true [])] (dt M)=_:=l;obtain⟨u,G⟩:=jB h 9 (c.p++it (bf c.ds x.nm)++us++it (b:Int)) 0 0 [] (λy j=>by cases j) (by simp);have D:bp 8 (a.length+1)=some ():=cC (by omega);have q:=C (b+1) _ (a++ [(dq M 9 (c.p++it (bf c.ds x.nm)++us++it (b:Int)) 0 0 []).1]) (by omega) u.ok (by have:=u.up;omega) (by simp [e]);simp only [Q6,Rf] at q;rw [dc];refine ah ?_;rw [BO];simp only [aj,↓reduceIte,g,r,iF o,iF f,v,z,c3,l,aC,QM,D,next b (by omega),eK,aV,aU,QD,aT,aQ];exact q
theorem L5{c:Cx}{t:Tr}{M:Mk}{x:Nd}{w:Nat}{kids:List Int}(o:kids≠[])(b:c.ds.length<=100)(z:c.p.size<=100)(F: 1<=w)(A:w<=100)(m:kids.length<=100)(h:Ok M)(g:∀y∈kids,In M y)(G:M.N.length<=50000):
  Or ij [Y'6,Y'7,AV.t (T.ae true),V'8,I (w:Int),I 0] [ad.box [Y'1,AV.t (T.ab 3 c.ed (aI c.ds)),AV.t (T.ab 5 c.en (aW c.ns)),AV.t (T.ab 1 c.eh (enc c.hs)),AV.t (T.str c.p),AV.t (T.ab 1 c.es (enc c.ss)),V'2,V'3],ad.box [V'4,V'5],ad.sl false 1 t.bits.isEmpty (bg t.bits),ad.sl false 1 t.to.isEmpty (enc t.to),ad.rows M.N.isEmpty 5 1 1 M.N.length (rows M.N),ad.mp false [Ck.s] (Ck.i .i64) (bZ M.K),ad.box [r0],ad.box [I x.op,ab x.ek x.ks,I x.n,I x.d,AV.t (T.str x.nm)],ad.sl false 1 false (enc kids)]=
   some [T.ab 1 false (enc (dc M (c.p++it (bf c.ds x.nm)++us) kids 0 w).1),T.ao,T.ab 3 c.ed (aI c.ds),T.ab 5 c.en (aW c.ns),T.ab 1 c.eh (enc c.hs),T.str c.p,T.ab 1 c.es (enc c.ss),T.ao,T.ao,RW ((dc M (c.p++it (bf c.ds x.nm)++us) kids 0 w).2).N,T.ao,T.ab 1 t.bits.isEmpty (bg t.bits),T.ab 1 t.to.isEmpty (enc t.to),EM ((dc M (c.p++it (bf c.ds x.nm)++us) kids 0 w).2).K]:=by
 have q:=te (ed:=c.ed) (en:=c.en) (eh:=c.eh) (ns:=c.ns) (hs:=c.hs) (nm:=x.nm) b;have l:eF (bf c.ds x.nm):=by have:=r8 x.nm 0 c.ds;unfold bf;constructor <;> omega
 have J:=iy l;obtain⟨k,rfl⟩:∃k,w=k+1:=⟨w - 1,by omega⟩;have v:(0:Int) < ((k+1:Nat):Int):=by omega
 have a:eF (0:Int):=⟨by omega,by omega⟩;have L:=iy a;have r:c.p.size+ (it (bf c.ds x.nm)).size<=4294967296:=by omega
 have u:(c.p++it (bf c.ds x.nm)).size+1<=4294967296:=by rw [QZ];omega
 have c3:(c.p++it (bf c.ds x.nm)++us).size+ (it (0:Int)).size<=4294967296:=by simp only [QZ,gf];omega
 have f:false=kids.isEmpty:=by cases kids with
  | nil=>exact absurd rfl o
  | cons=>rfl
 have D:=jF M (show M.N.length<=100000 by omega) 9 (c.p++it (bf c.ds x.nm)++us++it (0:Int)) 0 0 kids false f (λy B=>(g y B).i64 (by omega)) (by omega) (by omega) (by omega) (by omega) (by simp only [QZ,gf];omega);obtain⟨j,H⟩:=jB h 9 (c.p++it (bf c.ds x.nm)++us++it (0:Int)) 0 0 kids g (by simp) (by omega);have E:i64.wrap (0+1)= ((1:Nat):Int):=by decide
 have C:=LZ (t:=t) (x:=x) (w:=k+1) (e:=false) f b z A m k 1 _ [(dq M 9 (c.p++it (bf c.ds x.nm)++us++it (0:Int)) 0 0 kids).1] (by omega) j.ok (j.all g) (by have:=j.up;omega) rfl;rw [dc];refine ah ?_;rw [IK];simp only [aj,↓reduceIte,v,q,iF l,iF a,r,u,c3,D,E,aV,aU,QD,aT,aQ];exact C
theorem L6{c:Cx}{t:Tr}{M:Mk}{x:Nd}{w:Nat}(b:c.ds.length<=100)(r:c.p.size<=100)(A: 1<=w)(u:w<=100)(h:Ok M)(B:M.N.length<=50000):
  Or ij [Y'6,Y'7,AV.t (T.ae true),AV.t (T.ae true),I (w:Int),I 0] [ad.box [Y'1,AV.t (T.ab 3 c.ed (aI c.ds)),AV.t (T.ab 5 c.en (aW c.ns)),AV.t (T.ab 1 c.eh (enc c.hs)),AV.t (T.str c.p),AV.t (T.ab 1 c.es (enc c.ss)),V'2,V'3],ad.box [V'4,V'5],ad.sl false 1 t.bits.isEmpty (bg t.bits),ad.sl false 1 t.to.isEmpty (enc t.to),ad.rows M.N.isEmpty 5 1 1 M.N.length (rows M.N),ad.mp false [Ck.s] (Ck.i .i64) (bZ M.K),ad.box [r0],ad.box [I x.op,ab x.ek x.ks,I x.n,I x.d,AV.t (T.str x.nm)]]=
   some [T.ab 1 false (enc (dc M (c.p++it (bf c.ds x.nm)++us) [] 0 w).1),T.ao,T.ab 3 c.ed (aI c.ds),T.ab 5 c.en (aW c.ns),T.ab 1 c.eh (enc c.hs),T.str c.p,T.ab 1 c.es (enc c.ss),T.ao,T.ao,RW ((dc M (c.p++it (bf c.ds x.nm)++us) [] 0 w).2).N,T.ao,T.ab 1 t.bits.isEmpty (bg t.bits),T.ab 1 t.to.isEmpty (enc t.to),EM ((dc M (c.p++it (bf c.ds x.nm)++us) [] 0 w).2).K]:=by
 have j:=te (ed:=c.ed) (en:=c.en) (eh:=c.eh) (ns:=c.ns) (hs:=c.hs) (nm:=x.nm) b;have g:eF (bf c.ds x.nm):=by have:=r8 x.nm 0 c.ds;unfold bf;constructor <;> omega
 have D:=iy g;obtain⟨k,rfl⟩:∃k,w=k+1:=⟨w - 1,by omega⟩;have q:(0:Int) < ((k+1:Nat):Int):=by omega
 have a:eF (0:Int):=⟨by omega,by omega⟩;have E:=iy a;have m:c.p.size+ (it (bf c.ds x.nm)).size<=4294967296:=by omega
 have o:(c.p++it (bf c.ds x.nm)).size+1<=4294967296:=by rw [QZ];omega
 have c3:(c.p++it (bf c.ds x.nm)++us).size+ (it (0:Int)).size<=4294967296:=by simp only [QZ,gf];omega
 have f:=jF M (show M.N.length<=100000 by omega) 9 (c.p++it (bf c.ds x.nm)++us++it (0:Int)) 0 0 [] true rfl (λy e=>by cases e) (by simp) (by omega) (by omega) (by omega) (by simp only [QZ,gf];omega);replace f:Or (.call 46) [r0,I 9,AV.t (T.str (c.p++it (bf c.ds x.nm)++us++it (0:Int))),I 0,I 0,AV.t (T.ab 1 true [])] (dt M)=_:=f;obtain⟨l,C⟩:=jB h 9 (c.p++it (bf c.ds x.nm)++us++it (0:Int)) 0 0 [] (λy e=>by cases e) (by simp);have z:i64.wrap (0+1)= ((1:Nat):Int):=by decide
 have v:=L4 (t:=t) (x:=x) (w:=k+1) b r u k 1 _ [(dq M 9 (c.p++it (bf c.ds x.nm)++us++it (0:Int)) 0 0 []).1] (by omega) l.ok (by have:=l.up;omega) rfl;rw [dc];refine ah ?_;rw [IJ];simp only [aj,↓reduceIte,q,j,iF g,iF a,m,o,c3,f,z,aV,aU,QD,aT,aQ];exact v
theorem L8{c:Cx}{t:Tr}{M:Mk}{x:Nd}{i w:Nat}{s:Int}(hs:c.ss[i]? =some s)(y:s - 10= (w:Int))(F:w<=100)(E:x.ks.length<=100)(m:∀k∈x.ks,0<=k/\t.to[k.toNat]? =some (bu t k)){r:List T}:∀(f:List Int) (j:Nat) (a:List Int),x.ks.drop j=f->j<=x.ks.length->a.length=j->
  Or ij [Y'6,Y'7,AV.t (T.ae true),V'8,I (w:Int),I 0] [ad.box [Y'1,AV.t (T.ab 3 c.ed (aI c.ds)),AV.t (T.ab 5 c.en (aW c.ns)),AV.t (T.ab 1 c.eh (enc c.hs)),AV.t (T.str c.p),AV.t (T.ab 1 c.es (enc c.ss)),V'2,V'3],ad.box [V'4,V'5],ad.sl false 1 t.bits.isEmpty (bg t.bits),ad.sl false 1 t.to.isEmpty (enc t.to),ad.rows M.N.isEmpty 5 1 1 M.N.length (rows M.N),ad.mp false [Ck.s] (Ck.i .i64) (bZ M.K),ad.box [r0],ad.box [I x.op,ab x.ek x.ks,I x.n,I x.d,AV.t (T.str x.nm)],ad.sl false 1 false (enc (a++f.map (bu t)))]=some r->
  Or oe [I (i:Int),Y'6,Y'7,AV.t (T.ae true),V'8,ab x.ek x.ks,I (x.ks.length:Int),I (j:Int)] [ad.box [Y'1,AV.t (T.ab 3 c.ed (aI c.ds)),AV.t (T.ab 5 c.en (aW c.ns)),AV.t (T.ab 1 c.eh (enc c.hs)),AV.t (T.str c.p),AV.t (T.ab 1 c.es (enc c.ss)),V'2,V'3],ad.box [V'4,V'5],ad.sl false 1 t.bits.isEmpty (bg t.bits),ad.sl false 1 t.to.isEmpty (enc t.to),ad.rows M.N.isEmpty 5 1 1 M.N.length (rows M.N),ad.mp false [Ck.s] (Ck.i .i64) (bZ M.K),ad.box [r0],ad.box [I x.op,ab x.ek x.ks,I x.n,I x.d,AV.t (T.str x.nm)],ad.sl false 1 false (enc a)]=some r:=by
 intro f;induction f with
 | nil=>
  intro j a g v b e;have h:¬(j:Int) < (x.ks.length:Int):=by have:=bh g;omega
  have u: 0<=(i:Int)/\(i:Int) < (c.ss.length:Int):=by have:=(QC.1 hs).1;omega
  have D:i64.wrap (s - 10)= (w:Int):=by rw [y,wr (by omega)]
  rw [Rz,QX] at e;refine ah ?_;rw [BT];simp only [aj,↓reduceIte,h,u,and_self,aC,bH hs,D];exact e
 | cons k f A=>
  intro j a g v b e;obtain⟨l,G,q⟩:=bm g;have h:(j:Int) < (x.ks.length:Int):=by omega
  have h0: 0<=(j:Int):=by omega
  obtain⟨H,o⟩:=m k (QH l);have B: 0<=k/\k < (t.to.length:Int):=by have:=(QC.1 o).1;omega
  have C:bp 8 (a.length+1)=some ():=cC (by omega);have z:=A (j+1) (a++ [bu t k]) q (by omega) (by simp [b]) (by
   rw [Rc] at e;simpa only [Q6,Rf] using e)
  refine ah ?_;rw [BT];simp only [aj,↓reduceIte,h,h0,and_self,aC,bH l,B,fj o,QM,C,next j (by omega),eK];exact z
theorem Oy{c:Cx}{t:Tr}{M:Mk}{x:Nd}{i:Nat}{s:Int}(C:c.ns[i]? =some x)(hs:c.ss[i]? =some s)(m:x.op=9)(H:aE s=true)(g:cJ c t M i)(h:c.ds.length<=100)(A:c.p.size<=100)(l:x.ks.length<=100)(v:∀k∈x.ks,∃s',KW c i k s'/\aE s'=false)(Q:M.N.length<=40000):
  Or (.call 27) [r0,I (i:Int)] [ad.box [Y'1,AV.t (T.ab 3 c.ed (aI c.ds)),AV.t (T.ab 5 c.en (aW c.ns)),AV.t (T.ab 1 c.eh (enc c.hs)),AV.t (T.str c.p),AV.t (T.ab 1 c.es (enc c.ss)),V'2,V'3],ad.box [V'4,V'5],ad.sl false 1 t.bits.isEmpty (bg t.bits),ad.sl false 1 t.to.isEmpty (enc t.to),ad.rows M.N.isEmpty 5 1 1 M.N.length (rows M.N),ad.mp false [Ck.s] (Ck.i .i64) (bZ M.K)]=some [T.ab 1 false (enc (dc M (c.p++it (bf c.ds x.nm)++us) (x.ks.map (bu t)) 0 (s - 10).toNat).1),T.ao,T.ab 3 c.ed (aI c.ds),T.ab 5 c.en (aW c.ns),T.ab 1 c.eh (enc c.hs),T.str c.p,T.ab 1 c.es (enc c.ss),T.ao,T.ao,RW ((dc M (c.p++it (bf c.ds x.nm)++us) (x.ks.map (bu t)) 0 (s - 10).toNat).2).N,T.ao,T.ab 1 t.bits.isEmpty (bg t.bits),T.ab 1 t.to.isEmpty (enc t.to),EM ((dc M (c.p++it (bf c.ds x.nm)++us) (x.ks.map (bu t)) 0 (s - 10).toNat).2).K]:=by
 have hl:=gw H;have F: 0<=(i:Int)/\(i:Int) < (c.ns.length:Int):=by have:=(QC.1 C).1;omega
 have G: 0<=(i:Int)/\(i:Int) < (c.ss.length:Int):=by have:=(QC.1 hs).1;omega
 have B:s - 10= ((s - 10).toNat:Int):=by omega
 have j:∀k∈x.ks,0<=k/\t.to[k.toNat]? =some (bu t k):=λk hm=>by obtain⟨s',e,q⟩:=v k hm;exact⟨e.h0,(e.plain g q).2.1⟩
 have r:∀y∈x.ks.map (bu t),In M y:=λy J=>by obtain⟨k,hm,rfl⟩:=Rb.1 J;obtain⟨s',e,q⟩:=v k hm;exact(e.plain g q).2.2
 have b:Or oe [I (i:Int),Y'6,Y'7,AV.t (T.ae true),AV.t (T.ae true),ab x.ek x.ks,I (x.ks.length:Int),I 0] [ad.box [Y'1,AV.t (T.ab 3 c.ed (aI c.ds)),AV.t (T.ab 5 c.en (aW c.ns)),AV.t (T.ab 1 c.eh (enc c.hs)),AV.t (T.str c.p),AV.t (T.ab 1 c.es (enc c.ss)),V'2,V'3],ad.box [V'4,V'5],ad.sl false 1 t.bits.isEmpty (bg t.bits),ad.sl false 1 t.to.isEmpty (enc t.to),ad.rows M.N.isEmpty 5 1 1 M.N.length (rows M.N),ad.mp false [Ck.s] (Ck.i .i64) (bZ M.K),ad.box [r0],ad.box [I x.op,ab x.ek x.ks,I x.n,I x.d,AV.t (T.str x.nm)]]=
   some [T.ab 1 false (enc (dc M (c.p++it (bf c.ds x.nm)++us) (x.ks.map (bu t)) 0 (s - 10).toNat).1),T.ao,T.ab 3 c.ed (aI c.ds),T.ab 5 c.en (aW c.ns),T.ab 1 c.eh (enc c.hs),T.str c.p,T.ab 1 c.es (enc c.ss),T.ao,T.ao,RW ((dc M (c.p++it (bf c.ds x.nm)++us) (x.ks.map (bu t)) 0 (s - 10).toNat).2).N,T.ao,T.ab 1 t.bits.isEmpty (bg t.bits),T.ab 1 t.to.isEmpty (enc t.to),EM ((dc M (c.p++it (bf c.ds x.nm)++us) (x.ks.map (bu t)) 0 (s - 10).toNat).2).K]:=by
  cases a:x.ks with
  | nil=>
   have f:=L6 (c:=c) (t:=t) (M:=M) (x:=x) (w:=(s - 10).toNat) h A (by omega) (by omega) g.ok (by omega);have P:i64.wrap (s - 10)= ((s - 10).toNat:Int):=by rw [wr (by omega)];omega
   rw [a] at f;refine ah ?_;rw [BS];simp only [aj,↓reduceIte,QW,Re,Rl,decide_false,G,and_self,aC,bH hs,P];exact f
  | cons k u=>
   have z:x.ks.map (bu t)≠[]:=by rw [a];simp
   have f:=L5 (c:=c) (t:=t) (M:=M) (x:=x) (w:=(s - 10).toNat) z h A (by omega) (by omega) (by simpa using l) g.ok r (by omega);obtain⟨R,D⟩:=j k (by rw [a];exact QA);have L: 0<=k/\k < (t.to.length:Int):=by have:=(QC.1 D).1;omega
   have o:=L8 (c:=c) (t:=t) (M:=M) (x:=x) hs B (by omega) l j u 1 [bu t k] (by rw [a];rfl) (by rw [a];simp) rfl (by
    rw [a] at f⊢;exact f)
   have e:(0:Int) < (((k::u).length:Nat):Int):=by simp
   have h0:(0:Int)<=0:=by omega
   have E:(enc (k::u))[(0:Int).toNat]? =some [ti k]:=rfl;have O:i64.wrap (0+1)= ((1:Nat):Int):=by decide
   rw [a] at o;refine ah ?_;rw [BS];simp only [aj,↓reduceIte,e,h0,and_self,aC,E,L,fj D,O];exact o
 refine ah ?_;rw [lH];simp (maxSteps:=1000000) only [aj,↓reduceIte,F,and_self,dA,fi C,m,aC];rw [m] at b;exact b
theorem Oo{c:Cx}{t:Tr}{M:Mk}{x:Nd}{i:Nat}{s:Int}(o:c.ns[i]? =some x)(l:x.op=17){d e:Int}(h:x.ks= [d,e])(q:KW c i d s)(r:KW c i e s)(n:aE s=true)(m:cJ c t M i)(D:M.N.length<=40000):
  Or (.call 27) [r0,I (i:Int)] [ad.box [Y'1,AV.t (T.ab 3 c.ed (aI c.ds)),AV.t (T.ab 5 c.en (aW c.ns)),AV.t (T.ab 1 c.eh (enc c.hs)),AV.t (T.str c.p),AV.t (T.ab 1 c.es (enc c.ss)),V'2,V'3],ad.box [V'4,V'5],ad.sl false 1 t.bits.isEmpty (bg t.bits),ad.sl false 1 t.to.isEmpty (enc t.to),ad.rows M.N.isEmpty 5 1 1 M.N.length (rows M.N),ad.mp false [Ck.s] (Ck.i .i64) (bZ M.K)]=some [T.ab 1 (aR cg M (aD t d) (aD t e)).1.isEmpty (enc (aR cg M (aD t d) (aD t e)).1),T.ao,T.ab 3 c.ed (aI c.ds),T.ab 5 c.en (aW c.ns),T.ab 1 c.eh (enc c.hs),T.str c.p,T.ab 1 c.es (enc c.ss),T.ao,T.ao,RW ((aR cg M (aD t d) (aD t e)).2).N,T.ao,T.ab 1 t.bits.isEmpty (bg t.bits),T.ab 1 t.to.isEmpty (enc t.to),EM ((aR cg M (aD t d) (aD t e)).2).K]:=by
 have hl:=gw n;have z: 0<=(i:Int)/\(i:Int) < (c.ns.length:Int):=by have:=(QC.1 o).1;omega
 obtain⟨u,B,v⟩:=q.word m n;obtain⟨w,C,y⟩:=r.word m n;have f:=jc (c:=c) (t:=t) (M:=M) (x:=x) (j:=0) (k:=d) (by rw [h];rfl) q.h0 u;have g:=jc (c:=c) (t:=t) (M:=M) (x:=x) (j:=1) (k:=e) (by rw [h];rfl) r.h0 w;rw [l] at f g;replace f:Or (.call 45) [I 0,r0,r1] _=_:=f;replace g:Or (.call 45) [I 1,r0,r1] _=_:=g;have A:=OU m.ok (ea:=(aD t d).isEmpty) (eb:=(aD t e).isEmpty) (a:=aD t d) (b:=aD t e) (by omega) (by omega) v y (by omega);refine ah ?_;rw [lH];simp (maxSteps:=1000000) only [aj,↓reduceIte,Int.reduceEq,z,and_self,dA,fi o,l,f,g,A,aV,aU,QD,aT,aQ,cW,cH];rfl
theorem Oq{c:Cx}{t:Tr}{M:Mk}{x:Nd}{i:Nat}{s:Int}(o:c.ns[i]? =some x)(l:x.op=18){d e:Int}(h:x.ks= [d,e])(q:KW c i d s)(r:KW c i e s)(n:aE s=true)(m:cJ c t M i)(D:M.N.length<=40000):
  Or (.call 27) [r0,I (i:Int)] [ad.box [Y'1,AV.t (T.ab 3 c.ed (aI c.ds)),AV.t (T.ab 5 c.en (aW c.ns)),AV.t (T.ab 1 c.eh (enc c.hs)),AV.t (T.str c.p),AV.t (T.ab 1 c.es (enc c.ss)),V'2,V'3],ad.box [V'4,V'5],ad.sl false 1 t.bits.isEmpty (bg t.bits),ad.sl false 1 t.to.isEmpty (enc t.to),ad.rows M.N.isEmpty 5 1 1 M.N.length (rows M.N),ad.mp false [Ck.s] (Ck.i .i64) (bZ M.K)]=some [T.ab 1 (aR eC M (aD t d) (aD t e)).1.isEmpty (enc (aR eC M (aD t d) (aD t e)).1),T.ao,T.ab 3 c.ed (aI c.ds),T.ab 5 c.en (aW c.ns),T.ab 1 c.eh (enc c.hs),T.str c.p,T.ab 1 c.es (enc c.ss),T.ao,T.ao,RW ((aR eC M (aD t d) (aD t e)).2).N,T.ao,T.ab 1 t.bits.isEmpty (bg t.bits),T.ab 1 t.to.isEmpty (enc t.to),EM ((aR eC M (aD t d) (aD t e)).2).K]:=by
 have hl:=gw n;have z: 0<=(i:Int)/\(i:Int) < (c.ns.length:Int):=by have:=(QC.1 o).1;omega
 obtain⟨u,B,v⟩:=q.word m n;obtain⟨w,C,y⟩:=r.word m n;have f:=jc (c:=c) (t:=t) (M:=M) (x:=x) (j:=0) (k:=d) (by rw [h];rfl) q.h0 u;have g:=jc (c:=c) (t:=t) (M:=M) (x:=x) (j:=1) (k:=e) (by rw [h];rfl) r.h0 w;rw [l] at f g;replace f:Or (.call 45) [I 0,r0,r1] _=_:=f;replace g:Or (.call 45) [I 1,r0,r1] _=_:=g;have A:=OV m.ok (ea:=(aD t d).isEmpty) (eb:=(aD t e).isEmpty) (a:=aD t d) (b:=aD t e) (by omega) (by omega) v y (by omega);refine ah ?_;rw [lH];simp (maxSteps:=1000000) only [aj,↓reduceIte,Int.reduceEq,z,and_self,dA,fi o,l,f,g,A,aV,aU,QD,aT,aQ,cW,cH];rfl
theorem Ot{c:Cx}{t:Tr}{M:Mk}{x:Nd}{i:Nat}{s:Int}(o:c.ns[i]? =some x)(l:x.op=19){d e:Int}(h:x.ks= [d,e])(q:KW c i d s)(r:KW c i e s)(n:aE s=true)(m:cJ c t M i)(D:M.N.length<=40000):
  Or (.call 27) [r0,I (i:Int)] [ad.box [Y'1,AV.t (T.ab 3 c.ed (aI c.ds)),AV.t (T.ab 5 c.en (aW c.ns)),AV.t (T.ab 1 c.eh (enc c.hs)),AV.t (T.str c.p),AV.t (T.ab 1 c.es (enc c.ss)),V'2,V'3],ad.box [V'4,V'5],ad.sl false 1 t.bits.isEmpty (bg t.bits),ad.sl false 1 t.to.isEmpty (enc t.to),ad.rows M.N.isEmpty 5 1 1 M.N.length (rows M.N),ad.mp false [Ck.s] (Ck.i .i64) (bZ M.K)]=some [T.ab 1 (aR bw M (aD t d) (aD t e)).1.isEmpty (enc (aR bw M (aD t d) (aD t e)).1),T.ao,T.ab 3 c.ed (aI c.ds),T.ab 5 c.en (aW c.ns),T.ab 1 c.eh (enc c.hs),T.str c.p,T.ab 1 c.es (enc c.ss),T.ao,T.ao,RW ((aR bw M (aD t d) (aD t e)).2).N,T.ao,T.ab 1 t.bits.isEmpty (bg t.bits),T.ab 1 t.to.isEmpty (enc t.to),EM ((aR bw M (aD t d) (aD t e)).2).K]:=by
 have hl:=gw n;have z: 0<=(i:Int)/\(i:Int) < (c.ns.length:Int):=by have:=(QC.1 o).1;omega
 obtain⟨u,B,v⟩:=q.word m n;obtain⟨w,C,y⟩:=r.word m n;have f:=jc (c:=c) (t:=t) (M:=M) (x:=x) (j:=0) (k:=d) (by rw [h];rfl) q.h0 u;have g:=jc (c:=c) (t:=t) (M:=M) (x:=x) (j:=1) (k:=e) (by rw [h];rfl) r.h0 w;rw [l] at f g;replace f:Or (.call 45) [I 0,r0,r1] _=_:=f;replace g:Or (.call 45) [I 1,r0,r1] _=_:=g;have A:=OW m.ok (ea:=(aD t d).isEmpty) (eb:=(aD t e).isEmpty) (a:=aD t d) (b:=aD t e) (by omega) (by omega) v y (by omega);refine ah ?_;rw [lH];simp (maxSteps:=1000000) only [aj,↓reduceIte,Int.reduceEq,z,and_self,dA,fi o,l,f,g,A,aV,aU,QD,aT,aQ,cW,cH];rfl
theorem Ou{c:Cx}{t:Tr}{M:Mk}{x:Nd}{i:Nat}{s:Int}(o:c.ns[i]? =some x)(l:x.op=20){d e:Int}(h:x.ks= [d,e])(q:KW c i d s)(r:KW c i e s)(n:aE s=true)(m:cJ c t M i)(D:M.N.length<=40000):
  Or (.call 27) [r0,I (i:Int)] [ad.box [Y'1,AV.t (T.ab 3 c.ed (aI c.ds)),AV.t (T.ab 5 c.en (aW c.ns)),AV.t (T.ab 1 c.eh (enc c.hs)),AV.t (T.str c.p),AV.t (T.ab 1 c.es (enc c.ss)),V'2,V'3],ad.box [V'4,V'5],ad.sl false 1 t.bits.isEmpty (bg t.bits),ad.sl false 1 t.to.isEmpty (enc t.to),ad.rows M.N.isEmpty 5 1 1 M.N.length (rows M.N),ad.mp false [Ck.s] (Ck.i .i64) (bZ M.K)]=some [T.ab 1 (dB M (aD t d) (aD t e)).1.isEmpty (enc (dB M (aD t d) (aD t e)).1),T.ao,T.ab 3 c.ed (aI c.ds),T.ab 5 c.en (aW c.ns),T.ab 1 c.eh (enc c.hs),T.str c.p,T.ab 1 c.es (enc c.ss),T.ao,T.ao,RW ((dB M (aD t d) (aD t e)).2).N,T.ao,T.ab 1 t.bits.isEmpty (bg t.bits),T.ab 1 t.to.isEmpty (enc t.to),EM ((dB M (aD t d) (aD t e)).2).K]:=by
 have hl:=gw n;have z: 0<=(i:Int)/\(i:Int) < (c.ns.length:Int):=by have:=(QC.1 o).1;omega
 obtain⟨u,B,v⟩:=q.word m n;obtain⟨w,C,y⟩:=r.word m n;have f:=jc (c:=c) (t:=t) (M:=M) (x:=x) (j:=0) (k:=d) (by rw [h];rfl) q.h0 u;have g:=jc (c:=c) (t:=t) (M:=M) (x:=x) (j:=1) (k:=e) (by rw [h];rfl) r.h0 w;rw [l] at f g;replace f:Or (.call 45) [I 0,r0,r1] _=_:=f;replace g:Or (.call 45) [I 1,r0,r1] _=_:=g;have A:=Ga m.ok (ea:=(aD t d).isEmpty) (eb:=(aD t e).isEmpty) (a:=aD t d) (b:=aD t e) (by omega) (by omega) v y (by omega);refine ah ?_;rw [lH];simp (maxSteps:=1000000) only [aj,↓reduceIte,Int.reduceEq,z,and_self,dA,fi o,l,f,g,A,aV,aU,QD,aT,aQ,cW,cH];rfl
theorem Ov{c:Cx}{t:Tr}{M:Mk}{x:Nd}{i:Nat}{s:Int}(o:c.ns[i]? =some x)(l:x.op=21){d e:Int}(h:x.ks= [d,e])(q:KW c i d s)(r:KW c i e s)(n:aE s=true)(m:cJ c t M i)(D:M.N.length<=40000):
  Or (.call 27) [r0,I (i:Int)] [ad.box [Y'1,AV.t (T.ab 3 c.ed (aI c.ds)),AV.t (T.ab 5 c.en (aW c.ns)),AV.t (T.ab 1 c.eh (enc c.hs)),AV.t (T.str c.p),AV.t (T.ab 1 c.es (enc c.ss)),V'2,V'3],ad.box [V'4,V'5],ad.sl false 1 t.bits.isEmpty (bg t.bits),ad.sl false 1 t.to.isEmpty (enc t.to),ad.rows M.N.isEmpty 5 1 1 M.N.length (rows M.N),ad.mp false [Ck.s] (Ck.i .i64) (bZ M.K)]=some [T.ab 1 (je M (aD t d) (aD t e)).1.isEmpty (enc (je M (aD t d) (aD t e)).1),T.ao,T.ab 3 c.ed (aI c.ds),T.ab 5 c.en (aW c.ns),T.ab 1 c.eh (enc c.hs),T.str c.p,T.ab 1 c.es (enc c.ss),T.ao,T.ao,RW ((je M (aD t d) (aD t e)).2).N,T.ao,T.ab 1 t.bits.isEmpty (bg t.bits),T.ab 1 t.to.isEmpty (enc t.to),EM ((je M (aD t d) (aD t e)).2).K]:=by
 have hl:=gw n;have z: 0<=(i:Int)/\(i:Int) < (c.ns.length:Int):=by have:=(QC.1 o).1;omega
 obtain⟨u,B,v⟩:=q.word m n;obtain⟨w,C,y⟩:=r.word m n;have f:=jc (c:=c) (t:=t) (M:=M) (x:=x) (j:=0) (k:=d) (by rw [h];rfl) q.h0 u;have g:=jc (c:=c) (t:=t) (M:=M) (x:=x) (j:=1) (k:=e) (by rw [h];rfl) r.h0 w;rw [l] at f g;replace f:Or (.call 45) [I 0,r0,r1] _=_:=f;replace g:Or (.call 45) [I 1,r0,r1] _=_:=g;have A:=OY m.ok (ea:=(aD t d).isEmpty) (eb:=(aD t e).isEmpty) (a:=aD t d) (b:=aD t e) (by omega) (by omega) (by omega) v y (by omega);refine ah ?_;rw [lH];simp (maxSteps:=1000000) only [aj,↓reduceIte,Int.reduceEq,z,and_self,dA,fi o,l,f,g,A,aV,aU,QD,aT,aQ,cW];rfl
theorem Ow{c:Cx}{t:Tr}{M:Mk}{x:Nd}{i:Nat}{s:Int}(l:c.ns[i]? =some x)(e:x.op=23){b:Int}(f:x.ks= [b])(m:KW c i b s)(r: 0<=x.n/\x.n<=8)(h:aE s=true)(g:cJ c t M i)(y:M.N.length<=40000):
  Or (.call 27) [r0,I (i:Int)] [ad.box [Y'1,AV.t (T.ab 3 c.ed (aI c.ds)),AV.t (T.ab 5 c.en (aW c.ns)),AV.t (T.ab 1 c.eh (enc c.hs)),AV.t (T.str c.p),AV.t (T.ab 1 c.es (enc c.ss)),V'2,V'3],ad.box [V'4,V'5],ad.sl false 1 t.bits.isEmpty (bg t.bits),ad.sl false 1 t.to.isEmpty (enc t.to),ad.rows M.N.isEmpty 5 1 1 M.N.length (rows M.N),ad.mp false [Ck.s] (Ck.i .i64) (bZ M.K)]=some [T.ab 1 (bt M (aD t b) x.n).1.isEmpty (enc (bt M (aD t b) x.n).1),T.ao,T.ab 3 c.ed (aI c.ds),T.ab 5 c.en (aW c.ns),T.ab 1 c.eh (enc c.hs),T.str c.p,T.ab 1 c.es (enc c.ss),T.ao,T.ao,RW ((bt M (aD t b) x.n).2).N,T.ao,T.ab 1 t.bits.isEmpty (bg t.bits),T.ab 1 t.to.isEmpty (enc t.to),EM ((bt M (aD t b) x.n).2).K]:=by
 have hl:=gw h;have q: 0<=(i:Int)/\(i:Int) < (c.ns.length:Int):=by have:=(QC.1 l).1;omega
 obtain⟨o,v,w⟩:=m.word g h;have d:=jc (c:=c) (t:=t) (M:=M) (x:=x) (j:=0) (k:=b) (by rw [f];rfl) m.h0 o;rw [e] at d;replace d:Or (.call 45) [I 0,r0,r1] _=_:=d;have u:=zL g.ok (ea:=(aD t b).isEmpty) (a:=aD t b) (n:=x.n) r.1 (by omega) (by omega) (by omega);refine ah ?_;rw [lH];simp (maxSteps:=1000000) only [aj,↓reduceIte,Int.reduceEq,q,and_self,dA,fi l,e,d,u,aV,aU,QD,aT,aQ,cW,cH];rfl
theorem Ox{c:Cx}{t:Tr}{M:Mk}{x:Nd}{i:Nat}{s s0:Int}(r:c.ns[i]? =some x)(n:x.op=7){d e f:Int}(g:x.ks= [d,e,f])(v:KW c i d s0)(q:aE s0=false)(w:KW c i e s)(y:KW c i f s)(o:aE s=true)(h:cJ c t M i)(P:M.N.length<=40000):
  Or (.call 27) [r0,I (i:Int)] [ad.box [Y'1,AV.t (T.ab 3 c.ed (aI c.ds)),AV.t (T.ab 5 c.en (aW c.ns)),AV.t (T.ab 1 c.eh (enc c.hs)),AV.t (T.str c.p),AV.t (T.ab 1 c.es (enc c.ss)),V'2,V'3],ad.box [V'4,V'5],ad.sl false 1 t.bits.isEmpty (bg t.bits),ad.sl false 1 t.to.isEmpty (enc t.to),ad.rows M.N.isEmpty 5 1 1 M.N.length (rows M.N),ad.mp false [Ck.s] (Ck.i .i64) (bZ M.K)]=some [T.ab 1 false (enc (aR (cS (bu t d)) M (aD t e) (aD t f)).1),T.ao,T.ab 3 c.ed (aI c.ds),T.ab 5 c.en (aW c.ns),T.ab 1 c.eh (enc c.hs),T.str c.p,T.ab 1 c.es (enc c.ss),T.ao,T.ao,RW ((aR (cS (bu t d)) M (aD t e) (aD t f)).2).N,T.ao,T.ab 1 t.bits.isEmpty (bg t.bits),T.ab 1 t.to.isEmpty (enc t.to),EM ((aR (cS (bu t d)) M (aD t e) (aD t f)).2).K]:=by
 have hl:=gw o;have E: 0<=(i:Int)/\(i:Int) < (c.ns.length:Int):=by have:=(QC.1 r).1;omega
 obtain⟨_,u,H⟩:=v.plain h q;obtain⟨z,L,A⟩:=w.word h o;obtain⟨B,O,C⟩:=y.word h o;have l:=jc (c:=c) (t:=t) (M:=M) (x:=x) (j:=1) (k:=e) (by rw [g];rfl) w.h0 z;have m:=jc (c:=c) (t:=t) (M:=M) (x:=x) (j:=2) (k:=f) (by rw [g];rfl) y.h0 B;rw [n] at l m;replace l:Or (.call 45) [I 1,r0,r1] _=_:=l;replace m:Or (.call 45) [I 2,r0,r1] _=_:=m;have J:=OT (c:=c) (t:=t) h.ok H (ea:=(aD t e).isEmpty) (eb:=(aD t f).isEmpty) (a:=aD t e) (b:=aD t f) (by omega) (by omega) (by omega) A C (by omega);have F:(0:Int)<=0/\(0:Int) < ((x.ks.length:Nat):Int):=by rw [g];simp
 have D:(enc x.ks)[0]? =some [ti d]:=by rw [g];rfl
 have G: 0<=d/\d < (t.to.length:Int):=by have:=(QC.1 u).1;have:=v.h0;omega
 refine ah ?_;rw [lH];simp (maxSteps:=1000000) only [aj,↓reduceIte,Int.reduceEq,E,F,G,and_self,dA,fi r,n,aC,D,fj u,l,m,J,aV,aU,QD,aT,aQ,cW];rfl
def jR(n:Int)(b:Nat):Bool:=i64.wrap (((BitVec.ofInt 64 (n.fdiv (2 ^ min ((b:Int)).toNat 64)) &&& BitVec.ofInt 64 1).toNat:Nat):Int)==1
def fg(M:Mk)(n:Int):Nat->Nat->List Int×Mk
 | _,0=>([],M)
 | b,k+1=>((cQ M (jR n b)).1:: (fg (cQ M (jR n b)).2 n (b+1) k).1,(fg (cQ M (jR n b)).2 n (b+1) k).2)
theorem Bh{n:Int}:∀{k b:Nat} {M:Mk},Ok M->Up M (fg M n b k).2 k/\(∀x∈(fg M n b k).1,In (fg M n b k).2 x)/\(fg M n b k).1.length=k
 | 0,b,M,h=>⟨Up.refl h,λx i=>(by cases i),rfl⟩
 | k+1,b,M,h=>by
  obtain⟨c,e⟩:=iT h (jR n b);obtain⟨d,f,g⟩:=Bh (n:=n) (k:=k) (b:=b+1) c.ok;refine⟨(c.trans d).mono (by omega),λz a=> ?_,by simp [fg,g]⟩;rcases QN.1 a with rfl | a
  .exact d.In e
  .exact f z a
theorem L7{c:Cx}{t:Tr}{x:Nd}{w:Nat}(v:w<=100):∀(k b:Nat) (M:Mk) (a:List Int),b+k=w->Ok M->M.N.length+k<=60000->a.length=b->
  Or od [Y'6,Y'7,V'8,I (w:Int),I (b:Int)] [ad.box [Y'1,AV.t (T.ab 3 c.ed (aI c.ds)),AV.t (T.ab 5 c.en (aW c.ns)),AV.t (T.ab 1 c.eh (enc c.hs)),AV.t (T.str c.p),AV.t (T.ab 1 c.es (enc c.ss)),V'2,V'3],ad.box [V'9,V'5],ad.sl false 1 t.bits.isEmpty (bg t.bits),ad.sl false 1 t.to.isEmpty (enc t.to),ad.dead,ad.mp false [Ck.s] (Ck.i .i64) (bZ M.K),ad.box [r0],ad.box [I x.op,ab x.ek x.ks,I x.n,I x.d,AV.t (T.str x.nm)],ad.sl false 1 false (enc a),ad.rows M.N.isEmpty 5 1 1 M.N.length (rows M.N)]=
   some [T.ab 1 false (enc (a++ (fg M x.n b k).1)),T.ao,T.ab 3 c.ed (aI c.ds),T.ab 5 c.en (aW c.ns),T.ab 1 c.eh (enc c.hs),T.str c.p,T.ab 1 c.es (enc c.ss),T.ao,T.ao,RW ((fg M x.n b k).2).N,T.ao,T.ab 1 t.bits.isEmpty (bg t.bits),T.ab 1 t.to.isEmpty (enc t.to),EM ((fg M x.n b k).2).K]:=by
 intro k;induction k with
 | zero=>
  intro b M a o h m e;have f:¬(b:Int) < (w:Int):=by omega
  refine ah ?_;rw [BQ];simp only [aj,↓reduceIte,f,aT,fg,QX];rfl
 | succ k q=>
  intro b M a o h m e;have f:(b:Int) < (w:Int):=by omega
  have l:¬(b:Int) < 0:=by omega
  have r:=lU (show M.N.length<=100000 by omega) (jR x.n b);obtain⟨j,y⟩:=iT h (jR x.n b);have u:bp 8 (a.length+1)=some ():=cC (by omega);have g:=q (b+1) _ (a++ [(cQ M (jR x.n b)).1]) (by omega) j.ok (by have:=j.up;omega) (by simp [e]);simp only [Q6,Rf] at g;rw [fg];refine ah ?_;rw [BQ];simp only [aK,f,l,decide_true,cond_true,↓reduceIte];change U' (Or (.call 50) [r0,B (jR x.n b)] _) _=_;simp only [aj,r,aC,QM,u,next b (by omega),eK,aV,aU,QD,aQ];exact g
theorem Om{c:Cx}{t:Tr}{M:Mk}{x:Nd}{i:Nat}(f:c.ns[i]? =some x)(b:x.op=15)(y: 1<=x.d/\x.d<=8)(q:cJ c t M i)(v:M.N.length<=40000):
  Or (.call 27) [r0,I (i:Int)] [ad.box [Y'1,AV.t (T.ab 3 c.ed (aI c.ds)),AV.t (T.ab 5 c.en (aW c.ns)),AV.t (T.ab 1 c.eh (enc c.hs)),AV.t (T.str c.p),AV.t (T.ab 1 c.es (enc c.ss)),V'2,V'3],ad.box [V'4,V'5],ad.sl false 1 t.bits.isEmpty (bg t.bits),ad.sl false 1 t.to.isEmpty (enc t.to),ad.rows M.N.isEmpty 5 1 1 M.N.length (rows M.N),ad.mp false [Ck.s] (Ck.i .i64) (bZ M.K)]=some [T.ab 1 false (enc (fg M x.n 0 x.d.toNat).1),T.ao,T.ab 3 c.ed (aI c.ds),T.ab 5 c.en (aW c.ns),T.ab 1 c.eh (enc c.hs),T.str c.p,T.ab 1 c.es (enc c.ss),T.ao,T.ao,RW ((fg M x.n 0 x.d.toNat).2).N,T.ao,T.ab 1 t.bits.isEmpty (bg t.bits),T.ab 1 t.to.isEmpty (enc t.to),EM ((fg M x.n 0 x.d.toNat).2).K]:=by
 have l: 0<=(i:Int)/\(i:Int) < (c.ns.length:Int):=by have:=(QC.1 f).1;omega
 obtain⟨k,o⟩:∃k:Nat,x.d.toNat=k+1:=⟨x.d.toNat - 1,by omega⟩;have e:x.d= ((k+1:Nat):Int):=by omega
 have a:Or od [Y'6,Y'7,AV.t (T.ae true),I x.d,I 0] [ad.box [Y'1,AV.t (T.ab 3 c.ed (aI c.ds)),AV.t (T.ab 5 c.en (aW c.ns)),AV.t (T.ab 1 c.eh (enc c.hs)),AV.t (T.str c.p),AV.t (T.ab 1 c.es (enc c.ss)),V'2,V'3],ad.box [V'4,V'5],ad.sl false 1 t.bits.isEmpty (bg t.bits),ad.sl false 1 t.to.isEmpty (enc t.to),ad.rows M.N.isEmpty 5 1 1 M.N.length (rows M.N),ad.mp false [Ck.s] (Ck.i .i64) (bZ M.K),ad.box [r0],ad.box [I x.op,ab x.ek x.ks,I x.n,I x.d,AV.t (T.str x.nm)]]=
   some [T.ab 1 false (enc (fg M x.n 0 (k+1)).1),T.ao,T.ab 3 c.ed (aI c.ds),T.ab 5 c.en (aW c.ns),T.ab 1 c.eh (enc c.hs),T.str c.p,T.ab 1 c.es (enc c.ss),T.ao,T.ao,RW ((fg M x.n 0 (k+1)).2).N,T.ao,T.ab 1 t.bits.isEmpty (bg t.bits),T.ab 1 t.to.isEmpty (enc t.to),EM ((fg M x.n 0 (k+1)).2).K]:=by
  have j:(0:Int) < x.d:=by omega
  have m:¬(0:Int) < 0:=by omega
  have r:=lU (show M.N.length<=100000 by omega) (jR x.n 0);obtain⟨h,z⟩:=iT q.ok (jR x.n 0);have u:i64.wrap (0+1)= ((1:Nat):Int):=by decide
  have g:=L7 (c:=c) (t:=t) (x:=x) (w:=k+1) (by omega) k 1 _ [(cQ M (jR x.n 0)).1] (by omega) h.ok (by have:=h.up;omega) rfl;rw [<-e] at g;rw [fg];refine ah ?_;rw [IL];simp only [aK,j,m,decide_true,cond_true,↓reduceIte];change U' (Or (.call 50) [r0,B (jR x.n 0)] _) _=_;simp only [aj,r,u,aV,aU,QD,aQ];exact g
 rw [o];refine ah ?_;rw [lH];simp (maxSteps:=1000000) only [aj,↓reduceIte,Int.reduceEq,l,and_self,dA,fi f,b];rw [b] at a;exact a
def fq(M:Mk):List Int->List Int×Mk
 | y::l=>((gz M y).1:: (fq (gz M y).2 l).1,(fq (gz M y).2 l).2)
 | []=>([],M)
theorem EV:∀{l:List Int} {M:Mk},Ok M->(∀y∈l,In M y)->
  Up M (fq M l).2 l.length/\(∀y∈(fq M l).1,In (fq M l).2 y)/\(fq M l).1.length=l.length
 | [],M,h,_=>⟨Up.refl h,λx g=>(by cases g),rfl⟩
 | y::l,M,h,hl=>by
  obtain⟨b,d⟩:=o9 h (hl y QA);obtain⟨c,e,f⟩:=EV (l:=l) b.ok (b.all λz a=>hl z (QB _ a));refine⟨(b.trans c).mono (by rw [QJ];omega),λz a=> ?_,by simp [fq,f]⟩;rcases QN.1 a with rfl | a
  .exact c.In d
  .exact e z a
theorem L9{c:Cx}{t:Tr}{e:Bool}{l:List Int}(hl:l.length<=100):∀(r:List Int) (j:Nat) (M:Mk) (a:List Int),l.drop j=r->j<=l.length->Ok M->(∀y∈r,In M y)->M.N.length+r.length<=60000->a.length=j->
  Or pG [Y'6,V'7,ab e l,I (l.length:Int),I (j:Int)] [ad.box [Y'1,AV.t (T.ab 3 c.ed (aI c.ds)),AV.t (T.ab 5 c.en (aW c.ns)),AV.t (T.ab 1 c.eh (enc c.hs)),AV.t (T.str c.p),AV.t (T.ab 1 c.es (enc c.ss)),V'2,V'3],ad.box [V'8,V'5],ad.sl false 1 t.bits.isEmpty (bg t.bits),ad.sl false 1 t.to.isEmpty (enc t.to),ad.dead,ad.mp false [Ck.s] (Ck.i .i64) (bZ M.K),ad.box [r0],ad.sl false 1 false (enc a),ad.rows M.N.isEmpty 5 1 1 M.N.length (rows M.N)]=
   some [T.ab 1 false (enc (a++ (fq M r).1)),T.ao,T.ab 3 c.ed (aI c.ds),T.ab 5 c.en (aW c.ns),T.ab 1 c.eh (enc c.hs),T.str c.p,T.ab 1 c.es (enc c.ss),T.ao,T.ao,RW ((fq M r).2).N,T.ao,T.ab 1 t.bits.isEmpty (bg t.bits),T.ab 1 t.to.isEmpty (enc t.to),EM ((fq M r).2).K]:=by
 intro r;induction r with
 | nil=>
  intro j M a g v h k n b;have f:¬(j:Int) < (l.length:Int):=by have:=bh g;omega
  refine ah ?_;rw [BR];simp only [aj,↓reduceIte,f,aT,fq,QX];rfl
 | cons y r w=>
  intro j M a g v h k n b;obtain⟨q,B,u⟩:=bm g;have f:(j:Int) < (l.length:Int):=by omega
  have h0: 0<=(j:Int):=by omega
  have o:=k y QA;rw [QJ] at n;have x:=qW h (show M.N.length<=100000 by omega) o;obtain⟨m,C⟩:=o9 h o;have A:bp 8 (a.length+1)=some ():=cC (by omega);have d:=w (j+1) _ (a++ [(gz M y).1]) u (by omega) m.ok (m.all λz d=>k z (QB _ d)) (by have:=m.up;omega) (by simp [b]);simp only [Q6,Rf] at d;rw [fq];refine ah ?_;rw [BR];simp only [aj,↓reduceIte,f,h0,and_self,x,aC,bH q,QM,A,next j (by omega),eK,aV,aU,QD,aT,aQ];exact d
theorem On{c:Cx}{t:Tr}{M:Mk}{x:Nd}{i:Nat}{s:Int}(A:c.ns[i]? =some x)(h:x.op=16){a:Int}(u:x.ks= [a])(g:KW c i a s)(w:aE s=true)(n:cJ c t M i)(G:M.N.length<=40000):
  Or (.call 27) [r0,I (i:Int)] [ad.box [Y'1,AV.t (T.ab 3 c.ed (aI c.ds)),AV.t (T.ab 5 c.en (aW c.ns)),AV.t (T.ab 1 c.eh (enc c.hs)),AV.t (T.str c.p),AV.t (T.ab 1 c.es (enc c.ss)),V'2,V'3],ad.box [V'4,V'5],ad.sl false 1 t.bits.isEmpty (bg t.bits),ad.sl false 1 t.to.isEmpty (enc t.to),ad.rows M.N.isEmpty 5 1 1 M.N.length (rows M.N),ad.mp false [Ck.s] (Ck.i .i64) (bZ M.K)]=some [T.ab 1 false (enc (fq M (aD t a)).1),T.ao,T.ab 3 c.ed (aI c.ds),T.ab 5 c.en (aW c.ns),T.ab 1 c.eh (enc c.hs),T.str c.p,T.ab 1 c.es (enc c.ss),T.ao,T.ao,RW ((fq M (aD t a)).2).N,T.ao,T.ab 1 t.bits.isEmpty (bg t.bits),T.ab 1 t.to.isEmpty (enc t.to),EM ((fq M (aD t a)).2).K]:=by
 have hl:=gw w;have F: 0<=(i:Int)/\(i:Int) < (c.ns.length:Int):=by have:=(QC.1 A).1;omega
 obtain⟨C,m,b⟩:=g.word n w;have f:=jc (c:=c) (t:=t) (M:=M) (x:=x) (j:=0) (k:=a) (by rw [u];rfl) g.h0 C;rw [h] at f;replace f:Or (.call 45) [I 0,r0,r1] _=_:=f
 have d:Or pG [Y'6,AV.t (T.ae true),ab (aD t a).isEmpty (aD t a),I ((aD t a).length:Int),I 0] [ad.box [Y'1,AV.t (T.ab 3 c.ed (aI c.ds)),AV.t (T.ab 5 c.en (aW c.ns)),AV.t (T.ab 1 c.eh (enc c.hs)),AV.t (T.str c.p),AV.t (T.ab 1 c.es (enc c.ss)),V'2,V'3],ad.box [V'7,V'5],ad.sl false 1 t.bits.isEmpty (bg t.bits),ad.sl false 1 t.to.isEmpty (enc t.to),ad.dead,ad.mp false [Ck.s] (Ck.i .i64) (bZ M.K),ad.box [r0],ad.rows M.N.isEmpty 5 1 1 M.N.length (rows M.N)]=
   some [T.ab 1 false (enc (fq M (aD t a)).1),T.ao,T.ab 3 c.ed (aI c.ds),T.ab 5 c.en (aW c.ns),T.ab 1 c.eh (enc c.hs),T.str c.p,T.ab 1 c.es (enc c.ss),T.ao,T.ao,RW ((fq M (aD t a)).2).N,T.ao,T.ab 1 t.bits.isEmpty (bg t.bits),T.ab 1 t.to.isEmpty (enc t.to),EM ((fq M (aD t a)).2).K]:=by
  revert m b;generalize aD t a=l;intro m b;cases l with
  | nil=>simp at m;omega
  | cons y r=>
   have B:=b y QA;have a:=qW n.ok (show M.N.length<=100000 by omega) B;obtain⟨q,H⟩:=o9 n.ok B;have E:(0:Int) < (((y::r).length:Nat):Int):=by simp
   have h0:(0:Int)<=0:=by omega
   have D:(enc (y::r))[(0:Int).toNat]? =some [ti y]:=rfl;have g:i64.wrap (0+1)= ((1:Nat):Int):=by decide
   have v:((y::r).length:Int)<=8:=by omega
   have o:=L9 (c:=c) (t:=t) (e:=(y::r).isEmpty) (l:=y::r) (by omega) r 1 _ [(gz M y).1] rfl (by simp) q.ok (q.all λz o=>b z (QB _ o)) (by have:=q.up;rw [QJ] at v;omega) rfl;rw [fq];refine ah ?_;rw [IM];simp only [aj,↓reduceIte,E,h0,and_self,a,aC,D,g,aV,aU,QD,aT,aQ];exact o
 refine ah ?_;rw [lH];simp (maxSteps:=1000000) only [aj,↓reduceIte,Int.reduceEq,F,and_self,dA,fi A,h,f,aC,aV,aU,QD,aT,aQ,cW];exact d
open Go Go.Aev Go.IntKind
def jP(M:Mk)(a:Int):List Int->Int×Mk
 | []=>(a,M)
 | y::l=>jP (cg M a y).2 (cg M a y).1 l
theorem AB:∀{l:List Int} {M:Mk} {a:Int},Ok M->In M a->(∀y∈l,In M y)->Up M (jP M a l).2 l.length/\In (jP M a l).2 (jP M a l).1
 | [],M,a,h,c,_=>⟨Up.refl h,c⟩
 | y::l,M,a,h,c,hl=>by obtain⟨b,d⟩:=gG h c (hl y QA);obtain⟨e,f⟩:=AB (l:=l) b.ok d (b.all λz g=>hl z (QB _ g));exact⟨(b.trans e).mono (by rw [QJ];omega),f⟩
def nT(M:Mk)(a b:List Int):Int×Mk:=
 jP (aR dK (cQ M true).2 a b).2 (cQ M true).1 (aR dK (cQ M true).2 a b).1
theorem PG{M:Mk}(h:Ok M){a b:List Int}(j:a.length=b.length)(g:∀x∈a,In M x)(i:∀x∈b,In M x):Up M (nT M a b).2 (1+ (1 * a.length+a.length))/\In (nT M a b).2 (nT M a b).1:=by obtain⟨d,n⟩:=iT h true;obtain⟨e,l,e3⟩:=ql (f:=dK) (c:=1) (λM a b h g i=>oX h g i) d.ok (d.all g) (d.all i) j;obtain⟨k,m⟩:=AB e.ok (e.In n) l;rw [e3] at k;exact⟨d.trans (e.trans k),m⟩
theorem Ma{c:Cx}{t:Tr}{e:Bool}{l:List Int}(hl:l.length<=100):∀(r:List Int) (j:Nat) (M:Mk) (a:Int),l.drop j=r->Ok M->In M a->(∀y∈r,In M y)->M.N.length+r.length<=60000->
  Or wN [r0,I a,ab e l,I (l.length:Int),I (j:Int)] [ad.box [Y'1,AV.t (T.ab 3 c.ed (aI c.ds)),AV.t (T.ab 5 c.en (aW c.ns)),AV.t (T.ab 1 c.eh (enc c.hs)),AV.t (T.str c.p),AV.t (T.ab 1 c.es (enc c.ss)),V'2,V'3],ad.box [V'6,V'5],ad.sl false 1 t.bits.isEmpty (bg t.bits),ad.sl false 1 t.to.isEmpty (enc t.to),ad.dead,ad.mp false [Ck.s] (Ck.i .i64) (bZ M.K),ad.rows M.N.isEmpty 5 1 1 M.N.length (rows M.N)]=some [ti (jP M a r).1,T.ao,T.ab 3 c.ed (aI c.ds),T.ab 5 c.en (aW c.ns),T.ab 1 c.eh (enc c.hs),T.str c.p,T.ab 1 c.es (enc c.ss),T.ao,T.ao,RW ((jP M a r).2).N,T.ao,T.ab 1 t.bits.isEmpty (bg t.bits),T.ab 1 t.to.isEmpty (enc t.to),EM ((jP M a r).2).K]:=by
 intro r;induction r with
 | nil=>
  intro j M a g h d f n;have b:¬(j:Int) < (l.length:Int):=by have:=bh g;omega
  refine ah ?_;rw [BW];simp only [aj,↓reduceIte,b,aT,jP];rfl
 | cons y r v=>
  intro j M a g h d f n;obtain⟨q,A,u⟩:=bm g;have b:(j:Int) < (l.length:Int):=by omega
  have h0: 0<=(j:Int):=by omega
  have o:=f y QA;rw [QJ] at n;have w:=la (show M.N.length<=100000 by omega) d o;obtain⟨m,x⟩:=gG h d o;have k:=v (j+1) _ _ u m.ok x (m.all λz k=>f z (QB _ k)) (by have:=m.up;omega);rw [jP];refine ah ?_;rw [BW];simp only [aj,↓reduceIte,b,h0,and_self,w,aC,bH q,next j (by omega),aV,aU,QD,aT,aQ];exact k
theorem Oz{c:Cx}{t:Tr}{M:Mk}{x:Nd}{i:Nat}{s:Int}(m:c.ns[i]? =some x)(l:x.op=22){d e:Int}(f:x.ks= [d,e])(n:KW c i d s)(o:KW c i e s)(h:aE s=true)(g:cJ c t M i)(H:M.N.length<=40000):
  Or (.call 28) [r0,I (i:Int)] [ad.box [Y'1,AV.t (T.ab 3 c.ed (aI c.ds)),AV.t (T.ab 5 c.en (aW c.ns)),AV.t (T.ab 1 c.eh (enc c.hs)),AV.t (T.str c.p),AV.t (T.ab 1 c.es (enc c.ss)),V'2,V'3],ad.box [V'4,V'5],ad.sl false 1 t.bits.isEmpty (bg t.bits),ad.sl false 1 t.to.isEmpty (enc t.to),ad.rows M.N.isEmpty 5 1 1 M.N.length (rows M.N),ad.mp false [Ck.s] (Ck.i .i64) (bZ M.K)]=some [ti (kO M (aD t d) (aD t e)).1,T.ao,T.ab 3 c.ed (aI c.ds),T.ab 5 c.en (aW c.ns),T.ab 1 c.eh (enc c.hs),T.str c.p,T.ab 1 c.es (enc c.ss),T.ao,T.ao,RW ((kO M (aD t d) (aD t e)).2).N,T.ao,T.ab 1 t.bits.isEmpty (bg t.bits),T.ab 1 t.to.isEmpty (enc t.to),EM ((kO M (aD t d) (aD t e)).2).K]:=by
 have hl:=gw h;have z: 0<=(i:Int)/\(i:Int) < (c.ns.length:Int):=by have:=(QC.1 m).1;omega
 obtain⟨j,F,q⟩:=n.word g h;obtain⟨k,G,r⟩:=o.word g h;have E:=(Gb g.ok (ea:=(aD t d).isEmpty) (eb:=(aD t e).isEmpty) (a:=aD t d) (b:=aD t e) (by omega) (by omega) q r (by omega)).1;have A:(0:Int)<=0/\(0:Int) < ((x.ks.length:Nat):Int):=by rw [f];simp
 have B:(0:Int)<=1/\(1:Int) < ((x.ks.length:Nat):Int):=by rw [f];simp
 have w:(enc x.ks)[0]? =some [ti d]:=by rw [f];rfl
 have y:(enc x.ks)[1]? =some [ti e]:=by rw [f];rfl
 have C: 0<=d/\d < (t.bits.length:Int):=by have:=(QC.1 j).1;have:=n.h0;omega
 have D: 0<=e/\e < (t.bits.length:Int):=by have:=(QC.1 k).1;have:=o.h0;omega
 have u:(bg t.bits)[d.toNat]? =some [LO (aD t d)]:=by simp [bg,j]
 have v:(bg t.bits)[e.toNat]? =some [LO (aD t e)]:=by simp [bg,k]
 refine ah ?_;rw [uC];simp (maxSteps:=1000000) only [aj,↓reduceIte,z,A,B,and_self,dA,fi m,l,aC,w,y,C,D,nf,u,v,E,aV,aU,QD,aT,cH];rfl
theorem OA{c:Cx}{t:Tr}{M:Mk}{x:Nd}{i:Nat}{s:Int}(z:c.ns[i]? =some x)(y:x.op=8){d g:Int}(k:x.ks= [d,g])(C:KW c i d s)(D:KW c i g s)(o:aE s=true)(n:cJ c t M i)(Z:M.N.length<=40000):
  Or (.call 28) [r0,I (i:Int)] [ad.box [Y'1,AV.t (T.ab 3 c.ed (aI c.ds)),AV.t (T.ab 5 c.en (aW c.ns)),AV.t (T.ab 1 c.eh (enc c.hs)),AV.t (T.str c.p),AV.t (T.ab 1 c.es (enc c.ss)),V'2,V'3],ad.box [V'4,V'5],ad.sl false 1 t.bits.isEmpty (bg t.bits),ad.sl false 1 t.to.isEmpty (enc t.to),ad.rows M.N.isEmpty 5 1 1 M.N.length (rows M.N),ad.mp false [Ck.s] (Ck.i .i64) (bZ M.K)]=some [ti (nT M (aD t d) (aD t g)).1,T.ao,T.ab 3 c.ed (aI c.ds),T.ab 5 c.en (aW c.ns),T.ab 1 c.eh (enc c.hs),T.str c.p,T.ab 1 c.es (enc c.ss),T.ao,T.ao,RW ((nT M (aD t d) (aD t g)).2).N,T.ao,T.ab 1 t.bits.isEmpty (bg t.bits),T.ab 1 t.to.isEmpty (enc t.to),EM ((nT M (aD t d) (aD t g)).2).K]:=by
 have hl:=gw o;have L: 0<=(i:Int)/\(i:Int) < (c.ns.length:Int):=by have:=(QC.1 z).1;omega
 obtain⟨q,r,u⟩:=C.word n o;obtain⟨v,Y,w⟩:=D.word n o;obtain⟨j,X⟩:=iT n.ok true;have V:=lU (show M.N.length<=100000 by omega) true;have B:=OX j.ok (ea:=(aD t d).isEmpty) (eb:=(aD t g).isEmpty) (a:=aD t d) (b:=aD t g) (by omega) (by omega) (j.all u) (j.all w) (by have:=j.up;omega);obtain⟨m,E,e3⟩:=ql (f:=dK) (c:=1) (λM a b h Q R=>oX h Q R) j.ok (j.all u) (j.all w) (show(aD t d).length= (aD t g).length by omega);have W:=Ma (c:=c) (t:=t) (e:=(aR dK (cQ M true).2 (aD t d) (aD t g)).1.isEmpty) (l:=(aR dK (cQ M true).2 (aD t d) (aD t g)).1) (by omega) (aR dK (cQ M true).2 (aD t d) (aD t g)).1 0 _ _ rfl m.ok (m.In X) E (by have:=j.up;have:=m.up;omega);have O:(0:Int)<=0/\(0:Int) < ((x.ks.length:Nat):Int):=by rw [k];simp
 have P:(0:Int)<=1/\(1:Int) < ((x.ks.length:Nat):Int):=by rw [k];simp
 have H:(enc x.ks)[0]? =some [ti d]:=by rw [k];rfl
 have J:(enc x.ks)[1]? =some [ti g]:=by rw [k];rfl
 have S: 0<=d/\d < (t.bits.length:Int):=by have:=(QC.1 q).1;have:=C.h0;omega
 have U: 0<=g/\g < (t.bits.length:Int):=by have:=(QC.1 v).1;have:=D.h0;omega
 have F:(bg t.bits)[d.toNat]? =some [LO (aD t d)]:=by simp [bg,q]
 have G:(bg t.bits)[g.toNat]? =some [LO (aD t g)]:=by simp [bg,v]
 have A:(aD t d).isEmpty=false:=by
  cases h:aD t d with
  | nil=>rw [h] at r;simp at r;omega
  | cons=>rfl
 rw [A] at B;refine ah ?_;rw [uC];simp (maxSteps:=1000000) only [aj,↓reduceIte,Int.reduceEq,L,O,P,and_self,dA,fi z,y,aC,H,J,S,U,nf,F,G,V,B,A,aV,aU,QD,aQ,cH];exact W
theorem Mb{c:Cx}{t:Tr}{M:Mk}{x:Nd}(h:Ok M)(J:M.N.length<=50000)(G:x.ks.length<=100)(m:∀k∈x.ks,0<=k/\t.to[k.toNat]? =some (bu t k)/\In M (bu t k))(ho:eF x.op)(B:eF x.n)(z:eF x.d)(hm:x.nm.size<=1000):∀(f:List Int) (j:Nat) (a:List Int),x.ks.drop j=f->j<=x.ks.length->a.length=j->a≠[]->a++f.map (bu t)=x.ks.map (bu t)->
  Or og [r0,Y'6,V'7,ab x.ek x.ks,I (x.ks.length:Int),I (j:Int)] [ad.box [Y'1,AV.t (T.ab 3 c.ed (aI c.ds)),AV.t (T.ab 5 c.en (aW c.ns)),AV.t (T.ab 1 c.eh (enc c.hs)),AV.t (T.str c.p),AV.t (T.ab 1 c.es (enc c.ss)),V'2,V'3],ad.box [V'4,V'5],ad.sl false 1 t.bits.isEmpty (bg t.bits),ad.sl false 1 t.to.isEmpty (enc t.to),ad.rows M.N.isEmpty 5 1 1 M.N.length (rows M.N),ad.mp false [Ck.s] (Ck.i .i64) (bZ M.K),ad.box [I x.op,ab x.ek x.ks,I x.n,I x.d,AV.t (T.str x.nm)],ad.sl false 1 false (enc a)]=some [ti (dq M x.op x.nm x.n x.d (x.ks.map (bu t))).1,T.ao,T.ab 3 c.ed (aI c.ds),T.ab 5 c.en (aW c.ns),T.ab 1 c.eh (enc c.hs),T.str c.p,T.ab 1 c.es (enc c.ss),T.ao,T.ao,RW ((dq M x.op x.nm x.n x.d (x.ks.map (bu t))).2).N,T.ao,T.ab 1 t.bits.isEmpty (bg t.bits),T.ab 1 t.to.isEmpty (enc t.to),EM ((dq M x.op x.nm x.n x.d (x.ks.map (bu t))).2).K]:=by
 intro f;induction f with
 | nil=>
  intro j a g A b o e;have q:¬(j:Int) < (x.ks.length:Int):=by have:=bh g;omega
  rw [Rz,QX] at e;have u:false=a.isEmpty:=by cases a with
   | nil=>exact absurd rfl o
   | cons=>rfl
  have l:=jF M (show M.N.length<=100000 by omega) x.op x.nm x.n x.d a false u (λy v=>by
   rw [e] at v;obtain⟨k,hm,rfl⟩:=Rb.1 v;exact(m k hm).2.2.i64 (by omega)) (by omega) ho B z (by omega)
  rw [<-e];refine ah ?_;rw [BV];simp only [aj,↓reduceIte,q,l,aV,aU,QD,aT];rfl
 | cons k f D=>
  intro j a g A b o e;obtain⟨r,H,w⟩:=bm g;have q:(j:Int) < (x.ks.length:Int):=by omega
  have h0: 0<=(j:Int):=by omega
  obtain⟨L,l,_⟩:=m k (QH r);have E: 0<=k/\k < (t.to.length:Int):=by have:=(QC.1 l).1;omega
  have F:bp 8 (a.length+1)=some ():=cC (by omega);have C:=D (j+1) (a++ [bu t k]) w (by omega) (by simp [b]) (by simp) (by rw [<-e];simp);refine ah ?_;rw [BV];simp only [aj,↓reduceIte,q,h0,and_self,aC,bH r,E,fj l,QM,F,next j (by omega),eK];exact C
theorem F5{c:Cx}{t:Tr}{M:Mk}{x:Nd}{i:Nat}(q:c.ns[i]? =some x)(g:x.op≠22)(O:x.op=8->∃a r,x.ks=a::r)(o:cJ c t M i)(U:M.N.length<=40000)(B:x.ks.length<=100)(A:∀k∈x.ks,∃s',KW c i k s'/\aE s'=false)(ho:eF x.op)(C:eF x.n)(z:eF x.d)(hm:x.nm.size<=1000):
  Or (.call 28) [r0,I (i:Int)] [ad.box [Y'1,AV.t (T.ab 3 c.ed (aI c.ds)),AV.t (T.ab 5 c.en (aW c.ns)),AV.t (T.ab 1 c.eh (enc c.hs)),AV.t (T.str c.p),AV.t (T.ab 1 c.es (enc c.ss)),V'2,V'3],ad.box [V'4,V'5],ad.sl false 1 t.bits.isEmpty (bg t.bits),ad.sl false 1 t.to.isEmpty (enc t.to),ad.rows M.N.isEmpty 5 1 1 M.N.length (rows M.N),ad.mp false [Ck.s] (Ck.i .i64) (bZ M.K)]=some [ti (dq M x.op x.nm x.n x.d (x.ks.map (bu t))).1,T.ao,T.ab 3 c.ed (aI c.ds),T.ab 5 c.en (aW c.ns),T.ab 1 c.eh (enc c.hs),T.str c.p,T.ab 1 c.es (enc c.ss),T.ao,T.ao,RW ((dq M x.op x.nm x.n x.d (x.ks.map (bu t))).2).N,T.ao,T.ab 1 t.bits.isEmpty (bg t.bits),T.ab 1 t.to.isEmpty (enc t.to),EM ((dq M x.op x.nm x.n x.d (x.ks.map (bu t))).2).K]:=by
 have w: 0<=(i:Int)/\(i:Int) < (c.ns.length:Int):=by have:=(QC.1 q).1;omega
 have m:∀k∈x.ks,0<=k/\t.to[k.toNat]? =some (bu t k)/\In M (bu t k):=λk hm=>by obtain⟨s',h,L⟩:=A k hm;exact⟨h.h0,(h.plain o L).2⟩
 have b:Or og [r0,Y'6,AV.t (T.ae true),ab x.ek x.ks,I (x.ks.length:Int),I 0] [ad.box [Y'1,AV.t (T.ab 3 c.ed (aI c.ds)),AV.t (T.ab 5 c.en (aW c.ns)),AV.t (T.ab 1 c.eh (enc c.hs)),AV.t (T.str c.p),AV.t (T.ab 1 c.es (enc c.ss)),V'2,V'3],ad.box [V'4,V'5],ad.sl false 1 t.bits.isEmpty (bg t.bits),ad.sl false 1 t.to.isEmpty (enc t.to),ad.rows M.N.isEmpty 5 1 1 M.N.length (rows M.N),ad.mp false [Ck.s] (Ck.i .i64) (bZ M.K),ad.box [I x.op,ab x.ek x.ks,I x.n,I x.d,AV.t (T.str x.nm)]]=some [ti (dq M x.op x.nm x.n x.d (x.ks.map (bu t))).1,T.ao,T.ab 3 c.ed (aI c.ds),T.ab 5 c.en (aW c.ns),T.ab 1 c.eh (enc c.hs),T.str c.p,T.ab 1 c.es (enc c.ss),T.ao,T.ao,RW ((dq M x.op x.nm x.n x.d (x.ks.map (bu t))).2).N,T.ao,T.ab 1 t.bits.isEmpty (bg t.bits),T.ab 1 t.to.isEmpty (enc t.to),EM ((dq M x.op x.nm x.n x.d (x.ks.map (bu t))).2).K]:=by
  cases e:x.ks with
  | nil=>have a:=jF M (show M.N.length<=100000 by omega) x.op x.nm x.n x.d [] true rfl (λy P=>by cases P) (by simp) ho C z (by omega);replace a:Or (.call 46) [r0,I x.op,AV.t (T.str x.nm),I x.n,I x.d,AV.t (T.ab 1 true [])] (dt M)=_:=a;refine ah ?_;rw [BU];simp only [aj,↓reduceIte,QW,Re,Rl,decide_false,a,aV,aU,QD,aT];rfl
  | cons k u=>
   obtain⟨V,a,_⟩:=m k (by rw [e];exact QA);have Q: 0<=k/\k < (t.to.length:Int):=by have:=(QC.1 a).1;omega
   have D:=Mb (c:=c) (t:=t) (M:=M) (x:=x) o.ok (by omega) B m ho C z hm u 1 [bu t k] (by rw [e];rfl) (by rw [e];simp) rfl (by simp) (by rw [e];rfl);have h:(0:Int) < (((k::u).length:Nat):Int):=by simp
   have h0:(0:Int)<=0:=by omega
   have H:(enc (k::u))[(0:Int).toNat]? =some [ti k]:=rfl;have j:i64.wrap (0+1)= ((1:Nat):Int):=by decide
   rw [e] at D;refine ah ?_;rw [BU];simp only [aj,↓reduceIte,h,h0,and_self,aC,H,Q,fj a,j];exact D
 have l:(x.op==22)=false:=by simpa using g
 by_cases c8:x.op=8
 .obtain⟨a,r,f⟩:=O c8;have J:(0:Int)<=0/\(0:Int) < ((x.ks.length:Nat):Int):=by rw [f];simp
  have G:(enc x.ks)[0]? =some [ti a]:=by rw [f];rfl
  obtain⟨s',j,S⟩:=A a (by rw [f];exact QA);obtain⟨v,_⟩:=j.plain o S;have R: 0<=a/\a < (t.bits.length:Int):=by have:=(QC.1 v).1;have:=j.h0;omega
  have F:(bg t.bits)[a.toNat]? =some [LO []]:=by simp [bg,v]
  refine ah ?_;rw [uC];simp (maxSteps:=1000000) only [aj,↓reduceIte,Int.reduceEq,w,J,and_self,dA,fi q,c8,aC,G,R,nf,F,cH,TE];rw [c8] at b;exact b
 .have E:(x.op==8)=false:=by simpa using c8
  refine ah ?_;rw [uC];simp (maxSteps:=1000000) only [aj,↓reduceIte,w,and_self,dA,fi q,E,g,c8,bq,aC];exact b
structure pL (c:Cx) (i:Nat) (x:Nd) (s:Int):Prop where
 op: 1<=x.op/\x.op<=25
 kl:x.ks.length<=8
 n: -1000000<=x.n/\x.n<=1000000
 d: -1000000<=x.d/\x.d<=1000000
 nm:x.nm.size<=12
 k:∀k∈x.ks,∃s',KW c i k s'
 c3:x.op=3->∃k r,x.ks=k::r
 c7:x.op=7->∃a b d,x.ks= [a,b,d]/\KW c i a 1/\KW c i b s/\KW c i d s
 c8:x.op=8->aE s=false/\∃a b s',x.ks= [a,b]/\((aE s'=true/\KW c i a s'/\KW c i b s')\/∀k∈x.ks,∃s',KW c i k s'/\aE s'=false)
 gq:x.op=15->x.ks= []/\1<=x.d/\x.d<=8/\0<=x.n/\x.n < 2 ^ x.d.toNat/\s=10+x.d
 ff:x.op=16\/x.op=23->aE s=true/\∃a,x.ks= [a]/\KW c i a s
 gT: 17<=x.op->x.op<=21->aE s=true/\∃a b,x.ks= [a,b]/\KW c i a s/\KW c i b s
 eW:x.op=22->aE s=false/\∃a b s',aE s'=true/\x.ks= [a,b]/\KW c i a s'/\KW c i b s'
 bx:x.op=23->0<=x.n/\x.n<=8
 pl:x.op≠7->x.op≠8->(x.op < 15\/24<=x.op)->(x.op≠9->aE s=false)/\∀k∈x.ks,∃s',KW c i k s'/\aE s'=false
def fC(c:Cx)(t:Tr)(M:Mk)(x:Nd)(s:Int):List Int×Mk:=
 if x.op=9 then dc M (c.p++it (bf c.ds x.nm)++us) (x.ks.map (bu t)) 0 (s - 10).toNat
 else if x.op=7 then aR (cS (bu t (x.ks.getD 0 0))) M (aD t (x.ks.getD 1 0)) (aD t (x.ks.getD 2 0))
 else if x.op=15 then fg M x.n 0 x.d.toNat
 else if x.op=16 then fq M (aD t (x.ks.getD 0 0))
 else if x.op=17 then aR cg M (aD t (x.ks.getD 0 0)) (aD t (x.ks.getD 1 0))
 else if x.op=18 then aR eC M (aD t (x.ks.getD 0 0)) (aD t (x.ks.getD 1 0))
 else if x.op=19 then aR bw M (aD t (x.ks.getD 0 0)) (aD t (x.ks.getD 1 0))
 else if x.op=20 then dB M (aD t (x.ks.getD 0 0)) (aD t (x.ks.getD 1 0))
 else if x.op=21 then je M (aD t (x.ks.getD 0 0)) (aD t (x.ks.getD 1 0))
 else bt M (aD t (x.ks.getD 0 0)) x.n
def gB(t:Tr)(M:Mk)(x:Nd):Int×Mk:=
 if x.op=22 then kO M (aD t (x.ks.getD 0 0)) (aD t (x.ks.getD 1 0))
 else if x.op=8/\(aD t (x.ks.getD 0 0)).isEmpty=false then nT M (aD t (x.ks.getD 0 0)) (aD t (x.ks.getD 1 0))
 else dq M x.op x.nm x.n x.d (x.ks.map (bu t))
theorem y6{l:List Int}(h: 1<=l.length):l.isEmpty=false:=by cases l with
 | nil=>simp at h
 | cons=>rfl
theorem vt{l:List Int}{n:Nat}(h:l.length=n)(a: 1<=n):T.ab 1 false (enc l)=T.ab 1 l.isEmpty (enc l):=by rw [y6 (l:=l) (by omega)]
theorem vf:aE 1=false:=rfl
theorem G4{c:Cx}{t:Tr}{M:Mk}{x:Nd}{i:Nat}{s:Int}(F:c.ns[i]? =some x)(hs:c.ss[i]? =some s)(m:aE s=true)(ok:pL c i x s)(l:cJ c t M i)(hds:c.ds.length<=100)(hp:c.p.size<=100)(E:M.N.length<=40000):
  Or (.call 27) [r0,I (i:Int)] [ad.box [Y'1,AV.t (T.ab 3 c.ed (aI c.ds)),AV.t (T.ab 5 c.en (aW c.ns)),AV.t (T.ab 1 c.eh (enc c.hs)),AV.t (T.str c.p),AV.t (T.ab 1 c.es (enc c.ss)),V'2,V'3],ad.box [V'4,V'5],ad.sl false 1 t.bits.isEmpty (bg t.bits),ad.sl false 1 t.to.isEmpty (enc t.to),ad.rows M.N.isEmpty 5 1 1 M.N.length (rows M.N),ad.mp false [Ck.s] (Ck.i .i64) (bZ M.K)]=some [T.ab 1 (fC c t M x s).1.isEmpty (enc (fC c t M x s).1),T.ao,T.ab 3 c.ed (aI c.ds),T.ab 5 c.en (aW c.ns),T.ab 1 c.eh (enc c.hs),T.str c.p,T.ab 1 c.es (enc c.ss),T.ao,T.ao,RW ((fC c t M x s).2).N,T.ao,T.ab 1 t.bits.isEmpty (bg t.bits),T.ab 1 t.to.isEmpty (enc t.to),EM ((fC c t M x s).2).K]/\
   Up M (fC c t M x s).2 1000/\(∀y∈(fC c t M x s).1,In (fC c t M x s).2 y)/\((fC c t M x s).1.length:Int)=s - 10:=by
 have hl:=gw m;have L:∀{a b:Int},x.ks= [a,b]->x.ks.getD 0 0=a/\x.ks.getD 1 0=b:=λe=>by rw [e];exact⟨rfl,rfl⟩
 unfold fC;by_cases c9:x.op=9
 .have hk:=(ok.pl (by omega) (by omega) (by omega)).2;have hkin:∀y∈x.ks.map (bu t),In M y:=λy hy=>by
   obtain⟨k,hm,rfl⟩:=Rb.1 hy;obtain⟨s',h1,h4⟩:=hk k hm;exact(h1.plain l h4).2.2
  have q:=Oy F hs c9 m l hds hp (by have:=ok.kl;omega) hk E;obtain⟨o,u,u3⟩:=EJ (pre:=c.p++it (bf c.ds x.nm)++us) (kids:=x.ks.map (bu t)) (k:=(s - 10).toNat) (b:=0) l.ok hkin (by have:=ok.kl;simp;omega);rw [vt u3 (by omega)] at q;rw [if_pos c9];exact⟨q,o.mono (by omega),u,by omega⟩
 rw [if_neg c9];by_cases c7:x.op=7
 .obtain⟨a,b,d,j,w0,r,v⟩:=ok.c7 c7;have q:=Ox F c7 j w0 vf r v m l E;obtain⟨_,_,p2⟩:=w0.plain l vf;obtain⟨O,P,w⟩:=r.word l m;obtain⟨S,U,C⟩:=v.word l m;have up:Up M (aR (cS (bu t a)) M (aD t b) (aD t d)).2 (1 * (aD t b).length)/\(∀y∈(aR (cS (bu t a)) M (aD t b) (aD t d)).1,In (aR (cS (bu t a)) M (aD t b) (aD t d)).2 y)/\(aR (cS (bu t a)) M (aD t b) (aD t d)).1.length= (aD t b).length:=by
   have gen:∀(D B:List Int) (A:Mk),Ok A->In A (bu t a)->(∀y∈D,In A y)->(∀y∈B,In A y)->D.length=B.length->
     Up A (aR (cS (bu t a)) A D B).2 (1 * D.length)/\(∀y∈(aR (cS (bu t a)) A D B).1,In (aR (cS (bu t a)) A D B).2 y)/\(aR (cS (bu t a)) A D B).1.length=D.length:=by
    intro D;induction D with
    | nil=>intro B A h0 _ _ _ _;rw [show aR (cS (bu t a)) A [] B= ([],A) by simp [aR]];exact⟨Up.refl h0,λy hy=>(by cases hy),rfl⟩
    | cons y D ih=>
     intro B A h0 hc h1 h2 e;cases B with
     | nil=>cases e
     | cons z B=>
      obtain⟨o,u⟩:=zj h0 hc (h1 y QA) (h2 z QA);obtain⟨h3,h4,h5⟩:=ih B _ o.ok (o.In hc) (o.all λz Q=>h1 z (QB _ Q)) (o.all λz Q=>h2 z (QB _ Q)) (by simpa using e);refine⟨(o.trans h3).mono (by rw [QJ];omega),λz Q=> ?_,by simp [aR,h5]⟩;rcases QN.1 Q with rfl | Q
      .exact h3.In u
      .exact h4 z Q
   exact gen _ _ M l.ok p2 w C (by omega)
  obtain⟨o,u,u3⟩:=up;have g:x.ks.getD 0 0=a/\x.ks.getD 1 0=b/\x.ks.getD 2 0=d:=by rw [j];exact⟨rfl,rfl,rfl⟩
  rw [vt u3 (by omega)] at q;rw [if_pos c7,g.1,g.2.1,g.2.2];exact⟨q,o.mono (by omega),u,by omega⟩
 rw [if_neg c7];by_cases gq:x.op=15
 .obtain⟨j,aP,hd2,hn1,hn2,hs'⟩:=ok.gq gq;have q:=Om F gq ⟨aP,hd2⟩ l E;obtain⟨o,u,u3⟩:=Bh (n:=x.n) (k:=x.d.toNat) (b:=0) l.ok;rw [vt u3 (by omega)] at q;rw [if_pos gq];exact⟨q,o.mono (by omega),u,by omega⟩
 rw [if_neg gq];by_cases ff:x.op=16
 .obtain⟨_,a,j,r⟩:=ok.ff (.inl ff);have q:=On F ff j r m l E;obtain⟨O,P,w⟩:=r.word l m;obtain⟨o,u,u3⟩:=EV l.ok w;rw [vt u3 (by omega)] at q;rw [if_pos ff,show x.ks.getD 0 0=a by rw [j];rfl];exact⟨q,o.mono (by omega),u,by omega⟩
 rw [if_neg ff];by_cases gT:x.op=17
 .obtain⟨_,a,b,j,r,v⟩:=ok.gT (by omega) (by omega);have q:=Oo F gT j r v m l E;obtain⟨O,P,w⟩:=r.word l m;obtain⟨S,U,C⟩:=v.word l m;obtain⟨o,u,u3⟩:=ql (f:=cg) (c:=1) (λM a b h Z hb=>gG h Z hb) l.ok w C (show(aD t a).length= (aD t b).length by omega);obtain⟨G,H⟩:=L j;rw [if_pos gT,G,H];refine⟨q,o.mono ?_,u,by omega⟩;have R:(aD t a).length<=8:=by omega
  have J:(aD t b).length<=8:=by omega
  omega
 rw [if_neg gT];by_cases V:x.op=18
 .obtain⟨_,a,b,j,r,v⟩:=ok.gT (by omega) (by omega);have q:=Oq F V j r v m l E;obtain⟨O,P,w⟩:=r.word l m;obtain⟨S,U,C⟩:=v.word l m;obtain⟨o,u,u3⟩:=ql (f:=eC) (c:=1) (λM a b h Z hb=>pd h Z hb) l.ok w C (show(aD t a).length= (aD t b).length by omega);obtain⟨G,H⟩:=L j;rw [if_pos V,G,H];refine⟨q,o.mono ?_,u,by omega⟩;have R:(aD t a).length<=8:=by omega
  have J:(aD t b).length<=8:=by omega
  omega
 rw [if_neg V];by_cases W:x.op=19
 .obtain⟨_,a,b,j,r,v⟩:=ok.gT (by omega) (by omega);have q:=Ot F W j r v m l E;obtain⟨O,P,w⟩:=r.word l m;obtain⟨S,U,C⟩:=v.word l m;obtain⟨o,u,u3⟩:=ql (f:=bw) (c:=2) (λM a b h Z hb=>n5 h Z hb) l.ok w C (show(aD t a).length= (aD t b).length by omega);obtain⟨G,H⟩:=L j;rw [if_pos W,G,H];refine⟨q,o.mono ?_,u,by omega⟩;have R:(aD t a).length<=8:=by omega
  have J:(aD t b).length<=8:=by omega
  omega
 rw [if_neg W];by_cases X:x.op=20
 .obtain⟨_,a,b,j,r,v⟩:=ok.gT (by omega) (by omega);have q:=Ou F X j r v m l E;obtain⟨O,P,w⟩:=r.word l m;obtain⟨S,U,C⟩:=v.word l m;obtain⟨o,u,u3⟩:=GF l.ok w C (show(aD t a).length= (aD t b).length by omega);obtain⟨G,H⟩:=L j;rw [if_pos X,G,H];refine⟨q,o.mono ?_,u,by omega⟩;have R:(aD t a).length<=8:=by omega
  have J:(aD t b).length<=8:=by omega
  omega
 rw [if_neg X];by_cases Y:x.op=21
 .obtain⟨_,a,b,j,r,v⟩:=ok.gT (by omega) (by omega);have q:=Ov F Y j r v m l E;obtain⟨O,P,w⟩:=r.word l m;obtain⟨S,U,C⟩:=v.word l m;obtain⟨o,u,u3⟩:=P9 l.ok w C;obtain⟨G,H⟩:=L j;rw [if_pos Y,G,H];refine⟨q,o.mono ?_,u,by omega⟩;have R:(aD t a).length<=8:=by omega
  have J:(aD t b).length<=8:=by omega
  have:=TK (show 9 * (aD t a).length+1<=73 by omega) J;omega
 rw [if_neg Y];have bx:x.op=23:=by
  rcases Tn (x.op=23) with h | h
  .exact h
  .exfalso;have hop:=ok.op;by_cases eW:x.op=22
   .rw [(ok.eW eW).1] at m;cases m
   by_cases c8:x.op=8
   .rw [(ok.c8 c8).1] at m;cases m
   .have:=(ok.pl c7 c8 (by omega)).1 c9;rw [this] at m;cases m
 obtain⟨_,a,j,r⟩:=ok.ff (.inr bx);have hn:=ok.bx bx;have q:=Ow F bx j r hn m l E;obtain⟨O,P,w⟩:=r.word l m;obtain⟨o,u,u3⟩:=sD (n:=x.n) hn.1 l.ok w;rw [show x.ks.getD 0 0=a by rw [j];rfl];exact⟨q,o.mono (by omega),u,by omega⟩
theorem Fi{c:Cx}{t:Tr}{M:Mk}{x:Nd}{i:Nat}{s:Int}(D:c.ns[i]? =some x)(u:aE s=false)(ok:pL c i x s)(g:cJ c t M i)(C:M.N.length<=40000):
  Or (.call 28) [r0,I (i:Int)] [ad.box [Y'1,AV.t (T.ab 3 c.ed (aI c.ds)),AV.t (T.ab 5 c.en (aW c.ns)),AV.t (T.ab 1 c.eh (enc c.hs)),AV.t (T.str c.p),AV.t (T.ab 1 c.es (enc c.ss)),V'2,V'3],ad.box [V'4,V'5],ad.sl false 1 t.bits.isEmpty (bg t.bits),ad.sl false 1 t.to.isEmpty (enc t.to),ad.rows M.N.isEmpty 5 1 1 M.N.length (rows M.N),ad.mp false [Ck.s] (Ck.i .i64) (bZ M.K)]=some [ti (gB t M x).1,T.ao,T.ab 3 c.ed (aI c.ds),T.ab 5 c.en (aW c.ns),T.ab 1 c.eh (enc c.hs),T.str c.p,T.ab 1 c.es (enc c.ss),T.ao,T.ao,RW ((gB t M x).2).N,T.ao,T.ab 1 t.bits.isEmpty (bg t.bits),T.ab 1 t.to.isEmpty (enc t.to),EM ((gB t M x).2).K]/\Up M (gB t M x).2 1000/\In (gB t M x).2 (gB t M x).1:=by
 have Y:=ok.op;have hn:=ok.n;have hd:=ok.d;have A:∀{a b:Int},x.ks= [a,b]->x.ks.getD 0 0=a/\x.ks.getD 1 0=b:=λe=>by rw [e];exact⟨rfl,rfl⟩
 have E:(∀k∈x.ks,∃s',KW c i k s'/\aE s'=false)->∀y∈x.ks.map (bu t),In M y:=λo y W=>by obtain⟨k,hm,rfl⟩:=Rb.1 W;obtain⟨s',H,V⟩:=o k hm;exact(H.plain g V).2.2
 unfold gB;by_cases eW:x.op=22
 .obtain⟨_,a,b,s',j,f,l,m⟩:=ok.eW eW;have hl:=gw j;have q:=Oz D eW f l m j g C;obtain⟨L,O,F⟩:=l.word g j;obtain⟨P,Q,G⟩:=m.word g j;obtain⟨_,v,w⟩:=Gb g.ok (ea:=true) (eb:=true) (a:=aD t a) (b:=aD t b) (by omega) (by omega) F G (by omega);obtain⟨z,B⟩:=A f;rw [if_pos eW,z,B];exact⟨q,v.mono (by omega),w⟩
 rw [if_neg eW];by_cases c8:x.op=8
 .obtain⟨_,a,b,s',f,⟨j,l,m⟩ | o⟩:=ok.c8 c8
  .have hl:=gw j;have q:=OA D c8 f l m j g C;obtain⟨L,O,F⟩:=l.word g j;obtain⟨P,Q,G⟩:=m.word g j;obtain⟨v,w⟩:=PG g.ok (show(aD t a).length= (aD t b).length by omega) F G;obtain⟨z,B⟩:=A f;rw [z,B,if_pos ⟨c8,y6 (by omega)⟩];exact⟨q,v.mono (by omega),w⟩
  .have q:=F5 D eW (λ_=>⟨a,[b],f⟩) g C (by have:=ok.kl;omega) o ⟨by omega,by omega⟩ ⟨by omega,by omega⟩ ⟨by omega,by omega⟩ (by have:=ok.nm;omega);obtain⟨v,w⟩:=jB g.ok x.op x.nm x.n x.d (x.ks.map (bu t)) (E o) (λe=>by omega) (by have:=ok.kl;simp;omega);obtain⟨z,B⟩:=A f;obtain⟨s2,l,m⟩:=o a (by rw [f];exact QA);obtain⟨R,_⟩:=l.plain g m;have S:aD t a= []:=by unfold aD;rw [QI,R];rfl
   rw [if_neg (by rw [z,S];simp)];exact⟨q,v.mono (by omega),w⟩
 .have o:∀k∈x.ks,∃s',KW c i k s'/\aE s'=false:=by
   by_cases c7:x.op=7
   .obtain⟨a,b,d,f,X,l,m⟩:=ok.c7 c7;intro k hm;rw [f] at hm;simp only [QN,RR,or_false] at hm;rcases hm with rfl | rfl | rfl
    .exact⟨_,X,vf⟩
    .exact⟨_,l,u⟩
    .exact⟨_,m,u⟩
   .refine(ok.pl c7 c8 ?_).2;rcases Tn (x.op < 15\/24<=x.op) with h | h
    .exact h
    .exfalso;by_cases gq:x.op=15
     .obtain⟨_,H,Z,_,_,U⟩:=ok.gq gq;subst U;unfold aE at u;simp at u;omega
     by_cases ff:x.op=16\/x.op=23
     .rw [(ok.ff ff).1] at u;cases u
     .rw [(ok.gT (by omega) (by omega)).1] at u;cases u
  have q:=F5 D eW (λe=>absurd e c8) g C (by have:=ok.kl;omega) o ⟨by omega,by omega⟩ ⟨by omega,by omega⟩ ⟨by omega,by omega⟩ (by have:=ok.nm;omega);obtain⟨v,w⟩:=jB g.ok x.op x.nm x.n x.d (x.ks.map (bu t)) (E o) (λe=>by
   obtain⟨k,r,J⟩:=ok.c3 e;exact⟨bu t k,r.map (bu t),by rw [J];rfl⟩) (by have:=ok.kl;simp;omega)
  rw [if_neg (λe=>c8 e.1)];exact⟨q,v.mono (by omega),w⟩
end Go.Aev.Gen
