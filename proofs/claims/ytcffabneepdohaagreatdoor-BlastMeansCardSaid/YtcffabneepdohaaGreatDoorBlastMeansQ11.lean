import Derived.Test.YtcffabneepdohaaGreatDoorBlastMeansQ10
import Derived.Test.YtcffabneepdohaaGreatDoorBlastMeansQ5
import Derived.Lib.ItoaLen
import Derived.Lib.Strings
set_option linter.all false
namespace Go.Aev.Gen
open Go Go.Aev Go.IntKind
noncomputable abbrev Or:aq:=mU aj ann
abbrev ti(n:Int):T:= .int .i64 n
abbrev tb(b:Bool):T:= .bool b
abbrev o0:AV:=V'0
abbrev o1:AV:=V'1
abbrev o2:AV:=V'2
abbrev o3:AV:=V'3
abbrev o4:AV:=V'4
abbrev o5:AV:=V'5
abbrev r0:AV:=Y'0
abbrev r1:AV:=Y'1
theorem br{c:Type}{l:List c}{i:Nat}{r:c}{b:List c}(h:l.drop i=r::b):l[i]? =some r/\i < l.length/\l.drop (i+1)=b:=by
 have a:i < l.length:=by
  rcases Ys i l.length with g | g
  .exact g
  .rw [Yo g] at h;cases h
 rw [Yx a] at h;simp only [XD] at h;exact⟨by rw [Wv a,h.1],a,h.2⟩
theorem bt{a:Type}{l:List a}{i:Nat}(h:l.drop i= []):l.length<=i:=by simpa using h
def enc(l:List Int):List (List T):=l.map λn=> [.int .i64 n]
theorem aD(l:List Int):(enc l).length=l.length:=by simp [enc]
theorem bP{l:List Int}{i:Nat}{r:Int}(h:l[i]? =some r):(enc l)[((i:Nat):Int).toNat]? =some [ti r]:=by simp [enc,h]
theorem fS{l:List Int}{i:Nat}{r:Int}(h:l[i]? =some r):(enc l)[i]? =some [ti r]:=by simp [enc,h]
theorem OW(l:List Int)(x:Int):enc l++ [[ti x]]=enc (l++ [x]):=by simp [enc]
theorem next(i:Nat)(h:i<=1000000):i64.wrap ((i:Int)+1)= ((i+1:Nat):Int):=by rw [wr (by omega)];omega
theorem cM{a n:Nat}(h:n<=1000000):bA a n=some ():=by unfold bA;rw [if_pos (.inl (by unfold nQ;omega))]
abbrev ad(e:Bool)(l:List Int):AV:=AV.t (T.ad 1 e (enc l))
abbrev fv(n:Int):Prop:= -9223372036854775808<=n/\n<=9223372036854775807
def it(n:Int):ByteArray:=⟨(Go.Lib.itoa n).toArray⟩
theorem jN{n:Int}(h:fv n):(it n).size<=21:=by have:=Go.Lib.itoa_length_le n h.1 h.2;simpa [it,ByteArray.size] using this
theorem jT{n:Int}(h:fv n):Or (.call 36) [I n] []=some [T.str (it n)]:=by
 refine ai ?_;have:ann.ext 36 [I n] []=some [T.str (it n)]:=by show(if fv n then some [T.str (it n)] else none)=_;rw [if_pos h]
 show(match ann.ext 36 [I n] [] with | some r=>some r | none=>_)=_;rw [this]
theorem Eo(a b:ByteArray):(a==b)=decide (a=b):=by
 obtain⟨a⟩:=a;obtain⟨b⟩:=b;show(a==b)=_;by_cases h:a=b
 .subst h;simp
 .simp [h]
abbrev sp:ByteArray:=ByteArray.mk #[(32:UInt8)]
abbrev us:ByteArray:=ByteArray.mk #[(95:UInt8)]
abbrev s0:ByteArray:=ByteArray.mk #[]
theorem uy:sp.size=1:=rfl
theorem hU:us.size=1:=rfl
structure Nd where
 op:Int
 ek:Bool
 ks:List Int
 n:Int
 d:Int
 nm:ByteArray
def qz(k:Nat)(x:Nd):Row:=Row.mk k [ti x.op,T.ax,ti x.n,ti x.d,T.str x.nm] (some (x.ek,enc x.ks))
def gO:Nat->List Nd->List Row
 | _,[]=> []
 | k,x::r=>qz k x::gO (k+1) r
abbrev rows(l:List Nd):List Row:=gO 0 l
theorem JJ:∀(k:Nat) (l:List Nd),(gO k l).length=l.length
 | _,[]=>rfl
 | k,x::r=>by rw [gO,Wz,JJ,Wz]
theorem JL(x:Nd):∀(k:Nat) (l:List Nd),gO k (l++ [x])=gO k l++ [qz (k+l.length) x]
 | _,[]=>rfl
 | k,y::r=>by rw [Xp,gO,JL x (k+1) r,gO,Wz,Xp,show k+1+r.length=k+ (r.length+1) by omega]
theorem JI:∀{k:Nat} {l:List Nd} {i:Nat} {x:Nd},l[i]? =some x->(gO k l)[i]? =some (qz (k+i) x)
 | _,[],_,_,h=>by simp at h
 | k,y::r,0,x,h=>by simp at h;subst h;rfl
 | k,y::r,i+1,x,h=>by rw [gO,XH,JI (by simpa using h),show k+1+i=k+ (i+1) by omega]
theorem JH:∀{k:Nat} {l:List Nd} {i:Nat} {x:Nd},l[i]? =some x->cP (k+i) (gO k l)=some (x.ek,enc x.ks)
 | _,[],_,_,h=>by simp at h
 | k,y::r,0,x,h=>by simp at h;subst h;simp [gO,qz,cP]
 | k,y::r,i+1,x,h=>by have a:=JH (k:=k+1) (l:=r) (i:=i) (x:=x) (by simpa using h);rw [show k+1+i=k+ (i+1) by omega] at a;rw [gO,cP,if_neg (by simp [qz]),a]
theorem CX{l:List Nd}{i:Nat}{x:Nd}(h:l[i]? =some x):(rows l)[i]? =some (qz i x):=by have:=JI (k:=0) h;rwa [WZ] at this
theorem CW{l:List Nd}{i:Nat}{x:Nd}(h:l[i]? =some x):cP i (rows l)=some (x.ek,enc x.ks):=by have:=JH (k:=0) h;rwa [WZ] at this
theorem JK:∀(k:Nat) (l:List Nd),bf (gO k l)=true
 | _,[]=>rfl
 | k,x::r=>by have a:=JK (k+1) r;unfold bf at a⊢;rw [gO,XI,a];rfl
theorem JG:∀(k:Nat) (l:List Nd),ry k ((gO k l).map λe=> [.ptr e.cs,uk e])=some (gO k l)
 | _,[]=>rfl
 | k,x::r=>by have a:=JG (k+1) r;rw [gO,WL];show(ry (k+1) ((gO (k+1) r).map λe=> [.ptr e.cs,uk e])).bind _=_;rw [a];rfl
def RW(l:List Nd):T:=bu l.isEmpty (rows l)
theorem be(l:List Nd):kC (RW l)=some (l.isEmpty,rows l):=by have h:=JG 0 l;show(ry 0 ((gO 0 l).map λe=> [.ptr e.cs,uk e])).bind _=_;rw [h];rfl
theorem aZ(l:List Nd):bf (rows l)=true:=JK 0 l
theorem aW(l:List Nd):(rows l).length=l.length:=JJ 0 l
def cC(K:List (ByteArray×Int)):List (List T×T):=K.map λp=>([T.str p.1],ti p.2)
def lk(s:ByteArray):List (ByteArray×Int)->Option Int
 | []=>none
 | (k,v)::r=>if s=k then some v else lk s r
theorem Cn(s:ByteArray):∀K:List (ByteArray×Int),iv [T.str s] (cC K)= (lk s K).map ti
 | []=>rfl
 | (k,v)::r=>by
  have a:=Cn s r;unfold cC at a⊢;rw [WL,iv,lk];simp only [eZ,oB,XF,Eo];by_cases h:s=k
  .simp [h]
  .simp only [h,decide_false,cond_false,↓reduceIte];exact a
theorem Il{s:ByteArray}(v:Int):∀{K:List (ByteArray×Int)},lk s K=none->jr [T.str s] (ti v) (cC K)=cC (K++ [(s,v)])
 | [],_=>rfl
 | (k,u)::r,h=>by
  rw [lk] at h;by_cases e:s=k
  .rw [if_pos e] at h;cases h
  .rw [if_neg e] at h;have a:=Il v h;unfold cC at a⊢;rw [Xp,WL,WL,jr];simp only [eZ,oB,XF,Eo,e,decide_false,cond_false];rw [a]
theorem EV:∀K:List (ByteArray×Int),vt ((cC K).map λp=> [.ptr p.1,p.2])=some (cC K)
 | []=>rfl
 | p::r=>by have a:=EV r;unfold cC at a⊢;rw [WL,WL,vt,a];rfl
def EM(K:List (ByteArray×Int)):T:=aM (cC K)
theorem bd(K:List (ByteArray×Int)):jJ (EM K)=some (cC K):=EV K
structure Mk where
 N:List Nd
 K:List (ByteArray×Int)
abbrev cY(M:Mk):List T:= [RW M.N,T.ax,EM M.K]
abbrev dW(M:Mk):List aa:= [aa.box [o1,o2],aa.rows M.N.isEmpty 5 1 1 M.N.length (rows M.N),aa.mp false [Ck.s] (Ck.i .i64) (cC M.K)]
def mL(k:ByteArray):List Int->ByteArray
 | []=>k
 | x::r=>mL (k++ (sp++it x)) r
def mM(op:Int)(nm:ByteArray)(n d:Int)(ks:List Int):ByteArray:=mL (it op++sp++nm++sp++it n++sp++it d) ks
def dA(M:Mk)(op:Int)(nm:ByteArray)(n d:Int)(ks:List Int):Int×Mk:=
 match lk (mM op nm n d ks) M.K with
 | some i=>(i,M)
 | none=>((M.N.length:Int),⟨M.N++ [⟨op,ks.isEmpty,ks,n,d,nm⟩],M.K++ [(mM op nm n d ks,(M.N.length:Int))]⟩)
theorem JT(e:Bool)(l:List Int)(a:e=true->l= [])(hl:l.length<=1000000):Or (.call 24) [ad e l] []=some [if e then T.aB true else T.ad 1 false (enc l)]:=by
 refine ai ?_;rw [MY];cases e with
 | true=>rfl
 | false=>simp only [an,↓reduceIte,Int.reduceBEq,Int.reduceEq,aD,cM (show 0+l.length<=1000000 by omega)];rfl
theorem QX(M:Mk)(A:M.N.length<=100000)(op:Int)(nm:ByteArray)(n d:Int)(ks:List Int)(e:Bool)(f:e=ks.isEmpty)(q:∀k∈ks,fv k)(hl:ks.length<=1000):∀(a:List Int) (j:Nat) (s:ByteArray),ks.drop j=a->s.size<=10000+100 * j->
  Or xt [r0,I op,AV.t (T.str nm),I n,I d,ad e ks,AV.t (T.str s),ad e ks,I (ks.length:Int),I (j:Int)] (dW M)=
   match lk (mL s a) M.K with
   | some i=>some (ti i::cY M)
   | none=>some (ti (M.N.length:Int)::cY ⟨M.N++ [⟨op,ks.isEmpty,ks,n,d,nm⟩],M.K++ [(mL s a,(M.N.length:Int))]⟩):=by
 intro a;induction a with
 | nil=>
  intro j s g hs;have c:¬(j:Int) < (ks.length:Int):=by have:=bt g;omega
  rw [mL];have m:=JT e ks (λh=>by subst f;simpa using h) (by omega);have p:(if e then T.aB true else T.ad 1 false (enc ks)).aQ 1=some (e,enc ks):=by
   cases e with
   | true=>
    have:ks= []:=by simpa using f.symm
    subst this;rfl
   | false=>rfl
  have w:i64.wrap (((M.N.length+1:Nat):Int) - 1)= (M.N.length:Int):=by rw [wr (by omega)];omega
  have r:rows M.N++ [Row.mk M.N.length [ti op,T.ax,ti n,ti d,T.str nm] (some (e,enc ks))]=rows (M.N++ [⟨op,ks.isEmpty,ks,n,d,nm⟩]):=by rw [rows,rows,JL,WZ,f];rfl
  cases b:lk s M.K with
  | some i=>refine ai ?_;rw [A8];simp only [an,↓reduceIte,Int.reduceBEq,Int.reduceEq,c,Cn,b,X4,X6,Option.isSome_some,aZ];rfl
  | none=>refine ai ?_;rw [A8];simp only [an,↓reduceIte,Int.reduceBEq,Int.reduceEq,c,Cn,b,Zf,Zq,Option.isSome_none,m,p,aW,cM (show M.N.length+1<=1000000 by omega),r,aZ,Xc,Wy,w,Il _ b];congr 3;unfold RW;cases M.N <;> rfl
 | cons x a u=>
  intro j s g hs;obtain⟨g1,z,o⟩:=br g;have c:(j:Int) < (ks.length:Int):=by omega
  have h0: 0<=(j:Int):=by omega
  have l:=q x (Wx g1);have B:=jN l;have v: 1+ (it x).size<=4294967296:=by omega
  have C:(sp++it x).size=1+ (it x).size:=by rw [WS];rfl
  have y:s.size+ (sp++it x).size<=4294967296:=by omega
  have:=u (j+1) (s++ (sp++it x)) o (by rw [WS];omega);rw [mL];cases b:lk (mL (s++ (sp++it x)) a) M.K <;>
  .rw [b] at this;refine ai ?_;rw [A8];simp only [an,↓reduceIte,Int.reduceBEq,Int.reduceEq,c,h0,and_self,aD,bP g1,jT l,v,y,next j (by omega)];exact this
theorem lP(M:Mk)(l:M.N.length<=100000)(op:Int)(nm:ByteArray)(n d:Int)(ks:List Int)(e:Bool)(m:e=ks.isEmpty)(p:∀k∈ks,fv k)(hl:ks.length<=1000)(ho:fv op)(b:fv n)(a:fv d)(hm:nm.size<=5000):
  Or (.call 38) [r0,I op,AV.t (T.str nm),I n,I d,ad e ks] (dW M)=some (ti (dA M op nm n d ks).1::cY (dA M op nm n d ks).2):=by
 have q:=jN ho;have r:=jN b;have s:=jN a;have c:(it op++sp++nm++sp++it n++sp++it d).size<=10000+100 * 0:=by simp only [WS,uy];omega
 have:=QX M l op nm n d ks e m p hl ks 0 (it op++sp++nm++sp++it n++sp++it d) rfl c;have f:(it op).size+1<=4294967296:=by omega
 have g:(it op++sp).size+nm.size<=4294967296:=by simp only [WS,uy];omega
 have c3:(it op++sp++nm).size+1<=4294967296:=by simp only [WS,uy];omega
 have h:(it op++sp++nm++sp).size+ (it n).size<=4294967296:=by simp only [WS,uy];omega
 have i:(it op++sp++nm++sp++it n).size+1<=4294967296:=by simp only [WS,uy];omega
 have j:(it op++sp++nm++sp++it n++sp).size+ (it d).size<=4294967296:=by simp only [WS,uy];omega
 unfold dA mM;cases o:lk (mL (it op++sp++nm++sp++it n++sp++it d) ks) M.K <;>
 .rw [o] at this;refine ai ?_;rw [ND];simp only [an,↓reduceIte,Int.reduceBEq,Int.reduceEq,jT ho,jT b,jT a,f,g,c3,h,i,j,aD];exact this
open Go Go.Aev Go.IntKind
abbrev In(M:Mk)(a:Int):Prop:=0<=a/\a < (M.N.length:Int)
structure Ok (M:Mk):Prop where
 no:∀(i:Nat) (x:Nd),M.N[i]? =some x->x.op=3->∃k r,x.ks=k::r
 ks:∀(i:Nat) (x:Nd),M.N[i]? =some x->∀k∈x.ks,0<=k/\k < (i:Int)
 kn:∀p∈M.K,In M p.2
 ek:∀(i:Nat) (x:Nd),M.N[i]? =some x->x.ek=x.ks.isEmpty
 kl:∀(i:Nat) (x:Nd),M.N[i]? =some x->x.ks.length<=1000
structure Up (M M':Mk) (c:Nat):Prop where
 ok:Ok M'
 le:M.N.length<=M'.N.length
 up:M'.N.length<=M.N.length+c
 pre:∀(i:Nat) (x:Nd),M.N[i]? =some x->M'.N[i]? =some x
theorem Up.refl{M:Mk}(h:Ok M):Up M M 0:=⟨h,WH _,WH _,λ_ _ h=>h⟩
theorem Up.trans{M f b:Mk}{c d:Nat}(h:Up M f c)(a:Up f b d):Up M b (c+d):=
 ⟨a.ok,Xl h.le a.le,by have:=h.up;have:=a.up;omega,λi x e=>a.pre i x (h.pre i x e)⟩
theorem Up.mono{M a:Mk}{c d:Nat}(h:Up M a c)(b:c<=d):Up M a d:=⟨h.ok,h.le,by have:=h.up;omega,h.pre⟩
theorem Up.In{M b:Mk}{c:Nat}(h:Up M b c){a:Int}(d:In M a):In b a:=⟨d.1,by have:=h.le;have:=d.2;omega⟩
theorem In.get{M:Mk}{a:Int}(h:In M a):∃(i:Nat) (x:Nd),a= (i:Int)/\M.N[i]? =some x:=by
 obtain⟨i,rfl⟩:=YE h.1;have:i < M.N.length:=by have:=h.2;omega
 exact⟨i,_,rfl,Wv this⟩
theorem H3{s:ByteArray}:∀{K:List (ByteArray×Int)} {v:Int},lk s K=some v->∃p∈K,p.2=v
 | (k,u)::r,v,h=>by
  rw [lk] at h;split at h
  .simp only [Wj] at h;exact⟨_,Wl,h⟩
  .obtain⟨p,a,e⟩:=H3 h;exact⟨p,Wn _ a,e⟩
theorem lL{M:Mk}(h:Ok M)(op:Int)(nm:ByteArray)(n d:Int)(ks:List Int)(j:∀k∈ks,In M k)(c:op=3->∃k r,ks=k::r)(hl:ks.length<=1000:=by simp):
  Up M (dA M op nm n d ks).2 1/\In (dA M op nm n d ks).2 (dA M op nm n d ks).1:=by
 unfold dA;cases f:lk (mM op nm n d ks) M.K with
 | some v=>obtain⟨p,b,rfl⟩:=H3 f;exact⟨(Up.refl h).mono (by omega),h.kn p b⟩
 | none=>
  have new:∀(i:Nat) (x:Nd),(M.N++ [(⟨op,ks.isEmpty,ks,n,d,nm⟩:Nd)])[i]? =some x->M.N[i]? =some x\/(i=M.N.length/\x= ⟨op,ks.isEmpty,ks,n,d,nm⟩):=λi x e=>by
   rcases Zn i M.N.length with g | g | g
   .rw [WB g] at e;exact .inl e
   .subst g;simp at e;exact .inr ⟨rfl,e.symm⟩
   .rw [XV (by simp;omega)] at e;cases e
  refine⟨⟨⟨λi x e ho=> ?_,λi x e k a=> ?_,λp b=> ?_,λi x e=> ?_,λi x e=> ?_⟩,by simp,by simp,λi x e=> ?_⟩, ?_⟩
  .rcases new i x e with g | ⟨rfl,rfl⟩
   .exact h.no i x g ho
   .exact c ho
  .rcases new i x e with g | ⟨rfl,rfl⟩
   .exact h.ks i x g k a
   .exact j k a
  .simp only [Xc,Wy];rcases WK.1 b with g | g
   .have:=h.kn p g;exact⟨this.1,by simp;omega⟩
   .simp only [WA] at g;subst g;exact⟨by simp,by simp;omega⟩
  .rcases new i x e with g | ⟨rfl,rfl⟩
   .exact h.ek i x g
   .rfl
  .rcases new i x e with g | ⟨rfl,rfl⟩
   .exact h.kl i x g
   .exact hl
  .rw [WB (Wm.1 e).1];exact e
  .exact⟨by simp,by simp;omega⟩
def cw(M:Mk)(a:Int):Int:=match M.N[a.toNat]? with
 | some x=>x.op
 | none=>0
def qd(M:Mk)(a:Int):Int:=match M.N[a.toNat]? with
 | some x=>x.ks.headD 0
 | none=>0
def dx(M:Mk)(b:Bool):Int×Mk:=dA M (if b then 1 else 2) s0 0 0 []
def gY(M:Mk)(a:Int):Int×Mk:=
 if cw M a=1 then dx M false else if cw M a=2 then dx M true else if cw M a=3 then(qd M a,M) else dA M 3 s0 0 0 [a]
def cA(M:Mk)(a b:Int):Int×Mk:=
 if cw M a=2\/cw M b=1\/a=b then(a,M) else if cw M a=1\/cw M b=2 then(b,M) else dA M 4 s0 0 0 [a,b]
def eS(M:Mk)(a b:Int):Int×Mk:=
 if cw M a=1\/cw M b=2\/a=b then(a,M) else if cw M a=2\/cw M b=1 then(b,M) else dA M 5 s0 0 0 [a,b]
def eF(M:Mk)(a b:Int):Int×Mk:=
 if a=b then dx M true else if cw M a=1 then(b,M) else if cw M b=1 then(a,M) else if cw M a=2 then gY M b else if cw M b=2 then gY M a else dA M 6 s0 0 0 [a,b]
def bJ(M:Mk)(a b:Int):Int×Mk:=gY (eF M a b).2 (eF M a b).1
theorem In.i64{M:Mk}{a:Int}(h:In M a)(b:M.N.length<=100000):fv a:=⟨by have:=h.1;omega,by have:=h.2;omega⟩
theorem kB{M:Mk}(h:Ok M)(b:Bool):Up M (dx M b).2 1/\In (dx M b).2 (dx M b).1:=
 lL h _ _ _ _ _ (λk a=>by cases a) (by cases b <;> simp)
theorem rZ{M:Mk}(h:Ok M){a:Int}(c:In M a):Up M (gY M a).2 1/\In (gY M a).2 (gY M a).1:=by
 unfold gY;split
 .exact kB h _
 .split
  .exact kB h _
  .split
   .rename_i e;obtain⟨i,x,rfl,d⟩:=c.get;refine⟨(Up.refl h).mono (by omega), ?_⟩;unfold cw at e;unfold qd;rw [WW,d] at e⊢;obtain⟨k,r,b⟩:=h.no i x d e;have:=h.ks i x d k (by rw [b];exact Wl);dsimp only;rw [b,List.headD_cons];exact⟨this.1,by have:=c.2;omega⟩
   .exact lL h _ _ _ _ _ (λk b=>by simp only [WA] at b;subst b;exact c) (λ_=>⟨_,_,rfl⟩)
theorem uE{M:Mk}{a b:Int}(d:In M a)(e:In M b):∀k∈[a,b],In M k:=λk c=>by simp only [WC,XE,or_false] at c;rcases c with rfl | rfl <;> assumption
theorem iS{M:Mk}(h:Ok M){a b:Int}(c:In M a)(d:In M b):Up M (cA M a b).2 1/\In (cA M a b).2 (cA M a b).1:=by
 unfold cA;split
 .exact⟨(Up.refl h).mono (by omega),c⟩
 .split
  .exact⟨(Up.refl h).mono (by omega),d⟩
  .exact lL h _ _ _ _ _ (uE c d) (by simp)
theorem r9{M:Mk}(h:Ok M){a b:Int}(c:In M a)(d:In M b):Up M (eS M a b).2 1/\In (eS M a b).2 (eS M a b).1:=by
 unfold eS;split
 .exact⟨(Up.refl h).mono (by omega),c⟩
 .split
  .exact⟨(Up.refl h).mono (by omega),d⟩
  .exact lL h _ _ _ _ _ (uE c d) (by simp)
theorem rM{M:Mk}(h:Ok M){a b:Int}(c:In M a)(d:In M b):Up M (eF M a b).2 1/\In (eF M a b).2 (eF M a b).1:=by
 unfold eF;split
 .exact kB h _
 .split
  .exact⟨(Up.refl h).mono (by omega),d⟩
  .split
   .exact⟨(Up.refl h).mono (by omega),c⟩
   .split
    .exact rZ h d
    .split
     .exact rZ h c
     .exact lL h _ _ _ _ _ (uE c d) (by simp)
theorem qE{M:Mk}(h:Ok M){a b:Int}(g:In M a)(i:In M b):Up M (bJ M a b).2 2/\In (bJ M a b).2 (bJ M a b).1:=by obtain⟨c,d⟩:=rM h g i;obtain⟨e,f⟩:=rZ c.ok d;exact⟨c.trans e,f⟩
theorem JA(i:Nat)(x:Nd):(qz i x).n=i:=rfl
theorem Jz(i:Nat)(x:Nd):(qz i x).cs= [ti x.op,T.ax,ti x.n,ti x.d,T.str x.nm]:=rfl
theorem mn{M:Mk}{a:Int}(b:In M a)(op:Int):Or (.call 79) [r0,I a,I op] (dW M)=some (tb (cw M a==op)::cY M):=by
 have c:=b;obtain⟨i,x,rfl,d⟩:=b.get;have ho:cw M (i:Int)=x.op:=by unfold cw;rw [WW,d]
 rw [ho];refine ai ?_;rw [OJ];simp only [an,↓reduceIte,Int.reduceBEq,Int.reduceEq,aW,c.1,c.2,and_self,WW,CX d,Jz,aZ];rfl
theorem nX{M:Mk}(c:M.N.length<=100000)(b:Bool):Or (.call 42) [r0,B b] (dW M)=some (ti (dx M b).1::cY (dx M b).2):=by
 have k1:=lP M c 1 s0 0 0 [] true rfl (λk a=>by cases a) (by simp) (by omega) (by omega) (by omega) (by decide);have k2:=lP M c 2 s0 0 0 [] true rfl (λk a=>by cases a) (by simp) (by omega) (by omega) (by omega) (by decide);replace k1:Or (.call 38) [r0,I 1,AV.t (T.str s0),I 0,I 0,AV.t (T.ad 1 true [])] (dW M)=_:=k1;replace k2:Or (.call 38) [r0,I 2,AV.t (T.str s0),I 0,I 0,AV.t (T.ad 1 true [])] (dW M)=_:=k2;unfold dx;refine ai ?_;rw [NO];cases b with
 | true=>simp only [an,↓reduceIte,Int.reduceBEq,Int.reduceEq,k1,be,bd,Wq,aZ,aW];rfl
 | false=>simp only [an,↓reduceIte,Int.reduceBEq,Int.reduceEq,k2,be,bd,Wq,aZ,aW];rfl
theorem uu{M:Mk}(h:Ok M)(d:M.N.length<=100000){a:Int}(j:In M a):Or (.call 43) [r0,I a] (dW M)=some (ti (gY M a).1::cY (gY M a).2):=by
 have l:=j;have k1:=nX d false;have k2:=nX d true;have k3:=lP M d 3 s0 0 0 [a] false rfl (λk e=>by simp only [WA] at e;subst e;exact j.i64 d) (by simp) (by omega) (by omega) (by omega) (by decide);obtain⟨i,x,rfl,c⟩:=j.get;have ho:cw M (i:Int)=x.op:=by unfold cw;rw [WW,c]
 have e:qd M (i:Int)=x.ks.headD 0:=by unfold qd;rw [WW,c]
 replace k3:Or (.call 38) [r0,I 3,AV.t (T.str s0),I 0,I 0,AV.t (T.ad 1 false [[ti (i:Int)]])] (dW M)=_:=k3;unfold gY;rw [ho,e];refine ai ?_;rw [NP];simp only [aI,aL,aV,fA,aO,aW,l.1,l.2,and_self,↓reduceIte,WW,CX c,Jz,JA];by_cases f:x.op=1
 .simp only [an,↓reduceIte,Int.reduceBEq,Int.reduceEq,f,k1,be,bd,Wq,aZ,aW];rfl
 by_cases g:x.op=2
 .simp only [an,↓reduceIte,Int.reduceBEq,Int.reduceEq,g,k2,be,bd,Wq,aZ,aW];rfl
 by_cases c3:x.op=3
 .obtain⟨k,r,b⟩:=h.no i x c c3;have hl:(0:Int)<=0/\(0:Int) < ((x.ks.length:Nat):Int):=by rw [b];simp
  have p:(enc x.ks)[0]? =some [ti k]:=by rw [b];rfl
  simp only [an,↓reduceIte,Int.reduceBEq,Int.reduceEq,c3,CW c,aD,hl,and_self,p,aZ];rw [b];rfl
 .have m:(x.op==1)=false:=by simpa using f
  have n:(x.op==2)=false:=by simpa using g
  have o:(x.op==3)=false:=by simpa using c3
  simp only [an,↓reduceIte,Int.reduceBEq,Int.reduceEq,m,n,o,f,g,c3,k3,be,bd,Wq,aZ,aW];rfl
theorem nc{M:Mk}(p:M.N.length<=100000){a b:Int}(l:In M a)(m:In M b):Or (.call 44) [r0,I a,I b] (dW M)=some (ti (cA M a b).1::cY (cA M a b).2):=by
 have k1:=mn l 2;have k2:=mn l 1;have k3:=mn m 2;have f:=mn m 1;have n:=lP M p 4 s0 0 0 [a,b] false rfl (λk r=>(uE l m k r).i64 p) (by simp) (by omega) (by omega) (by omega) (by decide);replace n:Or (.call 38) [r0,I 4,AV.t (T.str s0),I 0,I 0,AV.t (T.ad 1 false [[ti a],[ti b]])] (dW M)=_:=n;unfold cA;refine ai ?_;rw [NQ];by_cases c:cw M a=2
 .rw [c] at k1 k2;simp only [an,↓reduceIte,Int.reduceBEq,Int.reduceEq,c,k1,be,bd,Wq,aZ,aW,true_or];rfl
 by_cases d:cw M b=1
 .rw [d] at k3 f;have e:(cw M a==2)=false:=by simpa using c
  simp only [an,↓reduceIte,Int.reduceBEq,Int.reduceEq,c,d,e,k1,f,be,bd,Wq,aZ,aW,true_or,or_true];rfl
 have e:(cw M a==2)=false:=by simpa using c
 have i:(cw M b==1)=false:=by simpa using d
 by_cases c3:a=b
 .subst c3;simp only [an,↓reduceIte,Int.reduceBEq,Int.reduceEq,c,d,e,i,k1,f,be,bd,Wq,aZ,aW,true_or,or_true];rfl
 have j:(a==b)=false:=by simpa using c3
 by_cases g:cw M a=1
 .rw [g] at k2;simp only [an,↓reduceIte,Int.reduceBEq,Int.reduceEq,c,d,c3,g,e,i,j,k1,k2,f,be,bd,Wq,aZ,aW,true_or,or_true,or_self];rfl
 have o:(cw M a==1)=false:=by simpa using g
 by_cases h:cw M b=2
 .rw [h] at k3;simp only [an,↓reduceIte,Int.reduceBEq,Int.reduceEq,c,d,c3,g,h,e,i,j,o,k1,k2,k3,f,be,bd,Wq,aZ,aW,true_or,or_true,or_self];rfl
 have q:(cw M b==2)=false:=by simpa using h
 simp only [an,↓reduceIte,Int.reduceBEq,Int.reduceEq,c,d,c3,g,h,e,i,j,o,q,k1,k2,k3,f,n,be,bd,Wq,aZ,aW,true_or,or_true,or_self];rfl
theorem wU{M:Mk}(p:M.N.length<=100000){a b:Int}(l:In M a)(m:In M b):Or (.call 45) [r0,I a,I b] (dW M)=some (ti (eS M a b).1::cY (eS M a b).2):=by
 have k1:=mn l 2;have k2:=mn l 1;have k3:=mn m 2;have i:=mn m 1;have n:=lP M p 5 s0 0 0 [a,b] false rfl (λk r=>(uE l m k r).i64 p) (by simp) (by omega) (by omega) (by omega) (by decide);replace n:Or (.call 38) [r0,I 5,AV.t (T.str s0),I 0,I 0,AV.t (T.ad 1 false [[ti a],[ti b]])] (dW M)=_:=n;unfold eS;refine ai ?_;rw [NR];by_cases c:cw M a=1
 .rw [c] at k1 k2;simp only [an,↓reduceIte,Int.reduceBEq,Int.reduceEq,c,k2,be,bd,Wq,aZ,aW,true_or];rfl
 by_cases d:cw M b=2
 .rw [d] at k3 i;have e:(cw M a==1)=false:=by simpa using c
  simp only [an,↓reduceIte,Int.reduceBEq,Int.reduceEq,c,d,e,k2,k3,be,bd,Wq,aZ,aW,true_or,or_true];rfl
 have e:(cw M a==1)=false:=by simpa using c
 have h:(cw M b==2)=false:=by simpa using d
 by_cases c3:a=b
 .subst c3;simp only [an,↓reduceIte,Int.reduceBEq,Int.reduceEq,c,d,e,h,k2,k3,be,bd,Wq,aZ,aW,true_or,or_true];rfl
 have j:(a==b)=false:=by simpa using c3
 by_cases f:cw M a=2
 .rw [f] at k1;simp only [an,↓reduceIte,Int.reduceBEq,Int.reduceEq,c,d,c3,f,e,h,j,k1,k2,k3,be,bd,Wq,aZ,aW,true_or,or_true,or_self];rfl
 have o:(cw M a==2)=false:=by simpa using f
 by_cases g:cw M b=1
 .rw [g] at i;simp only [an,↓reduceIte,Int.reduceBEq,Int.reduceEq,c,d,c3,f,g,e,h,j,o,k1,k2,k3,i,be,bd,Wq,aZ,aW,true_or,or_true,or_self];rfl
 have q:(cw M b==1)=false:=by simpa using g
 simp only [an,↓reduceIte,Int.reduceBEq,Int.reduceEq,c,d,c3,f,g,e,h,j,o,q,k1,k2,k3,i,n,be,bd,Wq,aZ,aW,true_or,or_true,or_self];rfl
theorem zB{M:Mk}(h:Ok M)(g:M.N.length<=100000){a b:Int}(m:In M a)(n:In M b):Or (.call 51) [r0,I a,I b] (dW M)=some (ti (eF M a b).1::cY (eF M a b).2):=by
 have k1:=mn m 2;have k2:=mn m 1;have k3:=mn n 2;have i:=mn n 1;have p:=lP M g 6 s0 0 0 [a,b] false rfl (λk s=>(uE m n k s).i64 g) (by simp) (by omega) (by omega) (by omega) (by decide);replace p:Or (.call 38) [r0,I 6,AV.t (T.str s0),I 0,I 0,AV.t (T.ad 1 false [[ti a],[ti b]])] (dW M)=_:=p;have u:=uu h g m;have v:=uu h g n;have w:=nX g true;unfold eF;refine ai ?_;rw [NZ];by_cases c:a=b
 .subst c;simp only [an,↓reduceIte,Int.reduceBEq,Int.reduceEq,w,be,bd,Wq,aZ,aW];rfl
 have f:(a==b)=false:=by simpa using c
 by_cases d:cw M a=1
 .rw [d] at k2;simp only [an,↓reduceIte,Int.reduceBEq,Int.reduceEq,c,d,f,k2,be,bd,Wq,aZ,aW];rfl
 have l:(cw M a==1)=false:=by simpa using d
 by_cases c3:cw M b=1
 .rw [c3] at i;simp only [an,↓reduceIte,Int.reduceBEq,Int.reduceEq,c,d,c3,f,l,k2,i,be,bd,Wq,aZ,aW];rfl
 have o:(cw M b==1)=false:=by simpa using c3
 by_cases e:cw M a=2
 .rw [e] at k1;simp only [an,↓reduceIte,Int.reduceBEq,Int.reduceEq,c,d,c3,e,f,l,o,k1,k2,i,v,be,bd,Wq,aZ,aW];rfl
 have q:(cw M a==2)=false:=by simpa using e
 by_cases j:cw M b=2
 .rw [j] at k3;simp only [an,↓reduceIte,Int.reduceBEq,Int.reduceEq,c,d,c3,e,j,f,l,o,q,k1,k2,k3,i,u,be,bd,Wq,aZ,aW];rfl
 have r:(cw M b==2)=false:=by simpa using j
 simp only [an,↓reduceIte,Int.reduceBEq,Int.reduceEq,c,d,c3,e,j,f,l,o,q,r,k1,k2,k3,i,p,be,bd,Wq,aZ,aW];rfl
theorem uv{M:Mk}(h:Ok M)(g:M.N.length<=90000){a b:Int}(d:In M a)(e:In M b):Or (.call 46) [r0,I a,I b] (dW M)=some (ti (bJ M a b).1::cY (bJ M a b).2):=by have k1:=zB h (by omega) d e;obtain⟨c,f⟩:=rM h d e;have k2:=uu c.ok (by have:=c.up;omega) f;refine ai ?_;rw [NS];simp only [an,↓reduceIte,Int.reduceBEq,Int.reduceEq,k1,k2,be,bd,Wq,aZ,aW];rfl
open Go Go.Aev Go.IntKind
def LO(l:List Int):T:=if l.isEmpty then T.aB true else T.ad 1 false (enc l)
theorem de(l:List Int):(LO l).aQ 1=some (l.isEmpty,enc l):=by cases l <;> rfl
theorem fI(l:List Int)(x:Int):enc l++ [[T.int .i64 x]]=enc (l++ [x]):=by simp [enc]
theorem Up.all{M a:Mk}{c:Nat}(h:Up M a c){l:List Int}(hl:∀x∈l,Go.Aev.Gen.In M x):∀x∈l,Go.Aev.Gen.In a x:=λx b=>h.In (hl x b)
abbrev qS(M:Mk)(a:List Int):List aa:= [aa.box [o4,o2],aa.dead,aa.mp false [Ck.s] (Ck.i .i64) (cC M.K),aa.sl false 1 false (enc a),aa.rows M.N.isEmpty 5 1 1 M.N.length (rows M.N)]
abbrev uN(M:Mk):List aa:= [aa.box [o3,o2],aa.dead,aa.mp false [Ck.s] (Ck.i .i64) (cC M.K),aa.rows M.N.isEmpty 5 1 1 M.N.length (rows M.N)]
def aT(f:Mk->Int->Int->Int×Mk)(M:Mk):List Int->List Int->List Int×Mk
 | x::a,y::b=>((f M x y).1:: (aT f (f M x y).2 a b).1,(aT f (f M x y).2 a b).2)
 | _,_=>([],M)
theorem tB{f:Mk->Int->Int->Int×Mk}{c:Nat}(l:∀M a b,Ok M->In M a->In M b->Up M (f M a b).2 c/\In (f M a b).2 (f M a b).1):
  ∀{a b:List Int} {M:Mk},Ok M->(∀x∈a,In M x)->(∀x∈b,In M x)->a.length=b.length->
   Up M (aT f M a b).2 (c * a.length)/\(∀x∈(aT f M a b).1,In (aT f M a b).2 x)/\(aT f M a b).1.length=a.length
 | [],b,M,h,_,_,_=>by rw [show aT f M [] b= ([],M) by simp [aT]];exact⟨Up.refl h,λx p=>(by cases p),rfl⟩
 | x::a,[],M,h,_,_,e=>by cases e
 | x::a,y::b,M,h,j,k,e=>by
  obtain⟨g,m⟩:=l M x y h (j x Wl) (k y Wl);obtain⟨i,n,o⟩:=tB l (a:=a) (b:=b) g.ok (g.all λz d=>j z (Wn _ d)) (g.all λz d=>k z (Wn _ d)) (by simpa using e);refine⟨(g.trans i).mono (by rw [Wz,ZD];omega),λz d=> ?_,by simp [aT,o]⟩;rcases WC.1 d with rfl | d
  .exact i.In m
  .exact n z d
def fF(M:Mk)(c:Int):List Int->List Int->List Int×Mk
 | x::a,y::b=>
  let p:=bJ M x y;let q:=bJ p.2 p.1 c
  if a.isEmpty then([q.1],q.2) else
  let r:=cA q.2 x y;let s:=cA r.2 p.1 c;let t:=eS s.2 r.1 s.1
  (q.1:: (fF t.2 t.1 a b).1,(fF t.2 t.1 a b).2)
 | _,_=>([],M)
theorem zL(M:Mk)(c:Int)(b:List Int):fF M c [] b= ([],M):=by simp [fF]
def eu(M:Mk)(a b:List Int):List Int×Mk:=fF (dx M false).2 (dx M false).1 a b
structure Lo (M:Mk) (c x y:Int):Prop where
 p:Up M (bJ M x y).2 2
 pi:In (bJ M x y).2 (bJ M x y).1
 q:Up M (bJ (bJ M x y).2 (bJ M x y).1 c).2 4
 qi:In (bJ (bJ M x y).2 (bJ M x y).1 c).2 (bJ (bJ M x y).2 (bJ M x y).1 c).1
 r:Up M (cA (bJ (bJ M x y).2 (bJ M x y).1 c).2 x y).2 5
 ri:In (cA (bJ (bJ M x y).2 (bJ M x y).1 c).2 x y).2 (cA (bJ (bJ M x y).2 (bJ M x y).1 c).2 x y).1
 s:Up M (cA (cA (bJ (bJ M x y).2 (bJ M x y).1 c).2 x y).2 (bJ M x y).1 c).2 6
 si:In (cA (cA (bJ (bJ M x y).2 (bJ M x y).1 c).2 x y).2 (bJ M x y).1 c).2 (cA (cA (bJ (bJ M x y).2 (bJ M x y).1 c).2 x y).2 (bJ M x y).1 c).1
 rs:In (cA (cA (bJ (bJ M x y).2 (bJ M x y).1 c).2 x y).2 (bJ M x y).1 c).2 (cA (bJ (bJ M x y).2 (bJ M x y).1 c).2 x y).1
theorem Dl{M:Mk}(h:Ok M){c x y:Int}(e:In M c)(f:In M x)(g:In M y):Lo M c x y:=by obtain⟨a,b⟩:=qE h f g;obtain⟨d,j⟩:=qE a.ok b (a.In e);have q:=a.trans d;obtain⟨r1,r2⟩:=iS d.ok (q.In f) (q.In g);have r:=q.trans r1;obtain⟨i,k⟩:=iS r1.ok ((d.trans r1).In b) (r.In e);exact⟨a,b,q,j,r,r2,r.trans i,k,i.In r2⟩
theorem Kz:∀{a b:List Int} {M:Mk} {c:Int},Ok M->In M c->(∀x∈a,In M x)->(∀x∈b,In M x)->a.length=b.length->
   Up M (fF M c a b).2 (7 * a.length)/\(∀x∈(fF M c a b).1,In (fF M c a b).2 x)/\(fF M c a b).1.length=a.length
 | [],b,M,c,h,_,_,_,_=>by rw [show fF M c [] b= ([],M) by simp [fF]];exact⟨Up.refl h,λx o=>(by cases o),rfl⟩
 | x::a,[],M,c,h,_,_,_,e=>by cases e
 | x::a,y::b,M,c,h,i,f,g,e=>by
  have st:=Dl h i (f x Wl) (g y Wl);rw [fF];dsimp only;split
  .rename_i n;have:a= []:=by simpa using n
   subst this;exact⟨st.q.mono (by simp),λz d=>by simp only [WA] at d;subst d;exact st.qi,rfl⟩
  .obtain⟨k,u⟩:=r9 st.s.ok st.rs st.si;have t:=st.s.trans k;obtain⟨j,l,m⟩:=Kz (a:=a) (b:=b) t.ok u (t.all λz d=>f z (Wn _ d)) (t.all λz d=>g z (Wn _ d)) (by simpa using e);refine⟨(t.trans j).mono (by rw [Wz,ZD];omega),λz d=> ?_,by simp [m]⟩;rcases WC.1 d with rfl | d
   .exact j.In (k.In ((iS st.q.ok (st.q.In (f x Wl)) (st.q.In (g y Wl))).1.trans (iS st.r.ok ((iS st.q.ok (st.q.In (f x Wl)) (st.q.In (g y Wl))).1.In ((qE st.p.ok st.pi (st.p.In i)).1.In st.pi)) (st.r.In i)).1 |>.In st.qi))
   .exact l z d
theorem Kw{a b:List Int}{M:Mk}(h:Ok M)(j:∀x∈a,In M x)(k:∀x∈b,In M x)(e:a.length=b.length):
   Up M (eu M a b).2 (1+7 * a.length)/\(∀x∈(eu M a b).1,In (eu M a b).2 x)/\(eu M a b).1.length=a.length:=by
 obtain⟨c,d⟩:=kB h false;obtain⟨f,g,i⟩:=Kz c.ok d (c.all j) (c.all k) e;exact⟨c.trans f,g,i⟩
theorem E9{a:Type}{l r:List a}{i:Nat}(h:l.drop i=r)(b:i<=l.length):l.length=i+r.length:=by rw [<-h,XK];omega
theorem Ir{ea eb:Bool}{a b:List Int}(S:a.length=b.length)(hl:a.length<=100):∀(f g:List Int) (i:Nat) (M:Mk) (c:Int) (e:List Int),a.drop i=f->b.drop i=g->i<=a.length->Ok M->In M c->(∀x∈f,In M x)->(∀x∈g,In M x)->M.N.length+7 * f.length<=80000->e.length=i->
  Or qQ [r0,ad ea a,ad eb b,I c,o3,I (a.length:Int),I (i:Int)] (qS M e)=some (T.ad 1 false (enc (e++ (fF M c f g).1))::cY (fF M c f g).2):=by
 intro f;induction f with
 | nil=>
  intro g i M c e B C L h k D n H j;have m:¬(i:Int) < (a.length:Int):=by have:=bt B;omega
  refine ai ?_;rw [Ba];simp only [an,↓reduceIte,Int.reduceBEq,Int.reduceEq,m,be,bd,Wq,aZ,aW,fF,WQ];rfl
 | cons x f J=>
  intro g i M c e B C L h k D n H j;obtain⟨g1,U,A⟩:=br B;cases g with
  | nil=>exact absurd (bt C) (by omega)
  | cons y g=>
   obtain⟨E,V,F⟩:=br C;have m:(i:Int) < (a.length:Int):=by omega
   have G:(i:Int) < (b.length:Int):=by omega
   have h0: 0<=(i:Int):=by omega
   have o:=D x Wl;have u:=n y Wl;have st:=Dl h k o u;rw [Wz] at H;have k1:=uv h (by omega) o u;have k2:=uv st.p.ok (by have:=st.p.up;omega) st.pi (st.p.In k);have l:=E9 A (by omega);have w:=next i (by omega);have K:bA 8 (e.length+1)=some ():=cM (by omega);rw [fF];dsimp only;cases f with
   | nil=>
    have v:¬((i+1:Nat):Int) < (a.length:Int):=by rw [WN] at l;omega
    have d:=J g (i+1) _ c (e++ [(bJ (bJ M x y).2 (bJ M x y).1 c).1]) A F (by omega) st.q.ok (st.q.In k) (λz d=>by cases d) (st.q.all λz d=>n z (Wn _ d)) (by have:=st.q.up;simp;omega) (by simp [j]);rw [zL] at d;refine ai ?_;rw [Ba];simp only [an,↓reduceIte,Int.reduceBEq,Int.reduceEq,m,G,h0,and_self,aD,bP g1,bP E,k1,k2,be,bd,Wq,aZ,aW,Wy,K,w,v,fI,Y9];rw [WQ] at d;exact d
   | cons x2 f=>
    have v:((i+1:Nat):Int) < (a.length:Int):=by rw [Wz] at l;omega
    have k3:=nc (by have:=st.q.up;omega) (st.q.In o) (st.q.In u);have O:=nc (by have:=st.r.up;omega) ((iS st.q.ok (st.q.In o) (st.q.In u)).1.In ((qE st.p.ok st.pi (st.p.In k)).1.In st.pi)) (st.r.In k);have P:=wU (by have:=st.s.up;omega) st.rs st.si;obtain⟨Q,R⟩:=r9 st.s.ok st.rs st.si;have t:=st.s.trans Q;have d:=J g (i+1) _ _ (e++ [(bJ (bJ M x y).2 (bJ M x y).1 c).1]) A F (by omega) t.ok R (t.all λz d=>D z (Wn _ d)) (t.all λz d=>n z (Wn _ d)) (by have:=t.up;omega) (by simp [j]);refine ai ?_;rw [Ba];simp only [an,↓reduceIte,Int.reduceBEq,Int.reduceEq,m,G,h0,and_self,aD,bP g1,bP E,k1,k2,k3,O,P,be,bd,Wq,aZ,aW,Wy,K,w,v,fI,Y4];simp only [WV,W5] at d;exact d
theorem J0{M:Mk}(h:Ok M){ea eb:Bool}{a b:List Int}(j:a.length=b.length)(hl:a.length<=100)(F:∀x∈a,In M x)(G:∀x∈b,In M x)(J:M.N.length<=70000):
  Or (.call 47) [r0,ad ea a,ad eb b] (dW M)=some (LO (eu M a b).1::cY (eu M a b).2):=by
 have H:=nX (show M.N.length<=100000 by omega) false;obtain⟨l,Q⟩:=kB h false;have g:Or qQ [r0,ad ea a,ad eb b,I (dx M false).1,AV.t (T.aB true),I (a.length:Int),I 0] (uN (dx M false).2)=some (LO (eu M a b).1::cY (eu M a b).2):=by
  unfold eu;have A:(dx M false).2.N.length<=70001:=by have:=l.up;omega
  revert Q;generalize (dx M false).1=c;have f:=l.all F;have e:=l.all G;have n:=l.ok;revert f e n A;generalize (dx M false).2=m;intro A f e n k;clear H l F G h J M;cases a with
  | nil=>refine ai ?_;rw [A9];simp only [an,↓reduceIte,Int.reduceBEq,Int.reduceEq,be,bd,Wq,aZ,aW,fF,WN,W3,Xb,decide_false];rfl
  | cons x i=>
   cases b with
   | nil=>cases j
   | cons y v=>
    have o:=f x Wl;have u:=e y Wl;have st:=Dl n k o u;rw [Wz] at hl;have k1:=uv n (by omega) o u;have k2:=uv st.p.ok (by have:=st.p.up;omega) st.pi (st.p.In k);have D:(0:Int) < (((x::i).length:Nat):Int):=by simp
    have E:(0:Int) < (((y::v).length:Nat):Int):=by simp
    have h0:(0:Int)<=0:=by omega
    have g1:(enc (x::i))[(0:Int).toNat]? =some [ti x]:=rfl;have C:(enc (y::v))[(0:Int).toNat]? =some [ti y]:=rfl;have w:i64.wrap (0+1)= ((1:Nat):Int):=by decide
    rw [fF];dsimp only;cases i with
    | nil=>
     have B:¬((1:Nat):Int) < ((([x]:List Int).length:Nat):Int):=by simp
     have d:=Ir (ea:=ea) (eb:=eb) j (by omega) [] v 1 _ c [(bJ (bJ m x y).2 (bJ m x y).1 c).1] rfl rfl (by simp) st.q.ok (st.q.In k) (λz d=>by cases d) (st.q.all λz d=>e z (Wn _ d)) (by have:=st.q.up;simp;omega) rfl;rw [zL] at d;refine ai ?_;rw [A9];simp only [an,↓reduceIte,Int.reduceBEq,Int.reduceEq,D,E,h0,and_self,aD,g1,C,k1,k2,be,bd,Wq,aZ,aW,w,B,Y9];exact d
     | cons x2 i=>
     have B:((1:Nat):Int) < (((x::x2::i).length:Nat):Int):=by simp;omega
     have k3:=nc (by have:=st.q.up;omega) (st.q.In o) (st.q.In u);have K:=nc (by have:=st.r.up;omega) ((iS st.q.ok (st.q.In o) (st.q.In u)).1.In ((qE st.p.ok st.pi (st.p.In k)).1.In st.pi)) (st.r.In k);have L:=wU (by have:=st.s.up;omega) st.rs st.si;obtain⟨O,P⟩:=r9 st.s.ok st.rs st.si;have t:=st.s.trans O;have d:=Ir (ea:=ea) (eb:=eb) j (by rw [Wz];omega) (x2::i) v 1 _ _ [(bJ (bJ m x y).2 (bJ m x y).1 c).1] rfl rfl (by simp) t.ok P (t.all λz d=>f z (Wn _ d)) (t.all λz d=>e z (Wn _ d)) (by have:=t.up;omega) rfl;refine ai ?_;rw [A9];simp only [an,↓reduceIte,Int.reduceBEq,Int.reduceEq,D,E,h0,and_self,aD,g1,C,k1,k2,k3,K,L,be,bd,Wq,aZ,aW,w,B,Y4];exact d
 generalize R:LO (eu M a b).1::cY (eu M a b).2=r at g;refine ai ?_;rw [NT];simp only [an,↓reduceIte,Int.reduceBEq,Int.reduceEq,H,be,bd,Wq,aZ,aW,aD];exact g
open Go Go.Aev Go.IntKind
abbrev Lm(M:Mk)(a:List Int):List aa:= [aa.box [o1,o2],aa.rows M.N.isEmpty 5 1 1 M.N.length (rows M.N),aa.mp false [Ck.s] (Ck.i .i64) (cC M.K),aa.sl false 1 false (enc a)]
def fD(M:Mk)(a:List Int)(n:Int):Nat->Nat->List Int×Mk
 | _,0=>([],M)
 | i,k+1=>if(i:Int) < n then((dx M false).1:: (fD (dx M false).2 a n (i+1) k).1,(fD (dx M false).2 a n (i+1) k).2)
  else(a.getD ((i:Int) - n).toNat 0:: (fD M a n (i+1) k).1,(fD M a n (i+1) k).2)
def bG(M:Mk)(a:List Int)(n:Int):List Int×Mk:=fD M a n 0 a.length
theorem Pv{a:List Int}{P:Int->Prop}(c:∀x∈a,P x){k:Nat}(b:k < a.length):P (a.getD k 0):=by rw [Wp,Wv b];exact c _ (YD b)
theorem Ca{a:List Int}{n:Int}(l: 0<=n):∀{k i:Nat} {M:Mk},Ok M->(∀x∈a,In M x)->i+k=a.length->
  Up M (fD M a n i k).2 k/\(∀x∈(fD M a n i k).1,In (fD M a n i k).2 x)/\(fD M a n i k).1.length=k
 | 0,i,M,h,_,_=>⟨Up.refl h,λx o=>(by cases o),rfl⟩
 | k+1,i,M,h,j,e=>by
  rw [fD];split
  .obtain⟨d,m⟩:=kB h false;obtain⟨c,f,g⟩:=Ca l (k:=k) (i:=i+1) d.ok (d.all j) (by omega);refine⟨(d.trans c).mono (by omega),λz b=> ?_,by simp [g]⟩;rcases WC.1 b with rfl | b
   .exact c.In m
   .exact f z b
  .obtain⟨c,f,g⟩:=Ca l (k:=k) (i:=i+1) h j (by omega);refine⟨c.mono (by omega),λz b=> ?_,by simp [g]⟩;rcases WC.1 b with rfl | b
   .exact c.In (Pv j (by omega))
   .exact f z b
theorem vX{M:Mk}{a:List Int}{n:Int}(c: 0<=n)(h:Ok M)(b:∀x∈a,In M x):
  Up M (bG M a n).2 a.length/\(∀x∈(bG M a n).1,In (bG M a n).2 x)/\(bG M a n).1.length=a.length:=Ca c h b (WZ _)
theorem Rc{ea:Bool}{a:List Int}{n:Int}(v: 0<=n)(u:n<=1000)(hl:a.length<=100):∀(k i:Nat) (M:Mk) (b:List Int),i+k=a.length->Ok M->M.N.length+k<=80000->b.length=i->
  Or kR [r0,ad ea a,I n,o3,I (a.length:Int),I (i:Int)] (qS M b)=some (T.ad 1 false (enc (b++ (fD M a n i k).1))::cY (fD M a n i k).2):=by
 intro k;induction k with
 | zero=>
  intro i M b r h p c;have e:¬(i:Int) < (a.length:Int):=by omega
  refine ai ?_;rw [Bc];simp only [an,↓reduceIte,Int.reduceBEq,Int.reduceEq,e,be,bd,Wq,aZ,aW,fD,WQ];rfl
 | succ k j=>
  intro i M b r h p c;have e:(i:Int) < (a.length:Int):=by omega
  have w:=next i (by omega);have l:bA 8 (b.length+1)=some ():=cM (by omega);rw [fD];by_cases f:(i:Int) < n
  .have s:=nX (show M.N.length<=100000 by omega) false;obtain⟨m,x⟩:=kB h false;have d:=j (i+1) _ (b++ [(dx M false).1]) (by omega) m.ok (by have:=m.up;omega) (by simp [c]);rw [if_pos f];simp only [WV,W5] at d;refine ai ?_;rw [Bc];simp only [an,↓reduceIte,Int.reduceBEq,Int.reduceEq,e,f,s,be,bd,Wq,aZ,aW,aD,Wy,l,w,fI];exact d
  .have t:i64.wrap ((i:Int) - n)= (i:Int) - n:=wr (by omega);have o: 0<=(i:Int) - n/\(i:Int) - n < (a.length:Int):=by omega
   have g:((i:Int) - n).toNat < a.length:=by omega
   have q:(enc a)[((i:Int) - n).toNat]? =some [ti (a.getD ((i:Int) - n).toNat 0)]:=by refine fS ?_;rw [Wp,Wv g];rfl
   have d:=j (i+1) M (b++ [a.getD ((i:Int) - n).toNat 0]) (by omega) h (by omega) (by simp [c]);rw [if_neg f];simp only [WV,W5] at d;refine ai ?_;rw [Bc];simp only [an,↓reduceIte,Int.reduceBEq,Int.reduceEq,e,f,t,o,and_self,q,be,bd,Wq,aZ,aW,aD,Wy,l,w,fI];exact d
theorem Rd{ea:Bool}{a:List Int}{n:Int}(s: 0<=n)(r:n<=1000)(hl:a.length<=100):∀(k i:Nat) (M:Mk) (b:List Int),i+k=a.length->n<=(i:Int)->b.length=i->
  Or kR [r0,ad ea a,I n,o3,I (a.length:Int),I (i:Int)] (Lm M b)=some (T.ad 1 false (enc (b++ (fD M a n i k).1))::cY (fD M a n i k).2):=by
 intro k;induction k with
 | zero=>
  intro i M b m h c;have e:¬(i:Int) < (a.length:Int):=by omega
  refine ai ?_;rw [F1];simp only [an,↓reduceIte,Int.reduceBEq,Int.reduceEq,e,be,bd,Wq,aZ,aW,fD,WQ];rfl
 | succ k o=>
  intro i M b m h c;have e:(i:Int) < (a.length:Int):=by omega
  have w:=next i (by omega);have p:bA 8 (b.length+1)=some ():=cM (by omega);rw [fD];have d:¬(i:Int) < n:=by omega
  have q:i64.wrap ((i:Int) - n)= (i:Int) - n:=wr (by omega);have j: 0<=(i:Int) - n/\(i:Int) - n < (a.length:Int):=by omega
  have f:((i:Int) - n).toNat < a.length:=by omega
  have l:(enc a)[((i:Int) - n).toNat]? =some [ti (a.getD ((i:Int) - n).toNat 0)]:=by refine fS ?_;rw [Wp,Wv f];rfl
  have g:=o (i+1) M (b++ [a.getD ((i:Int) - n).toNat 0]) (by omega) (by omega) (by simp [c]);rw [if_neg d];simp only [WV,W5] at g;refine ai ?_;rw [F1];simp only [an,↓reduceIte,Int.reduceBEq,Int.reduceEq,e,d,q,j,and_self,l,be,bd,Wq,aZ,aW,aD,Wy,p,w,fI];exact g
theorem C2{M:Mk}(h:Ok M){ea:Bool}{a:List Int}{n:Int}(j: 0<=n)(e:n<=1000)(hl:a.length<=100)(s:M.N.length<=70000):
  Or (.call 49) [r0,ad ea a,I n] (dW M)=some (LO (bG M a n).1::cY (bG M a n).2):=by
 have c:Or kR [r0,ad ea a,I n,AV.t (T.aB true),I (a.length:Int),I 0] (dW M)=some (LO (bG M a n).1::cY (bG M a n).2):=by
  unfold bG;cases a with
  | nil=>refine ai ?_;rw [Bb];simp only [an,↓reduceIte,Int.reduceBEq,Int.reduceEq,be,bd,Wq,aZ,aW,fD,WN,W3,Xb,decide_false];rfl
  | cons x b=>
   rw [Wz] at hl;have i:(0:Int) < (((x::b).length:Nat):Int):=by simp
   have w:i64.wrap (0+1)= ((1:Nat):Int):=by decide
   rw [show fD M (x::b) n 0 (x::b).length=fD M (x::b) n 0 (b.length+1) from rfl,fD];by_cases f:(0:Int) < n
   .have p:=nX (show M.N.length<=100000 by omega) false;obtain⟨k,v⟩:=kB h false;have g:=Rc (ea:=ea) (a:=x::b) j e (by rw [Wz];omega) b.length 1 _ [(dx M false).1] (by rw [Wz];omega) k.ok (by have:=k.up;omega) rfl;have d:((0:Nat):Int) < n:=f;rw [if_pos d];refine ai ?_;rw [Bb];simp only [an,↓reduceIte,Int.reduceBEq,Int.reduceEq,i,f,p,be,bd,Wq,aZ,aW,w];exact g
   .have l:n=0:=by omega
    subst l;have q:i64.wrap (0 - 0)=0:=by decide
    have m:(0:Int)<=0:=by omega
    have o:(enc (x::b))[(0:Int).toNat]? =some [ti x]:=rfl;have g:=Rd (ea:=ea) (a:=x::b) (n:=0) j e (by rw [Wz];omega) b.length 1 M [x] (by rw [Wz];omega) (by omega) rfl;have d:¬((0:Nat):Int) < 0:=by omega
    rw [if_neg d];refine ai ?_;rw [Bb];simp only [an,↓reduceIte,Int.reduceBEq,Int.reduceEq,i,f,q,m,and_self,o,aD,be,bd,Wq,aZ,aW,w];exact g
 generalize u:LO (bG M a n).1::cY (bG M a n).2=r at c;refine ai ?_;rw [NX];simp only [an,↓reduceIte,Int.reduceBEq,Int.reduceEq,be,bd,Wq,aZ,aW,aD];exact c
def cL(M:Mk)(x:Int):List Int->List Int×Mk
 | y::l=>((cA M x y).1:: (cL (cA M x y).2 x l).1,(cL (cA M x y).2 x l).2)
 | []=>([],M)
def hJ(M:Mk)(a out:List Int):Nat->List Int->List Int×Mk
 | i,x::b=>
  let l:=bG M a (i:Int);let p:=cL l.2 x l.1;let s:=eu p.2 out p.1
  hJ s.2 a s.1 (i+1) b
 | _,[]=>(out,M)
def jt(M:Mk)(a b:List Int):List Int×Mk:=hJ (bG M a (a.length:Int)).2 a (bG M a (a.length:Int)).1 0 b
theorem I1{x:Int}:∀{l:List Int} {M:Mk},Ok M->In M x->(∀y∈l,In M y)->
  Up M (cL M x l).2 l.length/\(∀y∈(cL M x l).1,In (cL M x l).2 y)/\(cL M x l).1.length=l.length
 | [],M,h,_,_=>⟨Up.refl h,λx c=>(by cases c),rfl⟩
 | y::l,M,h,c,hl=>by
  obtain⟨b,e⟩:=iS h c (hl y Wl);obtain⟨d,f,g⟩:=I1 (l:=l) b.ok (b.In c) (b.all λz a=>hl z (Wn _ a));refine⟨(b.trans d).mono (by rw [Wz];omega),λz a=> ?_,by simp [cL,g]⟩;rcases WC.1 a with rfl | a
  .exact d.In e
  .exact f z a
structure Lp (M:Mk) (a out:List Int) (i:Nat) (x:Int):Prop where
 l:Up M (bG M a (i:Int)).2 a.length
 li:∀y∈(bG M a (i:Int)).1,In (bG M a (i:Int)).2 y
 ll:(bG M a (i:Int)).1.length=a.length
 p:Up M (cL (bG M a (i:Int)).2 x (bG M a (i:Int)).1).2 (2 * a.length)
 pi:∀y∈(cL (bG M a (i:Int)).2 x (bG M a (i:Int)).1).1,In (cL (bG M a (i:Int)).2 x (bG M a (i:Int)).1).2 y
 pl:(cL (bG M a (i:Int)).2 x (bG M a (i:Int)).1).1.length=a.length
 s:Up M (eu (cL (bG M a (i:Int)).2 x (bG M a (i:Int)).1).2 out (cL (bG M a (i:Int)).2 x (bG M a (i:Int)).1).1).2 (9 * a.length+1)
 si:∀y∈(eu (cL (bG M a (i:Int)).2 x (bG M a (i:Int)).1).2 out (cL (bG M a (i:Int)).2 x (bG M a (i:Int)).1).1).1,In (eu (cL (bG M a (i:Int)).2 x (bG M a (i:Int)).1).2 out (cL (bG M a (i:Int)).2 x (bG M a (i:Int)).1).1).2 y
 sl:(eu (cL (bG M a (i:Int)).2 x (bG M a (i:Int)).1).2 out (cL (bG M a (i:Int)).2 x (bG M a (i:Int)).1).1).1.length=a.length
theorem KH{M:Mk}(h:Ok M){a out:List Int}(m:∀y∈a,In M y)(ho:∀y∈out,In M y)(c:out.length=a.length)(i:Nat){x:Int}(o:In M x):Lp M a out i x:=by obtain⟨b,e,f⟩:=vX (n:=(i:Int)) (by omega) h m;obtain⟨g,j,d⟩:=I1 b.ok (b.In o) e;rw [f] at g d;have p:=(b.trans g).mono (show a.length+a.length<=2 * a.length by omega);obtain⟨k,q,l⟩:=Kw p.ok (p.all ho) j (by rw [c,d]);rw [c] at k l;exact⟨b,e,f,p,j,d,(p.trans k).mono (by omega),q,l⟩
theorem KG{a:List Int}:∀{b:List Int} {i:Nat} {M:Mk} {out:List Int},Ok M->(∀y∈a,In M y)->(∀y∈b,In M y)->(∀y∈out,In M y)->out.length=a.length->
  Up M (hJ M a out i b).2 ((9 * a.length+1) * b.length)/\(∀y∈(hJ M a out i b).1,In (hJ M a out i b).2 y)/\(hJ M a out i b).1.length=a.length
 | [],i,M,out,h,_,_,ho,hl=>⟨(Up.refl h).mono (by omega),ho,hl⟩
 | x::b,i,M,out,h,c,d,ho,hl=>by have st:=KH h c ho hl i (d x Wl);obtain⟨e,f,g⟩:=KG (a:=a) (b:=b) (i:=i+1) st.s.ok (st.s.all c) (st.s.all λz j=>d z (Wn _ j)) st.si st.sl;exact⟨(st.s.trans e).mono (by rw [Wz,ZD];omega),f,g⟩
theorem UK{M:Mk}(h:Ok M){a b:List Int}(d:∀y∈a,In M y)(j:∀y∈b,In M y):
  Up M (jt M a b).2 (a.length+ (9 * a.length+1) * b.length)/\(∀y∈(jt M a b).1,In (jt M a b).2 y)/\(jt M a b).1.length=a.length:=by
 obtain⟨c,k,l⟩:=vX (n:=(a.length:Int)) (by omega) h d;obtain⟨e,f,g⟩:=KG (a:=a) (b:=b) (i:=0) c.ok (c.all d) (c.all j) k l;exact⟨c.trans e,f,g⟩
theorem Rb{ea eo eb el:Bool}{a out b l:List Int}{x:Int}{i:Nat}(hl:l.length<=100)(C:out.length=l.length)(E:i<=100){r:List T}:∀(rl:List Int) (j:Nat) (M:Mk) (c:List Int),l.drop j=rl->j<=l.length->Ok M->In M x->(∀y∈rl,In M y)->(∀y∈out,In M y)->(∀y∈c,In M y)->M.N.length+rl.length<=60000->c.length=j->
  Or sN [r0,ad ea a,ad (eu (cL M x rl).2 out (c++ (cL M x rl).1)).1.isEmpty (eu (cL M x rl).2 out (c++ (cL M x rl).1)).1,ad eb b,I (b.length:Int),I ((i+1:Nat):Int)] (uN (eu (cL M x rl).2 out (c++ (cL M x rl).1)).2)=some r->
  Or qR [r0,ad ea a,ad eo out,I x,o3,ad eb b,I (b.length:Int),I (i:Int),ad el l,I (l.length:Int),I (j:Int)] (qS M c)=some r:=by
 intro rl;induction rl with
 | nil=>
  intro j M c m u h n hrl ho d q o f;have p:¬(j:Int) < (l.length:Int):=by have:=bt m;omega
  have B:j=l.length:=by have:=bt m;omega
  rw [cL,WQ] at f;have k1:=J0 (ea:=eo) (eb:=false) h (a:=out) (b:=c) (by omega) (by omega) ho d (by simp at q;omega);refine ai ?_;rw [F0];simp only [an,↓reduceIte,Int.reduceBEq,Int.reduceEq,p,k1,be,bd,Wq,aZ,aW,de,next i (by omega)];exact f
 | cons y rl v=>
  intro j M c m u h n hrl ho d q o f;obtain⟨g1,D,t⟩:=br m;have p:(j:Int) < (l.length:Int):=by omega
  have h0: 0<=(j:Int):=by omega
  have s:=hrl y Wl;rw [Wz] at q;have k1:=nc (show M.N.length<=100000 by omega) n s;obtain⟨e,A⟩:=iS h n s;have w:bA 8 (c.length+1)=some ():=cM (by omega);have k:=v (j+1) _ (c++ [(cA M x y).1]) t (by omega) e.ok (e.In n) (e.all λz k=>hrl z (Wn _ k)) (e.all ho) (λz k=> ?_) (by have:=e.up;omega) (by simp [o]) (by
   rw [cL] at f;simpa only [WV,W5] using f)
  .refine ai ?_;rw [F0];simp only [an,↓reduceIte,Int.reduceBEq,Int.reduceEq,p,h0,and_self,aD,bP g1,k1,be,bd,Wq,aZ,aW,Wy,w,next j (by omega),fI];exact k
  .rcases WK.1 k with g | g
   .exact e.In (d z g)
   .simp only [WA] at g;subst g;exact A
theorem Ra{ea eb:Bool}{a b:List Int}(R: 1<=a.length)(hl:a.length<=8)(S:b.length<=8):∀(c:List Int) (i:Nat) (M:Mk) (out:List Int),b.drop i=c->i<=b.length->Ok M->(∀y∈a,In M y)->(∀y∈c,In M y)->(∀y∈out,In M y)->out.length=a.length->M.N.length+100 * c.length<=50000->
  Or sN [r0,ad ea a,ad out.isEmpty out,ad eb b,I (b.length:Int),I (i:Int)] (uN M)=some (T.ad 1 (hJ M a out i c).1.isEmpty (enc (hJ M a out i c).1)::cY (hJ M a out i c).2):=by
 intro c;induction c with
 | nil=>
  intro i M out q K h j u ho o v;have r:¬(i:Int) < (b.length:Int):=by have:=bt q;omega
  rw [hJ];refine ai ?_;rw [FZ];simp only [an,↓reduceIte,Int.reduceBEq,Int.reduceEq,r,be,bd,Wq,aZ,aW];rfl
 | cons x c O=>
  intro i M out q K h j u ho o v;obtain⟨g1,U,E⟩:=br q;have r:(i:Int) < (b.length:Int):=by omega
  have h0: 0<=(i:Int):=by omega
  have C:=u x Wl;rw [Wz] at v;have st:=KH h j ho o i C;have k1:=C2 (ea:=ea) h (a:=a) (n:=(i:Int)) h0 (by omega) (by omega) (by omega);rw [hJ];have d:=O (i+1) _ _ E (by omega) st.s.ok (st.s.all j) (st.s.all λz d=>u z (Wn _ d)) st.si st.sl (by have:=st.s.up;omega)
  have A:Or qR [r0,ad ea a,ad out.isEmpty out,I x,AV.t (T.aB true),ad eb b,I (b.length:Int),I (i:Int),ad (bG M a (i:Int)).1.isEmpty (bG M a (i:Int)).1,I ((bG M a (i:Int)).1.length:Int),I 0] (uN (bG M a (i:Int)).2)=
    some (T.ad 1 (hJ (eu (cL (bG M a (i:Int)).2 x (bG M a (i:Int)).1).2 out (cL (bG M a (i:Int)).2 x (bG M a (i:Int)).1).1).2 a (eu (cL (bG M a (i:Int)).2 x (bG M a (i:Int)).1).2 out (cL (bG M a (i:Int)).2 x (bG M a (i:Int)).1).1).1 (i+1) c).1.isEmpty (enc (hJ (eu (cL (bG M a (i:Int)).2 x (bG M a (i:Int)).1).2 out (cL (bG M a (i:Int)).2 x (bG M a (i:Int)).1).1).2 a (eu (cL (bG M a (i:Int)).2 x (bG M a (i:Int)).1).2 out (cL (bG M a (i:Int)).2 x (bG M a (i:Int)).1).1).1 (i+1) c).1)::
     cY (hJ (eu (cL (bG M a (i:Int)).2 x (bG M a (i:Int)).1).2 out (cL (bG M a (i:Int)).2 x (bG M a (i:Int)).1).1).2 a (eu (cL (bG M a (i:Int)).2 x (bG M a (i:Int)).1).2 out (cL (bG M a (i:Int)).2 x (bG M a (i:Int)).1).1).1 (i+1) c).2):=by
   obtain⟨e,k,m⟩:=vX (n:=(i:Int)) (by omega) h j;revert d e k m;generalize (bG M a (i:Int)).1=l;generalize (bG M a (i:Int)).2=p;intro d e k m;have Q:p.N.length<=50010:=by have:=e.up;omega
   have f:=e.In C;have B:=e.all ho;have F:=e.ok;cases l with
   | nil=>rw [WN] at m;omega
   | cons y rl=>
    rw [Wz] at m;have D:=k y Wl;have k2:=nc (show p.N.length<=100000 by omega) f D;obtain⟨g,P⟩:=iS F f D;have G:(0:Int) < (((y::rl).length:Nat):Int):=by simp
    have H:(0:Int)<=0:=by omega
    have J:(enc (y::rl))[(0:Int).toNat]? =some [ti y]:=rfl;have w:i64.wrap (0+1)= ((1:Nat):Int):=by decide
    have L:=Rb (ea:=ea) (eo:=out.isEmpty) (eb:=eb) (el:=false) (a:=a) (out:=out) (b:=b) (l:=y::rl) (x:=x) (i:=i) (by rw [Wz];omega) (by rw [Wz];omega) (by omega) rl 1 _ [(cA p x y).1] rfl (by simp) g.ok (g.In f) (g.all λz d=>k z (Wn _ d)) (g.all B) (λz d=>by simp only [WA] at d;subst d;exact P) (by have:=g.up;omega) rfl d;refine ai ?_;rw [NV];simp only [an,↓reduceIte,Int.reduceBEq,Int.reduceEq,G,H,and_self,aD,J,k2,be,bd,Wq,aZ,aW,w,Y4];exact L
  refine ai ?_;rw [FZ];simp only [an,↓reduceIte,Int.reduceBEq,Int.reduceEq,r,h0,and_self,aD,bP g1,k1,be,bd,Wq,aZ,aW,de];exact A
theorem Tw{M:Mk}(h:Ok M){ea eb:Bool}{a b:List Int}(e: 1<=a.length)(hl:a.length<=8)(f:b.length<=8)(d:∀y∈a,In M y)(g:∀y∈b,In M y)(l:M.N.length<=40000):
  Or (.call 48) [r0,ad ea a,ad eb b] (dW M)=some (T.ad 1 (jt M a b).1.isEmpty (enc (jt M a b).1)::cY (jt M a b).2):=by
 have k1:=C2 (ea:=ea) h (a:=a) (n:=(a.length:Int)) (by omega) (by omega) (by omega) (by omega);obtain⟨c,j,k⟩:=vX (n:=(a.length:Int)) (by omega) h d;have i:=Ra (ea:=ea) (eb:=eb) e hl f b 0 _ _ rfl (by omega) c.ok (c.all d) (c.all g) j k (by have:=c.up;omega);unfold jt;refine ai ?_;rw [NU];simp only [an,↓reduceIte,Int.reduceBEq,Int.reduceEq,k1,be,bd,Wq,aZ,aW,de,aD];exact i
def gG(M:Mk)(c:Int):List Int->List Int->Int×Mk
 | x::a,y::b=>
  let n:=gY M x;let p:=cA n.2 n.1 y;let q:=eF p.2 x y;let s:=cA q.2 q.1 c;let t:=eS s.2 p.1 s.1
  gG t.2 t.1 a b
 | _,_=>(c,M)
def me(M:Mk)(a b:List Int):Int×Mk:=gG (dx M false).2 (dx M false).1 a b
theorem P0(M:Mk)(c:Int)(b:List Int):gG M c [] b= (c,M):=by simp [gG]
theorem Re{ea eb:Bool}{a b:List Int}(W:a.length=b.length)(hl:a.length<=100):∀(d e:List Int) (i:Nat) (M:Mk) (c:Int),a.drop i=d->b.drop i=e->i<=a.length->Ok M->In M c->(∀x∈d,In M x)->(∀x∈e,In M x)->M.N.length+5 * d.length<=80000->
  Or Ab [r0,ad ea a,ad eb b,I c,I (a.length:Int),I (i:Int)] (uN M)=some (ti (gG M c d e).1::cY (gG M c d e).2)/\Up M (gG M c d e).2 (5 * d.length)/\In (gG M c d e).2 (gG M c d e).1:=by
 intro d;induction d with
 | nil=>
  intro e i M c l m K h g o r A;have n:¬(i:Int) < (a.length:Int):=by have:=bt l;omega
  rw [P0];refine⟨ai ?_,Up.refl h,g⟩;rw [F2];simp only [an,↓reduceIte,Int.reduceBEq,Int.reduceEq,n,be,bd,Wq,aZ,aW];rfl
 | cons x d L=>
  intro e i M c l m K h g o r A;obtain⟨g1,X,F⟩:=br l;cases e with
  | nil=>exact absurd (bt m) (by omega)
  | cons y e=>
   obtain⟨G,Y,H⟩:=br m;have n:(i:Int) < (a.length:Int):=by omega
   have J:(i:Int) < (b.length:Int):=by omega
   have h0: 0<=(i:Int):=by omega
   have j:=o x Wl;have k:=r y Wl;rw [Wz] at A;obtain⟨f,B⟩:=rZ h j;obtain⟨Q,C⟩:=iS f.ok B (f.In k);have p:=f.trans Q;obtain⟨v,D⟩:=rM p.ok (p.In j) (p.In k);have q:=p.trans v;obtain⟨w,E⟩:=iS q.ok D (q.In g);have s:=q.trans w;obtain⟨R,S⟩:=r9 s.ok ((v.trans w).In C) E;have t:=s.trans R;have k1:=uu h (by omega) j;have k2:=nc (by have:=f.up;omega) B (f.In k);have k3:=zB p.ok (by have:=p.up;omega) (p.In j) (p.In k);have O:=nc (by have:=q.up;omega) D (q.In g);have P:=wU (by have:=s.up;omega) ((v.trans w).In C) E;obtain⟨T,U,V⟩:=L e (i+1) _ _ F H (by omega) t.ok S (t.all λz u=>o z (Wn _ u)) (t.all λz u=>r z (Wn _ u)) (by have:=t.up;omega);rw [gG];refine⟨ai ?_,(t.trans U).mono (by rw [Wz];omega),V⟩;rw [F2];simp only [an,↓reduceIte,Int.reduceBEq,Int.reduceEq,n,J,h0,and_self,aD,bP g1,bP G,k1,k2,k3,O,P,be,bd,Wq,aZ,aW,next i (by omega)];exact T
theorem J1{M:Mk}(h:Ok M){ea eb:Bool}{a b:List Int}(d:a.length=b.length)(hl:a.length<=100)(e:∀x∈a,In M x)(f:∀x∈b,In M x)(m:M.N.length<=70000):
  Or (.call 50) [r0,ad ea a,ad eb b] (dW M)=some (ti (me M a b).1::cY (me M a b).2)/\Up M (me M a b).2 (1+5 * a.length)/\In (me M a b).2 (me M a b).1:=by
 have g:=nX (show M.N.length<=100000 by omega) false;obtain⟨c,i⟩:=kB h false;obtain⟨j,k,l⟩:=Re (ea:=ea) (eb:=eb) d hl a b 0 _ _ rfl rfl (by omega) c.ok i (c.all e) (c.all f) (by have:=c.up;omega);unfold me;refine⟨ai ?_,c.trans k,l⟩;rw [NY];simp only [an,↓reduceIte,Int.reduceBEq,Int.reduceEq,g,be,bd,Wq,aZ,aW,aD];exact j
theorem Q6{ea eb:Bool}{a b:List Int}(C:a.length=b.length)(hl:a.length<=100):∀(e d:List Int) (i:Nat) (M:Mk) (c:List Int),a.drop i=e->b.drop i=d->i<=a.length->Ok M->(∀x∈e,In M x)->(∀x∈d,In M x)->M.N.length+2 * e.length<=80000->c.length=i->
  Or eU [ad ea a,ad eb b,AV.fn 44 [r0] [],o3,I (a.length:Int),I (i:Int)] (qS M c)=some (T.ad 1 false (enc (c++ (aT cA M e d).1))::cY (aT cA M e d).2):=by
 intro e;induction e with
 | nil=>
  intro d i M c k l w h n o p g;have m:¬(i:Int) < (a.length:Int):=by have:=bt k;omega
  refine ai ?_;rw [FW];simp only [an,↓reduceIte,Int.reduceBEq,Int.reduceEq,m,be,bd,Wq,aZ,aW,aT,WQ];rfl
 | cons x e A=>
  intro d i M c k l w h n o p g;obtain⟨g1,D,s⟩:=br k;cases d with
  | nil=>exact absurd (bt l) (by omega)
  | cons y d=>
   obtain⟨t,E,u⟩:=br l;have m:(i:Int) < (a.length:Int):=by omega
   have v:(i:Int) < (b.length:Int):=by omega
   have h0: 0<=(i:Int):=by omega
   have q:=n x Wl;have r:=o y Wl;rw [Wz] at p;have k1:=nc (show M.N.length<=100000 by omega) q r;obtain⟨j,F⟩:=iS h q r;have B:bA 8 (c.length+1)=some ():=cM (by omega);have f:=A d (i+1) _ (c++ [(cA M x y).1]) s u (by omega) j.ok (j.all λz f=>n z (Wn _ f)) (j.all λz f=>o z (Wn _ f)) (by have:=j.up;omega) (by simp [g]);simp only [WV,W5] at f;rw [aT];refine ai ?_;rw [FW];simp only [an,↓reduceIte,Int.reduceBEq,Int.reduceEq,m,v,h0,and_self,aD,bP g1,bP t,k1,be,bd,Wq,aZ,aW,Wy,B,next i (by omega),fI];exact f
theorem Ts{M:Mk}(h:Ok M){ea eb:Bool}{a b:List Int}(f:a.length=b.length)(hl:a.length<=100)(j:∀x∈a,In M x)(k:∀x∈b,In M x)(s:M.N.length<=70000):
  Or (.call 40) [ad ea a,ad eb b,AV.fn 44 [r0] []] (dW M)=some (LO (aT cA M a b).1::cY (aT cA M a b).2):=by
 have c:Or eU [ad ea a,ad eb b,AV.fn 44 [r0] [],AV.t (T.aB true),I (a.length:Int),I 0] (dW M)=some (LO (aT cA M a b).1::cY (aT cA M a b).2):=by
  cases a with
  | nil=>refine ai ?_;rw [FQ];simp only [an,↓reduceIte,Int.reduceBEq,Int.reduceEq,be,bd,Wq,aZ,aW,aT,WN,W3,Xb,decide_false];rfl
  | cons x g=>
   cases b with
   | nil=>cases f
   | cons y i=>
    have m:=j x Wl;have n:=k y Wl;have k1:=nc (show M.N.length<=100000 by omega) m n;obtain⟨e,v⟩:=iS h m n;have p:(0:Int) < (((x::g).length:Nat):Int):=by simp
    have q:(0:Int) < (((y::i).length:Nat):Int):=by simp
    have h0:(0:Int)<=0:=by omega
    have g1:(enc (x::g))[(0:Int).toNat]? =some [ti x]:=rfl;have o:(enc (y::i))[(0:Int).toNat]? =some [ti y]:=rfl;have w:i64.wrap (0+1)= ((1:Nat):Int):=by decide
    have l:=hl;rw [Wz] at l;have d:=Q6 (ea:=ea) (eb:=eb) f hl g i 1 _ [(cA M x y).1] rfl rfl (by simp) e.ok (e.all λz d=>j z (Wn _ d)) (e.all λz d=>k z (Wn _ d)) (by have:=e.up;omega) rfl;rw [aT];refine ai ?_;rw [FQ];simp only [an,↓reduceIte,Int.reduceBEq,Int.reduceEq,p,q,h0,and_self,aD,g1,o,k1,be,bd,Wq,aZ,aW,w];exact d
 generalize u:LO (aT cA M a b).1::cY (aT cA M a b).2=r at c;refine ai ?_;rw [NJ];simp only [an,↓reduceIte,Int.reduceBEq,Int.reduceEq,be,bd,Wq,aZ,aW,aD];exact c
theorem Q7{ea eb:Bool}{a b:List Int}(C:a.length=b.length)(hl:a.length<=100):∀(e d:List Int) (i:Nat) (M:Mk) (c:List Int),a.drop i=e->b.drop i=d->i<=a.length->Ok M->(∀x∈e,In M x)->(∀x∈d,In M x)->M.N.length+2 * e.length<=80000->c.length=i->
  Or eU [ad ea a,ad eb b,AV.fn 45 [r0] [],o3,I (a.length:Int),I (i:Int)] (qS M c)=some (T.ad 1 false (enc (c++ (aT eS M e d).1))::cY (aT eS M e d).2):=by
 intro e;induction e with
 | nil=>
  intro d i M c k l w h n o p g;have m:¬(i:Int) < (a.length:Int):=by have:=bt k;omega
  refine ai ?_;rw [FX];simp only [an,↓reduceIte,Int.reduceBEq,Int.reduceEq,m,be,bd,Wq,aZ,aW,aT,WQ];rfl
 | cons x e A=>
  intro d i M c k l w h n o p g;obtain⟨g1,D,s⟩:=br k;cases d with
  | nil=>exact absurd (bt l) (by omega)
  | cons y d=>
   obtain⟨t,E,u⟩:=br l;have m:(i:Int) < (a.length:Int):=by omega
   have v:(i:Int) < (b.length:Int):=by omega
   have h0: 0<=(i:Int):=by omega
   have q:=n x Wl;have r:=o y Wl;rw [Wz] at p;have k1:=wU (show M.N.length<=100000 by omega) q r;obtain⟨j,F⟩:=r9 h q r;have B:bA 8 (c.length+1)=some ():=cM (by omega);have f:=A d (i+1) _ (c++ [(eS M x y).1]) s u (by omega) j.ok (j.all λz f=>n z (Wn _ f)) (j.all λz f=>o z (Wn _ f)) (by have:=j.up;omega) (by simp [g]);simp only [WV,W5] at f;rw [aT];refine ai ?_;rw [FX];simp only [an,↓reduceIte,Int.reduceBEq,Int.reduceEq,m,v,h0,and_self,aD,bP g1,bP t,k1,be,bd,Wq,aZ,aW,Wy,B,next i (by omega),fI];exact f
theorem Tt{M:Mk}(h:Ok M){ea eb:Bool}{a b:List Int}(f:a.length=b.length)(hl:a.length<=100)(j:∀x∈a,In M x)(k:∀x∈b,In M x)(s:M.N.length<=70000):
  Or (.call 40) [ad ea a,ad eb b,AV.fn 45 [r0] []] (dW M)=some (LO (aT eS M a b).1::cY (aT eS M a b).2):=by
 have c:Or eU [ad ea a,ad eb b,AV.fn 45 [r0] [],AV.t (T.aB true),I (a.length:Int),I 0] (dW M)=some (LO (aT eS M a b).1::cY (aT eS M a b).2):=by
  cases a with
  | nil=>refine ai ?_;rw [FR];simp only [an,↓reduceIte,Int.reduceBEq,Int.reduceEq,be,bd,Wq,aZ,aW,aT,WN,W3,Xb,decide_false];rfl
  | cons x g=>
   cases b with
   | nil=>cases f
   | cons y i=>
    have m:=j x Wl;have n:=k y Wl;have k1:=wU (show M.N.length<=100000 by omega) m n;obtain⟨e,v⟩:=r9 h m n;have p:(0:Int) < (((x::g).length:Nat):Int):=by simp
    have q:(0:Int) < (((y::i).length:Nat):Int):=by simp
    have h0:(0:Int)<=0:=by omega
    have g1:(enc (x::g))[(0:Int).toNat]? =some [ti x]:=rfl;have o:(enc (y::i))[(0:Int).toNat]? =some [ti y]:=rfl;have w:i64.wrap (0+1)= ((1:Nat):Int):=by decide
    have l:=hl;rw [Wz] at l;have d:=Q7 (ea:=ea) (eb:=eb) f hl g i 1 _ [(eS M x y).1] rfl rfl (by simp) e.ok (e.all λz d=>j z (Wn _ d)) (e.all λz d=>k z (Wn _ d)) (by have:=e.up;omega) rfl;rw [aT];refine ai ?_;rw [FR];simp only [an,↓reduceIte,Int.reduceBEq,Int.reduceEq,p,q,h0,and_self,aD,g1,o,k1,be,bd,Wq,aZ,aW,w];exact d
 generalize u:LO (aT eS M a b).1::cY (aT eS M a b).2=r at c;refine ai ?_;rw [NK];simp only [an,↓reduceIte,Int.reduceBEq,Int.reduceEq,be,bd,Wq,aZ,aW,aD];exact c
theorem Q8{ea eb:Bool}{a b:List Int}(C:a.length=b.length)(hl:a.length<=100):∀(e d:List Int) (i:Nat) (M:Mk) (c:List Int),a.drop i=e->b.drop i=d->i<=a.length->Ok M->(∀x∈e,In M x)->(∀x∈d,In M x)->M.N.length+2 * e.length<=80000->c.length=i->
  Or eU [ad ea a,ad eb b,AV.fn 46 [r0] [],o3,I (a.length:Int),I (i:Int)] (qS M c)=some (T.ad 1 false (enc (c++ (aT bJ M e d).1))::cY (aT bJ M e d).2):=by
 intro e;induction e with
 | nil=>
  intro d i M c k l w h n o p g;have m:¬(i:Int) < (a.length:Int):=by have:=bt k;omega
  refine ai ?_;rw [FY];simp only [an,↓reduceIte,Int.reduceBEq,Int.reduceEq,m,be,bd,Wq,aZ,aW,aT,WQ];rfl
 | cons x e A=>
  intro d i M c k l w h n o p g;obtain⟨g1,D,s⟩:=br k;cases d with
  | nil=>exact absurd (bt l) (by omega)
  | cons y d=>
   obtain⟨t,E,u⟩:=br l;have m:(i:Int) < (a.length:Int):=by omega
   have v:(i:Int) < (b.length:Int):=by omega
   have h0: 0<=(i:Int):=by omega
   have q:=n x Wl;have r:=o y Wl;rw [Wz] at p;have k1:=uv h (by omega) q r;obtain⟨j,F⟩:=qE h q r;have B:bA 8 (c.length+1)=some ():=cM (by omega);have f:=A d (i+1) _ (c++ [(bJ M x y).1]) s u (by omega) j.ok (j.all λz f=>n z (Wn _ f)) (j.all λz f=>o z (Wn _ f)) (by have:=j.up;omega) (by simp [g]);simp only [WV,W5] at f;rw [aT];refine ai ?_;rw [FY];simp only [an,↓reduceIte,Int.reduceBEq,Int.reduceEq,m,v,h0,and_self,aD,bP g1,bP t,k1,be,bd,Wq,aZ,aW,Wy,B,next i (by omega),fI];exact f
theorem Tu{M:Mk}(h:Ok M){ea eb:Bool}{a b:List Int}(f:a.length=b.length)(hl:a.length<=100)(j:∀x∈a,In M x)(k:∀x∈b,In M x)(s:M.N.length<=70000):
  Or (.call 40) [ad ea a,ad eb b,AV.fn 46 [r0] []] (dW M)=some (LO (aT bJ M a b).1::cY (aT bJ M a b).2):=by
 have c:Or eU [ad ea a,ad eb b,AV.fn 46 [r0] [],AV.t (T.aB true),I (a.length:Int),I 0] (dW M)=some (LO (aT bJ M a b).1::cY (aT bJ M a b).2):=by
  cases a with
  | nil=>refine ai ?_;rw [FT];simp only [an,↓reduceIte,Int.reduceBEq,Int.reduceEq,be,bd,Wq,aZ,aW,aT,WN,W3,Xb,decide_false];rfl
  | cons x g=>
   cases b with
   | nil=>cases f
   | cons y i=>
    have m:=j x Wl;have n:=k y Wl;have k1:=uv h (by omega) m n;obtain⟨e,v⟩:=qE h m n;have p:(0:Int) < (((x::g).length:Nat):Int):=by simp
    have q:(0:Int) < (((y::i).length:Nat):Int):=by simp
    have h0:(0:Int)<=0:=by omega
    have g1:(enc (x::g))[(0:Int).toNat]? =some [ti x]:=rfl;have o:(enc (y::i))[(0:Int).toNat]? =some [ti y]:=rfl;have w:i64.wrap (0+1)= ((1:Nat):Int):=by decide
    have l:=hl;rw [Wz] at l;have d:=Q8 (ea:=ea) (eb:=eb) f hl g i 1 _ [(bJ M x y).1] rfl rfl (by simp) e.ok (e.all λz d=>j z (Wn _ d)) (e.all λz d=>k z (Wn _ d)) (by have:=e.up;omega) rfl;rw [aT];refine ai ?_;rw [FT];simp only [an,↓reduceIte,Int.reduceBEq,Int.reduceEq,p,q,h0,and_self,aD,g1,o,k1,be,bd,Wq,aZ,aW,w];exact d
 generalize u:LO (aT bJ M a b).1::cY (aT bJ M a b).2=r at c;refine ai ?_;rw [NL];simp only [an,↓reduceIte,Int.reduceBEq,Int.reduceEq,be,bd,Wq,aZ,aW,aD];exact c
theorem Q9{ea eb:Bool}{a b:List Int}(C:a.length=b.length)(hl:a.length<=100):∀(e d:List Int) (i:Nat) (M:Mk) (c:List Int),a.drop i=e->b.drop i=d->i<=a.length->Ok M->(∀x∈e,In M x)->(∀x∈d,In M x)->M.N.length+2 * e.length<=80000->c.length=i->
  Or eU [ad ea a,ad eb b,AV.fn 51 [r0] [],o3,I (a.length:Int),I (i:Int)] (qS M c)=some (T.ad 1 false (enc (c++ (aT eF M e d).1))::cY (aT eF M e d).2):=by
 intro e;induction e with
 | nil=>
  intro d i M c k l w h n o p g;have m:¬(i:Int) < (a.length:Int):=by have:=bt k;omega
  refine ai ?_;rw [FP];simp only [an,↓reduceIte,Int.reduceBEq,Int.reduceEq,m,be,bd,Wq,aZ,aW,aT,WQ];rfl
 | cons x e A=>
  intro d i M c k l w h n o p g;obtain⟨g1,D,s⟩:=br k;cases d with
  | nil=>exact absurd (bt l) (by omega)
  | cons y d=>
   obtain⟨t,E,u⟩:=br l;have m:(i:Int) < (a.length:Int):=by omega
   have v:(i:Int) < (b.length:Int):=by omega
   have h0: 0<=(i:Int):=by omega
   have q:=n x Wl;have r:=o y Wl;rw [Wz] at p;have k1:=zB h (by omega) q r;obtain⟨j,F⟩:=rM h q r;have B:bA 8 (c.length+1)=some ():=cM (by omega);have f:=A d (i+1) _ (c++ [(eF M x y).1]) s u (by omega) j.ok (j.all λz f=>n z (Wn _ f)) (j.all λz f=>o z (Wn _ f)) (by have:=j.up;omega) (by simp [g]);simp only [WV,W5] at f;rw [aT];refine ai ?_;rw [FP];simp only [an,↓reduceIte,Int.reduceBEq,Int.reduceEq,m,v,h0,and_self,aD,bP g1,bP t,k1,be,bd,Wq,aZ,aW,Wy,B,next i (by omega),fI];exact f
theorem Tv{M:Mk}(h:Ok M){ea eb:Bool}{a b:List Int}(f:a.length=b.length)(hl:a.length<=100)(j:∀x∈a,In M x)(k:∀x∈b,In M x)(s:M.N.length<=70000):
  Or (.call 40) [ad ea a,ad eb b,AV.fn 51 [r0] []] (dW M)=some (LO (aT eF M a b).1::cY (aT eF M a b).2):=by
 have c:Or eU [ad ea a,ad eb b,AV.fn 51 [r0] [],AV.t (T.aB true),I (a.length:Int),I 0] (dW M)=some (LO (aT eF M a b).1::cY (aT eF M a b).2):=by
  cases a with
  | nil=>refine ai ?_;rw [FU];simp only [an,↓reduceIte,Int.reduceBEq,Int.reduceEq,be,bd,Wq,aZ,aW,aT,WN,W3,Xb,decide_false];rfl
  | cons x g=>
   cases b with
   | nil=>cases f
   | cons y i=>
    have m:=j x Wl;have n:=k y Wl;have k1:=zB h (by omega) m n;obtain⟨e,v⟩:=rM h m n;have p:(0:Int) < (((x::g).length:Nat):Int):=by simp
    have q:(0:Int) < (((y::i).length:Nat):Int):=by simp
    have h0:(0:Int)<=0:=by omega
    have g1:(enc (x::g))[(0:Int).toNat]? =some [ti x]:=rfl;have o:(enc (y::i))[(0:Int).toNat]? =some [ti y]:=rfl;have w:i64.wrap (0+1)= ((1:Nat):Int):=by decide
    have l:=hl;rw [Wz] at l;have d:=Q9 (ea:=ea) (eb:=eb) f hl g i 1 _ [(eF M x y).1] rfl rfl (by simp) e.ok (e.all λz d=>j z (Wn _ d)) (e.all λz d=>k z (Wn _ d)) (by have:=e.up;omega) rfl;rw [aT];refine ai ?_;rw [FU];simp only [an,↓reduceIte,Int.reduceBEq,Int.reduceEq,p,q,h0,and_self,aD,g1,o,k1,be,bd,Wq,aZ,aW,w];exact d
 generalize u:LO (aT eF M a b).1::cY (aT eF M a b).2=r at c;refine ai ?_;rw [NM];simp only [an,↓reduceIte,Int.reduceBEq,Int.reduceEq,be,bd,Wq,aZ,aW,aD];exact c
open Go Go.Aev Go.IntKind
theorem dI{h:Type}(a b c d e f g:h)(l:List h):(a::b::c::d::e::f::g::l).drop 7=l:=rfl
theorem dJ{i:Type}(a b c d e f g h:i)(l:List i):(a::b::c::d::e::f::g::h::l).drop 8=l:=rfl
structure Dc where
 nm:ByteArray
 ea:Bool
 ar:List Int
 so:Int
def aN(l:List Dc):List (List T):=l.map λd=> [T.str d.nm,T.ad 1 d.ea (enc d.ar),ti d.so]
def ba(l:List Nd):List (List T):=l.map λx=> [ti x.op,T.ad 1 x.ek (enc x.ks),ti x.n,ti x.d,T.str x.nm]
def bx(l:List (List Int)):List (List T):=l.map λb=> [LO b]
theorem cX(l:List Dc):(aN l).length=l.length:=by simp [aN]
theorem dR(l:List Nd):(ba l).length=l.length:=by simp [ba]
theorem pT(l:List (List Int)):(bx l).length=l.length:=by simp [bx]
theorem fR{l:List Dc}{i:Nat}{d:Dc}(h:l[i]? =some d):(aN l)[((i:Nat):Int).toNat]? =some [T.str d.nm,T.ad 1 d.ea (enc d.ar),ti d.so]:=by simp [aN,h]
theorem gf{l:List Nd}{i:Nat}{x:Nd}(h:l[i]? =some x):(ba l)[((i:Nat):Int).toNat]? =some [ti x.op,T.ad 1 x.ek (enc x.ks),ti x.n,ti x.d,T.str x.nm]:=by simp [ba,h]
theorem uD(a b:ByteArray):(a.toList==b.toList)=decide (a=b):=by
 rw [Go.Lib.toList_data,Go.Lib.toList_data];by_cases h:a=b
 .subst h;simp
 .have:¬a.data.toList=b.data.toList:=λe=>h (by cases a;cases b;simpa using Yb e);rw [decide_eq_false h];exact beq_eq_false_iff_ne.2 this
def jK(nm:ByteArray):Nat->List Dc->Int
 | _,[]=> -1
 | i,d::r=>if d.nm=nm then(i:Int) else jK nm (i+1) r
def bm(ds:List Dc)(nm:ByteArray):Int:=jK nm 0 ds
theorem vI(nm:ByteArray):∀(i:Nat) (ds:List Dc), -1<=jK nm i ds/\jK nm i ds < (i:Int)+ds.length+1
 | i,[]=>by simp [jK];omega
 | i,d::r=>by
  rw [jK];split
  .simp;omega
  .have:=vI nm (i+1) r;simp;omega
theorem RA{e:Bool}{ds:List Dc}{nm:ByteArray}(hl:ds.length<=100):∀(r:List Dc) (i:Nat),ds.drop i=r->
  Or jd [AV.t (T.ad 3 e (aN ds)),AV.fn 78 [] [AV.t (T.ptr [T.str nm])],I (ds.length:Int),I (i:Int)] []=some [ti (jK nm i r)]:=by
 intro r;induction r with
 | nil=>
  intro i g;have b:¬(i:Int) < (ds.length:Int):=by have:=bt g;omega
  refine ai ?_;rw [Gj];simp only [an,↓reduceIte,Int.reduceBEq,Int.reduceEq,b,jK]
 | cons d r h=>
  intro i g;obtain⟨g1,j,f⟩:=br g;have b:(i:Int) < (ds.length:Int):=by omega
  have h0: 0<=(i:Int):=by omega
  have a:Or (.call 78) [AV.agg [AV.t (T.str d.nm),AV.t (T.ad 1 d.ea (enc d.ar)),I d.so],AV.t (T.ptr [T.str nm])] []=some [tb (decide (d.nm=nm))]:=by refine ai ?_;rw [OI,uD]
  refine ai ?_;rw [Gj,jK];by_cases c:d.nm=nm
  .rw [decide_eq_true c] at a;rw [if_pos c];simp only [an,↓reduceIte,Int.reduceBEq,Int.reduceEq,b,h0,and_self,cX,fR g1,a]
  .rw [decide_eq_false c] at a;rw [if_neg c];simp only [an,↓reduceIte,Int.reduceBEq,Int.reduceEq,b,h0,and_self,cX,fR g1,a,next i (by omega)];exact h (i+1) f
theorem ur{ed en eh:Bool}{ds:List Dc}{ns:List Nd}{hs:List Int}{nm:ByteArray}(hl:ds.length<=100):
  Or (.call 39) [AV.agg [AV.t (T.ad 3 ed (aN ds)),AV.t (T.ad 5 en (ba ns)),AV.t (T.ad 1 eh (enc hs))],AV.t (T.str nm)] []=some [ti (bm ds nm)]:=by
 have k:=RA (e:=ed) (nm:=nm) hl ds 0 rfl;have a:Or (.call 75) [AV.t (T.ad 3 ed (aN ds)),AV.fn 78 [] [AV.t (T.ptr [T.str nm])]] []=some [ti (bm ds nm)]:=by refine ai ?_;rw [OF];simp only [cX];exact k
 refine ai ?_;rw [NF];simp only [an,↓reduceIte,Int.reduceBEq,Int.reduceEq,a]
structure Cx where
 ed:Bool
 ds:List Dc
 en:Bool
 ns:List Nd
 eh:Bool
 hs:List Int
 p:ByteArray
 es:Bool
 ss:List Int
structure Tr where
 bits:List (List Int)
 to:List Int
theorem kM{c:Cx}{t:Tr}{M:Mk}{x:Nd}{j:Nat}{k:Int}{b:List Int}(e:x.ks[j]? =some k)(l: 0<=k)(a:t.bits[k.toNat]? =some b):
  Or (.call 37) [I (j:Int),r0,r1] [aa.box [Y'2],aa.box [I x.op,ad x.ek x.ks,I x.n,I x.d,AV.t (T.str x.nm)],aa.box [Y'3,AV.t (T.ad 3 c.ed (aN c.ds)),AV.t (T.ad 5 c.en (ba c.ns)),AV.t (T.ad 1 c.eh (enc c.hs)),AV.t (T.str c.p),AV.t (T.ad 1 c.es (enc c.ss)),V'4,V'5],aa.box [V'6,V'7],aa.sl false 1 t.bits.isEmpty (bx t.bits),aa.sl false 1 t.to.isEmpty (enc t.to),aa.rows M.N.isEmpty 5 1 1 M.N.length (rows M.N),aa.mp false [Ck.s] (Ck.i .i64) (cC M.K)]=some [T.ad 1 b.isEmpty (enc b),T.ax,ti x.op,T.ad 1 x.ek (enc x.ks),ti x.n,ti x.d,T.str x.nm,T.ax,T.ad 3 c.ed (aN c.ds),T.ad 5 c.en (ba c.ns),T.ad 1 c.eh (enc c.hs),T.str c.p,T.ad 1 c.es (enc c.ss),T.ax,T.ax,RW M.N,T.ax,T.ad 1 t.bits.isEmpty (bx t.bits),T.ad 1 t.to.isEmpty (enc t.to),EM M.K]:=by
 have f: 0<=(j:Int)/\(j:Int) < (x.ks.length:Int):=by have:=(Wm.1 e).1;omega
 have g: 0<=k/\k < (t.bits.length:Int):=by have:=(Wm.1 a).1;omega
 have h:(bx t.bits)[k.toNat]? =some [LO b]:=by simp [bx,a]
 refine ai ?_;rw [NC];simp only [an,↓reduceIte,Int.reduceBEq,Int.reduceEq,aD,pT,f,g,and_self,bP e,h,de,be,bd,Wq,aZ,aW];rfl
def dt(a:Int)(M:Mk)(x y:Int):Int×Mk:=if x=y then(x,M) else dA M 7 s0 0 0 [a,x,y]
theorem CD{a:Int}{M:Mk}(h:Ok M)(d:In M a){x y:Int}(c:In M x)(e:In M y):Up M (dt a M x y).2 1/\In (dt a M x y).2 (dt a M x y).1:=by
 unfold dt;split
 .exact⟨(Up.refl h).mono (by omega),c⟩
 .exact lL h _ _ _ _ _ (λk b=>by simp only [WC,XE,or_false] at b;rcases b with rfl | rfl | rfl <;> assumption) (by simp)
theorem JZ{c:Cx}{t:Tr}{M:Mk}{a x y:Int}(b:M.N.length<=100000)(f:In M a)(g:In M x)(j:In M y):
  Or (.call 41) [I x,I y,r0,r1] [aa.box [Y'2],aa.box [I a],aa.box [Y'3,AV.t (T.ad 3 c.ed (aN c.ds)),AV.t (T.ad 5 c.en (ba c.ns)),AV.t (T.ad 1 c.eh (enc c.hs)),AV.t (T.str c.p),AV.t (T.ad 1 c.es (enc c.ss)),V'4,V'5],aa.box [V'6,V'7],aa.sl false 1 t.bits.isEmpty (bx t.bits),aa.sl false 1 t.to.isEmpty (enc t.to),aa.rows M.N.isEmpty 5 1 1 M.N.length (rows M.N),aa.mp false [Ck.s] (Ck.i .i64) (cC M.K)]=some [ti (dt a M x y).1,T.ax,ti a,T.ax,T.ad 3 c.ed (aN c.ds),T.ad 5 c.en (ba c.ns),T.ad 1 c.eh (enc c.hs),T.str c.p,T.ad 1 c.es (enc c.ss),T.ax,T.ax,RW ((dt a M x y).2).N,T.ax,T.ad 1 t.bits.isEmpty (bx t.bits),T.ad 1 t.to.isEmpty (enc t.to),EM ((dt a M x y).2).K]:=by
 have k1:=lP M b 7 s0 0 0 [a,x,y] false rfl (λk e=>by
  simp only [WC,XE,or_false] at e;rcases e with rfl | rfl | rfl
  .exact f.i64 b
  .exact g.i64 b
  .exact j.i64 b) (by simp) (by omega) (by omega) (by omega) (by decide)
 replace k1:Or (.call 38) [r0,I 7,AV.t (T.str s0),I 0,I 0,AV.t (T.ad 1 false [[ti a],[ti x],[ti y]])] (dW M)=_:=k1;unfold dt;refine ai ?_;rw [NN];by_cases h:x=y
 .subst h;simp only [an,↓reduceIte,Int.reduceBEq,Int.reduceEq,be,bd,Wq,aZ,aW];rfl
 .have d:(x==y)=false:=by simpa using h
  simp only [an,↓reduceIte,Int.reduceBEq,Int.reduceEq,d,h,k1,be,bd,Wq,aZ,aW];rfl
theorem QZ{c:Cx}{t:Tr}{g:Int}{ea eb:Bool}{a b:List Int}(J:a.length=b.length)(hl:a.length<=100):∀(f e:List Int) (i:Nat) (M:Mk) (d:List Int),a.drop i=f->b.drop i=e->i<=a.length->Ok M->In M g->(∀x∈f,In M x)->(∀x∈e,In M x)->M.N.length+f.length<=80000->d.length=i->
  Or qP [ad ea a,ad eb b,AV.fn 41 [] [r0,r1],V'8,I (a.length:Int),I (i:Int)] [aa.box [Y'2],aa.box [I g],aa.box [Y'3,AV.t (T.ad 3 c.ed (aN c.ds)),AV.t (T.ad 5 c.en (ba c.ns)),AV.t (T.ad 1 c.eh (enc c.hs)),AV.t (T.str c.p),AV.t (T.ad 1 c.es (enc c.ss)),V'4,V'5],aa.box [V'9,V'7],aa.sl false 1 t.bits.isEmpty (bx t.bits),aa.sl false 1 t.to.isEmpty (enc t.to),aa.dead,aa.mp false [Ck.s] (Ck.i .i64) (cC M.K),aa.sl false 1 false (enc d),aa.rows M.N.isEmpty 5 1 1 M.N.length (rows M.N)]=some [T.ad 1 false (enc (d++ (aT (dt g) M f e).1)),T.ax,ti g,T.ax,T.ad 3 c.ed (aN c.ds),T.ad 5 c.en (ba c.ns),T.ad 1 c.eh (enc c.hs),T.str c.p,T.ad 1 c.es (enc c.ss),T.ax,T.ax,RW ((aT (dt g) M f e).2).N,T.ax,T.ad 1 t.bits.isEmpty (bx t.bits),T.ad 1 t.to.isEmpty (enc t.to),EM ((aT (dt g) M f e).2).K]:=by
 intro f;induction f with
 | nil=>
  intro e i M d n o F h m r u v k;have q:¬(i:Int) < (a.length:Int):=by have:=bt n;omega
  refine ai ?_;rw [FV];simp only [an,↓reduceIte,Int.reduceBEq,Int.reduceEq,q,be,bd,Wq,aZ,aW,dI,dJ,de,aT,WQ];rfl
 | cons x f G=>
  intro e i M d n o F h m r u v k;obtain⟨g1,L,B⟩:=br n;cases e with
  | nil=>exact absurd (bt o) (by omega)
  | cons y e=>
   obtain⟨C,O,D⟩:=br o;have q:(i:Int) < (a.length:Int):=by omega
   have E:(i:Int) < (b.length:Int):=by omega
   have h0: 0<=(i:Int):=by omega
   have w:=r x Wl;have A:=u y Wl;rw [Wz] at v;have k1:=JZ (c:=c) (t:=t) (show M.N.length<=100000 by omega) m w A;obtain⟨l,P⟩:=CD h m w A;have H:bA 8 (d.length+1)=some ():=cM (by omega);have j:=G e (i+1) _ (d++ [(dt g M x y).1]) B D (by omega) l.ok (l.In m) (l.all λz j=>r z (Wn _ j)) (l.all λz j=>u z (Wn _ j)) (by have:=l.up;omega) (by simp [k]);simp only [WV,W5] at j;rw [aT];refine ai ?_;rw [FV];simp only [an,↓reduceIte,Int.reduceBEq,Int.reduceEq,q,E,h0,and_self,aD,bP g1,bP C,k1,be,bd,Wq,aZ,aW,dI,dJ,de,Wy,H,next i (by omega),fI];exact j
theorem Tq{c:Cx}{t:Tr}{d:Int}{M:Mk}(h:Ok M)(k:In M d){ea eb:Bool}{a b:List Int}(j:a.length=b.length)(o: 1<=a.length)(hl:a.length<=100)(n:∀x∈a,In M x)(q:∀x∈b,In M x)(D:M.N.length<=70000):
  Or (.call 40) [ad ea a,ad eb b,AV.fn 41 [] [r0,r1]] [aa.box [Y'2],aa.box [I d],aa.box [Y'3,AV.t (T.ad 3 c.ed (aN c.ds)),AV.t (T.ad 5 c.en (ba c.ns)),AV.t (T.ad 1 c.eh (enc c.hs)),AV.t (T.str c.p),AV.t (T.ad 1 c.es (enc c.ss)),V'4,V'5],aa.box [V'6,V'7],aa.sl false 1 t.bits.isEmpty (bx t.bits),aa.sl false 1 t.to.isEmpty (enc t.to),aa.rows M.N.isEmpty 5 1 1 M.N.length (rows M.N),aa.mp false [Ck.s] (Ck.i .i64) (cC M.K)]=some [T.ad 1 false (enc (aT (dt d) M a b).1),T.ax,ti d,T.ax,T.ad 3 c.ed (aN c.ds),T.ad 5 c.en (ba c.ns),T.ad 1 c.eh (enc c.hs),T.str c.p,T.ad 1 c.es (enc c.ss),T.ax,T.ax,RW ((aT (dt d) M a b).2).N,T.ax,T.ad 1 t.bits.isEmpty (bx t.bits),T.ad 1 t.to.isEmpty (enc t.to),EM ((aT (dt d) M a b).2).K]:=by
 have g:Or qP [ad ea a,ad eb b,AV.fn 41 [] [r0,r1],AV.t (T.aB true),I (a.length:Int),I 0] [aa.box [Y'2],aa.box [I d],aa.box [Y'3,AV.t (T.ad 3 c.ed (aN c.ds)),AV.t (T.ad 5 c.en (ba c.ns)),AV.t (T.ad 1 c.eh (enc c.hs)),AV.t (T.str c.p),AV.t (T.ad 1 c.es (enc c.ss)),V'4,V'5],aa.box [V'6,V'7],aa.sl false 1 t.bits.isEmpty (bx t.bits),aa.sl false 1 t.to.isEmpty (enc t.to),aa.rows M.N.isEmpty 5 1 1 M.N.length (rows M.N),aa.mp false [Ck.s] (Ck.i .i64) (cC M.K)]=some [T.ad 1 false (enc (aT (dt d) M a b).1),T.ax,ti d,T.ax,T.ad 3 c.ed (aN c.ds),T.ad 5 c.en (ba c.ns),T.ad 1 c.eh (enc c.hs),T.str c.p,T.ad 1 c.es (enc c.ss),T.ax,T.ax,RW ((aT (dt d) M a b).2).N,T.ax,T.ad 1 t.bits.isEmpty (bx t.bits),T.ad 1 t.to.isEmpty (enc t.to),EM ((aT (dt d) M a b).2).K]:=by
  cases a with
  | nil=>simp at o
  | cons x l=>
   cases b with
   | nil=>cases j
   | cons y m=>
    have u:=n x Wl;have v:=q y Wl;have k1:=JZ (c:=c) (t:=t) (show M.N.length<=100000 by omega) k u v;obtain⟨f,E⟩:=CD h k u v;have B:(0:Int) < (((x::l).length:Nat):Int):=by simp
    have C:(0:Int) < (((y::m).length:Nat):Int):=by simp
    have h0:(0:Int)<=0:=by omega
    have g1:(enc (x::l))[(0:Int).toNat]? =some [ti x]:=rfl;have A:(enc (y::m))[(0:Int).toNat]? =some [ti y]:=rfl;have w:i64.wrap (0+1)= ((1:Nat):Int):=by decide
    have r:=hl;rw [Wz] at r;have e:=QZ (c:=c) (t:=t) (ea:=ea) (eb:=eb) j hl l m 1 _ [(dt d M x y).1] rfl rfl (by simp) f.ok (f.In k) (f.all λz e=>n z (Wn _ e)) (f.all λz e=>q z (Wn _ e)) (by have:=f.up;omega) rfl;rw [aT];refine ai ?_;rw [NI];simp only [an,↓reduceIte,Int.reduceBEq,Int.reduceEq,B,C,h0,and_self,aD,g1,A,k1,be,bd,Wq,aZ,aW,dI,dJ,de,w];exact e
 refine ai ?_;rw [NH];simp only [an,↓reduceIte,Int.reduceBEq,Int.reduceEq,be,bd,Wq,aZ,aW,dI,dJ,de,aD];exact g
open Go Go.Aev Go.IntKind
def aE(s:Int):Bool:=decide (10 < s) && decide (s<=18)
theorem hH(n:Int):Or (.call 17) [I n] []=some [tb (aE n)]:=by
 refine ai ?_;rw [MV];unfold aE;by_cases h: 10 < n
 .have:n > 10:=h;simp only [an,↓reduceIte,Int.reduceBEq,Int.reduceEq,h,this,decide_true,Xe]
 .have:¬n > 10:=h;simp only [an,↓reduceIte,Int.reduceBEq,Int.reduceEq,h,this,decide_false,Xm]
def aG(t:Tr)(k:Int):List Int:=t.bits.getD k.toNat []
def bp(t:Tr)(k:Int):Int:=t.to.getD k.toNat 0
structure cG (c:Cx) (t:Tr) (M:Mk) (i:Nat):Prop where
 ok:Ok M
 bl:t.bits.length=i
 tl:t.to.length=i
 w:∀(k:Nat) (s:Int),k < i->c.ss[k]? =some s->aE s=true->∃b,t.bits[k]? =some b/\(b.length:Int)=s - 10/\∀x∈b,In M x
 p:∀(k:Nat) (s:Int),k < i->c.ss[k]? =some s->aE s=false->t.bits[k]? =some []/\∃v,t.to[k]? =some v/\In M v
theorem cG.up{c:Cx}{t:Tr}{M j:Mk}{i n:Nat}(h:cG c t M i)(u:Up M j n):cG c t j i:=
 ⟨u.ok,h.bl,h.tl,λk s f hs g=>by obtain⟨b,a,d,e⟩:=h.w k s f hs g;exact⟨b,a,d,u.all e⟩,
  λk s f hs g=>by obtain⟨a,v,d,e⟩:=h.p k s f hs g;exact⟨a,v,d,u.In e⟩⟩
structure KW (c:Cx) (i:Nat) (k:Int) (s:Int):Prop where
 h0: 0<=k
 lt:k < (i:Int)
 so:c.ss[k.toNat]? =some s
theorem KW.word{c:Cx}{t:Tr}{M:Mk}{i:Nat}{k s:Int}(h:KW c i k s)(g:cG c t M i)(j:aE s=true):
  t.bits[k.toNat]? =some (aG t k)/\((aG t k).length:Int)=s - 10/\∀x∈aG t k,In M x:=by
 obtain⟨b,a,d,f⟩:=g.w k.toNat s (by have:=h.h0;have:=h.lt;omega) h.so j;have e:aG t k=b:=by unfold aG;rw [Wp,a];rfl
 rw [e];exact⟨a,d,f⟩
theorem KW.plain{c:Cx}{t:Tr}{M:Mk}{i:Nat}{k s:Int}(h:KW c i k s)(f:cG c t M i)(g:aE s=false):
  t.bits[k.toNat]? =some []/\t.to[k.toNat]? =some (bp t k)/\In M (bp t k):=by
 obtain⟨b,v,a,d⟩:=f.p k.toNat s (by have:=h.h0;have:=h.lt;omega) h.so g;have e:bp t k=v:=by unfold bp;rw [Wp,a];rfl
 rw [e];exact⟨b,a,d⟩
theorem gL{s:Int}(h:aE s=true): 1<=s - 10/\s - 10<=8:=by unfold aE at h;simp only [Ww,decide_eq_true_eq] at h;omega
def dC(M:Mk)(pre:ByteArray)(kids:List Int):Nat->Nat->List Int×Mk
 | _,0=>([],M)
 | b,k+1=>((dA M 9 (pre++it (b:Int)) 0 0 kids).1:: (dC (dA M 9 (pre++it (b:Int)) 0 0 kids).2 pre kids (b+1) k).1,(dC (dA M 9 (pre++it (b:Int)) 0 0 kids).2 pre kids (b+1) k).2)
theorem Ix{pre:ByteArray}{kids:List Int}:∀{k b:Nat} {M:Mk},Ok M->(∀x∈kids,In M x)->kids.length<=1000->
  Up M (dC M pre kids b k).2 k/\(∀x∈(dC M pre kids b k).1,In (dC M pre kids b k).2 x)/\(dC M pre kids b k).1.length=k
 | 0,b,M,h,_,_=>⟨Up.refl h,λx j=>(by cases j),rfl⟩
 | k+1,b,M,h,e,hl=>by
  obtain⟨a,f⟩:=lL h 9 (pre++it (b:Int)) 0 0 kids e (by simp) hl;obtain⟨d,g,i⟩:=Ix (k:=k) (b:=b+1) a.ok (a.all e) hl;refine⟨(a.trans d).mono (by omega),λz c=> ?_,by simp [dC,i]⟩;rcases WC.1 c with rfl | c
  .exact d.In f
  .exact g z c
theorem QC{c:Cx}{t:Tr}{x:Nd}{w:Nat}{kids:List Int}{e:Bool}(C:e=kids.isEmpty)(o:c.ds.length<=100)(H:c.p.size<=100)(J:w<=100)(G:kids.length<=100):∀(k b:Nat) (M:Mk) (a:List Int),b+k=w->Ok M->(∀y∈kids,In M y)->M.N.length+k<=60000->a.length=b->
  Or jy [Y'6,Y'7,V'8,ad e kids,I (w:Int),I (b:Int)] [aa.box [Y'1,AV.t (T.ad 3 c.ed (aN c.ds)),AV.t (T.ad 5 c.en (ba c.ns)),AV.t (T.ad 1 c.eh (enc c.hs)),AV.t (T.str c.p),AV.t (T.ad 1 c.es (enc c.ss)),V'2,V'3],aa.box [V'9,V'5],aa.sl false 1 t.bits.isEmpty (bx t.bits),aa.sl false 1 t.to.isEmpty (enc t.to),aa.dead,aa.mp false [Ck.s] (Ck.i .i64) (cC M.K),aa.box [r0],aa.box [I x.op,ad x.ek x.ks,I x.n,I x.d,AV.t (T.str x.nm)],aa.sl false 1 false (enc a),aa.rows M.N.isEmpty 5 1 1 M.N.length (rows M.N)]=
   some [T.ad 1 false (enc (a++ (dC M (c.p++it (bm c.ds x.nm)++us) kids b k).1)),T.ax,T.ad 3 c.ed (aN c.ds),T.ad 5 c.en (ba c.ns),T.ad 1 c.eh (enc c.hs),T.str c.p,T.ad 1 c.es (enc c.ss),T.ax,T.ax,RW ((dC M (c.p++it (bm c.ds x.nm)++us) kids b k).2).N,T.ax,T.ad 1 t.bits.isEmpty (bx t.bits),T.ad 1 t.to.isEmpty (enc t.to),EM ((dC M (c.p++it (bm c.ds x.nm)++us) kids b k).2).K]:=by
 have u:=ur (ed:=c.ed) (en:=c.en) (eh:=c.eh) (ns:=c.ns) (hs:=c.hs) (nm:=x.nm) o;have q:fv (bm c.ds x.nm):=by have:=vI x.nm 0 c.ds;unfold bm;constructor <;> omega
 have O:=jN q;intro k;induction k with
 | zero=>
  intro b M a B h g A f;have l:¬(b:Int) < (w:Int):=by omega
  refine ai ?_;rw [Fu];simp only [an,↓reduceIte,Int.reduceBEq,Int.reduceEq,l,be,bd,Wq,aZ,aW,dI,dJ,de,dC,WQ];rfl
 | succ k E=>
  intro b M a B h g A f;have l:(b:Int) < (w:Int):=by omega
  have j:fv (b:Int):=⟨by omega,by omega⟩;have P:=jN j;have v:c.p.size+ (it (bm c.ds x.nm)).size<=4294967296:=by omega
  have z:(c.p++it (bm c.ds x.nm)).size+1<=4294967296:=by rw [WS];omega
  have c3:(c.p++it (bm c.ds x.nm)++us).size+ (it (b:Int)).size<=4294967296:=by simp only [WS,hU];omega
  have k1:=lP M (show M.N.length<=100000 by omega) 9 (c.p++it (bm c.ds x.nm)++us++it (b:Int)) 0 0 kids e C (λy D=>(g y D).i64 (by omega)) (by omega) (by omega) (by omega) (by omega) (by simp only [WS,hU];omega);obtain⟨m,L⟩:=lL h 9 (c.p++it (bm c.ds x.nm)++us++it (b:Int)) 0 0 kids g (by simp) (by omega);have F:bA 8 (a.length+1)=some ():=cM (by omega);have r:=E (b+1) _ (a++ [(dA M 9 (c.p++it (bm c.ds x.nm)++us++it (b:Int)) 0 0 kids).1]) (by omega) m.ok (m.all g) (by have:=m.up;omega) (by simp [f]);simp only [WV,W5] at r;rw [dC];refine ai ?_;rw [Fu];simp only [an,↓reduceIte,Int.reduceBEq,Int.reduceEq,l,u,jT q,jT j,v,z,c3,k1,aD,Wy,F,next b (by omega),fI,be,bd,Wq,aZ,aW,dI,dJ,de];exact r
theorem QD{c:Cx}{t:Tr}{x:Nd}{w:Nat}(l:c.ds.length<=100)(D:c.p.size<=100)(E:w<=100):∀(k b:Nat) (M:Mk) (a:List Int),b+k=w->Ok M->M.N.length+k<=60000->a.length=b->
  Or jy [Y'6,Y'7,V'8,AV.t (T.aB true),I (w:Int),I (b:Int)] [aa.box [Y'1,AV.t (T.ad 3 c.ed (aN c.ds)),AV.t (T.ad 5 c.en (ba c.ns)),AV.t (T.ad 1 c.eh (enc c.hs)),AV.t (T.str c.p),AV.t (T.ad 1 c.es (enc c.ss)),V'2,V'3],aa.box [V'9,V'5],aa.sl false 1 t.bits.isEmpty (bx t.bits),aa.sl false 1 t.to.isEmpty (enc t.to),aa.dead,aa.mp false [Ck.s] (Ck.i .i64) (cC M.K),aa.box [r0],aa.box [I x.op,ad x.ek x.ks,I x.n,I x.d,AV.t (T.str x.nm)],aa.sl false 1 false (enc a),aa.rows M.N.isEmpty 5 1 1 M.N.length (rows M.N)]=
   some [T.ad 1 false (enc (a++ (dC M (c.p++it (bm c.ds x.nm)++us) [] b k).1)),T.ax,T.ad 3 c.ed (aN c.ds),T.ad 5 c.en (ba c.ns),T.ad 1 c.eh (enc c.hs),T.str c.p,T.ad 1 c.es (enc c.ss),T.ax,T.ax,RW ((dC M (c.p++it (bm c.ds x.nm)++us) [] b k).2).N,T.ax,T.ad 1 t.bits.isEmpty (bx t.bits),T.ad 1 t.to.isEmpty (enc t.to),EM ((dC M (c.p++it (bm c.ds x.nm)++us) [] b k).2).K]:=by
 have q:=ur (ed:=c.ed) (en:=c.en) (eh:=c.eh) (ns:=c.ns) (hs:=c.hs) (nm:=x.nm) l;have m:fv (bm c.ds x.nm):=by have:=vI x.nm 0 c.ds;unfold bm;constructor <;> omega
 have G:=jN m;intro k;induction k with
 | zero=>
  intro b M a A h z e;have g:¬(b:Int) < (w:Int):=by omega
  refine ai ?_;rw [Ft];simp only [an,↓reduceIte,Int.reduceBEq,Int.reduceEq,g,be,bd,Wq,aZ,aW,dI,dJ,de,dC,WQ];rfl
 | succ k B=>
  intro b M a A h z e;have g:(b:Int) < (w:Int):=by omega
  have f:fv (b:Int):=⟨by omega,by omega⟩;have H:=jN f;have u:c.p.size+ (it (bm c.ds x.nm)).size<=4294967296:=by omega
  have v:(c.p++it (bm c.ds x.nm)).size+1<=4294967296:=by rw [WS];omega
  have c3:(c.p++it (bm c.ds x.nm)++us).size+ (it (b:Int)).size<=4294967296:=by simp only [WS,hU];omega
  have k1:=lP M (show M.N.length<=100000 by omega) 9 (c.p++it (bm c.ds x.nm)++us++it (b:Int)) 0 0 [] true rfl (λy j=>by cases j) (by simp) (by omega) (by omega) (by omega) (by simp only [WS,hU];omega);replace k1:Or (.call 38) [r0,I 9,AV.t (T.str (c.p++it (bm c.ds x.nm)++us++it (b:Int))),I 0,I 0,AV.t (T.ad 1 true [])] (dW M)=_:=k1;obtain⟨r,F⟩:=lL h 9 (c.p++it (bm c.ds x.nm)++us++it (b:Int)) 0 0 [] (λy j=>by cases j) (by simp);have C:bA 8 (a.length+1)=some ():=cM (by omega);have o:=B (b+1) _ (a++ [(dA M 9 (c.p++it (bm c.ds x.nm)++us++it (b:Int)) 0 0 []).1]) (by omega) r.ok (by have:=r.up;omega) (by simp [e]);simp only [WV,W5] at o;rw [dC];refine ai ?_;rw [Ft];simp only [an,↓reduceIte,Int.reduceBEq,Int.reduceEq,g,q,jT m,jT f,u,v,c3,k1,aD,Wy,C,next b (by omega),fI,be,bd,Wq,aZ,aW,dI,dJ,de];exact o
theorem QE{c:Cx}{t:Tr}{M:Mk}{x:Nd}{w:Nat}{kids:List Int}(o:kids≠[])(b:c.ds.length<=100)(z:c.p.size<=100)(E: 1<=w)(A:w<=100)(m:kids.length<=100)(h:Ok M)(g:∀y∈kids,In M y)(F:M.N.length<=50000):
  Or jy [Y'6,Y'7,AV.t (T.aB true),V'8,I (w:Int),I 0] [aa.box [Y'1,AV.t (T.ad 3 c.ed (aN c.ds)),AV.t (T.ad 5 c.en (ba c.ns)),AV.t (T.ad 1 c.eh (enc c.hs)),AV.t (T.str c.p),AV.t (T.ad 1 c.es (enc c.ss)),V'2,V'3],aa.box [V'4,V'5],aa.sl false 1 t.bits.isEmpty (bx t.bits),aa.sl false 1 t.to.isEmpty (enc t.to),aa.rows M.N.isEmpty 5 1 1 M.N.length (rows M.N),aa.mp false [Ck.s] (Ck.i .i64) (cC M.K),aa.box [r0],aa.box [I x.op,ad x.ek x.ks,I x.n,I x.d,AV.t (T.str x.nm)],aa.sl false 1 false (enc kids)]=
   some [T.ad 1 false (enc (dC M (c.p++it (bm c.ds x.nm)++us) kids 0 w).1),T.ax,T.ad 3 c.ed (aN c.ds),T.ad 5 c.en (ba c.ns),T.ad 1 c.eh (enc c.hs),T.str c.p,T.ad 1 c.es (enc c.ss),T.ax,T.ax,RW ((dC M (c.p++it (bm c.ds x.nm)++us) kids 0 w).2).N,T.ax,T.ad 1 t.bits.isEmpty (bx t.bits),T.ad 1 t.to.isEmpty (enc t.to),EM ((dC M (c.p++it (bm c.ds x.nm)++us) kids 0 w).2).K]:=by
 have q:=ur (ed:=c.ed) (en:=c.en) (eh:=c.eh) (ns:=c.ns) (hs:=c.hs) (nm:=x.nm) b;have l:fv (bm c.ds x.nm):=by have:=vI x.nm 0 c.ds;unfold bm;constructor <;> omega
 have H:=jN l;obtain⟨k,rfl⟩:∃k,w=k+1:=⟨w - 1,by omega⟩;have v:(0:Int) < ((k+1:Nat):Int):=by omega
 have a:fv (0:Int):=⟨by omega,by omega⟩;have J:=jN a;have r:c.p.size+ (it (bm c.ds x.nm)).size<=4294967296:=by omega
 have u:(c.p++it (bm c.ds x.nm)).size+1<=4294967296:=by rw [WS];omega
 have c3:(c.p++it (bm c.ds x.nm)++us).size+ (it (0:Int)).size<=4294967296:=by simp only [WS,hU];omega
 have f:false=kids.isEmpty:=by cases kids with
  | nil=>exact absurd rfl o
  | cons=>rfl
 have k1:=lP M (show M.N.length<=100000 by omega) 9 (c.p++it (bm c.ds x.nm)++us++it (0:Int)) 0 0 kids false f (λy B=>(g y B).i64 (by omega)) (by omega) (by omega) (by omega) (by omega) (by simp only [WS,hU];omega);obtain⟨j,G⟩:=lL h 9 (c.p++it (bm c.ds x.nm)++us++it (0:Int)) 0 0 kids g (by simp) (by omega);have D:i64.wrap (0+1)= ((1:Nat):Int):=by decide
 have C:=QC (t:=t) (x:=x) (w:=k+1) (e:=false) f b z A m k 1 _ [(dA M 9 (c.p++it (bm c.ds x.nm)++us++it (0:Int)) 0 0 kids).1] (by omega) j.ok (j.all g) (by have:=j.up;omega) rfl;rw [dC];refine ai ?_;rw [M7];simp only [an,↓reduceIte,Int.reduceBEq,Int.reduceEq,v,q,jT l,jT a,r,u,c3,k1,D,be,bd,Wq,aZ,aW,dI,dJ,de];exact C
theorem QF{c:Cx}{t:Tr}{M:Mk}{x:Nd}{w:Nat}(b:c.ds.length<=100)(q:c.p.size<=100)(z: 1<=w)(r:w<=100)(h:Ok M)(A:M.N.length<=50000):
  Or jy [Y'6,Y'7,AV.t (T.aB true),AV.t (T.aB true),I (w:Int),I 0] [aa.box [Y'1,AV.t (T.ad 3 c.ed (aN c.ds)),AV.t (T.ad 5 c.en (ba c.ns)),AV.t (T.ad 1 c.eh (enc c.hs)),AV.t (T.str c.p),AV.t (T.ad 1 c.es (enc c.ss)),V'2,V'3],aa.box [V'4,V'5],aa.sl false 1 t.bits.isEmpty (bx t.bits),aa.sl false 1 t.to.isEmpty (enc t.to),aa.rows M.N.isEmpty 5 1 1 M.N.length (rows M.N),aa.mp false [Ck.s] (Ck.i .i64) (cC M.K),aa.box [r0],aa.box [I x.op,ad x.ek x.ks,I x.n,I x.d,AV.t (T.str x.nm)]]=
   some [T.ad 1 false (enc (dC M (c.p++it (bm c.ds x.nm)++us) [] 0 w).1),T.ax,T.ad 3 c.ed (aN c.ds),T.ad 5 c.en (ba c.ns),T.ad 1 c.eh (enc c.hs),T.str c.p,T.ad 1 c.es (enc c.ss),T.ax,T.ax,RW ((dC M (c.p++it (bm c.ds x.nm)++us) [] 0 w).2).N,T.ax,T.ad 1 t.bits.isEmpty (bx t.bits),T.ad 1 t.to.isEmpty (enc t.to),EM ((dC M (c.p++it (bm c.ds x.nm)++us) [] 0 w).2).K]:=by
 have g:=ur (ed:=c.ed) (en:=c.en) (eh:=c.eh) (ns:=c.ns) (hs:=c.hs) (nm:=x.nm) b;have f:fv (bm c.ds x.nm):=by have:=vI x.nm 0 c.ds;unfold bm;constructor <;> omega
 have C:=jN f;obtain⟨k,rfl⟩:∃k,w=k+1:=⟨w - 1,by omega⟩;have o:(0:Int) < ((k+1:Nat):Int):=by omega
 have a:fv (0:Int):=⟨by omega,by omega⟩;have D:=jN a;have l:c.p.size+ (it (bm c.ds x.nm)).size<=4294967296:=by omega
 have m:(c.p++it (bm c.ds x.nm)).size+1<=4294967296:=by rw [WS];omega
 have c3:(c.p++it (bm c.ds x.nm)++us).size+ (it (0:Int)).size<=4294967296:=by simp only [WS,hU];omega
 have k1:=lP M (show M.N.length<=100000 by omega) 9 (c.p++it (bm c.ds x.nm)++us++it (0:Int)) 0 0 [] true rfl (λy e=>by cases e) (by simp) (by omega) (by omega) (by omega) (by simp only [WS,hU];omega);replace k1:Or (.call 38) [r0,I 9,AV.t (T.str (c.p++it (bm c.ds x.nm)++us++it (0:Int))),I 0,I 0,AV.t (T.ad 1 true [])] (dW M)=_:=k1;obtain⟨j,B⟩:=lL h 9 (c.p++it (bm c.ds x.nm)++us++it (0:Int)) 0 0 [] (λy e=>by cases e) (by simp);have v:i64.wrap (0+1)= ((1:Nat):Int):=by decide
 have u:=QD (t:=t) (x:=x) (w:=k+1) b q r k 1 _ [(dA M 9 (c.p++it (bm c.ds x.nm)++us++it (0:Int)) 0 0 []).1] (by omega) j.ok (by have:=j.up;omega) rfl;rw [dC];refine ai ?_;rw [M6];simp only [an,↓reduceIte,Int.reduceBEq,Int.reduceEq,o,g,jT f,jT a,l,m,c3,k1,v,be,bd,Wq,aZ,aW,dI,dJ,de];exact u
theorem QH{c:Cx}{t:Tr}{M:Mk}{x:Nd}{i w:Nat}{s:Int}(hs:c.ss[i]? =some s)(u:s - 10= (w:Int))(C:w<=100)(B:x.ks.length<=100)(l:∀k∈x.ks,0<=k/\t.to[k.toNat]? =some (bp t k)){r:List T}:∀(f:List Int) (j:Nat) (a:List Int),x.ks.drop j=f->j<=x.ks.length->a.length=j->
  Or jy [Y'6,Y'7,AV.t (T.aB true),V'8,I (w:Int),I 0] [aa.box [Y'1,AV.t (T.ad 3 c.ed (aN c.ds)),AV.t (T.ad 5 c.en (ba c.ns)),AV.t (T.ad 1 c.eh (enc c.hs)),AV.t (T.str c.p),AV.t (T.ad 1 c.es (enc c.ss)),V'2,V'3],aa.box [V'4,V'5],aa.sl false 1 t.bits.isEmpty (bx t.bits),aa.sl false 1 t.to.isEmpty (enc t.to),aa.rows M.N.isEmpty 5 1 1 M.N.length (rows M.N),aa.mp false [Ck.s] (Ck.i .i64) (cC M.K),aa.box [r0],aa.box [I x.op,ad x.ek x.ks,I x.n,I x.d,AV.t (T.str x.nm)],aa.sl false 1 false (enc (a++f.map (bp t)))]=some r->
  Or qN [I (i:Int),Y'6,Y'7,AV.t (T.aB true),V'8,ad x.ek x.ks,I (x.ks.length:Int),I (j:Int)] [aa.box [Y'1,AV.t (T.ad 3 c.ed (aN c.ds)),AV.t (T.ad 5 c.en (ba c.ns)),AV.t (T.ad 1 c.eh (enc c.hs)),AV.t (T.str c.p),AV.t (T.ad 1 c.es (enc c.ss)),V'2,V'3],aa.box [V'4,V'5],aa.sl false 1 t.bits.isEmpty (bx t.bits),aa.sl false 1 t.to.isEmpty (enc t.to),aa.rows M.N.isEmpty 5 1 1 M.N.length (rows M.N),aa.mp false [Ck.s] (Ck.i .i64) (cC M.K),aa.box [r0],aa.box [I x.op,ad x.ek x.ks,I x.n,I x.d,AV.t (T.str x.nm)],aa.sl false 1 false (enc a)]=some r:=by
 intro f;induction f with
 | nil=>
  intro j a g q b e;have h:¬(j:Int) < (x.ks.length:Int):=by have:=bt g;omega
  have o: 0<=(i:Int)/\(i:Int) < (c.ss.length:Int):=by have:=(Wm.1 hs).1;omega
  have A:i64.wrap (s - 10)= (w:Int):=by rw [u,wr (by omega)]
  rw [Xj,WQ] at e;refine ai ?_;rw [Fy];simp only [an,↓reduceIte,Int.reduceBEq,Int.reduceEq,h,o,and_self,aD,bP hs,A];exact e
 | cons k f y=>
  intro j a g q b e;obtain⟨g1,D,m⟩:=br g;have h:(j:Int) < (x.ks.length:Int):=by omega
  have h0: 0<=(j:Int):=by omega
  obtain⟨E,k1⟩:=l k (Wx g1);have k2: 0<=k/\k < (t.to.length:Int):=by have:=(Wm.1 k1).1;omega
  have z:bA 8 (a.length+1)=some ():=cM (by omega);have v:=y (j+1) (a++ [bp t k]) m (by omega) (by simp [b]) (by
   rw [WL] at e;simpa only [WV,W5] using e)
  refine ai ?_;rw [Fy];simp only [an,↓reduceIte,Int.reduceBEq,Int.reduceEq,h,h0,and_self,aD,bP g1,k2,fS k1,Wy,z,next j (by omega),fI];exact v
theorem S7{c:Cx}{t:Tr}{M:Mk}{x:Nd}{i:Nat}{s:Int}(C:c.ns[i]? =some x)(hs:c.ss[i]? =some s)(m:x.op=9)(F:aE s=true)(g:cG c t M i)(h:c.ds.length<=100)(A:c.p.size<=100)(l:x.ks.length<=100)(v:∀k∈x.ks,∃s',KW c i k s'/\aE s'=false)(L:M.N.length<=40000):
  Or (.call 18) [r0,I (i:Int)] [aa.box [Y'1,AV.t (T.ad 3 c.ed (aN c.ds)),AV.t (T.ad 5 c.en (ba c.ns)),AV.t (T.ad 1 c.eh (enc c.hs)),AV.t (T.str c.p),AV.t (T.ad 1 c.es (enc c.ss)),V'2,V'3],aa.box [V'4,V'5],aa.sl false 1 t.bits.isEmpty (bx t.bits),aa.sl false 1 t.to.isEmpty (enc t.to),aa.rows M.N.isEmpty 5 1 1 M.N.length (rows M.N),aa.mp false [Ck.s] (Ck.i .i64) (cC M.K)]=some [T.ad 1 false (enc (dC M (c.p++it (bm c.ds x.nm)++us) (x.ks.map (bp t)) 0 (s - 10).toNat).1),T.ax,T.ad 3 c.ed (aN c.ds),T.ad 5 c.en (ba c.ns),T.ad 1 c.eh (enc c.hs),T.str c.p,T.ad 1 c.es (enc c.ss),T.ax,T.ax,RW ((dC M (c.p++it (bm c.ds x.nm)++us) (x.ks.map (bp t)) 0 (s - 10).toNat).2).N,T.ax,T.ad 1 t.bits.isEmpty (bx t.bits),T.ad 1 t.to.isEmpty (enc t.to),EM ((dC M (c.p++it (bm c.ds x.nm)++us) (x.ks.map (bp t)) 0 (s - 10).toNat).2).K]:=by
 have hl:=gL F;have D: 0<=(i:Int)/\(i:Int) < (c.ns.length:Int):=by have:=(Wm.1 C).1;omega
 have E: 0<=(i:Int)/\(i:Int) < (c.ss.length:Int):=by have:=(Wm.1 hs).1;omega
 have B:s - 10= ((s - 10).toNat:Int):=by omega
 have j:∀k∈x.ks,0<=k/\t.to[k.toNat]? =some (bp t k):=λk hm=>by obtain⟨s',e,q⟩:=v k hm;exact⟨e.h0,(e.plain g q).2.1⟩
 have r:∀y∈x.ks.map (bp t),In M y:=λy G=>by obtain⟨k,hm,rfl⟩:=WU.1 G;obtain⟨s',e,q⟩:=v k hm;exact(e.plain g q).2.2
 have b:Or qN [I (i:Int),Y'6,Y'7,AV.t (T.aB true),AV.t (T.aB true),ad x.ek x.ks,I (x.ks.length:Int),I 0] [aa.box [Y'1,AV.t (T.ad 3 c.ed (aN c.ds)),AV.t (T.ad 5 c.en (ba c.ns)),AV.t (T.ad 1 c.eh (enc c.hs)),AV.t (T.str c.p),AV.t (T.ad 1 c.es (enc c.ss)),V'2,V'3],aa.box [V'4,V'5],aa.sl false 1 t.bits.isEmpty (bx t.bits),aa.sl false 1 t.to.isEmpty (enc t.to),aa.rows M.N.isEmpty 5 1 1 M.N.length (rows M.N),aa.mp false [Ck.s] (Ck.i .i64) (cC M.K),aa.box [r0],aa.box [I x.op,ad x.ek x.ks,I x.n,I x.d,AV.t (T.str x.nm)]]=
   some [T.ad 1 false (enc (dC M (c.p++it (bm c.ds x.nm)++us) (x.ks.map (bp t)) 0 (s - 10).toNat).1),T.ax,T.ad 3 c.ed (aN c.ds),T.ad 5 c.en (ba c.ns),T.ad 1 c.eh (enc c.hs),T.str c.p,T.ad 1 c.es (enc c.ss),T.ax,T.ax,RW ((dC M (c.p++it (bm c.ds x.nm)++us) (x.ks.map (bp t)) 0 (s - 10).toNat).2).N,T.ax,T.ad 1 t.bits.isEmpty (bx t.bits),T.ad 1 t.to.isEmpty (enc t.to),EM ((dC M (c.p++it (bm c.ds x.nm)++us) (x.ks.map (bp t)) 0 (s - 10).toNat).2).K]:=by
  cases a:x.ks with
  | nil=>
   have f:=QF (c:=c) (t:=t) (M:=M) (x:=x) (w:=(s - 10).toNat) h A (by omega) (by omega) g.ok (by omega);have J:i64.wrap (s - 10)= ((s - 10).toNat:Int):=by rw [wr (by omega)];omega
   rw [a] at f;refine ai ?_;rw [Fx];simp only [an,↓reduceIte,Int.reduceBEq,Int.reduceEq,WN,W3,Xb,decide_false,E,and_self,aD,bP hs,J];exact f
  | cons k u=>
   have z:x.ks.map (bp t)≠[]:=by rw [a];simp
   have f:=QE (c:=c) (t:=t) (M:=M) (x:=x) (w:=(s - 10).toNat) z h A (by omega) (by omega) (by simpa using l) g.ok r (by omega);obtain⟨O,k1⟩:=j k (by rw [a];exact Wl);have k2: 0<=k/\k < (t.to.length:Int):=by have:=(Wm.1 k1).1;omega
   have o:=QH (c:=c) (t:=t) (M:=M) (x:=x) hs B (by omega) l j u 1 [bp t k] (by rw [a];rfl) (by rw [a];simp) rfl (by
    rw [a] at f⊢;exact f)
   have e:(0:Int) < (((k::u).length:Nat):Int):=by simp
   have h0:(0:Int)<=0:=by omega
   have g1:(enc (k::u))[(0:Int).toNat]? =some [ti k]:=rfl;have H:i64.wrap (0+1)= ((1:Nat):Int):=by decide
   rw [a] at o;refine ai ?_;rw [Fx];simp only [an,↓reduceIte,Int.reduceBEq,Int.reduceEq,e,h0,and_self,aD,g1,k2,fS k1,H];exact o
 refine ai ?_;rw [nH];simp (maxSteps:=1000000) only [an,↓reduceIte,Int.reduceBEq,Int.reduceEq,D,and_self,dR,gf C,m,aD];rw [m] at b;exact b
theorem S0{c:Cx}{t:Tr}{M:Mk}{x:Nd}{i:Nat}{s:Int}(m:c.ns[i]? =some x)(g:x.op=17){k1 k2:Int}(f:x.ks= [k1,k2])(n:KW c i k1 s)(o:KW c i k2 s)(l:aE s=true)(h:cG c t M i)(B:M.N.length<=40000):
  Or (.call 18) [r0,I (i:Int)] [aa.box [Y'1,AV.t (T.ad 3 c.ed (aN c.ds)),AV.t (T.ad 5 c.en (ba c.ns)),AV.t (T.ad 1 c.eh (enc c.hs)),AV.t (T.str c.p),AV.t (T.ad 1 c.es (enc c.ss)),V'2,V'3],aa.box [V'4,V'5],aa.sl false 1 t.bits.isEmpty (bx t.bits),aa.sl false 1 t.to.isEmpty (enc t.to),aa.rows M.N.isEmpty 5 1 1 M.N.length (rows M.N),aa.mp false [Ck.s] (Ck.i .i64) (cC M.K)]=some [T.ad 1 (aT cA M (aG t k1) (aG t k2)).1.isEmpty (enc (aT cA M (aG t k1) (aG t k2)).1),T.ax,T.ad 3 c.ed (aN c.ds),T.ad 5 c.en (ba c.ns),T.ad 1 c.eh (enc c.hs),T.str c.p,T.ad 1 c.es (enc c.ss),T.ax,T.ax,RW ((aT cA M (aG t k1) (aG t k2)).2).N,T.ax,T.ad 1 t.bits.isEmpty (bx t.bits),T.ad 1 t.to.isEmpty (enc t.to),EM ((aT cA M (aG t k1) (aG t k2)).2).K]:=by
 have hl:=gL l;have w: 0<=(i:Int)/\(i:Int) < (c.ns.length:Int):=by have:=(Wm.1 m).1;omega
 obtain⟨q,z,r⟩:=n.word h l;obtain⟨u,A,v⟩:=o.word h l;have d:=kM (c:=c) (t:=t) (M:=M) (x:=x) (j:=0) (k:=k1) (by rw [f];rfl) n.h0 q;have e:=kM (c:=c) (t:=t) (M:=M) (x:=x) (j:=1) (k:=k2) (by rw [f];rfl) o.h0 u;rw [g] at d e;replace d:Or (.call 37) [I 0,r0,r1] _=_:=d;replace e:Or (.call 37) [I 1,r0,r1] _=_:=e;have y:=Ts h.ok (ea:=(aG t k1).isEmpty) (eb:=(aG t k2).isEmpty) (a:=aG t k1) (b:=aG t k2) (by omega) (by omega) r v (by omega);refine ai ?_;rw [nH];simp (maxSteps:=1000000) only [an,↓reduceIte,Int.reduceBEq,Int.reduceEq,w,and_self,dR,gf m,g,d,e,y,be,bd,Wq,aZ,aW,dI,dJ,de];rfl
theorem S1{c:Cx}{t:Tr}{M:Mk}{x:Nd}{i:Nat}{s:Int}(m:c.ns[i]? =some x)(g:x.op=18){k1 k2:Int}(f:x.ks= [k1,k2])(n:KW c i k1 s)(o:KW c i k2 s)(l:aE s=true)(h:cG c t M i)(B:M.N.length<=40000):
  Or (.call 18) [r0,I (i:Int)] [aa.box [Y'1,AV.t (T.ad 3 c.ed (aN c.ds)),AV.t (T.ad 5 c.en (ba c.ns)),AV.t (T.ad 1 c.eh (enc c.hs)),AV.t (T.str c.p),AV.t (T.ad 1 c.es (enc c.ss)),V'2,V'3],aa.box [V'4,V'5],aa.sl false 1 t.bits.isEmpty (bx t.bits),aa.sl false 1 t.to.isEmpty (enc t.to),aa.rows M.N.isEmpty 5 1 1 M.N.length (rows M.N),aa.mp false [Ck.s] (Ck.i .i64) (cC M.K)]=some [T.ad 1 (aT eS M (aG t k1) (aG t k2)).1.isEmpty (enc (aT eS M (aG t k1) (aG t k2)).1),T.ax,T.ad 3 c.ed (aN c.ds),T.ad 5 c.en (ba c.ns),T.ad 1 c.eh (enc c.hs),T.str c.p,T.ad 1 c.es (enc c.ss),T.ax,T.ax,RW ((aT eS M (aG t k1) (aG t k2)).2).N,T.ax,T.ad 1 t.bits.isEmpty (bx t.bits),T.ad 1 t.to.isEmpty (enc t.to),EM ((aT eS M (aG t k1) (aG t k2)).2).K]:=by
 have hl:=gL l;have w: 0<=(i:Int)/\(i:Int) < (c.ns.length:Int):=by have:=(Wm.1 m).1;omega
 obtain⟨q,z,r⟩:=n.word h l;obtain⟨u,A,v⟩:=o.word h l;have d:=kM (c:=c) (t:=t) (M:=M) (x:=x) (j:=0) (k:=k1) (by rw [f];rfl) n.h0 q;have e:=kM (c:=c) (t:=t) (M:=M) (x:=x) (j:=1) (k:=k2) (by rw [f];rfl) o.h0 u;rw [g] at d e;replace d:Or (.call 37) [I 0,r0,r1] _=_:=d;replace e:Or (.call 37) [I 1,r0,r1] _=_:=e;have y:=Tt h.ok (ea:=(aG t k1).isEmpty) (eb:=(aG t k2).isEmpty) (a:=aG t k1) (b:=aG t k2) (by omega) (by omega) r v (by omega);refine ai ?_;rw [nH];simp (maxSteps:=1000000) only [an,↓reduceIte,Int.reduceBEq,Int.reduceEq,w,and_self,dR,gf m,g,d,e,y,be,bd,Wq,aZ,aW,dI,dJ,de];rfl
theorem S2{c:Cx}{t:Tr}{M:Mk}{x:Nd}{i:Nat}{s:Int}(m:c.ns[i]? =some x)(g:x.op=19){k1 k2:Int}(f:x.ks= [k1,k2])(n:KW c i k1 s)(o:KW c i k2 s)(l:aE s=true)(h:cG c t M i)(B:M.N.length<=40000):
  Or (.call 18) [r0,I (i:Int)] [aa.box [Y'1,AV.t (T.ad 3 c.ed (aN c.ds)),AV.t (T.ad 5 c.en (ba c.ns)),AV.t (T.ad 1 c.eh (enc c.hs)),AV.t (T.str c.p),AV.t (T.ad 1 c.es (enc c.ss)),V'2,V'3],aa.box [V'4,V'5],aa.sl false 1 t.bits.isEmpty (bx t.bits),aa.sl false 1 t.to.isEmpty (enc t.to),aa.rows M.N.isEmpty 5 1 1 M.N.length (rows M.N),aa.mp false [Ck.s] (Ck.i .i64) (cC M.K)]=some [T.ad 1 (aT bJ M (aG t k1) (aG t k2)).1.isEmpty (enc (aT bJ M (aG t k1) (aG t k2)).1),T.ax,T.ad 3 c.ed (aN c.ds),T.ad 5 c.en (ba c.ns),T.ad 1 c.eh (enc c.hs),T.str c.p,T.ad 1 c.es (enc c.ss),T.ax,T.ax,RW ((aT bJ M (aG t k1) (aG t k2)).2).N,T.ax,T.ad 1 t.bits.isEmpty (bx t.bits),T.ad 1 t.to.isEmpty (enc t.to),EM ((aT bJ M (aG t k1) (aG t k2)).2).K]:=by
 have hl:=gL l;have w: 0<=(i:Int)/\(i:Int) < (c.ns.length:Int):=by have:=(Wm.1 m).1;omega
 obtain⟨q,z,r⟩:=n.word h l;obtain⟨u,A,v⟩:=o.word h l;have d:=kM (c:=c) (t:=t) (M:=M) (x:=x) (j:=0) (k:=k1) (by rw [f];rfl) n.h0 q;have e:=kM (c:=c) (t:=t) (M:=M) (x:=x) (j:=1) (k:=k2) (by rw [f];rfl) o.h0 u;rw [g] at d e;replace d:Or (.call 37) [I 0,r0,r1] _=_:=d;replace e:Or (.call 37) [I 1,r0,r1] _=_:=e;have y:=Tu h.ok (ea:=(aG t k1).isEmpty) (eb:=(aG t k2).isEmpty) (a:=aG t k1) (b:=aG t k2) (by omega) (by omega) r v (by omega);refine ai ?_;rw [nH];simp (maxSteps:=1000000) only [an,↓reduceIte,Int.reduceBEq,Int.reduceEq,w,and_self,dR,gf m,g,d,e,y,be,bd,Wq,aZ,aW,dI,dJ,de];rfl
theorem S3{c:Cx}{t:Tr}{M:Mk}{x:Nd}{i:Nat}{s:Int}(m:c.ns[i]? =some x)(g:x.op=20){k1 k2:Int}(f:x.ks= [k1,k2])(n:KW c i k1 s)(o:KW c i k2 s)(l:aE s=true)(h:cG c t M i)(B:M.N.length<=40000):
  Or (.call 18) [r0,I (i:Int)] [aa.box [Y'1,AV.t (T.ad 3 c.ed (aN c.ds)),AV.t (T.ad 5 c.en (ba c.ns)),AV.t (T.ad 1 c.eh (enc c.hs)),AV.t (T.str c.p),AV.t (T.ad 1 c.es (enc c.ss)),V'2,V'3],aa.box [V'4,V'5],aa.sl false 1 t.bits.isEmpty (bx t.bits),aa.sl false 1 t.to.isEmpty (enc t.to),aa.rows M.N.isEmpty 5 1 1 M.N.length (rows M.N),aa.mp false [Ck.s] (Ck.i .i64) (cC M.K)]=some [T.ad 1 (eu M (aG t k1) (aG t k2)).1.isEmpty (enc (eu M (aG t k1) (aG t k2)).1),T.ax,T.ad 3 c.ed (aN c.ds),T.ad 5 c.en (ba c.ns),T.ad 1 c.eh (enc c.hs),T.str c.p,T.ad 1 c.es (enc c.ss),T.ax,T.ax,RW ((eu M (aG t k1) (aG t k2)).2).N,T.ax,T.ad 1 t.bits.isEmpty (bx t.bits),T.ad 1 t.to.isEmpty (enc t.to),EM ((eu M (aG t k1) (aG t k2)).2).K]:=by
 have hl:=gL l;have w: 0<=(i:Int)/\(i:Int) < (c.ns.length:Int):=by have:=(Wm.1 m).1;omega
 obtain⟨q,z,r⟩:=n.word h l;obtain⟨u,A,v⟩:=o.word h l;have d:=kM (c:=c) (t:=t) (M:=M) (x:=x) (j:=0) (k:=k1) (by rw [f];rfl) n.h0 q;have e:=kM (c:=c) (t:=t) (M:=M) (x:=x) (j:=1) (k:=k2) (by rw [f];rfl) o.h0 u;rw [g] at d e;replace d:Or (.call 37) [I 0,r0,r1] _=_:=d;replace e:Or (.call 37) [I 1,r0,r1] _=_:=e;have y:=J0 h.ok (ea:=(aG t k1).isEmpty) (eb:=(aG t k2).isEmpty) (a:=aG t k1) (b:=aG t k2) (by omega) (by omega) r v (by omega);refine ai ?_;rw [nH];simp (maxSteps:=1000000) only [an,↓reduceIte,Int.reduceBEq,Int.reduceEq,w,and_self,dR,gf m,g,d,e,y,be,bd,Wq,aZ,aW,dI,dJ,de];rfl
theorem S4{c:Cx}{t:Tr}{M:Mk}{x:Nd}{i:Nat}{s:Int}(m:c.ns[i]? =some x)(g:x.op=21){k1 k2:Int}(f:x.ks= [k1,k2])(n:KW c i k1 s)(o:KW c i k2 s)(l:aE s=true)(h:cG c t M i)(B:M.N.length<=40000):
  Or (.call 18) [r0,I (i:Int)] [aa.box [Y'1,AV.t (T.ad 3 c.ed (aN c.ds)),AV.t (T.ad 5 c.en (ba c.ns)),AV.t (T.ad 1 c.eh (enc c.hs)),AV.t (T.str c.p),AV.t (T.ad 1 c.es (enc c.ss)),V'2,V'3],aa.box [V'4,V'5],aa.sl false 1 t.bits.isEmpty (bx t.bits),aa.sl false 1 t.to.isEmpty (enc t.to),aa.rows M.N.isEmpty 5 1 1 M.N.length (rows M.N),aa.mp false [Ck.s] (Ck.i .i64) (cC M.K)]=some [T.ad 1 (jt M (aG t k1) (aG t k2)).1.isEmpty (enc (jt M (aG t k1) (aG t k2)).1),T.ax,T.ad 3 c.ed (aN c.ds),T.ad 5 c.en (ba c.ns),T.ad 1 c.eh (enc c.hs),T.str c.p,T.ad 1 c.es (enc c.ss),T.ax,T.ax,RW ((jt M (aG t k1) (aG t k2)).2).N,T.ax,T.ad 1 t.bits.isEmpty (bx t.bits),T.ad 1 t.to.isEmpty (enc t.to),EM ((jt M (aG t k1) (aG t k2)).2).K]:=by
 have hl:=gL l;have w: 0<=(i:Int)/\(i:Int) < (c.ns.length:Int):=by have:=(Wm.1 m).1;omega
 obtain⟨q,z,r⟩:=n.word h l;obtain⟨u,A,v⟩:=o.word h l;have d:=kM (c:=c) (t:=t) (M:=M) (x:=x) (j:=0) (k:=k1) (by rw [f];rfl) n.h0 q;have e:=kM (c:=c) (t:=t) (M:=M) (x:=x) (j:=1) (k:=k2) (by rw [f];rfl) o.h0 u;rw [g] at d e;replace d:Or (.call 37) [I 0,r0,r1] _=_:=d;replace e:Or (.call 37) [I 1,r0,r1] _=_:=e;have y:=Tw h.ok (ea:=(aG t k1).isEmpty) (eb:=(aG t k2).isEmpty) (a:=aG t k1) (b:=aG t k2) (by omega) (by omega) (by omega) r v (by omega);refine ai ?_;rw [nH];simp (maxSteps:=1000000) only [an,↓reduceIte,Int.reduceBEq,Int.reduceEq,w,and_self,dR,gf m,g,d,e,y,be,bd,Wq,aZ,aW,dI,dJ,de];rfl
theorem S5{c:Cx}{t:Tr}{M:Mk}{x:Nd}{i:Nat}{s:Int}(h:c.ns[i]? =some x)(d:x.op=23){k1:Int}(e:x.ks= [k1])(l:KW c i k1 s)(q: 0<=x.n/\x.n<=8)(g:aE s=true)(f:cG c t M i)(w:M.N.length<=40000):
  Or (.call 18) [r0,I (i:Int)] [aa.box [Y'1,AV.t (T.ad 3 c.ed (aN c.ds)),AV.t (T.ad 5 c.en (ba c.ns)),AV.t (T.ad 1 c.eh (enc c.hs)),AV.t (T.str c.p),AV.t (T.ad 1 c.es (enc c.ss)),V'2,V'3],aa.box [V'4,V'5],aa.sl false 1 t.bits.isEmpty (bx t.bits),aa.sl false 1 t.to.isEmpty (enc t.to),aa.rows M.N.isEmpty 5 1 1 M.N.length (rows M.N),aa.mp false [Ck.s] (Ck.i .i64) (cC M.K)]=some [T.ad 1 (bG M (aG t k1) x.n).1.isEmpty (enc (bG M (aG t k1) x.n).1),T.ax,T.ad 3 c.ed (aN c.ds),T.ad 5 c.en (ba c.ns),T.ad 1 c.eh (enc c.hs),T.str c.p,T.ad 1 c.es (enc c.ss),T.ax,T.ax,RW ((bG M (aG t k1) x.n).2).N,T.ax,T.ad 1 t.bits.isEmpty (bx t.bits),T.ad 1 t.to.isEmpty (enc t.to),EM ((bG M (aG t k1) x.n).2).K]:=by
 have hl:=gL g;have o: 0<=(i:Int)/\(i:Int) < (c.ns.length:Int):=by have:=(Wm.1 h).1;omega
 obtain⟨m,u,v⟩:=l.word f g;have b:=kM (c:=c) (t:=t) (M:=M) (x:=x) (j:=0) (k:=k1) (by rw [e];rfl) l.h0 m;rw [d] at b;replace b:Or (.call 37) [I 0,r0,r1] _=_:=b;have r:=C2 f.ok (ea:=(aG t k1).isEmpty) (a:=aG t k1) (n:=x.n) q.1 (by omega) (by omega) (by omega);refine ai ?_;rw [nH];simp (maxSteps:=1000000) only [an,↓reduceIte,Int.reduceBEq,Int.reduceEq,o,and_self,dR,gf h,d,b,r,be,bd,Wq,aZ,aW,dI,dJ,de];rfl
theorem S6{c:Cx}{t:Tr}{M:Mk}{x:Nd}{i:Nat}{s s0:Int}(o:c.ns[i]? =some x)(l:x.op=7){d k1 k2:Int}(e:x.ks= [d,k1,k2])(r:KW c i d s0)(n:aE s0=false)(u:KW c i k1 s)(v:KW c i k2 s)(m:aE s=true)(f:cG c t M i)(J:M.N.length<=40000):
  Or (.call 18) [r0,I (i:Int)] [aa.box [Y'1,AV.t (T.ad 3 c.ed (aN c.ds)),AV.t (T.ad 5 c.en (ba c.ns)),AV.t (T.ad 1 c.eh (enc c.hs)),AV.t (T.str c.p),AV.t (T.ad 1 c.es (enc c.ss)),V'2,V'3],aa.box [V'4,V'5],aa.sl false 1 t.bits.isEmpty (bx t.bits),aa.sl false 1 t.to.isEmpty (enc t.to),aa.rows M.N.isEmpty 5 1 1 M.N.length (rows M.N),aa.mp false [Ck.s] (Ck.i .i64) (cC M.K)]=some [T.ad 1 false (enc (aT (dt (bp t d)) M (aG t k1) (aG t k2)).1),T.ax,T.ad 3 c.ed (aN c.ds),T.ad 5 c.en (ba c.ns),T.ad 1 c.eh (enc c.hs),T.str c.p,T.ad 1 c.es (enc c.ss),T.ax,T.ax,RW ((aT (dt (bp t d)) M (aG t k1) (aG t k2)).2).N,T.ax,T.ad 1 t.bits.isEmpty (bx t.bits),T.ad 1 t.to.isEmpty (enc t.to),EM ((aT (dt (bp t d)) M (aG t k1) (aG t k2)).2).K]:=by
 have hl:=gL m;have B: 0<=(i:Int)/\(i:Int) < (c.ns.length:Int):=by have:=(Wm.1 o).1;omega
 obtain⟨_,q,E⟩:=r.plain f n;obtain⟨w,G,y⟩:=u.word f m;obtain⟨z,H,A⟩:=v.word f m;have g:=kM (c:=c) (t:=t) (M:=M) (x:=x) (j:=1) (k:=k1) (by rw [e];rfl) u.h0 w;have h:=kM (c:=c) (t:=t) (M:=M) (x:=x) (j:=2) (k:=k2) (by rw [e];rfl) v.h0 z;rw [l] at g h;replace g:Or (.call 37) [I 1,r0,r1] _=_:=g;replace h:Or (.call 37) [I 2,r0,r1] _=_:=h;have F:=Tq (c:=c) (t:=t) f.ok E (ea:=(aG t k1).isEmpty) (eb:=(aG t k2).isEmpty) (a:=aG t k1) (b:=aG t k2) (by omega) (by omega) (by omega) y A (by omega);have C:(0:Int)<=0/\(0:Int) < ((x.ks.length:Nat):Int):=by rw [e];simp
 have g0:(enc x.ks)[0]? =some [ti d]:=by rw [e];rfl
 have D: 0<=d/\d < (t.to.length:Int):=by have:=(Wm.1 q).1;have:=r.h0;omega
 refine ai ?_;rw [nH];simp (maxSteps:=1000000) only [an,↓reduceIte,Int.reduceBEq,Int.reduceEq,B,C,D,and_self,dR,gf o,l,aD,g0,fS q,g,h,F,be,bd,Wq,aZ,aW,dI,dJ,de];rfl
def jE(n:Int)(b:Nat):Bool:=i64.wrap (((BitVec.ofInt 64 (n.fdiv (2 ^ min ((b:Int)).toNat 64)) &&& BitVec.ofInt 64 1).toNat:Nat):Int)==1
def fQ(M:Mk)(n:Int):Nat->Nat->List Int×Mk
 | _,0=>([],M)
 | b,k+1=>((dx M (jE n b)).1:: (fQ (dx M (jE n b)).2 n (b+1) k).1,(fQ (dx M (jE n b)).2 n (b+1) k).2)
theorem ER{n:Int}:∀{k b:Nat} {M:Mk},Ok M->Up M (fQ M n b k).2 k/\(∀x∈(fQ M n b k).1,In (fQ M n b k).2 x)/\(fQ M n b k).1.length=k
 | 0,b,M,h=>⟨Up.refl h,λx i=>(by cases i),rfl⟩
 | k+1,b,M,h=>by
  obtain⟨c,e⟩:=kB h (jE n b);obtain⟨d,f,g⟩:=ER (n:=n) (k:=k) (b:=b+1) c.ok;refine⟨(c.trans d).mono (by omega),λz a=> ?_,by simp [fQ,g]⟩;rcases WC.1 a with rfl | a
  .exact d.In e
  .exact f z a
theorem QG{c:Cx}{t:Tr}{x:Nd}{w:Nat}(u:w<=100):∀(k b:Nat) (M:Mk) (a:List Int),b+k=w->Ok M->M.N.length+k<=60000->a.length=b->
  Or qM [Y'6,Y'7,V'8,I (w:Int),I (b:Int)] [aa.box [Y'1,AV.t (T.ad 3 c.ed (aN c.ds)),AV.t (T.ad 5 c.en (ba c.ns)),AV.t (T.ad 1 c.eh (enc c.hs)),AV.t (T.str c.p),AV.t (T.ad 1 c.es (enc c.ss)),V'2,V'3],aa.box [V'9,V'5],aa.sl false 1 t.bits.isEmpty (bx t.bits),aa.sl false 1 t.to.isEmpty (enc t.to),aa.dead,aa.mp false [Ck.s] (Ck.i .i64) (cC M.K),aa.box [r0],aa.box [I x.op,ad x.ek x.ks,I x.n,I x.d,AV.t (T.str x.nm)],aa.sl false 1 false (enc a),aa.rows M.N.isEmpty 5 1 1 M.N.length (rows M.N)]=
   some [T.ad 1 false (enc (a++ (fQ M x.n b k).1)),T.ax,T.ad 3 c.ed (aN c.ds),T.ad 5 c.en (ba c.ns),T.ad 1 c.eh (enc c.hs),T.str c.p,T.ad 1 c.es (enc c.ss),T.ax,T.ax,RW ((fQ M x.n b k).2).N,T.ax,T.ad 1 t.bits.isEmpty (bx t.bits),T.ad 1 t.to.isEmpty (enc t.to),EM ((fQ M x.n b k).2).K]:=by
 intro k;induction k with
 | zero=>
  intro b M a o h m e;have f:¬(b:Int) < (w:Int):=by omega
  refine ai ?_;rw [Fv];simp only [an,↓reduceIte,Int.reduceBEq,Int.reduceEq,f,be,bd,Wq,aZ,aW,dI,dJ,de,fQ,WQ];rfl
 | succ k q=>
  intro b M a o h m e;have f:(b:Int) < (w:Int):=by omega
  have l:¬(b:Int) < 0:=by omega
  have k1:=nX (show M.N.length<=100000 by omega) (jE x.n b);obtain⟨j,v⟩:=kB h (jE x.n b);have r:bA 8 (a.length+1)=some ():=cM (by omega);have g:=q (b+1) _ (a++ [(dx M (jE x.n b)).1]) (by omega) j.ok (by have:=j.up;omega) (by simp [e]);simp only [WV,W5] at g;rw [fQ];refine ai ?_;rw [Fv];simp only [aI,aL,f,l,decide_true,cond_true,↓reduceIte];change U' (Or (.call 42) [r0,B (jE x.n b)] _) _=_;simp only [an,↓reduceIte,Int.reduceBEq,Int.reduceEq,k1,aD,Wy,r,next b (by omega),fI,be,bd,Wq,aZ,aW,dI,dJ,de];exact g
theorem SY{c:Cx}{t:Tr}{M:Mk}{x:Nd}{i:Nat}(f:c.ns[i]? =some x)(b:x.op=15)(v: 1<=x.d/\x.d<=8)(q:cG c t M i)(u:M.N.length<=40000):
  Or (.call 18) [r0,I (i:Int)] [aa.box [Y'1,AV.t (T.ad 3 c.ed (aN c.ds)),AV.t (T.ad 5 c.en (ba c.ns)),AV.t (T.ad 1 c.eh (enc c.hs)),AV.t (T.str c.p),AV.t (T.ad 1 c.es (enc c.ss)),V'2,V'3],aa.box [V'4,V'5],aa.sl false 1 t.bits.isEmpty (bx t.bits),aa.sl false 1 t.to.isEmpty (enc t.to),aa.rows M.N.isEmpty 5 1 1 M.N.length (rows M.N),aa.mp false [Ck.s] (Ck.i .i64) (cC M.K)]=some [T.ad 1 false (enc (fQ M x.n 0 x.d.toNat).1),T.ax,T.ad 3 c.ed (aN c.ds),T.ad 5 c.en (ba c.ns),T.ad 1 c.eh (enc c.hs),T.str c.p,T.ad 1 c.es (enc c.ss),T.ax,T.ax,RW ((fQ M x.n 0 x.d.toNat).2).N,T.ax,T.ad 1 t.bits.isEmpty (bx t.bits),T.ad 1 t.to.isEmpty (enc t.to),EM ((fQ M x.n 0 x.d.toNat).2).K]:=by
 have l: 0<=(i:Int)/\(i:Int) < (c.ns.length:Int):=by have:=(Wm.1 f).1;omega
 obtain⟨k,o⟩:∃k:Nat,x.d.toNat=k+1:=⟨x.d.toNat - 1,by omega⟩;have e:x.d= ((k+1:Nat):Int):=by omega
 have a:Or qM [Y'6,Y'7,AV.t (T.aB true),I x.d,I 0] [aa.box [Y'1,AV.t (T.ad 3 c.ed (aN c.ds)),AV.t (T.ad 5 c.en (ba c.ns)),AV.t (T.ad 1 c.eh (enc c.hs)),AV.t (T.str c.p),AV.t (T.ad 1 c.es (enc c.ss)),V'2,V'3],aa.box [V'4,V'5],aa.sl false 1 t.bits.isEmpty (bx t.bits),aa.sl false 1 t.to.isEmpty (enc t.to),aa.rows M.N.isEmpty 5 1 1 M.N.length (rows M.N),aa.mp false [Ck.s] (Ck.i .i64) (cC M.K),aa.box [r0],aa.box [I x.op,ad x.ek x.ks,I x.n,I x.d,AV.t (T.str x.nm)]]=
   some [T.ad 1 false (enc (fQ M x.n 0 (k+1)).1),T.ax,T.ad 3 c.ed (aN c.ds),T.ad 5 c.en (ba c.ns),T.ad 1 c.eh (enc c.hs),T.str c.p,T.ad 1 c.es (enc c.ss),T.ax,T.ax,RW ((fQ M x.n 0 (k+1)).2).N,T.ax,T.ad 1 t.bits.isEmpty (bx t.bits),T.ad 1 t.to.isEmpty (enc t.to),EM ((fQ M x.n 0 (k+1)).2).K]:=by
  have j:(0:Int) < x.d:=by omega
  have m:¬(0:Int) < 0:=by omega
  have k1:=nX (show M.N.length<=100000 by omega) (jE x.n 0);obtain⟨h,y⟩:=kB q.ok (jE x.n 0);have r:i64.wrap (0+1)= ((1:Nat):Int):=by decide
  have g:=QG (c:=c) (t:=t) (x:=x) (w:=k+1) (by omega) k 1 _ [(dx M (jE x.n 0)).1] (by omega) h.ok (by have:=h.up;omega) rfl;rw [<-e] at g;rw [fQ];refine ai ?_;rw [M8];simp only [aI,aL,j,m,decide_true,cond_true,↓reduceIte];change U' (Or (.call 42) [r0,B (jE x.n 0)] _) _=_;simp only [an,↓reduceIte,Int.reduceBEq,Int.reduceEq,k1,r,be,bd,Wq,aZ,aW,dI,dJ,de];exact g
 rw [o];refine ai ?_;rw [nH];simp (maxSteps:=1000000) only [an,↓reduceIte,Int.reduceBEq,Int.reduceEq,l,and_self,dR,gf f,b];rw [b] at a;exact a
def fU(M:Mk):List Int->List Int×Mk
 | y::l=>((gY M y).1:: (fU (gY M y).2 l).1,(fU (gY M y).2 l).2)
 | []=>([],M)
theorem II:∀{l:List Int} {M:Mk},Ok M->(∀y∈l,In M y)->
  Up M (fU M l).2 l.length/\(∀y∈(fU M l).1,In (fU M l).2 y)/\(fU M l).1.length=l.length
 | [],M,h,_=>⟨Up.refl h,λx g=>(by cases g),rfl⟩
 | y::l,M,h,hl=>by
  obtain⟨b,d⟩:=rZ h (hl y Wl);obtain⟨c,e,f⟩:=II (l:=l) b.ok (b.all λz a=>hl z (Wn _ a));refine⟨(b.trans c).mono (by rw [Wz];omega),λz a=> ?_,by simp [fU,f]⟩;rcases WC.1 a with rfl | a
  .exact c.In d
  .exact e z a
theorem QI{c:Cx}{t:Tr}{e:Bool}{l:List Int}(hl:l.length<=100):∀(r:List Int) (j:Nat) (M:Mk) (a:List Int),l.drop j=r->j<=l.length->Ok M->(∀y∈r,In M y)->M.N.length+r.length<=60000->a.length=j->
  Or sL [Y'6,V'7,ad e l,I (l.length:Int),I (j:Int)] [aa.box [Y'1,AV.t (T.ad 3 c.ed (aN c.ds)),AV.t (T.ad 5 c.en (ba c.ns)),AV.t (T.ad 1 c.eh (enc c.hs)),AV.t (T.str c.p),AV.t (T.ad 1 c.es (enc c.ss)),V'2,V'3],aa.box [V'8,V'5],aa.sl false 1 t.bits.isEmpty (bx t.bits),aa.sl false 1 t.to.isEmpty (enc t.to),aa.dead,aa.mp false [Ck.s] (Ck.i .i64) (cC M.K),aa.box [r0],aa.sl false 1 false (enc a),aa.rows M.N.isEmpty 5 1 1 M.N.length (rows M.N)]=
   some [T.ad 1 false (enc (a++ (fU M r).1)),T.ax,T.ad 3 c.ed (aN c.ds),T.ad 5 c.en (ba c.ns),T.ad 1 c.eh (enc c.hs),T.str c.p,T.ad 1 c.es (enc c.ss),T.ax,T.ax,RW ((fU M r).2).N,T.ax,T.ad 1 t.bits.isEmpty (bx t.bits),T.ad 1 t.to.isEmpty (enc t.to),EM ((fU M r).2).K]:=by
 intro r;induction r with
 | nil=>
  intro j M a g u h k n b;have f:¬(j:Int) < (l.length:Int):=by have:=bt g;omega
  refine ai ?_;rw [Fw];simp only [an,↓reduceIte,Int.reduceBEq,Int.reduceEq,f,be,bd,Wq,aZ,aW,dI,dJ,de,fU,WQ];rfl
 | cons y r v=>
  intro j M a g u h k n b;obtain⟨g1,x,q⟩:=br g;have f:(j:Int) < (l.length:Int):=by omega
  have h0: 0<=(j:Int):=by omega
  have o:=k y Wl;rw [Wz] at n;have k1:=uu h (show M.N.length<=100000 by omega) o;obtain⟨m,A⟩:=rZ h o;have w:bA 8 (a.length+1)=some ():=cM (by omega);have d:=v (j+1) _ (a++ [(gY M y).1]) q (by omega) m.ok (m.all λz d=>k z (Wn _ d)) (by have:=m.up;omega) (by simp [b]);simp only [WV,W5] at d;rw [fU];refine ai ?_;rw [Fw];simp only [an,↓reduceIte,Int.reduceBEq,Int.reduceEq,f,h0,and_self,k1,aD,bP g1,Wy,w,next j (by omega),fI,be,bd,Wq,aZ,aW,dI,dJ,de];exact d
theorem SZ{c:Cx}{t:Tr}{M:Mk}{x:Nd}{i:Nat}{s:Int}(w:c.ns[i]? =some x)(g:x.op=16){k1:Int}(q:x.ks= [k1])(f:KW c i k1 s)(v:aE s=true)(m:cG c t M i)(E:M.N.length<=40000):
  Or (.call 18) [r0,I (i:Int)] [aa.box [Y'1,AV.t (T.ad 3 c.ed (aN c.ds)),AV.t (T.ad 5 c.en (ba c.ns)),AV.t (T.ad 1 c.eh (enc c.hs)),AV.t (T.str c.p),AV.t (T.ad 1 c.es (enc c.ss)),V'2,V'3],aa.box [V'4,V'5],aa.sl false 1 t.bits.isEmpty (bx t.bits),aa.sl false 1 t.to.isEmpty (enc t.to),aa.rows M.N.isEmpty 5 1 1 M.N.length (rows M.N),aa.mp false [Ck.s] (Ck.i .i64) (cC M.K)]=some [T.ad 1 false (enc (fU M (aG t k1)).1),T.ax,T.ad 3 c.ed (aN c.ds),T.ad 5 c.en (ba c.ns),T.ad 1 c.eh (enc c.hs),T.str c.p,T.ad 1 c.es (enc c.ss),T.ax,T.ax,RW ((fU M (aG t k1)).2).N,T.ax,T.ad 1 t.bits.isEmpty (bx t.bits),T.ad 1 t.to.isEmpty (enc t.to),EM ((fU M (aG t k1)).2).K]:=by
 have hl:=gL v;have D: 0<=(i:Int)/\(i:Int) < (c.ns.length:Int):=by have:=(Wm.1 w).1;omega
 obtain⟨B,h,a⟩:=f.word m v;have d:=kM (c:=c) (t:=t) (M:=M) (x:=x) (j:=0) (k:=k1) (by rw [q];rfl) f.h0 B;rw [g] at d;replace d:Or (.call 37) [I 0,r0,r1] _=_:=d
 have b:Or sL [Y'6,AV.t (T.aB true),ad (aG t k1).isEmpty (aG t k1),I ((aG t k1).length:Int),I 0] [aa.box [Y'1,AV.t (T.ad 3 c.ed (aN c.ds)),AV.t (T.ad 5 c.en (ba c.ns)),AV.t (T.ad 1 c.eh (enc c.hs)),AV.t (T.str c.p),AV.t (T.ad 1 c.es (enc c.ss)),V'2,V'3],aa.box [V'7,V'5],aa.sl false 1 t.bits.isEmpty (bx t.bits),aa.sl false 1 t.to.isEmpty (enc t.to),aa.dead,aa.mp false [Ck.s] (Ck.i .i64) (cC M.K),aa.box [r0],aa.rows M.N.isEmpty 5 1 1 M.N.length (rows M.N)]=
   some [T.ad 1 false (enc (fU M (aG t k1)).1),T.ax,T.ad 3 c.ed (aN c.ds),T.ad 5 c.en (ba c.ns),T.ad 1 c.eh (enc c.hs),T.str c.p,T.ad 1 c.es (enc c.ss),T.ax,T.ax,RW ((fU M (aG t k1)).2).N,T.ax,T.ad 1 t.bits.isEmpty (bx t.bits),T.ad 1 t.to.isEmpty (enc t.to),EM ((fU M (aG t k1)).2).K]:=by
  revert h a;generalize aG t k1=l;intro h a;cases l with
  | nil=>simp at h;omega
  | cons y r=>
   have A:=a y Wl;have k1:=uu m.ok (show M.N.length<=100000 by omega) A;obtain⟨o,F⟩:=rZ m.ok A;have C:(0:Int) < (((y::r).length:Nat):Int):=by simp
   have h0:(0:Int)<=0:=by omega
   have g1:(enc (y::r))[(0:Int).toNat]? =some [ti y]:=rfl;have f:i64.wrap (0+1)= ((1:Nat):Int):=by decide
   have u:((y::r).length:Int)<=8:=by omega
   have n:=QI (c:=c) (t:=t) (e:=(y::r).isEmpty) (l:=y::r) (by omega) r 1 _ [(gY M y).1] rfl (by simp) o.ok (o.all λz n=>a z (Wn _ n)) (by have:=o.up;rw [Wz] at u;omega) rfl;rw [fU];refine ai ?_;rw [Na];simp only [an,↓reduceIte,Int.reduceBEq,Int.reduceEq,C,h0,and_self,k1,aD,g1,f,be,bd,Wq,aZ,aW,dI,dJ,de];exact n
 refine ai ?_;rw [nH];simp (maxSteps:=1000000) only [an,↓reduceIte,Int.reduceBEq,Int.reduceEq,D,and_self,dR,gf w,g,d,aD,be,bd,Wq,aZ,aW,dI,dJ,de];exact b
end Go.Aev.Gen
