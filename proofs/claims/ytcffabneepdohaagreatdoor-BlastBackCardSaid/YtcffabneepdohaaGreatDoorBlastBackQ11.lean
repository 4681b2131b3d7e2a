import Derived.Test.YtcffabneepdohaaGreatDoorBlastBackQ10
import Derived.Test.YtcffabneepdohaaGreatDoorBlastBackQ5
import Derived.Lib.ItoaLen
import Derived.Lib.Strings
set_option linter.all false
namespace Go.Aev.Gen
open Go Go.Aev Go.IntKind
noncomputable abbrev Or:aq:=mR aj ann
abbrev ti(n:Int):T:= .int .i64 n
abbrev tb(b:Bool):T:= .bool b
abbrev o0:AV:=V'0
abbrev o1:AV:=V'1
abbrev o2:AV:=V'2
abbrev o3:AV:=V'3
abbrev o4:AV:=V'4
abbrev o5:AV:=V'5
abbrev r0:AV:=Y'0
abbrev r1:AV:=Y'1
theorem bt{b:Type}{l:List b}{i:Nat}{r:b}{rest:List b}(h:l.drop i=r::rest):l[i]? =some r/\i < l.length/\l.drop (i+1)=rest:=by
 have a:i < l.length:=by
  rcases Za i l.length with g | g
  .exact g
  .rw [Y7 g] at h;cases h
 rw [Zf a] at h;simp only [Yh] at h;exact⟨by rw [Xd a,h.1],a,h.2⟩
theorem bu{a:Type}{l:List a}{i:Nat}(h:l.drop i= []):l.length<=i:=by simpa using h
def enc(l:List Int):List (List T):=l.map λn=> [.int .i64 n]
theorem aE(l:List Int):(enc l).length=l.length:=by simp [enc]
theorem bR{l:List Int}{i:Nat}{r:Int}(h:l[i]? =some r):(enc l)[((i:Nat):Int).toNat]? =some [ti r]:=by simp [enc,h]
theorem fP{l:List Int}{i:Nat}{r:Int}(h:l[i]? =some r):(enc l)[i]? =some [ti r]:=by simp [enc,h]
theorem PI(l:List Int)(x:Int):enc l++ [[ti x]]=enc (l++ [x]):=by simp [enc]
theorem next(i:Nat)(h:i<=1000000):i64.wrap ((i:Int)+1)= ((i+1:Nat):Int):=by rw [wr (by omega)];omega
theorem dc{a n:Nat}(h:n<=1000000):bH a n=some ():=by unfold bH;rw [if_pos (.inl (by unfold nU;omega))]
abbrev aa(e:Bool)(l:List Int):AV:=AV.t (T.aa 1 e (enc l))
abbrev fx(n:Int):Prop:= -9223372036854775808<=n/\n<=9223372036854775807
def it(n:Int):ByteArray:=⟨(Go.Lib.itoa n).toArray⟩
theorem jP{n:Int}(h:fx n):(it n).size<=21:=by have:=Go.Lib.itoa_length_le n h.1 h.2;simpa [it,ByteArray.size] using this
theorem jV{n:Int}(h:fx n):Or (.call 36) [I n] []=some [T.str (it n)]:=by
 refine ai ?_;have:ann.ext 36 [I n] []=some [T.str (it n)]:=by show(if fx n then some [T.str (it n)] else none)=_;rw [if_pos h]
 show(match ann.ext 36 [I n] [] with | some r=>some r | none=>_)=_;rw [this]
theorem ER(a b:ByteArray):(a==b)=decide (a=b):=by
 obtain⟨a⟩:=a;obtain⟨b⟩:=b;show(a==b)=_;by_cases h:a=b
 .subst h;simp
 .simp [h]
abbrev sp:ByteArray:=ByteArray.mk #[(32:UInt8)]
abbrev us:ByteArray:=ByteArray.mk #[(95:UInt8)]
abbrev s0:ByteArray:=ByteArray.mk #[]
theorem uM:sp.size=1:=rfl
theorem ig:us.size=1:=rfl
structure Nd where
 op:Int
 ek:Bool
 ks:List Int
 n:Int
 d:Int
 nm:ByteArray
def qQ(k:Nat)(x:Nd):Row:=Row.mk k [ti x.op,T.ax,ti x.n,ti x.d,T.str x.nm] (some (x.ek,enc x.ks))
def gR:Nat->List Nd->List Row
 | _,[]=> []
 | k,x::r=>qQ k x::gR (k+1) r
abbrev rows(l:List Nd):List Row:=gR 0 l
theorem Ke:∀(k:Nat) (l:List Nd),(gR k l).length=l.length
 | _,[]=>rfl
 | k,x::r=>by rw [gR,Xj,Ke,Xj]
theorem Kg(x:Nd):∀(k:Nat) (l:List Nd),gR k (l++ [x])=gR k l++ [qQ (k+l.length) x]
 | _,[]=>rfl
 | k,y::r=>by rw [X7,gR,Kg x (k+1) r,gR,Xj,X7,show k+1+r.length=k+ (r.length+1) by omega]
theorem Kd:∀{k:Nat} {l:List Nd} {i:Nat} {x:Nd},l[i]? =some x->(gR k l)[i]? =some (qQ (k+i) x)
 | _,[],_,_,h=>by simp at h
 | k,y::r,0,x,h=>by simp at h;subst h;rfl
 | k,y::r,i+1,x,h=>by rw [gR,Yn,Kd (by simpa using h),show k+1+i=k+ (i+1) by omega]
theorem Kc:∀{k:Nat} {l:List Nd} {i:Nat} {x:Nd},l[i]? =some x->cU (k+i) (gR k l)=some (x.ek,enc x.ks)
 | _,[],_,_,h=>by simp at h
 | k,y::r,0,x,h=>by simp at h;subst h;simp [gR,qQ,cU]
 | k,y::r,i+1,x,h=>by have a:=Kc (k:=k+1) (l:=r) (i:=i) (x:=x) (by simpa using h);rw [show k+1+i=k+ (i+1) by omega] at a;rw [gR,cU,if_neg (by simp [qQ]),a]
theorem Dp{l:List Nd}{i:Nat}{x:Nd}(h:l[i]? =some x):(rows l)[i]? =some (qQ i x):=by have:=Kd (k:=0) h;rwa [XF] at this
theorem Dn{l:List Nd}{i:Nat}{x:Nd}(h:l[i]? =some x):cU i (rows l)=some (x.ek,enc x.ks):=by have:=Kc (k:=0) h;rwa [XF] at this
theorem Kf:∀(k:Nat) (l:List Nd),bh (gR k l)=true
 | _,[]=>rfl
 | k,x::r=>by have a:=Kf (k+1) r;unfold bh at a⊢;rw [gR,Yp,a];rfl
theorem Kb:∀(k:Nat) (l:List Nd),rQ k ((gR k l).map λe=> [.ptr e.cs,uE e])=some (gR k l)
 | _,[]=>rfl
 | k,x::r=>by have a:=Kb (k+1) r;rw [gR,Xq];show(rQ (k+1) ((gR (k+1) r).map λe=> [.ptr e.cs,uE e])).bind _=_;rw [a];rfl
def RW(l:List Nd):T:=bz l.isEmpty (rows l)
theorem bg(l:List Nd):kB (RW l)=some (l.isEmpty,rows l):=by have h:=Kb 0 l;show(rQ 0 ((gR 0 l).map λe=> [.ptr e.cs,uE e])).bind _=_;rw [h];rfl
theorem bc(l:List Nd):bh (rows l)=true:=Kf 0 l
theorem aZ(l:List Nd):(rows l).length=l.length:=Ke 0 l
def cG(K:List (ByteArray×Int)):List (List T×T):=K.map λp=>([T.str p.1],ti p.2)
def lk(s:ByteArray):List (ByteArray×Int)->Option Int
 | []=>none
 | (k,v)::r=>if s=k then some v else lk s r
theorem CO(s:ByteArray):∀K:List (ByteArray×Int),iw [T.str s] (cG K)= (lk s K).map ti
 | []=>rfl
 | (k,v)::r=>by
  have a:=CO s r;unfold cG at a⊢;rw [Xq,iw,lk];simp only [fi,oJ,Yk,ER];by_cases h:s=k
  .simp [h]
  .simp only [h,decide_false,cond_false,↓reduceIte];exact a
theorem IT{s:ByteArray}(v:Int):∀{K:List (ByteArray×Int)},lk s K=none->jt [T.str s] (ti v) (cG K)=cG (K++ [(s,v)])
 | [],_=>rfl
 | (k,u)::r,h=>by
  rw [lk] at h;by_cases e:s=k
  .rw [if_pos e] at h;cases h
  .rw [if_neg e] at h;have a:=IT v h;unfold cG at a⊢;rw [X7,Xq,Xq,jt];simp only [fi,oJ,Yk,ER,e,decide_false,cond_false];rw [a]
theorem Fp:∀K:List (ByteArray×Int),vM ((cG K).map λp=> [.ptr p.1,p.2])=some (cG K)
 | []=>rfl
 | p::r=>by have a:=Fp r;unfold cG at a⊢;rw [Xq,Xq,vM,a];rfl
def EM(K:List (ByteArray×Int)):T:=aO (cG K)
theorem bf(K:List (ByteArray×Int)):jL (EM K)=some (cG K):=Fp K
structure Mk where
 N:List Nd
 K:List (ByteArray×Int)
abbrev df(M:Mk):List T:= [RW M.N,T.ax,EM M.K]
abbrev ef(M:Mk):List ad:= [ad.box [o1,o2],ad.rows M.N.isEmpty 5 1 1 M.N.length (rows M.N),ad.mp false [Ck.s] (Ck.i .i64) (cG M.K)]
def mL(k:ByteArray):List Int->ByteArray
 | []=>k
 | x::r=>mL (k++ (sp++it x)) r
def mM(op:Int)(nm:ByteArray)(n d:Int)(ks:List Int):ByteArray:=mL (it op++sp++nm++sp++it n++sp++it d) ks
def dC(M:Mk)(op:Int)(nm:ByteArray)(n d:Int)(ks:List Int):Int×Mk:=
 match lk (mM op nm n d ks) M.K with
 | some i=>(i,M)
 | none=>((M.N.length:Int),⟨M.N++ [⟨op,ks.isEmpty,ks,n,d,nm⟩],M.K++ [(mM op nm n d ks,(M.N.length:Int))]⟩)
theorem Kn(e:Bool)(l:List Int)(a:e=true->l= [])(hl:l.length<=1000000):Or (.call 24) [aa e l] []=some [if e then T.aC true else T.aa 1 false (enc l)]:=by
 refine ai ?_;rw [ND];cases e with
 | true=>rfl
 | false=>simp only [ao,aE,dc (show 0+l.length<=1000000 by omega)];rfl
theorem RJ(M:Mk)(z:M.N.length<=100000)(op:Int)(nm:ByteArray)(n d:Int)(ks:List Int)(e:Bool)(c:e=ks.isEmpty)(p:∀k∈ks,fx k)(hl:ks.length<=1000):∀(rest:List Int) (j:Nat) (s:ByteArray),ks.drop j=rest->s.size<=10000+100 * j->
  Or xI [r0,I op,AV.t (T.str nm),I n,I d,aa e ks,AV.t (T.str s),aa e ks,I (ks.length:Int),I (j:Int)] (ef M)=
   match lk (mL s rest) M.K with
   | some i=>some (ti i::df M)
   | none=>some (ti (M.N.length:Int)::df ⟨M.N++ [⟨op,ks.isEmpty,ks,n,d,nm⟩],M.K++ [(mL s rest,(M.N.length:Int))]⟩):=by
 intro rest;induction rest with
 | nil=>
  intro j s g hs;have b:¬(j:Int) < (ks.length:Int):=by have:=bu g;omega
  rw [mL];have l:=Kn e ks (λh=>by subst c;simpa using h) (by omega);have o:(if e then T.aC true else T.aa 1 false (enc ks)).aQ 1=some (e,enc ks):=by
   cases e with
   | true=>
    have:ks= []:=by simpa using c.symm
    subst this;rfl
   | false=>rfl
  have w:i64.wrap (((M.N.length+1:Nat):Int) - 1)= (M.N.length:Int):=by rw [wr (by omega)];omega
  have q:rows M.N++ [Row.mk M.N.length [ti op,T.ax,ti n,ti d,T.str nm] (some (e,enc ks))]=rows (M.N++ [⟨op,ks.isEmpty,ks,n,d,nm⟩]):=by rw [rows,rows,Kg,XF,c];rfl
  cases a:lk s M.K with
  | some i=>refine ai ?_;rw [Bx];simp only [ao,↓reduceIte,b,CO,a,YJ,YM,Option.isSome_some,bc];rfl
  | none=>refine ai ?_;rw [Bx];simp only [ao,↓reduceIte,b,CO,a,ZZ,aad,Option.isSome_none,l,o,aZ,dc (show M.N.length+1<=1000000 by omega),q,bc,XK,Xh,w,IT _ a];congr 3;unfold RW;cases M.N <;> rfl
 | cons x rest r=>
  intro j s g hs;obtain⟨g1,y,m⟩:=bt g;have b:(j:Int) < (ks.length:Int):=by omega
  have h0: 0<=(j:Int):=by omega
  have f:=p x (Xg g1);have A:=jP f;have u: 1+ (it x).size<=4294967296:=by omega
  have B:(sp++it x).size=1+ (it x).size:=by rw [Xy];rfl
  have v:s.size+ (sp++it x).size<=4294967296:=by omega
  have:=r (j+1) (s++ (sp++it x)) m (by rw [Xy];omega);rw [mL];cases a:lk (mL (s++ (sp++it x)) rest) M.K <;>
  .rw [a] at this;refine ai ?_;rw [Bx];simp only [ao,↓reduceIte,b,h0,and_self,aE,bR g1,jV f,u,v,next j (by omega)];exact this
theorem lM(M:Mk)(l:M.N.length<=100000)(op:Int)(nm:ByteArray)(n d:Int)(ks:List Int)(e:Bool)(m:e=ks.isEmpty)(p:∀k∈ks,fx k)(hl:ks.length<=1000)(ho:fx op)(b:fx n)(a:fx d)(hm:nm.size<=5000):
  Or (.call 38) [r0,I op,AV.t (T.str nm),I n,I d,aa e ks] (ef M)=some (ti (dC M op nm n d ks).1::df (dC M op nm n d ks).2):=by
 have q:=jP ho;have r:=jP b;have s:=jP a;have c:(it op++sp++nm++sp++it n++sp++it d).size<=10000+100 * 0:=by simp only [Xy,uM];omega
 have:=RJ M l op nm n d ks e m p hl ks 0 (it op++sp++nm++sp++it n++sp++it d) rfl c;have f:(it op).size+1<=4294967296:=by omega
 have g:(it op++sp).size+nm.size<=4294967296:=by simp only [Xy,uM];omega
 have c3:(it op++sp++nm).size+1<=4294967296:=by simp only [Xy,uM];omega
 have h:(it op++sp++nm++sp).size+ (it n).size<=4294967296:=by simp only [Xy,uM];omega
 have i:(it op++sp++nm++sp++it n).size+1<=4294967296:=by simp only [Xy,uM];omega
 have j:(it op++sp++nm++sp++it n++sp).size+ (it d).size<=4294967296:=by simp only [Xy,uM];omega
 unfold dC mM;cases o:lk (mL (it op++sp++nm++sp++it n++sp++it d) ks) M.K <;>
 .rw [o] at this;refine ai ?_;rw [Oj];simp only [ao,↓reduceIte,jV ho,jV b,jV a,f,g,c3,h,i,j,aE];exact this
open Go Go.Aev Go.IntKind
abbrev In(M:Mk)(a:Int):Prop:=0<=a/\a < (M.N.length:Int)
structure Ok (M:Mk):Prop where
 no:∀(i:Nat) (x:Nd),M.N[i]? =some x->x.op=3->∃k r,x.ks=k::r
 ks:∀(i:Nat) (x:Nd),M.N[i]? =some x->∀k∈x.ks,0<=k/\k < (i:Int)
 kn:∀p∈M.K,In M p.2
 ek:∀(i:Nat) (x:Nd),M.N[i]? =some x->x.ek=x.ks.isEmpty
 kl:∀(i:Nat) (x:Nd),M.N[i]? =some x->x.ks.length<=1000
structure Up (M M':Mk) (c:Nat):Prop where
 ok:Ok M'
 le:M.N.length<=M'.N.length
 up:M'.N.length<=M.N.length+c
 pre:∀(i:Nat) (x:Nd),M.N[i]? =some x->M'.N[i]? =some x
theorem Up.refl{M:Mk}(h:Ok M):Up M M 0:=⟨h,Xr _,Xr _,λ_ _ h=>h⟩
theorem Up.trans{M f b:Mk}{c d:Nat}(h:Up M f c)(a:Up f b d):Up M b (c+d):=
 ⟨a.ok,X2 h.le a.le,by have:=h.up;have:=a.up;omega,λi x e=>a.pre i x (h.pre i x e)⟩
theorem Up.mono{M a:Mk}{c d:Nat}(h:Up M a c)(b:c<=d):Up M a d:=⟨h.ok,h.le,by have:=h.up;omega,h.pre⟩
theorem Up.In{M b:Mk}{c:Nat}(h:Up M b c){a:Int}(d:In M a):In b a:=⟨d.1,by have:=h.le;have:=d.2;omega⟩
theorem In.get{M:Mk}{a:Int}(h:In M a):∃(i:Nat) (x:Nd),a= (i:Int)/\M.N[i]? =some x:=by
 obtain⟨i,rfl⟩:=Zm h.1;have:i < M.N.length:=by have:=h.2;omega
 exact⟨i,_,rfl,Xd this⟩
theorem IC{s:ByteArray}:∀{K:List (ByteArray×Int)} {v:Int},lk s K=some v->∃p∈K,p.2=v
 | (k,u)::r,v,h=>by
  rw [lk] at h;split at h
  .simp only [W5] at h;exact⟨_,W7,h⟩
  .obtain⟨p,a,e⟩:=IC h;exact⟨p,W8 _ a,e⟩
theorem lI{M:Mk}(h:Ok M)(op:Int)(nm:ByteArray)(n d:Int)(ks:List Int)(j:∀k∈ks,In M k)(c:op=3->∃k r,ks=k::r)(hl:ks.length<=1000:=by simp):
  Up M (dC M op nm n d ks).2 1/\In (dC M op nm n d ks).2 (dC M op nm n d ks).1:=by
 unfold dC;cases f:lk (mM op nm n d ks) M.K with
 | some v=>obtain⟨p,b,rfl⟩:=IC f;exact⟨(Up.refl h).mono (by omega),h.kn p b⟩
 | none=>
  have new:∀(i:Nat) (x:Nd),(M.N++ [(⟨op,ks.isEmpty,ks,n,d,nm⟩:Nd)])[i]? =some x->M.N[i]? =some x\/(i=M.N.length/\x= ⟨op,ks.isEmpty,ks,n,d,nm⟩):=λi x e=>by
   rcases aab i M.N.length with g | g | g
   .rw [Xk g] at e;exact .inl e
   .subst g;simp at e;exact .inr ⟨rfl,e.symm⟩
   .rw [YA (by simp;omega)] at e;cases e
  refine⟨⟨⟨λi x e ho=> ?_,λi x e k a=> ?_,λp b=> ?_,λi x e=> ?_,λi x e=> ?_⟩,by simp,by simp,λi x e=> ?_⟩, ?_⟩
  .rcases new i x e with g | ⟨rfl,rfl⟩
   .exact h.no i x g ho
   .exact c ho
  .rcases new i x e with g | ⟨rfl,rfl⟩
   .exact h.ks i x g k a
   .exact j k a
  .simp only [];rcases Xo.1 b with g | g
   .have:=h.kn p g;exact⟨this.1,by simp;omega⟩
   .simp only [Xi] at g;subst g;exact⟨by simp,by simp;omega⟩
  .rcases new i x e with g | ⟨rfl,rfl⟩
   .exact h.ek i x g
   .rfl
  .rcases new i x e with g | ⟨rfl,rfl⟩
   .exact h.kl i x g
   .exact hl
  .rw [Xk (W9.1 e).1];exact e
  .exact⟨by simp,by simp;omega⟩
def cA(M:Mk)(a:Int):Int:=match M.N[a.toNat]? with
 | some x=>x.op
 | none=>0
def qy(M:Mk)(a:Int):Int:=match M.N[a.toNat]? with
 | some x=>x.ks.headD 0
 | none=>0
def dy(M:Mk)(b:Bool):Int×Mk:=dC M (if b then 1 else 2) s0 0 0 []
def hF(M:Mk)(a:Int):Int×Mk:=
 if cA M a=1 then dy M false else if cA M a=2 then dy M true else if cA M a=3 then(qy M a,M) else dC M 3 s0 0 0 [a]
def cE(M:Mk)(a b:Int):Int×Mk:=
 if cA M a=2\/cA M b=1\/a=b then(a,M) else if cA M a=1\/cA M b=2 then(b,M) else dC M 4 s0 0 0 [a,b]
def eZ(M:Mk)(a b:Int):Int×Mk:=
 if cA M a=1\/cA M b=2\/a=b then(a,M) else if cA M a=2\/cA M b=1 then(b,M) else dC M 5 s0 0 0 [a,b]
def eJ(M:Mk)(a b:Int):Int×Mk:=
 if a=b then dy M true else if cA M a=1 then(b,M) else if cA M b=1 then(a,M) else if cA M a=2 then hF M b else if cA M b=2 then hF M a else dC M 6 s0 0 0 [a,b]
def bL(M:Mk)(a b:Int):Int×Mk:=hF (eJ M a b).2 (eJ M a b).1
theorem In.i64{M:Mk}{a:Int}(h:In M a)(b:M.N.length<=100000):fx a:=⟨by have:=h.1;omega,by have:=h.2;omega⟩
theorem kA{M:Mk}(h:Ok M)(b:Bool):Up M (dy M b).2 1/\In (dy M b).2 (dy M b).1:=
 lI h _ _ _ _ _ (λk a=>by cases a) (by cases b <;> simp)
theorem sD{M:Mk}(h:Ok M){a:Int}(c:In M a):Up M (hF M a).2 1/\In (hF M a).2 (hF M a).1:=by
 unfold hF;split
 .exact kA h _
 .split
  .exact kA h _
  .split
   .rename_i e;obtain⟨i,x,rfl,d⟩:=c.get;refine⟨(Up.refl h).mono (by omega), ?_⟩;unfold cA at e;unfold qy;rw [Xv,d] at e⊢;obtain⟨k,r,b⟩:=h.no i x d e;have:=h.ks i x d k (by rw [b];exact W7);dsimp only;rw [b,List.headD_cons];exact⟨this.1,by have:=c.2;omega⟩
   .exact lI h _ _ _ _ _ (λk b=>by simp only [Xi] at b;subst b;exact c) (λ_=>⟨_,_,rfl⟩)
theorem uR{M:Mk}{a b:Int}(d:In M a)(e:In M b):∀k∈[a,b],In M k:=λk c=>by simp only [Xl,Yj,or_false] at c;rcases c with rfl | rfl <;> assumption
theorem iU{M:Mk}(h:Ok M){a b:Int}(c:In M a)(d:In M b):Up M (cE M a b).2 1/\In (cE M a b).2 (cE M a b).1:=by
 unfold cE;split
 .exact⟨(Up.refl h).mono (by omega),c⟩
 .split
  .exact⟨(Up.refl h).mono (by omega),d⟩
  .exact lI h _ _ _ _ _ (uR c d) (by simp)
theorem sH{M:Mk}(h:Ok M){a b:Int}(c:In M a)(d:In M b):Up M (eZ M a b).2 1/\In (eZ M a b).2 (eZ M a b).1:=by
 unfold eZ;split
 .exact⟨(Up.refl h).mono (by omega),c⟩
 .split
  .exact⟨(Up.refl h).mono (by omega),d⟩
  .exact lI h _ _ _ _ _ (uR c d) (by simp)
theorem sc{M:Mk}(h:Ok M){a b:Int}(c:In M a)(d:In M b):Up M (eJ M a b).2 1/\In (eJ M a b).2 (eJ M a b).1:=by
 unfold eJ;split
 .exact kA h _
 .split
  .exact⟨(Up.refl h).mono (by omega),d⟩
  .split
   .exact⟨(Up.refl h).mono (by omega),c⟩
   .split
    .exact sD h d
    .split
     .exact sD h c
     .exact lI h _ _ _ _ _ (uR c d) (by simp)
theorem qW{M:Mk}(h:Ok M){a b:Int}(g:In M a)(i:In M b):Up M (bL M a b).2 2/\In (bL M a b).2 (bL M a b).1:=by obtain⟨c,d⟩:=sc h g i;obtain⟨e,f⟩:=sD c.ok d;exact⟨c.trans e,f⟩
theorem J5(i:Nat)(x:Nd):(qQ i x).n=i:=rfl
theorem J4(i:Nat)(x:Nd):(qQ i x).cs= [ti x.op,T.ax,ti x.n,ti x.d,T.str x.nm]:=rfl
theorem mj{M:Mk}{a:Int}(b:In M a)(op:Int):Or (.call 79) [r0,I a,I op] (ef M)=some (tb (cA M a==op)::df M):=by
 have c:=b;obtain⟨i,x,rfl,d⟩:=b.get;have ho:cA M (i:Int)=x.op:=by unfold cA;rw [Xv,d]
 rw [ho];refine ai ?_;rw [Pu];simp only [ao,↓reduceIte,aZ,c.1,c.2,and_self,Xv,Dp d,J4,bc];rfl
theorem n7{M:Mk}(c:M.N.length<=100000)(b:Bool):Or (.call 42) [r0,B b] (ef M)=some (ti (dy M b).1::df (dy M b).2):=by
 have k1:=lM M c 1 s0 0 0 [] true rfl (λk a=>by cases a) (by simp) (by omega) (by omega) (by omega) (by decide);have k2:=lM M c 2 s0 0 0 [] true rfl (λk a=>by cases a) (by simp) (by omega) (by omega) (by omega) (by decide);replace k1:Or (.call 38) [r0,I 1,AV.t (T.str s0),I 0,I 0,AV.t (T.aa 1 true [])] (ef M)=_:=k1;replace k2:Or (.call 38) [r0,I 2,AV.t (T.str s0),I 0,I 0,AV.t (T.aa 1 true [])] (ef M)=_:=k2;unfold dy;refine ai ?_;rw [Ow];cases b with
 | true=>simp only [ao,↓reduceIte,k1,bg,bf,Xb,bc];rfl
 | false=>simp only [ao,↓reduceIte,k2,bg,bf,Xb,bc];rfl
theorem uI{M:Mk}(h:Ok M)(d:M.N.length<=100000){a:Int}(j:In M a):Or (.call 43) [r0,I a] (ef M)=some (ti (hF M a).1::df (hF M a).2):=by
 have l:=j;have k1:=n7 d false;have k2:=n7 d true;have k3:=lM M d 3 s0 0 0 [a] false rfl (λk e=>by simp only [Xi] at e;subst e;exact j.i64 d) (by simp) (by omega) (by omega) (by omega) (by decide);obtain⟨i,x,rfl,c⟩:=j.get;have ho:cA M (i:Int)=x.op:=by unfold cA;rw [Xv,c]
 have e:qy M (i:Int)=x.ks.headD 0:=by unfold qy;rw [Xv,c]
 replace k3:Or (.call 38) [r0,I 3,AV.t (T.str s0),I 0,I 0,AV.t (T.aa 1 false [[ti (i:Int)]])] (ef M)=_:=k3;unfold hF;rw [ho,e];refine ai ?_;rw [Ox];simp only [aI,aL,dI,aP,aZ,l.1,l.2,and_self,↓reduceIte,Xv,Dp c,J4,J5];by_cases f:x.op=1
 .simp only [ao,↓reduceIte,Int.reduceBEq,f,k1,bg,bf,Xb,bc];rfl
 by_cases g:x.op=2
 .simp only [ao,↓reduceIte,Int.reduceBEq,Int.reduceEq,g,k2,bg,bf,Xb,bc];rfl
 by_cases c3:x.op=3
 .obtain⟨k,r,b⟩:=h.no i x c c3;have hl:(0:Int)<=0/\(0:Int) < ((x.ks.length:Nat):Int):=by rw [b];simp
  have p:(enc x.ks)[0]? =some [ti k]:=by rw [b];rfl
  simp only [ao,↓reduceIte,Int.reduceBEq,Int.reduceEq,c3,Dn c,aE,hl,and_self,p,bc];rw [b];rfl
 .have m:(x.op==1)=false:=by simpa using f
  have n:(x.op==2)=false:=by simpa using g
  have o:(x.op==3)=false:=by simpa using c3
  simp only [ao,↓reduceIte,m,n,o,f,g,c3,k3,bg,bf,Xb,bc];rfl
theorem nb{M:Mk}(p:M.N.length<=100000){a b:Int}(l:In M a)(m:In M b):Or (.call 44) [r0,I a,I b] (ef M)=some (ti (cE M a b).1::df (cE M a b).2):=by
 have k1:=mj l 2;have k2:=mj l 1;have k3:=mj m 2;have f:=mj m 1;have n:=lM M p 4 s0 0 0 [a,b] false rfl (λk r=>(uR l m k r).i64 p) (by simp) (by omega) (by omega) (by omega) (by decide);replace n:Or (.call 38) [r0,I 4,AV.t (T.str s0),I 0,I 0,AV.t (T.aa 1 false [[ti a],[ti b]])] (ef M)=_:=n;unfold cE;refine ai ?_;rw [Oy];by_cases c:cA M a=2
 .rw [c] at k1 k2;simp only [ao,↓reduceIte,c,k1,bg,bf,Xb,bc,aZ,true_or];rfl
 by_cases d:cA M b=1
 .rw [d] at k3 f;have e:(cA M a==2)=false:=by simpa using c
  simp only [ao,↓reduceIte,c,d,e,k1,f,bg,bf,Xb,bc,aZ,true_or,or_true];rfl
 have e:(cA M a==2)=false:=by simpa using c
 have i:(cA M b==1)=false:=by simpa using d
 by_cases c3:a=b
 .subst c3;simp only [ao,↓reduceIte,c,d,e,i,k1,f,bg,bf,Xb,bc,aZ,or_true];rfl
 have j:(a==b)=false:=by simpa using c3
 by_cases g:cA M a=1
 .rw [g] at k2;simp only [ao,↓reduceIte,Int.reduceBEq,Int.reduceEq,d,c3,g,i,j,k1,k2,f,bg,bf,Xb,bc,aZ,true_or,or_self];rfl
 have o:(cA M a==1)=false:=by simpa using g
 by_cases h:cA M b=2
 .rw [h] at k3;simp only [ao,↓reduceIte,Int.reduceBEq,Int.reduceEq,c,c3,g,h,e,j,o,k1,k2,k3,f,bg,bf,Xb,bc,aZ,or_true,or_self];rfl
 have q:(cA M b==2)=false:=by simpa using h
 simp only [ao,↓reduceIte,c,d,c3,g,h,e,i,j,o,q,k1,k2,k3,f,n,bg,bf,Xb,bc,aZ,or_self];rfl
theorem xk{M:Mk}(p:M.N.length<=100000){a b:Int}(l:In M a)(m:In M b):Or (.call 45) [r0,I a,I b] (ef M)=some (ti (eZ M a b).1::df (eZ M a b).2):=by
 have k1:=mj l 2;have k2:=mj l 1;have k3:=mj m 2;have i:=mj m 1;have n:=lM M p 5 s0 0 0 [a,b] false rfl (λk r=>(uR l m k r).i64 p) (by simp) (by omega) (by omega) (by omega) (by decide);replace n:Or (.call 38) [r0,I 5,AV.t (T.str s0),I 0,I 0,AV.t (T.aa 1 false [[ti a],[ti b]])] (ef M)=_:=n;unfold eZ;refine ai ?_;rw [Oz];by_cases c:cA M a=1
 .rw [c] at k1 k2;simp only [ao,↓reduceIte,c,k2,bg,bf,Xb,bc,aZ,true_or];rfl
 by_cases d:cA M b=2
 .rw [d] at k3 i;have e:(cA M a==1)=false:=by simpa using c
  simp only [ao,↓reduceIte,c,d,e,k2,k3,bg,bf,Xb,bc,aZ,true_or,or_true];rfl
 have e:(cA M a==1)=false:=by simpa using c
 have h:(cA M b==2)=false:=by simpa using d
 by_cases c3:a=b
 .subst c3;simp only [ao,↓reduceIte,c,d,e,h,k2,k3,bg,bf,Xb,bc,aZ,or_true];rfl
 have j:(a==b)=false:=by simpa using c3
 by_cases f:cA M a=2
 .rw [f] at k1;simp only [ao,↓reduceIte,Int.reduceBEq,Int.reduceEq,d,c3,f,h,j,k1,k2,k3,bg,bf,Xb,bc,aZ,true_or,or_self];rfl
 have o:(cA M a==2)=false:=by simpa using f
 by_cases g:cA M b=1
 .rw [g] at i;simp only [ao,↓reduceIte,Int.reduceBEq,Int.reduceEq,c,c3,f,g,e,j,o,k1,k2,k3,i,bg,bf,Xb,bc,aZ,or_true,or_self];rfl
 have q:(cA M b==1)=false:=by simpa using g
 simp only [ao,↓reduceIte,c,d,c3,f,g,e,h,j,o,q,k1,k2,k3,i,n,bg,bf,Xb,bc,aZ,or_self];rfl
theorem z7{M:Mk}(h:Ok M)(g:M.N.length<=100000){a b:Int}(m:In M a)(n:In M b):Or (.call 51) [r0,I a,I b] (ef M)=some (ti (eJ M a b).1::df (eJ M a b).2):=by
 have k1:=mj m 2;have k2:=mj m 1;have k3:=mj n 2;have i:=mj n 1;have p:=lM M g 6 s0 0 0 [a,b] false rfl (λk s=>(uR m n k s).i64 g) (by simp) (by omega) (by omega) (by omega) (by decide);replace p:Or (.call 38) [r0,I 6,AV.t (T.str s0),I 0,I 0,AV.t (T.aa 1 false [[ti a],[ti b]])] (ef M)=_:=p;have u:=uI h g m;have v:=uI h g n;have w:=n7 g true;unfold eJ;refine ai ?_;rw [OH];by_cases c:a=b
 .subst c;simp only [ao,↓reduceIte,w,bg,bf,Xb,bc];rfl
 have f:(a==b)=false:=by simpa using c
 by_cases d:cA M a=1
 .rw [d] at k2;simp only [ao,↓reduceIte,c,d,f,k2,bg,bf,Xb,bc,aZ];rfl
 have l:(cA M a==1)=false:=by simpa using d
 by_cases c3:cA M b=1
 .rw [c3] at i;simp only [ao,↓reduceIte,c,d,c3,f,l,k2,i,bg,bf,Xb,bc,aZ];rfl
 have o:(cA M b==1)=false:=by simpa using c3
 by_cases e:cA M a=2
 .rw [e] at k1;simp only [ao,↓reduceIte,Int.reduceBEq,Int.reduceEq,c,c3,e,f,o,k1,k2,i,v,bg,bf,Xb,bc,aZ];rfl
 have q:(cA M a==2)=false:=by simpa using e
 by_cases j:cA M b=2
 .rw [j] at k3;simp only [ao,↓reduceIte,Int.reduceBEq,Int.reduceEq,c,d,e,j,f,l,q,k1,k2,k3,i,u,bg,bf,Xb,bc,aZ];rfl
 have r:(cA M b==2)=false:=by simpa using j
 simp only [ao,↓reduceIte,c,d,c3,e,j,f,l,o,q,r,k1,k2,k3,i,p,bg,bf,Xb,bc,aZ];rfl
theorem uJ{M:Mk}(h:Ok M)(g:M.N.length<=90000){a b:Int}(d:In M a)(e:In M b):Or (.call 46) [r0,I a,I b] (ef M)=some (ti (bL M a b).1::df (bL M a b).2):=by have k1:=z7 h (by omega) d e;obtain⟨c,f⟩:=sc h d e;have k2:=uI c.ok (by have:=c.up;omega) f;refine ai ?_;rw [OA];simp only [ao,↓reduceIte,k1,k2,bg,bf,Xb,bc,aZ];rfl
open Go Go.Aev Go.IntKind
def LO(l:List Int):T:=if l.isEmpty then T.aC true else T.aa 1 false (enc l)
theorem dm(l:List Int):(LO l).aQ 1=some (l.isEmpty,enc l):=by cases l <;> rfl
theorem fH(l:List Int)(x:Int):enc l++ [[T.int .i64 x]]=enc (l++ [x]):=by simp [enc]
theorem Up.all{M a:Mk}{c:Nat}(h:Up M a c){l:List Int}(hl:∀x∈l,Go.Aev.Gen.In M x):∀x∈l,Go.Aev.Gen.In a x:=λx b=>h.In (hl x b)
abbrev rD(M:Mk)(acc:List Int):List ad:= [ad.box [o4,o2],ad.dead,ad.mp false [Ck.s] (Ck.i .i64) (cG M.K),ad.sl false 1 false (enc acc),ad.rows M.N.isEmpty 5 1 1 M.N.length (rows M.N)]
abbrev vf(M:Mk):List ad:= [ad.box [o3,o2],ad.dead,ad.mp false [Ck.s] (Ck.i .i64) (cG M.K),ad.rows M.N.isEmpty 5 1 1 M.N.length (rows M.N)]
def aX(f:Mk->Int->Int->Int×Mk)(M:Mk):List Int->List Int->List Int×Mk
 | x::a,y::b=>((f M x y).1:: (aX f (f M x y).2 a b).1,(aX f (f M x y).2 a b).2)
 | _,_=>([],M)
theorem tQ{f:Mk->Int->Int->Int×Mk}{c:Nat}(l:∀M a b,Ok M->In M a->In M b->Up M (f M a b).2 c/\In (f M a b).2 (f M a b).1):
  ∀{a b:List Int} {M:Mk},Ok M->(∀x∈a,In M x)->(∀x∈b,In M x)->a.length=b.length->
   Up M (aX f M a b).2 (c * a.length)/\(∀x∈(aX f M a b).1,In (aX f M a b).2 x)/\(aX f M a b).1.length=a.length
 | [],b,M,h,_,_,_=>by rw [show aX f M [] b= ([],M) by simp [aX]];exact⟨Up.refl h,λx p=>(by cases p),rfl⟩
 | x::a,[],M,h,_,_,e=>by cases e
 | x::a,y::b,M,h,j,k,e=>by
  obtain⟨g,m⟩:=l M x y h (j x W7) (k y W7);obtain⟨i,n,o⟩:=tQ l (a:=a) (b:=b) g.ok (g.all λz d=>j z (W8 _ d)) (g.all λz d=>k z (W8 _ d)) (by simpa using e);refine⟨(g.trans i).mono (by rw [Xj,Z5];omega),λz d=> ?_,by simp [aX,o]⟩;rcases Xl.1 d with rfl | d
  .exact i.In m
  .exact n z d
def fE(M:Mk)(c:Int):List Int->List Int->List Int×Mk
 | x::a,y::b=>
  let p:=bL M x y;let q:=bL p.2 p.1 c
  if a.isEmpty then([q.1],q.2) else
  let r:=cE q.2 x y;let s:=cE r.2 p.1 c;let t:=eZ s.2 r.1 s.1
  (q.1:: (fE t.2 t.1 a b).1,(fE t.2 t.1 a b).2)
 | _,_=>([],M)
theorem Aj(M:Mk)(c:Int)(b:List Int):fE M c [] b= ([],M):=by simp [fE]
def eE(M:Mk)(a b:List Int):List Int×Mk:=fE (dy M false).2 (dy M false).1 a b
structure L7 (M:Mk) (c x y:Int):Prop where
 p:Up M (bL M x y).2 2
 pi:In (bL M x y).2 (bL M x y).1
 q:Up M (bL (bL M x y).2 (bL M x y).1 c).2 4
 qi:In (bL (bL M x y).2 (bL M x y).1 c).2 (bL (bL M x y).2 (bL M x y).1 c).1
 r:Up M (cE (bL (bL M x y).2 (bL M x y).1 c).2 x y).2 5
 ri:In (cE (bL (bL M x y).2 (bL M x y).1 c).2 x y).2 (cE (bL (bL M x y).2 (bL M x y).1 c).2 x y).1
 s:Up M (cE (cE (bL (bL M x y).2 (bL M x y).1 c).2 x y).2 (bL M x y).1 c).2 6
 si:In (cE (cE (bL (bL M x y).2 (bL M x y).1 c).2 x y).2 (bL M x y).1 c).2 (cE (cE (bL (bL M x y).2 (bL M x y).1 c).2 x y).2 (bL M x y).1 c).1
 rs:In (cE (cE (bL (bL M x y).2 (bL M x y).1 c).2 x y).2 (bL M x y).1 c).2 (cE (bL (bL M x y).2 (bL M x y).1 c).2 x y).1
theorem DO{M:Mk}(h:Ok M){c x y:Int}(e:In M c)(f:In M x)(g:In M y):L7 M c x y:=by obtain⟨a,b⟩:=qW h f g;obtain⟨d,j⟩:=qW a.ok b (a.In e);have q:=a.trans d;obtain⟨r1,r2⟩:=iU d.ok (q.In f) (q.In g);have r:=q.trans r1;obtain⟨i,k⟩:=iU r1.ok ((d.trans r1).In b) (r.In e);exact⟨a,b,q,j,r,r2,r.trans i,k,i.In r2⟩
theorem K4:∀{a b:List Int} {M:Mk} {c:Int},Ok M->In M c->(∀x∈a,In M x)->(∀x∈b,In M x)->a.length=b.length->
   Up M (fE M c a b).2 (7 * a.length)/\(∀x∈(fE M c a b).1,In (fE M c a b).2 x)/\(fE M c a b).1.length=a.length
 | [],b,M,c,h,_,_,_,_=>by rw [show fE M c [] b= ([],M) by simp [fE]];exact⟨Up.refl h,λx o=>(by cases o),rfl⟩
 | x::a,[],M,c,h,_,_,_,e=>by cases e
 | x::a,y::b,M,c,h,i,f,g,e=>by
  have st:=DO h i (f x W7) (g y W7);rw [fE];dsimp only;split
  .rename_i n;have:a= []:=by simpa using n
   subst this;exact⟨st.q.mono (by simp),λz d=>by simp only [Xi] at d;subst d;exact st.qi,rfl⟩
  .obtain⟨k,u⟩:=sH st.s.ok st.rs st.si;have t:=st.s.trans k;obtain⟨j,l,m⟩:=K4 (a:=a) (b:=b) t.ok u (t.all λz d=>f z (W8 _ d)) (t.all λz d=>g z (W8 _ d)) (by simpa using e);refine⟨(t.trans j).mono (by rw [Xj,Z5];omega),λz d=> ?_,by simp [m]⟩;rcases Xl.1 d with rfl | d
   .exact j.In (k.In ((iU st.q.ok (st.q.In (f x W7)) (st.q.In (g y W7))).1.trans (iU st.r.ok ((iU st.q.ok (st.q.In (f x W7)) (st.q.In (g y W7))).1.In ((qW st.p.ok st.pi (st.p.In i)).1.In st.pi)) (st.r.In i)).1 |>.In st.qi))
   .exact l z d
theorem K1{a b:List Int}{M:Mk}(h:Ok M)(j:∀x∈a,In M x)(k:∀x∈b,In M x)(e:a.length=b.length):
   Up M (eE M a b).2 (1+7 * a.length)/\(∀x∈(eE M a b).1,In (eE M a b).2 x)/\(eE M a b).1.length=a.length:=by
 obtain⟨c,d⟩:=kA h false;obtain⟨f,g,i⟩:=K4 c.ok d (c.all j) (c.all k) e;exact⟨c.trans f,g,i⟩
theorem FC{a:Type}{l r:List a}{i:Nat}(h:l.drop i=r)(b:i<=l.length):l.length=i+r.length:=by rw [<-h,Yi];omega
theorem IY{ea eb:Bool}{a b:List Int}(R:a.length=b.length)(hl:a.length<=100):∀(e f:List Int) (i:Nat) (M:Mk) (c:Int) (acc:List Int),a.drop i=e->b.drop i=f->i<=a.length->Ok M->In M c->(∀x∈e,In M x)->(∀x∈f,In M x)->M.N.length+7 * e.length<=80000->acc.length=i->
  Or rB [r0,aa ea a,aa eb b,I c,o3,I (a.length:Int),I (i:Int)] (rD M acc)=some (T.aa 1 false (enc (acc++ (fE M c e f).1))::df (fE M c e f).2):=by
 intro e;induction e with
 | nil=>
  intro f i M c acc A B K h j C m G g;have l:¬(i:Int) < (a.length:Int):=by have:=bu A;omega
  refine ai ?_;rw [Bz];simp only [ao,↓reduceIte,l,bc,fE,XA];rfl
 | cons x e H=>
  intro f i M c acc A B K h j C m G g;obtain⟨g1,S,v⟩:=bt A;cases f with
  | nil=>exact absurd (bu B) (by omega)
  | cons y f=>
   obtain⟨D,U,E⟩:=bt B;have l:(i:Int) < (a.length:Int):=by omega
   have F:(i:Int) < (b.length:Int):=by omega
   have h0: 0<=(i:Int):=by omega
   have n:=C x W7;have o:=m y W7;have st:=DO h j n o;rw [Xj] at G;have k1:=uJ h (by omega) n o;have k2:=uJ st.p.ok (by have:=st.p.up;omega) st.pi (st.p.In j);have k:=FC v (by omega);have w:=next i (by omega);have J:bH 8 (acc.length+1)=some ():=dc (by omega);rw [fE];dsimp only;cases e with
   | nil=>
    have u:¬((i+1:Nat):Int) < (a.length:Int):=by rw [Xu] at k;omega
    have d:=H f (i+1) _ c (acc++ [(bL (bL M x y).2 (bL M x y).1 c).1]) v E (by omega) st.q.ok (st.q.In j) (λz d=>by cases d) (st.q.all λz d=>m z (W8 _ d)) (by have:=st.q.up;simp;omega) (by simp [g]);rw [Aj] at d;refine ai ?_;rw [Bz];simp only [ao,↓reduceIte,l,F,h0,and_self,aE,bR g1,bR D,k1,k2,bg,bf,Xb,bc,aZ,J,w,u,fH,ZT];rw [XA] at d;exact d
   | cons x2 e=>
    have u:((i+1:Nat):Int) < (a.length:Int):=by rw [Xj] at k;omega
    have k3:=nb (by have:=st.q.up;omega) (st.q.In n) (st.q.In o);have L:=nb (by have:=st.r.up;omega) ((iU st.q.ok (st.q.In n) (st.q.In o)).1.In ((qW st.p.ok st.pi (st.p.In j)).1.In st.pi)) (st.r.In j);have O:=xk (by have:=st.s.up;omega) st.rs st.si;obtain⟨P,Q⟩:=sH st.s.ok st.rs st.si;have t:=st.s.trans P;have d:=H f (i+1) _ _ (acc++ [(bL (bL M x y).2 (bL M x y).1 c).1]) v E (by omega) t.ok Q (t.all λz d=>C z (W8 _ d)) (t.all λz d=>m z (W8 _ d)) (by have:=t.up;omega) (by simp [g]);refine ai ?_;rw [Bz];simp only [ao,↓reduceIte,l,F,h0,and_self,aE,bR g1,bR D,k1,k2,k3,L,O,bg,bf,Xb,bc,aZ,J,w,u,fH,ZO];simp only [XC,XL] at d;exact d
theorem Ku{M:Mk}(h:Ok M){ea eb:Bool}{a b:List Int}(j:a.length=b.length)(hl:a.length<=100)(F:∀x∈a,In M x)(G:∀x∈b,In M x)(J:M.N.length<=70000):
  Or (.call 47) [r0,aa ea a,aa eb b] (ef M)=some (LO (eE M a b).1::df (eE M a b).2):=by
 have H:=n7 (show M.N.length<=100000 by omega) false;obtain⟨l,Q⟩:=kA h false;have g:Or rB [r0,aa ea a,aa eb b,I (dy M false).1,AV.t (T.aC true),I (a.length:Int),I 0] (vf (dy M false).2)=some (LO (eE M a b).1::df (eE M a b).2):=by
  unfold eE;have A:(dy M false).2.N.length<=70001:=by have:=l.up;omega
  revert Q;generalize (dy M false).1=c;have f:=l.all F;have e:=l.all G;have n:=l.ok;revert f e n A;generalize (dy M false).2=m;intro A f e n k;clear H l F G h J M;cases a with
  | nil=>refine ai ?_;rw [By];simp only [ao,↓reduceIte,bc,fE,Xu,XN,XS,decide_false];rfl
  | cons x i=>
   cases b with
   | nil=>cases j
   | cons y v=>
    have o:=f x W7;have u:=e y W7;have st:=DO n k o u;rw [Xj] at hl;have k1:=uJ n (by omega) o u;have k2:=uJ st.p.ok (by have:=st.p.up;omega) st.pi (st.p.In k);have D:(0:Int) < (((x::i).length:Nat):Int):=by simp
    have E:(0:Int) < (((y::v).length:Nat):Int):=by simp
    have h0:(0:Int)<=0:=by omega
    have g1:(enc (x::i))[(0:Int).toNat]? =some [ti x]:=rfl;have C:(enc (y::v))[(0:Int).toNat]? =some [ti y]:=rfl;have w:i64.wrap (0+1)= ((1:Nat):Int):=by decide
    rw [fE];dsimp only;cases i with
    | nil=>
     have B:¬((1:Nat):Int) < ((([x]:List Int).length:Nat):Int):=by simp
     have d:=IY (ea:=ea) (eb:=eb) j (by omega) [] v 1 _ c [(bL (bL m x y).2 (bL m x y).1 c).1] rfl rfl (by simp) st.q.ok (st.q.In k) (λz d=>by cases d) (st.q.all λz d=>e z (W8 _ d)) (by have:=st.q.up;simp;omega) rfl;rw [Aj] at d;refine ai ?_;rw [By];simp only [ao,↓reduceIte,D,E,h0,and_self,aE,g1,C,k1,k2,bg,bf,Xb,bc,aZ,w,B,ZT];exact d
     | cons x2 i=>
     have B:((1:Nat):Int) < (((x::x2::i).length:Nat):Int):=by simp;omega
     have k3:=nb (by have:=st.q.up;omega) (st.q.In o) (st.q.In u);have K:=nb (by have:=st.r.up;omega) ((iU st.q.ok (st.q.In o) (st.q.In u)).1.In ((qW st.p.ok st.pi (st.p.In k)).1.In st.pi)) (st.r.In k);have L:=xk (by have:=st.s.up;omega) st.rs st.si;obtain⟨O,P⟩:=sH st.s.ok st.rs st.si;have t:=st.s.trans O;have d:=IY (ea:=ea) (eb:=eb) j (by rw [Xj];omega) (x2::i) v 1 _ _ [(bL (bL m x y).2 (bL m x y).1 c).1] rfl rfl (by simp) t.ok P (t.all λz d=>f z (W8 _ d)) (t.all λz d=>e z (W8 _ d)) (by have:=t.up;omega) rfl;refine ai ?_;rw [By];simp only [ao,↓reduceIte,D,E,h0,and_self,aE,g1,C,k1,k2,k3,K,L,bg,bf,Xb,bc,aZ,w,B,ZO];exact d
 generalize R:LO (eE M a b).1::df (eE M a b).2=r at g;refine ai ?_;rw [OB];simp only [ao,H,bg,bf,Xb,aZ,aE];exact g
open Go Go.Aev Go.IntKind
abbrev L5(M:Mk)(acc:List Int):List ad:= [ad.box [o1,o2],ad.rows M.N.isEmpty 5 1 1 M.N.length (rows M.N),ad.mp false [Ck.s] (Ck.i .i64) (cG M.K),ad.sl false 1 false (enc acc)]
def fC(M:Mk)(a:List Int)(n:Int):Nat->Nat->List Int×Mk
 | _,0=>([],M)
 | i,k+1=>if(i:Int) < n then((dy M false).1:: (fC (dy M false).2 a n (i+1) k).1,(fC (dy M false).2 a n (i+1) k).2)
  else(a.getD ((i:Int) - n).toNat 0:: (fC M a n (i+1) k).1,(fC M a n (i+1) k).2)
def bJ(M:Mk)(a:List Int)(n:Int):List Int×Mk:=fC M a n 0 a.length
theorem Qc{a:List Int}{P:Int->Prop}(c:∀x∈a,P x){k:Nat}(b:k < a.length):P (a.getD k 0):=by rw [Xa,Xd b];exact c _ (Y5 b)
theorem CC{a:List Int}{n:Int}(l: 0<=n):∀{k i:Nat} {M:Mk},Ok M->(∀x∈a,In M x)->i+k=a.length->
  Up M (fC M a n i k).2 k/\(∀x∈(fC M a n i k).1,In (fC M a n i k).2 x)/\(fC M a n i k).1.length=k
 | 0,i,M,h,_,_=>⟨Up.refl h,λx o=>(by cases o),rfl⟩
 | k+1,i,M,h,j,e=>by
  rw [fC];split
  .obtain⟨d,m⟩:=kA h false;obtain⟨c,f,g⟩:=CC l (k:=k) (i:=i+1) d.ok (d.all j) (by omega);refine⟨(d.trans c).mono (by omega),λz b=> ?_,by simp [g]⟩;rcases Xl.1 b with rfl | b
   .exact c.In m
   .exact f z b
  .obtain⟨c,f,g⟩:=CC l (k:=k) (i:=i+1) h j (by omega);refine⟨c.mono (by omega),λz b=> ?_,by simp [g]⟩;rcases Xl.1 b with rfl | b
   .exact c.In (Qc j (by omega))
   .exact f z b
theorem wE{M:Mk}{a:List Int}{n:Int}(c: 0<=n)(h:Ok M)(b:∀x∈a,In M x):
  Up M (bJ M a n).2 a.length/\(∀x∈(bJ M a n).1,In (bJ M a n).2 x)/\(bJ M a n).1.length=a.length:=CC c h b (XF _)
theorem RT{ea:Bool}{a:List Int}{n:Int}(u: 0<=n)(t:n<=1000)(hl:a.length<=100):∀(k i:Nat) (M:Mk) (acc:List Int),i+k=a.length->Ok M->M.N.length+k<=80000->acc.length=i->
  Or kP [r0,aa ea a,I n,o3,I (a.length:Int),I (i:Int)] (rD M acc)=some (T.aa 1 false (enc (acc++ (fC M a n i k).1))::df (fC M a n i k).2):=by
 intro k;induction k with
 | zero=>
  intro i M acc q h o b;have d:¬(i:Int) < (a.length:Int):=by omega
  refine ai ?_;rw [BB];simp only [ao,↓reduceIte,d,bc,fC,XA];rfl
 | succ k g=>
  intro i M acc q h o b;have d:(i:Int) < (a.length:Int):=by omega
  have w:=next i (by omega);have j:bH 8 (acc.length+1)=some ():=dc (by omega);rw [fC];by_cases e:(i:Int) < n
  .have r:=n7 (show M.N.length<=100000 by omega) false;obtain⟨l,v⟩:=kA h false;have c:=g (i+1) _ (acc++ [(dy M false).1]) (by omega) l.ok (by have:=l.up;omega) (by simp [b]);rw [if_pos e];simp only [XC,XL] at c;refine ai ?_;rw [BB];simp only [ao,↓reduceIte,d,e,r,bg,bf,Xb,bc,aZ,aE,j,w,fH];exact c
  .have s:i64.wrap ((i:Int) - n)= (i:Int) - n:=wr (by omega);have m: 0<=(i:Int) - n/\(i:Int) - n < (a.length:Int):=by omega
   have f:((i:Int) - n).toNat < a.length:=by omega
   have p:(enc a)[((i:Int) - n).toNat]? =some [ti (a.getD ((i:Int) - n).toNat 0)]:=by refine fP ?_;rw [Xa,Xd f];rfl
   have c:=g (i+1) M (acc++ [a.getD ((i:Int) - n).toNat 0]) (by omega) h (by omega) (by simp [b]);rw [if_neg e];simp only [XC,XL] at c;refine ai ?_;rw [BB];simp only [ao,↓reduceIte,d,e,s,m,and_self,p,bc,aE,j,w,fH];exact c
theorem RU{ea:Bool}{a:List Int}{n:Int}(r: 0<=n)(q:n<=1000)(hl:a.length<=100):∀(k i:Nat) (M:Mk) (acc:List Int),i+k=a.length->n<=(i:Int)->acc.length=i->
  Or kP [r0,aa ea a,I n,o3,I (a.length:Int),I (i:Int)] (L5 M acc)=some (T.aa 1 false (enc (acc++ (fC M a n i k).1))::df (fC M a n i k).2):=by
 intro k;induction k with
 | zero=>
  intro i M acc l g b;have d:¬(i:Int) < (a.length:Int):=by omega
  refine ai ?_;rw [GA];simp only [ao,↓reduceIte,d,bc,fC,XA];rfl
 | succ k m=>
  intro i M acc l g b;have d:(i:Int) < (a.length:Int):=by omega
  have w:=next i (by omega);have o:bH 8 (acc.length+1)=some ():=dc (by omega);rw [fC];have c:¬(i:Int) < n:=by omega
  have p:i64.wrap ((i:Int) - n)= (i:Int) - n:=wr (by omega);have h: 0<=(i:Int) - n/\(i:Int) - n < (a.length:Int):=by omega
  have e:((i:Int) - n).toNat < a.length:=by omega
  have j:(enc a)[((i:Int) - n).toNat]? =some [ti (a.getD ((i:Int) - n).toNat 0)]:=by refine fP ?_;rw [Xa,Xd e];rfl
  have f:=m (i+1) M (acc++ [a.getD ((i:Int) - n).toNat 0]) (by omega) (by omega) (by simp [b]);rw [if_neg c];simp only [XC,XL] at f;refine ai ?_;rw [GA];simp only [ao,↓reduceIte,d,c,p,h,and_self,j,bc,aE,o,w,fH];exact f
theorem Dv{M:Mk}(h:Ok M){ea:Bool}{a:List Int}{n:Int}(j: 0<=n)(e:n<=1000)(hl:a.length<=100)(s:M.N.length<=70000):
  Or (.call 49) [r0,aa ea a,I n] (ef M)=some (LO (bJ M a n).1::df (bJ M a n).2):=by
 have c:Or kP [r0,aa ea a,I n,AV.t (T.aC true),I (a.length:Int),I 0] (ef M)=some (LO (bJ M a n).1::df (bJ M a n).2):=by
  unfold bJ;cases a with
  | nil=>refine ai ?_;rw [BA];simp only [ao,↓reduceIte,bc,fC,Xu,XN,XS,decide_false];rfl
  | cons x b=>
   rw [Xj] at hl;have i:(0:Int) < (((x::b).length:Nat):Int):=by simp
   have w:i64.wrap (0+1)= ((1:Nat):Int):=by decide
   rw [show fC M (x::b) n 0 (x::b).length=fC M (x::b) n 0 (b.length+1) from rfl,fC];by_cases f:(0:Int) < n
   .have p:=n7 (show M.N.length<=100000 by omega) false;obtain⟨k,v⟩:=kA h false;have g:=RT (ea:=ea) (a:=x::b) j e (by rw [Xj];omega) b.length 1 _ [(dy M false).1] (by rw [Xj];omega) k.ok (by have:=k.up;omega) rfl;have d:((0:Nat):Int) < n:=f;rw [if_pos d];refine ai ?_;rw [BA];simp only [ao,↓reduceIte,i,f,p,bg,bf,Xb,bc,aZ,w];exact g
   .have l:n=0:=by omega
    subst l;have q:i64.wrap (0 - 0)=0:=by decide
    have m:(0:Int)<=0:=by omega
    have o:(enc (x::b))[(0:Int).toNat]? =some [ti x]:=rfl;have g:=RU (ea:=ea) (a:=x::b) (n:=0) j e (by rw [Xj];omega) b.length 1 M [x] (by rw [Xj];omega) (by omega) rfl;have d:¬((0:Nat):Int) < 0:=by omega
    rw [if_neg d];refine ai ?_;rw [BA];simp only [ao,↓reduceIte,i,f,q,m,and_self,o,aE,bc,w];exact g
 generalize u:LO (bJ M a n).1::df (bJ M a n).2=r at c;refine ai ?_;rw [OF];simp only [aE];exact c
def cP(M:Mk)(x:Int):List Int->List Int×Mk
 | y::l=>((cE M x y).1:: (cP (cE M x y).2 x l).1,(cP (cE M x y).2 x l).2)
 | []=>([],M)
def ic(M:Mk)(a out:List Int):Nat->List Int->List Int×Mk
 | i,x::b=>
  let l:=bJ M a (i:Int);let p:=cP l.2 x l.1;let s:=eE p.2 out p.1
  ic s.2 a s.1 (i+1) b
 | _,[]=>(out,M)
def jv(M:Mk)(a b:List Int):List Int×Mk:=ic (bJ M a (a.length:Int)).2 a (bJ M a (a.length:Int)).1 0 b
theorem Jx{x:Int}:∀{l:List Int} {M:Mk},Ok M->In M x->(∀y∈l,In M y)->
  Up M (cP M x l).2 l.length/\(∀y∈(cP M x l).1,In (cP M x l).2 y)/\(cP M x l).1.length=l.length
 | [],M,h,_,_=>⟨Up.refl h,λx c=>(by cases c),rfl⟩
 | y::l,M,h,c,hl=>by
  obtain⟨b,e⟩:=iU h c (hl y W7);obtain⟨d,f,g⟩:=Jx (l:=l) b.ok (b.In c) (b.all λz a=>hl z (W8 _ a));refine⟨(b.trans d).mono (by rw [Xj];omega),λz a=> ?_,by simp [cP,g]⟩;rcases Xl.1 a with rfl | a
  .exact d.In e
  .exact f z a
structure L8 (M:Mk) (a out:List Int) (i:Nat) (x:Int):Prop where
 l:Up M (bJ M a (i:Int)).2 a.length
 li:∀y∈(bJ M a (i:Int)).1,In (bJ M a (i:Int)).2 y
 ll:(bJ M a (i:Int)).1.length=a.length
 p:Up M (cP (bJ M a (i:Int)).2 x (bJ M a (i:Int)).1).2 (2 * a.length)
 pi:∀y∈(cP (bJ M a (i:Int)).2 x (bJ M a (i:Int)).1).1,In (cP (bJ M a (i:Int)).2 x (bJ M a (i:Int)).1).2 y
 pl:(cP (bJ M a (i:Int)).2 x (bJ M a (i:Int)).1).1.length=a.length
 s:Up M (eE (cP (bJ M a (i:Int)).2 x (bJ M a (i:Int)).1).2 out (cP (bJ M a (i:Int)).2 x (bJ M a (i:Int)).1).1).2 (9 * a.length+1)
 si:∀y∈(eE (cP (bJ M a (i:Int)).2 x (bJ M a (i:Int)).1).2 out (cP (bJ M a (i:Int)).2 x (bJ M a (i:Int)).1).1).1,In (eE (cP (bJ M a (i:Int)).2 x (bJ M a (i:Int)).1).2 out (cP (bJ M a (i:Int)).2 x (bJ M a (i:Int)).1).1).2 y
 sl:(eE (cP (bJ M a (i:Int)).2 x (bJ M a (i:Int)).1).2 out (cP (bJ M a (i:Int)).2 x (bJ M a (i:Int)).1).1).1.length=a.length
theorem Lh{M:Mk}(h:Ok M){a out:List Int}(m:∀y∈a,In M y)(ho:∀y∈out,In M y)(c:out.length=a.length)(i:Nat){x:Int}(o:In M x):L8 M a out i x:=by obtain⟨b,e,f⟩:=wE (n:=(i:Int)) (by omega) h m;obtain⟨g,j,d⟩:=Jx b.ok (b.In o) e;rw [f] at g d;have p:=(b.trans g).mono (show a.length+a.length<=2 * a.length by omega);obtain⟨k,q,l⟩:=K1 p.ok (p.all ho) j (by rw [c,d]);rw [c] at k l;exact⟨b,e,f,p,j,d,(p.trans k).mono (by omega),q,l⟩
theorem Lg{a:List Int}:∀{b:List Int} {i:Nat} {M:Mk} {out:List Int},Ok M->(∀y∈a,In M y)->(∀y∈b,In M y)->(∀y∈out,In M y)->out.length=a.length->
  Up M (ic M a out i b).2 ((9 * a.length+1) * b.length)/\(∀y∈(ic M a out i b).1,In (ic M a out i b).2 y)/\(ic M a out i b).1.length=a.length
 | [],i,M,out,h,_,_,ho,hl=>⟨(Up.refl h).mono (by omega),ho,hl⟩
 | x::b,i,M,out,h,c,d,ho,hl=>by have st:=Lh h c ho hl i (d x W7);obtain⟨e,f,g⟩:=Lg (a:=a) (b:=b) (i:=i+1) st.s.ok (st.s.all c) (st.s.all λz j=>d z (W8 _ j)) st.si st.sl;exact⟨(st.s.trans e).mono (by rw [Xj,Z5];omega),f,g⟩
theorem Vr{M:Mk}(h:Ok M){a b:List Int}(d:∀y∈a,In M y)(j:∀y∈b,In M y):
  Up M (jv M a b).2 (a.length+ (9 * a.length+1) * b.length)/\(∀y∈(jv M a b).1,In (jv M a b).2 y)/\(jv M a b).1.length=a.length:=by
 obtain⟨c,k,l⟩:=wE (n:=(a.length:Int)) (by omega) h d;obtain⟨e,f,g⟩:=Lg (a:=a) (b:=b) (i:=0) c.ok (c.all d) (c.all j) k l;exact⟨c.trans e,f,g⟩
theorem RS{ea eo eb el:Bool}{a out b l:List Int}{x:Int}{i:Nat}(hl:l.length<=100)(B:out.length=l.length)(D:i<=100){r:List T}:∀(rl:List Int) (j:Nat) (M:Mk) (acc:List Int),l.drop j=rl->j<=l.length->Ok M->In M x->(∀y∈rl,In M y)->(∀y∈out,In M y)->(∀y∈acc,In M y)->M.N.length+rl.length<=60000->acc.length=j->
  Or s7 [r0,aa ea a,aa (eE (cP M x rl).2 out (acc++ (cP M x rl).1)).1.isEmpty (eE (cP M x rl).2 out (acc++ (cP M x rl).1)).1,aa eb b,I (b.length:Int),I ((i+1:Nat):Int)] (vf (eE (cP M x rl).2 out (acc++ (cP M x rl).1)).2)=some r->
  Or rC [r0,aa ea a,aa eo out,I x,o3,aa eb b,I (b.length:Int),I (i:Int),aa el l,I (l.length:Int),I (j:Int)] (rD M acc)=some r:=by
 intro rl;induction rl with
 | nil=>
  intro j M acc k t h m hrl ho c p n e;have o:¬(j:Int) < (l.length:Int):=by have:=bu k;omega
  have A:j=l.length:=by have:=bu k;omega
  rw [cP,XA] at e;have k1:=Ku (ea:=eo) (eb:=false) h (a:=out) (b:=acc) (by omega) (by omega) ho c (by simp at p;omega);refine ai ?_;rw [Gz];simp only [ao,↓reduceIte,o,k1,bg,bf,Xb,aZ,dm,next i (by omega)];exact e
 | cons y rl u=>
  intro j M acc k t h m hrl ho c p n e;obtain⟨g1,C,s⟩:=bt k;have o:(j:Int) < (l.length:Int):=by omega
  have h0: 0<=(j:Int):=by omega
  have q:=hrl y W7;rw [Xj] at p;have k1:=nb (show M.N.length<=100000 by omega) m q;obtain⟨d,w⟩:=iU h m q;have v:bH 8 (acc.length+1)=some ():=dc (by omega);have f:=u (j+1) _ (acc++ [(cE M x y).1]) s (by omega) d.ok (d.In m) (d.all λz f=>hrl z (W8 _ f)) (d.all ho) (λz f=> ?_) (by have:=d.up;omega) (by simp [n]) (by
   rw [cP] at e;simpa only [XC,XL] using e)
  .refine ai ?_;rw [Gz];simp only [ao,↓reduceIte,o,h0,and_self,aE,bR g1,k1,bg,bf,Xb,aZ,v,next j (by omega),fH];exact f
  .rcases Xo.1 f with g | g
   .exact d.In (c z g)
   .simp only [Xi] at g;subst g;exact w
theorem RR{ea eb:Bool}{a b:List Int}(R: 1<=a.length)(hl:a.length<=8)(S:b.length<=8):∀(c:List Int) (i:Nat) (M:Mk) (out:List Int),b.drop i=c->i<=b.length->Ok M->(∀y∈a,In M y)->(∀y∈c,In M y)->(∀y∈out,In M y)->out.length=a.length->M.N.length+100 * c.length<=50000->
  Or s7 [r0,aa ea a,aa out.isEmpty out,aa eb b,I (b.length:Int),I (i:Int)] (vf M)=some (T.aa 1 (ic M a out i c).1.isEmpty (enc (ic M a out i c).1)::df (ic M a out i c).2):=by
 intro c;induction c with
 | nil=>
  intro i M out q K h j u ho o v;have r:¬(i:Int) < (b.length:Int):=by have:=bu q;omega
  rw [ic];refine ai ?_;rw [Gy];simp only [ao,↓reduceIte,r,bc];rfl
 | cons x c O=>
  intro i M out q K h j u ho o v;obtain⟨g1,U,E⟩:=bt q;have r:(i:Int) < (b.length:Int):=by omega
  have h0: 0<=(i:Int):=by omega
  have C:=u x W7;rw [Xj] at v;have st:=Lh h j ho o i C;have k1:=Dv (ea:=ea) h (a:=a) (n:=(i:Int)) h0 (by omega) (by omega) (by omega);rw [ic];have d:=O (i+1) _ _ E (by omega) st.s.ok (st.s.all j) (st.s.all λz d=>u z (W8 _ d)) st.si st.sl (by have:=st.s.up;omega)
  have A:Or rC [r0,aa ea a,aa out.isEmpty out,I x,AV.t (T.aC true),aa eb b,I (b.length:Int),I (i:Int),aa (bJ M a (i:Int)).1.isEmpty (bJ M a (i:Int)).1,I ((bJ M a (i:Int)).1.length:Int),I 0] (vf (bJ M a (i:Int)).2)=
    some (T.aa 1 (ic (eE (cP (bJ M a (i:Int)).2 x (bJ M a (i:Int)).1).2 out (cP (bJ M a (i:Int)).2 x (bJ M a (i:Int)).1).1).2 a (eE (cP (bJ M a (i:Int)).2 x (bJ M a (i:Int)).1).2 out (cP (bJ M a (i:Int)).2 x (bJ M a (i:Int)).1).1).1 (i+1) c).1.isEmpty (enc (ic (eE (cP (bJ M a (i:Int)).2 x (bJ M a (i:Int)).1).2 out (cP (bJ M a (i:Int)).2 x (bJ M a (i:Int)).1).1).2 a (eE (cP (bJ M a (i:Int)).2 x (bJ M a (i:Int)).1).2 out (cP (bJ M a (i:Int)).2 x (bJ M a (i:Int)).1).1).1 (i+1) c).1)::
     df (ic (eE (cP (bJ M a (i:Int)).2 x (bJ M a (i:Int)).1).2 out (cP (bJ M a (i:Int)).2 x (bJ M a (i:Int)).1).1).2 a (eE (cP (bJ M a (i:Int)).2 x (bJ M a (i:Int)).1).2 out (cP (bJ M a (i:Int)).2 x (bJ M a (i:Int)).1).1).1 (i+1) c).2):=by
   obtain⟨e,k,m⟩:=wE (n:=(i:Int)) (by omega) h j;revert d e k m;generalize (bJ M a (i:Int)).1=l;generalize (bJ M a (i:Int)).2=p;intro d e k m;have Q:p.N.length<=50010:=by have:=e.up;omega
   have f:=e.In C;have B:=e.all ho;have F:=e.ok;cases l with
   | nil=>rw [Xu] at m;omega
   | cons y rl=>
    rw [Xj] at m;have D:=k y W7;have k2:=nb (show p.N.length<=100000 by omega) f D;obtain⟨g,P⟩:=iU F f D;have G:(0:Int) < (((y::rl).length:Nat):Int):=by simp
    have H:(0:Int)<=0:=by omega
    have J:(enc (y::rl))[(0:Int).toNat]? =some [ti y]:=rfl;have w:i64.wrap (0+1)= ((1:Nat):Int):=by decide
    have L:=RS (ea:=ea) (eo:=out.isEmpty) (eb:=eb) (el:=false) (a:=a) (out:=out) (b:=b) (l:=y::rl) (x:=x) (i:=i) (by rw [Xj];omega) (by rw [Xj];omega) (by omega) rl 1 _ [(cE p x y).1] rfl (by simp) g.ok (g.In f) (g.all λz d=>k z (W8 _ d)) (g.all B) (λz d=>by simp only [Xi] at d;subst d;exact P) (by have:=g.up;omega) rfl d;refine ai ?_;rw [OE];simp only [ao,↓reduceIte,G,H,and_self,aE,J,k2,bg,bf,Xb,aZ,w,ZO];exact L
  refine ai ?_;rw [Gy];simp only [ao,↓reduceIte,r,h0,and_self,aE,bR g1,k1,bg,bf,Xb,bc,aZ,dm];exact A
theorem Ua{M:Mk}(h:Ok M){ea eb:Bool}{a b:List Int}(e: 1<=a.length)(hl:a.length<=8)(f:b.length<=8)(d:∀y∈a,In M y)(g:∀y∈b,In M y)(l:M.N.length<=40000):
  Or (.call 48) [r0,aa ea a,aa eb b] (ef M)=some (T.aa 1 (jv M a b).1.isEmpty (enc (jv M a b).1)::df (jv M a b).2):=by
 have k1:=Dv (ea:=ea) h (a:=a) (n:=(a.length:Int)) (by omega) (by omega) (by omega) (by omega);obtain⟨c,j,k⟩:=wE (n:=(a.length:Int)) (by omega) h d;have i:=RR (ea:=ea) (eb:=eb) e hl f b 0 _ _ rfl (by omega) c.ok (c.all d) (c.all g) j k (by have:=c.up;omega);unfold jv;refine ai ?_;rw [OC];simp only [ao,k1,bg,bf,Xb,aZ,dm,aE];exact i
def gI(M:Mk)(c:Int):List Int->List Int->Int×Mk
 | x::a,y::b=>
  let n:=hF M x;let p:=cE n.2 n.1 y;let q:=eJ p.2 x y;let s:=cE q.2 q.1 c;let t:=eZ s.2 p.1 s.1
  gI t.2 t.1 a b
 | _,_=>(c,M)
def mc(M:Mk)(a b:List Int):Int×Mk:=gI (dy M false).2 (dy M false).1 a b
theorem QB(M:Mk)(c:Int)(b:List Int):gI M c [] b= (c,M):=by simp [gI]
theorem RX{ea eb:Bool}{a b:List Int}(W:a.length=b.length)(hl:a.length<=100):∀(d e:List Int) (i:Nat) (M:Mk) (c:Int),a.drop i=d->b.drop i=e->i<=a.length->Ok M->In M c->(∀x∈d,In M x)->(∀x∈e,In M x)->M.N.length+5 * d.length<=80000->
  Or AE [r0,aa ea a,aa eb b,I c,I (a.length:Int),I (i:Int)] (vf M)=some (ti (gI M c d e).1::df (gI M c d e).2)/\Up M (gI M c d e).2 (5 * d.length)/\In (gI M c d e).2 (gI M c d e).1:=by
 intro d;induction d with
 | nil=>
  intro e i M c l m K h g o r A;have n:¬(i:Int) < (a.length:Int):=by have:=bu l;omega
  rw [QB];refine⟨ai ?_,Up.refl h,g⟩;rw [GB];simp only [ao,↓reduceIte,n,bc];rfl
 | cons x d L=>
  intro e i M c l m K h g o r A;obtain⟨g1,X,F⟩:=bt l;cases e with
  | nil=>exact absurd (bu m) (by omega)
  | cons y e=>
   obtain⟨G,Y,H⟩:=bt m;have n:(i:Int) < (a.length:Int):=by omega
   have J:(i:Int) < (b.length:Int):=by omega
   have h0: 0<=(i:Int):=by omega
   have j:=o x W7;have k:=r y W7;rw [Xj] at A;obtain⟨f,B⟩:=sD h j;obtain⟨Q,C⟩:=iU f.ok B (f.In k);have p:=f.trans Q;obtain⟨v,D⟩:=sc p.ok (p.In j) (p.In k);have q:=p.trans v;obtain⟨w,E⟩:=iU q.ok D (q.In g);have s:=q.trans w;obtain⟨R,S⟩:=sH s.ok ((v.trans w).In C) E;have t:=s.trans R;have k1:=uI h (by omega) j;have k2:=nb (by have:=f.up;omega) B (f.In k);have k3:=z7 p.ok (by have:=p.up;omega) (p.In j) (p.In k);have O:=nb (by have:=q.up;omega) D (q.In g);have P:=xk (by have:=s.up;omega) ((v.trans w).In C) E;obtain⟨T,U,V⟩:=L e (i+1) _ _ F H (by omega) t.ok S (t.all λz u=>o z (W8 _ u)) (t.all λz u=>r z (W8 _ u)) (by have:=t.up;omega);rw [gI];refine⟨ai ?_,(t.trans U).mono (by rw [Xj];omega),V⟩;rw [GB];simp only [ao,↓reduceIte,n,J,h0,and_self,aE,bR g1,bR G,k1,k2,k3,O,P,bg,bf,Xb,bc,aZ,next i (by omega)];exact T
theorem Kw{M:Mk}(h:Ok M){ea eb:Bool}{a b:List Int}(d:a.length=b.length)(hl:a.length<=100)(e:∀x∈a,In M x)(f:∀x∈b,In M x)(m:M.N.length<=70000):
  Or (.call 50) [r0,aa ea a,aa eb b] (ef M)=some (ti (mc M a b).1::df (mc M a b).2)/\Up M (mc M a b).2 (1+5 * a.length)/\In (mc M a b).2 (mc M a b).1:=by
 have g:=n7 (show M.N.length<=100000 by omega) false;obtain⟨c,i⟩:=kA h false;obtain⟨j,k,l⟩:=RX (ea:=ea) (eb:=eb) d hl a b 0 _ _ rfl rfl (by omega) c.ok i (c.all e) (c.all f) (by have:=c.up;omega);unfold mc;refine⟨ai ?_,c.trans k,l⟩;rw [OG];simp only [ao,g,bg,bf,Xb,aZ,aE];exact j
theorem RN{ea eb:Bool}{a b:List Int}(B:a.length=b.length)(hl:a.length<=100):∀(d c:List Int) (i:Nat) (M:Mk) (acc:List Int),a.drop i=d->b.drop i=c->i<=a.length->Ok M->(∀x∈d,In M x)->(∀x∈c,In M x)->M.N.length+2 * d.length<=80000->acc.length=i->
  Or fe [aa ea a,aa eb b,AV.fn 44 [r0] [],o3,I (a.length:Int),I (i:Int)] (rD M acc)=some (T.aa 1 false (enc (acc++ (aX cE M d c).1))::df (aX cE M d c).2):=by
 intro d;induction d with
 | nil=>
  intro c i M acc j k v h m n o f;have l:¬(i:Int) < (a.length:Int):=by have:=bu j;omega
  refine ai ?_;rw [Gv];simp only [ao,↓reduceIte,l,bc,aX,XA];rfl
 | cons x d w=>
  intro c i M acc j k v h m n o f;obtain⟨g1,C,r⟩:=bt j;cases c with
  | nil=>exact absurd (bu k) (by omega)
  | cons y c=>
   obtain⟨s,D,t⟩:=bt k;have l:(i:Int) < (a.length:Int):=by omega
   have u:(i:Int) < (b.length:Int):=by omega
   have h0: 0<=(i:Int):=by omega
   have p:=m x W7;have q:=n y W7;rw [Xj] at o;have k1:=nb (show M.N.length<=100000 by omega) p q;obtain⟨g,E⟩:=iU h p q;have A:bH 8 (acc.length+1)=some ():=dc (by omega);have e:=w c (i+1) _ (acc++ [(cE M x y).1]) r t (by omega) g.ok (g.all λz e=>m z (W8 _ e)) (g.all λz e=>n z (W8 _ e)) (by have:=g.up;omega) (by simp [f]);simp only [XC,XL] at e;rw [aX];refine ai ?_;rw [Gv];simp only [ao,↓reduceIte,l,u,h0,and_self,aE,bR g1,bR s,k1,bg,bf,Xb,bc,aZ,A,next i (by omega),fH];exact e
theorem T6{M:Mk}(h:Ok M){ea eb:Bool}{a b:List Int}(f:a.length=b.length)(hl:a.length<=100)(j:∀x∈a,In M x)(k:∀x∈b,In M x)(s:M.N.length<=70000):
  Or (.call 40) [aa ea a,aa eb b,AV.fn 44 [r0] []] (ef M)=some (LO (aX cE M a b).1::df (aX cE M a b).2):=by
 have c:Or fe [aa ea a,aa eb b,AV.fn 44 [r0] [],AV.t (T.aC true),I (a.length:Int),I 0] (ef M)=some (LO (aX cE M a b).1::df (aX cE M a b).2):=by
  cases a with
  | nil=>refine ai ?_;rw [Gp];simp only [ao,↓reduceIte,bc,aX,Xu,XN,XS,decide_false];rfl
  | cons x g=>
   cases b with
   | nil=>cases f
   | cons y i=>
    have m:=j x W7;have n:=k y W7;have k1:=nb (show M.N.length<=100000 by omega) m n;obtain⟨e,v⟩:=iU h m n;have p:(0:Int) < (((x::g).length:Nat):Int):=by simp
    have q:(0:Int) < (((y::i).length:Nat):Int):=by simp
    have h0:(0:Int)<=0:=by omega
    have g1:(enc (x::g))[(0:Int).toNat]? =some [ti x]:=rfl;have o:(enc (y::i))[(0:Int).toNat]? =some [ti y]:=rfl;have w:i64.wrap (0+1)= ((1:Nat):Int):=by decide
    have l:=hl;rw [Xj] at l;have d:=RN (ea:=ea) (eb:=eb) f hl g i 1 _ [(cE M x y).1] rfl rfl (by simp) e.ok (e.all λz d=>j z (W8 _ d)) (e.all λz d=>k z (W8 _ d)) (by have:=e.up;omega) rfl;rw [aX];refine ai ?_;rw [Gp];simp only [ao,↓reduceIte,p,q,h0,and_self,aE,g1,o,k1,bg,bf,Xb,bc,aZ,w];exact d
 generalize u:LO (aX cE M a b).1::df (aX cE M a b).2=r at c;refine ai ?_;rw [Oo];simp only [aE];exact c
theorem RO{ea eb:Bool}{a b:List Int}(B:a.length=b.length)(hl:a.length<=100):∀(d c:List Int) (i:Nat) (M:Mk) (acc:List Int),a.drop i=d->b.drop i=c->i<=a.length->Ok M->(∀x∈d,In M x)->(∀x∈c,In M x)->M.N.length+2 * d.length<=80000->acc.length=i->
  Or fe [aa ea a,aa eb b,AV.fn 45 [r0] [],o3,I (a.length:Int),I (i:Int)] (rD M acc)=some (T.aa 1 false (enc (acc++ (aX eZ M d c).1))::df (aX eZ M d c).2):=by
 intro d;induction d with
 | nil=>
  intro c i M acc j k v h m n o f;have l:¬(i:Int) < (a.length:Int):=by have:=bu j;omega
  refine ai ?_;rw [Gw];simp only [ao,↓reduceIte,l,bc,aX,XA];rfl
 | cons x d w=>
  intro c i M acc j k v h m n o f;obtain⟨g1,C,r⟩:=bt j;cases c with
  | nil=>exact absurd (bu k) (by omega)
  | cons y c=>
   obtain⟨s,D,t⟩:=bt k;have l:(i:Int) < (a.length:Int):=by omega
   have u:(i:Int) < (b.length:Int):=by omega
   have h0: 0<=(i:Int):=by omega
   have p:=m x W7;have q:=n y W7;rw [Xj] at o;have k1:=xk (show M.N.length<=100000 by omega) p q;obtain⟨g,E⟩:=sH h p q;have A:bH 8 (acc.length+1)=some ():=dc (by omega);have e:=w c (i+1) _ (acc++ [(eZ M x y).1]) r t (by omega) g.ok (g.all λz e=>m z (W8 _ e)) (g.all λz e=>n z (W8 _ e)) (by have:=g.up;omega) (by simp [f]);simp only [XC,XL] at e;rw [aX];refine ai ?_;rw [Gw];simp only [ao,↓reduceIte,l,u,h0,and_self,aE,bR g1,bR s,k1,bg,bf,Xb,bc,aZ,A,next i (by omega),fH];exact e
theorem T7{M:Mk}(h:Ok M){ea eb:Bool}{a b:List Int}(f:a.length=b.length)(hl:a.length<=100)(j:∀x∈a,In M x)(k:∀x∈b,In M x)(s:M.N.length<=70000):
  Or (.call 40) [aa ea a,aa eb b,AV.fn 45 [r0] []] (ef M)=some (LO (aX eZ M a b).1::df (aX eZ M a b).2):=by
 have c:Or fe [aa ea a,aa eb b,AV.fn 45 [r0] [],AV.t (T.aC true),I (a.length:Int),I 0] (ef M)=some (LO (aX eZ M a b).1::df (aX eZ M a b).2):=by
  cases a with
  | nil=>refine ai ?_;rw [Gq];simp only [ao,↓reduceIte,bc,aX,Xu,XN,XS,decide_false];rfl
  | cons x g=>
   cases b with
   | nil=>cases f
   | cons y i=>
    have m:=j x W7;have n:=k y W7;have k1:=xk (show M.N.length<=100000 by omega) m n;obtain⟨e,v⟩:=sH h m n;have p:(0:Int) < (((x::g).length:Nat):Int):=by simp
    have q:(0:Int) < (((y::i).length:Nat):Int):=by simp
    have h0:(0:Int)<=0:=by omega
    have g1:(enc (x::g))[(0:Int).toNat]? =some [ti x]:=rfl;have o:(enc (y::i))[(0:Int).toNat]? =some [ti y]:=rfl;have w:i64.wrap (0+1)= ((1:Nat):Int):=by decide
    have l:=hl;rw [Xj] at l;have d:=RO (ea:=ea) (eb:=eb) f hl g i 1 _ [(eZ M x y).1] rfl rfl (by simp) e.ok (e.all λz d=>j z (W8 _ d)) (e.all λz d=>k z (W8 _ d)) (by have:=e.up;omega) rfl;rw [aX];refine ai ?_;rw [Gq];simp only [ao,↓reduceIte,p,q,h0,and_self,aE,g1,o,k1,bg,bf,Xb,bc,aZ,w];exact d
 generalize u:LO (aX eZ M a b).1::df (aX eZ M a b).2=r at c;refine ai ?_;rw [Oq];simp only [aE];exact c
theorem RP{ea eb:Bool}{a b:List Int}(B:a.length=b.length)(hl:a.length<=100):∀(d c:List Int) (i:Nat) (M:Mk) (acc:List Int),a.drop i=d->b.drop i=c->i<=a.length->Ok M->(∀x∈d,In M x)->(∀x∈c,In M x)->M.N.length+2 * d.length<=80000->acc.length=i->
  Or fe [aa ea a,aa eb b,AV.fn 46 [r0] [],o3,I (a.length:Int),I (i:Int)] (rD M acc)=some (T.aa 1 false (enc (acc++ (aX bL M d c).1))::df (aX bL M d c).2):=by
 intro d;induction d with
 | nil=>
  intro c i M acc j k v h m n o f;have l:¬(i:Int) < (a.length:Int):=by have:=bu j;omega
  refine ai ?_;rw [Gx];simp only [ao,↓reduceIte,l,bc,aX,XA];rfl
 | cons x d w=>
  intro c i M acc j k v h m n o f;obtain⟨g1,C,r⟩:=bt j;cases c with
  | nil=>exact absurd (bu k) (by omega)
  | cons y c=>
   obtain⟨s,D,t⟩:=bt k;have l:(i:Int) < (a.length:Int):=by omega
   have u:(i:Int) < (b.length:Int):=by omega
   have h0: 0<=(i:Int):=by omega
   have p:=m x W7;have q:=n y W7;rw [Xj] at o;have k1:=uJ h (by omega) p q;obtain⟨g,E⟩:=qW h p q;have A:bH 8 (acc.length+1)=some ():=dc (by omega);have e:=w c (i+1) _ (acc++ [(bL M x y).1]) r t (by omega) g.ok (g.all λz e=>m z (W8 _ e)) (g.all λz e=>n z (W8 _ e)) (by have:=g.up;omega) (by simp [f]);simp only [XC,XL] at e;rw [aX];refine ai ?_;rw [Gx];simp only [ao,↓reduceIte,l,u,h0,and_self,aE,bR g1,bR s,k1,bg,bf,Xb,bc,aZ,A,next i (by omega),fH];exact e
theorem T8{M:Mk}(h:Ok M){ea eb:Bool}{a b:List Int}(f:a.length=b.length)(hl:a.length<=100)(j:∀x∈a,In M x)(k:∀x∈b,In M x)(s:M.N.length<=70000):
  Or (.call 40) [aa ea a,aa eb b,AV.fn 46 [r0] []] (ef M)=some (LO (aX bL M a b).1::df (aX bL M a b).2):=by
 have c:Or fe [aa ea a,aa eb b,AV.fn 46 [r0] [],AV.t (T.aC true),I (a.length:Int),I 0] (ef M)=some (LO (aX bL M a b).1::df (aX bL M a b).2):=by
  cases a with
  | nil=>refine ai ?_;rw [Gr];simp only [ao,↓reduceIte,bc,aX,Xu,XN,XS,decide_false];rfl
  | cons x g=>
   cases b with
   | nil=>cases f
   | cons y i=>
    have m:=j x W7;have n:=k y W7;have k1:=uJ h (by omega) m n;obtain⟨e,v⟩:=qW h m n;have p:(0:Int) < (((x::g).length:Nat):Int):=by simp
    have q:(0:Int) < (((y::i).length:Nat):Int):=by simp
    have h0:(0:Int)<=0:=by omega
    have g1:(enc (x::g))[(0:Int).toNat]? =some [ti x]:=rfl;have o:(enc (y::i))[(0:Int).toNat]? =some [ti y]:=rfl;have w:i64.wrap (0+1)= ((1:Nat):Int):=by decide
    have l:=hl;rw [Xj] at l;have d:=RP (ea:=ea) (eb:=eb) f hl g i 1 _ [(bL M x y).1] rfl rfl (by simp) e.ok (e.all λz d=>j z (W8 _ d)) (e.all λz d=>k z (W8 _ d)) (by have:=e.up;omega) rfl;rw [aX];refine ai ?_;rw [Gr];simp only [ao,↓reduceIte,p,q,h0,and_self,aE,g1,o,k1,bg,bf,Xb,bc,aZ,w];exact d
 generalize u:LO (aX bL M a b).1::df (aX bL M a b).2=r at c;refine ai ?_;rw [Ot];simp only [aE];exact c
theorem RQ{ea eb:Bool}{a b:List Int}(B:a.length=b.length)(hl:a.length<=100):∀(d c:List Int) (i:Nat) (M:Mk) (acc:List Int),a.drop i=d->b.drop i=c->i<=a.length->Ok M->(∀x∈d,In M x)->(∀x∈c,In M x)->M.N.length+2 * d.length<=80000->acc.length=i->
  Or fe [aa ea a,aa eb b,AV.fn 51 [r0] [],o3,I (a.length:Int),I (i:Int)] (rD M acc)=some (T.aa 1 false (enc (acc++ (aX eJ M d c).1))::df (aX eJ M d c).2):=by
 intro d;induction d with
 | nil=>
  intro c i M acc j k v h m n o f;have l:¬(i:Int) < (a.length:Int):=by have:=bu j;omega
  refine ai ?_;rw [Gn];simp only [ao,↓reduceIte,l,bc,aX,XA];rfl
 | cons x d w=>
  intro c i M acc j k v h m n o f;obtain⟨g1,C,r⟩:=bt j;cases c with
  | nil=>exact absurd (bu k) (by omega)
  | cons y c=>
   obtain⟨s,D,t⟩:=bt k;have l:(i:Int) < (a.length:Int):=by omega
   have u:(i:Int) < (b.length:Int):=by omega
   have h0: 0<=(i:Int):=by omega
   have p:=m x W7;have q:=n y W7;rw [Xj] at o;have k1:=z7 h (by omega) p q;obtain⟨g,E⟩:=sc h p q;have A:bH 8 (acc.length+1)=some ():=dc (by omega);have e:=w c (i+1) _ (acc++ [(eJ M x y).1]) r t (by omega) g.ok (g.all λz e=>m z (W8 _ e)) (g.all λz e=>n z (W8 _ e)) (by have:=g.up;omega) (by simp [f]);simp only [XC,XL] at e;rw [aX];refine ai ?_;rw [Gn];simp only [ao,↓reduceIte,l,u,h0,and_self,aE,bR g1,bR s,k1,bg,bf,Xb,bc,aZ,A,next i (by omega),fH];exact e
theorem T9{M:Mk}(h:Ok M){ea eb:Bool}{a b:List Int}(f:a.length=b.length)(hl:a.length<=100)(j:∀x∈a,In M x)(k:∀x∈b,In M x)(s:M.N.length<=70000):
  Or (.call 40) [aa ea a,aa eb b,AV.fn 51 [r0] []] (ef M)=some (LO (aX eJ M a b).1::df (aX eJ M a b).2):=by
 have c:Or fe [aa ea a,aa eb b,AV.fn 51 [r0] [],AV.t (T.aC true),I (a.length:Int),I 0] (ef M)=some (LO (aX eJ M a b).1::df (aX eJ M a b).2):=by
  cases a with
  | nil=>refine ai ?_;rw [Gt];simp only [ao,↓reduceIte,bc,aX,Xu,XN,XS,decide_false];rfl
  | cons x g=>
   cases b with
   | nil=>cases f
   | cons y i=>
    have m:=j x W7;have n:=k y W7;have k1:=z7 h (by omega) m n;obtain⟨e,v⟩:=sc h m n;have p:(0:Int) < (((x::g).length:Nat):Int):=by simp
    have q:(0:Int) < (((y::i).length:Nat):Int):=by simp
    have h0:(0:Int)<=0:=by omega
    have g1:(enc (x::g))[(0:Int).toNat]? =some [ti x]:=rfl;have o:(enc (y::i))[(0:Int).toNat]? =some [ti y]:=rfl;have w:i64.wrap (0+1)= ((1:Nat):Int):=by decide
    have l:=hl;rw [Xj] at l;have d:=RQ (ea:=ea) (eb:=eb) f hl g i 1 _ [(eJ M x y).1] rfl rfl (by simp) e.ok (e.all λz d=>j z (W8 _ d)) (e.all λz d=>k z (W8 _ d)) (by have:=e.up;omega) rfl;rw [aX];refine ai ?_;rw [Gt];simp only [ao,↓reduceIte,p,q,h0,and_self,aE,g1,o,k1,bg,bf,Xb,bc,aZ,w];exact d
 generalize u:LO (aX eJ M a b).1::df (aX eJ M a b).2=r at c;refine ai ?_;rw [Ou];simp only [aE];exact c
open Go Go.Aev Go.IntKind
theorem dK{h:Type}(a b c d e f g:h)(l:List h):(a::b::c::d::e::f::g::l).drop 7=l:=rfl
theorem dL{i:Type}(a b c d e f g h:i)(l:List i):(a::b::c::d::e::f::g::h::l).drop 8=l:=rfl
structure Dc where
 nm:ByteArray
 ea:Bool
 ar:List Int
 so:Int
def aT(l:List Dc):List (List T):=l.map λd=> [T.str d.nm,T.aa 1 d.ea (enc d.ar),ti d.so]
def bd(l:List Nd):List (List T):=l.map λx=> [ti x.op,T.aa 1 x.ek (enc x.ks),ti x.n,ti x.d,T.str x.nm]
def bD(l:List (List Int)):List (List T):=l.map λb=> [LO b]
theorem cR(l:List Dc):(aT l).length=l.length:=by simp [aT]
theorem dV(l:List Nd):(bd l).length=l.length:=by simp [bd]
theorem ql(l:List (List Int)):(bD l).length=l.length:=by simp [bD]
theorem fh{l:List Dc}{i:Nat}{d:Dc}(h:l[i]? =some d):(aT l)[((i:Nat):Int).toNat]? =some [T.str d.nm,T.aa 1 d.ea (enc d.ar),ti d.so]:=by simp [aT,h]
theorem fZ{l:List Nd}{i:Nat}{x:Nd}(h:l[i]? =some x):(bd l)[((i:Nat):Int).toNat]? =some [ti x.op,T.aa 1 x.ek (enc x.ks),ti x.n,ti x.d,T.str x.nm]:=by simp [bd,h]
theorem uQ(a b:ByteArray):(a.toList==b.toList)=decide (a=b):=by
 rw [Go.Lib.toList_data,Go.Lib.toList_data];by_cases h:a=b
 .subst h;simp
 .have:¬a.data.toList=b.data.toList:=λe=>h (by cases a;cases b;simpa using YR e);rw [decide_eq_false h];exact beq_eq_false_iff_ne.2 this
def jM(nm:ByteArray):Nat->List Dc->Int
 | _,[]=> -1
 | i,d::r=>if d.nm=nm then(i:Int) else jM nm (i+1) r
def bp(ds:List Dc)(nm:ByteArray):Int:=jM nm 0 ds
theorem vX(nm:ByteArray):∀(i:Nat) (ds:List Dc), -1<=jM nm i ds/\jM nm i ds < (i:Int)+ds.length+1
 | i,[]=>by simp [jM];omega
 | i,d::r=>by
  rw [jM];split
  .simp;omega
  .have:=vX nm (i+1) r;simp;omega
theorem Sf{e:Bool}{ds:List Dc}{nm:ByteArray}(hl:ds.length<=100):∀(r:List Dc) (i:Nat),ds.drop i=r->
  Or jh [AV.t (T.aa 3 e (aT ds)),AV.fn 78 [] [AV.t (T.ptr [T.str nm])],I (ds.length:Int),I (i:Int)] []=some [ti (jM nm i r)]:=by
 intro r;induction r with
 | nil=>
  intro i g;have b:¬(i:Int) < (ds.length:Int):=by have:=bu g;omega
  refine ai ?_;rw [GP];simp only [ao,↓reduceIte,b,jM]
 | cons d r h=>
  intro i g;obtain⟨g1,j,f⟩:=bt g;have b:(i:Int) < (ds.length:Int):=by omega
  have h0: 0<=(i:Int):=by omega
  have a:Or (.call 78) [AV.agg [AV.t (T.str d.nm),AV.t (T.aa 1 d.ea (enc d.ar)),I d.so],AV.t (T.ptr [T.str nm])] []=some [tb (decide (d.nm=nm))]:=by refine ai ?_;rw [Pt,uQ]
  refine ai ?_;rw [GP,jM];by_cases c:d.nm=nm
  .rw [decide_eq_true c] at a;rw [if_pos c];simp only [ao,↓reduceIte,b,h0,and_self,cR,fh g1,a]
  .rw [decide_eq_false c] at a;rw [if_neg c];simp only [ao,↓reduceIte,b,h0,and_self,cR,fh g1,a,next i (by omega)];exact h (i+1) f
theorem uH{ed en eh:Bool}{ds:List Dc}{ns:List Nd}{hs:List Int}{nm:ByteArray}(hl:ds.length<=100):
  Or (.call 39) [AV.agg [AV.t (T.aa 3 ed (aT ds)),AV.t (T.aa 5 en (bd ns)),AV.t (T.aa 1 eh (enc hs))],AV.t (T.str nm)] []=some [ti (bp ds nm)]:=by
 have k:=Sf (e:=ed) (nm:=nm) hl ds 0 rfl;have a:Or (.call 75) [AV.t (T.aa 3 ed (aT ds)),AV.fn 78 [] [AV.t (T.ptr [T.str nm])]] []=some [ti (bp ds nm)]:=by refine ai ?_;rw [Pq];simp only [cR];exact k
 refine ai ?_;rw [Ol];simp only [ao,a]
structure Cx where
 ed:Bool
 ds:List Dc
 en:Bool
 ns:List Nd
 eh:Bool
 hs:List Int
 p:ByteArray
 es:Bool
 ss:List Int
structure Tr where
 bits:List (List Int)
 to:List Int
theorem kK{c:Cx}{t:Tr}{M:Mk}{x:Nd}{j:Nat}{k:Int}{b:List Int}(e:x.ks[j]? =some k)(l: 0<=k)(a:t.bits[k.toNat]? =some b):
  Or (.call 37) [I (j:Int),r0,r1] [ad.box [Y'2],ad.box [I x.op,aa x.ek x.ks,I x.n,I x.d,AV.t (T.str x.nm)],ad.box [Y'3,AV.t (T.aa 3 c.ed (aT c.ds)),AV.t (T.aa 5 c.en (bd c.ns)),AV.t (T.aa 1 c.eh (enc c.hs)),AV.t (T.str c.p),AV.t (T.aa 1 c.es (enc c.ss)),V'4,V'5],ad.box [V'6,V'7],ad.sl false 1 t.bits.isEmpty (bD t.bits),ad.sl false 1 t.to.isEmpty (enc t.to),ad.rows M.N.isEmpty 5 1 1 M.N.length (rows M.N),ad.mp false [Ck.s] (Ck.i .i64) (cG M.K)]=some [T.aa 1 b.isEmpty (enc b),T.ax,ti x.op,T.aa 1 x.ek (enc x.ks),ti x.n,ti x.d,T.str x.nm,T.ax,T.aa 3 c.ed (aT c.ds),T.aa 5 c.en (bd c.ns),T.aa 1 c.eh (enc c.hs),T.str c.p,T.aa 1 c.es (enc c.ss),T.ax,T.ax,RW M.N,T.ax,T.aa 1 t.bits.isEmpty (bD t.bits),T.aa 1 t.to.isEmpty (enc t.to),EM M.K]:=by
 have f: 0<=(j:Int)/\(j:Int) < (x.ks.length:Int):=by have:=(W9.1 e).1;omega
 have g: 0<=k/\k < (t.bits.length:Int):=by have:=(W9.1 a).1;omega
 have h:(bD t.bits)[k.toNat]? =some [LO b]:=by simp [bD,a]
 refine ai ?_;rw [Oi];simp only [ao,↓reduceIte,aE,ql,f,g,and_self,bR e,h,dm,bc];rfl
def dv(a:Int)(M:Mk)(x y:Int):Int×Mk:=if x=y then(x,M) else dC M 7 s0 0 0 [a,x,y]
theorem C3{a:Int}{M:Mk}(h:Ok M)(d:In M a){x y:Int}(c:In M x)(e:In M y):Up M (dv a M x y).2 1/\In (dv a M x y).2 (dv a M x y).1:=by
 unfold dv;split
 .exact⟨(Up.refl h).mono (by omega),c⟩
 .exact lI h _ _ _ _ _ (λk b=>by simp only [Xl,Yj,or_false] at b;rcases b with rfl | rfl | rfl <;> assumption) (by simp)
theorem Kt{c:Cx}{t:Tr}{M:Mk}{a x y:Int}(b:M.N.length<=100000)(f:In M a)(g:In M x)(j:In M y):
  Or (.call 41) [I x,I y,r0,r1] [ad.box [Y'2],ad.box [I a],ad.box [Y'3,AV.t (T.aa 3 c.ed (aT c.ds)),AV.t (T.aa 5 c.en (bd c.ns)),AV.t (T.aa 1 c.eh (enc c.hs)),AV.t (T.str c.p),AV.t (T.aa 1 c.es (enc c.ss)),V'4,V'5],ad.box [V'6,V'7],ad.sl false 1 t.bits.isEmpty (bD t.bits),ad.sl false 1 t.to.isEmpty (enc t.to),ad.rows M.N.isEmpty 5 1 1 M.N.length (rows M.N),ad.mp false [Ck.s] (Ck.i .i64) (cG M.K)]=some [ti (dv a M x y).1,T.ax,ti a,T.ax,T.aa 3 c.ed (aT c.ds),T.aa 5 c.en (bd c.ns),T.aa 1 c.eh (enc c.hs),T.str c.p,T.aa 1 c.es (enc c.ss),T.ax,T.ax,RW ((dv a M x y).2).N,T.ax,T.aa 1 t.bits.isEmpty (bD t.bits),T.aa 1 t.to.isEmpty (enc t.to),EM ((dv a M x y).2).K]:=by
 have k1:=lM M b 7 s0 0 0 [a,x,y] false rfl (λk e=>by
  simp only [Xl,Yj,or_false] at e;rcases e with rfl | rfl | rfl
  .exact f.i64 b
  .exact g.i64 b
  .exact j.i64 b) (by simp) (by omega) (by omega) (by omega) (by decide)
 replace k1:Or (.call 38) [r0,I 7,AV.t (T.str s0),I 0,I 0,AV.t (T.aa 1 false [[ti a],[ti x],[ti y]])] (ef M)=_:=k1;unfold dv;refine ai ?_;rw [Ov];by_cases h:x=y
 .subst h;simp only [ao,↓reduceIte,bc];rfl
 .have d:(x==y)=false:=by simpa using h
  simp only [ao,↓reduceIte,d,h,k1,bg,bf,Xb,bc];rfl
theorem RM{c:Cx}{t:Tr}{f:Int}{ea eb:Bool}{a b:List Int}(H:a.length=b.length)(hl:a.length<=100):∀(e d:List Int) (i:Nat) (M:Mk) (acc:List Int),a.drop i=e->b.drop i=d->i<=a.length->Ok M->In M f->(∀x∈e,In M x)->(∀x∈d,In M x)->M.N.length+e.length<=80000->acc.length=i->
  Or rA [aa ea a,aa eb b,AV.fn 41 [] [r0,r1],V'8,I (a.length:Int),I (i:Int)] [ad.box [Y'2],ad.box [I f],ad.box [Y'3,AV.t (T.aa 3 c.ed (aT c.ds)),AV.t (T.aa 5 c.en (bd c.ns)),AV.t (T.aa 1 c.eh (enc c.hs)),AV.t (T.str c.p),AV.t (T.aa 1 c.es (enc c.ss)),V'4,V'5],ad.box [V'9,V'7],ad.sl false 1 t.bits.isEmpty (bD t.bits),ad.sl false 1 t.to.isEmpty (enc t.to),ad.dead,ad.mp false [Ck.s] (Ck.i .i64) (cG M.K),ad.sl false 1 false (enc acc),ad.rows M.N.isEmpty 5 1 1 M.N.length (rows M.N)]=some [T.aa 1 false (enc (acc++ (aX (dv f) M e d).1)),T.ax,ti f,T.ax,T.aa 3 c.ed (aT c.ds),T.aa 5 c.en (bd c.ns),T.aa 1 c.eh (enc c.hs),T.str c.p,T.aa 1 c.es (enc c.ss),T.ax,T.ax,RW ((aX (dv f) M e d).2).N,T.ax,T.aa 1 t.bits.isEmpty (bD t.bits),T.aa 1 t.to.isEmpty (enc t.to),EM ((aX (dv f) M e d).2).K]:=by
 intro e;induction e with
 | nil=>
  intro d i M acc m n E h l q r u j;have o:¬(i:Int) < (a.length:Int):=by have:=bu m;omega
  refine ai ?_;rw [Gu];simp only [ao,↓reduceIte,o,bc,aX,XA];rfl
 | cons x e F=>
  intro d i M acc m n E h l q r u j;obtain⟨g1,J,A⟩:=bt m;cases d with
  | nil=>exact absurd (bu n) (by omega)
  | cons y d=>
   obtain⟨B,L,C⟩:=bt n;have o:(i:Int) < (a.length:Int):=by omega
   have D:(i:Int) < (b.length:Int):=by omega
   have h0: 0<=(i:Int):=by omega
   have v:=q x W7;have w:=r y W7;rw [Xj] at u;have k1:=Kt (c:=c) (t:=t) (show M.N.length<=100000 by omega) l v w;obtain⟨k,O⟩:=C3 h l v w;have G:bH 8 (acc.length+1)=some ():=dc (by omega);have g:=F d (i+1) _ (acc++ [(dv f M x y).1]) A C (by omega) k.ok (k.In l) (k.all λz g=>q z (W8 _ g)) (k.all λz g=>r z (W8 _ g)) (by have:=k.up;omega) (by simp [j]);simp only [XC,XL] at g;rw [aX];refine ai ?_;rw [Gu];simp only [ao,↓reduceIte,o,D,h0,and_self,aE,bR g1,bR B,k1,bg,bf,Xb,bc,aZ,dL,G,next i (by omega),fH];exact g
theorem T5{c:Cx}{t:Tr}{d:Int}{M:Mk}(h:Ok M)(k:In M d){ea eb:Bool}{a b:List Int}(j:a.length=b.length)(o: 1<=a.length)(hl:a.length<=100)(n:∀x∈a,In M x)(q:∀x∈b,In M x)(D:M.N.length<=70000):
  Or (.call 40) [aa ea a,aa eb b,AV.fn 41 [] [r0,r1]] [ad.box [Y'2],ad.box [I d],ad.box [Y'3,AV.t (T.aa 3 c.ed (aT c.ds)),AV.t (T.aa 5 c.en (bd c.ns)),AV.t (T.aa 1 c.eh (enc c.hs)),AV.t (T.str c.p),AV.t (T.aa 1 c.es (enc c.ss)),V'4,V'5],ad.box [V'6,V'7],ad.sl false 1 t.bits.isEmpty (bD t.bits),ad.sl false 1 t.to.isEmpty (enc t.to),ad.rows M.N.isEmpty 5 1 1 M.N.length (rows M.N),ad.mp false [Ck.s] (Ck.i .i64) (cG M.K)]=some [T.aa 1 false (enc (aX (dv d) M a b).1),T.ax,ti d,T.ax,T.aa 3 c.ed (aT c.ds),T.aa 5 c.en (bd c.ns),T.aa 1 c.eh (enc c.hs),T.str c.p,T.aa 1 c.es (enc c.ss),T.ax,T.ax,RW ((aX (dv d) M a b).2).N,T.ax,T.aa 1 t.bits.isEmpty (bD t.bits),T.aa 1 t.to.isEmpty (enc t.to),EM ((aX (dv d) M a b).2).K]:=by
 have g:Or rA [aa ea a,aa eb b,AV.fn 41 [] [r0,r1],AV.t (T.aC true),I (a.length:Int),I 0] [ad.box [Y'2],ad.box [I d],ad.box [Y'3,AV.t (T.aa 3 c.ed (aT c.ds)),AV.t (T.aa 5 c.en (bd c.ns)),AV.t (T.aa 1 c.eh (enc c.hs)),AV.t (T.str c.p),AV.t (T.aa 1 c.es (enc c.ss)),V'4,V'5],ad.box [V'6,V'7],ad.sl false 1 t.bits.isEmpty (bD t.bits),ad.sl false 1 t.to.isEmpty (enc t.to),ad.rows M.N.isEmpty 5 1 1 M.N.length (rows M.N),ad.mp false [Ck.s] (Ck.i .i64) (cG M.K)]=some [T.aa 1 false (enc (aX (dv d) M a b).1),T.ax,ti d,T.ax,T.aa 3 c.ed (aT c.ds),T.aa 5 c.en (bd c.ns),T.aa 1 c.eh (enc c.hs),T.str c.p,T.aa 1 c.es (enc c.ss),T.ax,T.ax,RW ((aX (dv d) M a b).2).N,T.ax,T.aa 1 t.bits.isEmpty (bD t.bits),T.aa 1 t.to.isEmpty (enc t.to),EM ((aX (dv d) M a b).2).K]:=by
  cases a with
  | nil=>simp at o
  | cons x l=>
   cases b with
   | nil=>cases j
   | cons y m=>
    have u:=n x W7;have v:=q y W7;have k1:=Kt (c:=c) (t:=t) (show M.N.length<=100000 by omega) k u v;obtain⟨f,E⟩:=C3 h k u v;have B:(0:Int) < (((x::l).length:Nat):Int):=by simp
    have C:(0:Int) < (((y::m).length:Nat):Int):=by simp
    have h0:(0:Int)<=0:=by omega
    have g1:(enc (x::l))[(0:Int).toNat]? =some [ti x]:=rfl;have A:(enc (y::m))[(0:Int).toNat]? =some [ti y]:=rfl;have w:i64.wrap (0+1)= ((1:Nat):Int):=by decide
    have r:=hl;rw [Xj] at r;have e:=RM (c:=c) (t:=t) (ea:=ea) (eb:=eb) j hl l m 1 _ [(dv d M x y).1] rfl rfl (by simp) f.ok (f.In k) (f.all λz e=>n z (W8 _ e)) (f.all λz e=>q z (W8 _ e)) (by have:=f.up;omega) rfl;rw [aX];refine ai ?_;rw [On];simp only [ao,↓reduceIte,B,C,h0,and_self,aE,g1,A,k1,bg,bf,Xb,bc,aZ,dL,w];exact e
 refine ai ?_;rw [Om];simp only [aE];exact g
open Go Go.Aev Go.IntKind
def aG(s:Int):Bool:=decide (10 < s) && decide (s<=18)
theorem iB(n:Int):Or (.call 17) [I n] []=some [tb (aG n)]:=by
 refine ai ?_;rw [NC];unfold aG;by_cases h: 10 < n
 .have:n > 10:=h;simp only [ao,h,decide_true]
 .have:¬n > 10:=h;simp only [ao,h,decide_false]
def aJ(t:Tr)(k:Int):List Int:=t.bits.getD k.toNat []
def br(t:Tr)(k:Int):Int:=t.to.getD k.toNat 0
structure cJ (c:Cx) (t:Tr) (M:Mk) (i:Nat):Prop where
 ok:Ok M
 bl:t.bits.length=i
 tl:t.to.length=i
 w:∀(k:Nat) (s:Int),k < i->c.ss[k]? =some s->aG s=true->∃b,t.bits[k]? =some b/\(b.length:Int)=s - 10/\∀x∈b,In M x
 p:∀(k:Nat) (s:Int),k < i->c.ss[k]? =some s->aG s=false->t.bits[k]? =some []/\∃v,t.to[k]? =some v/\In M v
theorem cJ.up{c:Cx}{t:Tr}{M j:Mk}{i n:Nat}(h:cJ c t M i)(u:Up M j n):cJ c t j i:=
 ⟨u.ok,h.bl,h.tl,λk s f hs g=>by obtain⟨b,a,d,e⟩:=h.w k s f hs g;exact⟨b,a,d,u.all e⟩,
  λk s f hs g=>by obtain⟨a,v,d,e⟩:=h.p k s f hs g;exact⟨a,v,d,u.In e⟩⟩
structure KW (c:Cx) (i:Nat) (k:Int) (s:Int):Prop where
 h0: 0<=k
 lt:k < (i:Int)
 so:c.ss[k.toNat]? =some s
theorem KW.word{c:Cx}{t:Tr}{M:Mk}{i:Nat}{k s:Int}(h:KW c i k s)(g:cJ c t M i)(j:aG s=true):
  t.bits[k.toNat]? =some (aJ t k)/\((aJ t k).length:Int)=s - 10/\∀x∈aJ t k,In M x:=by
 obtain⟨b,a,d,f⟩:=g.w k.toNat s (by have:=h.h0;have:=h.lt;omega) h.so j;have e:aJ t k=b:=by unfold aJ;rw [Xa,a];rfl
 rw [e];exact⟨a,d,f⟩
theorem KW.plain{c:Cx}{t:Tr}{M:Mk}{i:Nat}{k s:Int}(h:KW c i k s)(f:cJ c t M i)(g:aG s=false):
  t.bits[k.toNat]? =some []/\t.to[k.toNat]? =some (br t k)/\In M (br t k):=by
 obtain⟨b,v,a,d⟩:=f.p k.toNat s (by have:=h.h0;have:=h.lt;omega) h.so g;have e:br t k=v:=by unfold br;rw [Xa,a];rfl
 rw [e];exact⟨b,a,d⟩
theorem gP{s:Int}(h:aG s=true): 1<=s - 10/\s - 10<=8:=by unfold aG at h;simp only [Xf,decide_eq_true_eq] at h;omega
def dE(M:Mk)(pre:ByteArray)(kids:List Int):Nat->Nat->List Int×Mk
 | _,0=>([],M)
 | b,k+1=>((dC M 9 (pre++it (b:Int)) 0 0 kids).1:: (dE (dC M 9 (pre++it (b:Int)) 0 0 kids).2 pre kids (b+1) k).1,(dE (dC M 9 (pre++it (b:Int)) 0 0 kids).2 pre kids (b+1) k).2)
theorem I3{pre:ByteArray}{kids:List Int}:∀{k b:Nat} {M:Mk},Ok M->(∀x∈kids,In M x)->kids.length<=1000->
  Up M (dE M pre kids b k).2 k/\(∀x∈(dE M pre kids b k).1,In (dE M pre kids b k).2 x)/\(dE M pre kids b k).1.length=k
 | 0,b,M,h,_,_=>⟨Up.refl h,λx j=>(by cases j),rfl⟩
 | k+1,b,M,h,e,hl=>by
  obtain⟨a,f⟩:=lI h 9 (pre++it (b:Int)) 0 0 kids e (by simp) hl;obtain⟨d,g,i⟩:=I3 (k:=k) (b:=b+1) a.ok (a.all e) hl;refine⟨(a.trans d).mono (by omega),λz c=> ?_,by simp [dE,i]⟩;rcases Xl.1 c with rfl | c
  .exact d.In f
  .exact g z c
theorem Rk{c:Cx}{t:Tr}{x:Nd}{w:Nat}{kids:List Int}{e:Bool}(B:e=kids.isEmpty)(m:c.ds.length<=100)(G:c.p.size<=100)(H:w<=100)(F:kids.length<=100):∀(k b:Nat) (M:Mk) (acc:List Int),b+k=w->Ok M->(∀y∈kids,In M y)->M.N.length+k<=60000->acc.length=b->
  Or jA [Y'6,Y'7,V'8,aa e kids,I (w:Int),I (b:Int)] [ad.box [Y'1,AV.t (T.aa 3 c.ed (aT c.ds)),AV.t (T.aa 5 c.en (bd c.ns)),AV.t (T.aa 1 c.eh (enc c.hs)),AV.t (T.str c.p),AV.t (T.aa 1 c.es (enc c.ss)),V'2,V'3],ad.box [V'9,V'5],ad.sl false 1 t.bits.isEmpty (bD t.bits),ad.sl false 1 t.to.isEmpty (enc t.to),ad.dead,ad.mp false [Ck.s] (Ck.i .i64) (cG M.K),ad.box [r0],ad.box [I x.op,aa x.ek x.ks,I x.n,I x.d,AV.t (T.str x.nm)],ad.sl false 1 false (enc acc),ad.rows M.N.isEmpty 5 1 1 M.N.length (rows M.N)]=
   some [T.aa 1 false (enc (acc++ (dE M (c.p++it (bp c.ds x.nm)++us) kids b k).1)),T.ax,T.aa 3 c.ed (aT c.ds),T.aa 5 c.en (bd c.ns),T.aa 1 c.eh (enc c.hs),T.str c.p,T.aa 1 c.es (enc c.ss),T.ax,T.ax,RW ((dE M (c.p++it (bp c.ds x.nm)++us) kids b k).2).N,T.ax,T.aa 1 t.bits.isEmpty (bD t.bits),T.aa 1 t.to.isEmpty (enc t.to),EM ((dE M (c.p++it (bp c.ds x.nm)++us) kids b k).2).K]:=by
 have r:=uH (ed:=c.ed) (en:=c.en) (eh:=c.eh) (ns:=c.ns) (hs:=c.hs) (nm:=x.nm) m;have o:fx (bp c.ds x.nm):=by have:=vX x.nm 0 c.ds;unfold bp;constructor <;> omega
 have L:=jP o;intro k;induction k with
 | zero=>
  intro b M acc A h f z a;have j:¬(b:Int) < (w:Int):=by omega
  refine ai ?_;rw [FY];simp only [ao,↓reduceIte,j,bc,dE,XA];rfl
 | succ k D=>
  intro b M acc A h f z a;have j:(b:Int) < (w:Int):=by omega
  have g:fx (b:Int):=⟨by omega,by omega⟩;have O:=jP g;have u:c.p.size+ (it (bp c.ds x.nm)).size<=4294967296:=by omega
  have v:(c.p++it (bp c.ds x.nm)).size+1<=4294967296:=by rw [Xy];omega
  have c3:(c.p++it (bp c.ds x.nm)++us).size+ (it (b:Int)).size<=4294967296:=by simp only [Xy,ig];omega
  have k1:=lM M (show M.N.length<=100000 by omega) 9 (c.p++it (bp c.ds x.nm)++us++it (b:Int)) 0 0 kids e B (λy C=>(f y C).i64 (by omega)) (by omega) (by omega) (by omega) (by omega) (by simp only [Xy,ig];omega);obtain⟨l,J⟩:=lI h 9 (c.p++it (bp c.ds x.nm)++us++it (b:Int)) 0 0 kids f (by simp) (by omega);have E:bH 8 (acc.length+1)=some ():=dc (by omega);have q:=D (b+1) _ (acc++ [(dC M 9 (c.p++it (bp c.ds x.nm)++us++it (b:Int)) 0 0 kids).1]) (by omega) l.ok (l.all f) (by have:=l.up;omega) (by simp [a]);simp only [XC,XL] at q;rw [dE];refine ai ?_;rw [FY];simp only [ao,↓reduceIte,j,r,jV o,jV g,u,v,c3,k1,aE,E,next b (by omega),fH,bg,bf,Xb,bc,aZ];exact q
theorem Rl{c:Cx}{t:Tr}{x:Nd}{w:Nat}(j:c.ds.length<=100)(C:c.p.size<=100)(D:w<=100):∀(k b:Nat) (M:Mk) (acc:List Int),b+k=w->Ok M->M.N.length+k<=60000->acc.length=b->
  Or jA [Y'6,Y'7,V'8,AV.t (T.aC true),I (w:Int),I (b:Int)] [ad.box [Y'1,AV.t (T.aa 3 c.ed (aT c.ds)),AV.t (T.aa 5 c.en (bd c.ns)),AV.t (T.aa 1 c.eh (enc c.hs)),AV.t (T.str c.p),AV.t (T.aa 1 c.es (enc c.ss)),V'2,V'3],ad.box [V'9,V'5],ad.sl false 1 t.bits.isEmpty (bD t.bits),ad.sl false 1 t.to.isEmpty (enc t.to),ad.dead,ad.mp false [Ck.s] (Ck.i .i64) (cG M.K),ad.box [r0],ad.box [I x.op,aa x.ek x.ks,I x.n,I x.d,AV.t (T.str x.nm)],ad.sl false 1 false (enc acc),ad.rows M.N.isEmpty 5 1 1 M.N.length (rows M.N)]=
   some [T.aa 1 false (enc (acc++ (dE M (c.p++it (bp c.ds x.nm)++us) [] b k).1)),T.ax,T.aa 3 c.ed (aT c.ds),T.aa 5 c.en (bd c.ns),T.aa 1 c.eh (enc c.hs),T.str c.p,T.aa 1 c.es (enc c.ss),T.ax,T.ax,RW ((dE M (c.p++it (bp c.ds x.nm)++us) [] b k).2).N,T.ax,T.aa 1 t.bits.isEmpty (bD t.bits),T.aa 1 t.to.isEmpty (enc t.to),EM ((dE M (c.p++it (bp c.ds x.nm)++us) [] b k).2).K]:=by
 have o:=uH (ed:=c.ed) (en:=c.en) (eh:=c.eh) (ns:=c.ns) (hs:=c.hs) (nm:=x.nm) j;have l:fx (bp c.ds x.nm):=by have:=vX x.nm 0 c.ds;unfold bp;constructor <;> omega
 have F:=jP l;intro k;induction k with
 | zero=>
  intro b M acc z h v a;have f:¬(b:Int) < (w:Int):=by omega
  refine ai ?_;rw [FX];simp only [ao,↓reduceIte,f,bc,dE,XA];rfl
 | succ k A=>
  intro b M acc z h v a;have f:(b:Int) < (w:Int):=by omega
  have e:fx (b:Int):=⟨by omega,by omega⟩;have G:=jP e;have r:c.p.size+ (it (bp c.ds x.nm)).size<=4294967296:=by omega
  have u:(c.p++it (bp c.ds x.nm)).size+1<=4294967296:=by rw [Xy];omega
  have c3:(c.p++it (bp c.ds x.nm)++us).size+ (it (b:Int)).size<=4294967296:=by simp only [Xy,ig];omega
  have k1:=lM M (show M.N.length<=100000 by omega) 9 (c.p++it (bp c.ds x.nm)++us++it (b:Int)) 0 0 [] true rfl (λy g=>by cases g) (by simp) (by omega) (by omega) (by omega) (by simp only [Xy,ig];omega);replace k1:Or (.call 38) [r0,I 9,AV.t (T.str (c.p++it (bp c.ds x.nm)++us++it (b:Int))),I 0,I 0,AV.t (T.aa 1 true [])] (ef M)=_:=k1;obtain⟨q,E⟩:=lI h 9 (c.p++it (bp c.ds x.nm)++us++it (b:Int)) 0 0 [] (λy g=>by cases g) (by simp);have B:bH 8 (acc.length+1)=some ():=dc (by omega);have m:=A (b+1) _ (acc++ [(dC M 9 (c.p++it (bp c.ds x.nm)++us++it (b:Int)) 0 0 []).1]) (by omega) q.ok (by have:=q.up;omega) (by simp [a]);simp only [XC,XL] at m;rw [dE];refine ai ?_;rw [FX];simp only [ao,↓reduceIte,f,o,jV l,jV e,r,u,c3,k1,aE,B,next b (by omega),fH,bg,bf,Xb,bc,aZ];exact m
theorem Rm{c:Cx}{t:Tr}{M:Mk}{x:Nd}{w:Nat}{kids:List Int}(o:kids≠[])(b:c.ds.length<=100)(z:c.p.size<=100)(E: 1<=w)(A:w<=100)(m:kids.length<=100)(h:Ok M)(g:∀y∈kids,In M y)(F:M.N.length<=50000):
  Or jA [Y'6,Y'7,AV.t (T.aC true),V'8,I (w:Int),I 0] [ad.box [Y'1,AV.t (T.aa 3 c.ed (aT c.ds)),AV.t (T.aa 5 c.en (bd c.ns)),AV.t (T.aa 1 c.eh (enc c.hs)),AV.t (T.str c.p),AV.t (T.aa 1 c.es (enc c.ss)),V'2,V'3],ad.box [V'4,V'5],ad.sl false 1 t.bits.isEmpty (bD t.bits),ad.sl false 1 t.to.isEmpty (enc t.to),ad.rows M.N.isEmpty 5 1 1 M.N.length (rows M.N),ad.mp false [Ck.s] (Ck.i .i64) (cG M.K),ad.box [r0],ad.box [I x.op,aa x.ek x.ks,I x.n,I x.d,AV.t (T.str x.nm)],ad.sl false 1 false (enc kids)]=
   some [T.aa 1 false (enc (dE M (c.p++it (bp c.ds x.nm)++us) kids 0 w).1),T.ax,T.aa 3 c.ed (aT c.ds),T.aa 5 c.en (bd c.ns),T.aa 1 c.eh (enc c.hs),T.str c.p,T.aa 1 c.es (enc c.ss),T.ax,T.ax,RW ((dE M (c.p++it (bp c.ds x.nm)++us) kids 0 w).2).N,T.ax,T.aa 1 t.bits.isEmpty (bD t.bits),T.aa 1 t.to.isEmpty (enc t.to),EM ((dE M (c.p++it (bp c.ds x.nm)++us) kids 0 w).2).K]:=by
 have q:=uH (ed:=c.ed) (en:=c.en) (eh:=c.eh) (ns:=c.ns) (hs:=c.hs) (nm:=x.nm) b;have l:fx (bp c.ds x.nm):=by have:=vX x.nm 0 c.ds;unfold bp;constructor <;> omega
 have H:=jP l;obtain⟨k,rfl⟩:∃k,w=k+1:=⟨w - 1,by omega⟩;have v:(0:Int) < ((k+1:Nat):Int):=by omega
 have a:fx (0:Int):=⟨by omega,by omega⟩;have J:=jP a;have r:c.p.size+ (it (bp c.ds x.nm)).size<=4294967296:=by omega
 have u:(c.p++it (bp c.ds x.nm)).size+1<=4294967296:=by rw [Xy];omega
 have c3:(c.p++it (bp c.ds x.nm)++us).size+ (it (0:Int)).size<=4294967296:=by simp only [Xy,ig];omega
 have f:false=kids.isEmpty:=by cases kids with
  | nil=>exact absurd rfl o
  | cons=>rfl
 have k1:=lM M (show M.N.length<=100000 by omega) 9 (c.p++it (bp c.ds x.nm)++us++it (0:Int)) 0 0 kids false f (λy B=>(g y B).i64 (by omega)) (by omega) (by omega) (by omega) (by omega) (by simp only [Xy,ig];omega);obtain⟨j,G⟩:=lI h 9 (c.p++it (bp c.ds x.nm)++us++it (0:Int)) 0 0 kids g (by simp) (by omega);have D:i64.wrap (0+1)= ((1:Nat):Int):=by decide
 have C:=Rk (t:=t) (x:=x) (w:=k+1) (e:=false) f b z A m k 1 _ [(dC M 9 (c.p++it (bp c.ds x.nm)++us++it (0:Int)) 0 0 kids).1] (by omega) j.ok (j.all g) (by have:=j.up;omega) rfl;rw [dE];refine ai ?_;rw [NN];simp only [ao,↓reduceIte,v,q,jV l,jV a,r,u,c3,k1,D,bg,bf,Xb,bc,aZ];exact C
theorem Rn{c:Cx}{t:Tr}{M:Mk}{x:Nd}{w:Nat}(b:c.ds.length<=100)(q:c.p.size<=100)(z: 1<=w)(r:w<=100)(h:Ok M)(A:M.N.length<=50000):
  Or jA [Y'6,Y'7,AV.t (T.aC true),AV.t (T.aC true),I (w:Int),I 0] [ad.box [Y'1,AV.t (T.aa 3 c.ed (aT c.ds)),AV.t (T.aa 5 c.en (bd c.ns)),AV.t (T.aa 1 c.eh (enc c.hs)),AV.t (T.str c.p),AV.t (T.aa 1 c.es (enc c.ss)),V'2,V'3],ad.box [V'4,V'5],ad.sl false 1 t.bits.isEmpty (bD t.bits),ad.sl false 1 t.to.isEmpty (enc t.to),ad.rows M.N.isEmpty 5 1 1 M.N.length (rows M.N),ad.mp false [Ck.s] (Ck.i .i64) (cG M.K),ad.box [r0],ad.box [I x.op,aa x.ek x.ks,I x.n,I x.d,AV.t (T.str x.nm)]]=
   some [T.aa 1 false (enc (dE M (c.p++it (bp c.ds x.nm)++us) [] 0 w).1),T.ax,T.aa 3 c.ed (aT c.ds),T.aa 5 c.en (bd c.ns),T.aa 1 c.eh (enc c.hs),T.str c.p,T.aa 1 c.es (enc c.ss),T.ax,T.ax,RW ((dE M (c.p++it (bp c.ds x.nm)++us) [] 0 w).2).N,T.ax,T.aa 1 t.bits.isEmpty (bD t.bits),T.aa 1 t.to.isEmpty (enc t.to),EM ((dE M (c.p++it (bp c.ds x.nm)++us) [] 0 w).2).K]:=by
 have g:=uH (ed:=c.ed) (en:=c.en) (eh:=c.eh) (ns:=c.ns) (hs:=c.hs) (nm:=x.nm) b;have f:fx (bp c.ds x.nm):=by have:=vX x.nm 0 c.ds;unfold bp;constructor <;> omega
 have C:=jP f;obtain⟨k,rfl⟩:∃k,w=k+1:=⟨w - 1,by omega⟩;have o:(0:Int) < ((k+1:Nat):Int):=by omega
 have a:fx (0:Int):=⟨by omega,by omega⟩;have D:=jP a;have l:c.p.size+ (it (bp c.ds x.nm)).size<=4294967296:=by omega
 have m:(c.p++it (bp c.ds x.nm)).size+1<=4294967296:=by rw [Xy];omega
 have c3:(c.p++it (bp c.ds x.nm)++us).size+ (it (0:Int)).size<=4294967296:=by simp only [Xy,ig];omega
 have k1:=lM M (show M.N.length<=100000 by omega) 9 (c.p++it (bp c.ds x.nm)++us++it (0:Int)) 0 0 [] true rfl (λy e=>by cases e) (by simp) (by omega) (by omega) (by omega) (by simp only [Xy,ig];omega);replace k1:Or (.call 38) [r0,I 9,AV.t (T.str (c.p++it (bp c.ds x.nm)++us++it (0:Int))),I 0,I 0,AV.t (T.aa 1 true [])] (ef M)=_:=k1;obtain⟨j,B⟩:=lI h 9 (c.p++it (bp c.ds x.nm)++us++it (0:Int)) 0 0 [] (λy e=>by cases e) (by simp);have v:i64.wrap (0+1)= ((1:Nat):Int):=by decide
 have u:=Rl (t:=t) (x:=x) (w:=k+1) b q r k 1 _ [(dC M 9 (c.p++it (bp c.ds x.nm)++us++it (0:Int)) 0 0 []).1] (by omega) j.ok (by have:=j.up;omega) rfl;rw [dE];refine ai ?_;rw [NM];simp only [ao,↓reduceIte,o,g,jV f,jV a,l,m,c3,k1,v,bg,bf,Xb,bc,aZ];exact u
theorem Rp{c:Cx}{t:Tr}{M:Mk}{x:Nd}{i w:Nat}{s:Int}(hs:c.ss[i]? =some s)(q:s - 10= (w:Int))(B:w<=100)(A:x.ks.length<=100)(h:∀k∈x.ks,0<=k/\t.to[k.toNat]? =some (br t k)){r:List T}:∀(e:List Int) (j:Nat) (acc:List Int),x.ks.drop j=e->j<=x.ks.length->acc.length=j->
  Or jA [Y'6,Y'7,AV.t (T.aC true),V'8,I (w:Int),I 0] [ad.box [Y'1,AV.t (T.aa 3 c.ed (aT c.ds)),AV.t (T.aa 5 c.en (bd c.ns)),AV.t (T.aa 1 c.eh (enc c.hs)),AV.t (T.str c.p),AV.t (T.aa 1 c.es (enc c.ss)),V'2,V'3],ad.box [V'4,V'5],ad.sl false 1 t.bits.isEmpty (bD t.bits),ad.sl false 1 t.to.isEmpty (enc t.to),ad.rows M.N.isEmpty 5 1 1 M.N.length (rows M.N),ad.mp false [Ck.s] (Ck.i .i64) (cG M.K),ad.box [r0],ad.box [I x.op,aa x.ek x.ks,I x.n,I x.d,AV.t (T.str x.nm)],ad.sl false 1 false (enc (acc++e.map (br t)))]=some r->
  Or ru [I (i:Int),Y'6,Y'7,AV.t (T.aC true),V'8,aa x.ek x.ks,I (x.ks.length:Int),I (j:Int)] [ad.box [Y'1,AV.t (T.aa 3 c.ed (aT c.ds)),AV.t (T.aa 5 c.en (bd c.ns)),AV.t (T.aa 1 c.eh (enc c.hs)),AV.t (T.str c.p),AV.t (T.aa 1 c.es (enc c.ss)),V'2,V'3],ad.box [V'4,V'5],ad.sl false 1 t.bits.isEmpty (bD t.bits),ad.sl false 1 t.to.isEmpty (enc t.to),ad.rows M.N.isEmpty 5 1 1 M.N.length (rows M.N),ad.mp false [Ck.s] (Ck.i .i64) (cG M.K),ad.box [r0],ad.box [I x.op,aa x.ek x.ks,I x.n,I x.d,AV.t (T.str x.nm)],ad.sl false 1 false (enc acc)]=some r:=by
 intro e;induction e with
 | nil=>
  intro j acc g o a b;have f:¬(j:Int) < (x.ks.length:Int):=by have:=bu g;omega
  have m: 0<=(i:Int)/\(i:Int) < (c.ss.length:Int):=by have:=(W9.1 hs).1;omega
  have z:i64.wrap (s - 10)= (w:Int):=by rw [q,wr (by omega)]
  rw [XY,XA] at b;refine ai ?_;rw [F2];simp only [ao,↓reduceIte,f,m,and_self,aE,bR hs,z];exact b
 | cons k e v=>
  intro j acc g o a b;obtain⟨g1,C,l⟩:=bt g;have f:(j:Int) < (x.ks.length:Int):=by omega
  have h0: 0<=(j:Int):=by omega
  obtain⟨D,k1⟩:=h k (Xg g1);have k2: 0<=k/\k < (t.to.length:Int):=by have:=(W9.1 k1).1;omega
  have y:bH 8 (acc.length+1)=some ():=dc (by omega);have u:=v (j+1) (acc++ [br t k]) l (by omega) (by simp [a]) (by
   rw [Xq] at b;simpa only [XC,XL] using b)
  refine ai ?_;rw [F2];simp only [ao,↓reduceIte,f,h0,and_self,aE,bR g1,k2,fP k1,y,next j (by omega),fH];exact u
theorem TL{c:Cx}{t:Tr}{M:Mk}{x:Nd}{i:Nat}{s:Int}(C:c.ns[i]? =some x)(hs:c.ss[i]? =some s)(m:x.op=9)(F:aG s=true)(g:cJ c t M i)(h:c.ds.length<=100)(A:c.p.size<=100)(l:x.ks.length<=100)(v:∀k∈x.ks,∃s',KW c i k s'/\aG s'=false)(L:M.N.length<=40000):
  Or (.call 18) [r0,I (i:Int)] [ad.box [Y'1,AV.t (T.aa 3 c.ed (aT c.ds)),AV.t (T.aa 5 c.en (bd c.ns)),AV.t (T.aa 1 c.eh (enc c.hs)),AV.t (T.str c.p),AV.t (T.aa 1 c.es (enc c.ss)),V'2,V'3],ad.box [V'4,V'5],ad.sl false 1 t.bits.isEmpty (bD t.bits),ad.sl false 1 t.to.isEmpty (enc t.to),ad.rows M.N.isEmpty 5 1 1 M.N.length (rows M.N),ad.mp false [Ck.s] (Ck.i .i64) (cG M.K)]=some [T.aa 1 false (enc (dE M (c.p++it (bp c.ds x.nm)++us) (x.ks.map (br t)) 0 (s - 10).toNat).1),T.ax,T.aa 3 c.ed (aT c.ds),T.aa 5 c.en (bd c.ns),T.aa 1 c.eh (enc c.hs),T.str c.p,T.aa 1 c.es (enc c.ss),T.ax,T.ax,RW ((dE M (c.p++it (bp c.ds x.nm)++us) (x.ks.map (br t)) 0 (s - 10).toNat).2).N,T.ax,T.aa 1 t.bits.isEmpty (bD t.bits),T.aa 1 t.to.isEmpty (enc t.to),EM ((dE M (c.p++it (bp c.ds x.nm)++us) (x.ks.map (br t)) 0 (s - 10).toNat).2).K]:=by
 have hl:=gP F;have D: 0<=(i:Int)/\(i:Int) < (c.ns.length:Int):=by have:=(W9.1 C).1;omega
 have E: 0<=(i:Int)/\(i:Int) < (c.ss.length:Int):=by have:=(W9.1 hs).1;omega
 have B:s - 10= ((s - 10).toNat:Int):=by omega
 have j:∀k∈x.ks,0<=k/\t.to[k.toNat]? =some (br t k):=λk hm=>by obtain⟨s',e,q⟩:=v k hm;exact⟨e.h0,(e.plain g q).2.1⟩
 have r:∀y∈x.ks.map (br t),In M y:=λy G=>by obtain⟨k,hm,rfl⟩:=XB.1 G;obtain⟨s',e,q⟩:=v k hm;exact(e.plain g q).2.2
 have b:Or ru [I (i:Int),Y'6,Y'7,AV.t (T.aC true),AV.t (T.aC true),aa x.ek x.ks,I (x.ks.length:Int),I 0] [ad.box [Y'1,AV.t (T.aa 3 c.ed (aT c.ds)),AV.t (T.aa 5 c.en (bd c.ns)),AV.t (T.aa 1 c.eh (enc c.hs)),AV.t (T.str c.p),AV.t (T.aa 1 c.es (enc c.ss)),V'2,V'3],ad.box [V'4,V'5],ad.sl false 1 t.bits.isEmpty (bD t.bits),ad.sl false 1 t.to.isEmpty (enc t.to),ad.rows M.N.isEmpty 5 1 1 M.N.length (rows M.N),ad.mp false [Ck.s] (Ck.i .i64) (cG M.K),ad.box [r0],ad.box [I x.op,aa x.ek x.ks,I x.n,I x.d,AV.t (T.str x.nm)]]=
   some [T.aa 1 false (enc (dE M (c.p++it (bp c.ds x.nm)++us) (x.ks.map (br t)) 0 (s - 10).toNat).1),T.ax,T.aa 3 c.ed (aT c.ds),T.aa 5 c.en (bd c.ns),T.aa 1 c.eh (enc c.hs),T.str c.p,T.aa 1 c.es (enc c.ss),T.ax,T.ax,RW ((dE M (c.p++it (bp c.ds x.nm)++us) (x.ks.map (br t)) 0 (s - 10).toNat).2).N,T.ax,T.aa 1 t.bits.isEmpty (bD t.bits),T.aa 1 t.to.isEmpty (enc t.to),EM ((dE M (c.p++it (bp c.ds x.nm)++us) (x.ks.map (br t)) 0 (s - 10).toNat).2).K]:=by
  cases a:x.ks with
  | nil=>
   have f:=Rn (c:=c) (t:=t) (M:=M) (x:=x) (w:=(s - 10).toNat) h A (by omega) (by omega) g.ok (by omega);have J:i64.wrap (s - 10)= ((s - 10).toNat:Int):=by rw [wr (by omega)];omega
   rw [a] at f;refine ai ?_;rw [F1];simp only [ao,↓reduceIte,Xu,XN,XS,decide_false,E,and_self,aE,bR hs,J];exact f
  | cons k u=>
   have z:x.ks.map (br t)≠[]:=by rw [a];simp
   have f:=Rm (c:=c) (t:=t) (M:=M) (x:=x) (w:=(s - 10).toNat) z h A (by omega) (by omega) (by simpa using l) g.ok r (by omega);obtain⟨O,k1⟩:=j k (by rw [a];exact W7);have k2: 0<=k/\k < (t.to.length:Int):=by have:=(W9.1 k1).1;omega
   have o:=Rp (c:=c) (t:=t) (M:=M) (x:=x) hs B (by omega) l j u 1 [br t k] (by rw [a];rfl) (by rw [a];simp) rfl (by
    rw [a] at f⊢;exact f)
   have e:(0:Int) < (((k::u).length:Nat):Int):=by simp
   have h0:(0:Int)<=0:=by omega
   have g1:(enc (k::u))[(0:Int).toNat]? =some [ti k]:=rfl;have H:i64.wrap (0+1)= ((1:Nat):Int):=by decide
   rw [a] at o;refine ai ?_;rw [F1];simp only [ao,↓reduceIte,e,h0,and_self,aE,g1,k2,fP k1,H];exact o
 refine ai ?_;rw [nL];simp (maxSteps:=1000000) only [ao,↓reduceIte,D,and_self,dV,fZ C,m,aE];rw [m] at b;exact b
theorem TE{c:Cx}{t:Tr}{M:Mk}{x:Nd}{i:Nat}{s:Int}(m:c.ns[i]? =some x)(g:x.op=17){k1 k2:Int}(f:x.ks= [k1,k2])(n:KW c i k1 s)(o:KW c i k2 s)(l:aG s=true)(h:cJ c t M i)(B:M.N.length<=40000):
  Or (.call 18) [r0,I (i:Int)] [ad.box [Y'1,AV.t (T.aa 3 c.ed (aT c.ds)),AV.t (T.aa 5 c.en (bd c.ns)),AV.t (T.aa 1 c.eh (enc c.hs)),AV.t (T.str c.p),AV.t (T.aa 1 c.es (enc c.ss)),V'2,V'3],ad.box [V'4,V'5],ad.sl false 1 t.bits.isEmpty (bD t.bits),ad.sl false 1 t.to.isEmpty (enc t.to),ad.rows M.N.isEmpty 5 1 1 M.N.length (rows M.N),ad.mp false [Ck.s] (Ck.i .i64) (cG M.K)]=some [T.aa 1 (aX cE M (aJ t k1) (aJ t k2)).1.isEmpty (enc (aX cE M (aJ t k1) (aJ t k2)).1),T.ax,T.aa 3 c.ed (aT c.ds),T.aa 5 c.en (bd c.ns),T.aa 1 c.eh (enc c.hs),T.str c.p,T.aa 1 c.es (enc c.ss),T.ax,T.ax,RW ((aX cE M (aJ t k1) (aJ t k2)).2).N,T.ax,T.aa 1 t.bits.isEmpty (bD t.bits),T.aa 1 t.to.isEmpty (enc t.to),EM ((aX cE M (aJ t k1) (aJ t k2)).2).K]:=by
 have hl:=gP l;have w: 0<=(i:Int)/\(i:Int) < (c.ns.length:Int):=by have:=(W9.1 m).1;omega
 obtain⟨q,z,r⟩:=n.word h l;obtain⟨u,A,v⟩:=o.word h l;have d:=kK (c:=c) (t:=t) (M:=M) (x:=x) (j:=0) (k:=k1) (by rw [f];rfl) n.h0 q;have e:=kK (c:=c) (t:=t) (M:=M) (x:=x) (j:=1) (k:=k2) (by rw [f];rfl) o.h0 u;rw [g] at d e;replace d:Or (.call 37) [I 0,r0,r1] _=_:=d;replace e:Or (.call 37) [I 1,r0,r1] _=_:=e;have y:=T6 h.ok (ea:=(aJ t k1).isEmpty) (eb:=(aJ t k2).isEmpty) (a:=aJ t k1) (b:=aJ t k2) (by omega) (by omega) r v (by omega);refine ai ?_;rw [nL];simp (maxSteps:=1000000) only [ao,↓reduceIte,Int.reduceEq,w,and_self,dV,fZ m,g,d,e,y,bg,bf,Xb,bc,aZ,dL,dm];rfl
theorem TF{c:Cx}{t:Tr}{M:Mk}{x:Nd}{i:Nat}{s:Int}(m:c.ns[i]? =some x)(g:x.op=18){k1 k2:Int}(f:x.ks= [k1,k2])(n:KW c i k1 s)(o:KW c i k2 s)(l:aG s=true)(h:cJ c t M i)(B:M.N.length<=40000):
  Or (.call 18) [r0,I (i:Int)] [ad.box [Y'1,AV.t (T.aa 3 c.ed (aT c.ds)),AV.t (T.aa 5 c.en (bd c.ns)),AV.t (T.aa 1 c.eh (enc c.hs)),AV.t (T.str c.p),AV.t (T.aa 1 c.es (enc c.ss)),V'2,V'3],ad.box [V'4,V'5],ad.sl false 1 t.bits.isEmpty (bD t.bits),ad.sl false 1 t.to.isEmpty (enc t.to),ad.rows M.N.isEmpty 5 1 1 M.N.length (rows M.N),ad.mp false [Ck.s] (Ck.i .i64) (cG M.K)]=some [T.aa 1 (aX eZ M (aJ t k1) (aJ t k2)).1.isEmpty (enc (aX eZ M (aJ t k1) (aJ t k2)).1),T.ax,T.aa 3 c.ed (aT c.ds),T.aa 5 c.en (bd c.ns),T.aa 1 c.eh (enc c.hs),T.str c.p,T.aa 1 c.es (enc c.ss),T.ax,T.ax,RW ((aX eZ M (aJ t k1) (aJ t k2)).2).N,T.ax,T.aa 1 t.bits.isEmpty (bD t.bits),T.aa 1 t.to.isEmpty (enc t.to),EM ((aX eZ M (aJ t k1) (aJ t k2)).2).K]:=by
 have hl:=gP l;have w: 0<=(i:Int)/\(i:Int) < (c.ns.length:Int):=by have:=(W9.1 m).1;omega
 obtain⟨q,z,r⟩:=n.word h l;obtain⟨u,A,v⟩:=o.word h l;have d:=kK (c:=c) (t:=t) (M:=M) (x:=x) (j:=0) (k:=k1) (by rw [f];rfl) n.h0 q;have e:=kK (c:=c) (t:=t) (M:=M) (x:=x) (j:=1) (k:=k2) (by rw [f];rfl) o.h0 u;rw [g] at d e;replace d:Or (.call 37) [I 0,r0,r1] _=_:=d;replace e:Or (.call 37) [I 1,r0,r1] _=_:=e;have y:=T7 h.ok (ea:=(aJ t k1).isEmpty) (eb:=(aJ t k2).isEmpty) (a:=aJ t k1) (b:=aJ t k2) (by omega) (by omega) r v (by omega);refine ai ?_;rw [nL];simp (maxSteps:=1000000) only [ao,↓reduceIte,Int.reduceEq,w,and_self,dV,fZ m,g,d,e,y,bg,bf,Xb,bc,aZ,dL,dm];rfl
theorem TG{c:Cx}{t:Tr}{M:Mk}{x:Nd}{i:Nat}{s:Int}(m:c.ns[i]? =some x)(g:x.op=19){k1 k2:Int}(f:x.ks= [k1,k2])(n:KW c i k1 s)(o:KW c i k2 s)(l:aG s=true)(h:cJ c t M i)(B:M.N.length<=40000):
  Or (.call 18) [r0,I (i:Int)] [ad.box [Y'1,AV.t (T.aa 3 c.ed (aT c.ds)),AV.t (T.aa 5 c.en (bd c.ns)),AV.t (T.aa 1 c.eh (enc c.hs)),AV.t (T.str c.p),AV.t (T.aa 1 c.es (enc c.ss)),V'2,V'3],ad.box [V'4,V'5],ad.sl false 1 t.bits.isEmpty (bD t.bits),ad.sl false 1 t.to.isEmpty (enc t.to),ad.rows M.N.isEmpty 5 1 1 M.N.length (rows M.N),ad.mp false [Ck.s] (Ck.i .i64) (cG M.K)]=some [T.aa 1 (aX bL M (aJ t k1) (aJ t k2)).1.isEmpty (enc (aX bL M (aJ t k1) (aJ t k2)).1),T.ax,T.aa 3 c.ed (aT c.ds),T.aa 5 c.en (bd c.ns),T.aa 1 c.eh (enc c.hs),T.str c.p,T.aa 1 c.es (enc c.ss),T.ax,T.ax,RW ((aX bL M (aJ t k1) (aJ t k2)).2).N,T.ax,T.aa 1 t.bits.isEmpty (bD t.bits),T.aa 1 t.to.isEmpty (enc t.to),EM ((aX bL M (aJ t k1) (aJ t k2)).2).K]:=by
 have hl:=gP l;have w: 0<=(i:Int)/\(i:Int) < (c.ns.length:Int):=by have:=(W9.1 m).1;omega
 obtain⟨q,z,r⟩:=n.word h l;obtain⟨u,A,v⟩:=o.word h l;have d:=kK (c:=c) (t:=t) (M:=M) (x:=x) (j:=0) (k:=k1) (by rw [f];rfl) n.h0 q;have e:=kK (c:=c) (t:=t) (M:=M) (x:=x) (j:=1) (k:=k2) (by rw [f];rfl) o.h0 u;rw [g] at d e;replace d:Or (.call 37) [I 0,r0,r1] _=_:=d;replace e:Or (.call 37) [I 1,r0,r1] _=_:=e;have y:=T8 h.ok (ea:=(aJ t k1).isEmpty) (eb:=(aJ t k2).isEmpty) (a:=aJ t k1) (b:=aJ t k2) (by omega) (by omega) r v (by omega);refine ai ?_;rw [nL];simp (maxSteps:=1000000) only [ao,↓reduceIte,Int.reduceEq,w,and_self,dV,fZ m,g,d,e,y,bg,bf,Xb,bc,aZ,dL,dm];rfl
theorem TH{c:Cx}{t:Tr}{M:Mk}{x:Nd}{i:Nat}{s:Int}(m:c.ns[i]? =some x)(g:x.op=20){k1 k2:Int}(f:x.ks= [k1,k2])(n:KW c i k1 s)(o:KW c i k2 s)(l:aG s=true)(h:cJ c t M i)(B:M.N.length<=40000):
  Or (.call 18) [r0,I (i:Int)] [ad.box [Y'1,AV.t (T.aa 3 c.ed (aT c.ds)),AV.t (T.aa 5 c.en (bd c.ns)),AV.t (T.aa 1 c.eh (enc c.hs)),AV.t (T.str c.p),AV.t (T.aa 1 c.es (enc c.ss)),V'2,V'3],ad.box [V'4,V'5],ad.sl false 1 t.bits.isEmpty (bD t.bits),ad.sl false 1 t.to.isEmpty (enc t.to),ad.rows M.N.isEmpty 5 1 1 M.N.length (rows M.N),ad.mp false [Ck.s] (Ck.i .i64) (cG M.K)]=some [T.aa 1 (eE M (aJ t k1) (aJ t k2)).1.isEmpty (enc (eE M (aJ t k1) (aJ t k2)).1),T.ax,T.aa 3 c.ed (aT c.ds),T.aa 5 c.en (bd c.ns),T.aa 1 c.eh (enc c.hs),T.str c.p,T.aa 1 c.es (enc c.ss),T.ax,T.ax,RW ((eE M (aJ t k1) (aJ t k2)).2).N,T.ax,T.aa 1 t.bits.isEmpty (bD t.bits),T.aa 1 t.to.isEmpty (enc t.to),EM ((eE M (aJ t k1) (aJ t k2)).2).K]:=by
 have hl:=gP l;have w: 0<=(i:Int)/\(i:Int) < (c.ns.length:Int):=by have:=(W9.1 m).1;omega
 obtain⟨q,z,r⟩:=n.word h l;obtain⟨u,A,v⟩:=o.word h l;have d:=kK (c:=c) (t:=t) (M:=M) (x:=x) (j:=0) (k:=k1) (by rw [f];rfl) n.h0 q;have e:=kK (c:=c) (t:=t) (M:=M) (x:=x) (j:=1) (k:=k2) (by rw [f];rfl) o.h0 u;rw [g] at d e;replace d:Or (.call 37) [I 0,r0,r1] _=_:=d;replace e:Or (.call 37) [I 1,r0,r1] _=_:=e;have y:=Ku h.ok (ea:=(aJ t k1).isEmpty) (eb:=(aJ t k2).isEmpty) (a:=aJ t k1) (b:=aJ t k2) (by omega) (by omega) r v (by omega);refine ai ?_;rw [nL];simp (maxSteps:=1000000) only [ao,↓reduceIte,Int.reduceEq,w,and_self,dV,fZ m,g,d,e,y,bg,bf,Xb,bc,aZ,dL,dm];rfl
theorem TI{c:Cx}{t:Tr}{M:Mk}{x:Nd}{i:Nat}{s:Int}(m:c.ns[i]? =some x)(g:x.op=21){k1 k2:Int}(f:x.ks= [k1,k2])(n:KW c i k1 s)(o:KW c i k2 s)(l:aG s=true)(h:cJ c t M i)(B:M.N.length<=40000):
  Or (.call 18) [r0,I (i:Int)] [ad.box [Y'1,AV.t (T.aa 3 c.ed (aT c.ds)),AV.t (T.aa 5 c.en (bd c.ns)),AV.t (T.aa 1 c.eh (enc c.hs)),AV.t (T.str c.p),AV.t (T.aa 1 c.es (enc c.ss)),V'2,V'3],ad.box [V'4,V'5],ad.sl false 1 t.bits.isEmpty (bD t.bits),ad.sl false 1 t.to.isEmpty (enc t.to),ad.rows M.N.isEmpty 5 1 1 M.N.length (rows M.N),ad.mp false [Ck.s] (Ck.i .i64) (cG M.K)]=some [T.aa 1 (jv M (aJ t k1) (aJ t k2)).1.isEmpty (enc (jv M (aJ t k1) (aJ t k2)).1),T.ax,T.aa 3 c.ed (aT c.ds),T.aa 5 c.en (bd c.ns),T.aa 1 c.eh (enc c.hs),T.str c.p,T.aa 1 c.es (enc c.ss),T.ax,T.ax,RW ((jv M (aJ t k1) (aJ t k2)).2).N,T.ax,T.aa 1 t.bits.isEmpty (bD t.bits),T.aa 1 t.to.isEmpty (enc t.to),EM ((jv M (aJ t k1) (aJ t k2)).2).K]:=by
 have hl:=gP l;have w: 0<=(i:Int)/\(i:Int) < (c.ns.length:Int):=by have:=(W9.1 m).1;omega
 obtain⟨q,z,r⟩:=n.word h l;obtain⟨u,A,v⟩:=o.word h l;have d:=kK (c:=c) (t:=t) (M:=M) (x:=x) (j:=0) (k:=k1) (by rw [f];rfl) n.h0 q;have e:=kK (c:=c) (t:=t) (M:=M) (x:=x) (j:=1) (k:=k2) (by rw [f];rfl) o.h0 u;rw [g] at d e;replace d:Or (.call 37) [I 0,r0,r1] _=_:=d;replace e:Or (.call 37) [I 1,r0,r1] _=_:=e;have y:=Ua h.ok (ea:=(aJ t k1).isEmpty) (eb:=(aJ t k2).isEmpty) (a:=aJ t k1) (b:=aJ t k2) (by omega) (by omega) (by omega) r v (by omega);refine ai ?_;rw [nL];simp (maxSteps:=1000000) only [ao,↓reduceIte,Int.reduceEq,w,and_self,dV,fZ m,g,d,e,y,bg,bf,Xb,bc,aZ,dL];rfl
theorem TJ{c:Cx}{t:Tr}{M:Mk}{x:Nd}{i:Nat}{s:Int}(h:c.ns[i]? =some x)(d:x.op=23){k1:Int}(e:x.ks= [k1])(l:KW c i k1 s)(q: 0<=x.n/\x.n<=8)(g:aG s=true)(f:cJ c t M i)(w:M.N.length<=40000):
  Or (.call 18) [r0,I (i:Int)] [ad.box [Y'1,AV.t (T.aa 3 c.ed (aT c.ds)),AV.t (T.aa 5 c.en (bd c.ns)),AV.t (T.aa 1 c.eh (enc c.hs)),AV.t (T.str c.p),AV.t (T.aa 1 c.es (enc c.ss)),V'2,V'3],ad.box [V'4,V'5],ad.sl false 1 t.bits.isEmpty (bD t.bits),ad.sl false 1 t.to.isEmpty (enc t.to),ad.rows M.N.isEmpty 5 1 1 M.N.length (rows M.N),ad.mp false [Ck.s] (Ck.i .i64) (cG M.K)]=some [T.aa 1 (bJ M (aJ t k1) x.n).1.isEmpty (enc (bJ M (aJ t k1) x.n).1),T.ax,T.aa 3 c.ed (aT c.ds),T.aa 5 c.en (bd c.ns),T.aa 1 c.eh (enc c.hs),T.str c.p,T.aa 1 c.es (enc c.ss),T.ax,T.ax,RW ((bJ M (aJ t k1) x.n).2).N,T.ax,T.aa 1 t.bits.isEmpty (bD t.bits),T.aa 1 t.to.isEmpty (enc t.to),EM ((bJ M (aJ t k1) x.n).2).K]:=by
 have hl:=gP g;have o: 0<=(i:Int)/\(i:Int) < (c.ns.length:Int):=by have:=(W9.1 h).1;omega
 obtain⟨m,u,v⟩:=l.word f g;have b:=kK (c:=c) (t:=t) (M:=M) (x:=x) (j:=0) (k:=k1) (by rw [e];rfl) l.h0 m;rw [d] at b;replace b:Or (.call 37) [I 0,r0,r1] _=_:=b;have r:=Dv f.ok (ea:=(aJ t k1).isEmpty) (a:=aJ t k1) (n:=x.n) q.1 (by omega) (by omega) (by omega);refine ai ?_;rw [nL];simp (maxSteps:=1000000) only [ao,↓reduceIte,Int.reduceEq,o,and_self,dV,fZ h,d,b,r,bg,bf,Xb,bc,aZ,dL,dm];rfl
theorem TK{c:Cx}{t:Tr}{M:Mk}{x:Nd}{i:Nat}{s s0:Int}(o:c.ns[i]? =some x)(l:x.op=7){d k1 k2:Int}(e:x.ks= [d,k1,k2])(r:KW c i d s0)(n:aG s0=false)(u:KW c i k1 s)(v:KW c i k2 s)(m:aG s=true)(f:cJ c t M i)(J:M.N.length<=40000):
  Or (.call 18) [r0,I (i:Int)] [ad.box [Y'1,AV.t (T.aa 3 c.ed (aT c.ds)),AV.t (T.aa 5 c.en (bd c.ns)),AV.t (T.aa 1 c.eh (enc c.hs)),AV.t (T.str c.p),AV.t (T.aa 1 c.es (enc c.ss)),V'2,V'3],ad.box [V'4,V'5],ad.sl false 1 t.bits.isEmpty (bD t.bits),ad.sl false 1 t.to.isEmpty (enc t.to),ad.rows M.N.isEmpty 5 1 1 M.N.length (rows M.N),ad.mp false [Ck.s] (Ck.i .i64) (cG M.K)]=some [T.aa 1 false (enc (aX (dv (br t d)) M (aJ t k1) (aJ t k2)).1),T.ax,T.aa 3 c.ed (aT c.ds),T.aa 5 c.en (bd c.ns),T.aa 1 c.eh (enc c.hs),T.str c.p,T.aa 1 c.es (enc c.ss),T.ax,T.ax,RW ((aX (dv (br t d)) M (aJ t k1) (aJ t k2)).2).N,T.ax,T.aa 1 t.bits.isEmpty (bD t.bits),T.aa 1 t.to.isEmpty (enc t.to),EM ((aX (dv (br t d)) M (aJ t k1) (aJ t k2)).2).K]:=by
 have hl:=gP m;have B: 0<=(i:Int)/\(i:Int) < (c.ns.length:Int):=by have:=(W9.1 o).1;omega
 obtain⟨_,q,E⟩:=r.plain f n;obtain⟨w,G,y⟩:=u.word f m;obtain⟨z,H,A⟩:=v.word f m;have g:=kK (c:=c) (t:=t) (M:=M) (x:=x) (j:=1) (k:=k1) (by rw [e];rfl) u.h0 w;have h:=kK (c:=c) (t:=t) (M:=M) (x:=x) (j:=2) (k:=k2) (by rw [e];rfl) v.h0 z;rw [l] at g h;replace g:Or (.call 37) [I 1,r0,r1] _=_:=g;replace h:Or (.call 37) [I 2,r0,r1] _=_:=h;have F:=T5 (c:=c) (t:=t) f.ok E (ea:=(aJ t k1).isEmpty) (eb:=(aJ t k2).isEmpty) (a:=aJ t k1) (b:=aJ t k2) (by omega) (by omega) (by omega) y A (by omega);have C:(0:Int)<=0/\(0:Int) < ((x.ks.length:Nat):Int):=by rw [e];simp
 have g0:(enc x.ks)[0]? =some [ti d]:=by rw [e];rfl
 have D: 0<=d/\d < (t.to.length:Int):=by have:=(W9.1 q).1;have:=r.h0;omega
 refine ai ?_;rw [nL];simp (maxSteps:=1000000) only [ao,↓reduceIte,Int.reduceEq,B,C,D,and_self,dV,fZ o,l,aE,g0,fP q,g,h,F,bg,bf,Xb,bc,aZ,dL];rfl
def jG(n:Int)(b:Nat):Bool:=i64.wrap (((BitVec.ofInt 64 (n.fdiv (2 ^ min ((b:Int)).toNat 64)) &&& BitVec.ofInt 64 1).toNat:Nat):Int)==1
def fM(M:Mk)(n:Int):Nat->Nat->List Int×Mk
 | _,0=>([],M)
 | b,k+1=>((dy M (jG n b)).1:: (fM (dy M (jG n b)).2 n (b+1) k).1,(fM (dy M (jG n b)).2 n (b+1) k).2)
theorem Fl{n:Int}:∀{k b:Nat} {M:Mk},Ok M->Up M (fM M n b k).2 k/\(∀x∈(fM M n b k).1,In (fM M n b k).2 x)/\(fM M n b k).1.length=k
 | 0,b,M,h=>⟨Up.refl h,λx i=>(by cases i),rfl⟩
 | k+1,b,M,h=>by
  obtain⟨c,e⟩:=kA h (jG n b);obtain⟨d,f,g⟩:=Fl (n:=n) (k:=k) (b:=b+1) c.ok;refine⟨(c.trans d).mono (by omega),λz a=> ?_,by simp [fM,g]⟩;rcases Xl.1 a with rfl | a
  .exact d.In e
  .exact f z a
theorem Ro{c:Cx}{t:Tr}{x:Nd}{w:Nat}(r:w<=100):∀(k b:Nat) (M:Mk) (acc:List Int),b+k=w->Ok M->M.N.length+k<=60000->acc.length=b->
  Or rr [Y'6,Y'7,V'8,I (w:Int),I (b:Int)] [ad.box [Y'1,AV.t (T.aa 3 c.ed (aT c.ds)),AV.t (T.aa 5 c.en (bd c.ns)),AV.t (T.aa 1 c.eh (enc c.hs)),AV.t (T.str c.p),AV.t (T.aa 1 c.es (enc c.ss)),V'2,V'3],ad.box [V'9,V'5],ad.sl false 1 t.bits.isEmpty (bD t.bits),ad.sl false 1 t.to.isEmpty (enc t.to),ad.dead,ad.mp false [Ck.s] (Ck.i .i64) (cG M.K),ad.box [r0],ad.box [I x.op,aa x.ek x.ks,I x.n,I x.d,AV.t (T.str x.nm)],ad.sl false 1 false (enc acc),ad.rows M.N.isEmpty 5 1 1 M.N.length (rows M.N)]=
   some [T.aa 1 false (enc (acc++ (fM M x.n b k).1)),T.ax,T.aa 3 c.ed (aT c.ds),T.aa 5 c.en (bd c.ns),T.aa 1 c.eh (enc c.hs),T.str c.p,T.aa 1 c.es (enc c.ss),T.ax,T.ax,RW ((fM M x.n b k).2).N,T.ax,T.aa 1 t.bits.isEmpty (bD t.bits),T.aa 1 t.to.isEmpty (enc t.to),EM ((fM M x.n b k).2).K]:=by
 intro k;induction k with
 | zero=>
  intro b M acc m h l a;have e:¬(b:Int) < (w:Int):=by omega
  refine ai ?_;rw [FZ];simp only [ao,↓reduceIte,e,bc,fM,XA];rfl
 | succ k o=>
  intro b M acc m h l a;have e:(b:Int) < (w:Int):=by omega
  have j:¬(b:Int) < 0:=by omega
  have k1:=n7 (show M.N.length<=100000 by omega) (jG x.n b);obtain⟨g,u⟩:=kA h (jG x.n b);have q:bH 8 (acc.length+1)=some ():=dc (by omega);have f:=o (b+1) _ (acc++ [(dy M (jG x.n b)).1]) (by omega) g.ok (by have:=g.up;omega) (by simp [a]);simp only [XC,XL] at f;rw [fM];refine ai ?_;rw [FZ];simp only [aI,aL,e,j,decide_true,cond_true,↓reduceIte];change ab none (Or (.call 42) [r0,B (jG x.n b)] _) _=_;simp only [ao,k1,aE,q,next b (by omega),fH,bg,bf,Xb,aZ];exact f
theorem TC{c:Cx}{t:Tr}{M:Mk}{x:Nd}{i:Nat}(f:c.ns[i]? =some x)(b:x.op=15)(v: 1<=x.d/\x.d<=8)(q:cJ c t M i)(u:M.N.length<=40000):
  Or (.call 18) [r0,I (i:Int)] [ad.box [Y'1,AV.t (T.aa 3 c.ed (aT c.ds)),AV.t (T.aa 5 c.en (bd c.ns)),AV.t (T.aa 1 c.eh (enc c.hs)),AV.t (T.str c.p),AV.t (T.aa 1 c.es (enc c.ss)),V'2,V'3],ad.box [V'4,V'5],ad.sl false 1 t.bits.isEmpty (bD t.bits),ad.sl false 1 t.to.isEmpty (enc t.to),ad.rows M.N.isEmpty 5 1 1 M.N.length (rows M.N),ad.mp false [Ck.s] (Ck.i .i64) (cG M.K)]=some [T.aa 1 false (enc (fM M x.n 0 x.d.toNat).1),T.ax,T.aa 3 c.ed (aT c.ds),T.aa 5 c.en (bd c.ns),T.aa 1 c.eh (enc c.hs),T.str c.p,T.aa 1 c.es (enc c.ss),T.ax,T.ax,RW ((fM M x.n 0 x.d.toNat).2).N,T.ax,T.aa 1 t.bits.isEmpty (bD t.bits),T.aa 1 t.to.isEmpty (enc t.to),EM ((fM M x.n 0 x.d.toNat).2).K]:=by
 have l: 0<=(i:Int)/\(i:Int) < (c.ns.length:Int):=by have:=(W9.1 f).1;omega
 obtain⟨k,o⟩:∃k:Nat,x.d.toNat=k+1:=⟨x.d.toNat - 1,by omega⟩;have e:x.d= ((k+1:Nat):Int):=by omega
 have a:Or rr [Y'6,Y'7,AV.t (T.aC true),I x.d,I 0] [ad.box [Y'1,AV.t (T.aa 3 c.ed (aT c.ds)),AV.t (T.aa 5 c.en (bd c.ns)),AV.t (T.aa 1 c.eh (enc c.hs)),AV.t (T.str c.p),AV.t (T.aa 1 c.es (enc c.ss)),V'2,V'3],ad.box [V'4,V'5],ad.sl false 1 t.bits.isEmpty (bD t.bits),ad.sl false 1 t.to.isEmpty (enc t.to),ad.rows M.N.isEmpty 5 1 1 M.N.length (rows M.N),ad.mp false [Ck.s] (Ck.i .i64) (cG M.K),ad.box [r0],ad.box [I x.op,aa x.ek x.ks,I x.n,I x.d,AV.t (T.str x.nm)]]=
   some [T.aa 1 false (enc (fM M x.n 0 (k+1)).1),T.ax,T.aa 3 c.ed (aT c.ds),T.aa 5 c.en (bd c.ns),T.aa 1 c.eh (enc c.hs),T.str c.p,T.aa 1 c.es (enc c.ss),T.ax,T.ax,RW ((fM M x.n 0 (k+1)).2).N,T.ax,T.aa 1 t.bits.isEmpty (bD t.bits),T.aa 1 t.to.isEmpty (enc t.to),EM ((fM M x.n 0 (k+1)).2).K]:=by
  have j:(0:Int) < x.d:=by omega
  have m:¬(0:Int) < 0:=by omega
  have k1:=n7 (show M.N.length<=100000 by omega) (jG x.n 0);obtain⟨h,y⟩:=kA q.ok (jG x.n 0);have r:i64.wrap (0+1)= ((1:Nat):Int):=by decide
  have g:=Ro (c:=c) (t:=t) (x:=x) (w:=k+1) (by omega) k 1 _ [(dy M (jG x.n 0)).1] (by omega) h.ok (by have:=h.up;omega) rfl;rw [<-e] at g;rw [fM];refine ai ?_;rw [NO];simp only [aI,aL,j,m,decide_true,cond_true,↓reduceIte];change ab none (Or (.call 42) [r0,B (jG x.n 0)] _) _=_;simp only [ao,k1,r,bg,bf,Xb,aZ];exact g
 rw [o];refine ai ?_;rw [nL];simp (maxSteps:=1000000) only [ao,↓reduceIte,Int.reduceEq,l,and_self,dV,fZ f,b];rw [b] at a;exact a
def fS(M:Mk):List Int->List Int×Mk
 | y::l=>((hF M y).1:: (fS (hF M y).2 l).1,(fS (hF M y).2 l).2)
 | []=>([],M)
theorem Je:∀{l:List Int} {M:Mk},Ok M->(∀y∈l,In M y)->
  Up M (fS M l).2 l.length/\(∀y∈(fS M l).1,In (fS M l).2 y)/\(fS M l).1.length=l.length
 | [],M,h,_=>⟨Up.refl h,λx g=>(by cases g),rfl⟩
 | y::l,M,h,hl=>by
  obtain⟨b,d⟩:=sD h (hl y W7);obtain⟨c,e,f⟩:=Je (l:=l) b.ok (b.all λz a=>hl z (W8 _ a));refine⟨(b.trans c).mono (by rw [Xj];omega),λz a=> ?_,by simp [fS,f]⟩;rcases Xl.1 a with rfl | a
  .exact c.In d
  .exact e z a
theorem Rq{c:Cx}{t:Tr}{e:Bool}{l:List Int}(hl:l.length<=100):∀(r:List Int) (j:Nat) (M:Mk) (acc:List Int),l.drop j=r->j<=l.length->Ok M->(∀y∈r,In M y)->M.N.length+r.length<=60000->acc.length=j->
  Or s5 [Y'6,V'7,aa e l,I (l.length:Int),I (j:Int)] [ad.box [Y'1,AV.t (T.aa 3 c.ed (aT c.ds)),AV.t (T.aa 5 c.en (bd c.ns)),AV.t (T.aa 1 c.eh (enc c.hs)),AV.t (T.str c.p),AV.t (T.aa 1 c.es (enc c.ss)),V'2,V'3],ad.box [V'8,V'5],ad.sl false 1 t.bits.isEmpty (bD t.bits),ad.sl false 1 t.to.isEmpty (enc t.to),ad.dead,ad.mp false [Ck.s] (Ck.i .i64) (cG M.K),ad.box [r0],ad.sl false 1 false (enc acc),ad.rows M.N.isEmpty 5 1 1 M.N.length (rows M.N)]=
   some [T.aa 1 false (enc (acc++ (fS M r).1)),T.ax,T.aa 3 c.ed (aT c.ds),T.aa 5 c.en (bd c.ns),T.aa 1 c.eh (enc c.hs),T.str c.p,T.aa 1 c.es (enc c.ss),T.ax,T.ax,RW ((fS M r).2).N,T.ax,T.aa 1 t.bits.isEmpty (bD t.bits),T.aa 1 t.to.isEmpty (enc t.to),EM ((fS M r).2).K]:=by
 intro r;induction r with
 | nil=>
  intro j M acc g q h f m a;have d:¬(j:Int) < (l.length:Int):=by have:=bu g;omega
  refine ai ?_;rw [F0];simp only [ao,↓reduceIte,d,bc,fS,XA];rfl
 | cons y r u=>
  intro j M acc g q h f m a;obtain⟨g1,w,o⟩:=bt g;have d:(j:Int) < (l.length:Int):=by omega
  have h0: 0<=(j:Int):=by omega
  have n:=f y W7;rw [Xj] at m;have k1:=uI h (show M.N.length<=100000 by omega) n;obtain⟨k,x⟩:=sD h n;have v:bH 8 (acc.length+1)=some ():=dc (by omega);have b:=u (j+1) _ (acc++ [(hF M y).1]) o (by omega) k.ok (k.all λz b=>f z (W8 _ b)) (by have:=k.up;omega) (by simp [a]);simp only [XC,XL] at b;rw [fS];refine ai ?_;rw [F0];simp only [ao,↓reduceIte,d,h0,and_self,k1,aE,bR g1,v,next j (by omega),fH,bg,bf,Xb,bc,aZ];exact b
theorem TD{c:Cx}{t:Tr}{M:Mk}{x:Nd}{i:Nat}{s:Int}(w:c.ns[i]? =some x)(g:x.op=16){k1:Int}(q:x.ks= [k1])(f:KW c i k1 s)(v:aG s=true)(m:cJ c t M i)(E:M.N.length<=40000):
  Or (.call 18) [r0,I (i:Int)] [ad.box [Y'1,AV.t (T.aa 3 c.ed (aT c.ds)),AV.t (T.aa 5 c.en (bd c.ns)),AV.t (T.aa 1 c.eh (enc c.hs)),AV.t (T.str c.p),AV.t (T.aa 1 c.es (enc c.ss)),V'2,V'3],ad.box [V'4,V'5],ad.sl false 1 t.bits.isEmpty (bD t.bits),ad.sl false 1 t.to.isEmpty (enc t.to),ad.rows M.N.isEmpty 5 1 1 M.N.length (rows M.N),ad.mp false [Ck.s] (Ck.i .i64) (cG M.K)]=some [T.aa 1 false (enc (fS M (aJ t k1)).1),T.ax,T.aa 3 c.ed (aT c.ds),T.aa 5 c.en (bd c.ns),T.aa 1 c.eh (enc c.hs),T.str c.p,T.aa 1 c.es (enc c.ss),T.ax,T.ax,RW ((fS M (aJ t k1)).2).N,T.ax,T.aa 1 t.bits.isEmpty (bD t.bits),T.aa 1 t.to.isEmpty (enc t.to),EM ((fS M (aJ t k1)).2).K]:=by
 have hl:=gP v;have D: 0<=(i:Int)/\(i:Int) < (c.ns.length:Int):=by have:=(W9.1 w).1;omega
 obtain⟨B,h,a⟩:=f.word m v;have d:=kK (c:=c) (t:=t) (M:=M) (x:=x) (j:=0) (k:=k1) (by rw [q];rfl) f.h0 B;rw [g] at d;replace d:Or (.call 37) [I 0,r0,r1] _=_:=d
 have b:Or s5 [Y'6,AV.t (T.aC true),aa (aJ t k1).isEmpty (aJ t k1),I ((aJ t k1).length:Int),I 0] [ad.box [Y'1,AV.t (T.aa 3 c.ed (aT c.ds)),AV.t (T.aa 5 c.en (bd c.ns)),AV.t (T.aa 1 c.eh (enc c.hs)),AV.t (T.str c.p),AV.t (T.aa 1 c.es (enc c.ss)),V'2,V'3],ad.box [V'7,V'5],ad.sl false 1 t.bits.isEmpty (bD t.bits),ad.sl false 1 t.to.isEmpty (enc t.to),ad.dead,ad.mp false [Ck.s] (Ck.i .i64) (cG M.K),ad.box [r0],ad.rows M.N.isEmpty 5 1 1 M.N.length (rows M.N)]=
   some [T.aa 1 false (enc (fS M (aJ t k1)).1),T.ax,T.aa 3 c.ed (aT c.ds),T.aa 5 c.en (bd c.ns),T.aa 1 c.eh (enc c.hs),T.str c.p,T.aa 1 c.es (enc c.ss),T.ax,T.ax,RW ((fS M (aJ t k1)).2).N,T.ax,T.aa 1 t.bits.isEmpty (bD t.bits),T.aa 1 t.to.isEmpty (enc t.to),EM ((fS M (aJ t k1)).2).K]:=by
  revert h a;generalize aJ t k1=l;intro h a;cases l with
  | nil=>simp at h;omega
  | cons y r=>
   have A:=a y W7;have k1:=uI m.ok (show M.N.length<=100000 by omega) A;obtain⟨o,F⟩:=sD m.ok A;have C:(0:Int) < (((y::r).length:Nat):Int):=by simp
   have h0:(0:Int)<=0:=by omega
   have g1:(enc (y::r))[(0:Int).toNat]? =some [ti y]:=rfl;have f:i64.wrap (0+1)= ((1:Nat):Int):=by decide
   have u:((y::r).length:Int)<=8:=by omega
   have n:=Rq (c:=c) (t:=t) (e:=(y::r).isEmpty) (l:=y::r) (by omega) r 1 _ [(hF M y).1] rfl (by simp) o.ok (o.all λz n=>a z (W8 _ n)) (by have:=o.up;rw [Xj] at u;omega) rfl;rw [fS];refine ai ?_;rw [NP];simp only [ao,↓reduceIte,C,h0,and_self,k1,aE,g1,f,bg,bf,Xb,bc,aZ];exact n
 refine ai ?_;rw [nL];simp (maxSteps:=1000000) only [ao,↓reduceIte,Int.reduceEq,D,and_self,dV,fZ w,g,d,aE,bg,bf,Xb,bc,aZ,dL];exact b
end Go.Aev.Gen
