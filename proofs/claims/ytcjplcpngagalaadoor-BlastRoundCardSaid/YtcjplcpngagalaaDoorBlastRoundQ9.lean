import Derived.Test.YtcjplcpngagalaaDoorBlastRoundQ6
import Derived.Test.YtcjplcpngagalaaDoorLLay
import Derived.Test.YtcjplcpngagalaaDoorBlastRoundQ5
import Derived.Lib.ItoaLen
import Derived.Lib.Strings
set_option linter.all false
namespace Go.Aev.Gen
open Go Go.Aev Go.IntKind
theorem kX:l0 ak ann:=by
 intro f bn d xs h;have g:f=44/\∃n:Int,bn= [.t (.int .i64 n)]/\d= []/\(-9223372036854775808<=n/\n<=9223372036854775807)/\xs= [.str ⟨(Go.Lib.itoa n).toArray⟩]:=by
  unfold ann at h;dsimp only at h;split at h
  .rename_i n;split at h
   .rename_i m;simp only [Qy] at h;exact⟨rfl,n,rfl,rfl,m,h.symm⟩
   .cases h
  .cases h
 obtain⟨rfl,n,rfl,rfl,⟨h0,i⟩,rfl⟩:=g;refine⟨_,_,Go.Proofs.Tryd.func44,rfl,by decide, ?_⟩;intro c w ρ O args o hs e;have j:args= [.int .i64 n]:=by simp only [az,ai,ay] at e;obtain⟨v,r,rfl,rfl,rfl⟩:=e;rfl
 subst j;have a:=Go.Proofs.Any.strconv_Itoa Go.Proofs.YtcjplcpngagalaaDoor.itoaL n h0 i w hs.glob.1;change Calls ak 44 #[.int .i64 n] w _ at a;refine a.mono ?_;rintro _ w' ⟨rfl,k,os,rfl⟩;refine⟨[.string ⟨(Go.Lib.itoa n).toArray⟩],[.str ⟨(Go.Lib.itoa n).toArray⟩],[],[],[],rfl,⟨rfl,rfl,rfl, ?_,λb l _=> ?_⟩,rfl,by simp,by simp, ?_,⟨rfl,rfl⟩⟩
 .simp [Go.Sort.grow,World.drewN]
 .simp [Go.Sort.grow,World.drewN,Array.getElem?_append,l]
 .rw [show de ak ann 44 (gu ([]:List ad).head?) Go.Proofs.Tryd.f44= [.f .s] by kernel_rfl];exact⟨_,[],_,[],[],[],rfl,rfl,rfl,⟨rfl,by simp [ay],rfl⟩,rfl,rfl,rfl⟩
open Go Go.Aev Go.IntKind
noncomputable abbrev Or:aq:=kS ak ann
abbrev ti(n:Int):T:= .int .i64 n
abbrev tb(b:Bool):T:= .bool b
abbrev o0:AV:=V'0
abbrev o1:AV:=V'1
abbrev o2:AV:=V'2
abbrev o3:AV:=V'3
abbrev o4:AV:=V'4
abbrev o5:AV:=V'5
abbrev r0:AV:=Y'0
abbrev r1:AV:=Y'1
theorem bm{b:Type}{l:List b}{i:Nat}{r:b}{rest:List b}(h:l.drop i=r::rest):l[i]? =some r/\i < l.length/\l.drop (i+1)=rest:=by
 have a:i < l.length:=by
  rcases Tl i l.length with g | g
  .exact g
  .rw [Sv g] at h;cases h
 rw [SH a] at h;simp only [RH] at h;exact⟨by rw [QK a,h.1],a,h.2⟩
theorem bh{a:Type}{l:List a}{i:Nat}(h:l.drop i= []):l.length<=i:=by simpa using h
def enc(l:List Int):List (List T):=l.map λn=> [.int .i64 n]
theorem aC(l:List Int):(enc l).length=l.length:=by simp [enc]
theorem bH{l:List Int}{i:Nat}{r:Int}(h:l[i]? =some r):(enc l)[((i:Nat):Int).toNat]? =some [ti r]:=by simp [enc,h]
theorem fj{l:List Int}{i:Nat}{r:Int}(h:l[i]? =some r):(enc l)[i]? =some [ti r]:=by simp [enc,h]
theorem next(i:Nat)(h:i<=1000000):i64.wrap ((i:Int)+1)= ((i+1:Nat):Int):=by rw [wr (by omega)];omega
theorem cC{a n:Nat}(h:n<=1000000):bp a n=some ():=by unfold bp;rw [if_pos (.inl (by unfold lP;omega))]
abbrev ab(e:Bool)(l:List Int):AV:=AV.t (T.ab 1 e (enc l))
abbrev eF(n:Int):Prop:= -9223372036854775808<=n/\n<=9223372036854775807
def it(n:Int):ByteArray:=⟨(Go.Lib.itoa n).toArray⟩
theorem iy{n:Int}(h:eF n):(it n).size<=21:=by have:=Go.Lib.itoa_length_le n h.1 h.2;simpa [it,ByteArray.size] using this
theorem iF{n:Int}(h:eF n):Or (.call 44) [I n] []=some [T.str (it n)]:=by
 refine ah ?_;have:ann.ext 44 [I n] []=some [T.str (it n)]:=by show(if eF n then some [T.str (it n)] else none)=_;rw [if_pos h]
 show(match ann.ext 44 [I n] [] with | some r=>some r | none=>_)=_;rw [this]
theorem AT(a b:ByteArray):(a==b)=decide (a=b):=by
 obtain⟨a⟩:=a;obtain⟨b⟩:=b;show(a==b)=_;by_cases h:a=b
 .subst h;simp
 .simp [h]
abbrev sp:ByteArray:=ByteArray.mk #[(32:UInt8)]
abbrev us:ByteArray:=ByteArray.mk #[(95:UInt8)]
abbrev s0:ByteArray:=ByteArray.mk #[]
theorem rm:sp.size=1:=rfl
theorem gf:us.size=1:=rfl
structure Nd where
 op:Int
 ek:Bool
 ks:List Int
 n:Int
 d:Int
 nm:ByteArray
def nS(k:Nat)(x:Nd):Row:=Row.mk k [ti x.op,T.ao,ti x.n,ti x.d,T.str x.nm] (some (x.ek,enc x.ks))
def fB:Nat->List Nd->List Row
 | _,[]=> []
 | k,x::r=>nS k x::fB (k+1) r
abbrev rows(l:List Nd):List Row:=fB 0 l
theorem FU:∀(k:Nat) (l:List Nd),(fB k l).length=l.length
 | _,[]=>rfl
 | k,x::r=>by rw [fB,QJ,FU,QJ]
theorem FW(x:Nd):∀(k:Nat) (l:List Nd),fB k (l++ [x])=fB k l++ [nS (k+l.length) x]
 | _,[]=>rfl
 | k,y::r=>by rw [Rs,fB,FW x (k+1) r,fB,QJ,Rs,show k+1+r.length=k+ (r.length+1) by omega]
theorem FT:∀{k:Nat} {l:List Nd} {i:Nat} {x:Nd},l[i]? =some x->(fB k l)[i]? =some (nS (k+i) x)
 | _,[],_,_,h=>by simp at h
 | k,y::r,0,x,h=>by simp at h;subst h;rfl
 | k,y::r,i+1,x,h=>by rw [fB,RZ,FT (by simpa using h),show k+1+i=k+ (i+1) by omega]
theorem FR:∀{k:Nat} {l:List Nd} {i:Nat} {x:Nd},l[i]? =some x->cy (k+i) (fB k l)=some (x.ek,enc x.ks)
 | _,[],_,_,h=>by simp at h
 | k,y::r,0,x,h=>by simp at h;subst h;simp [fB,nS,cy]
 | k,y::r,i+1,x,h=>by have a:=FR (k:=k+1) (l:=r) (i:=i) (x:=x) (by simpa using h);rw [show k+1+i=k+ (i+1) by omega] at a;rw [fB,cy,if_neg (by simp [nS]),a]
theorem zF{l:List Nd}{i:Nat}{x:Nd}(h:l[i]? =some x):(rows l)[i]? =some (nS i x):=by have:=FT (k:=0) h;rwa [Rh] at this
theorem zE{l:List Nd}{i:Nat}{x:Nd}(h:l[i]? =some x):cy i (rows l)=some (x.ek,enc x.ks):=by have:=FR (k:=0) h;rwa [Rh] at this
theorem FV:∀(k:Nat) (l:List Nd),aX (fB k l)=true
 | _,[]=>rfl
 | k,x::r=>by have a:=FV (k+1) r;unfold aX at a⊢;rw [fB,RX,a];rfl
theorem FQ:∀(k:Nat) (l:List Nd),oI k ((fB k l).map λe=> [.ptr e.cs,qS e])=some (fB k l)
 | _,[]=>rfl
 | k,x::r=>by have a:=FQ (k+1) r;rw [fB,Rc];show(oI (k+1) ((fB (k+1) r).map λe=> [.ptr e.cs,qS e])).bind _=_;rw [a];rfl
def RW(l:List Nd):T:=be l.isEmpty (rows l)
theorem aV(l:List Nd):aN (RW l)=some (l.isEmpty,rows l):=by have h:=FQ 0 l;show(oI 0 ((fB 0 l).map λe=> [.ptr e.cs,qS e])).bind _=_;rw [h];rfl
theorem aT(l:List Nd):aX (rows l)=true:=FV 0 l
theorem aQ(l:List Nd):(rows l).length=l.length:=FU 0 l
def bZ(K:List (ByteArray×Int)):List (List T×T):=K.map λp=>([T.str p.1],ti p.2)
def lk(s:ByteArray):List (ByteArray×Int)->Option Int
 | []=>none
 | (k,v)::r=>if s=k then some v else lk s r
theorem yZ(s:ByteArray):∀K:List (ByteArray×Int),fU [T.str s] (bZ K)= (lk s K).map ti
 | []=>rfl
 | (k,v)::r=>by
  have a:=yZ s r;unfold bZ at a⊢;rw [Rc,fU,lk];simp only [dV,me,R1,AT];by_cases h:s=k
  .simp [h]
  .simp only [h,decide_false,cond_false,↓reduceIte];exact a
theorem EA{s:ByteArray}(v:Int):∀{K:List (ByteArray×Int)},lk s K=none->hJ [T.str s] (ti v) (bZ K)=bZ (K++ [(s,v)])
 | [],_=>rfl
 | (k,u)::r,h=>by
  rw [lk] at h;by_cases e:s=k
  .rw [if_pos e] at h;cases h
  .rw [if_neg e] at h;have a:=EA v h;unfold bZ at a⊢;rw [Rs,Rc,Rc,hJ];simp only [dV,me,R1,AT,e,decide_false,cond_false];rw [a]
theorem Bj:∀K:List (ByteArray×Int),rV ((bZ K).map λp=> [.ptr p.1,p.2])=some (bZ K)
 | []=>rfl
 | p::r=>by have a:=Bj r;unfold bZ at a⊢;rw [Rc,Rc,rV,a];rfl
def EM(K:List (ByteArray×Int)):T:=aH (bZ K)
theorem aU(K:List (ByteArray×Int)):aL (EM K)=some (bZ K):=Bj K
structure Mk where
 N:List Nd
 K:List (ByteArray×Int)
abbrev cE(M:Mk):List T:= [RW M.N,T.ao,EM M.K]
abbrev dt(M:Mk):List ad:= [ad.box [o1,o2],ad.rows M.N.isEmpty 5 1 1 M.N.length (rows M.N),ad.mp false [Ck.s] (Ck.i .i64) (bZ M.K)]
def kN(k:ByteArray):List Int->ByteArray
 | []=>k
 | x::r=>kN (k++ (sp++it x)) r
def lO(op:Int)(nm:ByteArray)(n d:Int)(ks:List Int):ByteArray:=kN (it op++sp++nm++sp++it n++sp++it d) ks
def dq(M:Mk)(op:Int)(nm:ByteArray)(n d:Int)(ks:List Int):Int×Mk:=
 match lk (lO op nm n d ks) M.K with
 | some i=>(i,M)
 | none=>((M.N.length:Int),⟨M.N++ [⟨op,ks.isEmpty,ks,n,d,nm⟩],M.K++ [(lO op nm n d ks,(M.N.length:Int))]⟩)
theorem F4(e:Bool)(l:List Int)(a:e=true->l= [])(hl:l.length<=1000000):Or (.call 18) [ab e l] []=some [if e then T.ae true else T.ab 1 false (enc l)]:=by
 refine ah ?_;rw [IC];cases e with
 | true=>rfl
 | false=>simp only [aj,aC,cC (show 0+l.length<=1000000 by omega)];rfl
theorem Mv(M:Mk)(A:M.N.length<=100000)(op:Int)(nm:ByteArray)(n d:Int)(ks:List Int)(e:Bool)(c:e=ks.isEmpty)(q:∀k∈ks,eF k)(hl:ks.length<=1000):∀(rest:List Int) (j:Nat) (s:ByteArray),ks.drop j=rest->s.size<=10000+100 * j->
  Or tK [r0,I op,AV.t (T.str nm),I n,I d,ab e ks,AV.t (T.str s),ab e ks,I (ks.length:Int),I (j:Int)] (dt M)=
   match lk (kN s rest) M.K with
   | some i=>some (ti i::cE M)
   | none=>some (ti (M.N.length:Int)::cE ⟨M.N++ [⟨op,ks.isEmpty,ks,n,d,nm⟩],M.K++ [(kN s rest,(M.N.length:Int))]⟩):=by
 intro rest;induction rest with
 | nil=>
  intro j s g hs;have b:¬(j:Int) < (ks.length:Int):=by have:=bh g;omega
  rw [kN];have m:=F4 e ks (λh=>by subst c;simpa using h) (by omega);have p:(if e then T.ae true else T.ab 1 false (enc ks)).an 1=some (e,enc ks):=by
   cases e with
   | true=>
    have:ks= []:=by simpa using c.symm
    subst this;rfl
   | false=>rfl
  have w:i64.wrap (((M.N.length+1:Nat):Int) - 1)= (M.N.length:Int):=by rw [wr (by omega)];omega
  have r:rows M.N++ [Row.mk M.N.length [ti op,T.ao,ti n,ti d,T.str nm] (some (e,enc ks))]=rows (M.N++ [⟨op,ks.isEmpty,ks,n,d,nm⟩]):=by rw [rows,rows,FW,Rh,c];rfl
  cases a:lk s M.K with
  | some i=>refine ah ?_;rw [xH];simp only [aj,↓reduceIte,b,yZ,a,Se,Sj,Option.isSome_some,aT];rfl
  | none=>refine ah ?_;rw [xH];simp only [aj,↓reduceIte,b,yZ,a,Tm,Tz,Option.isSome_none,m,p,aQ,cC (show M.N.length+1<=1000000 by omega),r,aT,Ro,QM,w,EA _ a];congr 3;unfold RW;cases M.N <;> rfl
 | cons x rest u=>
  intro j s g hs;obtain⟨f,z,o⟩:=bm g;have b:(j:Int) < (ks.length:Int):=by omega
  have h0: 0<=(j:Int):=by omega
  have l:=q x (QH f);have B:=iy l;have v: 1+ (it x).size<=4294967296:=by omega
  have C:(sp++it x).size=1+ (it x).size:=by rw [QZ];rfl
  have y:s.size+ (sp++it x).size<=4294967296:=by omega
  have:=u (j+1) (s++ (sp++it x)) o (by rw [QZ];omega);rw [kN];cases a:lk (kN (s++ (sp++it x)) rest) M.K <;>
  .rw [a] at this;refine ah ?_;rw [xH];simp only [aj,↓reduceIte,b,h0,and_self,aC,bH f,iF l,v,y,next j (by omega)];exact this
theorem jF(M:Mk)(l:M.N.length<=100000)(op:Int)(nm:ByteArray)(n d:Int)(ks:List Int)(e:Bool)(m:e=ks.isEmpty)(p:∀k∈ks,eF k)(hl:ks.length<=1000)(ho:eF op)(b:eF n)(a:eF d)(hm:nm.size<=5000):
  Or (.call 46) [r0,I op,AV.t (T.str nm),I n,I d,ab e ks] (dt M)=some (ti (dq M op nm n d ks).1::cE (dq M op nm n d ks).2):=by
 have q:=iy ho;have r:=iy b;have s:=iy a;have c:(it op++sp++nm++sp++it n++sp++it d).size<=10000+100 * 0:=by simp only [QZ,rm];omega
 have:=Mv M l op nm n d ks e m p hl ks 0 (it op++sp++nm++sp++it n++sp++it d) rfl c;have f:(it op).size+1<=4294967296:=by omega
 have g:(it op++sp).size+nm.size<=4294967296:=by simp only [QZ,rm];omega
 have c3:(it op++sp++nm).size+1<=4294967296:=by simp only [QZ,rm];omega
 have h:(it op++sp++nm++sp).size+ (it n).size<=4294967296:=by simp only [QZ,rm];omega
 have i:(it op++sp++nm++sp++it n).size+1<=4294967296:=by simp only [QZ,rm];omega
 have j:(it op++sp++nm++sp++it n++sp).size+ (it d).size<=4294967296:=by simp only [QZ,rm];omega
 unfold dq lO;cases o:lk (kN (it op++sp++nm++sp++it n++sp++it d) ks) M.K <;>
 .rw [o] at this;refine ah ?_;rw [Jh];simp only [aj,↓reduceIte,iF ho,iF b,iF a,f,g,c3,h,i,j,aC];exact this
open Go Go.Aev Go.IntKind
abbrev In(M:Mk)(a:Int):Prop:=0<=a/\a < (M.N.length:Int)
structure Ok (M:Mk):Prop where
 no:∀(i:Nat) (x:Nd),M.N[i]? =some x->x.op=3->∃k r,x.ks=k::r
 ks:∀(i:Nat) (x:Nd),M.N[i]? =some x->∀k∈x.ks,0<=k/\k < (i:Int)
 kn:∀p∈M.K,In M p.2
 ek:∀(i:Nat) (x:Nd),M.N[i]? =some x->x.ek=x.ks.isEmpty
 kl:∀(i:Nat) (x:Nd),M.N[i]? =some x->x.ks.length<=1000
structure Up (M M':Mk) (c:Nat):Prop where
 ok:Ok M'
 le:M.N.length<=M'.N.length
 up:M'.N.length<=M.N.length+c
 pre:∀(i:Nat) (x:Nd),M.N[i]? =some x->M'.N[i]? =some x
theorem Up.refl{M:Mk}(h:Ok M):Up M M 0:=⟨h,QV _,QV _,λ_ _ h=>h⟩
theorem Up.trans{M f b:Mk}{c d:Nat}(h:Up M f c)(a:Up f b d):Up M b (c+d):=
 ⟨a.ok,Rt h.le a.le,by have:=h.up;have:=a.up;omega,λi x e=>a.pre i x (h.pre i x e)⟩
theorem Up.mono{M a:Mk}{c d:Nat}(h:Up M a c)(b:c<=d):Up M a d:=⟨h.ok,h.le,by have:=h.up;omega,h.pre⟩
theorem Up.In{M b:Mk}{c:Nat}(h:Up M b c){a:Int}(d:In M a):In b a:=⟨d.1,by have:=h.le;have:=d.2;omega⟩
theorem In.get{M:Mk}{a:Int}(h:In M a):∃(i:Nat) (x:Nd),a= (i:Int)/\M.N[i]? =some x:=by
 obtain⟨i,rfl⟩:=Tb h.1;have:i < M.N.length:=by have:=h.2;omega
 exact⟨i,_,rfl,QK this⟩
theorem Ej{s:ByteArray}:∀{K:List (ByteArray×Int)} {v:Int},lk s K=some v->∃p∈K,p.2=v
 | (k,u)::r,v,h=>by
  rw [lk] at h;split at h
  .simp only [Qy] at h;exact⟨_,QA,h⟩
  .obtain⟨p,a,e⟩:=Ej h;exact⟨p,QB _ a,e⟩
theorem jB{M:Mk}(h:Ok M)(op:Int)(nm:ByteArray)(n d:Int)(ks:List Int)(j:∀k∈ks,In M k)(c:op=3->∃k r,ks=k::r)(hl:ks.length<=1000:=by simp):
  Up M (dq M op nm n d ks).2 1/\In (dq M op nm n d ks).2 (dq M op nm n d ks).1:=by
 unfold dq;cases f:lk (lO op nm n d ks) M.K with
 | some v=>obtain⟨p,b,rfl⟩:=Ej f;exact⟨(Up.refl h).mono (by omega),h.kn p b⟩
 | none=>
  have new:∀(i:Nat) (x:Nd),(M.N++ [(⟨op,ks.isEmpty,ks,n,d,nm⟩:Nd)])[i]? =some x->M.N[i]? =some x\/(i=M.N.length/\x= ⟨op,ks.isEmpty,ks,n,d,nm⟩):=λi x e=>by
   rcases Nat.lt_trichotomy i M.N.length with g | g | g
   .rw [QT g] at e;exact .inl e
   .subst g;simp at e;exact .inr ⟨rfl,e.symm⟩
   .rw [R7 (by simp;omega)] at e;cases e
  refine⟨⟨⟨λi x e ho=> ?_,λi x e k a=> ?_,λp b=> ?_,λi x e=> ?_,λi x e=> ?_⟩,by simp,by simp,λi x e=> ?_⟩, ?_⟩
  .rcases new i x e with g | ⟨rfl,rfl⟩
   .exact h.no i x g ho
   .exact c ho
  .rcases new i x e with g | ⟨rfl,rfl⟩
   .exact h.ks i x g k a
   .exact j k a
  .simp only [];rcases QR.1 b with g | g
   .have:=h.kn p g;exact⟨this.1,by simp;omega⟩
   .simp only [QL] at g;subst g;exact⟨by simp,by simp;omega⟩
  .rcases new i x e with g | ⟨rfl,rfl⟩
   .exact h.ek i x g
   .rfl
  .rcases new i x e with g | ⟨rfl,rfl⟩
   .exact h.kl i x g
   .exact hl
  .rw [QT (QC.1 e).1];exact e
  .exact⟨by simp,by simp;omega⟩
def cf(M:Mk)(a:Int):Int:=match M.N[a.toNat]? with
 | some x=>x.op
 | none=>0
def qC(M:Mk)(a:Int):Int:=match M.N[a.toNat]? with
 | some x=>x.ks.headD 0
 | none=>0
def cQ(M:Mk)(b:Bool):Int×Mk:=dq M (if b then 1 else 2) s0 0 0 []
def gz(M:Mk)(a:Int):Int×Mk:=
 if cf M a=1 then cQ M false else if cf M a=2 then cQ M true else if cf M a=3 then(qC M a,M) else dq M 3 s0 0 0 [a]
def cg(M:Mk)(a b:Int):Int×Mk:=
 if cf M a=2\/cf M b=1\/a=b then(a,M) else if cf M a=1\/cf M b=2 then(b,M) else dq M 4 s0 0 0 [a,b]
def eC(M:Mk)(a b:Int):Int×Mk:=
 if cf M a=1\/cf M b=2\/a=b then(a,M) else if cf M a=2\/cf M b=1 then(b,M) else dq M 5 s0 0 0 [a,b]
def dK(M:Mk)(a b:Int):Int×Mk:=
 if a=b then cQ M true else if cf M a=1 then(b,M) else if cf M b=1 then(a,M) else if cf M a=2 then gz M b else if cf M b=2 then gz M a else dq M 6 s0 0 0 [a,b]
def bw(M:Mk)(a b:Int):Int×Mk:=gz (dK M a b).2 (dK M a b).1
theorem In.i64{M:Mk}{a:Int}(h:In M a)(b:M.N.length<=100000):eF a:=⟨by have:=h.1;omega,by have:=h.2;omega⟩
theorem iT{M:Mk}(h:Ok M)(b:Bool):Up M (cQ M b).2 1/\In (cQ M b).2 (cQ M b).1:=
 jB h _ _ _ _ _ (λk a=>by cases a) (by cases b <;> simp)
theorem o9{M:Mk}(h:Ok M){a:Int}(c:In M a):Up M (gz M a).2 1/\In (gz M a).2 (gz M a).1:=by
 unfold gz;split
 .exact iT h _
 .split
  .exact iT h _
  .split
   .rename_i e;obtain⟨i,x,rfl,d⟩:=c.get;refine⟨(Up.refl h).mono (by omega), ?_⟩;unfold cf at e;unfold qC;rw [Q8,d] at e⊢;obtain⟨k,r,b⟩:=h.no i x d e;have:=h.ks i x d k (by rw [b];exact QA);dsimp only;rw [b,List.headD_cons];exact⟨this.1,by have:=c.2;omega⟩
   .exact jB h _ _ _ _ _ (λk b=>by simp only [QL] at b;subst b;exact c) (λ_=>⟨_,_,rfl⟩)
theorem rv{M:Mk}{a b:Int}(d:In M a)(e:In M b):∀k∈[a,b],In M k:=λk c=>by simp only [QN,RR,or_false] at c;rcases c with rfl | rfl <;> assumption
theorem gG{M:Mk}(h:Ok M){a b:Int}(c:In M a)(d:In M b):Up M (cg M a b).2 1/\In (cg M a b).2 (cg M a b).1:=by
 unfold cg;split
 .exact⟨(Up.refl h).mono (by omega),c⟩
 .split
  .exact⟨(Up.refl h).mono (by omega),d⟩
  .exact jB h _ _ _ _ _ (rv c d) (by simp)
theorem pd{M:Mk}(h:Ok M){a b:Int}(c:In M a)(d:In M b):Up M (eC M a b).2 1/\In (eC M a b).2 (eC M a b).1:=by
 unfold eC;split
 .exact⟨(Up.refl h).mono (by omega),c⟩
 .split
  .exact⟨(Up.refl h).mono (by omega),d⟩
  .exact jB h _ _ _ _ _ (rv c d) (by simp)
theorem oX{M:Mk}(h:Ok M){a b:Int}(c:In M a)(d:In M b):Up M (dK M a b).2 1/\In (dK M a b).2 (dK M a b).1:=by
 unfold dK;split
 .exact iT h _
 .split
  .exact⟨(Up.refl h).mono (by omega),d⟩
  .split
   .exact⟨(Up.refl h).mono (by omega),c⟩
   .split
    .exact o9 h d
    .split
     .exact o9 h c
     .exact jB h _ _ _ _ _ (rv c d) (by simp)
theorem n5{M:Mk}(h:Ok M){a b:Int}(g:In M a)(i:In M b):Up M (bw M a b).2 2/\In (bw M a b).2 (bw M a b).1:=by obtain⟨c,d⟩:=oX h g i;obtain⟨e,f⟩:=o9 c.ok d;exact⟨c.trans e,f⟩
theorem FK(i:Nat)(x:Nd):(nS i x).n=i:=rfl
theorem FJ(i:Nat)(x:Nd):(nS i x).cs= [ti x.op,T.ao,ti x.n,ti x.d,T.str x.nm]:=rfl
theorem kk{M:Mk}{a:Int}(b:In M a)(op:Int):Or (.call 81) [r0,I a,I op] (dt M)=some (tb (cf M a==op)::cE M):=by
 have c:=b;obtain⟨i,x,rfl,d⟩:=b.get;have ho:cf M (i:Int)=x.op:=by unfold cf;rw [Q8,d]
 rw [ho];refine ah ?_;rw [Kg];simp only [aj,↓reduceIte,aQ,c.1,c.2,and_self,Q8,zF d,FJ,aT];rfl
theorem lU{M:Mk}(e:M.N.length<=100000)(b:Bool):Or (.call 50) [r0,B b] (dt M)=some (ti (cQ M b).1::cE (cQ M b).2):=by
 have c:=jF M e 1 s0 0 0 [] true rfl (λk a=>by cases a) (by simp) (by omega) (by omega) (by omega) (by decide);have d:=jF M e 2 s0 0 0 [] true rfl (λk a=>by cases a) (by simp) (by omega) (by omega) (by omega) (by decide);replace c:Or (.call 46) [r0,I 1,AV.t (T.str s0),I 0,I 0,AV.t (T.ab 1 true [])] (dt M)=_:=c;replace d:Or (.call 46) [r0,I 2,AV.t (T.str s0),I 0,I 0,AV.t (T.ab 1 true [])] (dt M)=_:=d;unfold cQ;refine ah ?_;rw [Jq];cases b with
 | true=>simp only [aj,↓reduceIte,c,aV,aU,QD,aT];rfl
 | false=>simp only [aj,↓reduceIte,d,aV,aU,QD,aT];rfl
theorem qW{M:Mk}(h:Ok M)(d:M.N.length<=100000){a:Int}(j:In M a):Or (.call 51) [r0,I a] (dt M)=some (ti (gz M a).1::cE (gz M a).2):=by
 have m:=j;have q:=lU d false;have s:=lU d true;have l:=jF M d 3 s0 0 0 [a] false rfl (λk e=>by simp only [QL] at e;subst e;exact j.i64 d) (by simp) (by omega) (by omega) (by omega) (by decide);obtain⟨i,x,rfl,c⟩:=j.get;have ho:cf M (i:Int)=x.op:=by unfold cf;rw [Q8,c]
 have e:qC M (i:Int)=x.ks.headD 0:=by unfold qC;rw [Q8,c]
 replace l:Or (.call 46) [r0,I 3,AV.t (T.str s0),I 0,I 0,AV.t (T.ab 1 false [[ti (i:Int)]])] (dt M)=_:=l;unfold gz;rw [ho,e];refine ah ?_;rw [Jr];simp only [aK,aP,iU,ba,aQ,m.1,m.2,and_self,↓reduceIte,Q8,zF c,FJ,FK];by_cases f:x.op=1
 .simp only [aj,↓reduceIte,Int.reduceBEq,f,q,aV,aU,QD,aT];rfl
 by_cases g:x.op=2
 .simp only [aj,↓reduceIte,Int.reduceBEq,Int.reduceEq,g,s,aV,aU,QD,aT];rfl
 by_cases c3:x.op=3
 .obtain⟨k,r,b⟩:=h.no i x c c3;have hl:(0:Int)<=0/\(0:Int) < ((x.ks.length:Nat):Int):=by rw [b];simp
  have p:(enc x.ks)[0]? =some [ti k]:=by rw [b];rfl
  simp only [aj,↓reduceIte,Int.reduceBEq,Int.reduceEq,c3,zE c,aC,hl,and_self,p,aT];rw [b];rfl
 .have n:(x.op==1)=false:=by simpa using f
  have o:(x.op==2)=false:=by simpa using g
  have d3:(x.op==3)=false:=by simpa using c3
  simp only [aj,↓reduceIte,n,o,d3,f,g,c3,l,aV,aU,QD,aT];rfl
theorem la{M:Mk}(q:M.N.length<=100000){a b:Int}(n:In M a)(o:In M b):Or (.call 52) [r0,I a,I b] (dt M)=some (ti (cg M a b).1::cE (cg M a b).2):=by
 have e:=kk n 2;have i:=kk n 1;have m:=kk o 2;have g:=kk o 1;have p:=jF M q 4 s0 0 0 [a,b] false rfl (λk s=>(rv n o k s).i64 q) (by simp) (by omega) (by omega) (by omega) (by decide);replace p:Or (.call 46) [r0,I 4,AV.t (T.str s0),I 0,I 0,AV.t (T.ab 1 false [[ti a],[ti b]])] (dt M)=_:=p;unfold cg;refine ah ?_;rw [Js];by_cases c:cf M a=2
 .rw [c] at e i;simp only [aj,↓reduceIte,c,e,aV,aU,QD,aT,aQ,true_or];rfl
 by_cases d:cf M b=1
 .rw [d] at m g;have f:(cf M a==2)=false:=by simpa using c
  simp only [aj,↓reduceIte,c,d,f,e,g,aV,aU,QD,aT,aQ,true_or,or_true];rfl
 have f:(cf M a==2)=false:=by simpa using c
 have l:(cf M b==1)=false:=by simpa using d
 by_cases c3:a=b
 .subst c3;simp only [aj,↓reduceIte,c,d,f,l,e,g,aV,aU,QD,aT,aQ,or_true];rfl
 have d3:(a==b)=false:=by simpa using c3
 by_cases h:cf M a=1
 .rw [h] at i;simp only [aj,↓reduceIte,Int.reduceBEq,Int.reduceEq,d,c3,h,l,d3,e,i,g,aV,aU,QD,aT,aQ,true_or,or_self];rfl
 have d4:(cf M a==1)=false:=by simpa using h
 by_cases j:cf M b=2
 .rw [j] at m;simp only [aj,↓reduceIte,Int.reduceBEq,Int.reduceEq,c,c3,h,j,f,d3,d4,e,i,m,g,aV,aU,QD,aT,aQ,or_true,or_self];rfl
 have r:(cf M b==2)=false:=by simpa using j
 simp only [aj,↓reduceIte,c,d,c3,h,j,f,l,d3,d4,r,e,i,m,g,p,aV,aU,QD,aT,aQ,or_self];rfl
theorem tf{M:Mk}(q:M.N.length<=100000){a b:Int}(n:In M a)(o:In M b):Or (.call 53) [r0,I a,I b] (dt M)=some (ti (eC M a b).1::cE (eC M a b).2):=by
 have i:=kk n 2;have e:=kk n 1;have g:=kk o 2;have m:=kk o 1;have p:=jF M q 5 s0 0 0 [a,b] false rfl (λk s=>(rv n o k s).i64 q) (by simp) (by omega) (by omega) (by omega) (by decide);replace p:Or (.call 46) [r0,I 5,AV.t (T.str s0),I 0,I 0,AV.t (T.ab 1 false [[ti a],[ti b]])] (dt M)=_:=p;unfold eC;refine ah ?_;rw [Jt];by_cases c:cf M a=1
 .rw [c] at i e;simp only [aj,↓reduceIte,c,e,aV,aU,QD,aT,aQ,true_or];rfl
 by_cases d:cf M b=2
 .rw [d] at g m;have f:(cf M a==1)=false:=by simpa using c
  simp only [aj,↓reduceIte,c,d,f,e,g,aV,aU,QD,aT,aQ,true_or,or_true];rfl
 have f:(cf M a==1)=false:=by simpa using c
 have l:(cf M b==2)=false:=by simpa using d
 by_cases c3:a=b
 .subst c3;simp only [aj,↓reduceIte,c,d,f,l,e,g,aV,aU,QD,aT,aQ,or_true];rfl
 have d3:(a==b)=false:=by simpa using c3
 by_cases h:cf M a=2
 .rw [h] at i;simp only [aj,↓reduceIte,Int.reduceBEq,Int.reduceEq,d,c3,h,l,d3,i,e,g,aV,aU,QD,aT,aQ,true_or,or_self];rfl
 have d4:(cf M a==2)=false:=by simpa using h
 by_cases j:cf M b=1
 .rw [j] at m;simp only [aj,↓reduceIte,Int.reduceBEq,Int.reduceEq,c,c3,h,j,f,d3,d4,i,e,g,m,aV,aU,QD,aT,aQ,or_true,or_self];rfl
 have r:(cf M b==1)=false:=by simpa using j
 simp only [aj,↓reduceIte,c,d,c3,h,j,f,l,d3,d4,r,i,e,g,m,p,aV,aU,QD,aT,aQ,or_self];rfl
theorem we{M:Mk}(h:Ok M)(i:M.N.length<=100000){a b:Int}(n:In M a)(o:In M b):Or (.call 59) [r0,I a,I b] (dt M)=some (ti (dK M a b).1::cE (dK M a b).2):=by
 have p:=kk n 2;have e:=kk n 1;have q:=kk o 2;have j:=kk o 1;have r:=jF M i 6 s0 0 0 [a,b] false rfl (λk u=>(rv n o k u).i64 i) (by simp) (by omega) (by omega) (by omega) (by decide);replace r:Or (.call 46) [r0,I 6,AV.t (T.str s0),I 0,I 0,AV.t (T.ab 1 false [[ti a],[ti b]])] (dt M)=_:=r;have v:=qW h i n;have w:=qW h i o;have x:=lU i true;unfold dK;refine ah ?_;rw [JA];by_cases c:a=b
 .subst c;simp only [aj,↓reduceIte,x,aV,aU,QD,aT];rfl
 have g:(a==b)=false:=by simpa using c
 by_cases d:cf M a=1
 .rw [d] at e;simp only [aj,↓reduceIte,c,d,g,e,aV,aU,QD,aT,aQ];rfl
 have m:(cf M a==1)=false:=by simpa using d
 by_cases c3:cf M b=1
 .rw [c3] at j;simp only [aj,↓reduceIte,c,d,c3,g,m,e,j,aV,aU,QD,aT,aQ];rfl
 have d3:(cf M b==1)=false:=by simpa using c3
 by_cases f:cf M a=2
 .rw [f] at p;simp only [aj,↓reduceIte,Int.reduceBEq,Int.reduceEq,c,c3,f,g,d3,p,e,j,w,aV,aU,QD,aT,aQ];rfl
 have d4:(cf M a==2)=false:=by simpa using f
 by_cases l:cf M b=2
 .rw [l] at q;simp only [aj,↓reduceIte,Int.reduceBEq,Int.reduceEq,c,d,f,l,g,m,d4,p,e,q,j,v,aV,aU,QD,aT,aQ];rfl
 have s:(cf M b==2)=false:=by simpa using l
 simp only [aj,↓reduceIte,c,d,c3,f,l,g,m,d3,d4,s,p,e,q,j,r,aV,aU,QD,aT,aQ];rfl
theorem qX{M:Mk}(h:Ok M)(j:M.N.length<=90000){a b:Int}(d:In M a)(e:In M b):Or (.call 54) [r0,I a,I b] (dt M)=some (ti (bw M a b).1::cE (bw M a b).2):=by have g:=we h (by omega) d e;obtain⟨c,f⟩:=oX h d e;have i:=qW c.ok (by have:=c.up;omega) f;refine ah ?_;rw [Ju];simp only [aj,↓reduceIte,g,i,aV,aU,QD,aT,aQ];rfl
open Go Go.Aev Go.IntKind
def LO(l:List Int):T:=if l.isEmpty then T.ae true else T.ab 1 false (enc l)
theorem cH(l:List Int):(LO l).an 1=some (l.isEmpty,enc l):=by cases l <;> rfl
theorem eK(l:List Int)(x:Int):enc l++ [[T.int .i64 x]]=enc (l++ [x]):=by simp [enc]
theorem Up.all{M a:Mk}{c:Nat}(h:Up M a c){l:List Int}(hl:∀x∈l,Go.Aev.Gen.In M x):∀x∈l,Go.Aev.Gen.In a x:=λx b=>h.In (hl x b)
abbrev ov(M:Mk)(a:List Int):List ad:= [ad.box [o4,o2],ad.dead,ad.mp false [Ck.s] (Ck.i .i64) (bZ M.K),ad.sl false 1 false (enc a),ad.rows M.N.isEmpty 5 1 1 M.N.length (rows M.N)]
abbrev rG(M:Mk):List ad:= [ad.box [o3,o2],ad.dead,ad.mp false [Ck.s] (Ck.i .i64) (bZ M.K),ad.rows M.N.isEmpty 5 1 1 M.N.length (rows M.N)]
def aR(f:Mk->Int->Int->Int×Mk)(M:Mk):List Int->List Int->List Int×Mk
 | x::a,y::b=>((f M x y).1:: (aR f (f M x y).2 a b).1,(aR f (f M x y).2 a b).2)
 | _,_=>([],M)
theorem ql{f:Mk->Int->Int->Int×Mk}{c:Nat}(l:∀M a b,Ok M->In M a->In M b->Up M (f M a b).2 c/\In (f M a b).2 (f M a b).1):
  ∀{a b:List Int} {M:Mk},Ok M->(∀x∈a,In M x)->(∀x∈b,In M x)->a.length=b.length->
   Up M (aR f M a b).2 (c * a.length)/\(∀x∈(aR f M a b).1,In (aR f M a b).2 x)/\(aR f M a b).1.length=a.length
 | [],b,M,h,_,_,_=>by rw [show aR f M [] b= ([],M) by simp [aR]];exact⟨Up.refl h,λx p=>(by cases p),rfl⟩
 | x::a,[],M,h,_,_,e=>by cases e
 | x::a,y::b,M,h,j,k,e=>by
  obtain⟨g,m⟩:=l M x y h (j x QA) (k y QA);obtain⟨i,n,o⟩:=ql l (a:=a) (b:=b) g.ok (g.all λz d=>j z (QB _ d)) (g.all λz d=>k z (QB _ d)) (by simpa using e);refine⟨(g.trans i).mono (by rw [QJ,Nat.mul_add];omega),λz d=> ?_,by simp [aR,o]⟩;rcases QN.1 d with rfl | d
  .exact i.In m
  .exact n z d
def ft(M:Mk)(c:Int):List Int->List Int->List Int×Mk
 | x::a,y::b=>
  let p:=bw M x y;let q:=bw p.2 p.1 c
  if a.isEmpty then([q.1],q.2) else
  let r:=cg q.2 x y;let s:=cg r.2 p.1 c;let t:=eC s.2 r.1 s.1
  (q.1:: (ft t.2 t.1 a b).1,(ft t.2 t.1 a b).2)
 | _,_=>([],M)
theorem zZ(M:Mk)(c:Int)(b:List Int):ft M c [] b= ([],M):=by simp [ft]
def dB(M:Mk)(a b:List Int):List Int×Mk:=ft (cQ M false).2 (cQ M false).1 a b
structure Hc (M:Mk) (c x y:Int):Prop where
 p:Up M (bw M x y).2 2
 pi:In (bw M x y).2 (bw M x y).1
 q:Up M (bw (bw M x y).2 (bw M x y).1 c).2 4
 qi:In (bw (bw M x y).2 (bw M x y).1 c).2 (bw (bw M x y).2 (bw M x y).1 c).1
 r:Up M (cg (bw (bw M x y).2 (bw M x y).1 c).2 x y).2 5
 ri:In (cg (bw (bw M x y).2 (bw M x y).1 c).2 x y).2 (cg (bw (bw M x y).2 (bw M x y).1 c).2 x y).1
 s:Up M (cg (cg (bw (bw M x y).2 (bw M x y).1 c).2 x y).2 (bw M x y).1 c).2 6
 si:In (cg (cg (bw (bw M x y).2 (bw M x y).1 c).2 x y).2 (bw M x y).1 c).2 (cg (cg (bw (bw M x y).2 (bw M x y).1 c).2 x y).2 (bw M x y).1 c).1
 rs:In (cg (cg (bw (bw M x y).2 (bw M x y).1 c).2 x y).2 (bw M x y).1 c).2 (cg (bw (bw M x y).2 (bw M x y).1 c).2 x y).1
theorem z6{M:Mk}(h:Ok M){c x y:Int}(e:In M c)(f:In M x)(g:In M y):Hc M c x y:=by obtain⟨a,b⟩:=n5 h f g;obtain⟨d,k⟩:=n5 a.ok b (a.In e);have q:=a.trans d;obtain⟨r1,i⟩:=gG d.ok (q.In f) (q.In g);have r:=q.trans r1;obtain⟨j,l⟩:=gG r1.ok ((d.trans r1).In b) (r.In e);exact⟨a,b,q,k,r,i,r.trans j,l,j.In i⟩
theorem GH:∀{a b:List Int} {M:Mk} {c:Int},Ok M->In M c->(∀x∈a,In M x)->(∀x∈b,In M x)->a.length=b.length->
   Up M (ft M c a b).2 (7 * a.length)/\(∀x∈(ft M c a b).1,In (ft M c a b).2 x)/\(ft M c a b).1.length=a.length
 | [],b,M,c,h,_,_,_,_=>by rw [show ft M c [] b= ([],M) by simp [ft]];exact⟨Up.refl h,λx o=>(by cases o),rfl⟩
 | x::a,[],M,c,h,_,_,_,e=>by cases e
 | x::a,y::b,M,c,h,i,f,g,e=>by
  have st:=z6 h i (f x QA) (g y QA);rw [ft];dsimp only;split
  .rename_i n;have:a= []:=by simpa using n
   subst this;exact⟨st.q.mono (by simp),λz d=>by simp only [QL] at d;subst d;exact st.qi,rfl⟩
  .obtain⟨k,u⟩:=pd st.s.ok st.rs st.si;have t:=st.s.trans k;obtain⟨j,l,m⟩:=GH (a:=a) (b:=b) t.ok u (t.all λz d=>f z (QB _ d)) (t.all λz d=>g z (QB _ d)) (by simpa using e);refine⟨(t.trans j).mono (by rw [QJ,Nat.mul_add];omega),λz d=> ?_,by simp [m]⟩;rcases QN.1 d with rfl | d
   .exact j.In (k.In ((gG st.q.ok (st.q.In (f x QA)) (st.q.In (g y QA))).1.trans (gG st.r.ok ((gG st.q.ok (st.q.In (f x QA)) (st.q.In (g y QA))).1.In ((n5 st.p.ok st.pi (st.p.In i)).1.In st.pi)) (st.r.In i)).1 |>.In st.qi))
   .exact l z d
theorem GF{a b:List Int}{M:Mk}(h:Ok M)(j:∀x∈a,In M x)(k:∀x∈b,In M x)(e:a.length=b.length):
   Up M (dB M a b).2 (1+7 * a.length)/\(∀x∈(dB M a b).1,In (dB M a b).2 x)/\(dB M a b).1.length=a.length:=by
 obtain⟨c,d⟩:=iT h false;obtain⟨f,g,i⟩:=GH c.ok d (c.all j) (c.all k) e;exact⟨c.trans f,g,i⟩
theorem Bw{a:Type}{l r:List a}{i:Nat}(h:l.drop i=r)(b:i<=l.length):l.length=i+r.length:=by rw [<-h,RM];omega
theorem EE{ea eb:Bool}{a b:List Int}(X:a.length=b.length)(hl:a.length<=100):∀(f g:List Int) (i:Nat) (M:Mk) (c:Int) (e:List Int),a.drop i=f->b.drop i=g->i<=a.length->Ok M->In M c->(∀x∈f,In M x)->(∀x∈g,In M x)->M.N.length+7 * f.length<=80000->e.length=i->
  Or ot [r0,ab ea a,ab eb b,I c,o3,I (a.length:Int),I (i:Int)] (ov M e)=some (T.ab 1 false (enc (e++ (ft M c f g).1))::cE (ft M c f g).2):=by
 intro f;induction f with
 | nil=>
  intro g i M c e B C Q h k D n J j;have m:¬(i:Int) < (a.length:Int):=by have:=bh B;omega
  refine ah ?_;rw [xJ];simp only [aj,↓reduceIte,m,aT,ft,QX];rfl
 | cons x f K=>
  intro g i M c e B C Q h k D n J j;obtain⟨E,Y,A⟩:=bm B;cases g with
  | nil=>exact absurd (bh C) (by omega)
  | cons y g=>
   obtain⟨F,Z,G⟩:=bm C;have m:(i:Int) < (a.length:Int):=by omega
   have H:(i:Int) < (b.length:Int):=by omega
   have h0: 0<=(i:Int):=by omega
   have o:=D x QA;have u:=n y QA;have st:=z6 h k o u;rw [QJ] at J;have L:=qX h (by omega) o u;have O:=qX st.p.ok (by have:=st.p.up;omega) st.pi (st.p.In k);have l:=Bw A (by omega);have w:=next i (by omega);have P:bp 8 (e.length+1)=some ():=cC (by omega);rw [ft];dsimp only;cases f with
   | nil=>
    have v:¬((i+1:Nat):Int) < (a.length:Int):=by rw [QW] at l;omega
    have d:=K g (i+1) _ c (e++ [(bw (bw M x y).2 (bw M x y).1 c).1]) A G (by omega) st.q.ok (st.q.In k) (λz d=>by cases d) (st.q.all λz d=>n z (QB _ d)) (by have:=st.q.up;simp;omega) (by simp [j]);rw [zZ] at d;refine ah ?_;rw [xJ];simp only [aj,↓reduceIte,m,H,h0,and_self,aC,bH E,bH F,L,O,aV,aU,QD,aT,aQ,QM,P,w,v,eK,TE];rw [QX] at d;exact d
   | cons x2 f=>
    have v:((i+1:Nat):Int) < (a.length:Int):=by rw [QJ] at l;omega
    have R:=la (by have:=st.q.up;omega) (st.q.In o) (st.q.In u);have S:=la (by have:=st.r.up;omega) ((gG st.q.ok (st.q.In o) (st.q.In u)).1.In ((n5 st.p.ok st.pi (st.p.In k)).1.In st.pi)) (st.r.In k);have U:=tf (by have:=st.s.up;omega) st.rs st.si;obtain⟨V,W⟩:=pd st.s.ok st.rs st.si;have t:=st.s.trans V;have d:=K g (i+1) _ _ (e++ [(bw (bw M x y).2 (bw M x y).1 c).1]) A G (by omega) t.ok W (t.all λz d=>D z (QB _ d)) (t.all λz d=>n z (QB _ d)) (by have:=t.up;omega) (by simp [j]);refine ah ?_;rw [xJ];simp only [aj,↓reduceIte,m,H,h0,and_self,aC,bH E,bH F,L,O,R,S,U,aV,aU,QD,aT,aQ,QM,P,w,v,eK,Tx];simp only [Q6,Rf] at d;exact d
theorem Ga{M:Mk}(h:Ok M){ea eb:Bool}{a b:List Int}(j:a.length=b.length)(hl:a.length<=100)(G:∀x∈a,In M x)(H:∀x∈b,In M x)(O:M.N.length<=70000):
  Or (.call 55) [r0,ab ea a,ab eb b] (dt M)=some (LO (dB M a b).1::cE (dB M a b).2):=by
 have J:=lU (show M.N.length<=100000 by omega) false;obtain⟨l,V⟩:=iT h false;have g:Or ot [r0,ab ea a,ab eb b,I (cQ M false).1,AV.t (T.ae true),I (a.length:Int),I 0] (rG (cQ M false).2)=some (LO (dB M a b).1::cE (dB M a b).2):=by
  unfold dB;have A:(cQ M false).2.N.length<=70001:=by have:=l.up;omega
  revert V;generalize (cQ M false).1=c;have f:=l.all G;have e:=l.all H;have n:=l.ok;revert f e n A;generalize (cQ M false).2=m;intro A f e n k;clear J l G H h O M;cases a with
  | nil=>refine ah ?_;rw [xI];simp only [aj,↓reduceIte,aT,ft,QW,Re,Rl,decide_false];rfl
  | cons x i=>
   cases b with
   | nil=>cases j
   | cons y v=>
    have o:=f x QA;have u:=e y QA;have st:=z6 n k o u;rw [QJ] at hl;have K:=qX n (by omega) o u;have L:=qX st.p.ok (by have:=st.p.up;omega) st.pi (st.p.In k);have E:(0:Int) < (((x::i).length:Nat):Int):=by simp
    have F:(0:Int) < (((y::v).length:Nat):Int):=by simp
    have h0:(0:Int)<=0:=by omega
    have C:(enc (x::i))[(0:Int).toNat]? =some [ti x]:=rfl;have D:(enc (y::v))[(0:Int).toNat]? =some [ti y]:=rfl;have w:i64.wrap (0+1)= ((1:Nat):Int):=by decide
    rw [ft];dsimp only;cases i with
    | nil=>
     have B:¬((1:Nat):Int) < ((([x]:List Int).length:Nat):Int):=by simp
     have d:=EE (ea:=ea) (eb:=eb) j (by omega) [] v 1 _ c [(bw (bw m x y).2 (bw m x y).1 c).1] rfl rfl (by simp) st.q.ok (st.q.In k) (λz d=>by cases d) (st.q.all λz d=>e z (QB _ d)) (by have:=st.q.up;simp;omega) rfl;rw [zZ] at d;refine ah ?_;rw [xI];simp only [aj,↓reduceIte,E,F,h0,and_self,aC,C,D,K,L,aV,aU,QD,aT,aQ,w,B,TE];exact d
     | cons x2 i=>
     have B:((1:Nat):Int) < (((x::x2::i).length:Nat):Int):=by simp;omega
     have P:=la (by have:=st.q.up;omega) (st.q.In o) (st.q.In u);have Q:=la (by have:=st.r.up;omega) ((gG st.q.ok (st.q.In o) (st.q.In u)).1.In ((n5 st.p.ok st.pi (st.p.In k)).1.In st.pi)) (st.r.In k);have R:=tf (by have:=st.s.up;omega) st.rs st.si;obtain⟨S,U⟩:=pd st.s.ok st.rs st.si;have t:=st.s.trans S;have d:=EE (ea:=ea) (eb:=eb) j (by rw [QJ];omega) (x2::i) v 1 _ _ [(bw (bw m x y).2 (bw m x y).1 c).1] rfl rfl (by simp) t.ok U (t.all λz d=>f z (QB _ d)) (t.all λz d=>e z (QB _ d)) (by have:=t.up;omega) rfl;refine ah ?_;rw [xI];simp only [aj,↓reduceIte,E,F,h0,and_self,aC,C,D,K,L,P,Q,R,aV,aU,QD,aT,aQ,w,B,Tx];exact d
 generalize W:LO (dB M a b).1::cE (dB M a b).2=r at g;refine ah ?_;rw [Jv];simp only [aj,J,aV,aU,QD,aQ,aC];exact g
open Go Go.Aev Go.IntKind
abbrev Hb(M:Mk)(a:List Int):List ad:= [ad.box [o1,o2],ad.rows M.N.isEmpty 5 1 1 M.N.length (rows M.N),ad.mp false [Ck.s] (Ck.i .i64) (bZ M.K),ad.sl false 1 false (enc a)]
def eP(M:Mk)(a:List Int)(n:Int):Nat->Nat->List Int×Mk
 | _,0=>([],M)
 | i,k+1=>if(i:Int) < n then((cQ M false).1:: (eP (cQ M false).2 a n (i+1) k).1,(eP (cQ M false).2 a n (i+1) k).2)
  else(a.getD ((i:Int) - n).toNat 0:: (eP M a n (i+1) k).1,(eP M a n (i+1) k).2)
def bt(M:Mk)(a:List Int)(n:Int):List Int×Mk:=eP M a n 0 a.length
theorem KQ{a:List Int}{P:Int->Prop}(c:∀x∈a,P x){k:Nat}(b:k < a.length):P (a.getD k 0):=by rw [QI,QK b];exact c _ (Su b)
theorem yN{a:List Int}{n:Int}(l: 0<=n):∀{k i:Nat} {M:Mk},Ok M->(∀x∈a,In M x)->i+k=a.length->
  Up M (eP M a n i k).2 k/\(∀x∈(eP M a n i k).1,In (eP M a n i k).2 x)/\(eP M a n i k).1.length=k
 | 0,i,M,h,_,_=>⟨Up.refl h,λx o=>(by cases o),rfl⟩
 | k+1,i,M,h,j,e=>by
  rw [eP];split
  .obtain⟨d,m⟩:=iT h false;obtain⟨c,f,g⟩:=yN l (k:=k) (i:=i+1) d.ok (d.all j) (by omega);refine⟨(d.trans c).mono (by omega),λz b=> ?_,by simp [g]⟩;rcases QN.1 b with rfl | b
   .exact c.In m
   .exact f z b
  .obtain⟨c,f,g⟩:=yN l (k:=k) (i:=i+1) h j (by omega);refine⟨c.mono (by omega),λz b=> ?_,by simp [g]⟩;rcases QN.1 b with rfl | b
   .exact c.In (KQ j (by omega))
   .exact f z b
theorem sD{M:Mk}{a:List Int}{n:Int}(c: 0<=n)(h:Ok M)(b:∀x∈a,In M x):
  Up M (bt M a n).2 a.length/\(∀x∈(bt M a n).1,In (bt M a n).2 x)/\(bt M a n).1.length=a.length:=yN c h b (Rh _)
theorem MD{ea:Bool}{a:List Int}{n:Int}(v: 0<=n)(u:n<=1000)(hl:a.length<=100):∀(k i:Nat) (M:Mk) (b:List Int),i+k=a.length->Ok M->M.N.length+k<=80000->b.length=i->
  Or jh [r0,ab ea a,I n,o3,I (a.length:Int),I (i:Int)] (ov M b)=some (T.ab 1 false (enc (b++ (eP M a n i k).1))::cE (eP M a n i k).2):=by
 intro k;induction k with
 | zero=>
  intro i M b r h p c;have e:¬(i:Int) < (a.length:Int):=by omega
  refine ah ?_;rw [xL];simp only [aj,↓reduceIte,e,aT,eP,QX];rfl
 | succ k j=>
  intro i M b r h p c;have e:(i:Int) < (a.length:Int):=by omega
  have w:=next i (by omega);have l:bp 8 (b.length+1)=some ():=cC (by omega);rw [eP];by_cases f:(i:Int) < n
  .have s:=lU (show M.N.length<=100000 by omega) false;obtain⟨m,x⟩:=iT h false;have d:=j (i+1) _ (b++ [(cQ M false).1]) (by omega) m.ok (by have:=m.up;omega) (by simp [c]);rw [if_pos f];simp only [Q6,Rf] at d;refine ah ?_;rw [xL];simp only [aj,↓reduceIte,e,f,s,aV,aU,QD,aT,aQ,aC,QM,l,w,eK];exact d
  .have t:i64.wrap ((i:Int) - n)= (i:Int) - n:=wr (by omega);have o: 0<=(i:Int) - n/\(i:Int) - n < (a.length:Int):=by omega
   have g:((i:Int) - n).toNat < a.length:=by omega
   have q:(enc a)[((i:Int) - n).toNat]? =some [ti (a.getD ((i:Int) - n).toNat 0)]:=by refine fj ?_;rw [QI,QK g];rfl
   have d:=j (i+1) M (b++ [a.getD ((i:Int) - n).toNat 0]) (by omega) h (by omega) (by simp [c]);rw [if_neg f];simp only [Q6,Rf] at d;refine ah ?_;rw [xL];simp only [aj,↓reduceIte,e,f,t,o,and_self,q,aT,aC,QM,l,w,eK];exact d
theorem ME{ea:Bool}{a:List Int}{n:Int}(s: 0<=n)(r:n<=1000)(hl:a.length<=100):∀(k i:Nat) (M:Mk) (b:List Int),i+k=a.length->n<=(i:Int)->b.length=i->
  Or jh [r0,ab ea a,I n,o3,I (a.length:Int),I (i:Int)] (Hb M b)=some (T.ab 1 false (enc (b++ (eP M a n i k).1))::cE (eP M a n i k).2):=by
 intro k;induction k with
 | zero=>
  intro i M b m h c;have e:¬(i:Int) < (a.length:Int):=by omega
  refine ah ?_;rw [Cr];simp only [aj,↓reduceIte,e,aT,eP,QX];rfl
 | succ k o=>
  intro i M b m h c;have e:(i:Int) < (a.length:Int):=by omega
  have w:=next i (by omega);have p:bp 8 (b.length+1)=some ():=cC (by omega);rw [eP];have d:¬(i:Int) < n:=by omega
  have q:i64.wrap ((i:Int) - n)= (i:Int) - n:=wr (by omega);have j: 0<=(i:Int) - n/\(i:Int) - n < (a.length:Int):=by omega
  have f:((i:Int) - n).toNat < a.length:=by omega
  have l:(enc a)[((i:Int) - n).toNat]? =some [ti (a.getD ((i:Int) - n).toNat 0)]:=by refine fj ?_;rw [QI,QK f];rfl
  have g:=o (i+1) M (b++ [a.getD ((i:Int) - n).toNat 0]) (by omega) (by omega) (by simp [c]);rw [if_neg d];simp only [Q6,Rf] at g;refine ah ?_;rw [Cr];simp only [aj,↓reduceIte,e,d,q,j,and_self,l,aT,aC,QM,p,w,eK];exact g
theorem zL{M:Mk}(h:Ok M){ea:Bool}{a:List Int}{n:Int}(j: 0<=n)(e:n<=1000)(hl:a.length<=100)(s:M.N.length<=70000):
  Or (.call 57) [r0,ab ea a,I n] (dt M)=some (LO (bt M a n).1::cE (bt M a n).2):=by
 have c:Or jh [r0,ab ea a,I n,AV.t (T.ae true),I (a.length:Int),I 0] (dt M)=some (LO (bt M a n).1::cE (bt M a n).2):=by
  unfold bt;cases a with
  | nil=>refine ah ?_;rw [xK];simp only [aj,↓reduceIte,aT,eP,QW,Re,Rl,decide_false];rfl
  | cons x b=>
   rw [QJ] at hl;have i:(0:Int) < (((x::b).length:Nat):Int):=by simp
   have w:i64.wrap (0+1)= ((1:Nat):Int):=by decide
   rw [show eP M (x::b) n 0 (x::b).length=eP M (x::b) n 0 (b.length+1) from rfl,eP];by_cases f:(0:Int) < n
   .have p:=lU (show M.N.length<=100000 by omega) false;obtain⟨k,v⟩:=iT h false;have g:=MD (ea:=ea) (a:=x::b) j e (by rw [QJ];omega) b.length 1 _ [(cQ M false).1] (by rw [QJ];omega) k.ok (by have:=k.up;omega) rfl;have d:((0:Nat):Int) < n:=f;rw [if_pos d];refine ah ?_;rw [xK];simp only [aj,↓reduceIte,i,f,p,aV,aU,QD,aT,aQ,w];exact g
   .have l:n=0:=by omega
    subst l;have q:i64.wrap (0 - 0)=0:=by decide
    have m:(0:Int)<=0:=by omega
    have o:(enc (x::b))[(0:Int).toNat]? =some [ti x]:=rfl;have g:=ME (ea:=ea) (a:=x::b) (n:=0) j e (by rw [QJ];omega) b.length 1 M [x] (by rw [QJ];omega) (by omega) rfl;have d:¬((0:Nat):Int) < 0:=by omega
    rw [if_neg d];refine ah ?_;rw [xK];simp only [aj,↓reduceIte,i,f,q,m,and_self,o,aC,aT,w];exact g
 generalize u:LO (bt M a n).1::cE (bt M a n).2=r at c;refine ah ?_;rw [Jy];simp only [aC];exact c
def cB(M:Mk)(x:Int):List Int->List Int×Mk
 | y::l=>((cg M x y).1:: (cB (cg M x y).2 x l).1,(cB (cg M x y).2 x l).2)
 | []=>([],M)
def gO(M:Mk)(a out:List Int):Nat->List Int->List Int×Mk
 | i,x::b=>
  let l:=bt M a (i:Int);let p:=cB l.2 x l.1;let s:=dB p.2 out p.1
  gO s.2 a s.1 (i+1) b
 | _,[]=>(out,M)
def je(M:Mk)(a b:List Int):List Int×Mk:=gO (bt M a (a.length:Int)).2 a (bt M a (a.length:Int)).1 0 b
theorem Fe{x:Int}:∀{l:List Int} {M:Mk},Ok M->In M x->(∀y∈l,In M y)->
  Up M (cB M x l).2 l.length/\(∀y∈(cB M x l).1,In (cB M x l).2 y)/\(cB M x l).1.length=l.length
 | [],M,h,_,_=>⟨Up.refl h,λx c=>(by cases c),rfl⟩
 | y::l,M,h,c,hl=>by
  obtain⟨b,e⟩:=gG h c (hl y QA);obtain⟨d,f,g⟩:=Fe (l:=l) b.ok (b.In c) (b.all λz a=>hl z (QB _ a));refine⟨(b.trans d).mono (by rw [QJ];omega),λz a=> ?_,by simp [cB,g]⟩;rcases QN.1 a with rfl | a
  .exact d.In e
  .exact f z a
structure Hd (M:Mk) (a out:List Int) (i:Nat) (x:Int):Prop where
 l:Up M (bt M a (i:Int)).2 a.length
 li:∀y∈(bt M a (i:Int)).1,In (bt M a (i:Int)).2 y
 ll:(bt M a (i:Int)).1.length=a.length
 p:Up M (cB (bt M a (i:Int)).2 x (bt M a (i:Int)).1).2 (2 * a.length)
 pi:∀y∈(cB (bt M a (i:Int)).2 x (bt M a (i:Int)).1).1,In (cB (bt M a (i:Int)).2 x (bt M a (i:Int)).1).2 y
 pl:(cB (bt M a (i:Int)).2 x (bt M a (i:Int)).1).1.length=a.length
 s:Up M (dB (cB (bt M a (i:Int)).2 x (bt M a (i:Int)).1).2 out (cB (bt M a (i:Int)).2 x (bt M a (i:Int)).1).1).2 (9 * a.length+1)
 si:∀y∈(dB (cB (bt M a (i:Int)).2 x (bt M a (i:Int)).1).2 out (cB (bt M a (i:Int)).2 x (bt M a (i:Int)).1).1).1,In (dB (cB (bt M a (i:Int)).2 x (bt M a (i:Int)).1).2 out (cB (bt M a (i:Int)).2 x (bt M a (i:Int)).1).1).2 y
 sl:(dB (cB (bt M a (i:Int)).2 x (bt M a (i:Int)).1).2 out (cB (bt M a (i:Int)).2 x (bt M a (i:Int)).1).1).1.length=a.length
theorem GQ{M:Mk}(h:Ok M){a out:List Int}(m:∀y∈a,In M y)(ho:∀y∈out,In M y)(c:out.length=a.length)(i:Nat){x:Int}(o:In M x):Hd M a out i x:=by obtain⟨b,e,f⟩:=sD (n:=(i:Int)) (by omega) h m;obtain⟨g,j,d⟩:=Fe b.ok (b.In o) e;rw [f] at g d;have p:=(b.trans g).mono (show a.length+a.length<=2 * a.length by omega);obtain⟨k,q,l⟩:=GF p.ok (p.all ho) j (by rw [c,d]);rw [c] at k l;exact⟨b,e,f,p,j,d,(p.trans k).mono (by omega),q,l⟩
theorem GP{a:List Int}:∀{b:List Int} {i:Nat} {M:Mk} {out:List Int},Ok M->(∀y∈a,In M y)->(∀y∈b,In M y)->(∀y∈out,In M y)->out.length=a.length->
  Up M (gO M a out i b).2 ((9 * a.length+1) * b.length)/\(∀y∈(gO M a out i b).1,In (gO M a out i b).2 y)/\(gO M a out i b).1.length=a.length
 | [],i,M,out,h,_,_,ho,hl=>⟨(Up.refl h).mono (by omega),ho,hl⟩
 | x::b,i,M,out,h,c,d,ho,hl=>by have st:=GQ h c ho hl i (d x QA);obtain⟨e,f,g⟩:=GP (a:=a) (b:=b) (i:=i+1) st.s.ok (st.s.all c) (st.s.all λz j=>d z (QB _ j)) st.si st.sl;exact⟨(st.s.trans e).mono (by rw [QJ,Nat.mul_add];omega),f,g⟩
theorem P9{M:Mk}(h:Ok M){a b:List Int}(d:∀y∈a,In M y)(j:∀y∈b,In M y):
  Up M (je M a b).2 (a.length+ (9 * a.length+1) * b.length)/\(∀y∈(je M a b).1,In (je M a b).2 y)/\(je M a b).1.length=a.length:=by
 obtain⟨c,k,l⟩:=sD (n:=(a.length:Int)) (by omega) h d;obtain⟨e,f,g⟩:=GP (a:=a) (b:=b) (i:=0) c.ok (c.all d) (c.all j) k l;exact⟨c.trans e,f,g⟩
theorem MC{ea eo eb el:Bool}{a out b l:List Int}{x:Int}{i:Nat}(hl:l.length<=100)(E:out.length=l.length)(G:i<=100){r:List T}:∀(rl:List Int) (j:Nat) (M:Mk) (c:List Int),l.drop j=rl->j<=l.length->Ok M->In M x->(∀y∈rl,In M y)->(∀y∈out,In M y)->(∀y∈c,In M y)->M.N.length+rl.length<=60000->c.length=j->
  Or pJ [r0,ab ea a,ab (dB (cB M x rl).2 out (c++ (cB M x rl).1)).1.isEmpty (dB (cB M x rl).2 out (c++ (cB M x rl).1)).1,ab eb b,I (b.length:Int),I ((i+1:Nat):Int)] (rG (dB (cB M x rl).2 out (c++ (cB M x rl).1)).2)=some r->
  Or ou [r0,ab ea a,ab eo out,I x,o3,ab eb b,I (b.length:Int),I (i:Int),ab el l,I (l.length:Int),I (j:Int)] (ov M c)=some r:=by
 intro rl;induction rl with
 | nil=>
  intro j M c m w h n hrl ho d q o f;have p:¬(j:Int) < (l.length:Int):=by have:=bh m;omega
  have D:j=l.length:=by have:=bh m;omega
  rw [cB,QX] at f;have s:=Ga (ea:=eo) (eb:=false) h (a:=out) (b:=c) (by omega) (by omega) ho d (by simp at q;omega);refine ah ?_;rw [Cq];simp only [aj,↓reduceIte,p,s,aV,aU,QD,aQ,cH,next i (by omega)];exact f
 | cons y rl A=>
  intro j M c m w h n hrl ho d q o f;obtain⟨u,F,v⟩:=bm m;have p:(j:Int) < (l.length:Int):=by omega
  have h0: 0<=(j:Int):=by omega
  have t:=hrl y QA;rw [QJ] at q;have s:=la (show M.N.length<=100000 by omega) n t;obtain⟨e,C⟩:=gG h n t;have B:bp 8 (c.length+1)=some ():=cC (by omega);have k:=A (j+1) _ (c++ [(cg M x y).1]) v (by omega) e.ok (e.In n) (e.all λz k=>hrl z (QB _ k)) (e.all ho) (λz k=> ?_) (by have:=e.up;omega) (by simp [o]) (by
   rw [cB] at f;simpa only [Q6,Rf] using f)
  .refine ah ?_;rw [Cq];simp only [aj,↓reduceIte,p,h0,and_self,aC,bH u,s,aV,aU,QD,aQ,QM,B,next j (by omega),eK];exact k
  .rcases QR.1 k with g | g
   .exact e.In (d z g)
   .simp only [QL] at g;subst g;exact C
theorem MB{ea eb:Bool}{a b:List Int}(V: 1<=a.length)(hl:a.length<=8)(W:b.length<=8):∀(c:List Int) (i:Nat) (M:Mk) (out:List Int),b.drop i=c->i<=b.length->Ok M->(∀y∈a,In M y)->(∀y∈c,In M y)->(∀y∈out,In M y)->out.length=a.length->M.N.length+100 * c.length<=50000->
  Or pJ [r0,ab ea a,ab out.isEmpty out,ab eb b,I (b.length:Int),I (i:Int)] (rG M)=some (T.ab 1 (gO M a out i c).1.isEmpty (enc (gO M a out i c).1)::cE (gO M a out i c).2):=by
 intro c;induction c with
 | nil=>
  intro i M out q L h j u ho o v;have r:¬(i:Int) < (b.length:Int):=by have:=bh q;omega
  rw [gO];refine ah ?_;rw [Cp];simp only [aj,↓reduceIte,r,aT];rfl
 | cons x c P=>
  intro i M out q L h j u ho o v;obtain⟨E,X,F⟩:=bm q;have r:(i:Int) < (b.length:Int):=by omega
  have h0: 0<=(i:Int):=by omega
  have C:=u x QA;rw [QJ] at v;have st:=GQ h j ho o i C;have Q:=zL (ea:=ea) h (a:=a) (n:=(i:Int)) h0 (by omega) (by omega) (by omega);rw [gO];have d:=P (i+1) _ _ F (by omega) st.s.ok (st.s.all j) (st.s.all λz d=>u z (QB _ d)) st.si st.sl (by have:=st.s.up;omega)
  have A:Or ou [r0,ab ea a,ab out.isEmpty out,I x,AV.t (T.ae true),ab eb b,I (b.length:Int),I (i:Int),ab (bt M a (i:Int)).1.isEmpty (bt M a (i:Int)).1,I ((bt M a (i:Int)).1.length:Int),I 0] (rG (bt M a (i:Int)).2)=
    some (T.ab 1 (gO (dB (cB (bt M a (i:Int)).2 x (bt M a (i:Int)).1).2 out (cB (bt M a (i:Int)).2 x (bt M a (i:Int)).1).1).2 a (dB (cB (bt M a (i:Int)).2 x (bt M a (i:Int)).1).2 out (cB (bt M a (i:Int)).2 x (bt M a (i:Int)).1).1).1 (i+1) c).1.isEmpty (enc (gO (dB (cB (bt M a (i:Int)).2 x (bt M a (i:Int)).1).2 out (cB (bt M a (i:Int)).2 x (bt M a (i:Int)).1).1).2 a (dB (cB (bt M a (i:Int)).2 x (bt M a (i:Int)).1).2 out (cB (bt M a (i:Int)).2 x (bt M a (i:Int)).1).1).1 (i+1) c).1)::
     cE (gO (dB (cB (bt M a (i:Int)).2 x (bt M a (i:Int)).1).2 out (cB (bt M a (i:Int)).2 x (bt M a (i:Int)).1).1).2 a (dB (cB (bt M a (i:Int)).2 x (bt M a (i:Int)).1).2 out (cB (bt M a (i:Int)).2 x (bt M a (i:Int)).1).1).1 (i+1) c).2):=by
   obtain⟨e,k,m⟩:=sD (n:=(i:Int)) (by omega) h j;revert d e k m;generalize (bt M a (i:Int)).1=l;generalize (bt M a (i:Int)).2=p;intro d e k m;have U:p.N.length<=50010:=by have:=e.up;omega
   have f:=e.In C;have B:=e.all ho;have G:=e.ok;cases l with
   | nil=>rw [QW] at m;omega
   | cons y rl=>
    rw [QJ] at m;have D:=k y QA;have R:=la (show p.N.length<=100000 by omega) f D;obtain⟨g,S⟩:=gG G f D;have H:(0:Int) < (((y::rl).length:Nat):Int):=by simp
    have J:(0:Int)<=0:=by omega
    have K:(enc (y::rl))[(0:Int).toNat]? =some [ti y]:=rfl;have w:i64.wrap (0+1)= ((1:Nat):Int):=by decide
    have O:=MC (ea:=ea) (eo:=out.isEmpty) (eb:=eb) (el:=false) (a:=a) (out:=out) (b:=b) (l:=y::rl) (x:=x) (i:=i) (by rw [QJ];omega) (by rw [QJ];omega) (by omega) rl 1 _ [(cg p x y).1] rfl (by simp) g.ok (g.In f) (g.all λz d=>k z (QB _ d)) (g.all B) (λz d=>by simp only [QL] at d;subst d;exact S) (by have:=g.up;omega) rfl d;refine ah ?_;rw [Jx];simp only [aj,↓reduceIte,H,J,and_self,aC,K,R,aV,aU,QD,aQ,w,Tx];exact O
  refine ah ?_;rw [Cp];simp only [aj,↓reduceIte,r,h0,and_self,aC,bH E,Q,aV,aU,QD,aT,aQ,cH];exact A
theorem OY{M:Mk}(h:Ok M){ea eb:Bool}{a b:List Int}(e: 1<=a.length)(hl:a.length<=8)(f:b.length<=8)(d:∀y∈a,In M y)(g:∀y∈b,In M y)(m:M.N.length<=40000):
  Or (.call 56) [r0,ab ea a,ab eb b] (dt M)=some (T.ab 1 (je M a b).1.isEmpty (enc (je M a b).1)::cE (je M a b).2):=by
 have j:=zL (ea:=ea) h (a:=a) (n:=(a.length:Int)) (by omega) (by omega) (by omega) (by omega);obtain⟨c,k,l⟩:=sD (n:=(a.length:Int)) (by omega) h d;have i:=MB (ea:=ea) (eb:=eb) e hl f b 0 _ _ rfl (by omega) c.ok (c.all d) (c.all g) k l (by have:=c.up;omega);unfold je;refine ah ?_;rw [Jw];simp only [aj,j,aV,aU,QD,aQ,cH,aC];exact i
def gZ(M:Mk)(c:Int):List Int->List Int->Int×Mk
 | x::a,y::b=>
  let n:=gz M x;let p:=cg n.2 n.1 y;let q:=dK p.2 x y;let s:=cg q.2 q.1 c;let t:=eC s.2 p.1 s.1
  gZ t.2 t.1 a b
 | _,_=>(c,M)
def kO(M:Mk)(a b:List Int):Int×Mk:=gZ (cQ M false).2 (cQ M false).1 a b
theorem Lk(M:Mk)(c:Int)(b:List Int):gZ M c [] b= (c,M):=by simp [gZ]
theorem MH{ea eb:Bool}{a b:List Int}(hab:a.length=b.length)(hl:a.length<=100):∀(d e:List Int) (i:Nat) (M:Mk) (c:Int),a.drop i=d->b.drop i=e->i<=a.length->Ok M->In M c->(∀x∈d,In M x)->(∀x∈e,In M x)->M.N.length+5 * d.length<=80000->
  Or wO [r0,ab ea a,ab eb b,I c,I (a.length:Int),I (i:Int)] (rG M)=some (ti (gZ M c d e).1::cE (gZ M c d e).2)/\Up M (gZ M c d e).2 (5 * d.length)/\In (gZ M c d e).2 (gZ M c d e).1:=by
 intro d;induction d with
 | nil=>
  intro e i M c l m L h g o r A;have n:¬(i:Int) < (a.length:Int):=by have:=bh l;omega
  rw [Lk];refine⟨ah ?_,Up.refl h,g⟩;rw [Cs];simp only [aj,↓reduceIte,n,aT];rfl
 | cons x d O=>
  intro e i M c l m L h g o r A;obtain⟨F,g2,G⟩:=bm l;cases e with
  | nil=>exact absurd (bh m) (by omega)
  | cons y e=>
   obtain⟨H,g5,J⟩:=bm m;have n:(i:Int) < (a.length:Int):=by omega
   have K:(i:Int) < (b.length:Int):=by omega
   have h0: 0<=(i:Int):=by omega
   have j:=o x QA;have k:=r y QA;rw [QJ] at A;obtain⟨f,B⟩:=o9 h j;obtain⟨U,C⟩:=gG f.ok B (f.In k);have p:=f.trans U;obtain⟨v,D⟩:=oX p.ok (p.In j) (p.In k);have q:=p.trans v;obtain⟨w,E⟩:=gG q.ok D (q.In g);have s:=q.trans w;obtain⟨V,W⟩:=pd s.ok ((v.trans w).In C) E;have t:=s.trans V;have P:=qW h (by omega) j;have Q:=la (by have:=f.up;omega) B (f.In k);have R:=we p.ok (by have:=p.up;omega) (p.In j) (p.In k);have S:=la (by have:=q.up;omega) D (q.In g);have T:=tf (by have:=s.up;omega) ((v.trans w).In C) E;obtain⟨X,Y,Z⟩:=O e (i+1) _ _ G J (by omega) t.ok W (t.all λz u=>o z (QB _ u)) (t.all λz u=>r z (QB _ u)) (by have:=t.up;omega);rw [gZ];refine⟨ah ?_,(t.trans Y).mono (by rw [QJ];omega),Z⟩;rw [Cs];simp only [aj,↓reduceIte,n,K,h0,and_self,aC,bH F,bH H,P,Q,R,S,T,aV,aU,QD,aT,aQ,next i (by omega)];exact X
theorem Gb{M:Mk}(h:Ok M){ea eb:Bool}{a b:List Int}(d:a.length=b.length)(hl:a.length<=100)(e:∀x∈a,In M x)(f:∀x∈b,In M x)(m:M.N.length<=70000):
  Or (.call 58) [r0,ab ea a,ab eb b] (dt M)=some (ti (kO M a b).1::cE (kO M a b).2)/\Up M (kO M a b).2 (1+5 * a.length)/\In (kO M a b).2 (kO M a b).1:=by
 have g:=lU (show M.N.length<=100000 by omega) false;obtain⟨c,i⟩:=iT h false;obtain⟨j,k,l⟩:=MH (ea:=ea) (eb:=eb) d hl a b 0 _ _ rfl rfl (by omega) c.ok i (c.all e) (c.all f) (by have:=c.up;omega);unfold kO;refine⟨ah ?_,c.trans k,l⟩;rw [Jz];simp only [aj,g,aV,aU,QD,aQ,aC];exact j
theorem Mx{ea eb:Bool}{a b:List Int}(E:a.length=b.length)(hl:a.length<=100):∀(e d:List Int) (i:Nat) (M:Mk) (c:List Int),a.drop i=e->b.drop i=d->i<=a.length->Ok M->(∀x∈e,In M x)->(∀x∈d,In M x)->M.N.length+2 * e.length<=80000->c.length=i->
  Or dP [ab ea a,ab eb b,AV.fn 52 [r0] [],o3,I (a.length:Int),I (i:Int)] (ov M c)=some (T.ab 1 false (enc (c++ (aR cg M e d).1))::cE (aR cg M e d).2):=by
 intro e;induction e with
 | nil=>
  intro d i M c k l A h n o p g;have m:¬(i:Int) < (a.length:Int):=by have:=bh k;omega
  refine ah ?_;rw [Cm];simp only [aj,↓reduceIte,m,aT,aR,QX];rfl
 | cons x e B=>
  intro d i M c k l A h n o p g;obtain⟨s,F,t⟩:=bm k;cases d with
  | nil=>exact absurd (bh l) (by omega)
  | cons y d=>
   obtain⟨u,G,v⟩:=bm l;have m:(i:Int) < (a.length:Int):=by omega
   have w:(i:Int) < (b.length:Int):=by omega
   have h0: 0<=(i:Int):=by omega
   have q:=n x QA;have r:=o y QA;rw [QJ] at p;have C:=la (show M.N.length<=100000 by omega) q r;obtain⟨j,H⟩:=gG h q r;have D:bp 8 (c.length+1)=some ():=cC (by omega);have f:=B d (i+1) _ (c++ [(cg M x y).1]) t v (by omega) j.ok (j.all λz f=>n z (QB _ f)) (j.all λz f=>o z (QB _ f)) (by have:=j.up;omega) (by simp [g]);simp only [Q6,Rf] at f;rw [aR];refine ah ?_;rw [Cm];simp only [aj,↓reduceIte,m,w,h0,and_self,aC,bH s,bH u,C,aV,aU,QD,aT,aQ,QM,D,next i (by omega),eK];exact f
theorem OU{M:Mk}(h:Ok M){ea eb:Bool}{a b:List Int}(f:a.length=b.length)(hl:a.length<=100)(j:∀x∈a,In M x)(k:∀x∈b,In M x)(v:M.N.length<=70000):
  Or (.call 48) [ab ea a,ab eb b,AV.fn 52 [r0] []] (dt M)=some (LO (aR cg M a b).1::cE (aR cg M a b).2):=by
 have c:Or dP [ab ea a,ab eb b,AV.fn 52 [r0] [],AV.t (T.ae true),I (a.length:Int),I 0] (dt M)=some (LO (aR cg M a b).1::cE (aR cg M a b).2):=by
  cases a with
  | nil=>refine ah ?_;rw [Cg];simp only [aj,↓reduceIte,aT,aR,QW,Re,Rl,decide_false];rfl
  | cons x g=>
   cases b with
   | nil=>cases f
   | cons y i=>
    have m:=j x QA;have n:=k y QA;have u:=la (show M.N.length<=100000 by omega) m n;obtain⟨e,B⟩:=gG h m n;have q:(0:Int) < (((x::g).length:Nat):Int):=by simp
    have s:(0:Int) < (((y::i).length:Nat):Int):=by simp
    have h0:(0:Int)<=0:=by omega
    have o:(enc (x::g))[(0:Int).toNat]? =some [ti x]:=rfl;have p:(enc (y::i))[(0:Int).toNat]? =some [ti y]:=rfl;have w:i64.wrap (0+1)= ((1:Nat):Int):=by decide
    have l:=hl;rw [QJ] at l;have d:=Mx (ea:=ea) (eb:=eb) f hl g i 1 _ [(cg M x y).1] rfl rfl (by simp) e.ok (e.all λz d=>j z (QB _ d)) (e.all λz d=>k z (QB _ d)) (by have:=e.up;omega) rfl;rw [aR];refine ah ?_;rw [Cg];simp only [aj,↓reduceIte,q,s,h0,and_self,aC,o,p,u,aV,aU,QD,aT,aQ,w];exact d
 generalize A:LO (aR cg M a b).1::cE (aR cg M a b).2=r at c;refine ah ?_;rw [Jl];simp only [aC];exact c
theorem My{ea eb:Bool}{a b:List Int}(E:a.length=b.length)(hl:a.length<=100):∀(e d:List Int) (i:Nat) (M:Mk) (c:List Int),a.drop i=e->b.drop i=d->i<=a.length->Ok M->(∀x∈e,In M x)->(∀x∈d,In M x)->M.N.length+2 * e.length<=80000->c.length=i->
  Or dP [ab ea a,ab eb b,AV.fn 53 [r0] [],o3,I (a.length:Int),I (i:Int)] (ov M c)=some (T.ab 1 false (enc (c++ (aR eC M e d).1))::cE (aR eC M e d).2):=by
 intro e;induction e with
 | nil=>
  intro d i M c k l A h n o p g;have m:¬(i:Int) < (a.length:Int):=by have:=bh k;omega
  refine ah ?_;rw [Cn];simp only [aj,↓reduceIte,m,aT,aR,QX];rfl
 | cons x e B=>
  intro d i M c k l A h n o p g;obtain⟨s,F,t⟩:=bm k;cases d with
  | nil=>exact absurd (bh l) (by omega)
  | cons y d=>
   obtain⟨u,G,v⟩:=bm l;have m:(i:Int) < (a.length:Int):=by omega
   have w:(i:Int) < (b.length:Int):=by omega
   have h0: 0<=(i:Int):=by omega
   have q:=n x QA;have r:=o y QA;rw [QJ] at p;have C:=tf (show M.N.length<=100000 by omega) q r;obtain⟨j,H⟩:=pd h q r;have D:bp 8 (c.length+1)=some ():=cC (by omega);have f:=B d (i+1) _ (c++ [(eC M x y).1]) t v (by omega) j.ok (j.all λz f=>n z (QB _ f)) (j.all λz f=>o z (QB _ f)) (by have:=j.up;omega) (by simp [g]);simp only [Q6,Rf] at f;rw [aR];refine ah ?_;rw [Cn];simp only [aj,↓reduceIte,m,w,h0,and_self,aC,bH s,bH u,C,aV,aU,QD,aT,aQ,QM,D,next i (by omega),eK];exact f
theorem OV{M:Mk}(h:Ok M){ea eb:Bool}{a b:List Int}(f:a.length=b.length)(hl:a.length<=100)(j:∀x∈a,In M x)(k:∀x∈b,In M x)(v:M.N.length<=70000):
  Or (.call 48) [ab ea a,ab eb b,AV.fn 53 [r0] []] (dt M)=some (LO (aR eC M a b).1::cE (aR eC M a b).2):=by
 have c:Or dP [ab ea a,ab eb b,AV.fn 53 [r0] [],AV.t (T.ae true),I (a.length:Int),I 0] (dt M)=some (LO (aR eC M a b).1::cE (aR eC M a b).2):=by
  cases a with
  | nil=>refine ah ?_;rw [Ch];simp only [aj,↓reduceIte,aT,aR,QW,Re,Rl,decide_false];rfl
  | cons x g=>
   cases b with
   | nil=>cases f
   | cons y i=>
    have m:=j x QA;have n:=k y QA;have u:=tf (show M.N.length<=100000 by omega) m n;obtain⟨e,B⟩:=pd h m n;have q:(0:Int) < (((x::g).length:Nat):Int):=by simp
    have s:(0:Int) < (((y::i).length:Nat):Int):=by simp
    have h0:(0:Int)<=0:=by omega
    have o:(enc (x::g))[(0:Int).toNat]? =some [ti x]:=rfl;have p:(enc (y::i))[(0:Int).toNat]? =some [ti y]:=rfl;have w:i64.wrap (0+1)= ((1:Nat):Int):=by decide
    have l:=hl;rw [QJ] at l;have d:=My (ea:=ea) (eb:=eb) f hl g i 1 _ [(eC M x y).1] rfl rfl (by simp) e.ok (e.all λz d=>j z (QB _ d)) (e.all λz d=>k z (QB _ d)) (by have:=e.up;omega) rfl;rw [aR];refine ah ?_;rw [Ch];simp only [aj,↓reduceIte,q,s,h0,and_self,aC,o,p,u,aV,aU,QD,aT,aQ,w];exact d
 generalize A:LO (aR eC M a b).1::cE (aR eC M a b).2=r at c;refine ah ?_;rw [Jm];simp only [aC];exact c
theorem Mz{ea eb:Bool}{a b:List Int}(E:a.length=b.length)(hl:a.length<=100):∀(e d:List Int) (i:Nat) (M:Mk) (c:List Int),a.drop i=e->b.drop i=d->i<=a.length->Ok M->(∀x∈e,In M x)->(∀x∈d,In M x)->M.N.length+2 * e.length<=80000->c.length=i->
  Or dP [ab ea a,ab eb b,AV.fn 54 [r0] [],o3,I (a.length:Int),I (i:Int)] (ov M c)=some (T.ab 1 false (enc (c++ (aR bw M e d).1))::cE (aR bw M e d).2):=by
 intro e;induction e with
 | nil=>
  intro d i M c k l A h n o p g;have m:¬(i:Int) < (a.length:Int):=by have:=bh k;omega
  refine ah ?_;rw [Co];simp only [aj,↓reduceIte,m,aT,aR,QX];rfl
 | cons x e B=>
  intro d i M c k l A h n o p g;obtain⟨s,F,t⟩:=bm k;cases d with
  | nil=>exact absurd (bh l) (by omega)
  | cons y d=>
   obtain⟨u,G,v⟩:=bm l;have m:(i:Int) < (a.length:Int):=by omega
   have w:(i:Int) < (b.length:Int):=by omega
   have h0: 0<=(i:Int):=by omega
   have q:=n x QA;have r:=o y QA;rw [QJ] at p;have C:=qX h (by omega) q r;obtain⟨j,H⟩:=n5 h q r;have D:bp 8 (c.length+1)=some ():=cC (by omega);have f:=B d (i+1) _ (c++ [(bw M x y).1]) t v (by omega) j.ok (j.all λz f=>n z (QB _ f)) (j.all λz f=>o z (QB _ f)) (by have:=j.up;omega) (by simp [g]);simp only [Q6,Rf] at f;rw [aR];refine ah ?_;rw [Co];simp only [aj,↓reduceIte,m,w,h0,and_self,aC,bH s,bH u,C,aV,aU,QD,aT,aQ,QM,D,next i (by omega),eK];exact f
theorem OW{M:Mk}(h:Ok M){ea eb:Bool}{a b:List Int}(f:a.length=b.length)(hl:a.length<=100)(j:∀x∈a,In M x)(k:∀x∈b,In M x)(v:M.N.length<=70000):
  Or (.call 48) [ab ea a,ab eb b,AV.fn 54 [r0] []] (dt M)=some (LO (aR bw M a b).1::cE (aR bw M a b).2):=by
 have c:Or dP [ab ea a,ab eb b,AV.fn 54 [r0] [],AV.t (T.ae true),I (a.length:Int),I 0] (dt M)=some (LO (aR bw M a b).1::cE (aR bw M a b).2):=by
  cases a with
  | nil=>refine ah ?_;rw [Ci];simp only [aj,↓reduceIte,aT,aR,QW,Re,Rl,decide_false];rfl
  | cons x g=>
   cases b with
   | nil=>cases f
   | cons y i=>
    have m:=j x QA;have n:=k y QA;have u:=qX h (by omega) m n;obtain⟨e,B⟩:=n5 h m n;have q:(0:Int) < (((x::g).length:Nat):Int):=by simp
    have s:(0:Int) < (((y::i).length:Nat):Int):=by simp
    have h0:(0:Int)<=0:=by omega
    have o:(enc (x::g))[(0:Int).toNat]? =some [ti x]:=rfl;have p:(enc (y::i))[(0:Int).toNat]? =some [ti y]:=rfl;have w:i64.wrap (0+1)= ((1:Nat):Int):=by decide
    have l:=hl;rw [QJ] at l;have d:=Mz (ea:=ea) (eb:=eb) f hl g i 1 _ [(bw M x y).1] rfl rfl (by simp) e.ok (e.all λz d=>j z (QB _ d)) (e.all λz d=>k z (QB _ d)) (by have:=e.up;omega) rfl;rw [aR];refine ah ?_;rw [Ci];simp only [aj,↓reduceIte,q,s,h0,and_self,aC,o,p,u,aV,aU,QD,aT,aQ,w];exact d
 generalize A:LO (aR bw M a b).1::cE (aR bw M a b).2=r at c;refine ah ?_;rw [Jn];simp only [aC];exact c
theorem MA{ea eb:Bool}{a b:List Int}(E:a.length=b.length)(hl:a.length<=100):∀(e d:List Int) (i:Nat) (M:Mk) (c:List Int),a.drop i=e->b.drop i=d->i<=a.length->Ok M->(∀x∈e,In M x)->(∀x∈d,In M x)->M.N.length+2 * e.length<=80000->c.length=i->
  Or dP [ab ea a,ab eb b,AV.fn 59 [r0] [],o3,I (a.length:Int),I (i:Int)] (ov M c)=some (T.ab 1 false (enc (c++ (aR dK M e d).1))::cE (aR dK M e d).2):=by
 intro e;induction e with
 | nil=>
  intro d i M c k l A h n o p g;have m:¬(i:Int) < (a.length:Int):=by have:=bh k;omega
  refine ah ?_;rw [Cf];simp only [aj,↓reduceIte,m,aT,aR,QX];rfl
 | cons x e B=>
  intro d i M c k l A h n o p g;obtain⟨s,F,t⟩:=bm k;cases d with
  | nil=>exact absurd (bh l) (by omega)
  | cons y d=>
   obtain⟨u,G,v⟩:=bm l;have m:(i:Int) < (a.length:Int):=by omega
   have w:(i:Int) < (b.length:Int):=by omega
   have h0: 0<=(i:Int):=by omega
   have q:=n x QA;have r:=o y QA;rw [QJ] at p;have C:=we h (by omega) q r;obtain⟨j,H⟩:=oX h q r;have D:bp 8 (c.length+1)=some ():=cC (by omega);have f:=B d (i+1) _ (c++ [(dK M x y).1]) t v (by omega) j.ok (j.all λz f=>n z (QB _ f)) (j.all λz f=>o z (QB _ f)) (by have:=j.up;omega) (by simp [g]);simp only [Q6,Rf] at f;rw [aR];refine ah ?_;rw [Cf];simp only [aj,↓reduceIte,m,w,h0,and_self,aC,bH s,bH u,C,aV,aU,QD,aT,aQ,QM,D,next i (by omega),eK];exact f
theorem OX{M:Mk}(h:Ok M){ea eb:Bool}{a b:List Int}(f:a.length=b.length)(hl:a.length<=100)(j:∀x∈a,In M x)(k:∀x∈b,In M x)(v:M.N.length<=70000):
  Or (.call 48) [ab ea a,ab eb b,AV.fn 59 [r0] []] (dt M)=some (LO (aR dK M a b).1::cE (aR dK M a b).2):=by
 have c:Or dP [ab ea a,ab eb b,AV.fn 59 [r0] [],AV.t (T.ae true),I (a.length:Int),I 0] (dt M)=some (LO (aR dK M a b).1::cE (aR dK M a b).2):=by
  cases a with
  | nil=>refine ah ?_;rw [Cj];simp only [aj,↓reduceIte,aT,aR,QW,Re,Rl,decide_false];rfl
  | cons x g=>
   cases b with
   | nil=>cases f
   | cons y i=>
    have m:=j x QA;have n:=k y QA;have u:=we h (by omega) m n;obtain⟨e,B⟩:=oX h m n;have q:(0:Int) < (((x::g).length:Nat):Int):=by simp
    have s:(0:Int) < (((y::i).length:Nat):Int):=by simp
    have h0:(0:Int)<=0:=by omega
    have o:(enc (x::g))[(0:Int).toNat]? =some [ti x]:=rfl;have p:(enc (y::i))[(0:Int).toNat]? =some [ti y]:=rfl;have w:i64.wrap (0+1)= ((1:Nat):Int):=by decide
    have l:=hl;rw [QJ] at l;have d:=MA (ea:=ea) (eb:=eb) f hl g i 1 _ [(dK M x y).1] rfl rfl (by simp) e.ok (e.all λz d=>j z (QB _ d)) (e.all λz d=>k z (QB _ d)) (by have:=e.up;omega) rfl;rw [aR];refine ah ?_;rw [Cj];simp only [aj,↓reduceIte,q,s,h0,and_self,aC,o,p,u,aV,aU,QD,aT,aQ,w];exact d
 generalize A:LO (aR dK M a b).1::cE (aR dK M a b).2=r at c;refine ah ?_;rw [Jo];simp only [aC];exact c
open Go Go.Aev Go.IntKind
theorem cV{h:Type}(a b c d e f g:h)(l:List h):(a::b::c::d::e::f::g::l).drop 7=l:=rfl
theorem cW{i:Type}(a b c d e f g h:i)(l:List i):(a::b::c::d::e::f::g::h::l).drop 8=l:=rfl
structure Dc where
 nm:ByteArray
 ea:Bool
 ar:List Int
 so:Int
def aI(l:List Dc):List (List T):=l.map λd=> [T.str d.nm,T.ab 1 d.ea (enc d.ar),ti d.so]
def aW(l:List Nd):List (List T):=l.map λx=> [ti x.op,T.ab 1 x.ek (enc x.ks),ti x.n,ti x.d,T.str x.nm]
def bg(l:List (List Int)):List (List T):=l.map λb=> [LO b]
theorem cj(l:List Dc):(aI l).length=l.length:=by simp [aI]
theorem dA(l:List Nd):(aW l).length=l.length:=by simp [aW]
theorem nf(l:List (List Int)):(bg l).length=l.length:=by simp [bg]
theorem dF{l:List Dc}{i:Nat}{d:Dc}(h:l[i]? =some d):(aI l)[((i:Nat):Int).toNat]? =some [T.str d.nm,T.ab 1 d.ea (enc d.ar),ti d.so]:=by simp [aI,h]
theorem fi{l:List Nd}{i:Nat}{x:Nd}(h:l[i]? =some x):(aW l)[((i:Nat):Int).toNat]? =some [ti x.op,T.ab 1 x.ek (enc x.ks),ti x.n,ti x.d,T.str x.nm]:=by simp [aW,h]
theorem ru(a b:ByteArray):(a.toList==b.toList)=decide (a=b):=by
 rw [Go.Lib.toList_data,Go.Lib.toList_data];by_cases h:a=b
 .subst h;simp
 .have:¬a.data.toList=b.data.toList:=λe=>h (by cases a;cases b;simpa using Sh e);rw [decide_eq_false h];exact beq_eq_false_iff_ne.2 this
def iv(nm:ByteArray):Nat->List Dc->Int
 | _,[]=> -1
 | i,d::r=>if d.nm=nm then(i:Int) else iv nm (i+1) r
def bf(ds:List Dc)(nm:ByteArray):Int:=iv nm 0 ds
theorem r8(nm:ByteArray):∀(i:Nat) (ds:List Dc), -1<=iv nm i ds/\iv nm i ds < (i:Int)+ds.length+1
 | i,[]=>by simp [iv];omega
 | i,d::r=>by
  rw [iv];split
  .simp;omega
  .have:=r8 nm (i+1) r;simp;omega
theorem M6{e:Bool}{ds:List Dc}{nm:ByteArray}(hl:ds.length<=100):∀(r:List Dc) (i:Nat),ds.drop i=r->
  Or gQ [AV.t (T.ab 3 e (aI ds)),AV.fn 80 [] [AV.t (T.ptr [T.str nm])],I (ds.length:Int),I (i:Int)] []=some [ti (iv nm i r)]:=by
 intro r;induction r with
 | nil=>
  intro i g;have b:¬(i:Int) < (ds.length:Int):=by have:=bh g;omega
  refine ah ?_;rw [CK];simp only [aj,↓reduceIte,b,iv]
 | cons d r j=>
  intro i g;obtain⟨f,k,h⟩:=bm g;have b:(i:Int) < (ds.length:Int):=by omega
  have h0: 0<=(i:Int):=by omega
  have a:Or (.call 80) [AV.agg [AV.t (T.str d.nm),AV.t (T.ab 1 d.ea (enc d.ar)),I d.so],AV.t (T.ptr [T.str nm])] []=some [tb (decide (d.nm=nm))]:=by refine ah ?_;rw [Kf,ru]
  refine ah ?_;rw [CK,iv];by_cases c:d.nm=nm
  .rw [decide_eq_true c] at a;rw [if_pos c];simp only [aj,↓reduceIte,b,h0,and_self,cj,dF f,a]
  .rw [decide_eq_false c] at a;rw [if_neg c];simp only [aj,↓reduceIte,b,h0,and_self,cj,dF f,a,next i (by omega)];exact j (i+1) h
theorem te{ed en eh:Bool}{ds:List Dc}{ns:List Nd}{hs:List Int}{nm:ByteArray}(hl:ds.length<=100):
  Or (.call 47) [AV.agg [AV.t (T.ab 3 ed (aI ds)),AV.t (T.ab 5 en (aW ns)),AV.t (T.ab 1 eh (enc hs))],AV.t (T.str nm)] []=some [ti (bf ds nm)]:=by
 have k:=M6 (e:=ed) (nm:=nm) hl ds 0 rfl;have a:Or (.call 77) [AV.t (T.ab 3 ed (aI ds)),AV.fn 80 [] [AV.t (T.ptr [T.str nm])]] []=some [ti (bf ds nm)]:=by refine ah ?_;rw [Kc];simp only [cj];exact k
 refine ah ?_;rw [Ji];simp only [aj,a]
structure Cx where
 ed:Bool
 ds:List Dc
 en:Bool
 ns:List Nd
 eh:Bool
 hs:List Int
 p:ByteArray
 es:Bool
 ss:List Int
structure Tr where
 bits:List (List Int)
 to:List Int
theorem jc{c:Cx}{t:Tr}{M:Mk}{x:Nd}{j:Nat}{k:Int}{b:List Int}(e:x.ks[j]? =some k)(l: 0<=k)(a:t.bits[k.toNat]? =some b):
  Or (.call 45) [I (j:Int),r0,r1] [ad.box [Y'2],ad.box [I x.op,ab x.ek x.ks,I x.n,I x.d,AV.t (T.str x.nm)],ad.box [Y'3,AV.t (T.ab 3 c.ed (aI c.ds)),AV.t (T.ab 5 c.en (aW c.ns)),AV.t (T.ab 1 c.eh (enc c.hs)),AV.t (T.str c.p),AV.t (T.ab 1 c.es (enc c.ss)),V'4,V'5],ad.box [V'6,V'7],ad.sl false 1 t.bits.isEmpty (bg t.bits),ad.sl false 1 t.to.isEmpty (enc t.to),ad.rows M.N.isEmpty 5 1 1 M.N.length (rows M.N),ad.mp false [Ck.s] (Ck.i .i64) (bZ M.K)]=some [T.ab 1 b.isEmpty (enc b),T.ao,ti x.op,T.ab 1 x.ek (enc x.ks),ti x.n,ti x.d,T.str x.nm,T.ao,T.ab 3 c.ed (aI c.ds),T.ab 5 c.en (aW c.ns),T.ab 1 c.eh (enc c.hs),T.str c.p,T.ab 1 c.es (enc c.ss),T.ao,T.ao,RW M.N,T.ao,T.ab 1 t.bits.isEmpty (bg t.bits),T.ab 1 t.to.isEmpty (enc t.to),EM M.K]:=by
 have f: 0<=(j:Int)/\(j:Int) < (x.ks.length:Int):=by have:=(QC.1 e).1;omega
 have g: 0<=k/\k < (t.bits.length:Int):=by have:=(QC.1 a).1;omega
 have h:(bg t.bits)[k.toNat]? =some [LO b]:=by simp [bg,a]
 refine ah ?_;rw [Jg];simp only [aj,↓reduceIte,aC,nf,f,g,and_self,bH e,h,cH,aT];rfl
def cS(a:Int)(M:Mk)(x y:Int):Int×Mk:=if x=y then(x,M) else dq M 7 s0 0 0 [a,x,y]
theorem zj{a:Int}{M:Mk}(h:Ok M)(d:In M a){x y:Int}(c:In M x)(e:In M y):Up M (cS a M x y).2 1/\In (cS a M x y).2 (cS a M x y).1:=by
 unfold cS;split
 .exact⟨(Up.refl h).mono (by omega),c⟩
 .exact jB h _ _ _ _ _ (λk b=>by simp only [QN,RR,or_false] at b;rcases b with rfl | rfl | rfl <;> assumption) (by simp)
theorem F9{c:Cx}{t:Tr}{M:Mk}{a x y:Int}(b:M.N.length<=100000)(g:In M a)(j:In M x)(l:In M y):
  Or (.call 49) [I x,I y,r0,r1] [ad.box [Y'2],ad.box [I a],ad.box [Y'3,AV.t (T.ab 3 c.ed (aI c.ds)),AV.t (T.ab 5 c.en (aW c.ns)),AV.t (T.ab 1 c.eh (enc c.hs)),AV.t (T.str c.p),AV.t (T.ab 1 c.es (enc c.ss)),V'4,V'5],ad.box [V'6,V'7],ad.sl false 1 t.bits.isEmpty (bg t.bits),ad.sl false 1 t.to.isEmpty (enc t.to),ad.rows M.N.isEmpty 5 1 1 M.N.length (rows M.N),ad.mp false [Ck.s] (Ck.i .i64) (bZ M.K)]=some [ti (cS a M x y).1,T.ao,ti a,T.ao,T.ab 3 c.ed (aI c.ds),T.ab 5 c.en (aW c.ns),T.ab 1 c.eh (enc c.hs),T.str c.p,T.ab 1 c.es (enc c.ss),T.ao,T.ao,RW ((cS a M x y).2).N,T.ao,T.ab 1 t.bits.isEmpty (bg t.bits),T.ab 1 t.to.isEmpty (enc t.to),EM ((cS a M x y).2).K]:=by
 have e:=jF M b 7 s0 0 0 [a,x,y] false rfl (λk f=>by
  simp only [QN,RR,or_false] at f;rcases f with rfl | rfl | rfl
  .exact g.i64 b
  .exact j.i64 b
  .exact l.i64 b) (by simp) (by omega) (by omega) (by omega) (by decide)
 replace e:Or (.call 46) [r0,I 7,AV.t (T.str s0),I 0,I 0,AV.t (T.ab 1 false [[ti a],[ti x],[ti y]])] (dt M)=_:=e;unfold cS;refine ah ?_;rw [Jp];by_cases h:x=y
 .subst h;simp only [aj,↓reduceIte,aT];rfl
 .have d:(x==y)=false:=by simpa using h
  simp only [aj,↓reduceIte,d,h,e,aV,aU,QD,aT];rfl
theorem Mw{c:Cx}{t:Tr}{g:Int}{ea eb:Bool}{a b:List Int}(O:a.length=b.length)(hl:a.length<=100):∀(f e:List Int) (i:Nat) (M:Mk) (d:List Int),a.drop i=f->b.drop i=e->i<=a.length->Ok M->In M g->(∀x∈f,In M x)->(∀x∈e,In M x)->M.N.length+f.length<=80000->d.length=i->
  Or oq [ab ea a,ab eb b,AV.fn 49 [] [r0,r1],V'8,I (a.length:Int),I (i:Int)] [ad.box [Y'2],ad.box [I g],ad.box [Y'3,AV.t (T.ab 3 c.ed (aI c.ds)),AV.t (T.ab 5 c.en (aW c.ns)),AV.t (T.ab 1 c.eh (enc c.hs)),AV.t (T.str c.p),AV.t (T.ab 1 c.es (enc c.ss)),V'4,V'5],ad.box [V'9,V'7],ad.sl false 1 t.bits.isEmpty (bg t.bits),ad.sl false 1 t.to.isEmpty (enc t.to),ad.dead,ad.mp false [Ck.s] (Ck.i .i64) (bZ M.K),ad.sl false 1 false (enc d),ad.rows M.N.isEmpty 5 1 1 M.N.length (rows M.N)]=some [T.ab 1 false (enc (d++ (aR (cS g) M f e).1)),T.ao,ti g,T.ao,T.ab 3 c.ed (aI c.ds),T.ab 5 c.en (aW c.ns),T.ab 1 c.eh (enc c.hs),T.str c.p,T.ab 1 c.es (enc c.ss),T.ao,T.ao,RW ((aR (cS g) M f e).2).N,T.ao,T.ab 1 t.bits.isEmpty (bg t.bits),T.ab 1 t.to.isEmpty (enc t.to),EM ((aR (cS g) M f e).2).K]:=by
 intro f;induction f with
 | nil=>
  intro e i M d n o G h m r u v k;have q:¬(i:Int) < (a.length:Int):=by have:=bh n;omega
  refine ah ?_;rw [Cl];simp only [aj,↓reduceIte,q,aT,aR,QX];rfl
 | cons x f H=>
  intro e i M d n o G h m r u v k;obtain⟨B,P,C⟩:=bm n;cases e with
  | nil=>exact absurd (bh o) (by omega)
  | cons y e=>
   obtain⟨D,Q,E⟩:=bm o;have q:(i:Int) < (a.length:Int):=by omega
   have F:(i:Int) < (b.length:Int):=by omega
   have h0: 0<=(i:Int):=by omega
   have w:=r x QA;have A:=u y QA;rw [QJ] at v;have J:=F9 (c:=c) (t:=t) (show M.N.length<=100000 by omega) m w A;obtain⟨l,R⟩:=zj h m w A;have L:bp 8 (d.length+1)=some ():=cC (by omega);have j:=H e (i+1) _ (d++ [(cS g M x y).1]) C E (by omega) l.ok (l.In m) (l.all λz j=>r z (QB _ j)) (l.all λz j=>u z (QB _ j)) (by have:=l.up;omega) (by simp [k]);simp only [Q6,Rf] at j;rw [aR];refine ah ?_;rw [Cl];simp only [aj,↓reduceIte,q,F,h0,and_self,aC,bH B,bH D,J,aV,aU,QD,aT,aQ,cW,QM,L,next i (by omega),eK];exact j
theorem OT{c:Cx}{t:Tr}{d:Int}{M:Mk}(h:Ok M)(k:In M d){ea eb:Bool}{a b:List Int}(j:a.length=b.length)(o: 1<=a.length)(hl:a.length<=100)(n:∀x∈a,In M x)(q:∀x∈b,In M x)(F:M.N.length<=70000):
  Or (.call 48) [ab ea a,ab eb b,AV.fn 49 [] [r0,r1]] [ad.box [Y'2],ad.box [I d],ad.box [Y'3,AV.t (T.ab 3 c.ed (aI c.ds)),AV.t (T.ab 5 c.en (aW c.ns)),AV.t (T.ab 1 c.eh (enc c.hs)),AV.t (T.str c.p),AV.t (T.ab 1 c.es (enc c.ss)),V'4,V'5],ad.box [V'6,V'7],ad.sl false 1 t.bits.isEmpty (bg t.bits),ad.sl false 1 t.to.isEmpty (enc t.to),ad.rows M.N.isEmpty 5 1 1 M.N.length (rows M.N),ad.mp false [Ck.s] (Ck.i .i64) (bZ M.K)]=some [T.ab 1 false (enc (aR (cS d) M a b).1),T.ao,ti d,T.ao,T.ab 3 c.ed (aI c.ds),T.ab 5 c.en (aW c.ns),T.ab 1 c.eh (enc c.hs),T.str c.p,T.ab 1 c.es (enc c.ss),T.ao,T.ao,RW ((aR (cS d) M a b).2).N,T.ao,T.ab 1 t.bits.isEmpty (bg t.bits),T.ab 1 t.to.isEmpty (enc t.to),EM ((aR (cS d) M a b).2).K]:=by
 have g:Or oq [ab ea a,ab eb b,AV.fn 49 [] [r0,r1],AV.t (T.ae true),I (a.length:Int),I 0] [ad.box [Y'2],ad.box [I d],ad.box [Y'3,AV.t (T.ab 3 c.ed (aI c.ds)),AV.t (T.ab 5 c.en (aW c.ns)),AV.t (T.ab 1 c.eh (enc c.hs)),AV.t (T.str c.p),AV.t (T.ab 1 c.es (enc c.ss)),V'4,V'5],ad.box [V'6,V'7],ad.sl false 1 t.bits.isEmpty (bg t.bits),ad.sl false 1 t.to.isEmpty (enc t.to),ad.rows M.N.isEmpty 5 1 1 M.N.length (rows M.N),ad.mp false [Ck.s] (Ck.i .i64) (bZ M.K)]=some [T.ab 1 false (enc (aR (cS d) M a b).1),T.ao,ti d,T.ao,T.ab 3 c.ed (aI c.ds),T.ab 5 c.en (aW c.ns),T.ab 1 c.eh (enc c.hs),T.str c.p,T.ab 1 c.es (enc c.ss),T.ao,T.ao,RW ((aR (cS d) M a b).2).N,T.ao,T.ab 1 t.bits.isEmpty (bg t.bits),T.ab 1 t.to.isEmpty (enc t.to),EM ((aR (cS d) M a b).2).K]:=by
  cases a with
  | nil=>simp at o
  | cons x l=>
   cases b with
   | nil=>cases j
   | cons y m=>
    have u:=n x QA;have v:=q y QA;have E:=F9 (c:=c) (t:=t) (show M.N.length<=100000 by omega) k u v;obtain⟨f,G⟩:=zj h k u v;have C:(0:Int) < (((x::l).length:Nat):Int):=by simp
    have D:(0:Int) < (((y::m).length:Nat):Int):=by simp
    have h0:(0:Int)<=0:=by omega
    have A:(enc (x::l))[(0:Int).toNat]? =some [ti x]:=rfl;have B:(enc (y::m))[(0:Int).toNat]? =some [ti y]:=rfl;have w:i64.wrap (0+1)= ((1:Nat):Int):=by decide
    have r:=hl;rw [QJ] at r;have e:=Mw (c:=c) (t:=t) (ea:=ea) (eb:=eb) j hl l m 1 _ [(cS d M x y).1] rfl rfl (by simp) f.ok (f.In k) (f.all λz e=>n z (QB _ e)) (f.all λz e=>q z (QB _ e)) (by have:=f.up;omega) rfl;rw [aR];refine ah ?_;rw [Jk];simp only [aj,↓reduceIte,C,D,h0,and_self,aC,A,B,E,aV,aU,QD,aT,aQ,cW,w];exact e
 refine ah ?_;rw [Jj];simp only [aC];exact g
end Go.Aev.Gen
