import Derived.Test.YtcjplcpngagalaaGreatDoorBlastUpsQ6
import Derived.Test.YtcjplcpngagalaaGreatDoorKLay
import Derived.Test.YtcjplcpngagalaaGreatDoorBlastUpsQ5
import Derived.Lib.ItoaLen
import Derived.Lib.Strings
set_option linter.all false
namespace Go.Aev.Gen
open Go Go.Aev Go.IntKind
theorem kX:lb ai ann:=by
 intro f bo d xs h;have g:f=59/\∃n:Int,bo= [.t (.int .i64 n)]/\d= []/\(-9223372036854775808<=n/\n<=9223372036854775807)/\xs= [.str ⟨(Go.Lib.itoa n).toArray⟩]:=by
  unfold ann at h;dsimp only at h;split at h
  .rename_i n;split at h
   .rename_i m;simp only [NL] at h;exact⟨rfl,n,rfl,rfl,m,h.symm⟩
   .cases h
  .cases h
 obtain⟨rfl,n,rfl,rfl,⟨h0,i⟩,rfl⟩:=g;refine⟨_,_,Go.Proofs.Tryz.func59,rfl,by decide, ?_⟩;intro c w ρ O args o hs e;have j:args= [.int .i64 n]:=by simp only [az,aj,ay] at e;obtain⟨v,r,rfl,rfl,rfl⟩:=e;rfl
 subst j;have a:=Go.Proofs.Any.strconv_Itoa Go.Proofs.YtcjplcpngagalaaGreatDoor.itoaL n h0 i w hs.glob.1;change Calls ai 59 #[.int .i64 n] w _ at a;refine a.mono ?_;rintro _ w' ⟨rfl,k,os,rfl⟩;refine⟨[.string ⟨(Go.Lib.itoa n).toArray⟩],[.str ⟨(Go.Lib.itoa n).toArray⟩],[],[],[],rfl,⟨rfl,rfl,rfl, ?_,λb l _=> ?_⟩,rfl,by simp,by simp, ?_,⟨rfl,rfl⟩⟩
 .simp [Go.Sort.grow,World.drewN]
 .simp [Go.Sort.grow,World.drewN,Array.getElem?_append,l]
 .rw [show cZ ai ann 59 (fM ([]:List ad).head?) Go.Proofs.Tryz.f59= [.f .s] by kernel_rfl];exact⟨_,[],_,[],[],[],rfl,rfl,rfl,⟨rfl,by simp [ay],rfl⟩,rfl,rfl,rfl⟩
open Go Go.Aev Go.IntKind
noncomputable abbrev Or:aq:=jP ai ann
abbrev ti(n:Int):T:= .int .i64 n
abbrev tb(b:Bool):T:= .bool b
abbrev o0:AV:=V'0
abbrev o1:AV:=V'1
abbrev o2:AV:=V'2
abbrev o3:AV:=V'3
abbrev o4:AV:=V'4
abbrev o5:AV:=V'5
abbrev r0:AV:=Y'0
abbrev r1:AV:=Y'1
theorem bq{b:Type}{l:List b}{i:Nat}{r:b}{rest:List b}(h:l.drop i=r::rest):l[i]? =some r/\i < l.length/\l.drop (i+1)=rest:=by
 have a:i < l.length:=by
  rcases Nat.lt_or_ge i l.length with g | g
  .exact g
  .rw [PI g] at h;cases h
 rw [PR a] at h;simp only [OY] at h;exact⟨by rw [NZ a,h.1],a,h.2⟩
theorem bp{a:Type}{l:List a}{i:Nat}(h:l.drop i= []):l.length<=i:=by simpa using h
def enc(l:List Int):List (List T):=l.map λn=> [.int .i64 n]
theorem aD(l:List Int):(enc l).length=l.length:=by simp [enc]
theorem bM{l:List Int}{i:Nat}{r:Int}(h:l[i]? =some r):(enc l)[((i:Nat):Int).toNat]? =some [ti r]:=by simp [enc,h]
theorem eK{l:List Int}{i:Nat}{r:Int}(h:l[i]? =some r):(enc l)[i]? =some [ti r]:=by simp [enc,h]
theorem next(i:Nat)(h:i<=1000000):i64.wrap ((i:Int)+1)= ((i+1:Nat):Int):=by rw [wr (by omega)];omega
theorem cE{a n:Nat}(h:n<=1000000):bt a n=some ():=by unfold bt;rw [if_pos (.inl (by unfold kN;omega))]
abbrev ab(e:Bool)(l:List Int):AV:=AV.t (T.ab 1 e (enc l))
abbrev dS(n:Int):Prop:= -9223372036854775808<=n/\n<=9223372036854775807
def it(n:Int):ByteArray:=⟨(Go.Lib.itoa n).toArray⟩
theorem fY{n:Int}(h:dS n):(it n).size<=21:=by have:=Go.Lib.itoa_length_le n h.1 h.2;simpa [it,ByteArray.size] using this
theorem hH{n:Int}(h:dS n):Or (.call 59) [I n] []=some [T.str (it n)]:=by
 refine ah ?_;have:ann.ext 59 [I n] []=some [T.str (it n)]:=by show(if dS n then some [T.str (it n)] else none)=_;rw [if_pos h]
 show(match ann.ext 59 [I n] [] with | some r=>some r | none=>_)=_;rw [this]
theorem zf(a b:ByteArray):(a==b)=decide (a=b):=by
 obtain⟨a⟩:=a;obtain⟨b⟩:=b;show(a==b)=_;by_cases h:a=b
 .subst h;simp
 .simp [h]
abbrev sp:ByteArray:=ByteArray.mk #[(32:UInt8)]
abbrev us:ByteArray:=ByteArray.mk #[(95:UInt8)]
abbrev s0:ByteArray:=ByteArray.mk #[]
theorem pX:sp.size=1:=rfl
theorem fS:us.size=1:=rfl
structure Nd where
 op:Int
 ek:Bool
 ks:List Int
 n:Int
 d:Int
 nm:ByteArray
def mY(k:Nat)(x:Nd):Row:=Row.mk k [ti x.op,T.ao,ti x.n,ti x.d,T.str x.nm] (some (x.ek,enc x.ks))
def eW:Nat->List Nd->List Row
 | _,[]=> []
 | k,x::r=>mY k x::eW (k+1) r
abbrev rows(l:List Nd):List Row:=eW 0 l
theorem DO:∀(k:Nat) (l:List Nd),(eW k l).length=l.length
 | _,[]=>rfl
 | k,x::r=>by rw [eW,NV,DO,NV]
theorem DR(x:Nd):∀(k:Nat) (l:List Nd),eW k (l++ [x])=eW k l++ [mY (k+l.length) x]
 | _,[]=>rfl
 | k,y::r=>by rw [OL,eW,DR x (k+1) r,eW,NV,OL,show k+1+r.length=k+ (r.length+1) by omega]
theorem DN:∀{k:Nat} {l:List Nd} {i:Nat} {x:Nd},l[i]? =some x->(eW k l)[i]? =some (mY (k+i) x)
 | _,[],_,_,h=>by simp at h
 | k,y::r,0,x,h=>by simp at h;subst h;rfl
 | k,y::r,i+1,x,h=>by rw [eW,O9,DN (by simpa using h),show k+1+i=k+ (i+1) by omega]
theorem DM:∀{k:Nat} {l:List Nd} {i:Nat} {x:Nd},l[i]? =some x->cA (k+i) (eW k l)=some (x.ek,enc x.ks)
 | _,[],_,_,h=>by simp at h
 | k,y::r,0,x,h=>by simp at h;subst h;simp [eW,mY,cA]
 | k,y::r,i+1,x,h=>by have a:=DM (k:=k+1) (l:=r) (i:=i) (x:=x) (by simpa using h);rw [show k+1+i=k+ (i+1) by omega] at a;rw [eW,cA,if_neg (by simp [mY]),a]
theorem yf{l:List Nd}{i:Nat}{x:Nd}(h:l[i]? =some x):(rows l)[i]? =some (mY i x):=by have:=DN (k:=0) h;rwa [Ov] at this
theorem ye{l:List Nd}{i:Nat}{x:Nd}(h:l[i]? =some x):cA i (rows l)=some (x.ek,enc x.ks):=by have:=DM (k:=0) h;rwa [Ov] at this
theorem DQ:∀(k:Nat) (l:List Nd),bc (eW k l)=true
 | _,[]=>rfl
 | k,x::r=>by have a:=DQ (k+1) r;unfold bc at a⊢;rw [eW,O6,a];rfl
theorem DL:∀(k:Nat) (l:List Nd),nI k ((eW k l).map λe=> [.ptr e.cs,pQ e])=some (eW k l)
 | _,[]=>rfl
 | k,x::r=>by have a:=DL (k+1) r;rw [eW,Oq];show(nI (k+1) ((eW (k+1) r).map λe=> [.ptr e.cs,pQ e])).bind _=_;rw [a];rfl
def RW(l:List Nd):T:=bg l.isEmpty (rows l)
theorem aY(l:List Nd):aP (RW l)=some (l.isEmpty,rows l):=by have h:=DL 0 l;show(nI 0 ((eW 0 l).map λe=> [.ptr e.cs,pQ e])).bind _=_;rw [h];rfl
theorem aV(l:List Nd):bc (rows l)=true:=DQ 0 l
theorem aS(l:List Nd):(rows l).length=l.length:=DO 0 l
def cg(K:List (ByteArray×Int)):List (List T×T):=K.map λp=>([T.str p.1],ti p.2)
def lk(s:ByteArray):List (ByteArray×Int)->Option Int
 | []=>none
 | (k,v)::r=>if s=k then some v else lk s r
theorem xE(s:ByteArray):∀K:List (ByteArray×Int),fE [T.str s] (cg K)= (lk s K).map ti
 | []=>rfl
 | (k,v)::r=>by
  have a:=xE s r;unfold cg at a⊢;rw [Oq,fE,lk];simp only [dL,lG,OW,zf];by_cases h:s=k
  .simp [h]
  .simp only [h,decide_false,cond_false,↓reduceIte];exact a
theorem CL{s:ByteArray}(v:Int):∀{K:List (ByteArray×Int)},lk s K=none->gB [T.str s] (ti v) (cg K)=cg (K++ [(s,v)])
 | [],_=>rfl
 | (k,u)::r,h=>by
  rw [lk] at h;by_cases e:s=k
  .rw [if_pos e] at h;cases h
  .rw [if_neg e] at h;have a:=CL v h;unfold cg at a⊢;rw [OL,Oq,Oq,gB];simp only [dL,lG,OW,zf,e,decide_false,cond_false];rw [a]
theorem zx:∀K:List (ByteArray×Int),qC ((cg K).map λp=> [.ptr p.1,p.2])=some (cg K)
 | []=>rfl
 | p::r=>by have a:=zx r;unfold cg at a⊢;rw [Oq,Oq,qC,a];rfl
def EM(K:List (ByteArray×Int)):T:=aC (cg K)
theorem aX(K:List (ByteArray×Int)):aN (EM K)=some (cg K):=zx K
structure Mk where
 N:List Nd
 K:List (ByteArray×Int)
abbrev cF(M:Mk):List T:= [RW M.N,T.ao,EM M.K]
abbrev df(M:Mk):List ad:= [ad.box [o1,o2],ad.rows M.N.isEmpty 5 1 1 M.N.length (rows M.N),ad.mp false [Ck.s] (Ck.i .i64) (cg M.K)]
def mI(k:ByteArray):List Int->ByteArray
 | []=>k
 | x::r=>mI (k++ (sp++it x)) r
def tU(op:Int)(nm:ByteArray)(n d:Int)(ks:List Int):ByteArray:=mI (it op++sp++nm++sp++it n++sp++it d) ks
def dC(M:Mk)(op:Int)(nm:ByteArray)(n d:Int)(ks:List Int):Int×Mk:=
 match lk (tU op nm n d ks) M.K with
 | some i=>(i,M)
 | none=>((M.N.length:Int),⟨M.N++ [⟨op,ks.isEmpty,ks,n,d,nm⟩],M.K++ [(tU op nm n d ks,(M.N.length:Int))]⟩)
theorem D0(e:Bool)(l:List Int)(a:e=true->l= [])(hl:l.length<=1000000):Or (.call 25) [ab e l] []=some [if e then T.ae true else T.ab 1 false (enc l)]:=by
 refine ah ?_;rw [Gl];cases e with
 | true=>rfl
 | false=>simp only [an,↓reduceIte,Int.reduceBEq,Int.reduceEq,aD,cE (show 0+l.length<=1000000 by omega)];rfl
theorem J7(M:Mk)(A:M.N.length<=100000)(op:Int)(nm:ByteArray)(n d:Int)(ks:List Int)(e:Bool)(c:e=ks.isEmpty)(q:∀k∈ks,dS k)(hl:ks.length<=1000):∀(rest:List Int) (j:Nat) (s:ByteArray),ks.drop j=rest->s.size<=10000+100 * j->
  Or sC [r0,I op,AV.t (T.str nm),I n,I d,ab e ks,AV.t (T.str s),ab e ks,I (ks.length:Int),I (j:Int)] (df M)=
   match lk (mI s rest) M.K with
   | some i=>some (ti i::cF M)
   | none=>some (ti (M.N.length:Int)::cF ⟨M.N++ [⟨op,ks.isEmpty,ks,n,d,nm⟩],M.K++ [(mI s rest,(M.N.length:Int))]⟩):=by
 intro rest;induction rest with
 | nil=>
  intro j s g hs;have b:¬(j:Int) < (ks.length:Int):=by have:=bp g;omega
  rw [mI];have m:=D0 e ks (λh=>by subst c;simpa using h) (by omega);have p:(if e then T.ae true else T.ab 1 false (enc ks)).ak 1=some (e,enc ks):=by
   cases e with
   | true=>
    have:ks= []:=by simpa using c.symm
    subst this;rfl
   | false=>rfl
  have w:i64.wrap (((M.N.length+1:Nat):Int) - 1)= (M.N.length:Int):=by rw [wr (by omega)];omega
  have r:rows M.N++ [Row.mk M.N.length [ti op,T.ao,ti n,ti d,T.str nm] (some (e,enc ks))]=rows (M.N++ [⟨op,ks.isEmpty,ks,n,d,nm⟩]):=by rw [rows,rows,DR,Ov,c];rfl
  cases a:lk s M.K with
  | some i=>refine ah ?_;rw [wm];simp only [an,↓reduceIte,Int.reduceBEq,Int.reduceEq,b,xE,a,Po,PE,Option.isSome_some,aV];rfl
  | none=>refine ah ?_;rw [wm];simp only [an,↓reduceIte,Int.reduceBEq,Int.reduceEq,b,xE,a,Qr,QC,Option.isSome_none,m,p,aS,cE (show M.N.length+1<=1000000 by omega),r,aV,OB,NW,w,CL _ a];congr 3;unfold RW;cases M.N <;> rfl
 | cons x rest u=>
  intro j s g hs;obtain⟨f,z,o⟩:=bq g;have b:(j:Int) < (ks.length:Int):=by omega
  have h0: 0<=(j:Int):=by omega
  have l:=q x (NU f);have B:=fY l;have v: 1+ (it x).size<=4294967296:=by omega
  have C:(sp++it x).size=1+ (it x).size:=by rw [Ob];rfl
  have y:s.size+ (sp++it x).size<=4294967296:=by omega
  have:=u (j+1) (s++ (sp++it x)) o (by rw [Ob];omega);rw [mI];cases a:lk (mI (s++ (sp++it x)) rest) M.K <;>
  .rw [a] at this;refine ah ?_;rw [wm];simp only [an,↓reduceIte,Int.reduceBEq,Int.reduceEq,b,h0,and_self,aD,bM f,hH l,v,y,next j (by omega)];exact this
theorem iX(M:Mk)(l:M.N.length<=100000)(op:Int)(nm:ByteArray)(n d:Int)(ks:List Int)(e:Bool)(m:e=ks.isEmpty)(p:∀k∈ks,dS k)(hl:ks.length<=1000)(ho:dS op)(b:dS n)(a:dS d)(hm:nm.size<=5000):
  Or (.call 61) [r0,I op,AV.t (T.str nm),I n,I d,ab e ks] (df M)=some (ti (dC M op nm n d ks).1::cF (dC M op nm n d ks).2):=by
 have q:=fY ho;have r:=fY b;have s:=fY a;have c:(it op++sp++nm++sp++it n++sp++it d).size<=10000+100 * 0:=by simp only [Ob,pX];omega
 have:=J7 M l op nm n d ks e m p hl ks 0 (it op++sp++nm++sp++it n++sp++it d) rfl c;have f:(it op).size+1<=4294967296:=by omega
 have g:(it op++sp).size+nm.size<=4294967296:=by simp only [Ob,pX];omega
 have c3:(it op++sp++nm).size+1<=4294967296:=by simp only [Ob,pX];omega
 have h:(it op++sp++nm++sp).size+ (it n).size<=4294967296:=by simp only [Ob,pX];omega
 have i:(it op++sp++nm++sp++it n).size+1<=4294967296:=by simp only [Ob,pX];omega
 have j:(it op++sp++nm++sp++it n++sp).size+ (it d).size<=4294967296:=by simp only [Ob,pX];omega
 unfold dC tU;cases o:lk (mI (it op++sp++nm++sp++it n++sp++it d) ks) M.K <;>
 .rw [o] at this;refine ah ?_;rw [G5];simp only [an,↓reduceIte,Int.reduceBEq,Int.reduceEq,hH ho,hH b,hH a,f,g,c3,h,i,j,aD];exact this
open Go Go.Aev Go.IntKind
abbrev In(M:Mk)(a:Int):Prop:=0<=a/\a < (M.N.length:Int)
structure Ok (M:Mk):Prop where
 no:∀(i:Nat) (x:Nd),M.N[i]? =some x->x.op=3->∃k r,x.ks=k::r
 ks:∀(i:Nat) (x:Nd),M.N[i]? =some x->∀k∈x.ks,0<=k/\k < (i:Int)
 kn:∀p∈M.K,In M p.2
 ek:∀(i:Nat) (x:Nd),M.N[i]? =some x->x.ek=x.ks.isEmpty
 kl:∀(i:Nat) (x:Nd),M.N[i]? =some x->x.ks.length<=1000
structure Up (M M':Mk) (c:Nat):Prop where
 ok:Ok M'
 le:M.N.length<=M'.N.length
 up:M'.N.length<=M.N.length+c
 pre:∀(i:Nat) (x:Nd),M.N[i]? =some x->M'.N[i]? =some x
theorem Up.refl{M:Mk}(h:Ok M):Up M M 0:=⟨h,Oh _,Oh _,λ_ _ h=>h⟩
theorem Up.trans{M f b:Mk}{c d:Nat}(h:Up M f c)(a:Up f b d):Up M b (c+d):=
 ⟨a.ok,OC h.le a.le,by have:=h.up;have:=a.up;omega,λi x e=>a.pre i x (h.pre i x e)⟩
theorem Up.mono{M a:Mk}{c d:Nat}(h:Up M a c)(b:c<=d):Up M a d:=⟨h.ok,h.le,by have:=h.up;omega,h.pre⟩
theorem Up.In{M b:Mk}{c:Nat}(h:Up M b c){a:Int}(d:In M a):In b a:=⟨d.1,by have:=h.le;have:=d.2;omega⟩
theorem In.get{M:Mk}{a:Int}(h:In M a):∃(i:Nat) (x:Nd),a= (i:Int)/\M.N[i]? =some x:=by
 obtain⟨i,rfl⟩:=Int.eq_ofNat_of_zero_le h.1;have:i < M.N.length:=by have:=h.2;omega
 exact⟨i,_,rfl,NZ this⟩
theorem CB{s:ByteArray}:∀{K:List (ByteArray×Int)} {v:Int},lk s K=some v->∃p∈K,p.2=v
 | (k,u)::r,v,h=>by
  rw [lk] at h;split at h
  .simp only [NL] at h;exact⟨_,NN,h⟩
  .obtain⟨p,a,e⟩:=CB h;exact⟨p,NP _ a,e⟩
theorem iT{M:Mk}(h:Ok M)(op:Int)(nm:ByteArray)(n d:Int)(ks:List Int)(j:∀k∈ks,In M k)(c:op=3->∃k r,ks=k::r)(hl:ks.length<=1000:=by simp):
  Up M (dC M op nm n d ks).2 1/\In (dC M op nm n d ks).2 (dC M op nm n d ks).1:=by
 unfold dC;cases f:lk (tU op nm n d ks) M.K with
 | some v=>obtain⟨p,b,rfl⟩:=CB f;exact⟨(Up.refl h).mono (by omega),h.kn p b⟩
 | none=>
  have new:∀(i:Nat) (x:Nd),(M.N++ [(⟨op,ks.isEmpty,ks,n,d,nm⟩:Nd)])[i]? =some x->M.N[i]? =some x\/(i=M.N.length/\x= ⟨op,ks.isEmpty,ks,n,d,nm⟩):=λi x e=>by
   rcases Nat.lt_trichotomy i M.N.length with g | g | g
   .rw [Ot g] at e;exact .inl e
   .subst g;simp at e;exact .inr ⟨rfl,e.symm⟩
   .rw [Pv (by simp;omega)] at e;cases e
  refine⟨⟨⟨λi x e ho=> ?_,λi x e k a=> ?_,λp b=> ?_,λi x e=> ?_,λi x e=> ?_⟩,by simp,by simp,λi x e=> ?_⟩, ?_⟩
  .rcases new i x e with g | ⟨rfl,rfl⟩
   .exact h.no i x g ho
   .exact c ho
  .rcases new i x e with g | ⟨rfl,rfl⟩
   .exact h.ks i x g k a
   .exact j k a
  .simp only [OB,NW];rcases N4.1 b with g | g
   .have:=h.kn p g;exact⟨this.1,by simp;omega⟩
   .simp only [NY] at g;subst g;exact⟨by simp,by simp;omega⟩
  .rcases new i x e with g | ⟨rfl,rfl⟩
   .exact h.ek i x g
   .rfl
  .rcases new i x e with g | ⟨rfl,rfl⟩
   .exact h.kl i x g
   .exact hl
  .rw [Ot (NQ.1 e).1];exact e
  .exact⟨by simp,by simp;omega⟩
def cr(M:Mk)(a:Int):Int:=match M.N[a.toNat]? with
 | some x=>x.op
 | none=>0
def tV(M:Mk)(a:Int):Int:=match M.N[a.toNat]? with
 | some x=>x.ks.headD 0
 | none=>0
def cS(M:Mk)(b:Bool):Int×Mk:=dC M (if b then 1 else 2) s0 0 0 []
def gy(M:Mk)(a:Int):Int×Mk:=
 if cr M a=1 then cS M false else if cr M a=2 then cS M true else if cr M a=3 then(tV M a,M) else dC M 3 s0 0 0 [a]
def cu(M:Mk)(a b:Int):Int×Mk:=
 if cr M a=2\/cr M b=1\/a=b then(a,M) else if cr M a=1\/cr M b=2 then(b,M) else dC M 4 s0 0 0 [a,b]
def dZ(M:Mk)(a b:Int):Int×Mk:=
 if cr M a=1\/cr M b=2\/a=b then(a,M) else if cr M a=2\/cr M b=1 then(b,M) else dC M 5 s0 0 0 [a,b]
def dO(M:Mk)(a b:Int):Int×Mk:=
 if a=b then cS M true else if cr M a=1 then(b,M) else if cr M b=1 then(a,M) else if cr M a=2 then gy M b else if cr M b=2 then gy M a else dC M 6 s0 0 0 [a,b]
def bz(M:Mk)(a b:Int):Int×Mk:=gy (dO M a b).2 (dO M a b).1
theorem In.i64{M:Mk}{a:Int}(h:In M a)(b:M.N.length<=100000):dS a:=⟨by have:=h.1;omega,by have:=h.2;omega⟩
theorem ir{M:Mk}(h:Ok M)(b:Bool):Up M (cS M b).2 1/\In (cS M b).2 (cS M b).1:=
 iT h _ _ _ _ _ (λk a=>by cases a) (by cases b <;> simp)
theorem n7{M:Mk}(h:Ok M){a:Int}(c:In M a):Up M (gy M a).2 1/\In (gy M a).2 (gy M a).1:=by
 unfold gy;split
 .exact ir h _
 .split
  .exact ir h _
  .split
   .rename_i e;obtain⟨i,x,rfl,d⟩:=c.get;refine⟨(Up.refl h).mono (by omega), ?_⟩;unfold cr at e;unfold tV;rw [Oa,d] at e⊢;obtain⟨k,r,b⟩:=h.no i x d e;have:=h.ks i x d k (by rw [b];exact NN);dsimp only;rw [b,List.headD_cons];exact⟨this.1,by have:=c.2;omega⟩
   .exact iT h _ _ _ _ _ (λk b=>by simp only [NY] at b;subst b;exact c) (λ_=>⟨_,_,rfl⟩)
theorem p7{M:Mk}{a b:Int}(d:In M a)(e:In M b):∀k∈[a,b],In M k:=λk c=>by simp only [N2,Pt,or_false] at c;rcases c with rfl | rfl <;> assumption
theorem fT{M:Mk}(h:Ok M){a b:Int}(c:In M a)(d:In M b):Up M (cu M a b).2 1/\In (cu M a b).2 (cu M a b).1:=by
 unfold cu;split
 .exact⟨(Up.refl h).mono (by omega),c⟩
 .split
  .exact⟨(Up.refl h).mono (by omega),d⟩
  .exact iT h _ _ _ _ _ (p7 c d) (by simp)
theorem oa{M:Mk}(h:Ok M){a b:Int}(c:In M a)(d:In M b):Up M (dZ M a b).2 1/\In (dZ M a b).2 (dZ M a b).1:=by
 unfold dZ;split
 .exact⟨(Up.refl h).mono (by omega),c⟩
 .split
  .exact⟨(Up.refl h).mono (by omega),d⟩
  .exact iT h _ _ _ _ _ (p7 c d) (by simp)
theorem nW{M:Mk}(h:Ok M){a b:Int}(c:In M a)(d:In M b):Up M (dO M a b).2 1/\In (dO M a b).2 (dO M a b).1:=by
 unfold dO;split
 .exact ir h _
 .split
  .exact⟨(Up.refl h).mono (by omega),d⟩
  .split
   .exact⟨(Up.refl h).mono (by omega),c⟩
   .split
    .exact n7 h d
    .split
     .exact n7 h c
     .exact iT h _ _ _ _ _ (p7 c d) (by simp)
theorem nc{M:Mk}(h:Ok M){a b:Int}(g:In M a)(i:In M b):Up M (bz M a b).2 2/\In (bz M a b).2 (bz M a b).1:=by obtain⟨c,d⟩:=nW h g i;obtain⟨e,f⟩:=n7 c.ok d;exact⟨c.trans e,f⟩
theorem DE(i:Nat)(x:Nd):(mY i x).n=i:=rfl
theorem DD(i:Nat)(x:Nd):(mY i x).cs= [ti x.op,T.ao,ti x.n,ti x.d,T.str x.nm]:=rfl
theorem ju{M:Mk}{a:Int}(b:In M a)(op:Int):Or (.call 93) [r0,I a,I op] (df M)=some (tb (cr M a==op)::cF M):=by
 have c:=b;obtain⟨i,x,rfl,d⟩:=b.get;have ho:cr M (i:Int)=x.op:=by unfold cr;rw [Oa,d]
 rw [ho];refine ah ?_;rw [H6];simp only [an,↓reduceIte,Int.reduceBEq,Int.reduceEq,aS,c.1,c.2,and_self,Oa,yf d,DD,aV];rfl
theorem kT{M:Mk}(e:M.N.length<=100000)(b:Bool):Or (.call 65) [r0,B b] (df M)=some (ti (cS M b).1::cF (cS M b).2):=by
 have c:=iX M e 1 s0 0 0 [] true rfl (λk a=>by cases a) (by simp) (by omega) (by omega) (by omega) (by decide);have d:=iX M e 2 s0 0 0 [] true rfl (λk a=>by cases a) (by simp) (by omega) (by omega) (by omega) (by decide);replace c:Or (.call 61) [r0,I 1,AV.t (T.str s0),I 0,I 0,AV.t (T.ab 1 true [])] (df M)=_:=c;replace d:Or (.call 61) [r0,I 2,AV.t (T.str s0),I 0,I 0,AV.t (T.ab 1 true [])] (df M)=_:=d;unfold cS;refine ah ?_;rw [He];cases b with
 | true=>simp only [an,↓reduceIte,Int.reduceBEq,Int.reduceEq,c,aY,aX,NO,aV,aS];rfl
 | false=>simp only [an,↓reduceIte,Int.reduceBEq,Int.reduceEq,d,aY,aX,NO,aV,aS];rfl
theorem pT{M:Mk}(h:Ok M)(d:M.N.length<=100000){a:Int}(j:In M a):Or (.call 66) [r0,I a] (df M)=some (ti (gy M a).1::cF (gy M a).2):=by
 have m:=j;have s:=kT d false;have u:=kT d true;have l:=iX M d 3 s0 0 0 [a] false rfl (λk e=>by simp only [NY] at e;subst e;exact j.i64 d) (by simp) (by omega) (by omega) (by omega) (by decide);obtain⟨i,x,rfl,c⟩:=j.get;have ho:cr M (i:Int)=x.op:=by unfold cr;rw [Oa,c]
 have e:tV M (i:Int)=x.ks.headD 0:=by unfold tV;rw [Oa,c]
 replace l:Or (.call 61) [r0,I 3,AV.t (T.str s0),I 0,I 0,AV.t (T.ab 1 false [[ti (i:Int)]])] (df M)=_:=l;unfold gy;rw [ho,e];refine ah ?_;rw [Hf];simp only [aG,aI,aR,bH,aL,aS,m.1,m.2,and_self,↓reduceIte,Oa,yf c,DD,DE];by_cases f:x.op=1
 .simp only [an,↓reduceIte,Int.reduceBEq,Int.reduceEq,f,s,aY,aX,NO,aV,aS];rfl
 by_cases g:x.op=2
 .simp only [an,↓reduceIte,Int.reduceBEq,Int.reduceEq,g,u,aY,aX,NO,aV,aS];rfl
 by_cases c3:x.op=3
 .obtain⟨k,r,b⟩:=h.no i x c c3;have hl:(0:Int)<=0/\(0:Int) < ((x.ks.length:Nat):Int):=by rw [b];simp
  have q:(enc x.ks)[0]? =some [ti k]:=by rw [b];rfl
  simp only [an,↓reduceIte,Int.reduceBEq,Int.reduceEq,c3,ye c,aD,hl,and_self,q,aV];rw [b];rfl
 .have n:(x.op==1)=false:=by simpa using f
  have o:(x.op==2)=false:=by simpa using g
  have p:(x.op==3)=false:=by simpa using c3
  simp only [an,↓reduceIte,Int.reduceBEq,Int.reduceEq,n,o,p,f,g,c3,l,aY,aX,NO,aV,aS];rfl
theorem jV{M:Mk}(s:M.N.length<=100000){a b:Int}(o:In M a)(p:In M b):Or (.call 67) [r0,I a,I b] (df M)=some (ti (cu M a b).1::cF (cu M a b).2):=by
 have e:=ju o 2;have i:=ju o 1;have m:=ju p 2;have g:=ju p 1;have q:=iX M s 4 s0 0 0 [a,b] false rfl (λk v=>(p7 o p k v).i64 s) (by simp) (by omega) (by omega) (by omega) (by decide);replace q:Or (.call 61) [r0,I 4,AV.t (T.str s0),I 0,I 0,AV.t (T.ab 1 false [[ti a],[ti b]])] (df M)=_:=q;unfold cu;refine ah ?_;rw [Hg];by_cases c:cr M a=2
 .rw [c] at e i;simp only [an,↓reduceIte,Int.reduceBEq,Int.reduceEq,c,e,aY,aX,NO,aV,aS,true_or];rfl
 by_cases d:cr M b=1
 .rw [d] at m g;have f:(cr M a==2)=false:=by simpa using c
  simp only [an,↓reduceIte,Int.reduceBEq,Int.reduceEq,c,d,f,e,g,aY,aX,NO,aV,aS,true_or,or_true];rfl
 have f:(cr M a==2)=false:=by simpa using c
 have l:(cr M b==1)=false:=by simpa using d
 by_cases c3:a=b
 .subst c3;simp only [an,↓reduceIte,Int.reduceBEq,Int.reduceEq,c,d,f,l,e,g,aY,aX,NO,aV,aS,true_or,or_true];rfl
 have n:(a==b)=false:=by simpa using c3
 by_cases h:cr M a=1
 .rw [h] at i;simp only [an,↓reduceIte,Int.reduceBEq,Int.reduceEq,c,d,c3,h,f,l,n,e,i,g,aY,aX,NO,aV,aS,true_or,or_true,or_self];rfl
 have r:(cr M a==1)=false:=by simpa using h
 by_cases j:cr M b=2
 .rw [j] at m;simp only [an,↓reduceIte,Int.reduceBEq,Int.reduceEq,c,d,c3,h,j,f,l,n,r,e,i,m,g,aY,aX,NO,aV,aS,true_or,or_true,or_self];rfl
 have u:(cr M b==2)=false:=by simpa using j
 simp only [an,↓reduceIte,Int.reduceBEq,Int.reduceEq,c,d,c3,h,j,f,l,n,r,u,e,i,m,g,q,aY,aX,NO,aV,aS,true_or,or_true,or_self];rfl
theorem rT{M:Mk}(s:M.N.length<=100000){a b:Int}(o:In M a)(p:In M b):Or (.call 68) [r0,I a,I b] (df M)=some (ti (dZ M a b).1::cF (dZ M a b).2):=by
 have i:=ju o 2;have e:=ju o 1;have g:=ju p 2;have m:=ju p 1;have q:=iX M s 5 s0 0 0 [a,b] false rfl (λk v=>(p7 o p k v).i64 s) (by simp) (by omega) (by omega) (by omega) (by decide);replace q:Or (.call 61) [r0,I 5,AV.t (T.str s0),I 0,I 0,AV.t (T.ab 1 false [[ti a],[ti b]])] (df M)=_:=q;unfold dZ;refine ah ?_;rw [Hh];by_cases c:cr M a=1
 .rw [c] at i e;simp only [an,↓reduceIte,Int.reduceBEq,Int.reduceEq,c,e,aY,aX,NO,aV,aS,true_or];rfl
 by_cases d:cr M b=2
 .rw [d] at g m;have f:(cr M a==1)=false:=by simpa using c
  simp only [an,↓reduceIte,Int.reduceBEq,Int.reduceEq,c,d,f,e,g,aY,aX,NO,aV,aS,true_or,or_true];rfl
 have f:(cr M a==1)=false:=by simpa using c
 have l:(cr M b==2)=false:=by simpa using d
 by_cases c3:a=b
 .subst c3;simp only [an,↓reduceIte,Int.reduceBEq,Int.reduceEq,c,d,f,l,e,g,aY,aX,NO,aV,aS,true_or,or_true];rfl
 have n:(a==b)=false:=by simpa using c3
 by_cases h:cr M a=2
 .rw [h] at i;simp only [an,↓reduceIte,Int.reduceBEq,Int.reduceEq,c,d,c3,h,f,l,n,i,e,g,aY,aX,NO,aV,aS,true_or,or_true,or_self];rfl
 have r:(cr M a==2)=false:=by simpa using h
 by_cases j:cr M b=1
 .rw [j] at m;simp only [an,↓reduceIte,Int.reduceBEq,Int.reduceEq,c,d,c3,h,j,f,l,n,r,i,e,g,m,aY,aX,NO,aV,aS,true_or,or_true,or_self];rfl
 have u:(cr M b==1)=false:=by simpa using j
 simp only [an,↓reduceIte,Int.reduceBEq,Int.reduceEq,c,d,c3,h,j,f,l,n,r,u,i,e,g,m,q,aY,aX,NO,aV,aS,true_or,or_true,or_self];rfl
theorem uS{M:Mk}(h:Ok M)(i:M.N.length<=100000){a b:Int}(n:In M a)(o:In M b):Or (.call 74) [r0,I a,I b] (df M)=some (ti (dO M a b).1::cF (dO M a b).2):=by
 have p:=ju n 2;have e:=ju n 1;have r:=ju o 2;have j:=ju o 1;have s:=iX M i 6 s0 0 0 [a,b] false rfl (λk w=>(p7 n o k w).i64 i) (by simp) (by omega) (by omega) (by omega) (by decide);replace s:Or (.call 61) [r0,I 6,AV.t (T.str s0),I 0,I 0,AV.t (T.ab 1 false [[ti a],[ti b]])] (df M)=_:=s;have x:=pT h i n;have y:=pT h i o;have z:=kT i true;unfold dO;refine ah ?_;rw [Ho];by_cases c:a=b
 .subst c;simp only [an,↓reduceIte,Int.reduceBEq,Int.reduceEq,z,aY,aX,NO,aV,aS];rfl
 have g:(a==b)=false:=by simpa using c
 by_cases d:cr M a=1
 .rw [d] at e;simp only [an,↓reduceIte,Int.reduceBEq,Int.reduceEq,c,d,g,e,aY,aX,NO,aV,aS];rfl
 have m:(cr M a==1)=false:=by simpa using d
 by_cases c3:cr M b=1
 .rw [c3] at j;simp only [an,↓reduceIte,Int.reduceBEq,Int.reduceEq,c,d,c3,g,m,e,j,aY,aX,NO,aV,aS];rfl
 have q:(cr M b==1)=false:=by simpa using c3
 by_cases f:cr M a=2
 .rw [f] at p;simp only [an,↓reduceIte,Int.reduceBEq,Int.reduceEq,c,d,c3,f,g,m,q,p,e,j,y,aY,aX,NO,aV,aS];rfl
 have u:(cr M a==2)=false:=by simpa using f
 by_cases l:cr M b=2
 .rw [l] at r;simp only [an,↓reduceIte,Int.reduceBEq,Int.reduceEq,c,d,c3,f,l,g,m,q,u,p,e,r,j,x,aY,aX,NO,aV,aS];rfl
 have v:(cr M b==2)=false:=by simpa using l
 simp only [an,↓reduceIte,Int.reduceBEq,Int.reduceEq,c,d,c3,f,l,g,m,q,u,v,p,e,r,j,s,aY,aX,NO,aV,aS];rfl
theorem pU{M:Mk}(h:Ok M)(j:M.N.length<=90000){a b:Int}(d:In M a)(e:In M b):Or (.call 69) [r0,I a,I b] (df M)=some (ti (bz M a b).1::cF (bz M a b).2):=by have g:=uS h (by omega) d e;obtain⟨c,f⟩:=nW h d e;have i:=pT c.ok (by have:=c.up;omega) f;refine ah ?_;rw [Hi];simp only [an,↓reduceIte,Int.reduceBEq,Int.reduceEq,g,i,aY,aX,NO,aV,aS];rfl
open Go Go.Aev Go.IntKind
def LO(l:List Int):T:=if l.isEmpty then T.ae true else T.ab 1 false (enc l)
theorem cH(l:List Int):(LO l).ak 1=some (l.isEmpty,enc l):=by cases l <;> rfl
theorem dX(l:List Int)(x:Int):enc l++ [[T.int .i64 x]]=enc (l++ [x]):=by simp [enc]
theorem Up.all{M a:Mk}{c:Nat}(h:Up M a c){l:List Int}(hl:∀x∈l,Go.Aev.Gen.In M x):∀x∈l,Go.Aev.Gen.In a x:=λx b=>h.In (hl x b)
abbrev nB(M:Mk)(acc:List Int):List ad:= [ad.box [o4,o2],ad.dead,ad.mp false [Ck.s] (Ck.i .i64) (cg M.K),ad.sl false 1 false (enc acc),ad.rows M.N.isEmpty 5 1 1 M.N.length (rows M.N)]
abbrev ql(M:Mk):List ad:= [ad.box [o3,o2],ad.dead,ad.mp false [Ck.s] (Ck.i .i64) (cg M.K),ad.rows M.N.isEmpty 5 1 1 M.N.length (rows M.N)]
def a8(f:Mk->Int->Int->Int×Mk)(M:Mk):List Int->List Int->List Int×Mk
 | x::a,y::b=>((f M x y).1:: (a8 f (f M x y).2 a b).1,(a8 f (f M x y).2 a b).2)
 | _,_=>([],M)
theorem pc{f:Mk->Int->Int->Int×Mk}{c:Nat}(l:∀M a b,Ok M->In M a->In M b->Up M (f M a b).2 c/\In (f M a b).2 (f M a b).1):
  ∀{a b:List Int} {M:Mk},Ok M->(∀x∈a,In M x)->(∀x∈b,In M x)->a.length=b.length->
   Up M (a8 f M a b).2 (c * a.length)/\(∀x∈(a8 f M a b).1,In (a8 f M a b).2 x)/\(a8 f M a b).1.length=a.length
 | [],b,M,h,_,_,_=>by rw [show a8 f M [] b= ([],M) by simp [a8]];exact⟨Up.refl h,λx p=>(by cases p),rfl⟩
 | x::a,[],M,h,_,_,e=>by cases e
 | x::a,y::b,M,h,j,k,e=>by
  obtain⟨g,m⟩:=l M x y h (j x NN) (k y NN);obtain⟨i,n,o⟩:=pc l (a:=a) (b:=b) g.ok (g.all λz d=>j z (NP _ d)) (g.all λz d=>k z (NP _ d)) (by simpa using e);refine⟨(g.trans i).mono (by rw [NV,Nat.mul_add];omega),λz d=> ?_,by simp [a8,o]⟩;rcases N2.1 d with rfl | d
  .exact i.In m
  .exact n z d
def fR(M:Mk)(c:Int):List Int->List Int->List Int×Mk
 | x::a,y::b=>
  let p:=bz M x y;let q:=bz p.2 p.1 c
  if a.isEmpty then([q.1],q.2) else
  let r:=cu q.2 x y;let s:=cu r.2 p.1 c;let t:=dZ s.2 r.1 s.1
  (q.1:: (fR t.2 t.1 a b).1,(fR t.2 t.1 a b).2)
 | _,_=>([],M)
theorem Ey(M:Mk)(c:Int)(b:List Int):fR M c [] b= ([],M):=by simp [fR]
def dD(M:Mk)(a b:List Int):List Int×Mk:=fR (cS M false).2 (cS M false).1 a b
structure E5 (M:Mk) (c x y:Int):Prop where
 p:Up M (bz M x y).2 2
 pi:In (bz M x y).2 (bz M x y).1
 q:Up M (bz (bz M x y).2 (bz M x y).1 c).2 4
 qi:In (bz (bz M x y).2 (bz M x y).1 c).2 (bz (bz M x y).2 (bz M x y).1 c).1
 r:Up M (cu (bz (bz M x y).2 (bz M x y).1 c).2 x y).2 5
 ri:In (cu (bz (bz M x y).2 (bz M x y).1 c).2 x y).2 (cu (bz (bz M x y).2 (bz M x y).1 c).2 x y).1
 s:Up M (cu (cu (bz (bz M x y).2 (bz M x y).1 c).2 x y).2 (bz M x y).1 c).2 6
 si:In (cu (cu (bz (bz M x y).2 (bz M x y).1 c).2 x y).2 (bz M x y).1 c).2 (cu (cu (bz (bz M x y).2 (bz M x y).1 c).2 x y).2 (bz M x y).1 c).1
 rs:In (cu (cu (bz (bz M x y).2 (bz M x y).1 c).2 x y).2 (bz M x y).1 c).2 (cu (bz (bz M x y).2 (bz M x y).1 c).2 x y).1
theorem yB{M:Mk}(h:Ok M){c x y:Int}(e:In M c)(f:In M x)(g:In M y):E5 M c x y:=by obtain⟨a,b⟩:=nc h f g;obtain⟨d,k⟩:=nc a.ok b (a.In e);have q:=a.trans d;obtain⟨r1,i⟩:=fT d.ok (q.In f) (q.In g);have r:=q.trans r1;obtain⟨j,l⟩:=fT r1.ok ((d.trans r1).In b) (r.In e);exact⟨a,b,q,k,r,i,r.trans j,l,j.In i⟩
theorem Ez:∀{a b:List Int} {M:Mk} {c:Int},Ok M->In M c->(∀x∈a,In M x)->(∀x∈b,In M x)->a.length=b.length->
   Up M (fR M c a b).2 (7 * a.length)/\(∀x∈(fR M c a b).1,In (fR M c a b).2 x)/\(fR M c a b).1.length=a.length
 | [],b,M,c,h,_,_,_,_=>by rw [show fR M c [] b= ([],M) by simp [fR]];exact⟨Up.refl h,λx o=>(by cases o),rfl⟩
 | x::a,[],M,c,h,_,_,_,e=>by cases e
 | x::a,y::b,M,c,h,i,f,g,e=>by
  have st:=yB h i (f x NN) (g y NN);rw [fR];dsimp only;split
  .rename_i n;have:a= []:=by simpa using n
   subst this;exact⟨st.q.mono (by simp),λz d=>by simp only [NY] at d;subst d;exact st.qi,rfl⟩
  .obtain⟨k,u⟩:=oa st.s.ok st.rs st.si;have t:=st.s.trans k;obtain⟨j,l,m⟩:=Ez (a:=a) (b:=b) t.ok u (t.all λz d=>f z (NP _ d)) (t.all λz d=>g z (NP _ d)) (by simpa using e);refine⟨(t.trans j).mono (by rw [NV,Nat.mul_add];omega),λz d=> ?_,by simp [m]⟩;rcases N2.1 d with rfl | d
   .exact j.In (k.In ((fT st.q.ok (st.q.In (f x NN)) (st.q.In (g y NN))).1.trans (fT st.r.ok ((fT st.q.ok (st.q.In (f x NN)) (st.q.In (g y NN))).1.In ((nc st.p.ok st.pi (st.p.In i)).1.In st.pi)) (st.r.In i)).1 |>.In st.qi))
   .exact l z d
theorem Ex{a b:List Int}{M:Mk}(h:Ok M)(j:∀x∈a,In M x)(k:∀x∈b,In M x)(e:a.length=b.length):
   Up M (dD M a b).2 (1+7 * a.length)/\(∀x∈(dD M a b).1,In (dD M a b).2 x)/\(dD M a b).1.length=a.length:=by
 obtain⟨c,d⟩:=ir h false;obtain⟨f,g,i⟩:=Ez c.ok d (c.all j) (c.all k) e;exact⟨c.trans f,g,i⟩
theorem zH{a:Type}{l r:List a}{i:Nat}(h:l.drop i=r)(b:i<=l.length):l.length=i+r.length:=by rw [<-h,ON];omega
theorem CQ{ea eb:Bool}{a b:List Int}(W:a.length=b.length)(hl:a.length<=100):∀(e f:List Int) (i:Nat) (M:Mk) (c:Int) (acc:List Int),a.drop i=e->b.drop i=f->i<=a.length->Ok M->In M c->(∀x∈e,In M x)->(∀x∈f,In M x)->M.N.length+7 * e.length<=80000->acc.length=i->
  Or nz [r0,ab ea a,ab eb b,I c,o3,I (a.length:Int),I (i:Int)] (nB M acc)=some (T.ab 1 false (enc (acc++ (fR M c e f).1))::cF (fR M c e f).2):=by
 intro e;induction e with
 | nil=>
  intro f i M c acc A B P h j C m H g;have l:¬(i:Int) < (a.length:Int):=by have:=bp A;omega
  refine ah ?_;rw [wq];simp only [an,↓reduceIte,Int.reduceBEq,Int.reduceEq,l,aY,aX,NO,aV,aS,fR,Oj];rfl
 | cons x e J=>
  intro f i M c acc A B P h j C m H g;obtain⟨D,X,v⟩:=bq A;cases f with
  | nil=>exact absurd (bp B) (by omega)
  | cons y f=>
   obtain⟨E,Y,F⟩:=bq B;have l:(i:Int) < (a.length:Int):=by omega
   have G:(i:Int) < (b.length:Int):=by omega
   have h0: 0<=(i:Int):=by omega
   have n:=C x NN;have o:=m y NN;have st:=yB h j n o;rw [NV] at H;have K:=pU h (by omega) n o;have L:=pU st.p.ok (by have:=st.p.up;omega) st.pi (st.p.In j);have k:=zH v (by omega);have w:=next i (by omega);have O:bt 8 (acc.length+1)=some ():=cE (by omega);rw [fR];dsimp only;cases e with
   | nil=>
    have u:¬((i+1:Nat):Int) < (a.length:Int):=by rw [N7] at k;omega
    have d:=J f (i+1) _ c (acc++ [(bz (bz M x y).2 (bz M x y).1 c).1]) v F (by omega) st.q.ok (st.q.In j) (λz d=>by cases d) (st.q.all λz d=>m z (NP _ d)) (by have:=st.q.up;simp;omega) (by simp [g]);rw [Ey] at d;refine ah ?_;rw [wq];simp only [an,↓reduceIte,Int.reduceBEq,Int.reduceEq,l,G,h0,and_self,aD,bM D,bM E,K,L,aY,aX,NO,aV,aS,NW,O,w,u,dX,QG];rw [Oj] at d;exact d
   | cons x2 e=>
    have u:((i+1:Nat):Int) < (a.length:Int):=by rw [NV] at k;omega
    have Q:=jV (by have:=st.q.up;omega) (st.q.In n) (st.q.In o);have R:=jV (by have:=st.r.up;omega) ((fT st.q.ok (st.q.In n) (st.q.In o)).1.In ((nc st.p.ok st.pi (st.p.In j)).1.In st.pi)) (st.r.In j);have S:=rT (by have:=st.s.up;omega) st.rs st.si;obtain⟨U,V⟩:=oa st.s.ok st.rs st.si;have t:=st.s.trans U;have d:=J f (i+1) _ _ (acc++ [(bz (bz M x y).2 (bz M x y).1 c).1]) v F (by omega) t.ok V (t.all λz d=>C z (NP _ d)) (t.all λz d=>m z (NP _ d)) (by have:=t.up;omega) (by simp [g]);refine ah ?_;rw [wq];simp only [an,↓reduceIte,Int.reduceBEq,Int.reduceEq,l,G,h0,and_self,aD,bM D,bM E,K,L,Q,R,S,aY,aX,NO,aV,aS,NW,O,w,u,dX,QB];simp only [Og,Ol] at d;exact d
theorem D6{M:Mk}(h:Ok M){ea eb:Bool}{a b:List Int}(j:a.length=b.length)(hl:a.length<=100)(G:∀x∈a,In M x)(H:∀x∈b,In M x)(O:M.N.length<=70000):
  Or (.call 70) [r0,ab ea a,ab eb b] (df M)=some (LO (dD M a b).1::cF (dD M a b).2):=by
 have J:=kT (show M.N.length<=100000 by omega) false;obtain⟨l,V⟩:=ir h false;have g:Or nz [r0,ab ea a,ab eb b,I (cS M false).1,AV.t (T.ae true),I (a.length:Int),I 0] (ql (cS M false).2)=some (LO (dD M a b).1::cF (dD M a b).2):=by
  unfold dD;have A:(cS M false).2.N.length<=70001:=by have:=l.up;omega
  revert V;generalize (cS M false).1=c;have f:=l.all G;have e:=l.all H;have n:=l.ok;revert f e n A;generalize (cS M false).2=m;intro A f e n k;clear J l G H h O M;cases a with
  | nil=>refine ah ?_;rw [wo];simp only [an,↓reduceIte,Int.reduceBEq,Int.reduceEq,aY,aX,NO,aV,aS,fR,N7,On,Ox,decide_false];rfl
  | cons x i=>
   cases b with
   | nil=>cases j
   | cons y v=>
    have o:=f x NN;have u:=e y NN;have st:=yB n k o u;rw [NV] at hl;have K:=pU n (by omega) o u;have L:=pU st.p.ok (by have:=st.p.up;omega) st.pi (st.p.In k);have E:(0:Int) < (((x::i).length:Nat):Int):=by simp
    have F:(0:Int) < (((y::v).length:Nat):Int):=by simp
    have h0:(0:Int)<=0:=by omega
    have C:(enc (x::i))[(0:Int).toNat]? =some [ti x]:=rfl;have D:(enc (y::v))[(0:Int).toNat]? =some [ti y]:=rfl;have w:i64.wrap (0+1)= ((1:Nat):Int):=by decide
    rw [fR];dsimp only;cases i with
    | nil=>
     have B:¬((1:Nat):Int) < ((([x]:List Int).length:Nat):Int):=by simp
     have d:=CQ (ea:=ea) (eb:=eb) j (by omega) [] v 1 _ c [(bz (bz m x y).2 (bz m x y).1 c).1] rfl rfl (by simp) st.q.ok (st.q.In k) (λz d=>by cases d) (st.q.all λz d=>e z (NP _ d)) (by have:=st.q.up;simp;omega) rfl;rw [Ey] at d;refine ah ?_;rw [wo];simp only [an,↓reduceIte,Int.reduceBEq,Int.reduceEq,E,F,h0,and_self,aD,C,D,K,L,aY,aX,NO,aV,aS,w,B,QG];exact d
     | cons x2 i=>
     have B:((1:Nat):Int) < (((x::x2::i).length:Nat):Int):=by simp;omega
     have P:=jV (by have:=st.q.up;omega) (st.q.In o) (st.q.In u);have Q:=jV (by have:=st.r.up;omega) ((fT st.q.ok (st.q.In o) (st.q.In u)).1.In ((nc st.p.ok st.pi (st.p.In k)).1.In st.pi)) (st.r.In k);have R:=rT (by have:=st.s.up;omega) st.rs st.si;obtain⟨S,U⟩:=oa st.s.ok st.rs st.si;have t:=st.s.trans S;have d:=CQ (ea:=ea) (eb:=eb) j (by rw [NV];omega) (x2::i) v 1 _ _ [(bz (bz m x y).2 (bz m x y).1 c).1] rfl rfl (by simp) t.ok U (t.all λz d=>f z (NP _ d)) (t.all λz d=>e z (NP _ d)) (by have:=t.up;omega) rfl;refine ah ?_;rw [wo];simp only [an,↓reduceIte,Int.reduceBEq,Int.reduceEq,E,F,h0,and_self,aD,C,D,K,L,P,Q,R,aY,aX,NO,aV,aS,w,B,QB];exact d
 generalize W:LO (dD M a b).1::cF (dD M a b).2=r at g;refine ah ?_;rw [Hj];simp only [an,↓reduceIte,Int.reduceBEq,Int.reduceEq,J,aY,aX,NO,aV,aS,aD];exact g
open Go Go.Aev Go.IntKind
abbrev E4(M:Mk)(acc:List Int):List ad:= [ad.box [o1,o2],ad.rows M.N.isEmpty 5 1 1 M.N.length (rows M.N),ad.mp false [Ck.s] (Ck.i .i64) (cg M.K),ad.sl false 1 false (enc acc)]
def eR(M:Mk)(a:List Int)(n:Int):Nat->Nat->List Int×Mk
 | _,0=>([],M)
 | i,k+1=>if(i:Int) < n then((cS M false).1:: (eR (cS M false).2 a n (i+1) k).1,(eR (cS M false).2 a n (i+1) k).2)
  else(a.getD ((i:Int) - n).toNat 0:: (eR M a n (i+1) k).1,(eR M a n (i+1) k).2)
def bx(M:Mk)(a:List Int)(n:Int):List Int×Mk:=eR M a n 0 a.length
theorem IG{a:List Int}{P:Int->Prop}(c:∀x∈a,P x){k:Nat}(b:k < a.length):P (a.getD k 0):=by rw [N8,NZ b];exact c _ (P8 b)
theorem xw{a:List Int}{n:Int}(l: 0<=n):∀{k i:Nat} {M:Mk},Ok M->(∀x∈a,In M x)->i+k=a.length->
  Up M (eR M a n i k).2 k/\(∀x∈(eR M a n i k).1,In (eR M a n i k).2 x)/\(eR M a n i k).1.length=k
 | 0,i,M,h,_,_=>⟨Up.refl h,λx o=>(by cases o),rfl⟩
 | k+1,i,M,h,j,e=>by
  rw [eR];split
  .obtain⟨d,m⟩:=ir h false;obtain⟨c,f,g⟩:=xw l (k:=k) (i:=i+1) d.ok (d.all j) (by omega);refine⟨(d.trans c).mono (by omega),λz b=> ?_,by simp [g]⟩;rcases N2.1 b with rfl | b
   .exact c.In m
   .exact f z b
  .obtain⟨c,f,g⟩:=xw l (k:=k) (i:=i+1) h j (by omega);refine⟨c.mono (by omega),λz b=> ?_,by simp [g]⟩;rcases N2.1 b with rfl | b
   .exact c.In (IG j (by omega))
   .exact f z b
theorem rp{M:Mk}{a:List Int}{n:Int}(c: 0<=n)(h:Ok M)(b:∀x∈a,In M x):
  Up M (bx M a n).2 a.length/\(∀x∈(bx M a n).1,In (bx M a n).2 x)/\(bx M a n).1.length=a.length:=xw c h b (Ov _)
theorem Kf{ea:Bool}{a:List Int}{n:Int}(u: 0<=n)(t:n<=1000)(hl:a.length<=100):∀(k i:Nat) (M:Mk) (acc:List Int),i+k=a.length->Ok M->M.N.length+k<=80000->acc.length=i->
  Or iE [r0,ab ea a,I n,o3,I (a.length:Int),I (i:Int)] (nB M acc)=some (T.ab 1 false (enc (acc++ (eR M a n i k).1))::cF (eR M a n i k).2):=by
 intro k;induction k with
 | zero=>
  intro i M acc q h o b;have d:¬(i:Int) < (a.length:Int):=by omega
  refine ah ?_;rw [wz];simp only [an,↓reduceIte,Int.reduceBEq,Int.reduceEq,d,aY,aX,NO,aV,aS,eR,Oj];rfl
 | succ k g=>
  intro i M acc q h o b;have d:(i:Int) < (a.length:Int):=by omega
  have w:=next i (by omega);have j:bt 8 (acc.length+1)=some ():=cE (by omega);rw [eR];by_cases e:(i:Int) < n
  .have r:=kT (show M.N.length<=100000 by omega) false;obtain⟨l,v⟩:=ir h false;have c:=g (i+1) _ (acc++ [(cS M false).1]) (by omega) l.ok (by have:=l.up;omega) (by simp [b]);rw [if_pos e];simp only [Og,Ol] at c;refine ah ?_;rw [wz];simp only [an,↓reduceIte,Int.reduceBEq,Int.reduceEq,d,e,r,aY,aX,NO,aV,aS,aD,NW,j,w,dX];exact c
  .have s:i64.wrap ((i:Int) - n)= (i:Int) - n:=wr (by omega);have m: 0<=(i:Int) - n/\(i:Int) - n < (a.length:Int):=by omega
   have f:((i:Int) - n).toNat < a.length:=by omega
   have p:(enc a)[((i:Int) - n).toNat]? =some [ti (a.getD ((i:Int) - n).toNat 0)]:=by refine eK ?_;rw [N8,NZ f];rfl
   have c:=g (i+1) M (acc++ [a.getD ((i:Int) - n).toNat 0]) (by omega) h (by omega) (by simp [b]);rw [if_neg e];simp only [Og,Ol] at c;refine ah ?_;rw [wz];simp only [an,↓reduceIte,Int.reduceBEq,Int.reduceEq,d,e,s,m,and_self,p,aY,aX,NO,aV,aS,aD,NW,j,w,dX];exact c
theorem Kg{ea:Bool}{a:List Int}{n:Int}(r: 0<=n)(q:n<=1000)(hl:a.length<=100):∀(k i:Nat) (M:Mk) (acc:List Int),i+k=a.length->n<=(i:Int)->acc.length=i->
  Or iE [r0,ab ea a,I n,o3,I (a.length:Int),I (i:Int)] (E4 M acc)=some (T.ab 1 false (enc (acc++ (eR M a n i k).1))::cF (eR M a n i k).2):=by
 intro k;induction k with
 | zero=>
  intro i M acc l g b;have d:¬(i:Int) < (a.length:Int):=by omega
  refine ah ?_;rw [A4];simp only [an,↓reduceIte,Int.reduceBEq,Int.reduceEq,d,aY,aX,NO,aV,aS,eR,Oj];rfl
 | succ k m=>
  intro i M acc l g b;have d:(i:Int) < (a.length:Int):=by omega
  have w:=next i (by omega);have o:bt 8 (acc.length+1)=some ():=cE (by omega);rw [eR];have c:¬(i:Int) < n:=by omega
  have p:i64.wrap ((i:Int) - n)= (i:Int) - n:=wr (by omega);have h: 0<=(i:Int) - n/\(i:Int) - n < (a.length:Int):=by omega
  have e:((i:Int) - n).toNat < a.length:=by omega
  have j:(enc a)[((i:Int) - n).toNat]? =some [ti (a.getD ((i:Int) - n).toNat 0)]:=by refine eK ?_;rw [N8,NZ e];rfl
  have f:=m (i+1) M (acc++ [a.getD ((i:Int) - n).toNat 0]) (by omega) (by omega) (by simp [b]);rw [if_neg c];simp only [Og,Ol] at f;refine ah ?_;rw [A4];simp only [an,↓reduceIte,Int.reduceBEq,Int.reduceEq,d,c,p,h,and_self,j,aY,aX,NO,aV,aS,aD,NW,o,w,dX];exact f
theorem ym{M:Mk}(h:Ok M){ea:Bool}{a:List Int}{n:Int}(j: 0<=n)(e:n<=1000)(hl:a.length<=100)(s:M.N.length<=70000):
  Or (.call 72) [r0,ab ea a,I n] (df M)=some (LO (bx M a n).1::cF (bx M a n).2):=by
 have c:Or iE [r0,ab ea a,I n,AV.t (T.ae true),I (a.length:Int),I 0] (df M)=some (LO (bx M a n).1::cF (bx M a n).2):=by
  unfold bx;cases a with
  | nil=>refine ah ?_;rw [wu];simp only [an,↓reduceIte,Int.reduceBEq,Int.reduceEq,aY,aX,NO,aV,aS,eR,N7,On,Ox,decide_false];rfl
  | cons x b=>
   rw [NV] at hl;have i:(0:Int) < (((x::b).length:Nat):Int):=by simp
   have w:i64.wrap (0+1)= ((1:Nat):Int):=by decide
   rw [show eR M (x::b) n 0 (x::b).length=eR M (x::b) n 0 (b.length+1) from rfl,eR];by_cases f:(0:Int) < n
   .have p:=kT (show M.N.length<=100000 by omega) false;obtain⟨k,v⟩:=ir h false;have g:=Kf (ea:=ea) (a:=x::b) j e (by rw [NV];omega) b.length 1 _ [(cS M false).1] (by rw [NV];omega) k.ok (by have:=k.up;omega) rfl;have d:((0:Nat):Int) < n:=f;rw [if_pos d];refine ah ?_;rw [wu];simp only [an,↓reduceIte,Int.reduceBEq,Int.reduceEq,i,f,p,aY,aX,NO,aV,aS,w];exact g
   .have l:n=0:=by omega
    subst l;have q:i64.wrap (0 - 0)=0:=by decide
    have m:(0:Int)<=0:=by omega
    have o:(enc (x::b))[(0:Int).toNat]? =some [ti x]:=rfl;have g:=Kg (ea:=ea) (a:=x::b) (n:=0) j e (by rw [NV];omega) b.length 1 M [x] (by rw [NV];omega) (by omega) rfl;have d:¬((0:Nat):Int) < 0:=by omega
    rw [if_neg d];refine ah ?_;rw [wu];simp only [an,↓reduceIte,Int.reduceBEq,Int.reduceEq,i,f,q,m,and_self,o,aD,aY,aX,NO,aV,aS,w];exact g
 generalize u:LO (bx M a n).1::cF (bx M a n).2=r at c;refine ah ?_;rw [Hm];simp only [an,↓reduceIte,Int.reduceBEq,Int.reduceEq,aY,aX,NO,aV,aS,aD];exact c
def cI(M:Mk)(x:Int):List Int->List Int×Mk
 | y::l=>((cu M x y).1:: (cI (cu M x y).2 x l).1,(cI (cu M x y).2 x l).2)
 | []=>([],M)
def iB(M:Mk)(a out:List Int):Nat->List Int->List Int×Mk
 | i,x::b=>
  let l:=bx M a (i:Int);let p:=cI l.2 x l.1;let s:=dD p.2 out p.1
  iB s.2 a s.1 (i+1) b
 | _,[]=>(out,M)
def jc(M:Mk)(a b:List Int):List Int×Mk:=iB (bx M a (a.length:Int)).2 a (bx M a (a.length:Int)).1 0 b
theorem Db{x:Int}:∀{l:List Int} {M:Mk},Ok M->In M x->(∀y∈l,In M y)->
  Up M (cI M x l).2 l.length/\(∀y∈(cI M x l).1,In (cI M x l).2 y)/\(cI M x l).1.length=l.length
 | [],M,h,_,_=>⟨Up.refl h,λx c=>(by cases c),rfl⟩
 | y::l,M,h,c,hl=>by
  obtain⟨b,e⟩:=fT h c (hl y NN);obtain⟨d,f,g⟩:=Db (l:=l) b.ok (b.In c) (b.all λz a=>hl z (NP _ a));refine⟨(b.trans d).mono (by rw [NV];omega),λz a=> ?_,by simp [cI,g]⟩;rcases N2.1 a with rfl | a
  .exact d.In e
  .exact f z a
structure E6 (M:Mk) (a out:List Int) (i:Nat) (x:Int):Prop where
 l:Up M (bx M a (i:Int)).2 a.length
 li:∀y∈(bx M a (i:Int)).1,In (bx M a (i:Int)).2 y
 ll:(bx M a (i:Int)).1.length=a.length
 p:Up M (cI (bx M a (i:Int)).2 x (bx M a (i:Int)).1).2 (2 * a.length)
 pi:∀y∈(cI (bx M a (i:Int)).2 x (bx M a (i:Int)).1).1,In (cI (bx M a (i:Int)).2 x (bx M a (i:Int)).1).2 y
 pl:(cI (bx M a (i:Int)).2 x (bx M a (i:Int)).1).1.length=a.length
 s:Up M (dD (cI (bx M a (i:Int)).2 x (bx M a (i:Int)).1).2 out (cI (bx M a (i:Int)).2 x (bx M a (i:Int)).1).1).2 (9 * a.length+1)
 si:∀y∈(dD (cI (bx M a (i:Int)).2 x (bx M a (i:Int)).1).2 out (cI (bx M a (i:Int)).2 x (bx M a (i:Int)).1).1).1,In (dD (cI (bx M a (i:Int)).2 x (bx M a (i:Int)).1).2 out (cI (bx M a (i:Int)).2 x (bx M a (i:Int)).1).1).2 y
 sl:(dD (cI (bx M a (i:Int)).2 x (bx M a (i:Int)).1).2 out (cI (bx M a (i:Int)).2 x (bx M a (i:Int)).1).1).1.length=a.length
theorem EH{M:Mk}(h:Ok M){a out:List Int}(m:∀y∈a,In M y)(ho:∀y∈out,In M y)(c:out.length=a.length)(i:Nat){x:Int}(o:In M x):E6 M a out i x:=by obtain⟨b,e,f⟩:=rp (n:=(i:Int)) (by omega) h m;obtain⟨g,j,d⟩:=Db b.ok (b.In o) e;rw [f] at g d;have p:=(b.trans g).mono (show a.length+a.length<=2 * a.length by omega);obtain⟨k,q,l⟩:=Ex p.ok (p.all ho) j (by rw [c,d]);rw [c] at k l;exact⟨b,e,f,p,j,d,(p.trans k).mono (by omega),q,l⟩
theorem EF{a:List Int}:∀{b:List Int} {i:Nat} {M:Mk} {out:List Int},Ok M->(∀y∈a,In M y)->(∀y∈b,In M y)->(∀y∈out,In M y)->out.length=a.length->
  Up M (iB M a out i b).2 ((9 * a.length+1) * b.length)/\(∀y∈(iB M a out i b).1,In (iB M a out i b).2 y)/\(iB M a out i b).1.length=a.length
 | [],i,M,out,h,_,_,ho,hl=>⟨(Up.refl h).mono (by omega),ho,hl⟩
 | x::b,i,M,out,h,c,d,ho,hl=>by have st:=EH h c ho hl i (d x NN);obtain⟨e,f,g⟩:=EF (a:=a) (b:=b) (i:=i+1) st.s.ok (st.s.all c) (st.s.all λz j=>d z (NP _ j)) st.si st.sl;exact⟨(st.s.trans e).mono (by rw [NV,Nat.mul_add];omega),f,g⟩
theorem Nk{M:Mk}(h:Ok M){a b:List Int}(d:∀y∈a,In M y)(j:∀y∈b,In M y):
  Up M (jc M a b).2 (a.length+ (9 * a.length+1) * b.length)/\(∀y∈(jc M a b).1,In (jc M a b).2 y)/\(jc M a b).1.length=a.length:=by
 obtain⟨c,k,l⟩:=rp (n:=(a.length:Int)) (by omega) h d;obtain⟨e,f,g⟩:=EF (a:=a) (b:=b) (i:=0) c.ok (c.all d) (c.all j) k l;exact⟨c.trans e,f,g⟩
theorem Ke{ea eo eb el:Bool}{a out b l:List Int}{x:Int}{i:Nat}(hl:l.length<=100)(D:out.length=l.length)(F:i<=100){r:List T}:∀(rl:List Int) (j:Nat) (M:Mk) (acc:List Int),l.drop j=rl->j<=l.length->Ok M->In M x->(∀y∈rl,In M y)->(∀y∈out,In M y)->(∀y∈acc,In M y)->M.N.length+rl.length<=60000->acc.length=j->
  Or oJ [r0,ab ea a,ab (dD (cI M x rl).2 out (acc++ (cI M x rl).1)).1.isEmpty (dD (cI M x rl).2 out (acc++ (cI M x rl).1)).1,ab eb b,I (b.length:Int),I ((i+1:Nat):Int)] (ql (dD (cI M x rl).2 out (acc++ (cI M x rl).1)).2)=some r->
  Or nA [r0,ab ea a,ab eo out,I x,o3,ab eb b,I (b.length:Int),I (i:Int),ab el l,I (l.length:Int),I (j:Int)] (nB M acc)=some r:=by
 intro rl;induction rl with
 | nil=>
  intro j M acc k v h m hrl ho c p n e;have o:¬(j:Int) < (l.length:Int):=by have:=bp k;omega
  have C:j=l.length:=by have:=bp k;omega
  rw [cI,Oj] at e;have q:=D6 (ea:=eo) (eb:=false) h (a:=out) (b:=acc) (by omega) (by omega) ho c (by simp at p;omega);refine ah ?_;rw [A3];simp only [an,↓reduceIte,Int.reduceBEq,Int.reduceEq,o,q,aY,aX,NO,aV,aS,cH,next i (by omega)];exact e
 | cons y rl w=>
  intro j M acc k v h m hrl ho c p n e;obtain⟨t,E,u⟩:=bq k;have o:(j:Int) < (l.length:Int):=by omega
  have h0: 0<=(j:Int):=by omega
  have s:=hrl y NN;rw [NV] at p;have q:=jV (show M.N.length<=100000 by omega) m s;obtain⟨d,B⟩:=fT h m s;have A:bt 8 (acc.length+1)=some ():=cE (by omega);have f:=w (j+1) _ (acc++ [(cu M x y).1]) u (by omega) d.ok (d.In m) (d.all λz f=>hrl z (NP _ f)) (d.all ho) (λz f=> ?_) (by have:=d.up;omega) (by simp [n]) (by
   rw [cI] at e;simpa only [Og,Ol] using e)
  .refine ah ?_;rw [A3];simp only [an,↓reduceIte,Int.reduceBEq,Int.reduceEq,o,h0,and_self,aD,bM t,q,aY,aX,NO,aV,aS,NW,A,next j (by omega),dX];exact f
  .rcases N4.1 f with g | g
   .exact d.In (c z g)
   .simp only [NY] at g;subst g;exact B
theorem Kd{ea eb:Bool}{a b:List Int}(V: 1<=a.length)(hl:a.length<=8)(W:b.length<=8):∀(c:List Int) (i:Nat) (M:Mk) (out:List Int),b.drop i=c->i<=b.length->Ok M->(∀y∈a,In M y)->(∀y∈c,In M y)->(∀y∈out,In M y)->out.length=a.length->M.N.length+100 * c.length<=50000->
  Or oJ [r0,ab ea a,ab out.isEmpty out,ab eb b,I (b.length:Int),I (i:Int)] (ql M)=some (T.ab 1 (iB M a out i c).1.isEmpty (enc (iB M a out i c).1)::cF (iB M a out i c).2):=by
 intro c;induction c with
 | nil=>
  intro i M out q L h j u ho o v;have r:¬(i:Int) < (b.length:Int):=by have:=bp q;omega
  rw [iB];refine ah ?_;rw [A2];simp only [an,↓reduceIte,Int.reduceBEq,Int.reduceEq,r,aY,aX,NO,aV,aS];rfl
 | cons x c P=>
  intro i M out q L h j u ho o v;obtain⟨E,X,F⟩:=bq q;have r:(i:Int) < (b.length:Int):=by omega
  have h0: 0<=(i:Int):=by omega
  have C:=u x NN;rw [NV] at v;have st:=EH h j ho o i C;have Q:=ym (ea:=ea) h (a:=a) (n:=(i:Int)) h0 (by omega) (by omega) (by omega);rw [iB];have d:=P (i+1) _ _ F (by omega) st.s.ok (st.s.all j) (st.s.all λz d=>u z (NP _ d)) st.si st.sl (by have:=st.s.up;omega)
  have A:Or nA [r0,ab ea a,ab out.isEmpty out,I x,AV.t (T.ae true),ab eb b,I (b.length:Int),I (i:Int),ab (bx M a (i:Int)).1.isEmpty (bx M a (i:Int)).1,I ((bx M a (i:Int)).1.length:Int),I 0] (ql (bx M a (i:Int)).2)=
    some (T.ab 1 (iB (dD (cI (bx M a (i:Int)).2 x (bx M a (i:Int)).1).2 out (cI (bx M a (i:Int)).2 x (bx M a (i:Int)).1).1).2 a (dD (cI (bx M a (i:Int)).2 x (bx M a (i:Int)).1).2 out (cI (bx M a (i:Int)).2 x (bx M a (i:Int)).1).1).1 (i+1) c).1.isEmpty (enc (iB (dD (cI (bx M a (i:Int)).2 x (bx M a (i:Int)).1).2 out (cI (bx M a (i:Int)).2 x (bx M a (i:Int)).1).1).2 a (dD (cI (bx M a (i:Int)).2 x (bx M a (i:Int)).1).2 out (cI (bx M a (i:Int)).2 x (bx M a (i:Int)).1).1).1 (i+1) c).1)::
     cF (iB (dD (cI (bx M a (i:Int)).2 x (bx M a (i:Int)).1).2 out (cI (bx M a (i:Int)).2 x (bx M a (i:Int)).1).1).2 a (dD (cI (bx M a (i:Int)).2 x (bx M a (i:Int)).1).2 out (cI (bx M a (i:Int)).2 x (bx M a (i:Int)).1).1).1 (i+1) c).2):=by
   obtain⟨e,k,m⟩:=rp (n:=(i:Int)) (by omega) h j;revert d e k m;generalize (bx M a (i:Int)).1=l;generalize (bx M a (i:Int)).2=p;intro d e k m;have U:p.N.length<=50010:=by have:=e.up;omega
   have f:=e.In C;have B:=e.all ho;have G:=e.ok;cases l with
   | nil=>rw [N7] at m;omega
   | cons y rl=>
    rw [NV] at m;have D:=k y NN;have R:=jV (show p.N.length<=100000 by omega) f D;obtain⟨g,S⟩:=fT G f D;have H:(0:Int) < (((y::rl).length:Nat):Int):=by simp
    have J:(0:Int)<=0:=by omega
    have K:(enc (y::rl))[(0:Int).toNat]? =some [ti y]:=rfl;have w:i64.wrap (0+1)= ((1:Nat):Int):=by decide
    have O:=Ke (ea:=ea) (eo:=out.isEmpty) (eb:=eb) (el:=false) (a:=a) (out:=out) (b:=b) (l:=y::rl) (x:=x) (i:=i) (by rw [NV];omega) (by rw [NV];omega) (by omega) rl 1 _ [(cu p x y).1] rfl (by simp) g.ok (g.In f) (g.all λz d=>k z (NP _ d)) (g.all B) (λz d=>by simp only [NY] at d;subst d;exact S) (by have:=g.up;omega) rfl d;refine ah ?_;rw [Hl];simp only [an,↓reduceIte,Int.reduceBEq,Int.reduceEq,H,J,and_self,aD,K,R,aY,aX,NO,aV,aS,w,QB];exact O
  refine ah ?_;rw [A2];simp only [an,↓reduceIte,Int.reduceBEq,Int.reduceEq,r,h0,and_self,aD,bM E,Q,aY,aX,NO,aV,aS,cH];exact A
theorem Mb{M:Mk}(h:Ok M){ea eb:Bool}{a b:List Int}(e: 1<=a.length)(hl:a.length<=8)(f:b.length<=8)(d:∀y∈a,In M y)(g:∀y∈b,In M y)(m:M.N.length<=40000):
  Or (.call 71) [r0,ab ea a,ab eb b] (df M)=some (T.ab 1 (jc M a b).1.isEmpty (enc (jc M a b).1)::cF (jc M a b).2):=by
 have j:=ym (ea:=ea) h (a:=a) (n:=(a.length:Int)) (by omega) (by omega) (by omega) (by omega);obtain⟨c,k,l⟩:=rp (n:=(a.length:Int)) (by omega) h d;have i:=Kd (ea:=ea) (eb:=eb) e hl f b 0 _ _ rfl (by omega) c.ok (c.all d) (c.all g) k l (by have:=c.up;omega);unfold jc;refine ah ?_;rw [Hk];simp only [an,↓reduceIte,Int.reduceBEq,Int.reduceEq,j,aY,aX,NO,aV,aS,cH,aD];exact i
def kM(M:Mk)(c:Int):List Int->List Int->Int×Mk
 | x::a,y::b=>
  let n:=gy M x;let p:=cu n.2 n.1 y;let q:=dO p.2 x y;let s:=cu q.2 q.1 c;let t:=dZ s.2 p.1 s.1
  kM t.2 t.1 a b
 | _,_=>(c,M)
def kL(M:Mk)(a b:List Int):Int×Mk:=kM (cS M false).2 (cS M false).1 a b
theorem I2(M:Mk)(c:Int)(b:List Int):kM M c [] b= (c,M):=by simp [kM]
theorem Kh{ea eb:Bool}{a b:List Int}(hab:a.length=b.length)(hl:a.length<=100):∀(d e:List Int) (i:Nat) (M:Mk) (c:Int),a.drop i=d->b.drop i=e->i<=a.length->Ok M->In M c->(∀x∈d,In M x)->(∀x∈e,In M x)->M.N.length+5 * d.length<=80000->
  Or vr [r0,ab ea a,ab eb b,I c,I (a.length:Int),I (i:Int)] (ql M)=some (ti (kM M c d e).1::cF (kM M c d e).2)/\Up M (kM M c d e).2 (5 * d.length)/\In (kM M c d e).2 (kM M c d e).1:=by
 intro d;induction d with
 | nil=>
  intro e i M c l m L h g o r A;have n:¬(i:Int) < (a.length:Int):=by have:=bp l;omega
  rw [I2];refine⟨ah ?_,Up.refl h,g⟩;rw [A5];simp only [an,↓reduceIte,Int.reduceBEq,Int.reduceEq,n,aY,aX,NO,aV,aS];rfl
 | cons x d O=>
  intro e i M c l m L h g o r A;obtain⟨F,g2,G⟩:=bq l;cases e with
  | nil=>exact absurd (bp m) (by omega)
  | cons y e=>
   obtain⟨H,g5,J⟩:=bq m;have n:(i:Int) < (a.length:Int):=by omega
   have K:(i:Int) < (b.length:Int):=by omega
   have h0: 0<=(i:Int):=by omega
   have j:=o x NN;have k:=r y NN;rw [NV] at A;obtain⟨f,B⟩:=n7 h j;obtain⟨U,C⟩:=fT f.ok B (f.In k);have p:=f.trans U;obtain⟨v,D⟩:=nW p.ok (p.In j) (p.In k);have q:=p.trans v;obtain⟨w,E⟩:=fT q.ok D (q.In g);have s:=q.trans w;obtain⟨V,W⟩:=oa s.ok ((v.trans w).In C) E;have t:=s.trans V;have P:=pT h (by omega) j;have Q:=jV (by have:=f.up;omega) B (f.In k);have R:=uS p.ok (by have:=p.up;omega) (p.In j) (p.In k);have S:=jV (by have:=q.up;omega) D (q.In g);have T:=rT (by have:=s.up;omega) ((v.trans w).In C) E;obtain⟨X,Y,Z⟩:=O e (i+1) _ _ G J (by omega) t.ok W (t.all λz u=>o z (NP _ u)) (t.all λz u=>r z (NP _ u)) (by have:=t.up;omega);rw [kM];refine⟨ah ?_,(t.trans Y).mono (by rw [NV];omega),Z⟩;rw [A5];simp only [an,↓reduceIte,Int.reduceBEq,Int.reduceEq,n,K,h0,and_self,aD,bM F,bM H,P,Q,R,S,T,aY,aX,NO,aV,aS,next i (by omega)];exact X
theorem D7{M:Mk}(h:Ok M){ea eb:Bool}{a b:List Int}(d:a.length=b.length)(hl:a.length<=100)(e:∀x∈a,In M x)(f:∀x∈b,In M x)(m:M.N.length<=70000):
  Or (.call 73) [r0,ab ea a,ab eb b] (df M)=some (ti (kL M a b).1::cF (kL M a b).2)/\Up M (kL M a b).2 (1+5 * a.length)/\In (kL M a b).2 (kL M a b).1:=by
 have g:=kT (show M.N.length<=100000 by omega) false;obtain⟨c,i⟩:=ir h false;obtain⟨j,k,l⟩:=Kh (ea:=ea) (eb:=eb) d hl a b 0 _ _ rfl rfl (by omega) c.ok i (c.all e) (c.all f) (by have:=c.up;omega);unfold kL;refine⟨ah ?_,c.trans k,l⟩;rw [Hn];simp only [an,↓reduceIte,Int.reduceBEq,Int.reduceEq,g,aY,aX,NO,aV,aS,aD];exact j
theorem J9{ea eb:Bool}{a b:List Int}(D:a.length=b.length)(hl:a.length<=100):∀(d c:List Int) (i:Nat) (M:Mk) (acc:List Int),a.drop i=d->b.drop i=c->i<=a.length->Ok M->(∀x∈d,In M x)->(∀x∈c,In M x)->M.N.length+2 * d.length<=80000->acc.length=i->
  Or dI [ab ea a,ab eb b,AV.fn 67 [r0] [],o3,I (a.length:Int),I (i:Int)] (nB M acc)=some (T.ab 1 false (enc (acc++ (a8 cu M d c).1))::cF (a8 cu M d c).2):=by
 intro d;induction d with
 | nil=>
  intro c i M acc j k w h m n o f;have l:¬(i:Int) < (a.length:Int):=by have:=bp j;omega
  refine ah ?_;rw [AX];simp only [an,↓reduceIte,Int.reduceBEq,Int.reduceEq,l,aY,aX,NO,aV,aS,a8,Oj];rfl
 | cons x d A=>
  intro c i M acc j k w h m n o f;obtain⟨r,E,s⟩:=bq j;cases c with
  | nil=>exact absurd (bp k) (by omega)
  | cons y c=>
   obtain⟨t,F,u⟩:=bq k;have l:(i:Int) < (a.length:Int):=by omega
   have v:(i:Int) < (b.length:Int):=by omega
   have h0: 0<=(i:Int):=by omega
   have p:=m x NN;have q:=n y NN;rw [NV] at o;have B:=jV (show M.N.length<=100000 by omega) p q;obtain⟨g,G⟩:=fT h p q;have C:bt 8 (acc.length+1)=some ():=cE (by omega);have e:=A c (i+1) _ (acc++ [(cu M x y).1]) s u (by omega) g.ok (g.all λz e=>m z (NP _ e)) (g.all λz e=>n z (NP _ e)) (by have:=g.up;omega) (by simp [f]);simp only [Og,Ol] at e;rw [a8];refine ah ?_;rw [AX];simp only [an,↓reduceIte,Int.reduceBEq,Int.reduceEq,l,v,h0,and_self,aD,bM r,bM t,B,aY,aX,NO,aV,aS,NW,C,next i (by omega),dX];exact e
theorem L7{M:Mk}(h:Ok M){ea eb:Bool}{a b:List Int}(f:a.length=b.length)(hl:a.length<=100)(j:∀x∈a,In M x)(k:∀x∈b,In M x)(v:M.N.length<=70000):
  Or (.call 63) [ab ea a,ab eb b,AV.fn 67 [r0] []] (df M)=some (LO (a8 cu M a b).1::cF (a8 cu M a b).2):=by
 have c:Or dI [ab ea a,ab eb b,AV.fn 67 [r0] [],AV.t (T.ae true),I (a.length:Int),I 0] (df M)=some (LO (a8 cu M a b).1::cF (a8 cu M a b).2):=by
  cases a with
  | nil=>refine ah ?_;rw [AR];simp only [an,↓reduceIte,Int.reduceBEq,Int.reduceEq,aY,aX,NO,aV,aS,a8,N7,On,Ox,decide_false];rfl
  | cons x g=>
   cases b with
   | nil=>cases f
   | cons y i=>
    have m:=j x NN;have n:=k y NN;have u:=jV (show M.N.length<=100000 by omega) m n;obtain⟨e,B⟩:=fT h m n;have q:(0:Int) < (((x::g).length:Nat):Int):=by simp
    have s:(0:Int) < (((y::i).length:Nat):Int):=by simp
    have h0:(0:Int)<=0:=by omega
    have o:(enc (x::g))[(0:Int).toNat]? =some [ti x]:=rfl;have p:(enc (y::i))[(0:Int).toNat]? =some [ti y]:=rfl;have w:i64.wrap (0+1)= ((1:Nat):Int):=by decide
    have l:=hl;rw [NV] at l;have d:=J9 (ea:=ea) (eb:=eb) f hl g i 1 _ [(cu M x y).1] rfl rfl (by simp) e.ok (e.all λz d=>j z (NP _ d)) (e.all λz d=>k z (NP _ d)) (by have:=e.up;omega) rfl;rw [a8];refine ah ?_;rw [AR];simp only [an,↓reduceIte,Int.reduceBEq,Int.reduceEq,q,s,h0,and_self,aD,o,p,u,aY,aX,NO,aV,aS,w];exact d
 generalize A:LO (a8 cu M a b).1::cF (a8 cu M a b).2=r at c;refine ah ?_;rw [G9];simp only [an,↓reduceIte,Int.reduceBEq,Int.reduceEq,aY,aX,NO,aV,aS,aD];exact c
theorem Ka{ea eb:Bool}{a b:List Int}(D:a.length=b.length)(hl:a.length<=100):∀(d c:List Int) (i:Nat) (M:Mk) (acc:List Int),a.drop i=d->b.drop i=c->i<=a.length->Ok M->(∀x∈d,In M x)->(∀x∈c,In M x)->M.N.length+2 * d.length<=80000->acc.length=i->
  Or dI [ab ea a,ab eb b,AV.fn 68 [r0] [],o3,I (a.length:Int),I (i:Int)] (nB M acc)=some (T.ab 1 false (enc (acc++ (a8 dZ M d c).1))::cF (a8 dZ M d c).2):=by
 intro d;induction d with
 | nil=>
  intro c i M acc j k w h m n o f;have l:¬(i:Int) < (a.length:Int):=by have:=bp j;omega
  refine ah ?_;rw [AY];simp only [an,↓reduceIte,Int.reduceBEq,Int.reduceEq,l,aY,aX,NO,aV,aS,a8,Oj];rfl
 | cons x d A=>
  intro c i M acc j k w h m n o f;obtain⟨r,E,s⟩:=bq j;cases c with
  | nil=>exact absurd (bp k) (by omega)
  | cons y c=>
   obtain⟨t,F,u⟩:=bq k;have l:(i:Int) < (a.length:Int):=by omega
   have v:(i:Int) < (b.length:Int):=by omega
   have h0: 0<=(i:Int):=by omega
   have p:=m x NN;have q:=n y NN;rw [NV] at o;have B:=rT (show M.N.length<=100000 by omega) p q;obtain⟨g,G⟩:=oa h p q;have C:bt 8 (acc.length+1)=some ():=cE (by omega);have e:=A c (i+1) _ (acc++ [(dZ M x y).1]) s u (by omega) g.ok (g.all λz e=>m z (NP _ e)) (g.all λz e=>n z (NP _ e)) (by have:=g.up;omega) (by simp [f]);simp only [Og,Ol] at e;rw [a8];refine ah ?_;rw [AY];simp only [an,↓reduceIte,Int.reduceBEq,Int.reduceEq,l,v,h0,and_self,aD,bM r,bM t,B,aY,aX,NO,aV,aS,NW,C,next i (by omega),dX];exact e
theorem L8{M:Mk}(h:Ok M){ea eb:Bool}{a b:List Int}(f:a.length=b.length)(hl:a.length<=100)(j:∀x∈a,In M x)(k:∀x∈b,In M x)(v:M.N.length<=70000):
  Or (.call 63) [ab ea a,ab eb b,AV.fn 68 [r0] []] (df M)=some (LO (a8 dZ M a b).1::cF (a8 dZ M a b).2):=by
 have c:Or dI [ab ea a,ab eb b,AV.fn 68 [r0] [],AV.t (T.ae true),I (a.length:Int),I 0] (df M)=some (LO (a8 dZ M a b).1::cF (a8 dZ M a b).2):=by
  cases a with
  | nil=>refine ah ?_;rw [AS];simp only [an,↓reduceIte,Int.reduceBEq,Int.reduceEq,aY,aX,NO,aV,aS,a8,N7,On,Ox,decide_false];rfl
  | cons x g=>
   cases b with
   | nil=>cases f
   | cons y i=>
    have m:=j x NN;have n:=k y NN;have u:=rT (show M.N.length<=100000 by omega) m n;obtain⟨e,B⟩:=oa h m n;have q:(0:Int) < (((x::g).length:Nat):Int):=by simp
    have s:(0:Int) < (((y::i).length:Nat):Int):=by simp
    have h0:(0:Int)<=0:=by omega
    have o:(enc (x::g))[(0:Int).toNat]? =some [ti x]:=rfl;have p:(enc (y::i))[(0:Int).toNat]? =some [ti y]:=rfl;have w:i64.wrap (0+1)= ((1:Nat):Int):=by decide
    have l:=hl;rw [NV] at l;have d:=Ka (ea:=ea) (eb:=eb) f hl g i 1 _ [(dZ M x y).1] rfl rfl (by simp) e.ok (e.all λz d=>j z (NP _ d)) (e.all λz d=>k z (NP _ d)) (by have:=e.up;omega) rfl;rw [a8];refine ah ?_;rw [AS];simp only [an,↓reduceIte,Int.reduceBEq,Int.reduceEq,q,s,h0,and_self,aD,o,p,u,aY,aX,NO,aV,aS,w];exact d
 generalize A:LO (a8 dZ M a b).1::cF (a8 dZ M a b).2=r at c;refine ah ?_;rw [Ha];simp only [an,↓reduceIte,Int.reduceBEq,Int.reduceEq,aY,aX,NO,aV,aS,aD];exact c
theorem Kb{ea eb:Bool}{a b:List Int}(D:a.length=b.length)(hl:a.length<=100):∀(d c:List Int) (i:Nat) (M:Mk) (acc:List Int),a.drop i=d->b.drop i=c->i<=a.length->Ok M->(∀x∈d,In M x)->(∀x∈c,In M x)->M.N.length+2 * d.length<=80000->acc.length=i->
  Or dI [ab ea a,ab eb b,AV.fn 69 [r0] [],o3,I (a.length:Int),I (i:Int)] (nB M acc)=some (T.ab 1 false (enc (acc++ (a8 bz M d c).1))::cF (a8 bz M d c).2):=by
 intro d;induction d with
 | nil=>
  intro c i M acc j k w h m n o f;have l:¬(i:Int) < (a.length:Int):=by have:=bp j;omega
  refine ah ?_;rw [AZ];simp only [an,↓reduceIte,Int.reduceBEq,Int.reduceEq,l,aY,aX,NO,aV,aS,a8,Oj];rfl
 | cons x d A=>
  intro c i M acc j k w h m n o f;obtain⟨r,E,s⟩:=bq j;cases c with
  | nil=>exact absurd (bp k) (by omega)
  | cons y c=>
   obtain⟨t,F,u⟩:=bq k;have l:(i:Int) < (a.length:Int):=by omega
   have v:(i:Int) < (b.length:Int):=by omega
   have h0: 0<=(i:Int):=by omega
   have p:=m x NN;have q:=n y NN;rw [NV] at o;have B:=pU h (by omega) p q;obtain⟨g,G⟩:=nc h p q;have C:bt 8 (acc.length+1)=some ():=cE (by omega);have e:=A c (i+1) _ (acc++ [(bz M x y).1]) s u (by omega) g.ok (g.all λz e=>m z (NP _ e)) (g.all λz e=>n z (NP _ e)) (by have:=g.up;omega) (by simp [f]);simp only [Og,Ol] at e;rw [a8];refine ah ?_;rw [AZ];simp only [an,↓reduceIte,Int.reduceBEq,Int.reduceEq,l,v,h0,and_self,aD,bM r,bM t,B,aY,aX,NO,aV,aS,NW,C,next i (by omega),dX];exact e
theorem L9{M:Mk}(h:Ok M){ea eb:Bool}{a b:List Int}(f:a.length=b.length)(hl:a.length<=100)(j:∀x∈a,In M x)(k:∀x∈b,In M x)(v:M.N.length<=70000):
  Or (.call 63) [ab ea a,ab eb b,AV.fn 69 [r0] []] (df M)=some (LO (a8 bz M a b).1::cF (a8 bz M a b).2):=by
 have c:Or dI [ab ea a,ab eb b,AV.fn 69 [r0] [],AV.t (T.ae true),I (a.length:Int),I 0] (df M)=some (LO (a8 bz M a b).1::cF (a8 bz M a b).2):=by
  cases a with
  | nil=>refine ah ?_;rw [AT];simp only [an,↓reduceIte,Int.reduceBEq,Int.reduceEq,aY,aX,NO,aV,aS,a8,N7,On,Ox,decide_false];rfl
  | cons x g=>
   cases b with
   | nil=>cases f
   | cons y i=>
    have m:=j x NN;have n:=k y NN;have u:=pU h (by omega) m n;obtain⟨e,B⟩:=nc h m n;have q:(0:Int) < (((x::g).length:Nat):Int):=by simp
    have s:(0:Int) < (((y::i).length:Nat):Int):=by simp
    have h0:(0:Int)<=0:=by omega
    have o:(enc (x::g))[(0:Int).toNat]? =some [ti x]:=rfl;have p:(enc (y::i))[(0:Int).toNat]? =some [ti y]:=rfl;have w:i64.wrap (0+1)= ((1:Nat):Int):=by decide
    have l:=hl;rw [NV] at l;have d:=Kb (ea:=ea) (eb:=eb) f hl g i 1 _ [(bz M x y).1] rfl rfl (by simp) e.ok (e.all λz d=>j z (NP _ d)) (e.all λz d=>k z (NP _ d)) (by have:=e.up;omega) rfl;rw [a8];refine ah ?_;rw [AT];simp only [an,↓reduceIte,Int.reduceBEq,Int.reduceEq,q,s,h0,and_self,aD,o,p,u,aY,aX,NO,aV,aS,w];exact d
 generalize A:LO (a8 bz M a b).1::cF (a8 bz M a b).2=r at c;refine ah ?_;rw [Hb];simp only [an,↓reduceIte,Int.reduceBEq,Int.reduceEq,aY,aX,NO,aV,aS,aD];exact c
theorem Kc{ea eb:Bool}{a b:List Int}(D:a.length=b.length)(hl:a.length<=100):∀(d c:List Int) (i:Nat) (M:Mk) (acc:List Int),a.drop i=d->b.drop i=c->i<=a.length->Ok M->(∀x∈d,In M x)->(∀x∈c,In M x)->M.N.length+2 * d.length<=80000->acc.length=i->
  Or dI [ab ea a,ab eb b,AV.fn 74 [r0] [],o3,I (a.length:Int),I (i:Int)] (nB M acc)=some (T.ab 1 false (enc (acc++ (a8 dO M d c).1))::cF (a8 dO M d c).2):=by
 intro d;induction d with
 | nil=>
  intro c i M acc j k w h m n o f;have l:¬(i:Int) < (a.length:Int):=by have:=bp j;omega
  refine ah ?_;rw [AQ];simp only [an,↓reduceIte,Int.reduceBEq,Int.reduceEq,l,aY,aX,NO,aV,aS,a8,Oj];rfl
 | cons x d A=>
  intro c i M acc j k w h m n o f;obtain⟨r,E,s⟩:=bq j;cases c with
  | nil=>exact absurd (bp k) (by omega)
  | cons y c=>
   obtain⟨t,F,u⟩:=bq k;have l:(i:Int) < (a.length:Int):=by omega
   have v:(i:Int) < (b.length:Int):=by omega
   have h0: 0<=(i:Int):=by omega
   have p:=m x NN;have q:=n y NN;rw [NV] at o;have B:=uS h (by omega) p q;obtain⟨g,G⟩:=nW h p q;have C:bt 8 (acc.length+1)=some ():=cE (by omega);have e:=A c (i+1) _ (acc++ [(dO M x y).1]) s u (by omega) g.ok (g.all λz e=>m z (NP _ e)) (g.all λz e=>n z (NP _ e)) (by have:=g.up;omega) (by simp [f]);simp only [Og,Ol] at e;rw [a8];refine ah ?_;rw [AQ];simp only [an,↓reduceIte,Int.reduceBEq,Int.reduceEq,l,v,h0,and_self,aD,bM r,bM t,B,aY,aX,NO,aV,aS,NW,C,next i (by omega),dX];exact e
theorem Ma{M:Mk}(h:Ok M){ea eb:Bool}{a b:List Int}(f:a.length=b.length)(hl:a.length<=100)(j:∀x∈a,In M x)(k:∀x∈b,In M x)(v:M.N.length<=70000):
  Or (.call 63) [ab ea a,ab eb b,AV.fn 74 [r0] []] (df M)=some (LO (a8 dO M a b).1::cF (a8 dO M a b).2):=by
 have c:Or dI [ab ea a,ab eb b,AV.fn 74 [r0] [],AV.t (T.ae true),I (a.length:Int),I 0] (df M)=some (LO (a8 dO M a b).1::cF (a8 dO M a b).2):=by
  cases a with
  | nil=>refine ah ?_;rw [AU];simp only [an,↓reduceIte,Int.reduceBEq,Int.reduceEq,aY,aX,NO,aV,aS,a8,N7,On,Ox,decide_false];rfl
  | cons x g=>
   cases b with
   | nil=>cases f
   | cons y i=>
    have m:=j x NN;have n:=k y NN;have u:=uS h (by omega) m n;obtain⟨e,B⟩:=nW h m n;have q:(0:Int) < (((x::g).length:Nat):Int):=by simp
    have s:(0:Int) < (((y::i).length:Nat):Int):=by simp
    have h0:(0:Int)<=0:=by omega
    have o:(enc (x::g))[(0:Int).toNat]? =some [ti x]:=rfl;have p:(enc (y::i))[(0:Int).toNat]? =some [ti y]:=rfl;have w:i64.wrap (0+1)= ((1:Nat):Int):=by decide
    have l:=hl;rw [NV] at l;have d:=Kc (ea:=ea) (eb:=eb) f hl g i 1 _ [(dO M x y).1] rfl rfl (by simp) e.ok (e.all λz d=>j z (NP _ d)) (e.all λz d=>k z (NP _ d)) (by have:=e.up;omega) rfl;rw [a8];refine ah ?_;rw [AU];simp only [an,↓reduceIte,Int.reduceBEq,Int.reduceEq,q,s,h0,and_self,aD,o,p,u,aY,aX,NO,aV,aS,w];exact d
 generalize A:LO (a8 dO M a b).1::cF (a8 dO M a b).2=r at c;refine ah ?_;rw [Hc];simp only [an,↓reduceIte,Int.reduceBEq,Int.reduceEq,aY,aX,NO,aV,aS,aD];exact c
open Go Go.Aev Go.IntKind
theorem cU{h:Type}(a b c d e f g:h)(l:List h):(a::b::c::d::e::f::g::l).drop 7=l:=rfl
theorem cV{i:Type}(a b c d e f g h:i)(l:List i):(a::b::c::d::e::f::g::h::l).drop 8=l:=rfl
structure Dc where
 nm:ByteArray
 ea:Bool
 ar:List Int
 so:Int
def aM(l:List Dc):List (List T):=l.map λd=> [T.str d.nm,T.ab 1 d.ea (enc d.ar),ti d.so]
def ba(l:List Nd):List (List T):=l.map λx=> [ti x.op,T.ab 1 x.ek (enc x.ks),ti x.n,ti x.d,T.str x.nm]
def bm(l:List (List Int)):List (List T):=l.map λb=> [LO b]
theorem cj(l:List Dc):(aM l).length=l.length:=by simp [aM]
theorem dy(l:List Nd):(ba l).length=l.length:=by simp [ba]
theorem mw(l:List (List Int)):(bm l).length=l.length:=by simp [bm]
theorem dh{l:List Dc}{i:Nat}{d:Dc}(h:l[i]? =some d):(aM l)[((i:Nat):Int).toNat]? =some [T.str d.nm,T.ab 1 d.ea (enc d.ar),ti d.so]:=by simp [aM,h]
theorem eJ{l:List Nd}{i:Nat}{x:Nd}(h:l[i]? =some x):(ba l)[((i:Nat):Int).toNat]? =some [ti x.op,T.ab 1 x.ek (enc x.ks),ti x.n,ti x.d,T.str x.nm]:=by simp [ba,h]
theorem p6(a b:ByteArray):(a.toList==b.toList)=decide (a=b):=by
 rw [Go.Lib.toList_data,Go.Lib.toList_data];by_cases h:a=b
 .subst h;simp
 .have:¬a.data.toList=b.data.toList:=λe=>h (by cases a;cases b;simpa using Pr e);rw [decide_eq_false h];exact beq_eq_false_iff_ne.2 this
def iN(nm:ByteArray):Nat->List Dc->Int
 | _,[]=> -1
 | i,d::r=>if d.nm=nm then(i:Int) else iN nm (i+1) r
def bA(ds:List Dc)(nm:ByteArray):Int:=iN nm 0 ds
theorem qJ(nm:ByteArray):∀(i:Nat) (ds:List Dc), -1<=iN nm i ds/\iN nm i ds < (i:Int)+ds.length+1
 | i,[]=>by simp [iN];omega
 | i,d::r=>by
  rw [iN];split
  .simp;omega
  .have:=qJ nm (i+1) r;simp;omega
theorem Kw{e:Bool}{ds:List Dc}{nm:ByteArray}(hl:ds.length<=100):∀(r:List Dc) (i:Nat),ds.drop i=r->
  Or gp [AV.t (T.ab 3 e (aM ds)),AV.fn 92 [] [AV.t (T.ptr [T.str nm])],I (ds.length:Int),I (i:Int)] []=some [ti (iN nm i r)]:=by
 intro r;induction r with
 | nil=>
  intro i g;have b:¬(i:Int) < (ds.length:Int):=by have:=bp g;omega
  refine ah ?_;rw [Bh];simp only [an,↓reduceIte,Int.reduceBEq,Int.reduceEq,b,iN]
 | cons d r j=>
  intro i g;obtain⟨f,k,h⟩:=bq g;have b:(i:Int) < (ds.length:Int):=by omega
  have h0: 0<=(i:Int):=by omega
  have a:Or (.call 92) [AV.agg [AV.t (T.str d.nm),AV.t (T.ab 1 d.ea (enc d.ar)),I d.so],AV.t (T.ptr [T.str nm])] []=some [tb (decide (d.nm=nm))]:=by refine ah ?_;rw [H5,p6]
  refine ah ?_;rw [Bh,iN];by_cases c:d.nm=nm
  .rw [decide_eq_true c] at a;rw [if_pos c];simp only [an,↓reduceIte,Int.reduceBEq,Int.reduceEq,b,h0,and_self,cj,dh f,a]
  .rw [decide_eq_false c] at a;rw [if_neg c];simp only [an,↓reduceIte,Int.reduceBEq,Int.reduceEq,b,h0,and_self,cj,dh f,a,next i (by omega)];exact j (i+1) h
theorem rS{ed en eh:Bool}{ds:List Dc}{ns:List Nd}{hs:List Int}{nm:ByteArray}(hl:ds.length<=100):
  Or (.call 62) [AV.agg [AV.t (T.ab 3 ed (aM ds)),AV.t (T.ab 5 en (ba ns)),AV.t (T.ab 1 eh (enc hs))],AV.t (T.str nm)] []=some [ti (bA ds nm)]:=by
 have k:=Kw (e:=ed) (nm:=nm) hl ds 0 rfl;have a:Or (.call 89) [AV.t (T.ab 3 ed (aM ds)),AV.fn 92 [] [AV.t (T.ptr [T.str nm])]] []=some [ti (bA ds nm)]:=by refine ah ?_;rw [H0];simp only [cj];exact k
 refine ah ?_;rw [G6];simp only [an,↓reduceIte,Int.reduceBEq,Int.reduceEq,a]
structure Cx where
 ed:Bool
 ds:List Dc
 en:Bool
 ns:List Nd
 eh:Bool
 hs:List Int
 p:ByteArray
 es:Bool
 ss:List Int
structure Tr where
 bits:List (List Int)
 to:List Int
theorem iA{c:Cx}{t:Tr}{M:Mk}{x:Nd}{j:Nat}{k:Int}{b:List Int}(e:x.ks[j]? =some k)(l: 0<=k)(a:t.bits[k.toNat]? =some b):
  Or (.call 60) [I (j:Int),r0,r1] [ad.box [Y'2],ad.box [I x.op,ab x.ek x.ks,I x.n,I x.d,AV.t (T.str x.nm)],ad.box [Y'3,AV.t (T.ab 3 c.ed (aM c.ds)),AV.t (T.ab 5 c.en (ba c.ns)),AV.t (T.ab 1 c.eh (enc c.hs)),AV.t (T.str c.p),AV.t (T.ab 1 c.es (enc c.ss)),V'4,V'5],ad.box [V'6,V'7],ad.sl false 1 t.bits.isEmpty (bm t.bits),ad.sl false 1 t.to.isEmpty (enc t.to),ad.rows M.N.isEmpty 5 1 1 M.N.length (rows M.N),ad.mp false [Ck.s] (Ck.i .i64) (cg M.K)]=some [T.ab 1 b.isEmpty (enc b),T.ao,ti x.op,T.ab 1 x.ek (enc x.ks),ti x.n,ti x.d,T.str x.nm,T.ao,T.ab 3 c.ed (aM c.ds),T.ab 5 c.en (ba c.ns),T.ab 1 c.eh (enc c.hs),T.str c.p,T.ab 1 c.es (enc c.ss),T.ao,T.ao,RW M.N,T.ao,T.ab 1 t.bits.isEmpty (bm t.bits),T.ab 1 t.to.isEmpty (enc t.to),EM M.K]:=by
 have f: 0<=(j:Int)/\(j:Int) < (x.ks.length:Int):=by have:=(NQ.1 e).1;omega
 have g: 0<=k/\k < (t.bits.length:Int):=by have:=(NQ.1 a).1;omega
 have h:(bm t.bits)[k.toNat]? =some [LO b]:=by simp [bm,a]
 refine ah ?_;rw [G4];simp only [an,↓reduceIte,Int.reduceBEq,Int.reduceEq,aD,mw,f,g,and_self,bM e,h,cH,aY,aX,NO,aV,aS];rfl
def dq(a:Int)(M:Mk)(x y:Int):Int×Mk:=if x=y then(x,M) else dC M 7 s0 0 0 [a,x,y]
theorem xO{a:Int}{M:Mk}(h:Ok M)(d:In M a){x y:Int}(c:In M x)(e:In M y):Up M (dq a M x y).2 1/\In (dq a M x y).2 (dq a M x y).1:=by
 unfold dq;split
 .exact⟨(Up.refl h).mono (by omega),c⟩
 .exact iT h _ _ _ _ _ (λk b=>by simp only [N2,Pt,or_false] at b;rcases b with rfl | rfl | rfl <;> assumption) (by simp)
theorem D5{c:Cx}{t:Tr}{M:Mk}{a x y:Int}(b:M.N.length<=100000)(g:In M a)(j:In M x)(l:In M y):
  Or (.call 64) [I x,I y,r0,r1] [ad.box [Y'2],ad.box [I a],ad.box [Y'3,AV.t (T.ab 3 c.ed (aM c.ds)),AV.t (T.ab 5 c.en (ba c.ns)),AV.t (T.ab 1 c.eh (enc c.hs)),AV.t (T.str c.p),AV.t (T.ab 1 c.es (enc c.ss)),V'4,V'5],ad.box [V'6,V'7],ad.sl false 1 t.bits.isEmpty (bm t.bits),ad.sl false 1 t.to.isEmpty (enc t.to),ad.rows M.N.isEmpty 5 1 1 M.N.length (rows M.N),ad.mp false [Ck.s] (Ck.i .i64) (cg M.K)]=some [ti (dq a M x y).1,T.ao,ti a,T.ao,T.ab 3 c.ed (aM c.ds),T.ab 5 c.en (ba c.ns),T.ab 1 c.eh (enc c.hs),T.str c.p,T.ab 1 c.es (enc c.ss),T.ao,T.ao,RW ((dq a M x y).2).N,T.ao,T.ab 1 t.bits.isEmpty (bm t.bits),T.ab 1 t.to.isEmpty (enc t.to),EM ((dq a M x y).2).K]:=by
 have e:=iX M b 7 s0 0 0 [a,x,y] false rfl (λk f=>by
  simp only [N2,Pt,or_false] at f;rcases f with rfl | rfl | rfl
  .exact g.i64 b
  .exact j.i64 b
  .exact l.i64 b) (by simp) (by omega) (by omega) (by omega) (by decide)
 replace e:Or (.call 61) [r0,I 7,AV.t (T.str s0),I 0,I 0,AV.t (T.ab 1 false [[ti a],[ti x],[ti y]])] (df M)=_:=e;unfold dq;refine ah ?_;rw [Hd];by_cases h:x=y
 .subst h;simp only [an,↓reduceIte,Int.reduceBEq,Int.reduceEq,aY,aX,NO,aV,aS];rfl
 .have d:(x==y)=false:=by simpa using h
  simp only [an,↓reduceIte,Int.reduceBEq,Int.reduceEq,d,h,e,aY,aX,NO,aV,aS];rfl
theorem J8{c:Cx}{t:Tr}{f:Int}{ea eb:Bool}{a b:List Int}(L:a.length=b.length)(hl:a.length<=100):∀(e d:List Int) (i:Nat) (M:Mk) (acc:List Int),a.drop i=e->b.drop i=d->i<=a.length->Ok M->In M f->(∀x∈e,In M x)->(∀x∈d,In M x)->M.N.length+e.length<=80000->acc.length=i->
  Or ny [ab ea a,ab eb b,AV.fn 64 [] [r0,r1],V'8,I (a.length:Int),I (i:Int)] [ad.box [Y'2],ad.box [I f],ad.box [Y'3,AV.t (T.ab 3 c.ed (aM c.ds)),AV.t (T.ab 5 c.en (ba c.ns)),AV.t (T.ab 1 c.eh (enc c.hs)),AV.t (T.str c.p),AV.t (T.ab 1 c.es (enc c.ss)),V'4,V'5],ad.box [V'9,V'7],ad.sl false 1 t.bits.isEmpty (bm t.bits),ad.sl false 1 t.to.isEmpty (enc t.to),ad.dead,ad.mp false [Ck.s] (Ck.i .i64) (cg M.K),ad.sl false 1 false (enc acc),ad.rows M.N.isEmpty 5 1 1 M.N.length (rows M.N)]=some [T.ab 1 false (enc (acc++ (a8 (dq f) M e d).1)),T.ao,ti f,T.ao,T.ab 3 c.ed (aM c.ds),T.ab 5 c.en (ba c.ns),T.ab 1 c.eh (enc c.hs),T.str c.p,T.ab 1 c.es (enc c.ss),T.ao,T.ao,RW ((a8 (dq f) M e d).2).N,T.ao,T.ab 1 t.bits.isEmpty (bm t.bits),T.ab 1 t.to.isEmpty (enc t.to),EM ((a8 (dq f) M e d).2).K]:=by
 intro e;induction e with
 | nil=>
  intro d i M acc m n F h l q r u j;have o:¬(i:Int) < (a.length:Int):=by have:=bp m;omega
  refine ah ?_;rw [AW];simp only [an,↓reduceIte,Int.reduceBEq,Int.reduceEq,o,aY,aX,NO,aV,aS,cU,cV,cH,a8,Oj];rfl
 | cons x e G=>
  intro d i M acc m n F h l q r u j;obtain⟨A,O,B⟩:=bq m;cases d with
  | nil=>exact absurd (bp n) (by omega)
  | cons y d=>
   obtain⟨C,P,D⟩:=bq n;have o:(i:Int) < (a.length:Int):=by omega
   have E:(i:Int) < (b.length:Int):=by omega
   have h0: 0<=(i:Int):=by omega
   have v:=q x NN;have w:=r y NN;rw [NV] at u;have H:=D5 (c:=c) (t:=t) (show M.N.length<=100000 by omega) l v w;obtain⟨k,Q⟩:=xO h l v w;have J:bt 8 (acc.length+1)=some ():=cE (by omega);have g:=G d (i+1) _ (acc++ [(dq f M x y).1]) B D (by omega) k.ok (k.In l) (k.all λz g=>q z (NP _ g)) (k.all λz g=>r z (NP _ g)) (by have:=k.up;omega) (by simp [j]);simp only [Og,Ol] at g;rw [a8];refine ah ?_;rw [AW];simp only [an,↓reduceIte,Int.reduceBEq,Int.reduceEq,o,E,h0,and_self,aD,bM A,bM C,H,aY,aX,NO,aV,aS,cU,cV,cH,NW,J,next i (by omega),dX];exact g
theorem L6{c:Cx}{t:Tr}{d:Int}{M:Mk}(h:Ok M)(k:In M d){ea eb:Bool}{a b:List Int}(j:a.length=b.length)(o: 1<=a.length)(hl:a.length<=100)(n:∀x∈a,In M x)(q:∀x∈b,In M x)(F:M.N.length<=70000):
  Or (.call 63) [ab ea a,ab eb b,AV.fn 64 [] [r0,r1]] [ad.box [Y'2],ad.box [I d],ad.box [Y'3,AV.t (T.ab 3 c.ed (aM c.ds)),AV.t (T.ab 5 c.en (ba c.ns)),AV.t (T.ab 1 c.eh (enc c.hs)),AV.t (T.str c.p),AV.t (T.ab 1 c.es (enc c.ss)),V'4,V'5],ad.box [V'6,V'7],ad.sl false 1 t.bits.isEmpty (bm t.bits),ad.sl false 1 t.to.isEmpty (enc t.to),ad.rows M.N.isEmpty 5 1 1 M.N.length (rows M.N),ad.mp false [Ck.s] (Ck.i .i64) (cg M.K)]=some [T.ab 1 false (enc (a8 (dq d) M a b).1),T.ao,ti d,T.ao,T.ab 3 c.ed (aM c.ds),T.ab 5 c.en (ba c.ns),T.ab 1 c.eh (enc c.hs),T.str c.p,T.ab 1 c.es (enc c.ss),T.ao,T.ao,RW ((a8 (dq d) M a b).2).N,T.ao,T.ab 1 t.bits.isEmpty (bm t.bits),T.ab 1 t.to.isEmpty (enc t.to),EM ((a8 (dq d) M a b).2).K]:=by
 have g:Or ny [ab ea a,ab eb b,AV.fn 64 [] [r0,r1],AV.t (T.ae true),I (a.length:Int),I 0] [ad.box [Y'2],ad.box [I d],ad.box [Y'3,AV.t (T.ab 3 c.ed (aM c.ds)),AV.t (T.ab 5 c.en (ba c.ns)),AV.t (T.ab 1 c.eh (enc c.hs)),AV.t (T.str c.p),AV.t (T.ab 1 c.es (enc c.ss)),V'4,V'5],ad.box [V'6,V'7],ad.sl false 1 t.bits.isEmpty (bm t.bits),ad.sl false 1 t.to.isEmpty (enc t.to),ad.rows M.N.isEmpty 5 1 1 M.N.length (rows M.N),ad.mp false [Ck.s] (Ck.i .i64) (cg M.K)]=some [T.ab 1 false (enc (a8 (dq d) M a b).1),T.ao,ti d,T.ao,T.ab 3 c.ed (aM c.ds),T.ab 5 c.en (ba c.ns),T.ab 1 c.eh (enc c.hs),T.str c.p,T.ab 1 c.es (enc c.ss),T.ao,T.ao,RW ((a8 (dq d) M a b).2).N,T.ao,T.ab 1 t.bits.isEmpty (bm t.bits),T.ab 1 t.to.isEmpty (enc t.to),EM ((a8 (dq d) M a b).2).K]:=by
  cases a with
  | nil=>simp at o
  | cons x l=>
   cases b with
   | nil=>cases j
   | cons y m=>
    have u:=n x NN;have v:=q y NN;have E:=D5 (c:=c) (t:=t) (show M.N.length<=100000 by omega) k u v;obtain⟨f,G⟩:=xO h k u v;have C:(0:Int) < (((x::l).length:Nat):Int):=by simp
    have D:(0:Int) < (((y::m).length:Nat):Int):=by simp
    have h0:(0:Int)<=0:=by omega
    have A:(enc (x::l))[(0:Int).toNat]? =some [ti x]:=rfl;have B:(enc (y::m))[(0:Int).toNat]? =some [ti y]:=rfl;have w:i64.wrap (0+1)= ((1:Nat):Int):=by decide
    have r:=hl;rw [NV] at r;have e:=J8 (c:=c) (t:=t) (ea:=ea) (eb:=eb) j hl l m 1 _ [(dq d M x y).1] rfl rfl (by simp) f.ok (f.In k) (f.all λz e=>n z (NP _ e)) (f.all λz e=>q z (NP _ e)) (by have:=f.up;omega) rfl;rw [a8];refine ah ?_;rw [G8];simp only [an,↓reduceIte,Int.reduceBEq,Int.reduceEq,C,D,h0,and_self,aD,A,B,E,aY,aX,NO,aV,aS,cU,cV,cH,w];exact e
 refine ah ?_;rw [G7];simp only [an,↓reduceIte,Int.reduceBEq,Int.reduceEq,aY,aX,NO,aV,aS,cU,cV,cH,aD];exact g
end Go.Aev.Gen
