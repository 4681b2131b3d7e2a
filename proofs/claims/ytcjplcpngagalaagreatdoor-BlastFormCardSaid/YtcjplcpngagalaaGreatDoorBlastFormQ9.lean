import Derived.Test.YtcjplcpngagalaaGreatDoorBlastFormQ6
import Derived.Test.YtcjplcpngagalaaGreatDoorKLay
import Derived.Test.YtcjplcpngagalaaGreatDoorBlastFormQ5
import Derived.Lib.ItoaLen
import Derived.Lib.Strings
set_option linter.all false
namespace Go.Aev.Gen
open Go Go.Aev Go.IntKind
theorem kX:kM ao ann:=by
 intro f bh d xs h;have g:f=59/\∃n:Int,bh= [.t (.int .i64 n)]/\d= []/\(-9223372036854775808<=n/\n<=9223372036854775807)/\xs= [.str ⟨(Go.Lib.itoa n).toArray⟩]:=by
  unfold ann at h;dsimp only at h;split at h
  .rename_i n;split at h
   .rename_i m;simp only [M1] at h;exact⟨rfl,n,rfl,rfl,m,h.symm⟩
   .cases h
  .cases h
 obtain⟨rfl,n,rfl,rfl,⟨h0,i⟩,rfl⟩:=g;refine⟨_,_,Go.Proofs.Tryz.func59,rfl,by decide, ?_⟩;intro c w ρ O args o hs e;have j:args= [.int .i64 n]:=by simp only [az,ai,ay] at e;obtain⟨v,r,rfl,rfl,rfl⟩:=e;rfl
 subst j;have a:=Go.Proofs.Any.strconv_Itoa Go.Proofs.YtcjplcpngagalaaGreatDoor.itoaL n h0 i w hs.glob.1;change Calls ao 59 #[.int .i64 n] w _ at a;refine a.mono ?_;rintro _ w' ⟨rfl,k,os,rfl⟩;refine⟨[.string ⟨(Go.Lib.itoa n).toArray⟩],[.str ⟨(Go.Lib.itoa n).toArray⟩],[],[],[],rfl,⟨rfl,rfl,rfl, ?_,λb l _=> ?_⟩,rfl,by simp,by simp, ?_,⟨rfl,rfl⟩⟩
 .simp [Go.Sort.grow,World.drewN]
 .simp [Go.Sort.grow,World.drewN,Array.getElem?_append,l]
 .rw [show cZ ao ann 59 (fM ([]:List ab).head?) Go.Proofs.Tryz.f59= [.f .s] by kernel_rfl];exact⟨_,[],_,[],[],[],rfl,rfl,rfl,⟨rfl,by simp [ay],rfl⟩,rfl,rfl,rfl⟩
open Go Go.Aev Go.IntKind
noncomputable abbrev Or:ax:=jN ao ann
abbrev ti(n:Int):T:= .int .i64 n
abbrev tb(b:Bool):T:= .bool b
abbrev o0:AV:=AV.own (Id.c 0)
abbrev o1:AV:=AV.own (Id.c 1)
abbrev o2:AV:=AV.own (Id.c 2)
abbrev o3:AV:=AV.own (Id.c 3)
abbrev o4:AV:=AV.own (Id.c 4)
abbrev o5:AV:=AV.own (Id.c 5)
abbrev r0:AV:=AV.ref (Id.c 0) 0
abbrev r1:AV:=AV.ref (Id.c 1) 0
theorem bz{c:Type}{l:List c}{i:Nat}{r:c}{b:List c}(h:l.drop i=r::b):l[i]? =some r/\i < l.length/\l.drop (i+1)=b:=by
 have a:i < l.length:=by
  rcases PS i l.length with g | g
  .exact g
  .rw [OW g] at h;cases h
 rw [O8 a] at h;simp only [Oa] at h;exact⟨by rw [Nc a,h.1],a,h.2⟩
theorem bx{a:Type}{l:List a}{i:Nat}(h:l.drop i= []):l.length<=i:=by simpa using h
def enc(l:List Int):List (List T):=l.map λn=> [.int .i64 n]
theorem aD(l:List Int):(enc l).length=l.length:=by simp [enc]
theorem bC{l:List Int}{i:Nat}{r:Int}(h:l[i]? =some r):(enc l)[((i:Nat):Int).toNat]? =some [ti r]:=by simp [enc,h]
theorem eO{l:List Int}{i:Nat}{r:Int}(h:l[i]? =some r):(enc l)[i]? =some [ti r]:=by simp [enc,h]
theorem next(i:Nat)(h:i<=1000000):i64.wrap ((i:Int)+1)= ((i+1:Nat):Int):=by rw [wr (by omega)];omega
theorem cS{a n:Nat}(h:n<=1000000):bp a n=some ():=by unfold bp;rw [if_pos (.inl (by unfold kA;omega))]
abbrev ad(e:Bool)(l:List Int):AV:=AV.t (T.ad 1 e (enc l))
abbrev dX(n:Int):Prop:= -9223372036854775808<=n/\n<=9223372036854775807
def it(n:Int):ByteArray:=⟨(Go.Lib.itoa n).toArray⟩
theorem fq{n:Int}(h:dX n):(it n).size<=21:=by have:=Go.Lib.itoa_length_le n h.1 h.2;simpa [it,ByteArray.size] using this
theorem gY{n:Int}(h:dX n):Or (.call 59) [I n] []=some [T.str (it n)]:=by
 refine ah ?_;have:ann.ext 59 [I n] []=some [T.str (it n)]:=by show(if dX n then some [T.str (it n)] else none)=_;rw [if_pos h]
 show(match ann.ext 59 [I n] [] with | some r=>some r | none=>_)=_;rw [this]
theorem yV(a b:ByteArray):(a==b)=decide (a=b):=by
 obtain⟨a⟩:=a;obtain⟨b⟩:=b;show(a==b)=_;by_cases h:a=b
 .subst h;simp
 .simp [h]
abbrev sp:ByteArray:=ByteArray.mk #[(32:UInt8)]
abbrev us:ByteArray:=ByteArray.mk #[(95:UInt8)]
abbrev s0:ByteArray:=ByteArray.mk #[]
theorem pW:sp.size=1:=rfl
theorem dW:us.size=1:=rfl
structure Nd where
 op:Int
 ek:Bool
 ks:List Int
 n:Int
 d:Int
 nm:ByteArray
def mS(k:Nat)(x:Nd):Row:=Row.mk k [ti x.op,T.ak,ti x.n,ti x.d,T.str x.nm] (some (x.ek,enc x.ks))
def fe:Nat->List Nd->List Row
 | _,[]=> []
 | k,x::r=>mS k x::fe (k+1) r
abbrev rows(l:List Nd):List Row:=fe 0 l
theorem DI:∀(k:Nat) (l:List Nd),(fe k l).length=l.length
 | _,[]=>rfl
 | k,x::r=>by rw [fe,Nf,DI,Nf]
theorem DK(x:Nd):∀(k:Nat) (l:List Nd),fe k (l++ [x])=fe k l++ [mS (k+l.length) x]
 | _,[]=>rfl
 | k,y::r=>by rw [NR,fe,DK x (k+1) r,fe,Nf,NR,show k+1+r.length=k+ (r.length+1) by omega]
theorem DH:∀{k:Nat} {l:List Nd} {i:Nat} {x:Nd},l[i]? =some x->(fe k l)[i]? =some (mS (k+i) x)
 | _,[],_,_,h=>by simp at h
 | k,y::r,0,x,h=>by simp at h;subst h;rfl
 | k,y::r,i+1,x,h=>by rw [fe,Oy,DH (by simpa using h),show k+1+i=k+ (i+1) by omega]
theorem DG:∀{k:Nat} {l:List Nd} {i:Nat} {x:Nd},l[i]? =some x->cv (k+i) (fe k l)=some (x.ek,enc x.ks)
 | _,[],_,_,h=>by simp at h
 | k,y::r,0,x,h=>by simp at h;subst h;simp [fe,mS,cv]
 | k,y::r,i+1,x,h=>by have a:=DG (k:=k+1) (l:=r) (i:=i) (x:=x) (by simpa using h);rw [show k+1+i=k+ (i+1) by omega] at a;rw [fe,cv,if_neg (by simp [mS]),a]
theorem xT{l:List Nd}{i:Nat}{x:Nd}(h:l[i]? =some x):(rows l)[i]? =some (mS i x):=by have:=DH (k:=0) h;rwa [NF] at this
theorem xS{l:List Nd}{i:Nat}{x:Nd}(h:l[i]? =some x):cv i (rows l)=some (x.ek,enc x.ks):=by have:=DG (k:=0) h;rwa [NF] at this
theorem DJ:∀(k:Nat) (l:List Nd),aX (fe k l)=true
 | _,[]=>rfl
 | k,x::r=>by have a:=DJ (k+1) r;unfold aX at a⊢;rw [fe,Ot,a];rfl
theorem DF:∀(k:Nat) (l:List Nd),nH k ((fe k l).map λe=> [.ptr e.cs,pP e])=some (fe k l)
 | _,[]=>rfl
 | k,x::r=>by have a:=DF (k+1) r;rw [fe,NH];show(nH (k+1) ((fe (k+1) r).map λe=> [.ptr e.cs,pP e])).bind _=_;rw [a];rfl
def RW(l:List Nd):T:=be l.isEmpty (rows l)
theorem aU(l:List Nd):aN (RW l)=some (l.isEmpty,rows l):=by have h:=DF 0 l;show(nH 0 ((fe 0 l).map λe=> [.ptr e.cs,pP e])).bind _=_;rw [h];rfl
theorem aS(l:List Nd):aX (rows l)=true:=DJ 0 l
theorem aQ(l:List Nd):(rows l).length=l.length:=DI 0 l
def cb(K:List (ByteArray×Int)):List (List T×T):=K.map λp=>([T.str p.1],ti p.2)
def lk(s:ByteArray):List (ByteArray×Int)->Option Int
 | []=>none
 | (k,v)::r=>if s=k then some v else lk s r
theorem xh(s:ByteArray):∀K:List (ByteArray×Int),fG [T.str s] (cb K)= (lk s K).map ti
 | []=>rfl
 | (k,v)::r=>by
  have a:=xh s r;unfold cb at a⊢;rw [NH,fG,lk];simp only [dN,lf,Og,yV];by_cases h:s=k
  .simp [h]
  .simp only [h,decide_false,cond_false,↓reduceIte];exact a
theorem Cq{s:ByteArray}(v:Int):∀{K:List (ByteArray×Int)},lk s K=none->gv [T.str s] (ti v) (cb K)=cb (K++ [(s,v)])
 | [],_=>rfl
 | (k,u)::r,h=>by
  rw [lk] at h;by_cases e:s=k
  .rw [if_pos e] at h;cases h
  .rw [if_neg e] at h;have a:=Cq v h;unfold cb at a⊢;rw [NR,NH,NH,gv];simp only [dN,lf,Og,yV,e,decide_false,cond_false];rw [a]
theorem zm:∀K:List (ByteArray×Int),qz ((cb K).map λp=> [.ptr p.1,p.2])=some (cb K)
 | []=>rfl
 | p::r=>by have a:=zm r;unfold cb at a⊢;rw [NH,NH,qz,a];rfl
def EM(K:List (ByteArray×Int)):T:=ba (cb K)
theorem aT(K:List (ByteArray×Int)):aL (EM K)=some (cb K):=zm K
structure Mk where
 N:List Nd
 K:List (ByteArray×Int)
abbrev cz(M:Mk):List T:= [RW M.N,T.ak,EM M.K]
abbrev df(M:Mk):List ab:= [ab.box [o1,o2],ab.rows M.N.isEmpty 5 1 1 M.N.length (rows M.N),ab.mp false [Ck.s] (Ck.i .i64) (cb M.K)]
def jJ(k:ByteArray):List Int->ByteArray
 | []=>k
 | x::r=>jJ (k++ (sp++it x)) r
def jl(op:Int)(nm:ByteArray)(n d:Int)(ks:List Int):ByteArray:=jJ (it op++sp++nm++sp++it n++sp++it d) ks
def cI(M:Mk)(op:Int)(nm:ByteArray)(n d:Int)(ks:List Int):Int×Mk:=
 match lk (jl op nm n d ks) M.K with
 | some i=>(i,M)
 | none=>((M.N.length:Int),⟨M.N++ [⟨op,ks.isEmpty,ks,n,d,nm⟩],M.K++ [(jl op nm n d ks,(M.N.length:Int))]⟩)
theorem DQ(e:Bool)(l:List Int)(a:e=true->l= [])(hl:l.length<=1000000):Or (.call 25) [ad e l] []=some [if e then T.af true else T.ad 1 false (enc l)]:=by
 refine ah ?_;rw [Gc];cases e with
 | true=>rfl
 | false=>simp only [aj,↓reduceIte,Int.reduceBEq,Int.reduceEq,aD,cS (show 0+l.length<=1000000 by omega)];rfl
theorem Jq(M:Mk)(B:M.N.length<=100000)(op:Int)(nm:ByteArray)(n d:Int)(ks:List Int)(e:Bool)(f:e=ks.isEmpty)(r:∀k∈ks,dX k)(hl:ks.length<=1000):∀(a:List Int) (j:Nat) (s:ByteArray),ks.drop j=a->s.size<=10000+100 * j->
  Or sq [r0,I op,AV.t (T.str nm),I n,I d,ad e ks,AV.t (T.str s),ad e ks,I (ks.length:Int),I (j:Int)] (df M)=
   match lk (jJ s a) M.K with
   | some i=>some (ti i::cz M)
   | none=>some (ti (M.N.length:Int)::cz ⟨M.N++ [⟨op,ks.isEmpty,ks,n,d,nm⟩],M.K++ [(jJ s a,(M.N.length:Int))]⟩):=by
 intro a;induction a with
 | nil=>
  intro j s g hs;have c:¬(j:Int) < (ks.length:Int):=by have:=bx g;omega
  rw [jJ];have o:=DQ e ks (λh=>by subst f;simpa using h) (by omega);have q:(if e then T.af true else T.ad 1 false (enc ks)).au 1=some (e,enc ks):=by
   cases e with
   | true=>
    have:ks= []:=by simpa using f.symm
    subst this;rfl
   | false=>rfl
  have w:i64.wrap (((M.N.length+1:Nat):Int) - 1)= (M.N.length:Int):=by rw [wr (by omega)];omega
  have u:rows M.N++ [Row.mk M.N.length [ti op,T.ak,ti n,ti d,T.str nm] (some (e,enc ks))]=rows (M.N++ [⟨op,ks.isEmpty,ks,n,d,nm⟩]):=by rw [rows,rows,DK,NF,f];rfl
  cases b:lk s M.K with
  | some i=>refine ah ?_;rw [vM];simp only [aj,↓reduceIte,Int.reduceBEq,Int.reduceEq,c,xh,b,OI,OM,Option.isSome_some,aS];rfl
  | none=>refine ah ?_;rw [vM];simp only [aj,↓reduceIte,Int.reduceBEq,Int.reduceEq,c,xh,b,PT,P1,Option.isSome_none,o,q,aQ,cS (show M.N.length+1<=1000000 by omega),u,aS,N6,Nk,w,Cq _ b];congr 3;unfold RW;cases M.N <;> rfl
 | cons x a v=>
  intro j s g hs;obtain⟨l,A,p⟩:=bz g;have c:(j:Int) < (ks.length:Int):=by omega
  have h0: 0<=(j:Int):=by omega
  have m:=r x (Nh l);have C:=fq m;have y: 1+ (it x).size<=4294967296:=by omega
  have D:(sp++it x).size=1+ (it x).size:=by rw [Np];rfl
  have z:s.size+ (sp++it x).size<=4294967296:=by omega
  have:=v (j+1) (s++ (sp++it x)) p (by rw [Np];omega);rw [jJ];cases b:lk (jJ (s++ (sp++it x)) a) M.K <;>
  .rw [b] at this;refine ah ?_;rw [vM];simp only [aj,↓reduceIte,Int.reduceBEq,Int.reduceEq,c,h0,and_self,aD,bC l,gY m,y,z,next j (by omega)];exact this
theorem iV(M:Mk)(l:M.N.length<=100000)(op:Int)(nm:ByteArray)(n d:Int)(ks:List Int)(e:Bool)(m:e=ks.isEmpty)(p:∀k∈ks,dX k)(hl:ks.length<=1000)(ho:dX op)(b:dX n)(a:dX d)(hm:nm.size<=5000):
  Or (.call 61) [r0,I op,AV.t (T.str nm),I n,I d,ad e ks] (df M)=some (ti (cI M op nm n d ks).1::cz (cI M op nm n d ks).2):=by
 have q:=fq ho;have r:=fq b;have s:=fq a;have c:(it op++sp++nm++sp++it n++sp++it d).size<=10000+100 * 0:=by simp only [Np,pW];omega
 have:=Jq M l op nm n d ks e m p hl ks 0 (it op++sp++nm++sp++it n++sp++it d) rfl c;have f:(it op).size+1<=4294967296:=by omega
 have g:(it op++sp).size+nm.size<=4294967296:=by simp only [Np,pW];omega
 have c3:(it op++sp++nm).size+1<=4294967296:=by simp only [Np,pW];omega
 have h:(it op++sp++nm++sp).size+ (it n).size<=4294967296:=by simp only [Np,pW];omega
 have i:(it op++sp++nm++sp++it n).size+1<=4294967296:=by simp only [Np,pW];omega
 have j:(it op++sp++nm++sp++it n++sp).size+ (it d).size<=4294967296:=by simp only [Np,pW];omega
 unfold cI jl;cases o:lk (jJ (it op++sp++nm++sp++it n++sp++it d) ks) M.K <;>
 .rw [o] at this;refine ah ?_;rw [GA];simp only [aj,↓reduceIte,Int.reduceBEq,Int.reduceEq,gY ho,gY b,gY a,f,g,c3,h,i,j,aD];exact this
open Go Go.Aev Go.IntKind
abbrev In(M:Mk)(a:Int):Prop:=0<=a/\a < (M.N.length:Int)
structure Ok (M:Mk):Prop where
 no:∀(i:Nat) (x:Nd),M.N[i]? =some x->x.op=3->∃k r,x.ks=k::r
 ks:∀(i:Nat) (x:Nd),M.N[i]? =some x->∀k∈x.ks,0<=k/\k < (i:Int)
 kn:∀p∈M.K,In M p.2
 ek:∀(i:Nat) (x:Nd),M.N[i]? =some x->x.ek=x.ks.isEmpty
 kl:∀(i:Nat) (x:Nd),M.N[i]? =some x->x.ks.length<=1000
structure Up (M M':Mk) (c:Nat):Prop where
 ok:Ok M'
 le:M.N.length<=M'.N.length
 up:M'.N.length<=M.N.length+c
 pre:∀(i:Nat) (x:Nd),M.N[i]? =some x->M'.N[i]? =some x
theorem Up.refl{M:Mk}(h:Ok M):Up M M 0:=⟨h,Ns _,Ns _,λ_ _ h=>h⟩
theorem Up.trans{M f b:Mk}{c d:Nat}(h:Up M f c)(a:Up f b d):Up M b (c+d):=
 ⟨a.ok,NQ h.le a.le,by have:=h.up;have:=a.up;omega,λi x e=>a.pre i x (h.pre i x e)⟩
theorem Up.mono{M a:Mk}{c d:Nat}(h:Up M a c)(b:c<=d):Up M a d:=⟨h.ok,h.le,by have:=h.up;omega,h.pre⟩
theorem Up.In{M b:Mk}{c:Nat}(h:Up M b c){a:Int}(d:In M a):In b a:=⟨d.1,by have:=h.le;have:=d.2;omega⟩
theorem In.get{M:Mk}{a:Int}(h:In M a):∃(i:Nat) (x:Nd),a= (i:Int)/\M.N[i]? =some x:=by
 obtain⟨i,rfl⟩:=Int.eq_ofNat_of_zero_le h.1;have:i < M.N.length:=by have:=h.2;omega
 exact⟨i,_,rfl,Nc this⟩
theorem Cb{s:ByteArray}:∀{K:List (ByteArray×Int)} {v:Int},lk s K=some v->∃p∈K,p.2=v
 | (k,u)::r,v,h=>by
  rw [lk] at h;split at h
  .simp only [M1] at h;exact⟨_,M3,h⟩
  .obtain⟨p,a,e⟩:=Cb h;exact⟨p,M4 _ a,e⟩
theorem iR{M:Mk}(h:Ok M)(op:Int)(nm:ByteArray)(n d:Int)(ks:List Int)(j:∀k∈ks,In M k)(c:op=3->∃k r,ks=k::r)(hl:ks.length<=1000:=by simp):
  Up M (cI M op nm n d ks).2 1/\In (cI M op nm n d ks).2 (cI M op nm n d ks).1:=by
 unfold cI;cases f:lk (jl op nm n d ks) M.K with
 | some v=>obtain⟨p,b,rfl⟩:=Cb f;exact⟨(Up.refl h).mono (by omega),h.kn p b⟩
 | none=>
  have new:∀(i:Nat) (x:Nd),(M.N++ [(⟨op,ks.isEmpty,ks,n,d,nm⟩:Nd)])[i]? =some x->M.N[i]? =some x\/(i=M.N.length/\x= ⟨op,ks.isEmpty,ks,n,d,nm⟩):=λi x e=>by
   rcases Nat.lt_trichotomy i M.N.length with g | g | g
   .rw [Nu g] at e;exact .inl e
   .subst g;simp at e;exact .inr ⟨rfl,e.symm⟩
   .rw [Ov (by simp;omega)] at e;cases e
  refine⟨⟨⟨λi x e ho=> ?_,λi x e k a=> ?_,λp b=> ?_,λi x e=> ?_,λi x e=> ?_⟩,by simp,by simp,λi x e=> ?_⟩, ?_⟩
  .rcases new i x e with g | ⟨rfl,rfl⟩
   .exact h.no i x g ho
   .exact c ho
  .rcases new i x e with g | ⟨rfl,rfl⟩
   .exact h.ks i x g k a
   .exact j k a
  .simp only [N6,Nk];rcases Nq.1 b with g | g
   .have:=h.kn p g;exact⟨this.1,by simp;omega⟩
   .simp only [Ng] at g;subst g;exact⟨by simp,by simp;omega⟩
  .rcases new i x e with g | ⟨rfl,rfl⟩
   .exact h.ek i x g
   .rfl
  .rcases new i x e with g | ⟨rfl,rfl⟩
   .exact h.kl i x g
   .exact hl
  .rw [Nu (M5.1 e).1];exact e
  .exact⟨by simp,by simp;omega⟩
def cj(M:Mk)(a:Int):Int:=match M.N[a.toNat]? with
 | some x=>x.op
 | none=>0
def pr(M:Mk)(a:Int):Int:=match M.N[a.toNat]? with
 | some x=>x.ks.headD 0
 | none=>0
def bV(M:Mk)(b:Bool):Int×Mk:=cI M (if b then 1 else 2) s0 0 0 []
def bR(M:Mk)(a:Int):Int×Mk:=
 if cj M a=1 then bV M false else if cj M a=2 then bV M true else if cj M a=3 then(pr M a,M) else cI M 3 s0 0 0 [a]
def bc(M:Mk)(a b:Int):Int×Mk:=
 if cj M a=2\/cj M b=1\/a=b then(a,M) else if cj M a=1\/cj M b=2 then(b,M) else cI M 4 s0 0 0 [a,b]
def cY(M:Mk)(a b:Int):Int×Mk:=
 if cj M a=1\/cj M b=2\/a=b then(a,M) else if cj M a=2\/cj M b=1 then(b,M) else cI M 5 s0 0 0 [a,b]
def bY(M:Mk)(a b:Int):Int×Mk:=
 if a=b then bV M true else if cj M a=1 then(b,M) else if cj M b=1 then(a,M) else if cj M a=2 then bR M b else if cj M b=2 then bR M a else cI M 6 s0 0 0 [a,b]
def aO(M:Mk)(a b:Int):Int×Mk:=bR (bY M a b).2 (bY M a b).1
theorem In.i64{M:Mk}{a:Int}(h:In M a)(b:M.N.length<=100000):dX a:=⟨by have:=h.1;omega,by have:=h.2;omega⟩
theorem iq{M:Mk}(h:Ok M)(b:Bool):Up M (bV M b).2 1/\In (bV M b).2 (bV M b).1:=
 iR h _ _ _ _ _ (λk a=>by cases a) (by cases b <;> simp)
theorem n7{M:Mk}(h:Ok M){a:Int}(c:In M a):Up M (bR M a).2 1/\In (bR M a).2 (bR M a).1:=by
 unfold bR;split
 .exact iq h _
 .split
  .exact iq h _
  .split
   .rename_i e;obtain⟨i,x,rfl,d⟩:=c.get;refine⟨(Up.refl h).mono (by omega), ?_⟩;unfold cj at e;unfold pr;rw [NM,d] at e⊢;obtain⟨k,r,b⟩:=h.no i x d e;have:=h.ks i x d k (by rw [b];exact M3);dsimp only;rw [b,List.headD_cons];exact⟨this.1,by have:=c.2;omega⟩
   .exact iR h _ _ _ _ _ (λk b=>by simp only [Ng] at b;subst b;exact c) (λ_=>⟨_,_,rfl⟩)
theorem p8{M:Mk}{a b:Int}(d:In M a)(e:In M b):∀k∈[a,b],In M k:=λk c=>by simp only [Nj,Ol,or_false] at c;rcases c with rfl | rfl <;> assumption
theorem fS{M:Mk}(h:Ok M){a b:Int}(c:In M a)(d:In M b):Up M (bc M a b).2 1/\In (bc M a b).2 (bc M a b).1:=by
 unfold bc;split
 .exact⟨(Up.refl h).mono (by omega),c⟩
 .split
  .exact⟨(Up.refl h).mono (by omega),d⟩
  .exact iR h _ _ _ _ _ (p8 c d) (by simp)
theorem n9{M:Mk}(h:Ok M){a b:Int}(c:In M a)(d:In M b):Up M (cY M a b).2 1/\In (cY M a b).2 (cY M a b).1:=by
 unfold cY;split
 .exact⟨(Up.refl h).mono (by omega),c⟩
 .split
  .exact⟨(Up.refl h).mono (by omega),d⟩
  .exact iR h _ _ _ _ _ (p8 c d) (by simp)
theorem nV{M:Mk}(h:Ok M){a b:Int}(c:In M a)(d:In M b):Up M (bY M a b).2 1/\In (bY M a b).2 (bY M a b).1:=by
 unfold bY;split
 .exact iq h _
 .split
  .exact⟨(Up.refl h).mono (by omega),d⟩
  .split
   .exact⟨(Up.refl h).mono (by omega),c⟩
   .split
    .exact n7 h d
    .split
     .exact n7 h c
     .exact iR h _ _ _ _ _ (p8 c d) (by simp)
theorem na{M:Mk}(h:Ok M){a b:Int}(g:In M a)(i:In M b):Up M (aO M a b).2 2/\In (aO M a b).2 (aO M a b).1:=by obtain⟨c,d⟩:=nV h g i;obtain⟨e,f⟩:=n7 c.ok d;exact⟨c.trans e,f⟩
theorem Dz(i:Nat)(x:Nd):(mS i x).n=i:=rfl
theorem Dy(i:Nat)(x:Nd):(mS i x).cs= [ti x.op,T.ak,ti x.n,ti x.d,T.str x.nm]:=rfl
theorem js{M:Mk}{a:Int}(b:In M a)(op:Int):Or (.call 93) [r0,I a,I op] (df M)=some (tb (cj M a==op)::cz M):=by
 have c:=b;obtain⟨i,x,rfl,d⟩:=b.get;have ho:cj M (i:Int)=x.op:=by unfold cj;rw [NM,d]
 rw [ho];refine ah ?_;rw [Hs];simp only [aj,↓reduceIte,Int.reduceBEq,Int.reduceEq,aQ,c.1,c.2,and_self,NM,xT d,Dy,aS];rfl
theorem kE{M:Mk}(e:M.N.length<=100000)(b:Bool):Or (.call 65) [r0,B b] (df M)=some (ti (bV M b).1::cz (bV M b).2):=by
 have c:=iV M e 1 s0 0 0 [] true rfl (λk a=>by cases a) (by simp) (by omega) (by omega) (by omega) (by decide);have d:=iV M e 2 s0 0 0 [] true rfl (λk a=>by cases a) (by simp) (by omega) (by omega) (by omega) (by decide);replace c:Or (.call 61) [r0,I 1,AV.t (T.str s0),I 0,I 0,AV.t (T.ad 1 true [])] (df M)=_:=c;replace d:Or (.call 61) [r0,I 2,AV.t (T.str s0),I 0,I 0,AV.t (T.ad 1 true [])] (df M)=_:=d;unfold bV;refine ah ?_;rw [GL];cases b with
 | true=>simp only [aj,↓reduceIte,Int.reduceBEq,Int.reduceEq,c,aU,aT,M6,aS,aQ];rfl
 | false=>simp only [aj,↓reduceIte,Int.reduceBEq,Int.reduceEq,d,aU,aT,M6,aS,aQ];rfl
theorem pS{M:Mk}(h:Ok M)(d:M.N.length<=100000){a:Int}(j:In M a):Or (.call 66) [r0,I a] (df M)=some (ti (bR M a).1::cz (bR M a).2):=by
 have m:=j;have s:=kE d false;have u:=kE d true;have l:=iV M d 3 s0 0 0 [a] false rfl (λk e=>by simp only [Ng] at e;subst e;exact j.i64 d) (by simp) (by omega) (by omega) (by omega) (by decide);obtain⟨i,x,rfl,c⟩:=j.get;have ho:cj M (i:Int)=x.op:=by unfold cj;rw [NM,c]
 have e:pr M (i:Int)=x.ks.headD 0:=by unfold pr;rw [NM,c]
 replace l:Or (.call 61) [r0,I 3,AV.t (T.str s0),I 0,I 0,AV.t (T.ad 1 false [[ti (i:Int)]])] (df M)=_:=l;unfold bR;rw [ho,e];refine ah ?_;rw [GM];simp only [bu,bA,cC,jg,bG,aQ,m.1,m.2,and_self,↓reduceIte,NM,xT c,Dy,Dz];by_cases f:x.op=1
 .simp only [aj,↓reduceIte,Int.reduceBEq,Int.reduceEq,f,s,aU,aT,M6,aS,aQ];rfl
 by_cases g:x.op=2
 .simp only [aj,↓reduceIte,Int.reduceBEq,Int.reduceEq,g,u,aU,aT,M6,aS,aQ];rfl
 by_cases c3:x.op=3
 .obtain⟨k,r,b⟩:=h.no i x c c3;have hl:(0:Int)<=0/\(0:Int) < ((x.ks.length:Nat):Int):=by rw [b];simp
  have q:(enc x.ks)[0]? =some [ti k]:=by rw [b];rfl
  simp only [aj,↓reduceIte,Int.reduceBEq,Int.reduceEq,c3,xS c,aD,hl,and_self,q,aS];rw [b];rfl
 .have n:(x.op==1)=false:=by simpa using f
  have o:(x.op==2)=false:=by simpa using g
  have p:(x.op==3)=false:=by simpa using c3
  simp only [aj,↓reduceIte,Int.reduceBEq,Int.reduceEq,n,o,p,f,g,c3,l,aU,aT,M6,aS,aQ];rfl
theorem jT{M:Mk}(s:M.N.length<=100000){a b:Int}(o:In M a)(p:In M b):Or (.call 67) [r0,I a,I b] (df M)=some (ti (bc M a b).1::cz (bc M a b).2):=by
 have e:=js o 2;have i:=js o 1;have m:=js p 2;have g:=js p 1;have q:=iV M s 4 s0 0 0 [a,b] false rfl (λk v=>(p8 o p k v).i64 s) (by simp) (by omega) (by omega) (by omega) (by decide);replace q:Or (.call 61) [r0,I 4,AV.t (T.str s0),I 0,I 0,AV.t (T.ad 1 false [[ti a],[ti b]])] (df M)=_:=q;unfold bc;refine ah ?_;rw [GN];by_cases c:cj M a=2
 .rw [c] at e i;simp only [aj,↓reduceIte,Int.reduceBEq,Int.reduceEq,c,e,aU,aT,M6,aS,aQ,true_or];rfl
 by_cases d:cj M b=1
 .rw [d] at m g;have f:(cj M a==2)=false:=by simpa using c
  simp only [aj,↓reduceIte,Int.reduceBEq,Int.reduceEq,c,d,f,e,g,aU,aT,M6,aS,aQ,true_or,or_true];rfl
 have f:(cj M a==2)=false:=by simpa using c
 have l:(cj M b==1)=false:=by simpa using d
 by_cases c3:a=b
 .subst c3;simp only [aj,↓reduceIte,Int.reduceBEq,Int.reduceEq,c,d,f,l,e,g,aU,aT,M6,aS,aQ,true_or,or_true];rfl
 have n:(a==b)=false:=by simpa using c3
 by_cases h:cj M a=1
 .rw [h] at i;simp only [aj,↓reduceIte,Int.reduceBEq,Int.reduceEq,c,d,c3,h,f,l,n,e,i,g,aU,aT,M6,aS,aQ,true_or,or_true,or_self];rfl
 have r:(cj M a==1)=false:=by simpa using h
 by_cases j:cj M b=2
 .rw [j] at m;simp only [aj,↓reduceIte,Int.reduceBEq,Int.reduceEq,c,d,c3,h,j,f,l,n,r,e,i,m,g,aU,aT,M6,aS,aQ,true_or,or_true,or_self];rfl
 have u:(cj M b==2)=false:=by simpa using j
 simp only [aj,↓reduceIte,Int.reduceBEq,Int.reduceEq,c,d,c3,h,j,f,l,n,r,u,e,i,m,g,q,aU,aT,M6,aS,aQ,true_or,or_true,or_self];rfl
theorem rQ{M:Mk}(s:M.N.length<=100000){a b:Int}(o:In M a)(p:In M b):Or (.call 68) [r0,I a,I b] (df M)=some (ti (cY M a b).1::cz (cY M a b).2):=by
 have i:=js o 2;have e:=js o 1;have g:=js p 2;have m:=js p 1;have q:=iV M s 5 s0 0 0 [a,b] false rfl (λk v=>(p8 o p k v).i64 s) (by simp) (by omega) (by omega) (by omega) (by decide);replace q:Or (.call 61) [r0,I 5,AV.t (T.str s0),I 0,I 0,AV.t (T.ad 1 false [[ti a],[ti b]])] (df M)=_:=q;unfold cY;refine ah ?_;rw [GO];by_cases c:cj M a=1
 .rw [c] at i e;simp only [aj,↓reduceIte,Int.reduceBEq,Int.reduceEq,c,e,aU,aT,M6,aS,aQ,true_or];rfl
 by_cases d:cj M b=2
 .rw [d] at g m;have f:(cj M a==1)=false:=by simpa using c
  simp only [aj,↓reduceIte,Int.reduceBEq,Int.reduceEq,c,d,f,e,g,aU,aT,M6,aS,aQ,true_or,or_true];rfl
 have f:(cj M a==1)=false:=by simpa using c
 have l:(cj M b==2)=false:=by simpa using d
 by_cases c3:a=b
 .subst c3;simp only [aj,↓reduceIte,Int.reduceBEq,Int.reduceEq,c,d,f,l,e,g,aU,aT,M6,aS,aQ,true_or,or_true];rfl
 have n:(a==b)=false:=by simpa using c3
 by_cases h:cj M a=2
 .rw [h] at i;simp only [aj,↓reduceIte,Int.reduceBEq,Int.reduceEq,c,d,c3,h,f,l,n,i,e,g,aU,aT,M6,aS,aQ,true_or,or_true,or_self];rfl
 have r:(cj M a==2)=false:=by simpa using h
 by_cases j:cj M b=1
 .rw [j] at m;simp only [aj,↓reduceIte,Int.reduceBEq,Int.reduceEq,c,d,c3,h,j,f,l,n,r,i,e,g,m,aU,aT,M6,aS,aQ,true_or,or_true,or_self];rfl
 have u:(cj M b==1)=false:=by simpa using j
 simp only [aj,↓reduceIte,Int.reduceBEq,Int.reduceEq,c,d,c3,h,j,f,l,n,r,u,i,e,g,m,q,aU,aT,M6,aS,aQ,true_or,or_true,or_self];rfl
theorem uv{M:Mk}(h:Ok M)(i:M.N.length<=100000){a b:Int}(n:In M a)(o:In M b):Or (.call 74) [r0,I a,I b] (df M)=some (ti (bY M a b).1::cz (bY M a b).2):=by
 have p:=js n 2;have e:=js n 1;have r:=js o 2;have j:=js o 1;have s:=iV M i 6 s0 0 0 [a,b] false rfl (λk w=>(p8 n o k w).i64 i) (by simp) (by omega) (by omega) (by omega) (by decide);replace s:Or (.call 61) [r0,I 6,AV.t (T.str s0),I 0,I 0,AV.t (T.ad 1 false [[ti a],[ti b]])] (df M)=_:=s;have x:=pS h i n;have y:=pS h i o;have z:=kE i true;unfold bY;refine ah ?_;rw [GX];by_cases c:a=b
 .subst c;simp only [aj,↓reduceIte,Int.reduceBEq,Int.reduceEq,z,aU,aT,M6,aS,aQ];rfl
 have g:(a==b)=false:=by simpa using c
 by_cases d:cj M a=1
 .rw [d] at e;simp only [aj,↓reduceIte,Int.reduceBEq,Int.reduceEq,c,d,g,e,aU,aT,M6,aS,aQ];rfl
 have m:(cj M a==1)=false:=by simpa using d
 by_cases c3:cj M b=1
 .rw [c3] at j;simp only [aj,↓reduceIte,Int.reduceBEq,Int.reduceEq,c,d,c3,g,m,e,j,aU,aT,M6,aS,aQ];rfl
 have q:(cj M b==1)=false:=by simpa using c3
 by_cases f:cj M a=2
 .rw [f] at p;simp only [aj,↓reduceIte,Int.reduceBEq,Int.reduceEq,c,d,c3,f,g,m,q,p,e,j,y,aU,aT,M6,aS,aQ];rfl
 have u:(cj M a==2)=false:=by simpa using f
 by_cases l:cj M b=2
 .rw [l] at r;simp only [aj,↓reduceIte,Int.reduceBEq,Int.reduceEq,c,d,c3,f,l,g,m,q,u,p,e,r,j,x,aU,aT,M6,aS,aQ];rfl
 have v:(cj M b==2)=false:=by simpa using l
 simp only [aj,↓reduceIte,Int.reduceBEq,Int.reduceEq,c,d,c3,f,l,g,m,q,u,v,p,e,r,j,s,aU,aT,M6,aS,aQ];rfl
theorem pT{M:Mk}(h:Ok M)(j:M.N.length<=90000){a b:Int}(d:In M a)(e:In M b):Or (.call 69) [r0,I a,I b] (df M)=some (ti (aO M a b).1::cz (aO M a b).2):=by have g:=uv h (by omega) d e;obtain⟨c,f⟩:=nV h d e;have i:=pS c.ok (by have:=c.up;omega) f;refine ah ?_;rw [GP];simp only [aj,↓reduceIte,Int.reduceBEq,Int.reduceEq,g,i,aU,aT,M6,aS,aQ];rfl
open Go Go.Aev Go.IntKind
def LO(l:List Int):T:=if l.isEmpty then T.af true else T.ad 1 false (enc l)
theorem cB(l:List Int):(LO l).au 1=some (l.isEmpty,enc l):=by cases l <;> rfl
theorem ez(l:List Int)(x:Int):enc l++ [[T.int .i64 x]]=enc (l++ [x]):=by simp [enc]
theorem Up.all{M a:Mk}{c:Nat}(h:Up M a c){l:List Int}(hl:∀x∈l,Go.Aev.Gen.In M x):∀x∈l,Go.Aev.Gen.In a x:=λx b=>h.In (hl x b)
abbrev ny(M:Mk)(acc:List Int):List ab:= [ab.box [o4,o2],ab.dead,ab.mp false [Ck.s] (Ck.i .i64) (cb M.K),ab.sl false 1 false (enc acc),ab.rows M.N.isEmpty 5 1 1 M.N.length (rows M.N)]
abbrev qh(M:Mk):List ab:= [ab.box [o3,o2],ab.dead,ab.mp false [Ck.s] (Ck.i .i64) (cb M.K),ab.rows M.N.isEmpty 5 1 1 M.N.length (rows M.N)]
def aK(f:Mk->Int->Int->Int×Mk)(M:Mk):List Int->List Int->List Int×Mk
 | x::a,y::b=>((f M x y).1:: (aK f (f M x y).2 a b).1,(aK f (f M x y).2 a b).2)
 | _,_=>([],M)
theorem o7{f:Mk->Int->Int->Int×Mk}{c:Nat}(l:∀M a b,Ok M->In M a->In M b->Up M (f M a b).2 c/\In (f M a b).2 (f M a b).1):
  ∀{a b:List Int} {M:Mk},Ok M->(∀x∈a,In M x)->(∀x∈b,In M x)->a.length=b.length->
   Up M (aK f M a b).2 (c * a.length)/\(∀x∈(aK f M a b).1,In (aK f M a b).2 x)/\(aK f M a b).1.length=a.length
 | [],b,M,h,_,_,_=>by rw [show aK f M [] b= ([],M) by simp [aK]];exact⟨Up.refl h,λx p=>(by cases p),rfl⟩
 | x::a,[],M,h,_,_,e=>by cases e
 | x::a,y::b,M,h,j,k,e=>by
  obtain⟨g,m⟩:=l M x y h (j x M3) (k y M3);obtain⟨i,n,o⟩:=o7 l (a:=a) (b:=b) g.ok (g.all λz d=>j z (M4 _ d)) (g.all λz d=>k z (M4 _ d)) (by simpa using e);refine⟨(g.trans i).mono (by rw [Nf,P9];omega),λz d=> ?_,by simp [aK,o]⟩;rcases Nj.1 d with rfl | d
  .exact i.In m
  .exact n z d
def dQ(M:Mk)(c:Int):List Int->List Int->List Int×Mk
 | x::a,y::b=>
  let p:=aO M x y;let q:=aO p.2 p.1 c
  if a.isEmpty then([q.1],q.2) else
  let r:=bc q.2 x y;let s:=bc r.2 p.1 c;let t:=cY s.2 r.1 s.1
  (q.1:: (dQ t.2 t.1 a b).1,(dQ t.2 t.1 a b).2)
 | _,_=>([],M)
theorem rT(M:Mk)(c:Int)(b:List Int):dQ M c [] b= ([],M):=by simp [dQ]
def cN(M:Mk)(a b:List Int):List Int×Mk:=dQ (bV M false).2 (bV M false).1 a b
structure ES (M:Mk) (c x y:Int):Prop where
 p:Up M (aO M x y).2 2
 pi:In (aO M x y).2 (aO M x y).1
 q:Up M (aO (aO M x y).2 (aO M x y).1 c).2 4
 qi:In (aO (aO M x y).2 (aO M x y).1 c).2 (aO (aO M x y).2 (aO M x y).1 c).1
 r:Up M (bc (aO (aO M x y).2 (aO M x y).1 c).2 x y).2 5
 ri:In (bc (aO (aO M x y).2 (aO M x y).1 c).2 x y).2 (bc (aO (aO M x y).2 (aO M x y).1 c).2 x y).1
 s:Up M (bc (bc (aO (aO M x y).2 (aO M x y).1 c).2 x y).2 (aO M x y).1 c).2 6
 si:In (bc (bc (aO (aO M x y).2 (aO M x y).1 c).2 x y).2 (aO M x y).1 c).2 (bc (bc (aO (aO M x y).2 (aO M x y).1 c).2 x y).2 (aO M x y).1 c).1
 rs:In (bc (bc (aO (aO M x y).2 (aO M x y).1 c).2 x y).2 (aO M x y).1 c).2 (bc (aO (aO M x y).2 (aO M x y).1 c).2 x y).1
theorem yn{M:Mk}(h:Ok M){c x y:Int}(e:In M c)(f:In M x)(g:In M y):ES M c x y:=by obtain⟨a,b⟩:=na h f g;obtain⟨d,k⟩:=na a.ok b (a.In e);have q:=a.trans d;obtain⟨r1,i⟩:=fS d.ok (q.In f) (q.In g);have r:=q.trans r1;obtain⟨j,l⟩:=fS r1.ok ((d.trans r1).In b) (r.In e);exact⟨a,b,q,k,r,i,r.trans j,l,j.In i⟩
theorem Ep:∀{a b:List Int} {M:Mk} {c:Int},Ok M->In M c->(∀x∈a,In M x)->(∀x∈b,In M x)->a.length=b.length->
   Up M (dQ M c a b).2 (7 * a.length)/\(∀x∈(dQ M c a b).1,In (dQ M c a b).2 x)/\(dQ M c a b).1.length=a.length
 | [],b,M,c,h,_,_,_,_=>by rw [show dQ M c [] b= ([],M) by simp [dQ]];exact⟨Up.refl h,λx o=>(by cases o),rfl⟩
 | x::a,[],M,c,h,_,_,_,e=>by cases e
 | x::a,y::b,M,c,h,i,f,g,e=>by
  have st:=yn h i (f x M3) (g y M3);rw [dQ];dsimp only;split
  .rename_i n;have:a= []:=by simpa using n
   subst this;exact⟨st.q.mono (by simp),λz d=>by simp only [Ng] at d;subst d;exact st.qi,rfl⟩
  .obtain⟨k,u⟩:=n9 st.s.ok st.rs st.si;have t:=st.s.trans k;obtain⟨j,l,m⟩:=Ep (a:=a) (b:=b) t.ok u (t.all λz d=>f z (M4 _ d)) (t.all λz d=>g z (M4 _ d)) (by simpa using e);refine⟨(t.trans j).mono (by rw [Nf,P9];omega),λz d=> ?_,by simp [m]⟩;rcases Nj.1 d with rfl | d
   .exact j.In (k.In ((fS st.q.ok (st.q.In (f x M3)) (st.q.In (g y M3))).1.trans (fS st.r.ok ((fS st.q.ok (st.q.In (f x M3)) (st.q.In (g y M3))).1.In ((na st.p.ok st.pi (st.p.In i)).1.In st.pi)) (st.r.In i)).1 |>.In st.qi))
   .exact l z d
theorem Ek{a b:List Int}{M:Mk}(h:Ok M)(j:∀x∈a,In M x)(k:∀x∈b,In M x)(e:a.length=b.length):
   Up M (cN M a b).2 (1+7 * a.length)/\(∀x∈(cN M a b).1,In (cN M a b).2 x)/\(cN M a b).1.length=a.length:=by
 obtain⟨c,d⟩:=iq h false;obtain⟨f,g,i⟩:=Ep c.ok d (c.all j) (c.all k) e;exact⟨c.trans f,g,i⟩
theorem zB{a:Type}{l r:List a}{i:Nat}(h:l.drop i=r)(b:i<=l.length):l.length=i+r.length:=by rw [<-h,Oj];omega
theorem Cw{ea eb:Bool}{a b:List Int}(W:a.length=b.length)(hl:a.length<=100):∀(e f:List Int) (i:Nat) (M:Mk) (c:Int) (acc:List Int),a.drop i=e->b.drop i=f->i<=a.length->Ok M->In M c->(∀x∈e,In M x)->(∀x∈f,In M x)->M.N.length+7 * e.length<=80000->acc.length=i->
  Or nv [r0,ad ea a,ad eb b,I c,o3,I (a.length:Int),I (i:Int)] (ny M acc)=some (T.ad 1 false (enc (acc++ (dQ M c e f).1))::cz (dQ M c e f).2):=by
 intro e;induction e with
 | nil=>
  intro f i M c acc A B P h j C m H g;have l:¬(i:Int) < (a.length:Int):=by have:=bx A;omega
  refine ah ?_;rw [vO];simp only [aj,↓reduceIte,Int.reduceBEq,Int.reduceEq,l,aU,aT,M6,aS,aQ,dQ,Nz];rfl
 | cons x e J=>
  intro f i M c acc A B P h j C m H g;obtain⟨D,X,v⟩:=bz A;cases f with
  | nil=>exact absurd (bx B) (by omega)
  | cons y f=>
   obtain⟨E,Y,F⟩:=bz B;have l:(i:Int) < (a.length:Int):=by omega
   have G:(i:Int) < (b.length:Int):=by omega
   have h0: 0<=(i:Int):=by omega
   have n:=C x M3;have o:=m y M3;have st:=yn h j n o;rw [Nf] at H;have K:=pT h (by omega) n o;have L:=pT st.p.ok (by have:=st.p.up;omega) st.pi (st.p.In j);have k:=zB v (by omega);have w:=next i (by omega);have O:bp 8 (acc.length+1)=some ():=cS (by omega);rw [dQ];dsimp only;cases e with
   | nil=>
    have u:¬((i+1:Nat):Int) < (a.length:Int):=by rw [Nw] at k;omega
    have d:=J f (i+1) _ c (acc++ [(aO (aO M x y).2 (aO M x y).1 c).1]) v F (by omega) st.q.ok (st.q.In j) (λz d=>by cases d) (st.q.all λz d=>m z (M4 _ d)) (by have:=st.q.up;simp;omega) (by simp [g]);rw [rT] at d;refine ah ?_;rw [vO];simp only [aj,↓reduceIte,Int.reduceBEq,Int.reduceEq,l,G,h0,and_self,aD,bC D,bC E,K,L,aU,aT,M6,aS,aQ,Nk,O,w,u,ez,P6];rw [Nz] at d;exact d
   | cons x2 e=>
    have u:((i+1:Nat):Int) < (a.length:Int):=by rw [Nf] at k;omega
    have Q:=jT (by have:=st.q.up;omega) (st.q.In n) (st.q.In o);have R:=jT (by have:=st.r.up;omega) ((fS st.q.ok (st.q.In n) (st.q.In o)).1.In ((na st.p.ok st.pi (st.p.In j)).1.In st.pi)) (st.r.In j);have S:=rQ (by have:=st.s.up;omega) st.rs st.si;obtain⟨U,V⟩:=n9 st.s.ok st.rs st.si;have t:=st.s.trans U;have d:=J f (i+1) _ _ (acc++ [(aO (aO M x y).2 (aO M x y).1 c).1]) v F (by omega) t.ok V (t.all λz d=>C z (M4 _ d)) (t.all λz d=>m z (M4 _ d)) (by have:=t.up;omega) (by simp [g]);refine ah ?_;rw [vO];simp only [aj,↓reduceIte,Int.reduceBEq,Int.reduceEq,l,G,h0,and_self,aD,bC D,bC E,K,L,Q,R,S,aU,aT,M6,aS,aQ,Nk,O,w,u,ez,P0];simp only [Nx,ND] at d;exact d
theorem DV{M:Mk}(h:Ok M){ea eb:Bool}{a b:List Int}(j:a.length=b.length)(hl:a.length<=100)(G:∀x∈a,In M x)(H:∀x∈b,In M x)(O:M.N.length<=70000):
  Or (.call 70) [r0,ad ea a,ad eb b] (df M)=some (LO (cN M a b).1::cz (cN M a b).2):=by
 have J:=kE (show M.N.length<=100000 by omega) false;obtain⟨l,V⟩:=iq h false;have g:Or nv [r0,ad ea a,ad eb b,I (bV M false).1,AV.t (T.af true),I (a.length:Int),I 0] (qh (bV M false).2)=some (LO (cN M a b).1::cz (cN M a b).2):=by
  unfold cN;have A:(bV M false).2.N.length<=70001:=by have:=l.up;omega
  revert V;generalize (bV M false).1=c;have f:=l.all G;have e:=l.all H;have n:=l.ok;revert f e n A;generalize (bV M false).2=m;intro A f e n k;clear J l G H h O M;cases a with
  | nil=>refine ah ?_;rw [vN];simp only [aj,↓reduceIte,Int.reduceBEq,Int.reduceEq,aU,aT,M6,aS,aQ,dQ,Nw,NK,NO,decide_false];rfl
  | cons x i=>
   cases b with
   | nil=>cases j
   | cons y v=>
    have o:=f x M3;have u:=e y M3;have st:=yn n k o u;rw [Nf] at hl;have K:=pT n (by omega) o u;have L:=pT st.p.ok (by have:=st.p.up;omega) st.pi (st.p.In k);have E:(0:Int) < (((x::i).length:Nat):Int):=by simp
    have F:(0:Int) < (((y::v).length:Nat):Int):=by simp
    have h0:(0:Int)<=0:=by omega
    have C:(enc (x::i))[(0:Int).toNat]? =some [ti x]:=rfl;have D:(enc (y::v))[(0:Int).toNat]? =some [ti y]:=rfl;have w:i64.wrap (0+1)= ((1:Nat):Int):=by decide
    rw [dQ];dsimp only;cases i with
    | nil=>
     have B:¬((1:Nat):Int) < ((([x]:List Int).length:Nat):Int):=by simp
     have d:=Cw (ea:=ea) (eb:=eb) j (by omega) [] v 1 _ c [(aO (aO m x y).2 (aO m x y).1 c).1] rfl rfl (by simp) st.q.ok (st.q.In k) (λz d=>by cases d) (st.q.all λz d=>e z (M4 _ d)) (by have:=st.q.up;simp;omega) rfl;rw [rT] at d;refine ah ?_;rw [vN];simp only [aj,↓reduceIte,Int.reduceBEq,Int.reduceEq,E,F,h0,and_self,aD,C,D,K,L,aU,aT,M6,aS,aQ,w,B,P6];exact d
     | cons x2 i=>
     have B:((1:Nat):Int) < (((x::x2::i).length:Nat):Int):=by simp;omega
     have P:=jT (by have:=st.q.up;omega) (st.q.In o) (st.q.In u);have Q:=jT (by have:=st.r.up;omega) ((fS st.q.ok (st.q.In o) (st.q.In u)).1.In ((na st.p.ok st.pi (st.p.In k)).1.In st.pi)) (st.r.In k);have R:=rQ (by have:=st.s.up;omega) st.rs st.si;obtain⟨S,U⟩:=n9 st.s.ok st.rs st.si;have t:=st.s.trans S;have d:=Cw (ea:=ea) (eb:=eb) j (by rw [Nf];omega) (x2::i) v 1 _ _ [(aO (aO m x y).2 (aO m x y).1 c).1] rfl rfl (by simp) t.ok U (t.all λz d=>f z (M4 _ d)) (t.all λz d=>e z (M4 _ d)) (by have:=t.up;omega) rfl;refine ah ?_;rw [vN];simp only [aj,↓reduceIte,Int.reduceBEq,Int.reduceEq,E,F,h0,and_self,aD,C,D,K,L,P,Q,R,aU,aT,M6,aS,aQ,w,B,P0];exact d
 generalize W:LO (cN M a b).1::cz (cN M a b).2=r at g;refine ah ?_;rw [GQ];simp only [aj,↓reduceIte,Int.reduceBEq,Int.reduceEq,J,aU,aT,M6,aS,aQ,aD];exact g
open Go Go.Aev Go.IntKind
abbrev EP(M:Mk)(acc:List Int):List ab:= [ab.box [o1,o2],ab.rows M.N.isEmpty 5 1 1 M.N.length (rows M.N),ab.mp false [Ck.s] (Ck.i .i64) (cb M.K),ab.sl false 1 false (enc acc)]
def cQ(M:Mk)(a:List Int)(n:Int):Nat->Nat->List Int×Mk
 | _,0=>([],M)
 | i,k+1=>if(i:Int) < n then((bV M false).1:: (cQ (bV M false).2 a n (i+1) k).1,(cQ (bV M false).2 a n (i+1) k).2)
  else(a.getD ((i:Int) - n).toNat 0:: (cQ M a n (i+1) k).1,(cQ M a n (i+1) k).2)
def aW(M:Mk)(a:List Int)(n:Int):List Int×Mk:=cQ M a n 0 a.length
theorem HZ{a:List Int}{P:Int->Prop}(c:∀x∈a,P x){k:Nat}(b:k < a.length):P (a.getD k 0):=by rw [Na,Nc b];exact c _ (Pb b)
theorem wX{a:List Int}{n:Int}(l: 0<=n):∀{k i:Nat} {M:Mk},Ok M->(∀x∈a,In M x)->i+k=a.length->
  Up M (cQ M a n i k).2 k/\(∀x∈(cQ M a n i k).1,In (cQ M a n i k).2 x)/\(cQ M a n i k).1.length=k
 | 0,i,M,h,_,_=>⟨Up.refl h,λx o=>(by cases o),rfl⟩
 | k+1,i,M,h,j,e=>by
  rw [cQ];split
  .obtain⟨d,m⟩:=iq h false;obtain⟨c,f,g⟩:=wX l (k:=k) (i:=i+1) d.ok (d.all j) (by omega);refine⟨(d.trans c).mono (by omega),λz b=> ?_,by simp [g]⟩;rcases Nj.1 b with rfl | b
   .exact c.In m
   .exact f z b
  .obtain⟨c,f,g⟩:=wX l (k:=k) (i:=i+1) h j (by omega);refine⟨c.mono (by omega),λz b=> ?_,by simp [g]⟩;rcases Nj.1 b with rfl | b
   .exact c.In (HZ j (by omega))
   .exact f z b
theorem qW{M:Mk}{a:List Int}{n:Int}(c: 0<=n)(h:Ok M)(b:∀x∈a,In M x):
  Up M (aW M a n).2 a.length/\(∀x∈(aW M a n).1,In (aW M a n).2 x)/\(aW M a n).1.length=a.length:=wX c h b (NF _)
theorem Jy{ea:Bool}{a:List Int}{n:Int}(u: 0<=n)(t:n<=1000)(hl:a.length<=100):∀(k i:Nat) (M:Mk) (acc:List Int),i+k=a.length->Ok M->M.N.length+k<=80000->acc.length=i->
  Or iD [r0,ad ea a,I n,o3,I (a.length:Int),I (i:Int)] (ny M acc)=some (T.ad 1 false (enc (acc++ (cQ M a n i k).1))::cz (cQ M a n i k).2):=by
 intro k;induction k with
 | zero=>
  intro i M acc q h o b;have d:¬(i:Int) < (a.length:Int):=by omega
  refine ah ?_;rw [vQ];simp only [aj,↓reduceIte,Int.reduceBEq,Int.reduceEq,d,aU,aT,M6,aS,aQ,cQ,Nz];rfl
 | succ k g=>
  intro i M acc q h o b;have d:(i:Int) < (a.length:Int):=by omega
  have w:=next i (by omega);have j:bp 8 (acc.length+1)=some ():=cS (by omega);rw [cQ];by_cases e:(i:Int) < n
  .have r:=kE (show M.N.length<=100000 by omega) false;obtain⟨l,v⟩:=iq h false;have c:=g (i+1) _ (acc++ [(bV M false).1]) (by omega) l.ok (by have:=l.up;omega) (by simp [b]);rw [if_pos e];simp only [Nx,ND] at c;refine ah ?_;rw [vQ];simp only [aj,↓reduceIte,Int.reduceBEq,Int.reduceEq,d,e,r,aU,aT,M6,aS,aQ,aD,Nk,j,w,ez];exact c
  .have s:i64.wrap ((i:Int) - n)= (i:Int) - n:=wr (by omega);have m: 0<=(i:Int) - n/\(i:Int) - n < (a.length:Int):=by omega
   have f:((i:Int) - n).toNat < a.length:=by omega
   have p:(enc a)[((i:Int) - n).toNat]? =some [ti (a.getD ((i:Int) - n).toNat 0)]:=by refine eO ?_;rw [Na,Nc f];rfl
   have c:=g (i+1) M (acc++ [a.getD ((i:Int) - n).toNat 0]) (by omega) h (by omega) (by simp [b]);rw [if_neg e];simp only [Nx,ND] at c;refine ah ?_;rw [vQ];simp only [aj,↓reduceIte,Int.reduceBEq,Int.reduceEq,d,e,s,m,and_self,p,aU,aT,M6,aS,aQ,aD,Nk,j,w,ez];exact c
theorem Jz{ea:Bool}{a:List Int}{n:Int}(r: 0<=n)(q:n<=1000)(hl:a.length<=100):∀(k i:Nat) (M:Mk) (acc:List Int),i+k=a.length->n<=(i:Int)->acc.length=i->
  Or iD [r0,ad ea a,I n,o3,I (a.length:Int),I (i:Int)] (EP M acc)=some (T.ad 1 false (enc (acc++ (cQ M a n i k).1))::cz (cQ M a n i k).2):=by
 intro k;induction k with
 | zero=>
  intro i M acc l g b;have d:¬(i:Int) < (a.length:Int):=by omega
  refine ah ?_;rw [Ax];simp only [aj,↓reduceIte,Int.reduceBEq,Int.reduceEq,d,aU,aT,M6,aS,aQ,cQ,Nz];rfl
 | succ k m=>
  intro i M acc l g b;have d:(i:Int) < (a.length:Int):=by omega
  have w:=next i (by omega);have o:bp 8 (acc.length+1)=some ():=cS (by omega);rw [cQ];have c:¬(i:Int) < n:=by omega
  have p:i64.wrap ((i:Int) - n)= (i:Int) - n:=wr (by omega);have h: 0<=(i:Int) - n/\(i:Int) - n < (a.length:Int):=by omega
  have e:((i:Int) - n).toNat < a.length:=by omega
  have j:(enc a)[((i:Int) - n).toNat]? =some [ti (a.getD ((i:Int) - n).toNat 0)]:=by refine eO ?_;rw [Na,Nc e];rfl
  have f:=m (i+1) M (acc++ [a.getD ((i:Int) - n).toNat 0]) (by omega) (by omega) (by simp [b]);rw [if_neg c];simp only [Nx,ND] at f;refine ah ?_;rw [Ax];simp only [aj,↓reduceIte,Int.reduceBEq,Int.reduceEq,d,c,p,h,and_self,j,aU,aT,M6,aS,aQ,aD,Nk,o,w,ez];exact f
theorem xY{M:Mk}(h:Ok M){ea:Bool}{a:List Int}{n:Int}(j: 0<=n)(e:n<=1000)(hl:a.length<=100)(s:M.N.length<=70000):
  Or (.call 72) [r0,ad ea a,I n] (df M)=some (LO (aW M a n).1::cz (aW M a n).2):=by
 have c:Or iD [r0,ad ea a,I n,AV.t (T.af true),I (a.length:Int),I 0] (df M)=some (LO (aW M a n).1::cz (aW M a n).2):=by
  unfold aW;cases a with
  | nil=>refine ah ?_;rw [vP];simp only [aj,↓reduceIte,Int.reduceBEq,Int.reduceEq,aU,aT,M6,aS,aQ,cQ,Nw,NK,NO,decide_false];rfl
  | cons x b=>
   rw [Nf] at hl;have i:(0:Int) < (((x::b).length:Nat):Int):=by simp
   have w:i64.wrap (0+1)= ((1:Nat):Int):=by decide
   rw [show cQ M (x::b) n 0 (x::b).length=cQ M (x::b) n 0 (b.length+1) from rfl,cQ];by_cases f:(0:Int) < n
   .have p:=kE (show M.N.length<=100000 by omega) false;obtain⟨k,v⟩:=iq h false;have g:=Jy (ea:=ea) (a:=x::b) j e (by rw [Nf];omega) b.length 1 _ [(bV M false).1] (by rw [Nf];omega) k.ok (by have:=k.up;omega) rfl;have d:((0:Nat):Int) < n:=f;rw [if_pos d];refine ah ?_;rw [vP];simp only [aj,↓reduceIte,Int.reduceBEq,Int.reduceEq,i,f,p,aU,aT,M6,aS,aQ,w];exact g
   .have l:n=0:=by omega
    subst l;have q:i64.wrap (0 - 0)=0:=by decide
    have m:(0:Int)<=0:=by omega
    have o:(enc (x::b))[(0:Int).toNat]? =some [ti x]:=rfl;have g:=Jz (ea:=ea) (a:=x::b) (n:=0) j e (by rw [Nf];omega) b.length 1 M [x] (by rw [Nf];omega) (by omega) rfl;have d:¬((0:Nat):Int) < 0:=by omega
    rw [if_neg d];refine ah ?_;rw [vP];simp only [aj,↓reduceIte,Int.reduceBEq,Int.reduceEq,i,f,q,m,and_self,o,aD,aU,aT,M6,aS,aQ,w];exact g
 generalize u:LO (aW M a n).1::cz (aW M a n).2=r at c;refine ah ?_;rw [GV];simp only [aj,↓reduceIte,Int.reduceBEq,Int.reduceEq,aU,aT,M6,aS,aQ,aD];exact c
def bU(M:Mk)(x:Int):List Int->List Int×Mk
 | y::l=>((bc M x y).1:: (bU (bc M x y).2 x l).1,(bU (bc M x y).2 x l).2)
 | []=>([],M)
def fy(M:Mk)(a out:List Int):Nat->List Int->List Int×Mk
 | i,x::b=>
  let l:=aW M a (i:Int);let p:=bU l.2 x l.1;let s:=cN p.2 out p.1
  fy s.2 a s.1 (i+1) b
 | _,[]=>(out,M)
def gy(M:Mk)(a b:List Int):List Int×Mk:=fy (aW M a (a.length:Int)).2 a (aW M a (a.length:Int)).1 0 b
theorem C3{x:Int}:∀{l:List Int} {M:Mk},Ok M->In M x->(∀y∈l,In M y)->
  Up M (bU M x l).2 l.length/\(∀y∈(bU M x l).1,In (bU M x l).2 y)/\(bU M x l).1.length=l.length
 | [],M,h,_,_=>⟨Up.refl h,λx c=>(by cases c),rfl⟩
 | y::l,M,h,c,hl=>by
  obtain⟨b,e⟩:=fS h c (hl y M3);obtain⟨d,f,g⟩:=C3 (l:=l) b.ok (b.In c) (b.all λz a=>hl z (M4 _ a));refine⟨(b.trans d).mono (by rw [Nf];omega),λz a=> ?_,by simp [bU,g]⟩;rcases Nj.1 a with rfl | a
  .exact d.In e
  .exact f z a
structure ET (M:Mk) (a out:List Int) (i:Nat) (x:Int):Prop where
 l:Up M (aW M a (i:Int)).2 a.length
 li:∀y∈(aW M a (i:Int)).1,In (aW M a (i:Int)).2 y
 ll:(aW M a (i:Int)).1.length=a.length
 p:Up M (bU (aW M a (i:Int)).2 x (aW M a (i:Int)).1).2 (2 * a.length)
 pi:∀y∈(bU (aW M a (i:Int)).2 x (aW M a (i:Int)).1).1,In (bU (aW M a (i:Int)).2 x (aW M a (i:Int)).1).2 y
 pl:(bU (aW M a (i:Int)).2 x (aW M a (i:Int)).1).1.length=a.length
 s:Up M (cN (bU (aW M a (i:Int)).2 x (aW M a (i:Int)).1).2 out (bU (aW M a (i:Int)).2 x (aW M a (i:Int)).1).1).2 (9 * a.length+1)
 si:∀y∈(cN (bU (aW M a (i:Int)).2 x (aW M a (i:Int)).1).2 out (bU (aW M a (i:Int)).2 x (aW M a (i:Int)).1).1).1,In (cN (bU (aW M a (i:Int)).2 x (aW M a (i:Int)).1).2 out (bU (aW M a (i:Int)).2 x (aW M a (i:Int)).1).1).2 y
 sl:(cN (bU (aW M a (i:Int)).2 x (aW M a (i:Int)).1).2 out (bU (aW M a (i:Int)).2 x (aW M a (i:Int)).1).1).1.length=a.length
theorem Ey{M:Mk}(h:Ok M){a out:List Int}(m:∀y∈a,In M y)(ho:∀y∈out,In M y)(c:out.length=a.length)(i:Nat){x:Int}(o:In M x):ET M a out i x:=by obtain⟨b,e,f⟩:=qW (n:=(i:Int)) (by omega) h m;obtain⟨g,j,d⟩:=C3 b.ok (b.In o) e;rw [f] at g d;have p:=(b.trans g).mono (show a.length+a.length<=2 * a.length by omega);obtain⟨k,q,l⟩:=Ek p.ok (p.all ho) j (by rw [c,d]);rw [c] at k l;exact⟨b,e,f,p,j,d,(p.trans k).mono (by omega),q,l⟩
theorem Ew{a:List Int}:∀{b:List Int} {i:Nat} {M:Mk} {out:List Int},Ok M->(∀y∈a,In M y)->(∀y∈b,In M y)->(∀y∈out,In M y)->out.length=a.length->
  Up M (fy M a out i b).2 ((9 * a.length+1) * b.length)/\(∀y∈(fy M a out i b).1,In (fy M a out i b).2 y)/\(fy M a out i b).1.length=a.length
 | [],i,M,out,h,_,_,ho,hl=>⟨(Up.refl h).mono (by omega),ho,hl⟩
 | x::b,i,M,out,h,c,d,ho,hl=>by have st:=Ey h c ho hl i (d x M3);obtain⟨e,f,g⟩:=Ew (a:=a) (b:=b) (i:=i+1) st.s.ok (st.s.all c) (st.s.all λz j=>d z (M4 _ j)) st.si st.sl;exact⟨(st.s.trans e).mono (by rw [Nf,P9];omega),f,g⟩
theorem Mv{M:Mk}(h:Ok M){a b:List Int}(d:∀y∈a,In M y)(j:∀y∈b,In M y):
  Up M (gy M a b).2 (a.length+ (9 * a.length+1) * b.length)/\(∀y∈(gy M a b).1,In (gy M a b).2 y)/\(gy M a b).1.length=a.length:=by
 obtain⟨c,k,l⟩:=qW (n:=(a.length:Int)) (by omega) h d;obtain⟨e,f,g⟩:=Ew (a:=a) (b:=b) (i:=0) c.ok (c.all d) (c.all j) k l;exact⟨c.trans e,f,g⟩
theorem Jx{ea eo eb el:Bool}{a out b l:List Int}{x:Int}{i:Nat}(hl:l.length<=100)(D:out.length=l.length)(F:i<=100){r:List T}:∀(rl:List Int) (j:Nat) (M:Mk) (acc:List Int),l.drop j=rl->j<=l.length->Ok M->In M x->(∀y∈rl,In M y)->(∀y∈out,In M y)->(∀y∈acc,In M y)->M.N.length+rl.length<=60000->acc.length=j->
  Or oE [r0,ad ea a,ad (cN (bU M x rl).2 out (acc++ (bU M x rl).1)).1.isEmpty (cN (bU M x rl).2 out (acc++ (bU M x rl).1)).1,ad eb b,I (b.length:Int),I ((i+1:Nat):Int)] (qh (cN (bU M x rl).2 out (acc++ (bU M x rl).1)).2)=some r->
  Or nw [r0,ad ea a,ad eo out,I x,o3,ad eb b,I (b.length:Int),I (i:Int),ad el l,I (l.length:Int),I (j:Int)] (ny M acc)=some r:=by
 intro rl;induction rl with
 | nil=>
  intro j M acc k v h m hrl ho c p n e;have o:¬(j:Int) < (l.length:Int):=by have:=bx k;omega
  have C:j=l.length:=by have:=bx k;omega
  rw [bU,Nz] at e;have q:=DV (ea:=eo) (eb:=false) h (a:=out) (b:=acc) (by omega) (by omega) ho c (by simp at p;omega);refine ah ?_;rw [Aw];simp only [aj,↓reduceIte,Int.reduceBEq,Int.reduceEq,o,q,aU,aT,M6,aS,aQ,cB,next i (by omega)];exact e
 | cons y rl w=>
  intro j M acc k v h m hrl ho c p n e;obtain⟨t,E,u⟩:=bz k;have o:(j:Int) < (l.length:Int):=by omega
  have h0: 0<=(j:Int):=by omega
  have s:=hrl y M3;rw [Nf] at p;have q:=jT (show M.N.length<=100000 by omega) m s;obtain⟨d,B⟩:=fS h m s;have A:bp 8 (acc.length+1)=some ():=cS (by omega);have f:=w (j+1) _ (acc++ [(bc M x y).1]) u (by omega) d.ok (d.In m) (d.all λz f=>hrl z (M4 _ f)) (d.all ho) (λz f=> ?_) (by have:=d.up;omega) (by simp [n]) (by
   rw [bU] at e;simpa only [Nx,ND] using e)
  .refine ah ?_;rw [Aw];simp only [aj,↓reduceIte,Int.reduceBEq,Int.reduceEq,o,h0,and_self,aD,bC t,q,aU,aT,M6,aS,aQ,Nk,A,next j (by omega),ez];exact f
  .rcases Nq.1 f with g | g
   .exact d.In (c z g)
   .simp only [Ng] at g;subst g;exact B
theorem Jw{ea eb:Bool}{a b:List Int}(V: 1<=a.length)(hl:a.length<=8)(W:b.length<=8):∀(c:List Int) (i:Nat) (M:Mk) (out:List Int),b.drop i=c->i<=b.length->Ok M->(∀y∈a,In M y)->(∀y∈c,In M y)->(∀y∈out,In M y)->out.length=a.length->M.N.length+100 * c.length<=50000->
  Or oE [r0,ad ea a,ad out.isEmpty out,ad eb b,I (b.length:Int),I (i:Int)] (qh M)=some (T.ad 1 (fy M a out i c).1.isEmpty (enc (fy M a out i c).1)::cz (fy M a out i c).2):=by
 intro c;induction c with
 | nil=>
  intro i M out q L h j u ho o v;have r:¬(i:Int) < (b.length:Int):=by have:=bx q;omega
  rw [fy];refine ah ?_;rw [Av];simp only [aj,↓reduceIte,Int.reduceBEq,Int.reduceEq,r,aU,aT,M6,aS,aQ];rfl
 | cons x c P=>
  intro i M out q L h j u ho o v;obtain⟨E,X,F⟩:=bz q;have r:(i:Int) < (b.length:Int):=by omega
  have h0: 0<=(i:Int):=by omega
  have C:=u x M3;rw [Nf] at v;have st:=Ey h j ho o i C;have Q:=xY (ea:=ea) h (a:=a) (n:=(i:Int)) h0 (by omega) (by omega) (by omega);rw [fy];have d:=P (i+1) _ _ F (by omega) st.s.ok (st.s.all j) (st.s.all λz d=>u z (M4 _ d)) st.si st.sl (by have:=st.s.up;omega)
  have A:Or nw [r0,ad ea a,ad out.isEmpty out,I x,AV.t (T.af true),ad eb b,I (b.length:Int),I (i:Int),ad (aW M a (i:Int)).1.isEmpty (aW M a (i:Int)).1,I ((aW M a (i:Int)).1.length:Int),I 0] (qh (aW M a (i:Int)).2)=
    some (T.ad 1 (fy (cN (bU (aW M a (i:Int)).2 x (aW M a (i:Int)).1).2 out (bU (aW M a (i:Int)).2 x (aW M a (i:Int)).1).1).2 a (cN (bU (aW M a (i:Int)).2 x (aW M a (i:Int)).1).2 out (bU (aW M a (i:Int)).2 x (aW M a (i:Int)).1).1).1 (i+1) c).1.isEmpty (enc (fy (cN (bU (aW M a (i:Int)).2 x (aW M a (i:Int)).1).2 out (bU (aW M a (i:Int)).2 x (aW M a (i:Int)).1).1).2 a (cN (bU (aW M a (i:Int)).2 x (aW M a (i:Int)).1).2 out (bU (aW M a (i:Int)).2 x (aW M a (i:Int)).1).1).1 (i+1) c).1)::
     cz (fy (cN (bU (aW M a (i:Int)).2 x (aW M a (i:Int)).1).2 out (bU (aW M a (i:Int)).2 x (aW M a (i:Int)).1).1).2 a (cN (bU (aW M a (i:Int)).2 x (aW M a (i:Int)).1).2 out (bU (aW M a (i:Int)).2 x (aW M a (i:Int)).1).1).1 (i+1) c).2):=by
   obtain⟨e,k,m⟩:=qW (n:=(i:Int)) (by omega) h j;revert d e k m;generalize (aW M a (i:Int)).1=l;generalize (aW M a (i:Int)).2=p;intro d e k m;have U:p.N.length<=50010:=by have:=e.up;omega
   have f:=e.In C;have B:=e.all ho;have G:=e.ok;cases l with
   | nil=>rw [Nw] at m;omega
   | cons y rl=>
    rw [Nf] at m;have D:=k y M3;have R:=jT (show p.N.length<=100000 by omega) f D;obtain⟨g,S⟩:=fS G f D;have H:(0:Int) < (((y::rl).length:Nat):Int):=by simp
    have J:(0:Int)<=0:=by omega
    have K:(enc (y::rl))[(0:Int).toNat]? =some [ti y]:=rfl;have w:i64.wrap (0+1)= ((1:Nat):Int):=by decide
    have O:=Jx (ea:=ea) (eo:=out.isEmpty) (eb:=eb) (el:=false) (a:=a) (out:=out) (b:=b) (l:=y::rl) (x:=x) (i:=i) (by rw [Nf];omega) (by rw [Nf];omega) (by omega) rl 1 _ [(bc p x y).1] rfl (by simp) g.ok (g.In f) (g.all λz d=>k z (M4 _ d)) (g.all B) (λz d=>by simp only [Ng] at d;subst d;exact S) (by have:=g.up;omega) rfl d;refine ah ?_;rw [GU];simp only [aj,↓reduceIte,Int.reduceBEq,Int.reduceEq,H,J,and_self,aD,K,R,aU,aT,M6,aS,aQ,w,P0];exact O
  refine ah ?_;rw [Av];simp only [aj,↓reduceIte,Int.reduceBEq,Int.reduceEq,r,h0,and_self,aD,bC E,Q,aU,aT,M6,aS,aQ,cB];exact A
theorem Lj{M:Mk}(h:Ok M){ea eb:Bool}{a b:List Int}(e: 1<=a.length)(hl:a.length<=8)(f:b.length<=8)(d:∀y∈a,In M y)(g:∀y∈b,In M y)(m:M.N.length<=40000):
  Or (.call 71) [r0,ad ea a,ad eb b] (df M)=some (T.ad 1 (gy M a b).1.isEmpty (enc (gy M a b).1)::cz (gy M a b).2):=by
 have j:=xY (ea:=ea) h (a:=a) (n:=(a.length:Int)) (by omega) (by omega) (by omega) (by omega);obtain⟨c,k,l⟩:=qW (n:=(a.length:Int)) (by omega) h d;have i:=Jw (ea:=ea) (eb:=eb) e hl f b 0 _ _ rfl (by omega) c.ok (c.all d) (c.all g) k l (by have:=c.up;omega);unfold gy;refine ah ?_;rw [GS];simp only [aj,↓reduceIte,Int.reduceBEq,Int.reduceEq,j,aU,aT,M6,aS,aQ,cB,aD];exact i
def eR(M:Mk)(c:Int):List Int->List Int->Int×Mk
 | x::a,y::b=>
  let n:=bR M x;let p:=bc n.2 n.1 y;let q:=bY p.2 x y;let s:=bc q.2 q.1 c;let t:=cY s.2 p.1 s.1
  eR t.2 t.1 a b
 | _,_=>(c,M)
def iP(M:Mk)(a b:List Int):Int×Mk:=eR (bV M false).2 (bV M false).1 a b
theorem Iu(M:Mk)(c:Int)(b:List Int):eR M c [] b= (c,M):=by simp [eR]
theorem JA{ea eb:Bool}{a b:List Int}(hab:a.length=b.length)(hl:a.length<=100):∀(d e:List Int) (i:Nat) (M:Mk) (c:Int),a.drop i=d->b.drop i=e->i<=a.length->Ok M->In M c->(∀x∈d,In M x)->(∀x∈e,In M x)->M.N.length+5 * d.length<=80000->
  Or uR [r0,ad ea a,ad eb b,I c,I (a.length:Int),I (i:Int)] (qh M)=some (ti (eR M c d e).1::cz (eR M c d e).2)/\Up M (eR M c d e).2 (5 * d.length)/\In (eR M c d e).2 (eR M c d e).1:=by
 intro d;induction d with
 | nil=>
  intro e i M c l m L h g o r A;have n:¬(i:Int) < (a.length:Int):=by have:=bx l;omega
  rw [Iu];refine⟨ah ?_,Up.refl h,g⟩;rw [Ay];simp only [aj,↓reduceIte,Int.reduceBEq,Int.reduceEq,n,aU,aT,M6,aS,aQ];rfl
 | cons x d O=>
  intro e i M c l m L h g o r A;obtain⟨F,g2,G⟩:=bz l;cases e with
  | nil=>exact absurd (bx m) (by omega)
  | cons y e=>
   obtain⟨H,g5,J⟩:=bz m;have n:(i:Int) < (a.length:Int):=by omega
   have K:(i:Int) < (b.length:Int):=by omega
   have h0: 0<=(i:Int):=by omega
   have j:=o x M3;have k:=r y M3;rw [Nf] at A;obtain⟨f,B⟩:=n7 h j;obtain⟨U,C⟩:=fS f.ok B (f.In k);have p:=f.trans U;obtain⟨v,D⟩:=nV p.ok (p.In j) (p.In k);have q:=p.trans v;obtain⟨w,E⟩:=fS q.ok D (q.In g);have s:=q.trans w;obtain⟨V,W⟩:=n9 s.ok ((v.trans w).In C) E;have t:=s.trans V;have P:=pS h (by omega) j;have Q:=jT (by have:=f.up;omega) B (f.In k);have R:=uv p.ok (by have:=p.up;omega) (p.In j) (p.In k);have S:=jT (by have:=q.up;omega) D (q.In g);have T:=rQ (by have:=s.up;omega) ((v.trans w).In C) E;obtain⟨X,Y,Z⟩:=O e (i+1) _ _ G J (by omega) t.ok W (t.all λz u=>o z (M4 _ u)) (t.all λz u=>r z (M4 _ u)) (by have:=t.up;omega);rw [eR];refine⟨ah ?_,(t.trans Y).mono (by rw [Nf];omega),Z⟩;rw [Ay];simp only [aj,↓reduceIte,Int.reduceBEq,Int.reduceEq,n,K,h0,and_self,aD,bC F,bC H,P,Q,R,S,T,aU,aT,M6,aS,aQ,next i (by omega)];exact X
theorem DW{M:Mk}(h:Ok M){ea eb:Bool}{a b:List Int}(d:a.length=b.length)(hl:a.length<=100)(e:∀x∈a,In M x)(f:∀x∈b,In M x)(m:M.N.length<=70000):
  Or (.call 73) [r0,ad ea a,ad eb b] (df M)=some (ti (iP M a b).1::cz (iP M a b).2)/\Up M (iP M a b).2 (1+5 * a.length)/\In (iP M a b).2 (iP M a b).1:=by
 have g:=kE (show M.N.length<=100000 by omega) false;obtain⟨c,i⟩:=iq h false;obtain⟨j,k,l⟩:=JA (ea:=ea) (eb:=eb) d hl a b 0 _ _ rfl rfl (by omega) c.ok i (c.all e) (c.all f) (by have:=c.up;omega);unfold iP;refine⟨ah ?_,c.trans k,l⟩;rw [GW];simp only [aj,↓reduceIte,Int.reduceBEq,Int.reduceEq,g,aU,aT,M6,aS,aQ,aD];exact j
theorem Js{ea eb:Bool}{a b:List Int}(D:a.length=b.length)(hl:a.length<=100):∀(d c:List Int) (i:Nat) (M:Mk) (acc:List Int),a.drop i=d->b.drop i=c->i<=a.length->Ok M->(∀x∈d,In M x)->(∀x∈c,In M x)->M.N.length+2 * d.length<=80000->acc.length=i->
  Or dJ [ad ea a,ad eb b,AV.fn 67 [r0] [],o3,I (a.length:Int),I (i:Int)] (ny M acc)=some (T.ad 1 false (enc (acc++ (aK bc M d c).1))::cz (aK bc M d c).2):=by
 intro d;induction d with
 | nil=>
  intro c i M acc j k w h m n o f;have l:¬(i:Int) < (a.length:Int):=by have:=bx j;omega
  refine ah ?_;rw [Ar];simp only [aj,↓reduceIte,Int.reduceBEq,Int.reduceEq,l,aU,aT,M6,aS,aQ,aK,Nz];rfl
 | cons x d A=>
  intro c i M acc j k w h m n o f;obtain⟨r,E,s⟩:=bz j;cases c with
  | nil=>exact absurd (bx k) (by omega)
  | cons y c=>
   obtain⟨t,F,u⟩:=bz k;have l:(i:Int) < (a.length:Int):=by omega
   have v:(i:Int) < (b.length:Int):=by omega
   have h0: 0<=(i:Int):=by omega
   have p:=m x M3;have q:=n y M3;rw [Nf] at o;have B:=jT (show M.N.length<=100000 by omega) p q;obtain⟨g,G⟩:=fS h p q;have C:bp 8 (acc.length+1)=some ():=cS (by omega);have e:=A c (i+1) _ (acc++ [(bc M x y).1]) s u (by omega) g.ok (g.all λz e=>m z (M4 _ e)) (g.all λz e=>n z (M4 _ e)) (by have:=g.up;omega) (by simp [f]);simp only [Nx,ND] at e;rw [aK];refine ah ?_;rw [Ar];simp only [aj,↓reduceIte,Int.reduceBEq,Int.reduceEq,l,v,h0,and_self,aD,bC r,bC t,B,aU,aT,M6,aS,aQ,Nk,C,next i (by omega),ez];exact e
theorem Lf{M:Mk}(h:Ok M){ea eb:Bool}{a b:List Int}(f:a.length=b.length)(hl:a.length<=100)(j:∀x∈a,In M x)(k:∀x∈b,In M x)(v:M.N.length<=70000):
  Or (.call 63) [ad ea a,ad eb b,AV.fn 67 [r0] []] (df M)=some (LO (aK bc M a b).1::cz (aK bc M a b).2):=by
 have c:Or dJ [ad ea a,ad eb b,AV.fn 67 [r0] [],AV.t (T.af true),I (a.length:Int),I 0] (df M)=some (LO (aK bc M a b).1::cz (aK bc M a b).2):=by
  cases a with
  | nil=>refine ah ?_;rw [Al];simp only [aj,↓reduceIte,Int.reduceBEq,Int.reduceEq,aU,aT,M6,aS,aQ,aK,Nw,NK,NO,decide_false];rfl
  | cons x g=>
   cases b with
   | nil=>cases f
   | cons y i=>
    have m:=j x M3;have n:=k y M3;have u:=jT (show M.N.length<=100000 by omega) m n;obtain⟨e,B⟩:=fS h m n;have q:(0:Int) < (((x::g).length:Nat):Int):=by simp
    have s:(0:Int) < (((y::i).length:Nat):Int):=by simp
    have h0:(0:Int)<=0:=by omega
    have o:(enc (x::g))[(0:Int).toNat]? =some [ti x]:=rfl;have p:(enc (y::i))[(0:Int).toNat]? =some [ti y]:=rfl;have w:i64.wrap (0+1)= ((1:Nat):Int):=by decide
    have l:=hl;rw [Nf] at l;have d:=Js (ea:=ea) (eb:=eb) f hl g i 1 _ [(bc M x y).1] rfl rfl (by simp) e.ok (e.all λz d=>j z (M4 _ d)) (e.all λz d=>k z (M4 _ d)) (by have:=e.up;omega) rfl;rw [aK];refine ah ?_;rw [Al];simp only [aj,↓reduceIte,Int.reduceBEq,Int.reduceEq,q,s,h0,and_self,aD,o,p,u,aU,aT,M6,aS,aQ,w];exact d
 generalize A:LO (aK bc M a b).1::cz (aK bc M a b).2=r at c;refine ah ?_;rw [GF];simp only [aj,↓reduceIte,Int.reduceBEq,Int.reduceEq,aU,aT,M6,aS,aQ,aD];exact c
theorem Jt{ea eb:Bool}{a b:List Int}(D:a.length=b.length)(hl:a.length<=100):∀(d c:List Int) (i:Nat) (M:Mk) (acc:List Int),a.drop i=d->b.drop i=c->i<=a.length->Ok M->(∀x∈d,In M x)->(∀x∈c,In M x)->M.N.length+2 * d.length<=80000->acc.length=i->
  Or dJ [ad ea a,ad eb b,AV.fn 68 [r0] [],o3,I (a.length:Int),I (i:Int)] (ny M acc)=some (T.ad 1 false (enc (acc++ (aK cY M d c).1))::cz (aK cY M d c).2):=by
 intro d;induction d with
 | nil=>
  intro c i M acc j k w h m n o f;have l:¬(i:Int) < (a.length:Int):=by have:=bx j;omega
  refine ah ?_;rw [At];simp only [aj,↓reduceIte,Int.reduceBEq,Int.reduceEq,l,aU,aT,M6,aS,aQ,aK,Nz];rfl
 | cons x d A=>
  intro c i M acc j k w h m n o f;obtain⟨r,E,s⟩:=bz j;cases c with
  | nil=>exact absurd (bx k) (by omega)
  | cons y c=>
   obtain⟨t,F,u⟩:=bz k;have l:(i:Int) < (a.length:Int):=by omega
   have v:(i:Int) < (b.length:Int):=by omega
   have h0: 0<=(i:Int):=by omega
   have p:=m x M3;have q:=n y M3;rw [Nf] at o;have B:=rQ (show M.N.length<=100000 by omega) p q;obtain⟨g,G⟩:=n9 h p q;have C:bp 8 (acc.length+1)=some ():=cS (by omega);have e:=A c (i+1) _ (acc++ [(cY M x y).1]) s u (by omega) g.ok (g.all λz e=>m z (M4 _ e)) (g.all λz e=>n z (M4 _ e)) (by have:=g.up;omega) (by simp [f]);simp only [Nx,ND] at e;rw [aK];refine ah ?_;rw [At];simp only [aj,↓reduceIte,Int.reduceBEq,Int.reduceEq,l,v,h0,and_self,aD,bC r,bC t,B,aU,aT,M6,aS,aQ,Nk,C,next i (by omega),ez];exact e
theorem Lg{M:Mk}(h:Ok M){ea eb:Bool}{a b:List Int}(f:a.length=b.length)(hl:a.length<=100)(j:∀x∈a,In M x)(k:∀x∈b,In M x)(v:M.N.length<=70000):
  Or (.call 63) [ad ea a,ad eb b,AV.fn 68 [r0] []] (df M)=some (LO (aK cY M a b).1::cz (aK cY M a b).2):=by
 have c:Or dJ [ad ea a,ad eb b,AV.fn 68 [r0] [],AV.t (T.af true),I (a.length:Int),I 0] (df M)=some (LO (aK cY M a b).1::cz (aK cY M a b).2):=by
  cases a with
  | nil=>refine ah ?_;rw [Am];simp only [aj,↓reduceIte,Int.reduceBEq,Int.reduceEq,aU,aT,M6,aS,aQ,aK,Nw,NK,NO,decide_false];rfl
  | cons x g=>
   cases b with
   | nil=>cases f
   | cons y i=>
    have m:=j x M3;have n:=k y M3;have u:=rQ (show M.N.length<=100000 by omega) m n;obtain⟨e,B⟩:=n9 h m n;have q:(0:Int) < (((x::g).length:Nat):Int):=by simp
    have s:(0:Int) < (((y::i).length:Nat):Int):=by simp
    have h0:(0:Int)<=0:=by omega
    have o:(enc (x::g))[(0:Int).toNat]? =some [ti x]:=rfl;have p:(enc (y::i))[(0:Int).toNat]? =some [ti y]:=rfl;have w:i64.wrap (0+1)= ((1:Nat):Int):=by decide
    have l:=hl;rw [Nf] at l;have d:=Jt (ea:=ea) (eb:=eb) f hl g i 1 _ [(cY M x y).1] rfl rfl (by simp) e.ok (e.all λz d=>j z (M4 _ d)) (e.all λz d=>k z (M4 _ d)) (by have:=e.up;omega) rfl;rw [aK];refine ah ?_;rw [Am];simp only [aj,↓reduceIte,Int.reduceBEq,Int.reduceEq,q,s,h0,and_self,aD,o,p,u,aU,aT,M6,aS,aQ,w];exact d
 generalize A:LO (aK cY M a b).1::cz (aK cY M a b).2=r at c;refine ah ?_;rw [GG];simp only [aj,↓reduceIte,Int.reduceBEq,Int.reduceEq,aU,aT,M6,aS,aQ,aD];exact c
theorem Ju{ea eb:Bool}{a b:List Int}(D:a.length=b.length)(hl:a.length<=100):∀(d c:List Int) (i:Nat) (M:Mk) (acc:List Int),a.drop i=d->b.drop i=c->i<=a.length->Ok M->(∀x∈d,In M x)->(∀x∈c,In M x)->M.N.length+2 * d.length<=80000->acc.length=i->
  Or dJ [ad ea a,ad eb b,AV.fn 69 [r0] [],o3,I (a.length:Int),I (i:Int)] (ny M acc)=some (T.ad 1 false (enc (acc++ (aK aO M d c).1))::cz (aK aO M d c).2):=by
 intro d;induction d with
 | nil=>
  intro c i M acc j k w h m n o f;have l:¬(i:Int) < (a.length:Int):=by have:=bx j;omega
  refine ah ?_;rw [Au];simp only [aj,↓reduceIte,Int.reduceBEq,Int.reduceEq,l,aU,aT,M6,aS,aQ,aK,Nz];rfl
 | cons x d A=>
  intro c i M acc j k w h m n o f;obtain⟨r,E,s⟩:=bz j;cases c with
  | nil=>exact absurd (bx k) (by omega)
  | cons y c=>
   obtain⟨t,F,u⟩:=bz k;have l:(i:Int) < (a.length:Int):=by omega
   have v:(i:Int) < (b.length:Int):=by omega
   have h0: 0<=(i:Int):=by omega
   have p:=m x M3;have q:=n y M3;rw [Nf] at o;have B:=pT h (by omega) p q;obtain⟨g,G⟩:=na h p q;have C:bp 8 (acc.length+1)=some ():=cS (by omega);have e:=A c (i+1) _ (acc++ [(aO M x y).1]) s u (by omega) g.ok (g.all λz e=>m z (M4 _ e)) (g.all λz e=>n z (M4 _ e)) (by have:=g.up;omega) (by simp [f]);simp only [Nx,ND] at e;rw [aK];refine ah ?_;rw [Au];simp only [aj,↓reduceIte,Int.reduceBEq,Int.reduceEq,l,v,h0,and_self,aD,bC r,bC t,B,aU,aT,M6,aS,aQ,Nk,C,next i (by omega),ez];exact e
theorem Lh{M:Mk}(h:Ok M){ea eb:Bool}{a b:List Int}(f:a.length=b.length)(hl:a.length<=100)(j:∀x∈a,In M x)(k:∀x∈b,In M x)(v:M.N.length<=70000):
  Or (.call 63) [ad ea a,ad eb b,AV.fn 69 [r0] []] (df M)=some (LO (aK aO M a b).1::cz (aK aO M a b).2):=by
 have c:Or dJ [ad ea a,ad eb b,AV.fn 69 [r0] [],AV.t (T.af true),I (a.length:Int),I 0] (df M)=some (LO (aK aO M a b).1::cz (aK aO M a b).2):=by
  cases a with
  | nil=>refine ah ?_;rw [Ao];simp only [aj,↓reduceIte,Int.reduceBEq,Int.reduceEq,aU,aT,M6,aS,aQ,aK,Nw,NK,NO,decide_false];rfl
  | cons x g=>
   cases b with
   | nil=>cases f
   | cons y i=>
    have m:=j x M3;have n:=k y M3;have u:=pT h (by omega) m n;obtain⟨e,B⟩:=na h m n;have q:(0:Int) < (((x::g).length:Nat):Int):=by simp
    have s:(0:Int) < (((y::i).length:Nat):Int):=by simp
    have h0:(0:Int)<=0:=by omega
    have o:(enc (x::g))[(0:Int).toNat]? =some [ti x]:=rfl;have p:(enc (y::i))[(0:Int).toNat]? =some [ti y]:=rfl;have w:i64.wrap (0+1)= ((1:Nat):Int):=by decide
    have l:=hl;rw [Nf] at l;have d:=Ju (ea:=ea) (eb:=eb) f hl g i 1 _ [(aO M x y).1] rfl rfl (by simp) e.ok (e.all λz d=>j z (M4 _ d)) (e.all λz d=>k z (M4 _ d)) (by have:=e.up;omega) rfl;rw [aK];refine ah ?_;rw [Ao];simp only [aj,↓reduceIte,Int.reduceBEq,Int.reduceEq,q,s,h0,and_self,aD,o,p,u,aU,aT,M6,aS,aQ,w];exact d
 generalize A:LO (aK aO M a b).1::cz (aK aO M a b).2=r at c;refine ah ?_;rw [GH];simp only [aj,↓reduceIte,Int.reduceBEq,Int.reduceEq,aU,aT,M6,aS,aQ,aD];exact c
theorem Jv{ea eb:Bool}{a b:List Int}(D:a.length=b.length)(hl:a.length<=100):∀(d c:List Int) (i:Nat) (M:Mk) (acc:List Int),a.drop i=d->b.drop i=c->i<=a.length->Ok M->(∀x∈d,In M x)->(∀x∈c,In M x)->M.N.length+2 * d.length<=80000->acc.length=i->
  Or dJ [ad ea a,ad eb b,AV.fn 74 [r0] [],o3,I (a.length:Int),I (i:Int)] (ny M acc)=some (T.ad 1 false (enc (acc++ (aK bY M d c).1))::cz (aK bY M d c).2):=by
 intro d;induction d with
 | nil=>
  intro c i M acc j k w h m n o f;have l:¬(i:Int) < (a.length:Int):=by have:=bx j;omega
  refine ah ?_;rw [Ak];simp only [aj,↓reduceIte,Int.reduceBEq,Int.reduceEq,l,aU,aT,M6,aS,aQ,aK,Nz];rfl
 | cons x d A=>
  intro c i M acc j k w h m n o f;obtain⟨r,E,s⟩:=bz j;cases c with
  | nil=>exact absurd (bx k) (by omega)
  | cons y c=>
   obtain⟨t,F,u⟩:=bz k;have l:(i:Int) < (a.length:Int):=by omega
   have v:(i:Int) < (b.length:Int):=by omega
   have h0: 0<=(i:Int):=by omega
   have p:=m x M3;have q:=n y M3;rw [Nf] at o;have B:=uv h (by omega) p q;obtain⟨g,G⟩:=nV h p q;have C:bp 8 (acc.length+1)=some ():=cS (by omega);have e:=A c (i+1) _ (acc++ [(bY M x y).1]) s u (by omega) g.ok (g.all λz e=>m z (M4 _ e)) (g.all λz e=>n z (M4 _ e)) (by have:=g.up;omega) (by simp [f]);simp only [Nx,ND] at e;rw [aK];refine ah ?_;rw [Ak];simp only [aj,↓reduceIte,Int.reduceBEq,Int.reduceEq,l,v,h0,and_self,aD,bC r,bC t,B,aU,aT,M6,aS,aQ,Nk,C,next i (by omega),ez];exact e
theorem Li{M:Mk}(h:Ok M){ea eb:Bool}{a b:List Int}(f:a.length=b.length)(hl:a.length<=100)(j:∀x∈a,In M x)(k:∀x∈b,In M x)(v:M.N.length<=70000):
  Or (.call 63) [ad ea a,ad eb b,AV.fn 74 [r0] []] (df M)=some (LO (aK bY M a b).1::cz (aK bY M a b).2):=by
 have c:Or dJ [ad ea a,ad eb b,AV.fn 74 [r0] [],AV.t (T.af true),I (a.length:Int),I 0] (df M)=some (LO (aK bY M a b).1::cz (aK bY M a b).2):=by
  cases a with
  | nil=>refine ah ?_;rw [Ap];simp only [aj,↓reduceIte,Int.reduceBEq,Int.reduceEq,aU,aT,M6,aS,aQ,aK,Nw,NK,NO,decide_false];rfl
  | cons x g=>
   cases b with
   | nil=>cases f
   | cons y i=>
    have m:=j x M3;have n:=k y M3;have u:=uv h (by omega) m n;obtain⟨e,B⟩:=nV h m n;have q:(0:Int) < (((x::g).length:Nat):Int):=by simp
    have s:(0:Int) < (((y::i).length:Nat):Int):=by simp
    have h0:(0:Int)<=0:=by omega
    have o:(enc (x::g))[(0:Int).toNat]? =some [ti x]:=rfl;have p:(enc (y::i))[(0:Int).toNat]? =some [ti y]:=rfl;have w:i64.wrap (0+1)= ((1:Nat):Int):=by decide
    have l:=hl;rw [Nf] at l;have d:=Jv (ea:=ea) (eb:=eb) f hl g i 1 _ [(bY M x y).1] rfl rfl (by simp) e.ok (e.all λz d=>j z (M4 _ d)) (e.all λz d=>k z (M4 _ d)) (by have:=e.up;omega) rfl;rw [aK];refine ah ?_;rw [Ap];simp only [aj,↓reduceIte,Int.reduceBEq,Int.reduceEq,q,s,h0,and_self,aD,o,p,u,aU,aT,M6,aS,aQ,w];exact d
 generalize A:LO (aK bY M a b).1::cz (aK bY M a b).2=r at c;refine ah ?_;rw [GI];simp only [aj,↓reduceIte,Int.reduceBEq,Int.reduceEq,aU,aT,M6,aS,aQ,aD];exact c
open Go Go.Aev Go.IntKind
theorem cU{h:Type}(a b c d e f g:h)(l:List h):(a::b::c::d::e::f::g::l).drop 7=l:=rfl
theorem cV{i:Type}(a b c d e f g h:i)(l:List i):(a::b::c::d::e::f::g::h::l).drop 8=l:=rfl
structure Dc where
 nm:ByteArray
 ea:Bool
 ar:List Int
 so:Int
def aI(l:List Dc):List (List T):=l.map λd=> [T.str d.nm,T.ad 1 d.ea (enc d.ar),ti d.so]
def aV(l:List Nd):List (List T):=l.map λx=> [ti x.op,T.ad 1 x.ek (enc x.ks),ti x.n,ti x.d,T.str x.nm]
def bg(l:List (List Int)):List (List T):=l.map λb=> [LO b]
theorem ca(l:List Dc):(aI l).length=l.length:=by simp [aI]
theorem cK(l:List Nd):(aV l).length=l.length:=by simp [aV]
theorem mo(l:List (List Int)):(bg l).length=l.length:=by simp [bg]
theorem dv{l:List Dc}{i:Nat}{d:Dc}(h:l[i]? =some d):(aI l)[((i:Nat):Int).toNat]? =some [T.str d.nm,T.ad 1 d.ea (enc d.ar),ti d.so]:=by simp [aI,h]
theorem ew{l:List Nd}{i:Nat}{x:Nd}(h:l[i]? =some x):(aV l)[((i:Nat):Int).toNat]? =some [ti x.op,T.ad 1 x.ek (enc x.ks),ti x.n,ti x.d,T.str x.nm]:=by simp [aV,h]
theorem mX(a b:ByteArray):(a.toList==b.toList)=decide (a=b):=by
 rw [Go.Lib.toList_data,Go.Lib.toList_data];by_cases h:a=b
 .subst h;simp
 .have:¬a.data.toList=b.data.toList:=λe=>h (by cases a;cases b;simpa using OL e);rw [decide_eq_false h];exact beq_eq_false_iff_ne.2 this
def gO(nm:ByteArray):Nat->List Dc->Int
 | _,[]=> -1
 | i,d::r=>if d.nm=nm then(i:Int) else gO nm (i+1) r
def bf(ds:List Dc)(nm:ByteArray):Int:=gO nm 0 ds
theorem qH(nm:ByteArray):∀(i:Nat) (ds:List Dc), -1<=gO nm i ds/\gO nm i ds < (i:Int)+ds.length+1
 | i,[]=>by simp [gO];omega
 | i,d::r=>by
  rw [gO];split
  .simp;omega
  .have:=qH nm (i+1) r;simp;omega
theorem JH{e:Bool}{ds:List Dc}{nm:ByteArray}(hl:ds.length<=100):∀(r:List Dc) (i:Nat),ds.drop i=r->
  Or fX [AV.t (T.ad 3 e (aI ds)),AV.fn 92 [] [AV.t (T.ptr [T.str nm])],I (ds.length:Int),I (i:Int)] []=some [ti (gO nm i r)]:=by
 intro r;induction r with
 | nil=>
  intro i g;have b:¬(i:Int) < (ds.length:Int):=by have:=bx g;omega
  refine ah ?_;rw [AM];simp only [aj,↓reduceIte,Int.reduceBEq,Int.reduceEq,b,gO]
 | cons d r j=>
  intro i g;obtain⟨f,k,h⟩:=bz g;have b:(i:Int) < (ds.length:Int):=by omega
  have h0: 0<=(i:Int):=by omega
  have a:Or (.call 92) [AV.agg [AV.t (T.str d.nm),AV.t (T.ad 1 d.ea (enc d.ar)),I d.so],AV.t (T.ptr [T.str nm])] []=some [tb (decide (d.nm=nm))]:=by refine ah ?_;rw [Hr,mX]
  refine ah ?_;rw [AM,gO];by_cases c:d.nm=nm
  .rw [decide_eq_true c] at a;rw [if_pos c];simp only [aj,↓reduceIte,Int.reduceBEq,Int.reduceEq,b,h0,and_self,ca,dv f,a]
  .rw [decide_eq_false c] at a;rw [if_neg c];simp only [aj,↓reduceIte,Int.reduceBEq,Int.reduceEq,b,h0,and_self,ca,dv f,a,next i (by omega)];exact j (i+1) h
theorem rP{ed en eh:Bool}{ds:List Dc}{ns:List Nd}{hs:List Int}{nm:ByteArray}(hl:ds.length<=100):
  Or (.call 62) [AV.agg [AV.t (T.ad 3 ed (aI ds)),AV.t (T.ad 5 en (aV ns)),AV.t (T.ad 1 eh (enc hs))],AV.t (T.str nm)] []=some [ti (bf ds nm)]:=by
 have k:=JH (e:=ed) (nm:=nm) hl ds 0 rfl;have a:Or (.call 89) [AV.t (T.ad 3 ed (aI ds)),AV.fn 92 [] [AV.t (T.ptr [T.str nm])]] []=some [ti (bf ds nm)]:=by refine ah ?_;rw [Ho];simp only [ca];exact k
 refine ah ?_;rw [GB];simp only [aj,↓reduceIte,Int.reduceBEq,Int.reduceEq,a]
structure Cx where
 ed:Bool
 ds:List Dc
 en:Bool
 ns:List Nd
 eh:Bool
 hs:List Int
 p:ByteArray
 es:Bool
 ss:List Int
structure Tr where
 bits:List (List Int)
 to:List Int
theorem iB{c:Cx}{t:Tr}{M:Mk}{x:Nd}{j:Nat}{k:Int}{b:List Int}(e:x.ks[j]? =some k)(l: 0<=k)(a:t.bits[k.toNat]? =some b):
  Or (.call 60) [I (j:Int),r0,r1] [ab.box [AV.ref (Id.c 2) 0],ab.box [I x.op,ad x.ek x.ks,I x.n,I x.d,AV.t (T.str x.nm)],ab.box [AV.ref (Id.c 3) 0,AV.t (T.ad 3 c.ed (aI c.ds)),AV.t (T.ad 5 c.en (aV c.ns)),AV.t (T.ad 1 c.eh (enc c.hs)),AV.t (T.str c.p),AV.t (T.ad 1 c.es (enc c.ss)),AV.own (Id.c 4),AV.own (Id.c 5)],ab.box [AV.own (Id.c 6),AV.own (Id.c 7)],ab.sl false 1 t.bits.isEmpty (bg t.bits),ab.sl false 1 t.to.isEmpty (enc t.to),ab.rows M.N.isEmpty 5 1 1 M.N.length (rows M.N),ab.mp false [Ck.s] (Ck.i .i64) (cb M.K)]=some [T.ad 1 b.isEmpty (enc b),T.ak,ti x.op,T.ad 1 x.ek (enc x.ks),ti x.n,ti x.d,T.str x.nm,T.ak,T.ad 3 c.ed (aI c.ds),T.ad 5 c.en (aV c.ns),T.ad 1 c.eh (enc c.hs),T.str c.p,T.ad 1 c.es (enc c.ss),T.ak,T.ak,RW M.N,T.ak,T.ad 1 t.bits.isEmpty (bg t.bits),T.ad 1 t.to.isEmpty (enc t.to),EM M.K]:=by
 have f: 0<=(j:Int)/\(j:Int) < (x.ks.length:Int):=by have:=(M5.1 e).1;omega
 have g: 0<=k/\k < (t.bits.length:Int):=by have:=(M5.1 a).1;omega
 have h:(bg t.bits)[k.toNat]? =some [LO b]:=by simp [bg,a]
 refine ah ?_;rw [Gz];simp only [aj,↓reduceIte,Int.reduceBEq,Int.reduceEq,aD,mo,f,g,and_self,bC e,h,cB,aU,aT,M6,aS,aQ];rfl
def cE(a:Int)(M:Mk)(x y:Int):Int×Mk:=if x=y then(x,M) else cI M 7 s0 0 0 [a,x,y]
theorem xA{a:Int}{M:Mk}(h:Ok M)(d:In M a){x y:Int}(c:In M x)(e:In M y):Up M (cE a M x y).2 1/\In (cE a M x y).2 (cE a M x y).1:=by
 unfold cE;split
 .exact⟨(Up.refl h).mono (by omega),c⟩
 .exact iR h _ _ _ _ _ (λk b=>by simp only [Nj,Ol,or_false] at b;rcases b with rfl | rfl | rfl <;> assumption) (by simp)
theorem DU{c:Cx}{t:Tr}{M:Mk}{a x y:Int}(b:M.N.length<=100000)(g:In M a)(j:In M x)(l:In M y):
  Or (.call 64) [I x,I y,r0,r1] [ab.box [AV.ref (Id.c 2) 0],ab.box [I a],ab.box [AV.ref (Id.c 3) 0,AV.t (T.ad 3 c.ed (aI c.ds)),AV.t (T.ad 5 c.en (aV c.ns)),AV.t (T.ad 1 c.eh (enc c.hs)),AV.t (T.str c.p),AV.t (T.ad 1 c.es (enc c.ss)),AV.own (Id.c 4),AV.own (Id.c 5)],ab.box [AV.own (Id.c 6),AV.own (Id.c 7)],ab.sl false 1 t.bits.isEmpty (bg t.bits),ab.sl false 1 t.to.isEmpty (enc t.to),ab.rows M.N.isEmpty 5 1 1 M.N.length (rows M.N),ab.mp false [Ck.s] (Ck.i .i64) (cb M.K)]=some [ti (cE a M x y).1,T.ak,ti a,T.ak,T.ad 3 c.ed (aI c.ds),T.ad 5 c.en (aV c.ns),T.ad 1 c.eh (enc c.hs),T.str c.p,T.ad 1 c.es (enc c.ss),T.ak,T.ak,RW ((cE a M x y).2).N,T.ak,T.ad 1 t.bits.isEmpty (bg t.bits),T.ad 1 t.to.isEmpty (enc t.to),EM ((cE a M x y).2).K]:=by
 have e:=iV M b 7 s0 0 0 [a,x,y] false rfl (λk f=>by
  simp only [Nj,Ol,or_false] at f;rcases f with rfl | rfl | rfl
  .exact g.i64 b
  .exact j.i64 b
  .exact l.i64 b) (by simp) (by omega) (by omega) (by omega) (by decide)
 replace e:Or (.call 61) [r0,I 7,AV.t (T.str s0),I 0,I 0,AV.t (T.ad 1 false [[ti a],[ti x],[ti y]])] (df M)=_:=e;unfold cE;refine ah ?_;rw [GJ];by_cases h:x=y
 .subst h;simp only [aj,↓reduceIte,Int.reduceBEq,Int.reduceEq,aU,aT,M6,aS,aQ];rfl
 .have d:(x==y)=false:=by simpa using h
  simp only [aj,↓reduceIte,Int.reduceBEq,Int.reduceEq,d,h,e,aU,aT,M6,aS,aQ];rfl
theorem Jr{c:Cx}{t:Tr}{f:Int}{ea eb:Bool}{a b:List Int}(L:a.length=b.length)(hl:a.length<=100):∀(e d:List Int) (i:Nat) (M:Mk) (acc:List Int),a.drop i=e->b.drop i=d->i<=a.length->Ok M->In M f->(∀x∈e,In M x)->(∀x∈d,In M x)->M.N.length+e.length<=80000->acc.length=i->
  Or nu [ad ea a,ad eb b,AV.fn 64 [] [r0,r1],AV.own (Id.c 8),I (a.length:Int),I (i:Int)] [ab.box [AV.ref (Id.c 2) 0],ab.box [I f],ab.box [AV.ref (Id.c 3) 0,AV.t (T.ad 3 c.ed (aI c.ds)),AV.t (T.ad 5 c.en (aV c.ns)),AV.t (T.ad 1 c.eh (enc c.hs)),AV.t (T.str c.p),AV.t (T.ad 1 c.es (enc c.ss)),AV.own (Id.c 4),AV.own (Id.c 5)],ab.box [AV.own (Id.c 9),AV.own (Id.c 7)],ab.sl false 1 t.bits.isEmpty (bg t.bits),ab.sl false 1 t.to.isEmpty (enc t.to),ab.dead,ab.mp false [Ck.s] (Ck.i .i64) (cb M.K),ab.sl false 1 false (enc acc),ab.rows M.N.isEmpty 5 1 1 M.N.length (rows M.N)]=some [T.ad 1 false (enc (acc++ (aK (cE f) M e d).1)),T.ak,ti f,T.ak,T.ad 3 c.ed (aI c.ds),T.ad 5 c.en (aV c.ns),T.ad 1 c.eh (enc c.hs),T.str c.p,T.ad 1 c.es (enc c.ss),T.ak,T.ak,RW ((aK (cE f) M e d).2).N,T.ak,T.ad 1 t.bits.isEmpty (bg t.bits),T.ad 1 t.to.isEmpty (enc t.to),EM ((aK (cE f) M e d).2).K]:=by
 intro e;induction e with
 | nil=>
  intro d i M acc m n F h l q r u j;have o:¬(i:Int) < (a.length:Int):=by have:=bx m;omega
  refine ah ?_;rw [Aq];simp only [aj,↓reduceIte,Int.reduceBEq,Int.reduceEq,o,aU,aT,M6,aS,aQ,cU,cV,cB,aK,Nz];rfl
 | cons x e G=>
  intro d i M acc m n F h l q r u j;obtain⟨A,O,B⟩:=bz m;cases d with
  | nil=>exact absurd (bx n) (by omega)
  | cons y d=>
   obtain⟨C,P,D⟩:=bz n;have o:(i:Int) < (a.length:Int):=by omega
   have E:(i:Int) < (b.length:Int):=by omega
   have h0: 0<=(i:Int):=by omega
   have v:=q x M3;have w:=r y M3;rw [Nf] at u;have H:=DU (c:=c) (t:=t) (show M.N.length<=100000 by omega) l v w;obtain⟨k,Q⟩:=xA h l v w;have J:bp 8 (acc.length+1)=some ():=cS (by omega);have g:=G d (i+1) _ (acc++ [(cE f M x y).1]) B D (by omega) k.ok (k.In l) (k.all λz g=>q z (M4 _ g)) (k.all λz g=>r z (M4 _ g)) (by have:=k.up;omega) (by simp [j]);simp only [Nx,ND] at g;rw [aK];refine ah ?_;rw [Aq];simp only [aj,↓reduceIte,Int.reduceBEq,Int.reduceEq,o,E,h0,and_self,aD,bC A,bC C,H,aU,aT,M6,aS,aQ,cU,cV,cB,Nk,J,next i (by omega),ez];exact g
theorem Ld{c:Cx}{t:Tr}{d:Int}{M:Mk}(h:Ok M)(k:In M d){ea eb:Bool}{a b:List Int}(j:a.length=b.length)(o: 1<=a.length)(hl:a.length<=100)(n:∀x∈a,In M x)(q:∀x∈b,In M x)(F:M.N.length<=70000):
  Or (.call 63) [ad ea a,ad eb b,AV.fn 64 [] [r0,r1]] [ab.box [AV.ref (Id.c 2) 0],ab.box [I d],ab.box [AV.ref (Id.c 3) 0,AV.t (T.ad 3 c.ed (aI c.ds)),AV.t (T.ad 5 c.en (aV c.ns)),AV.t (T.ad 1 c.eh (enc c.hs)),AV.t (T.str c.p),AV.t (T.ad 1 c.es (enc c.ss)),AV.own (Id.c 4),AV.own (Id.c 5)],ab.box [AV.own (Id.c 6),AV.own (Id.c 7)],ab.sl false 1 t.bits.isEmpty (bg t.bits),ab.sl false 1 t.to.isEmpty (enc t.to),ab.rows M.N.isEmpty 5 1 1 M.N.length (rows M.N),ab.mp false [Ck.s] (Ck.i .i64) (cb M.K)]=some [T.ad 1 false (enc (aK (cE d) M a b).1),T.ak,ti d,T.ak,T.ad 3 c.ed (aI c.ds),T.ad 5 c.en (aV c.ns),T.ad 1 c.eh (enc c.hs),T.str c.p,T.ad 1 c.es (enc c.ss),T.ak,T.ak,RW ((aK (cE d) M a b).2).N,T.ak,T.ad 1 t.bits.isEmpty (bg t.bits),T.ad 1 t.to.isEmpty (enc t.to),EM ((aK (cE d) M a b).2).K]:=by
 have g:Or nu [ad ea a,ad eb b,AV.fn 64 [] [r0,r1],AV.t (T.af true),I (a.length:Int),I 0] [ab.box [AV.ref (Id.c 2) 0],ab.box [I d],ab.box [AV.ref (Id.c 3) 0,AV.t (T.ad 3 c.ed (aI c.ds)),AV.t (T.ad 5 c.en (aV c.ns)),AV.t (T.ad 1 c.eh (enc c.hs)),AV.t (T.str c.p),AV.t (T.ad 1 c.es (enc c.ss)),AV.own (Id.c 4),AV.own (Id.c 5)],ab.box [AV.own (Id.c 6),AV.own (Id.c 7)],ab.sl false 1 t.bits.isEmpty (bg t.bits),ab.sl false 1 t.to.isEmpty (enc t.to),ab.rows M.N.isEmpty 5 1 1 M.N.length (rows M.N),ab.mp false [Ck.s] (Ck.i .i64) (cb M.K)]=some [T.ad 1 false (enc (aK (cE d) M a b).1),T.ak,ti d,T.ak,T.ad 3 c.ed (aI c.ds),T.ad 5 c.en (aV c.ns),T.ad 1 c.eh (enc c.hs),T.str c.p,T.ad 1 c.es (enc c.ss),T.ak,T.ak,RW ((aK (cE d) M a b).2).N,T.ak,T.ad 1 t.bits.isEmpty (bg t.bits),T.ad 1 t.to.isEmpty (enc t.to),EM ((aK (cE d) M a b).2).K]:=by
  cases a with
  | nil=>simp at o
  | cons x l=>
   cases b with
   | nil=>cases j
   | cons y m=>
    have u:=n x M3;have v:=q y M3;have E:=DU (c:=c) (t:=t) (show M.N.length<=100000 by omega) k u v;obtain⟨f,G⟩:=xA h k u v;have C:(0:Int) < (((x::l).length:Nat):Int):=by simp
    have D:(0:Int) < (((y::m).length:Nat):Int):=by simp
    have h0:(0:Int)<=0:=by omega
    have A:(enc (x::l))[(0:Int).toNat]? =some [ti x]:=rfl;have B:(enc (y::m))[(0:Int).toNat]? =some [ti y]:=rfl;have w:i64.wrap (0+1)= ((1:Nat):Int):=by decide
    have r:=hl;rw [Nf] at r;have e:=Jr (c:=c) (t:=t) (ea:=ea) (eb:=eb) j hl l m 1 _ [(cE d M x y).1] rfl rfl (by simp) f.ok (f.In k) (f.all λz e=>n z (M4 _ e)) (f.all λz e=>q z (M4 _ e)) (by have:=f.up;omega) rfl;rw [aK];refine ah ?_;rw [GD];simp only [aj,↓reduceIte,Int.reduceBEq,Int.reduceEq,C,D,h0,and_self,aD,A,B,E,aU,aT,M6,aS,aQ,cU,cV,cB,w];exact e
 refine ah ?_;rw [GC];simp only [aj,↓reduceIte,Int.reduceBEq,Int.reduceEq,aU,aT,M6,aS,aQ,cU,cV,cB,aD];exact g
end Go.Aev.Gen
