import Derived.Test.YtcjplcpngagalaaGreatDoorBlastDownsQ6
import Derived.Test.YtcjplcpngagalaaGreatDoorKLay
import Derived.Test.YtcjplcpngagalaaGreatDoorBlastDownsQ5
import Derived.Lib.ItoaLen
import Derived.Lib.Strings
set_option linter.all false
namespace Go.Aev.Gen
open Go Go.Aev Go.IntKind
theorem kX:kL ak ann:=by
 intro f bf d xs h;have g:f=59/\∃n:Int,bf= [.t (.int .i64 n)]/\d= []/\(-9223372036854775808<=n/\n<=9223372036854775807)/\xs= [.str ⟨(Go.Lib.itoa n).toArray⟩]:=by
  unfold ann at h;dsimp only at h;split at h
  .rename_i n;split at h
   .rename_i m;simp only [Mt] at h;exact⟨rfl,n,rfl,rfl,m,h.symm⟩
   .cases h
  .cases h
 obtain⟨rfl,n,rfl,rfl,⟨h0,i⟩,rfl⟩:=g;refine⟨_,_,Go.Proofs.Tryz.func59,rfl,by decide, ?_⟩;intro c w ρ O args o hs e;have j:args= [.int .i64 n]:=by simp only [az,aj,ay] at e;obtain⟨v,r,rfl,rfl,rfl⟩:=e;rfl
 subst j;have a:=Go.Proofs.Any.strconv_Itoa Go.Proofs.YtcjplcpngagalaaGreatDoor.itoaL n h0 i w hs.glob.1;change Calls ak 59 #[.int .i64 n] w _ at a;refine a.mono ?_;rintro _ w' ⟨rfl,k,os,rfl⟩;refine⟨[.string ⟨(Go.Lib.itoa n).toArray⟩],[.str ⟨(Go.Lib.itoa n).toArray⟩],[],[],[],rfl,⟨rfl,rfl,rfl, ?_,λb l _=> ?_⟩,rfl,by simp,by simp, ?_,⟨rfl,rfl⟩⟩
 .simp [Go.Sort.grow,World.drewN]
 .simp [Go.Sort.grow,World.drewN,Array.getElem?_append,l]
 .rw [show cN ak ann 59 (fA ([]:List ad).head?) Go.Proofs.Tryz.f59= [.f .s] by kernel_rfl];exact⟨_,[],_,[],[],[],rfl,rfl,rfl,⟨rfl,by simp [ay],rfl⟩,rfl,rfl,rfl⟩
open Go Go.Aev Go.IntKind
noncomputable abbrev Or:aq:=jI ak ann
abbrev ti(n:Int):T:= .int .i64 n
abbrev tb(b:Bool):T:= .bool b
abbrev o0:AV:=AV.own (Id.c 0)
abbrev o1:AV:=AV.own (Id.c 1)
abbrev o2:AV:=AV.own (Id.c 2)
abbrev o3:AV:=AV.own (Id.c 3)
abbrev o4:AV:=AV.own (Id.c 4)
abbrev o5:AV:=AV.own (Id.c 5)
abbrev r0:AV:=AV.ref (Id.c 0) 0
abbrev r1:AV:=AV.ref (Id.c 1) 0
theorem bp{c:Type}{l:List c}{i:Nat}{r:c}{b:List c}(h:l.drop i=r::b):l[i]? =some r/\i < l.length/\l.drop (i+1)=b:=by
 have a:i < l.length:=by
  rcases Nat.lt_or_ge i l.length with g | g
  .exact g
  .rw [Oi g] at h;cases h
 rw [Ov a] at h;simp only [NN] at h;exact⟨by rw [MJ a,h.1],a,h.2⟩
theorem bh{a:Type}{l:List a}{i:Nat}(h:l.drop i= []):l.length<=i:=by simpa using h
def enc(l:List Int):List (List T):=l.map λn=> [.int .i64 n]
theorem aC(l:List Int):(enc l).length=l.length:=by simp [enc]
theorem bD{l:List Int}{i:Nat}{r:Int}(h:l[i]? =some r):(enc l)[((i:Nat):Int).toNat]? =some [ti r]:=by simp [enc,h]
theorem eB{l:List Int}{i:Nat}{r:Int}(h:l[i]? =some r):(enc l)[i]? =some [ti r]:=by simp [enc,h]
theorem next(i:Nat)(h:i<=1000000):i64.wrap ((i:Int)+1)= ((i+1:Nat):Int):=by rw [wr (by omega)];omega
theorem cm{a n:Nat}(h:n<=1000000):bg a n=some ():=by unfold bg;rw [if_pos (.inl (by unfold kA;omega))]
abbrev ab(e:Bool)(l:List Int):AV:=AV.t (T.ab 1 e (enc l))
abbrev dI(n:Int):Prop:= -9223372036854775808<=n/\n<=9223372036854775807
def it(n:Int):ByteArray:=⟨(Go.Lib.itoa n).toArray⟩
theorem gQ{n:Int}(h:dI n):(it n).size<=21:=by have:=Go.Lib.itoa_length_le n h.1 h.2;simpa [it,ByteArray.size] using this
theorem gW{n:Int}(h:dI n):Or (.call 59) [I n] []=some [T.str (it n)]:=by
 refine ah ?_;have:ann.ext 59 [I n] []=some [T.str (it n)]:=by show(if dI n then some [T.str (it n)] else none)=_;rw [if_pos h]
 show(match ann.ext 59 [I n] [] with | some r=>some r | none=>_)=_;rw [this]
theorem yu(a b:ByteArray):(a==b)=decide (a=b):=by
 obtain⟨a⟩:=a;obtain⟨b⟩:=b;show(a==b)=_;by_cases h:a=b
 .subst h;simp
 .simp [h]
abbrev sp:ByteArray:=ByteArray.mk #[(32:UInt8)]
abbrev us:ByteArray:=ByteArray.mk #[(95:UInt8)]
abbrev s0:ByteArray:=ByteArray.mk #[]
theorem pG:sp.size=1:=rfl
theorem gx:us.size=1:=rfl
structure Nd where
 op:Int
 ek:Bool
 ks:List Int
 n:Int
 d:Int
 nm:ByteArray
def mG(k:Nat)(x:Nd):Row:=Row.mk k [ti x.op,T.ao,ti x.n,ti x.d,T.str x.nm] (some (x.ek,enc x.ks))
def eL:Nat->List Nd->List Row
 | _,[]=> []
 | k,x::r=>mG k x::eL (k+1) r
abbrev rows(l:List Nd):List Row:=eL 0 l
theorem CN:∀(k:Nat) (l:List Nd),(eL k l).length=l.length
 | _,[]=>rfl
 | k,x::r=>by rw [eL,ME,CN,ME]
theorem CP(x:Nd):∀(k:Nat) (l:List Nd),eL k (l++ [x])=eL k l++ [mG (k+l.length) x]
 | _,[]=>rfl
 | k,y::r=>by rw [Nu,eL,CP x (k+1) r,eL,ME,Nu,show k+1+r.length=k+ (r.length+1) by omega]
theorem CM:∀{k:Nat} {l:List Nd} {i:Nat} {x:Nd},l[i]? =some x->(eL k l)[i]? =some (mG (k+i) x)
 | _,[],_,_,h=>by simp at h
 | k,y::r,0,x,h=>by simp at h;subst h;rfl
 | k,y::r,i+1,x,h=>by rw [eL,NP,CM (by simpa using h),show k+1+i=k+ (i+1) by omega]
theorem CL:∀{k:Nat} {l:List Nd} {i:Nat} {x:Nd},l[i]? =some x->cq (k+i) (eL k l)=some (x.ek,enc x.ks)
 | _,[],_,_,h=>by simp at h
 | k,y::r,0,x,h=>by simp at h;subst h;simp [eL,mG,cq]
 | k,y::r,i+1,x,h=>by have a:=CL (k:=k+1) (l:=r) (i:=i) (x:=x) (by simpa using h);rw [show k+1+i=k+ (i+1) by omega] at a;rw [eL,cq,if_neg (by simp [mG]),a]
theorem xx{l:List Nd}{i:Nat}{x:Nd}(h:l[i]? =some x):(rows l)[i]? =some (mG i x):=by have:=CM (k:=0) h;rwa [Nc] at this
theorem xw{l:List Nd}{i:Nat}{x:Nd}(h:l[i]? =some x):cq i (rows l)=some (x.ek,enc x.ks):=by have:=CL (k:=0) h;rwa [Nc] at this
theorem CO:∀(k:Nat) (l:List Nd),aW (eL k l)=true
 | _,[]=>rfl
 | k,x::r=>by have a:=CO (k+1) r;unfold aW at a⊢;rw [eL,NL,a];rfl
theorem CK:∀(k:Nat) (l:List Nd),nb k ((eL k l).map λe=> [.ptr e.cs,po e])=some (eL k l)
 | _,[]=>rfl
 | k,x::r=>by have a:=CK (k+1) r;rw [eL,Nh];show(nb (k+1) ((eL (k+1) r).map λe=> [.ptr e.cs,po e])).bind _=_;rw [a];rfl
def RW(l:List Nd):T:=ba l.isEmpty (rows l)
theorem aT(l:List Nd):aM (RW l)=some (l.isEmpty,rows l):=by have h:=CK 0 l;show(nb 0 ((eL 0 l).map λe=> [.ptr e.cs,po e])).bind _=_;rw [h];rfl
theorem aR(l:List Nd):aW (rows l)=true:=CO 0 l
theorem aO(l:List Nd):(rows l).length=l.length:=CN 0 l
def bV(K:List (ByteArray×Int)):List (List T×T):=K.map λp=>([T.str p.1],ti p.2)
def lk(s:ByteArray):List (ByteArray×Int)->Option Int
 | []=>none
 | (k,v)::r=>if s=k then some v else lk s r
theorem wT(s:ByteArray):∀K:List (ByteArray×Int),fq [T.str s] (bV K)= (lk s K).map ti
 | []=>rfl
 | (k,v)::r=>by
  have a:=wT s r;unfold bV at a⊢;rw [Nh,fq,lk];simp only [dB,kW,NK,yu];by_cases h:s=k
  .simp [h]
  .simp only [h,decide_false,cond_false,↓reduceIte];exact a
theorem BM{s:ByteArray}(v:Int):∀{K:List (ByteArray×Int)},lk s K=none->gv [T.str s] (ti v) (bV K)=bV (K++ [(s,v)])
 | [],_=>rfl
 | (k,u)::r,h=>by
  rw [lk] at h;by_cases e:s=k
  .rw [if_pos e] at h;cases h
  .rw [if_neg e] at h;have a:=BM v h;unfold bV at a⊢;rw [Nu,Nh,Nh,gv];simp only [dB,kW,NK,yu,e,decide_false,cond_false];rw [a]
theorem yK:∀K:List (ByteArray×Int),qg ((bV K).map λp=> [.ptr p.1,p.2])=some (bV K)
 | []=>rfl
 | p::r=>by have a:=yK r;unfold bV at a⊢;rw [Nh,Nh,qg,a];rfl
def EM(K:List (ByteArray×Int)):T:=aG (bV K)
theorem aS(K:List (ByteArray×Int)):aK (EM K)=some (bV K):=yK K
structure Mk where
 N:List Nd
 K:List (ByteArray×Int)
abbrev cv(M:Mk):List T:= [RW M.N,T.ao,EM M.K]
abbrev cS(M:Mk):List ad:= [ad.box [o1,o2],ad.rows M.N.isEmpty 5 1 1 M.N.length (rows M.N),ad.mp false [Ck.s] (Ck.i .i64) (bV M.K)]
def mn(k:ByteArray):List Int->ByteArray
 | []=>k
 | x::r=>mn (k++ (sp++it x)) r
def tf(op:Int)(nm:ByteArray)(n d:Int)(ks:List Int):ByteArray:=mn (it op++sp++nm++sp++it n++sp++it d) ks
def du(M:Mk)(op:Int)(nm:ByteArray)(n d:Int)(ks:List Int):Int×Mk:=
 match lk (tf op nm n d ks) M.K with
 | some i=>(i,M)
 | none=>((M.N.length:Int),⟨M.N++ [⟨op,ks.isEmpty,ks,n,d,nm⟩],M.K++ [(tf op nm n d ks,(M.N.length:Int))]⟩)
theorem C0(e:Bool)(l:List Int)(a:e=true->l= [])(hl:l.length<=1000000):Or (.call 25) [ab e l] []=some [if e then T.af true else T.ab 1 false (enc l)]:=by
 refine ah ?_;rw [Fi];cases e with
 | true=>rfl
 | false=>simp only [ai,↓reduceIte,Int.reduceBEq,Int.reduceEq,aC,cm (show 0+l.length<=1000000 by omega)];rfl
theorem I0(M:Mk)(B:M.N.length<=100000)(op:Int)(nm:ByteArray)(n d:Int)(ks:List Int)(e:Bool)(f:e=ks.isEmpty)(r:∀k∈ks,dI k)(hl:ks.length<=1000):∀(a:List Int) (j:Nat) (s:ByteArray),ks.drop j=a->s.size<=10000+100 * j->
  Or rU [r0,I op,AV.t (T.str nm),I n,I d,ab e ks,AV.t (T.str s),ab e ks,I (ks.length:Int),I (j:Int)] (cS M)=
   match lk (mn s a) M.K with
   | some i=>some (ti i::cv M)
   | none=>some (ti (M.N.length:Int)::cv ⟨M.N++ [⟨op,ks.isEmpty,ks,n,d,nm⟩],M.K++ [(mn s a,(M.N.length:Int))]⟩):=by
 intro a;induction a with
 | nil=>
  intro j s g hs;have c:¬(j:Int) < (ks.length:Int):=by have:=bh g;omega
  rw [mn];have o:=C0 e ks (λh=>by subst f;simpa using h) (by omega);have q:(if e then T.af true else T.ab 1 false (enc ks)).an 1=some (e,enc ks):=by
   cases e with
   | true=>
    have:ks= []:=by simpa using f.symm
    subst this;rfl
   | false=>rfl
  have w:i64.wrap (((M.N.length+1:Nat):Int) - 1)= (M.N.length:Int):=by rw [wr (by omega)];omega
  have u:rows M.N++ [Row.mk M.N.length [ti op,T.ao,ti n,ti d,T.str nm] (some (e,enc ks))]=rows (M.N++ [⟨op,ks.isEmpty,ks,n,d,nm⟩]):=by rw [rows,rows,CP,Nc,f];rfl
  cases b:lk s M.K with
  | some i=>refine ah ?_;rw [vw];simp only [ai,↓reduceIte,Int.reduceBEq,Int.reduceEq,c,wT,b,N1,Oc,Option.isSome_some,aR];rfl
  | none=>refine ah ?_;rw [vw];simp only [ai,↓reduceIte,Int.reduceBEq,Int.reduceEq,c,wT,b,Pe,Pq,Option.isSome_none,o,q,aO,cm (show M.N.length+1<=1000000 by omega),u,aR,Ny,MC,w,BM _ b];congr 3;unfold RW;cases M.N <;> rfl
 | cons x a v=>
  intro j s g hs;obtain⟨l,A,p⟩:=bp g;have c:(j:Int) < (ks.length:Int):=by omega
  have h0: 0<=(j:Int):=by omega
  have m:=r x (MD l);have C:=gQ m;have y: 1+ (it x).size<=4294967296:=by omega
  have D:(sp++it x).size=1+ (it x).size:=by rw [MX];rfl
  have z:s.size+ (sp++it x).size<=4294967296:=by omega
  have:=v (j+1) (s++ (sp++it x)) p (by rw [MX];omega);rw [mn];cases b:lk (mn (s++ (sp++it x)) a) M.K <;>
  .rw [b] at this;refine ah ?_;rw [vw];simp only [ai,↓reduceIte,Int.reduceBEq,Int.reduceEq,c,h0,and_self,aC,bD l,gW m,y,z,next j (by omega)];exact this
theorem iN(M:Mk)(l:M.N.length<=100000)(op:Int)(nm:ByteArray)(n d:Int)(ks:List Int)(e:Bool)(m:e=ks.isEmpty)(p:∀k∈ks,dI k)(hl:ks.length<=1000)(ho:dI op)(b:dI n)(a:dI d)(hm:nm.size<=5000):
  Or (.call 61) [r0,I op,AV.t (T.str nm),I n,I d,ab e ks] (cS M)=some (ti (du M op nm n d ks).1::cv (du M op nm n d ks).2):=by
 have q:=gQ ho;have r:=gQ b;have s:=gQ a;have c:(it op++sp++nm++sp++it n++sp++it d).size<=10000+100 * 0:=by simp only [MX,pG];omega
 have:=I0 M l op nm n d ks e m p hl ks 0 (it op++sp++nm++sp++it n++sp++it d) rfl c;have f:(it op).size+1<=4294967296:=by omega
 have g:(it op++sp).size+nm.size<=4294967296:=by simp only [MX,pG];omega
 have c3:(it op++sp++nm).size+1<=4294967296:=by simp only [MX,pG];omega
 have h:(it op++sp++nm++sp).size+ (it n).size<=4294967296:=by simp only [MX,pG];omega
 have i:(it op++sp++nm++sp++it n).size+1<=4294967296:=by simp only [MX,pG];omega
 have j:(it op++sp++nm++sp++it n++sp).size+ (it d).size<=4294967296:=by simp only [MX,pG];omega
 unfold du tf;cases o:lk (mn (it op++sp++nm++sp++it n++sp++it d) ks) M.K <;>
 .rw [o] at this;refine ah ?_;rw [FY];simp only [ai,↓reduceIte,Int.reduceBEq,Int.reduceEq,gW ho,gW b,gW a,f,g,c3,h,i,j,aC];exact this
open Go Go.Aev Go.IntKind
abbrev In(M:Mk)(a:Int):Prop:=0<=a/\a < (M.N.length:Int)
structure Ok (M:Mk):Prop where
 no:∀(i:Nat) (x:Nd),M.N[i]? =some x->x.op=3->∃k r,x.ks=k::r
 ks:∀(i:Nat) (x:Nd),M.N[i]? =some x->∀k∈x.ks,0<=k/\k < (i:Int)
 kn:∀p∈M.K,In M p.2
 ek:∀(i:Nat) (x:Nd),M.N[i]? =some x->x.ek=x.ks.isEmpty
 kl:∀(i:Nat) (x:Nd),M.N[i]? =some x->x.ks.length<=1000
structure Up (M M':Mk) (c:Nat):Prop where
 ok:Ok M'
 le:M.N.length<=M'.N.length
 up:M'.N.length<=M.N.length+c
 pre:∀(i:Nat) (x:Nd),M.N[i]? =some x->M'.N[i]? =some x
theorem Up.refl{M:Mk}(h:Ok M):Up M M 0:=⟨h,M2 _,M2 _,λ_ _ h=>h⟩
theorem Up.trans{M f b:Mk}{c d:Nat}(h:Up M f c)(a:Up f b d):Up M b (c+d):=
 ⟨a.ok,Nl h.le a.le,by have:=h.up;have:=a.up;omega,λi x e=>a.pre i x (h.pre i x e)⟩
theorem Up.mono{M a:Mk}{c d:Nat}(h:Up M a c)(b:c<=d):Up M a d:=⟨h.ok,h.le,by have:=h.up;omega,h.pre⟩
theorem Up.In{M b:Mk}{c:Nat}(h:Up M b c){a:Int}(d:In M a):In b a:=⟨d.1,by have:=h.le;have:=d.2;omega⟩
theorem In.get{M:Mk}{a:Int}(h:In M a):∃(i:Nat) (x:Nd),a= (i:Int)/\M.N[i]? =some x:=by
 obtain⟨i,rfl⟩:=Int.eq_ofNat_of_zero_le h.1;have:i < M.N.length:=by have:=h.2;omega
 exact⟨i,_,rfl,MJ this⟩
theorem BD{s:ByteArray}:∀{K:List (ByteArray×Int)} {v:Int},lk s K=some v->∃p∈K,p.2=v
 | (k,u)::r,v,h=>by
  rw [lk] at h;split at h
  .simp only [Mt] at h;exact⟨_,Mv,h⟩
  .obtain⟨p,a,e⟩:=BD h;exact⟨p,Mx _ a,e⟩
theorem iJ{M:Mk}(h:Ok M)(op:Int)(nm:ByteArray)(n d:Int)(ks:List Int)(j:∀k∈ks,In M k)(c:op=3->∃k r,ks=k::r)(hl:ks.length<=1000:=by simp):
  Up M (du M op nm n d ks).2 1/\In (du M op nm n d ks).2 (du M op nm n d ks).1:=by
 unfold du;cases f:lk (tf op nm n d ks) M.K with
 | some v=>obtain⟨p,b,rfl⟩:=BD f;exact⟨(Up.refl h).mono (by omega),h.kn p b⟩
 | none=>
  have new:∀(i:Nat) (x:Nd),(M.N++ [(⟨op,ks.isEmpty,ks,n,d,nm⟩:Nd)])[i]? =some x->M.N[i]? =some x\/(i=M.N.length/\x= ⟨op,ks.isEmpty,ks,n,d,nm⟩):=λi x e=>by
   rcases Nat.lt_trichotomy i M.N.length with g | g | g
   .rw [Nb g] at e;exact .inl e
   .subst g;simp at e;exact .inr ⟨rfl,e.symm⟩
   .rw [N6 (by simp;omega)] at e;cases e
  refine⟨⟨⟨λi x e ho=> ?_,λi x e k a=> ?_,λp b=> ?_,λi x e=> ?_,λi x e=> ?_⟩,by simp,by simp,λi x e=> ?_⟩, ?_⟩
  .rcases new i x e with g | ⟨rfl,rfl⟩
   .exact h.no i x g ho
   .exact c ho
  .rcases new i x e with g | ⟨rfl,rfl⟩
   .exact h.ks i x g k a
   .exact j k a
  .simp only [Ny,MC];rcases MQ.1 b with g | g
   .have:=h.kn p g;exact⟨this.1,by simp;omega⟩
   .simp only [MI] at g;subst g;exact⟨by simp,by simp;omega⟩
  .rcases new i x e with g | ⟨rfl,rfl⟩
   .exact h.ek i x g
   .rfl
  .rcases new i x e with g | ⟨rfl,rfl⟩
   .exact h.kl i x g
   .exact hl
  .rw [Nb (My.1 e).1];exact e
  .exact⟨by simp,by simp;omega⟩
def ca(M:Mk)(a:Int):Int:=match M.N[a.toNat]? with
 | some x=>x.op
 | none=>0
def tg(M:Mk)(a:Int):Int:=match M.N[a.toNat]? with
 | some x=>x.ks.headD 0
 | none=>0
def cI(M:Mk)(b:Bool):Int×Mk:=du M (if b then 1 else 2) s0 0 0 []
def gq(M:Mk)(a:Int):Int×Mk:=
 if ca M a=1 then cI M false else if ca M a=2 then cI M true else if ca M a=3 then(tg M a,M) else du M 3 s0 0 0 [a]
def cf(M:Mk)(a b:Int):Int×Mk:=
 if ca M a=2\/ca M b=1\/a=b then(a,M) else if ca M a=1\/ca M b=2 then(b,M) else du M 4 s0 0 0 [a,b]
def dQ(M:Mk)(a b:Int):Int×Mk:=
 if ca M a=1\/ca M b=2\/a=b then(a,M) else if ca M a=2\/ca M b=1 then(b,M) else du M 5 s0 0 0 [a,b]
def dE(M:Mk)(a b:Int):Int×Mk:=
 if a=b then cI M true else if ca M a=1 then(b,M) else if ca M b=1 then(a,M) else if ca M a=2 then gq M b else if ca M b=2 then gq M a else du M 6 s0 0 0 [a,b]
def br(M:Mk)(a b:Int):Int×Mk:=gq (dE M a b).2 (dE M a b).1
theorem In.i64{M:Mk}{a:Int}(h:In M a)(b:M.N.length<=100000):dI a:=⟨by have:=h.1;omega,by have:=h.2;omega⟩
theorem ic{M:Mk}(h:Ok M)(b:Bool):Up M (cI M b).2 1/\In (cI M b).2 (cI M b).1:=
 iJ h _ _ _ _ _ (λk a=>by cases a) (by cases b <;> simp)
theorem nG{M:Mk}(h:Ok M){a:Int}(c:In M a):Up M (gq M a).2 1/\In (gq M a).2 (gq M a).1:=by
 unfold gq;split
 .exact ic h _
 .split
  .exact ic h _
  .split
   .rename_i e;obtain⟨i,x,rfl,d⟩:=c.get;refine⟨(Up.refl h).mono (by omega), ?_⟩;unfold ca at e;unfold tg;rw [Nf,d] at e⊢;obtain⟨k,r,b⟩:=h.no i x d e;have:=h.ks i x d k (by rw [b];exact Mv);dsimp only;rw [b,List.headD_cons];exact⟨this.1,by have:=c.2;omega⟩
   .exact iJ h _ _ _ _ _ (λk b=>by simp only [MI] at b;subst b;exact c) (λ_=>⟨_,_,rfl⟩)
theorem pO{M:Mk}{a b:Int}(d:In M a)(e:In M b):∀k∈[a,b],In M k:=λk c=>by simp only [MN,N5,or_false] at c;rcases c with rfl | rfl <;> assumption
theorem fK{M:Mk}(h:Ok M){a b:Int}(c:In M a)(d:In M b):Up M (cf M a b).2 1/\In (cf M a b).2 (cf M a b).1:=by
 unfold cf;split
 .exact⟨(Up.refl h).mono (by omega),c⟩
 .split
  .exact⟨(Up.refl h).mono (by omega),d⟩
  .exact iJ h _ _ _ _ _ (pO c d) (by simp)
theorem nI{M:Mk}(h:Ok M){a b:Int}(c:In M a)(d:In M b):Up M (dQ M a b).2 1/\In (dQ M a b).2 (dQ M a b).1:=by
 unfold dQ;split
 .exact⟨(Up.refl h).mono (by omega),c⟩
 .split
  .exact⟨(Up.refl h).mono (by omega),d⟩
  .exact iJ h _ _ _ _ _ (pO c d) (by simp)
theorem nA{M:Mk}(h:Ok M){a b:Int}(c:In M a)(d:In M b):Up M (dE M a b).2 1/\In (dE M a b).2 (dE M a b).1:=by
 unfold dE;split
 .exact ic h _
 .split
  .exact⟨(Up.refl h).mono (by omega),d⟩
  .split
   .exact⟨(Up.refl h).mono (by omega),c⟩
   .split
    .exact nG h d
    .split
     .exact nG h c
     .exact iJ h _ _ _ _ _ (pO c d) (by simp)
theorem mK{M:Mk}(h:Ok M){a b:Int}(g:In M a)(i:In M b):Up M (br M a b).2 2/\In (br M a b).2 (br M a b).1:=by obtain⟨c,d⟩:=nA h g i;obtain⟨e,f⟩:=nG c.ok d;exact⟨c.trans e,f⟩
theorem CE(i:Nat)(x:Nd):(mG i x).n=i:=rfl
theorem CD(i:Nat)(x:Nd):(mG i x).cs= [ti x.op,T.ao,ti x.n,ti x.d,T.str x.nm]:=rfl
theorem ji{M:Mk}{a:Int}(b:In M a)(op:Int):Or (.call 93) [r0,I a,I op] (cS M)=some (tb (ca M a==op)::cv M):=by
 have c:=b;obtain⟨i,x,rfl,d⟩:=b.get;have ho:ca M (i:Int)=x.op:=by unfold ca;rw [Nf,d]
 rw [ho];refine ah ?_;rw [G0];simp only [ai,↓reduceIte,Int.reduceBEq,Int.reduceEq,aO,c.1,c.2,and_self,Nf,xx d,CD,aR];rfl
theorem kF{M:Mk}(e:M.N.length<=100000)(b:Bool):Or (.call 65) [r0,B b] (cS M)=some (ti (cI M b).1::cv (cI M b).2):=by
 have c:=iN M e 1 s0 0 0 [] true rfl (λk a=>by cases a) (by simp) (by omega) (by omega) (by omega) (by decide);have d:=iN M e 2 s0 0 0 [] true rfl (λk a=>by cases a) (by simp) (by omega) (by omega) (by omega) (by decide);replace c:Or (.call 61) [r0,I 1,AV.t (T.str s0),I 0,I 0,AV.t (T.ab 1 true [])] (cS M)=_:=c;replace d:Or (.call 61) [r0,I 2,AV.t (T.str s0),I 0,I 0,AV.t (T.ab 1 true [])] (cS M)=_:=d;unfold cI;refine ah ?_;rw [F7];cases b with
 | true=>simp only [ai,↓reduceIte,Int.reduceBEq,Int.reduceEq,c,aT,aS,Mw,aR,aO];rfl
 | false=>simp only [ai,↓reduceIte,Int.reduceBEq,Int.reduceEq,d,aT,aS,Mw,aR,aO];rfl
theorem pC{M:Mk}(h:Ok M)(d:M.N.length<=100000){a:Int}(j:In M a):Or (.call 66) [r0,I a] (cS M)=some (ti (gq M a).1::cv (gq M a).2):=by
 have m:=j;have s:=kF d false;have u:=kF d true;have l:=iN M d 3 s0 0 0 [a] false rfl (λk e=>by simp only [MI] at e;subst e;exact j.i64 d) (by simp) (by omega) (by omega) (by omega) (by decide);obtain⟨i,x,rfl,c⟩:=j.get;have ho:ca M (i:Int)=x.op:=by unfold ca;rw [Nf,c]
 have e:tg M (i:Int)=x.ks.headD 0:=by unfold tg;rw [Nf,c]
 replace l:Or (.call 61) [r0,I 3,AV.t (T.str s0),I 0,I 0,AV.t (T.ab 1 false [[ti (i:Int)]])] (cS M)=_:=l;unfold gq;rw [ho,e];refine ah ?_;rw [F8];simp only [aP,aX,bQ,oA,bn,aO,m.1,m.2,and_self,↓reduceIte,Nf,xx c,CD,CE];by_cases f:x.op=1
 .simp only [ai,↓reduceIte,Int.reduceBEq,Int.reduceEq,f,s,aT,aS,Mw,aR,aO];rfl
 by_cases g:x.op=2
 .simp only [ai,↓reduceIte,Int.reduceBEq,Int.reduceEq,g,u,aT,aS,Mw,aR,aO];rfl
 by_cases c3:x.op=3
 .obtain⟨k,r,b⟩:=h.no i x c c3;have hl:(0:Int)<=0/\(0:Int) < ((x.ks.length:Nat):Int):=by rw [b];simp
  have q:(enc x.ks)[0]? =some [ti k]:=by rw [b];rfl
  simp only [ai,↓reduceIte,Int.reduceBEq,Int.reduceEq,c3,xw c,aC,hl,and_self,q,aR];rw [b];rfl
 .have n:(x.op==1)=false:=by simpa using f
  have o:(x.op==2)=false:=by simpa using g
  have p:(x.op==3)=false:=by simpa using c3
  simp only [ai,↓reduceIte,Int.reduceBEq,Int.reduceEq,n,o,p,f,g,c3,l,aT,aS,Mw,aR,aO];rfl
theorem jN{M:Mk}(s:M.N.length<=100000){a b:Int}(o:In M a)(p:In M b):Or (.call 67) [r0,I a,I b] (cS M)=some (ti (cf M a b).1::cv (cf M a b).2):=by
 have e:=ji o 2;have i:=ji o 1;have m:=ji p 2;have g:=ji p 1;have q:=iN M s 4 s0 0 0 [a,b] false rfl (λk v=>(pO o p k v).i64 s) (by simp) (by omega) (by omega) (by omega) (by decide);replace q:Or (.call 61) [r0,I 4,AV.t (T.str s0),I 0,I 0,AV.t (T.ab 1 false [[ti a],[ti b]])] (cS M)=_:=q;unfold cf;refine ah ?_;rw [F9];by_cases c:ca M a=2
 .rw [c] at e i;simp only [ai,↓reduceIte,Int.reduceBEq,Int.reduceEq,c,e,aT,aS,Mw,aR,aO,true_or];rfl
 by_cases d:ca M b=1
 .rw [d] at m g;have f:(ca M a==2)=false:=by simpa using c
  simp only [ai,↓reduceIte,Int.reduceBEq,Int.reduceEq,c,d,f,e,g,aT,aS,Mw,aR,aO,true_or,or_true];rfl
 have f:(ca M a==2)=false:=by simpa using c
 have l:(ca M b==1)=false:=by simpa using d
 by_cases c3:a=b
 .subst c3;simp only [ai,↓reduceIte,Int.reduceBEq,Int.reduceEq,c,d,f,l,e,g,aT,aS,Mw,aR,aO,true_or,or_true];rfl
 have n:(a==b)=false:=by simpa using c3
 by_cases h:ca M a=1
 .rw [h] at i;simp only [ai,↓reduceIte,Int.reduceBEq,Int.reduceEq,c,d,c3,h,f,l,n,e,i,g,aT,aS,Mw,aR,aO,true_or,or_true,or_self];rfl
 have r:(ca M a==1)=false:=by simpa using h
 by_cases j:ca M b=2
 .rw [j] at m;simp only [ai,↓reduceIte,Int.reduceBEq,Int.reduceEq,c,d,c3,h,j,f,l,n,r,e,i,m,g,aT,aS,Mw,aR,aO,true_or,or_true,or_self];rfl
 have u:(ca M b==2)=false:=by simpa using j
 simp only [ai,↓reduceIte,Int.reduceBEq,Int.reduceEq,c,d,c3,h,j,f,l,n,r,u,e,i,m,g,q,aT,aS,Mw,aR,aO,true_or,or_true,or_self];rfl
theorem rA{M:Mk}(s:M.N.length<=100000){a b:Int}(o:In M a)(p:In M b):Or (.call 68) [r0,I a,I b] (cS M)=some (ti (dQ M a b).1::cv (dQ M a b).2):=by
 have i:=ji o 2;have e:=ji o 1;have g:=ji p 2;have m:=ji p 1;have q:=iN M s 5 s0 0 0 [a,b] false rfl (λk v=>(pO o p k v).i64 s) (by simp) (by omega) (by omega) (by omega) (by decide);replace q:Or (.call 61) [r0,I 5,AV.t (T.str s0),I 0,I 0,AV.t (T.ab 1 false [[ti a],[ti b]])] (cS M)=_:=q;unfold dQ;refine ah ?_;rw [Ga];by_cases c:ca M a=1
 .rw [c] at i e;simp only [ai,↓reduceIte,Int.reduceBEq,Int.reduceEq,c,e,aT,aS,Mw,aR,aO,true_or];rfl
 by_cases d:ca M b=2
 .rw [d] at g m;have f:(ca M a==1)=false:=by simpa using c
  simp only [ai,↓reduceIte,Int.reduceBEq,Int.reduceEq,c,d,f,e,g,aT,aS,Mw,aR,aO,true_or,or_true];rfl
 have f:(ca M a==1)=false:=by simpa using c
 have l:(ca M b==2)=false:=by simpa using d
 by_cases c3:a=b
 .subst c3;simp only [ai,↓reduceIte,Int.reduceBEq,Int.reduceEq,c,d,f,l,e,g,aT,aS,Mw,aR,aO,true_or,or_true];rfl
 have n:(a==b)=false:=by simpa using c3
 by_cases h:ca M a=2
 .rw [h] at i;simp only [ai,↓reduceIte,Int.reduceBEq,Int.reduceEq,c,d,c3,h,f,l,n,i,e,g,aT,aS,Mw,aR,aO,true_or,or_true,or_self];rfl
 have r:(ca M a==2)=false:=by simpa using h
 by_cases j:ca M b=1
 .rw [j] at m;simp only [ai,↓reduceIte,Int.reduceBEq,Int.reduceEq,c,d,c3,h,j,f,l,n,r,i,e,g,m,aT,aS,Mw,aR,aO,true_or,or_true,or_self];rfl
 have u:(ca M b==1)=false:=by simpa using j
 simp only [ai,↓reduceIte,Int.reduceBEq,Int.reduceEq,c,d,c3,h,j,f,l,n,r,u,i,e,g,m,q,aT,aS,Mw,aR,aO,true_or,or_true,or_self];rfl
theorem ue{M:Mk}(h:Ok M)(i:M.N.length<=100000){a b:Int}(n:In M a)(o:In M b):Or (.call 74) [r0,I a,I b] (cS M)=some (ti (dE M a b).1::cv (dE M a b).2):=by
 have p:=ji n 2;have e:=ji n 1;have r:=ji o 2;have j:=ji o 1;have s:=iN M i 6 s0 0 0 [a,b] false rfl (λk w=>(pO n o k w).i64 i) (by simp) (by omega) (by omega) (by omega) (by decide);replace s:Or (.call 61) [r0,I 6,AV.t (T.str s0),I 0,I 0,AV.t (T.ab 1 false [[ti a],[ti b]])] (cS M)=_:=s;have x:=pC h i n;have y:=pC h i o;have z:=kF i true;unfold dE;refine ah ?_;rw [Gh];by_cases c:a=b
 .subst c;simp only [ai,↓reduceIte,Int.reduceBEq,Int.reduceEq,z,aT,aS,Mw,aR,aO];rfl
 have g:(a==b)=false:=by simpa using c
 by_cases d:ca M a=1
 .rw [d] at e;simp only [ai,↓reduceIte,Int.reduceBEq,Int.reduceEq,c,d,g,e,aT,aS,Mw,aR,aO];rfl
 have m:(ca M a==1)=false:=by simpa using d
 by_cases c3:ca M b=1
 .rw [c3] at j;simp only [ai,↓reduceIte,Int.reduceBEq,Int.reduceEq,c,d,c3,g,m,e,j,aT,aS,Mw,aR,aO];rfl
 have q:(ca M b==1)=false:=by simpa using c3
 by_cases f:ca M a=2
 .rw [f] at p;simp only [ai,↓reduceIte,Int.reduceBEq,Int.reduceEq,c,d,c3,f,g,m,q,p,e,j,y,aT,aS,Mw,aR,aO];rfl
 have u:(ca M a==2)=false:=by simpa using f
 by_cases l:ca M b=2
 .rw [l] at r;simp only [ai,↓reduceIte,Int.reduceBEq,Int.reduceEq,c,d,c3,f,l,g,m,q,u,p,e,r,j,x,aT,aS,Mw,aR,aO];rfl
 have v:(ca M b==2)=false:=by simpa using l
 simp only [ai,↓reduceIte,Int.reduceBEq,Int.reduceEq,c,d,c3,f,l,g,m,q,u,v,p,e,r,j,s,aT,aS,Mw,aR,aO];rfl
theorem pD{M:Mk}(h:Ok M)(j:M.N.length<=90000){a b:Int}(d:In M a)(e:In M b):Or (.call 69) [r0,I a,I b] (cS M)=some (ti (br M a b).1::cv (br M a b).2):=by have g:=ue h (by omega) d e;obtain⟨c,f⟩:=nA h d e;have i:=pC c.ok (by have:=c.up;omega) f;refine ah ?_;rw [Gb];simp only [ai,↓reduceIte,Int.reduceBEq,Int.reduceEq,g,i,aT,aS,Mw,aR,aO];rfl
open Go Go.Aev Go.IntKind
def LO(l:List Int):T:=if l.isEmpty then T.af true else T.ab 1 false (enc l)
theorem cx(l:List Int):(LO l).an 1=some (l.isEmpty,enc l):=by cases l <;> rfl
theorem dP(l:List Int)(x:Int):enc l++ [[T.int .i64 x]]=enc (l++ [x]):=by simp [enc]
theorem Up.all{M a:Mk}{c:Nat}(h:Up M a c){l:List Int}(hl:∀x∈l,Go.Aev.Gen.In M x):∀x∈l,Go.Aev.Gen.In a x:=λx b=>h.In (hl x b)
abbrev mW(M:Mk)(a:List Int):List ad:= [ad.box [o4,o2],ad.dead,ad.mp false [Ck.s] (Ck.i .i64) (bV M.K),ad.sl false 1 false (enc a),ad.rows M.N.isEmpty 5 1 1 M.N.length (rows M.N)]
abbrev pY(M:Mk):List ad:= [ad.box [o3,o2],ad.dead,ad.mp false [Ck.s] (Ck.i .i64) (bV M.K),ad.rows M.N.isEmpty 5 1 1 M.N.length (rows M.N)]
def aU(f:Mk->Int->Int->Int×Mk)(M:Mk):List Int->List Int->List Int×Mk
 | x::a,y::b=>((f M x y).1:: (aU f (f M x y).2 a b).1,(aU f (f M x y).2 a b).2)
 | _,_=>([],M)
theorem oJ{f:Mk->Int->Int->Int×Mk}{c:Nat}(l:∀M a b,Ok M->In M a->In M b->Up M (f M a b).2 c/\In (f M a b).2 (f M a b).1):
  ∀{a b:List Int} {M:Mk},Ok M->(∀x∈a,In M x)->(∀x∈b,In M x)->a.length=b.length->
   Up M (aU f M a b).2 (c * a.length)/\(∀x∈(aU f M a b).1,In (aU f M a b).2 x)/\(aU f M a b).1.length=a.length
 | [],b,M,h,_,_,_=>by rw [show aU f M [] b= ([],M) by simp [aU]];exact⟨Up.refl h,λx p=>(by cases p),rfl⟩
 | x::a,[],M,h,_,_,e=>by cases e
 | x::a,y::b,M,h,j,k,e=>by
  obtain⟨g,m⟩:=l M x y h (j x Mv) (k y Mv);obtain⟨i,n,o⟩:=oJ l (a:=a) (b:=b) g.ok (g.all λz d=>j z (Mx _ d)) (g.all λz d=>k z (Mx _ d)) (by simpa using e);refine⟨(g.trans i).mono (by rw [ME,Nat.mul_add];omega),λz d=> ?_,by simp [aU,o]⟩;rcases MN.1 d with rfl | d
  .exact i.In m
  .exact n z d
def fJ(M:Mk)(c:Int):List Int->List Int->List Int×Mk
 | x::a,y::b=>
  let p:=br M x y;let q:=br p.2 p.1 c
  if a.isEmpty then([q.1],q.2) else
  let r:=cf q.2 x y;let s:=cf r.2 p.1 c;let t:=dQ s.2 r.1 s.1
  (q.1:: (fJ t.2 t.1 a b).1,(fJ t.2 t.1 a b).2)
 | _,_=>([],M)
theorem Dy(M:Mk)(c:Int)(b:List Int):fJ M c [] b= ([],M):=by simp [fJ]
def dv(M:Mk)(a b:List Int):List Int×Mk:=fJ (cI M false).2 (cI M false).1 a b
structure DW (M:Mk) (c x y:Int):Prop where
 p:Up M (br M x y).2 2
 pi:In (br M x y).2 (br M x y).1
 q:Up M (br (br M x y).2 (br M x y).1 c).2 4
 qi:In (br (br M x y).2 (br M x y).1 c).2 (br (br M x y).2 (br M x y).1 c).1
 r:Up M (cf (br (br M x y).2 (br M x y).1 c).2 x y).2 5
 ri:In (cf (br (br M x y).2 (br M x y).1 c).2 x y).2 (cf (br (br M x y).2 (br M x y).1 c).2 x y).1
 s:Up M (cf (cf (br (br M x y).2 (br M x y).1 c).2 x y).2 (br M x y).1 c).2 6
 si:In (cf (cf (br (br M x y).2 (br M x y).1 c).2 x y).2 (br M x y).1 c).2 (cf (cf (br (br M x y).2 (br M x y).1 c).2 x y).2 (br M x y).1 c).1
 rs:In (cf (cf (br (br M x y).2 (br M x y).1 c).2 x y).2 (br M x y).1 c).2 (cf (br (br M x y).2 (br M x y).1 c).2 x y).1
theorem xO{M:Mk}(h:Ok M){c x y:Int}(e:In M c)(f:In M x)(g:In M y):DW M c x y:=by obtain⟨a,b⟩:=mK h f g;obtain⟨d,k⟩:=mK a.ok b (a.In e);have q:=a.trans d;obtain⟨r1,i⟩:=fK d.ok (q.In f) (q.In g);have r:=q.trans r1;obtain⟨j,l⟩:=fK r1.ok ((d.trans r1).In b) (r.In e);exact⟨a,b,q,k,r,i,r.trans j,l,j.In i⟩
theorem Dz:∀{a b:List Int} {M:Mk} {c:Int},Ok M->In M c->(∀x∈a,In M x)->(∀x∈b,In M x)->a.length=b.length->
   Up M (fJ M c a b).2 (7 * a.length)/\(∀x∈(fJ M c a b).1,In (fJ M c a b).2 x)/\(fJ M c a b).1.length=a.length
 | [],b,M,c,h,_,_,_,_=>by rw [show fJ M c [] b= ([],M) by simp [fJ]];exact⟨Up.refl h,λx o=>(by cases o),rfl⟩
 | x::a,[],M,c,h,_,_,_,e=>by cases e
 | x::a,y::b,M,c,h,i,f,g,e=>by
  have st:=xO h i (f x Mv) (g y Mv);rw [fJ];dsimp only;split
  .rename_i n;have:a= []:=by simpa using n
   subst this;exact⟨st.q.mono (by simp),λz d=>by simp only [MI] at d;subst d;exact st.qi,rfl⟩
  .obtain⟨k,u⟩:=nI st.s.ok st.rs st.si;have t:=st.s.trans k;obtain⟨j,l,m⟩:=Dz (a:=a) (b:=b) t.ok u (t.all λz d=>f z (Mx _ d)) (t.all λz d=>g z (Mx _ d)) (by simpa using e);refine⟨(t.trans j).mono (by rw [ME,Nat.mul_add];omega),λz d=> ?_,by simp [m]⟩;rcases MN.1 d with rfl | d
   .exact j.In (k.In ((fK st.q.ok (st.q.In (f x Mv)) (st.q.In (g y Mv))).1.trans (fK st.r.ok ((fK st.q.ok (st.q.In (f x Mv)) (st.q.In (g y Mv))).1.In ((mK st.p.ok st.pi (st.p.In i)).1.In st.pi)) (st.r.In i)).1 |>.In st.qi))
   .exact l z d
theorem Dx{a b:List Int}{M:Mk}(h:Ok M)(j:∀x∈a,In M x)(k:∀x∈b,In M x)(e:a.length=b.length):
   Up M (dv M a b).2 (1+7 * a.length)/\(∀x∈(dv M a b).1,In (dv M a b).2 x)/\(dv M a b).1.length=a.length:=by
 obtain⟨c,d⟩:=ic h false;obtain⟨f,g,i⟩:=Dz c.ok d (c.all j) (c.all k) e;exact⟨c.trans f,g,i⟩
theorem yV{a:Type}{l r:List a}{i:Nat}(h:l.drop i=r)(b:i<=l.length):l.length=i+r.length:=by rw [<-h,NH];omega
theorem BQ{ea eb:Bool}{a b:List Int}(X:a.length=b.length)(hl:a.length<=100):∀(f g:List Int) (i:Nat) (M:Mk) (c:Int) (e:List Int),a.drop i=f->b.drop i=g->i<=a.length->Ok M->In M c->(∀x∈f,In M x)->(∀x∈g,In M x)->M.N.length+7 * f.length<=80000->e.length=i->
  Or mU [r0,ab ea a,ab eb b,I c,o3,I (a.length:Int),I (i:Int)] (mW M e)=some (T.ab 1 false (enc (e++ (fJ M c f g).1))::cv (fJ M c f g).2):=by
 intro f;induction f with
 | nil=>
  intro g i M c e B C Q h k D n J j;have m:¬(i:Int) < (a.length:Int):=by have:=bh B;omega
  refine ah ?_;rw [vB];simp only [ai,↓reduceIte,Int.reduceBEq,Int.reduceEq,m,aT,aS,Mw,aR,aO,fJ,MU];rfl
 | cons x f K=>
  intro g i M c e B C Q h k D n J j;obtain⟨E,Y,A⟩:=bp B;cases g with
  | nil=>exact absurd (bh C) (by omega)
  | cons y g=>
   obtain⟨F,Z,G⟩:=bp C;have m:(i:Int) < (a.length:Int):=by omega
   have H:(i:Int) < (b.length:Int):=by omega
   have h0: 0<=(i:Int):=by omega
   have o:=D x Mv;have u:=n y Mv;have st:=xO h k o u;rw [ME] at J;have L:=pD h (by omega) o u;have O:=pD st.p.ok (by have:=st.p.up;omega) st.pi (st.p.In k);have l:=yV A (by omega);have w:=next i (by omega);have P:bg 8 (e.length+1)=some ():=cm (by omega);rw [fJ];dsimp only;cases f with
   | nil=>
    have v:¬((i+1:Nat):Int) < (a.length:Int):=by rw [MS] at l;omega
    have d:=K g (i+1) _ c (e++ [(br (br M x y).2 (br M x y).1 c).1]) A G (by omega) st.q.ok (st.q.In k) (λz d=>by cases d) (st.q.all λz d=>n z (Mx _ d)) (by have:=st.q.up;simp;omega) (by simp [j]);rw [Dy] at d;refine ah ?_;rw [vB];simp only [ai,↓reduceIte,Int.reduceBEq,Int.reduceEq,m,H,h0,and_self,aC,bD E,bD F,L,O,aT,aS,Mw,aR,aO,MC,P,w,v,dP,Pu];rw [MU] at d;exact d
   | cons x2 f=>
    have v:((i+1:Nat):Int) < (a.length:Int):=by rw [ME] at l;omega
    have R:=jN (by have:=st.q.up;omega) (st.q.In o) (st.q.In u);have S:=jN (by have:=st.r.up;omega) ((fK st.q.ok (st.q.In o) (st.q.In u)).1.In ((mK st.p.ok st.pi (st.p.In k)).1.In st.pi)) (st.r.In k);have U:=rA (by have:=st.s.up;omega) st.rs st.si;obtain⟨V,W⟩:=nI st.s.ok st.rs st.si;have t:=st.s.trans V;have d:=K g (i+1) _ _ (e++ [(br (br M x y).2 (br M x y).1 c).1]) A G (by omega) t.ok W (t.all λz d=>D z (Mx _ d)) (t.all λz d=>n z (Mx _ d)) (by have:=t.up;omega) (by simp [j]);refine ah ?_;rw [vB];simp only [ai,↓reduceIte,Int.reduceBEq,Int.reduceEq,m,H,h0,and_self,aC,bD E,bD F,L,O,R,S,U,aT,aS,Mw,aR,aO,MC,P,w,v,dP,Pp];simp only [MY,M5] at d;exact d
theorem C7{M:Mk}(h:Ok M){ea eb:Bool}{a b:List Int}(j:a.length=b.length)(hl:a.length<=100)(G:∀x∈a,In M x)(H:∀x∈b,In M x)(O:M.N.length<=70000):
  Or (.call 70) [r0,ab ea a,ab eb b] (cS M)=some (LO (dv M a b).1::cv (dv M a b).2):=by
 have J:=kF (show M.N.length<=100000 by omega) false;obtain⟨l,V⟩:=ic h false;have g:Or mU [r0,ab ea a,ab eb b,I (cI M false).1,AV.t (T.af true),I (a.length:Int),I 0] (pY (cI M false).2)=some (LO (dv M a b).1::cv (dv M a b).2):=by
  unfold dv;have A:(cI M false).2.N.length<=70001:=by have:=l.up;omega
  revert V;generalize (cI M false).1=c;have f:=l.all G;have e:=l.all H;have n:=l.ok;revert f e n A;generalize (cI M false).2=m;intro A f e n k;clear J l G H h O M;cases a with
  | nil=>refine ah ?_;rw [vA];simp only [ai,↓reduceIte,Int.reduceBEq,Int.reduceEq,aT,aS,Mw,aR,aO,fJ,MS,M4,Na,decide_false];rfl
  | cons x i=>
   cases b with
   | nil=>cases j
   | cons y v=>
    have o:=f x Mv;have u:=e y Mv;have st:=xO n k o u;rw [ME] at hl;have K:=pD n (by omega) o u;have L:=pD st.p.ok (by have:=st.p.up;omega) st.pi (st.p.In k);have E:(0:Int) < (((x::i).length:Nat):Int):=by simp
    have F:(0:Int) < (((y::v).length:Nat):Int):=by simp
    have h0:(0:Int)<=0:=by omega
    have C:(enc (x::i))[(0:Int).toNat]? =some [ti x]:=rfl;have D:(enc (y::v))[(0:Int).toNat]? =some [ti y]:=rfl;have w:i64.wrap (0+1)= ((1:Nat):Int):=by decide
    rw [fJ];dsimp only;cases i with
    | nil=>
     have B:¬((1:Nat):Int) < ((([x]:List Int).length:Nat):Int):=by simp
     have d:=BQ (ea:=ea) (eb:=eb) j (by omega) [] v 1 _ c [(br (br m x y).2 (br m x y).1 c).1] rfl rfl (by simp) st.q.ok (st.q.In k) (λz d=>by cases d) (st.q.all λz d=>e z (Mx _ d)) (by have:=st.q.up;simp;omega) rfl;rw [Dy] at d;refine ah ?_;rw [vA];simp only [ai,↓reduceIte,Int.reduceBEq,Int.reduceEq,E,F,h0,and_self,aC,C,D,K,L,aT,aS,Mw,aR,aO,w,B,Pu];exact d
     | cons x2 i=>
     have B:((1:Nat):Int) < (((x::x2::i).length:Nat):Int):=by simp;omega
     have P:=jN (by have:=st.q.up;omega) (st.q.In o) (st.q.In u);have Q:=jN (by have:=st.r.up;omega) ((fK st.q.ok (st.q.In o) (st.q.In u)).1.In ((mK st.p.ok st.pi (st.p.In k)).1.In st.pi)) (st.r.In k);have R:=rA (by have:=st.s.up;omega) st.rs st.si;obtain⟨S,U⟩:=nI st.s.ok st.rs st.si;have t:=st.s.trans S;have d:=BQ (ea:=ea) (eb:=eb) j (by rw [ME];omega) (x2::i) v 1 _ _ [(br (br m x y).2 (br m x y).1 c).1] rfl rfl (by simp) t.ok U (t.all λz d=>f z (Mx _ d)) (t.all λz d=>e z (Mx _ d)) (by have:=t.up;omega) rfl;refine ah ?_;rw [vA];simp only [ai,↓reduceIte,Int.reduceBEq,Int.reduceEq,E,F,h0,and_self,aC,C,D,K,L,P,Q,R,aT,aS,Mw,aR,aO,w,B,Pp];exact d
 generalize W:LO (dv M a b).1::cv (dv M a b).2=r at g;refine ah ?_;rw [Gc];simp only [ai,↓reduceIte,Int.reduceBEq,Int.reduceEq,J,aT,aS,Mw,aR,aO,aC];exact g
open Go Go.Aev Go.IntKind
abbrev DV(M:Mk)(a:List Int):List ad:= [ad.box [o1,o2],ad.rows M.N.isEmpty 5 1 1 M.N.length (rows M.N),ad.mp false [Ck.s] (Ck.i .i64) (bV M.K),ad.sl false 1 false (enc a)]
def eG(M:Mk)(a:List Int)(n:Int):Nat->Nat->List Int×Mk
 | _,0=>([],M)
 | i,k+1=>if(i:Int) < n then((cI M false).1:: (eG (cI M false).2 a n (i+1) k).1,(eG (cI M false).2 a n (i+1) k).2)
  else(a.getD ((i:Int) - n).toNat 0:: (eG M a n (i+1) k).1,(eG M a n (i+1) k).2)
def bq(M:Mk)(a:List Int)(n:Int):List Int×Mk:=eG M a n 0 a.length
theorem Hy{a:List Int}{P:Int->Prop}(c:∀x∈a,P x){k:Nat}(b:k < a.length):P (a.getD k 0):=by rw [MT,MJ b];exact c _ (O7 b)
theorem wL{a:List Int}{n:Int}(l: 0<=n):∀{k i:Nat} {M:Mk},Ok M->(∀x∈a,In M x)->i+k=a.length->
  Up M (eG M a n i k).2 k/\(∀x∈(eG M a n i k).1,In (eG M a n i k).2 x)/\(eG M a n i k).1.length=k
 | 0,i,M,h,_,_=>⟨Up.refl h,λx o=>(by cases o),rfl⟩
 | k+1,i,M,h,j,e=>by
  rw [eG];split
  .obtain⟨d,m⟩:=ic h false;obtain⟨c,f,g⟩:=wL l (k:=k) (i:=i+1) d.ok (d.all j) (by omega);refine⟨(d.trans c).mono (by omega),λz b=> ?_,by simp [g]⟩;rcases MN.1 b with rfl | b
   .exact c.In m
   .exact f z b
  .obtain⟨c,f,g⟩:=wL l (k:=k) (i:=i+1) h j (by omega);refine⟨c.mono (by omega),λz b=> ?_,by simp [g]⟩;rcases MN.1 b with rfl | b
   .exact c.In (Hy j (by omega))
   .exact f z b
theorem qI{M:Mk}{a:List Int}{n:Int}(c: 0<=n)(h:Ok M)(b:∀x∈a,In M x):
  Up M (bq M a n).2 a.length/\(∀x∈(bq M a n).1,In (bq M a n).2 x)/\(bq M a n).1.length=a.length:=wL c h b (Nc _)
theorem I8{ea:Bool}{a:List Int}{n:Int}(v: 0<=n)(u:n<=1000)(hl:a.length<=100):∀(k i:Nat) (M:Mk) (b:List Int),i+k=a.length->Ok M->M.N.length+k<=80000->b.length=i->
  Or ix [r0,ab ea a,I n,o3,I (a.length:Int),I (i:Int)] (mW M b)=some (T.ab 1 false (enc (b++ (eG M a n i k).1))::cv (eG M a n i k).2):=by
 intro k;induction k with
 | zero=>
  intro i M b r h p c;have e:¬(i:Int) < (a.length:Int):=by omega
  refine ah ?_;rw [vD];simp only [ai,↓reduceIte,Int.reduceBEq,Int.reduceEq,e,aT,aS,Mw,aR,aO,eG,MU];rfl
 | succ k j=>
  intro i M b r h p c;have e:(i:Int) < (a.length:Int):=by omega
  have w:=next i (by omega);have l:bg 8 (b.length+1)=some ():=cm (by omega);rw [eG];by_cases f:(i:Int) < n
  .have s:=kF (show M.N.length<=100000 by omega) false;obtain⟨m,x⟩:=ic h false;have d:=j (i+1) _ (b++ [(cI M false).1]) (by omega) m.ok (by have:=m.up;omega) (by simp [c]);rw [if_pos f];simp only [MY,M5] at d;refine ah ?_;rw [vD];simp only [ai,↓reduceIte,Int.reduceBEq,Int.reduceEq,e,f,s,aT,aS,Mw,aR,aO,aC,MC,l,w,dP];exact d
  .have t:i64.wrap ((i:Int) - n)= (i:Int) - n:=wr (by omega);have o: 0<=(i:Int) - n/\(i:Int) - n < (a.length:Int):=by omega
   have g:((i:Int) - n).toNat < a.length:=by omega
   have q:(enc a)[((i:Int) - n).toNat]? =some [ti (a.getD ((i:Int) - n).toNat 0)]:=by refine eB ?_;rw [MT,MJ g];rfl
   have d:=j (i+1) M (b++ [a.getD ((i:Int) - n).toNat 0]) (by omega) h (by omega) (by simp [c]);rw [if_neg f];simp only [MY,M5] at d;refine ah ?_;rw [vD];simp only [ai,↓reduceIte,Int.reduceBEq,Int.reduceEq,e,f,t,o,and_self,q,aT,aS,Mw,aR,aO,aC,MC,l,w,dP];exact d
theorem I9{ea:Bool}{a:List Int}{n:Int}(s: 0<=n)(r:n<=1000)(hl:a.length<=100):∀(k i:Nat) (M:Mk) (b:List Int),i+k=a.length->n<=(i:Int)->b.length=i->
  Or ix [r0,ab ea a,I n,o3,I (a.length:Int),I (i:Int)] (DV M b)=some (T.ab 1 false (enc (b++ (eG M a n i k).1))::cv (eG M a n i k).2):=by
 intro k;induction k with
 | zero=>
  intro i M b m h c;have e:¬(i:Int) < (a.length:Int):=by omega
  refine ah ?_;rw [zU];simp only [ai,↓reduceIte,Int.reduceBEq,Int.reduceEq,e,aT,aS,Mw,aR,aO,eG,MU];rfl
 | succ k o=>
  intro i M b m h c;have e:(i:Int) < (a.length:Int):=by omega
  have w:=next i (by omega);have p:bg 8 (b.length+1)=some ():=cm (by omega);rw [eG];have d:¬(i:Int) < n:=by omega
  have q:i64.wrap ((i:Int) - n)= (i:Int) - n:=wr (by omega);have j: 0<=(i:Int) - n/\(i:Int) - n < (a.length:Int):=by omega
  have f:((i:Int) - n).toNat < a.length:=by omega
  have l:(enc a)[((i:Int) - n).toNat]? =some [ti (a.getD ((i:Int) - n).toNat 0)]:=by refine eB ?_;rw [MT,MJ f];rfl
  have g:=o (i+1) M (b++ [a.getD ((i:Int) - n).toNat 0]) (by omega) (by omega) (by simp [c]);rw [if_neg d];simp only [MY,M5] at g;refine ah ?_;rw [zU];simp only [ai,↓reduceIte,Int.reduceBEq,Int.reduceEq,e,d,q,j,and_self,l,aT,aS,Mw,aR,aO,aC,MC,p,w,dP];exact g
theorem xA{M:Mk}(h:Ok M){ea:Bool}{a:List Int}{n:Int}(j: 0<=n)(e:n<=1000)(hl:a.length<=100)(s:M.N.length<=70000):
  Or (.call 72) [r0,ab ea a,I n] (cS M)=some (LO (bq M a n).1::cv (bq M a n).2):=by
 have c:Or ix [r0,ab ea a,I n,AV.t (T.af true),I (a.length:Int),I 0] (cS M)=some (LO (bq M a n).1::cv (bq M a n).2):=by
  unfold bq;cases a with
  | nil=>refine ah ?_;rw [vC];simp only [ai,↓reduceIte,Int.reduceBEq,Int.reduceEq,aT,aS,Mw,aR,aO,eG,MS,M4,Na,decide_false];rfl
  | cons x b=>
   rw [ME] at hl;have i:(0:Int) < (((x::b).length:Nat):Int):=by simp
   have w:i64.wrap (0+1)= ((1:Nat):Int):=by decide
   rw [show eG M (x::b) n 0 (x::b).length=eG M (x::b) n 0 (b.length+1) from rfl,eG];by_cases f:(0:Int) < n
   .have p:=kF (show M.N.length<=100000 by omega) false;obtain⟨k,v⟩:=ic h false;have g:=I8 (ea:=ea) (a:=x::b) j e (by rw [ME];omega) b.length 1 _ [(cI M false).1] (by rw [ME];omega) k.ok (by have:=k.up;omega) rfl;have d:((0:Nat):Int) < n:=f;rw [if_pos d];refine ah ?_;rw [vC];simp only [ai,↓reduceIte,Int.reduceBEq,Int.reduceEq,i,f,p,aT,aS,Mw,aR,aO,w];exact g
   .have l:n=0:=by omega
    subst l;have q:i64.wrap (0 - 0)=0:=by decide
    have m:(0:Int)<=0:=by omega
    have o:(enc (x::b))[(0:Int).toNat]? =some [ti x]:=rfl;have g:=I9 (ea:=ea) (a:=x::b) (n:=0) j e (by rw [ME];omega) b.length 1 M [x] (by rw [ME];omega) (by omega) rfl;have d:¬((0:Nat):Int) < 0:=by omega
    rw [if_neg d];refine ah ?_;rw [vC];simp only [ai,↓reduceIte,Int.reduceBEq,Int.reduceEq,i,f,q,m,and_self,o,aC,aT,aS,Mw,aR,aO,w];exact g
 generalize u:LO (bq M a n).1::cv (bq M a n).2=r at c;refine ah ?_;rw [Gf];simp only [ai,↓reduceIte,Int.reduceBEq,Int.reduceEq,aT,aS,Mw,aR,aO,aC];exact c
def cy(M:Mk)(x:Int):List Int->List Int×Mk
 | y::l=>((cf M x y).1:: (cy (cf M x y).2 x l).1,(cy (cf M x y).2 x l).2)
 | []=>([],M)
def iv(M:Mk)(a out:List Int):Nat->List Int->List Int×Mk
 | i,x::b=>
  let l:=bq M a (i:Int);let p:=cy l.2 x l.1;let s:=dv p.2 out p.1
  iv s.2 a s.1 (i+1) b
 | _,[]=>(out,M)
def iS(M:Mk)(a b:List Int):List Int×Mk:=iv (bq M a (a.length:Int)).2 a (bq M a (a.length:Int)).1 0 b
theorem Cb{x:Int}:∀{l:List Int} {M:Mk},Ok M->In M x->(∀y∈l,In M y)->
  Up M (cy M x l).2 l.length/\(∀y∈(cy M x l).1,In (cy M x l).2 y)/\(cy M x l).1.length=l.length
 | [],M,h,_,_=>⟨Up.refl h,λx c=>(by cases c),rfl⟩
 | y::l,M,h,c,hl=>by
  obtain⟨b,e⟩:=fK h c (hl y Mv);obtain⟨d,f,g⟩:=Cb (l:=l) b.ok (b.In c) (b.all λz a=>hl z (Mx _ a));refine⟨(b.trans d).mono (by rw [ME];omega),λz a=> ?_,by simp [cy,g]⟩;rcases MN.1 a with rfl | a
  .exact d.In e
  .exact f z a
structure DX (M:Mk) (a out:List Int) (i:Nat) (x:Int):Prop where
 l:Up M (bq M a (i:Int)).2 a.length
 li:∀y∈(bq M a (i:Int)).1,In (bq M a (i:Int)).2 y
 ll:(bq M a (i:Int)).1.length=a.length
 p:Up M (cy (bq M a (i:Int)).2 x (bq M a (i:Int)).1).2 (2 * a.length)
 pi:∀y∈(cy (bq M a (i:Int)).2 x (bq M a (i:Int)).1).1,In (cy (bq M a (i:Int)).2 x (bq M a (i:Int)).1).2 y
 pl:(cy (bq M a (i:Int)).2 x (bq M a (i:Int)).1).1.length=a.length
 s:Up M (dv (cy (bq M a (i:Int)).2 x (bq M a (i:Int)).1).2 out (cy (bq M a (i:Int)).2 x (bq M a (i:Int)).1).1).2 (9 * a.length+1)
 si:∀y∈(dv (cy (bq M a (i:Int)).2 x (bq M a (i:Int)).1).2 out (cy (bq M a (i:Int)).2 x (bq M a (i:Int)).1).1).1,In (dv (cy (bq M a (i:Int)).2 x (bq M a (i:Int)).1).2 out (cy (bq M a (i:Int)).2 x (bq M a (i:Int)).1).1).2 y
 sl:(dv (cy (bq M a (i:Int)).2 x (bq M a (i:Int)).1).2 out (cy (bq M a (i:Int)).2 x (bq M a (i:Int)).1).1).1.length=a.length
theorem DD{M:Mk}(h:Ok M){a out:List Int}(m:∀y∈a,In M y)(ho:∀y∈out,In M y)(c:out.length=a.length)(i:Nat){x:Int}(o:In M x):DX M a out i x:=by obtain⟨b,e,f⟩:=qI (n:=(i:Int)) (by omega) h m;obtain⟨g,j,d⟩:=Cb b.ok (b.In o) e;rw [f] at g d;have p:=(b.trans g).mono (show a.length+a.length<=2 * a.length by omega);obtain⟨k,q,l⟩:=Dx p.ok (p.all ho) j (by rw [c,d]);rw [c] at k l;exact⟨b,e,f,p,j,d,(p.trans k).mono (by omega),q,l⟩
theorem DC{a:List Int}:∀{b:List Int} {i:Nat} {M:Mk} {out:List Int},Ok M->(∀y∈a,In M y)->(∀y∈b,In M y)->(∀y∈out,In M y)->out.length=a.length->
  Up M (iv M a out i b).2 ((9 * a.length+1) * b.length)/\(∀y∈(iv M a out i b).1,In (iv M a out i b).2 y)/\(iv M a out i b).1.length=a.length
 | [],i,M,out,h,_,_,ho,hl=>⟨(Up.refl h).mono (by omega),ho,hl⟩
 | x::b,i,M,out,h,c,d,ho,hl=>by have st:=DD h c ho hl i (d x Mv);obtain⟨e,f,g⟩:=DC (a:=a) (b:=b) (i:=i+1) st.s.ok (st.s.all c) (st.s.all λz j=>d z (Mx _ j)) st.si st.sl;exact⟨(st.s.trans e).mono (by rw [ME,Nat.mul_add];omega),f,g⟩
theorem L4{M:Mk}(h:Ok M){a b:List Int}(d:∀y∈a,In M y)(j:∀y∈b,In M y):
  Up M (iS M a b).2 (a.length+ (9 * a.length+1) * b.length)/\(∀y∈(iS M a b).1,In (iS M a b).2 y)/\(iS M a b).1.length=a.length:=by
 obtain⟨c,k,l⟩:=qI (n:=(a.length:Int)) (by omega) h d;obtain⟨e,f,g⟩:=DC (a:=a) (b:=b) (i:=0) c.ok (c.all d) (c.all j) k l;exact⟨c.trans e,f,g⟩
theorem I7{ea eo eb el:Bool}{a out b l:List Int}{x:Int}{i:Nat}(hl:l.length<=100)(E:out.length=l.length)(G:i<=100){r:List T}:∀(rl:List Int) (j:Nat) (M:Mk) (c:List Int),l.drop j=rl->j<=l.length->Ok M->In M x->(∀y∈rl,In M y)->(∀y∈out,In M y)->(∀y∈c,In M y)->M.N.length+rl.length<=60000->c.length=j->
  Or oa [r0,ab ea a,ab (dv (cy M x rl).2 out (c++ (cy M x rl).1)).1.isEmpty (dv (cy M x rl).2 out (c++ (cy M x rl).1)).1,ab eb b,I (b.length:Int),I ((i+1:Nat):Int)] (pY (dv (cy M x rl).2 out (c++ (cy M x rl).1)).2)=some r->
  Or mV [r0,ab ea a,ab eo out,I x,o3,ab eb b,I (b.length:Int),I (i:Int),ab el l,I (l.length:Int),I (j:Int)] (mW M c)=some r:=by
 intro rl;induction rl with
 | nil=>
  intro j M c m w h n hrl ho d q o f;have p:¬(j:Int) < (l.length:Int):=by have:=bh m;omega
  have D:j=l.length:=by have:=bh m;omega
  rw [cy,MU] at f;have s:=C7 (ea:=eo) (eb:=false) h (a:=out) (b:=c) (by omega) (by omega) ho d (by simp at q;omega);refine ah ?_;rw [zT];simp only [ai,↓reduceIte,Int.reduceBEq,Int.reduceEq,p,s,aT,aS,Mw,aR,aO,cx,next i (by omega)];exact f
 | cons y rl A=>
  intro j M c m w h n hrl ho d q o f;obtain⟨u,F,v⟩:=bp m;have p:(j:Int) < (l.length:Int):=by omega
  have h0: 0<=(j:Int):=by omega
  have t:=hrl y Mv;rw [ME] at q;have s:=jN (show M.N.length<=100000 by omega) n t;obtain⟨e,C⟩:=fK h n t;have B:bg 8 (c.length+1)=some ():=cm (by omega);have k:=A (j+1) _ (c++ [(cf M x y).1]) v (by omega) e.ok (e.In n) (e.all λz k=>hrl z (Mx _ k)) (e.all ho) (λz k=> ?_) (by have:=e.up;omega) (by simp [o]) (by
   rw [cy] at f;simpa only [MY,M5] using f)
  .refine ah ?_;rw [zT];simp only [ai,↓reduceIte,Int.reduceBEq,Int.reduceEq,p,h0,and_self,aC,bD u,s,aT,aS,Mw,aR,aO,MC,B,next j (by omega),dP];exact k
  .rcases MQ.1 k with g | g
   .exact e.In (d z g)
   .simp only [MI] at g;subst g;exact C
theorem I6{ea eb:Bool}{a b:List Int}(V: 1<=a.length)(hl:a.length<=8)(W:b.length<=8):∀(c:List Int) (i:Nat) (M:Mk) (out:List Int),b.drop i=c->i<=b.length->Ok M->(∀y∈a,In M y)->(∀y∈c,In M y)->(∀y∈out,In M y)->out.length=a.length->M.N.length+100 * c.length<=50000->
  Or oa [r0,ab ea a,ab out.isEmpty out,ab eb b,I (b.length:Int),I (i:Int)] (pY M)=some (T.ab 1 (iv M a out i c).1.isEmpty (enc (iv M a out i c).1)::cv (iv M a out i c).2):=by
 intro c;induction c with
 | nil=>
  intro i M out q L h j u ho o v;have r:¬(i:Int) < (b.length:Int):=by have:=bh q;omega
  rw [iv];refine ah ?_;rw [zS];simp only [ai,↓reduceIte,Int.reduceBEq,Int.reduceEq,r,aT,aS,Mw,aR,aO];rfl
 | cons x c P=>
  intro i M out q L h j u ho o v;obtain⟨E,X,F⟩:=bp q;have r:(i:Int) < (b.length:Int):=by omega
  have h0: 0<=(i:Int):=by omega
  have C:=u x Mv;rw [ME] at v;have st:=DD h j ho o i C;have Q:=xA (ea:=ea) h (a:=a) (n:=(i:Int)) h0 (by omega) (by omega) (by omega);rw [iv];have d:=P (i+1) _ _ F (by omega) st.s.ok (st.s.all j) (st.s.all λz d=>u z (Mx _ d)) st.si st.sl (by have:=st.s.up;omega)
  have A:Or mV [r0,ab ea a,ab out.isEmpty out,I x,AV.t (T.af true),ab eb b,I (b.length:Int),I (i:Int),ab (bq M a (i:Int)).1.isEmpty (bq M a (i:Int)).1,I ((bq M a (i:Int)).1.length:Int),I 0] (pY (bq M a (i:Int)).2)=
    some (T.ab 1 (iv (dv (cy (bq M a (i:Int)).2 x (bq M a (i:Int)).1).2 out (cy (bq M a (i:Int)).2 x (bq M a (i:Int)).1).1).2 a (dv (cy (bq M a (i:Int)).2 x (bq M a (i:Int)).1).2 out (cy (bq M a (i:Int)).2 x (bq M a (i:Int)).1).1).1 (i+1) c).1.isEmpty (enc (iv (dv (cy (bq M a (i:Int)).2 x (bq M a (i:Int)).1).2 out (cy (bq M a (i:Int)).2 x (bq M a (i:Int)).1).1).2 a (dv (cy (bq M a (i:Int)).2 x (bq M a (i:Int)).1).2 out (cy (bq M a (i:Int)).2 x (bq M a (i:Int)).1).1).1 (i+1) c).1)::
     cv (iv (dv (cy (bq M a (i:Int)).2 x (bq M a (i:Int)).1).2 out (cy (bq M a (i:Int)).2 x (bq M a (i:Int)).1).1).2 a (dv (cy (bq M a (i:Int)).2 x (bq M a (i:Int)).1).2 out (cy (bq M a (i:Int)).2 x (bq M a (i:Int)).1).1).1 (i+1) c).2):=by
   obtain⟨e,k,m⟩:=qI (n:=(i:Int)) (by omega) h j;revert d e k m;generalize (bq M a (i:Int)).1=l;generalize (bq M a (i:Int)).2=p;intro d e k m;have U:p.N.length<=50010:=by have:=e.up;omega
   have f:=e.In C;have B:=e.all ho;have G:=e.ok;cases l with
   | nil=>rw [MS] at m;omega
   | cons y rl=>
    rw [ME] at m;have D:=k y Mv;have R:=jN (show p.N.length<=100000 by omega) f D;obtain⟨g,S⟩:=fK G f D;have H:(0:Int) < (((y::rl).length:Nat):Int):=by simp
    have J:(0:Int)<=0:=by omega
    have K:(enc (y::rl))[(0:Int).toNat]? =some [ti y]:=rfl;have w:i64.wrap (0+1)= ((1:Nat):Int):=by decide
    have O:=I7 (ea:=ea) (eo:=out.isEmpty) (eb:=eb) (el:=false) (a:=a) (out:=out) (b:=b) (l:=y::rl) (x:=x) (i:=i) (by rw [ME];omega) (by rw [ME];omega) (by omega) rl 1 _ [(cf p x y).1] rfl (by simp) g.ok (g.In f) (g.all λz d=>k z (Mx _ d)) (g.all B) (λz d=>by simp only [MI] at d;subst d;exact S) (by have:=g.up;omega) rfl d;refine ah ?_;rw [Ge];simp only [ai,↓reduceIte,Int.reduceBEq,Int.reduceEq,H,J,and_self,aC,K,R,aT,aS,Mw,aR,aO,w,Pp];exact O
  refine ah ?_;rw [zS];simp only [ai,↓reduceIte,Int.reduceBEq,Int.reduceEq,r,h0,and_self,aC,bD E,Q,aT,aS,Mw,aR,aO,cx];exact A
theorem KX{M:Mk}(h:Ok M){ea eb:Bool}{a b:List Int}(e: 1<=a.length)(hl:a.length<=8)(f:b.length<=8)(d:∀y∈a,In M y)(g:∀y∈b,In M y)(m:M.N.length<=40000):
  Or (.call 71) [r0,ab ea a,ab eb b] (cS M)=some (T.ab 1 (iS M a b).1.isEmpty (enc (iS M a b).1)::cv (iS M a b).2):=by
 have j:=xA (ea:=ea) h (a:=a) (n:=(a.length:Int)) (by omega) (by omega) (by omega) (by omega);obtain⟨c,k,l⟩:=qI (n:=(a.length:Int)) (by omega) h d;have i:=I6 (ea:=ea) (eb:=eb) e hl f b 0 _ _ rfl (by omega) c.ok (c.all d) (c.all g) k l (by have:=c.up;omega);unfold iS;refine ah ?_;rw [Gd];simp only [ai,↓reduceIte,Int.reduceBEq,Int.reduceEq,j,aT,aS,Mw,aR,aO,cx,aC];exact i
def kz(M:Mk)(c:Int):List Int->List Int->Int×Mk
 | x::a,y::b=>
  let n:=gq M x;let p:=cf n.2 n.1 y;let q:=dE p.2 x y;let s:=cf q.2 q.1 c;let t:=dQ s.2 p.1 s.1
  kz t.2 t.1 a b
 | _,_=>(c,M)
def kx(M:Mk)(a b:List Int):Int×Mk:=kz (cI M false).2 (cI M false).1 a b
theorem HQ(M:Mk)(c:Int)(b:List Int):kz M c [] b= (c,M):=by simp [kz]
theorem Ja{ea eb:Bool}{a b:List Int}(hab:a.length=b.length)(hl:a.length<=100):∀(d e:List Int) (i:Nat) (M:Mk) (c:Int),a.drop i=d->b.drop i=e->i<=a.length->Ok M->In M c->(∀x∈d,In M x)->(∀x∈e,In M x)->M.N.length+5 * d.length<=80000->
  Or uH [r0,ab ea a,ab eb b,I c,I (a.length:Int),I (i:Int)] (pY M)=some (ti (kz M c d e).1::cv (kz M c d e).2)/\Up M (kz M c d e).2 (5 * d.length)/\In (kz M c d e).2 (kz M c d e).1:=by
 intro d;induction d with
 | nil=>
  intro e i M c l m L h g o r A;have n:¬(i:Int) < (a.length:Int):=by have:=bh l;omega
  rw [HQ];refine⟨ah ?_,Up.refl h,g⟩;rw [zV];simp only [ai,↓reduceIte,Int.reduceBEq,Int.reduceEq,n,aT,aS,Mw,aR,aO];rfl
 | cons x d O=>
  intro e i M c l m L h g o r A;obtain⟨F,g2,G⟩:=bp l;cases e with
  | nil=>exact absurd (bh m) (by omega)
  | cons y e=>
   obtain⟨H,g5,J⟩:=bp m;have n:(i:Int) < (a.length:Int):=by omega
   have K:(i:Int) < (b.length:Int):=by omega
   have h0: 0<=(i:Int):=by omega
   have j:=o x Mv;have k:=r y Mv;rw [ME] at A;obtain⟨f,B⟩:=nG h j;obtain⟨U,C⟩:=fK f.ok B (f.In k);have p:=f.trans U;obtain⟨v,D⟩:=nA p.ok (p.In j) (p.In k);have q:=p.trans v;obtain⟨w,E⟩:=fK q.ok D (q.In g);have s:=q.trans w;obtain⟨V,W⟩:=nI s.ok ((v.trans w).In C) E;have t:=s.trans V;have P:=pC h (by omega) j;have Q:=jN (by have:=f.up;omega) B (f.In k);have R:=ue p.ok (by have:=p.up;omega) (p.In j) (p.In k);have S:=jN (by have:=q.up;omega) D (q.In g);have T:=rA (by have:=s.up;omega) ((v.trans w).In C) E;obtain⟨X,Y,Z⟩:=O e (i+1) _ _ G J (by omega) t.ok W (t.all λz u=>o z (Mx _ u)) (t.all λz u=>r z (Mx _ u)) (by have:=t.up;omega);rw [kz];refine⟨ah ?_,(t.trans Y).mono (by rw [ME];omega),Z⟩;rw [zV];simp only [ai,↓reduceIte,Int.reduceBEq,Int.reduceEq,n,K,h0,and_self,aC,bD F,bD H,P,Q,R,S,T,aT,aS,Mw,aR,aO,next i (by omega)];exact X
theorem C8{M:Mk}(h:Ok M){ea eb:Bool}{a b:List Int}(d:a.length=b.length)(hl:a.length<=100)(e:∀x∈a,In M x)(f:∀x∈b,In M x)(m:M.N.length<=70000):
  Or (.call 73) [r0,ab ea a,ab eb b] (cS M)=some (ti (kx M a b).1::cv (kx M a b).2)/\Up M (kx M a b).2 (1+5 * a.length)/\In (kx M a b).2 (kx M a b).1:=by
 have g:=kF (show M.N.length<=100000 by omega) false;obtain⟨c,i⟩:=ic h false;obtain⟨j,k,l⟩:=Ja (ea:=ea) (eb:=eb) d hl a b 0 _ _ rfl rfl (by omega) c.ok i (c.all e) (c.all f) (by have:=c.up;omega);unfold kx;refine⟨ah ?_,c.trans k,l⟩;rw [Gg];simp only [ai,↓reduceIte,Int.reduceBEq,Int.reduceEq,g,aT,aS,Mw,aR,aO,aC];exact j
theorem I2{ea eb:Bool}{a b:List Int}(E:a.length=b.length)(hl:a.length<=100):∀(e d:List Int) (i:Nat) (M:Mk) (c:List Int),a.drop i=e->b.drop i=d->i<=a.length->Ok M->(∀x∈e,In M x)->(∀x∈d,In M x)->M.N.length+2 * e.length<=80000->c.length=i->
  Or dy [ab ea a,ab eb b,AV.fn 67 [r0] [],o3,I (a.length:Int),I (i:Int)] (mW M c)=some (T.ab 1 false (enc (c++ (aU cf M e d).1))::cv (aU cf M e d).2):=by
 intro e;induction e with
 | nil=>
  intro d i M c k l A h n o p g;have m:¬(i:Int) < (a.length:Int):=by have:=bh k;omega
  refine ah ?_;rw [zP];simp only [ai,↓reduceIte,Int.reduceBEq,Int.reduceEq,m,aT,aS,Mw,aR,aO,aU,MU];rfl
 | cons x e B=>
  intro d i M c k l A h n o p g;obtain⟨s,F,t⟩:=bp k;cases d with
  | nil=>exact absurd (bh l) (by omega)
  | cons y d=>
   obtain⟨u,G,v⟩:=bp l;have m:(i:Int) < (a.length:Int):=by omega
   have w:(i:Int) < (b.length:Int):=by omega
   have h0: 0<=(i:Int):=by omega
   have q:=n x Mv;have r:=o y Mv;rw [ME] at p;have C:=jN (show M.N.length<=100000 by omega) q r;obtain⟨j,H⟩:=fK h q r;have D:bg 8 (c.length+1)=some ():=cm (by omega);have f:=B d (i+1) _ (c++ [(cf M x y).1]) t v (by omega) j.ok (j.all λz f=>n z (Mx _ f)) (j.all λz f=>o z (Mx _ f)) (by have:=j.up;omega) (by simp [g]);simp only [MY,M5] at f;rw [aU];refine ah ?_;rw [zP];simp only [ai,↓reduceIte,Int.reduceBEq,Int.reduceEq,m,w,h0,and_self,aC,bD s,bD u,C,aT,aS,Mw,aR,aO,MC,D,next i (by omega),dP];exact f
theorem KS{M:Mk}(h:Ok M){ea eb:Bool}{a b:List Int}(f:a.length=b.length)(hl:a.length<=100)(j:∀x∈a,In M x)(k:∀x∈b,In M x)(v:M.N.length<=70000):
  Or (.call 63) [ab ea a,ab eb b,AV.fn 67 [r0] []] (cS M)=some (LO (aU cf M a b).1::cv (aU cf M a b).2):=by
 have c:Or dy [ab ea a,ab eb b,AV.fn 67 [r0] [],AV.t (T.af true),I (a.length:Int),I 0] (cS M)=some (LO (aU cf M a b).1::cv (aU cf M a b).2):=by
  cases a with
  | nil=>refine ah ?_;rw [zK];simp only [ai,↓reduceIte,Int.reduceBEq,Int.reduceEq,aT,aS,Mw,aR,aO,aU,MS,M4,Na,decide_false];rfl
  | cons x g=>
   cases b with
   | nil=>cases f
   | cons y i=>
    have m:=j x Mv;have n:=k y Mv;have u:=jN (show M.N.length<=100000 by omega) m n;obtain⟨e,B⟩:=fK h m n;have q:(0:Int) < (((x::g).length:Nat):Int):=by simp
    have s:(0:Int) < (((y::i).length:Nat):Int):=by simp
    have h0:(0:Int)<=0:=by omega
    have o:(enc (x::g))[(0:Int).toNat]? =some [ti x]:=rfl;have p:(enc (y::i))[(0:Int).toNat]? =some [ti y]:=rfl;have w:i64.wrap (0+1)= ((1:Nat):Int):=by decide
    have l:=hl;rw [ME] at l;have d:=I2 (ea:=ea) (eb:=eb) f hl g i 1 _ [(cf M x y).1] rfl rfl (by simp) e.ok (e.all λz d=>j z (Mx _ d)) (e.all λz d=>k z (Mx _ d)) (by have:=e.up;omega) rfl;rw [aU];refine ah ?_;rw [zK];simp only [ai,↓reduceIte,Int.reduceBEq,Int.reduceEq,q,s,h0,and_self,aC,o,p,u,aT,aS,Mw,aR,aO,w];exact d
 generalize A:LO (aU cf M a b).1::cv (aU cf M a b).2=r at c;refine ah ?_;rw [F2];simp only [ai,↓reduceIte,Int.reduceBEq,Int.reduceEq,aT,aS,Mw,aR,aO,aC];exact c
theorem I3{ea eb:Bool}{a b:List Int}(E:a.length=b.length)(hl:a.length<=100):∀(e d:List Int) (i:Nat) (M:Mk) (c:List Int),a.drop i=e->b.drop i=d->i<=a.length->Ok M->(∀x∈e,In M x)->(∀x∈d,In M x)->M.N.length+2 * e.length<=80000->c.length=i->
  Or dy [ab ea a,ab eb b,AV.fn 68 [r0] [],o3,I (a.length:Int),I (i:Int)] (mW M c)=some (T.ab 1 false (enc (c++ (aU dQ M e d).1))::cv (aU dQ M e d).2):=by
 intro e;induction e with
 | nil=>
  intro d i M c k l A h n o p g;have m:¬(i:Int) < (a.length:Int):=by have:=bh k;omega
  refine ah ?_;rw [zQ];simp only [ai,↓reduceIte,Int.reduceBEq,Int.reduceEq,m,aT,aS,Mw,aR,aO,aU,MU];rfl
 | cons x e B=>
  intro d i M c k l A h n o p g;obtain⟨s,F,t⟩:=bp k;cases d with
  | nil=>exact absurd (bh l) (by omega)
  | cons y d=>
   obtain⟨u,G,v⟩:=bp l;have m:(i:Int) < (a.length:Int):=by omega
   have w:(i:Int) < (b.length:Int):=by omega
   have h0: 0<=(i:Int):=by omega
   have q:=n x Mv;have r:=o y Mv;rw [ME] at p;have C:=rA (show M.N.length<=100000 by omega) q r;obtain⟨j,H⟩:=nI h q r;have D:bg 8 (c.length+1)=some ():=cm (by omega);have f:=B d (i+1) _ (c++ [(dQ M x y).1]) t v (by omega) j.ok (j.all λz f=>n z (Mx _ f)) (j.all λz f=>o z (Mx _ f)) (by have:=j.up;omega) (by simp [g]);simp only [MY,M5] at f;rw [aU];refine ah ?_;rw [zQ];simp only [ai,↓reduceIte,Int.reduceBEq,Int.reduceEq,m,w,h0,and_self,aC,bD s,bD u,C,aT,aS,Mw,aR,aO,MC,D,next i (by omega),dP];exact f
theorem KT{M:Mk}(h:Ok M){ea eb:Bool}{a b:List Int}(f:a.length=b.length)(hl:a.length<=100)(j:∀x∈a,In M x)(k:∀x∈b,In M x)(v:M.N.length<=70000):
  Or (.call 63) [ab ea a,ab eb b,AV.fn 68 [r0] []] (cS M)=some (LO (aU dQ M a b).1::cv (aU dQ M a b).2):=by
 have c:Or dy [ab ea a,ab eb b,AV.fn 68 [r0] [],AV.t (T.af true),I (a.length:Int),I 0] (cS M)=some (LO (aU dQ M a b).1::cv (aU dQ M a b).2):=by
  cases a with
  | nil=>refine ah ?_;rw [zL];simp only [ai,↓reduceIte,Int.reduceBEq,Int.reduceEq,aT,aS,Mw,aR,aO,aU,MS,M4,Na,decide_false];rfl
  | cons x g=>
   cases b with
   | nil=>cases f
   | cons y i=>
    have m:=j x Mv;have n:=k y Mv;have u:=rA (show M.N.length<=100000 by omega) m n;obtain⟨e,B⟩:=nI h m n;have q:(0:Int) < (((x::g).length:Nat):Int):=by simp
    have s:(0:Int) < (((y::i).length:Nat):Int):=by simp
    have h0:(0:Int)<=0:=by omega
    have o:(enc (x::g))[(0:Int).toNat]? =some [ti x]:=rfl;have p:(enc (y::i))[(0:Int).toNat]? =some [ti y]:=rfl;have w:i64.wrap (0+1)= ((1:Nat):Int):=by decide
    have l:=hl;rw [ME] at l;have d:=I3 (ea:=ea) (eb:=eb) f hl g i 1 _ [(dQ M x y).1] rfl rfl (by simp) e.ok (e.all λz d=>j z (Mx _ d)) (e.all λz d=>k z (Mx _ d)) (by have:=e.up;omega) rfl;rw [aU];refine ah ?_;rw [zL];simp only [ai,↓reduceIte,Int.reduceBEq,Int.reduceEq,q,s,h0,and_self,aC,o,p,u,aT,aS,Mw,aR,aO,w];exact d
 generalize A:LO (aU dQ M a b).1::cv (aU dQ M a b).2=r at c;refine ah ?_;rw [F3];simp only [ai,↓reduceIte,Int.reduceBEq,Int.reduceEq,aT,aS,Mw,aR,aO,aC];exact c
theorem I4{ea eb:Bool}{a b:List Int}(E:a.length=b.length)(hl:a.length<=100):∀(e d:List Int) (i:Nat) (M:Mk) (c:List Int),a.drop i=e->b.drop i=d->i<=a.length->Ok M->(∀x∈e,In M x)->(∀x∈d,In M x)->M.N.length+2 * e.length<=80000->c.length=i->
  Or dy [ab ea a,ab eb b,AV.fn 69 [r0] [],o3,I (a.length:Int),I (i:Int)] (mW M c)=some (T.ab 1 false (enc (c++ (aU br M e d).1))::cv (aU br M e d).2):=by
 intro e;induction e with
 | nil=>
  intro d i M c k l A h n o p g;have m:¬(i:Int) < (a.length:Int):=by have:=bh k;omega
  refine ah ?_;rw [zR];simp only [ai,↓reduceIte,Int.reduceBEq,Int.reduceEq,m,aT,aS,Mw,aR,aO,aU,MU];rfl
 | cons x e B=>
  intro d i M c k l A h n o p g;obtain⟨s,F,t⟩:=bp k;cases d with
  | nil=>exact absurd (bh l) (by omega)
  | cons y d=>
   obtain⟨u,G,v⟩:=bp l;have m:(i:Int) < (a.length:Int):=by omega
   have w:(i:Int) < (b.length:Int):=by omega
   have h0: 0<=(i:Int):=by omega
   have q:=n x Mv;have r:=o y Mv;rw [ME] at p;have C:=pD h (by omega) q r;obtain⟨j,H⟩:=mK h q r;have D:bg 8 (c.length+1)=some ():=cm (by omega);have f:=B d (i+1) _ (c++ [(br M x y).1]) t v (by omega) j.ok (j.all λz f=>n z (Mx _ f)) (j.all λz f=>o z (Mx _ f)) (by have:=j.up;omega) (by simp [g]);simp only [MY,M5] at f;rw [aU];refine ah ?_;rw [zR];simp only [ai,↓reduceIte,Int.reduceBEq,Int.reduceEq,m,w,h0,and_self,aC,bD s,bD u,C,aT,aS,Mw,aR,aO,MC,D,next i (by omega),dP];exact f
theorem KU{M:Mk}(h:Ok M){ea eb:Bool}{a b:List Int}(f:a.length=b.length)(hl:a.length<=100)(j:∀x∈a,In M x)(k:∀x∈b,In M x)(v:M.N.length<=70000):
  Or (.call 63) [ab ea a,ab eb b,AV.fn 69 [r0] []] (cS M)=some (LO (aU br M a b).1::cv (aU br M a b).2):=by
 have c:Or dy [ab ea a,ab eb b,AV.fn 69 [r0] [],AV.t (T.af true),I (a.length:Int),I 0] (cS M)=some (LO (aU br M a b).1::cv (aU br M a b).2):=by
  cases a with
  | nil=>refine ah ?_;rw [zM];simp only [ai,↓reduceIte,Int.reduceBEq,Int.reduceEq,aT,aS,Mw,aR,aO,aU,MS,M4,Na,decide_false];rfl
  | cons x g=>
   cases b with
   | nil=>cases f
   | cons y i=>
    have m:=j x Mv;have n:=k y Mv;have u:=pD h (by omega) m n;obtain⟨e,B⟩:=mK h m n;have q:(0:Int) < (((x::g).length:Nat):Int):=by simp
    have s:(0:Int) < (((y::i).length:Nat):Int):=by simp
    have h0:(0:Int)<=0:=by omega
    have o:(enc (x::g))[(0:Int).toNat]? =some [ti x]:=rfl;have p:(enc (y::i))[(0:Int).toNat]? =some [ti y]:=rfl;have w:i64.wrap (0+1)= ((1:Nat):Int):=by decide
    have l:=hl;rw [ME] at l;have d:=I4 (ea:=ea) (eb:=eb) f hl g i 1 _ [(br M x y).1] rfl rfl (by simp) e.ok (e.all λz d=>j z (Mx _ d)) (e.all λz d=>k z (Mx _ d)) (by have:=e.up;omega) rfl;rw [aU];refine ah ?_;rw [zM];simp only [ai,↓reduceIte,Int.reduceBEq,Int.reduceEq,q,s,h0,and_self,aC,o,p,u,aT,aS,Mw,aR,aO,w];exact d
 generalize A:LO (aU br M a b).1::cv (aU br M a b).2=r at c;refine ah ?_;rw [F4];simp only [ai,↓reduceIte,Int.reduceBEq,Int.reduceEq,aT,aS,Mw,aR,aO,aC];exact c
theorem I5{ea eb:Bool}{a b:List Int}(E:a.length=b.length)(hl:a.length<=100):∀(e d:List Int) (i:Nat) (M:Mk) (c:List Int),a.drop i=e->b.drop i=d->i<=a.length->Ok M->(∀x∈e,In M x)->(∀x∈d,In M x)->M.N.length+2 * e.length<=80000->c.length=i->
  Or dy [ab ea a,ab eb b,AV.fn 74 [r0] [],o3,I (a.length:Int),I (i:Int)] (mW M c)=some (T.ab 1 false (enc (c++ (aU dE M e d).1))::cv (aU dE M e d).2):=by
 intro e;induction e with
 | nil=>
  intro d i M c k l A h n o p g;have m:¬(i:Int) < (a.length:Int):=by have:=bh k;omega
  refine ah ?_;rw [zJ];simp only [ai,↓reduceIte,Int.reduceBEq,Int.reduceEq,m,aT,aS,Mw,aR,aO,aU,MU];rfl
 | cons x e B=>
  intro d i M c k l A h n o p g;obtain⟨s,F,t⟩:=bp k;cases d with
  | nil=>exact absurd (bh l) (by omega)
  | cons y d=>
   obtain⟨u,G,v⟩:=bp l;have m:(i:Int) < (a.length:Int):=by omega
   have w:(i:Int) < (b.length:Int):=by omega
   have h0: 0<=(i:Int):=by omega
   have q:=n x Mv;have r:=o y Mv;rw [ME] at p;have C:=ue h (by omega) q r;obtain⟨j,H⟩:=nA h q r;have D:bg 8 (c.length+1)=some ():=cm (by omega);have f:=B d (i+1) _ (c++ [(dE M x y).1]) t v (by omega) j.ok (j.all λz f=>n z (Mx _ f)) (j.all λz f=>o z (Mx _ f)) (by have:=j.up;omega) (by simp [g]);simp only [MY,M5] at f;rw [aU];refine ah ?_;rw [zJ];simp only [ai,↓reduceIte,Int.reduceBEq,Int.reduceEq,m,w,h0,and_self,aC,bD s,bD u,C,aT,aS,Mw,aR,aO,MC,D,next i (by omega),dP];exact f
theorem KV{M:Mk}(h:Ok M){ea eb:Bool}{a b:List Int}(f:a.length=b.length)(hl:a.length<=100)(j:∀x∈a,In M x)(k:∀x∈b,In M x)(v:M.N.length<=70000):
  Or (.call 63) [ab ea a,ab eb b,AV.fn 74 [r0] []] (cS M)=some (LO (aU dE M a b).1::cv (aU dE M a b).2):=by
 have c:Or dy [ab ea a,ab eb b,AV.fn 74 [r0] [],AV.t (T.af true),I (a.length:Int),I 0] (cS M)=some (LO (aU dE M a b).1::cv (aU dE M a b).2):=by
  cases a with
  | nil=>refine ah ?_;rw [zN];simp only [ai,↓reduceIte,Int.reduceBEq,Int.reduceEq,aT,aS,Mw,aR,aO,aU,MS,M4,Na,decide_false];rfl
  | cons x g=>
   cases b with
   | nil=>cases f
   | cons y i=>
    have m:=j x Mv;have n:=k y Mv;have u:=ue h (by omega) m n;obtain⟨e,B⟩:=nA h m n;have q:(0:Int) < (((x::g).length:Nat):Int):=by simp
    have s:(0:Int) < (((y::i).length:Nat):Int):=by simp
    have h0:(0:Int)<=0:=by omega
    have o:(enc (x::g))[(0:Int).toNat]? =some [ti x]:=rfl;have p:(enc (y::i))[(0:Int).toNat]? =some [ti y]:=rfl;have w:i64.wrap (0+1)= ((1:Nat):Int):=by decide
    have l:=hl;rw [ME] at l;have d:=I5 (ea:=ea) (eb:=eb) f hl g i 1 _ [(dE M x y).1] rfl rfl (by simp) e.ok (e.all λz d=>j z (Mx _ d)) (e.all λz d=>k z (Mx _ d)) (by have:=e.up;omega) rfl;rw [aU];refine ah ?_;rw [zN];simp only [ai,↓reduceIte,Int.reduceBEq,Int.reduceEq,q,s,h0,and_self,aC,o,p,u,aT,aS,Mw,aR,aO,w];exact d
 generalize A:LO (aU dE M a b).1::cv (aU dE M a b).2=r at c;refine ah ?_;rw [F5];simp only [ai,↓reduceIte,Int.reduceBEq,Int.reduceEq,aT,aS,Mw,aR,aO,aC];exact c
open Go Go.Aev Go.IntKind
theorem cJ{h:Type}(a b c d e f g:h)(l:List h):(a::b::c::d::e::f::g::l).drop 7=l:=rfl
theorem cK{i:Type}(a b c d e f g h:i)(l:List i):(a::b::c::d::e::f::g::h::l).drop 8=l:=rfl
structure Dc where
 nm:ByteArray
 ea:Bool
 ar:List Int
 so:Int
def aI(l:List Dc):List (List T):=l.map λd=> [T.str d.nm,T.ab 1 d.ea (enc d.ar),ti d.so]
def aV(l:List Nd):List (List T):=l.map λx=> [ti x.op,T.ab 1 x.ek (enc x.ks),ti x.n,ti x.d,T.str x.nm]
def bd(l:List (List Int)):List (List T):=l.map λb=> [LO b]
theorem bZ(l:List Dc):(aI l).length=l.length:=by simp [aI]
theorem dm(l:List Nd):(aV l).length=l.length:=by simp [aV]
theorem l7(l:List (List Int)):(bd l).length=l.length:=by simp [bd]
theorem dK{l:List Dc}{i:Nat}{d:Dc}(h:l[i]? =some d):(aI l)[((i:Nat):Int).toNat]? =some [T.str d.nm,T.ab 1 d.ea (enc d.ar),ti d.so]:=by simp [aI,h]
theorem eA{l:List Nd}{i:Nat}{x:Nd}(h:l[i]? =some x):(aV l)[((i:Nat):Int).toNat]? =some [ti x.op,T.ab 1 x.ek (enc x.ks),ti x.n,ti x.d,T.str x.nm]:=by simp [aV,h]
theorem pM(a b:ByteArray):(a.toList==b.toList)=decide (a=b):=by
 rw [Go.Lib.toList_data,Go.Lib.toList_data];by_cases h:a=b
 .subst h;simp
 .have:¬a.data.toList=b.data.toList:=λe=>h (by cases a;cases b;simpa using N4 e);rw [decide_eq_false h];exact beq_eq_false_iff_ne.2 this
def iD(nm:ByteArray):Nat->List Dc->Int
 | _,[]=> -1
 | i,d::r=>if d.nm=nm then(i:Int) else iD nm (i+1) r
def bu(ds:List Dc)(nm:ByteArray):Int:=iD nm 0 ds
theorem qt(nm:ByteArray):∀(i:Nat) (ds:List Dc), -1<=iD nm i ds/\iD nm i ds < (i:Int)+ds.length+1
 | i,[]=>by simp [iD];omega
 | i,d::r=>by
  rw [iD];split
  .simp;omega
  .have:=qt nm (i+1) r;simp;omega
theorem Ju{e:Bool}{ds:List Dc}{nm:ByteArray}(hl:ds.length<=100):∀(r:List Dc) (i:Nat),ds.drop i=r->
  Or fX [AV.t (T.ab 3 e (aI ds)),AV.fn 92 [] [AV.t (T.ptr [T.str nm])],I (ds.length:Int),I (i:Int)] []=some [ti (iD nm i r)]:=by
 intro r;induction r with
 | nil=>
  intro i g;have b:¬(i:Int) < (ds.length:Int):=by have:=bh g;omega
  refine ah ?_;rw [Ak];simp only [ai,↓reduceIte,Int.reduceBEq,Int.reduceEq,b,iD]
 | cons d r j=>
  intro i g;obtain⟨f,k,h⟩:=bp g;have b:(i:Int) < (ds.length:Int):=by omega
  have h0: 0<=(i:Int):=by omega
  have a:Or (.call 92) [AV.agg [AV.t (T.str d.nm),AV.t (T.ab 1 d.ea (enc d.ar)),I d.so],AV.t (T.ptr [T.str nm])] []=some [tb (decide (d.nm=nm))]:=by refine ah ?_;rw [GZ,pM]
  refine ah ?_;rw [Ak,iD];by_cases c:d.nm=nm
  .rw [decide_eq_true c] at a;rw [if_pos c];simp only [ai,↓reduceIte,Int.reduceBEq,Int.reduceEq,b,h0,and_self,bZ,dK f,a]
  .rw [decide_eq_false c] at a;rw [if_neg c];simp only [ai,↓reduceIte,Int.reduceBEq,Int.reduceEq,b,h0,and_self,bZ,dK f,a,next i (by omega)];exact j (i+1) h
theorem rz{ed en eh:Bool}{ds:List Dc}{ns:List Nd}{hs:List Int}{nm:ByteArray}(hl:ds.length<=100):
  Or (.call 62) [AV.agg [AV.t (T.ab 3 ed (aI ds)),AV.t (T.ab 5 en (aV ns)),AV.t (T.ab 1 eh (enc hs))],AV.t (T.str nm)] []=some [ti (bu ds nm)]:=by
 have k:=Ju (e:=ed) (nm:=nm) hl ds 0 rfl;have a:Or (.call 89) [AV.t (T.ab 3 ed (aI ds)),AV.fn 92 [] [AV.t (T.ptr [T.str nm])]] []=some [ti (bu ds nm)]:=by refine ah ?_;rw [GW];simp only [bZ];exact k
 refine ah ?_;rw [FZ];simp only [ai,↓reduceIte,Int.reduceBEq,Int.reduceEq,a]
structure Cx where
 ed:Bool
 ds:List Dc
 en:Bool
 ns:List Nd
 eh:Bool
 hs:List Int
 p:ByteArray
 es:Bool
 ss:List Int
structure Tr where
 bits:List (List Int)
 to:List Int
theorem iu{c:Cx}{t:Tr}{M:Mk}{x:Nd}{j:Nat}{k:Int}{b:List Int}(e:x.ks[j]? =some k)(l: 0<=k)(a:t.bits[k.toNat]? =some b):
  Or (.call 60) [I (j:Int),r0,r1] [ad.box [AV.ref (Id.c 2) 0],ad.box [I x.op,ab x.ek x.ks,I x.n,I x.d,AV.t (T.str x.nm)],ad.box [AV.ref (Id.c 3) 0,AV.t (T.ab 3 c.ed (aI c.ds)),AV.t (T.ab 5 c.en (aV c.ns)),AV.t (T.ab 1 c.eh (enc c.hs)),AV.t (T.str c.p),AV.t (T.ab 1 c.es (enc c.ss)),AV.own (Id.c 4),AV.own (Id.c 5)],ad.box [AV.own (Id.c 6),AV.own (Id.c 7)],ad.sl false 1 t.bits.isEmpty (bd t.bits),ad.sl false 1 t.to.isEmpty (enc t.to),ad.rows M.N.isEmpty 5 1 1 M.N.length (rows M.N),ad.mp false [Ck.s] (Ck.i .i64) (bV M.K)]=some [T.ab 1 b.isEmpty (enc b),T.ao,ti x.op,T.ab 1 x.ek (enc x.ks),ti x.n,ti x.d,T.str x.nm,T.ao,T.ab 3 c.ed (aI c.ds),T.ab 5 c.en (aV c.ns),T.ab 1 c.eh (enc c.hs),T.str c.p,T.ab 1 c.es (enc c.ss),T.ao,T.ao,RW M.N,T.ao,T.ab 1 t.bits.isEmpty (bd t.bits),T.ab 1 t.to.isEmpty (enc t.to),EM M.K]:=by
 have f: 0<=(j:Int)/\(j:Int) < (x.ks.length:Int):=by have:=(My.1 e).1;omega
 have g: 0<=k/\k < (t.bits.length:Int):=by have:=(My.1 a).1;omega
 have h:(bd t.bits)[k.toNat]? =some [LO b]:=by simp [bd,a]
 refine ah ?_;rw [FX];simp only [ai,↓reduceIte,Int.reduceBEq,Int.reduceEq,aC,l7,f,g,and_self,bD e,h,cx,aT,aS,Mw,aR,aO];rfl
def cW(a:Int)(M:Mk)(x y:Int):Int×Mk:=if x=y then(x,M) else du M 7 s0 0 0 [a,x,y]
theorem w9{a:Int}{M:Mk}(h:Ok M)(d:In M a){x y:Int}(c:In M x)(e:In M y):Up M (cW a M x y).2 1/\In (cW a M x y).2 (cW a M x y).1:=by
 unfold cW;split
 .exact⟨(Up.refl h).mono (by omega),c⟩
 .exact iJ h _ _ _ _ _ (λk b=>by simp only [MN,N5,or_false] at b;rcases b with rfl | rfl | rfl <;> assumption) (by simp)
theorem C6{c:Cx}{t:Tr}{M:Mk}{a x y:Int}(b:M.N.length<=100000)(g:In M a)(j:In M x)(l:In M y):
  Or (.call 64) [I x,I y,r0,r1] [ad.box [AV.ref (Id.c 2) 0],ad.box [I a],ad.box [AV.ref (Id.c 3) 0,AV.t (T.ab 3 c.ed (aI c.ds)),AV.t (T.ab 5 c.en (aV c.ns)),AV.t (T.ab 1 c.eh (enc c.hs)),AV.t (T.str c.p),AV.t (T.ab 1 c.es (enc c.ss)),AV.own (Id.c 4),AV.own (Id.c 5)],ad.box [AV.own (Id.c 6),AV.own (Id.c 7)],ad.sl false 1 t.bits.isEmpty (bd t.bits),ad.sl false 1 t.to.isEmpty (enc t.to),ad.rows M.N.isEmpty 5 1 1 M.N.length (rows M.N),ad.mp false [Ck.s] (Ck.i .i64) (bV M.K)]=some [ti (cW a M x y).1,T.ao,ti a,T.ao,T.ab 3 c.ed (aI c.ds),T.ab 5 c.en (aV c.ns),T.ab 1 c.eh (enc c.hs),T.str c.p,T.ab 1 c.es (enc c.ss),T.ao,T.ao,RW ((cW a M x y).2).N,T.ao,T.ab 1 t.bits.isEmpty (bd t.bits),T.ab 1 t.to.isEmpty (enc t.to),EM ((cW a M x y).2).K]:=by
 have e:=iN M b 7 s0 0 0 [a,x,y] false rfl (λk f=>by
  simp only [MN,N5,or_false] at f;rcases f with rfl | rfl | rfl
  .exact g.i64 b
  .exact j.i64 b
  .exact l.i64 b) (by simp) (by omega) (by omega) (by omega) (by decide)
 replace e:Or (.call 61) [r0,I 7,AV.t (T.str s0),I 0,I 0,AV.t (T.ab 1 false [[ti a],[ti x],[ti y]])] (cS M)=_:=e;unfold cW;refine ah ?_;rw [F6];by_cases h:x=y
 .subst h;simp only [ai,↓reduceIte,Int.reduceBEq,Int.reduceEq,aT,aS,Mw,aR,aO];rfl
 .have d:(x==y)=false:=by simpa using h
  simp only [ai,↓reduceIte,Int.reduceBEq,Int.reduceEq,d,h,e,aT,aS,Mw,aR,aO];rfl
theorem I1{c:Cx}{t:Tr}{g:Int}{ea eb:Bool}{a b:List Int}(O:a.length=b.length)(hl:a.length<=100):∀(f e:List Int) (i:Nat) (M:Mk) (d:List Int),a.drop i=f->b.drop i=e->i<=a.length->Ok M->In M g->(∀x∈f,In M x)->(∀x∈e,In M x)->M.N.length+f.length<=80000->d.length=i->
  Or mS [ab ea a,ab eb b,AV.fn 64 [] [r0,r1],AV.own (Id.c 8),I (a.length:Int),I (i:Int)] [ad.box [AV.ref (Id.c 2) 0],ad.box [I g],ad.box [AV.ref (Id.c 3) 0,AV.t (T.ab 3 c.ed (aI c.ds)),AV.t (T.ab 5 c.en (aV c.ns)),AV.t (T.ab 1 c.eh (enc c.hs)),AV.t (T.str c.p),AV.t (T.ab 1 c.es (enc c.ss)),AV.own (Id.c 4),AV.own (Id.c 5)],ad.box [AV.own (Id.c 9),AV.own (Id.c 7)],ad.sl false 1 t.bits.isEmpty (bd t.bits),ad.sl false 1 t.to.isEmpty (enc t.to),ad.dead,ad.mp false [Ck.s] (Ck.i .i64) (bV M.K),ad.sl false 1 false (enc d),ad.rows M.N.isEmpty 5 1 1 M.N.length (rows M.N)]=some [T.ab 1 false (enc (d++ (aU (cW g) M f e).1)),T.ao,ti g,T.ao,T.ab 3 c.ed (aI c.ds),T.ab 5 c.en (aV c.ns),T.ab 1 c.eh (enc c.hs),T.str c.p,T.ab 1 c.es (enc c.ss),T.ao,T.ao,RW ((aU (cW g) M f e).2).N,T.ao,T.ab 1 t.bits.isEmpty (bd t.bits),T.ab 1 t.to.isEmpty (enc t.to),EM ((aU (cW g) M f e).2).K]:=by
 intro f;induction f with
 | nil=>
  intro e i M d n o G h m r u v k;have q:¬(i:Int) < (a.length:Int):=by have:=bh n;omega
  refine ah ?_;rw [zO];simp only [ai,↓reduceIte,Int.reduceBEq,Int.reduceEq,q,aT,aS,Mw,aR,aO,cJ,cK,cx,aU,MU];rfl
 | cons x f H=>
  intro e i M d n o G h m r u v k;obtain⟨B,P,C⟩:=bp n;cases e with
  | nil=>exact absurd (bh o) (by omega)
  | cons y e=>
   obtain⟨D,Q,E⟩:=bp o;have q:(i:Int) < (a.length:Int):=by omega
   have F:(i:Int) < (b.length:Int):=by omega
   have h0: 0<=(i:Int):=by omega
   have w:=r x Mv;have A:=u y Mv;rw [ME] at v;have J:=C6 (c:=c) (t:=t) (show M.N.length<=100000 by omega) m w A;obtain⟨l,R⟩:=w9 h m w A;have L:bg 8 (d.length+1)=some ():=cm (by omega);have j:=H e (i+1) _ (d++ [(cW g M x y).1]) C E (by omega) l.ok (l.In m) (l.all λz j=>r z (Mx _ j)) (l.all λz j=>u z (Mx _ j)) (by have:=l.up;omega) (by simp [k]);simp only [MY,M5] at j;rw [aU];refine ah ?_;rw [zO];simp only [ai,↓reduceIte,Int.reduceBEq,Int.reduceEq,q,F,h0,and_self,aC,bD B,bD D,J,aT,aS,Mw,aR,aO,cJ,cK,cx,MC,L,next i (by omega),dP];exact j
theorem KR{c:Cx}{t:Tr}{d:Int}{M:Mk}(h:Ok M)(k:In M d){ea eb:Bool}{a b:List Int}(j:a.length=b.length)(o: 1<=a.length)(hl:a.length<=100)(n:∀x∈a,In M x)(q:∀x∈b,In M x)(F:M.N.length<=70000):
  Or (.call 63) [ab ea a,ab eb b,AV.fn 64 [] [r0,r1]] [ad.box [AV.ref (Id.c 2) 0],ad.box [I d],ad.box [AV.ref (Id.c 3) 0,AV.t (T.ab 3 c.ed (aI c.ds)),AV.t (T.ab 5 c.en (aV c.ns)),AV.t (T.ab 1 c.eh (enc c.hs)),AV.t (T.str c.p),AV.t (T.ab 1 c.es (enc c.ss)),AV.own (Id.c 4),AV.own (Id.c 5)],ad.box [AV.own (Id.c 6),AV.own (Id.c 7)],ad.sl false 1 t.bits.isEmpty (bd t.bits),ad.sl false 1 t.to.isEmpty (enc t.to),ad.rows M.N.isEmpty 5 1 1 M.N.length (rows M.N),ad.mp false [Ck.s] (Ck.i .i64) (bV M.K)]=some [T.ab 1 false (enc (aU (cW d) M a b).1),T.ao,ti d,T.ao,T.ab 3 c.ed (aI c.ds),T.ab 5 c.en (aV c.ns),T.ab 1 c.eh (enc c.hs),T.str c.p,T.ab 1 c.es (enc c.ss),T.ao,T.ao,RW ((aU (cW d) M a b).2).N,T.ao,T.ab 1 t.bits.isEmpty (bd t.bits),T.ab 1 t.to.isEmpty (enc t.to),EM ((aU (cW d) M a b).2).K]:=by
 have g:Or mS [ab ea a,ab eb b,AV.fn 64 [] [r0,r1],AV.t (T.af true),I (a.length:Int),I 0] [ad.box [AV.ref (Id.c 2) 0],ad.box [I d],ad.box [AV.ref (Id.c 3) 0,AV.t (T.ab 3 c.ed (aI c.ds)),AV.t (T.ab 5 c.en (aV c.ns)),AV.t (T.ab 1 c.eh (enc c.hs)),AV.t (T.str c.p),AV.t (T.ab 1 c.es (enc c.ss)),AV.own (Id.c 4),AV.own (Id.c 5)],ad.box [AV.own (Id.c 6),AV.own (Id.c 7)],ad.sl false 1 t.bits.isEmpty (bd t.bits),ad.sl false 1 t.to.isEmpty (enc t.to),ad.rows M.N.isEmpty 5 1 1 M.N.length (rows M.N),ad.mp false [Ck.s] (Ck.i .i64) (bV M.K)]=some [T.ab 1 false (enc (aU (cW d) M a b).1),T.ao,ti d,T.ao,T.ab 3 c.ed (aI c.ds),T.ab 5 c.en (aV c.ns),T.ab 1 c.eh (enc c.hs),T.str c.p,T.ab 1 c.es (enc c.ss),T.ao,T.ao,RW ((aU (cW d) M a b).2).N,T.ao,T.ab 1 t.bits.isEmpty (bd t.bits),T.ab 1 t.to.isEmpty (enc t.to),EM ((aU (cW d) M a b).2).K]:=by
  cases a with
  | nil=>simp at o
  | cons x l=>
   cases b with
   | nil=>cases j
   | cons y m=>
    have u:=n x Mv;have v:=q y Mv;have E:=C6 (c:=c) (t:=t) (show M.N.length<=100000 by omega) k u v;obtain⟨f,G⟩:=w9 h k u v;have C:(0:Int) < (((x::l).length:Nat):Int):=by simp
    have D:(0:Int) < (((y::m).length:Nat):Int):=by simp
    have h0:(0:Int)<=0:=by omega
    have A:(enc (x::l))[(0:Int).toNat]? =some [ti x]:=rfl;have B:(enc (y::m))[(0:Int).toNat]? =some [ti y]:=rfl;have w:i64.wrap (0+1)= ((1:Nat):Int):=by decide
    have r:=hl;rw [ME] at r;have e:=I1 (c:=c) (t:=t) (ea:=ea) (eb:=eb) j hl l m 1 _ [(cW d M x y).1] rfl rfl (by simp) f.ok (f.In k) (f.all λz e=>n z (Mx _ e)) (f.all λz e=>q z (Mx _ e)) (by have:=f.up;omega) rfl;rw [aU];refine ah ?_;rw [F1];simp only [ai,↓reduceIte,Int.reduceBEq,Int.reduceEq,C,D,h0,and_self,aC,A,B,E,aT,aS,Mw,aR,aO,cJ,cK,cx,w];exact e
 refine ah ?_;rw [F0];simp only [ai,↓reduceIte,Int.reduceBEq,Int.reduceEq,aT,aS,Mw,aR,aO,cJ,cK,cx,aC];exact g
end Go.Aev.Gen
