import Derived.Test.YtcjplcpngagalaaDoorBlastNoneQ6
import Derived.Test.YtcjplcpngagalaaDoorLLay
import Derived.Test.YtcjplcpngagalaaDoorBlastNoneQ5
import Derived.Lib.ItoaLen
import Derived.Lib.Strings
set_option linter.all false
namespace Go.Aev.Gen
open Go Go.Aev Go.IntKind
theorem kX:kz aq ann:=by
 intro f be d xs h;have g:f=44/\∃n:Int,be= [.t (.int .i64 n)]/\d= []/\(-9223372036854775808<=n/\n<=9223372036854775807)/\xs= [.str ⟨(Go.Lib.itoa n).toArray⟩]:=by
  unfold ann at h;dsimp only at h;split at h
  .rename_i n;split at h
   .rename_i m;simp only [Lo] at h;exact⟨rfl,n,rfl,rfl,m,h.symm⟩
   .cases h
  .cases h
 obtain⟨rfl,n,rfl,rfl,⟨h0,i⟩,rfl⟩:=g;refine⟨_,_,Go.Proofs.Tryd.func44,rfl,by decide, ?_⟩;intro c w ρ O args o hs e;have j:args= [.int .i64 n]:=by simp only [az,ah,ax] at e;obtain⟨v,r,rfl,rfl,rfl⟩:=e;rfl
 subst j;have a:=Go.Proofs.Any.strconv_Itoa Go.Proofs.YtcjplcpngagalaaDoor.itoaL n h0 i w hs.glob.1;change Calls aq 44 #[.int .i64 n] w _ at a;refine a.mono ?_;rintro _ w' ⟨rfl,k,os,rfl⟩;refine⟨[.string ⟨(Go.Lib.itoa n).toArray⟩],[.str ⟨(Go.Lib.itoa n).toArray⟩],[],[],[],rfl,⟨rfl,rfl,rfl, ?_,λb l _=> ?_⟩,rfl,by simp,by simp, ?_,⟨rfl,rfl⟩⟩
 .simp [Go.Sort.grow,World.drewN]
 .simp [Go.Sort.grow,World.drewN,Array.getElem?_append,l]
 .rw [show cN aq ann 44 (ft ([]:List ab).head?) Go.Proofs.Tryd.f44= [.f .s] by kernel_rfl];exact⟨_,[],_,[],[],[],rfl,rfl,rfl,⟨rfl,by simp [ax],rfl⟩,rfl,rfl,rfl⟩
open Go Go.Aev Go.IntKind
noncomputable abbrev Or:ay:=jB aq ann
abbrev ti(n:Int):T:= .int .i64 n
abbrev tb(b:Bool):T:= .bool b
abbrev o0:AV:=AV.own (Id.c 0)
abbrev o1:AV:=AV.own (Id.c 1)
abbrev o2:AV:=AV.own (Id.c 2)
abbrev o3:AV:=AV.own (Id.c 3)
abbrev o4:AV:=AV.own (Id.c 4)
abbrev o5:AV:=AV.own (Id.c 5)
abbrev r0:AV:=AV.ref (Id.c 0) 0
abbrev r1:AV:=AV.ref (Id.c 1) 0
theorem bu{c:Type}{l:List c}{i:Nat}{r:c}{b:List c}(h:l.drop i=r::b):l[i]? =some r/\i < l.length/\l.drop (i+1)=b:=by
 have a:i < l.length:=by
  rcases Oe i l.length with g | g
  .exact g
  .rw [Nl g] at h;cases h
 rw [Nt a] at h;simp only [My] at h;exact⟨by rw [Ly a,h.1],a,h.2⟩
theorem br{a:Type}{l:List a}{i:Nat}(h:l.drop i= []):l.length<=i:=by simpa using h
def enc(l:List Int):List (List T):=l.map λn=> [.int .i64 n]
theorem aD(l:List Int):(enc l).length=l.length:=by simp [enc]
theorem bJ{l:List Int}{i:Nat}{r:Int}(h:l[i]? =some r):(enc l)[((i:Nat):Int).toNat]? =some [ti r]:=by simp [enc,h]
theorem eC{l:List Int}{i:Nat}{r:Int}(h:l[i]? =some r):(enc l)[i]? =some [ti r]:=by simp [enc,h]
theorem next(i:Nat)(h:i<=1000000):i64.wrap ((i:Int)+1)= ((i+1:Nat):Int):=by rw [wr (by omega)];omega
theorem cS{a n:Nat}(h:n<=1000000):bq a n=some ():=by unfold bq;rw [if_pos (.inl (by unfold kc;omega))]
abbrev ad(e:Bool)(l:List Int):AV:=AV.t (T.ad 1 e (enc l))
abbrev dL(n:Int):Prop:= -9223372036854775808<=n/\n<=9223372036854775807
def it(n:Int):ByteArray:=⟨(Go.Lib.itoa n).toArray⟩
theorem gG{n:Int}(h:dL n):(it n).size<=21:=by have:=Go.Lib.itoa_length_le n h.1 h.2;simpa [it,ByteArray.size] using this
theorem gO{n:Int}(h:dL n):Or (.call 44) [I n] []=some [T.str (it n)]:=by
 refine ai ?_;have:ann.ext 44 [I n] []=some [T.str (it n)]:=by show(if dL n then some [T.str (it n)] else none)=_;rw [if_pos h]
 show(match ann.ext 44 [I n] [] with | some r=>some r | none=>_)=_;rw [this]
theorem x8(a b:ByteArray):(a==b)=decide (a=b):=by
 obtain⟨a⟩:=a;obtain⟨b⟩:=b;show(a==b)=_;by_cases h:a=b
 .subst h;simp
 .simp [h]
abbrev sp:ByteArray:=ByteArray.mk #[(32:UInt8)]
abbrev us:ByteArray:=ByteArray.mk #[(95:UInt8)]
abbrev s0:ByteArray:=ByteArray.mk #[]
theorem pr:sp.size=1:=rfl
theorem fk:us.size=1:=rfl
structure Nd where
 op:Int
 ek:Bool
 ks:List Int
 n:Int
 d:Int
 nm:ByteArray
def mo(k:Nat)(x:Nd):Row:=Row.mk k [ti x.op,T.ak,ti x.n,ti x.d,T.str x.nm] (some (x.ek,enc x.ks))
def eN:Nat->List Nd->List Row
 | _,[]=> []
 | k,x::r=>mo k x::eN (k+1) r
abbrev rows(l:List Nd):List Row:=eN 0 l
theorem CJ:∀(k:Nat) (l:List Nd),(eN k l).length=l.length
 | _,[]=>rfl
 | k,x::r=>by rw [eN,LD,CJ,LD]
theorem CL(x:Nd):∀(k:Nat) (l:List Nd),eN k (l++ [x])=eN k l++ [mo (k+l.length) x]
 | _,[]=>rfl
 | k,y::r=>by rw [Mi,eN,CL x (k+1) r,eN,LD,Mi,show k+1+r.length=k+ (r.length+1) by omega]
theorem CI:∀{k:Nat} {l:List Nd} {i:Nat} {x:Nd},l[i]? =some x->(eN k l)[i]? =some (mo (k+i) x)
 | _,[],_,_,h=>by simp at h
 | k,y::r,0,x,h=>by simp at h;subst h;rfl
 | k,y::r,i+1,x,h=>by rw [eN,MR,CI (by simpa using h),show k+1+i=k+ (i+1) by omega]
theorem CH:∀{k:Nat} {l:List Nd} {i:Nat} {x:Nd},l[i]? =some x->cj (k+i) (eN k l)=some (x.ek,enc x.ks)
 | _,[],_,_,h=>by simp at h
 | k,y::r,0,x,h=>by simp at h;subst h;simp [eN,mo,cj]
 | k,y::r,i+1,x,h=>by have a:=CH (k:=k+1) (l:=r) (i:=i) (x:=x) (by simpa using h);rw [show k+1+i=k+ (i+1) by omega] at a;rw [eN,cj,if_neg (by simp [mo]),a]
theorem xd{l:List Nd}{i:Nat}{x:Nd}(h:l[i]? =some x):(rows l)[i]? =some (mo i x):=by have:=CI (k:=0) h;rwa [L5] at this
theorem xc{l:List Nd}{i:Nat}{x:Nd}(h:l[i]? =some x):cj i (rows l)=some (x.ek,enc x.ks):=by have:=CH (k:=0) h;rwa [L5] at this
theorem CK:∀(k:Nat) (l:List Nd),aV (eN k l)=true
 | _,[]=>rfl
 | k,x::r=>by have a:=CK (k+1) r;unfold aV at a⊢;rw [eN,MN,a];rfl
theorem CG:∀(k:Nat) (l:List Nd),mV k ((eN k l).map λe=> [.ptr e.cs,pg e])=some (eN k l)
 | _,[]=>rfl
 | k,x::r=>by have a:=CG (k+1) r;rw [eN,L6];show(mV (k+1) ((eN (k+1) r).map λe=> [.ptr e.cs,pg e])).bind _=_;rw [a];rfl
def RW(l:List Nd):T:=a8 l.isEmpty (rows l)
theorem aT(l:List Nd):aM (RW l)=some (l.isEmpty,rows l):=by have h:=CG 0 l;show(mV 0 ((eN 0 l).map λe=> [.ptr e.cs,pg e])).bind _=_;rw [h];rfl
theorem aR(l:List Nd):aV (rows l)=true:=CK 0 l
theorem aO(l:List Nd):(rows l).length=l.length:=CJ 0 l
def bR(K:List (ByteArray×Int)):List (List T×T):=K.map λp=>([T.str p.1],ti p.2)
def lk(s:ByteArray):List (ByteArray×Int)->Option Int
 | []=>none
 | (k,v)::r=>if s=k then some v else lk s r
theorem wq(s:ByteArray):∀K:List (ByteArray×Int),fh [T.str s] (bR K)= (lk s K).map ti
 | []=>rfl
 | (k,v)::r=>by
  have a:=wq s r;unfold bR at a⊢;rw [L6,fh,lk];simp only [dC,kI,Nc,x8];by_cases h:s=k
  .simp [h]
  .simp only [h,decide_false,cond_false,↓reduceIte];exact a
theorem Bz{s:ByteArray}(v:Int):∀{K:List (ByteArray×Int)},lk s K=none->fW [T.str s] (ti v) (bR K)=bR (K++ [(s,v)])
 | [],_=>rfl
 | (k,u)::r,h=>by
  rw [lk] at h;by_cases e:s=k
  .rw [if_pos e] at h;cases h
  .rw [if_neg e] at h;have a:=Bz v h;unfold bR at a⊢;rw [Mi,L6,L6,fW];simp only [dC,kI,Nc,x8,e,decide_false,cond_false];rw [a]
theorem yA:∀K:List (ByteArray×Int),pU ((bR K).map λp=> [.ptr p.1,p.2])=some (bR K)
 | []=>rfl
 | p::r=>by have a:=yA r;unfold bR at a⊢;rw [L6,L6,pU,a];rfl
def EM(K:List (ByteArray×Int)):T:=aY (bR K)
theorem aS(K:List (ByteArray×Int)):aK (EM K)=some (bR K):=yA K
structure Mk where
 N:List Nd
 K:List (ByteArray×Int)
abbrev ct(M:Mk):List T:= [RW M.N,T.ak,EM M.K]
abbrev cW(M:Mk):List ab:= [ab.box [o1,o2],ab.rows M.N.isEmpty 5 1 1 M.N.length (rows M.N),ab.mp false [Ck.s] (Ck.i .i64) (bR M.K)]
def jw(k:ByteArray):List Int->ByteArray
 | []=>k
 | x::r=>jw (k++ (sp++it x)) r
def jZ(op:Int)(nm:ByteArray)(n d:Int)(ks:List Int):ByteArray:=jw (it op++sp++nm++sp++it n++sp++it d) ks
def cR(M:Mk)(op:Int)(nm:ByteArray)(n d:Int)(ks:List Int):Int×Mk:=
 match lk (jZ op nm n d ks) M.K with
 | some i=>(i,M)
 | none=>((M.N.length:Int),⟨M.N++ [⟨op,ks.isEmpty,ks,n,d,nm⟩],M.K++ [(jZ op nm n d ks,(M.N.length:Int))]⟩)
theorem CS(e:Bool)(l:List Int)(a:e=true->l= [])(hl:l.length<=1000000):Or (.call 18) [ad e l] []=some [if e then T.af true else T.ad 1 false (enc l)]:=by
 refine ai ?_;rw [EX];cases e with
 | true=>rfl
 | false=>simp only [aj,↓reduceIte,Int.reduceBEq,Int.reduceEq,aD,cS (show 0+l.length<=1000000 by omega)];rfl
theorem H9(M:Mk)(B:M.N.length<=100000)(op:Int)(nm:ByteArray)(n d:Int)(ks:List Int)(e:Bool)(f:e=ks.isEmpty)(r:∀k∈ks,dL k)(hl:ks.length<=1000):∀(a:List Int) (j:Nat) (s:ByteArray),ks.drop j=a->s.size<=10000+100 * j->
  Or rF [r0,I op,AV.t (T.str nm),I n,I d,ad e ks,AV.t (T.str s),ad e ks,I (ks.length:Int),I (j:Int)] (cW M)=
   match lk (jw s a) M.K with
   | some i=>some (ti i::ct M)
   | none=>some (ti (M.N.length:Int)::ct ⟨M.N++ [⟨op,ks.isEmpty,ks,n,d,nm⟩],M.K++ [(jw s a,(M.N.length:Int))]⟩):=by
 intro a;induction a with
 | nil=>
  intro j s g hs;have c:¬(j:Int) < (ks.length:Int):=by have:=br g;omega
  rw [jw];have o:=CS e ks (λh=>by subst f;simpa using h) (by omega);have q:(if e then T.af true else T.ad 1 false (enc ks)).au 1=some (e,enc ks):=by
   cases e with
   | true=>
    have:ks= []:=by simpa using f.symm
    subst this;rfl
   | false=>rfl
  have w:i64.wrap (((M.N.length+1:Nat):Int) - 1)= (M.N.length:Int):=by rw [wr (by omega)];omega
  have u:rows M.N++ [Row.mk M.N.length [ti op,T.ak,ti n,ti d,T.str nm] (some (e,enc ks))]=rows (M.N++ [⟨op,ks.isEmpty,ks,n,d,nm⟩]):=by rw [rows,rows,CL,L5,f];rfl
  cases b:lk s M.K with
  | some i=>refine ai ?_;rw [uR];simp only [aj,↓reduceIte,Int.reduceBEq,Int.reduceEq,c,wq,b,M2,M6,Option.isSome_some,aR];rfl
  | none=>refine ai ?_;rw [uR];simp only [aj,↓reduceIte,Int.reduceBEq,Int.reduceEq,c,wq,b,Og,Ot,Option.isSome_none,o,q,aO,cS (show M.N.length+1<=1000000 by omega),u,aR,Mw,LG,w,Bz _ b];congr 3;unfold RW;cases M.N <;> rfl
 | cons x a v=>
  intro j s g hs;obtain⟨l,A,p⟩:=bu g;have c:(j:Int) < (ks.length:Int):=by omega
  have h0: 0<=(j:Int):=by omega
  have m:=r x (LB l);have C:=gG m;have y: 1+ (it x).size<=4294967296:=by omega
  have D:(sp++it x).size=1+ (it x).size:=by rw [LQ];rfl
  have z:s.size+ (sp++it x).size<=4294967296:=by omega
  have:=v (j+1) (s++ (sp++it x)) p (by rw [LQ];omega);rw [jw];cases b:lk (jw (s++ (sp++it x)) a) M.K <;>
  .rw [b] at this;refine ai ?_;rw [uR];simp only [aj,↓reduceIte,Int.reduceBEq,Int.reduceEq,c,h0,and_self,aD,bJ l,gO m,y,z,next j (by omega)];exact this
theorem iI(M:Mk)(l:M.N.length<=100000)(op:Int)(nm:ByteArray)(n d:Int)(ks:List Int)(e:Bool)(m:e=ks.isEmpty)(p:∀k∈ks,dL k)(hl:ks.length<=1000)(ho:dL op)(b:dL n)(a:dL d)(hm:nm.size<=5000):
  Or (.call 46) [r0,I op,AV.t (T.str nm),I n,I d,ad e ks] (cW M)=some (ti (cR M op nm n d ks).1::ct (cR M op nm n d ks).2):=by
 have q:=gG ho;have r:=gG b;have s:=gG a;have c:(it op++sp++nm++sp++it n++sp++it d).size<=10000+100 * 0:=by simp only [LQ,pr];omega
 have:=H9 M l op nm n d ks e m p hl ks 0 (it op++sp++nm++sp++it n++sp++it d) rfl c;have f:(it op).size+1<=4294967296:=by omega
 have g:(it op++sp).size+nm.size<=4294967296:=by simp only [LQ,pr];omega
 have c3:(it op++sp++nm).size+1<=4294967296:=by simp only [LQ,pr];omega
 have h:(it op++sp++nm++sp).size+ (it n).size<=4294967296:=by simp only [LQ,pr];omega
 have i:(it op++sp++nm++sp++it n).size+1<=4294967296:=by simp only [LQ,pr];omega
 have j:(it op++sp++nm++sp++it n++sp).size+ (it d).size<=4294967296:=by simp only [LQ,pr];omega
 unfold cR jZ;cases o:lk (jw (it op++sp++nm++sp++it n++sp++it d) ks) M.K <;>
 .rw [o] at this;refine ai ?_;rw [Fl];simp only [aj,↓reduceIte,Int.reduceBEq,Int.reduceEq,gO ho,gO b,gO a,f,g,c3,h,i,j,aD];exact this
open Go Go.Aev Go.IntKind
abbrev In(M:Mk)(a:Int):Prop:=0<=a/\a < (M.N.length:Int)
structure Ok (M:Mk):Prop where
 no:∀(i:Nat) (x:Nd),M.N[i]? =some x->x.op=3->∃k r,x.ks=k::r
 ks:∀(i:Nat) (x:Nd),M.N[i]? =some x->∀k∈x.ks,0<=k/\k < (i:Int)
 kn:∀p∈M.K,In M p.2
 ek:∀(i:Nat) (x:Nd),M.N[i]? =some x->x.ek=x.ks.isEmpty
 kl:∀(i:Nat) (x:Nd),M.N[i]? =some x->x.ks.length<=1000
structure Up (M M':Mk) (c:Nat):Prop where
 ok:Ok M'
 le:M.N.length<=M'.N.length
 up:M'.N.length<=M.N.length+c
 pre:∀(i:Nat) (x:Nd),M.N[i]? =some x->M'.N[i]? =some x
theorem Up.refl{M:Mk}(h:Ok M):Up M M 0:=⟨h,LM _,LM _,λ_ _ h=>h⟩
theorem Up.trans{M f b:Mk}{c d:Nat}(h:Up M f c)(a:Up f b d):Up M b (c+d):=
 ⟨a.ok,Mj h.le a.le,by have:=h.up;have:=a.up;omega,λi x e=>a.pre i x (h.pre i x e)⟩
theorem Up.mono{M a:Mk}{c d:Nat}(h:Up M a c)(b:c<=d):Up M a d:=⟨h.ok,h.le,by have:=h.up;omega,h.pre⟩
theorem Up.In{M b:Mk}{c:Nat}(h:Up M b c){a:Int}(d:In M a):In b a:=⟨d.1,by have:=h.le;have:=d.2;omega⟩
theorem In.get{M:Mk}{a:Int}(h:In M a):∃(i:Nat) (x:Nd),a= (i:Int)/\M.N[i]? =some x:=by
 obtain⟨i,rfl⟩:=Int.eq_ofNat_of_zero_le h.1;have:i < M.N.length:=by have:=h.2;omega
 exact⟨i,_,rfl,Ly this⟩
theorem Bn{s:ByteArray}:∀{K:List (ByteArray×Int)} {v:Int},lk s K=some v->∃p∈K,p.2=v
 | (k,u)::r,v,h=>by
  rw [lk] at h;split at h
  .simp only [Lo] at h;exact⟨_,Lq,h⟩
  .obtain⟨p,a,e⟩:=Bn h;exact⟨p,Lr _ a,e⟩
theorem iE{M:Mk}(h:Ok M)(op:Int)(nm:ByteArray)(n d:Int)(ks:List Int)(j:∀k∈ks,In M k)(c:op=3->∃k r,ks=k::r)(hl:ks.length<=1000:=by simp):
  Up M (cR M op nm n d ks).2 1/\In (cR M op nm n d ks).2 (cR M op nm n d ks).1:=by
 unfold cR;cases f:lk (jZ op nm n d ks) M.K with
 | some v=>obtain⟨p,b,rfl⟩:=Bn f;exact⟨(Up.refl h).mono (by omega),h.kn p b⟩
 | none=>
  have new:∀(i:Nat) (x:Nd),(M.N++ [(⟨op,ks.isEmpty,ks,n,d,nm⟩:Nd)])[i]? =some x->M.N[i]? =some x\/(i=M.N.length/\x= ⟨op,ks.isEmpty,ks,n,d,nm⟩):=λi x e=>by
   rcases Nat.lt_trichotomy i M.N.length with g | g | g
   .rw [LL g] at e;exact .inl e
   .subst g;simp at e;exact .inr ⟨rfl,e.symm⟩
   .rw [MV (by simp;omega)] at e;cases e
  refine⟨⟨⟨λi x e ho=> ?_,λi x e k a=> ?_,λp b=> ?_,λi x e=> ?_,λi x e=> ?_⟩,by simp,by simp,λi x e=> ?_⟩, ?_⟩
  .rcases new i x e with g | ⟨rfl,rfl⟩
   .exact h.no i x g ho
   .exact c ho
  .rcases new i x e with g | ⟨rfl,rfl⟩
   .exact h.ks i x g k a
   .exact j k a
  .simp only [Mw,LG];rcases LI.1 b with g | g
   .have:=h.kn p g;exact⟨this.1,by simp;omega⟩
   .simp only [Lz] at g;subst g;exact⟨by simp,by simp;omega⟩
  .rcases new i x e with g | ⟨rfl,rfl⟩
   .exact h.ek i x g
   .rfl
  .rcases new i x e with g | ⟨rfl,rfl⟩
   .exact h.kl i x g
   .exact hl
  .rw [LL (Ls.1 e).1];exact e
  .exact⟨by simp,by simp;omega⟩
def bV(M:Mk)(a:Int):Int:=match M.N[a.toNat]? with
 | some x=>x.op
 | none=>0
def oR(M:Mk)(a:Int):Int:=match M.N[a.toNat]? with
 | some x=>x.ks.headD 0
 | none=>0
def cE(M:Mk)(b:Bool):Int×Mk:=cR M (if b then 1 else 2) s0 0 0 []
def fy(M:Mk)(a:Int):Int×Mk:=
 if bV M a=1 then cE M false else if bV M a=2 then cE M true else if bV M a=3 then(oR M a,M) else cR M 3 s0 0 0 [a]
def bW(M:Mk)(a b:Int):Int×Mk:=
 if bV M a=2\/bV M b=1\/a=b then(a,M) else if bV M a=1\/bV M b=2 then(b,M) else cR M 4 s0 0 0 [a,b]
def dI(M:Mk)(a b:Int):Int×Mk:=
 if bV M a=1\/bV M b=2\/a=b then(a,M) else if bV M a=2\/bV M b=1 then(b,M) else cR M 5 s0 0 0 [a,b]
def du(M:Mk)(a b:Int):Int×Mk:=
 if a=b then cE M true else if bV M a=1 then(b,M) else if bV M b=1 then(a,M) else if bV M a=2 then fy M b else if bV M b=2 then fy M a else cR M 6 s0 0 0 [a,b]
def bm(M:Mk)(a b:Int):Int×Mk:=fy (du M a b).2 (du M a b).1
theorem In.i64{M:Mk}{a:Int}(h:In M a)(b:M.N.length<=100000):dL a:=⟨by have:=h.1;omega,by have:=h.2;omega⟩
theorem gZ{M:Mk}(h:Ok M)(b:Bool):Up M (cE M b).2 1/\In (cE M b).2 (cE M b).1:=
 iE h _ _ _ _ _ (λk a=>by cases a) (by cases b <;> simp)
theorem nB{M:Mk}(h:Ok M){a:Int}(c:In M a):Up M (fy M a).2 1/\In (fy M a).2 (fy M a).1:=by
 unfold fy;split
 .exact gZ h _
 .split
  .exact gZ h _
  .split
   .rename_i e;obtain⟨i,x,rfl,d⟩:=c.get;refine⟨(Up.refl h).mono (by omega), ?_⟩;unfold bV at e;unfold oR;rw [Mb,d] at e⊢;obtain⟨k,r,b⟩:=h.no i x d e;have:=h.ks i x d k (by rw [b];exact Lq);dsimp only;rw [b,List.headD_cons];exact⟨this.1,by have:=c.2;omega⟩
   .exact iE h _ _ _ _ _ (λk b=>by simp only [Lz] at b;subst b;exact c) (λ_=>⟨_,_,rfl⟩)
theorem pA{M:Mk}{a b:Int}(d:In M a)(e:In M b):∀k∈[a,b],In M k:=λk c=>by simp only [LC,MH,or_false] at c;rcases c with rfl | rfl <;> assumption
theorem fE{M:Mk}(h:Ok M){a b:Int}(c:In M a)(d:In M b):Up M (bW M a b).2 1/\In (bW M a b).2 (bW M a b).1:=by
 unfold bW;split
 .exact⟨(Up.refl h).mono (by omega),c⟩
 .split
  .exact⟨(Up.refl h).mono (by omega),d⟩
  .exact iE h _ _ _ _ _ (pA c d) (by simp)
theorem nD{M:Mk}(h:Ok M){a b:Int}(c:In M a)(d:In M b):Up M (dI M a b).2 1/\In (dI M a b).2 (dI M a b).1:=by
 unfold dI;split
 .exact⟨(Up.refl h).mono (by omega),c⟩
 .split
  .exact⟨(Up.refl h).mono (by omega),d⟩
  .exact iE h _ _ _ _ _ (pA c d) (by simp)
theorem nu{M:Mk}(h:Ok M){a b:Int}(c:In M a)(d:In M b):Up M (du M a b).2 1/\In (du M a b).2 (du M a b).1:=by
 unfold du;split
 .exact gZ h _
 .split
  .exact⟨(Up.refl h).mono (by omega),d⟩
  .split
   .exact⟨(Up.refl h).mono (by omega),c⟩
   .split
    .exact nB h d
    .split
     .exact nB h c
     .exact iE h _ _ _ _ _ (pA c d) (by simp)
theorem mA{M:Mk}(h:Ok M){a b:Int}(g:In M a)(i:In M b):Up M (bm M a b).2 2/\In (bm M a b).2 (bm M a b).1:=by obtain⟨c,d⟩:=nu h g i;obtain⟨e,f⟩:=nB c.ok d;exact⟨c.trans e,f⟩
theorem CA(i:Nat)(x:Nd):(mo i x).n=i:=rfl
theorem Cz(i:Nat)(x:Nd):(mo i x).cs= [ti x.op,T.ak,ti x.n,ti x.d,T.str x.nm]:=rfl
theorem jd{M:Mk}{a:Int}(b:In M a)(op:Int):Or (.call 81) [r0,I a,I op] (cW M)=some (tb (bV M a==op)::ct M):=by
 have c:=b;obtain⟨i,x,rfl,d⟩:=b.get;have ho:bV M (i:Int)=x.op:=by unfold bV;rw [Mb,d]
 rw [ho];refine ai ?_;rw [Gd];simp only [aj,↓reduceIte,Int.reduceBEq,Int.reduceEq,aO,c.1,c.2,and_self,Mb,xd d,Cz,aR];rfl
theorem ko{M:Mk}(e:M.N.length<=100000)(b:Bool):Or (.call 50) [r0,B b] (cW M)=some (ti (cE M b).1::ct (cE M b).2):=by
 have c:=iI M e 1 s0 0 0 [] true rfl (λk a=>by cases a) (by simp) (by omega) (by omega) (by omega) (by decide);have d:=iI M e 2 s0 0 0 [] true rfl (λk a=>by cases a) (by simp) (by omega) (by omega) (by omega) (by decide);replace c:Or (.call 46) [r0,I 1,AV.t (T.str s0),I 0,I 0,AV.t (T.ad 1 true [])] (cW M)=_:=c;replace d:Or (.call 46) [r0,I 2,AV.t (T.str s0),I 0,I 0,AV.t (T.ad 1 true [])] (cW M)=_:=d;unfold cE;refine ai ?_;rw [Fw];cases b with
 | true=>simp only [aj,↓reduceIte,Int.reduceBEq,Int.reduceEq,c,aT,aS,Lt,aR,aO];rfl
 | false=>simp only [aj,↓reduceIte,Int.reduceBEq,Int.reduceEq,d,aT,aS,Lt,aR,aO];rfl
theorem pk{M:Mk}(h:Ok M)(d:M.N.length<=100000){a:Int}(j:In M a):Or (.call 51) [r0,I a] (cW M)=some (ti (fy M a).1::ct (fy M a).2):=by
 have m:=j;have q:=ko d false;have s:=ko d true;have l:=iI M d 3 s0 0 0 [a] false rfl (λk e=>by simp only [Lz] at e;subst e;exact j.i64 d) (by simp) (by omega) (by omega) (by omega) (by decide);obtain⟨i,x,rfl,c⟩:=j.get;have ho:bV M (i:Int)=x.op:=by unfold bV;rw [Mb,c]
 have e:oR M (i:Int)=x.ks.headD 0:=by unfold oR;rw [Mb,c]
 replace l:Or (.call 46) [r0,I 3,AV.t (T.str s0),I 0,I 0,AV.t (T.ad 1 false [[ti (i:Int)]])] (cW M)=_:=l;unfold fy;rw [ho,e];refine ai ?_;rw [Fx];simp only [bK,bO,cU,pX,bT,aO,m.1,m.2,and_self,↓reduceIte,Mb,xd c,Cz,CA];by_cases f:x.op=1
 .simp only [aj,↓reduceIte,Int.reduceBEq,Int.reduceEq,f,q,aT,aS,Lt,aR,aO];rfl
 by_cases g:x.op=2
 .simp only [aj,↓reduceIte,Int.reduceBEq,Int.reduceEq,g,s,aT,aS,Lt,aR,aO];rfl
 by_cases c3:x.op=3
 .obtain⟨k,r,b⟩:=h.no i x c c3;have hl:(0:Int)<=0/\(0:Int) < ((x.ks.length:Nat):Int):=by rw [b];simp
  have p:(enc x.ks)[0]? =some [ti k]:=by rw [b];rfl
  simp only [aj,↓reduceIte,Int.reduceBEq,Int.reduceEq,c3,xc c,aD,hl,and_self,p,aR];rw [b];rfl
 .have n:(x.op==1)=false:=by simpa using f
  have o:(x.op==2)=false:=by simpa using g
  have d3:(x.op==3)=false:=by simpa using c3
  simp only [aj,↓reduceIte,Int.reduceBEq,Int.reduceEq,n,o,d3,f,g,c3,l,aT,aS,Lt,aR,aO];rfl
theorem jH{M:Mk}(q:M.N.length<=100000){a b:Int}(n:In M a)(o:In M b):Or (.call 52) [r0,I a,I b] (cW M)=some (ti (bW M a b).1::ct (bW M a b).2):=by
 have e:=jd n 2;have i:=jd n 1;have m:=jd o 2;have g:=jd o 1;have p:=iI M q 4 s0 0 0 [a,b] false rfl (λk s=>(pA n o k s).i64 q) (by simp) (by omega) (by omega) (by omega) (by decide);replace p:Or (.call 46) [r0,I 4,AV.t (T.str s0),I 0,I 0,AV.t (T.ad 1 false [[ti a],[ti b]])] (cW M)=_:=p;unfold bW;refine ai ?_;rw [Fy];by_cases c:bV M a=2
 .rw [c] at e i;simp only [aj,↓reduceIte,Int.reduceBEq,Int.reduceEq,c,e,aT,aS,Lt,aR,aO,true_or];rfl
 by_cases d:bV M b=1
 .rw [d] at m g;have f:(bV M a==2)=false:=by simpa using c
  simp only [aj,↓reduceIte,Int.reduceBEq,Int.reduceEq,c,d,f,e,g,aT,aS,Lt,aR,aO,true_or,or_true];rfl
 have f:(bV M a==2)=false:=by simpa using c
 have l:(bV M b==1)=false:=by simpa using d
 by_cases c3:a=b
 .subst c3;simp only [aj,↓reduceIte,Int.reduceBEq,Int.reduceEq,c,d,f,l,e,g,aT,aS,Lt,aR,aO,true_or,or_true];rfl
 have d3:(a==b)=false:=by simpa using c3
 by_cases h:bV M a=1
 .rw [h] at i;simp only [aj,↓reduceIte,Int.reduceBEq,Int.reduceEq,c,d,c3,h,f,l,d3,e,i,g,aT,aS,Lt,aR,aO,true_or,or_true,or_self];rfl
 have d4:(bV M a==1)=false:=by simpa using h
 by_cases j:bV M b=2
 .rw [j] at m;simp only [aj,↓reduceIte,Int.reduceBEq,Int.reduceEq,c,d,c3,h,j,f,l,d3,d4,e,i,m,g,aT,aS,Lt,aR,aO,true_or,or_true,or_self];rfl
 have r:(bV M b==2)=false:=by simpa using j
 simp only [aj,↓reduceIte,Int.reduceBEq,Int.reduceEq,c,d,c3,h,j,f,l,d3,d4,r,e,i,m,g,p,aT,aS,Lt,aR,aO,true_or,or_true,or_self];rfl
theorem qX{M:Mk}(q:M.N.length<=100000){a b:Int}(n:In M a)(o:In M b):Or (.call 53) [r0,I a,I b] (cW M)=some (ti (dI M a b).1::ct (dI M a b).2):=by
 have i:=jd n 2;have e:=jd n 1;have g:=jd o 2;have m:=jd o 1;have p:=iI M q 5 s0 0 0 [a,b] false rfl (λk s=>(pA n o k s).i64 q) (by simp) (by omega) (by omega) (by omega) (by decide);replace p:Or (.call 46) [r0,I 5,AV.t (T.str s0),I 0,I 0,AV.t (T.ad 1 false [[ti a],[ti b]])] (cW M)=_:=p;unfold dI;refine ai ?_;rw [Fz];by_cases c:bV M a=1
 .rw [c] at i e;simp only [aj,↓reduceIte,Int.reduceBEq,Int.reduceEq,c,e,aT,aS,Lt,aR,aO,true_or];rfl
 by_cases d:bV M b=2
 .rw [d] at g m;have f:(bV M a==1)=false:=by simpa using c
  simp only [aj,↓reduceIte,Int.reduceBEq,Int.reduceEq,c,d,f,e,g,aT,aS,Lt,aR,aO,true_or,or_true];rfl
 have f:(bV M a==1)=false:=by simpa using c
 have l:(bV M b==2)=false:=by simpa using d
 by_cases c3:a=b
 .subst c3;simp only [aj,↓reduceIte,Int.reduceBEq,Int.reduceEq,c,d,f,l,e,g,aT,aS,Lt,aR,aO,true_or,or_true];rfl
 have d3:(a==b)=false:=by simpa using c3
 by_cases h:bV M a=2
 .rw [h] at i;simp only [aj,↓reduceIte,Int.reduceBEq,Int.reduceEq,c,d,c3,h,f,l,d3,i,e,g,aT,aS,Lt,aR,aO,true_or,or_true,or_self];rfl
 have d4:(bV M a==2)=false:=by simpa using h
 by_cases j:bV M b=1
 .rw [j] at m;simp only [aj,↓reduceIte,Int.reduceBEq,Int.reduceEq,c,d,c3,h,j,f,l,d3,d4,i,e,g,m,aT,aS,Lt,aR,aO,true_or,or_true,or_self];rfl
 have r:(bV M b==1)=false:=by simpa using j
 simp only [aj,↓reduceIte,Int.reduceBEq,Int.reduceEq,c,d,c3,h,j,f,l,d3,d4,r,i,e,g,m,p,aT,aS,Lt,aR,aO,true_or,or_true,or_self];rfl
theorem tE{M:Mk}(h:Ok M)(i:M.N.length<=100000){a b:Int}(n:In M a)(o:In M b):Or (.call 59) [r0,I a,I b] (cW M)=some (ti (du M a b).1::ct (du M a b).2):=by
 have p:=jd n 2;have e:=jd n 1;have q:=jd o 2;have j:=jd o 1;have r:=iI M i 6 s0 0 0 [a,b] false rfl (λk u=>(pA n o k u).i64 i) (by simp) (by omega) (by omega) (by omega) (by decide);replace r:Or (.call 46) [r0,I 6,AV.t (T.str s0),I 0,I 0,AV.t (T.ad 1 false [[ti a],[ti b]])] (cW M)=_:=r;have v:=pk h i n;have w:=pk h i o;have x:=ko i true;unfold du;refine ai ?_;rw [FH];by_cases c:a=b
 .subst c;simp only [aj,↓reduceIte,Int.reduceBEq,Int.reduceEq,x,aT,aS,Lt,aR,aO];rfl
 have g:(a==b)=false:=by simpa using c
 by_cases d:bV M a=1
 .rw [d] at e;simp only [aj,↓reduceIte,Int.reduceBEq,Int.reduceEq,c,d,g,e,aT,aS,Lt,aR,aO];rfl
 have m:(bV M a==1)=false:=by simpa using d
 by_cases c3:bV M b=1
 .rw [c3] at j;simp only [aj,↓reduceIte,Int.reduceBEq,Int.reduceEq,c,d,c3,g,m,e,j,aT,aS,Lt,aR,aO];rfl
 have d3:(bV M b==1)=false:=by simpa using c3
 by_cases f:bV M a=2
 .rw [f] at p;simp only [aj,↓reduceIte,Int.reduceBEq,Int.reduceEq,c,d,c3,f,g,m,d3,p,e,j,w,aT,aS,Lt,aR,aO];rfl
 have d4:(bV M a==2)=false:=by simpa using f
 by_cases l:bV M b=2
 .rw [l] at q;simp only [aj,↓reduceIte,Int.reduceBEq,Int.reduceEq,c,d,c3,f,l,g,m,d3,d4,p,e,q,j,v,aT,aS,Lt,aR,aO];rfl
 have s:(bV M b==2)=false:=by simpa using l
 simp only [aj,↓reduceIte,Int.reduceBEq,Int.reduceEq,c,d,c3,f,l,g,m,d3,d4,s,p,e,q,j,r,aT,aS,Lt,aR,aO];rfl
theorem pn{M:Mk}(h:Ok M)(j:M.N.length<=90000){a b:Int}(d:In M a)(e:In M b):Or (.call 54) [r0,I a,I b] (cW M)=some (ti (bm M a b).1::ct (bm M a b).2):=by have g:=tE h (by omega) d e;obtain⟨c,f⟩:=nu h d e;have i:=pk c.ok (by have:=c.up;omega) f;refine ai ?_;rw [FA];simp only [aj,↓reduceIte,Int.reduceBEq,Int.reduceEq,g,i,aT,aS,Lt,aR,aO];rfl
open Go Go.Aev Go.IntKind
def LO(l:List Int):T:=if l.isEmpty then T.af true else T.ad 1 false (enc l)
theorem cv(l:List Int):(LO l).au 1=some (l.isEmpty,enc l):=by cases l <;> rfl
theorem dS(l:List Int)(x:Int):enc l++ [[T.int .i64 x]]=enc (l++ [x]):=by simp [enc]
theorem Up.all{M a:Mk}{c:Nat}(h:Up M a c){l:List Int}(hl:∀x∈l,Go.Aev.Gen.In M x):∀x∈l,Go.Aev.Gen.In a x:=λx b=>h.In (hl x b)
abbrev mL(M:Mk)(a:List Int):List ab:= [ab.box [o4,o2],ab.dead,ab.mp false [Ck.s] (Ck.i .i64) (bR M.K),ab.sl false 1 false (enc a),ab.rows M.N.isEmpty 5 1 1 M.N.length (rows M.N)]
abbrev pH(M:Mk):List ab:= [ab.box [o3,o2],ab.dead,ab.mp false [Ck.s] (Ck.i .i64) (bR M.K),ab.rows M.N.isEmpty 5 1 1 M.N.length (rows M.N)]
def aP(f:Mk->Int->Int->Int×Mk)(M:Mk):List Int->List Int->List Int×Mk
 | x::a,y::b=>((f M x y).1:: (aP f (f M x y).2 a b).1,(aP f (f M x y).2 a b).2)
 | _,_=>([],M)
theorem oE{f:Mk->Int->Int->Int×Mk}{c:Nat}(l:∀M a b,Ok M->In M a->In M b->Up M (f M a b).2 c/\In (f M a b).2 (f M a b).1):
  ∀{a b:List Int} {M:Mk},Ok M->(∀x∈a,In M x)->(∀x∈b,In M x)->a.length=b.length->
   Up M (aP f M a b).2 (c * a.length)/\(∀x∈(aP f M a b).1,In (aP f M a b).2 x)/\(aP f M a b).1.length=a.length
 | [],b,M,h,_,_,_=>by rw [show aP f M [] b= ([],M) by simp [aP]];exact⟨Up.refl h,λx p=>(by cases p),rfl⟩
 | x::a,[],M,h,_,_,e=>by cases e
 | x::a,y::b,M,h,j,k,e=>by
  obtain⟨g,m⟩:=l M x y h (j x Lq) (k y Lq);obtain⟨i,n,o⟩:=oE l (a:=a) (b:=b) g.ok (g.all λz d=>j z (Lr _ d)) (g.all λz d=>k z (Lr _ d)) (by simpa using e);refine⟨(g.trans i).mono (by rw [LD,Nat.mul_add];omega),λz d=> ?_,by simp [aP,o]⟩;rcases LC.1 d with rfl | d
  .exact i.In m
  .exact n z d
def eG(M:Mk)(c:Int):List Int->List Int->List Int×Mk
 | x::a,y::b=>
  let p:=bm M x y;let q:=bm p.2 p.1 c
  if a.isEmpty then([q.1],q.2) else
  let r:=bW q.2 x y;let s:=bW r.2 p.1 c;let t:=dI s.2 r.1 s.1
  (q.1:: (eG t.2 t.1 a b).1,(eG t.2 t.1 a b).2)
 | _,_=>([],M)
theorem xw(M:Mk)(c:Int)(b:List Int):eG M c [] b= ([],M):=by simp [eG]
def df(M:Mk)(a b:List Int):List Int×Mk:=eG (cE M false).2 (cE M false).1 a b
structure DO (M:Mk) (c x y:Int):Prop where
 p:Up M (bm M x y).2 2
 pi:In (bm M x y).2 (bm M x y).1
 q:Up M (bm (bm M x y).2 (bm M x y).1 c).2 4
 qi:In (bm (bm M x y).2 (bm M x y).1 c).2 (bm (bm M x y).2 (bm M x y).1 c).1
 r:Up M (bW (bm (bm M x y).2 (bm M x y).1 c).2 x y).2 5
 ri:In (bW (bm (bm M x y).2 (bm M x y).1 c).2 x y).2 (bW (bm (bm M x y).2 (bm M x y).1 c).2 x y).1
 s:Up M (bW (bW (bm (bm M x y).2 (bm M x y).1 c).2 x y).2 (bm M x y).1 c).2 6
 si:In (bW (bW (bm (bm M x y).2 (bm M x y).1 c).2 x y).2 (bm M x y).1 c).2 (bW (bW (bm (bm M x y).2 (bm M x y).1 c).2 x y).2 (bm M x y).1 c).1
 rs:In (bW (bW (bm (bm M x y).2 (bm M x y).1 c).2 x y).2 (bm M x y).1 c).2 (bW (bm (bm M x y).2 (bm M x y).1 c).2 x y).1
theorem xx{M:Mk}(h:Ok M){c x y:Int}(e:In M c)(f:In M x)(g:In M y):DO M c x y:=by obtain⟨a,b⟩:=mA h f g;obtain⟨d,k⟩:=mA a.ok b (a.In e);have q:=a.trans d;obtain⟨r1,i⟩:=fE d.ok (q.In f) (q.In g);have r:=q.trans r1;obtain⟨j,l⟩:=fE r1.ok ((d.trans r1).In b) (r.In e);exact⟨a,b,q,k,r,i,r.trans j,l,j.In i⟩
theorem Dr:∀{a b:List Int} {M:Mk} {c:Int},Ok M->In M c->(∀x∈a,In M x)->(∀x∈b,In M x)->a.length=b.length->
   Up M (eG M c a b).2 (7 * a.length)/\(∀x∈(eG M c a b).1,In (eG M c a b).2 x)/\(eG M c a b).1.length=a.length
 | [],b,M,c,h,_,_,_,_=>by rw [show eG M c [] b= ([],M) by simp [eG]];exact⟨Up.refl h,λx o=>(by cases o),rfl⟩
 | x::a,[],M,c,h,_,_,_,e=>by cases e
 | x::a,y::b,M,c,h,i,f,g,e=>by
  have st:=xx h i (f x Lq) (g y Lq);rw [eG];dsimp only;split
  .rename_i n;have:a= []:=by simpa using n
   subst this;exact⟨st.q.mono (by simp),λz d=>by simp only [Lz] at d;subst d;exact st.qi,rfl⟩
  .obtain⟨k,u⟩:=nD st.s.ok st.rs st.si;have t:=st.s.trans k;obtain⟨j,l,m⟩:=Dr (a:=a) (b:=b) t.ok u (t.all λz d=>f z (Lr _ d)) (t.all λz d=>g z (Lr _ d)) (by simpa using e);refine⟨(t.trans j).mono (by rw [LD,Nat.mul_add];omega),λz d=> ?_,by simp [m]⟩;rcases LC.1 d with rfl | d
   .exact j.In (k.In ((fE st.q.ok (st.q.In (f x Lq)) (st.q.In (g y Lq))).1.trans (fE st.r.ok ((fE st.q.ok (st.q.In (f x Lq)) (st.q.In (g y Lq))).1.In ((mA st.p.ok st.pi (st.p.In i)).1.In st.pi)) (st.r.In i)).1 |>.In st.qi))
   .exact l z d
theorem Dp{a b:List Int}{M:Mk}(h:Ok M)(j:∀x∈a,In M x)(k:∀x∈b,In M x)(e:a.length=b.length):
   Up M (df M a b).2 (1+7 * a.length)/\(∀x∈(df M a b).1,In (df M a b).2 x)/\(df M a b).1.length=a.length:=by
 obtain⟨c,d⟩:=gZ h false;obtain⟨f,g,i⟩:=Dr c.ok d (c.all j) (c.all k) e;exact⟨c.trans f,g,i⟩
theorem yM{a:Type}{l r:List a}{i:Nat}(h:l.drop i=r)(b:i<=l.length):l.length=i+r.length:=by rw [<-h,MG];omega
theorem BD{ea eb:Bool}{a b:List Int}(X:a.length=b.length)(hl:a.length<=100):∀(f g:List Int) (i:Nat) (M:Mk) (c:Int) (e:List Int),a.drop i=f->b.drop i=g->i<=a.length->Ok M->In M c->(∀x∈f,In M x)->(∀x∈g,In M x)->M.N.length+7 * f.length<=80000->e.length=i->
  Or mJ [r0,ad ea a,ad eb b,I c,o3,I (a.length:Int),I (i:Int)] (mL M e)=some (T.ad 1 false (enc (e++ (eG M c f g).1))::ct (eG M c f g).2):=by
 intro f;induction f with
 | nil=>
  intro g i M c e B C Q h k D n J j;have m:¬(i:Int) < (a.length:Int):=by have:=br B;omega
  refine ai ?_;rw [uT];simp only [aj,↓reduceIte,Int.reduceBEq,Int.reduceEq,m,aT,aS,Lt,aR,aO,eG,LW];rfl
 | cons x f K=>
  intro g i M c e B C Q h k D n J j;obtain⟨E,Y,A⟩:=bu B;cases g with
  | nil=>exact absurd (br C) (by omega)
  | cons y g=>
   obtain⟨F,Z,G⟩:=bu C;have m:(i:Int) < (a.length:Int):=by omega
   have H:(i:Int) < (b.length:Int):=by omega
   have h0: 0<=(i:Int):=by omega
   have o:=D x Lq;have u:=n y Lq;have st:=xx h k o u;rw [LD] at J;have L:=pn h (by omega) o u;have O:=pn st.p.ok (by have:=st.p.up;omega) st.pi (st.p.In k);have l:=yM A (by omega);have w:=next i (by omega);have P:bq 8 (e.length+1)=some ():=cS (by omega);rw [eG];dsimp only;cases f with
   | nil=>
    have v:¬((i+1:Nat):Int) < (a.length:Int):=by rw [LS] at l;omega
    have d:=K g (i+1) _ c (e++ [(bm (bm M x y).2 (bm M x y).1 c).1]) A G (by omega) st.q.ok (st.q.In k) (λz d=>by cases d) (st.q.all λz d=>n z (Lr _ d)) (by have:=st.q.up;simp;omega) (by simp [j]);rw [xw] at d;refine ai ?_;rw [uT];simp only [aj,↓reduceIte,Int.reduceBEq,Int.reduceEq,m,H,h0,and_self,aD,bJ E,bJ F,L,O,aT,aS,Lt,aR,aO,LG,P,w,v,dS,Oy];rw [LW] at d;exact d
   | cons x2 f=>
    have v:((i+1:Nat):Int) < (a.length:Int):=by rw [LD] at l;omega
    have R:=jH (by have:=st.q.up;omega) (st.q.In o) (st.q.In u);have S:=jH (by have:=st.r.up;omega) ((fE st.q.ok (st.q.In o) (st.q.In u)).1.In ((mA st.p.ok st.pi (st.p.In k)).1.In st.pi)) (st.r.In k);have U:=qX (by have:=st.s.up;omega) st.rs st.si;obtain⟨V,W⟩:=nD st.s.ok st.rs st.si;have t:=st.s.trans V;have d:=K g (i+1) _ _ (e++ [(bm (bm M x y).2 (bm M x y).1 c).1]) A G (by omega) t.ok W (t.all λz d=>D z (Lr _ d)) (t.all λz d=>n z (Lr _ d)) (by have:=t.up;omega) (by simp [j]);refine ai ?_;rw [uT];simp only [aj,↓reduceIte,Int.reduceBEq,Int.reduceEq,m,H,h0,and_self,aD,bJ E,bJ F,L,O,R,S,U,aT,aS,Lt,aR,aO,LG,P,w,v,dS,Oq];simp only [LV,LZ] at d;exact d
theorem CW{M:Mk}(h:Ok M){ea eb:Bool}{a b:List Int}(j:a.length=b.length)(hl:a.length<=100)(G:∀x∈a,In M x)(H:∀x∈b,In M x)(O:M.N.length<=70000):
  Or (.call 55) [r0,ad ea a,ad eb b] (cW M)=some (LO (df M a b).1::ct (df M a b).2):=by
 have J:=ko (show M.N.length<=100000 by omega) false;obtain⟨l,V⟩:=gZ h false;have g:Or mJ [r0,ad ea a,ad eb b,I (cE M false).1,AV.t (T.af true),I (a.length:Int),I 0] (pH (cE M false).2)=some (LO (df M a b).1::ct (df M a b).2):=by
  unfold df;have A:(cE M false).2.N.length<=70001:=by have:=l.up;omega
  revert V;generalize (cE M false).1=c;have f:=l.all G;have e:=l.all H;have n:=l.ok;revert f e n A;generalize (cE M false).2=m;intro A f e n k;clear J l G H h O M;cases a with
  | nil=>refine ai ?_;rw [uS];simp only [aj,↓reduceIte,Int.reduceBEq,Int.reduceEq,aT,aS,Lt,aR,aO,eG,LS,L9,Md,decide_false];rfl
  | cons x i=>
   cases b with
   | nil=>cases j
   | cons y v=>
    have o:=f x Lq;have u:=e y Lq;have st:=xx n k o u;rw [LD] at hl;have K:=pn n (by omega) o u;have L:=pn st.p.ok (by have:=st.p.up;omega) st.pi (st.p.In k);have E:(0:Int) < (((x::i).length:Nat):Int):=by simp
    have F:(0:Int) < (((y::v).length:Nat):Int):=by simp
    have h0:(0:Int)<=0:=by omega
    have C:(enc (x::i))[(0:Int).toNat]? =some [ti x]:=rfl;have D:(enc (y::v))[(0:Int).toNat]? =some [ti y]:=rfl;have w:i64.wrap (0+1)= ((1:Nat):Int):=by decide
    rw [eG];dsimp only;cases i with
    | nil=>
     have B:¬((1:Nat):Int) < ((([x]:List Int).length:Nat):Int):=by simp
     have d:=BD (ea:=ea) (eb:=eb) j (by omega) [] v 1 _ c [(bm (bm m x y).2 (bm m x y).1 c).1] rfl rfl (by simp) st.q.ok (st.q.In k) (λz d=>by cases d) (st.q.all λz d=>e z (Lr _ d)) (by have:=st.q.up;simp;omega) rfl;rw [xw] at d;refine ai ?_;rw [uS];simp only [aj,↓reduceIte,Int.reduceBEq,Int.reduceEq,E,F,h0,and_self,aD,C,D,K,L,aT,aS,Lt,aR,aO,w,B,Oy];exact d
     | cons x2 i=>
     have B:((1:Nat):Int) < (((x::x2::i).length:Nat):Int):=by simp;omega
     have P:=jH (by have:=st.q.up;omega) (st.q.In o) (st.q.In u);have Q:=jH (by have:=st.r.up;omega) ((fE st.q.ok (st.q.In o) (st.q.In u)).1.In ((mA st.p.ok st.pi (st.p.In k)).1.In st.pi)) (st.r.In k);have R:=qX (by have:=st.s.up;omega) st.rs st.si;obtain⟨S,U⟩:=nD st.s.ok st.rs st.si;have t:=st.s.trans S;have d:=BD (ea:=ea) (eb:=eb) j (by rw [LD];omega) (x2::i) v 1 _ _ [(bm (bm m x y).2 (bm m x y).1 c).1] rfl rfl (by simp) t.ok U (t.all λz d=>f z (Lr _ d)) (t.all λz d=>e z (Lr _ d)) (by have:=t.up;omega) rfl;refine ai ?_;rw [uS];simp only [aj,↓reduceIte,Int.reduceBEq,Int.reduceEq,E,F,h0,and_self,aD,C,D,K,L,P,Q,R,aT,aS,Lt,aR,aO,w,B,Oq];exact d
 generalize W:LO (df M a b).1::ct (df M a b).2=r at g;refine ai ?_;rw [FC];simp only [aj,↓reduceIte,Int.reduceBEq,Int.reduceEq,J,aT,aS,Lt,aR,aO,aD];exact g
open Go Go.Aev Go.IntKind
abbrev DM(M:Mk)(a:List Int):List ab:= [ab.box [o1,o2],ab.rows M.N.isEmpty 5 1 1 M.N.length (rows M.N),ab.mp false [Ck.s] (Ck.i .i64) (bR M.K),ab.sl false 1 false (enc a)]
def dV(M:Mk)(a:List Int)(n:Int):Nat->Nat->List Int×Mk
 | _,0=>([],M)
 | i,k+1=>if(i:Int) < n then((cE M false).1:: (dV (cE M false).2 a n (i+1) k).1,(dV (cE M false).2 a n (i+1) k).2)
  else(a.getD ((i:Int) - n).toNat 0:: (dV M a n (i+1) k).1,(dV M a n (i+1) k).2)
def bg(M:Mk)(a:List Int)(n:Int):List Int×Mk:=dV M a n 0 a.length
theorem GO{a:List Int}{P:Int->Prop}(c:∀x∈a,P x){k:Nat}(b:k < a.length):P (a.getD k 0):=by rw [Lw,Ly b];exact c _ (NP b)
theorem vX{a:List Int}{n:Int}(l: 0<=n):∀{k i:Nat} {M:Mk},Ok M->(∀x∈a,In M x)->i+k=a.length->
  Up M (dV M a n i k).2 k/\(∀x∈(dV M a n i k).1,In (dV M a n i k).2 x)/\(dV M a n i k).1.length=k
 | 0,i,M,h,_,_=>⟨Up.refl h,λx o=>(by cases o),rfl⟩
 | k+1,i,M,h,j,e=>by
  rw [dV];split
  .obtain⟨d,m⟩:=gZ h false;obtain⟨c,f,g⟩:=vX l (k:=k) (i:=i+1) d.ok (d.all j) (by omega);refine⟨(d.trans c).mono (by omega),λz b=> ?_,by simp [g]⟩;rcases LC.1 b with rfl | b
   .exact c.In m
   .exact f z b
  .obtain⟨c,f,g⟩:=vX l (k:=k) (i:=i+1) h j (by omega);refine⟨c.mono (by omega),λz b=> ?_,by simp [g]⟩;rcases LC.1 b with rfl | b
   .exact c.In (GO j (by omega))
   .exact f z b
theorem qv{M:Mk}{a:List Int}{n:Int}(c: 0<=n)(h:Ok M)(b:∀x∈a,In M x):
  Up M (bg M a n).2 a.length/\(∀x∈(bg M a n).1,In (bg M a n).2 x)/\(bg M a n).1.length=a.length:=vX c h b (L5 _)
theorem Ii{ea:Bool}{a:List Int}{n:Int}(v: 0<=n)(u:n<=1000)(hl:a.length<=100):∀(k i:Nat) (M:Mk) (b:List Int),i+k=a.length->Ok M->M.N.length+k<=80000->b.length=i->
  Or iq [r0,ad ea a,I n,o3,I (a.length:Int),I (i:Int)] (mL M b)=some (T.ad 1 false (enc (b++ (dV M a n i k).1))::ct (dV M a n i k).2):=by
 intro k;induction k with
 | zero=>
  intro i M b r h p c;have e:¬(i:Int) < (a.length:Int):=by omega
  refine ai ?_;rw [uV];simp only [aj,↓reduceIte,Int.reduceBEq,Int.reduceEq,e,aT,aS,Lt,aR,aO,dV,LW];rfl
 | succ k j=>
  intro i M b r h p c;have e:(i:Int) < (a.length:Int):=by omega
  have w:=next i (by omega);have l:bq 8 (b.length+1)=some ():=cS (by omega);rw [dV];by_cases f:(i:Int) < n
  .have s:=ko (show M.N.length<=100000 by omega) false;obtain⟨m,x⟩:=gZ h false;have d:=j (i+1) _ (b++ [(cE M false).1]) (by omega) m.ok (by have:=m.up;omega) (by simp [c]);rw [if_pos f];simp only [LV,LZ] at d;refine ai ?_;rw [uV];simp only [aj,↓reduceIte,Int.reduceBEq,Int.reduceEq,e,f,s,aT,aS,Lt,aR,aO,aD,LG,l,w,dS];exact d
  .have t:i64.wrap ((i:Int) - n)= (i:Int) - n:=wr (by omega);have o: 0<=(i:Int) - n/\(i:Int) - n < (a.length:Int):=by omega
   have g:((i:Int) - n).toNat < a.length:=by omega
   have q:(enc a)[((i:Int) - n).toNat]? =some [ti (a.getD ((i:Int) - n).toNat 0)]:=by refine eC ?_;rw [Lw,Ly g];rfl
   have d:=j (i+1) M (b++ [a.getD ((i:Int) - n).toNat 0]) (by omega) h (by omega) (by simp [c]);rw [if_neg f];simp only [LV,LZ] at d;refine ai ?_;rw [uV];simp only [aj,↓reduceIte,Int.reduceBEq,Int.reduceEq,e,f,t,o,and_self,q,aT,aS,Lt,aR,aO,aD,LG,l,w,dS];exact d
theorem Ij{ea:Bool}{a:List Int}{n:Int}(s: 0<=n)(r:n<=1000)(hl:a.length<=100):∀(k i:Nat) (M:Mk) (b:List Int),i+k=a.length->n<=(i:Int)->b.length=i->
  Or iq [r0,ad ea a,I n,o3,I (a.length:Int),I (i:Int)] (DM M b)=some (T.ad 1 false (enc (b++ (dV M a n i k).1))::ct (dV M a n i k).2):=by
 intro k;induction k with
 | zero=>
  intro i M b m h c;have e:¬(i:Int) < (a.length:Int):=by omega
  refine ai ?_;rw [zC];simp only [aj,↓reduceIte,Int.reduceBEq,Int.reduceEq,e,aT,aS,Lt,aR,aO,dV,LW];rfl
 | succ k o=>
  intro i M b m h c;have e:(i:Int) < (a.length:Int):=by omega
  have w:=next i (by omega);have p:bq 8 (b.length+1)=some ():=cS (by omega);rw [dV];have d:¬(i:Int) < n:=by omega
  have q:i64.wrap ((i:Int) - n)= (i:Int) - n:=wr (by omega);have j: 0<=(i:Int) - n/\(i:Int) - n < (a.length:Int):=by omega
  have f:((i:Int) - n).toNat < a.length:=by omega
  have l:(enc a)[((i:Int) - n).toNat]? =some [ti (a.getD ((i:Int) - n).toNat 0)]:=by refine eC ?_;rw [Lw,Ly f];rfl
  have g:=o (i+1) M (b++ [a.getD ((i:Int) - n).toNat 0]) (by omega) (by omega) (by simp [c]);rw [if_neg d];simp only [LV,LZ] at g;refine ai ?_;rw [zC];simp only [aj,↓reduceIte,Int.reduceBEq,Int.reduceEq,e,d,q,j,and_self,l,aT,aS,Lt,aR,aO,aD,LG,p,w,dS];exact g
theorem xf{M:Mk}(h:Ok M){ea:Bool}{a:List Int}{n:Int}(j: 0<=n)(e:n<=1000)(hl:a.length<=100)(s:M.N.length<=70000):
  Or (.call 57) [r0,ad ea a,I n] (cW M)=some (LO (bg M a n).1::ct (bg M a n).2):=by
 have c:Or iq [r0,ad ea a,I n,AV.t (T.af true),I (a.length:Int),I 0] (cW M)=some (LO (bg M a n).1::ct (bg M a n).2):=by
  unfold bg;cases a with
  | nil=>refine ai ?_;rw [uU];simp only [aj,↓reduceIte,Int.reduceBEq,Int.reduceEq,aT,aS,Lt,aR,aO,dV,LS,L9,Md,decide_false];rfl
  | cons x b=>
   rw [LD] at hl;have i:(0:Int) < (((x::b).length:Nat):Int):=by simp
   have w:i64.wrap (0+1)= ((1:Nat):Int):=by decide
   rw [show dV M (x::b) n 0 (x::b).length=dV M (x::b) n 0 (b.length+1) from rfl,dV];by_cases f:(0:Int) < n
   .have p:=ko (show M.N.length<=100000 by omega) false;obtain⟨k,v⟩:=gZ h false;have g:=Ii (ea:=ea) (a:=x::b) j e (by rw [LD];omega) b.length 1 _ [(cE M false).1] (by rw [LD];omega) k.ok (by have:=k.up;omega) rfl;have d:((0:Nat):Int) < n:=f;rw [if_pos d];refine ai ?_;rw [uU];simp only [aj,↓reduceIte,Int.reduceBEq,Int.reduceEq,i,f,p,aT,aS,Lt,aR,aO,w];exact g
   .have l:n=0:=by omega
    subst l;have q:i64.wrap (0 - 0)=0:=by decide
    have m:(0:Int)<=0:=by omega
    have o:(enc (x::b))[(0:Int).toNat]? =some [ti x]:=rfl;have g:=Ij (ea:=ea) (a:=x::b) (n:=0) j e (by rw [LD];omega) b.length 1 M [x] (by rw [LD];omega) (by omega) rfl;have d:¬((0:Nat):Int) < 0:=by omega
    rw [if_neg d];refine ai ?_;rw [uU];simp only [aj,↓reduceIte,Int.reduceBEq,Int.reduceEq,i,f,q,m,and_self,o,aD,aT,aS,Lt,aR,aO,w];exact g
 generalize u:LO (bg M a n).1::ct (bg M a n).2=r at c;refine ai ?_;rw [FF];simp only [aj,↓reduceIte,Int.reduceBEq,Int.reduceEq,aT,aS,Lt,aR,aO,aD];exact c
def cr(M:Mk)(x:Int):List Int->List Int×Mk
 | y::l=>((bW M x y).1:: (cr (bW M x y).2 x l).1,(cr (bW M x y).2 x l).2)
 | []=>([],M)
def fI(M:Mk)(a out:List Int):Nat->List Int->List Int×Mk
 | i,x::b=>
  let l:=bg M a (i:Int);let p:=cr l.2 x l.1;let s:=df p.2 out p.1
  fI s.2 a s.1 (i+1) b
 | _,[]=>(out,M)
def ik(M:Mk)(a b:List Int):List Int×Mk:=fI (bg M a (a.length:Int)).2 a (bg M a (a.length:Int)).1 0 b
theorem B5{x:Int}:∀{l:List Int} {M:Mk},Ok M->In M x->(∀y∈l,In M y)->
  Up M (cr M x l).2 l.length/\(∀y∈(cr M x l).1,In (cr M x l).2 y)/\(cr M x l).1.length=l.length
 | [],M,h,_,_=>⟨Up.refl h,λx c=>(by cases c),rfl⟩
 | y::l,M,h,c,hl=>by
  obtain⟨b,e⟩:=fE h c (hl y Lq);obtain⟨d,f,g⟩:=B5 (l:=l) b.ok (b.In c) (b.all λz a=>hl z (Lr _ a));refine⟨(b.trans d).mono (by rw [LD];omega),λz a=> ?_,by simp [cr,g]⟩;rcases LC.1 a with rfl | a
  .exact d.In e
  .exact f z a
structure DP (M:Mk) (a out:List Int) (i:Nat) (x:Int):Prop where
 l:Up M (bg M a (i:Int)).2 a.length
 li:∀y∈(bg M a (i:Int)).1,In (bg M a (i:Int)).2 y
 ll:(bg M a (i:Int)).1.length=a.length
 p:Up M (cr (bg M a (i:Int)).2 x (bg M a (i:Int)).1).2 (2 * a.length)
 pi:∀y∈(cr (bg M a (i:Int)).2 x (bg M a (i:Int)).1).1,In (cr (bg M a (i:Int)).2 x (bg M a (i:Int)).1).2 y
 pl:(cr (bg M a (i:Int)).2 x (bg M a (i:Int)).1).1.length=a.length
 s:Up M (df (cr (bg M a (i:Int)).2 x (bg M a (i:Int)).1).2 out (cr (bg M a (i:Int)).2 x (bg M a (i:Int)).1).1).2 (9 * a.length+1)
 si:∀y∈(df (cr (bg M a (i:Int)).2 x (bg M a (i:Int)).1).2 out (cr (bg M a (i:Int)).2 x (bg M a (i:Int)).1).1).1,In (df (cr (bg M a (i:Int)).2 x (bg M a (i:Int)).1).2 out (cr (bg M a (i:Int)).2 x (bg M a (i:Int)).1).1).2 y
 sl:(df (cr (bg M a (i:Int)).2 x (bg M a (i:Int)).1).2 out (cr (bg M a (i:Int)).2 x (bg M a (i:Int)).1).1).1.length=a.length
theorem Dx{M:Mk}(h:Ok M){a out:List Int}(m:∀y∈a,In M y)(ho:∀y∈out,In M y)(c:out.length=a.length)(i:Nat){x:Int}(o:In M x):DP M a out i x:=by obtain⟨b,e,f⟩:=qv (n:=(i:Int)) (by omega) h m;obtain⟨g,j,d⟩:=B5 b.ok (b.In o) e;rw [f] at g d;have p:=(b.trans g).mono (show a.length+a.length<=2 * a.length by omega);obtain⟨k,q,l⟩:=Dp p.ok (p.all ho) j (by rw [c,d]);rw [c] at k l;exact⟨b,e,f,p,j,d,(p.trans k).mono (by omega),q,l⟩
theorem Dw{a:List Int}:∀{b:List Int} {i:Nat} {M:Mk} {out:List Int},Ok M->(∀y∈a,In M y)->(∀y∈b,In M y)->(∀y∈out,In M y)->out.length=a.length->
  Up M (fI M a out i b).2 ((9 * a.length+1) * b.length)/\(∀y∈(fI M a out i b).1,In (fI M a out i b).2 y)/\(fI M a out i b).1.length=a.length
 | [],i,M,out,h,_,_,ho,hl=>⟨(Up.refl h).mono (by omega),ho,hl⟩
 | x::b,i,M,out,h,c,d,ho,hl=>by have st:=Dx h c ho hl i (d x Lq);obtain⟨e,f,g⟩:=Dw (a:=a) (b:=b) (i:=i+1) st.s.ok (st.s.all c) (st.s.all λz j=>d z (Lr _ j)) st.si st.sl;exact⟨(st.s.trans e).mono (by rw [LD,Nat.mul_add];omega),f,g⟩
theorem KX{M:Mk}(h:Ok M){a b:List Int}(d:∀y∈a,In M y)(j:∀y∈b,In M y):
  Up M (ik M a b).2 (a.length+ (9 * a.length+1) * b.length)/\(∀y∈(ik M a b).1,In (ik M a b).2 y)/\(ik M a b).1.length=a.length:=by
 obtain⟨c,k,l⟩:=qv (n:=(a.length:Int)) (by omega) h d;obtain⟨e,f,g⟩:=Dw (a:=a) (b:=b) (i:=0) c.ok (c.all d) (c.all j) k l;exact⟨c.trans e,f,g⟩
theorem Ih{ea eo eb el:Bool}{a out b l:List Int}{x:Int}{i:Nat}(hl:l.length<=100)(E:out.length=l.length)(G:i<=100){r:List T}:∀(rl:List Int) (j:Nat) (M:Mk) (c:List Int),l.drop j=rl->j<=l.length->Ok M->In M x->(∀y∈rl,In M y)->(∀y∈out,In M y)->(∀y∈c,In M y)->M.N.length+rl.length<=60000->c.length=j->
  Or nX [r0,ad ea a,ad (df (cr M x rl).2 out (c++ (cr M x rl).1)).1.isEmpty (df (cr M x rl).2 out (c++ (cr M x rl).1)).1,ad eb b,I (b.length:Int),I ((i+1:Nat):Int)] (pH (df (cr M x rl).2 out (c++ (cr M x rl).1)).2)=some r->
  Or mK [r0,ad ea a,ad eo out,I x,o3,ad eb b,I (b.length:Int),I (i:Int),ad el l,I (l.length:Int),I (j:Int)] (mL M c)=some r:=by
 intro rl;induction rl with
 | nil=>
  intro j M c m w h n hrl ho d q o f;have p:¬(j:Int) < (l.length:Int):=by have:=br m;omega
  have D:j=l.length:=by have:=br m;omega
  rw [cr,LW] at f;have s:=CW (ea:=eo) (eb:=false) h (a:=out) (b:=c) (by omega) (by omega) ho d (by simp at q;omega);refine ai ?_;rw [zB];simp only [aj,↓reduceIte,Int.reduceBEq,Int.reduceEq,p,s,aT,aS,Lt,aR,aO,cv,next i (by omega)];exact f
 | cons y rl A=>
  intro j M c m w h n hrl ho d q o f;obtain⟨u,F,v⟩:=bu m;have p:(j:Int) < (l.length:Int):=by omega
  have h0: 0<=(j:Int):=by omega
  have t:=hrl y Lq;rw [LD] at q;have s:=jH (show M.N.length<=100000 by omega) n t;obtain⟨e,C⟩:=fE h n t;have B:bq 8 (c.length+1)=some ():=cS (by omega);have k:=A (j+1) _ (c++ [(bW M x y).1]) v (by omega) e.ok (e.In n) (e.all λz k=>hrl z (Lr _ k)) (e.all ho) (λz k=> ?_) (by have:=e.up;omega) (by simp [o]) (by
   rw [cr] at f;simpa only [LV,LZ] using f)
  .refine ai ?_;rw [zB];simp only [aj,↓reduceIte,Int.reduceBEq,Int.reduceEq,p,h0,and_self,aD,bJ u,s,aT,aS,Lt,aR,aO,LG,B,next j (by omega),dS];exact k
  .rcases LI.1 k with g | g
   .exact e.In (d z g)
   .simp only [Lz] at g;subst g;exact C
theorem Ig{ea eb:Bool}{a b:List Int}(V: 1<=a.length)(hl:a.length<=8)(W:b.length<=8):∀(c:List Int) (i:Nat) (M:Mk) (out:List Int),b.drop i=c->i<=b.length->Ok M->(∀y∈a,In M y)->(∀y∈c,In M y)->(∀y∈out,In M y)->out.length=a.length->M.N.length+100 * c.length<=50000->
  Or nX [r0,ad ea a,ad out.isEmpty out,ad eb b,I (b.length:Int),I (i:Int)] (pH M)=some (T.ad 1 (fI M a out i c).1.isEmpty (enc (fI M a out i c).1)::ct (fI M a out i c).2):=by
 intro c;induction c with
 | nil=>
  intro i M out q L h j u ho o v;have r:¬(i:Int) < (b.length:Int):=by have:=br q;omega
  rw [fI];refine ai ?_;rw [zA];simp only [aj,↓reduceIte,Int.reduceBEq,Int.reduceEq,r,aT,aS,Lt,aR,aO];rfl
 | cons x c P=>
  intro i M out q L h j u ho o v;obtain⟨E,X,F⟩:=bu q;have r:(i:Int) < (b.length:Int):=by omega
  have h0: 0<=(i:Int):=by omega
  have C:=u x Lq;rw [LD] at v;have st:=Dx h j ho o i C;have Q:=xf (ea:=ea) h (a:=a) (n:=(i:Int)) h0 (by omega) (by omega) (by omega);rw [fI];have d:=P (i+1) _ _ F (by omega) st.s.ok (st.s.all j) (st.s.all λz d=>u z (Lr _ d)) st.si st.sl (by have:=st.s.up;omega)
  have A:Or mK [r0,ad ea a,ad out.isEmpty out,I x,AV.t (T.af true),ad eb b,I (b.length:Int),I (i:Int),ad (bg M a (i:Int)).1.isEmpty (bg M a (i:Int)).1,I ((bg M a (i:Int)).1.length:Int),I 0] (pH (bg M a (i:Int)).2)=
    some (T.ad 1 (fI (df (cr (bg M a (i:Int)).2 x (bg M a (i:Int)).1).2 out (cr (bg M a (i:Int)).2 x (bg M a (i:Int)).1).1).2 a (df (cr (bg M a (i:Int)).2 x (bg M a (i:Int)).1).2 out (cr (bg M a (i:Int)).2 x (bg M a (i:Int)).1).1).1 (i+1) c).1.isEmpty (enc (fI (df (cr (bg M a (i:Int)).2 x (bg M a (i:Int)).1).2 out (cr (bg M a (i:Int)).2 x (bg M a (i:Int)).1).1).2 a (df (cr (bg M a (i:Int)).2 x (bg M a (i:Int)).1).2 out (cr (bg M a (i:Int)).2 x (bg M a (i:Int)).1).1).1 (i+1) c).1)::
     ct (fI (df (cr (bg M a (i:Int)).2 x (bg M a (i:Int)).1).2 out (cr (bg M a (i:Int)).2 x (bg M a (i:Int)).1).1).2 a (df (cr (bg M a (i:Int)).2 x (bg M a (i:Int)).1).2 out (cr (bg M a (i:Int)).2 x (bg M a (i:Int)).1).1).1 (i+1) c).2):=by
   obtain⟨e,k,m⟩:=qv (n:=(i:Int)) (by omega) h j;revert d e k m;generalize (bg M a (i:Int)).1=l;generalize (bg M a (i:Int)).2=p;intro d e k m;have U:p.N.length<=50010:=by have:=e.up;omega
   have f:=e.In C;have B:=e.all ho;have G:=e.ok;cases l with
   | nil=>rw [LS] at m;omega
   | cons y rl=>
    rw [LD] at m;have D:=k y Lq;have R:=jH (show p.N.length<=100000 by omega) f D;obtain⟨g,S⟩:=fE G f D;have H:(0:Int) < (((y::rl).length:Nat):Int):=by simp
    have J:(0:Int)<=0:=by omega
    have K:(enc (y::rl))[(0:Int).toNat]? =some [ti y]:=rfl;have w:i64.wrap (0+1)= ((1:Nat):Int):=by decide
    have O:=Ih (ea:=ea) (eo:=out.isEmpty) (eb:=eb) (el:=false) (a:=a) (out:=out) (b:=b) (l:=y::rl) (x:=x) (i:=i) (by rw [LD];omega) (by rw [LD];omega) (by omega) rl 1 _ [(bW p x y).1] rfl (by simp) g.ok (g.In f) (g.all λz d=>k z (Lr _ d)) (g.all B) (λz d=>by simp only [Lz] at d;subst d;exact S) (by have:=g.up;omega) rfl d;refine ai ?_;rw [FE];simp only [aj,↓reduceIte,Int.reduceBEq,Int.reduceEq,H,J,and_self,aD,K,R,aT,aS,Lt,aR,aO,w,Oq];exact O
  refine ai ?_;rw [zA];simp only [aj,↓reduceIte,Int.reduceBEq,Int.reduceEq,r,h0,and_self,aD,bJ E,Q,aT,aS,Lt,aR,aO,cv];exact A
theorem JY{M:Mk}(h:Ok M){ea eb:Bool}{a b:List Int}(e: 1<=a.length)(hl:a.length<=8)(f:b.length<=8)(d:∀y∈a,In M y)(g:∀y∈b,In M y)(m:M.N.length<=40000):
  Or (.call 56) [r0,ad ea a,ad eb b] (cW M)=some (T.ad 1 (ik M a b).1.isEmpty (enc (ik M a b).1)::ct (ik M a b).2):=by
 have j:=xf (ea:=ea) h (a:=a) (n:=(a.length:Int)) (by omega) (by omega) (by omega) (by omega);obtain⟨c,k,l⟩:=qv (n:=(a.length:Int)) (by omega) h d;have i:=Ig (ea:=ea) (eb:=eb) e hl f b 0 _ _ rfl (by omega) c.ok (c.all d) (c.all g) k l (by have:=c.up;omega);unfold ik;refine ai ?_;rw [FD];simp only [aj,↓reduceIte,Int.reduceBEq,Int.reduceEq,j,aT,aS,Lt,aR,aO,cv,aD];exact i
def fS(M:Mk)(c:Int):List Int->List Int->Int×Mk
 | x::a,y::b=>
  let n:=fy M x;let p:=bW n.2 n.1 y;let q:=du p.2 x y;let s:=bW q.2 q.1 c;let t:=dI s.2 p.1 s.1
  fS t.2 t.1 a b
 | _,_=>(c,M)
def jx(M:Mk)(a b:List Int):Int×Mk:=fS (cE M false).2 (cE M false).1 a b
theorem Hf(M:Mk)(c:Int)(b:List Int):fS M c [] b= (c,M):=by simp [fS]
theorem Ik{ea eb:Bool}{a b:List Int}(hab:a.length=b.length)(hl:a.length<=100):∀(d e:List Int) (i:Nat) (M:Mk) (c:Int),a.drop i=d->b.drop i=e->i<=a.length->Ok M->In M c->(∀x∈d,In M x)->(∀x∈e,In M x)->M.N.length+5 * d.length<=80000->
  Or uc [r0,ad ea a,ad eb b,I c,I (a.length:Int),I (i:Int)] (pH M)=some (ti (fS M c d e).1::ct (fS M c d e).2)/\Up M (fS M c d e).2 (5 * d.length)/\In (fS M c d e).2 (fS M c d e).1:=by
 intro d;induction d with
 | nil=>
  intro e i M c l m L h g o r A;have n:¬(i:Int) < (a.length:Int):=by have:=br l;omega
  rw [Hf];refine⟨ai ?_,Up.refl h,g⟩;rw [zD];simp only [aj,↓reduceIte,Int.reduceBEq,Int.reduceEq,n,aT,aS,Lt,aR,aO];rfl
 | cons x d O=>
  intro e i M c l m L h g o r A;obtain⟨F,g2,G⟩:=bu l;cases e with
  | nil=>exact absurd (br m) (by omega)
  | cons y e=>
   obtain⟨H,g5,J⟩:=bu m;have n:(i:Int) < (a.length:Int):=by omega
   have K:(i:Int) < (b.length:Int):=by omega
   have h0: 0<=(i:Int):=by omega
   have j:=o x Lq;have k:=r y Lq;rw [LD] at A;obtain⟨f,B⟩:=nB h j;obtain⟨U,C⟩:=fE f.ok B (f.In k);have p:=f.trans U;obtain⟨v,D⟩:=nu p.ok (p.In j) (p.In k);have q:=p.trans v;obtain⟨w,E⟩:=fE q.ok D (q.In g);have s:=q.trans w;obtain⟨V,W⟩:=nD s.ok ((v.trans w).In C) E;have t:=s.trans V;have P:=pk h (by omega) j;have Q:=jH (by have:=f.up;omega) B (f.In k);have R:=tE p.ok (by have:=p.up;omega) (p.In j) (p.In k);have S:=jH (by have:=q.up;omega) D (q.In g);have T:=qX (by have:=s.up;omega) ((v.trans w).In C) E;obtain⟨X,Y,Z⟩:=O e (i+1) _ _ G J (by omega) t.ok W (t.all λz u=>o z (Lr _ u)) (t.all λz u=>r z (Lr _ u)) (by have:=t.up;omega);rw [fS];refine⟨ai ?_,(t.trans Y).mono (by rw [LD];omega),Z⟩;rw [zD];simp only [aj,↓reduceIte,Int.reduceBEq,Int.reduceEq,n,K,h0,and_self,aD,bJ F,bJ H,P,Q,R,S,T,aT,aS,Lt,aR,aO,next i (by omega)];exact X
theorem CX{M:Mk}(h:Ok M){ea eb:Bool}{a b:List Int}(d:a.length=b.length)(hl:a.length<=100)(e:∀x∈a,In M x)(f:∀x∈b,In M x)(m:M.N.length<=70000):
  Or (.call 58) [r0,ad ea a,ad eb b] (cW M)=some (ti (jx M a b).1::ct (jx M a b).2)/\Up M (jx M a b).2 (1+5 * a.length)/\In (jx M a b).2 (jx M a b).1:=by
 have g:=ko (show M.N.length<=100000 by omega) false;obtain⟨c,i⟩:=gZ h false;obtain⟨j,k,l⟩:=Ik (ea:=ea) (eb:=eb) d hl a b 0 _ _ rfl rfl (by omega) c.ok i (c.all e) (c.all f) (by have:=c.up;omega);unfold jx;refine⟨ai ?_,c.trans k,l⟩;rw [FG];simp only [aj,↓reduceIte,Int.reduceBEq,Int.reduceEq,g,aT,aS,Lt,aR,aO,aD];exact j
theorem Ib{ea eb:Bool}{a b:List Int}(E:a.length=b.length)(hl:a.length<=100):∀(e d:List Int) (i:Nat) (M:Mk) (c:List Int),a.drop i=e->b.drop i=d->i<=a.length->Ok M->(∀x∈e,In M x)->(∀x∈d,In M x)->M.N.length+2 * e.length<=80000->c.length=i->
  Or dz [ad ea a,ad eb b,AV.fn 52 [r0] [],o3,I (a.length:Int),I (i:Int)] (mL M c)=some (T.ad 1 false (enc (c++ (aP bW M e d).1))::ct (aP bW M e d).2):=by
 intro e;induction e with
 | nil=>
  intro d i M c k l A h n o p g;have m:¬(i:Int) < (a.length:Int):=by have:=br k;omega
  refine ai ?_;rw [zx];simp only [aj,↓reduceIte,Int.reduceBEq,Int.reduceEq,m,aT,aS,Lt,aR,aO,aP,LW];rfl
 | cons x e B=>
  intro d i M c k l A h n o p g;obtain⟨s,F,t⟩:=bu k;cases d with
  | nil=>exact absurd (br l) (by omega)
  | cons y d=>
   obtain⟨u,G,v⟩:=bu l;have m:(i:Int) < (a.length:Int):=by omega
   have w:(i:Int) < (b.length:Int):=by omega
   have h0: 0<=(i:Int):=by omega
   have q:=n x Lq;have r:=o y Lq;rw [LD] at p;have C:=jH (show M.N.length<=100000 by omega) q r;obtain⟨j,H⟩:=fE h q r;have D:bq 8 (c.length+1)=some ():=cS (by omega);have f:=B d (i+1) _ (c++ [(bW M x y).1]) t v (by omega) j.ok (j.all λz f=>n z (Lr _ f)) (j.all λz f=>o z (Lr _ f)) (by have:=j.up;omega) (by simp [g]);simp only [LV,LZ] at f;rw [aP];refine ai ?_;rw [zx];simp only [aj,↓reduceIte,Int.reduceBEq,Int.reduceEq,m,w,h0,and_self,aD,bJ s,bJ u,C,aT,aS,Lt,aR,aO,LG,D,next i (by omega),dS];exact f
theorem JU{M:Mk}(h:Ok M){ea eb:Bool}{a b:List Int}(f:a.length=b.length)(hl:a.length<=100)(j:∀x∈a,In M x)(k:∀x∈b,In M x)(v:M.N.length<=70000):
  Or (.call 48) [ad ea a,ad eb b,AV.fn 52 [r0] []] (cW M)=some (LO (aP bW M a b).1::ct (aP bW M a b).2):=by
 have c:Or dz [ad ea a,ad eb b,AV.fn 52 [r0] [],AV.t (T.af true),I (a.length:Int),I 0] (cW M)=some (LO (aP bW M a b).1::ct (aP bW M a b).2):=by
  cases a with
  | nil=>refine ai ?_;rw [zq];simp only [aj,↓reduceIte,Int.reduceBEq,Int.reduceEq,aT,aS,Lt,aR,aO,aP,LS,L9,Md,decide_false];rfl
  | cons x g=>
   cases b with
   | nil=>cases f
   | cons y i=>
    have m:=j x Lq;have n:=k y Lq;have u:=jH (show M.N.length<=100000 by omega) m n;obtain⟨e,B⟩:=fE h m n;have q:(0:Int) < (((x::g).length:Nat):Int):=by simp
    have s:(0:Int) < (((y::i).length:Nat):Int):=by simp
    have h0:(0:Int)<=0:=by omega
    have o:(enc (x::g))[(0:Int).toNat]? =some [ti x]:=rfl;have p:(enc (y::i))[(0:Int).toNat]? =some [ti y]:=rfl;have w:i64.wrap (0+1)= ((1:Nat):Int):=by decide
    have l:=hl;rw [LD] at l;have d:=Ib (ea:=ea) (eb:=eb) f hl g i 1 _ [(bW M x y).1] rfl rfl (by simp) e.ok (e.all λz d=>j z (Lr _ d)) (e.all λz d=>k z (Lr _ d)) (by have:=e.up;omega) rfl;rw [aP];refine ai ?_;rw [zq];simp only [aj,↓reduceIte,Int.reduceBEq,Int.reduceEq,q,s,h0,and_self,aD,o,p,u,aT,aS,Lt,aR,aO,w];exact d
 generalize A:LO (aP bW M a b).1::ct (aP bW M a b).2=r at c;refine ai ?_;rw [Fq];simp only [aj,↓reduceIte,Int.reduceBEq,Int.reduceEq,aT,aS,Lt,aR,aO,aD];exact c
theorem Ic{ea eb:Bool}{a b:List Int}(E:a.length=b.length)(hl:a.length<=100):∀(e d:List Int) (i:Nat) (M:Mk) (c:List Int),a.drop i=e->b.drop i=d->i<=a.length->Ok M->(∀x∈e,In M x)->(∀x∈d,In M x)->M.N.length+2 * e.length<=80000->c.length=i->
  Or dz [ad ea a,ad eb b,AV.fn 53 [r0] [],o3,I (a.length:Int),I (i:Int)] (mL M c)=some (T.ad 1 false (enc (c++ (aP dI M e d).1))::ct (aP dI M e d).2):=by
 intro e;induction e with
 | nil=>
  intro d i M c k l A h n o p g;have m:¬(i:Int) < (a.length:Int):=by have:=br k;omega
  refine ai ?_;rw [zy];simp only [aj,↓reduceIte,Int.reduceBEq,Int.reduceEq,m,aT,aS,Lt,aR,aO,aP,LW];rfl
 | cons x e B=>
  intro d i M c k l A h n o p g;obtain⟨s,F,t⟩:=bu k;cases d with
  | nil=>exact absurd (br l) (by omega)
  | cons y d=>
   obtain⟨u,G,v⟩:=bu l;have m:(i:Int) < (a.length:Int):=by omega
   have w:(i:Int) < (b.length:Int):=by omega
   have h0: 0<=(i:Int):=by omega
   have q:=n x Lq;have r:=o y Lq;rw [LD] at p;have C:=qX (show M.N.length<=100000 by omega) q r;obtain⟨j,H⟩:=nD h q r;have D:bq 8 (c.length+1)=some ():=cS (by omega);have f:=B d (i+1) _ (c++ [(dI M x y).1]) t v (by omega) j.ok (j.all λz f=>n z (Lr _ f)) (j.all λz f=>o z (Lr _ f)) (by have:=j.up;omega) (by simp [g]);simp only [LV,LZ] at f;rw [aP];refine ai ?_;rw [zy];simp only [aj,↓reduceIte,Int.reduceBEq,Int.reduceEq,m,w,h0,and_self,aD,bJ s,bJ u,C,aT,aS,Lt,aR,aO,LG,D,next i (by omega),dS];exact f
theorem JV{M:Mk}(h:Ok M){ea eb:Bool}{a b:List Int}(f:a.length=b.length)(hl:a.length<=100)(j:∀x∈a,In M x)(k:∀x∈b,In M x)(v:M.N.length<=70000):
  Or (.call 48) [ad ea a,ad eb b,AV.fn 53 [r0] []] (cW M)=some (LO (aP dI M a b).1::ct (aP dI M a b).2):=by
 have c:Or dz [ad ea a,ad eb b,AV.fn 53 [r0] [],AV.t (T.af true),I (a.length:Int),I 0] (cW M)=some (LO (aP dI M a b).1::ct (aP dI M a b).2):=by
  cases a with
  | nil=>refine ai ?_;rw [zr];simp only [aj,↓reduceIte,Int.reduceBEq,Int.reduceEq,aT,aS,Lt,aR,aO,aP,LS,L9,Md,decide_false];rfl
  | cons x g=>
   cases b with
   | nil=>cases f
   | cons y i=>
    have m:=j x Lq;have n:=k y Lq;have u:=qX (show M.N.length<=100000 by omega) m n;obtain⟨e,B⟩:=nD h m n;have q:(0:Int) < (((x::g).length:Nat):Int):=by simp
    have s:(0:Int) < (((y::i).length:Nat):Int):=by simp
    have h0:(0:Int)<=0:=by omega
    have o:(enc (x::g))[(0:Int).toNat]? =some [ti x]:=rfl;have p:(enc (y::i))[(0:Int).toNat]? =some [ti y]:=rfl;have w:i64.wrap (0+1)= ((1:Nat):Int):=by decide
    have l:=hl;rw [LD] at l;have d:=Ic (ea:=ea) (eb:=eb) f hl g i 1 _ [(dI M x y).1] rfl rfl (by simp) e.ok (e.all λz d=>j z (Lr _ d)) (e.all λz d=>k z (Lr _ d)) (by have:=e.up;omega) rfl;rw [aP];refine ai ?_;rw [zr];simp only [aj,↓reduceIte,Int.reduceBEq,Int.reduceEq,q,s,h0,and_self,aD,o,p,u,aT,aS,Lt,aR,aO,w];exact d
 generalize A:LO (aP dI M a b).1::ct (aP dI M a b).2=r at c;refine ai ?_;rw [Fs];simp only [aj,↓reduceIte,Int.reduceBEq,Int.reduceEq,aT,aS,Lt,aR,aO,aD];exact c
theorem Ie{ea eb:Bool}{a b:List Int}(E:a.length=b.length)(hl:a.length<=100):∀(e d:List Int) (i:Nat) (M:Mk) (c:List Int),a.drop i=e->b.drop i=d->i<=a.length->Ok M->(∀x∈e,In M x)->(∀x∈d,In M x)->M.N.length+2 * e.length<=80000->c.length=i->
  Or dz [ad ea a,ad eb b,AV.fn 54 [r0] [],o3,I (a.length:Int),I (i:Int)] (mL M c)=some (T.ad 1 false (enc (c++ (aP bm M e d).1))::ct (aP bm M e d).2):=by
 intro e;induction e with
 | nil=>
  intro d i M c k l A h n o p g;have m:¬(i:Int) < (a.length:Int):=by have:=br k;omega
  refine ai ?_;rw [zz];simp only [aj,↓reduceIte,Int.reduceBEq,Int.reduceEq,m,aT,aS,Lt,aR,aO,aP,LW];rfl
 | cons x e B=>
  intro d i M c k l A h n o p g;obtain⟨s,F,t⟩:=bu k;cases d with
  | nil=>exact absurd (br l) (by omega)
  | cons y d=>
   obtain⟨u,G,v⟩:=bu l;have m:(i:Int) < (a.length:Int):=by omega
   have w:(i:Int) < (b.length:Int):=by omega
   have h0: 0<=(i:Int):=by omega
   have q:=n x Lq;have r:=o y Lq;rw [LD] at p;have C:=pn h (by omega) q r;obtain⟨j,H⟩:=mA h q r;have D:bq 8 (c.length+1)=some ():=cS (by omega);have f:=B d (i+1) _ (c++ [(bm M x y).1]) t v (by omega) j.ok (j.all λz f=>n z (Lr _ f)) (j.all λz f=>o z (Lr _ f)) (by have:=j.up;omega) (by simp [g]);simp only [LV,LZ] at f;rw [aP];refine ai ?_;rw [zz];simp only [aj,↓reduceIte,Int.reduceBEq,Int.reduceEq,m,w,h0,and_self,aD,bJ s,bJ u,C,aT,aS,Lt,aR,aO,LG,D,next i (by omega),dS];exact f
theorem JW{M:Mk}(h:Ok M){ea eb:Bool}{a b:List Int}(f:a.length=b.length)(hl:a.length<=100)(j:∀x∈a,In M x)(k:∀x∈b,In M x)(v:M.N.length<=70000):
  Or (.call 48) [ad ea a,ad eb b,AV.fn 54 [r0] []] (cW M)=some (LO (aP bm M a b).1::ct (aP bm M a b).2):=by
 have c:Or dz [ad ea a,ad eb b,AV.fn 54 [r0] [],AV.t (T.af true),I (a.length:Int),I 0] (cW M)=some (LO (aP bm M a b).1::ct (aP bm M a b).2):=by
  cases a with
  | nil=>refine ai ?_;rw [zt];simp only [aj,↓reduceIte,Int.reduceBEq,Int.reduceEq,aT,aS,Lt,aR,aO,aP,LS,L9,Md,decide_false];rfl
  | cons x g=>
   cases b with
   | nil=>cases f
   | cons y i=>
    have m:=j x Lq;have n:=k y Lq;have u:=pn h (by omega) m n;obtain⟨e,B⟩:=mA h m n;have q:(0:Int) < (((x::g).length:Nat):Int):=by simp
    have s:(0:Int) < (((y::i).length:Nat):Int):=by simp
    have h0:(0:Int)<=0:=by omega
    have o:(enc (x::g))[(0:Int).toNat]? =some [ti x]:=rfl;have p:(enc (y::i))[(0:Int).toNat]? =some [ti y]:=rfl;have w:i64.wrap (0+1)= ((1:Nat):Int):=by decide
    have l:=hl;rw [LD] at l;have d:=Ie (ea:=ea) (eb:=eb) f hl g i 1 _ [(bm M x y).1] rfl rfl (by simp) e.ok (e.all λz d=>j z (Lr _ d)) (e.all λz d=>k z (Lr _ d)) (by have:=e.up;omega) rfl;rw [aP];refine ai ?_;rw [zt];simp only [aj,↓reduceIte,Int.reduceBEq,Int.reduceEq,q,s,h0,and_self,aD,o,p,u,aT,aS,Lt,aR,aO,w];exact d
 generalize A:LO (aP bm M a b).1::ct (aP bm M a b).2=r at c;refine ai ?_;rw [Ft];simp only [aj,↓reduceIte,Int.reduceBEq,Int.reduceEq,aT,aS,Lt,aR,aO,aD];exact c
theorem If{ea eb:Bool}{a b:List Int}(E:a.length=b.length)(hl:a.length<=100):∀(e d:List Int) (i:Nat) (M:Mk) (c:List Int),a.drop i=e->b.drop i=d->i<=a.length->Ok M->(∀x∈e,In M x)->(∀x∈d,In M x)->M.N.length+2 * e.length<=80000->c.length=i->
  Or dz [ad ea a,ad eb b,AV.fn 59 [r0] [],o3,I (a.length:Int),I (i:Int)] (mL M c)=some (T.ad 1 false (enc (c++ (aP du M e d).1))::ct (aP du M e d).2):=by
 intro e;induction e with
 | nil=>
  intro d i M c k l A h n o p g;have m:¬(i:Int) < (a.length:Int):=by have:=br k;omega
  refine ai ?_;rw [zp];simp only [aj,↓reduceIte,Int.reduceBEq,Int.reduceEq,m,aT,aS,Lt,aR,aO,aP,LW];rfl
 | cons x e B=>
  intro d i M c k l A h n o p g;obtain⟨s,F,t⟩:=bu k;cases d with
  | nil=>exact absurd (br l) (by omega)
  | cons y d=>
   obtain⟨u,G,v⟩:=bu l;have m:(i:Int) < (a.length:Int):=by omega
   have w:(i:Int) < (b.length:Int):=by omega
   have h0: 0<=(i:Int):=by omega
   have q:=n x Lq;have r:=o y Lq;rw [LD] at p;have C:=tE h (by omega) q r;obtain⟨j,H⟩:=nu h q r;have D:bq 8 (c.length+1)=some ():=cS (by omega);have f:=B d (i+1) _ (c++ [(du M x y).1]) t v (by omega) j.ok (j.all λz f=>n z (Lr _ f)) (j.all λz f=>o z (Lr _ f)) (by have:=j.up;omega) (by simp [g]);simp only [LV,LZ] at f;rw [aP];refine ai ?_;rw [zp];simp only [aj,↓reduceIte,Int.reduceBEq,Int.reduceEq,m,w,h0,and_self,aD,bJ s,bJ u,C,aT,aS,Lt,aR,aO,LG,D,next i (by omega),dS];exact f
theorem JX{M:Mk}(h:Ok M){ea eb:Bool}{a b:List Int}(f:a.length=b.length)(hl:a.length<=100)(j:∀x∈a,In M x)(k:∀x∈b,In M x)(v:M.N.length<=70000):
  Or (.call 48) [ad ea a,ad eb b,AV.fn 59 [r0] []] (cW M)=some (LO (aP du M a b).1::ct (aP du M a b).2):=by
 have c:Or dz [ad ea a,ad eb b,AV.fn 59 [r0] [],AV.t (T.af true),I (a.length:Int),I 0] (cW M)=some (LO (aP du M a b).1::ct (aP du M a b).2):=by
  cases a with
  | nil=>refine ai ?_;rw [zu];simp only [aj,↓reduceIte,Int.reduceBEq,Int.reduceEq,aT,aS,Lt,aR,aO,aP,LS,L9,Md,decide_false];rfl
  | cons x g=>
   cases b with
   | nil=>cases f
   | cons y i=>
    have m:=j x Lq;have n:=k y Lq;have u:=tE h (by omega) m n;obtain⟨e,B⟩:=nu h m n;have q:(0:Int) < (((x::g).length:Nat):Int):=by simp
    have s:(0:Int) < (((y::i).length:Nat):Int):=by simp
    have h0:(0:Int)<=0:=by omega
    have o:(enc (x::g))[(0:Int).toNat]? =some [ti x]:=rfl;have p:(enc (y::i))[(0:Int).toNat]? =some [ti y]:=rfl;have w:i64.wrap (0+1)= ((1:Nat):Int):=by decide
    have l:=hl;rw [LD] at l;have d:=If (ea:=ea) (eb:=eb) f hl g i 1 _ [(du M x y).1] rfl rfl (by simp) e.ok (e.all λz d=>j z (Lr _ d)) (e.all λz d=>k z (Lr _ d)) (by have:=e.up;omega) rfl;rw [aP];refine ai ?_;rw [zu];simp only [aj,↓reduceIte,Int.reduceBEq,Int.reduceEq,q,s,h0,and_self,aD,o,p,u,aT,aS,Lt,aR,aO,w];exact d
 generalize A:LO (aP du M a b).1::ct (aP du M a b).2=r at c;refine ai ?_;rw [Fu];simp only [aj,↓reduceIte,Int.reduceBEq,Int.reduceEq,aT,aS,Lt,aR,aO,aD];exact c
open Go Go.Aev Go.IntKind
theorem cI{h:Type}(a b c d e f g:h)(l:List h):(a::b::c::d::e::f::g::l).drop 7=l:=rfl
theorem cJ{i:Type}(a b c d e f g h:i)(l:List i):(a::b::c::d::e::f::g::h::l).drop 8=l:=rfl
structure Dc where
 nm:ByteArray
 ea:Bool
 ar:List Int
 so:Int
def aJ(l:List Dc):List (List T):=l.map λd=> [T.str d.nm,T.ad 1 d.ea (enc d.ar),ti d.so]
def aU(l:List Nd):List (List T):=l.map λx=> [ti x.op,T.ad 1 x.ek (enc x.ks),ti x.n,ti x.d,T.str x.nm]
def bd(l:List (List Int)):List (List T):=l.map λb=> [LO b]
theorem cw(l:List Dc):(aJ l).length=l.length:=by simp [aJ]
theorem cO(l:List Nd):(aU l).length=l.length:=by simp [aU]
theorem lS(l:List (List Int)):(bd l).length=l.length:=by simp [bd]
theorem dR{l:List Dc}{i:Nat}{d:Dc}(h:l[i]? =some d):(aJ l)[((i:Nat):Int).toNat]? =some [T.str d.nm,T.ad 1 d.ea (enc d.ar),ti d.so]:=by simp [aJ,h]
theorem ef{l:List Nd}{i:Nat}{x:Nd}(h:l[i]? =some x):(aU l)[((i:Nat):Int).toNat]? =some [ti x.op,T.ad 1 x.ek (enc x.ks),ti x.n,ti x.d,T.str x.nm]:=by simp [aU,h]
theorem py(a b:ByteArray):(a.toList==b.toList)=decide (a=b):=by
 rw [Go.Lib.toList_data,Go.Lib.toList_data];by_cases h:a=b
 .subst h;simp
 .have:¬a.data.toList=b.data.toList:=λe=>h (by cases a;cases b;simpa using M5 e);rw [decide_eq_false h];exact beq_eq_false_iff_ne.2 this
def gA(nm:ByteArray):Nat->List Dc->Int
 | _,[]=> -1
 | i,d::r=>if d.nm=nm then(i:Int) else gA nm (i+1) r
def bc(ds:List Dc)(nm:ByteArray):Int:=gA nm 0 ds
theorem qc(nm:ByteArray):∀(i:Nat) (ds:List Dc), -1<=gA nm i ds/\gA nm i ds < (i:Int)+ds.length+1
 | i,[]=>by simp [gA];omega
 | i,d::r=>by
  rw [gA];split
  .simp;omega
  .have:=qc nm (i+1) r;simp;omega
theorem Is{e:Bool}{ds:List Dc}{nm:ByteArray}(hl:ds.length<=100):∀(r:List Dc) (i:Nat),ds.drop i=r->
  Or fK [AV.t (T.ad 3 e (aJ ds)),AV.fn 80 [] [AV.t (T.ptr [T.str nm])],I (ds.length:Int),I (i:Int)] []=some [ti (gA nm i r)]:=by
 intro r;induction r with
 | nil=>
  intro i g;have b:¬(i:Int) < (ds.length:Int):=by have:=br g;omega
  refine ai ?_;rw [zO];simp only [aj,↓reduceIte,Int.reduceBEq,Int.reduceEq,b,gA]
 | cons d r j=>
  intro i g;obtain⟨f,k,h⟩:=bu g;have b:(i:Int) < (ds.length:Int):=by omega
  have h0: 0<=(i:Int):=by omega
  have a:Or (.call 80) [AV.agg [AV.t (T.str d.nm),AV.t (T.ad 1 d.ea (enc d.ar)),I d.so],AV.t (T.ptr [T.str nm])] []=some [tb (decide (d.nm=nm))]:=by refine ai ?_;rw [Gc,py]
  refine ai ?_;rw [zO,gA];by_cases c:d.nm=nm
  .rw [decide_eq_true c] at a;rw [if_pos c];simp only [aj,↓reduceIte,Int.reduceBEq,Int.reduceEq,b,h0,and_self,cw,dR f,a]
  .rw [decide_eq_false c] at a;rw [if_neg c];simp only [aj,↓reduceIte,Int.reduceBEq,Int.reduceEq,b,h0,and_self,cw,dR f,a,next i (by omega)];exact j (i+1) h
theorem qW{ed en eh:Bool}{ds:List Dc}{ns:List Nd}{hs:List Int}{nm:ByteArray}(hl:ds.length<=100):
  Or (.call 47) [AV.agg [AV.t (T.ad 3 ed (aJ ds)),AV.t (T.ad 5 en (aU ns)),AV.t (T.ad 1 eh (enc hs))],AV.t (T.str nm)] []=some [ti (bc ds nm)]:=by
 have k:=Is (e:=ed) (nm:=nm) hl ds 0 rfl;have a:Or (.call 77) [AV.t (T.ad 3 ed (aJ ds)),AV.fn 80 [] [AV.t (T.ptr [T.str nm])]] []=some [ti (bc ds nm)]:=by refine ai ?_;rw [F9];simp only [cw];exact k
 refine ai ?_;rw [Fm];simp only [aj,↓reduceIte,Int.reduceBEq,Int.reduceEq,a]
structure Cx where
 ed:Bool
 ds:List Dc
 en:Bool
 ns:List Nd
 eh:Bool
 hs:List Int
 p:ByteArray
 es:Bool
 ss:List Int
structure Tr where
 bits:List (List Int)
 to:List Int
theorem ig{c:Cx}{t:Tr}{M:Mk}{x:Nd}{j:Nat}{k:Int}{b:List Int}(e:x.ks[j]? =some k)(l: 0<=k)(a:t.bits[k.toNat]? =some b):
  Or (.call 45) [I (j:Int),r0,r1] [ab.box [AV.ref (Id.c 2) 0],ab.box [I x.op,ad x.ek x.ks,I x.n,I x.d,AV.t (T.str x.nm)],ab.box [AV.ref (Id.c 3) 0,AV.t (T.ad 3 c.ed (aJ c.ds)),AV.t (T.ad 5 c.en (aU c.ns)),AV.t (T.ad 1 c.eh (enc c.hs)),AV.t (T.str c.p),AV.t (T.ad 1 c.es (enc c.ss)),AV.own (Id.c 4),AV.own (Id.c 5)],ab.box [AV.own (Id.c 6),AV.own (Id.c 7)],ab.sl false 1 t.bits.isEmpty (bd t.bits),ab.sl false 1 t.to.isEmpty (enc t.to),ab.rows M.N.isEmpty 5 1 1 M.N.length (rows M.N),ab.mp false [Ck.s] (Ck.i .i64) (bR M.K)]=some [T.ad 1 b.isEmpty (enc b),T.ak,ti x.op,T.ad 1 x.ek (enc x.ks),ti x.n,ti x.d,T.str x.nm,T.ak,T.ad 3 c.ed (aJ c.ds),T.ad 5 c.en (aU c.ns),T.ad 1 c.eh (enc c.hs),T.str c.p,T.ad 1 c.es (enc c.ss),T.ak,T.ak,RW M.N,T.ak,T.ad 1 t.bits.isEmpty (bd t.bits),T.ad 1 t.to.isEmpty (enc t.to),EM M.K]:=by
 have f: 0<=(j:Int)/\(j:Int) < (x.ks.length:Int):=by have:=(Ls.1 e).1;omega
 have g: 0<=k/\k < (t.bits.length:Int):=by have:=(Ls.1 a).1;omega
 have h:(bd t.bits)[k.toNat]? =some [LO b]:=by simp [bd,a]
 refine ai ?_;rw [Fk];simp only [aj,↓reduceIte,Int.reduceBEq,Int.reduceEq,aD,lS,f,g,and_self,bJ e,h,cv,aT,aS,Lt,aR,aO];rfl
def cG(a:Int)(M:Mk)(x y:Int):Int×Mk:=if x=y then(x,M) else cR M 7 s0 0 0 [a,x,y]
theorem wL{a:Int}{M:Mk}(h:Ok M)(d:In M a){x y:Int}(c:In M x)(e:In M y):Up M (cG a M x y).2 1/\In (cG a M x y).2 (cG a M x y).1:=by
 unfold cG;split
 .exact⟨(Up.refl h).mono (by omega),c⟩
 .exact iE h _ _ _ _ _ (λk b=>by simp only [LC,MH,or_false] at b;rcases b with rfl | rfl | rfl <;> assumption) (by simp)
theorem CV{c:Cx}{t:Tr}{M:Mk}{a x y:Int}(b:M.N.length<=100000)(g:In M a)(j:In M x)(l:In M y):
  Or (.call 49) [I x,I y,r0,r1] [ab.box [AV.ref (Id.c 2) 0],ab.box [I a],ab.box [AV.ref (Id.c 3) 0,AV.t (T.ad 3 c.ed (aJ c.ds)),AV.t (T.ad 5 c.en (aU c.ns)),AV.t (T.ad 1 c.eh (enc c.hs)),AV.t (T.str c.p),AV.t (T.ad 1 c.es (enc c.ss)),AV.own (Id.c 4),AV.own (Id.c 5)],ab.box [AV.own (Id.c 6),AV.own (Id.c 7)],ab.sl false 1 t.bits.isEmpty (bd t.bits),ab.sl false 1 t.to.isEmpty (enc t.to),ab.rows M.N.isEmpty 5 1 1 M.N.length (rows M.N),ab.mp false [Ck.s] (Ck.i .i64) (bR M.K)]=some [ti (cG a M x y).1,T.ak,ti a,T.ak,T.ad 3 c.ed (aJ c.ds),T.ad 5 c.en (aU c.ns),T.ad 1 c.eh (enc c.hs),T.str c.p,T.ad 1 c.es (enc c.ss),T.ak,T.ak,RW ((cG a M x y).2).N,T.ak,T.ad 1 t.bits.isEmpty (bd t.bits),T.ad 1 t.to.isEmpty (enc t.to),EM ((cG a M x y).2).K]:=by
 have e:=iI M b 7 s0 0 0 [a,x,y] false rfl (λk f=>by
  simp only [LC,MH,or_false] at f;rcases f with rfl | rfl | rfl
  .exact g.i64 b
  .exact j.i64 b
  .exact l.i64 b) (by simp) (by omega) (by omega) (by omega) (by decide)
 replace e:Or (.call 46) [r0,I 7,AV.t (T.str s0),I 0,I 0,AV.t (T.ad 1 false [[ti a],[ti x],[ti y]])] (cW M)=_:=e;unfold cG;refine ai ?_;rw [Fv];by_cases h:x=y
 .subst h;simp only [aj,↓reduceIte,Int.reduceBEq,Int.reduceEq,aT,aS,Lt,aR,aO];rfl
 .have d:(x==y)=false:=by simpa using h
  simp only [aj,↓reduceIte,Int.reduceBEq,Int.reduceEq,d,h,e,aT,aS,Lt,aR,aO];rfl
theorem Ia{c:Cx}{t:Tr}{g:Int}{ea eb:Bool}{a b:List Int}(O:a.length=b.length)(hl:a.length<=100):∀(f e:List Int) (i:Nat) (M:Mk) (d:List Int),a.drop i=f->b.drop i=e->i<=a.length->Ok M->In M g->(∀x∈f,In M x)->(∀x∈e,In M x)->M.N.length+f.length<=80000->d.length=i->
  Or mI [ad ea a,ad eb b,AV.fn 49 [] [r0,r1],AV.own (Id.c 8),I (a.length:Int),I (i:Int)] [ab.box [AV.ref (Id.c 2) 0],ab.box [I g],ab.box [AV.ref (Id.c 3) 0,AV.t (T.ad 3 c.ed (aJ c.ds)),AV.t (T.ad 5 c.en (aU c.ns)),AV.t (T.ad 1 c.eh (enc c.hs)),AV.t (T.str c.p),AV.t (T.ad 1 c.es (enc c.ss)),AV.own (Id.c 4),AV.own (Id.c 5)],ab.box [AV.own (Id.c 9),AV.own (Id.c 7)],ab.sl false 1 t.bits.isEmpty (bd t.bits),ab.sl false 1 t.to.isEmpty (enc t.to),ab.dead,ab.mp false [Ck.s] (Ck.i .i64) (bR M.K),ab.sl false 1 false (enc d),ab.rows M.N.isEmpty 5 1 1 M.N.length (rows M.N)]=some [T.ad 1 false (enc (d++ (aP (cG g) M f e).1)),T.ak,ti g,T.ak,T.ad 3 c.ed (aJ c.ds),T.ad 5 c.en (aU c.ns),T.ad 1 c.eh (enc c.hs),T.str c.p,T.ad 1 c.es (enc c.ss),T.ak,T.ak,RW ((aP (cG g) M f e).2).N,T.ak,T.ad 1 t.bits.isEmpty (bd t.bits),T.ad 1 t.to.isEmpty (enc t.to),EM ((aP (cG g) M f e).2).K]:=by
 intro f;induction f with
 | nil=>
  intro e i M d n o G h m r u v k;have q:¬(i:Int) < (a.length:Int):=by have:=br n;omega
  refine ai ?_;rw [zw];simp only [aj,↓reduceIte,Int.reduceBEq,Int.reduceEq,q,aT,aS,Lt,aR,aO,cI,cJ,cv,aP,LW];rfl
 | cons x f H=>
  intro e i M d n o G h m r u v k;obtain⟨B,P,C⟩:=bu n;cases e with
  | nil=>exact absurd (br o) (by omega)
  | cons y e=>
   obtain⟨D,Q,E⟩:=bu o;have q:(i:Int) < (a.length:Int):=by omega
   have F:(i:Int) < (b.length:Int):=by omega
   have h0: 0<=(i:Int):=by omega
   have w:=r x Lq;have A:=u y Lq;rw [LD] at v;have J:=CV (c:=c) (t:=t) (show M.N.length<=100000 by omega) m w A;obtain⟨l,R⟩:=wL h m w A;have L:bq 8 (d.length+1)=some ():=cS (by omega);have j:=H e (i+1) _ (d++ [(cG g M x y).1]) C E (by omega) l.ok (l.In m) (l.all λz j=>r z (Lr _ j)) (l.all λz j=>u z (Lr _ j)) (by have:=l.up;omega) (by simp [k]);simp only [LV,LZ] at j;rw [aP];refine ai ?_;rw [zw];simp only [aj,↓reduceIte,Int.reduceBEq,Int.reduceEq,q,F,h0,and_self,aD,bJ B,bJ D,J,aT,aS,Lt,aR,aO,cI,cJ,cv,LG,L,next i (by omega),dS];exact j
theorem JT{c:Cx}{t:Tr}{d:Int}{M:Mk}(h:Ok M)(k:In M d){ea eb:Bool}{a b:List Int}(j:a.length=b.length)(o: 1<=a.length)(hl:a.length<=100)(n:∀x∈a,In M x)(q:∀x∈b,In M x)(F:M.N.length<=70000):
  Or (.call 48) [ad ea a,ad eb b,AV.fn 49 [] [r0,r1]] [ab.box [AV.ref (Id.c 2) 0],ab.box [I d],ab.box [AV.ref (Id.c 3) 0,AV.t (T.ad 3 c.ed (aJ c.ds)),AV.t (T.ad 5 c.en (aU c.ns)),AV.t (T.ad 1 c.eh (enc c.hs)),AV.t (T.str c.p),AV.t (T.ad 1 c.es (enc c.ss)),AV.own (Id.c 4),AV.own (Id.c 5)],ab.box [AV.own (Id.c 6),AV.own (Id.c 7)],ab.sl false 1 t.bits.isEmpty (bd t.bits),ab.sl false 1 t.to.isEmpty (enc t.to),ab.rows M.N.isEmpty 5 1 1 M.N.length (rows M.N),ab.mp false [Ck.s] (Ck.i .i64) (bR M.K)]=some [T.ad 1 false (enc (aP (cG d) M a b).1),T.ak,ti d,T.ak,T.ad 3 c.ed (aJ c.ds),T.ad 5 c.en (aU c.ns),T.ad 1 c.eh (enc c.hs),T.str c.p,T.ad 1 c.es (enc c.ss),T.ak,T.ak,RW ((aP (cG d) M a b).2).N,T.ak,T.ad 1 t.bits.isEmpty (bd t.bits),T.ad 1 t.to.isEmpty (enc t.to),EM ((aP (cG d) M a b).2).K]:=by
 have g:Or mI [ad ea a,ad eb b,AV.fn 49 [] [r0,r1],AV.t (T.af true),I (a.length:Int),I 0] [ab.box [AV.ref (Id.c 2) 0],ab.box [I d],ab.box [AV.ref (Id.c 3) 0,AV.t (T.ad 3 c.ed (aJ c.ds)),AV.t (T.ad 5 c.en (aU c.ns)),AV.t (T.ad 1 c.eh (enc c.hs)),AV.t (T.str c.p),AV.t (T.ad 1 c.es (enc c.ss)),AV.own (Id.c 4),AV.own (Id.c 5)],ab.box [AV.own (Id.c 6),AV.own (Id.c 7)],ab.sl false 1 t.bits.isEmpty (bd t.bits),ab.sl false 1 t.to.isEmpty (enc t.to),ab.rows M.N.isEmpty 5 1 1 M.N.length (rows M.N),ab.mp false [Ck.s] (Ck.i .i64) (bR M.K)]=some [T.ad 1 false (enc (aP (cG d) M a b).1),T.ak,ti d,T.ak,T.ad 3 c.ed (aJ c.ds),T.ad 5 c.en (aU c.ns),T.ad 1 c.eh (enc c.hs),T.str c.p,T.ad 1 c.es (enc c.ss),T.ak,T.ak,RW ((aP (cG d) M a b).2).N,T.ak,T.ad 1 t.bits.isEmpty (bd t.bits),T.ad 1 t.to.isEmpty (enc t.to),EM ((aP (cG d) M a b).2).K]:=by
  cases a with
  | nil=>simp at o
  | cons x l=>
   cases b with
   | nil=>cases j
   | cons y m=>
    have u:=n x Lq;have v:=q y Lq;have E:=CV (c:=c) (t:=t) (show M.N.length<=100000 by omega) k u v;obtain⟨f,G⟩:=wL h k u v;have C:(0:Int) < (((x::l).length:Nat):Int):=by simp
    have D:(0:Int) < (((y::m).length:Nat):Int):=by simp
    have h0:(0:Int)<=0:=by omega
    have A:(enc (x::l))[(0:Int).toNat]? =some [ti x]:=rfl;have B:(enc (y::m))[(0:Int).toNat]? =some [ti y]:=rfl;have w:i64.wrap (0+1)= ((1:Nat):Int):=by decide
    have r:=hl;rw [LD] at r;have e:=Ia (c:=c) (t:=t) (ea:=ea) (eb:=eb) j hl l m 1 _ [(cG d M x y).1] rfl rfl (by simp) f.ok (f.In k) (f.all λz e=>n z (Lr _ e)) (f.all λz e=>q z (Lr _ e)) (by have:=f.up;omega) rfl;rw [aP];refine ai ?_;rw [Fp];simp only [aj,↓reduceIte,Int.reduceBEq,Int.reduceEq,C,D,h0,and_self,aD,A,B,E,aT,aS,Lt,aR,aO,cI,cJ,cv,w];exact e
 refine ai ?_;rw [Fo];simp only [aj,↓reduceIte,Int.reduceBEq,Int.reduceEq,aT,aS,Lt,aR,aO,cI,cJ,cv,aD];exact g
end Go.Aev.Gen
