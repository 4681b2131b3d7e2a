import Derived.Test.YtcffabneepdohaaGreatDoorBlastMeansQ16
import Derived.Test.YtcffabneepdohaaGreatDoorBlastMeansQ15
set_option linter.all false
namespace Go.Aev.Gen
open Go Go.Aev
def DI:Nat->List Int->Int
 | _,[]=>0
 | k,n::r=>n * 2 ^ k+DI (k+1) r
def Dp:List En->Int->List Int->Int
 | [],d,_=>d
 | e::r,d,x=>if e.ar=x then e.to.n else Dp r d x
def uC(m:Me)(x:List Int):Int:=Dp m.rs m.re.n x
structure Lk (m:Me):Prop where
 re:m.re.n=0\/m.re.n=1
 to:∀e∈m.rs,e.to.n=0\/e.to.n=1
 ok:je m
 ea:∀e∈m.rs,e.ea=true->e.ar= []
def nu(q:Bool)(v:Int):Va:=⟨q,v,1,true,[],0⟩
def BV(q:Bool)(val:List Int->Int):List En->List En->List En
 | acc,[]=>acc
 | acc,e::r=>if(acc.any λx=>decide (x.ar=e.ar))=true then BV q val acc r else BV q val (acc++ [⟨e.ea,e.ar,nu q (val e.ar)⟩]) r
def Hx(q:Bool)(val:List Int->Int):List En->List Me->List En
 | acc,[]=>acc
 | acc,m::r=>Hx q val (BV q val acc m.rs) r
def PQ(a:List Me)(x:List Int):Int:=DI 0 (a.map λm=>uC m x)
def PO(a:List Me):Int:=DI 0 (a.map λm=>m.re.n)
def BW(q:Bool)(a:List Me):List En:=Hx q (PQ a) [] a
def PR(q:Bool)(a:List Me):Me:=⟨q && (BW q a).isEmpty,(BW q a).isEmpty,BW q a,nu q (PO a)⟩
abbrev eB(e:En):aa:=aa.box [AV.t (T.ad 1 e.ea (enc e.ar)),I e.to.n,I e.to.d,AV.t (T.ad 2 e.to.ec (bL e.to.cs)),I e.to.r]
structure Wh (bs:List Me):Prop where
 bl:bs.length<=8
 ok:∀m∈bs,Lk m
open Go Go.Aev
def qI:List Dc->List Dc->Prop
 | [],D=>D= []
 | d::ds,D=>if aE d.so=true then(∃B a,D=B++a/\B.length=ic d.so/\(∀x∈B,x.so=1)/\qI ds a) else(∃x a,D=x::a/\qI ds a)
theorem Ev(p:ByteArray)(k:Nat)(d:Dc):∀(n b:Nat),∀x∈fZ p k d b n,x.so=1
 | 0,_,x,h=>by cases h
 | n+1,b,x,h=>by
  rw [fZ,WC] at h;rcases h with rfl | h
  .rfl
  .exact Ev p k d n (b+1) x h
theorem BA(p:ByteArray):∀(ds:List Dc) (k:Nat),qI ds (cE p k ds)
 | [],_=>rfl
 | d::ds,k=>by
  rw [qI,cE];split
  .rename_i h;exact⟨_,_,rfl,sW _ _ _ _ _,Ev _ _ _ _ _,BA p ds (k+1)⟩
  .exact⟨d,_,rfl,BA p ds (k+1)⟩
theorem GH:∀(ds:List Dc),(∀d∈ds,aE d.so=false)->qI ds ds
 | [],_=>rfl
 | d::ds,h=>by rw [qI,if_neg (by rw [h d Wl];decide)];exact⟨d,ds,rfl,GH ds λx a=>h x (Wn _ a)⟩
theorem Hn{v:Va}(h:dh 1 v=true):v.n=0\/v.n=1:=by
 unfold dh at h;rw [if_neg (by decide)] at h;split at h
 .cases h
 .rw [if_pos rfl] at h;simpa using h
open Go Go.Aev
theorem LY:∀x:_root_.Fin 256,∀b:_root_.Fin 8,fY ((x.val:Nat):Int) b.val= (((x.val / 2 ^ b.val) % 2:Nat):Int):=by decide+kernel
theorem LX{x b:Nat}(c:x < 256)(a:b < 8):fY (x:Int) b= ((x / 2 ^ b % 2:Nat):Int):=LY ⟨x,c⟩ ⟨b,a⟩
theorem LW(n:Int)(b:Nat):fY n b=0\/fY n b=1:=by
 unfold fY;have:(BitVec.ofInt 64 (n.fdiv (2 ^ min b 64)) &&& BitVec.ofInt 64 1).toNat<=1:=by rw [ZA];exact Nat.and_le_right
 generalize (BitVec.ofInt 64 (n.fdiv (2 ^ min b 64)) &&& BitVec.ofInt 64 1).toNat=u at this;rw [wr (by omega)];omega
theorem Ho{v:Va}{b:Nat}:dh 1 (og v b)=true:=by
 have:dh 1 ⟨false,0,1,true,[],0⟩=true/\dh 1 ⟨false,1,1,true,[],0⟩=true:=by decide+kernel
 unfold og;rcases LW v.n b with e | e <;> rw [e]
 .exact this.1
 .exact this.2
theorem PI{s:Int}{v:Va}(a:aE s=true)(h:dh s v=true):v.cs= []/\v.r=0/\v.d=1/\0<=v.n/\v.n < 2 ^ (s - 10).toNat:=by
 have hs:=rO.1 a;unfold dh at h;rw [if_neg (by omega)] at h;split at h
 .cases h
 rename_i c;rw [if_neg (by omega),if_neg (by omega),Ww,decide_eq_true_eq,decide_eq_true_eq] at h;refine⟨XO λe=>c (.inl e),XO λe=>c (.inr (.inl e)),XO λe=>c (.inr (.inr (.inr ⟨by omega,e⟩))),h.1,h.2⟩
structure DR (d:Dc) (m:Me):Prop where
 l:m.rs.length<=1000
 a:(m.rs.any λe=> !((e.ar.length:Int)== (d.ar.length:Int)))=false
 t:(m.rs.any λe=>e.ar.any λn=> !eM n)=false
 u:lF [] m.rs=false
 r:dh d.so m.re=true
 v:(m.rs.any λe=> !dh d.so e.to)=false
theorem Cj{d:Dc}{m:Me}(h:fJ d m=0):DR d m:=by
 unfold fJ at h;split at h
 .exact absurd h (by decide)
 rename_i f;split at h
 .exact absurd h (by decide)
 rename_i a;split at h
 .exact absurd h (by decide)
 rename_i c3;split at h
 .exact absurd h (by decide)
 rename_i b;split at h
 .exact absurd h (by decide)
 rename_i c;split at h
 .exact absurd h (by decide)
 rename_i e;exact⟨by omega,by simpa using a,by simpa using c3,by simpa using b,by simpa using c,by simpa using e⟩
theorem If{d:Dc}{m:Me}(h:DR d m):fJ d m=0:=by unfold fJ;rw [if_neg (by have:=h.l;omega),h.a,h.t,h.u,h.r,h.v];rfl
theorem uX{f:En->En}{P:List Int->Bool}(a:∀e,(f e).ar=e.ar)(l:List En):((l.map f).any λe=>P e.ar)=l.any λe=>P e.ar:=by rw [ZB];congr 1;funext e;show P (f e).ar=P e.ar;rw [a]
theorem AQ{f:En->En}(c:∀e,(f e).ar=e.ar):∀(r b:List En),lF (b.map f) (r.map f)=lF b r
 | [],b=>rfl
 | e::r,b=>by rw [WL,lF,lF,c e,uX (P:=λa=>decide (a=e.ar)) c];have:=AQ c r (b++ [e]);rw [Yf,WL,Xj] at this;rw [this]
theorem Qm{d:Dc}{m:Me}{nm:ByteArray}{b:Nat}(h:fJ d m=0):fJ ⟨nm,d.ea,d.ar,1⟩ (cS m b)=0:=by
 have k:=Cj h;have c:∀e,(cW b e).ar=e.ar:=λe=>rfl;refine If ⟨by show(m.rs.map (cW b)).length<=1000;rw [W6];exact k.l, ?_, ?_, ?_,Ho, ?_⟩
 .show((m.rs.map (cW b)).any λe=> !((e.ar.length:Int)== (d.ar.length:Int)))=false;rw [uX (P:=λa=> !((a.length:Int)== (d.ar.length:Int))) c];exact k.a
 .show((m.rs.map (cW b)).any λe=>e.ar.any λn=> !eM n)=false;rw [uX (P:=λa=>a.any λn=> !eM n) c];exact k.t
 .show lF (List.map (cW b) []) (m.rs.map (cW b))=false;rw [AQ c];exact k.u
 .show((m.rs.map (cW b)).any λe=> !dh 1 e.to)=false;rw [ZB,Xd];intro e _;show ¬(!dh 1 (og e.to b))=true;rw [Ho];decide
theorem Ie{d:Dc}{m:Me}(h:fJ d m=0):fJ d (jk m)=0:=by
 have k:=Cj h;have b:∀e,(nE e).ar=e.ar:=λe=>rfl;refine If ⟨by show(m.rs.map nE).length<=1000;rw [W6];exact k.l, ?_, ?_, ?_,k.r, ?_⟩
 .show((m.rs.map nE).any λe=> !((e.ar.length:Int)== (d.ar.length:Int)))=false;rw [uX (P:=λa=> !((a.length:Int)== (d.ar.length:Int))) b];exact k.a
 .show((m.rs.map nE).any λe=>e.ar.any λn=> !eM n)=false;rw [uX (P:=λa=>a.any λn=> !eM n) b];exact k.t
 .show lF (List.map nE []) (m.rs.map nE)=false;rw [AQ b];exact k.u
 .show((m.rs.map nE).any λe=> !dh d.so e.to)=false;rw [ZB];exact k.v
def iB:List Dc->List Me->Prop
 | [],[]=>True
 | d::ds,m::ms=>fJ d m=0/\iB ds ms
 | _,_=>False
theorem Ak:∀{ds:List Dc} {ms:List Me},ms.length=ds.length->(∀(j:Nat) (d:Dc) (m:Me),ds[j]? =some d->ms[j]? =some m->fJ d m=0)->iB ds ms
 | [],[],_,_=>trivial
 | [],_::_,h,_=>by simp at h
 | _::_,[],h,_=>by simp at h
 | d::ds,m::ms,h,a=>⟨a 0 d m rfl rfl,Ak (by simpa using h) λj b f c e=>a (j+1) b f (by simpa using c) (by simpa using e)⟩
theorem Aj:∀{ds:List Dc} {ms:List Me},iB ds ms->ms.length=ds.length/\∀i,nz i ds ms= (0,0)
 | [],[],_=>⟨rfl,λi=>rfl⟩
 | [],_::_,h=>h.elim
 | _::_,[],h=>h.elim
 | d::ds,m::ms,h=>by obtain⟨a,b⟩:=Aj h.2;exact⟨by rw [Wz,Wz,a],λi=>by rw [nz,if_pos h.1];exact b _⟩
theorem DW:∀{a:List Dc} {x:List Me} {b:List Dc} {y:List Me},iB a x->iB b y->iB (a++b) (x++y)
 | [],[],_,_,_,h=>h
 | [],_::_,_,_,h,_=>h.elim
 | _::_,[],_,_,h,_=>h.elim
 | d::ds,m::ms,_,_,h,c=>⟨h.1,DW h.2 c⟩
theorem DX{p:ByteArray}{k:Nat}{d:Dc}{m:Me}(h:fJ d m=0):∀(n b:Nat),iB (fZ p k d b n) (ku m b n)
 | 0,_=>trivial
 | n+1,b=>⟨Qm h,DX h n (b+1)⟩
theorem DY{p:ByteArray}:∀{ds:List Dc} {ms:List Me} (k:Nat),iB ds ms->iB (cE p k ds) (ef ds ms)
 | [],[],_,_=>trivial
 | [],_::_,_,h=>h.elim
 | _::_,[],_,h=>h.elim
 | d::ds,m::ms,k,h=>by
  rw [cE,ef];refine DW ?_ (DY (k+1) h.2);unfold gU ic;split
  .exact DX h.1 _ _
  .exact⟨Ie h.1,trivial⟩
theorem DZ:∀{ds:List Dc} {ms:List Me},(∀d∈ds,aE d.so=false)->iB ds ms->iB ds (ef ds ms)
 | [],[],_,_=>trivial
 | [],_::_,_,h=>h.elim
 | _::_,[],_,h=>h.elim
 | d::ds,m::ms,a,h=>by rw [ef];unfold gU;rw [if_neg (by rw [a d Wl];decide)];exact⟨Ie h.1,DZ (λx b=>a x (Wn _ b)) h.2⟩
theorem Ex{m:Me}(h:ff m)(o:je m):∀(k b:Nat),∀x∈ku m b k,ff x/\je x
 | 0,_,x,c=>by cases c
 | k+1,b,x,c=>by
  rw [ku] at c;rcases WC.1 c with rfl | c
  .have key:∀e∈(cS m b).rs,∃y∈m.rs,e=cW b y:=λe a=>by
    obtain⟨y,d,rfl⟩:=WU.1 (show e∈m.rs.map (cW b) from a);exact⟨y,d,rfl⟩
   refine⟨⟨Xr _,λe a=> ?_,λ_=>rfl,λe a=> ?_,λe a=> ?_⟩,⟨?_,λe a=> ?_⟩⟩
   .obtain⟨y,_,rfl⟩:=key e a;exact Xr _
   .obtain⟨y,_,rfl⟩:=key e a;exact λ_=>rfl
   .obtain⟨y,d,rfl⟩:=key e a;exact h.ea y d
   .show(m.rs.map (cW b)).length<=1000;rw [W6];exact o.rl
   .obtain⟨y,d,rfl⟩:=key e a;exact o.al y d
  .exact Ex h o k (b+1) x c
theorem My{m:Me}(h:ff m)(o:je m):ff (jk m)/\je (jk m):=by
 have key:∀e∈(jk m).rs,∃y∈m.rs,e=nE y:=λe a=>by obtain⟨y,b,rfl⟩:=WU.1 (show e∈m.rs.map nE from a);exact⟨y,b,rfl⟩
 refine⟨⟨h.re,λe a=> ?_,h.rcc,λe a=> ?_,λe a=> ?_⟩,⟨?_,λe a=> ?_⟩⟩
 .obtain⟨y,b,rfl⟩:=key e a;exact h.rs y b
 .obtain⟨y,b,rfl⟩:=key e a;exact h.zt y b
 .obtain⟨y,b,rfl⟩:=key e a;exact h.ea y b
 .show(m.rs.map nE).length<=1000;rw [W6];exact o.rl
 .obtain⟨y,b,rfl⟩:=key e a;exact o.al y b
theorem E6:∀{ds:List Dc} {ms:List Me},(∀m∈ms,ff m/\je m)->∀x∈ef ds ms,ff x/\je x
 | [],ms,_,x,a=>by simp [ef] at a
 | d::ds,[],_,x,a=>by simp [ef] at a
 | d::ds,m::ms,h,x,a=>by
  obtain⟨w,o⟩:=h m Wl;rw [ef] at a;rcases WK.1 a with a | a
  .unfold gU at a;split at a
   .exact Ex w o _ _ x a
   .rw [WA] at a;subst a;exact My w o
  .exact E6 (λy b=>h y (Wn _ b)) x a
end Go.Aev.Gen
