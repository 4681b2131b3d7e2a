import Derived.Test.YtcffabneepdohaaGreatDoorBlastMeansQ8
import Derived.Test.YtcffabneepdohaaGreatDoorBlastMeansQ14
import Derived.Test.YtcffabneepdohaaGreatDoorBlastMeansQ5
set_option linter.all false
namespace Go.Aev.Gen
open Go Go.Aev Go.IntKind
abbrev ML:Nat:=8796093022208
structure Va where
 em:Bool
 n:Int
 d:Int
 ec:Bool
 cs:List (Int×Int)
 r:Int
structure En where
 ea:Bool
 ar:List Int
 to:Va
structure Me where
 em:Bool
 er:Bool
 rs:List En
 re:Va
def bL(l:List (Int×Int)):List (List T):=l.map λp=> [ti p.1,ti p.2]
def cT(v:Va):T:=bif v.em && v.cs.isEmpty then T.aB v.ec else T.ad 2 v.ec (bL v.cs)
theorem dv(v:Va):(cT v).aQ 2=some (v.ec,bL v.cs):=by
 unfold cT;cases a:v.em && v.cs.isEmpty with
 | true=>rw [Ww,XN] at a;rw [a.2];simp only [aR,cz];rfl
 | false=>simp only [aX,cu]
def aM(l:List En):List (List T):=l.map λe=> [T.ad 1 e.ea (enc e.ar),ti e.to.n,ti e.to.d,cT e.to,ti e.to.r]
def mT(m:Me):T:=bif m.em && m.rs.isEmpty then T.aB m.er else T.ad 5 m.er (aM m.rs)
theorem rV(m:Me):(mT m).aQ 5=some (m.er,aM m.rs):=by
 unfold mT;cases a:m.em && m.rs.isEmpty with
 | true=>rw [Ww,XN] at a;rw [a.2];simp only [aR,cz];rfl
 | false=>simp only [aX,cu]
def fk(l:List Me):List (List T):=l.map λm=> [mT m,ti m.re.n,ti m.re.d,cT m.re,ti m.re.r]
abbrev VG(v:Va):AV:=AV.agg [I v.n,I v.d,AV.t (T.ad 2 v.ec (bL v.cs)),I v.r]
abbrev EG(e:En):AV:=AV.agg [AV.t (T.ad 1 e.ea (enc e.ar)),I e.to.n,I e.to.d,AV.t (T.ad 2 e.to.ec (bL e.to.cs)),I e.to.r]
abbrev MG(m:Me):AV:=AV.agg [AV.t (T.ad 5 m.er (aM m.rs)),I m.re.n,I m.re.d,AV.t (T.ad 2 m.re.ec (bL m.re.cs)),I m.re.r]
abbrev WG(e:Bool)(l:List Me):AV:=AV.agg [AV.t (T.ad 5 e (fk l))]
abbrev DG(d:Dc):AV:=AV.agg [AV.t (T.str d.nm),AV.t (T.ad 1 d.ea (enc d.ar)),I d.so]
abbrev DP(d:Dc):AV:=AV.t (T.ptr [T.str d.nm,T.ad 1 d.ea (enc d.ar),ti d.so])
theorem iU(l:List (Int×Int)):(bL l).length=l.length:=by simp [bL]
theorem l7{l:List (Int×Int)}{i:Nat}{p:Int×Int}(h:l[i]? =some p):(bL l)[((i:Nat):Int).toNat]? =some [ti p.1,ti p.2]:=by simp [bL,h]
theorem fj(l:List En):(aM l).length=l.length:=by simp [aM]
theorem kD{l:List En}{i:Nat}{e:En}(h:l[i]? =some e):(aM l)[((i:Nat):Int).toNat]? =some [T.ad 1 e.ea (enc e.ar),ti e.to.n,ti e.to.d,cT e.to,ti e.to.r]:=by simp [aM,h]
theorem l8(l:List Me):(fk l).length=l.length:=by simp [fk]
theorem vD{l:List Me}{i:Nat}{m:Me}(h:l[i]? =some m):(fk l)[((i:Nat):Int).toNat]? =some [mT m,ti m.re.n,ti m.re.d,cT m.re,ti m.re.r]:=by simp [fk,h]
theorem RS(i:Nat)(h:i<=ML):i64.wrap ((i:Int)+1)= ((i+1:Nat):Int):=by rw [wr (by unfold ML at h;omega)];omega
def eM(n:Int):Bool:=decide (n>=0) && decide (n<=1000)
theorem wT(n:Int):Or (.call 57) [I n] []=some [tb (eM n)]:=by refine ai ?_;rw [Nt];simp only [s5,eM]
theorem Im:∀(b a:Nat),Or xm [AV.t (.int .u64 (a:Int)),AV.t (.int .u64 (b:Int))] []=some [.int .u64 (Nat.gcd b a:Nat)]:=by
 intro b;induction b using Nat.strongRecOn with
 | _ b f=>
  intro a;refine ai ?_;rw [MQ];by_cases h:b=0
  .subst h;simp
  .have d:((b:Int)==0)=false:=by simpa using h
   have e:¬(b:Int)=0:=by omega
   have c:=f (a % b) (Zo _ (by omega)) b;rw [show Nat.gcd (a % b) b=Nat.gcd b a from(Nat.gcd_rec b a).symm] at c;simp only [d,e,Wu,aR,↓reduceIte,aI];rw [show((a:Int).tmod (b:Int))= ((a % b:Nat):Int) from by simp [Int.tmod]];exact c
theorem JR{n:Int}(h: -1073741824<=n/\n<=1073741824):Or (.call 105) [I n] []=some [.int .u64 (n.natAbs:Int)]:=by
 have b:∀v:Int,u64.wrap v=v % 18446744073709551616:=λv=>by simp [IntKind.wrap,IntKind.bits,IntKind.signed]
 refine ai ?_;rw [Fe];by_cases h0:n < 0
 .have a:u64.wrap (0 - u64.wrap n)= (n.natAbs:Int):=by
   rw [b,b];omega
  simp only [h0,decide_true,aR,a]
 .have a:u64.wrap n= (n.natAbs:Int):=by rw [b];omega
  simp only [h0,decide_false,aX,a]
def vJ(n d:Int):Bool:= !(((decide (d < 1) || decide (d > 1073741824)) || decide (n < -1073741824)) || decide (n > 1073741824))
def kF(n d:Int):Int:=if vJ n d=true/\Nat.gcd d.natAbs n.natAbs=1 then 0 else 3
theorem C3(n d:Int):Or (.call 82) [AV.agg [I n,I d]] []=some [ti (kF n d),ti 0]:=by
 refine ai ?_;rw [OC];simp only [vf];unfold kF;cases a:vJ n d with
 | false=>unfold vJ at a;rw [Yp] at a;simp only [a,Ws,fO,bE,aI,XZ,aR];rfl
 | true=>
  have c: -1073741824<=n/\n<=1073741824/\1<=d/\d<=1073741824:=by unfold vJ at a;simp only [Xo,Xq,decide_eq_false_iff_not] at a;omega
  unfold vJ at a;rw [Xo] at a;have k1:=JR (n:=n) ⟨c.1,c.2.1⟩;have k2:=JR (n:=d) ⟨by omega,c.2.2.2⟩;have k3:Or (.call 104) [AV.t (.int .u64 (n.natAbs:Int)),AV.t (.int .u64 (d.natAbs:Int))] []=some [.int .u64 (Nat.gcd d.natAbs n.natAbs:Nat)]:=by refine ai ?_;rw [Fc];exact Im _ _
  simp only [a,Wu,fx,k1,k2,k3,aI,aL,aO,W4];by_cases b:Nat.gcd d.natAbs n.natAbs=1
  .rw [if_pos ⟨trivial,b⟩,b];rfl
  .have e:(((Nat.gcd d.natAbs n.natAbs:Nat):Int)==1)=false:=by
    rw [beq_eq_false_iff_ne];omega
   simp only [e,b,Wu,aR,and_false,↓reduceIte]
def wc:Option Int->Int->Bool
 | none,_=>true
 | some p,x=> !decide (x<=p)
def rm(r:Int):Option Int->List (Int×Int)->Bool
 | _,[]=>true
 | a,c::t=>(eM c.1 && eM c.2 && !(c.2==r) && wc a c.1) && rm r (some c.1) t
def xI(v:Va):Bool:=(v.n==0 && v.d==0) && eM v.r && rm v.r none v.cs
abbrev U5(v:Va):aa:=aa.box [I v.n,I v.d,AV.t (T.ad 2 v.ec (bL v.cs)),I v.r]
theorem Rx{v:Va}(hl:v.cs.length<=ML):∀(t:List (Int×Int)) (i:Nat) (a:Option Int),v.cs.drop i=t->i<=v.cs.length->(i=0/\a=none\/∃j p,i=j+1/\v.cs[j]? =some p/\a=some p.1)->
  Or xv [r0,AV.t (T.ad 2 v.ec (bL v.cs)),I (v.cs.length:Int),I (i:Int)] [U5 v]=some [tb (rm v.r a t)]:=by
 intro t;induction t with
 | nil=>
  intro i a g s h;have d:¬(i:Int) < (v.cs.length:Int):=by have:=bt g;omega
  refine ai ?_;rw [Gi];simp only [an,↓reduceIte,Int.reduceBEq,Int.reduceEq,d,rm]
 | cons c t w=>
  intro i a g s h;obtain⟨g1,A,m⟩:=br g;have d:(i:Int) < (v.cs.length:Int):=by omega
  have h0: 0<=(i:Int):=by omega
  have k1:=wT c.1;have k2:=wT c.2;have k:=w (i+1) (some c.1) m (by omega) (.inr ⟨i,c,rfl,g1,rfl⟩);have l:=RS i (by omega);rw [rm];refine ai ?_;rw [Gi];simp only [vf,s5,aI,aL,aV,aO,bK,d,h0,and_self,decide_true,aR,↓reduceIte,iU,l7 g1,k1];cases y:eM c.1 with
  | false=>simp only [an,↓reduceIte,Int.reduceBEq,Int.reduceEq,Wu,Ws,XZ,bE]
  | true=>
  cases f:eM c.2 with
  | false=>rw [f] at k2;simp only [an,↓reduceIte,Int.reduceBEq,Int.reduceEq,Wu,Ws,XZ,W4,bE,k2]
  | true=>
  rw [f] at k2;cases b:c.2==v.r with
  | true=>simp only [aI,aL,bK,iR,fx,fO,iX,iW,aR,aX,XZ,YZ,W4,Xn,Xm,Xe,bE,k2,b]
  | false=>
   rcases h with⟨rfl,rfl⟩ | ⟨j,p,rfl,u,rfl⟩
   .have e:¬((0:Nat):Int) > 0:=by omega
    simp only [aI,aL,bK,iR,fx,fO,iX,iW,aR,aX,XZ,YZ,W4,Xn,Xm,Xe,XF,bE,k2,b,e,decide_false,l,wc];exact k
   .have e:((j+1:Nat):Int) > 0:=by omega
    have x:i64.wrap (((j+1:Nat):Int) - 1)= (j:Int):=by rw [wr (by unfold ML at hl;omega)];omega
    have q:(j:Int) < (v.cs.length:Int):=by omega
    have o:(0:Int)<=(j:Int):=by omega
    have n:(bL v.cs)[j]? =some [ti p.1,ti p.2]:=by have:=l7 u;simpa using this
    simp only [aI,aL,aO,bK,iR,fx,fO,iX,iW,aR,aX,XZ,YZ,W4,Xn,Xm,Xe,XF,bE,k2,b,e,decide_true,x,q,o,and_self,↓reduceIte,WW,n,wc];cases z:decide (c.1<=p.1) with
    | true=>simp only [aR,Ws,Xm]
    | false=>simp only [aX,Wu,Xe,l];exact k
theorem T0{v:Va}(hl:v.cs.length<=ML):Or (.call 81) [VG v] []=some [tb (xI v)]:=by
 have b:=Rx hl v.cs 0 none rfl (Xr _) (.inl ⟨rfl,rfl⟩);have k:=wT v.r;unfold xI;refine ai ?_;rw [OB];simp only [vf,XF,iU];cases c:(v.n==0 && v.d==0) with
 | false=>simp only [Wu,Ws,fO,aI,bE,XZ,aR,Xm]
 | true=>
 cases a:eM v.r with
 | false=>rw [a] at k;simp only [Wu,Ws,fx,aI,aL,bK,k,W4,aR,Xm,Xe]
 | true=>rw [a] at k;simp only [Wu,Ws,fx,aI,aL,bK,k,W4,aX,Xe];exact b
def dh(s:Int)(v:Va):Bool:=
 if s=5 then xI v
 else if v.cs≠[]\/v.r≠0\/kF v.n v.d≠0\/(s≠3/\v.d≠1) then false
 else if s=1 then(v.n==0 || v.n==1)
 else if s=4 then eM v.n
 else if aE s=true then(decide (v.n>=0) && decide (v.n < 2 ^ (s - 10).toNat))
 else true
theorem JY(s:Int){v:Va}(hl:v.cs.length<=ML):Or (.call 60) [I s,VG v] []=some [tb (dh s v)]:=by
 have k:=T0 hl;unfold dh;refine ai ?_;rw [Nv];by_cases j:s=5
 .subst j;simp only [an,↓reduceIte,Int.reduceBEq,Int.reduceEq,k]
 simp only [AE,j,↓reduceIte,iU,vf,s5];have y:=C3 v.n v.d;cases c:(decide ((v.cs.length:Int) > 0) || !v.r==0) with
 | true=>
  have:v.cs≠[]\/v.r≠0\/kF v.n v.d≠0\/(s≠3/\v.d≠1):=by
   rw [Xf] at c;rcases c with b | b
   .left;intro e;rw [e] at b;simp at b
   .right;left;simpa using b
  rw [if_pos this];simp only [Ws,fO,aI,bE,XZ,aR]
 | false=>
 have l:v.cs= []/\v.r=0:=by
  rw [Xq] at c;refine⟨?_,by simpa using c.2⟩;cases h:v.cs with
  | nil=>rfl
  | cons a b=>rw [h] at c;simp at c
 simp only [Wu,fx,y,aI,aL,aV,aO,W4];cases f:(!kF v.n v.d==0 || (!s==3 && !v.d==1)) with
 | true=>
  have:v.cs≠[]\/v.r≠0\/kF v.n v.d≠0\/(s≠3/\v.d≠1):=by
   right;right;rw [Xf] at f;rcases f with b | b
   .left;simpa using b
   .right;simpa using b
  rw [if_pos this];simp only [aR]
 | false=>
 have x:¬(v.cs≠[]\/v.r≠0\/kF v.n v.d≠0\/(s≠3/\v.d≠1)):=by
  rw [Xq] at f;have g:kF v.n v.d=0:=by simpa using f.1
  have w:¬(s≠3/\v.d≠1):=by have:=f.2;simpa using this
  rintro(h | h | h | h)
  .exact h l.1
  .exact h l.2
  .exact h g
  .exact w h
 rw [if_neg x];simp only [aX];by_cases g:s=1
 .subst g;simp only [↓reduceIte];by_cases m:v.n=0
  .simp [m]
  .simp [m]
 simp only [g,↓reduceIte];by_cases i:s=4
 .subst i;have p:=wT v.n;simp only [↓reduceIte,p,aI,aL,bK]
 simp only [i,↓reduceIte];have o:=hH s;simp only [o,aI,aL,bK];cases q:aE s with
 | false=>simp
 | true=>
  have hs: 10 < s/\s<=18:=by simpa [aE] using q
  obtain⟨b,rfl⟩:∃b:Nat,s=10+ (b:Int):=⟨(s - 10).toNat,by omega⟩;have A: 1<=b/\b<=8:=by omega
  have z:i64.wrap (10+ (b:Int) - 10)= (b:Int):=by rw [wr (by omega)];omega
  have h0:¬(b:Int) < 0:=by omega
  have t:(10+ (b:Int) - 10).toNat=b:=by omega
  have u:i64.wrap (1 * 2 ^ min b 64)=2 ^ b:=by rcases(by omega:b=1\/b=2\/b=3\/b=4\/b=5\/b=6\/b=7\/b=8) with rfl | rfl | rfl | rfl | rfl | rfl | rfl | rfl <;> decide
  simp only [aR,↓reduceIte,z,h0,aI,WW,t,u]
theorem Ro{er:Bool}{rs:List En}{d:Dc}(hl:rs.length<=900000)(f:∀e∈rs,Or (.call 54) [EG e,DP d] []=some [tb (!((e.ar.length:Int)== (d.ar.length:Int)))]):∀(r:List En) (i:Nat),rs.drop i=r->
  ∃z:Int,Or jc [AV.t (T.ad 5 er (aM rs)),AV.fn 54 [] [DP d],I (rs.length:Int),I (i:Int)] []=some [ti z]/\decide (z>=0)=r.any λe=> !((e.ar.length:Int)== (d.ar.length:Int)):=by
 intro r;induction r with
 | nil=>
  intro i g;have b:¬(i:Int) < (rs.length:Int):=by have:=bt g;omega
  refine⟨-1,ai ?_,by simp⟩;rw [Bf];simp only [an,↓reduceIte,Int.reduceBEq,Int.reduceEq,b]
 | cons x r h=>
  intro i g;obtain⟨g1,m,c⟩:=br g;have hm:=Wx g1;have b:(i:Int) < (rs.length:Int):=by omega
  have h0: 0<=(i:Int):=by omega
  have k:=f x hm;cases a:(λe:En=> !((e.ar.length:Int)== (d.ar.length:Int))) x with
  | true=>replace a:(!((x.ar.length:Int)== (d.ar.length:Int)))=true:=a;rw [a] at k;refine⟨(i:Int),ai ?_,by rw [Xz];simp [a]⟩;rw [Bf];simp only [aI,aL,aV,bK,aO,cu,b,h0,and_self,fj,kD g1,dv,k,aR,im,↓reduceIte]
  | false=>replace a:(!((x.ar.length:Int)== (d.ar.length:Int)))=false:=a;rw [a] at k;obtain⟨z,j,l⟩:=h (i+1) c;refine⟨z,ai ?_,by rw [l,Xz,a,W4]⟩;rw [Bf];simp only [aI,aL,aV,bK,aO,cu,b,h0,and_self,fj,kD g1,dv,k,aX,im,↓reduceIte,next i (by omega)];exact j
theorem Td{er:Bool}{rs:List En}{d:Dc}(hl:rs.length<=900000)(b:∀e∈rs,Or (.call 54) [EG e,DP d] []=some [tb (!((e.ar.length:Int)== (d.ar.length:Int)))]):Or (.call 53) [AV.t (T.ad 5 er (aM rs)),AV.fn 54 [] [DP d]] []=some [tb (rs.any λe=> !((e.ar.length:Int)== (d.ar.length:Int)))]:=by
 obtain⟨z,c,f⟩:=Ro (er:=er) hl b rs 0 rfl;have a:Or (.call 80) [AV.t (T.ad 5 er (aM rs)),AV.fn 54 [] [DP d]] []=some [ti z]:=by refine ai ?_;rw [Oo];simp only [fj];exact c
 refine ai ?_;rw [Nc];simp only [aI,aL,aO,a,f]
theorem Rq{er:Bool}{rs:List En}(hl:rs.length<=900000)(d:∀e∈rs,Or (.call 55) [EG e] []=some [tb (e.ar.any λn=> !eM n)]):∀(r:List En) (i:Nat),rs.drop i=r->
  ∃z:Int,Or jc [AV.t (T.ad 5 er (aM rs)),AV.fn 55 [] [],I (rs.length:Int),I (i:Int)] []=some [ti z]/\decide (z>=0)=r.any λe=>e.ar.any λn=> !eM n:=by
 intro r;induction r with
 | nil=>
  intro i g;have b:¬(i:Int) < (rs.length:Int):=by have:=bt g;omega
  refine⟨-1,ai ?_,by simp⟩;rw [Bg];simp only [an,↓reduceIte,Int.reduceBEq,Int.reduceEq,b]
 | cons x r f=>
  intro i g;obtain⟨g1,l,c⟩:=br g;have hm:=Wx g1;have b:(i:Int) < (rs.length:Int):=by omega
  have h0: 0<=(i:Int):=by omega
  have k:=d x hm;cases a:(λe:En=>e.ar.any λn=> !eM n) x with
  | true=>replace a:(x.ar.any λn=> !eM n)=true:=a;rw [a] at k;refine⟨(i:Int),ai ?_,by rw [Xz];simp [a]⟩;rw [Bg];simp only [aI,aL,aV,bK,aO,cu,b,h0,and_self,fj,kD g1,dv,k,aR,im,↓reduceIte]
  | false=>replace a:(x.ar.any λn=> !eM n)=false:=a;rw [a] at k;obtain⟨z,h,j⟩:=f (i+1) c;refine⟨z,ai ?_,by rw [j,Xz,a,W4]⟩;rw [Bg];simp only [aI,aL,aV,bK,aO,cu,b,h0,and_self,fj,kD g1,dv,k,aX,im,↓reduceIte,next i (by omega)];exact h
theorem Tf{er:Bool}{rs:List En}(hl:rs.length<=900000)(b:∀e∈rs,Or (.call 55) [EG e] []=some [tb (e.ar.any λn=> !eM n)]):Or (.call 53) [AV.t (T.ad 5 er (aM rs)),AV.fn 55 [] []] []=some [tb (rs.any λe=>e.ar.any λn=> !eM n)]:=by
 obtain⟨z,c,d⟩:=Rq (er:=er) hl b rs 0 rfl;have a:Or (.call 80) [AV.t (T.ad 5 er (aM rs)),AV.fn 55 [] []] []=some [ti z]:=by refine ai ?_;rw [Oq];simp only [fj];exact c
 refine ai ?_;rw [Nf];simp only [aI,aL,aO,a,d]
theorem Rn{er:Bool}{rs:List En}{y:En}(hl:rs.length<=900000)(f:∀e∈rs,Or (.call 58) [EG e,AV.t (T.ptr [T.ad 1 y.ea (enc y.ar),ti y.to.n,ti y.to.d,T.ad 2 y.to.ec (bL y.to.cs),ti y.to.r])] []=some [tb (decide (e.ar=y.ar))]):∀(r:List En) (i:Nat),rs.drop i=r->
  ∃z:Int,Or jc [AV.t (T.ad 5 er (aM rs)),AV.fn 58 [] [AV.t (T.ptr [T.ad 1 y.ea (enc y.ar),ti y.to.n,ti y.to.d,T.ad 2 y.to.ec (bL y.to.cs),ti y.to.r])],I (rs.length:Int),I (i:Int)] []=some [ti z]/\decide (z>=0)=r.any λe=>decide (e.ar=y.ar):=by
 intro r;induction r with
 | nil=>
  intro i g;have b:¬(i:Int) < (rs.length:Int):=by have:=bt g;omega
  refine⟨-1,ai ?_,by simp⟩;rw [Bh];simp only [an,↓reduceIte,Int.reduceBEq,Int.reduceEq,b]
 | cons x r h=>
  intro i g;obtain⟨g1,m,c⟩:=br g;have hm:=Wx g1;have b:(i:Int) < (rs.length:Int):=by omega
  have h0: 0<=(i:Int):=by omega
  have k:=f x hm;cases a:(λe:En=>decide (e.ar=y.ar)) x with
  | true=>replace a:(decide (x.ar=y.ar))=true:=a;rw [a] at k;refine⟨(i:Int),ai ?_,by rw [Xz];simp [a]⟩;rw [Bh];simp only [aI,aL,aV,bK,aO,cu,b,h0,and_self,fj,kD g1,dv,k,aR,im,↓reduceIte]
  | false=>replace a:(decide (x.ar=y.ar))=false:=a;rw [a] at k;obtain⟨z,j,l⟩:=h (i+1) c;refine⟨z,ai ?_,by rw [l,Xz,a,W4]⟩;rw [Bh];simp only [aI,aL,aV,bK,aO,cu,b,h0,and_self,fj,kD g1,dv,k,aX,im,↓reduceIte,next i (by omega)];exact j
theorem Tc{er:Bool}{rs:List En}{y:En}(hl:rs.length<=900000)(b:∀e∈rs,Or (.call 58) [EG e,AV.t (T.ptr [T.ad 1 y.ea (enc y.ar),ti y.to.n,ti y.to.d,T.ad 2 y.to.ec (bL y.to.cs),ti y.to.r])] []=some [tb (decide (e.ar=y.ar))]):Or (.call 53) [AV.t (T.ad 5 er (aM rs)),AV.fn 58 [] [AV.t (T.ptr [T.ad 1 y.ea (enc y.ar),ti y.to.n,ti y.to.d,T.ad 2 y.to.ec (bL y.to.cs),ti y.to.r])]] []=some [tb (rs.any λe=>decide (e.ar=y.ar))]:=by
 obtain⟨z,c,f⟩:=Rn (er:=er) hl b rs 0 rfl;have a:Or (.call 80) [AV.t (T.ad 5 er (aM rs)),AV.fn 58 [] [AV.t (T.ptr [T.ad 1 y.ea (enc y.ar),ti y.to.n,ti y.to.d,T.ad 2 y.to.ec (bL y.to.cs),ti y.to.r])]] []=some [ti z]:=by refine ai ?_;rw [Ot];simp only [fj];exact c
 refine ai ?_;rw [Ng];simp only [aI,aL,aO,a,f]
theorem Rp{er:Bool}{rs:List En}{d:Dc}(hl:rs.length<=900000)(f:∀e∈rs,Or (.call 61) [EG e,DP d] []=some [tb (!dh d.so e.to)]):∀(r:List En) (i:Nat),rs.drop i=r->
  ∃z:Int,Or jc [AV.t (T.ad 5 er (aM rs)),AV.fn 61 [] [DP d],I (rs.length:Int),I (i:Int)] []=some [ti z]/\decide (z>=0)=r.any λe=> !dh d.so e.to:=by
 intro r;induction r with
 | nil=>
  intro i g;have b:¬(i:Int) < (rs.length:Int):=by have:=bt g;omega
  refine⟨-1,ai ?_,by simp⟩;rw [Bi];simp only [an,↓reduceIte,Int.reduceBEq,Int.reduceEq,b]
 | cons x r h=>
  intro i g;obtain⟨g1,m,c⟩:=br g;have hm:=Wx g1;have b:(i:Int) < (rs.length:Int):=by omega
  have h0: 0<=(i:Int):=by omega
  have k:=f x hm;cases a:(λe:En=> !dh d.so e.to) x with
  | true=>replace a:(!dh d.so x.to)=true:=a;rw [a] at k;refine⟨(i:Int),ai ?_,by rw [Xz];simp [a]⟩;rw [Bi];simp only [aI,aL,aV,bK,aO,cu,b,h0,and_self,fj,kD g1,dv,k,aR,im,↓reduceIte]
  | false=>replace a:(!dh d.so x.to)=false:=a;rw [a] at k;obtain⟨z,j,l⟩:=h (i+1) c;refine⟨z,ai ?_,by rw [l,Xz,a,W4]⟩;rw [Bi];simp only [aI,aL,aV,bK,aO,cu,b,h0,and_self,fj,kD g1,dv,k,aX,im,↓reduceIte,next i (by omega)];exact j
theorem Te{er:Bool}{rs:List En}{d:Dc}(hl:rs.length<=900000)(b:∀e∈rs,Or (.call 61) [EG e,DP d] []=some [tb (!dh d.so e.to)]):Or (.call 53) [AV.t (T.ad 5 er (aM rs)),AV.fn 61 [] [DP d]] []=some [tb (rs.any λe=> !dh d.so e.to)]:=by
 obtain⟨z,c,f⟩:=Rp (er:=er) hl b rs 0 rfl;have a:Or (.call 80) [AV.t (T.ad 5 er (aM rs)),AV.fn 61 [] [DP d]] []=some [ti z]:=by refine ai ?_;rw [Ou];simp only [fj];exact c
 refine ai ?_;rw [Nh];simp only [aI,aL,aO,a,f]
theorem Ru{e:Bool}{l:List Int}(hl:l.length<=1000):∀(r:List Int) (i:Nat),l.drop i=r->
  ∃z:Int,Or fN [ad e l,AV.fn 56 [] [],I (l.length:Int),I (i:Int)] []=some [ti z]/\decide (z>=0)=r.any λn=> !eM n:=by
 intro r;induction r with
 | nil=>
  intro i g;have a:¬(i:Int) < (l.length:Int):=by have:=bt g;omega
  refine⟨-1,ai ?_,by simp⟩;rw [Bo];simp only [an,↓reduceIte,Int.reduceBEq,Int.reduceEq,a]
 | cons d r h=>
  intro i g;obtain⟨g1,o,f⟩:=br g;have a:(i:Int) < (l.length:Int):=by omega
  have h0: 0<=(i:Int):=by omega
  have c:=wT d;have k:Or (.call 56) [I d] []=some [tb (!eM d)]:=by refine ai ?_;rw [Ns];simp only [aI,aL,bK,c]
  cases b: !eM d with
  | true=>rw [b] at k;refine⟨(i:Int),ai ?_,by simp only [Xz,b,XZ];simp⟩;rw [Bo];simp only [aI,aL,bK,aO,a,h0,and_self,aD,bP g1,k,aR,im,↓reduceIte]
  | false=>rw [b] at k;obtain⟨z,j,m⟩:=h (i+1) f;refine⟨z,ai ?_,by rw [m];simp only [Xz,b,W4]⟩;rw [Bo];simp only [aI,aL,bK,aO,a,h0,and_self,aD,bP g1,k,aX,im,↓reduceIte,next i (by omega)];exact j
theorem Th{e:En}(hl:e.ar.length<=1000):Or (.call 55) [EG e] []=some [tb (e.ar.any λn=> !eM n)]:=by
 obtain⟨z,c,d⟩:=Ru (e:=e.ea) hl e.ar 0 rfl;have b:Or (.call 74) [ad e.ea e.ar,AV.fn 56 [] []] []=some [ti z]:=by refine ai ?_;rw [OA];simp only [aD];exact c
 have a:Or (.call 31) [ad e.ea e.ar,AV.fn 56 [] []] []=some [tb (e.ar.any λn=> !eM n)]:=by refine ai ?_;rw [Nr];simp only [aI,aL,aO,b,d]
 refine ai ?_;rw [Nj];simp only [aI,aL,bK,a]
theorem Tg(e:En)(d:Dc):Or (.call 54) [EG e,DP d] []=some [tb (!((e.ar.length:Int)== (d.ar.length:Int)))]:=by refine ai ?_;rw [Ni];simp only [aD]
theorem Tk{e y:En}(hl:e.ar.length<=1000):Or (.call 58) [EG e,AV.t (T.ptr [T.ad 1 y.ea (enc y.ar),ti y.to.n,ti y.to.d,T.ad 2 y.to.ec (bL y.to.cs),ti y.to.r])] []=some [tb (decide (e.ar=y.ar))]:=by have k:=JX (e:=e.ea) (e':=y.ea) (b:=y.ar) hl;refine ai ?_;rw [Nu];simp only [aI,aL,bK,k]
theorem Tl{e:En}{d:Dc}(hl:e.to.cs.length<=ML):Or (.call 61) [EG e,DP d] []=some [tb (!dh d.so e.to)]:=by have k:=JY d.so hl;refine ai ?_;rw [Nw];simp only [aI,aL,bK,k]
def lF:List En->List En->Bool
 | _,[]=>false
 | a,e::r=>(a.any λx=>decide (x.ar=e.ar)) || lF (a++ [e]) r
def fJ(d:Dc)(m:Me):Int:=
 if 1000 < m.rs.length then 9
 else if(m.rs.any λe=> !((e.ar.length:Int)== (d.ar.length:Int)))=true then 9
 else if(m.rs.any λe=>e.ar.any λn=> !eM n)=true then 3
 else if lF [] m.rs=true then 7
 else if dh d.so m.re=false then 8
 else if(m.rs.any λe=> !dh d.so e.to)=true then 8
 else 0
structure ff (m:Me):Prop where
 re:m.re.cs.length<=ML
 rs:∀e∈m.rs,e.to.cs.length<=ML
 rcc:m.re.ec=true->m.re.cs= []
 zt:∀e∈m.rs,e.to.ec=true->e.to.cs= []
 ea:∀e∈m.rs,e.ea=true->e.ar= []
abbrev Mz(d:Dc):aa:=aa.box [AV.t (T.str d.nm),AV.t (T.ad 1 d.ea (enc d.ar)),I d.so]
abbrev mN(m:Me):aa:=aa.box [AV.t (T.ad 5 m.er (aM m.rs)),I m.re.n,I m.re.d,AV.t (T.ad 2 m.re.ec (bL m.re.cs)),I m.re.r]
theorem Qu{d:Dc}{m:Me}(wf:ff m)(hl:m.rs.length<=1000)(p:∀e∈m.rs,e.ar.length<=1000):∀(r:List En) (i:Nat) (a:List En),m.rs.drop i=r->a=m.rs.take i->i<=m.rs.length->
  Or xn [r0,r1,AV.t (T.ad 5 m.er (aM m.rs)),I (m.rs.length:Int),I (i:Int)] [Mz d,mN m]=some [ti (if lF a r=true then 7 else if dh d.so m.re=false then 8 else if(m.rs.any λe=> !dh d.so e.to)=true then 8 else 0)]:=by
 intro r;induction r with
 | nil=>
  intro i a g c q;have h:¬(i:Int) < (m.rs.length:Int):=by have:=bt g;omega
  have n:=JY d.so wf.re;have b:=Te (er:=m.er) (d:=d) (by omega) (λe j=>Tl (wf.rs e j));refine ai ?_;rw [AS];simp only [lF,h,decide_false,aX,n,aI,aL,bK,WX,↓reduceIte];cases l:dh d.so m.re with
  | false=>simp only [an,↓reduceIte,Int.reduceBEq,Int.reduceEq,Wu,Ws,bE]
  | true=>simp only [Ws,Wu,fx,b,aI,aL,bK,aX,Bool.true_eq_false,↓reduceIte];cases(m.rs.any λe=> !dh d.so e.to) <;> rfl
 | cons x r u=>
  intro i a g c q;obtain⟨g1,w,o⟩:=br g;have hm:=Wx g1;have h:(i:Int) < (m.rs.length:Int):=by omega
  have h0: 0<=(i:Int):=by omega
  have k:iI 0 (i:Int) (m.rs.length:Int)=some ():=by unfold iI;rw [if_pos ⟨by omega,by omega,by omega⟩]
  have f:sub 0 (i:Int) (aM m.rs)=aM a:=by rw [Kt,c];simp [aM,List.map_take]
  have v:a.length<=1000:=by rw [c,Xk];omega
  have b:=Tc (er:=m.er) (rs:=a) (y:=x) (by omega) (λe j=>Tk (by rw [c] at j;exact p e (Yy j)));have s:=u (i+1) (a++ [x]) o (by rw [c,X9,g1];rfl) (by omega);rw [lF];cases l:a.any λe=>decide (e.ar=x.ar) with
  | true=>rw [l] at b;refine ai ?_;rw [AS];simp only [aI,aL,aV,bK,aO,cu,h,h0,and_self,fj,kD g1,dv,k,f,b,aR,im,↓reduceIte,XZ]
  | false=>rw [l] at b;refine ai ?_;rw [AS];simp only [aI,aL,aV,bK,aO,cu,h,h0,and_self,fj,kD g1,dv,k,f,b,aX,im,↓reduceIte,W4,next i (by omega)];exact s
theorem SR{d:Dc}{m:Me}(wf:ff m)(i:d.ar.length<=1000):Or (.call 26) [DG d,MG m] []=some [ti (fJ d m)]:=by
 unfold fJ;refine ai ?_;rw [M1];simp only [fj];by_cases c: 1000 < m.rs.length
 .have a:(m.rs.length:Int) > 1000:=by omega
  rw [if_pos c];simp only [a,decide_true,Ws,fO,aI,bE,aR]
 have a:¬(m.rs.length:Int) > 1000:=by omega
 rw [if_neg c];have k1:=Td (er:=m.er) (rs:=m.rs) (d:=d) (by omega) (λe _=>Tg e d);simp only [a,decide_false,Wu,fx,aI,aL,bK,aX,k1];cases g:m.rs.any λe=> !((e.ar.length:Int)== (d.ar.length:Int)) with
 | true=>simp only [aR,↓reduceIte]
 | false=>
 have f:∀e∈m.rs,e.ar.length<=1000:=λe b=>by have:=Xd.1 g e b;simp only [Yj,Yp,beq_iff_eq] at this;omega
 have k2:=Tf (er:=m.er) (rs:=m.rs) (by omega) (λe b=>Th (f e b));simp only [aX,aI,aL,bK,k2,WX,↓reduceIte];cases h:m.rs.any λe=>e.ar.any λn=> !eM n with
 | true=>simp only [aR,↓reduceIte]
 | false=>
 simp only [aX,WX,↓reduceIte];exact Qu wf (by omega) f m.rs 0 [] rfl rfl (Xr _)
def nz:Nat->List Dc->List Me->Int×Int
 | i,d::ds,m::ms=>if fJ d m=0 then nz (i+1) ds ms else(fJ d m,(i:Int))
 | _,_,_=>(0,0)
theorem n8{ed ew:Bool}{ds:List Dc}{ms:List Me}(v:ds.length<=1000)(o:ms.length=ds.length)(wf:∀m∈ms,ff m)(n:∀d∈ds,d.ar.length<=1000):∀(r:List Dc) (a:List Me) (i:Nat),ds.drop i=r->ms.drop i=a->
  Or xw [r0,r1,AV.t (T.ad 3 ed (aN ds)),I (ds.length:Int),I (i:Int)] [aa.box [AV.t (T.ad 5 ew (fk ms))],aa.box [I 0,I 0]]=some [ti (nz i r a).1,ti (nz i r a).2]:=by
 intro r;induction r with
 | nil=>
  intro a i g e;have b:¬(i:Int) < (ds.length:Int):=by have:=bt g;omega
  refine ai ?_;rw [Gl];simp only [an,↓reduceIte,Int.reduceBEq,Int.reduceEq,b,nz]
 | cons d r q=>
  intro a i g e;obtain⟨g1,u,j⟩:=br g;cases a with
  | nil=>have:=bt e;omega
  | cons m a=>
  obtain⟨f,w,s⟩:=br e;have b:(i:Int) < (ds.length:Int):=by omega
  have h:(i:Int) < (ms.length:Int):=by omega
  have h0: 0<=(i:Int):=by omega
  have k:=SR (d:=d) (wf m (Wx f)) (n d (Wx g1));have p:=q a (i+1) j s;rw [nz];refine ai ?_;rw [Gl];by_cases c:fJ d m=0
  .rw [c] at k;rw [if_pos c];simp only [an,↓reduceIte,Int.reduceBEq,Int.reduceEq,b,h,h0,and_self,cX,l8,fR g1,vD f,rV,dv,k,Ws,next i (by omega)];exact p
  .have l:(fJ d m==0)=false:=by simpa using c
   rw [if_neg c];simp only [aI,aL,aV,bK,aO,iO,cu,aR,im,↓reduceIte,b,h,h0,and_self,cX,l8,fR g1,vD f,rV,dv,k,l,Wu]
def jo(a:As)(ms:List Me):Int×Int:=
 if(bg a).2.1≠0 then(bg a).2
 else if ms.length≠a.ds.length then(9,0)
 else nz 0 a.ds ms
theorem s8{a:As}{ew:Bool}{ms:List Me}(j:∀d∈a.ds,d.nm.size<=9223372036854775807)(wf:∀m∈ms,ff m):Or (.call 9) [AG a,WG ew ms] []=some [ti (jo a ms).1,ti (jo a ms).2]:=by
 obtain⟨x,g,k⟩:=CZ (a:=a) j;have c:Or (.call 25) [AG a] []=some [ti (bg a).2.1,ti (bg a).2.2]:=by refine ai ?_;rw [MZ];simp only [aI,aL,aV,aO,k,g]
 unfold jo;refine ai ?_;rw [e8];by_cases h:(bg a).2.1=0
 .obtain⟨ok,f⟩:=nC (es:=(bg a).1.isEmpty) h;have l:a.ds.length<=30:=ok.dl;have b:((bg a).2.1==0)=true:=by simpa using h
  rw [if_neg (by simpa using h)];simp only [aI,aL,aV,aO,c,b,Ws,aX,cX,l8];by_cases hl:ms.length=a.ds.length
  .have e:((ms.length:Int)== (a.ds.length:Int))=true:=by rw [beq_iff_eq];omega
   rw [if_neg (by simpa using hl)];simp only [e,Ws,aX];exact n8 (by omega) hl wf (λd i=>by have:=f d i;omega) a.ds ms 0 rfl rfl
  .have e:((ms.length:Int)== (a.ds.length:Int))=false:=by rw [beq_eq_false_iff_ne];omega
   rw [if_pos hl];simp only [e,Wu,aR]
 .have b:((bg a).2.1==0)=false:=by simpa using h
  rw [if_pos h];simp only [aI,aL,aV,aO,c,b,Wu,aR]
theorem EI:∀{ds:List Dc} {ms:List Me} {i:Nat},ms.length=ds.length->(nz i ds ms).1=0->∀(j:Nat) (d:Dc) (m:Me),ds[j]? =some d->ms[j]? =some m->fJ d m=0
 | [],ms,i,hl,h,j,d,m,a,hm=>by simp at a
 | d0::ds,[],i,hl,h,j,d,m,a,hm=>by simp at hm
 | d0::ds,c::ms,i,hl,h,j,d,m,a,hm=>by
  rw [nz] at h;by_cases b:fJ d0 c=0
  .rw [if_pos b] at h;cases j with
   | zero=>simp at a hm;subst a;subst hm;exact b
   | succ j=>exact EI (by simpa using hl) h j d m (by simpa using a) (by simpa using hm)
  .rw [if_neg b] at h;exact absurd h b
theorem we{a:As}{ms:List Me}(h:(jo a ms).1=0):(bg a).2.1=0/\ms.length=a.ds.length/\∀(j:Nat) (d:Dc) (m:Me),a.ds[j]? =some d->ms[j]? =some m->fJ d m=0:=by
 unfold jo at h;by_cases b:(bg a).2.1≠0
 .rw [if_pos b] at h;exact absurd h b
 rw [if_neg b] at h;by_cases c:ms.length≠a.ds.length
 .rw [if_pos c] at h;exact absurd (show(9:Int)=0 from h) (by decide)
 rw [if_neg c] at h;exact⟨by simpa using b,by simpa using c,EI (by simpa using c) h⟩
open Go Go.Aev Go.IntKind
def yq(v u:Va):Prop:=v.n=u.n/\v.d=u.d/\v.cs=u.cs/\v.r=u.r
def vF:List En->List En->Prop
 | [],[]=>True
 | e::r,x::t=>(e.ar=x.ar/\yq e.to x.to)/\vF r t
 | _,_=>False
def oA:List Me->List Me->Prop
 | [],[]=>True
 | m::r,x::t=>(vF m.rs x.rs/\yq m.re x.re)/\oA r t
 | _,_=>False
theorem yq.rfl{v:Va}:yq v v:=⟨.refl _, .refl _, .refl _, .refl _⟩
theorem vF.rfl:∀{l:List En},vF l l
 | []=>trivial
 | _::_=>⟨⟨.refl _, .rfl⟩,vF.rfl⟩
theorem oA.rfl:∀{l:List Me},oA l l
 | []=>trivial
 | _::_=>⟨⟨.rfl, .rfl⟩,oA.rfl⟩
theorem oA.app:∀{a b c d:List Me},oA a b->oA c d->oA (a++c) (b++d)
 | [],[],_,_,_,h=>h
 | _::_,_::_,_,_,h,e=>⟨h.1,oA.app h.2 e⟩
 | [],_::_,_,_,h,_=>h.elim
 | _::_,[],_,_,h,_=>h.elim
abbrev kO(e:Bool)(l:List Me):aa:=aa.box [AV.t (T.ad 5 e (fk l))]
structure Wi (m:Me):Prop where
 rl:m.rs.length<=1000
 re:m.re.cs.length<=ML
 rs:∀e∈m.rs,e.to.cs.length<=ML/\e.ar.length<=1000
theorem Un{n:Nat}(h:n<=ML):bA 16 (0+n)=some ():=by unfold bA;rw [if_pos (.inr ⟨by omega,by unfold ML at h;omega⟩)]
theorem zA{e:Bool}{l:List (Int×Int)}(a:e=true->l= [])(hl:l.length<=ML):∃x,Or (.call 52) [AV.t (T.ad 2 e (bL l))] []=some [x]/\x.aQ 2=some (e,bL l):=by
 cases e with
 | true=>refine⟨T.aB true,ai ?_,by rw [a rfl];rfl⟩;rw [FM];rfl
 | false=>refine⟨T.ad 2 false (bL l),ai ?_,rfl⟩;rw [FM];simp only [iU,Un hl,aI,aX]
theorem Bv(l:List En)(e:En):aM l++ [[T.ad 1 e.ea (enc e.ar),ti e.to.n,ti e.to.d,cT e.to,ti e.to.r]]=aM (l++ [e]):=by simp [aM]
def nV(v:Va):Va:=⟨false,v.n,v.d,v.ec,v.cs,v.r⟩
def nE(e:En):En:=⟨e.ea,e.ar,nV e.to⟩
theorem OV(l:List En)(e:En):aM l++ [[T.ad 1 e.ea (enc e.ar),ti e.to.n,ti e.to.d,T.ad 2 e.to.ec (bL e.to.cs),ti e.to.r]]=aM (l++ [nE e]):=by rw [<-Bv];rfl
structure je (m:Me):Prop where
 rl:m.rs.length<=1000
 al:∀e∈m.rs,e.ar.length<=1000
theorem Qt{m:Me}{e3:Bool}{re:Va}{l:aa}(wf:ff m)(ok:je m)(h:l=aa.box [AV.t (T.aB true),I 0,I 0,AV.t (T.aB true),I 0]):∀(r:List En) (i:Nat) (a:List En),m.rs.drop i=r->i<=m.rs.length->a.length=i->a++r.map nE=m.rs.map nE->
  Or sK [r0,r1,AV.t (T.ad 5 m.er (aM m.rs)),I (m.rs.length:Int),I (i:Int)] [l,aa.box [o2,I re.n,I re.d,AV.t (T.ad 2 re.ec (bL re.cs)),I re.r],aa.sl false 5 false (aM a)]=some [T.ad 5 false (aM (m.rs.map nE)),ti re.n,ti re.d,T.ad 2 re.ec (bL re.cs),ti re.r]:=by
 intro r;subst h;induction r with
 | nil=>
  intro i a g p b c;have e:¬(i:Int) < (m.rs.length:Int):=by have:=bt g;omega
  rw [Xj,WQ] at c;refine ai ?_;rw [Fi];simp only [an,↓reduceIte,Int.reduceBEq,Int.reduceEq,e,c]
 | cons x r u=>
  intro i a g p b c;obtain⟨g1,v,o⟩:=br g;have hm:=Wx g1;have e:(i:Int) < (m.rs.length:Int):=by omega
  have h0: 0<=(i:Int):=by omega
  have:=ok.rl;obtain⟨y,j,q⟩:=kL x.ea x.ar (wf.ea x hm) (by have:=ok.al x hm;omega);obtain⟨w,k,f⟩:=zA (wf.zt x hm) (wf.rs x hm);have s:=u (i+1) (a++ [nE x]) o (by omega) (by simp [b]) (by rw [<-c];simp);refine ai ?_;rw [Fi];simp only [an,↓reduceIte,Int.reduceBEq,Int.reduceEq,e,h0,and_self,fj,kD g1,dv,j,q,k,f,Wy,cM (show a.length+1<=1000000 by omega),next i (by omega),OV];exact s
theorem JS{m:Me}(wf:ff m)(ok:je m):∃x y,Or (.call 21) [MG m] []=some [x,ti m.re.n,ti m.re.d,y,ti m.re.r]/\x.aQ 5=some (m.rs.isEmpty,aM (m.rs.map nE))/\y.aQ 2=some (m.re.ec,bL m.re.cs):=by
 obtain⟨l,c,b⟩:=zA wf.rcc wf.re;cases a:m.rs with
 | nil=>refine⟨T.aB true,T.ad 2 m.re.ec (bL m.re.cs),ai ?_,rfl,by rw [cu]⟩;rw [Fg];simp only [aI,aL,c,b,fj];refine ai ?_;rw [Fh];simp only [an,↓reduceIte,Int.reduceBEq,Int.reduceEq,a,WN,W3,Xb,decide_false]
 | cons x r=>
  have hm:x∈m.rs:=by rw [a];exact Wl
  have j:(0:Int) < (((x::r).length:Nat):Int):=by simp
  have h0:(0:Int)<=0:=by omega
  have g1:(aM (x::r))[(0:Int).toNat]? =some [T.ad 1 x.ea (enc x.ar),ti x.to.n,ti x.to.d,cT x.to,ti x.to.r]:=rfl;have k:i64.wrap (0+1)= ((1:Nat):Int):=by decide
  obtain⟨o,i,f⟩:=kL x.ea x.ar (wf.ea x hm) (by have:=ok.al x hm;omega);obtain⟨p,e,g⟩:=zA (wf.zt x hm) (wf.rs x hm);have h:=Qt (re:=m.re) (e3:=true) wf ok rfl r 1 [nE x] (by rw [a];rfl) (by rw [a];simp) rfl (by rw [a];rfl);rw [a] at h;refine⟨T.ad 5 false (aM ((x::r).map nE)),T.ad 2 m.re.ec (bL m.re.cs),ai ?_,rfl,by rw [cu]⟩;rw [Fg];simp only [aI,aL,c,b,fj];refine ai ?_;rw [Fh];simp only [an,↓reduceIte,Int.reduceBEq,Int.reduceEq,a,j,h0,and_self,fj,g1,dv,i,f,e,g,k];exact h
def fY(n:Int)(b:Nat):Int:=i64.wrap ((BitVec.ofInt 64 (n.fdiv (2 ^ min b 64)) &&& BitVec.ofInt 64 1).toNat:Int)
def og(v:Va)(b:Nat):Va:=⟨false,fY v.n b,1,true,[],0⟩
def cW(b:Nat)(e:En):En:=⟨e.ea,e.ar,og e.to b⟩
def cS(m:Me)(b:Nat):Me:=⟨m.rs.isEmpty,m.rs.isEmpty,m.rs.map (cW b),og m.re b⟩
theorem uq(v:Va)(b:Nat):Or (.call 22) [VG v,AV.t (T.ptr [ti (b:Int)])] []=some [ti (fY v.n b),ti 1,T.ad 2 true (bL []),ti 0]:=by
 have h0:¬(b:Int) < 0:=by omega
 refine ai ?_;rw [MW];have a:Or (.call 23) [I (fY v.n b)] []=some [ti (fY v.n b),ti 1,T.aB true,ti 0]:=by refine ai ?_;rw [MX]
 unfold fY at a⊢;simp only [an,↓reduceIte,Int.reduceBEq,Int.reduceEq,h0,WW,a];rfl
def ku(m:Me):Nat->Nat->List Me
 | _,0=> []
 | b,k+1=>cS m b::ku m (b+1) k
theorem Bx(l:List Me)(m:Me):fk l++ [[mT m,ti m.re.n,ti m.re.d,cT m.re,ti m.re.r]]=fk (l++ [m]):=by simp [fk]
theorem Gu(m:Me): [[mT m,ti m.re.n,ti m.re.d,cT m.re,ti m.re.r]]=fk [m]:=rfl
abbrev fz:aa:=aa.box [I 0,I 0]
abbrev ez:aa:=aa.box [AV.t (T.aB true)]
abbrev rf(k:Nat):AV:=AV.ref (Id.c k) 0
abbrev ow(k:Nat):AV:=AV.own (Id.c k)
theorem Rj{ed ew:Bool}{ds:List Dc}{ms:List Me}{m:Me}{i n b:Nat}{R:List T}(wf:ff m)(ok:je m)(B:b<=1000)
  (w:Or ke [rf 0,rf 1,rf 2,rf 3,rf 4,AV.t (T.ad 3 ed (aN ds)),I (ds.length:Int),I (i:Int),I (n:Int),I ((b+1:Nat):Int)] [kO ew ms,ez,fz,aa.box [ow 5],mN m,aa.sl false 5 false (fk ([cS m b]))]=some R):∀(r:List En) (j:Nat) (rows:List En),m.rs.drop j=r->j<=m.rs.length->rows.length=j->rows++r.map (cW b)=m.rs.map (cW b)->m.rs≠[]->
  Or kg [rf 0,rf 1,rf 2,rf 3,rf 4,AV.fn 22 [] [rf 5],rf 6,AV.t (T.ad 3 ed (aN ds)),I (ds.length:Int),I (i:Int),I (n:Int),I (b:Int),AV.t (T.ad 5 m.er (aM m.rs)),I (m.rs.length:Int),I (j:Int)] [kO ew ms,ez,fz,ez,mN m,aa.dy [ti (b:Int)],aa.box [ow 7,I (fY m.re.n b),I 1,AV.t (T.ad 2 true (bL [])),I 0],aa.sl false 5 false (aM (rows))]=some R:=by
 have:=ok.rl;intro r;induction r with
 | nil=>
  intro j rows g s l c a;have e:¬(j:Int) < (m.rs.length:Int):=by have:=bt g;omega
  rw [Xj,WQ] at c;have f:(cS m b)= ⟨false,false,m.rs.map (cW b),og m.re b⟩:=by
   unfold cS;cases h:m.rs with
   | nil=>exact absurd h a
   | cons x r=>rfl
  have k:T.ad 5 false (aM (m.rs.map (cW b)))=mT (cS m b):=by rw [f];rfl
  have hl: [[T.ad 5 false (aM (m.rs.map (cW b))),ti (fY m.re.n b),ti 1,T.ad 2 true (bL []),ti 0]]= [[mT (cS m b),ti (cS m b).re.n,ti (cS m b).re.d,cT (cS m b).re,ti (cS m b).re.r]]:=by rw [k];rfl
  refine ai ?_;rw [F7];simp only [an,↓reduceIte,Int.reduceBEq,Int.reduceEq,e,c,Wy,l8,next b (by omega),hl,Gu];exact w
 | cons x r z=>
  intro j rows g s l c a;obtain⟨g1,A,q⟩:=br g;have hm:=Wx g1;have e:(j:Int) < (m.rs.length:Int):=by omega
  have h0: 0<=(j:Int):=by omega
  obtain⟨y,p,v⟩:=kL x.ea x.ar (wf.ea x hm) (by have:=ok.al x hm;omega);have o:=uq x.to b;have u:=z (j+1) (rows++ [cW b x]) q (by omega) (by simp [l]) (by rw [<-c];simp) a;have hl: [[T.ad 1 x.ea (enc x.ar),ti (fY x.to.n b),ti 1,T.ad 2 true (bL []),ti 0]]= [[T.ad 1 (cW b x).ea (enc (cW b x).ar),ti (cW b x).to.n,ti (cW b x).to.d,cT (cW b x).to,ti (cW b x).to.r]]:=rfl;refine ai ?_;rw [F7];simp only [an,↓reduceIte,Int.reduceBEq,Int.reduceEq,e,h0,and_self,fj,kD g1,dv,p,v,o,Wy,cM (show rows.length+1<=1000000 by omega),next j (by omega),hl,Bv];exact u
theorem Rl{ed ew:Bool}{ds:List Dc}{ms:List Me}{m:Me}{i n b:Nat}{R:List T}(wf:ff m)(ok:je m)(k:b<=1000)
  (f:Or ke [rf 0,rf 1,rf 2,rf 3,rf 4,AV.t (T.ad 3 ed (aN ds)),I (ds.length:Int),I (i:Int),I (n:Int),I ((b+1:Nat):Int)] [kO ew ms,ez,fz,aa.box [ow 5],mN m,aa.sl false 5 false (fk ([cS m b]))]=some R):
  Or kg [rf 0,rf 1,rf 2,rf 3,rf 4,AV.fn 22 [] [rf 5],rf 6,AV.t (T.ad 3 ed (aN ds)),I (ds.length:Int),I (i:Int),I (n:Int),I (b:Int),AV.t (T.ad 5 m.er (aM m.rs)),I (m.rs.length:Int),I 0] [kO ew ms,ez,fz,ez,mN m,aa.dy [ti (b:Int)],aa.box [AV.t (T.aB true),I (fY m.re.n b),I 1,AV.t (T.ad 2 true (bL [])),I 0]]=some R:=by
 cases a:m.rs with
 | nil=>
  have hl: [[T.aB true,ti (fY m.re.n b),ti 1,T.ad 2 true (bL []),ti 0]]= [[mT (cS m b),ti (cS m b).re.n,ti (cS m b).re.d,cT (cS m b).re,ti (cS m b).re.r]]:=by unfold cS;rw [a];rfl
  refine ai ?_;rw [F5];simp only [an,↓reduceIte,Int.reduceBEq,Int.reduceEq,WN,W3,Xb,decide_false,Wy,l8,next b (by omega),hl,Gu];exact f
 | cons x r=>
  have e:m.rs≠[]:=by rw [a];simp
  have hm:x∈m.rs:=by rw [a];exact Wl
  have j:(0:Int) < (((x::r).length:Nat):Int):=by simp
  have h0:(0:Int)<=0:=by omega
  have g1:(aM (x::r))[(0:Int).toNat]? =some [T.ad 1 x.ea (enc x.ar),ti x.to.n,ti x.to.d,cT x.to,ti x.to.r]:=rfl;have o:i64.wrap (0+1)= ((1:Nat):Int):=by decide
  obtain⟨y,h,l⟩:=kL x.ea x.ar (wf.ea x hm) (by have:=ok.al x hm;omega);have g:=uq x.to b;have c:=Rj (ed:=ed) (ew:=ew) (ds:=ds) (ms:=ms) (i:=i) (n:=n) wf ok k f r 1 [cW b x] (by rw [a];rfl) (by rw [a];simp) rfl (by rw [a];rfl) e;rw [a] at c;have hl: [[T.ad 1 x.ea (enc x.ar),ti (fY x.to.n b),ti 1,T.ad 2 true (bL []),ti 0]]=aM [cW b x]:=rfl;refine ai ?_;rw [F5];simp only [an,↓reduceIte,Int.reduceBEq,Int.reduceEq,j,h0,and_self,fj,g1,dv,h,l,g,o,hl];rw [<-a] at c⊢;exact c
theorem Rk{ed ew:Bool}{ds:List Dc}{ms:List Me}{m:Me}{i n b:Nat}{a:List Me}{R:List T}(wf:ff m)(ok:je m)(D:b<=1000)(B:a.length<=1000)
  (z:Or ke [rf 0,rf 1,rf 2,rf 3,rf 4,AV.t (T.ad 3 ed (aN ds)),I (ds.length:Int),I (i:Int),I (n:Int),I ((b+1:Nat):Int)] [kO ew ms,ez,fz,aa.box [ow 5],mN m,aa.sl false 5 false (fk (a++ [cS m b]))]=some R):∀(r:List En) (j:Nat) (rows:List En),m.rs.drop j=r->j<=m.rs.length->rows.length=j->rows++r.map (cW b)=m.rs.map (cW b)->m.rs≠[]->
  Or kg [rf 0,rf 1,rf 2,rf 3,rf 4,AV.fn 22 [] [rf 5],rf 6,AV.t (T.ad 3 ed (aN ds)),I (ds.length:Int),I (i:Int),I (n:Int),I (b:Int),AV.t (T.ad 5 m.er (aM m.rs)),I (m.rs.length:Int),I (j:Int)] [kO ew ms,ez,fz,aa.box [ow 7],mN m,aa.dy [ti (b:Int)],aa.box [ow 8,I (fY m.re.n b),I 1,AV.t (T.ad 2 true (bL [])),I 0],aa.sl false 5 false (fk (a)),aa.sl false 5 false (aM (rows))]=some R:=by
 have:=ok.rl;intro r;induction r with
 | nil=>
  intro j rows g u o e c;have f:¬(j:Int) < (m.rs.length:Int):=by have:=bt g;omega
  rw [Xj,WQ] at e;have k:(cS m b)= ⟨false,false,m.rs.map (cW b),og m.re b⟩:=by
   unfold cS;cases h:m.rs with
   | nil=>exact absurd h c
   | cons x r=>rfl
  have l:T.ad 5 false (aM (m.rs.map (cW b)))=mT (cS m b):=by rw [k];rfl
  have hl: [[T.ad 5 false (aM (m.rs.map (cW b))),ti (fY m.re.n b),ti 1,T.ad 2 true (bL []),ti 0]]= [[mT (cS m b),ti (cS m b).re.n,ti (cS m b).re.d,cT (cS m b).re,ti (cS m b).re.r]]:=by rw [l];rfl
  refine ai ?_;rw [F8];simp only [an,↓reduceIte,Int.reduceBEq,Int.reduceEq,f,e,Wy,l8,cM (show a.length+1<=1000000 by omega),next b (by omega),hl,Bx];exact z
 | cons x r A=>
  intro j rows g u o e c;obtain⟨g1,C,s⟩:=br g;have hm:=Wx g1;have f:(j:Int) < (m.rs.length:Int):=by omega
  have h0: 0<=(j:Int):=by omega
  obtain⟨y,q,w⟩:=kL x.ea x.ar (wf.ea x hm) (by have:=ok.al x hm;omega);have p:=uq x.to b;have v:=A (j+1) (rows++ [cW b x]) s (by omega) (by simp [o]) (by rw [<-e];simp) c;have hl: [[T.ad 1 x.ea (enc x.ar),ti (fY x.to.n b),ti 1,T.ad 2 true (bL []),ti 0]]= [[T.ad 1 (cW b x).ea (enc (cW b x).ar),ti (cW b x).to.n,ti (cW b x).to.d,cT (cW b x).to,ti (cW b x).to.r]]:=rfl;refine ai ?_;rw [F8];simp only [an,↓reduceIte,Int.reduceBEq,Int.reduceEq,f,h0,and_self,fj,kD g1,dv,q,w,p,Wy,cM (show rows.length+1<=1000000 by omega),next j (by omega),hl,Bv];exact v
theorem Rm{ed ew:Bool}{ds:List Dc}{ms:List Me}{m:Me}{i n b:Nat}{c:List Me}{R:List T}(wf:ff m)(ok:je m)(o:b<=1000)(f:c.length<=1000)
  (h:Or ke [rf 0,rf 1,rf 2,rf 3,rf 4,AV.t (T.ad 3 ed (aN ds)),I (ds.length:Int),I (i:Int),I (n:Int),I ((b+1:Nat):Int)] [kO ew ms,ez,fz,aa.box [ow 5],mN m,aa.sl false 5 false (fk (c++ [cS m b]))]=some R):
  Or kg [rf 0,rf 1,rf 2,rf 3,rf 4,AV.fn 22 [] [rf 5],rf 6,AV.t (T.ad 3 ed (aN ds)),I (ds.length:Int),I (i:Int),I (n:Int),I (b:Int),AV.t (T.ad 5 m.er (aM m.rs)),I (m.rs.length:Int),I 0] [kO ew ms,ez,fz,aa.box [ow 7],mN m,aa.dy [ti (b:Int)],aa.box [AV.t (T.aB true),I (fY m.re.n b),I 1,AV.t (T.ad 2 true (bL [])),I 0],aa.sl false 5 false (fk (c))]=some R:=by
 cases a:m.rs with
 | nil=>
  have hl: [[T.aB true,ti (fY m.re.n b),ti 1,T.ad 2 true (bL []),ti 0]]= [[mT (cS m b),ti (cS m b).re.n,ti (cS m b).re.d,cT (cS m b).re,ti (cS m b).re.r]]:=by unfold cS;rw [a];rfl
  refine ai ?_;rw [F6];simp only [an,↓reduceIte,Int.reduceBEq,Int.reduceEq,WN,W3,Xb,decide_false,Wy,l8,cM (show c.length+1<=1000000 by omega),next b (by omega),hl,Bx];exact h
 | cons x r=>
  have g:m.rs≠[]:=by rw [a];simp
  have hm:x∈m.rs:=by rw [a];exact Wl
  have l:(0:Int) < (((x::r).length:Nat):Int):=by simp
  have h0:(0:Int)<=0:=by omega
  have g1:(aM (x::r))[(0:Int).toNat]? =some [T.ad 1 x.ea (enc x.ar),ti x.to.n,ti x.to.d,cT x.to,ti x.to.r]:=rfl;have q:i64.wrap (0+1)= ((1:Nat):Int):=by decide
  obtain⟨y,k,p⟩:=kL x.ea x.ar (wf.ea x hm) (by have:=ok.al x hm;omega);have j:=uq x.to b;have e:=Rk (ed:=ed) (ew:=ew) (ds:=ds) (ms:=ms) (i:=i) (n:=n) wf ok o f h r 1 [cW b x] (by rw [a];rfl) (by rw [a];simp) rfl (by rw [a];rfl) g;rw [a] at e;have hl: [[T.ad 1 x.ea (enc x.ar),ti (fY x.to.n b),ti 1,T.ad 2 true (bL []),ti 0]]=aM [cW b x]:=rfl;refine ai ?_;rw [F6];simp only [an,↓reduceIte,Int.reduceBEq,Int.reduceEq,l,h0,and_self,fj,g1,dv,k,p,j,q,hl];rw [<-a] at e⊢;exact e
theorem Is{ed ew:Bool}{ds:List Dc}{ms:List Me}{m:Me}{i n:Nat}{R:List T}(wf:ff m)(ok:je m)(l:i<=100)(o:n<=100):∀(k b:Nat) (a:List Me),b+k=n->a.length+k<=1000->
  Or my [rf 0,rf 1,rf 2,rf 3,AV.t (T.ad 3 ed (aN ds)),I (ds.length:Int),I ((i+1:Nat):Int)] [kO ew ms,ez,fz,aa.box [ow 4],aa.sl false 5 false (fk (a++ku m b k))]=some R->
  Or ke [rf 0,rf 1,rf 2,rf 3,rf 4,AV.t (T.ad 3 ed (aN ds)),I (ds.length:Int),I (i:Int),I (n:Int),I (b:Int)] [kO ew ms,ez,fz,aa.box [ow 5],mN m,aa.sl false 5 false (fk (a))]=some R:=by
 intro k;induction k with
 | zero=>
  intro b a g e c;have d:¬(b:Int) < (n:Int):=by omega
  rw [ku,WQ] at c;refine ai ?_;rw [F4];simp only [an,↓reduceIte,Int.reduceBEq,Int.reduceEq,d,next i (by omega)];exact c
 | succ k j=>
  intro b a g e c;have d:(b:Int) < (n:Int):=by omega
  have f:=uq m.re b;have h:=Rm (ed:=ed) (ew:=ew) (ds:=ds) (ms:=ms) (i:=i) (n:=n) wf ok (show b<=1000 by omega) (by omega) (j (b+1) (a++ [cS m b]) (by omega) (by simp;omega) (by rw [WV];exact c));refine ai ?_;rw [F4];simp only [an,↓reduceIte,Int.reduceBEq,Int.reduceEq,d,f,fj];exact h
theorem Rg{ed ew:Bool}{ds:List Dc}{ms:List Me}{m:Me}{i n:Nat}{R:List T}(wf:ff m)(ok:je m)(c:i<=100)(d:n<=100)(h0: 0 < n)
  (f:Or my [rf 0,rf 1,rf 2,rf 3,AV.t (T.ad 3 ed (aN ds)),I (ds.length:Int),I ((i+1:Nat):Int)] [kO ew ms,ez,fz,aa.box [ow 4],aa.sl false 5 false (fk (ku m 0 n))]=some R):
  Or ke [rf 0,rf 1,rf 2,rf 3,rf 4,AV.t (T.ad 3 ed (aN ds)),I (ds.length:Int),I (i:Int),I (n:Int),I 0] [kO ew ms,ez,fz,ez,mN m]=some R:=by
 obtain⟨k,rfl⟩:∃k,n=k+1:=⟨n - 1,by omega⟩;have b:(0:Int) < ((k+1:Nat):Int):=by omega
 have a:=uq m.re 0;have e:=Rl (ed:=ed) (ew:=ew) (ds:=ds) (ms:=ms) (i:=i) (n:=k+1) wf ok (show 0<=1000 by omega) (Is wf ok c d k 1 [cS m 0] (by omega) (by simp;omega) f);refine ai ?_;rw [N4];simp only [an,↓reduceIte,Int.reduceBEq,Int.reduceEq,b,fj];rw [show(0:Int)= ((0:Nat):Int) from rfl];simp only [an,↓reduceIte,Int.reduceBEq,Int.reduceEq,a];exact e
def ic(s:Int):Nat:=(s - 10).toNat
def jk(m:Me):Me:=⟨false,m.rs.isEmpty,m.rs.map nE,nV m.re⟩
def gU(d:Dc)(m:Me):List Me:=if aE d.so=true then ku m 0 (ic d.so) else [jk m]
def ef:List Dc->List Me->List Me
 | d::ds,m::ms=>gU d m++ef ds ms
 | _,_=> []
theorem xM(m:Me):∀(k b:Nat),(ku m b k).length=k
 | 0,_=>rfl
 | k+1,b=>by rw [ku,Wz,xM m k]
theorem rO{s:Int}:aE s=true↔10 < s/\s<=18:=by simp [aE]
theorem ET(d:Dc)(m:Me):(gU d m).length<=8:=by
 unfold gU;split
 .rename_i h;have:=rO.1 h;rw [xM];unfold ic;omega
 .simp
structure z7 (ds:List Dc) (ms:List Me):Prop where
 dl:ds.length<=100
 ml:ms.length=ds.length
 wf:∀m∈ms,ff m
 ok:∀m∈ms,je m
theorem Rh{ed ew:Bool}{ds:List Dc}{ms:List Me}(j:z7 ds ms):∀(r:List Dc) (b:List Me) (i:Nat) (a:List Me),ds.drop i=r->ms.drop i=b->a.length+8 * r.length<=1000->
  Or my [rf 0,rf 1,rf 2,rf 3,AV.t (T.ad 3 ed (aN ds)),I (ds.length:Int),I (i:Int)] [kO ew ms,ez,fz,aa.box [ow 4],aa.sl false 5 false (fk (a))]=some [T.ad 5 false (fk (a++ef r b)),ti 0,ti 0]:=by
 intro r;have:=j.dl;have w:=j.ml;induction r with
 | nil=>
  intro b i a g l k;have h:¬(i:Int) < (ds.length:Int):=by have:=bt g;omega
  have v:ef [] b= []:=by simp [ef]
  refine ai ?_;rw [Be];simp only [an,↓reduceIte,Int.reduceBEq,Int.reduceEq,h,v,WQ]
 | cons d r C=>
  intro b i a g l k;obtain⟨g1,F,u⟩:=br g;cases b with
  | nil=>have:=bt l;omega
  | cons m b=>
  obtain⟨o,H,D⟩:=br l;have hm:=Wx o;have wf:=j.wf m hm;have ok:=j.ok m hm;have h:(i:Int) < (ds.length:Int):=by omega
  have p:(i:Int) < (ms.length:Int):=by omega
  have h0: 0<=(i:Int):=by omega
  have c:=hH d.so;have E:=ET d m;rw [Wz] at k;have f:=C b (i+1) (a++gU d m) u D (by rw [Xc];omega);rw [WV] at f;rw [ef];cases e:aE d.so with
  | false=>
   rw [e] at c;have hs:gU d m= [jk m]:=by unfold gU;rw [e];rfl
   obtain⟨x,y,s,A,B⟩:=JS wf ok;rw [hs] at f⊢;have hl: [[T.ad 5 m.rs.isEmpty (aM (m.rs.map nE)),ti m.re.n,ti m.re.d,T.ad 2 m.re.ec (bL m.re.cs),ti m.re.r]]= [[mT (jk m),ti (jk m).re.n,ti (jk m).re.d,cT (jk m).re,ti (jk m).re.r]]:=rfl;refine ai ?_;rw [Be];simp only [an,↓reduceIte,Int.reduceBEq,Int.reduceEq,h,p,h0,and_self,cX,l8,fR g1,vD o,rV,dv,c,s,A,B,Wu,Wy,cM (show a.length+1<=1000000 by omega),next i (by omega),hl,Bx];exact f
  | true=>
   rw [e] at c;have G:=rO.1 e;have hs:gU d m=ku m 0 (ic d.so):=by unfold gU;rw [e];rfl
   have q:i64.wrap (d.so - 10)= ((ic d.so:Nat):Int):=by rw [wr (by omega)];unfold ic;omega
   rw [hs] at f⊢;have z:=Is (ed:=ed) (ew:=ew) (ds:=ds) (ms:=ms) wf ok (show i<=100 by omega) (show ic d.so<=100 by unfold ic;omega) (ic d.so) 0 a (by omega) (by unfold ic;omega) f;refine ai ?_;rw [Be];simp only [an,↓reduceIte,Int.reduceBEq,Int.reduceEq,h,p,h0,and_self,cX,l8,fR g1,vD o,rV,dv,c,Ws,q];exact z
theorem Ri{ed ew:Bool}{ds:List Dc}{ms:List Me}(f:z7 ds ms):∃x,Or my [rf 0,rf 1,rf 2,rf 3,AV.t (T.ad 3 ed (aN ds)),I (ds.length:Int),I 0] [kO ew ms,ez,fz,ez]=some [x,ti 0,ti 0]/\x.aQ 5=some (ds.isEmpty,fk (ef ds ms)):=by
 have k:=f.dl;have b:=f.ml;have z:i64.wrap (0+1)= ((1:Nat):Int):=by decide
 cases c:ds with
 | nil=>refine⟨T.aB true,ai ?_,rfl⟩;rw [Bd];simp only [an,↓reduceIte,Int.reduceBEq,Int.reduceEq,WN,W3,Xb,decide_false]
 | cons d r=>
 cases a:ms with
 | nil=>rw [c,a] at b;simp at b
 | cons m j=>
  rw [c] at k b;rw [a] at b;have hm:m∈ms:=by rw [a];exact Wl
  have wf:=f.wf m hm;have ok:=f.ok m hm;have l:(0:Int) < (((d::r).length:Nat):Int):=by simp
  have o:(0:Int) < (((m::j).length:Nat):Int):=by simp
  have h0:(0:Int)<=0:=by omega
  have g1:(aN (d::r))[(0:Int).toNat]? =some [T.str d.nm,T.ad 1 d.ea (enc d.ar),ti d.so]:=rfl;have u:(fk (m::j))[(0:Int).toNat]? =some [mT m,ti m.re.n,ti m.re.d,cT m.re,ti m.re.r]:=rfl;have e:=hH d.so;have A:=ET d m;have h:=Rh (ed:=ed) (ew:=ew) f r j 1 (gU d m) (by rw [c];rfl) (by rw [a];rfl) (by simp at k;omega);rw [<-ef] at h;refine⟨T.ad 5 false (fk (ef (d::r) (m::j))), ?_,rfl⟩;cases g:aE d.so with
  | false=>
   rw [g] at e;have hs:gU d m= [jk m]:=by unfold gU;rw [g];rfl
   obtain⟨x,y,s,v,w⟩:=JS wf ok;rw [hs,c,a] at h;have hl: [[T.ad 5 m.rs.isEmpty (aM (m.rs.map nE)),ti m.re.n,ti m.re.d,T.ad 2 m.re.ec (bL m.re.cs),ti m.re.r]]=fk [jk m]:=rfl;refine ai ?_;rw [Bd];simp only [an,↓reduceIte,Int.reduceBEq,Int.reduceEq,l,o,h0,and_self,cX,l8,g1,u,rV,dv,e,s,v,w,Wu,z,hl];exact h
  | true=>
   rw [g] at e;have B:=rO.1 g;have hs:gU d m=ku m 0 (ic d.so):=by unfold gU;rw [g];rfl
   have q:i64.wrap (d.so - 10)= ((ic d.so:Nat):Int):=by rw [wr (by omega)];unfold ic;omega
   rw [hs] at h;have p:=Rg (ed:=ed) (ew:=ew) (ds:=ds) (ms:=ms) (i:=0) wf ok (by omega) (show ic d.so<=100 by unfold ic;omega) (show 0 < ic d.so by unfold ic;omega) h;rw [c,a] at p;refine ai ?_;rw [Bd];simp only [an,↓reduceIte,Int.reduceBEq,Int.reduceEq,l,o,h0,and_self,cX,l8,g1,u,rV,dv,e,Ws,q];exact p
open Go Go.Aev Go.IntKind
structure DQ (a:As) (ms:List Me):Prop where
 aw:pj a
 nm:∀d∈a.ds,d.nm.size<=9223372036854775807
 wf:∀m∈ms,ff m
theorem Ig{d:Dc}{m:Me}(h:fJ d m=0):m.rs.length<=1000/\(∀e∈m.rs,e.ar.length=d.ar.length)/\dh d.so m.re=true/\∀e∈m.rs,dh d.so e.to=true:=by
 unfold fJ at h;by_cases g: 1000 < m.rs.length
 .rw [if_pos g] at h;exact absurd h (by decide)
 rw [if_neg g] at h;by_cases a:(m.rs.any λe=> !((e.ar.length:Int)== (d.ar.length:Int)))=true
 .rw [if_pos a] at h;exact absurd h (by decide)
 rw [if_neg a] at h;by_cases i:(m.rs.any λe=>e.ar.any λn=> !eM n)=true
 .rw [if_pos i] at h;exact absurd h (by decide)
 rw [if_neg i] at h;by_cases j:lF [] m.rs=true
 .rw [if_pos j] at h;exact absurd h (by decide)
 rw [if_neg j] at h;by_cases b:dh d.so m.re=false
 .rw [if_pos b] at h;exact absurd h (by decide)
 rw [if_neg b] at h;by_cases c:(m.rs.any λe=> !dh d.so e.to)=true
 .rw [if_pos c] at h;exact absurd h (by decide)
 rw [Yj] at a c;refine⟨by omega,λe f=> ?_,by simpa using b,λe f=> ?_⟩
 .have:=Xd.1 a e f;simp only [Yj,Yp,beq_iff_eq] at this;omega
 .have:=Xd.1 c e f;simpa using this
theorem MK{a:As}{ms:List Me}(f:DQ a ms)(h:(jo a ms).1=0):z7 a.ds ms:=by
 obtain⟨i,c,k⟩:=we h;obtain⟨ok,d⟩:=nC (es:=(bg a).1.isEmpty) i;have p:a.ds.length<=30:=ok.dl;refine⟨by omega,c,f.wf,λm hm=> ?_⟩;obtain⟨j,g⟩:=Xv hm;have b:j < a.ds.length:=by rw [<-c];exact(Wm.1 g).1
 obtain⟨n,o,_⟩:=Ig (k j _ m (Wv b) g);exact⟨n,λe l=>by rw [o e l];have:=d _ (YD b);omega⟩
open Go Go.Aev Go.Proofs Go.IntKind
set_option maxRecDepth 1000000
theorem u3:aj.underlying 3=some (.int .i64):=Tryz.underlying3
theorem u9:aj.underlying 9=some .string:=Tryz.underlying9
theorem UT:aj.underlying 24=some (.slice 3):=Tryz.underlying24
theorem UR:aj.underlying 22=some (.slice 42):=Tryz.underlying22
theorem US:aj.underlying 23=some (.slice 44):=Tryz.underlying23
theorem UU:aj.underlying 27=some (.slice 52):=Tryz.underlying27
theorem UW:aj.underlying 47=some (.slice 103):=Tryz.underlying47
theorem UX:aj.underlying 50=some (.slice 75):=Tryz.underlying50
theorem c3:aj.cellsOf 3=1:=by kernel_rfl
theorem Mf:aj.cellsOf 42=3:=by kernel_rfl
theorem Md:aj.cellsOf 44=5:=by kernel_rfl
theorem Mg:aj.cellsOf 52=5:=by kernel_rfl
theorem Mi:aj.cellsOf 103=2:=by kernel_rfl
theorem Mh:aj.cellsOf 75=5:=by kernel_rfl
theorem LM:aj.bytesOf 103=16:=by kernel_rfl
theorem nM{n:Nat}{ts:List T}(h:Wt aj (n+1) 3 ts):∃m:Int,ts= [ti m]:=by obtain⟨m,a,_⟩:=@V6 aj n 3 ts .i64 u3 h;exact⟨m,a⟩
theorem yJ{n:Nat}{ts:List T}(h:Wt aj (n+2) 24 ts):∃e l,ts= [T.ad 1 e (enc l)]/\(e=true->l= []):=by obtain⟨b,l,a,c,_⟩:=@uK aj (n+1) 24 ts Int (λx:Int=> [ti x]) 3 UT h (λcs d=>nM d);rw [c3] at a;exact⟨b,l,a,c⟩
theorem Ms{n:Nat}{ts:List T}(h:Wt aj (n+2) 103 ts):∃p:Int×Int,ts= [ti p.1,ti p.2]:=by obtain⟨a,b,rfl,e,c,d,rfl,f,rfl⟩:=@pg aj (n+1) 103 ts _ Tryz.underlying103 h;obtain⟨x,rfl⟩:=nM e;obtain⟨y,rfl⟩:=nM f;exact⟨(x,y),rfl⟩
theorem Mt{n:Nat}{ts:List T}(h:Wt aj (n+3) 47 ts):∃e l,ts= [T.ad 2 e (bL l)]/\(e=true->l= [])/\l.length<=ML:=by obtain⟨b,l,a,d,_,c⟩:=@uK aj (n+2) 47 ts (Int×Int) (λp:Int×Int=> [ti p.1,ti p.2]) 103 UW h (λcs f=>Ms f);rw [Mi] at a;rw [LM] at c;refine⟨b,l,a,d, ?_⟩;unfold reachBytes at c;unfold ML;omega
structure xD (v:Va):Prop where
 em:v.em=false
 cl:v.cs.length<=ML
 ce:v.ec=true->v.cs= []
theorem KS{n:Nat}{ts:List T}(h:Wt aj (n+4) 49 ts):∃v:Va,ts= [ti v.n,ti v.d,T.ad 2 v.ec (bL v.cs),ti v.r]/\xD v:=by obtain⟨a,b,rfl,g,c,d,rfl,i,p,q,rfl,j,rfl⟩:=@pg aj (n+3) 49 ts _ Tryz.underlying49 h;obtain⟨o,s,rfl,k,t,u,rfl,m,rfl⟩:=@pg aj (n+2) 46 a _ Tryz.underlying46 g;obtain⟨x,rfl⟩:=nM k;obtain⟨y,rfl⟩:=nM m;obtain⟨e,l,rfl,g1,f⟩:=Mt i;obtain⟨z,rfl⟩:=nM j;exact⟨⟨false,x,y,e,l,z⟩,rfl,rfl,f,g1⟩
def gE(e:En):List T:= [T.ad 1 e.ea (enc e.ar),ti e.to.n,ti e.to.d,cT e.to,ti e.to.r]
theorem OY{n:Nat}{ts:List T}(h:Wt aj (n+5) 75 ts):∃e:{e:En // (e.ea=true->e.ar= [])/\xD e.to},ts=gE e.1:=by
 obtain⟨a,b,rfl,f,c,d,rfl,g,rfl⟩:=@pg aj (n+4) 75 ts _ Tryz.underlying75 h;obtain⟨e,l,rfl,g1⟩:=yJ (n:=n+2) f;obtain⟨v,rfl,wv⟩:=KS g;refine⟨⟨⟨e,l,v⟩,g1,wv⟩, ?_⟩;have i:cT v=T.ad 2 v.ec (bL v.cs):=by unfold cT;rw [wv.em];rfl
 show _= [T.ad 1 e (enc l),ti v.n,ti v.d,cT v,ti v.r];rw [i];rfl
theorem yV{b c:Type}{p:b->Prop}(g:b->c)(l:List {a:b // p a}):l.map (λa=>g a.1)= (l.map Subtype.val).map g:=by simp
theorem OX{n:Nat}{ts:List T}(h:Wt aj (n+6) 50 ts):∃e l,ts= [T.ad 5 e (aM l)]/\∀x∈l,(x.ea=true->x.ar= [])/\xD x.to:=by obtain⟨b,l,a,_⟩:=@uK aj (n+5) 50 ts {e:En // (e.ea=true->e.ar= [])/\xD e.to} (λe=>gE e.1) 75 UX h (λcs c=>OY c);rw [Mh,yV] at a;refine⟨b,l.map Subtype.val,a,λx d=> ?_⟩;obtain⟨y,_,rfl⟩:=WU.1 d;exact y.2
def gM(m:Me):List T:= [mT m,ti m.re.n,ti m.re.d,cT m.re,ti m.re.r]
theorem Qn{n:Nat}{ts:List T}(h:Wt aj (n+7) 52 ts):∃m:{m:Me // ff m},ts=gM m.1:=by
 obtain⟨a,b,rfl,g,c,d,rfl,i,rfl⟩:=@pg aj (n+6) 52 ts _ Tryz.underlying52 h;obtain⟨e,l,rfl,g1⟩:=OX g;obtain⟨v,rfl,wv⟩:=KS (n:=n+2) i;refine⟨⟨⟨false,e,l,v⟩,⟨wv.cl,λx f=>(g1 x f).2.cl,wv.ce,λx f=>(g1 x f).2.ce,λx f=>(g1 x f).1⟩⟩, ?_⟩;have j:cT v=T.ad 2 v.ec (bL v.cs):=by unfold cT;rw [wv.em];rfl
 show _= [T.ad 5 e (aM l),ti v.n,ti v.d,cT v,ti v.r];rw [j];rfl
theorem VZ{n:Nat}{a:AV}(h:(bW aj 29=true/\∃l,Wt aj (n+9) 29 l/\a= .agg (l.map .t))\/(bW aj 29=false/\∃x,Wt aj (n+9) 29 [x]/\a= .t x)):∃e ms,a=WG e ms/\∀m∈ms,ff m:=by obtain⟨l,d,rfl⟩:=Ej h (by kernel_rfl);obtain⟨a,b,rfl,f,rfl⟩:=@pg aj (n+8) 29 l _ Tryz.underlying29 d;obtain⟨e,l,c,_⟩:=@uK aj (n+7) 27 a {m:Me // ff m} (λm=>gM m.1) 52 UU f (λcs g=>Qn g);rw [Mg,yV] at c;subst c;refine⟨e,l.map Subtype.val,rfl,λm hm=> ?_⟩;obtain⟨y,_,rfl⟩:=WU.1 hm;exact y.2
def gD(d:Dc):List T:= [T.str d.nm,T.ad 1 d.ea (enc d.ar),ti d.so]
theorem MC{n:Nat}{ts:List T}(h:Wt aj (n+3) 42 ts):∃d:{d:Dc // (d.ea=true->d.ar= [])/\d.nm.size<=9223372036854775807},ts=gD d.1:=by obtain⟨a,b,rfl,f,c,d,rfl,g,p,q,rfl,i,rfl⟩:=@pg aj (n+2) 42 ts _ Tryz.underlying42 h;obtain⟨s,rfl,hs⟩:=@La aj (n+1) 9 a u9 f;obtain⟨e,l,rfl,g1⟩:=yJ g;obtain⟨z,rfl⟩:=nM i;exact⟨⟨⟨s,e,l,z⟩,g1,by unfold maxLen at hs;exact hs⟩,rfl⟩
def gN(x:Nd):List T:= [ti x.op,T.ad 1 x.ek (enc x.ks),ti x.n,ti x.d,T.str x.nm]
theorem RU{n:Nat}{ts:List T}(h:Wt aj (n+3) 44 ts):∃x:{x:Nd // x.ek=true->x.ks= []},ts=gN x.1:=by obtain⟨a,b,rfl,f,c,d,rfl,g,p,q,rfl,i,o,r,rfl,j,m,t,rfl,k,rfl⟩:=@pg aj (n+2) 44 ts _ Tryz.underlying44 h;obtain⟨x,rfl⟩:=nM f;obtain⟨e,l,rfl,g1⟩:=yJ g;obtain⟨y,rfl⟩:=nM i;obtain⟨z,rfl⟩:=nM j;obtain⟨s,rfl,hs⟩:=@La aj (n+1) 9 m u9 k;exact⟨⟨⟨x,e,l,y,z,s⟩,g1⟩,rfl⟩
theorem LL{n:Nat}{a:AV}(h:(bW aj 26=true/\∃l,Wt aj (n+5) 26 l/\a= .agg (l.map .t))\/(bW aj 26=false/\∃x,Wt aj (n+5) 26 [x]/\a= .t x)):∃x:As,a=AG x/\pj x/\∀d∈x.ds,d.nm.size<=9223372036854775807:=by
 obtain⟨l,r,rfl⟩:=Ej h (by kernel_rfl);obtain⟨a,b,rfl,s,c,d,rfl,u,p,q,rfl,v,rfl⟩:=@pg aj (n+4) 26 l _ Tryz.underlying26 r;obtain⟨k,g,g1,_⟩:=@uK aj (n+3) 22 a {d:Dc // (d.ea=true->d.ar= [])/\d.nm.size<=9223372036854775807} (λd=>gD d.1) 42 UR s (λcs e=>MC e);obtain⟨m,j,i,_⟩:=@uK aj (n+3) 23 c {x:Nd // x.ek=true->x.ks= []} (λx=>gN x.1) 44 US u (λcs e=>RU e);obtain⟨e3,z,rfl,o⟩:=yJ (n:=n+2) v;rw [Mf,yV] at g1;rw [Md,yV] at i;subst g1 i;refine⟨⟨k,g.map Subtype.val,m,j.map Subtype.val,e3,z⟩,rfl,⟨λd f=> ?_,λx w=> ?_,o⟩,λd f=> ?_⟩
 .obtain⟨y,_,rfl⟩:=WU.1 (show d∈g.map Subtype.val from f);exact y.2.1
 .obtain⟨y,_,rfl⟩:=WU.1 (show x∈j.map Subtype.val from w);exact y.2
 .obtain⟨y,_,rfl⟩:=WU.1 (show d∈g.map Subtype.val from f);exact y.2.2
end Go.Aev.Gen
