import Derived.Test.YtcffabneepdohaaGreatDoorBlastBackQ8
import Derived.Test.YtcffabneepdohaaGreatDoorBlastBackQ14
import Derived.Test.YtcffabneepdohaaGreatDoorBlastBackQ5
set_option linter.all false
namespace Go.Aev.Gen
open Go Go.Aev Go.IntKind
abbrev ML:Nat:=8796093022208
structure Va where
 em:Bool
 n:Int
 d:Int
 ec:Bool
 cs:List (Int×Int)
 r:Int
structure En where
 ea:Bool
 ar:List Int
 to:Va
structure Me where
 em:Bool
 er:Bool
 rs:List En
 re:Va
def bW(l:List (Int×Int)):List (List T):=l.map λp=> [ti p.1,ti p.2]
def cT(v:Va):T:=bif v.em && v.cs.isEmpty then T.aC v.ec else T.aa 2 v.ec (bW v.cs)
theorem cY(v:Va):(cT v).aQ 2=some (v.ec,bW v.cs):=by
 unfold cT;cases a:v.em && v.cs.isEmpty with
 | true=>rw [Xf,Yt] at a;rw [a.2];simp only [aS,cD];rfl
 | false=>simp only [aV,bO]
def aO(l:List En):List (List T):=l.map λe=> [T.aa 1 e.ea (enc e.ar),ti e.to.n,ti e.to.d,cT e.to,ti e.to.r]
def mT(m:Me):T:=bif m.em && m.rs.isEmpty then T.aC m.er else T.aa 5 m.er (aO m.rs)
theorem oT(m:Me):(mT m).aQ 5=some (m.er,aO m.rs):=by
 unfold mT;cases a:m.em && m.rs.isEmpty with
 | true=>rw [Xf,Yt] at a;rw [a.2];simp only [aS,cD];rfl
 | false=>simp only [aV,bO]
def eU(l:List Me):List (List T):=l.map λm=> [mT m,ti m.re.n,ti m.re.d,cT m.re,ti m.re.r]
abbrev VG(v:Va):AV:=AV.agg [I v.n,I v.d,AV.t (T.aa 2 v.ec (bW v.cs)),I v.r]
abbrev EG(e:En):AV:=AV.agg [AV.t (T.aa 1 e.ea (enc e.ar)),I e.to.n,I e.to.d,AV.t (T.aa 2 e.to.ec (bW e.to.cs)),I e.to.r]
abbrev MG(m:Me):AV:=AV.agg [AV.t (T.aa 5 m.er (aO m.rs)),I m.re.n,I m.re.d,AV.t (T.aa 2 m.re.ec (bW m.re.cs)),I m.re.r]
abbrev WG(e:Bool)(l:List Me):AV:=AV.agg [AV.t (T.aa 5 e (eU l))]
abbrev DG(d:Dc):AV:=AV.agg [AV.t (T.str d.nm),AV.t (T.aa 1 d.ea (enc d.ar)),I d.so]
abbrev DP(d:Dc):AV:=AV.t (T.ptr [T.str d.nm,T.aa 1 d.ea (enc d.ar),ti d.so])
theorem iX(l:List (Int×Int)):(bW l).length=l.length:=by simp [bW]
theorem l6{l:List (Int×Int)}{i:Nat}{p:Int×Int}(h:l[i]? =some p):(bW l)[((i:Nat):Int).toNat]? =some [ti p.1,ti p.2]:=by simp [bW,h]
theorem dA(l:List En):(aO l).length=l.length:=by simp [aO]
theorem iv{l:List En}{i:Nat}{e:En}(h:l[i]? =some e):(aO l)[((i:Nat):Int).toNat]? =some [T.aa 1 e.ea (enc e.ar),ti e.to.n,ti e.to.d,cT e.to,ti e.to.r]:=by simp [aO,h]
theorem iY(l:List Me):(eU l).length=l.length:=by simp [eU]
theorem vS{l:List Me}{i:Nat}{m:Me}(h:l[i]? =some m):(eU l)[((i:Nat):Int).toNat]? =some [mT m,ti m.re.n,ti m.re.d,cT m.re,ti m.re.r]:=by simp [eU,h]
theorem Sw(i:Nat)(h:i<=ML):i64.wrap ((i:Int)+1)= ((i+1:Nat):Int):=by rw [wr (by unfold ML at h;omega)];omega
def eL(n:Int):Bool:=decide (n>=0) && decide (n<=1000)
theorem xh(n:Int):Or (.call 57) [I n] []=some [tb (eL n)]:=by refine ai ?_;rw [N8];simp only [tw,eL]
theorem IU:∀(b a:Nat),Or xC [AV.t (.int .u64 (a:Int)),AV.t (.int .u64 (b:Int))] []=some [.int .u64 (Nat.gcd b a:Nat)]:=by
 intro b;induction b using Nat.strongRecOn with
 | _ b f=>
  intro a;refine ai ?_;rw [Nx];by_cases h:b=0
  .subst h;simp
  .have d:((b:Int)==0)=false:=by simpa using h
   have e:¬(b:Int)=0:=by omega
   have c:=f (a % b) (aat _ (by omega)) b;rw [show Nat.gcd (a % b) b=Nat.gcd b a from(Nat.gcd_rec b a).symm] at c;simp only [d,e,Xe,aS,↓reduceIte,aI];rw [show((a:Int).tmod (b:Int))= ((a % b:Nat):Int) from by simp [Int.tmod]];exact c
theorem Km{n:Int}(h: -1073741824<=n/\n<=1073741824):Or (.call 105) [I n] []=some [.int .u64 (n.natAbs:Int)]:=by
 have b:∀v:Int,u64.wrap v=v % 18446744073709551616:=λv=>by simp [IntKind.wrap,IntKind.bits,IntKind.signed]
 refine ai ?_;rw [FI];by_cases h0:n < 0
 .have a:u64.wrap (0 - u64.wrap n)= (n.natAbs:Int):=by
   rw [b,b];omega
  simp only [h0,decide_true,aS,a]
 .have a:u64.wrap n= (n.natAbs:Int):=by rw [b];omega
  simp only [h0,decide_false,aV,a]
def vY(n d:Int):Bool:= !(((decide (d < 1) || decide (d > 1073741824)) || decide (n < -1073741824)) || decide (n > 1073741824))
def jq(n d:Int):Int:=if vY n d=true/\Nat.gcd d.natAbs n.natAbs=1 then 0 else 3
theorem Dw(n d:Int):Or (.call 82) [AV.agg [I n,I d]] []=some [ti (jq n d),ti 0]:=by
 refine ai ?_;rw [Po];simp only [vE];unfold jq;cases a:vY n d with
 | false=>unfold vY at a;rw [Y8] at a;simp only [a,Xc,fL,bI,aI,YE,aS];rfl
 | true=>
  have c: -1073741824<=n/\n<=1073741824/\1<=d/\d<=1073741824:=by unfold vY at a;simp only [X6,X0,decide_eq_false_iff_not] at a;omega
  unfold vY at a;rw [X6] at a;have k1:=Km (n:=n) ⟨c.1,c.2.1⟩;have k2:=Km (n:=d) ⟨by omega,c.2.2.2⟩;have k3:Or (.call 104) [AV.t (.int .u64 (n.natAbs:Int)),AV.t (.int .u64 (d.natAbs:Int))] []=some [.int .u64 (Nat.gcd d.natAbs n.natAbs:Nat)]:=by refine ai ?_;rw [FH];exact IU _ _
  simp only [a,Xe,fy,k1,k2,k3,aI,aL,aP,XG];by_cases b:Nat.gcd d.natAbs n.natAbs=1
  .rw [if_pos ⟨trivial,b⟩,b];rfl
  .have e:(((Nat.gcd d.natAbs n.natAbs:Nat):Int)==1)=false:=by
    rw [beq_eq_false_iff_ne];omega
   simp only [e,b,Xe,aS,and_false,↓reduceIte]
def wH:Option Int->Int->Bool
 | none,_=>true
 | some p,x=> !decide (x<=p)
def rK(r:Int):Option Int->List (Int×Int)->Bool
 | _,[]=>true
 | a,c::t=>(eL c.1 && eL c.2 && !(c.2==r) && wH a c.1) && rK r (some c.1) t
def x5(v:Va):Bool:=(v.n==0 && v.d==0) && eL v.r && rK v.r none v.cs
abbrev VP(v:Va):ad:=ad.box [I v.n,I v.d,AV.t (T.aa 2 v.ec (bW v.cs)),I v.r]
theorem Sc{v:Va}(hl:v.cs.length<=ML):∀(t:List (Int×Int)) (i:Nat) (a:Option Int),v.cs.drop i=t->i<=v.cs.length->(i=0/\a=none\/∃j p,i=j+1/\v.cs[j]? =some p/\a=some p.1)->
  Or xM [r0,AV.t (T.aa 2 v.ec (bW v.cs)),I (v.cs.length:Int),I (i:Int)] [VP v]=some [tb (rK v.r a t)]:=by
 intro t;induction t with
 | nil=>
  intro i a g s h;have d:¬(i:Int) < (v.cs.length:Int):=by have:=bu g;omega
  refine ai ?_;rw [GO];simp only [ao,↓reduceIte,d,rK]
 | cons c t w=>
  intro i a g s h;obtain⟨g1,A,m⟩:=bt g;have d:(i:Int) < (v.cs.length:Int):=by omega
  have h0: 0<=(i:Int):=by omega
  have k1:=xh c.1;have k2:=xh c.2;have k:=w (i+1) (some c.1) m (by omega) (.inr ⟨i,c,rfl,g1,rfl⟩);have l:=Sw i (by omega);rw [rK];refine ai ?_;rw [GO];simp only [vE,tw,aI,aL,aU,aP,bA,d,h0,and_self,decide_true,aS,↓reduceIte,iX,l6 g1,k1];cases y:eL c.1 with
  | false=>simp only [ao,YE,bI]
  | true=>
  cases f:eL c.2 with
  | false=>rw [f] at k2;simp only [ao,YE,XG,bI,k2]
  | true=>
  rw [f] at k2;cases b:c.2==v.r with
  | true=>simp only [aI,aL,bA,fy,jb,ja,aS,YE,ZF,XG,X4,X3,XR,bI,k2]
  | false=>
   rcases h with⟨rfl,rfl⟩ | ⟨j,p,rfl,u,rfl⟩
   .have e:¬((0:Nat):Int) > 0:=by omega
    simp only [aI,aL,bA,fy,jb,ja,aV,XG,X4,X3,XR,Yk,bI,k2,e,decide_false,l,wH];exact k
   .have e:((j+1:Nat):Int) > 0:=by omega
    have x:i64.wrap (((j+1:Nat):Int) - 1)= (j:Int):=by rw [wr (by unfold ML at hl;omega)];omega
    have q:(j:Int) < (v.cs.length:Int):=by omega
    have o:(0:Int)<=(j:Int):=by omega
    have n:(bW v.cs)[j]? =some [ti p.1,ti p.2]:=by have:=l6 u;simpa using this
    simp only [aI,aL,aP,bA,fy,jb,ja,XG,XR,Yk,k2,e,decide_true,x,q,o,and_self,↓reduceIte,Xv,n,wH];cases z:decide (c.1<=p.1) with
    | true=>simp only [aS,Xc,X3]
    | false=>simp only [aV,Xe,XR,l];exact k
theorem UF{v:Va}(hl:v.cs.length<=ML):Or (.call 81) [VG v] []=some [tb (x5 v)]:=by
 have b:=Sc hl v.cs 0 none rfl (XZ _) (.inl ⟨rfl,rfl⟩);have k:=xh v.r;unfold x5;refine ai ?_;rw [Pn];simp only [vE,Yk,iX];cases c:(v.n==0 && v.d==0) with
 | false=>simp only [Xe,Xc,fL,aI,bI,YE,aS,X3]
 | true=>
 cases a:eL v.r with
 | false=>rw [a] at k;simp only [Xe,Xc,fy,aI,aL,bA,k,XG,aS,X3,XR]
 | true=>rw [a] at k;simp only [Xe,Xc,fy,aI,aL,bA,k,XG,aV,XR];exact b
def dO(s:Int)(v:Va):Bool:=
 if s=5 then x5 v
 else if v.cs≠[]\/v.r≠0\/jq v.n v.d≠0\/(s≠3/\v.d≠1) then false
 else if s=1 then(v.n==0 || v.n==1)
 else if s=4 then eL v.n
 else if aG s=true then(decide (v.n>=0) && decide (v.n < 2 ^ (s - 10).toNat))
 else true
theorem Ks(s:Int){v:Va}(hl:v.cs.length<=ML):Or (.call 60) [I s,VG v] []=some [tb (dO s v)]:=by
 have k:=UF hl;unfold dO;refine ai ?_;rw [Oa];by_cases j:s=5
 .subst j;simp only [ao,↓reduceIte,Int.reduceBEq,k]
 simp only [Bc,j,↓reduceIte,iX,vE,tw];have y:=Dw v.n v.d;cases c:(decide ((v.cs.length:Int) > 0) || !v.r==0) with
 | true=>
  have:v.cs≠[]\/v.r≠0\/jq v.n v.d≠0\/(s≠3/\v.d≠1):=by
   rw [XT] at c;rcases c with b | b
   .left;intro e;rw [e] at b;simp at b
   .right;left;simpa using b
  rw [if_pos this];simp only [Xc,fL,aI,bI,YE,aS]
 | false=>
 have l:v.cs= []/\v.r=0:=by
  rw [X0] at c;refine⟨?_,by simpa using c.2⟩;cases h:v.cs with
  | nil=>rfl
  | cons a b=>rw [h] at c;simp at c
 simp only [Xe,fy,y,aI,aL,aU,aP,XG];cases f:(!jq v.n v.d==0 || (!s==3 && !v.d==1)) with
 | true=>
  have:v.cs≠[]\/v.r≠0\/jq v.n v.d≠0\/(s≠3/\v.d≠1):=by
   right;right;rw [XT] at f;rcases f with b | b
   .left;simpa using b
   .right;simpa using b
  rw [if_pos this];simp only [aS]
 | false=>
 have x:¬(v.cs≠[]\/v.r≠0\/jq v.n v.d≠0\/(s≠3/\v.d≠1)):=by
  rw [X0] at f;have g:jq v.n v.d=0:=by simpa using f.1
  have w:¬(s≠3/\v.d≠1):=by have:=f.2;simpa using this
  rintro(h | h | h | h)
  .exact h l.1
  .exact h l.2
  .exact h g
  .exact w h
 rw [if_neg x];simp only [aV];by_cases g:s=1
 .subst g;simp only [↓reduceIte];by_cases m:v.n=0
  .simp [m]
  .simp [m]
 simp only [g,↓reduceIte];by_cases i:s=4
 .subst i;have p:=xh v.n;simp only [↓reduceIte,p,aI,aL,bA]
 simp only [i,↓reduceIte];have o:=iB s;simp only [o,aI,aL,bA];cases q:aG s with
 | false=>simp
 | true=>
  have hs: 10 < s/\s<=18:=by simpa [aG] using q
  obtain⟨b,rfl⟩:∃b:Nat,s=10+ (b:Int):=⟨(s - 10).toNat,by omega⟩;have A: 1<=b/\b<=8:=by omega
  have z:i64.wrap (10+ (b:Int) - 10)= (b:Int):=by rw [wr (by omega)];omega
  have h0:¬(b:Int) < 0:=by omega
  have t:(10+ (b:Int) - 10).toNat=b:=by omega
  have u:i64.wrap (1 * 2 ^ min b 64)=2 ^ b:=by rcases(by omega:b=1\/b=2\/b=3\/b=4\/b=5\/b=6\/b=7\/b=8) with rfl | rfl | rfl | rfl | rfl | rfl | rfl | rfl <;> decide
  simp only [aS,↓reduceIte,z,h0,aI,Xv,t,u]
theorem R2{er:Bool}{rs:List En}{d:Dc}(hl:rs.length<=900000)(f:∀e∈rs,Or (.call 54) [EG e,DP d] []=some [tb (!((e.ar.length:Int)== (d.ar.length:Int)))]):∀(r:List En) (i:Nat),rs.drop i=r->
  ∃z:Int,Or gT [AV.t (T.aa 5 er (aO rs)),AV.fn 54 [] [DP d],I (rs.length:Int),I (i:Int)] []=some [ti z]/\decide (z>=0)=r.any λe=> !((e.ar.length:Int)== (d.ar.length:Int)):=by
 intro r;induction r with
 | nil=>
  intro i g;have b:¬(i:Int) < (rs.length:Int):=by have:=bu g;omega
  refine⟨-1,ai ?_,by simp⟩;rw [BD];simp only [ao,↓reduceIte,b]
 | cons x r h=>
  intro i g;obtain⟨g1,m,c⟩:=bt g;have hm:=Xg g1;have b:(i:Int) < (rs.length:Int):=by omega
  have h0: 0<=(i:Int):=by omega
  have k:=f x hm;cases a:(λe:En=> !((e.ar.length:Int)== (d.ar.length:Int))) x with
  | true=>replace a:(!((x.ar.length:Int)== (d.ar.length:Int)))=true:=a;rw [a] at k;refine⟨(i:Int),ai ?_,by rw [X9];simp [a]⟩;rw [BD];simp only [aI,aL,aU,bA,aP,bO,b,h0,and_self,dA,iv g1,cY,k,aS,eC,↓reduceIte]
  | false=>replace a:(!((x.ar.length:Int)== (d.ar.length:Int)))=false:=a;rw [a] at k;obtain⟨z,j,l⟩:=h (i+1) c;refine⟨z,ai ?_,by rw [l,X9,a,XG]⟩;rw [BD];simp only [aI,aL,aU,bA,aP,bO,b,h0,and_self,dA,iv g1,cY,k,aV,eC,↓reduceIte,next i (by omega)];exact j
theorem TS{er:Bool}{rs:List En}{d:Dc}(hl:rs.length<=900000)(b:∀e∈rs,Or (.call 54) [EG e,DP d] []=some [tb (!((e.ar.length:Int)== (d.ar.length:Int)))]):Or (.call 53) [AV.t (T.aa 5 er (aO rs)),AV.fn 54 [] [DP d]] []=some [tb (rs.any λe=> !((e.ar.length:Int)== (d.ar.length:Int)))]:=by
 obtain⟨z,c,f⟩:=R2 (er:=er) hl b rs 0 rfl;have a:Or (.call 80) [AV.t (T.aa 5 er (aO rs)),AV.fn 54 [] [DP d]] []=some [ti z]:=by refine ai ?_;rw [O9];simp only [dA];exact c
 refine ai ?_;rw [NS];simp only [aI,aL,aP,a,f]
theorem R5{er:Bool}{rs:List En}(hl:rs.length<=900000)(d:∀e∈rs,Or (.call 55) [EG e] []=some [tb (e.ar.any λn=> !eL n)]):∀(r:List En) (i:Nat),rs.drop i=r->
  ∃z:Int,Or gT [AV.t (T.aa 5 er (aO rs)),AV.fn 55 [] [],I (rs.length:Int),I (i:Int)] []=some [ti z]/\decide (z>=0)=r.any λe=>e.ar.any λn=> !eL n:=by
 intro r;induction r with
 | nil=>
  intro i g;have b:¬(i:Int) < (rs.length:Int):=by have:=bu g;omega
  refine⟨-1,ai ?_,by simp⟩;rw [BE];simp only [ao,↓reduceIte,b]
 | cons x r f=>
  intro i g;obtain⟨g1,l,c⟩:=bt g;have hm:=Xg g1;have b:(i:Int) < (rs.length:Int):=by omega
  have h0: 0<=(i:Int):=by omega
  have k:=d x hm;cases a:(λe:En=>e.ar.any λn=> !eL n) x with
  | true=>replace a:(x.ar.any λn=> !eL n)=true:=a;rw [a] at k;refine⟨(i:Int),ai ?_,by rw [X9];simp [a]⟩;rw [BE];simp only [aI,aL,aU,bA,aP,bO,b,h0,and_self,dA,iv g1,cY,k,aS,eC,↓reduceIte]
  | false=>replace a:(x.ar.any λn=> !eL n)=false:=a;rw [a] at k;obtain⟨z,h,j⟩:=f (i+1) c;refine⟨z,ai ?_,by rw [j,X9,a,XG]⟩;rw [BE];simp only [aI,aL,aU,bA,aP,bO,b,h0,and_self,dA,iv g1,cY,k,aV,eC,↓reduceIte,next i (by omega)];exact h
theorem TU{er:Bool}{rs:List En}(hl:rs.length<=900000)(b:∀e∈rs,Or (.call 55) [EG e] []=some [tb (e.ar.any λn=> !eL n)]):Or (.call 53) [AV.t (T.aa 5 er (aO rs)),AV.fn 55 [] []] []=some [tb (rs.any λe=>e.ar.any λn=> !eL n)]:=by
 obtain⟨z,c,d⟩:=R5 (er:=er) hl b rs 0 rfl;have a:Or (.call 80) [AV.t (T.aa 5 er (aO rs)),AV.fn 55 [] []] []=some [ti z]:=by refine ai ?_;rw [Pa];simp only [dA];exact c
 refine ai ?_;rw [NT];simp only [aI,aL,aP,a,d]
theorem R0{er:Bool}{rs:List En}{y:En}(hl:rs.length<=900000)(f:∀e∈rs,Or (.call 58) [EG e,AV.t (T.ptr [T.aa 1 y.ea (enc y.ar),ti y.to.n,ti y.to.d,T.aa 2 y.to.ec (bW y.to.cs),ti y.to.r])] []=some [tb (decide (e.ar=y.ar))]):∀(r:List En) (i:Nat),rs.drop i=r->
  ∃z:Int,Or gT [AV.t (T.aa 5 er (aO rs)),AV.fn 58 [] [AV.t (T.ptr [T.aa 1 y.ea (enc y.ar),ti y.to.n,ti y.to.d,T.aa 2 y.to.ec (bW y.to.cs),ti y.to.r])],I (rs.length:Int),I (i:Int)] []=some [ti z]/\decide (z>=0)=r.any λe=>decide (e.ar=y.ar):=by
 intro r;induction r with
 | nil=>
  intro i g;have b:¬(i:Int) < (rs.length:Int):=by have:=bu g;omega
  refine⟨-1,ai ?_,by simp⟩;rw [BF];simp only [ao,↓reduceIte,b]
 | cons x r h=>
  intro i g;obtain⟨g1,m,c⟩:=bt g;have hm:=Xg g1;have b:(i:Int) < (rs.length:Int):=by omega
  have h0: 0<=(i:Int):=by omega
  have k:=f x hm;cases a:(λe:En=>decide (e.ar=y.ar)) x with
  | true=>replace a:(decide (x.ar=y.ar))=true:=a;rw [a] at k;refine⟨(i:Int),ai ?_,by rw [X9];simp [a]⟩;rw [BF];simp only [aI,aL,aU,bA,aP,bO,b,h0,and_self,dA,iv g1,cY,k,aS,eC,↓reduceIte]
  | false=>replace a:(decide (x.ar=y.ar))=false:=a;rw [a] at k;obtain⟨z,j,l⟩:=h (i+1) c;refine⟨z,ai ?_,by rw [l,X9,a,XG]⟩;rw [BF];simp only [aI,aL,aU,bA,aP,bO,b,h0,and_self,dA,iv g1,cY,k,aV,eC,↓reduceIte,next i (by omega)];exact j
theorem TR{er:Bool}{rs:List En}{y:En}(hl:rs.length<=900000)(b:∀e∈rs,Or (.call 58) [EG e,AV.t (T.ptr [T.aa 1 y.ea (enc y.ar),ti y.to.n,ti y.to.d,T.aa 2 y.to.ec (bW y.to.cs),ti y.to.r])] []=some [tb (decide (e.ar=y.ar))]):Or (.call 53) [AV.t (T.aa 5 er (aO rs)),AV.fn 58 [] [AV.t (T.ptr [T.aa 1 y.ea (enc y.ar),ti y.to.n,ti y.to.d,T.aa 2 y.to.ec (bW y.to.cs),ti y.to.r])]] []=some [tb (rs.any λe=>decide (e.ar=y.ar))]:=by
 obtain⟨z,c,f⟩:=R0 (er:=er) hl b rs 0 rfl;have a:Or (.call 80) [AV.t (T.aa 5 er (aO rs)),AV.fn 58 [] [AV.t (T.ptr [T.aa 1 y.ea (enc y.ar),ti y.to.n,ti y.to.d,T.aa 2 y.to.ec (bW y.to.cs),ti y.to.r])]] []=some [ti z]:=by refine ai ?_;rw [Pb];simp only [dA];exact c
 refine ai ?_;rw [NU];simp only [aI,aL,aP,a,f]
theorem R4{er:Bool}{rs:List En}{d:Dc}(hl:rs.length<=900000)(f:∀e∈rs,Or (.call 61) [EG e,DP d] []=some [tb (!dO d.so e.to)]):∀(r:List En) (i:Nat),rs.drop i=r->
  ∃z:Int,Or gT [AV.t (T.aa 5 er (aO rs)),AV.fn 61 [] [DP d],I (rs.length:Int),I (i:Int)] []=some [ti z]/\decide (z>=0)=r.any λe=> !dO d.so e.to:=by
 intro r;induction r with
 | nil=>
  intro i g;have b:¬(i:Int) < (rs.length:Int):=by have:=bu g;omega
  refine⟨-1,ai ?_,by simp⟩;rw [BG];simp only [ao,↓reduceIte,b]
 | cons x r h=>
  intro i g;obtain⟨g1,m,c⟩:=bt g;have hm:=Xg g1;have b:(i:Int) < (rs.length:Int):=by omega
  have h0: 0<=(i:Int):=by omega
  have k:=f x hm;cases a:(λe:En=> !dO d.so e.to) x with
  | true=>replace a:(!dO d.so x.to)=true:=a;rw [a] at k;refine⟨(i:Int),ai ?_,by rw [X9];simp [a]⟩;rw [BG];simp only [aI,aL,aU,bA,aP,bO,b,h0,and_self,dA,iv g1,cY,k,aS,eC,↓reduceIte]
  | false=>replace a:(!dO d.so x.to)=false:=a;rw [a] at k;obtain⟨z,j,l⟩:=h (i+1) c;refine⟨z,ai ?_,by rw [l,X9,a,XG]⟩;rw [BG];simp only [aI,aL,aU,bA,aP,bO,b,h0,and_self,dA,iv g1,cY,k,aV,eC,↓reduceIte,next i (by omega)];exact j
theorem TT{er:Bool}{rs:List En}{d:Dc}(hl:rs.length<=900000)(b:∀e∈rs,Or (.call 61) [EG e,DP d] []=some [tb (!dO d.so e.to)]):Or (.call 53) [AV.t (T.aa 5 er (aO rs)),AV.fn 61 [] [DP d]] []=some [tb (rs.any λe=> !dO d.so e.to)]:=by
 obtain⟨z,c,f⟩:=R4 (er:=er) hl b rs 0 rfl;have a:Or (.call 80) [AV.t (T.aa 5 er (aO rs)),AV.fn 61 [] [DP d]] []=some [ti z]:=by refine ai ?_;rw [Pc];simp only [dA];exact c
 refine ai ?_;rw [NV];simp only [aI,aL,aP,a,f]
theorem R1{er:Bool}{rs:List En}{y:En}(hl:rs.length<=900000)(f:∀e∈rs,Or (.call 64) [EG e,AV.t (T.ptr [T.aa 1 y.ea (enc y.ar),ti y.to.n,ti y.to.d,T.aa 2 y.to.ec (bW y.to.cs),ti y.to.r])] []=some [tb (decide (e.ar=y.ar))]):∀(r:List En) (i:Nat),rs.drop i=r->
  ∃z:Int,Or gT [AV.t (T.aa 5 er (aO rs)),AV.fn 64 [] [AV.t (T.ptr [T.aa 1 y.ea (enc y.ar),ti y.to.n,ti y.to.d,T.aa 2 y.to.ec (bW y.to.cs),ti y.to.r])],I (rs.length:Int),I (i:Int)] []=some [ti z]/\decide (z>=0)=r.any λe=>decide (e.ar=y.ar):=by
 intro r;induction r with
 | nil=>
  intro i g;have b:¬(i:Int) < (rs.length:Int):=by have:=bu g;omega
  refine⟨-1,ai ?_,by simp⟩;rw [BH];simp only [ao,↓reduceIte,b]
 | cons x r h=>
  intro i g;obtain⟨g1,m,c⟩:=bt g;have hm:=Xg g1;have b:(i:Int) < (rs.length:Int):=by omega
  have h0: 0<=(i:Int):=by omega
  have k:=f x hm;cases a:(λe:En=>decide (e.ar=y.ar)) x with
  | true=>replace a:(decide (x.ar=y.ar))=true:=a;rw [a] at k;refine⟨(i:Int),ai ?_,by rw [X9];simp [a]⟩;rw [BH];simp only [aI,aL,aU,bA,aP,bO,b,h0,and_self,dA,iv g1,cY,k,aS,eC,↓reduceIte]
  | false=>replace a:(decide (x.ar=y.ar))=false:=a;rw [a] at k;obtain⟨z,j,l⟩:=h (i+1) c;refine⟨z,ai ?_,by rw [l,X9,a,XG]⟩;rw [BH];simp only [aI,aL,aU,bA,aP,bO,b,h0,and_self,dA,iv g1,cY,k,aV,eC,↓reduceIte,next i (by omega)];exact j
theorem Dt{er:Bool}{rs:List En}{y:En}(hl:rs.length<=900000)(b:∀e∈rs,Or (.call 64) [EG e,AV.t (T.ptr [T.aa 1 y.ea (enc y.ar),ti y.to.n,ti y.to.d,T.aa 2 y.to.ec (bW y.to.cs),ti y.to.r])] []=some [tb (decide (e.ar=y.ar))]):Or (.call 53) [AV.t (T.aa 5 er (aO rs)),AV.fn 64 [] [AV.t (T.ptr [T.aa 1 y.ea (enc y.ar),ti y.to.n,ti y.to.d,T.aa 2 y.to.ec (bW y.to.cs),ti y.to.r])]] []=some [tb (rs.any λe=>decide (e.ar=y.ar))]:=by
 obtain⟨z,c,f⟩:=R1 (er:=er) hl b rs 0 rfl;have a:Or (.call 80) [AV.t (T.aa 5 er (aO rs)),AV.fn 64 [] [AV.t (T.ptr [T.aa 1 y.ea (enc y.ar),ti y.to.n,ti y.to.d,T.aa 2 y.to.ec (bW y.to.cs),ti y.to.r])]] []=some [ti z]:=by refine ai ?_;rw [Pd];simp only [dA];exact c
 refine ai ?_;rw [NX];simp only [aI,aL,aP,a,f]
theorem R9{e:Bool}{l:List Int}(hl:l.length<=1000):∀(r:List Int) (i:Nat),l.drop i=r->
  ∃z:Int,Or fK [aa e l,AV.fn 56 [] [],I (l.length:Int),I (i:Int)] []=some [ti z]/\decide (z>=0)=r.any λn=> !eL n:=by
 intro r;induction r with
 | nil=>
  intro i g;have a:¬(i:Int) < (l.length:Int):=by have:=bu g;omega
  refine⟨-1,ai ?_,by simp⟩;rw [BO];simp only [ao,↓reduceIte,a]
 | cons d r h=>
  intro i g;obtain⟨g1,o,f⟩:=bt g;have a:(i:Int) < (l.length:Int):=by omega
  have h0: 0<=(i:Int):=by omega
  have c:=xh d;have k:Or (.call 56) [I d] []=some [tb (!eL d)]:=by refine ai ?_;rw [N7];simp only [aI,aL,bA,c]
  cases b: !eL d with
  | true=>rw [b] at k;refine⟨(i:Int),ai ?_,by simp only [X9,b,YE];simp⟩;rw [BO];simp only [aI,aL,bA,aP,a,h0,and_self,aE,bR g1,k,aS,eC,↓reduceIte]
  | false=>rw [b] at k;obtain⟨z,j,m⟩:=h (i+1) f;refine⟨z,ai ?_,by rw [m];simp only [X9,b,XG]⟩;rw [BO];simp only [aI,aL,bA,aP,a,h0,and_self,aE,bR g1,k,aV,eC,↓reduceIte,next i (by omega)];exact j
theorem TW{e:En}(hl:e.ar.length<=1000):Or (.call 55) [EG e] []=some [tb (e.ar.any λn=> !eL n)]:=by
 obtain⟨z,c,d⟩:=R9 (e:=e.ea) hl e.ar 0 rfl;have b:Or (.call 74) [aa e.ea e.ar,AV.fn 56 [] []] []=some [ti z]:=by refine ai ?_;rw [Pk];simp only [aE];exact c
 have a:Or (.call 31) [aa e.ea e.ar,AV.fn 56 [] []] []=some [tb (e.ar.any λn=> !eL n)]:=by refine ai ?_;rw [N6];simp only [aI,aL,aP,b,d]
 refine ai ?_;rw [NZ];simp only [aI,aL,bA,a]
theorem TV(e:En)(d:Dc):Or (.call 54) [EG e,DP d] []=some [tb (!((e.ar.length:Int)== (d.ar.length:Int)))]:=by refine ai ?_;rw [NY];simp only [aE]
theorem TZ{e y:En}(hl:e.ar.length<=1000):Or (.call 58) [EG e,AV.t (T.ptr [T.aa 1 y.ea (enc y.ar),ti y.to.n,ti y.to.d,T.aa 2 y.to.ec (bW y.to.cs),ti y.to.r])] []=some [tb (decide (e.ar=y.ar))]:=by have k:=z6 (e:=e.ea) (e':=y.ea) (b:=y.ar) hl;refine ai ?_;rw [N9];simp only [aI,aL,bA,k]
theorem Kx{e y:En}(hl:e.ar.length<=1000):Or (.call 64) [EG e,AV.t (T.ptr [T.aa 1 y.ea (enc y.ar),ti y.to.n,ti y.to.d,T.aa 2 y.to.ec (bW y.to.cs),ti y.to.r])] []=some [tb (decide (e.ar=y.ar))]:=by have k:=z6 (e:=e.ea) (e':=y.ea) (b:=y.ar) hl;refine ai ?_;rw [OI];simp only [aI,aL,bA,k]
theorem T0{e:En}{d:Dc}(hl:e.to.cs.length<=ML):Or (.call 61) [EG e,DP d] []=some [tb (!dO d.so e.to)]:=by have k:=Ks d.so hl;refine ai ?_;rw [Ob];simp only [aI,aL,bA,k]
def kC:List En->List En->Bool
 | _,[]=>false
 | a,e::r=>(a.any λx=>decide (x.ar=e.ar)) || kC (a++ [e]) r
def ft(d:Dc)(m:Me):Int:=
 if 1000 < m.rs.length then 9
 else if(m.rs.any λe=> !((e.ar.length:Int)== (d.ar.length:Int)))=true then 9
 else if(m.rs.any λe=>e.ar.any λn=> !eL n)=true then 3
 else if kC [] m.rs=true then 7
 else if dO d.so m.re=false then 8
 else if(m.rs.any λe=> !dO d.so e.to)=true then 8
 else 0
structure gw (m:Me):Prop where
 re:m.re.cs.length<=ML
 rs:∀e∈m.rs,e.to.cs.length<=ML
 rcc:m.re.ec=true->m.re.cs= []
 zT:∀e∈m.rs,e.to.ec=true->e.to.cs= []
 ea:∀e∈m.rs,e.ea=true->e.ar= []
abbrev Nh(d:Dc):ad:=ad.box [AV.t (T.str d.nm),AV.t (T.aa 1 d.ea (enc d.ar)),I d.so]
abbrev IJ(m:Me):ad:=ad.box [AV.t (T.aa 5 m.er (aO m.rs)),I m.re.n,I m.re.d,AV.t (T.aa 2 m.re.ec (bW m.re.cs)),I m.re.r]
theorem Rc{d:Dc}{m:Me}(wf:gw m)(hl:m.rs.length<=1000)(p:∀e∈m.rs,e.ar.length<=1000):∀(r:List En) (i:Nat) (a:List En),m.rs.drop i=r->a=m.rs.take i->i<=m.rs.length->
  Or xD [r0,r1,AV.t (T.aa 5 m.er (aO m.rs)),I (m.rs.length:Int),I (i:Int)] [Nh d,IJ m]=some [ti (if kC a r=true then 7 else if dO d.so m.re=false then 8 else if(m.rs.any λe=> !dO d.so e.to)=true then 8 else 0)]:=by
 intro r;induction r with
 | nil=>
  intro i a g c q;have h:¬(i:Int) < (m.rs.length:Int):=by have:=bu g;omega
  have n:=Ks d.so wf.re;have b:=TT (er:=m.er) (d:=d) (by omega) (λe j=>T0 (wf.rs e j));refine ai ?_;rw [Bo];simp only [kC,h,decide_false,aV,n,aI,aL,bA,XD,↓reduceIte];cases l:dO d.so m.re with
  | false=>simp only [ao,↓reduceIte,bI]
  | true=>simp only [Xc,Xe,fy,b,aI,aL,bA,aV,Bool.true_eq_false,↓reduceIte];cases(m.rs.any λe=> !dO d.so e.to) <;> rfl
 | cons x r u=>
  intro i a g c q;obtain⟨g1,w,o⟩:=bt g;have hm:=Xg g1;have h:(i:Int) < (m.rs.length:Int):=by omega
  have h0: 0<=(i:Int):=by omega
  have k:gH 0 (i:Int) (m.rs.length:Int)=some ():=by unfold gH;rw [if_pos ⟨by omega,by omega,by omega⟩]
  have f:sub 0 (i:Int) (aO m.rs)=aO a:=by rw [KZ,c];simp [aO,List.map_take]
  have v:a.length<=1000:=by rw [c,XW];omega
  have b:=TR (er:=m.er) (rs:=a) (y:=x) (by omega) (λe j=>TZ (by rw [c] at j;exact p e (YX j)));have s:=u (i+1) (a++ [x]) o (by rw [c,YP,g1];rfl) (by omega);rw [kC];cases l:a.any λe=>decide (e.ar=x.ar) with
  | true=>rw [l] at b;refine ai ?_;rw [Bo];simp only [aI,aL,aU,bA,aP,bO,h,h0,and_self,dA,iv g1,cY,k,f,b,aS,eC,↓reduceIte,YE]
  | false=>rw [l] at b;refine ai ?_;rw [Bo];simp only [aI,aL,aU,bA,aP,bO,h,h0,and_self,dA,iv g1,cY,k,f,b,aV,eC,↓reduceIte,XG,next i (by omega)];exact s
theorem Tw{d:Dc}{m:Me}(wf:gw m)(i:d.ar.length<=1000):Or (.call 26) [DG d,MG m] []=some [ti (ft d m)]:=by
 unfold ft;refine ai ?_;rw [NH];simp only [dA];by_cases c: 1000 < m.rs.length
 .have a:(m.rs.length:Int) > 1000:=by omega
  rw [if_pos c];simp only [a,decide_true,Xc,fL,aI,bI,aS]
 have a:¬(m.rs.length:Int) > 1000:=by omega
 rw [if_neg c];have k1:=TS (er:=m.er) (rs:=m.rs) (d:=d) (by omega) (λe _=>TV e d);simp only [a,decide_false,Xe,fy,aI,aL,bA,aV,k1];cases g:m.rs.any λe=> !((e.ar.length:Int)== (d.ar.length:Int)) with
 | true=>simp only [aS,↓reduceIte]
 | false=>
 have f:∀e∈m.rs,e.ar.length<=1000:=λe b=>by have:=XJ.1 g e b;simp only [YK,Y8,beq_iff_eq] at this;omega
 have k2:=TU (er:=m.er) (rs:=m.rs) (by omega) (λe b=>TW (f e b));simp only [aV,aI,aL,bA,k2,XD,↓reduceIte];cases h:m.rs.any λe=>e.ar.any λn=> !eL n with
 | true=>simp only [aS,↓reduceIte]
 | false=>
 simp only [aV,XD,↓reduceIte];exact Rc wf (by omega) f m.rs 0 [] rfl rfl (XZ _)
def nF:Nat->List Dc->List Me->Int×Int
 | i,d::ds,m::ms=>if ft d m=0 then nF (i+1) ds ms else(ft d m,(i:Int))
 | _,_,_=>(0,0)
theorem n8{ed ew:Bool}{ds:List Dc}{ms:List Me}(v:ds.length<=1000)(o:ms.length=ds.length)(wf:∀m∈ms,gw m)(n:∀d∈ds,d.ar.length<=1000):∀(r:List Dc) (a:List Me) (i:Nat),ds.drop i=r->ms.drop i=a->
  Or xN [r0,r1,AV.t (T.aa 3 ed (aT ds)),I (ds.length:Int),I (i:Int)] [ad.box [AV.t (T.aa 5 ew (eU ms))],ad.box [I 0,I 0]]=some [ti (nF i r a).1,ti (nF i r a).2]:=by
 intro r;induction r with
 | nil=>
  intro a i g e;have b:¬(i:Int) < (ds.length:Int):=by have:=bu g;omega
  refine ai ?_;rw [GS];simp only [ao,↓reduceIte,b,nF]
 | cons d r q=>
  intro a i g e;obtain⟨g1,u,j⟩:=bt g;cases a with
  | nil=>have:=bu e;omega
  | cons m a=>
  obtain⟨f,w,s⟩:=bt e;have b:(i:Int) < (ds.length:Int):=by omega
  have h:(i:Int) < (ms.length:Int):=by omega
  have h0: 0<=(i:Int):=by omega
  have k:=Tw (d:=d) (wf m (Xg f)) (n d (Xg g1));have p:=q a (i+1) j s;rw [nF];refine ai ?_;rw [GS];by_cases c:ft d m=0
  .rw [c] at k;rw [if_pos c];simp only [ao,↓reduceIte,b,h,h0,and_self,cR,iY,fh g1,vS f,oT,cY,k,next i (by omega)];exact p
  .have l:(ft d m==0)=false:=by simpa using c
   rw [if_neg c];simp only [aI,aL,aU,aP,fW,bO,aS,eC,↓reduceIte,b,h,h0,and_self,cR,iY,fh g1,vS f,oT,cY,k,l,Xe]
def kI(a:As)(ms:List Me):Int×Int:=
 if(bm a).2.1≠0 then(bm a).2
 else if ms.length≠a.ds.length then(9,0)
 else nF 0 a.ds ms
theorem s8{a:As}{ew:Bool}{ms:List Me}(j:∀d∈a.ds,d.nm.size<=9223372036854775807)(wf:∀m∈ms,gw m):Or (.call 9) [AG a,WG ew ms] []=some [ti (kI a ms).1,ti (kI a ms).2]:=by
 obtain⟨x,g,k⟩:=Dr (a:=a) j;have c:Or (.call 25) [AG a] []=some [ti (bm a).2.1,ti (bm a).2.2]:=by refine ai ?_;rw [NF];simp only [aI,aL,aU,aP,k,g]
 unfold kI;refine ai ?_;rw [e8];by_cases h:(bm a).2.1=0
 .obtain⟨ok,f⟩:=nH (es:=(bm a).1.isEmpty) h;have l:a.ds.length<=30:=ok.dl;have b:((bm a).2.1==0)=true:=by simpa using h
  rw [if_neg (by simpa using h)];simp only [aI,aL,aU,aP,c,b,Xc,aV,cR,iY];by_cases hl:ms.length=a.ds.length
  .have e:((ms.length:Int)== (a.ds.length:Int))=true:=by rw [beq_iff_eq];omega
   rw [if_neg (by simpa using hl)];simp only [e,Xc,aV];exact n8 (by omega) hl wf (λd i=>by have:=f d i;omega) a.ds ms 0 rfl rfl
  .have e:((ms.length:Int)== (a.ds.length:Int))=false:=by rw [beq_eq_false_iff_ne];omega
   rw [if_pos hl];simp only [e,Xe,aS]
 .have b:((bm a).2.1==0)=false:=by simpa using h
  rw [if_pos h];simp only [aI,aL,aU,aP,c,b,Xe,aS]
theorem Fe:∀{ds:List Dc} {ms:List Me} {i:Nat},ms.length=ds.length->(nF i ds ms).1=0->∀(j:Nat) (d:Dc) (m:Me),ds[j]? =some d->ms[j]? =some m->ft d m=0
 | [],ms,i,hl,h,j,d,m,a,hm=>by simp at a
 | d0::ds,[],i,hl,h,j,d,m,a,hm=>by simp at hm
 | d0::ds,c::ms,i,hl,h,j,d,m,a,hm=>by
  rw [nF] at h;by_cases b:ft d0 c=0
  .rw [if_pos b] at h;cases j with
   | zero=>simp at a hm;subst a;subst hm;exact b
   | succ j=>exact Fe (by simpa using hl) h j d m (by simpa using a) (by simpa using hm)
  .rw [if_neg b] at h;exact absurd h b
theorem zp{a:As}{ms:List Me}(h:(kI a ms).1=0):(bm a).2.1=0/\ms.length=a.ds.length/\∀(j:Nat) (d:Dc) (m:Me),a.ds[j]? =some d->ms[j]? =some m->ft d m=0:=by
 unfold kI at h;by_cases b:(bm a).2.1≠0
 .rw [if_pos b] at h;exact absurd h b
 rw [if_neg b] at h;by_cases c:ms.length≠a.ds.length
 .rw [if_pos c] at h;exact absurd (show(9:Int)=0 from h) (by decide)
 rw [if_neg c] at h;exact⟨by simpa using b,by simpa using c,Fe (by simpa using c) h⟩
open Go Go.Aev Go.IntKind
def yK(v u:Va):Prop:=v.n=u.n/\v.d=u.d/\v.cs=u.cs/\v.r=u.r
def vU:List En->List En->Prop
 | [],[]=>True
 | e::r,x::t=>(e.ar=x.ar/\yK e.to x.to)/\vU r t
 | _,_=>False
def oI:List Me->List Me->Prop
 | [],[]=>True
 | m::r,x::t=>(vU m.rs x.rs/\yK m.re x.re)/\oI r t
 | _,_=>False
theorem yK.rfl{v:Va}:yK v v:=⟨.refl _, .refl _, .refl _, .refl _⟩
theorem vU.rfl:∀{l:List En},vU l l
 | []=>trivial
 | _::_=>⟨⟨.refl _, .rfl⟩,vU.rfl⟩
theorem oI.rfl:∀{l:List Me},oI l l
 | []=>trivial
 | _::_=>⟨⟨.rfl, .rfl⟩,oI.rfl⟩
theorem oI.app:∀{a b c d:List Me},oI a b->oI c d->oI (a++c) (b++d)
 | [],[],_,_,_,h=>h
 | _::_,_::_,_,_,h,e=>⟨h.1,oI.app h.2 e⟩
 | [],_::_,_,_,h,_=>h.elim
 | _::_,[],_,_,h,_=>h.elim
abbrev og(e:Bool)(l:List Me):ad:=ad.box [AV.t (T.aa 5 e (eU l))]
structure W4 (m:Me):Prop where
 rl:m.rs.length<=1000
 re:m.re.cs.length<=ML
 rs:∀e∈m.rs,e.to.cs.length<=ML/\e.ar.length<=1000
theorem U3{n:Nat}(h:n<=ML):bH 16 (0+n)=some ():=by unfold bH;rw [if_pos (.inr ⟨by omega,by unfold ML at h;omega⟩)]
theorem zZ{e:Bool}{l:List (Int×Int)}(a:e=true->l= [])(hl:l.length<=ML):∃x,Or (.call 52) [AV.t (T.aa 2 e (bW l))] []=some [x]/\x.aQ 2=some (e,bW l):=by
 cases e with
 | true=>refine⟨T.aC true,ai ?_,by rw [a rfl];rfl⟩;rw [Gk];rfl
 | false=>refine⟨T.aa 2 false (bW l),ai ?_,rfl⟩;rw [Gk];simp only [iX,U3 hl,aI,aV]
theorem G0(l:List En)(e:En):aO l++ [[T.aa 1 e.ea (enc e.ar),ti e.to.n,ti e.to.d,cT e.to,ti e.to.r]]=aO (l++ [e]):=by simp [aO]
def nV(v:Va):Va:=⟨false,v.n,v.d,v.ec,v.cs,v.r⟩
def nE(e:En):En:=⟨e.ea,e.ar,nV e.to⟩
theorem PG(l:List En)(e:En):aO l++ [[T.aa 1 e.ea (enc e.ar),ti e.to.n,ti e.to.d,T.aa 2 e.to.ec (bW e.to.cs),ti e.to.r]]=aO (l++ [nE e]):=by rw [<-G0];rfl
structure oz (m:Me):Prop where
 rl:m.rs.length<=1000
 al:∀e∈m.rs,e.ar.length<=1000
theorem Rb{m:Me}{e3:Bool}{re:Va}{k:ad}(wf:gw m)(ok:oz m)(f:k=ad.box [AV.t (T.aC true),I 0,I 0,AV.t (T.aC true),I 0]):∀(r:List En) (i:Nat) (acc:List En),m.rs.drop i=r->i<=m.rs.length->acc.length=i->acc++r.map nE=m.rs.map nE->
  Or s4 [r0,r1,AV.t (T.aa 5 m.er (aO m.rs)),I (m.rs.length:Int),I (i:Int)] [k,ad.box [o2,I re.n,I re.d,AV.t (T.aa 2 re.ec (bW re.cs)),I re.r],ad.sl false 5 false (aO acc)]=some [T.aa 5 false (aO (m.rs.map nE)),ti re.n,ti re.d,T.aa 2 re.ec (bW re.cs),ti re.r]:=by
 intro r;subst f;induction r with
 | nil=>
  intro i acc g o a b;have c:¬(i:Int) < (m.rs.length:Int):=by have:=bu g;omega
  rw [XY,XA] at b;refine ai ?_;rw [FM];simp only [ao,↓reduceIte,c,b]
 | cons x r s=>
  intro i acc g o a b;obtain⟨g1,u,l⟩:=bt g;have hm:=Xg g1;have c:(i:Int) < (m.rs.length:Int):=by omega
  have h0: 0<=(i:Int):=by omega
  have:=ok.rl;obtain⟨y,h,p⟩:=na x.ea x.ar (wf.ea x hm) (by have:=ok.al x hm;omega);obtain⟨v,j,e⟩:=zZ (wf.zT x hm) (wf.rs x hm);have q:=s (i+1) (acc++ [nE x]) l (by omega) (by simp [a]) (by rw [<-b];simp);refine ai ?_;rw [FM];simp only [ao,↓reduceIte,c,h0,and_self,dA,iv g1,cY,h,p,j,e,dc (show acc.length+1<=1000000 by omega),next i (by omega),PG];exact q
theorem Tv{m:Me}(wf:gw m)(ok:oz m):∃x y,Or (.call 21) [MG m] []=some [x,ti m.re.n,ti m.re.d,y,ti m.re.r]/\x.aQ 5=some (m.rs.isEmpty,aO (m.rs.map nE))/\y.aQ 2=some (m.re.ec,bW m.re.cs):=by
 obtain⟨l,c,b⟩:=zZ wf.rcc wf.re;cases a:m.rs with
 | nil=>refine⟨T.aC true,T.aa 2 m.re.ec (bW m.re.cs),ai ?_,rfl,by rw [bO]⟩;rw [FK];simp only [aI,aL,c,b,dA];refine ai ?_;rw [FL];simp only [ao,a,Xu,XN,XS,decide_false]
 | cons x r=>
  have hm:x∈m.rs:=by rw [a];exact W7
  have j:(0:Int) < (((x::r).length:Nat):Int):=by simp
  have h0:(0:Int)<=0:=by omega
  have g1:(aO (x::r))[(0:Int).toNat]? =some [T.aa 1 x.ea (enc x.ar),ti x.to.n,ti x.to.d,cT x.to,ti x.to.r]:=rfl;have k:i64.wrap (0+1)= ((1:Nat):Int):=by decide
  obtain⟨o,i,f⟩:=na x.ea x.ar (wf.ea x hm) (by have:=ok.al x hm;omega);obtain⟨p,e,g⟩:=zZ (wf.zT x hm) (wf.rs x hm);have h:=Rb (re:=m.re) (e3:=true) wf ok rfl r 1 [nE x] (by rw [a];rfl) (by rw [a];simp) rfl (by rw [a];rfl);rw [a] at h;refine⟨T.aa 5 false (aO ((x::r).map nE)),T.aa 2 m.re.ec (bW m.re.cs),ai ?_,rfl,by rw [bO]⟩;rw [FK];simp only [aI,aL,c,b,dA];refine ai ?_;rw [FL];simp only [ao,↓reduceIte,a,j,h0,and_self,dA,g1,cY,i,f,e,g,k];exact h
def MI(n:Int)(b:Nat):Int:=i64.wrap ((BitVec.ofInt 64 (n.fdiv (2 ^ min b 64)) &&& BitVec.ofInt 64 1).toNat:Int)
def EW(v:Va)(b:Nat):Va:=⟨false,MI v.n b,1,true,[],0⟩
def MH(b:Nat)(e:En):En:=⟨e.ea,e.ar,EW e.to b⟩
def EV(m:Me)(b:Nat):Me:=⟨m.rs.isEmpty,m.rs.isEmpty,m.rs.map (MH b),EW m.re b⟩
def AT(m:Me):Nat->Nat->List Me
 | _,0=> []
 | b,k+1=>EV m b::AT m (b+1) k
theorem PH(l:List Me)(m:Me):eU l++ [[mT m,ti m.re.n,ti m.re.d,cT m.re,ti m.re.r]]=eU (l++ [m]):=by simp [eU]
abbrev fz:ad:=ad.box [I 0,I 0]
abbrev ez:ad:=ad.box [AV.t (T.aC true)]
abbrev rf(k:Nat):AV:=AV.ref (Id.c k) 0
abbrev ow(k:Nat):AV:=AV.own (Id.c k)
def de(s:Int):Nat:=(s - 10).toNat
def jK(m:Me):Me:=⟨false,m.rs.isEmpty,m.rs.map nE,nV m.re⟩
theorem wk{s:Int}:aG s=true↔10 < s/\s<=18:=by simp [aG]
structure W3 (ds:List Dc) (ms:List Me):Prop where
 dl:ds.length<=100
 ml:ms.length=ds.length
 wf:∀m∈ms,gw m
 ok:∀m∈ms,oz m
open Go Go.Aev Go.IntKind
structure LY (a:As) (ms:List Me):Prop where
 aw:pJ a
 nm:∀d∈a.ds,d.nm.size<=9223372036854775807
 wf:∀m∈ms,gw m
theorem CL{d:Dc}{m:Me}(h:ft d m=0):m.rs.length<=1000/\(∀e∈m.rs,e.ar.length=d.ar.length)/\dO d.so m.re=true/\∀e∈m.rs,dO d.so e.to=true:=by
 unfold ft at h;by_cases g: 1000 < m.rs.length
 .rw [if_pos g] at h;exact absurd h (by decide)
 rw [if_neg g] at h;by_cases a:(m.rs.any λe=> !((e.ar.length:Int)== (d.ar.length:Int)))=true
 .rw [if_pos a] at h;exact absurd h (by decide)
 rw [if_neg a] at h;by_cases i:(m.rs.any λe=>e.ar.any λn=> !eL n)=true
 .rw [if_pos i] at h;exact absurd h (by decide)
 rw [if_neg i] at h;by_cases j:kC [] m.rs=true
 .rw [if_pos j] at h;exact absurd h (by decide)
 rw [if_neg j] at h;by_cases b:dO d.so m.re=false
 .rw [if_pos b] at h;exact absurd h (by decide)
 rw [if_neg b] at h;by_cases c:(m.rs.any λe=> !dO d.so e.to)=true
 .rw [if_pos c] at h;exact absurd h (by decide)
 rw [YK] at a c;refine⟨by omega,λe f=> ?_,by simpa using b,λe f=> ?_⟩
 .have:=XJ.1 a e f;simp only [YK,Y8,beq_iff_eq] at this;omega
 .have:=XJ.1 c e f;simpa using this
open Go Go.Aev Go.Proofs Go.IntKind
set_option maxRecDepth 1000000
theorem u3:aj.underlying 3=some (.int .i64):=Tryz.underlying3
theorem u9:aj.underlying 9=some .string:=Tryz.underlying9
theorem VB:aj.underlying 24=some (.slice 3):=Tryz.underlying24
theorem Vz:aj.underlying 22=some (.slice 42):=Tryz.underlying22
theorem VA:aj.underlying 23=some (.slice 44):=Tryz.underlying23
theorem VD:aj.underlying 27=some (.slice 52):=Tryz.underlying27
theorem VE:aj.underlying 47=some (.slice 103):=Tryz.underlying47
theorem VF:aj.underlying 50=some (.slice 75):=Tryz.underlying50
theorem c3:aj.cellsOf 3=1:=by kernel_rfl
theorem MV:aj.cellsOf 42=3:=by kernel_rfl
theorem MU:aj.cellsOf 44=5:=by kernel_rfl
theorem MW:aj.cellsOf 52=5:=by kernel_rfl
theorem MY:aj.cellsOf 103=2:=by kernel_rfl
theorem MX:aj.cellsOf 75=5:=by kernel_rfl
theorem Mx:aj.bytesOf 103=16:=by kernel_rfl
theorem nQ{n:Nat}{ts:List T}(h:Wt aj (n+1) 3 ts):∃m:Int,ts= [ti m]:=by obtain⟨m,a,_⟩:=@WS aj n 3 ts .i64 u3 h;exact⟨m,a⟩
theorem y6{n:Nat}{ts:List T}(h:Wt aj (n+2) 24 ts):∃e l,ts= [T.aa 1 e (enc l)]/\(e=true->l= []):=by obtain⟨b,l,a,c,_⟩:=@uX aj (n+1) 24 ts Int (λx:Int=> [ti x]) 3 VB h (λcs d=>nQ d);rw [c3] at a;exact⟨b,l,a,c⟩
theorem M8{n:Nat}{ts:List T}(h:Wt aj (n+2) 103 ts):∃p:Int×Int,ts= [ti p.1,ti p.2]:=by obtain⟨a,b,rfl,e,c,d,rfl,f,rfl⟩:=@pG aj (n+1) 103 ts _ Tryz.underlying103 h;obtain⟨x,rfl⟩:=nQ e;obtain⟨y,rfl⟩:=nQ f;exact⟨(x,y),rfl⟩
theorem Na{n:Nat}{ts:List T}(h:Wt aj (n+3) 47 ts):∃e l,ts= [T.aa 2 e (bW l)]/\(e=true->l= [])/\l.length<=ML:=by obtain⟨b,l,a,d,_,c⟩:=@uX aj (n+2) 47 ts (Int×Int) (λp:Int×Int=> [ti p.1,ti p.2]) 103 VE h (λcs f=>M8 f);rw [MY] at a;rw [Mx] at c;refine⟨b,l,a,d, ?_⟩;unfold reachBytes at c;unfold ML;omega
structure xU (v:Va):Prop where
 em:v.em=false
 cl:v.cs.length<=ML
 ce:v.ec=true->v.cs= []
theorem Lt{n:Nat}{ts:List T}(h:Wt aj (n+4) 49 ts):∃v:Va,ts= [ti v.n,ti v.d,T.aa 2 v.ec (bW v.cs),ti v.r]/\xU v:=by obtain⟨a,b,rfl,g,c,d,rfl,i,p,q,rfl,j,rfl⟩:=@pG aj (n+3) 49 ts _ Tryz.underlying49 h;obtain⟨o,s,rfl,k,t,u,rfl,m,rfl⟩:=@pG aj (n+2) 46 a _ Tryz.underlying46 g;obtain⟨x,rfl⟩:=nQ k;obtain⟨y,rfl⟩:=nQ m;obtain⟨e,l,rfl,g1,f⟩:=Na i;obtain⟨z,rfl⟩:=nQ j;exact⟨⟨false,x,y,e,l,z⟩,rfl,rfl,f,g1⟩
def gE(e:En):List T:= [T.aa 1 e.ea (enc e.ar),ti e.to.n,ti e.to.d,cT e.to,ti e.to.r]
theorem PK{n:Nat}{ts:List T}(h:Wt aj (n+5) 75 ts):∃e:{e:En // (e.ea=true->e.ar= [])/\xU e.to},ts=gE e.1:=by
 obtain⟨a,b,rfl,f,c,d,rfl,g,rfl⟩:=@pG aj (n+4) 75 ts _ Tryz.underlying75 h;obtain⟨e,l,rfl,g1⟩:=y6 (n:=n+2) f;obtain⟨v,rfl,wv⟩:=Lt g;refine⟨⟨⟨e,l,v⟩,g1,wv⟩, ?_⟩;have i:cT v=T.aa 2 v.ec (bW v.cs):=by unfold cT;rw [wv.em];rfl
 show _= [T.aa 1 e (enc l),ti v.n,ti v.d,cT v,ti v.r];rw [i];rfl
theorem zl{b c:Type}{p:b->Prop}(g:b->c)(l:List {a:b // p a}):l.map (λa=>g a.1)= (l.map Subtype.val).map g:=by simp
theorem PJ{n:Nat}{ts:List T}(h:Wt aj (n+6) 50 ts):∃e l,ts= [T.aa 5 e (aO l)]/\∀x∈l,(x.ea=true->x.ar= [])/\xU x.to:=by obtain⟨b,l,a,_⟩:=@uX aj (n+5) 50 ts {e:En // (e.ea=true->e.ar= [])/\xU e.to} (λe=>gE e.1) 75 VF h (λcs c=>PK c);rw [MX,zl] at a;refine⟨b,l.map Subtype.val,a,λx d=> ?_⟩;obtain⟨y,_,rfl⟩:=XB.1 d;exact y.2
def gM(m:Me):List T:= [mT m,ti m.re.n,ti m.re.d,cT m.re,ti m.re.r]
theorem QY{n:Nat}{ts:List T}(h:Wt aj (n+7) 52 ts):∃m:{m:Me // gw m},ts=gM m.1:=by
 obtain⟨a,b,rfl,g,c,d,rfl,i,rfl⟩:=@pG aj (n+6) 52 ts _ Tryz.underlying52 h;obtain⟨e,l,rfl,g1⟩:=PJ g;obtain⟨v,rfl,wv⟩:=Lt (n:=n+2) i;refine⟨⟨⟨false,e,l,v⟩,⟨wv.cl,λx f=>(g1 x f).2.cl,wv.ce,λx f=>(g1 x f).2.ce,λx f=>(g1 x f).1⟩⟩, ?_⟩;have j:cT v=T.aa 2 v.ec (bW v.cs):=by unfold cT;rw [wv.em];rfl
 show _= [T.aa 5 e (aO l),ti v.n,ti v.d,cT v,ti v.r];rw [j];rfl
theorem WO{n:Nat}{a:AV}(h:(ca aj 29=true/\∃l,Wt aj (n+9) 29 l/\a= .agg (l.map .t))\/(ca aj 29=false/\∃x,Wt aj (n+9) 29 [x]/\a= .t x)):∃e ms,a=WG e ms/\∀m∈ms,gw m:=by obtain⟨l,d,rfl⟩:=EL h (by kernel_rfl);obtain⟨a,b,rfl,f,rfl⟩:=@pG aj (n+8) 29 l _ Tryz.underlying29 d;obtain⟨e,l,c,_⟩:=@uX aj (n+7) 27 a {m:Me // gw m} (λm=>gM m.1) 52 VD f (λcs g=>QY g);rw [MW,zl] at c;subst c;refine⟨e,l.map Subtype.val,rfl,λm hm=> ?_⟩;obtain⟨y,_,rfl⟩:=XB.1 hm;exact y.2
def gD(d:Dc):List T:= [T.str d.nm,T.aa 1 d.ea (enc d.ar),ti d.so]
theorem Nk{n:Nat}{ts:List T}(h:Wt aj (n+3) 42 ts):∃d:{d:Dc // (d.ea=true->d.ar= [])/\d.nm.size<=9223372036854775807},ts=gD d.1:=by obtain⟨a,b,rfl,f,c,d,rfl,g,p,q,rfl,i,rfl⟩:=@pG aj (n+2) 42 ts _ Tryz.underlying42 h;obtain⟨s,rfl,hs⟩:=@LM aj (n+1) 9 a u9 f;obtain⟨e,l,rfl,g1⟩:=y6 g;obtain⟨z,rfl⟩:=nQ i;exact⟨⟨⟨s,e,l,z⟩,g1,by unfold maxLen at hs;exact hs⟩,rfl⟩
def gN(x:Nd):List T:= [ti x.op,T.aa 1 x.ek (enc x.ks),ti x.n,ti x.d,T.str x.nm]
theorem Sy{n:Nat}{ts:List T}(h:Wt aj (n+3) 44 ts):∃x:{x:Nd // x.ek=true->x.ks= []},ts=gN x.1:=by obtain⟨a,b,rfl,f,c,d,rfl,g,p,q,rfl,i,o,r,rfl,j,m,t,rfl,k,rfl⟩:=@pG aj (n+2) 44 ts _ Tryz.underlying44 h;obtain⟨x,rfl⟩:=nQ f;obtain⟨e,l,rfl,g1⟩:=y6 g;obtain⟨y,rfl⟩:=nQ i;obtain⟨z,rfl⟩:=nQ j;obtain⟨s,rfl,hs⟩:=@LM aj (n+1) 9 m u9 k;exact⟨⟨⟨x,e,l,y,z,s⟩,g1⟩,rfl⟩
theorem Mw{n:Nat}{a:AV}(h:(ca aj 26=true/\∃l,Wt aj (n+5) 26 l/\a= .agg (l.map .t))\/(ca aj 26=false/\∃x,Wt aj (n+5) 26 [x]/\a= .t x)):∃x:As,a=AG x/\pJ x/\∀d∈x.ds,d.nm.size<=9223372036854775807:=by
 obtain⟨l,r,rfl⟩:=EL h (by kernel_rfl);obtain⟨a,b,rfl,s,c,d,rfl,u,p,q,rfl,v,rfl⟩:=@pG aj (n+4) 26 l _ Tryz.underlying26 r;obtain⟨k,g,g1,_⟩:=@uX aj (n+3) 22 a {d:Dc // (d.ea=true->d.ar= [])/\d.nm.size<=9223372036854775807} (λd=>gD d.1) 42 Vz s (λcs e=>Nk e);obtain⟨m,j,i,_⟩:=@uX aj (n+3) 23 c {x:Nd // x.ek=true->x.ks= []} (λx=>gN x.1) 44 VA u (λcs e=>Sy e);obtain⟨e3,z,rfl,o⟩:=y6 (n:=n+2) v;rw [MV,zl] at g1;rw [MU,zl] at i;subst g1 i;refine⟨⟨k,g.map Subtype.val,m,j.map Subtype.val,e3,z⟩,rfl,⟨λd f=> ?_,λx w=> ?_,o⟩,λd f=> ?_⟩
 .obtain⟨y,_,rfl⟩:=XB.1 (show d∈g.map Subtype.val from f);exact y.2.1
 .obtain⟨y,_,rfl⟩:=XB.1 (show x∈j.map Subtype.val from w);exact y.2
 .obtain⟨y,_,rfl⟩:=XB.1 (show d∈g.map Subtype.val from f);exact y.2.2
end Go.Aev.Gen
