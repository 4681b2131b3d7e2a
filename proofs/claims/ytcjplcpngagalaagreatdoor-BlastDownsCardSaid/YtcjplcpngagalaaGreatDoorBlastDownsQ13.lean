import Derived.Test.YtcjplcpngagalaaGreatDoorBlastDownsQ8
import Derived.Test.YtcjplcpngagalaaGreatDoorBlastDownsQ12
set_option linter.all false
namespace Go.Aev.Gen
open Go Go.Aev Go.IntKind
abbrev ML:Nat:=8796093022208
structure Va where
 em:Bool
 n:Int
 d:Int
 ec:Bool
 cs:List (Int×Int)
 r:Int
structure En where
 ea:Bool
 ar:List Int
 to:Va
structure Me where
 em:Bool
 er:Bool
 rs:List En
 re:Va
def bB(l:List (Int×Int)):List (List T):=l.map λp=> [ti p.1,ti p.2]
def cT(v:Va):T:=bif v.em && v.cs.isEmpty then T.af v.ec else T.ab 2 v.ec (bB v.cs)
theorem cU(v:Va):(cT v).an 2=some (v.ec,bB v.cs):=by
 unfold cT;cases a:v.em && v.cs.isEmpty with
 | true=>rw [MB,Od] at a;rw [a.2];simp only [aZ,bY];rfl
 | false=>simp only [bo,bU]
def aG(l:List En):List (List T):=l.map λe=> [T.ab 1 e.ea (enc e.ar),ti e.to.n,ti e.to.d,cT e.to,ti e.to.r]
def mT(m:Me):T:=bif m.em && m.rs.isEmpty then T.af m.er else T.ab 5 m.er (aG m.rs)
theorem jB(m:Me):(mT m).an 5=some (m.er,aG m.rs):=by
 unfold mT;cases a:m.em && m.rs.isEmpty with
 | true=>rw [MB,Od] at a;rw [a.2];simp only [aZ,bY];rfl
 | false=>simp only [bo,bU]
def cu(l:List Me):List (List T):=l.map λm=> [mT m,ti m.re.n,ti m.re.d,cT m.re,ti m.re.r]
abbrev VG(v:Va):AV:=AV.agg [I v.n,I v.d,AV.t (T.ab 2 v.ec (bB v.cs)),I v.r]
abbrev EG(e:En):AV:=AV.agg [AV.t (T.ab 1 e.ea (enc e.ar)),I e.to.n,I e.to.d,AV.t (T.ab 2 e.to.ec (bB e.to.cs)),I e.to.r]
abbrev MG(m:Me):AV:=AV.agg [AV.t (T.ab 5 m.er (aG m.rs)),I m.re.n,I m.re.d,AV.t (T.ab 2 m.re.ec (bB m.re.cs)),I m.re.r]
abbrev WG(e:Bool)(l:List Me):AV:=AV.agg [AV.t (T.ab 5 e (cu l))]
abbrev DG(d:Dc):AV:=AV.agg [AV.t (T.str d.nm),AV.t (T.ab 1 d.ea (enc d.ar)),I d.so]
abbrev DP(d:Dc):AV:=AV.t (T.ptr [T.str d.nm,T.ab 1 d.ea (enc d.ar),ti d.so])
theorem oK(l:List (Int×Int)):(bB l).length=l.length:=by simp [bB]
theorem vU{l:List (Int×Int)}{i:Nat}{p:Int×Int}(h:l[i]? =some p):(bB l)[((i:Nat):Int).toNat]? =some [ti p.1,ti p.2]:=by simp [bB,h]
theorem cF(l:List En):(aG l).length=l.length:=by simp [aG]
theorem fO{l:List En}{i:Nat}{e:En}(h:l[i]? =some e):(aG l)[((i:Nat):Int).toNat]? =some [T.ab 1 e.ea (enc e.ar),ti e.to.n,ti e.to.d,cT e.to,ti e.to.r]:=by simp [aG,h]
theorem eu(l:List Me):(cu l).length=l.length:=by simp [cu]
theorem l8{l:List Me}{i:Nat}{m:Me}(h:l[i]? =some m):(cu l)[((i:Nat):Int).toNat]? =some [mT m,ti m.re.n,ti m.re.d,cT m.re,ti m.re.r]:=by simp [cu,h]
theorem BX(i:Nat)(h:i<=ML):i64.wrap ((i:Int)+1)= ((i+1:Nat):Int):=by rw [wr (by unfold ML at h;omega)];omega
def dW(n:Int):Bool:=decide (n>=0) && decide (n<=1000)
theorem ry(n:Int):Or (.call 50) [I n] []=some [tb (dW n)]:=by refine ah ?_;rw [FN];simp only [se,dW]
theorem Ii:∀(b a:Nat),Or rL [AV.t (.int .u64 (a:Int)),AV.t (.int .u64 (b:Int))] []=some [.int .u64 (Nat.gcd b a:Nat)]:=by
 intro b;induction b using Nat.strongRecOn with
 | _ b f=>
  intro a;refine ah ?_;rw [E5];by_cases h:b=0
  .subst h;simp
  .have d:((b:Int)==0)=false:=by simpa using h
   have e:¬(b:Int)=0:=by omega
   have c:=f (a % b) (Pz _ (by omega)) b;rw [show Nat.gcd (a % b) b=Nat.gcd b a from(Nat.gcd_rec b a).symm] at c;simp only [d,e,MA,aZ,↓reduceIte,aP];rw [show((a:Int).tmod (b:Int))= ((a % b:Nat):Int) from by simp [Int.tmod]];exact c
theorem CW{n:Int}(h: -1073741824<=n/\n<=1073741824):Or (.call 102) [I n] []=some [.int .u64 (n.natAbs:Int)]:=by
 have b:∀v:Int,u64.wrap v=v % 18446744073709551616:=λv=>by simp [IntKind.wrap,IntKind.bits,IntKind.signed]
 refine ah ?_;rw [E6];by_cases h0:n < 0
 .have a:u64.wrap (0 - u64.wrap n)= (n.natAbs:Int):=by
   rw [b,b];omega
  simp only [h0,decide_true,aZ,a]
 .have a:u64.wrap n= (n.natAbs:Int):=by rw [b];omega
  simp only [h0,decide_false,bo,a]
def qu(n d:Int):Bool:= !(((decide (d < 1) || decide (d > 1073741824)) || decide (n < -1073741824)) || decide (n > 1073741824))
def mb(n d:Int):Int:=if qu n d=true/\Nat.gcd d.natAbs n.natAbs=1 then 0 else 3
theorem Ls(n d:Int):Or (.call 88) [AV.agg [I n,I d]] []=some [ti (mb n d),ti 0]:=by
 refine ah ?_;rw [GU];simp only [su];unfold mb;cases a:qu n d with
 | false=>unfold qu at a;rw [Ol] at a;simp only [a,Mz,dY,bm,aP,NX,aZ];rfl
 | true=>
  have c: -1073741824<=n/\n<=1073741824/\1<=d/\d<=1073741824:=by unfold qu at a;simp only [Np,N9,decide_eq_false_iff_not] at a;omega
  unfold qu at a;rw [Np] at a;have f:=CW (n:=n) ⟨c.1,c.2.1⟩;have g:=CW (n:=d) ⟨by omega,c.2.2.2⟩;have h:Or (.call 101) [AV.t (.int .u64 (n.natAbs:Int)),AV.t (.int .u64 (d.natAbs:Int))] []=some [.int .u64 (Nat.gcd d.natAbs n.natAbs:Nat)]:=by refine ah ?_;rw [E4];exact Ii _ _
  simp only [a,MA,dJ,f,g,h,aP,aX,bn,M8];by_cases b:Nat.gcd d.natAbs n.natAbs=1
  .rw [if_pos ⟨trivial,b⟩,b];rfl
  .have e:(((Nat.gcd d.natAbs n.natAbs:Nat):Int)==1)=false:=by
    rw [beq_eq_false_iff_ne];omega
   simp only [e,b,MA,aZ,and_false,↓reduceIte]
def wN:Option Int->Int->Bool
 | none,_=>true
 | some p,x=> !decide (x<=p)
def qc(r:Int):Option Int->List (Int×Int)->Bool
 | _,[]=>true
 | a,c::t=>(dW c.1 && dW c.2 && !(c.2==r) && wN a c.1) && qc r (some c.1) t
def uO(v:Va):Bool:=(v.n==0 && v.d==0) && dW v.r && qc v.r none v.cs
abbrev xV(v:Va):ad:=ad.box [I v.n,I v.d,AV.t (T.ab 2 v.ec (bB v.cs)),I v.r]
theorem Jt{v:Va}(hl:v.cs.length<=ML):∀(t:List (Int×Int)) (i:Nat) (b:Option Int),v.cs.drop i=t->i<=v.cs.length->(i=0/\b=none\/∃j p,i=j+1/\v.cs[j]? =some p/\b=some p.1)->
  Or rW [r0,AV.t (T.ab 2 v.ec (bB v.cs)),I (v.cs.length:Int),I (i:Int)] [xV v]=some [tb (qc v.r b t)]:=by
 intro t;induction t with
 | nil=>
  intro i b g w l;have e:¬(i:Int) < (v.cs.length:Int):=by have:=bh g;omega
  refine ah ?_;rw [Aj];simp only [ai,↓reduceIte,Int.reduceBEq,Int.reduceEq,e,qc]
 | cons c t y=>
  intro i b g w l;obtain⟨k,D,o⟩:=bp g;have e:(i:Int) < (v.cs.length:Int):=by omega
  have h0: 0<=(i:Int):=by omega
  have z:=ry c.1;have a:=ry c.2;have m:=y (i+1) (some c.1) o (by omega) (.inr ⟨i,c,rfl,k,rfl⟩);have n:=BX i (by omega);rw [qc];refine ah ?_;rw [Aj];simp only [su,se,aP,aX,bQ,bn,bT,e,h0,and_self,decide_true,aZ,↓reduceIte,oK,vU k,z];cases B:dW c.1 with
  | false=>simp only [ai,↓reduceIte,Int.reduceBEq,Int.reduceEq,MA,Mz,NX,bm]
  | true=>
  cases h:dW c.2 with
  | false=>rw [h] at a;simp only [ai,↓reduceIte,Int.reduceBEq,Int.reduceEq,MA,Mz,NX,M8,bm,a]
  | true=>
  rw [h] at a;cases d:c.2==v.r with
  | true=>simp only [aP,aX,bT,fy,dJ,dY,fR,fQ,aZ,bo,NX,Pg,M8,NS,NF,NA,bm,a,d]
  | false=>
   rcases l with⟨rfl,rfl⟩ | ⟨j,p,rfl,x,rfl⟩
   .have f:¬((0:Nat):Int) > 0:=by omega
    simp only [aP,aX,bT,fy,dJ,dY,fR,fQ,aZ,bo,NX,Pg,M8,NS,NF,NA,NK,bm,a,d,f,decide_false,n,wN];exact m
   .have f:((j+1:Nat):Int) > 0:=by omega
    have A:i64.wrap (((j+1:Nat):Int) - 1)= (j:Int):=by rw [wr (by unfold ML at hl;omega)];omega
    have u:(j:Int) < (v.cs.length:Int):=by omega
    have s:(0:Int)<=(j:Int):=by omega
    have q:(bB v.cs)[j]? =some [ti p.1,ti p.2]:=by have:=vU x;simpa using this
    simp only [aP,aX,bn,bT,fy,dJ,dY,fR,fQ,aZ,bo,NX,Pg,M8,NS,NF,NA,NK,bm,a,d,f,decide_true,A,u,s,and_self,↓reduceIte,Nf,q,wN];cases C:decide (c.1<=p.1) with
    | true=>simp only [aZ,Mz,NF]
    | false=>simp only [bo,MA,NA,n];exact m
theorem Lr{v:Va}(hl:v.cs.length<=ML):Or (.call 87) [VG v] []=some [tb (uO v)]:=by
 have b:=Jt hl v.cs 0 none rfl (Oj _) (.inl ⟨rfl,rfl⟩);have k:=ry v.r;unfold uO;refine ah ?_;rw [GS];simp only [su,NK,oK];cases c:(v.n==0 && v.d==0) with
 | false=>simp only [MA,Mz,dY,aP,bm,NX,aZ,NF]
 | true=>
 cases a:dW v.r with
 | false=>rw [a] at k;simp only [MA,Mz,dJ,aP,aX,bT,k,M8,aZ,NF,NA]
 | true=>rw [a] at k;simp only [MA,Mz,dJ,aP,aX,bT,k,M8,bo,NA];exact b
def eS(s:Int)(v:Va):Bool:=
 if s=5 then uO v
 else if v.cs≠[]\/v.r≠0\/mb v.n v.d≠0\/(s≠3/\v.d≠1) then false
 else if s=1 then(v.n==0 || v.n==1)
 else if s=4 then dW v.n
 else if aH s=true then(decide (v.n>=0) && decide (v.n < 2 ^ (s - 10).toNat))
 else true
theorem C5(s:Int){v:Va}(hl:v.cs.length<=ML):Or (.call 53) [I s,VG v] []=some [tb (eS s v)]:=by
 have k:=Lr hl;unfold eS;refine ah ?_;rw [FP];by_cases j:s=5
 .subst j;simp only [ai,↓reduceIte,Int.reduceBEq,Int.reduceEq,k]
 simp only [uY,j,↓reduceIte,oK,su,se];have y:=Ls v.n v.d;cases c:(decide ((v.cs.length:Int) > 0) || !v.r==0) with
 | true=>
  have:v.cs≠[]\/v.r≠0\/mb v.n v.d≠0\/(s≠3/\v.d≠1):=by
   rw [Nk] at c;rcases c with b | b
   .left;intro e;rw [e] at b;simp at b
   .right;left;simpa using b
  rw [if_pos this];simp only [Mz,dY,aP,bm,NX,aZ]
 | false=>
 have l:v.cs= []/\v.r=0:=by
  rw [N9] at c;refine⟨?_,by simpa using c.2⟩;cases h:v.cs with
  | nil=>rfl
  | cons a b=>rw [h] at c;simp at c
 simp only [MA,dJ,y,aP,aX,bQ,bn,M8];cases f:(!mb v.n v.d==0 || (!s==3 && !v.d==1)) with
 | true=>
  have:v.cs≠[]\/v.r≠0\/mb v.n v.d≠0\/(s≠3/\v.d≠1):=by
   right;right;rw [Nk] at f;rcases f with b | b
   .left;simpa using b
   .right;simpa using b
  rw [if_pos this];simp only [aZ]
 | false=>
 have x:¬(v.cs≠[]\/v.r≠0\/mb v.n v.d≠0\/(s≠3/\v.d≠1)):=by
  rw [N9] at f;have g:mb v.n v.d=0:=by simpa using f.1
  have w:¬(s≠3/\v.d≠1):=by have:=f.2;simpa using this
  rintro(h | h | h | h)
  .exact h l.1
  .exact h l.2
  .exact h g
  .exact w h
 rw [if_neg x];simp only [bo];by_cases g:s=1
 .subst g;simp only [↓reduceIte];by_cases m:v.n=0
  .simp [m]
  .simp [m]
 simp only [g,↓reduceIte];by_cases i:s=4
 .subst i;have p:=ry v.n;simp only [↓reduceIte,p,aP,aX,bT]
 simp only [i,↓reduceIte];have o:=fI s;simp only [o,aP,aX,bT];cases q:aH s with
 | false=>simp
 | true=>
  have hs: 10 < s/\s<=18:=by simpa [aH] using q
  obtain⟨b,rfl⟩:∃b:Nat,s=10+ (b:Int):=⟨(s - 10).toNat,by omega⟩;have A: 1<=b/\b<=8:=by omega
  have z:i64.wrap (10+ (b:Int) - 10)= (b:Int):=by rw [wr (by omega)];omega
  have h0:¬(b:Int) < 0:=by omega
  have t:(10+ (b:Int) - 10).toNat=b:=by omega
  have u:i64.wrap (1 * 2 ^ min b 64)=2 ^ b:=by rcases(by omega:b=1\/b=2\/b=3\/b=4\/b=5\/b=6\/b=7\/b=8) with rfl | rfl | rfl | rfl | rfl | rfl | rfl | rfl <;> decide
  simp only [aZ,↓reduceIte,z,h0,aP,Nf,t,u]
theorem Jk{er:Bool}{rs:List En}{d:Dc}(hl:rs.length<=900000)(h:∀e∈rs,Or (.call 46) [EG e,DP d] []=some [tb (!((e.ar.length:Int)== (d.ar.length:Int)))]):∀(r:List En) (i:Nat),rs.drop i=r->
  ∃z:Int,Or fW [AV.t (T.ab 5 er (aG rs)),AV.fn 46 [] [DP d],I (rs.length:Int),I (i:Int)] []=some [ti z]/\decide (z>=0)=r.any λe=> !((e.ar.length:Int)== (d.ar.length:Int)):=by
 intro r;induction r with
 | nil=>
  intro i g;have b:¬(i:Int) < (rs.length:Int):=by have:=bh g;omega
  refine⟨-1,ah ?_,by simp⟩;rw [vG];simp only [ai,↓reduceIte,Int.reduceBEq,Int.reduceEq,b]
 | cons x r j=>
  intro i g;obtain⟨c,n,f⟩:=bp g;have hm:=MD c;have b:(i:Int) < (rs.length:Int):=by omega
  have h0: 0<=(i:Int):=by omega
  have k:=h x hm;cases a:(λe:En=> !((e.ar.length:Int)== (d.ar.length:Int))) x with
  | true=>replace a:(!((x.ar.length:Int)== (d.ar.length:Int)))=true:=a;rw [a] at k;refine⟨(i:Int),ah ?_,by rw [NR];simp [a]⟩;rw [vG];simp only [aP,aX,bQ,bT,bn,bU,b,h0,and_self,cF,fO c,cU,k,aZ,et,↓reduceIte]
  | false=>replace a:(!((x.ar.length:Int)== (d.ar.length:Int)))=false:=a;rw [a] at k;obtain⟨z,l,m⟩:=j (i+1) f;refine⟨z,ah ?_,by rw [m,NR,a,M8]⟩;rw [vG];simp only [aP,aX,bQ,bT,bn,bU,b,h0,and_self,cF,fO c,cU,k,bo,et,↓reduceIte,next i (by omega)];exact l
theorem KF{er:Bool}{rs:List En}{d:Dc}(hl:rs.length<=900000)(b:∀e∈rs,Or (.call 46) [EG e,DP d] []=some [tb (!((e.ar.length:Int)== (d.ar.length:Int)))]):Or (.call 45) [AV.t (T.ab 5 er (aG rs)),AV.fn 46 [] [DP d]] []=some [tb (rs.any λe=> !((e.ar.length:Int)== (d.ar.length:Int)))]:=by
 obtain⟨z,c,f⟩:=Jk (er:=er) hl b rs 0 rfl;have a:Or (.call 85) [AV.t (T.ab 5 er (aG rs)),AV.fn 46 [] [DP d]] []=some [ti z]:=by refine ah ?_;rw [GG];simp only [cF];exact c
 refine ah ?_;rw [Fz];simp only [aP,aX,bn,a,f]
theorem Jm{er:Bool}{rs:List En}(hl:rs.length<=900000)(f:∀e∈rs,Or (.call 47) [EG e] []=some [tb (e.ar.any λn=> !dW n)]):∀(r:List En) (i:Nat),rs.drop i=r->
  ∃z:Int,Or fW [AV.t (T.ab 5 er (aG rs)),AV.fn 47 [] [],I (rs.length:Int),I (i:Int)] []=some [ti z]/\decide (z>=0)=r.any λe=>e.ar.any λn=> !dW n:=by
 intro r;induction r with
 | nil=>
  intro i g;have b:¬(i:Int) < (rs.length:Int):=by have:=bh g;omega
  refine⟨-1,ah ?_,by simp⟩;rw [vH];simp only [ai,↓reduceIte,Int.reduceBEq,Int.reduceEq,b]
 | cons x r h=>
  intro i g;obtain⟨c,m,d⟩:=bp g;have hm:=MD c;have b:(i:Int) < (rs.length:Int):=by omega
  have h0: 0<=(i:Int):=by omega
  have k:=f x hm;cases a:(λe:En=>e.ar.any λn=> !dW n) x with
  | true=>replace a:(x.ar.any λn=> !dW n)=true:=a;rw [a] at k;refine⟨(i:Int),ah ?_,by rw [NR];simp [a]⟩;rw [vH];simp only [aP,aX,bQ,bT,bn,bU,b,h0,and_self,cF,fO c,cU,k,aZ,et,↓reduceIte]
  | false=>replace a:(x.ar.any λn=> !dW n)=false:=a;rw [a] at k;obtain⟨z,j,l⟩:=h (i+1) d;refine⟨z,ah ?_,by rw [l,NR,a,M8]⟩;rw [vH];simp only [aP,aX,bQ,bT,bn,bU,b,h0,and_self,cF,fO c,cU,k,bo,et,↓reduceIte,next i (by omega)];exact j
theorem KH{er:Bool}{rs:List En}(hl:rs.length<=900000)(b:∀e∈rs,Or (.call 47) [EG e] []=some [tb (e.ar.any λn=> !dW n)]):Or (.call 45) [AV.t (T.ab 5 er (aG rs)),AV.fn 47 [] []] []=some [tb (rs.any λe=>e.ar.any λn=> !dW n)]:=by
 obtain⟨z,c,d⟩:=Jm (er:=er) hl b rs 0 rfl;have a:Or (.call 85) [AV.t (T.ab 5 er (aG rs)),AV.fn 47 [] []] []=some [ti z]:=by refine ah ?_;rw [GH];simp only [cF];exact c
 refine ah ?_;rw [FA];simp only [aP,aX,bn,a,d]
theorem Jj{er:Bool}{rs:List En}{y:En}(hl:rs.length<=900000)(h:∀e∈rs,Or (.call 51) [EG e,AV.t (T.ptr [T.ab 1 y.ea (enc y.ar),ti y.to.n,ti y.to.d,T.ab 2 y.to.ec (bB y.to.cs),ti y.to.r])] []=some [tb (decide (e.ar=y.ar))]):∀(r:List En) (i:Nat),rs.drop i=r->
  ∃z:Int,Or fW [AV.t (T.ab 5 er (aG rs)),AV.fn 51 [] [AV.t (T.ptr [T.ab 1 y.ea (enc y.ar),ti y.to.n,ti y.to.d,T.ab 2 y.to.ec (bB y.to.cs),ti y.to.r])],I (rs.length:Int),I (i:Int)] []=some [ti z]/\decide (z>=0)=r.any λe=>decide (e.ar=y.ar):=by
 intro r;induction r with
 | nil=>
  intro i g;have b:¬(i:Int) < (rs.length:Int):=by have:=bh g;omega
  refine⟨-1,ah ?_,by simp⟩;rw [vI];simp only [ai,↓reduceIte,Int.reduceBEq,Int.reduceEq,b]
 | cons x r j=>
  intro i g;obtain⟨c,o,f⟩:=bp g;have hm:=MD c;have b:(i:Int) < (rs.length:Int):=by omega
  have h0: 0<=(i:Int):=by omega
  have k:=h x hm;cases a:(λe:En=>decide (e.ar=y.ar)) x with
  | true=>replace a:(decide (x.ar=y.ar))=true:=a;rw [a] at k;refine⟨(i:Int),ah ?_,by rw [NR];simp [a]⟩;rw [vI];simp only [aP,aX,bQ,bT,bn,bU,b,h0,and_self,cF,fO c,cU,k,aZ,et,↓reduceIte]
  | false=>replace a:(decide (x.ar=y.ar))=false:=a;rw [a] at k;obtain⟨z,l,m⟩:=j (i+1) f;refine⟨z,ah ?_,by rw [m,NR,a,M8]⟩;rw [vI];simp only [aP,aX,bQ,bT,bn,bU,b,h0,and_self,cF,fO c,cU,k,bo,et,↓reduceIte,next i (by omega)];exact l
theorem KE{er:Bool}{rs:List En}{y:En}(hl:rs.length<=900000)(b:∀e∈rs,Or (.call 51) [EG e,AV.t (T.ptr [T.ab 1 y.ea (enc y.ar),ti y.to.n,ti y.to.d,T.ab 2 y.to.ec (bB y.to.cs),ti y.to.r])] []=some [tb (decide (e.ar=y.ar))]):Or (.call 45) [AV.t (T.ab 5 er (aG rs)),AV.fn 51 [] [AV.t (T.ptr [T.ab 1 y.ea (enc y.ar),ti y.to.n,ti y.to.d,T.ab 2 y.to.ec (bB y.to.cs),ti y.to.r])]] []=some [tb (rs.any λe=>decide (e.ar=y.ar))]:=by
 obtain⟨z,c,f⟩:=Jj (er:=er) hl b rs 0 rfl;have a:Or (.call 85) [AV.t (T.ab 5 er (aG rs)),AV.fn 51 [] [AV.t (T.ptr [T.ab 1 y.ea (enc y.ar),ti y.to.n,ti y.to.d,T.ab 2 y.to.ec (bB y.to.cs),ti y.to.r])]] []=some [ti z]:=by refine ah ?_;rw [GI];simp only [cF];exact c
 refine ah ?_;rw [FC];simp only [aP,aX,bn,a,f]
theorem Jl{er:Bool}{rs:List En}{d:Dc}(hl:rs.length<=900000)(h:∀e∈rs,Or (.call 54) [EG e,DP d] []=some [tb (!eS d.so e.to)]):∀(r:List En) (i:Nat),rs.drop i=r->
  ∃z:Int,Or fW [AV.t (T.ab 5 er (aG rs)),AV.fn 54 [] [DP d],I (rs.length:Int),I (i:Int)] []=some [ti z]/\decide (z>=0)=r.any λe=> !eS d.so e.to:=by
 intro r;induction r with
 | nil=>
  intro i g;have b:¬(i:Int) < (rs.length:Int):=by have:=bh g;omega
  refine⟨-1,ah ?_,by simp⟩;rw [vJ];simp only [ai,↓reduceIte,Int.reduceBEq,Int.reduceEq,b]
 | cons x r j=>
  intro i g;obtain⟨c,n,f⟩:=bp g;have hm:=MD c;have b:(i:Int) < (rs.length:Int):=by omega
  have h0: 0<=(i:Int):=by omega
  have k:=h x hm;cases a:(λe:En=> !eS d.so e.to) x with
  | true=>replace a:(!eS d.so x.to)=true:=a;rw [a] at k;refine⟨(i:Int),ah ?_,by rw [NR];simp [a]⟩;rw [vJ];simp only [aP,aX,bQ,bT,bn,bU,b,h0,and_self,cF,fO c,cU,k,aZ,et,↓reduceIte]
  | false=>replace a:(!eS d.so x.to)=false:=a;rw [a] at k;obtain⟨z,l,m⟩:=j (i+1) f;refine⟨z,ah ?_,by rw [m,NR,a,M8]⟩;rw [vJ];simp only [aP,aX,bQ,bT,bn,bU,b,h0,and_self,cF,fO c,cU,k,bo,et,↓reduceIte,next i (by omega)];exact l
theorem KG{er:Bool}{rs:List En}{d:Dc}(hl:rs.length<=900000)(b:∀e∈rs,Or (.call 54) [EG e,DP d] []=some [tb (!eS d.so e.to)]):Or (.call 45) [AV.t (T.ab 5 er (aG rs)),AV.fn 54 [] [DP d]] []=some [tb (rs.any λe=> !eS d.so e.to)]:=by
 obtain⟨z,c,f⟩:=Jl (er:=er) hl b rs 0 rfl;have a:Or (.call 85) [AV.t (T.ab 5 er (aG rs)),AV.fn 54 [] [DP d]] []=some [ti z]:=by refine ah ?_;rw [GJ];simp only [cF];exact c
 refine ah ?_;rw [FD];simp only [aP,aX,bn,a,f]
theorem Jq{e:Bool}{l:List Int}(hl:l.length<=1000):∀(r:List Int) (i:Nat),l.drop i=r->
  ∃z:Int,Or dS [ab e l,AV.fn 49 [] [],I (l.length:Int),I (i:Int)] []=some [ti z]/\decide (z>=0)=r.any λn=> !dW n:=by
 intro r;induction r with
 | nil=>
  intro i g;have a:¬(i:Int) < (l.length:Int):=by have:=bh g;omega
  refine⟨-1,ah ?_,by simp⟩;rw [vP];simp only [ai,↓reduceIte,Int.reduceBEq,Int.reduceEq,a]
 | cons d r j=>
  intro i g;obtain⟨c,p,h⟩:=bp g;have a:(i:Int) < (l.length:Int):=by omega
  have h0: 0<=(i:Int):=by omega
  have f:=ry d;have k:Or (.call 49) [I d] []=some [tb (!dW d)]:=by refine ah ?_;rw [FM];simp only [aP,aX,bT,f]
  cases b: !dW d with
  | true=>rw [b] at k;refine⟨(i:Int),ah ?_,by simp only [NR,b,NX];simp⟩;rw [vP];simp only [aP,aX,bT,bn,a,h0,and_self,aC,bD c,k,aZ,et,↓reduceIte]
  | false=>rw [b] at k;obtain⟨z,m,o⟩:=j (i+1) h;refine⟨z,ah ?_,by rw [o];simp only [NR,b,M8]⟩;rw [vP];simp only [aP,aX,bT,bn,a,h0,and_self,aC,bD c,k,bo,et,↓reduceIte,next i (by omega)];exact m
theorem KJ{e:En}(hl:e.ar.length<=1000):Or (.call 47) [EG e] []=some [tb (e.ar.any λn=> !dW n)]:=by
 obtain⟨z,c,d⟩:=Jq (e:=e.ea) hl e.ar 0 rfl;have b:Or (.call 86) [ab e.ea e.ar,AV.fn 49 [] []] []=some [ti z]:=by refine ah ?_;rw [GQ];simp only [aC];exact c
 have a:Or (.call 48) [ab e.ea e.ar,AV.fn 49 [] []] []=some [tb (e.ar.any λn=> !dW n)]:=by refine ah ?_;rw [FL];simp only [aP,aX,bn,b,d]
 refine ah ?_;rw [FF];simp only [aP,aX,bT,a]
theorem KI(e:En)(d:Dc):Or (.call 46) [EG e,DP d] []=some [tb (!((e.ar.length:Int)== (d.ar.length:Int)))]:=by refine ah ?_;rw [FE];simp only [aC]
theorem KM{e y:En}(hl:e.ar.length<=1000):Or (.call 51) [EG e,AV.t (T.ptr [T.ab 1 y.ea (enc y.ar),ti y.to.n,ti y.to.d,T.ab 2 y.to.ec (bB y.to.cs),ti y.to.r])] []=some [tb (decide (e.ar=y.ar))]:=by have k:=C4 (e:=e.ea) (e':=y.ea) (b:=y.ar) hl;refine ah ?_;rw [FO];simp only [aP,aX,bT,k]
theorem KN{e:En}{d:Dc}(hl:e.to.cs.length<=ML):Or (.call 54) [EG e,DP d] []=some [tb (!eS d.so e.to)]:=by have k:=C5 d.so hl;refine ah ?_;rw [FQ];simp only [aP,aX,bT,k]
def oC:List En->List En->Bool
 | _,[]=>false
 | a,e::r=>(a.any λx=>decide (x.ar=e.ar)) || oC (a++ [e]) r
def jC(d:Dc)(m:Me):Int:=
 if 1000 < m.rs.length then 9
 else if(m.rs.any λe=> !((e.ar.length:Int)== (d.ar.length:Int)))=true then 9
 else if(m.rs.any λe=>e.ar.any λn=> !dW n)=true then 3
 else if oC [] m.rs=true then 7
 else if eS d.so m.re=false then 8
 else if(m.rs.any λe=> !eS d.so e.to)=true then 8
 else 0
structure ff (m:Me):Prop where
 re:m.re.cs.length<=ML
 rs:∀e∈m.rs,e.to.cs.length<=ML
 rcc:m.re.ec=true->m.re.cs= []
 CR:∀e∈m.rs,e.to.ec=true->e.to.cs= []
 ea:∀e∈m.rs,e.ea=true->e.ar= []
abbrev EP(d:Dc):ad:=ad.box [AV.t (T.str d.nm),AV.t (T.ab 1 d.ea (enc d.ar)),I d.so]
abbrev ei(m:Me):ad:=ad.box [AV.t (T.ab 5 m.er (aG m.rs)),I m.re.n,I m.re.d,AV.t (T.ab 2 m.re.ec (bB m.re.cs)),I m.re.r]
theorem Iv{d:Dc}{m:Me}(wf:ff m)(hl:m.rs.length<=1000)(q:∀e∈m.rs,e.ar.length<=1000):∀(r:List En) (i:Nat) (a:List En),m.rs.drop i=r->a=m.rs.take i->i<=m.rs.length->
  Or rN [r0,r1,AV.t (T.ab 5 m.er (aG m.rs)),I (m.rs.length:Int),I (i:Int)] [EP d,ei m]=some [ti (if oC a r=true then 7 else if eS d.so m.re=false then 8 else if(m.rs.any λe=> !eS d.so e.to)=true then 8 else 0)]:=by
 intro r;induction r with
 | nil=>
  intro i a g c s;have j:¬(i:Int) < (m.rs.length:Int):=by have:=bh g;omega
  have o:=C5 d.so wf.re;have b:=KG (er:=m.er) (d:=d) (by omega) (λe k=>KN (wf.rs e k));refine ah ?_;rw [vg];simp only [oC,j,decide_false,bo,o,aP,aX,bT,MZ,↓reduceIte];cases n:eS d.so m.re with
  | false=>simp only [ai,↓reduceIte,Int.reduceBEq,Int.reduceEq,MA,Mz,bm]
  | true=>simp only [Mz,MA,dJ,b,aP,aX,bT,bo,Bool.true_eq_false,↓reduceIte];cases(m.rs.any λe=> !eS d.so e.to) <;> rfl
 | cons x r v=>
  intro i a g c s;obtain⟨h,z,p⟩:=bp g;have hm:=MD h;have j:(i:Int) < (m.rs.length:Int):=by omega
  have h0: 0<=(i:Int):=by omega
  have l:fD 0 (i:Int) (m.rs.length:Int)=some ():=by unfold fD;rw [if_pos ⟨by omega,by omega,by omega⟩]
  have f:sub 0 (i:Int) (aG m.rs)=aG a:=by rw [Dw,c];simp [aG,List.map_take]
  have w:a.length<=1000:=by rw [c,Nv];omega
  have b:=KE (er:=m.er) (rs:=a) (y:=x) (by omega) (λe k=>KM (by rw [c] at k;exact q e (Ow k)));have u:=v (i+1) (a++ [x]) p (by rw [c,Ou,h];rfl) (by omega);rw [oC];cases n:a.any λe=>decide (e.ar=x.ar) with
  | true=>rw [n] at b;refine ah ?_;rw [vg];simp only [aP,aX,bQ,bT,bn,bU,j,h0,and_self,cF,fO h,cU,l,f,b,aZ,et,↓reduceIte,NX]
  | false=>rw [n] at b;refine ah ?_;rw [vg];simp only [aP,aX,bQ,bT,bn,bU,j,h0,and_self,cF,fO h,cU,l,f,b,bo,et,↓reduceIte,M8,next i (by omega)];exact u
theorem Kk{d:Dc}{m:Me}(wf:ff m)(k:d.ar.length<=1000):Or (.call 27) [DG d,MG m] []=some [ti (jC d m)]:=by
 unfold jC;refine ah ?_;rw [Fk];simp only [cF];by_cases c: 1000 < m.rs.length
 .have a:(m.rs.length:Int) > 1000:=by omega
  rw [if_pos c];simp only [a,decide_true,Mz,dY,aP,bm,aZ]
 have a:¬(m.rs.length:Int) > 1000:=by omega
 rw [if_neg c];have h:=KF (er:=m.er) (rs:=m.rs) (d:=d) (by omega) (λe _=>KI e d);simp only [a,decide_false,MA,dJ,aP,aX,bT,bo,h];cases g:m.rs.any λe=> !((e.ar.length:Int)== (d.ar.length:Int)) with
 | true=>simp only [aZ,↓reduceIte]
 | false=>
 have f:∀e∈m.rs,e.ar.length<=1000:=λe b=>by have:=NZ.1 g e b;simp only [Oz,Ol,beq_iff_eq] at this;omega
 have i:=KH (er:=m.er) (rs:=m.rs) (by omega) (λe b=>KJ (f e b));simp only [bo,aP,aX,bT,i,MZ,↓reduceIte];cases j:m.rs.any λe=>e.ar.any λn=> !dW n with
 | true=>simp only [aZ,↓reduceIte]
 | false=>
 simp only [bo,MZ,↓reduceIte];exact Iv wf (by omega) f m.rs 0 [] rfl rfl (Oj _)
def l0:Nat->List Dc->List Me->Int×Int
 | i,d::ds,m::ms=>if jC d m=0 then l0 (i+1) ds ms else(jC d m,(i:Int))
 | _,_,_=>(0,0)
theorem n8{ed ew:Bool}{ds:List Dc}{ms:List Me}(w:ds.length<=1000)(p:ms.length=ds.length)(wf:∀m∈ms,ff m)(o:∀d∈ds,d.ar.length<=1000):∀(r:List Dc) (a:List Me) (i:Nat),ds.drop i=r->ms.drop i=a->
  Or rX [r0,r1,AV.t (T.ab 3 ed (aI ds)),I (ds.length:Int),I (i:Int)] [ad.box [AV.t (T.ab 5 ew (cu ms))],ad.box [I 0,I 0]]=some [ti (l0 i r a).1,ti (l0 i r a).2]:=by
 intro r;induction r with
 | nil=>
  intro a i g e;have b:¬(i:Int) < (ds.length:Int):=by have:=bh g;omega
  refine ah ?_;rw [Am];simp only [ai,↓reduceIte,Int.reduceBEq,Int.reduceEq,b,l0]
 | cons d r s=>
  intro a i g e;obtain⟨f,v,l⟩:=bp g;cases a with
  | nil=>have:=bh e;omega
  | cons m a=>
  obtain⟨h,x,u⟩:=bp e;have b:(i:Int) < (ds.length:Int):=by omega
  have j:(i:Int) < (ms.length:Int):=by omega
  have h0: 0<=(i:Int):=by omega
  have k:=Kk (d:=d) (wf m (MD h)) (o d (MD f));have q:=s a (i+1) l u;rw [l0];refine ah ?_;rw [Am];by_cases c:jC d m=0
  .rw [c] at k;rw [if_pos c];simp only [ai,↓reduceIte,Int.reduceBEq,Int.reduceEq,b,j,h0,and_self,bZ,eu,dK f,l8 h,jB,cU,k,Mz,next i (by omega)];exact q
  .have n:(jC d m==0)=false:=by simpa using c
   rw [if_neg c];simp only [aP,aX,bQ,bT,bn,fS,bU,aZ,et,↓reduceIte,b,j,h0,and_self,bZ,eu,dK f,l8 h,jB,cU,k,n,MA]
def jD(a:As)(ms:List Me):Int×Int:=
 if(cY a).2.1≠0 then(cY a).2
 else if ms.length≠a.ds.length then(9,0)
 else l0 0 a.ds ms
theorem s8{a:As}{ew:Bool}{ms:List Me}(j:∀d∈a.ds,d.nm.size<=9223372036854775807)(wf:∀m∈ms,ff m):Or (.call 8) [AG a,WG ew ms] []=some [ti (jD a ms).1,ti (jD a ms).2]:=by
 obtain⟨x,g,k⟩:=CX (a:=a) j;have c:Or (.call 26) [AG a] []=some [ti (cY a).2.1,ti (cY a).2.2]:=by refine ah ?_;rw [Fj];simp only [aP,aX,bQ,bn,k,g]
 unfold jD;refine ah ?_;rw [e8];by_cases h:(cY a).2.1=0
 .obtain⟨ok,f⟩:=u6 (es:=(cY a).1.isEmpty) h;have l:a.ds.length<=30:=ok.dl;have b:((cY a).2.1==0)=true:=by simpa using h
  rw [if_neg (by simpa using h)];simp only [aP,aX,bQ,bn,c,b,Mz,bo,bZ,eu];by_cases hl:ms.length=a.ds.length
  .have e:((ms.length:Int)== (a.ds.length:Int))=true:=by rw [beq_iff_eq];omega
   rw [if_neg (by simpa using hl)];simp only [e,Mz,bo];exact n8 (by omega) hl wf (λd i=>by have:=f d i;omega) a.ds ms 0 rfl rfl
  .have e:((ms.length:Int)== (a.ds.length:Int))=false:=by rw [beq_eq_false_iff_ne];omega
   rw [if_pos hl];simp only [e,MA,aZ]
 .have b:((cY a).2.1==0)=false:=by simpa using h
  rw [if_pos h];simp only [aP,aX,bQ,bn,c,b,MA,aZ]
theorem yD:∀{ds:List Dc} {ms:List Me} {i:Nat},ms.length=ds.length->(l0 i ds ms).1=0->∀(j:Nat) (d:Dc) (m:Me),ds[j]? =some d->ms[j]? =some m->jC d m=0
 | [],ms,i,hl,h,j,d,m,a,hm=>by simp at a
 | d0::ds,[],i,hl,h,j,d,m,a,hm=>by simp at hm
 | d0::ds,c::ms,i,hl,h,j,d,m,a,hm=>by
  rw [l0] at h;by_cases b:jC d0 c=0
  .rw [if_pos b] at h;cases j with
   | zero=>simp at a hm;subst a;subst hm;exact b
   | succ j=>exact yD (by simpa using hl) h j d m (by simpa using a) (by simpa using hm)
  .rw [if_neg b] at h;exact absurd h b
theorem If{a:As}{ms:List Me}(h:(jD a ms).1=0):(cY a).2.1=0/\ms.length=a.ds.length/\∀(j:Nat) (d:Dc) (m:Me),a.ds[j]? =some d->ms[j]? =some m->jC d m=0:=by
 unfold jD at h;by_cases b:(cY a).2.1≠0
 .rw [if_pos b] at h;exact absurd h b
 rw [if_neg b] at h;by_cases c:ms.length≠a.ds.length
 .rw [if_pos c] at h;exact absurd (show(9:Int)=0 from h) (by decide)
 rw [if_neg c] at h;exact⟨by simpa using b,by simpa using c,yD (by simpa using c) h⟩
open Go Go.Aev Go.IntKind
theorem IT{e e':Bool}{a b:List Int}(hl:a.length<=1000):∀(d c:List Int) (i:Nat),a.drop i=d->b.drop i=c->i<=a.length->i<=b.length->
  Or rS [ab e a,ab e' b,I (i:Int)] []=some [tb (decide (d=c))]:=by
 intro d;induction d with
 | nil=>
  intro c i g f p q;have j:¬(i:Int) < (a.length:Int):=by have:=bh g;omega
  refine ah ?_;rw [vt];simp only [ai,↓reduceIte,Int.reduceBEq,Int.reduceEq,aC,j];have:((a.length:Int)== (b.length:Int))=decide (([]:List Int)=c):=by
   have z:a.length=i:=by have:=bh g;omega
   cases c with
   | nil=>
    have:=bh f;have e:a.length=b.length:=by omega
    rw [e];simp
   | cons y c=>obtain⟨_,u,_⟩:=bp f;rw [show decide (([]:List Int)=y::c)=false by simp,beq_eq_false_iff_ne];omega
  rw [this]
 | cons x d s=>
  intro c i g f p q;obtain⟨m,w,n⟩:=bp g;have j:(i:Int) < (a.length:Int):=by omega
  have h0: 0<=(i:Int):=by omega
  cases c with
  | nil=>
   have k:(i:Int)>=(b.length:Int):=by have:=bh f;omega
   refine ah ?_;rw [vt];simp only [aP,bm,aZ,aC,j,k,decide_true,Mz];rw [show decide (x::d= ([]:List Int))=false by simp]
  | cons y c=>
   obtain⟨t,u,v⟩:=bp f;have k:¬(i:Int)>=(b.length:Int):=by omega
   have o:(i:Int) < (b.length:Int):=by omega
   have r:=s c (i+1) n v (by omega) (by omega);refine ah ?_;rw [vt];simp only [aP,aX,bn,aZ,bo,↓reduceIte,aC,j,k,o,h0,and_self,decide_true,decide_false,bD m,bD t];by_cases h:x=y
   .subst h;simp only [beq_self_eq_true,Mz,bo,next i (by omega)];refine r.trans ?_;simp
   .have l:(x==y)=false:=by simpa using h
    simp only [l,MA,aZ];simp [h]
theorem KC{e e':Bool}{a b:List Int}(hl:a.length<=1000):Or (.call 36) [ab e a,ab e' b] []=some [tb (decide (a=b))]:=by refine ah ?_;rw [Fx];exact IT hl a b 0 rfl rfl (Oj _) (Oj _)
def np(v u:Va):Prop:=v.n=u.n/\v.d=u.d/\v.cs=u.cs/\v.r=u.r
def l9:List En->List En->Prop
 | [],[]=>True
 | e::r,x::t=>(e.ar=x.ar/\np e.to x.to)/\l9 r t
 | _,_=>False
def gL:List Me->List Me->Prop
 | [],[]=>True
 | m::r,x::t=>(l9 m.rs x.rs/\np m.re x.re)/\gL r t
 | _,_=>False
theorem np.rfl{v:Va}:np v v:=⟨.refl _, .refl _, .refl _, .refl _⟩
theorem l9.rfl:∀{l:List En},l9 l l
 | []=>trivial
 | _::_=>⟨⟨.refl _, .rfl⟩,l9.rfl⟩
theorem gL.rfl:∀{l:List Me},gL l l
 | []=>trivial
 | _::_=>⟨⟨.rfl, .rfl⟩,gL.rfl⟩
theorem gL.app:∀{a b c d:List Me},gL a b->gL c d->gL (a++c) (b++d)
 | [],[],_,_,_,h=>h
 | _::_,_::_,_,_,h,e=>⟨h.1,gL.app h.2 e⟩
 | [],_::_,_,_,h,_=>h.elim
 | _::_,[],_,_,h,_=>h.elim
theorem AE:∀{a b:List En},l9 a b->a.length=b.length
 | [],[],_=>rfl
 | _::_,_::_,h=>by rw [ME,ME,AE h.2]
 | [],_::_,h=>h.elim
 | _::_,[],h=>h.elim
theorem vW:∀{a b:List Me},gL a b->a.length=b.length
 | [],[],_=>rfl
 | _::_,_::_,h=>by rw [ME,ME,vW h.2]
 | [],_::_,h=>h.elim
 | _::_,[],h=>h.elim
theorem IS{v u:Va}(hl:v.cs.length<=ML)(b:u.cs=v.cs):∀(t:List (Int×Int)) (i:Nat),v.cs.drop i=t->
  Or rR [r0,r1,I (i:Int)] [xV v,xV u]=some [tb true]:=by
 obtain⟨n,m,k,j,o⟩:=u;dsimp only at b;subst b;intro t;induction t with
 | nil=>
  intro i g;have a:¬(i:Int) < (v.cs.length:Int):=by have:=bh g;omega
  refine ah ?_;rw [zE];simp only [ai,↓reduceIte,Int.reduceBEq,Int.reduceEq,oK,a]
 | cons c t h=>
  intro i g;obtain⟨d,l,e⟩:=bp g;have a:(i:Int) < (v.cs.length:Int):=by omega
  have h0: 0<=(i:Int):=by omega
  have f:=h (i+1) e;refine ah ?_;rw [zE];simp only [ai,↓reduceIte,Int.reduceBEq,Int.reduceEq,oK,a,h0,and_self,vU d,Mz,BX i (by omega)];exact f
theorem C2{v u:Va}(hl:v.cs.length<=ML)(e:np v u):Or (.call 35) [VG v,VG u] []=some [tb true]:=by obtain⟨b,c,a,d⟩:=e;have f:=IS hl a.symm v.cs 0 rfl;obtain⟨j,i,h,g,k⟩:=u;dsimp only at b c a d;subst b c a d;refine ah ?_;rw [Fw];simp only [ai,↓reduceIte,Int.reduceBEq,Int.reduceEq,Mz];exact f
abbrev cO(e:Bool)(l:List Me):ad:=ad.box [AV.t (T.ab 5 e (cu l))]
structure iU (m:Me):Prop where
 rl:m.rs.length<=1000
 re:m.re.cs.length<=ML
 rs:∀e∈m.rs,e.to.cs.length<=ML/\e.ar.length<=1000
theorem Ij{ew ew':Bool}{ms l:List Me}{m h:Me}{k:Nat}(hm:iU m)(A:iU h)
  (v:Or pW [r0,r1,I ((k+1:Nat):Int)] [cO ew ms,cO ew' l]=some [tb true]) (C:k<=1000):∀(r d:List En) (i:Nat),m.rs.drop i=r->h.rs.drop i=d->l9 r d->
  Or rM [r0,r1,I (k:Int),AV.ref (Id.c 2) 0,AV.ref (Id.c 3) 0,I (i:Int)] [cO ew ms,cO ew' l,ei m,ei h]=some [tb true]:=by
 intro r;induction r with
 | nil=>
  intro d i g o f;have n:¬(i:Int) < (m.rs.length:Int):=by have:=bh g;omega
  refine ah ?_;rw [yX];simp only [ai,↓reduceIte,Int.reduceBEq,Int.reduceEq,cF,n,next k (by omega)];exact v
 | cons e r w=>
  intro d i g o f;obtain⟨p,B,s⟩:=bp g;cases d with
  | nil=>exact f.elim
  | cons x d=>
  obtain⟨y,D,z⟩:=bp o;have n:(i:Int) < (m.rs.length:Int):=by omega
  have t:(i:Int) < (h.rs.length:Int):=by omega
  have h0: 0<=(i:Int):=by omega
  have hs:=hm.rs e (MD p);have j:=KC (e:=e.ea) (e':=x.ea) (a:=e.ar) (b:=x.ar) hs.2;rw [decide_eq_true f.1.1] at j;have q:=C2 hs.1 f.1.2;have u:=w d (i+1) s z f.2;have:=hm.rl;refine ah ?_;rw [yX];simp only [ai,↓reduceIte,Int.reduceBEq,Int.reduceEq,cF,n,t,h0,and_self,fO p,fO y,cU,j,q,Mz,next i (by omega)];exact u
theorem Ih{ew ew':Bool}{ms b:List Me}(hl:ms.length<=1000)(hm:∀m∈ms,iU m)(l:∀m∈b,iU m):∀(r a:List Me) (k:Nat),ms.drop k=r->b.drop k=a->gL r a->
  Or pW [r0,r1,I (k:Int)] [cO ew ms,cO ew' b]=some [tb true]:=by
 intro r;induction r with
 | nil=>
  intro a i g h c;have d:¬(i:Int) < (ms.length:Int):=by have:=bh g;omega
  refine ah ?_;rw [yY];simp only [ai,↓reduceIte,Int.reduceBEq,Int.reduceEq,eu,d]
 | cons m r u=>
  intro a i g h c;obtain⟨j,w,q⟩:=bp g;cases a with
  | nil=>exact c.elim
  | cons f a=>
  obtain⟨p,x,v⟩:=bp h;have d:(i:Int) < (ms.length:Int):=by omega
  have s:(i:Int) < (b.length:Int):=by omega
  have h0: 0<=(i:Int):=by omega
  have hs:=hm m (MD j);have n:=l f (MD p);have o:=C2 hs.re c.1.2;have e:((m.rs.length:Int)== (f.rs.length:Int))=true:=by rw [AE c.1.1];simp
  have t:=Ij hs n (u a (i+1) q v c.2) (by omega) m.rs f.rs 0 rfl rfl c.1.1;refine ah ?_;rw [yY];simp only [aP,aX,bQ,oA,l4,bT,bn,bU,fy,dJ,aZ,bo,et,↓reduceIte,eu,cF,d,s,h0,and_self,l8 j,l8 p,jB,cU,e,o,Mz,MA];exact t
theorem Kd{ew ew':Bool}{ms a:List Me}(hl:ms.length<=1000)(hm:∀m∈ms,iU m)(d:∀m∈a,iU m)(c:gL ms a):Or (.call 10) [WG ew ms,WG ew' a] []=some [tb true]:=by
 have b:((ms.length:Int)== (a.length:Int))=true:=by rw [vW c];simp
 have e:=Ih (ew:=ew) (ew':=ew') hl hm d ms a 0 rfl rfl c;refine ah ?_;rw [E0];simp only [eu,b,Mz,bo];exact e
theorem LH{n:Nat}(h:n<=ML):bg 16 (0+n)=some ():=by unfold bg;rw [if_pos (.inr ⟨by omega,by unfold ML at h;omega⟩)]
theorem xz{e:Bool}{l:List (Int×Int)}(a:e=true->l= [])(hl:l.length<=ML):∃x,Or (.call 44) [AV.t (T.ab 2 e (bB l))] []=some [x]/\x.an 2=some (e,bB l):=by
 cases e with
 | true=>refine⟨T.af true,ah ?_,by rw [a rfl];rfl⟩;rw [zG];rfl
 | false=>refine⟨T.ab 2 false (bB l),ah ?_,rfl⟩;rw [zG];simp only [oK,LH hl,aP,bo]
theorem qo(l:List En)(e:En):aG l++ [[T.ab 1 e.ea (enc e.ar),ti e.to.n,ti e.to.d,cT e.to,ti e.to.r]]=aG (l++ [e]):=by simp [aG]
def nV(v:Va):Va:=⟨false,v.n,v.d,v.ec,v.cs,v.r⟩
def nE(e:En):En:=⟨e.ea,e.ar,nV e.to⟩
theorem Hc(l:List En)(e:En):aG l++ [[T.ab 1 e.ea (enc e.ar),ti e.to.n,ti e.to.d,T.ab 2 e.to.ec (bB e.to.cs),ti e.to.r]]=aG (l++ [nE e]):=by rw [<-qo];rfl
structure fg (m:Me):Prop where
 rl:m.rs.length<=1000
 al:∀e∈m.rs,e.ar.length<=1000
theorem Iu{m:Me}{e3:Bool}{re:Va}{o:ad}(wf:ff m)(ok:fg m)(j:o=ad.box [AV.t (T.af true),I 0,I 0,AV.t (T.af true),I 0]):∀(r:List En) (i:Nat) (a:List En),m.rs.drop i=r->i<=m.rs.length->a.length=i->a++r.map nE=m.rs.map nE->
  Or n6 [r0,r1,AV.t (T.ab 5 m.er (aG m.rs)),I (m.rs.length:Int),I (i:Int)] [o,ad.box [o2,I re.n,I re.d,AV.t (T.ab 2 re.ec (bB re.cs)),I re.r],ad.sl false 5 false (aG a)]=some [T.ab 5 false (aG (m.rs.map nE)),ti re.n,ti re.d,T.ab 2 re.ec (bB re.cs),ti re.r]:=by
 intro r;subst j;induction r with
 | nil=>
  intro i a g q b c;have e:¬(i:Int) < (m.rs.length:Int):=by have:=bh g;omega
  rw [ND,MU] at c;refine ah ?_;rw [zb];simp only [ai,↓reduceIte,Int.reduceBEq,Int.reduceEq,e,c]
 | cons x r v=>
  intro i a g q b c;obtain⟨f,w,p⟩:=bp g;have hm:=MD f;have e:(i:Int) < (m.rs.length:Int):=by omega
  have h0: 0<=(i:Int):=by omega
  have:=ok.rl;obtain⟨y,k,s⟩:=ir x.ea x.ar (wf.ea x hm) (by have:=ok.al x hm;omega);obtain⟨z,l,h⟩:=xz (wf.CR x hm) (wf.rs x hm);have u:=v (i+1) (a++ [nE x]) p (by omega) (by simp [b]) (by rw [<-c];simp);refine ah ?_;rw [zb];simp only [ai,↓reduceIte,Int.reduceBEq,Int.reduceEq,e,h0,and_self,cF,fO f,cU,k,s,l,h,MC,cm (show a.length+1<=1000000 by omega),next i (by omega),Hc];exact u
theorem CZ{m:Me}(wf:ff m)(ok:fg m):∃x y,Or (.call 22) [MG m] []=some [x,ti m.re.n,ti m.re.d,y,ti m.re.r]/\x.an 5=some (m.rs.isEmpty,aG (m.rs.map nE))/\y.an 2=some (m.re.ec,bB m.re.cs):=by
 obtain⟨o,c,b⟩:=xz wf.rcc wf.re;cases a:m.rs with
 | nil=>refine⟨T.af true,T.ab 2 m.re.ec (bB m.re.cs),ah ?_,rfl,by rw [bU]⟩;rw [y9];simp only [aP,aX,c,b,cF];refine ah ?_;rw [za];simp only [ai,↓reduceIte,Int.reduceBEq,Int.reduceEq,a,MS,M4,Na,decide_false]
 | cons x r=>
  have hm:x∈m.rs:=by rw [a];exact Mv
  have k:(0:Int) < (((x::r).length:Nat):Int):=by simp
  have h0:(0:Int)<=0:=by omega
  have j:(aG (x::r))[(0:Int).toNat]? =some [T.ab 1 x.ea (enc x.ar),ti x.to.n,ti x.to.d,cT x.to,ti x.to.r]:=rfl;have l:i64.wrap (0+1)= ((1:Nat):Int):=by decide
  obtain⟨p,i,f⟩:=ir x.ea x.ar (wf.ea x hm) (by have:=ok.al x hm;omega);obtain⟨q,e,g⟩:=xz (wf.CR x hm) (wf.rs x hm);have h:=Iu (re:=m.re) (e3:=true) wf ok rfl r 1 [nE x] (by rw [a];rfl) (by rw [a];simp) rfl (by rw [a];rfl);rw [a] at h;refine⟨T.ab 5 false (aG ((x::r).map nE)),T.ab 2 m.re.ec (bB m.re.cs),ah ?_,rfl,by rw [bU]⟩;rw [y9];simp only [aP,aX,c,b,cF];refine ah ?_;rw [za];simp only [ai,↓reduceIte,Int.reduceBEq,Int.reduceEq,a,k,h0,and_self,cF,j,cU,i,f,e,g,l];exact h
def dh(n:Int)(b:Nat):Int:=i64.wrap ((BitVec.ofInt 64 (n.fdiv (2 ^ min b 64)) &&& BitVec.ofInt 64 1).toNat:Int)
def lZ(v:Va)(b:Nat):Va:=⟨false,dh v.n b,1,true,[],0⟩
def bC(b:Nat)(e:En):En:=⟨e.ea,e.ar,lZ e.to b⟩
def bt(m:Me)(b:Nat):Me:=⟨m.rs.isEmpty,m.rs.isEmpty,m.rs.map (bC b),lZ m.re b⟩
theorem pw(v:Va)(b:Nat):Or (.call 23) [VG v,AV.t (T.ptr [ti (b:Int)])] []=some [ti (dh v.n b),ti 1,T.ab 2 true (bB []),ti 0]:=by
 have h0:¬(b:Int) < 0:=by omega
 refine ah ?_;rw [Fg];have a:Or (.call 24) [I (dh v.n b)] []=some [ti (dh v.n b),ti 1,T.af true,ti 0]:=by refine ah ?_;rw [Fh]
 unfold dh at a⊢;simp only [ai,↓reduceIte,Int.reduceBEq,Int.reduceEq,h0,Nf,a];rfl
theorem pA(v:Va){b:Nat}(a:b<=100):∃x,Or (.call 37) [VG v,I (b:Int)] []=some [ti (dh v.n b),ti 1,x,ti 0]/\x.an 2=some (true,bB []):=by
 have w:u64.wrap (b:Int)= (b:Int):=by
  have:∀v:Int,u64.wrap v=v % 18446744073709551616:=λv=>by simp [IntKind.wrap,IntKind.bits,IntKind.signed]
  rw [this];omega
 have h0:¬(b:Int) < 0:=by omega
 refine⟨T.af true,ah ?_,rfl⟩;rw [Fy];unfold dh;simp only [w,h0,↓reduceIte,aP,Nf]
def fi(m:Me):Nat->Nat->List Me
 | _,0=> []
 | b,k+1=>bt m b::fi m (b+1) k
theorem oL(l:List Me)(m:Me):cu l++ [[mT m,ti m.re.n,ti m.re.d,cT m.re,ti m.re.r]]=cu (l++ [m]):=by simp [cu]
theorem sO(m:Me): [[mT m,ti m.re.n,ti m.re.d,cT m.re,ti m.re.r]]=cu [m]:=rfl
abbrev fz:ad:=ad.box [I 0,I 0]
abbrev ez:ad:=ad.box [AV.t (T.af true)]
abbrev rf(k:Nat):AV:=AV.ref (Id.c k) 0
abbrev ow(k:Nat):AV:=AV.own (Id.c k)
theorem Jf{ed ew:Bool}{ds:List Dc}{ms:List Me}{m:Me}{i n b:Nat}{R:List T}(wf:ff m)(ok:fg m)(C:b<=1000)
  (z:Or hJ [rf 0,rf 1,rf 2,rf 3,rf 4,AV.t (T.ab 3 ed (aI ds)),I (ds.length:Int),I (i:Int),I (n:Int),I ((b+1:Nat):Int)] [cO ew ms,ez,fz,ad.box [ow 5],ei m,ad.sl false 5 false (cu ([bt m b]))]=some R):∀(r:List En) (j:Nat) (rows:List En),m.rs.drop j=r->j<=m.rs.length->rows.length=j->rows++r.map (bC b)=m.rs.map (bC b)->m.rs≠[]->
  Or hP [rf 0,rf 1,rf 2,rf 3,rf 4,AV.fn 23 [] [rf 5],rf 6,AV.t (T.ab 3 ed (aI ds)),I (ds.length:Int),I (i:Int),I (n:Int),I (b:Int),AV.t (T.ab 5 m.er (aG m.rs)),I (m.rs.length:Int),I (j:Int)] [cO ew ms,ez,fz,ez,ei m,ad.cE [ti (b:Int)],ad.box [ow 7,I (dh m.re.n b),I 1,AV.t (T.ab 2 true (bB [])),I 0],ad.sl false 5 false (aG (rows))]=some R:=by
 have:=ok.rl;intro r;induction r with
 | nil=>
  intro j rows g u o c a;have e:¬(j:Int) < (m.rs.length:Int):=by have:=bh g;omega
  rw [ND,MU] at c;have k:(bt m b)= ⟨false,false,m.rs.map (bC b),lZ m.re b⟩:=by
   unfold bt;cases h:m.rs with
   | nil=>exact absurd h a
   | cons x r=>rfl
  have l:T.ab 5 false (aG (m.rs.map (bC b)))=mT (bt m b):=by rw [k];rfl
  have hl: [[T.ab 5 false (aG (m.rs.map (bC b))),ti (dh m.re.n b),ti 1,T.ab 2 true (bB []),ti 0]]= [[mT (bt m b),ti (bt m b).re.n,ti (bt m b).re.d,cT (bt m b).re,ti (bt m b).re.r]]:=by rw [l];rfl
  refine ah ?_;rw [z6];simp only [ai,↓reduceIte,Int.reduceBEq,Int.reduceEq,e,c,MC,eu,next b (by omega),hl,sO];exact z
 | cons x r A=>
  intro j rows g u o c a;obtain⟨f,B,s⟩:=bp g;have hm:=MD f;have e:(j:Int) < (m.rs.length:Int):=by omega
  have h0: 0<=(j:Int):=by omega
  obtain⟨y,q,w⟩:=ir x.ea x.ar (wf.ea x hm) (by have:=ok.al x hm;omega);have p:=pw x.to b;have v:=A (j+1) (rows++ [bC b x]) s (by omega) (by simp [o]) (by rw [<-c];simp) a;have hl: [[T.ab 1 x.ea (enc x.ar),ti (dh x.to.n b),ti 1,T.ab 2 true (bB []),ti 0]]= [[T.ab 1 (bC b x).ea (enc (bC b x).ar),ti (bC b x).to.n,ti (bC b x).to.d,cT (bC b x).to,ti (bC b x).to.r]]:=rfl;refine ah ?_;rw [z6];simp only [ai,↓reduceIte,Int.reduceBEq,Int.reduceEq,e,h0,and_self,cF,fO f,cU,q,w,p,MC,cm (show rows.length+1<=1000000 by omega),next j (by omega),hl,qo];exact v
theorem Jh{ed ew:Bool}{ds:List Dc}{ms:List Me}{m:Me}{i n b:Nat}{R:List T}(wf:ff m)(ok:fg m)(l:b<=1000)
  (f:Or hJ [rf 0,rf 1,rf 2,rf 3,rf 4,AV.t (T.ab 3 ed (aI ds)),I (ds.length:Int),I (i:Int),I (n:Int),I ((b+1:Nat):Int)] [cO ew ms,ez,fz,ad.box [ow 5],ei m,ad.sl false 5 false (cu ([bt m b]))]=some R):
  Or hP [rf 0,rf 1,rf 2,rf 3,rf 4,AV.fn 23 [] [rf 5],rf 6,AV.t (T.ab 3 ed (aI ds)),I (ds.length:Int),I (i:Int),I (n:Int),I (b:Int),AV.t (T.ab 5 m.er (aG m.rs)),I (m.rs.length:Int),I 0] [cO ew ms,ez,fz,ez,ei m,ad.cE [ti (b:Int)],ad.box [AV.t (T.af true),I (dh m.re.n b),I 1,AV.t (T.ab 2 true (bB [])),I 0]]=some R:=by
 cases a:m.rs with
 | nil=>
  have hl: [[T.af true,ti (dh m.re.n b),ti 1,T.ab 2 true (bB []),ti 0]]= [[mT (bt m b),ti (bt m b).re.n,ti (bt m b).re.d,cT (bt m b).re,ti (bt m b).re.r]]:=by unfold bt;rw [a];rfl
  refine ah ?_;rw [zY];simp only [ai,↓reduceIte,Int.reduceBEq,Int.reduceEq,MS,M4,Na,decide_false,MC,eu,next b (by omega),hl,sO];exact f
 | cons x r=>
  have e:m.rs≠[]:=by rw [a];simp
  have hm:x∈m.rs:=by rw [a];exact Mv
  have k:(0:Int) < (((x::r).length:Nat):Int):=by simp
  have h0:(0:Int)<=0:=by omega
  have j:(aG (x::r))[(0:Int).toNat]? =some [T.ab 1 x.ea (enc x.ar),ti x.to.n,ti x.to.d,cT x.to,ti x.to.r]:=rfl;have p:i64.wrap (0+1)= ((1:Nat):Int):=by decide
  obtain⟨y,h,o⟩:=ir x.ea x.ar (wf.ea x hm) (by have:=ok.al x hm;omega);have g:=pw x.to b;have c:=Jf (ed:=ed) (ew:=ew) (ds:=ds) (ms:=ms) (i:=i) (n:=n) wf ok l f r 1 [bC b x] (by rw [a];rfl) (by rw [a];simp) rfl (by rw [a];rfl) e;rw [a] at c;have hl: [[T.ab 1 x.ea (enc x.ar),ti (dh x.to.n b),ti 1,T.ab 2 true (bB []),ti 0]]=aG [bC b x]:=rfl;refine ah ?_;rw [zY];simp only [ai,↓reduceIte,Int.reduceBEq,Int.reduceEq,k,h0,and_self,cF,j,cU,h,o,g,p,hl];rw [<-a] at c⊢;exact c
theorem Jg{ed ew:Bool}{ds:List Dc}{ms:List Me}{m:Me}{i n b:Nat}{a:List Me}{R:List T}(wf:ff m)(ok:fg m)(E:b<=1000)(C:a.length<=1000)
  (A:Or hJ [rf 0,rf 1,rf 2,rf 3,rf 4,AV.t (T.ab 3 ed (aI ds)),I (ds.length:Int),I (i:Int),I (n:Int),I ((b+1:Nat):Int)] [cO ew ms,ez,fz,ad.box [ow 5],ei m,ad.sl false 5 false (cu (a++ [bt m b]))]=some R):∀(r:List En) (j:Nat) (rows:List En),m.rs.drop j=r->j<=m.rs.length->rows.length=j->rows++r.map (bC b)=m.rs.map (bC b)->m.rs≠[]->
  Or hP [rf 0,rf 1,rf 2,rf 3,rf 4,AV.fn 23 [] [rf 5],rf 6,AV.t (T.ab 3 ed (aI ds)),I (ds.length:Int),I (i:Int),I (n:Int),I (b:Int),AV.t (T.ab 5 m.er (aG m.rs)),I (m.rs.length:Int),I (j:Int)] [cO ew ms,ez,fz,ad.box [ow 7],ei m,ad.cE [ti (b:Int)],ad.box [ow 8,I (dh m.re.n b),I 1,AV.t (T.ab 2 true (bB [])),I 0],ad.sl false 5 false (cu (a)),ad.sl false 5 false (aG (rows))]=some R:=by
 have:=ok.rl;intro r;induction r with
 | nil=>
  intro j rows g v p e c;have f:¬(j:Int) < (m.rs.length:Int):=by have:=bh g;omega
  rw [ND,MU] at e;have l:(bt m b)= ⟨false,false,m.rs.map (bC b),lZ m.re b⟩:=by
   unfold bt;cases h:m.rs with
   | nil=>exact absurd h c
   | cons x r=>rfl
  have o:T.ab 5 false (aG (m.rs.map (bC b)))=mT (bt m b):=by rw [l];rfl
  have hl: [[T.ab 5 false (aG (m.rs.map (bC b))),ti (dh m.re.n b),ti 1,T.ab 2 true (bB []),ti 0]]= [[mT (bt m b),ti (bt m b).re.n,ti (bt m b).re.d,cT (bt m b).re,ti (bt m b).re.r]]:=by rw [o];rfl
  refine ah ?_;rw [z7];simp only [ai,↓reduceIte,Int.reduceBEq,Int.reduceEq,f,e,MC,eu,cm (show a.length+1<=1000000 by omega),next b (by omega),hl,oL];exact A
 | cons x r B=>
  intro j rows g v p e c;obtain⟨k,D,u⟩:=bp g;have hm:=MD k;have f:(j:Int) < (m.rs.length:Int):=by omega
  have h0: 0<=(j:Int):=by omega
  obtain⟨y,s,z⟩:=ir x.ea x.ar (wf.ea x hm) (by have:=ok.al x hm;omega);have q:=pw x.to b;have w:=B (j+1) (rows++ [bC b x]) u (by omega) (by simp [p]) (by rw [<-e];simp) c;have hl: [[T.ab 1 x.ea (enc x.ar),ti (dh x.to.n b),ti 1,T.ab 2 true (bB []),ti 0]]= [[T.ab 1 (bC b x).ea (enc (bC b x).ar),ti (bC b x).to.n,ti (bC b x).to.d,cT (bC b x).to,ti (bC b x).to.r]]:=rfl;refine ah ?_;rw [z7];simp only [ai,↓reduceIte,Int.reduceBEq,Int.reduceEq,f,h0,and_self,cF,fO k,cU,s,z,q,MC,cm (show rows.length+1<=1000000 by omega),next j (by omega),hl,qo];exact w
theorem Ji{ed ew:Bool}{ds:List Dc}{ms:List Me}{m:Me}{i n b:Nat}{c:List Me}{R:List T}(wf:ff m)(ok:fg m)(p:b<=1000)(f:c.length<=1000)
  (h:Or hJ [rf 0,rf 1,rf 2,rf 3,rf 4,AV.t (T.ab 3 ed (aI ds)),I (ds.length:Int),I (i:Int),I (n:Int),I ((b+1:Nat):Int)] [cO ew ms,ez,fz,ad.box [ow 5],ei m,ad.sl false 5 false (cu (c++ [bt m b]))]=some R):
  Or hP [rf 0,rf 1,rf 2,rf 3,rf 4,AV.fn 23 [] [rf 5],rf 6,AV.t (T.ab 3 ed (aI ds)),I (ds.length:Int),I (i:Int),I (n:Int),I (b:Int),AV.t (T.ab 5 m.er (aG m.rs)),I (m.rs.length:Int),I 0] [cO ew ms,ez,fz,ad.box [ow 7],ei m,ad.cE [ti (b:Int)],ad.box [AV.t (T.af true),I (dh m.re.n b),I 1,AV.t (T.ab 2 true (bB [])),I 0],ad.sl false 5 false (cu (c))]=some R:=by
 cases a:m.rs with
 | nil=>
  have hl: [[T.af true,ti (dh m.re.n b),ti 1,T.ab 2 true (bB []),ti 0]]= [[mT (bt m b),ti (bt m b).re.n,ti (bt m b).re.d,cT (bt m b).re,ti (bt m b).re.r]]:=by unfold bt;rw [a];rfl
  refine ah ?_;rw [zZ];simp only [ai,↓reduceIte,Int.reduceBEq,Int.reduceEq,MS,M4,Na,decide_false,MC,eu,cm (show c.length+1<=1000000 by omega),next b (by omega),hl,oL];exact h
 | cons x r=>
  have g:m.rs≠[]:=by rw [a];simp
  have hm:x∈m.rs:=by rw [a];exact Mv
  have o:(0:Int) < (((x::r).length:Nat):Int):=by simp
  have h0:(0:Int)<=0:=by omega
  have l:(aG (x::r))[(0:Int).toNat]? =some [T.ab 1 x.ea (enc x.ar),ti x.to.n,ti x.to.d,cT x.to,ti x.to.r]:=rfl;have s:i64.wrap (0+1)= ((1:Nat):Int):=by decide
  obtain⟨y,k,q⟩:=ir x.ea x.ar (wf.ea x hm) (by have:=ok.al x hm;omega);have j:=pw x.to b;have e:=Jg (ed:=ed) (ew:=ew) (ds:=ds) (ms:=ms) (i:=i) (n:=n) wf ok p f h r 1 [bC b x] (by rw [a];rfl) (by rw [a];simp) rfl (by rw [a];rfl) g;rw [a] at e;have hl: [[T.ab 1 x.ea (enc x.ar),ti (dh x.to.n b),ti 1,T.ab 2 true (bB []),ti 0]]=aG [bC b x]:=rfl;refine ah ?_;rw [zZ];simp only [ai,↓reduceIte,Int.reduceBEq,Int.reduceEq,o,h0,and_self,cF,l,cU,k,q,j,s,hl];rw [<-a] at e⊢;exact e
theorem BR{ed ew:Bool}{ds:List Dc}{ms:List Me}{m:Me}{i n:Nat}{R:List T}(wf:ff m)(ok:fg m)(l:i<=100)(o:n<=100):∀(k b:Nat) (a:List Me),b+k=n->a.length+k<=1000->
  Or jq [rf 0,rf 1,rf 2,rf 3,AV.t (T.ab 3 ed (aI ds)),I (ds.length:Int),I ((i+1:Nat):Int)] [cO ew ms,ez,fz,ad.box [ow 4],ad.sl false 5 false (cu (a++fi m b k))]=some R->
  Or hJ [rf 0,rf 1,rf 2,rf 3,rf 4,AV.t (T.ab 3 ed (aI ds)),I (ds.length:Int),I (i:Int),I (n:Int),I (b:Int)] [cO ew ms,ez,fz,ad.box [ow 5],ei m,ad.sl false 5 false (cu (a))]=some R:=by
 intro k;induction k with
 | zero=>
  intro b a g e c;have d:¬(b:Int) < (n:Int):=by omega
  rw [fi,MU] at c;refine ah ?_;rw [zX];simp only [ai,↓reduceIte,Int.reduceBEq,Int.reduceEq,d,next i (by omega)];exact c
 | succ k j=>
  intro b a g e c;have d:(b:Int) < (n:Int):=by omega
  have f:=pw m.re b;have h:=Ji (ed:=ed) (ew:=ew) (ds:=ds) (ms:=ms) (i:=i) (n:=n) wf ok (show b<=1000 by omega) (by omega) (j (b+1) (a++ [bt m b]) (by omega) (by simp;omega) (by rw [MY];exact c));refine ah ?_;rw [zX];simp only [ai,↓reduceIte,Int.reduceBEq,Int.reduceEq,d,f,cF];exact h
theorem Jc{ed ew:Bool}{ds:List Dc}{ms:List Me}{m:Me}{i n:Nat}{R:List T}(wf:ff m)(ok:fg m)(c:i<=100)(d:n<=100)(h0: 0 < n)
  (f:Or jq [rf 0,rf 1,rf 2,rf 3,AV.t (T.ab 3 ed (aI ds)),I (ds.length:Int),I ((i+1:Nat):Int)] [cO ew ms,ez,fz,ad.box [ow 4],ad.sl false 5 false (cu (fi m 0 n))]=some R):
  Or hJ [rf 0,rf 1,rf 2,rf 3,rf 4,AV.t (T.ab 3 ed (aI ds)),I (ds.length:Int),I (i:Int),I (n:Int),I 0] [cO ew ms,ez,fz,ez,ei m]=some R:=by
 obtain⟨k,rfl⟩:∃k,n=k+1:=⟨n - 1,by omega⟩;have b:(0:Int) < ((k+1:Nat):Int):=by omega
 have a:=pw m.re 0;have e:=Jh (ed:=ed) (ew:=ew) (ds:=ds) (ms:=ms) (i:=i) (n:=k+1) wf ok (show 0<=1000 by omega) (BR wf ok c d k 1 [bt m 0] (by omega) (by simp;omega) f);refine ah ?_;rw [Gl];simp only [ai,↓reduceIte,Int.reduceBEq,Int.reduceEq,b,cF];rw [show(0:Int)= ((0:Nat):Int) from rfl];simp only [ai,↓reduceIte,Int.reduceBEq,Int.reduceEq,a];exact e
def cP(s:Int):Nat:=(s - 10).toNat
def kR(m:Me):Me:=⟨false,m.rs.isEmpty,m.rs.map nE,nV m.re⟩
def gg(d:Dc)(m:Me):List Me:=if aH d.so=true then fi m 0 (cP d.so) else [kR m]
def fB:List Dc->List Me->List Me
 | d::ds,m::ms=>gg d m++fB ds ms
 | _,_=> []
theorem yx(m:Me):∀(k b:Nat),(fi m b k).length=k
 | 0,_=>rfl
 | k+1,b=>by rw [fi,ME,yx m k]
theorem oZ{s:Int}:aH s=true↔10 < s/\s<=18:=by simp [aH]
theorem sv(d:Dc)(m:Me):(gg d m).length<=8:=by
 unfold gg;split
 .rename_i h;have:=oZ.1 h;rw [yx];unfold cP;omega
 .simp
theorem yQ:∀(ds:List Dc) (ms:List Me),(fB ds ms).length<=8 * ds.length
 | [],_=>by simp [fB]
 | _::_,[]=>by simp [fB]
 | d::ds,m::ms=>by have a:=sv d m;have b:=yQ ds ms;rw [fB,Ny,ME];omega
structure nU (ds:List Dc) (ms:List Me):Prop where
 dl:ds.length<=100
 ml:ms.length=ds.length
 wf:∀m∈ms,ff m
 ok:∀m∈ms,fg m
theorem Jd{ed ew:Bool}{ds:List Dc}{ms:List Me}(j:nU ds ms):∀(r:List Dc) (b:List Me) (i:Nat) (a:List Me),ds.drop i=r->ms.drop i=b->a.length+8 * r.length<=1000->
  Or jq [rf 0,rf 1,rf 2,rf 3,AV.t (T.ab 3 ed (aI ds)),I (ds.length:Int),I (i:Int)] [cO ew ms,ez,fz,ad.box [ow 4],ad.sl false 5 false (cu (a))]=some [T.ab 5 false (cu (a++fB r b)),ti 0,ti 0]:=by
 intro r;have:=j.dl;have z:=j.ml;induction r with
 | nil=>
  intro b i a g l k;have h:¬(i:Int) < (ds.length:Int):=by have:=bh g;omega
  have w:fB [] b= []:=by simp [fB]
  refine ah ?_;rw [vF];simp only [ai,↓reduceIte,Int.reduceBEq,Int.reduceEq,h,w,MU]
 | cons d r D=>
  intro b i a g l k;obtain⟨p,G,v⟩:=bp g;cases b with
  | nil=>have:=bh l;omega
  | cons m b=>
  obtain⟨o,J,E⟩:=bp l;have hm:=MD o;have wf:=j.wf m hm;have ok:=j.ok m hm;have h:(i:Int) < (ds.length:Int):=by omega
  have q:(i:Int) < (ms.length:Int):=by omega
  have h0: 0<=(i:Int):=by omega
  have c:=fI d.so;have F:=sv d m;rw [ME] at k;have f:=D b (i+1) (a++gg d m) v E (by rw [Ny];omega);rw [MY] at f;rw [fB];cases e:aH d.so with
  | false=>
   rw [e] at c;have hs:gg d m= [kR m]:=by unfold gg;rw [e];rfl
   obtain⟨x,y,u,B,C⟩:=CZ wf ok;rw [hs] at f⊢;have hl: [[T.ab 5 m.rs.isEmpty (aG (m.rs.map nE)),ti m.re.n,ti m.re.d,T.ab 2 m.re.ec (bB m.re.cs),ti m.re.r]]= [[mT (kR m),ti (kR m).re.n,ti (kR m).re.d,cT (kR m).re,ti (kR m).re.r]]:=rfl;refine ah ?_;rw [vF];simp only [ai,↓reduceIte,Int.reduceBEq,Int.reduceEq,h,q,h0,and_self,bZ,eu,dK p,l8 o,jB,cU,c,u,B,C,MA,MC,cm (show a.length+1<=1000000 by omega),next i (by omega),hl,oL];exact f
  | true=>
   rw [e] at c;have H:=oZ.1 e;have hs:gg d m=fi m 0 (cP d.so):=by unfold gg;rw [e];rfl
   have s:i64.wrap (d.so - 10)= ((cP d.so:Nat):Int):=by rw [wr (by omega)];unfold cP;omega
   rw [hs] at f⊢;have A:=BR (ed:=ed) (ew:=ew) (ds:=ds) (ms:=ms) wf ok (show i<=100 by omega) (show cP d.so<=100 by unfold cP;omega) (cP d.so) 0 a (by omega) (by unfold cP;omega) f;refine ah ?_;rw [vF];simp only [ai,↓reduceIte,Int.reduceBEq,Int.reduceEq,h,q,h0,and_self,bZ,eu,dK p,l8 o,jB,cU,c,Mz,s];exact A
theorem Je{ed ew:Bool}{ds:List Dc}{ms:List Me}(f:nU ds ms):∃x,Or jq [rf 0,rf 1,rf 2,rf 3,AV.t (T.ab 3 ed (aI ds)),I (ds.length:Int),I 0] [cO ew ms,ez,fz,ez]=some [x,ti 0,ti 0]/\x.an 5=some (ds.isEmpty,cu (fB ds ms)):=by
 have k:=f.dl;have b:=f.ml;have A:i64.wrap (0+1)= ((1:Nat):Int):=by decide
 cases c:ds with
 | nil=>refine⟨T.af true,ah ?_,rfl⟩;rw [vE];simp only [ai,↓reduceIte,Int.reduceBEq,Int.reduceEq,MS,M4,Na,decide_false]
 | cons d r=>
 cases a:ms with
 | nil=>rw [c,a] at b;simp at b
 | cons m j=>
  rw [c] at k b;rw [a] at b;have hm:m∈ms:=by rw [a];exact Mv
  have wf:=f.wf m hm;have ok:=f.ok m hm;have o:(0:Int) < (((d::r).length:Nat):Int):=by simp
  have p:(0:Int) < (((m::j).length:Nat):Int):=by simp
  have h0:(0:Int)<=0:=by omega
  have l:(aI (d::r))[(0:Int).toNat]? =some [T.str d.nm,T.ab 1 d.ea (enc d.ar),ti d.so]:=rfl;have v:(cu (m::j))[(0:Int).toNat]? =some [mT m,ti m.re.n,ti m.re.d,cT m.re,ti m.re.r]:=rfl;have e:=fI d.so;have B:=sv d m;have h:=Jd (ed:=ed) (ew:=ew) f r j 1 (gg d m) (by rw [c];rfl) (by rw [a];rfl) (by simp at k;omega);rw [<-fB] at h;refine⟨T.ab 5 false (cu (fB (d::r) (m::j))), ?_,rfl⟩;cases g:aH d.so with
  | false=>
   rw [g] at e;have hs:gg d m= [kR m]:=by unfold gg;rw [g];rfl
   obtain⟨x,y,u,w,z⟩:=CZ wf ok;rw [hs,c,a] at h;have hl: [[T.ab 5 m.rs.isEmpty (aG (m.rs.map nE)),ti m.re.n,ti m.re.d,T.ab 2 m.re.ec (bB m.re.cs),ti m.re.r]]=cu [kR m]:=rfl;refine ah ?_;rw [vE];simp only [ai,↓reduceIte,Int.reduceBEq,Int.reduceEq,o,p,h0,and_self,bZ,eu,l,v,jB,cU,e,u,w,z,MA,A,hl];exact h
  | true=>
   rw [g] at e;have C:=oZ.1 g;have hs:gg d m=fi m 0 (cP d.so):=by unfold gg;rw [g];rfl
   have s:i64.wrap (d.so - 10)= ((cP d.so:Nat):Int):=by rw [wr (by omega)];unfold cP;omega
   rw [hs] at h;have q:=Jc (ed:=ed) (ew:=ew) (ds:=ds) (ms:=ms) (i:=0) wf ok (by omega) (show cP d.so<=100 by unfold cP;omega) (show 0 < cP d.so by unfold cP;omega) h;rw [c,a] at q;refine ah ?_;rw [vE];simp only [ai,↓reduceIte,Int.reduceBEq,Int.reduceEq,o,p,h0,and_self,bZ,eu,l,v,jB,cU,e,Mz,s];exact q
open Go Go.Aev Go.IntKind
theorem Io{a:As}{ew:Bool}{ms:List Me}{m:Me}{i n b:Nat}{R:List T}(ok:fg m)(u:b<=100)
  (A:Or fU [rf 0,rf 1,rf 2,rf 3,I (i:Int),rf 4,I (n:Int),I ((b+1:Nat):Int)] [fh a,cO ew ms,ez,ad.box [ow 5],ei m,ad.sl false 5 false (cu ([bt m b]))]=some R):∀(r:List En) (j:Nat) (rows:List En),m.rs.drop j=r->j<=m.rs.length->rows.length=j->rows++r.map (bC b)=m.rs.map (bC b)->m.rs≠[]->
  Or hF [rf 0,rf 1,rf 2,rf 3,I (i:Int),rf 4,I (n:Int),I (b:Int),rf 5,I (j:Int)] [fh a,cO ew ms,ez,ez,ei m,ad.box [ow 6,I (dh m.re.n b),I 1,AV.t (T.ab 2 true (bB [])),I 0],ad.sl false 5 false (aG (rows))]=some R:=by
 have:=ok.rl;intro r;induction r with
 | nil=>
  intro j rows g v o e c;have f:¬(j:Int) < (m.rs.length:Int):=by have:=bh g;omega
  rw [ND,MU] at e;have k:(bt m b)= ⟨false,false,m.rs.map (bC b),lZ m.re b⟩:=by
   unfold bt;cases h:m.rs with
   | nil=>exact absurd h c
   | cons x r=>rfl
  have l:T.ab 5 false (aG (m.rs.map (bC b)))=mT (bt m b):=by rw [k];rfl
  have hl: [[T.ab 5 false (aG (m.rs.map (bC b))),ti (dh m.re.n b),ti 1,T.ab 2 true (bB []),ti 0]]= [[mT (bt m b),ti (bt m b).re.n,ti (bt m b).re.d,cT (bt m b).re,ti (bt m b).re.r]]:=by rw [l];rfl
  refine ah ?_;rw [y7];simp only [ai,↓reduceIte,Int.reduceBEq,Int.reduceEq,cF,f,e,MC,eu,next b (by omega),hl,sO];exact A
 | cons x r B=>
  intro j rows g v o e c;obtain⟨q,C,s⟩:=bp g;have f:(j:Int) < (m.rs.length:Int):=by omega
  have h0: 0<=(j:Int):=by omega
  obtain⟨y,p,z⟩:=pA x.to u;have w:=B (j+1) (rows++ [bC b x]) s (by omega) (by simp [o]) (by rw [<-e];simp) c;have hl: [[T.ab 1 x.ea (enc x.ar),ti (dh x.to.n b),ti 1,T.ab 2 true (bB []),ti 0]]= [[T.ab 1 (bC b x).ea (enc (bC b x).ar),ti (bC b x).to.n,ti (bC b x).to.d,cT (bC b x).to,ti (bC b x).to.r]]:=rfl;refine ah ?_;rw [y7];simp only [ai,↓reduceIte,Int.reduceBEq,Int.reduceEq,f,h0,and_self,cF,fO q,cU,p,z,MC,cm (show rows.length+1<=1000000 by omega),next j (by omega),hl,qo];exact w
theorem Iq{a:As}{ew:Bool}{ms:List Me}{m:Me}{i n b:Nat}{R:List T}(ok:fg m)(f:b<=100)
  (h:Or fU [rf 0,rf 1,rf 2,rf 3,I (i:Int),rf 4,I (n:Int),I ((b+1:Nat):Int)] [fh a,cO ew ms,ez,ad.box [ow 5],ei m,ad.sl false 5 false (cu ([bt m b]))]=some R):
  Or hF [rf 0,rf 1,rf 2,rf 3,I (i:Int),rf 4,I (n:Int),I (b:Int),rf 5,I 0] [fh a,cO ew ms,ez,ez,ei m,ad.box [AV.t (T.af true),I (dh m.re.n b),I 1,AV.t (T.ab 2 true (bB [])),I 0]]=some R:=by
 cases c:m.rs with
 | nil=>
  have hl: [[T.af true,ti (dh m.re.n b),ti 1,T.ab 2 true (bB []),ti 0]]= [[mT (bt m b),ti (bt m b).re.n,ti (bt m b).re.d,cT (bt m b).re,ti (bt m b).re.r]]:=by unfold bt;rw [c];rfl
  have e:¬(0:Int) < (m.rs.length:Int):=by rw [c];simp
  refine ah ?_;rw [y5];simp only [ai,↓reduceIte,Int.reduceBEq,Int.reduceEq,e,cF,MC,eu,next b (by omega),hl,sO];exact h
 | cons x r=>
  have g:m.rs≠[]:=by rw [c];simp
  have e:(0:Int) < ((m.rs.length:Nat):Int):=by rw [c];simp
  have h0:(0:Int)<=0:=by omega
  have k:(aG m.rs)[(0:Int).toNat]? =some [T.ab 1 x.ea (enc x.ar),ti x.to.n,ti x.to.d,cT x.to,ti x.to.r]:=by rw [c];rfl
  have p:i64.wrap (0+1)= ((1:Nat):Int):=by decide
  obtain⟨y,j,o⟩:=pA x.to f;have l:=Io (a:=a) (ew:=ew) (ms:=ms) (i:=i) (n:=n) ok f h r 1 [bC b x] (by rw [c];rfl) (by rw [c];simp) rfl (by rw [c];rfl) g;have hl: [[T.ab 1 x.ea (enc x.ar),ti (dh x.to.n b),ti 1,T.ab 2 true (bB []),ti 0]]=aG [bC b x]:=rfl;refine ah ?_;rw [y5];simp only [ai,↓reduceIte,Int.reduceBEq,Int.reduceEq,e,h0,and_self,cF,k,cU,j,o,p,hl];exact l
theorem Ip{a:As}{ew:Bool}{ms:List Me}{m:Me}{i n b:Nat}{c:List Me}{R:List T}(ok:fg m)(v:b<=100)(D:c.length<=1000)
  (B:Or fU [rf 0,rf 1,rf 2,rf 3,I (i:Int),rf 4,I (n:Int),I ((b+1:Nat):Int)] [fh a,cO ew ms,ez,ad.box [ow 5],ei m,ad.sl false 5 false (cu (c++ [bt m b]))]=some R):∀(r:List En) (j:Nat) (rows:List En),m.rs.drop j=r->j<=m.rs.length->rows.length=j->rows++r.map (bC b)=m.rs.map (bC b)->m.rs≠[]->
  Or hF [rf 0,rf 1,rf 2,rf 3,I (i:Int),rf 4,I (n:Int),I (b:Int),rf 5,I (j:Int)] [fh a,cO ew ms,ez,ad.box [ow 6],ei m,ad.box [ow 7,I (dh m.re.n b),I 1,AV.t (T.ab 2 true (bB [])),I 0],ad.sl false 5 false (cu (c)),ad.sl false 5 false (aG (rows))]=some R:=by
 have:=ok.rl;intro r;induction r with
 | nil=>
  intro j rows g w p f e;have k:¬(j:Int) < (m.rs.length:Int):=by have:=bh g;omega
  rw [ND,MU] at f;have l:(bt m b)= ⟨false,false,m.rs.map (bC b),lZ m.re b⟩:=by
   unfold bt;cases h:m.rs with
   | nil=>exact absurd h e
   | cons x r=>rfl
  have o:T.ab 5 false (aG (m.rs.map (bC b)))=mT (bt m b):=by rw [l];rfl
  have hl: [[T.ab 5 false (aG (m.rs.map (bC b))),ti (dh m.re.n b),ti 1,T.ab 2 true (bB []),ti 0]]= [[mT (bt m b),ti (bt m b).re.n,ti (bt m b).re.d,cT (bt m b).re,ti (bt m b).re.r]]:=by rw [o];rfl
  refine ah ?_;rw [y6];simp only [ai,↓reduceIte,Int.reduceBEq,Int.reduceEq,cF,k,f,MC,eu,cm (show c.length+1<=1000000 by omega),next b (by omega),hl,oL];exact B
 | cons x r C=>
  intro j rows g w p f e;obtain⟨s,E,u⟩:=bp g;have k:(j:Int) < (m.rs.length:Int):=by omega
  have h0: 0<=(j:Int):=by omega
  obtain⟨y,q,A⟩:=pA x.to v;have z:=C (j+1) (rows++ [bC b x]) u (by omega) (by simp [p]) (by rw [<-f];simp) e;have hl: [[T.ab 1 x.ea (enc x.ar),ti (dh x.to.n b),ti 1,T.ab 2 true (bB []),ti 0]]= [[T.ab 1 (bC b x).ea (enc (bC b x).ar),ti (bC b x).to.n,ti (bC b x).to.d,cT (bC b x).to,ti (bC b x).to.r]]:=rfl;refine ah ?_;rw [y6];simp only [ai,↓reduceIte,Int.reduceBEq,Int.reduceEq,k,h0,and_self,cF,fO s,cU,q,A,MC,cm (show rows.length+1<=1000000 by omega),next j (by omega),hl,qo];exact z
theorem Ir{a:As}{ew:Bool}{ms:List Me}{m:Me}{i n b:Nat}{e:List Me}{R:List T}(ok:fg m)(h:b<=100)(g:e.length<=1000)
  (k:Or fU [rf 0,rf 1,rf 2,rf 3,I (i:Int),rf 4,I (n:Int),I ((b+1:Nat):Int)] [fh a,cO ew ms,ez,ad.box [ow 5],ei m,ad.sl false 5 false (cu (e++ [bt m b]))]=some R):
  Or hF [rf 0,rf 1,rf 2,rf 3,I (i:Int),rf 4,I (n:Int),I (b:Int),rf 5,I 0] [fh a,cO ew ms,ez,ad.box [ow 6],ei m,ad.box [AV.t (T.af true),I (dh m.re.n b),I 1,AV.t (T.ab 2 true (bB [])),I 0],ad.sl false 5 false (cu (e))]=some R:=by
 cases c:m.rs with
 | nil=>
  have hl: [[T.af true,ti (dh m.re.n b),ti 1,T.ab 2 true (bB []),ti 0]]= [[mT (bt m b),ti (bt m b).re.n,ti (bt m b).re.d,cT (bt m b).re,ti (bt m b).re.r]]:=by unfold bt;rw [c];rfl
  have f:¬(0:Int) < (m.rs.length:Int):=by rw [c];simp
  refine ah ?_;rw [y0];simp only [ai,↓reduceIte,Int.reduceBEq,Int.reduceEq,f,cF,MC,eu,cm (show e.length+1<=1000000 by omega),next b (by omega),hl,oL];exact k
 | cons x r=>
  have j:m.rs≠[]:=by rw [c];simp
  have f:(0:Int) < ((m.rs.length:Nat):Int):=by rw [c];simp
  have h0:(0:Int)<=0:=by omega
  have o:(aG m.rs)[(0:Int).toNat]? =some [T.ab 1 x.ea (enc x.ar),ti x.to.n,ti x.to.d,cT x.to,ti x.to.r]:=by rw [c];rfl
  have s:i64.wrap (0+1)= ((1:Nat):Int):=by decide
  obtain⟨y,l,q⟩:=pA x.to h;have p:=Ip (a:=a) (ew:=ew) (ms:=ms) (i:=i) (n:=n) ok h g k r 1 [bC b x] (by rw [c];rfl) (by rw [c];simp) rfl (by rw [c];rfl) j;have hl: [[T.ab 1 x.ea (enc x.ar),ti (dh x.to.n b),ti 1,T.ab 2 true (bB []),ti 0]]=aG [bC b x]:=rfl;refine ah ?_;rw [y0];simp only [ai,↓reduceIte,Int.reduceBEq,Int.reduceEq,f,h0,and_self,cF,o,cU,l,q,s,hl];exact p
theorem tA{a:As}{ew:Bool}{ms:List Me}{m:Me}{i n:Nat}{R:List T}(ok:fg m)(p:i<=100)(q:n<=100):∀(k b:Nat) (c:List Me),b+k=n->c.length+k<=1000->
  Or kM [rf 0,rf 1,rf 2,rf 3,I ((i+1:Nat):Int)] [fh a,cO ew ms,ez,ad.box [ow 4],ad.sl false 5 false (cu (c++fi m b k))]=some R->
  Or fU [rf 0,rf 1,rf 2,rf 3,I (i:Int),rf 4,I (n:Int),I (b:Int)] [fh a,cO ew ms,ez,ad.box [ow 5],ei m,ad.sl false 5 false (cu (c))]=some R:=by
 intro k;induction k with
 | zero=>
  intro b c h f d;have e:¬(b:Int) < (n:Int):=by omega
  rw [fi,MU] at d;refine ah ?_;rw [yZ];simp only [ai,↓reduceIte,Int.reduceBEq,Int.reduceEq,e,next i (by omega)];exact d
 | succ k o=>
  intro b c h f d;have e:(b:Int) < (n:Int):=by omega
  obtain⟨y,g,l⟩:=pA m.re (show b<=100 by omega);have j:=Ir (a:=a) (ew:=ew) (ms:=ms) (i:=i) (n:=n) ok (show b<=100 by omega) (by omega) (o (b+1) (c++ [bt m b]) (by omega) (by simp;omega) (by rw [MY];exact d));refine ah ?_;rw [yZ];simp only [ai,↓reduceIte,Int.reduceBEq,Int.reduceEq,e,g,l];exact j
theorem Ik{a:As}{ew:Bool}{ms:List Me}{m:Me}{i n:Nat}{R:List T}(ok:fg m)(d:i<=100)(e:n<=100)(h0: 0 < n)
  (h:Or kM [rf 0,rf 1,rf 2,rf 3,I ((i+1:Nat):Int)] [fh a,cO ew ms,ez,ad.box [ow 4],ad.sl false 5 false (cu (fi m 0 n))]=some R):
  Or fU [rf 0,rf 1,rf 2,rf 3,I (i:Int),rf 4,I (n:Int),I 0] [fh a,cO ew ms,ez,ez,ei m]=some R:=by
 obtain⟨k,rfl⟩:∃k,n=k+1:=⟨n - 1,by omega⟩;have c:(0:Int) < ((k+1:Nat):Int):=by omega
 obtain⟨y,b,g⟩:=pA m.re (show 0<=100 by omega);have f:=Iq (a:=a) (ew:=ew) (ms:=ms) (i:=i) (n:=k+1) ok (show 0<=100 by omega) (tA ok d e k 1 [bt m 0] (by omega) (by simp;omega) h);refine ah ?_;rw [Fc];simp only [ai,↓reduceIte,Int.reduceBEq,Int.reduceEq,c];rw [show(0:Int)= ((0:Nat):Int) from rfl];simp only [ai,↓reduceIte,Int.reduceBEq,Int.reduceEq,b,g];exact f
theorem CY(s:Int):Or (.call 20) [I s] []=some [ti (if aH s=true then((cP s:Nat):Int) else 0)]:=by
 refine ah ?_;rw [Fe];simp only [se];cases h:aH s with
 | true=>
  have c:=oZ.1 h;have a:(decide (s > 10) && decide (s<=18))=true:=by simpa [aH] using h
  have b:i64.wrap (s - 10)= ((cP s:Nat):Int):=by rw [wr (by omega)];unfold cP;omega
  simp only [a,aZ,b,↓reduceIte]
 | false=>
  have a:(decide (s > 10) && decide (s<=18))=false:=by simpa [aH] using h
  simp only [a,bo,MZ,↓reduceIte]
def jE(m:Me):Me:=⟨false,m.er,m.rs,nV m.re⟩
def fZ(d:Dc)(m:Me):List Me:=if aH d.so=true then fi m 0 (cP d.so) else [jE m]
def fL:List Dc->List Me->List Me
 | d::ds,m::ms=>fZ d m++fL ds ms
 | _,_=> []
theorem AF:∀{l:List En},l9 (l.map nE) l
 | []=>trivial
 | _::_=>⟨⟨.refl _,np.rfl⟩,AF⟩
theorem yr(d:Dc)(m:Me):gL (gg d m) (fZ d m):=by
 unfold gg fZ;split
 .exact .rfl
 .exact⟨⟨AF,np.rfl⟩,trivial⟩
theorem yw:∀(ds:List Dc) (ms:List Me),gL (fB ds ms) (fL ds ms)
 | [],[]=>trivial
 | [],_::_=>trivial
 | _::_,[]=>trivial
 | d::ds,m::ms=>gL.app (yr d m) (yw ds ms)
theorem yt(d:Dc)(m:Me):(fZ d m).length<=8:=by rw [<-vW (yr d m)];exact sv d m
theorem Il{a:As}{ew:Bool}{ms:List Me}(o:nU a.ds ms):∀(r:List Dc) (c:List Me) (i:Nat) (b:List Me),a.ds.drop i=r->ms.drop i=c->b.length+8 * r.length<=1000->
  Or kM [rf 0,rf 1,rf 2,rf 3,I (i:Int)] [fh a,cO ew ms,ez,ad.box [ow 4],ad.sl false 5 false (cu (b))]=some [T.ab 5 false (cu (b++fL r c))]:=by
 intro r;have:=o.dl;have x:=o.ml;induction r with
 | nil=>
  intro c i b g l k;have j:¬(i:Int) < (a.ds.length:Int):=by have:=bh g;omega
  have w:fL [] c= []:=by simp [fL]
  refine ah ?_;rw [vf];simp only [ai,↓reduceIte,Int.reduceBEq,Int.reduceEq,bZ,j,w,MU]
 | cons d r y=>
  intro c i b g l k;obtain⟨s,B,v⟩:=bp g;cases c with
  | nil=>have:=bh l;omega
  | cons m c=>
  obtain⟨q,D,z⟩:=bp l;have hm:=MD q;have ok:=o.ok m hm;have j:(i:Int) < (a.ds.length:Int):=by omega
  have t:(i:Int) < (ms.length:Int):=by omega
  have h0: 0<=(i:Int):=by omega
  have e:=CY d.so;have A:=yt d m;rw [ME] at k;have h:=y c (i+1) (b++fZ d m) v z (by rw [Ny];omega);rw [MY] at h;rw [fL];cases f:aH d.so with
  | false=>
   rw [f,if_neg (by decide)] at e;have hs:fZ d m= [jE m]:=by unfold fZ;rw [f];rfl
   rw [hs] at h⊢;have hl: [[T.ab 5 m.er (aG m.rs),ti m.re.n,ti m.re.d,T.ab 2 m.re.ec (bB m.re.cs),ti m.re.r]]= [[mT (jE m),ti (jE m).re.n,ti (jE m).re.d,cT (jE m).re,ti (jE m).re.r]]:=rfl;have p:=tA (a:=a) (ew:=ew) (ms:=ms) (m:=m) (i:=i) (n:=0) ok (show i<=100 by omega) (by omega) 0 0 (b++ [jE m]) rfl (by rw [Ny,MC];omega) (by simpa only [fi,MU] using h);refine ah ?_;rw [vf];simp only [ai,↓reduceIte,Int.reduceBEq,Int.reduceEq,j,t,h0,and_self,bZ,eu,dK s,l8 q,jB,cU,e,MC,cm (show b.length+1<=1000000 by omega),hl,oL];exact p
  | true=>
   rw [f,if_pos rfl] at e;have C:=oZ.1 f;have hs:fZ d m=fi m 0 (cP d.so):=by unfold fZ;rw [f];rfl
   rw [hs] at h⊢;have u:(((cP d.so:Nat):Int)==0)=false:=by rw [beq_eq_false_iff_ne];unfold cP;omega
   have p:=tA (a:=a) (ew:=ew) (ms:=ms) ok (show i<=100 by omega) (show cP d.so<=100 by unfold cP;omega) (cP d.so) 0 b (by omega) (by unfold cP;omega) h;refine ah ?_;rw [vf];simp only [aP,aX,bQ,oA,l4,sF,bn,bU,aZ,bo,et,↓reduceIte,j,t,h0,and_self,bZ,eu,dK s,l8 q,jB,cU,e,u];exact p
theorem Im{a:As}{ew:Bool}{ms:List Me}(o:nU a.ds ms):∃x,Or kM [rf 0,rf 1,rf 2,rf 3,I 0] [fh a,cO ew ms,ez,ez]=some [x]/\x.an 5=some (a.ds.isEmpty,cu (fL a.ds ms)):=by
 have v:=o.dl;have g:=o.ml;by_cases h:a.ds= []
 .have l:¬(0:Int) < (a.ds.length:Int):=by rw [h];simp
  refine⟨T.af true,ah ?_,by rw [h];rfl⟩;rw [ve];simp only [ai,↓reduceIte,Int.reduceBEq,Int.reduceEq,bZ,l]
 obtain⟨d,r,b⟩:=Po h;have p:ms≠[]:=by intro e;rw [e,b] at g;simp at g
 obtain⟨m,z,c⟩:=Po p;have hm:m∈ms:=by rw [c];exact Mv
 have ok:=o.ok m hm;have l:(0:Int) < (a.ds.length:Int):=by rw [b];simp
 have t:(0:Int) < (ms.length:Int):=by rw [c];simp
 have h0:(0:Int)<=0:=by omega
 have s:(aI a.ds)[(0:Int).toNat]? =some [T.str d.nm,T.ab 1 d.ea (enc d.ar),ti d.so]:=by rw [b];rfl
 have y:(cu ms)[(0:Int).toNat]? =some [mT m,ti m.re.n,ti m.re.d,cT m.re,ti m.re.r]:=by rw [c];rfl
 have f:=CY d.so;have A:=yt d m;have k:=Il (a:=a) (ew:=ew) o r z 1 (fZ d m) (by rw [b];rfl) (by rw [c];rfl) (by rw [b,ME] at v;omega);have u:fL a.ds ms=fZ d m++fL r z:=by rw [b,c,fL]
 rw [<-u] at k;refine⟨T.ab 5 false (cu (fL a.ds ms)), ?_,by rw [bU,b];rfl⟩;cases j:aH d.so with
 | false=>
  rw [j,if_neg (by decide)] at f;have hs:fZ d m= [jE m]:=by unfold fZ;rw [j];rfl
  rw [hs] at k;have hl: [[T.ab 5 m.er (aG m.rs),ti m.re.n,ti m.re.d,T.ab 2 m.re.ec (bB m.re.cs),ti m.re.r]]=cu [jE m]:=rfl;have q:=tA (a:=a) (ew:=ew) (ms:=ms) (m:=m) (i:=0) (n:=0) ok (by omega) (by omega) 0 0 [jE m] rfl (by simp) (by simpa only [fi,MU] using k);refine ah ?_;rw [ve];simp only [ai,↓reduceIte,Int.reduceBEq,Int.reduceEq,l,t,h0,and_self,bZ,eu,s,y,jB,cU,f,hl];exact q
 | true=>
  rw [j,if_pos rfl] at f;have B:=oZ.1 j;have hs:fZ d m=fi m 0 (cP d.so):=by unfold fZ;rw [j];rfl
  rw [hs] at k;have w:(((cP d.so:Nat):Int)==0)=false:=by rw [beq_eq_false_iff_ne];unfold cP;omega
  have q:=Ik (a:=a) (ew:=ew) (ms:=ms) (i:=0) ok (by omega) (show cP d.so<=100 by unfold cP;omega) (show 0 < cP d.so by unfold cP;omega) k;refine ah ?_;rw [ve];simp only [aP,aX,bQ,oA,l4,sF,bn,bU,aZ,bo,et,↓reduceIte,l,t,h0,and_self,bZ,eu,s,y,jB,cU,f,w];exact q
theorem Kj{a:As}{ew:Bool}{ms:List Me}(b:nU a.ds ms):∃x,Or (.call 11) [AG a,WG ew ms] []=some [x]/\x.an 5=some (a.ds.isEmpty,cu (fL a.ds ms)):=by obtain⟨x,h,c⟩:=Im (a:=a) (ew:=ew) b;refine⟨x,ah ?_,c⟩;rw [Fb];exact h
structure xY (a:As) (ms:List Me):Prop where
 aw:pU a
 nm:∀d∈a.ds,d.nm.size<=9223372036854775807
 wf:∀m∈ms,ff m
theorem Ie{d:Dc}{m:Me}(h:jC d m=0):m.rs.length<=1000/\(∀e∈m.rs,e.ar.length=d.ar.length)/\eS d.so m.re=true/\∀e∈m.rs,eS d.so e.to=true:=by
 unfold jC at h;by_cases g: 1000 < m.rs.length
 .rw [if_pos g] at h;exact absurd h (by decide)
 rw [if_neg g] at h;by_cases a:(m.rs.any λe=> !((e.ar.length:Int)== (d.ar.length:Int)))=true
 .rw [if_pos a] at h;exact absurd h (by decide)
 rw [if_neg a] at h;by_cases i:(m.rs.any λe=>e.ar.any λn=> !dW n)=true
 .rw [if_pos i] at h;exact absurd h (by decide)
 rw [if_neg i] at h;by_cases j:oC [] m.rs=true
 .rw [if_pos j] at h;exact absurd h (by decide)
 rw [if_neg j] at h;by_cases b:eS d.so m.re=false
 .rw [if_pos b] at h;exact absurd h (by decide)
 rw [if_neg b] at h;by_cases c:(m.rs.any λe=> !eS d.so e.to)=true
 .rw [if_pos c] at h;exact absurd h (by decide)
 rw [Oz] at a c;refine⟨by omega,λe f=> ?_,by simpa using b,λe f=> ?_⟩
 .have:=NZ.1 a e f;simp only [Oz,Ol,beq_iff_eq] at this;omega
 .have:=NZ.1 c e f;simpa using this
theorem EY{a:As}{ms:List Me}(f:xY a ms)(h:(jD a ms).1=0):nU a.ds ms:=by
 obtain⟨i,c,k⟩:=If h;obtain⟨ok,d⟩:=u6 (es:=(cY a).1.isEmpty) i;have p:a.ds.length<=30:=ok.dl;refine⟨by omega,c,f.wf,λm hm=> ?_⟩;obtain⟨j,g⟩:=Oy hm;have b:j < a.ds.length:=by rw [<-c];exact(My.1 g).1
 obtain⟨n,o,_⟩:=Ie (k j _ m (MJ b) g);exact⟨n,λe l=>by rw [o e l];have:=d _ (O7 b);omega⟩
theorem EZ(a:As):∃x y z c p,sD a= [x,y,z,ti c,ti p]/\(x.an 3).isSome=true/\(y.an 5).isSome=true/\(z.an 1).isSome=true:=by
 unfold sD;split
 .unfold sE kE;split
  .repeat' split
   all_goals exact⟨_,_,_,_,_,rfl,by simp only [bU,bY];rfl,by simp only [bU,bY];rfl,by simp only [bU,bY];rfl⟩
  .exact⟨_,_,_,_,_,rfl,by simp only [bU];rfl,by simp only [bU];rfl,by simp only [bU];rfl⟩
 .exact⟨_,_,_,_,_,rfl,rfl,rfl,rfl⟩
theorem El{m:Me}(ok:fg m)(b:Nat):iU (bt m b):=
 ⟨by have:=ok.rl;simpa [bt] using this,by simp [bt,lZ],λe a=>by
  obtain⟨x,c,rfl⟩:=M7.1 (show e∈m.rs.map (bC b) from a);exact⟨by simp [bC,lZ],by have:=ok.al x c;simpa [bC] using this⟩⟩
theorem uR{m:Me}(ok:fg m):∀(k b:Nat),∀x∈fi m b k,iU x
 | 0,_,x,h=>by cases h
 | k+1,b,x,h=>by
  rw [fi,MN] at h;rcases h with rfl | h
  .exact El ok b
  .exact uR ok k (b+1) x h
theorem BI{m:Me}{em er:Bool}(wf:ff m)(ok:fg m):iU ⟨em,er,m.rs,nV m.re⟩/\iU ⟨em,er,m.rs.map nE,nV m.re⟩:=
 ⟨⟨ok.rl,wf.re,λe a=>⟨wf.rs e a,ok.al e a⟩⟩,⟨by have:=ok.rl;simpa using this,wf.re,λe a=>by
  obtain⟨x,b,rfl⟩:=M7.1 (show e∈m.rs.map nE from a);exact⟨wf.rs x b,ok.al x b⟩⟩⟩
theorem yR:∀{ds:List Dc} {ms:List Me},(∀m∈ms,ff m/\fg m)->(∀x∈fB ds ms,iU x)/\(∀x∈fL ds ms,iU x)
 | [],[],_=>⟨λx h=>by simp [fB] at h,λx h=>by simp [fL] at h⟩
 | [],_::_,_=>⟨λx h=>by simp [fB] at h,λx h=>by simp [fL] at h⟩
 | _::_,[],_=>⟨λx h=>by simp [fB] at h,λx h=>by simp [fL] at h⟩
 | d::ds,m::ms,hm=>by
  obtain⟨a,b⟩:=yR (ds:=ds) (ms:=ms) λx c=>hm x (Mx _ c);obtain⟨w,o⟩:=hm m Mv;rw [fB,fL];refine⟨λx h=> ?_,λx h=> ?_⟩
  .rcases MQ.1 h with h | h
   .unfold gg at h;split at h
    .exact uR o _ _ x h
    .simp only [MI] at h;subst h;exact(BI w o).2
   .exact a x h
  .rcases MQ.1 h with h | h
   .unfold fZ at h;split at h
    .exact uR o _ _ x h
    .simp only [MI] at h;subst h;exact(BI w o).1
   .exact b x h
theorem HM{a:As}{ew:Bool}{ms:List Me}(b:xY a ms)(o:Or (.call 6) [] []=some [tb true]):Or (.call 3) [AG a,WG ew ms] []=some [tb true]:=by
 have h:=s8 (a:=a) (ew:=ew) (ms:=ms) b.nm b.wf;have k:=Lw (a:=a) b.aw b.nm;obtain⟨x,y,z,c,p,w,e,f,g⟩:=EZ a;rw [w] at k;obtain⟨C,e⟩:=NB.1 e;obtain⟨D,f⟩:=NB.1 f;obtain⟨E,g⟩:=NB.1 g;by_cases hm:(jD a ms).1=0
 .have i:=EY b hm;have d:((jD a ms).1==0)=true:=by simpa using hm
  by_cases q:c=0
  .subst q;obtain⟨v,t,B⟩:=Je (ed:=a.ed) (ew:=ew) i;obtain⟨u,s,A⟩:=Kj (a:=a) (ew:=ew) i;have j:Or (.call 7) [AG a,WG ew ms] []=some [v,ti 0,ti 0]:=by
    refine ah ?_;rw [e7];simp only [ai,↓reduceIte,Int.reduceBEq,Int.reduceEq,h,hm,Mz,k,e,f,g,bZ];exact t
   have n:=yR (ds:=a.ds) (ms:=ms) (λm hm=>⟨i.wf m hm,i.ok m hm⟩);have r:=Kd (ew:=a.ds.isEmpty) (ew':=a.ds.isEmpty) (by have:=yQ a.ds ms;have:=i.dl;omega) n.1 n.2 (yw a.ds ms);refine ah ?_;rw [e3];simp only [ai,↓reduceIte,Int.reduceBEq,Int.reduceEq,o,Mz,j,B,h,hm,k,e,f,g,s,A,r,MA]
  .have l:(c==0)=false:=by simpa using q
   have j:Or (.call 7) [AG a,WG ew ms] []=some [T.af true,ti c,ti p]:=by refine ah ?_;rw [e7];simp only [aP,aX,bQ,l4,ql,bn,aZ,bo,h,d,Mz,k,e,f,g,l,MA]
   refine ah ?_;rw [e3];simp only [aP,aX,bQ,l4,ql,bT,bn,bY,aZ,bo,o,Mz,MA,j,h,d,k,e,f,g,l,beq_self_eq_true,NK,MS];rfl
 .have d:((jD a ms).1==0)=false:=by simpa using hm
  have j:Or (.call 7) [AG a,WG ew ms] []=some [T.af true,ti (jD a ms).1,ti (jD a ms).2]:=by refine ah ?_;rw [e7];simp only [aP,aX,bQ,bn,aZ,h,d,MA]
  refine ah ?_;rw [e3];simp only [aP,aX,bQ,l4,ql,bT,bn,bY,aZ,bo,o,Mz,MA,j,h,d,beq_self_eq_true,NK,MS];rfl
end Go.Aev.Gen
