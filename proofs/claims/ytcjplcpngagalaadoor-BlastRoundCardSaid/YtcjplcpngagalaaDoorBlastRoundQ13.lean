import Derived.Test.YtcjplcpngagalaaDoorBlastRoundQ8
import Derived.Test.YtcjplcpngagalaaDoorBlastRoundQ12
set_option linter.all false
namespace Go.Aev.Gen
open Go Go.Aev Go.IntKind
abbrev ML:Nat:=8796093022208
structure Va where
 em:Bool
 n:Int
 d:Int
 ec:Bool
 cs:List (Int×Int)
 r:Int
structure En where
 ea:Bool
 ar:List Int
 to:Va
structure Me where
 em:Bool
 er:Bool
 rs:List En
 re:Va
def bV(l:List (Int×Int)):List (List T):=l.map λp=> [ti p.1,ti p.2]
def cT(v:Va):T:=bif v.em && v.cs.isEmpty then T.ae v.ec else T.ab 2 v.ec (bV v.cs)
theorem cN(v:Va):(cT v).an 2=some (v.ec,bV v.cs):=by
 unfold cT;cases a:v.em && v.cs.isEmpty with
 | true=>rw [QF,Sb] at a;rw [a.2];simp only [a8,cn];rfl
 | false=>simp only [bo,bU]
def aH(l:List En):List (List T):=l.map λe=> [T.ab 1 e.ea (enc e.ar),ti e.to.n,ti e.to.d,cT e.to,ti e.to.r]
def mT(m:Me):T:=bif m.em && m.rs.isEmpty then T.ae m.er else T.ab 5 m.er (aH m.rs)
theorem jy(m:Me):(mT m).an 5=some (m.er,aH m.rs):=by
 unfold mT;cases a:m.em && m.rs.isEmpty with
 | true=>rw [QF,Sb] at a;rw [a.2];simp only [a8,cn];rfl
 | false=>simp only [bo,bU]
def cv(l:List Me):List (List T):=l.map λm=> [mT m,ti m.re.n,ti m.re.d,cT m.re,ti m.re.r]
abbrev VG(v:Va):AV:=AV.agg [I v.n,I v.d,AV.t (T.ab 2 v.ec (bV v.cs)),I v.r]
abbrev EG(e:En):AV:=AV.agg [AV.t (T.ab 1 e.ea (enc e.ar)),I e.to.n,I e.to.d,AV.t (T.ab 2 e.to.ec (bV e.to.cs)),I e.to.r]
abbrev MG(m:Me):AV:=AV.agg [AV.t (T.ab 5 m.er (aH m.rs)),I m.re.n,I m.re.d,AV.t (T.ab 2 m.re.ec (bV m.re.cs)),I m.re.r]
abbrev WG(e:Bool)(l:List Me):AV:=AV.agg [AV.t (T.ab 5 e (cv l))]
abbrev DG(d:Dc):AV:=AV.agg [AV.t (T.str d.nm),AV.t (T.ab 1 d.ea (enc d.ar)),I d.so]
abbrev DP(d:Dc):AV:=AV.t (T.ptr [T.str d.nm,T.ab 1 d.ea (enc d.ar),ti d.so])
theorem qm(l:List (Int×Int)):(bV l).length=l.length:=by simp [bV]
theorem yc{l:List (Int×Int)}{i:Nat}{p:Int×Int}(h:l[i]? =some p):(bV l)[((i:Nat):Int).toNat]? =some [ti p.1,ti p.2]:=by simp [bV,h]
theorem cu(l:List En):(aH l).length=l.length:=by simp [aH]
theorem fh{l:List En}{i:Nat}{e:En}(h:l[i]? =some e):(aH l)[((i:Nat):Int).toNat]? =some [T.ab 1 e.ea (enc e.ar),ti e.to.n,ti e.to.d,cT e.to,ti e.to.r]:=by simp [aH,h]
theorem ei(l:List Me):(cv l).length=l.length:=by simp [cv]
theorem nh{l:List Me}{i:Nat}{m:Me}(h:l[i]? =some m):(cv l)[((i:Nat):Int).toNat]? =some [mT m,ti m.re.n,ti m.re.d,cT m.re,ti m.re.r]:=by simp [cv,h]
theorem EN(i:Nat)(h:i<=ML):i64.wrap ((i:Int)+1)= ((i+1:Nat):Int):=by rw [wr (by unfold ML at h;omega)];omega
def dO(n:Int):Bool:=decide (n>=0) && decide (n<=1000)
theorem td(n:Int):Or (.call 63) [I n] []=some [tb (dO n)]:=by refine ah ?_;rw [I7];simp only [xh,dO]
theorem LK:∀(b a:Nat),Or tB [AV.t (.int .u64 (a:Int)),AV.t (.int .u64 (b:Int))] []=some [.int .u64 (Nat.gcd b a:Nat)]:=by
 intro b;induction b using Nat.strongRecOn with
 | _ b f=>
  intro a;refine ah ?_;rw [It];by_cases h:b=0
  .subst h;simp
  .have d:((b:Int)==0)=false:=by simpa using h
   have e:¬(b:Int)=0:=by omega
   have c:=f (a % b) (TM _ (by omega)) b;rw [show Nat.gcd (a % b) b=Nat.gcd b a from(Nat.gcd_rec b a).symm] at c;simp only [d,e,QG,a8,↓reduceIte,aK];rw [show((a:Int).tmod (b:Int))= ((a % b:Nat):Int) from by simp [Int.tmod]];exact c
theorem F2{n:Int}(h: -1073741824<=n/\n<=1073741824):Or (.call 94) [I n] []=some [.int .u64 (n.natAbs:Int)]:=by
 have b:∀v:Int,u64.wrap v=v % 18446744073709551616:=λv=>by simp [IntKind.wrap,IntKind.bits,IntKind.signed]
 refine ah ?_;rw [Iu];by_cases h0:n < 0
 .have a:u64.wrap (0 - u64.wrap n)= (n.natAbs:Int):=by
   rw [b,b];omega
  simp only [h0,decide_true,a8,a]
 .have a:u64.wrap n= (n.natAbs:Int):=by rw [b];omega
  simp only [h0,decide_false,bo,a]
def r9(n d:Int):Bool:= !(((decide (d < 1) || decide (d > 1073741824)) || decide (n < -1073741824)) || decide (n > 1073741824))
def nq(n d:Int):Int:=if r9 n d=true/\Nat.gcd d.natAbs n.natAbs=1 then 0 else 3
theorem PA(n d:Int):Or (.call 83) [AV.agg [I n,I d]] []=some [ti (nq n d),ti 0]:=by
 refine ah ?_;rw [Ka];simp only [uh];unfold nq;cases a:r9 n d with
 | false=>unfold r9 at a;rw [Sx] at a;simp only [a,QE,eV,bq,aK,R9,a8];rfl
 | true=>
  have c: -1073741824<=n/\n<=1073741824/\1<=d/\d<=1073741824:=by unfold r9 at a;simp only [Rv,RD,decide_eq_false_iff_not] at a;omega
  unfold r9 at a;rw [Rv] at a;have f:=F2 (n:=n) ⟨c.1,c.2.1⟩;have g:=F2 (n:=d) ⟨by omega,c.2.2.2⟩;have h:Or (.call 93) [AV.t (.int .u64 (n.natAbs:Int)),AV.t (.int .u64 (d.natAbs:Int))] []=some [.int .u64 (Nat.gcd d.natAbs n.natAbs:Nat)]:=by refine ah ?_;rw [Is];exact LK _ _
  simp only [a,QG,dY,f,g,h,aK,aP,ba,Ri];by_cases b:Nat.gcd d.natAbs n.natAbs=1
  .rw [if_pos ⟨trivial,b⟩,b];rfl
  .have e:(((Nat.gcd d.natAbs n.natAbs:Nat):Int)==1)=false:=by
    rw [beq_eq_false_iff_ne];omega
   simp only [e,b,QG,a8,and_false,↓reduceIte]
def yQ:Option Int->Int->Bool
 | none,_=>true
 | some p,x=> !decide (x<=p)
def rS(r:Int):Option Int->List (Int×Int)->Bool
 | _,[]=>true
 | a,c::t=>(dO c.1 && dO c.2 && !(c.2==r) && yQ a c.1) && rS r (some c.1) t
def wW(v:Va):Bool:=(v.n==0 && v.d==0) && dO v.r && rS v.r none v.cs
abbrev Ah(v:Va):ad:=ad.box [I v.n,I v.d,AV.t (T.ab 2 v.ec (bV v.cs)),I v.r]
theorem M5{v:Va}(hl:v.cs.length<=ML):∀(t:List (Int×Int)) (i:Nat) (b:Option Int),v.cs.drop i=t->i<=v.cs.length->(i=0/\b=none\/∃j p,i=j+1/\v.cs[j]? =some p/\b=some p.1)->
  Or tN [r0,AV.t (T.ab 2 v.ec (bV v.cs)),I (v.cs.length:Int),I (i:Int)] [Ah v]=some [tb (rS v.r b t)]:=by
 intro t;induction t with
 | nil=>
  intro i b g w l;have e:¬(i:Int) < (v.cs.length:Int):=by have:=bh g;omega
  refine ah ?_;rw [CJ];simp only [aj,↓reduceIte,e,rS]
 | cons c t y=>
  intro i b g w l;obtain⟨k,D,o⟩:=bm g;have e:(i:Int) < (v.cs.length:Int):=by omega
  have h0: 0<=(i:Int):=by omega
  have z:=td c.1;have a:=td c.2;have m:=y (i+1) (some c.1) o (by omega) (.inr ⟨i,c,rfl,k,rfl⟩);have n:=EN i (by omega);rw [rS];refine ah ?_;rw [CJ];simp only [uh,xh,aK,aP,bA,ba,bC,e,h0,and_self,decide_true,a8,↓reduceIte,qm,yc k,z];cases B:dO c.1 with
  | false=>simp only [aj,R9,bq]
  | true=>
  cases h:dO c.2 with
  | false=>rw [h] at a;simp only [aj,R9,Ri,bq,a]
  | true=>
  rw [h] at a;cases d:c.2==v.r with
  | true=>simp only [aK,aP,bC,dY,gK,gJ,a8,R9,To,Ri,R4,RP,RB,bq,a]
  | false=>
   rcases l with⟨rfl,rfl⟩ | ⟨j,p,rfl,x,rfl⟩
   .have f:¬((0:Nat):Int) > 0:=by omega
    simp only [aK,aP,bC,dY,gK,gJ,bo,Ri,R4,RP,RB,R1,bq,a,f,decide_false,n,yQ];exact m
   .have f:((j+1:Nat):Int) > 0:=by omega
    have A:i64.wrap (((j+1:Nat):Int) - 1)= (j:Int):=by rw [wr (by unfold ML at hl;omega)];omega
    have u:(j:Int) < (v.cs.length:Int):=by omega
    have s:(0:Int)<=(j:Int):=by omega
    have q:(bV v.cs)[j]? =some [ti p.1,ti p.2]:=by have:=yc x;simpa using this
    simp only [aK,aP,ba,bC,dY,gK,gJ,Ri,RB,R1,a,f,decide_true,A,u,s,and_self,↓reduceIte,Q8,q,yQ];cases C:decide (c.1<=p.1) with
    | true=>simp only [a8,QE,RP]
    | false=>simp only [bo,QG,RB,n];exact m
theorem Pz{v:Va}(hl:v.cs.length<=ML):Or (.call 82) [VG v] []=some [tb (wW v)]:=by
 have b:=M5 hl v.cs 0 none rfl (RL _) (.inl ⟨rfl,rfl⟩);have k:=td v.r;unfold wW;refine ah ?_;rw [J9];simp only [uh,R1,qm];cases c:(v.n==0 && v.d==0) with
 | false=>simp only [QG,QE,eV,aK,bq,R9,a8,RP]
 | true=>
 cases a:dO v.r with
 | false=>rw [a] at k;simp only [QG,QE,dY,aK,aP,bC,k,Ri,a8,RP,RB]
 | true=>rw [a] at k;simp only [QG,QE,dY,aK,aP,bC,k,Ri,bo,RB];exact b
def cY(s:Int)(v:Va):Bool:=
 if s=5 then wW v
 else if v.cs≠[]\/v.r≠0\/nq v.n v.d≠0\/(s≠3/\v.d≠1) then false
 else if s=1 then(v.n==0 || v.n==1)
 else if s=4 then dO v.n
 else if aE s=true then(decide (v.n>=0) && decide (v.n < 2 ^ (s - 10).toNat))
 else true
theorem F8(s:Int){v:Va}(hl:v.cs.length<=ML):Or (.call 65) [I s,VG v] []=some [tb (cY s v)]:=by
 have k:=Pz hl;unfold cY;refine ah ?_;rw [I9];by_cases j:s=5
 .subst j;simp only [aj,↓reduceIte,Int.reduceBEq,k]
 simp only [xk,j,↓reduceIte,qm,uh,xh];have y:=PA v.n v.d;cases c:(decide ((v.cs.length:Int) > 0) || !v.r==0) with
 | true=>
  have:v.cs≠[]\/v.r≠0\/nq v.n v.d≠0\/(s≠3/\v.d≠1):=by
   rw [Rq] at c;rcases c with b | b
   .left;intro e;rw [e] at b;simp at b
   .right;left;simpa using b
  rw [if_pos this];simp only [QE,eV,aK,bq,R9,a8]
 | false=>
 have l:v.cs= []/\v.r=0:=by
  rw [RD] at c;refine⟨?_,by simpa using c.2⟩;cases h:v.cs with
  | nil=>rfl
  | cons a b=>rw [h] at c;simp at c
 simp only [QG,dY,y,aK,aP,bA,ba,Ri];cases f:(!nq v.n v.d==0 || (!s==3 && !v.d==1)) with
 | true=>
  have:v.cs≠[]\/v.r≠0\/nq v.n v.d≠0\/(s≠3/\v.d≠1):=by
   right;right;rw [Rq] at f;rcases f with b | b
   .left;simpa using b
   .right;simpa using b
  rw [if_pos this];simp only [a8]
 | false=>
 have x:¬(v.cs≠[]\/v.r≠0\/nq v.n v.d≠0\/(s≠3/\v.d≠1)):=by
  rw [RD] at f;have g:nq v.n v.d=0:=by simpa using f.1
  have w:¬(s≠3/\v.d≠1):=by have:=f.2;simpa using this
  rintro(h | h | h | h)
  .exact h l.1
  .exact h l.2
  .exact h g
  .exact w h
 rw [if_neg x];simp only [bo];by_cases g:s=1
 .subst g;simp only [↓reduceIte];by_cases m:v.n=0
  .simp [m]
  .simp [m]
 simp only [g,↓reduceIte];by_cases i:s=4
 .subst i;have p:=td v.n;simp only [↓reduceIte,p,aK,aP,bC]
 simp only [i,↓reduceIte];have o:=fZ s;simp only [o,aK,aP,bC];cases q:aE s with
 | false=>simp
 | true=>
  have hs: 10 < s/\s<=18:=by simpa [aE] using q
  obtain⟨b,rfl⟩:∃b:Nat,s=10+ (b:Int):=⟨(s - 10).toNat,by omega⟩;have A: 1<=b/\b<=8:=by omega
  have z:i64.wrap (10+ (b:Int) - 10)= (b:Int):=by rw [wr (by omega)];omega
  have h0:¬(b:Int) < 0:=by omega
  have t:(10+ (b:Int) - 10).toNat=b:=by omega
  have u:i64.wrap (1 * 2 ^ min b 64)=2 ^ b:=by rcases(by omega:b=1\/b=2\/b=3\/b=4\/b=5\/b=6\/b=7\/b=8) with rfl | rfl | rfl | rfl | rfl | rfl | rfl | rfl <;> decide
  simp only [a8,↓reduceIte,z,h0,aK,Q8,t,u]
theorem MV{er:Bool}{rs:List En}{d:Dc}(hl:rs.length<=900000)(h:∀e∈rs,Or (.call 60) [EG e,DP d] []=some [tb (!((e.ar.length:Int)== (d.ar.length:Int)))]):∀(r:List En) (i:Nat),rs.drop i=r->
  ∃z:Int,Or fD [AV.t (T.ab 5 er (aH rs)),AV.fn 60 [] [DP d],I (rs.length:Int),I (i:Int)] []=some [ti z]/\decide (z>=0)=r.any λe=> !((e.ar.length:Int)== (d.ar.length:Int)):=by
 intro r;induction r with
 | nil=>
  intro i g;have b:¬(i:Int) < (rs.length:Int):=by have:=bh g;omega
  refine⟨-1,ah ?_,by simp⟩;rw [xP];simp only [aj,↓reduceIte,b]
 | cons x r j=>
  intro i g;obtain⟨c,n,f⟩:=bm g;have hm:=QH c;have b:(i:Int) < (rs.length:Int):=by omega
  have h0: 0<=(i:Int):=by omega
  have k:=h x hm;cases a:(λe:En=> !((e.ar.length:Int)== (d.ar.length:Int))) x with
  | true=>replace a:(!((x.ar.length:Int)== (d.ar.length:Int)))=true:=a;rw [a] at k;refine⟨(i:Int),ah ?_,by rw [RQ];simp [a]⟩;rw [xP];simp only [aK,aP,bA,bC,ba,bU,b,h0,and_self,cu,fh c,cN,k,a8,df,↓reduceIte]
  | false=>replace a:(!((x.ar.length:Int)== (d.ar.length:Int)))=false:=a;rw [a] at k;obtain⟨z,l,m⟩:=j (i+1) f;refine⟨z,ah ?_,by rw [m,RQ,a,Ri]⟩;rw [xP];simp only [aK,aP,bA,bC,ba,bU,b,h0,and_self,cu,fh c,cN,k,bo,df,↓reduceIte,next i (by omega)];exact l
theorem OH{er:Bool}{rs:List En}{d:Dc}(hl:rs.length<=900000)(b:∀e∈rs,Or (.call 60) [EG e,DP d] []=some [tb (!((e.ar.length:Int)== (d.ar.length:Int)))]):Or (.call 33) [AV.t (T.ab 5 er (aH rs)),AV.fn 60 [] [DP d]] []=some [tb (rs.any λe=> !((e.ar.length:Int)== (d.ar.length:Int)))]:=by
 obtain⟨z,c,f⟩:=MV (er:=er) hl b rs 0 rfl;have a:Or (.call 67) [AV.t (T.ab 5 er (aH rs)),AV.fn 60 [] [DP d]] []=some [ti z]:=by refine ah ?_;rw [JY];simp only [cu];exact c
 refine ah ?_;rw [IT];simp only [aK,aP,ba,a,f]
theorem MX{er:Bool}{rs:List En}(hl:rs.length<=900000)(f:∀e∈rs,Or (.call 61) [EG e] []=some [tb (e.ar.any λn=> !dO n)]):∀(r:List En) (i:Nat),rs.drop i=r->
  ∃z:Int,Or fD [AV.t (T.ab 5 er (aH rs)),AV.fn 61 [] [],I (rs.length:Int),I (i:Int)] []=some [ti z]/\decide (z>=0)=r.any λe=>e.ar.any λn=> !dO n:=by
 intro r;induction r with
 | nil=>
  intro i g;have b:¬(i:Int) < (rs.length:Int):=by have:=bh g;omega
  refine⟨-1,ah ?_,by simp⟩;rw [xQ];simp only [aj,↓reduceIte,b]
 | cons x r h=>
  intro i g;obtain⟨c,m,d⟩:=bm g;have hm:=QH c;have b:(i:Int) < (rs.length:Int):=by omega
  have h0: 0<=(i:Int):=by omega
  have k:=f x hm;cases a:(λe:En=>e.ar.any λn=> !dO n) x with
  | true=>replace a:(x.ar.any λn=> !dO n)=true:=a;rw [a] at k;refine⟨(i:Int),ah ?_,by rw [RQ];simp [a]⟩;rw [xQ];simp only [aK,aP,bA,bC,ba,bU,b,h0,and_self,cu,fh c,cN,k,a8,df,↓reduceIte]
  | false=>replace a:(x.ar.any λn=> !dO n)=false:=a;rw [a] at k;obtain⟨z,j,l⟩:=h (i+1) d;refine⟨z,ah ?_,by rw [l,RQ,a,Ri]⟩;rw [xQ];simp only [aK,aP,bA,bC,ba,bU,b,h0,and_self,cu,fh c,cN,k,bo,df,↓reduceIte,next i (by omega)];exact j
theorem OJ{er:Bool}{rs:List En}(hl:rs.length<=900000)(b:∀e∈rs,Or (.call 61) [EG e] []=some [tb (e.ar.any λn=> !dO n)]):Or (.call 33) [AV.t (T.ab 5 er (aH rs)),AV.fn 61 [] []] []=some [tb (rs.any λe=>e.ar.any λn=> !dO n)]:=by
 obtain⟨z,c,d⟩:=MX (er:=er) hl b rs 0 rfl;have a:Or (.call 67) [AV.t (T.ab 5 er (aH rs)),AV.fn 61 [] []] []=some [ti z]:=by refine ah ?_;rw [JZ];simp only [cu];exact c
 refine ah ?_;rw [IU];simp only [aK,aP,ba,a,d]
theorem MT{er:Bool}{rs:List En}{y:En}(hl:rs.length<=900000)(h:∀e∈rs,Or (.call 64) [EG e,AV.t (T.ptr [T.ab 1 y.ea (enc y.ar),ti y.to.n,ti y.to.d,T.ab 2 y.to.ec (bV y.to.cs),ti y.to.r])] []=some [tb (decide (e.ar=y.ar))]):∀(r:List En) (i:Nat),rs.drop i=r->
  ∃z:Int,Or fD [AV.t (T.ab 5 er (aH rs)),AV.fn 64 [] [AV.t (T.ptr [T.ab 1 y.ea (enc y.ar),ti y.to.n,ti y.to.d,T.ab 2 y.to.ec (bV y.to.cs),ti y.to.r])],I (rs.length:Int),I (i:Int)] []=some [ti z]/\decide (z>=0)=r.any λe=>decide (e.ar=y.ar):=by
 intro r;induction r with
 | nil=>
  intro i g;have b:¬(i:Int) < (rs.length:Int):=by have:=bh g;omega
  refine⟨-1,ah ?_,by simp⟩;rw [xR];simp only [aj,↓reduceIte,b]
 | cons x r j=>
  intro i g;obtain⟨c,o,f⟩:=bm g;have hm:=QH c;have b:(i:Int) < (rs.length:Int):=by omega
  have h0: 0<=(i:Int):=by omega
  have k:=h x hm;cases a:(λe:En=>decide (e.ar=y.ar)) x with
  | true=>replace a:(decide (x.ar=y.ar))=true:=a;rw [a] at k;refine⟨(i:Int),ah ?_,by rw [RQ];simp [a]⟩;rw [xR];simp only [aK,aP,bA,bC,ba,bU,b,h0,and_self,cu,fh c,cN,k,a8,df,↓reduceIte]
  | false=>replace a:(decide (x.ar=y.ar))=false:=a;rw [a] at k;obtain⟨z,l,m⟩:=j (i+1) f;refine⟨z,ah ?_,by rw [m,RQ,a,Ri]⟩;rw [xR];simp only [aK,aP,bA,bC,ba,bU,b,h0,and_self,cu,fh c,cN,k,bo,df,↓reduceIte,next i (by omega)];exact l
theorem OG{er:Bool}{rs:List En}{y:En}(hl:rs.length<=900000)(b:∀e∈rs,Or (.call 64) [EG e,AV.t (T.ptr [T.ab 1 y.ea (enc y.ar),ti y.to.n,ti y.to.d,T.ab 2 y.to.ec (bV y.to.cs),ti y.to.r])] []=some [tb (decide (e.ar=y.ar))]):Or (.call 33) [AV.t (T.ab 5 er (aH rs)),AV.fn 64 [] [AV.t (T.ptr [T.ab 1 y.ea (enc y.ar),ti y.to.n,ti y.to.d,T.ab 2 y.to.ec (bV y.to.cs),ti y.to.r])]] []=some [tb (rs.any λe=>decide (e.ar=y.ar))]:=by
 obtain⟨z,c,f⟩:=MT (er:=er) hl b rs 0 rfl;have a:Or (.call 67) [AV.t (T.ab 5 er (aH rs)),AV.fn 64 [] [AV.t (T.ptr [T.ab 1 y.ea (enc y.ar),ti y.to.n,ti y.to.d,T.ab 2 y.to.ec (bV y.to.cs),ti y.to.r])]] []=some [ti z]:=by refine ah ?_;rw [J0];simp only [cu];exact c
 refine ah ?_;rw [IV];simp only [aK,aP,ba,a,f]
theorem MW{er:Bool}{rs:List En}{d:Dc}(hl:rs.length<=900000)(h:∀e∈rs,Or (.call 66) [EG e,DP d] []=some [tb (!cY d.so e.to)]):∀(r:List En) (i:Nat),rs.drop i=r->
  ∃z:Int,Or fD [AV.t (T.ab 5 er (aH rs)),AV.fn 66 [] [DP d],I (rs.length:Int),I (i:Int)] []=some [ti z]/\decide (z>=0)=r.any λe=> !cY d.so e.to:=by
 intro r;induction r with
 | nil=>
  intro i g;have b:¬(i:Int) < (rs.length:Int):=by have:=bh g;omega
  refine⟨-1,ah ?_,by simp⟩;rw [xS];simp only [aj,↓reduceIte,b]
 | cons x r j=>
  intro i g;obtain⟨c,n,f⟩:=bm g;have hm:=QH c;have b:(i:Int) < (rs.length:Int):=by omega
  have h0: 0<=(i:Int):=by omega
  have k:=h x hm;cases a:(λe:En=> !cY d.so e.to) x with
  | true=>replace a:(!cY d.so x.to)=true:=a;rw [a] at k;refine⟨(i:Int),ah ?_,by rw [RQ];simp [a]⟩;rw [xS];simp only [aK,aP,bA,bC,ba,bU,b,h0,and_self,cu,fh c,cN,k,a8,df,↓reduceIte]
  | false=>replace a:(!cY d.so x.to)=false:=a;rw [a] at k;obtain⟨z,l,m⟩:=j (i+1) f;refine⟨z,ah ?_,by rw [m,RQ,a,Ri]⟩;rw [xS];simp only [aK,aP,bA,bC,ba,bU,b,h0,and_self,cu,fh c,cN,k,bo,df,↓reduceIte,next i (by omega)];exact l
theorem OI{er:Bool}{rs:List En}{d:Dc}(hl:rs.length<=900000)(b:∀e∈rs,Or (.call 66) [EG e,DP d] []=some [tb (!cY d.so e.to)]):Or (.call 33) [AV.t (T.ab 5 er (aH rs)),AV.fn 66 [] [DP d]] []=some [tb (rs.any λe=> !cY d.so e.to)]:=by
 obtain⟨z,c,f⟩:=MW (er:=er) hl b rs 0 rfl;have a:Or (.call 67) [AV.t (T.ab 5 er (aH rs)),AV.fn 66 [] [DP d]] []=some [ti z]:=by refine ah ?_;rw [J1];simp only [cu];exact c
 refine ah ?_;rw [IW];simp only [aK,aP,ba,a,f]
theorem MU{er:Bool}{rs:List En}{y:En}(hl:rs.length<=900000)(h:∀e∈rs,Or (.call 34) [EG e,AV.t (T.ptr [T.ab 1 y.ea (enc y.ar),ti y.to.n,ti y.to.d,T.ab 2 y.to.ec (bV y.to.cs),ti y.to.r])] []=some [tb (decide (e.ar=y.ar))]):∀(r:List En) (i:Nat),rs.drop i=r->
  ∃z:Int,Or fD [AV.t (T.ab 5 er (aH rs)),AV.fn 34 [] [AV.t (T.ptr [T.ab 1 y.ea (enc y.ar),ti y.to.n,ti y.to.d,T.ab 2 y.to.ec (bV y.to.cs),ti y.to.r])],I (rs.length:Int),I (i:Int)] []=some [ti z]/\decide (z>=0)=r.any λe=>decide (e.ar=y.ar):=by
 intro r;induction r with
 | nil=>
  intro i g;have b:¬(i:Int) < (rs.length:Int):=by have:=bh g;omega
  refine⟨-1,ah ?_,by simp⟩;rw [xT];simp only [aj,↓reduceIte,b]
 | cons x r j=>
  intro i g;obtain⟨c,o,f⟩:=bm g;have hm:=QH c;have b:(i:Int) < (rs.length:Int):=by omega
  have h0: 0<=(i:Int):=by omega
  have k:=h x hm;cases a:(λe:En=>decide (e.ar=y.ar)) x with
  | true=>replace a:(decide (x.ar=y.ar))=true:=a;rw [a] at k;refine⟨(i:Int),ah ?_,by rw [RQ];simp [a]⟩;rw [xT];simp only [aK,aP,bA,bC,ba,bU,b,h0,and_self,cu,fh c,cN,k,a8,df,↓reduceIte]
  | false=>replace a:(decide (x.ar=y.ar))=false:=a;rw [a] at k;obtain⟨z,l,m⟩:=j (i+1) f;refine⟨z,ah ?_,by rw [m,RQ,a,Ri]⟩;rw [xT];simp only [aK,aP,bA,bC,ba,bU,b,h0,and_self,cu,fh c,cN,k,bo,df,↓reduceIte,next i (by omega)];exact l
theorem zK{er:Bool}{rs:List En}{y:En}(hl:rs.length<=900000)(b:∀e∈rs,Or (.call 34) [EG e,AV.t (T.ptr [T.ab 1 y.ea (enc y.ar),ti y.to.n,ti y.to.d,T.ab 2 y.to.ec (bV y.to.cs),ti y.to.r])] []=some [tb (decide (e.ar=y.ar))]):Or (.call 33) [AV.t (T.ab 5 er (aH rs)),AV.fn 34 [] [AV.t (T.ptr [T.ab 1 y.ea (enc y.ar),ti y.to.n,ti y.to.d,T.ab 2 y.to.ec (bV y.to.cs),ti y.to.r])]] []=some [tb (rs.any λe=>decide (e.ar=y.ar))]:=by
 obtain⟨z,c,f⟩:=MU (er:=er) hl b rs 0 rfl;have a:Or (.call 67) [AV.t (T.ab 5 er (aH rs)),AV.fn 34 [] [AV.t (T.ptr [T.ab 1 y.ea (enc y.ar),ti y.to.n,ti y.to.d,T.ab 2 y.to.ec (bV y.to.cs),ti y.to.r])]] []=some [ti z]:=by refine ah ?_;rw [J2];simp only [cu];exact c
 refine ah ?_;rw [IX];simp only [aK,aP,ba,a,f]
theorem M2{e:Bool}{l:List Int}(hl:l.length<=1000):∀(r:List Int) (i:Nat),l.drop i=r->
  ∃z:Int,Or eN [ab e l,AV.fn 62 [] [],I (l.length:Int),I (i:Int)] []=some [ti z]/\decide (z>=0)=r.any λn=> !dO n:=by
 intro r;induction r with
 | nil=>
  intro i g;have a:¬(i:Int) < (l.length:Int):=by have:=bh g;omega
  refine⟨-1,ah ?_,by simp⟩;rw [xZ];simp only [aj,↓reduceIte,a]
 | cons d r j=>
  intro i g;obtain⟨c,p,h⟩:=bm g;have a:(i:Int) < (l.length:Int):=by omega
  have h0: 0<=(i:Int):=by omega
  have f:=td d;have k:Or (.call 62) [I d] []=some [tb (!dO d)]:=by refine ah ?_;rw [I6];simp only [aK,aP,bC,f]
  cases b: !dO d with
  | true=>rw [b] at k;refine⟨(i:Int),ah ?_,by simp only [RQ,b,R9];simp⟩;rw [xZ];simp only [aK,aP,bC,ba,a,h0,and_self,aC,bH c,k,a8,df,↓reduceIte]
  | false=>rw [b] at k;obtain⟨z,m,o⟩:=j (i+1) h;refine⟨z,ah ?_,by rw [o];simp only [RQ,b,Ri]⟩;rw [xZ];simp only [aK,aP,bC,ba,a,h0,and_self,aC,bH c,k,bo,df,↓reduceIte,next i (by omega)];exact m
theorem OL{e:En}(hl:e.ar.length<=1000):Or (.call 61) [EG e] []=some [tb (e.ar.any λn=> !dO n)]:=by
 obtain⟨z,c,d⟩:=M2 (e:=e.ea) hl e.ar 0 rfl;have b:Or (.call 76) [ab e.ea e.ar,AV.fn 62 [] []] []=some [ti z]:=by refine ah ?_;rw [J8];simp only [aC];exact c
 have a:Or (.call 39) [ab e.ea e.ar,AV.fn 62 [] []] []=some [tb (e.ar.any λn=> !dO n)]:=by refine ah ?_;rw [I5];simp only [aK,aP,ba,b,d]
 refine ah ?_;rw [IZ];simp only [aK,aP,bC,a]
theorem OK(e:En)(d:Dc):Or (.call 60) [EG e,DP d] []=some [tb (!((e.ar.length:Int)== (d.ar.length:Int)))]:=by refine ah ?_;rw [IY];simp only [aC]
theorem OO{e y:En}(hl:e.ar.length<=1000):Or (.call 64) [EG e,AV.t (T.ptr [T.ab 1 y.ea (enc y.ar),ti y.to.n,ti y.to.d,T.ab 2 y.to.ec (bV y.to.cs),ti y.to.r])] []=some [tb (decide (e.ar=y.ar))]:=by have k:=wc (e:=e.ea) (e':=y.ea) (b:=y.ar) hl;refine ah ?_;rw [I8];simp only [aK,aP,bC,k]
theorem Gc{e y:En}(hl:e.ar.length<=1000):Or (.call 34) [EG e,AV.t (T.ptr [T.ab 1 y.ea (enc y.ar),ti y.to.n,ti y.to.d,T.ab 2 y.to.ec (bV y.to.cs),ti y.to.r])] []=some [tb (decide (e.ar=y.ar))]:=by have k:=wc (e:=e.ea) (e':=y.ea) (b:=y.ar) hl;refine ah ?_;rw [JB];simp only [aK,aP,bC,k]
theorem OP{e:En}{d:Dc}(hl:e.to.cs.length<=ML):Or (.call 66) [EG e,DP d] []=some [tb (!cY d.so e.to)]:=by have k:=F8 d.so hl;refine ah ?_;rw [Ja];simp only [aK,aP,bC,k]
def fI:List En->List En->Bool
 | _,[]=>false
 | a,e::r=>(a.any λx=>decide (x.ar=e.ar)) || fI (a++ [e]) r
def eQ(d:Dc)(m:Me):Int:=
 if 1000 < m.rs.length then 9
 else if(m.rs.any λe=> !((e.ar.length:Int)== (d.ar.length:Int)))=true then 9
 else if(m.rs.any λe=>e.ar.any λn=> !dO n)=true then 3
 else if fI [] m.rs=true then 7
 else if cY d.so m.re=false then 8
 else if(m.rs.any λe=> !cY d.so e.to)=true then 8
 else 0
structure dQ (m:Me):Prop where
 re:m.re.cs.length<=ML
 rs:∀e∈m.rs,e.to.cs.length<=ML
 rcc:m.re.ec=true->m.re.cs= []
 zG:∀e∈m.rs,e.to.ec=true->e.to.cs= []
 ea:∀e∈m.rs,e.ea=true->e.ar= []
abbrev Ib(d:Dc):ad:=ad.box [AV.t (T.str d.nm),AV.t (T.ab 1 d.ea (enc d.ar)),I d.so]
abbrev ja(m:Me):ad:=ad.box [AV.t (T.ab 5 m.er (aH m.rs)),I m.re.n,I m.re.d,AV.t (T.ab 2 m.re.ec (bV m.re.cs)),I m.re.r]
theorem LS{d:Dc}{m:Me}(wf:dQ m)(hl:m.rs.length<=1000)(q:∀e∈m.rs,e.ar.length<=1000):∀(r:List En) (i:Nat) (a:List En),m.rs.drop i=r->a=m.rs.take i->i<=m.rs.length->
  Or tD [r0,r1,AV.t (T.ab 5 m.er (aH m.rs)),I (m.rs.length:Int),I (i:Int)] [Ib d,ja m]=some [ti (if fI a r=true then 7 else if cY d.so m.re=false then 8 else if(m.rs.any λe=> !cY d.so e.to)=true then 8 else 0)]:=by
 intro r;induction r with
 | nil=>
  intro i a g c s;have j:¬(i:Int) < (m.rs.length:Int):=by have:=bh g;omega
  have o:=F8 d.so wf.re;have b:=OI (er:=m.er) (d:=d) (by omega) (λe k=>OP (wf.rs e k));refine ah ?_;rw [xx];simp only [fI,j,decide_false,bo,o,aK,aP,bC,Q9,↓reduceIte];cases n:cY d.so m.re with
  | false=>simp only [aj,↓reduceIte,bq]
  | true=>simp only [QE,QG,dY,b,aK,aP,bC,bo,Bool.true_eq_false,↓reduceIte];cases(m.rs.any λe=> !cY d.so e.to) <;> rfl
 | cons x r v=>
  intro i a g c s;obtain⟨h,z,p⟩:=bm g;have hm:=QH h;have j:(i:Int) < (m.rs.length:Int):=by omega
  have h0: 0<=(i:Int):=by omega
  have l:fp 0 (i:Int) (m.rs.length:Int)=some ():=by unfold fp;rw [if_pos ⟨by omega,by omega,by omega⟩]
  have f:sub 0 (i:Int) (aH m.rs)=aH a:=by rw [GD,c];simp [aH,List.map_take]
  have w:a.length<=1000:=by rw [c,Rw];omega
  have b:=OG (er:=m.er) (rs:=a) (y:=x) (by omega) (λe k=>OO (by rw [c] at k;exact q e (Sp k)));have u:=v (i+1) (a++ [x]) p (by rw [c,SG,h];rfl) (by omega);rw [fI];cases n:a.any λe=>decide (e.ar=x.ar) with
  | true=>rw [n] at b;refine ah ?_;rw [xx];simp only [aK,aP,bA,bC,ba,bU,j,h0,and_self,cu,fh h,cN,l,f,b,a8,df,↓reduceIte,R9]
  | false=>rw [n] at b;refine ah ?_;rw [xx];simp only [aK,aP,bA,bC,ba,bU,j,h0,and_self,cu,fh h,cN,l,f,b,bo,df,↓reduceIte,Ri,next i (by omega)];exact u
theorem Og{d:Dc}{m:Me}(wf:dQ m)(k:d.ar.length<=1000):Or (.call 31) [DG d,MG m] []=some [ti (eQ d m)]:=by
 unfold eQ;refine ah ?_;rw [IE];simp only [cu];by_cases c: 1000 < m.rs.length
 .have a:(m.rs.length:Int) > 1000:=by omega
  rw [if_pos c];simp only [a,decide_true,QE,eV,aK,bq,a8]
 have a:¬(m.rs.length:Int) > 1000:=by omega
 rw [if_neg c];have h:=OH (er:=m.er) (rs:=m.rs) (d:=d) (by omega) (λe _=>OK e d);simp only [a,decide_false,QG,dY,aK,aP,bC,bo,h];cases g:m.rs.any λe=> !((e.ar.length:Int)== (d.ar.length:Int)) with
 | true=>simp only [a8,↓reduceIte]
 | false=>
 have f:∀e∈m.rs,e.ar.length<=1000:=λe b=>by have:=Rm.1 g e b;simp only [Si,Sx,beq_iff_eq] at this;omega
 have i:=OJ (er:=m.er) (rs:=m.rs) (by omega) (λe b=>OL (f e b));simp only [bo,aK,aP,bC,i,Q9,↓reduceIte];cases j:m.rs.any λe=>e.ar.any λn=> !dO n with
 | true=>simp only [a8,↓reduceIte]
 | false=>
 simp only [bo,Q9,↓reduceIte];exact LS wf (by omega) f m.rs 0 [] rfl rfl (RL _)
def lE:Nat->List Dc->List Me->Int×Int
 | i,d::ds,m::ms=>if eQ d m=0 then lE (i+1) ds ms else(eQ d m,(i:Int))
 | _,_,_=>(0,0)
theorem n8{ed ew:Bool}{ds:List Dc}{ms:List Me}(w:ds.length<=1000)(p:ms.length=ds.length)(wf:∀m∈ms,dQ m)(o:∀d∈ds,d.ar.length<=1000):∀(r:List Dc) (a:List Me) (i:Nat),ds.drop i=r->ms.drop i=a->
  Or tO [r0,r1,AV.t (T.ab 3 ed (aI ds)),I (ds.length:Int),I (i:Int)] [ad.box [AV.t (T.ab 5 ew (cv ms))],ad.box [I 0,I 0]]=some [ti (lE i r a).1,ti (lE i r a).2]:=by
 intro r;induction r with
 | nil=>
  intro a i g e;have b:¬(i:Int) < (ds.length:Int):=by have:=bh g;omega
  refine ah ?_;rw [CM];simp only [aj,↓reduceIte,b,lE]
 | cons d r s=>
  intro a i g e;obtain⟨f,v,l⟩:=bm g;cases a with
  | nil=>have:=bh e;omega
  | cons m a=>
  obtain⟨h,x,u⟩:=bm e;have b:(i:Int) < (ds.length:Int):=by omega
  have j:(i:Int) < (ms.length:Int):=by omega
  have h0: 0<=(i:Int):=by omega
  have k:=Og (d:=d) (wf m (QH h)) (o d (QH f));have q:=s a (i+1) l u;rw [lE];refine ah ?_;rw [CM];by_cases c:eQ d m=0
  .rw [c] at k;rw [if_pos c];simp only [aj,↓reduceIte,b,j,h0,and_self,cj,ei,dF f,nh h,jy,cN,k,next i (by omega)];exact q
  .have n:(eQ d m==0)=false:=by simpa using c
   rw [if_neg c];simp only [aK,aP,bA,ba,fc,bU,a8,df,↓reduceIte,b,j,h0,and_self,cj,ei,dF f,nh h,jy,cN,k,n,QG]
def jz(a:As)(ms:List Me):Int×Int:=
 if(bE a).2.1≠0 then(bE a).2
 else if ms.length≠a.ds.length then(9,0)
 else lE 0 a.ds ms
theorem s8{a:As}{ew:Bool}{ms:List Me}(j:∀d∈a.ds,d.nm.size<=9223372036854775807)(wf:∀m∈ms,dQ m):Or (.call 13) [AG a,WG ew ms] []=some [ti (jz a ms).1,ti (jz a ms).2]:=by
 obtain⟨x,g,k⟩:=F3 (a:=a) j;have c:Or (.call 30) [AG a] []=some [ti (bE a).2.1,ti (bE a).2.2]:=by refine ah ?_;rw [ID];simp only [aK,aP,bA,ba,k,g]
 unfold jz;refine ah ?_;rw [e8];by_cases h:(bE a).2.1=0
 .obtain⟨ok,f⟩:=pZ (es:=(bE a).1.isEmpty) h;have l:a.ds.length<=30:=ok.dl;have b:((bE a).2.1==0)=true:=by simpa using h
  rw [if_neg (by simpa using h)];simp only [aK,aP,bA,ba,c,b,QE,bo,cj,ei];by_cases hl:ms.length=a.ds.length
  .have e:((ms.length:Int)== (a.ds.length:Int))=true:=by rw [beq_iff_eq];omega
   rw [if_neg (by simpa using hl)];simp only [e,QE,bo];exact n8 (by omega) hl wf (λd i=>by have:=f d i;omega) a.ds ms 0 rfl rfl
  .have e:((ms.length:Int)== (a.ds.length:Int))=false:=by rw [beq_eq_false_iff_ne];omega
   rw [if_pos hl];simp only [e,QG,a8]
 .have b:((bE a).2.1==0)=false:=by simpa using h
  rw [if_pos h];simp only [aK,aP,bA,ba,c,b,QG,a8]
theorem xn:∀{ds:List Dc} {ms:List Me} {i:Nat},ms.length=ds.length->(lE i ds ms).1=0->∀(j:Nat) (d:Dc) (m:Me),ds[j]? =some d->ms[j]? =some m->eQ d m=0
 | [],ms,i,hl,h,j,d,m,a,hm=>by simp at a
 | d0::ds,[],i,hl,h,j,d,m,a,hm=>by simp at hm
 | d0::ds,c::ms,i,hl,h,j,d,m,a,hm=>by
  rw [lE] at h;by_cases b:eQ d0 c=0
  .rw [if_pos b] at h;cases j with
   | zero=>simp at a hm;subst a;subst hm;exact b
   | succ j=>exact xn (by simpa using hl) h j d m (by simpa using a) (by simpa using hm)
  .rw [if_neg b] at h;exact absurd h b
theorem Ew{a:As}{ms:List Me}(h:(jz a ms).1=0):(bE a).2.1=0/\ms.length=a.ds.length/\∀(j:Nat) (d:Dc) (m:Me),a.ds[j]? =some d->ms[j]? =some m->eQ d m=0:=by
 unfold jz at h;by_cases b:(bE a).2.1≠0
 .rw [if_pos b] at h;exact absurd h b
 rw [if_neg b] at h;by_cases c:ms.length≠a.ds.length
 .rw [if_pos c] at h;exact absurd (show(9:Int)=0 from h) (by decide)
 rw [if_neg c] at h;exact⟨by simpa using b,by simpa using c,xn (by simpa using c) h⟩
open Go Go.Aev Go.IntKind
theorem Ml{e e':Bool}{a b:List Int}(hl:a.length<=1000):∀(d c:List Int) (i:Nat),a.drop i=d->b.drop i=c->i<=a.length->i<=b.length->
  Or tI [ab e a,ab e' b,I (i:Int)] []=some [tb (decide (d=c))]:=by
 intro d;induction d with
 | nil=>
  intro c i g f p q;have j:¬(i:Int) < (a.length:Int):=by have:=bh g;omega
  refine ah ?_;rw [xE];simp only [aj,↓reduceIte,aC,j];have:((a.length:Int)== (b.length:Int))=decide (([]:List Int)=c):=by
   have z:a.length=i:=by have:=bh g;omega
   cases c with
   | nil=>
    have:=bh f;have e:a.length=b.length:=by omega
    rw [e];simp
   | cons y c=>obtain⟨_,u,_⟩:=bm f;rw [show decide (([]:List Int)=y::c)=false by simp,beq_eq_false_iff_ne];omega
  rw [this]
 | cons x d s=>
  intro c i g f p q;obtain⟨m,w,n⟩:=bm g;have j:(i:Int) < (a.length:Int):=by omega
  have h0: 0<=(i:Int):=by omega
  cases c with
  | nil=>
   have k:(i:Int)>=(b.length:Int):=by have:=bh f;omega
   refine ah ?_;rw [xE];simp only [bq,a8,aC,j,k,decide_true,QE];rw [show decide (x::d= ([]:List Int))=false by simp]
  | cons y c=>
   obtain⟨t,u,v⟩:=bm f;have k:¬(i:Int)>=(b.length:Int):=by omega
   have o:(i:Int) < (b.length:Int):=by omega
   have r:=s c (i+1) n v (by omega) (by omega);refine ah ?_;rw [xE];simp only [aK,aP,ba,a8,bo,↓reduceIte,aC,j,k,o,h0,and_self,decide_true,decide_false,bH m,bH t];by_cases h:x=y
   .subst h;simp only [beq_self_eq_true,QE,bo,next i (by omega)];refine r.trans ?_;simp
   .have l:(x==y)=false:=by simpa using h
    simp only [l,QG,a8];simp [h]
theorem OC{e e':Bool}{a b:List Int}(hl:a.length<=1000):Or (.call 21) [ab e a,ab e' b] []=some [tb (decide (a=b))]:=by refine ah ?_;rw [IQ];exact Ml hl a b 0 rfl rfl (RL _) (RL _)
def oO(v u:Va):Prop:=v.n=u.n/\v.d=u.d/\v.cs=u.cs/\v.r=u.r
def kK:List En->List En->Prop
 | [],[]=>True
 | e::r,x::t=>(e.ar=x.ar/\oO e.to x.to)/\kK r t
 | _,_=>False
def jt:List Me->List Me->Prop
 | [],[]=>True
 | m::r,x::t=>(kK m.rs x.rs/\oO m.re x.re)/\jt r t
 | _,_=>False
theorem oO.rfl{v:Va}:oO v v:=⟨.refl _, .refl _, .refl _, .refl _⟩
theorem kK.rfl:∀{l:List En},kK l l
 | []=>trivial
 | _::_=>⟨⟨.refl _, .rfl⟩,kK.rfl⟩
theorem jt.rfl:∀{l:List Me},jt l l
 | []=>trivial
 | _::_=>⟨⟨.rfl, .rfl⟩,jt.rfl⟩
theorem jt.app:∀{a b c d:List Me},jt a b->jt c d->jt (a++c) (b++d)
 | [],[],_,_,_,h=>h
 | _::_,_::_,_,_,h,e=>⟨h.1,jt.app h.2 e⟩
 | [],_::_,_,_,h,_=>h.elim
 | _::_,[],_,_,h,_=>h.elim
theorem C1:∀{a b:List En},kK a b->a.length=b.length
 | [],[],_=>rfl
 | _::_,_::_,h=>by rw [QJ,QJ,C1 h.2]
 | [],_::_,h=>h.elim
 | _::_,[],h=>h.elim
theorem C4:∀{a b:List Me},jt a b->a.length=b.length
 | [],[],_=>rfl
 | _::_,_::_,h=>by rw [QJ,QJ,C4 h.2]
 | [],_::_,h=>h.elim
 | _::_,[],h=>h.elim
theorem Mj{v u:Va}(hl:v.cs.length<=ML)(b:u.cs=v.cs):∀(t:List (Int×Int)) (i:Nat),v.cs.drop i=t->
  Or tH [r0,r1,I (i:Int)] [Ah v,Ah u]=some [tb true]:=by
 obtain⟨n,m,k,j,o⟩:=u;dsimp only at b;subst b;intro t;induction t with
 | nil=>
  intro i g;have a:¬(i:Int) < (v.cs.length:Int):=by have:=bh g;omega
  refine ah ?_;rw [B5];simp only [aj,↓reduceIte,qm,a]
 | cons c t h=>
  intro i g;obtain⟨d,l,e⟩:=bm g;have a:(i:Int) < (v.cs.length:Int):=by omega
  have h0: 0<=(i:Int):=by omega
  have f:=h (i+1) e;refine ah ?_;rw [B5];simp only [aj,↓reduceIte,qm,a,h0,and_self,yc d,EN i (by omega)];exact f
theorem F6{v u:Va}(hl:v.cs.length<=ML)(e:oO v u):Or (.call 20) [VG v,VG u] []=some [tb true]:=by obtain⟨b,c,a,d⟩:=e;have f:=Mj hl a.symm v.cs 0 rfl;obtain⟨j,i,h,g,k⟩:=u;dsimp only at b c a d;subst b c a d;refine ah ?_;rw [IP];simp only [aj];exact f
abbrev dI(e:Bool)(l:List Me):ad:=ad.box [AV.t (T.ab 5 e (cv l))]
structure ji (m:Me):Prop where
 rl:m.rs.length<=1000
 re:m.re.cs.length<=ML
 rs:∀e∈m.rs,e.to.cs.length<=ML/\e.ar.length<=1000
theorem LL{ew ew':Bool}{ms l:List Me}{m h:Me}{k:Nat}(hm:ji m)(A:ji h)
  (v:Or rE [r0,r1,I ((k+1:Nat):Int)] [dI ew ms,dI ew' l]=some [tb true]) (C:k<=1000):∀(r d:List En) (i:Nat),m.rs.drop i=r->h.rs.drop i=d->kK r d->
  Or tC [r0,r1,I (k:Int),Y'2,Y'3,I (i:Int)] [dI ew ms,dI ew' l,ja m,ja h]=some [tb true]:=by
 intro r;induction r with
 | nil=>
  intro d i g o f;have n:¬(i:Int) < (m.rs.length:Int):=by have:=bh g;omega
  refine ah ?_;rw [BA];simp only [aj,↓reduceIte,cu,n,next k (by omega)];exact v
 | cons e r w=>
  intro d i g o f;obtain⟨p,B,s⟩:=bm g;cases d with
  | nil=>exact f.elim
  | cons x d=>
  obtain⟨y,D,z⟩:=bm o;have n:(i:Int) < (m.rs.length:Int):=by omega
  have t:(i:Int) < (h.rs.length:Int):=by omega
  have h0: 0<=(i:Int):=by omega
  have hs:=hm.rs e (QH p);have j:=OC (e:=e.ea) (e':=x.ea) (a:=e.ar) (b:=x.ar) hs.2;rw [decide_eq_true f.1.1] at j;have q:=F6 hs.1 f.1.2;have u:=w d (i+1) s z f.2;have:=hm.rl;refine ah ?_;rw [BA];simp only [aj,↓reduceIte,cu,n,t,h0,and_self,fh p,fh y,cN,j,q,next i (by omega)];exact u
theorem LJ{ew ew':Bool}{ms b:List Me}(hl:ms.length<=1000)(hm:∀m∈ms,ji m)(l:∀m∈b,ji m):∀(r a:List Me) (k:Nat),ms.drop k=r->b.drop k=a->jt r a->
  Or rE [r0,r1,I (k:Int)] [dI ew ms,dI ew' b]=some [tb true]:=by
 intro r;induction r with
 | nil=>
  intro a i g h c;have d:¬(i:Int) < (ms.length:Int):=by have:=bh g;omega
  refine ah ?_;rw [BB];simp only [aj,↓reduceIte,ei,d]
 | cons m r u=>
  intro a i g h c;obtain⟨j,w,q⟩:=bm g;cases a with
  | nil=>exact c.elim
  | cons f a=>
  obtain⟨p,x,v⟩:=bm h;have d:(i:Int) < (ms.length:Int):=by omega
  have s:(i:Int) < (b.length:Int):=by omega
  have h0: 0<=(i:Int):=by omega
  have hs:=hm m (QH j);have n:=l f (QH p);have o:=F6 hs.re c.1.2;have e:((m.rs.length:Int)== (f.rs.length:Int))=true:=by rw [C1 c.1.1];simp
  have t:=LL hs n (u a (i+1) q v c.2) (by omega) m.rs f.rs 0 rfl rfl c.1.1;refine ah ?_;rw [BB];simp only [aK,aP,bA,bC,ba,dY,bo,df,↓reduceIte,ei,cu,d,s,h0,and_self,nh j,nh p,jy,cN,e,o,QE,QG];exact t
theorem N9{ew ew':Bool}{ms a:List Me}(hl:ms.length<=1000)(hm:∀m∈ms,ji m)(d:∀m∈a,ji m)(c:jt ms a):Or (.call 8) [WG ew ms,WG ew' a] []=some [tb true]:=by
 have b:((ms.length:Int)== (a.length:Int))=true:=by rw [C4 c];simp
 have e:=LJ (ew:=ew) (ew':=ew') hl hm d ms a 0 rfl rfl c;refine ah ?_;rw [Iq];simp only [ei,b,QE,bo];exact e
theorem PR{n:Nat}(h:n<=ML):bp 16 (0+n)=some ():=by unfold bp;rw [if_pos (.inr ⟨by omega,by unfold ML at h;omega⟩)]
theorem zJ{e:Bool}{l:List (Int×Int)}(a:e=true->l= [])(hl:l.length<=ML):∃x,Or (.call 32) [AV.t (T.ab 2 e (bV l))] []=some [x]/\x.an 2=some (e,bV l):=by
 cases e with
 | true=>refine⟨T.ae true,ah ?_,by rw [a rfl];rfl⟩;rw [Cc];rfl
 | false=>refine⟨T.ab 2 false (bV l),ah ?_,rfl⟩;rw [Cc];simp only [qm,PR hl,aK,bo]
theorem uG(l:List En)(e:En):aH l++ [[T.ab 1 e.ea (enc e.ar),ti e.to.n,ti e.to.d,cT e.to,ti e.to.r]]=aH (l++ [e]):=by simp [aH]
def nV(v:Va):Va:=⟨false,v.n,v.d,v.ec,v.cs,v.r⟩
def nE(e:En):En:=⟨e.ea,e.ar,nV e.to⟩
theorem Kt(l:List En)(e:En):aH l++ [[T.ab 1 e.ea (enc e.ar),ti e.to.n,ti e.to.d,T.ab 2 e.to.ec (bV e.to.cs),ti e.to.r]]=aH (l++ [nE e]):=by rw [<-uG];rfl
structure eU (m:Me):Prop where
 rl:m.rs.length<=1000
 al:∀e∈m.rs,e.ar.length<=1000
theorem LR{m:Me}{e3:Bool}{re:Va}{o:ad}(wf:dQ m)(ok:eU m)(j:o=ad.box [AV.t (T.ae true),I 0,I 0,AV.t (T.ae true),I 0]):∀(r:List En) (i:Nat) (a:List En),m.rs.drop i=r->i<=m.rs.length->a.length=i->a++r.map nE=m.rs.map nE->
  Or pF [r0,r1,AV.t (T.ab 5 m.er (aH m.rs)),I (m.rs.length:Int),I (i:Int)] [o,ad.box [o2,I re.n,I re.d,AV.t (T.ab 2 re.ec (bV re.cs)),I re.r],ad.sl false 5 false (aH a)]=some [T.ab 5 false (aH (m.rs.map nE)),ti re.n,ti re.d,T.ab 2 re.ec (bV re.cs),ti re.r]:=by
 intro r;subst j;induction r with
 | nil=>
  intro i a g q b c;have e:¬(i:Int) < (m.rs.length:Int):=by have:=bh g;omega
  rw [Rz,QX] at c;refine ah ?_;rw [BF];simp only [aj,↓reduceIte,e,c]
 | cons x r v=>
  intro i a g q b c;obtain⟨f,w,p⟩:=bm g;have hm:=QH f;have e:(i:Int) < (m.rs.length:Int):=by omega
  have h0: 0<=(i:Int):=by omega
  have:=ok.rl;obtain⟨y,k,s⟩:=iE x.ea x.ar (wf.ea x hm) (by have:=ok.al x hm;omega);obtain⟨z,l,h⟩:=zJ (wf.zG x hm) (wf.rs x hm);have u:=v (i+1) (a++ [nE x]) p (by omega) (by simp [b]) (by rw [<-c];simp);refine ah ?_;rw [BF];simp only [aj,↓reduceIte,e,h0,and_self,cu,fh f,cN,k,s,l,h,QM,cC (show a.length+1<=1000000 by omega),next i (by omega),Kt];exact u
theorem zI{m:Me}(wf:dQ m)(ok:eU m):∃x y,Or (.call 15) [MG m] []=some [x,ti m.re.n,ti m.re.d,y,ti m.re.r]/\x.an 5=some (m.rs.isEmpty,aH (m.rs.map nE))/\y.an 2=some (m.re.ec,bV m.re.cs):=by
 obtain⟨o,c,b⟩:=zJ wf.rcc wf.re;cases a:m.rs with
 | nil=>refine⟨T.ae true,T.ab 2 m.re.ec (bV m.re.cs),ah ?_,rfl,by rw [bU]⟩;rw [BD];simp only [aK,aP,c,b,cu];refine ah ?_;rw [BE];simp only [aj,a,QW,Re,Rl,decide_false]
 | cons x r=>
  have hm:x∈m.rs:=by rw [a];exact QA
  have k:(0:Int) < (((x::r).length:Nat):Int):=by simp
  have h0:(0:Int)<=0:=by omega
  have j:(aH (x::r))[(0:Int).toNat]? =some [T.ab 1 x.ea (enc x.ar),ti x.to.n,ti x.to.d,cT x.to,ti x.to.r]:=rfl;have l:i64.wrap (0+1)= ((1:Nat):Int):=by decide
  obtain⟨p,i,f⟩:=iE x.ea x.ar (wf.ea x hm) (by have:=ok.al x hm;omega);obtain⟨q,e,g⟩:=zJ (wf.zG x hm) (wf.rs x hm);have h:=LR (re:=m.re) (e3:=true) wf ok rfl r 1 [nE x] (by rw [a];rfl) (by rw [a];simp) rfl (by rw [a];rfl);rw [a] at h;refine⟨T.ab 5 false (aH ((x::r).map nE)),T.ab 2 m.re.ec (bV m.re.cs),ah ?_,rfl,by rw [bU]⟩;rw [BD];simp only [aK,aP,c,b,cu];refine ah ?_;rw [BE];simp only [aj,↓reduceIte,a,k,h0,and_self,cu,j,cN,i,f,e,g,l];exact h
def dZ(n:Int)(b:Nat):Int:=i64.wrap ((BitVec.ofInt 64 (n.fdiv (2 ^ min b 64)) &&& BitVec.ofInt 64 1).toNat:Int)
def oE(v:Va)(b:Nat):Va:=⟨false,dZ v.n b,1,true,[],0⟩
def cr(b:Nat)(e:En):En:=⟨e.ea,e.ar,oE e.to b⟩
def cF(m:Me)(b:Nat):Me:=⟨m.rs.isEmpty,m.rs.isEmpty,m.rs.map (cr b),oE m.re b⟩
theorem qV(v:Va)(b:Nat):Or (.call 16) [VG v,AV.t (T.ptr [ti (b:Int)])] []=some [ti (dZ v.n b),ti 1,T.ab 2 true (bV []),ti 0]:=by
 have h0:¬(b:Int) < 0:=by omega
 refine ah ?_;rw [IB];have a:Or (.call 17) [I (dZ v.n b)] []=some [ti (dZ v.n b),ti 1,T.ae true,ti 0]:=by refine ah ?_;rw [xw]
 unfold dZ at a⊢;simp only [aj,↓reduceIte,h0,Q8,a];rfl
def ef(m:Me):Nat->Nat->List Me
 | _,0=> []
 | b,k+1=>cF m b::ef m (b+1) k
theorem uK(l:List Me)(m:Me):cv l++ [[mT m,ti m.re.n,ti m.re.d,cT m.re,ti m.re.r]]=cv (l++ [m]):=by simp [cv]
theorem CT(m:Me): [[mT m,ti m.re.n,ti m.re.d,cT m.re,ti m.re.r]]=cv [m]:=rfl
abbrev fz:ad:=ad.box [I 0,I 0]
abbrev ez:ad:=ad.box [AV.t (T.ae true)]
abbrev rf(k:Nat):AV:=AV.ref (Id.c k) 0
abbrev ow(k:Nat):AV:=AV.own (Id.c k)
theorem MP{ed ew:Bool}{ds:List Dc}{ms:List Me}{m:Me}{i n b:Nat}{R:List T}(wf:dQ m)(ok:eU m)(C:b<=1000)
  (z:Or iO [rf 0,rf 1,rf 2,rf 3,rf 4,AV.t (T.ab 3 ed (aI ds)),I (ds.length:Int),I (i:Int),I (n:Int),I ((b+1:Nat):Int)] [dI ew ms,ez,fz,ad.box [ow 5],ja m,ad.sl false 5 false (cv ([cF m b]))]=some R):∀(r:List En) (j:Nat) (rows:List En),m.rs.drop j=r->j<=m.rs.length->rows.length=j->rows++r.map (cr b)=m.rs.map (cr b)->m.rs≠[]->
  Or iP [rf 0,rf 1,rf 2,rf 3,rf 4,AV.fn 16 [] [rf 5],rf 6,AV.t (T.ab 3 ed (aI ds)),I (ds.length:Int),I (i:Int),I (n:Int),I (b:Int),AV.t (T.ab 5 m.er (aH m.rs)),I (m.rs.length:Int),I (j:Int)] [dI ew ms,ez,fz,ez,ja m,ad.cO [ti (b:Int)],ad.box [ow 7,I (dZ m.re.n b),I 1,AV.t (T.ab 2 true (bV [])),I 0],ad.sl false 5 false (aH (rows))]=some R:=by
 have:=ok.rl;intro r;induction r with
 | nil=>
  intro j rows g u o c a;have e:¬(j:Int) < (m.rs.length:Int):=by have:=bh g;omega
  rw [Rz,QX] at c;have k:(cF m b)= ⟨false,false,m.rs.map (cr b),oE m.re b⟩:=by
   unfold cF;cases h:m.rs with
   | nil=>exact absurd h a
   | cons x r=>rfl
  have l:T.ab 5 false (aH (m.rs.map (cr b)))=mT (cF m b):=by rw [k];rfl
  have hl: [[T.ab 5 false (aH (m.rs.map (cr b))),ti (dZ m.re.n b),ti 1,T.ab 2 true (bV []),ti 0]]= [[mT (cF m b),ti (cF m b).re.n,ti (cF m b).re.d,cT (cF m b).re,ti (cF m b).re.r]]:=by rw [l];rfl
  refine ah ?_;rw [Cy];simp only [aj,↓reduceIte,e,c,QM,next b (by omega),hl,CT];exact z
 | cons x r A=>
  intro j rows g u o c a;obtain⟨f,B,s⟩:=bm g;have hm:=QH f;have e:(j:Int) < (m.rs.length:Int):=by omega
  have h0: 0<=(j:Int):=by omega
  obtain⟨y,q,w⟩:=iE x.ea x.ar (wf.ea x hm) (by have:=ok.al x hm;omega);have p:=qV x.to b;have v:=A (j+1) (rows++ [cr b x]) s (by omega) (by simp [o]) (by rw [<-c];simp) a;have hl: [[T.ab 1 x.ea (enc x.ar),ti (dZ x.to.n b),ti 1,T.ab 2 true (bV []),ti 0]]= [[T.ab 1 (cr b x).ea (enc (cr b x).ar),ti (cr b x).to.n,ti (cr b x).to.d,cT (cr b x).to,ti (cr b x).to.r]]:=rfl;refine ah ?_;rw [Cy];simp only [aj,↓reduceIte,e,h0,and_self,cu,fh f,cN,q,w,p,QM,cC (show rows.length+1<=1000000 by omega),next j (by omega),hl,uG];exact v
theorem MR{ed ew:Bool}{ds:List Dc}{ms:List Me}{m:Me}{i n b:Nat}{R:List T}(wf:dQ m)(ok:eU m)(l:b<=1000)
  (f:Or iO [rf 0,rf 1,rf 2,rf 3,rf 4,AV.t (T.ab 3 ed (aI ds)),I (ds.length:Int),I (i:Int),I (n:Int),I ((b+1:Nat):Int)] [dI ew ms,ez,fz,ad.box [ow 5],ja m,ad.sl false 5 false (cv ([cF m b]))]=some R):
  Or iP [rf 0,rf 1,rf 2,rf 3,rf 4,AV.fn 16 [] [rf 5],rf 6,AV.t (T.ab 3 ed (aI ds)),I (ds.length:Int),I (i:Int),I (n:Int),I (b:Int),AV.t (T.ab 5 m.er (aH m.rs)),I (m.rs.length:Int),I 0] [dI ew ms,ez,fz,ez,ja m,ad.cO [ti (b:Int)],ad.box [AV.t (T.ae true),I (dZ m.re.n b),I 1,AV.t (T.ab 2 true (bV [])),I 0]]=some R:=by
 cases a:m.rs with
 | nil=>
  have hl: [[T.ae true,ti (dZ m.re.n b),ti 1,T.ab 2 true (bV []),ti 0]]= [[mT (cF m b),ti (cF m b).re.n,ti (cF m b).re.d,cT (cF m b).re,ti (cF m b).re.r]]:=by unfold cF;rw [a];rfl
  refine ah ?_;rw [Cv];simp only [aj,QW,Re,Rl,decide_false,next b (by omega),hl,CT];exact f
 | cons x r=>
  have e:m.rs≠[]:=by rw [a];simp
  have hm:x∈m.rs:=by rw [a];exact QA
  have k:(0:Int) < (((x::r).length:Nat):Int):=by simp
  have h0:(0:Int)<=0:=by omega
  have j:(aH (x::r))[(0:Int).toNat]? =some [T.ab 1 x.ea (enc x.ar),ti x.to.n,ti x.to.d,cT x.to,ti x.to.r]:=rfl;have p:i64.wrap (0+1)= ((1:Nat):Int):=by decide
  obtain⟨y,h,o⟩:=iE x.ea x.ar (wf.ea x hm) (by have:=ok.al x hm;omega);have g:=qV x.to b;have c:=MP (ed:=ed) (ew:=ew) (ds:=ds) (ms:=ms) (i:=i) (n:=n) wf ok l f r 1 [cr b x] (by rw [a];rfl) (by rw [a];simp) rfl (by rw [a];rfl) e;rw [a] at c;have hl: [[T.ab 1 x.ea (enc x.ar),ti (dZ x.to.n b),ti 1,T.ab 2 true (bV []),ti 0]]=aH [cr b x]:=rfl;refine ah ?_;rw [Cv];simp only [aj,↓reduceIte,k,h0,and_self,cu,j,cN,h,o,g,p,hl];rw [<-a] at c⊢;exact c
theorem MQ{ed ew:Bool}{ds:List Dc}{ms:List Me}{m:Me}{i n b:Nat}{a:List Me}{R:List T}(wf:dQ m)(ok:eU m)(E:b<=1000)(C:a.length<=1000)
  (A:Or iO [rf 0,rf 1,rf 2,rf 3,rf 4,AV.t (T.ab 3 ed (aI ds)),I (ds.length:Int),I (i:Int),I (n:Int),I ((b+1:Nat):Int)] [dI ew ms,ez,fz,ad.box [ow 5],ja m,ad.sl false 5 false (cv (a++ [cF m b]))]=some R):∀(r:List En) (j:Nat) (rows:List En),m.rs.drop j=r->j<=m.rs.length->rows.length=j->rows++r.map (cr b)=m.rs.map (cr b)->m.rs≠[]->
  Or iP [rf 0,rf 1,rf 2,rf 3,rf 4,AV.fn 16 [] [rf 5],rf 6,AV.t (T.ab 3 ed (aI ds)),I (ds.length:Int),I (i:Int),I (n:Int),I (b:Int),AV.t (T.ab 5 m.er (aH m.rs)),I (m.rs.length:Int),I (j:Int)] [dI ew ms,ez,fz,ad.box [ow 7],ja m,ad.cO [ti (b:Int)],ad.box [ow 8,I (dZ m.re.n b),I 1,AV.t (T.ab 2 true (bV [])),I 0],ad.sl false 5 false (cv (a)),ad.sl false 5 false (aH (rows))]=some R:=by
 have:=ok.rl;intro r;induction r with
 | nil=>
  intro j rows g v p e c;have f:¬(j:Int) < (m.rs.length:Int):=by have:=bh g;omega
  rw [Rz,QX] at e;have l:(cF m b)= ⟨false,false,m.rs.map (cr b),oE m.re b⟩:=by
   unfold cF;cases h:m.rs with
   | nil=>exact absurd h c
   | cons x r=>rfl
  have o:T.ab 5 false (aH (m.rs.map (cr b)))=mT (cF m b):=by rw [l];rfl
  have hl: [[T.ab 5 false (aH (m.rs.map (cr b))),ti (dZ m.re.n b),ti 1,T.ab 2 true (bV []),ti 0]]= [[mT (cF m b),ti (cF m b).re.n,ti (cF m b).re.d,cT (cF m b).re,ti (cF m b).re.r]]:=by rw [o];rfl
  refine ah ?_;rw [Cz];simp only [aj,↓reduceIte,f,e,QM,ei,cC (show a.length+1<=1000000 by omega),next b (by omega),hl,uK];exact A
 | cons x r B=>
  intro j rows g v p e c;obtain⟨k,D,u⟩:=bm g;have hm:=QH k;have f:(j:Int) < (m.rs.length:Int):=by omega
  have h0: 0<=(j:Int):=by omega
  obtain⟨y,s,z⟩:=iE x.ea x.ar (wf.ea x hm) (by have:=ok.al x hm;omega);have q:=qV x.to b;have w:=B (j+1) (rows++ [cr b x]) u (by omega) (by simp [p]) (by rw [<-e];simp) c;have hl: [[T.ab 1 x.ea (enc x.ar),ti (dZ x.to.n b),ti 1,T.ab 2 true (bV []),ti 0]]= [[T.ab 1 (cr b x).ea (enc (cr b x).ar),ti (cr b x).to.n,ti (cr b x).to.d,cT (cr b x).to,ti (cr b x).to.r]]:=rfl;refine ah ?_;rw [Cz];simp only [aj,↓reduceIte,f,h0,and_self,cu,fh k,cN,s,z,q,QM,cC (show rows.length+1<=1000000 by omega),next j (by omega),hl,uG];exact w
theorem MS{ed ew:Bool}{ds:List Dc}{ms:List Me}{m:Me}{i n b:Nat}{c:List Me}{R:List T}(wf:dQ m)(ok:eU m)(p:b<=1000)(f:c.length<=1000)
  (h:Or iO [rf 0,rf 1,rf 2,rf 3,rf 4,AV.t (T.ab 3 ed (aI ds)),I (ds.length:Int),I (i:Int),I (n:Int),I ((b+1:Nat):Int)] [dI ew ms,ez,fz,ad.box [ow 5],ja m,ad.sl false 5 false (cv (c++ [cF m b]))]=some R):
  Or iP [rf 0,rf 1,rf 2,rf 3,rf 4,AV.fn 16 [] [rf 5],rf 6,AV.t (T.ab 3 ed (aI ds)),I (ds.length:Int),I (i:Int),I (n:Int),I (b:Int),AV.t (T.ab 5 m.er (aH m.rs)),I (m.rs.length:Int),I 0] [dI ew ms,ez,fz,ad.box [ow 7],ja m,ad.cO [ti (b:Int)],ad.box [AV.t (T.ae true),I (dZ m.re.n b),I 1,AV.t (T.ab 2 true (bV [])),I 0],ad.sl false 5 false (cv (c))]=some R:=by
 cases a:m.rs with
 | nil=>
  have hl: [[T.ae true,ti (dZ m.re.n b),ti 1,T.ab 2 true (bV []),ti 0]]= [[mT (cF m b),ti (cF m b).re.n,ti (cF m b).re.d,cT (cF m b).re,ti (cF m b).re.r]]:=by unfold cF;rw [a];rfl
  refine ah ?_;rw [Cw];simp only [aj,QW,Re,Rl,decide_false,QM,ei,cC (show c.length+1<=1000000 by omega),next b (by omega),hl,uK];exact h
 | cons x r=>
  have g:m.rs≠[]:=by rw [a];simp
  have hm:x∈m.rs:=by rw [a];exact QA
  have o:(0:Int) < (((x::r).length:Nat):Int):=by simp
  have h0:(0:Int)<=0:=by omega
  have l:(aH (x::r))[(0:Int).toNat]? =some [T.ab 1 x.ea (enc x.ar),ti x.to.n,ti x.to.d,cT x.to,ti x.to.r]:=rfl;have s:i64.wrap (0+1)= ((1:Nat):Int):=by decide
  obtain⟨y,k,q⟩:=iE x.ea x.ar (wf.ea x hm) (by have:=ok.al x hm;omega);have j:=qV x.to b;have e:=MQ (ed:=ed) (ew:=ew) (ds:=ds) (ms:=ms) (i:=i) (n:=n) wf ok p f h r 1 [cr b x] (by rw [a];rfl) (by rw [a];simp) rfl (by rw [a];rfl) g;rw [a] at e;have hl: [[T.ab 1 x.ea (enc x.ar),ti (dZ x.to.n b),ti 1,T.ab 2 true (bV []),ti 0]]=aH [cr b x]:=rfl;refine ah ?_;rw [Cw];simp only [aj,↓reduceIte,o,h0,and_self,cu,l,cN,k,q,j,s,hl];rw [<-a] at e⊢;exact e
theorem EF{ed ew:Bool}{ds:List Dc}{ms:List Me}{m:Me}{i n:Nat}{R:List T}(wf:dQ m)(ok:eU m)(l:i<=100)(o:n<=100):∀(k b:Nat) (a:List Me),b+k=n->a.length+k<=1000->
  Or kz [rf 0,rf 1,rf 2,rf 3,AV.t (T.ab 3 ed (aI ds)),I (ds.length:Int),I ((i+1:Nat):Int)] [dI ew ms,ez,fz,ad.box [ow 4],ad.sl false 5 false (cv (a++ef m b k))]=some R->
  Or iO [rf 0,rf 1,rf 2,rf 3,rf 4,AV.t (T.ab 3 ed (aI ds)),I (ds.length:Int),I (i:Int),I (n:Int),I (b:Int)] [dI ew ms,ez,fz,ad.box [ow 5],ja m,ad.sl false 5 false (cv (a))]=some R:=by
 intro k;induction k with
 | zero=>
  intro b a g e c;have d:¬(b:Int) < (n:Int):=by omega
  rw [ef,QX] at c;refine ah ?_;rw [Cu];simp only [aj,↓reduceIte,d,next i (by omega)];exact c
 | succ k j=>
  intro b a g e c;have d:(b:Int) < (n:Int):=by omega
  have f:=qV m.re b;have h:=MS (ed:=ed) (ew:=ew) (ds:=ds) (ms:=ms) (i:=i) (n:=n) wf ok (show b<=1000 by omega) (by omega) (j (b+1) (a++ [cF m b]) (by omega) (by simp;omega) (by rw [Q6];exact c));refine ah ?_;rw [Cu];simp only [aj,↓reduceIte,d,f,cu];exact h
theorem MK{ed ew:Bool}{ds:List Dc}{ms:List Me}{m:Me}{i n:Nat}{R:List T}(wf:dQ m)(ok:eU m)(c:i<=100)(d:n<=100)(h0: 0 < n)
  (f:Or kz [rf 0,rf 1,rf 2,rf 3,AV.t (T.ab 3 ed (aI ds)),I (ds.length:Int),I ((i+1:Nat):Int)] [dI ew ms,ez,fz,ad.box [ow 4],ad.sl false 5 false (cv (ef m 0 n))]=some R):
  Or iO [rf 0,rf 1,rf 2,rf 3,rf 4,AV.t (T.ab 3 ed (aI ds)),I (ds.length:Int),I (i:Int),I (n:Int),I 0] [dI ew ms,ez,fz,ez,ja m]=some R:=by
 obtain⟨k,rfl⟩:∃k,n=k+1:=⟨n - 1,by omega⟩;have b:(0:Int) < ((k+1:Nat):Int):=by omega
 have a:=qV m.re 0;have e:=MR (ed:=ed) (ew:=ew) (ds:=ds) (ms:=ms) (i:=i) (n:=k+1) wf ok (show 0<=1000 by omega) (EF wf ok c d k 1 [cF m 0] (by omega) (by simp;omega) f);refine ah ?_;rw [JG];simp only [aj,↓reduceIte,b,cu];rw [show(0:Int)= ((0:Nat):Int) from rfl];simp only [aj,a];exact e
def bB(s:Int):Nat:=(s - 10).toNat
def dS(m:Me):Me:=⟨false,m.rs.isEmpty,m.rs.map nE,nV m.re⟩
def gI(d:Dc)(m:Me):List Me:=if aE d.so=true then ef m 0 (bB d.so) else [dS m]
def dT:List Dc->List Me->List Me
 | d::ds,m::ms=>gI d m++dT ds ms
 | _,_=> []
theorem wZ(m:Me):∀(k b:Nat),(ef m b k).length=k
 | 0,_=>rfl
 | k+1,b=>by rw [ef,QJ,wZ m k]
theorem qA{s:Int}:aE s=true↔10 < s/\s<=18:=by simp [aE]
theorem xq(d:Dc)(m:Me):(gI d m).length<=8:=by
 unfold gI;split
 .rename_i h;have:=qA.1 h;rw [wZ];unfold bB;omega
 .simp
theorem Br:∀(ds:List Dc) (ms:List Me),(dT ds ms).length<=8 * ds.length
 | [],_=>by simp [dT]
 | _::_,[]=>by simp [dT]
 | d::ds,m::ms=>by have a:=xq d m;have b:=Br ds ms;rw [dT,Ro,QJ];omega
structure wL (ds:List Dc) (ms:List Me):Prop where
 dl:ds.length<=100
 ml:ms.length=ds.length
 wf:∀m∈ms,dQ m
 ok:∀m∈ms,eU m
theorem MM{ed ew:Bool}{ds:List Dc}{ms:List Me}(j:wL ds ms):∀(r:List Dc) (b:List Me) (i:Nat) (a:List Me),ds.drop i=r->ms.drop i=b->a.length+8 * r.length<=1000->
  Or kz [rf 0,rf 1,rf 2,rf 3,AV.t (T.ab 3 ed (aI ds)),I (ds.length:Int),I (i:Int)] [dI ew ms,ez,fz,ad.box [ow 4],ad.sl false 5 false (cv (a))]=some [T.ab 5 false (cv (a++dT r b)),ti 0,ti 0]:=by
 intro r;have:=j.dl;have z:=j.ml;induction r with
 | nil=>
  intro b i a g l k;have h:¬(i:Int) < (ds.length:Int):=by have:=bh g;omega
  have w:dT [] b= []:=by simp [dT]
  refine ah ?_;rw [xO];simp only [aj,↓reduceIte,h,w,QX]
 | cons d r D=>
  intro b i a g l k;obtain⟨p,G,v⟩:=bm g;cases b with
  | nil=>have:=bh l;omega
  | cons m b=>
  obtain⟨o,J,E⟩:=bm l;have hm:=QH o;have wf:=j.wf m hm;have ok:=j.ok m hm;have h:(i:Int) < (ds.length:Int):=by omega
  have q:(i:Int) < (ms.length:Int):=by omega
  have h0: 0<=(i:Int):=by omega
  have c:=fZ d.so;have F:=xq d m;rw [QJ] at k;have f:=D b (i+1) (a++gI d m) v E (by rw [Ro];omega);rw [Q6] at f;rw [dT];cases e:aE d.so with
  | false=>
   rw [e] at c;have hs:gI d m= [dS m]:=by unfold gI;rw [e];rfl
   obtain⟨x,y,u,B,C⟩:=zI wf ok;rw [hs] at f⊢;have hl: [[T.ab 5 m.rs.isEmpty (aH (m.rs.map nE)),ti m.re.n,ti m.re.d,T.ab 2 m.re.ec (bV m.re.cs),ti m.re.r]]= [[mT (dS m),ti (dS m).re.n,ti (dS m).re.d,cT (dS m).re,ti (dS m).re.r]]:=rfl;refine ah ?_;rw [xO];simp only [aj,↓reduceIte,h,q,h0,and_self,cj,ei,dF p,nh o,jy,cN,c,u,B,C,QM,cC (show a.length+1<=1000000 by omega),next i (by omega),hl,uK];exact f
  | true=>
   rw [e] at c;have H:=qA.1 e;have hs:gI d m=ef m 0 (bB d.so):=by unfold gI;rw [e];rfl
   have s:i64.wrap (d.so - 10)= ((bB d.so:Nat):Int):=by rw [wr (by omega)];unfold bB;omega
   rw [hs] at f⊢;have A:=EF (ed:=ed) (ew:=ew) (ds:=ds) (ms:=ms) wf ok (show i<=100 by omega) (show bB d.so<=100 by unfold bB;omega) (bB d.so) 0 a (by omega) (by unfold bB;omega) f;refine ah ?_;rw [xO];simp only [aj,↓reduceIte,h,q,h0,and_self,cj,ei,dF p,nh o,jy,cN,c,s];exact A
theorem MN{ed ew:Bool}{ds:List Dc}{ms:List Me}(f:wL ds ms):∃x,Or kz [rf 0,rf 1,rf 2,rf 3,AV.t (T.ab 3 ed (aI ds)),I (ds.length:Int),I 0] [dI ew ms,ez,fz,ez]=some [x,ti 0,ti 0]/\x.an 5=some (ds.isEmpty,cv (dT ds ms)):=by
 have k:=f.dl;have b:=f.ml;have A:i64.wrap (0+1)= ((1:Nat):Int):=by decide
 cases c:ds with
 | nil=>refine⟨T.ae true,ah ?_,rfl⟩;rw [xN];simp only [aj,QW,Re,Rl,decide_false]
 | cons d r=>
 cases a:ms with
 | nil=>rw [c,a] at b;simp at b
 | cons m j=>
  rw [c] at k b;rw [a] at b;have hm:m∈ms:=by rw [a];exact QA
  have wf:=f.wf m hm;have ok:=f.ok m hm;have o:(0:Int) < (((d::r).length:Nat):Int):=by simp
  have p:(0:Int) < (((m::j).length:Nat):Int):=by simp
  have h0:(0:Int)<=0:=by omega
  have l:(aI (d::r))[(0:Int).toNat]? =some [T.str d.nm,T.ab 1 d.ea (enc d.ar),ti d.so]:=rfl;have v:(cv (m::j))[(0:Int).toNat]? =some [mT m,ti m.re.n,ti m.re.d,cT m.re,ti m.re.r]:=rfl;have e:=fZ d.so;have B:=xq d m;have h:=MM (ed:=ed) (ew:=ew) f r j 1 (gI d m) (by rw [c];rfl) (by rw [a];rfl) (by simp at k;omega);rw [<-dT] at h;refine⟨T.ab 5 false (cv (dT (d::r) (m::j))), ?_,rfl⟩;cases g:aE d.so with
  | false=>
   rw [g] at e;have hs:gI d m= [dS m]:=by unfold gI;rw [g];rfl
   obtain⟨x,y,u,w,z⟩:=zI wf ok;rw [hs,c,a] at h;have hl: [[T.ab 5 m.rs.isEmpty (aH (m.rs.map nE)),ti m.re.n,ti m.re.d,T.ab 2 m.re.ec (bV m.re.cs),ti m.re.r]]=cv [dS m]:=rfl;refine ah ?_;rw [xN];simp only [aj,↓reduceIte,o,p,h0,and_self,cj,ei,l,v,jy,cN,e,u,w,z,A,hl];exact h
  | true=>
   rw [g] at e;have C:=qA.1 g;have hs:gI d m=ef m 0 (bB d.so):=by unfold gI;rw [g];rfl
   have s:i64.wrap (d.so - 10)= ((bB d.so:Nat):Int):=by rw [wr (by omega)];unfold bB;omega
   rw [hs] at h;have q:=MK (ed:=ed) (ew:=ew) (ds:=ds) (ms:=ms) (i:=0) wf ok (by omega) (show bB d.so<=100 by unfold bB;omega) (show 0 < bB d.so by unfold bB;omega) h;rw [c,a] at q;refine ah ?_;rw [xN];simp only [aj,↓reduceIte,o,p,h0,and_self,cj,ei,l,v,jy,cN,e,s];exact q
open Go Go.Aev Go.IntKind
structure Al (a:As) (ms:List Me):Prop where
 aw:n7 a
 nm:∀d∈a.ds,d.nm.size<=9223372036854775807
 wf:∀m∈ms,dQ m
theorem Ev{d:Dc}{m:Me}(h:eQ d m=0):m.rs.length<=1000/\(∀e∈m.rs,e.ar.length=d.ar.length)/\cY d.so m.re=true/\∀e∈m.rs,cY d.so e.to=true:=by
 unfold eQ at h;by_cases g: 1000 < m.rs.length
 .rw [if_pos g] at h;exact absurd h (by decide)
 rw [if_neg g] at h;by_cases a:(m.rs.any λe=> !((e.ar.length:Int)== (d.ar.length:Int)))=true
 .rw [if_pos a] at h;exact absurd h (by decide)
 rw [if_neg a] at h;by_cases i:(m.rs.any λe=>e.ar.any λn=> !dO n)=true
 .rw [if_pos i] at h;exact absurd h (by decide)
 rw [if_neg i] at h;by_cases j:fI [] m.rs=true
 .rw [if_pos j] at h;exact absurd h (by decide)
 rw [if_neg j] at h;by_cases b:cY d.so m.re=false
 .rw [if_pos b] at h;exact absurd h (by decide)
 rw [if_neg b] at h;by_cases c:(m.rs.any λe=> !cY d.so e.to)=true
 .rw [if_pos c] at h;exact absurd h (by decide)
 rw [Si] at a c;refine⟨by omega,λe f=> ?_,by simpa using b,λe f=> ?_⟩
 .have:=Rm.1 a e f;simp only [Si,Sx,beq_iff_eq] at this;omega
 .have:=Rm.1 c e f;simpa using this
theorem Im{a:As}{ms:List Me}(f:Al a ms)(h:(jz a ms).1=0):wL a.ds ms:=by
 obtain⟨i,c,k⟩:=Ew h;obtain⟨ok,d⟩:=pZ (es:=(bE a).1.isEmpty) i;have p:a.ds.length<=30:=ok.dl;refine⟨by omega,c,f.wf,λm hm=> ?_⟩;obtain⟨j,g⟩:=RJ hm;have b:j < a.ds.length:=by rw [<-c];exact(QC.1 g).1
 obtain⟨n,o,_⟩:=Ev (k j _ m (QK b) g);exact⟨n,λe l=>by rw [o e l];have:=d _ (Su b);omega⟩
theorem LH{m:Me}{em er:Bool}(wf:dQ m)(ok:eU m):ji ⟨em,er,m.rs,nV m.re⟩/\ji ⟨em,er,m.rs.map nE,nV m.re⟩:=
 ⟨⟨ok.rl,wf.re,λe a=>⟨wf.rs e a,ok.al e a⟩⟩,⟨by have:=ok.rl;simpa using this,wf.re,λe a=>by
  obtain⟨x,b,rfl⟩:=Rb.1 (show e∈m.rs.map nE from a);exact⟨wf.rs x b,ok.al x b⟩⟩⟩
end Go.Aev.Gen
