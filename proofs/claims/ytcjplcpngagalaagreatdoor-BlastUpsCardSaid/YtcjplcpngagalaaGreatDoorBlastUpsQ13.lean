import Derived.Test.YtcjplcpngagalaaGreatDoorBlastUpsQ8
import Derived.Test.YtcjplcpngagalaaGreatDoorBlastUpsQ12
set_option linter.all false
namespace Go.Aev.Gen
open Go Go.Aev Go.IntKind
abbrev ML:Nat:=8796093022208
structure Va where
 em:Bool
 n:Int
 d:Int
 ec:Bool
 cs:List (Int×Int)
 r:Int
structure En where
 ea:Bool
 ar:List Int
 to:Va
structure Me where
 em:Bool
 er:Bool
 rs:List En
 re:Va
def cz(l:List (Int×Int)):List (List T):=l.map λp=> [ti p.1,ti p.2]
def cT(v:Va):T:=bif v.em && v.cs.isEmpty then T.ae v.ec else T.ab 2 v.ec (cz v.cs)
theorem cq(v:Va):(cT v).ak 2=some (v.ec,cz v.cs):=by
 unfold cT;cases a:v.em && v.cs.isEmpty with
 | true=>rw [NT,PF] at a;rw [a.2];simp only [aZ,cn];rfl
 | false=>simp only [be,aW]
def aC(l:List En):List (List T):=l.map λe=> [T.ab 1 e.ea (enc e.ar),ti e.to.n,ti e.to.d,cT e.to,ti e.to.r]
def mT(m:Me):T:=bif m.em && m.rs.isEmpty then T.ae m.er else T.ab 5 m.er (aC m.rs)
theorem fH(m:Me):(mT m).ak 5=some (m.er,aC m.rs):=by
 unfold mT;cases a:m.em && m.rs.isEmpty with
 | true=>rw [NT,PF] at a;rw [a.2];simp only [aZ,cn];rfl
 | false=>simp only [be,aW]
def bF(l:List Me):List (List T):=l.map λm=> [mT m,ti m.re.n,ti m.re.d,cT m.re,ti m.re.r]
abbrev VG(v:Va):AV:=AV.agg [I v.n,I v.d,AV.t (T.ab 2 v.ec (cz v.cs)),I v.r]
abbrev EG(e:En):AV:=AV.agg [AV.t (T.ab 1 e.ea (enc e.ar)),I e.to.n,I e.to.d,AV.t (T.ab 2 e.to.ec (cz e.to.cs)),I e.to.r]
abbrev MG(m:Me):AV:=AV.agg [AV.t (T.ab 5 m.er (aC m.rs)),I m.re.n,I m.re.d,AV.t (T.ab 2 m.re.ec (cz m.re.cs)),I m.re.r]
abbrev WG(e:Bool)(l:List Me):AV:=AV.agg [AV.t (T.ab 5 e (bF l))]
abbrev DG(d:Dc):AV:=AV.agg [AV.t (T.str d.nm),AV.t (T.ab 1 d.ea (enc d.ar)),I d.so]
abbrev DP(d:Dc):AV:=AV.t (T.ptr [T.str d.nm,T.ab 1 d.ea (enc d.ar),ti d.so])
theorem pd(l:List (Int×Int)):(cz l).length=l.length:=by simp [cz]
theorem wQ{l:List (Int×Int)}{i:Nat}{p:Int×Int}(h:l[i]? =some p):(cz l)[((i:Nat):Int).toNat]? =some [ti p.1,ti p.2]:=by simp [cz,h]
theorem bw(l:List En):(aC l).length=l.length:=by simp [aC]
theorem cW{l:List En}{i:Nat}{e:En}(h:l[i]? =some e):(aC l)[((i:Nat):Int).toNat]? =some [T.ab 1 e.ea (enc e.ar),ti e.to.n,ti e.to.d,cT e.to,ti e.to.r]:=by simp [aC,h]
theorem dx(l:List Me):(bF l).length=l.length:=by simp [bF]
theorem my{l:List Me}{i:Nat}{m:Me}(h:l[i]? =some m):(bF l)[((i:Nat):Int).toNat]? =some [mT m,ti m.re.n,ti m.re.d,cT m.re,ti m.re.r]:=by simp [bF,h]
theorem CW(i:Nat)(h:i<=ML):i64.wrap ((i:Int)+1)= ((i+1:Nat):Int):=by rw [wr (by unfold ML at h;omega)];omega
def eC(n:Int):Bool:=decide (n>=0) && decide (n<=1000)
theorem rR(n:Int):Or (.call 50) [I n] []=some [tb (eC n)]:=by refine ah ?_;rw [GV];simp only [sU,eC]
theorem Jq:∀(b a:Nat),Or se [AV.t (.int .u64 (a:Int)),AV.t (.int .u64 (b:Int))] []=some [.int .u64 (Nat.gcd b a:Nat)]:=by
 intro b;induction b using Nat.strongRecOn with
 | _ b f=>
  intro a;refine ah ?_;rw [Gb];by_cases h:b=0
  .subst h;simp
  .have d:((b:Int)==0)=false:=by simpa using h
   have e:¬(b:Int)=0:=by omega
   have c:=f (a % b) (QM _ (by omega)) b;rw [show Nat.gcd (a % b) b=Nat.gcd b a from(Nat.gcd_rec b a).symm] at c;simp only [d,e,NS,aZ,↓reduceIte,aG];rw [show((a:Int).tmod (b:Int))= ((a % b:Nat):Int) from by simp [Int.tmod]];exact c
theorem DY{n:Int}(h: -1073741824<=n/\n<=1073741824):Or (.call 102) [I n] []=some [.int .u64 (n.natAbs:Int)]:=by
 have b:∀v:Int,u64.wrap v=v % 18446744073709551616:=λv=>by simp [IntKind.wrap,IntKind.bits,IntKind.signed]
 refine ah ?_;rw [Gc];by_cases h0:n < 0
 .have a:u64.wrap (0 - u64.wrap n)= (n.natAbs:Int):=by
   rw [b,b];omega
  simp only [h0,decide_true,aZ,a]
 .have a:u64.wrap n= (n.natAbs:Int):=by rw [b];omega
  simp only [h0,decide_false,be,a]
def qK(n d:Int):Bool:= !(((decide (d < 1) || decide (d > 1073741824)) || decide (n < -1073741824)) || decide (n > 1073741824))
def mA(n d:Int):Int:=if qK n d=true/\Nat.gcd d.natAbs n.natAbs=1 then 0 else 3
theorem MK(n d:Int):Or (.call 88) [AV.agg [I n,I d]] []=some [ti (mA n d),ti 0]:=by
 refine ah ?_;rw [HY];simp only [sZ];unfold mA;cases a:qK n d with
 | false=>unfold qK at a;rw [PJ] at a;simp only [a,NR,dW,br,aG,Pb,aZ];rfl
 | true=>
  have c: -1073741824<=n/\n<=1073741824/\1<=d/\d<=1073741824:=by unfold qK at a;simp only [OF,Pm,decide_eq_false_iff_not] at a;omega
  unfold qK at a;rw [OF] at a;have f:=DY (n:=n) ⟨c.1,c.2.1⟩;have g:=DY (n:=d) ⟨by omega,c.2.2.2⟩;have h:Or (.call 101) [AV.t (.int .u64 (n.natAbs:Int)),AV.t (.int .u64 (d.natAbs:Int))] []=some [.int .u64 (Nat.gcd d.natAbs n.natAbs:Nat)]:=by refine ah ?_;rw [Ga];exact Jq _ _
  simp only [a,NS,dE,f,g,h,aG,aI,aL,Om];by_cases b:Nat.gcd d.natAbs n.natAbs=1
  .rw [if_pos ⟨trivial,b⟩,b];rfl
  .have e:(((Nat.gcd d.natAbs n.natAbs:Nat):Int)==1)=false:=by
    rw [beq_eq_false_iff_ne];omega
   simp only [e,b,NS,aZ,and_false,↓reduceIte]
def xy:Option Int->Int->Bool
 | none,_=>true
 | some p,x=> !decide (x<=p)
def qx(r:Int):Option Int->List (Int×Int)->Bool
 | _,[]=>true
 | a,c::t=>(eC c.1 && eC c.2 && !(c.2==r) && xy a c.1) && qx r (some c.1) t
def vE(v:Va):Bool:=(v.n==0 && v.d==0) && eC v.r && qx v.r none v.cs
abbrev yK(v:Va):ad:=ad.box [I v.n,I v.d,AV.t (T.ab 2 v.ec (cz v.cs)),I v.r]
theorem Kv{v:Va}(hl:v.cs.length<=ML):∀(t:List (Int×Int)) (i:Nat) (b:Option Int),v.cs.drop i=t->i<=v.cs.length->(i=0/\b=none\/∃j p,i=j+1/\v.cs[j]? =some p/\b=some p.1)->
  Or sF [r0,AV.t (T.ab 2 v.ec (cz v.cs)),I (v.cs.length:Int),I (i:Int)] [yK v]=some [tb (qx v.r b t)]:=by
 intro t;induction t with
 | nil=>
  intro i b g w l;have e:¬(i:Int) < (v.cs.length:Int):=by have:=bp g;omega
  refine ah ?_;rw [Bg];simp only [an,↓reduceIte,Int.reduceBEq,Int.reduceEq,e,qx]
 | cons c t y=>
  intro i b g w l;obtain⟨k,D,o⟩:=bq g;have e:(i:Int) < (v.cs.length:Int):=by omega
  have h0: 0<=(i:Int):=by omega
  have z:=rR c.1;have a:=rR c.2;have m:=y (i+1) (some c.1) o (by omega) (.inr ⟨i,c,rfl,k,rfl⟩);have n:=CW i (by omega);rw [qx];refine ah ?_;rw [Bg];simp only [sZ,sU,aG,aI,aR,aL,aT,e,h0,and_self,decide_true,aZ,↓reduceIte,pd,wQ k,z];cases B:eC c.1 with
  | false=>simp only [an,↓reduceIte,Int.reduceBEq,Int.reduceEq,NS,NR,Pb,br]
  | true=>
  cases h:eC c.2 with
  | false=>rw [h] at a;simp only [an,↓reduceIte,Int.reduceBEq,Int.reduceEq,NS,NR,Pb,Om,br,a]
  | true=>
  rw [h] at a;cases d:c.2==v.r with
  | true=>simp only [aG,aI,aT,fL,dE,dW,gf,fZ,aZ,be,Pb,Qt,Om,Pd,OX,OR,br,a,d]
  | false=>
   rcases l with⟨rfl,rfl⟩ | ⟨j,p,rfl,x,rfl⟩
   .have f:¬((0:Nat):Int) > 0:=by omega
    simp only [aG,aI,aT,fL,dE,dW,gf,fZ,aZ,be,Pb,Qt,Om,Pd,OX,OR,OW,br,a,d,f,decide_false,n,xy];exact m
   .have f:((j+1:Nat):Int) > 0:=by omega
    have A:i64.wrap (((j+1:Nat):Int) - 1)= (j:Int):=by rw [wr (by unfold ML at hl;omega)];omega
    have u:(j:Int) < (v.cs.length:Int):=by omega
    have s:(0:Int)<=(j:Int):=by omega
    have q:(cz v.cs)[j]? =some [ti p.1,ti p.2]:=by have:=wQ x;simpa using this
    simp only [aG,aI,aL,aT,fL,dE,dW,gf,fZ,aZ,be,Pb,Qt,Om,Pd,OX,OR,OW,br,a,d,f,decide_true,A,u,s,and_self,↓reduceIte,Oa,q,xy];cases C:decide (c.1<=p.1) with
    | true=>simp only [aZ,NR,OX]
    | false=>simp only [be,NS,OR,n];exact m
theorem MJ{v:Va}(hl:v.cs.length<=ML):Or (.call 87) [VG v] []=some [tb (vE v)]:=by
 have b:=Kv hl v.cs 0 none rfl (OT _) (.inl ⟨rfl,rfl⟩);have k:=rR v.r;unfold vE;refine ah ?_;rw [HX];simp only [sZ,OW,pd];cases c:(v.n==0 && v.d==0) with
 | false=>simp only [NS,NR,dW,aG,br,Pb,aZ,OX]
 | true=>
 cases a:eC v.r with
 | false=>rw [a] at k;simp only [NS,NR,dE,aG,aI,aT,k,Om,aZ,OX,OR]
 | true=>rw [a] at k;simp only [NS,NR,dE,aG,aI,aT,k,Om,be,OR];exact b
def eP(s:Int)(v:Va):Bool:=
 if s=5 then vE v
 else if v.cs≠[]\/v.r≠0\/mA v.n v.d≠0\/(s≠3/\v.d≠1) then false
 else if s=1 then(v.n==0 || v.n==1)
 else if s=4 then eC v.n
 else if aJ s=true then(decide (v.n>=0) && decide (v.n < 2 ^ (s - 10).toNat))
 else true
theorem D4(s:Int){v:Va}(hl:v.cs.length<=ML):Or (.call 53) [I s,VG v] []=some [tb (eP s v)]:=by
 have k:=MJ hl;unfold eP;refine ah ?_;rw [GX];by_cases j:s=5
 .subst j;simp only [an,↓reduceIte,Int.reduceBEq,Int.reduceEq,k]
 simp only [qw,j,↓reduceIte,pd,sZ,sU];have y:=MK v.n v.d;cases c:(decide ((v.cs.length:Int) > 0) || !v.r==0) with
 | true=>
  have:v.cs≠[]\/v.r≠0\/mA v.n v.d≠0\/(s≠3/\v.d≠1):=by
   rw [OA] at c;rcases c with b | b
   .left;intro e;rw [e] at b;simp at b
   .right;left;simpa using b
  rw [if_pos this];simp only [NR,dW,aG,br,Pb,aZ]
 | false=>
 have l:v.cs= []/\v.r=0:=by
  rw [Pm] at c;refine⟨?_,by simpa using c.2⟩;cases h:v.cs with
  | nil=>rfl
  | cons a b=>rw [h] at c;simp at c
 simp only [NS,dE,y,aG,aI,aR,aL,Om];cases f:(!mA v.n v.d==0 || (!s==3 && !v.d==1)) with
 | true=>
  have:v.cs≠[]\/v.r≠0\/mA v.n v.d≠0\/(s≠3/\v.d≠1):=by
   right;right;rw [OA] at f;rcases f with b | b
   .left;simpa using b
   .right;simpa using b
  rw [if_pos this];simp only [aZ]
 | false=>
 have x:¬(v.cs≠[]\/v.r≠0\/mA v.n v.d≠0\/(s≠3/\v.d≠1)):=by
  rw [Pm] at f;have g:mA v.n v.d=0:=by simpa using f.1
  have w:¬(s≠3/\v.d≠1):=by have:=f.2;simpa using this
  rintro(h | h | h | h)
  .exact h l.1
  .exact h l.2
  .exact h g
  .exact w h
 rw [if_neg x];simp only [be];by_cases g:s=1
 .subst g;simp only [↓reduceIte];by_cases m:v.n=0
  .simp [m]
  .simp [m]
 simp only [g,↓reduceIte];by_cases i:s=4
 .subst i;have p:=rR v.n;simp only [↓reduceIte,p,aG,aI,aT]
 simp only [i,↓reduceIte];have o:=gg s;simp only [o,aG,aI,aT];cases q:aJ s with
 | false=>simp
 | true=>
  have hs: 10 < s/\s<=18:=by simpa [aJ] using q
  obtain⟨b,rfl⟩:∃b:Nat,s=10+ (b:Int):=⟨(s - 10).toNat,by omega⟩;have A: 1<=b/\b<=8:=by omega
  have z:i64.wrap (10+ (b:Int) - 10)= (b:Int):=by rw [wr (by omega)];omega
  have h0:¬(b:Int) < 0:=by omega
  have t:(10+ (b:Int) - 10).toNat=b:=by omega
  have u:i64.wrap (1 * 2 ^ min b 64)=2 ^ b:=by rcases(by omega:b=1\/b=2\/b=3\/b=4\/b=5\/b=6\/b=7\/b=8) with rfl | rfl | rfl | rfl | rfl | rfl | rfl | rfl <;> decide
  simp only [aZ,↓reduceIte,z,h0,aG,Oa,t,u]
theorem Km{er:Bool}{rs:List En}{d:Dc}(hl:rs.length<=900000)(h:∀e∈rs,Or (.call 46) [EG e,DP d] []=some [tb (!((e.ar.length:Int)== (d.ar.length:Int)))]):∀(r:List En) (i:Nat),rs.drop i=r->
  ∃z:Int,Or eX [AV.t (T.ab 5 er (aC rs)),AV.fn 46 [] [DP d],I (rs.length:Int),I (i:Int)] []=some [ti z]/\decide (z>=0)=r.any λe=> !((e.ar.length:Int)== (d.ar.length:Int)):=by
 intro r;induction r with
 | nil=>
  intro i g;have b:¬(i:Int) < (rs.length:Int):=by have:=bp g;omega
  refine⟨-1,ah ?_,by simp⟩;rw [wB];simp only [an,↓reduceIte,Int.reduceBEq,Int.reduceEq,b]
 | cons x r j=>
  intro i g;obtain⟨c,n,f⟩:=bq g;have hm:=NU c;have b:(i:Int) < (rs.length:Int):=by omega
  have h0: 0<=(i:Int):=by omega
  have k:=h x hm;cases a:(λe:En=> !((e.ar.length:Int)== (d.ar.length:Int))) x with
  | true=>replace a:(!((x.ar.length:Int)== (d.ar.length:Int)))=true:=a;rw [a] at k;refine⟨(i:Int),ah ?_,by rw [OS];simp [a]⟩;rw [wB];simp only [aG,aI,aR,aT,aL,aW,b,h0,and_self,bw,cW c,cq,k,aZ,bu,↓reduceIte]
  | false=>replace a:(!((x.ar.length:Int)== (d.ar.length:Int)))=false:=a;rw [a] at k;obtain⟨z,l,m⟩:=j (i+1) f;refine⟨z,ah ?_,by rw [m,OS,a,Om]⟩;rw [wB];simp only [aG,aI,aR,aT,aL,aW,b,h0,and_self,bw,cW c,cq,k,be,bu,↓reduceIte,next i (by omega)];exact l
theorem LP{er:Bool}{rs:List En}{d:Dc}(hl:rs.length<=900000)(b:∀e∈rs,Or (.call 46) [EG e,DP d] []=some [tb (!((e.ar.length:Int)== (d.ar.length:Int)))]):Or (.call 45) [AV.t (T.ab 5 er (aC rs)),AV.fn 46 [] [DP d]] []=some [tb (rs.any λe=> !((e.ar.length:Int)== (d.ar.length:Int)))]:=by
 obtain⟨z,c,f⟩:=Km (er:=er) hl b rs 0 rfl;have a:Or (.call 85) [AV.t (T.ab 5 er (aC rs)),AV.fn 46 [] [DP d]] []=some [ti z]:=by refine ah ?_;rw [HL];simp only [bw];exact c
 refine ah ?_;rw [GD];simp only [aG,aI,aL,a,f]
theorem Ko{er:Bool}{rs:List En}(hl:rs.length<=900000)(f:∀e∈rs,Or (.call 47) [EG e] []=some [tb (e.ar.any λn=> !eC n)]):∀(r:List En) (i:Nat),rs.drop i=r->
  ∃z:Int,Or eX [AV.t (T.ab 5 er (aC rs)),AV.fn 47 [] [],I (rs.length:Int),I (i:Int)] []=some [ti z]/\decide (z>=0)=r.any λe=>e.ar.any λn=> !eC n:=by
 intro r;induction r with
 | nil=>
  intro i g;have b:¬(i:Int) < (rs.length:Int):=by have:=bp g;omega
  refine⟨-1,ah ?_,by simp⟩;rw [wC];simp only [an,↓reduceIte,Int.reduceBEq,Int.reduceEq,b]
 | cons x r h=>
  intro i g;obtain⟨c,m,d⟩:=bq g;have hm:=NU c;have b:(i:Int) < (rs.length:Int):=by omega
  have h0: 0<=(i:Int):=by omega
  have k:=f x hm;cases a:(λe:En=>e.ar.any λn=> !eC n) x with
  | true=>replace a:(x.ar.any λn=> !eC n)=true:=a;rw [a] at k;refine⟨(i:Int),ah ?_,by rw [OS];simp [a]⟩;rw [wC];simp only [aG,aI,aR,aT,aL,aW,b,h0,and_self,bw,cW c,cq,k,aZ,bu,↓reduceIte]
  | false=>replace a:(x.ar.any λn=> !eC n)=false:=a;rw [a] at k;obtain⟨z,j,l⟩:=h (i+1) d;refine⟨z,ah ?_,by rw [l,OS,a,Om]⟩;rw [wC];simp only [aG,aI,aR,aT,aL,aW,b,h0,and_self,bw,cW c,cq,k,be,bu,↓reduceIte,next i (by omega)];exact j
theorem LR{er:Bool}{rs:List En}(hl:rs.length<=900000)(b:∀e∈rs,Or (.call 47) [EG e] []=some [tb (e.ar.any λn=> !eC n)]):Or (.call 45) [AV.t (T.ab 5 er (aC rs)),AV.fn 47 [] []] []=some [tb (rs.any λe=>e.ar.any λn=> !eC n)]:=by
 obtain⟨z,c,d⟩:=Ko (er:=er) hl b rs 0 rfl;have a:Or (.call 85) [AV.t (T.ab 5 er (aC rs)),AV.fn 47 [] []] []=some [ti z]:=by refine ah ?_;rw [HM];simp only [bw];exact c
 refine ah ?_;rw [GF];simp only [aG,aI,aL,a,d]
theorem Kk{er:Bool}{rs:List En}{y:En}(hl:rs.length<=900000)(h:∀e∈rs,Or (.call 51) [EG e,AV.t (T.ptr [T.ab 1 y.ea (enc y.ar),ti y.to.n,ti y.to.d,T.ab 2 y.to.ec (cz y.to.cs),ti y.to.r])] []=some [tb (decide (e.ar=y.ar))]):∀(r:List En) (i:Nat),rs.drop i=r->
  ∃z:Int,Or eX [AV.t (T.ab 5 er (aC rs)),AV.fn 51 [] [AV.t (T.ptr [T.ab 1 y.ea (enc y.ar),ti y.to.n,ti y.to.d,T.ab 2 y.to.ec (cz y.to.cs),ti y.to.r])],I (rs.length:Int),I (i:Int)] []=some [ti z]/\decide (z>=0)=r.any λe=>decide (e.ar=y.ar):=by
 intro r;induction r with
 | nil=>
  intro i g;have b:¬(i:Int) < (rs.length:Int):=by have:=bp g;omega
  refine⟨-1,ah ?_,by simp⟩;rw [wD];simp only [an,↓reduceIte,Int.reduceBEq,Int.reduceEq,b]
 | cons x r j=>
  intro i g;obtain⟨c,o,f⟩:=bq g;have hm:=NU c;have b:(i:Int) < (rs.length:Int):=by omega
  have h0: 0<=(i:Int):=by omega
  have k:=h x hm;cases a:(λe:En=>decide (e.ar=y.ar)) x with
  | true=>replace a:(decide (x.ar=y.ar))=true:=a;rw [a] at k;refine⟨(i:Int),ah ?_,by rw [OS];simp [a]⟩;rw [wD];simp only [aG,aI,aR,aT,aL,aW,b,h0,and_self,bw,cW c,cq,k,aZ,bu,↓reduceIte]
  | false=>replace a:(decide (x.ar=y.ar))=false:=a;rw [a] at k;obtain⟨z,l,m⟩:=j (i+1) f;refine⟨z,ah ?_,by rw [m,OS,a,Om]⟩;rw [wD];simp only [aG,aI,aR,aT,aL,aW,b,h0,and_self,bw,cW c,cq,k,be,bu,↓reduceIte,next i (by omega)];exact l
theorem LM{er:Bool}{rs:List En}{y:En}(hl:rs.length<=900000)(b:∀e∈rs,Or (.call 51) [EG e,AV.t (T.ptr [T.ab 1 y.ea (enc y.ar),ti y.to.n,ti y.to.d,T.ab 2 y.to.ec (cz y.to.cs),ti y.to.r])] []=some [tb (decide (e.ar=y.ar))]):Or (.call 45) [AV.t (T.ab 5 er (aC rs)),AV.fn 51 [] [AV.t (T.ptr [T.ab 1 y.ea (enc y.ar),ti y.to.n,ti y.to.d,T.ab 2 y.to.ec (cz y.to.cs),ti y.to.r])]] []=some [tb (rs.any λe=>decide (e.ar=y.ar))]:=by
 obtain⟨z,c,f⟩:=Kk (er:=er) hl b rs 0 rfl;have a:Or (.call 85) [AV.t (T.ab 5 er (aC rs)),AV.fn 51 [] [AV.t (T.ptr [T.ab 1 y.ea (enc y.ar),ti y.to.n,ti y.to.d,T.ab 2 y.to.ec (cz y.to.cs),ti y.to.r])]] []=some [ti z]:=by refine ah ?_;rw [HN];simp only [bw];exact c
 refine ah ?_;rw [GG];simp only [aG,aI,aL,a,f]
theorem Kn{er:Bool}{rs:List En}{d:Dc}(hl:rs.length<=900000)(h:∀e∈rs,Or (.call 54) [EG e,DP d] []=some [tb (!eP d.so e.to)]):∀(r:List En) (i:Nat),rs.drop i=r->
  ∃z:Int,Or eX [AV.t (T.ab 5 er (aC rs)),AV.fn 54 [] [DP d],I (rs.length:Int),I (i:Int)] []=some [ti z]/\decide (z>=0)=r.any λe=> !eP d.so e.to:=by
 intro r;induction r with
 | nil=>
  intro i g;have b:¬(i:Int) < (rs.length:Int):=by have:=bp g;omega
  refine⟨-1,ah ?_,by simp⟩;rw [wE];simp only [an,↓reduceIte,Int.reduceBEq,Int.reduceEq,b]
 | cons x r j=>
  intro i g;obtain⟨c,n,f⟩:=bq g;have hm:=NU c;have b:(i:Int) < (rs.length:Int):=by omega
  have h0: 0<=(i:Int):=by omega
  have k:=h x hm;cases a:(λe:En=> !eP d.so e.to) x with
  | true=>replace a:(!eP d.so x.to)=true:=a;rw [a] at k;refine⟨(i:Int),ah ?_,by rw [OS];simp [a]⟩;rw [wE];simp only [aG,aI,aR,aT,aL,aW,b,h0,and_self,bw,cW c,cq,k,aZ,bu,↓reduceIte]
  | false=>replace a:(!eP d.so x.to)=false:=a;rw [a] at k;obtain⟨z,l,m⟩:=j (i+1) f;refine⟨z,ah ?_,by rw [m,OS,a,Om]⟩;rw [wE];simp only [aG,aI,aR,aT,aL,aW,b,h0,and_self,bw,cW c,cq,k,be,bu,↓reduceIte,next i (by omega)];exact l
theorem LQ{er:Bool}{rs:List En}{d:Dc}(hl:rs.length<=900000)(b:∀e∈rs,Or (.call 54) [EG e,DP d] []=some [tb (!eP d.so e.to)]):Or (.call 45) [AV.t (T.ab 5 er (aC rs)),AV.fn 54 [] [DP d]] []=some [tb (rs.any λe=> !eP d.so e.to)]:=by
 obtain⟨z,c,f⟩:=Kn (er:=er) hl b rs 0 rfl;have a:Or (.call 85) [AV.t (T.ab 5 er (aC rs)),AV.fn 54 [] [DP d]] []=some [ti z]:=by refine ah ?_;rw [HO];simp only [bw];exact c
 refine ah ?_;rw [GH];simp only [aG,aI,aL,a,f]
theorem Kl{er:Bool}{rs:List En}{y:En}(hl:rs.length<=900000)(h:∀e∈rs,Or (.call 75) [EG e,AV.t (T.ptr [T.ab 1 y.ea (enc y.ar),ti y.to.n,ti y.to.d,T.ab 2 y.to.ec (cz y.to.cs),ti y.to.r])] []=some [tb (decide (e.ar=y.ar))]):∀(r:List En) (i:Nat),rs.drop i=r->
  ∃z:Int,Or eX [AV.t (T.ab 5 er (aC rs)),AV.fn 75 [] [AV.t (T.ptr [T.ab 1 y.ea (enc y.ar),ti y.to.n,ti y.to.d,T.ab 2 y.to.ec (cz y.to.cs),ti y.to.r])],I (rs.length:Int),I (i:Int)] []=some [ti z]/\decide (z>=0)=r.any λe=>decide (e.ar=y.ar):=by
 intro r;induction r with
 | nil=>
  intro i g;have b:¬(i:Int) < (rs.length:Int):=by have:=bp g;omega
  refine⟨-1,ah ?_,by simp⟩;rw [wF];simp only [an,↓reduceIte,Int.reduceBEq,Int.reduceEq,b]
 | cons x r j=>
  intro i g;obtain⟨c,o,f⟩:=bq g;have hm:=NU c;have b:(i:Int) < (rs.length:Int):=by omega
  have h0: 0<=(i:Int):=by omega
  have k:=h x hm;cases a:(λe:En=>decide (e.ar=y.ar)) x with
  | true=>replace a:(decide (x.ar=y.ar))=true:=a;rw [a] at k;refine⟨(i:Int),ah ?_,by rw [OS];simp [a]⟩;rw [wF];simp only [aG,aI,aR,aT,aL,aW,b,h0,and_self,bw,cW c,cq,k,aZ,bu,↓reduceIte]
  | false=>replace a:(decide (x.ar=y.ar))=false:=a;rw [a] at k;obtain⟨z,l,m⟩:=j (i+1) f;refine⟨z,ah ?_,by rw [m,OS,a,Om]⟩;rw [wF];simp only [aG,aI,aR,aT,aL,aW,b,h0,and_self,bw,cW c,cq,k,be,bu,↓reduceIte,next i (by omega)];exact l
theorem yl{er:Bool}{rs:List En}{y:En}(hl:rs.length<=900000)(b:∀e∈rs,Or (.call 75) [EG e,AV.t (T.ptr [T.ab 1 y.ea (enc y.ar),ti y.to.n,ti y.to.d,T.ab 2 y.to.ec (cz y.to.cs),ti y.to.r])] []=some [tb (decide (e.ar=y.ar))]):Or (.call 45) [AV.t (T.ab 5 er (aC rs)),AV.fn 75 [] [AV.t (T.ptr [T.ab 1 y.ea (enc y.ar),ti y.to.n,ti y.to.d,T.ab 2 y.to.ec (cz y.to.cs),ti y.to.r])]] []=some [tb (rs.any λe=>decide (e.ar=y.ar))]:=by
 obtain⟨z,c,f⟩:=Kl (er:=er) hl b rs 0 rfl;have a:Or (.call 85) [AV.t (T.ab 5 er (aC rs)),AV.fn 75 [] [AV.t (T.ptr [T.ab 1 y.ea (enc y.ar),ti y.to.n,ti y.to.d,T.ab 2 y.to.ec (cz y.to.cs),ti y.to.r])]] []=some [ti z]:=by refine ah ?_;rw [HP];simp only [bw];exact c
 refine ah ?_;rw [GI];simp only [aG,aI,aL,a,f]
theorem Ks{e:Bool}{l:List Int}(hl:l.length<=1000):∀(r:List Int) (i:Nat),l.drop i=r->
  ∃z:Int,Or ei [ab e l,AV.fn 49 [] [],I (l.length:Int),I (i:Int)] []=some [ti z]/\decide (z>=0)=r.any λn=> !eC n:=by
 intro r;induction r with
 | nil=>
  intro i g;have a:¬(i:Int) < (l.length:Int):=by have:=bp g;omega
  refine⟨-1,ah ?_,by simp⟩;rw [wL];simp only [an,↓reduceIte,Int.reduceBEq,Int.reduceEq,a]
 | cons d r j=>
  intro i g;obtain⟨c,p,h⟩:=bq g;have a:(i:Int) < (l.length:Int):=by omega
  have h0: 0<=(i:Int):=by omega
  have f:=rR d;have k:Or (.call 49) [I d] []=some [tb (!eC d)]:=by refine ah ?_;rw [GU];simp only [aG,aI,aT,f]
  cases b: !eC d with
  | true=>rw [b] at k;refine⟨(i:Int),ah ?_,by simp only [OS,b,Pb];simp⟩;rw [wL];simp only [aG,aI,aT,aL,a,h0,and_self,aD,bM c,k,aZ,bu,↓reduceIte]
  | false=>rw [b] at k;obtain⟨z,m,o⟩:=j (i+1) h;refine⟨z,ah ?_,by rw [o];simp only [OS,b,Om]⟩;rw [wL];simp only [aG,aI,aT,aL,a,h0,and_self,aD,bM c,k,be,bu,↓reduceIte,next i (by omega)];exact m
theorem LU{e:En}(hl:e.ar.length<=1000):Or (.call 47) [EG e] []=some [tb (e.ar.any λn=> !eC n)]:=by
 obtain⟨z,c,d⟩:=Ks (e:=e.ea) hl e.ar 0 rfl;have b:Or (.call 86) [ab e.ea e.ar,AV.fn 49 [] []] []=some [ti z]:=by refine ah ?_;rw [HW];simp only [aD];exact c
 have a:Or (.call 48) [ab e.ea e.ar,AV.fn 49 [] []] []=some [tb (e.ar.any λn=> !eC n)]:=by refine ah ?_;rw [GS];simp only [aG,aI,aL,b,d]
 refine ah ?_;rw [GL];simp only [aG,aI,aT,a]
theorem LS(e:En)(d:Dc):Or (.call 46) [EG e,DP d] []=some [tb (!((e.ar.length:Int)== (d.ar.length:Int)))]:=by refine ah ?_;rw [GJ];simp only [aD]
theorem LX{e y:En}(hl:e.ar.length<=1000):Or (.call 51) [EG e,AV.t (T.ptr [T.ab 1 y.ea (enc y.ar),ti y.to.n,ti y.to.d,T.ab 2 y.to.ec (cz y.to.cs),ti y.to.r])] []=some [tb (decide (e.ar=y.ar))]:=by have k:=uR (e:=e.ea) (e':=y.ea) (b:=y.ar) hl;refine ah ?_;rw [GW];simp only [aG,aI,aT,k]
theorem D8{e y:En}(hl:e.ar.length<=1000):Or (.call 75) [EG e,AV.t (T.ptr [T.ab 1 y.ea (enc y.ar),ti y.to.n,ti y.to.d,T.ab 2 y.to.ec (cz y.to.cs),ti y.to.r])] []=some [tb (decide (e.ar=y.ar))]:=by have k:=uR (e:=e.ea) (e':=y.ea) (b:=y.ar) hl;refine ah ?_;rw [Hp];simp only [aG,aI,aT,k]
theorem LY{e:En}{d:Dc}(hl:e.to.cs.length<=ML):Or (.call 54) [EG e,DP d] []=some [tb (!eP d.so e.to)]:=by have k:=D4 d.so hl;refine ah ?_;rw [GY];simp only [aG,aI,aT,k]
def oX:List En->List En->Bool
 | _,[]=>false
 | a,e::r=>(a.any λx=>decide (x.ar=e.ar)) || oX (a++ [e]) r
def jo(d:Dc)(m:Me):Int:=
 if 1000 < m.rs.length then 9
 else if(m.rs.any λe=> !((e.ar.length:Int)== (d.ar.length:Int)))=true then 9
 else if(m.rs.any λe=>e.ar.any λn=> !eC n)=true then 3
 else if oX [] m.rs=true then 7
 else if eP d.so m.re=false then 8
 else if(m.rs.any λe=> !eP d.so e.to)=true then 8
 else 0
structure fJ (m:Me):Prop where
 re:m.re.cs.length<=ML
 rs:∀e∈m.rs,e.to.cs.length<=ML
 rcc:m.re.ec=true->m.re.cs= []
 DT:∀e∈m.rs,e.to.ec=true->e.to.cs= []
 ea:∀e∈m.rs,e.ea=true->e.ar= []
abbrev FZ(d:Dc):ad:=ad.box [AV.t (T.str d.nm),AV.t (T.ab 1 d.ea (enc d.ar)),I d.so]
abbrev cO(m:Me):ad:=ad.box [AV.t (T.ab 5 m.er (aC m.rs)),I m.re.n,I m.re.d,AV.t (T.ab 2 m.re.ec (cz m.re.cs)),I m.re.r]
theorem JA{d:Dc}{m:Me}(wf:fJ m)(hl:m.rs.length<=1000)(q:∀e∈m.rs,e.ar.length<=1000):∀(r:List En) (i:Nat) (a:List En),m.rs.drop i=r->a=m.rs.take i->i<=m.rs.length->
  Or sn [r0,r1,AV.t (T.ab 5 m.er (aC m.rs)),I (m.rs.length:Int),I (i:Int)] [FZ d,cO m]=some [ti (if oX a r=true then 7 else if eP d.so m.re=false then 8 else if(m.rs.any λe=> !eP d.so e.to)=true then 8 else 0)]:=by
 intro r;induction r with
 | nil=>
  intro i a g c s;have j:¬(i:Int) < (m.rs.length:Int):=by have:=bp g;omega
  have o:=D4 d.so wf.re;have b:=LQ (er:=m.er) (d:=d) (by omega) (λe k=>LY (wf.rs e k));refine ah ?_;rw [vU];simp only [oX,j,decide_false,be,o,aG,aI,aT,Od,↓reduceIte];cases n:eP d.so m.re with
  | false=>simp only [an,↓reduceIte,Int.reduceBEq,Int.reduceEq,NS,NR,br]
  | true=>simp only [NR,NS,dE,b,aG,aI,aT,be,Bool.true_eq_false,↓reduceIte];cases(m.rs.any λe=> !eP d.so e.to) <;> rfl
 | cons x r v=>
  intro i a g c s;obtain⟨h,z,p⟩:=bq g;have hm:=NU h;have j:(i:Int) < (m.rs.length:Int):=by omega
  have h0: 0<=(i:Int):=by omega
  have l:eO 0 (i:Int) (m.rs.length:Int)=some ():=by unfold eO;rw [if_pos ⟨by omega,by omega,by omega⟩]
  have f:sub 0 (i:Int) (aC m.rs)=aC a:=by rw [Ew,c];simp [aC,List.map_take]
  have w:a.length<=1000:=by rw [c,OG];omega
  have b:=LM (er:=m.er) (rs:=a) (y:=x) (by omega) (λe k=>LX (by rw [c] at k;exact q e (Pz k)));have u:=v (i+1) (a++ [x]) p (by rw [c,PQ,h];rfl) (by omega);rw [oX];cases n:a.any λe=>decide (e.ar=x.ar) with
  | true=>rw [n] at b;refine ah ?_;rw [vU];simp only [aG,aI,aR,aT,aL,aW,j,h0,and_self,bw,cW h,cq,l,f,b,aZ,bu,↓reduceIte,Pb]
  | false=>rw [n] at b;refine ah ?_;rw [vU];simp only [aG,aI,aR,aT,aL,aW,j,h0,and_self,bw,cW h,cq,l,f,b,be,bu,↓reduceIte,Om,next i (by omega)];exact u
theorem Lq{d:Dc}{m:Me}(wf:fJ m)(k:d.ar.length<=1000):Or (.call 27) [DG d,MG m] []=some [ti (jo d m)]:=by
 unfold jo;refine ah ?_;rw [Gn];simp only [bw];by_cases c: 1000 < m.rs.length
 .have a:(m.rs.length:Int) > 1000:=by omega
  rw [if_pos c];simp only [a,decide_true,NR,dW,aG,br,aZ]
 have a:¬(m.rs.length:Int) > 1000:=by omega
 rw [if_neg c];have h:=LP (er:=m.er) (rs:=m.rs) (d:=d) (by omega) (λe _=>LS e d);simp only [a,decide_false,NS,dE,aG,aI,aT,be,h];cases g:m.rs.any λe=> !((e.ar.length:Int)== (d.ar.length:Int)) with
 | true=>simp only [aZ,↓reduceIte]
 | false=>
 have f:∀e∈m.rs,e.ar.length<=1000:=λe b=>by have:=Pg.1 g e b;simp only [Ps,PJ,beq_iff_eq] at this;omega
 have i:=LR (er:=m.er) (rs:=m.rs) (by omega) (λe b=>LU (f e b));simp only [be,aG,aI,aT,i,Od,↓reduceIte];cases j:m.rs.any λe=>e.ar.any λn=> !eC n with
 | true=>simp only [aZ,↓reduceIte]
 | false=>
 simp only [be,Od,↓reduceIte];exact JA wf (by omega) f m.rs 0 [] rfl rfl (OT _)
def mr:Nat->List Dc->List Me->Int×Int
 | i,d::ds,m::ms=>if jo d m=0 then mr (i+1) ds ms else(jo d m,(i:Int))
 | _,_,_=>(0,0)
theorem n8{ed ew:Bool}{ds:List Dc}{ms:List Me}(w:ds.length<=1000)(p:ms.length=ds.length)(wf:∀m∈ms,fJ m)(o:∀d∈ds,d.ar.length<=1000):∀(r:List Dc) (a:List Me) (i:Nat),ds.drop i=r->ms.drop i=a->
  Or sG [r0,r1,AV.t (T.ab 3 ed (aM ds)),I (ds.length:Int),I (i:Int)] [ad.box [AV.t (T.ab 5 ew (bF ms))],ad.box [I 0,I 0]]=some [ti (mr i r a).1,ti (mr i r a).2]:=by
 intro r;induction r with
 | nil=>
  intro a i g e;have b:¬(i:Int) < (ds.length:Int):=by have:=bp g;omega
  refine ah ?_;rw [Bj];simp only [an,↓reduceIte,Int.reduceBEq,Int.reduceEq,b,mr]
 | cons d r s=>
  intro a i g e;obtain⟨f,v,l⟩:=bq g;cases a with
  | nil=>have:=bp e;omega
  | cons m a=>
  obtain⟨h,x,u⟩:=bq e;have b:(i:Int) < (ds.length:Int):=by omega
  have j:(i:Int) < (ms.length:Int):=by omega
  have h0: 0<=(i:Int):=by omega
  have k:=Lq (d:=d) (wf m (NU h)) (o d (NU f));have q:=s a (i+1) l u;rw [mr];refine ah ?_;rw [Bj];by_cases c:jo d m=0
  .rw [c] at k;rw [if_pos c];simp only [an,↓reduceIte,Int.reduceBEq,Int.reduceEq,b,j,h0,and_self,cj,dx,dh f,my h,fH,cq,k,NR,next i (by omega)];exact q
  .have n:(jo d m==0)=false:=by simpa using c
   rw [if_neg c];simp only [aG,aI,aR,aT,aL,bD,aW,aZ,bu,↓reduceIte,b,j,h0,and_self,cj,dx,dh f,my h,fH,cq,k,n,NS]
def kP(a:As)(ms:List Me):Int×Int:=
 if(cM a).2.1≠0 then(cM a).2
 else if ms.length≠a.ds.length then(9,0)
 else mr 0 a.ds ms
theorem s8{a:As}{ew:Bool}{ms:List Me}(j:∀d∈a.ds,d.nm.size<=9223372036854775807)(wf:∀m∈ms,fJ m):Or (.call 8) [AG a,WG ew ms] []=some [ti (kP a ms).1,ti (kP a ms).2]:=by
 obtain⟨x,g,k⟩:=DZ (a:=a) j;have c:Or (.call 26) [AG a] []=some [ti (cM a).2.1,ti (cM a).2.2]:=by refine ah ?_;rw [Gm];simp only [aG,aI,aR,aL,k,g]
 unfold kP;refine ah ?_;rw [e8];by_cases h:(cM a).2.1=0
 .obtain⟨ok,f⟩:=qA (es:=(cM a).1.isEmpty) h;have l:a.ds.length<=30:=ok.dl;have b:((cM a).2.1==0)=true:=by simpa using h
  rw [if_neg (by simpa using h)];simp only [aG,aI,aR,aL,c,b,NR,be,cj,dx];by_cases hl:ms.length=a.ds.length
  .have e:((ms.length:Int)== (a.ds.length:Int))=true:=by rw [beq_iff_eq];omega
   rw [if_neg (by simpa using hl)];simp only [e,NR,be];exact n8 (by omega) hl wf (λd i=>by have:=f d i;omega) a.ds ms 0 rfl rfl
  .have e:((ms.length:Int)== (a.ds.length:Int))=false:=by rw [beq_eq_false_iff_ne];omega
   rw [if_pos hl];simp only [e,NS,aZ]
 .have b:((cM a).2.1==0)=false:=by simpa using h
  rw [if_pos h];simp only [aG,aI,aR,aL,c,b,NS,aZ]
theorem zo:∀{ds:List Dc} {ms:List Me} {i:Nat},ms.length=ds.length->(mr i ds ms).1=0->∀(j:Nat) (d:Dc) (m:Me),ds[j]? =some d->ms[j]? =some m->jo d m=0
 | [],ms,i,hl,h,j,d,m,a,hm=>by simp at a
 | d0::ds,[],i,hl,h,j,d,m,a,hm=>by simp at hm
 | d0::ds,c::ms,i,hl,h,j,d,m,a,hm=>by
  rw [mr] at h;by_cases b:jo d0 c=0
  .rw [if_pos b] at h;cases j with
   | zero=>simp at a hm;subst a;subst hm;exact b
   | succ j=>exact zo (by simpa using hl) h j d m (by simpa using a) (by simpa using hm)
  .rw [if_neg b] at h;exact absurd h b
theorem Jm{a:As}{ms:List Me}(h:(kP a ms).1=0):(cM a).2.1=0/\ms.length=a.ds.length/\∀(j:Nat) (d:Dc) (m:Me),a.ds[j]? =some d->ms[j]? =some m->jo d m=0:=by
 unfold kP at h;by_cases b:(cM a).2.1≠0
 .rw [if_pos b] at h;exact absurd h b
 rw [if_neg b] at h;by_cases c:ms.length≠a.ds.length
 .rw [if_pos c] at h;exact absurd (show(9:Int)=0 from h) (by decide)
 rw [if_neg c] at h;exact⟨by simpa using b,by simpa using c,zo (by simpa using c) h⟩
open Go Go.Aev Go.IntKind
theorem JW{e e':Bool}{a b:List Int}(hl:a.length<=1000):∀(d c:List Int) (i:Nat),a.drop i=d->b.drop i=c->i<=a.length->i<=b.length->
  Or sw [ab e a,ab e' b,I (i:Int)] []=some [tb (decide (d=c))]:=by
 intro d;induction d with
 | nil=>
  intro c i g f p q;have j:¬(i:Int) < (a.length:Int):=by have:=bp g;omega
  refine ah ?_;rw [we];simp only [an,↓reduceIte,Int.reduceBEq,Int.reduceEq,aD,j];have:((a.length:Int)== (b.length:Int))=decide (([]:List Int)=c):=by
   have z:a.length=i:=by have:=bp g;omega
   cases c with
   | nil=>
    have:=bp f;have e:a.length=b.length:=by omega
    rw [e];simp
   | cons y c=>obtain⟨_,u,_⟩:=bq f;rw [show decide (([]:List Int)=y::c)=false by simp,beq_eq_false_iff_ne];omega
  rw [this]
 | cons x d s=>
  intro c i g f p q;obtain⟨m,w,n⟩:=bq g;have j:(i:Int) < (a.length:Int):=by omega
  have h0: 0<=(i:Int):=by omega
  cases c with
  | nil=>
   have k:(i:Int)>=(b.length:Int):=by have:=bp f;omega
   refine ah ?_;rw [we];simp only [aG,br,aZ,aD,j,k,decide_true,NR];rw [show decide (x::d= ([]:List Int))=false by simp]
  | cons y c=>
   obtain⟨t,u,v⟩:=bq f;have k:¬(i:Int)>=(b.length:Int):=by omega
   have o:(i:Int) < (b.length:Int):=by omega
   have r:=s c (i+1) n v (by omega) (by omega);refine ah ?_;rw [we];simp only [aG,aI,aL,aZ,be,↓reduceIte,aD,j,k,o,h0,and_self,decide_true,decide_false,bM m,bM t];by_cases h:x=y
   .subst h;simp only [beq_self_eq_true,NR,be,next i (by omega)];refine r.trans ?_;simp
   .have l:(x==y)=false:=by simpa using h
    simp only [l,NS,aZ];simp [h]
theorem yh{e e':Bool}{a b:List Int}(hl:a.length<=1000):Or (.call 36) [ab e a,ab e' b] []=some [tb (decide (a=b))]:=by refine ah ?_;rw [GA];exact JW hl a b 0 rfl rfl (OT _) (OT _)
def kF(v u:Va):Prop:=v.n=u.n/\v.d=u.d/\v.cs=u.cs/\v.r=u.r
def fW:List En->List En->Prop
 | [],[]=>True
 | e::r,x::t=>(e.ar=x.ar/\kF e.to x.to)/\fW r t
 | _,_=>False
def iM:List Me->List Me->Prop
 | [],[]=>True
 | m::r,x::t=>(fW m.rs x.rs/\kF m.re x.re)/\iM r t
 | _,_=>False
theorem kF.rfl{v:Va}:kF v v:=⟨.refl _, .refl _, .refl _, .refl _⟩
theorem fW.rfl:∀{l:List En},fW l l
 | []=>trivial
 | _::_=>⟨⟨.refl _, .rfl⟩,fW.rfl⟩
theorem iM.rfl:∀{l:List Me},iM l l
 | []=>trivial
 | _::_=>⟨⟨.rfl, .rfl⟩,iM.rfl⟩
theorem iM.app:∀{a b c d:List Me},iM a b->iM c d->iM (a++c) (b++d)
 | [],[],_,_,_,h=>h
 | _::_,_::_,_,_,h,e=>⟨h.1,iM.app h.2 e⟩
 | [],_::_,_,_,h,_=>h.elim
 | _::_,[],_,_,h,_=>h.elim
theorem wT:∀{a b:List En},fW a b->a.length=b.length
 | [],[],_=>rfl
 | _::_,_::_,h=>by rw [NV,NV,wT h.2]
 | [],_::_,h=>h.elim
 | _::_,[],h=>h.elim
theorem BB:∀{a b:List Me},iM a b->a.length=b.length
 | [],[],_=>rfl
 | _::_,_::_,h=>by rw [NV,NV,BB h.2]
 | [],_::_,h=>h.elim
 | _::_,[],h=>h.elim
theorem JV{v u:Va}(hl:v.cs.length<=ML)(b:u.cs=v.cs):∀(t:List (Int×Int)) (i:Nat),v.cs.drop i=t->
  Or sv [r0,r1,I (i:Int)] [yK v,yK u]=some [tb true]:=by
 obtain⟨n,m,k,j,o⟩:=u;dsimp only at b;subst b;intro t;induction t with
 | nil=>
  intro i g;have a:¬(i:Int) < (v.cs.length:Int):=by have:=bp g;omega
  refine ah ?_;rw [AF];simp only [an,↓reduceIte,Int.reduceBEq,Int.reduceEq,pd,a]
 | cons c t h=>
  intro i g;obtain⟨d,l,e⟩:=bq g;have a:(i:Int) < (v.cs.length:Int):=by omega
  have h0: 0<=(i:Int):=by omega
  have f:=h (i+1) e;refine ah ?_;rw [AF];simp only [an,↓reduceIte,Int.reduceBEq,Int.reduceEq,pd,a,h0,and_self,wQ d,NR,CW i (by omega)];exact f
theorem D2{v u:Va}(hl:v.cs.length<=ML)(e:kF v u):Or (.call 35) [VG v,VG u] []=some [tb true]:=by obtain⟨b,c,a,d⟩:=e;have f:=JV hl a.symm v.cs 0 rfl;obtain⟨j,i,h,g,k⟩:=u;dsimp only at b c a d;subst b c a d;refine ah ?_;rw [Gz];simp only [an,↓reduceIte,Int.reduceBEq,Int.reduceEq,NR];exact f
abbrev bC(e:Bool)(l:List Me):ad:=ad.box [AV.t (T.ab 5 e (bF l))]
structure iF (m:Me):Prop where
 rl:m.rs.length<=1000
 re:m.re.cs.length<=ML
 rs:∀e∈m.rs,e.to.cs.length<=ML/\e.ar.length<=1000
theorem Jr{ew ew':Bool}{ms l:List Me}{m h:Me}{k:Nat}(hm:iF m)(A:iF h)
  (v:Or qh [r0,r1,I ((k+1:Nat):Int)] [bC ew ms,bC ew' l]=some [tb true]) (C:k<=1000):∀(r d:List En) (i:Nat),m.rs.drop i=r->h.rs.drop i=d->fW r d->
  Or sf [r0,r1,I (k:Int),Y'2,Y'3,I (i:Int)] [bC ew ms,bC ew' l,cO m,cO h]=some [tb true]:=by
 intro r;induction r with
 | nil=>
  intro d i g o f;have n:¬(i:Int) < (m.rs.length:Int):=by have:=bp g;omega
  refine ah ?_;rw [zJ];simp only [an,↓reduceIte,Int.reduceBEq,Int.reduceEq,bw,n,next k (by omega)];exact v
 | cons e r w=>
  intro d i g o f;obtain⟨p,B,s⟩:=bq g;cases d with
  | nil=>exact f.elim
  | cons x d=>
  obtain⟨y,D,z⟩:=bq o;have n:(i:Int) < (m.rs.length:Int):=by omega
  have t:(i:Int) < (h.rs.length:Int):=by omega
  have h0: 0<=(i:Int):=by omega
  have hs:=hm.rs e (NU p);have j:=yh (e:=e.ea) (e':=x.ea) (a:=e.ar) (b:=x.ar) hs.2;rw [decide_eq_true f.1.1] at j;have q:=D2 hs.1 f.1.2;have u:=w d (i+1) s z f.2;have:=hm.rl;refine ah ?_;rw [zJ];simp only [an,↓reduceIte,Int.reduceBEq,Int.reduceEq,bw,n,t,h0,and_self,cW p,cW y,cq,j,q,NR,next i (by omega)];exact u
theorem Jp{ew ew':Bool}{ms b:List Me}(hl:ms.length<=1000)(hm:∀m∈ms,iF m)(l:∀m∈b,iF m):∀(r a:List Me) (k:Nat),ms.drop k=r->b.drop k=a->iM r a->
  Or qh [r0,r1,I (k:Int)] [bC ew ms,bC ew' b]=some [tb true]:=by
 intro r;induction r with
 | nil=>
  intro a i g h c;have d:¬(i:Int) < (ms.length:Int):=by have:=bp g;omega
  refine ah ?_;rw [zK];simp only [an,↓reduceIte,Int.reduceBEq,Int.reduceEq,dx,d]
 | cons m r u=>
  intro a i g h c;obtain⟨j,w,q⟩:=bq g;cases a with
  | nil=>exact c.elim
  | cons f a=>
  obtain⟨p,x,v⟩:=bq h;have d:(i:Int) < (ms.length:Int):=by omega
  have s:(i:Int) < (b.length:Int):=by omega
  have h0: 0<=(i:Int):=by omega
  have hs:=hm m (NU j);have n:=l f (NU p);have o:=D2 hs.re c.1.2;have e:((m.rs.length:Int)== (f.rs.length:Int))=true:=by rw [wT c.1.1];simp
  have t:=Jr hs n (u a (i+1) q v c.2) (by omega) m.rs f.rs 0 rfl rfl c.1.1;refine ah ?_;rw [zK];simp only [aG,aI,aR,bH,bK,aT,aL,aW,fL,dE,aZ,be,bu,↓reduceIte,dx,bw,d,s,h0,and_self,my j,my p,fH,cq,e,o,NR,NS];exact t
theorem Lh{ew ew':Bool}{ms a:List Me}(hl:ms.length<=1000)(hm:∀m∈ms,iF m)(d:∀m∈a,iF m)(c:iM ms a):Or (.call 10) [WG ew ms,WG ew' a] []=some [tb true]:=by
 have b:((ms.length:Int)== (a.length:Int))=true:=by rw [BB c];simp
 have e:=Jp (ew:=ew) (ew':=ew') hl hm d ms a 0 rfl rfl c;refine ah ?_;rw [F8];simp only [dx,b,NR,be];exact e
theorem M1{n:Nat}(h:n<=ML):bt 16 (0+n)=some ():=by unfold bt;rw [if_pos (.inr ⟨by omega,by unfold ML at h;omega⟩)]
theorem yk{e:Bool}{l:List (Int×Int)}(a:e=true->l= [])(hl:l.length<=ML):∃x,Or (.call 44) [AV.t (T.ab 2 e (cz l))] []=some [x]/\x.ak 2=some (e,cz l):=by
 cases e with
 | true=>refine⟨T.ae true,ah ?_,by rw [a rfl];rfl⟩;rw [AN];rfl
 | false=>refine⟨T.ab 2 false (cz l),ah ?_,rfl⟩;rw [AN];simp only [pd,M1 hl,aG,be]
theorem wR(l:List En)(e:En):aC l++ [[T.ab 1 e.ea (enc e.ar),ti e.to.n,ti e.to.d,cT e.to,ti e.to.r]]=aC (l++ [e]):=by simp [aC]
def nV(v:Va):Va:=⟨false,v.n,v.d,v.ec,v.cs,v.r⟩
def nE(e:En):En:=⟨e.ea,e.ar,nV e.to⟩
theorem Ij(l:List En)(e:En):aC l++ [[T.ab 1 e.ea (enc e.ar),ti e.to.n,ti e.to.d,T.ab 2 e.to.ec (cz e.to.cs),ti e.to.r]]=aC (l++ [nE e]):=by rw [<-wR];rfl
structure gO (m:Me):Prop where
 rl:m.rs.length<=1000
 al:∀e∈m.rs,e.ar.length<=1000
theorem Jz{m:Me}{e3:Bool}{re:Va}{l:ad}(wf:fJ m)(ok:gO m)(h:l=ad.box [AV.t (T.ae true),I 0,I 0,AV.t (T.ae true),I 0]):∀(r:List En) (i:Nat) (acc:List En),m.rs.drop i=r->i<=m.rs.length->acc.length=i->acc++r.map nE=m.rs.map nE->
  Or oG [r0,r1,AV.t (T.ab 5 m.er (aC m.rs)),I (m.rs.length:Int),I (i:Int)] [l,ad.box [o2,I re.n,I re.d,AV.t (T.ab 2 re.ec (cz re.cs)),I re.r],ad.sl false 5 false (aC acc)]=some [T.ab 5 false (aC (m.rs.map nE)),ti re.n,ti re.d,T.ab 2 re.ec (cz re.cs),ti re.r]:=by
 intro r;subst h;induction r with
 | nil=>
  intro i acc g p a b;have c:¬(i:Int) < (m.rs.length:Int):=by have:=bp g;omega
  rw [OV,Oj] at b;refine ah ?_;rw [z8];simp only [an,↓reduceIte,Int.reduceBEq,Int.reduceEq,c,b]
 | cons x r u=>
  intro i acc g p a b;obtain⟨e,v,o⟩:=bq g;have hm:=NU e;have c:(i:Int) < (m.rs.length:Int):=by omega
  have h0: 0<=(i:Int):=by omega
  have:=ok.rl;obtain⟨y,j,q⟩:=jU x.ea x.ar (wf.ea x hm) (by have:=ok.al x hm;omega);obtain⟨w,k,f⟩:=yk (wf.DT x hm) (wf.rs x hm);have s:=u (i+1) (acc++ [nE x]) o (by omega) (by simp [a]) (by rw [<-b];simp);refine ah ?_;rw [z8];simp only [an,↓reduceIte,Int.reduceBEq,Int.reduceEq,c,h0,and_self,bw,cW e,cq,j,q,k,f,NW,cE (show acc.length+1<=1000000 by omega),next i (by omega),Ij];exact s
theorem Lp{m:Me}(wf:fJ m)(ok:gO m):∃x y,Or (.call 22) [MG m] []=some [x,ti m.re.n,ti m.re.d,y,ti m.re.r]/\x.ak 5=some (m.rs.isEmpty,aC (m.rs.map nE))/\y.ak 2=some (m.re.ec,cz m.re.cs):=by
 obtain⟨o,c,b⟩:=yk wf.rcc wf.re;cases a:m.rs with
 | nil=>refine⟨T.ae true,T.ab 2 m.re.ec (cz m.re.cs),ah ?_,rfl,by rw [aW]⟩;rw [z6];simp only [aG,aI,c,b,bw];refine ah ?_;rw [z7];simp only [an,↓reduceIte,Int.reduceBEq,Int.reduceEq,a,N7,On,Ox,decide_false]
 | cons x r=>
  have hm:x∈m.rs:=by rw [a];exact NN
  have k:(0:Int) < (((x::r).length:Nat):Int):=by simp
  have h0:(0:Int)<=0:=by omega
  have j:(aC (x::r))[(0:Int).toNat]? =some [T.ab 1 x.ea (enc x.ar),ti x.to.n,ti x.to.d,cT x.to,ti x.to.r]:=rfl;have l:i64.wrap (0+1)= ((1:Nat):Int):=by decide
  obtain⟨p,i,f⟩:=jU x.ea x.ar (wf.ea x hm) (by have:=ok.al x hm;omega);obtain⟨q,e,g⟩:=yk (wf.DT x hm) (wf.rs x hm);have h:=Jz (re:=m.re) (e3:=true) wf ok rfl r 1 [nE x] (by rw [a];rfl) (by rw [a];simp) rfl (by rw [a];rfl);rw [a] at h;refine⟨T.ab 5 false (aC ((x::r).map nE)),T.ab 2 m.re.ec (cz m.re.cs),ah ?_,rfl,by rw [aW]⟩;rw [z6];simp only [aG,aI,c,b,bw];refine ah ?_;rw [z7];simp only [an,↓reduceIte,Int.reduceBEq,Int.reduceEq,a,k,h0,and_self,bw,j,cq,i,f,e,g,l];exact h
theorem tA(l:List Me)(m:Me):bF l++ [[mT m,ti m.re.n,ti m.re.d,cT m.re,ti m.re.r]]=bF (l++ [m]):=by simp [bF]
abbrev fz:ad:=ad.box [I 0,I 0]
abbrev ez:ad:=ad.box [AV.t (T.ae true)]
abbrev rf(k:Nat):AV:=AV.ref (Id.c k) 0
abbrev ow(k:Nat):AV:=AV.own (Id.c k)
def bL(s:Int):Nat:=(s - 10).toNat
def kA(m:Me):Me:=⟨false,m.rs.isEmpty,m.rs.map nE,nV m.re⟩
theorem tT{s:Int}:aJ s=true↔10 < s/\s<=18:=by simp [aJ]
structure NK (ds:List Dc) (ms:List Me):Prop where
 dl:ds.length<=100
 ml:ms.length=ds.length
 wf:∀m∈ms,fJ m
 ok:∀m∈ms,gO m
open Go Go.Aev Go.IntKind
theorem Lo(s:Int):Or (.call 20) [I s] []=some [ti (if aJ s=true then((bL s:Nat):Int) else 0)]:=by
 refine ah ?_;rw [Gj];simp only [sU];cases h:aJ s with
 | true=>
  have c:=tT.1 h;have a:(decide (s > 10) && decide (s<=18))=true:=by simpa [aJ] using h
  have b:i64.wrap (s - 10)= ((bL s:Nat):Int):=by rw [wr (by omega)];unfold bL;omega
  simp only [a,aZ,b,↓reduceIte]
 | false=>
  have a:(decide (s > 10) && decide (s<=18))=false:=by simpa [aJ] using h
  simp only [a,be,Od,↓reduceIte]
def n5(m:Me):Me:=⟨false,m.er,m.rs,nV m.re⟩
theorem Bx:∀{l:List En},fW (l.map nE) l
 | []=>trivial
 | _::_=>⟨⟨.refl _,kF.rfl⟩,Bx⟩
structure EY (a:As) (ms:List Me):Prop where
 aw:qf a
 nm:∀d∈a.ds,d.nm.size<=9223372036854775807
 wf:∀m∈ms,fJ m
theorem CG{d:Dc}{m:Me}(h:jo d m=0):m.rs.length<=1000/\(∀e∈m.rs,e.ar.length=d.ar.length)/\eP d.so m.re=true/\∀e∈m.rs,eP d.so e.to=true:=by
 unfold jo at h;by_cases g: 1000 < m.rs.length
 .rw [if_pos g] at h;exact absurd h (by decide)
 rw [if_neg g] at h;by_cases a:(m.rs.any λe=> !((e.ar.length:Int)== (d.ar.length:Int)))=true
 .rw [if_pos a] at h;exact absurd h (by decide)
 rw [if_neg a] at h;by_cases i:(m.rs.any λe=>e.ar.any λn=> !eC n)=true
 .rw [if_pos i] at h;exact absurd h (by decide)
 rw [if_neg i] at h;by_cases j:oX [] m.rs=true
 .rw [if_pos j] at h;exact absurd h (by decide)
 rw [if_neg j] at h;by_cases b:eP d.so m.re=false
 .rw [if_pos b] at h;exact absurd h (by decide)
 rw [if_neg b] at h;by_cases c:(m.rs.any λe=> !eP d.so e.to)=true
 .rw [if_pos c] at h;exact absurd h (by decide)
 rw [Ps] at a c;refine⟨by omega,λe f=> ?_,by simpa using b,λe f=> ?_⟩
 .have:=Pg.1 a e f;simp only [Ps,PJ,beq_iff_eq] at this;omega
 .have:=Pg.1 c e f;simpa using this
theorem CH{m:Me}{em er:Bool}(wf:fJ m)(ok:gO m):iF ⟨em,er,m.rs,nV m.re⟩/\iF ⟨em,er,m.rs.map nE,nV m.re⟩:=
 ⟨⟨ok.rl,wf.re,λe a=>⟨wf.rs e a,ok.al e a⟩⟩,⟨by have:=ok.rl;simpa using this,wf.re,λe a=>by
  obtain⟨x,b,rfl⟩:=Ou.1 (show e∈m.rs.map nE from a);exact⟨wf.rs x b,ok.al x b⟩⟩⟩
end Go.Aev.Gen
