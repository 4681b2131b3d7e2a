import Derived.Test.YticjdhgokemdlaaMostSureQ6
import Derived.Test.YticjdhgokemdlaaMostSureQ20
import Derived.Test.YticjdhgokemdlaaMostSureQ17
import Derived.Test.YticjdhgokemdlaaMostSureQ18
import Derived.Test.YticjdhgokemdlaaMostSureQ16
import Derived.Test.YticjdhgokemdlaaMostSureQ5
set_option linter.all false
namespace Go.Aev.Gen
open Go Go.Aev Go.IntKind
noncomputable abbrev vU:Key:=aZ aq 3 true 10 [(0,none),(1,none),(2,none),(3,none),(10,none),(11,none),(14,none),(15,none),(18,none),(19,some 1000001),(20,none)] (0,0)
noncomputable abbrev vT:Key:=aZ aq 3 false 13 [(0,none),(1,none),(3,none),(10,none),(11,none),(14,none),(15,none),(18,none),(19,some 999999)] (0,0)
theorem e3(O:aA)(er:Bool)(r:List (List T))(n:Int)(eg:Bool)(g:List (List T))(k:Int):aE aq ann O (Key.call 3) [AV.t (T.ae 3 er r),I n,AV.t (T.ae 1 eg g),I k] []=
 (ab none (O (Key.call 4) [] []) λl=>ab none l.head? λx=>ab none x.bool? λb=>bif !b then some [T.bool false] else ab none (O (Key.call 5) [AV.t (T.ae 3 er r),I n,AV.t (T.ae 1 eg g)] []) λl=>ab
 none l.head? λx=>ab none (T.int? i64 x) λa=>ab none l.tail.head? λx=>ab none (T.int? i64 x) λs=>ab none (cv (some !!a== (0:Int)) (O (Key.call 6) [AV.t (T.ae 3 er r),I
 n,I (3:Int),I (8:Int),I (9:Int)] [])) λl=>ab (some !!a== (0:Int)) l.head? λx=>ab (some !!a== (0:Int)) x.bool? λb=>ab none (cv (some !bif !a== (0:Int) then true else !b) (O
 (Key.call 6) [AV.t (T.ae 3 false [[T.ae 1 eg g,T.int i64 (0:Int),T.int i64 (0:Int)]]),I n,I (3:Int),I (1:Int),I (9:Int)] [])) λl=>ab (some !bif !a== (0:Int) then true else !b)
 l.head? λx=>ab (some !bif !a== (0:Int) then true else !b) x.bool? λe=>bif bif bif bif bif bif !a== (0:Int) then true else !b then true else !e then true else decide (k < (-9:Int)) then true else
 decide (k > (9:Int)) then true else decide ((↑r.length:Int) > (7:Int)) then some [T.bool true] else ab none (O (Key.call 7) [AV.t (T.ae 3 er r),I n,AV.t (T.ae 1 eg g),I (2000:Int)] []) λl=>ab none
 l.head? λx=>ab none (T.int? i64 x) λf=>ab none l.tail.head? λx=>ab none (T.int? i64 x) λh=>ab none l.tail.tail.head? λx=>ab none (T.int? i64 x) λi=>ab none
 (List.drop 2 l.tail).head? λx=>ab none (T.aP 2 x) λp=>ab none (List.drop 2 l.tail).tail.head? λx=>ab none (T.aP 2 x) λp=>ab none (List.drop 2 l.tail).tail.tail.head? λx=>ab none (T.int?
 i64 x) λj=>ab none (List.drop 2 l.tail).tail.tail.tail.head? λx=>ab none (T.int? i64 x) λm=>ab none (O (Key.call 8) [AV.t (T.ae 3 er r),I n,I (2000:Int)] []) λl=>ab none
 l.head? λx=>ab none (T.int? i64 x) λo=>ab none l.tail.head? λx=>ab none (T.aP 2 x) λp=>ab none l.tail.tail.head? λx=>ab none (T.aP 2 x) λp=>ab none l.tail.tail.tail.head?
 λx=>ab none (T.int? i64 x) λq=>ab none l.tail.tail.tail.tail.head? λx=>ab none (T.int? i64 x) λd=>O vU [AV.t (T.ae 3 er r),I n,AV.t (T.ae 1 eg g),I k,I f,AV.ref
 (Id.c 0) 0,AV.ref (Id.c 1) 0,I o,AV.ref (Id.c 2) 0,AV.ref (Id.c 3) 0,AV.t (T.int i64 (0:Int))] [aa.box [I h,AV.t (T.int i64 i)],aa.box [I j,AV.t (T.int i64 m)],aa.box [I
 q,AV.t (T.int i64 d)],aa.box [AV.own (Id.c 4),AV.t (T.int i64 (2:Int)),AV.t (T.int i64 (i64.wrap ((0:Int) - k)))],aa.sl false 1 true []]):=by kernel_rfl
theorem Fh(O:aA)(m:Bool)(u:List (List T))(v:Int)(s:Bool)(q:List (List T))(w:Int)(o:Int)(p:Int)(a:Int)(b:Int)(d:Int)(e:Int)(f:Int)(g:Int)(h:Int)(i:Int)(j:Int)(k:Bool)(r:List (List T)):aE aq ann O vU [(AV.t (T.ae 3 m u)),(I v),(AV.t (T.ae 1 s q)),(I w),(I o),(AV.ref (Id.c 0) 0),(AV.ref (Id.c 1) 0),(I p),(AV.ref (Id.c 2) 0),(AV.ref (Id.c 3) 0),(I a)] [(aa.box [(I b),(I d)]),(aa.box [(I e),(I f)]),(aa.box [(I g),(I h)]),(aa.box [(AV.own (Id.c 4)),(I i),(I j)]),(aa.sl false 1 k r)]=
 (bif decide (a < (↑q.length:Int)) then ab none (if(0:Int)<=a/\a < (↑q.length:Int) then some () else none) λx=>ab none q[a.toNat]? λl=>ab none l.head? λx=>ab none (T.int? i64
 x) λn=>ab none (small 8 (r.length+ [[T.int i64 (i64.wrap ((0:Int) - n))]].length)) λx=>O vU [AV.t (T.ae 3 m u),I v,AV.t (T.ae 1 s q),I w,I o,AV.ref (Id.c 0) 0,AV.ref
 (Id.c 1) 0,I p,AV.ref (Id.c 2) 0,AV.ref (Id.c 3) 0,I (i64.wrap (a+ (1:Int)))] [aa.box [I b,I d],aa.box [I e,I f],aa.box [I g,I h],aa.box [AV.own (Id.c 4),I i,I j],
 aa.sl false 1 (k && false) (r++ [[T.int i64 (i64.wrap ((0:Int) - n))]])] else O vT [AV.t (T.ae 3 m u),I v,I w,I o,AV.ref (Id.c 0) 0,AV.ref (Id.c 1) 0,I p,AV.ref (Id.c 2) 0,
 AV.ref (Id.c 3) 0] [aa.box [I b,I d],aa.box [I e,I f],aa.box [I g,I h],aa.box [AV.t (T.ae 1 k r),I i,I j]]):=by kernel_rfl
theorem L0(O:aA)(r:Bool)(k:List (List T))(u:Int)(v:Int)(b:Int)(m:Int)(g:Int)(h:Int)(i:Int)(o:Int)(j:Int)(q:Int)(a:Bool)(d:List (List T))(e:Int)(f:Int):aE aq ann O vT [(AV.t (T.ae 3 r k)),(I u),(I v),(I b),(AV.ref (Id.c 0) 0),(AV.ref (Id.c 1) 0),(I m),(AV.ref (Id.c 2) 0),(AV.ref (Id.c 3) 0)] [(aa.box [(I g),(I h)]),(aa.box [(I i),(I o)]),(aa.box [(I j),(I q)]),(aa.box [(AV.t (T.ae 1 a d)),(I e),(I f)])]=
 (ab none (small 40 k.length) λx=>ab none (small 40 (k.length+ [[T.ae 1 a d,T.int i64 e,T.int i64 f]].length)) λx=>ab none (O (Key.call 8) [AV.t (T.ae 3 (k.isEmpty && false)
 (k++ [[T.ae 1 a d,T.int i64 e,T.int i64 f]])),I u,I (2000:Int)] []) λl=>ab none l.head? λx=>ab none (T.int? i64 x) λn=>ab none l.tail.head? λx=>ab
 none (T.aP 2 x) λp=>ab none l.tail.tail.head? λx=>ab none (T.aP 2 x) λp=>ab none l.tail.tail.tail.head? λx=>ab none (T.int? i64 x) λs=>ab none l.tail.tail.tail.tail.head? λx
 =>ab none (T.int? i64 x) λw=>bif bif bif bif bif !i== (0:Int) then true else !j== (0:Int) then true else !s== (0:Int) then true else b== (4:Int) then true else !(b== (2:Int))==
 (m== (2:Int)) then some [T.bool false] else bif b== (3:Int) then some [T.bool (n== (1:Int))] else bif b== (2:Int) then some [T.bool (n== (2:Int))] else some [T.bool (decide (g > i64.wrap
 (v * h))== (n== (1:Int)))]):=by kernel_rfl
end Go.Aev.Gen
namespace Go.Aev.Wd.Lg
open Go Go.Aev Go.Aev.Gen Go.Aev.Wd Go.Aev.Tb Go.IntKind
def jY(k c:Int):Bool:= !(decide (c > k) || decide (c < -k))
def oV(k:Int)(r:R):Bool:=r.of.all (jY k) && jY k r.tv
theorem HY(i:Nat)(h:i<=140737488355328):i64.wrap ((i:Int)+1)= ((i+1:Nat):Int):=by rw [Go.Aev.wr (by omega)];omega
theorem Qz(er:Bool)(rows:List R)(k:Nat)(y:k<=100){i:Nat}{r:R}(g:rows[i]? =some r)(hi:i<=100)(w:r.of.length * 8<=140737488355328){b:Bool}(q:Or sX [LR er rows,I (k:Int),I ((i+1:Nat):Int)] []=some [tb b]):
  ∀(a:List Int) (j:Nat),r.of.drop j=a->Or wh [LR er rows,I (k:Int),I (i:Int),I (j:Int)] []=some [tb (a.all (jY k) && jY k r.tv && b)]:=by
 have v:i < rows.length:=(Ta.1 g).1;have m:(i:Int) < (rows.length:Int):=by omega
 have l: 0<=(i:Int):=by omega
 have n:i64.wrap (0 - (k:Int))= -(k:Int):=by rw [Go.Aev.wr (by omega)];omega
 intro a;induction a with
 | nil=>
  intro j h;have h1:¬(j:Int) < (r.of.length:Int):=by have:=bF h;omega
  rw [Xk,Uo];refine an ?_;rw [FJ];unfold jY;by_cases d:r.tv > (k:Int)
  .simp only [bD,ak,↓reduceIte,Int.reduceBEq,Int.reduceEq,GD,h1,m,l,and_self,bB,eC g,bN,d,n,decide_true];rfl
  .by_cases f:r.tv < -(k:Int)
   .simp only [bD,ak,↓reduceIte,Int.reduceBEq,Int.reduceEq,GD,h1,m,l,and_self,bB,eC g,bN,d,f,n,decide_true,decide_false];rfl
   .simp only [bD,ak,↓reduceIte,Int.reduceBEq,Int.reduceEq,GD,h1,m,l,and_self,bB,eC g,bN,d,f,n,decide_false,HY i (by omega)];exact q
 | cons c a u=>
  intro j h;obtain⟨o,x,t⟩:=bz h;have h1:(j:Int) < (r.of.length:Int):=by omega
  have p: 0<=(j:Int):=by omega
  have s:=u (j+1) t;rw [Uu];refine an ?_;rw [FJ];by_cases d:c > (k:Int)
  .have e:jY k c=false:=by unfold jY;simp [d]
   rw [e];simp only [bD,ak,↓reduceIte,Int.reduceBEq,Int.reduceEq,GD,h1,m,l,p,and_self,bB,eC g,bN,fW o,d,n,decide_true]
  .by_cases f:c < -(k:Int)
   .have e:jY k c=false:=by unfold jY;simp [f]
    rw [e];simp only [bD,ak,↓reduceIte,Int.reduceBEq,Int.reduceEq,GD,h1,m,l,p,and_self,bB,eC g,bN,fW o,d,f,n,decide_true,decide_false]
   .have e:jY k c=true:=by unfold jY;simp [d,f]
    rw [e,Uo];simp only [bD,ak,↓reduceIte,Int.reduceBEq,Int.reduceEq,GD,h1,m,l,p,and_self,bB,eC g,bN,fW o,d,f,n,decide_false,HY j (by omega)];exact s
theorem QA(er:Bool)(rows:List R)(k:Nat)(e:k<=100)(hm:rows.length<=100)(c:∀r∈rows,r.of.length * 8<=140737488355328):∀(a:List R) (i:Nat),rows.drop i=a->
  Or sX [LR er rows,I (k:Int),I (i:Int)] []=some [tb (a.all (oV k))]:=by
 intro a;induction a with
 | nil=>
  intro i h;have h1:¬(i:Int) < (rows.length:Int):=by have:=bF h;omega
  refine an ?_;rw [FI];simp only [ak,↓reduceIte,Int.reduceBEq,Int.reduceEq,GD,h1,bB,Xk]
 | cons r a f=>
  intro i h;obtain⟨b,g,d⟩:=bz h;have h1:(i:Int) < (rows.length:Int):=by omega
  have:=Qz er rows k e b (by omega) (c r (SX b)) (f (i+1) d) r.of 0 rfl;rw [Uu];refine an ?_;rw [FI];simp only [ak,↓reduceIte,Int.reduceBEq,Int.reduceEq,GD,h1,bB];exact this
def pb(rows:List R)(n:Int)(a m k:Nat):Bool:=decide (n<=a) && decide (rows.length<=m) && rows.all (oV k)
theorem IU(er:Bool)(rows:List R)(n:Int)(a m k:Nat)(d:k<=100)(hm:m<=100)(c:∀r∈rows,r.of.length * 8<=140737488355328):Or (.call 6) [LR er rows,I n,I (a:Int),I (m:Int),I (k:Int)] []=some [tb (pb rows n a m k)]:=by
 unfold pb;by_cases h1:n > (a:Int)
 .rw [decide_eq_false (by omega:¬n<=(a:Int))];refine an ?_;rw [AP];simp only [ak,↓reduceIte,Int.reduceBEq,Int.reduceEq,GD,h1]
 .rw [decide_eq_true (by omega:n<=(a:Int))];by_cases b:(rows.length:Int) > (m:Int)
  .rw [decide_eq_false (by omega:¬rows.length<=m)];refine an ?_;rw [AP];simp only [ak,↓reduceIte,Int.reduceBEq,Int.reduceEq,GD,h1,bB,b,decide_true]
  .rw [decide_eq_true (by omega:rows.length<=m)];have:=QA er rows k d (by omega) c rows 0 rfl;refine an ?_;rw [AP];simp only [ak,↓reduceIte,Int.reduceBEq,Int.reduceEq,GD,h1,bB,b,decide_false];exact this
theorem H0{k:Nat}{c:Int}(h:jY k c=true): -(k:Int)<=c/\c<=k:=by unfold jY at h;simp at h;omega
theorem Je{rows:List R}{n:Int}{a m k:Nat}(h:pb rows n a m k=true):n<=a/\rows.length<=m/\∀r∈rows,(∀c∈r.of, -(k:Int)<=c/\c<=k)/\ -(k:Int)<=r.tv/\r.tv<=k:=by unfold pb at h;simp only [S0,decide_eq_true_eq,Tk] at h;refine⟨h.1.1,h.1.2,λr hr=> ?_⟩;have:=h.2 r hr;unfold oV at this;simp only [S0,Tk] at this;exact⟨λc b=>H0 (this.1 c b),H0 this.2⟩
theorem K2{n:Nat}{r:R}(ok:gz n r):(ju n r).1=0:=by
 unfold ju;have h1:=ok.kd;have b:=ok.len;rw [if_neg (by omega),if_neg (by omega)];refine Eh λx a=> ?_;rcases Tm.1 a with a | a
 .exact ok.of x a
 .rw [Tc.1 a];exact ok.tv
theorem Ek{n:Nat}:∀{rows:List R} {i:Nat},(∀r∈rows,gz n r)->(iR n rows i).1=0
 | [],_,_=>rfl
 | r::rows,i,h=>by rw [iR,if_pos (K2 (h r SW))];exact Ek λr hr=>h r (SY _ hr)
theorem Ej{n:Nat}{rows:List R}(b:n<=12)(a:rows.length<=40)(h:∀r∈rows,gz n r):(fG (n:Int) rows).1=0:=by unfold fG mZ;rw [if_neg (by omega),if_neg (by omega),TB];exact Ek h
theorem N8(rows:List R)(er:Bool)(n:Int)(a d f:Int)(v:Fr)(r s t:Int)(e:Bool)(gl:List Int)(hm:rows.length<=7){b:Int}{p q:T}
  (k:Or (.call 8) [LR false (rows++ [ig e gl a]),I n,I 2000] []=some [ti b,p,q,ti 0,ti 0]) (g:∃b l,T.aP 2 p=some (b,l)) (ly:∃b l,T.aP 2 q=some (b,l))
  (j:(d=1/\f=1/\(decide (v.1 > i64.wrap (a * v.2))= (b==1)))\/(d=2/\f=2/\b=2)\/(d=3/\f=1/\b=1)):
  Or vT [LR er rows,I n,I a,I d,r0,AV.ref (Id.c 1) 0,I f,AV.ref (Id.c 2) 0,AV.ref (Id.c 3) 0] [aa.box [I v.1,I v.2],aa.box [I 0,I r],aa.box [I 0,I s],aa.box [ae e (gl.map λc=> -c),I 2,I (-a)]]=some [tb true]:=by
 obtain⟨_,_,g⟩:=g;obtain⟨_,_,ly⟩:=ly;have m:small 40 rows.length=some ():=jE (by omega);have o:small 40 (rows.length+ [[T.ae 1 e (enc (gl.map λc=> -c)),ti 2,ti (-a)]].length)=some ():=jE (by simp;omega);have i:cV rows++ [[T.ae 1 e (enc (gl.map λc=> -c)),ti 2,ti (-a)]]=cV (rows++ [ig e gl a]):=by rw [<-Fu];rfl
 refine an ?_;rw [L0];rcases j with⟨rfl,rfl,h⟩ | ⟨rfl,rfl,rfl⟩ | ⟨rfl,rfl,rfl⟩
 .simp only [bD,ak,↓reduceIte,Int.reduceBEq,Int.reduceEq,GD,bB,m,o,i,k,g,ly,h]
 .simp only [bD,ak,↓reduceIte,Int.reduceBEq,Int.reduceEq,GD,bB,m,o,i,k,g,ly]
 .simp only [bD,ak,↓reduceIte,Int.reduceBEq,Int.reduceEq,GD,bB,m,o,i,k,g,ly]
theorem Pb{gl:List Int}{i:Nat}{c:Int}(h:gl[i]? =some c):enc ((gl.take i).map λc=> -c)++ [[ti (-c)]]=enc ((gl.take (i+1)).map λc=> -c):=by rw [U7,h];simp [enc]
theorem N7(rows:List R)(er eg:Bool)(n:Int)(gl:List Int)(a e f:Int)(v:Fr)(l m:Int)(p:∀c∈gl, -9<=c/\c<=9)(w:gl.length<=3)
  (r:Or vT [LR er rows,I n,I a,I e,r0,AV.ref (Id.c 1) 0,I f,AV.ref (Id.c 2) 0,AV.ref (Id.c 3) 0] [aa.box [I v.1,I v.2],aa.box [I 0,I l],aa.box [I 0,I m],aa.box [ae (decide (gl.length=0)) (gl.map λc=> -c),I 2,I (-a)]]=some [tb true]):
  ∀(b:List Int) (i:Nat),gl.drop i=b->i<=gl.length->Or vU [LR er rows,I n,ae eg gl,I a,I e,r0,AV.ref (Id.c 1) 0,I f,AV.ref (Id.c 2) 0,AV.ref (Id.c 3) 0,I (i:Int)]
   [aa.box [I v.1,I v.2],aa.box [I 0,I l],aa.box [I 0,I m],aa.box [AV.own (Id.c 4),I 2,I (-a)],aa.sl false 1 (decide (i=0)) (enc ((gl.take i).map λc=> -c))]=some [tb true]:=by
 intro b;induction b with
 | nil=>
  intro i h hi;obtain rfl:i=gl.length:=by have:=bF h;omega
  have h1:¬(gl.length:Int) < (gl.length:Int):=by omega
  rw [Vt];refine an ?_;rw [Fh];simp only [rk,h1,bN,if_false];exact r
 | cons c b s=>
  intro i h hi;obtain⟨g,t,o⟩:=bz h;have h1:(i:Int) < (gl.length:Int):=by omega
  have q: 0<=(i:Int):=by omega
  have u:=p c (SX g);have j:i64.wrap (0 - c)= -c:=by rw [Go.Aev.wr (by omega)];omega
  have k:small 8 (((gl.take i).map λc=> -c).length+ [[ti (-c)]].length)=some ():=jE (by simp;omega);have d:=s (i+1) o (by omega);rw [decide_eq_false (by omega:¬i+1=0)] at d;refine an ?_;rw [Fh];simp only [ak,↓reduceIte,Int.reduceBEq,Int.reduceEq,GD,h1,q,and_self,bN,fW g,j,k,Pb g,next i (by omega)];exact d
theorem Gh{v:Fr}(h:bH v)(a:Int):v.1 > a * v.2↔(a:Rat) < ba v:=by
 have h1:(0:Rat) < (v.2:Rat):=by have:((0:Int):Rat) < (v.2:Rat):=Rat.intCast_lt_intCast.2 (by have:=h.1;omega);exact this
 have b:ba v * (v.2:Rat)= (v.1:Rat):=by unfold ba;have:=V5 (v.2:Rat) (by grind);rw [Xf,TR];grind
 have c:(a:Rat) * (v.2:Rat) < ba v * (v.2:Rat)↔(a:Rat) < ba v:=Rat.mul_lt_mul_right h1;rw [<-c,b,<-Xu,Rat.intCast_lt_intCast]
set_option maxRecDepth 100000 in
theorem Ob(rows:List R)(er eg:Bool)(n:Int)(gl:List Int)(d:Int)(hr:∀r∈rows,r.e=true->r.of= [])(Z:∀r∈rows,r.of.length * 8<=140737488355328)(Y:gl.length * 8<=140737488355328):
  Or (.call 3) [LR er rows,I n,ae eg gl,I d] []=some [tb true]:=by
 have l:=Lb rows er eg n gl;have j:Or (.call 6) [LR er rows,I n,I 3,I 8,I 9] []=some [tb (pb rows n 3 8 9)]:=IU er rows n 3 8 9 (by decide) (by decide) Z;have k2:Or (.call 6) [AV.t (T.ae 3 false [[T.ae 1 eg (enc gl),ti 0,ti 0]]),I n,I 3,I 1,I 9] []=some [tb (pb [⟨eg,gl,0,0⟩] n 3 1 9)]:=IU false [⟨eg,gl,0,0⟩] n 3 1 9 (by decide) (by decide) (λq hq=>by rw [Tc.1 hq];exact Y);refine an ?_;rw [e3];by_cases i:(eJ n rows gl).1=0
 .cases w:pb rows n 3 8 9 with
  | false=>rw [w] at j;simp only [bD,ak,↓reduceIte,Int.reduceBEq,Int.reduceEq,GD,u7,l,i,j]
  | true=>
   rw [w] at j;cases z:pb [⟨eg,gl,0,0⟩] n 3 1 9 with
   | false=>rw [z] at k2;simp only [bD,ak,↓reduceIte,Int.reduceBEq,Int.reduceEq,GD,u7,l,i,j,k2]
   | true=>
    rw [z] at k2;by_cases o:d < -9
    .simp only [bD,ak,↓reduceIte,Int.reduceBEq,Int.reduceEq,GD,u7,l,i,j,k2,o,decide_true]
    by_cases u:d > 9
    .simp only [bD,ak,↓reduceIte,Int.reduceBEq,Int.reduceEq,GD,u7,l,i,j,k2,o,u,decide_true,decide_false]
    by_cases E:(rows.length:Int) > 7
    .simp only [bD,ak,↓reduceIte,Int.reduceBEq,Int.reduceEq,GD,u7,l,i,j,k2,o,u,bB,E,decide_true,decide_false]
    obtain⟨p1,p2,s⟩:=Je w;obtain⟨_,_,p4⟩:=Je z;have p:∀c∈gl, -9<=c/\c<=9:=(p4 _ (Tc.2 rfl)).1;obtain⟨L,go⟩:=GC hr i;have J:gl.length<=n.toNat:=go.gl;have sm:gA n.toNat rows:=⟨by omega,by omega,λr hr=>(s r hr).1,λr hr=>(s r hr).2⟩;obtain⟨_,h0,h12,G,ok,_,_,_⟩:=wZ hr i
    have O:gz n.toNat (ig (decide (gl.length=0)) gl d):=⟨λX=>by
      have:gl= []:=To.1 (of_decide_eq_true X);show gl.map _= [];rw [this];rfl, .inr (.inl rfl),by show(gl.map _).length<=_;simpa using J,λx C=>by
      obtain⟨c,i,rfl⟩:=Tw.1 C;have:=p c i;omega,by show -1000000<= -d/\ -d<=1000000;omega⟩
    have m:∀r∈rows++ [ig (decide (gl.length=0)) gl d],gz n.toNat r:=λr h=>by
     rcases Tm.1 h with h | h
     .exact ok r h
     .rw [Tc.1 h];exact O
    have K:(rows++ [ig (decide (gl.length=0)) gl d]).length<=8:=by simp;omega
    have Q:gA n.toNat (rows++ [ig (decide (gl.length=0)) gl d]):=⟨by omega,K,λr h=>by
     rcases Tm.1 h with h | h
     .exact(s r h).1
     .rw [Tc.1 h];intro x C;obtain⟨c,i,rfl⟩:=Tw.1 C;have:=p c i;omega,λr h=>by
     rcases Tm.1 h with h | h
     .exact(s r h).2
     .rw [Tc.1 h];show -9<= -d/\ -d<=9;omega⟩
    have P:=CB (n:=n.toNat) (by omega) (by omega) m;obtain⟨k,v,x,y,a,xa,ya,b,xb,yb,q1,q2,q3,⟨_,_,l1⟩,⟨_,_,l2⟩,⟨_,_,l3⟩,⟨_,_,l4⟩,l5,l6,B⟩:=Rx go sm p P Q;have M:=RK rows er eg n gl 2000 hr;have S:(2000:Int).toNat=2000:=rfl;rw [if_neg (by omega),if_neg (by decide),S,q1] at M;have k8:Or (.call 8) [LR er rows,I n,I 2000] []=some [ti a,xa,ya,ti 0,ti 0]:=by have:=JX rows er n.toNat 2000 (by omega) hr (Ej (by omega) G ok);rw [L,q2] at this;exact this
    have N:Or (.call 8) [LR false (rows++ [ig (decide (gl.length=0)) gl d]),I n,I 2000] []=some [ti b,xb,yb,ti 0,ti 0]:=by have:=JX (rows++ [ig (decide (gl.length=0)) gl d]) false n.toNat 2000 (by omega) (λr h=>(m r h).e) (Ej (by omega) (by omega) m);rw [L,q3] at this;exact this
    have hw:i64.wrap (0 - d)= -d:=by rw [Go.Aev.wr (by omega)];omega
    have F:(k=1/\a=1/\(decide (v.1 > i64.wrap (d * v.2))= (b==1)))\/(k=2/\a=2/\b=2)\/(k=3/\a=1/\b=1):=by
     rcases B with⟨U,V,A,W⟩ | f | f
     .refine .inl ⟨U,V, ?_⟩;have hb:=A.b;unfold mh at hb;have hbd: -10000000000<=d * v.2/\d * v.2<=10000000000:=by
       have t1: 0<=(d+9) * v.2:=T9 (by omega) (by omega);have t2: 0<=(9 - d) * v.2:=T9 (by omega) (by omega);rw [VP] at t1;rw [W2] at t2;omega
      rw [Go.Aev.wr (by omega)];rcases W with⟨rfl,g⟩ | ⟨rfl,g⟩
      .rw [decide_eq_true ((Gh A d).2 g)];rfl
      .rw [decide_eq_false (λh=>absurd ((Gh A d).1 h) (Wk.2 g))];rfl
     .exact .inr (.inl f)
     .exact .inr (.inr f)
    have ht:=N8 rows er n d k a v 0 0 0 (decide (gl.length=0)) gl (by omega) N l5 l6 F;have D:=N7 rows er eg n gl d k a v 0 0 p (by omega) ht gl 0 rfl (Vx _);simp only [bD,ak,↓reduceIte,Int.reduceBEq,Int.reduceEq,GD,u7,l,i,j,k2,o,u,bB,E,M,k8,l1,l2,l3,l4,hw,decide_true,decide_false];exact D
 .have H:((eJ n rows gl).1==0)=false:=by simpa using i
  simp only [bD,ak,↓reduceIte,Int.reduceBEq,Int.reduceEq,GD,u7,l,i,H]
open Go Go.Aev Go.Aev.Gen Go.Aev.Wd Go.Proofs Go.IntKind
set_option maxRecDepth 1000000 in
theorem tV{n:Nat}{ts:List T}(h:Wt aq (n+1) 3 ts):∃m:Int,ts= [ti m]:=by have c:aq.underlying 3=some (.int .i64):=Try.underlying3;have b:=@SK aq n 3 ts .i64 c h;obtain⟨m,a,_⟩:=b;exact⟨m,a⟩
theorem Eg:aq.cellsOf 3=1:=by kernel_rfl
theorem K0:aq.cellsOf 30=3:=by kernel_rfl
set_option maxRecDepth 1000000 in
theorem GO{n:Nat}{a:AV}(h:(bm aq 3=true/\∃l,Wt aq (n+1) 3 l/\a= .agg (l.map .t))\/(bm aq 3=false/\∃x,Wt aq (n+1) 3 [x]/\a= .t x)):∃m,a=I m:=by obtain⟨x,h1,rfl⟩:=zY h (by kernel_rfl);obtain⟨m,b⟩:=tV h1;simp only [UT,and_true] at b;subst b;exact⟨m,rfl⟩
open Go Go.Aev Go.Aev.Gen Go.Aev.Wd Go.Proofs Go.IntKind
theorem D5:aq.bytesOf 3=8:=by kernel_rfl
set_option maxRecDepth 1000000 in
theorem Qm{n:Nat}{ts:List T}(h:Wt aq (n+3) 30 ts):∃j:{r:R // (r.e=true->r.of= [])/\r.of.length * 8<=reachBytes},ts=eR j.1:=by have t:=(Try.underlying30:aq.underlying 30=_);have h1:=SN t h;obtain⟨a,b,rfl,m,c,d,rfl,o,e,f,rfl,p,rfl⟩:=h1;have k:=(Try.underlying23:aq.underlying 23=_);obtain⟨b,l,g,q,_,i⟩:=C8 (λz:Int=> [ti z]) k m (λcs s=>tV s);rw [Eg] at g;rw [D5] at i;subst g;obtain⟨y,rfl⟩:=tV o;obtain⟨z,rfl⟩:=tV p;exact⟨⟨⟨b,l,y,z⟩,q,i⟩,rfl⟩
set_option maxRecDepth 1000000 in
theorem Qo{n:Nat}{a:AV}(h:(bm aq 22=true/\∃l,Wt aq (n+4) 22 l/\a= .agg (l.map .t))\/(bm aq 22=false/\∃x,Wt aq (n+4) 22 [x]/\a= .t x)):∃e l,a=LR e l/\(∀r∈l,r.e=true->r.of= [])/\∀r∈l,r.of.length * 8<=reachBytes:=by
 obtain⟨x,h1,rfl⟩:=zY h (by kernel_rfl);have f:=(Try.underlying22:aq.underlying 22=_);obtain⟨b,l,c,_⟩:=SL (λj:{r:R // (r.e=true->r.of= [])/\r.of.length * 8<=reachBytes} =>eR j.1) f h1 (λcs d=>Qm d);rw [K0] at c;simp only [UT,and_true] at c;subst c;refine⟨b,l.map (·.1), ?_,λr hr=> ?_,λr hr=> ?_⟩
 .simp only [LR,cV,VD];rfl
 .obtain⟨j,_,rfl⟩:=Tw.1 hr;exact j.2.1
 .obtain⟨j,_,rfl⟩:=Tw.1 hr;exact j.2.2
set_option maxRecDepth 1000000 in
theorem N1{n:Nat}{a:AV}(h:(bm aq 23=true/\∃l,Wt aq (n+2) 23 l/\a= .agg (l.map .t))\/(bm aq 23=false/\∃x,Wt aq (n+2) 23 [x]/\a= .t x)):∃e l,a=ae e l/\l.length * 8<=reachBytes:=by obtain⟨x,h1,rfl⟩:=zY h (by kernel_rfl);have g:=(Try.underlying23:aq.underlying 23=_);obtain⟨b,l,c,_,i,d⟩:=C8 (λr:Int=> [ti r]) g h1 (λcs f=>tV f);rw [Eg] at c;rw [D5] at d;simp only [UT,and_true] at c;subst c;exact⟨b,l,rfl,d⟩
end Go.Aev.Wd.Lg
namespace Go.Aev.Gen
open Go Go.Aev Go.Aev.Wd Go.Aev.Wd.Lg Go.Proofs Go.IntKind
set_option maxRecDepth 1000000 in
theorem claim3(vs:List AV)(h:vf aq (19+1) Try.f3.params.toList vs):Or (.call 3) vs []=some [.bool true]:=by rw [Try.params3] at h;obtain⟨a,_,rfl,h1,b,_,rfl,f,c,_,rfl,g,d,_,rfl,i,rfl⟩:=h;obtain⟨e,q,rfl,l,k⟩:=Qo h1;obtain⟨n,rfl⟩:=GO f;obtain⟨eg,gl,rfl,j⟩:=N1 g;obtain⟨m,rfl⟩:=GO i;exact Ob q e eg n gl m l (λr hr=>Tz (k r hr) (by decide)) (Tz j (by decide))
end Go.Aev.Gen
