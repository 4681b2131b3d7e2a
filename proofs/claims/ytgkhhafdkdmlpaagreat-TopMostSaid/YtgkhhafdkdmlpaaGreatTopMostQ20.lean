import Derived.Test.YtgkhhafdkdmlpaaGreatTopMostQ6
import Derived.Test.YtgkhhafdkdmlpaaGreatTopMostQ19
import Derived.Test.YtgkhhafdkdmlpaaGreatTopMostQ16
set_option linter.all false
namespace Go.Aev.Aa
open Go Go.Aev Go.Aev.Gen Go.IntKind
set_option maxRecDepth 1000000 in
theorem s8:Or (.call 8) [] []=some [tb true]:=Hj (n:=30) (by kernel_rfl)
open Go Go.Aev Go.Aev.Gen Go.IntKind
noncomputable abbrev sE:Key:=aZ ar 4 true 3 [(0,none),(1,none),(2,none),(7,some 3),(8,none)] (0,0)
noncomputable abbrev pj:Key:=aZ ar 3 true 3 [(1,none),(2,none),(3,none),(4,none),(11,some 3),(12,none)] (0,0)
noncomputable abbrev ph:Key:=aZ ar 3 true 12 [(11,none),(13,none),(14,none),(15,none),(16,none),(17,none),(18,none),(19,none),(20,none),(21,none)] (0,0)
theorem e5(O:aB)(x n:Int):aF ar ann O (Key.call 5) [I x,I n] []=
 (aa none (if n= (0:Int) then none else some ()) λa=>bif decide (x.tmod n < (0:Int)) then some [T.int i64 (i64.wrap (x.tmod n+n))] else some [T.int i64 (x.tmod n)]):=by kernel_rfl
theorem e4(O:aB)(er:Bool)(r:List (List T))(n:Int)(p:Bool):aF ar ann O (Key.call 4) [AV.t (T.ae 1 er r),I n,B p] []=
 (O sE [AV.t (T.ae 1 er r),I n,B p,AV.own (Id.c 0),I (0:Int)] [ab.sl false 3 true []]):=by kernel_rfl
theorem z4(O:aB)(h:Bool)(g:List (List T))(i:Int)(j:Bool)(d:Int)(e:Bool)(f:List (List T)):aF ar ann O sE [(AV.t (T.ae 1 h g)),(I i),(B j),(AV.own (Id.c 0)),(I d)] [(ab.sl false 3 e f)]=
 (bif bif decide (d < (↑g.length:Int)) then decide (d < i) else false then aa none (if(0:Int)<=d/\d < (↑g.length:Int) then some () else none) λx=>aa none g[d.toNat]? λl=>aa none l.head? λx
 =>aa none (T.int? i64 x) λn=>aa none (O (Key.call 5) [I n,I (3:Int)] []) λl=>aa none l.head? λx=>aa none (T.int? i64 x) λk=>bif j then aa none (O (Key.call 5) [I n,I (2:
 Int)] []) λl=>aa none l.head? λx=>aa none (T.int? i64 x) λa=>aa none (O (Key.call 5) [I (i64.wrap (n.tdiv (3:Int))),I (7:Int)] []) λl=>aa none l.head? λx=>aa none
 (T.int? i64 x) λb=>aa none (O (Key.call 5) [I (i64.wrap (n.tdiv (21:Int))),I (7:Int)] []) λl=>aa none l.head? λx=>aa none (T.int? i64 x) λm=>aa none (O (Key.call 5)
 [I (i64.wrap (n.tdiv (147:Int))),I (11:Int)] []) λl=>aa none l.head? λx=>aa none (T.int? i64 x) λn=>aa none (bY 40 (f.length+ [[T.ae 1 false [[T.int i64
 (i64.wrap (b - (3:Int)))],[T.int i64 (i64.wrap (m - (3:Int)))]],T.int i64 (i64.wrap ((1:Int)+a)),T.int i64 (i64.wrap (n - (5:Int)))]].length)) fun
 x=>O sE [AV.t (T.ae 1 h g),I i,B j,AV.own (Id.c 0),I (i64.wrap (d+ (1:Int)))] [ab.sl false 3 (e && false) (f++ [[T.ae 1 false [[T.int i64 (i64.wrap (b - (3:Int)))],
 [T.int i64 (i64.wrap (m - (3:Int)))]],T.int i64 (i64.wrap ((1:Int)+a)),T.int i64 (i64.wrap (n - (5:Int)))]])] else aa none (O (Key.call 5) [I
 (i64.wrap (n.tdiv (3:Int))),I (7:Int)] []) λl=>aa none l.head? λx=>aa none (T.int? i64 x) λa=>aa none (O (Key.call 5) [I (i64.wrap (n.tdiv (21:Int))),I (7:Int)] [])
 λl=>aa none l.head? λx=>aa none (T.int? i64 x) λb=>aa none (O (Key.call 5) [I (i64.wrap (n.tdiv (147:Int))),I (11:Int)] []) λl=>aa none l.head? λx=>aa none (T.int?
 i64 x) λn=>aa none (bY 40 (f.length+ [[T.ae 1 false [[T.int i64 (i64.wrap (a - (3:Int)))],[T.int i64 (i64.wrap (b - (3:Int)))]],T.int i64
 (i64.wrap ((1:Int)+k)),T.int i64 (i64.wrap (n - (5:Int)))]].length)) λx=>O sE [AV.t (T.ae 1 h g),I i,B j,AV.own (Id.c 0),I (i64.wrap (d+ (1:Int)))] [ab.sl
 false 3 (e && false) (f++ [[T.ae 1 false [[T.int i64 (i64.wrap (a - (3:Int)))],[T.int i64 (i64.wrap (b - (3:Int)))]],T.int i64 (i64.wrap ((1:Int)+k)),
 T.int i64 (i64.wrap (n - (5:Int)))]])] else some [T.ae 3 e f]):=by kernel_rfl
theorem e3(O:aB)(er:Bool)(r:List (List T))(a b p q:Int):aF ar ann O (Key.call 3) [AV.t (T.ae 1 er r),I a,I b,I p,I q] []=
 (aa none (O (Key.call 4) [AV.t (T.ae 1 er r),I (6:Int),B false] []) λl=>aa none l.head? λx=>aa none (T.aP 3 x) λd=>O pj [I a,I b,I p,I q,AV.own (Id.c 0),I (0:Int)] [ab.sl false 3
 d.fst d.snd]):=by kernel_rfl
theorem wL(O:aB)(e:Int)(f:Int)(g:Int)(h:Int)(a:Int)(d:Bool)(b:List (List T)):aF ar ann O pj [(I e),(I f),(I g),(I h),(AV.own (Id.c 0)),(I a)] [(ab.sl false 3 d b)]=
 (bif decide (a < (↑b.length:Int)) then aa none (if(0:Int)<=a/\a < (↑b.length:Int) then some () else none) λx=>aa none b[a.toNat]? λl=>aa none (List.drop 1 l).head? λx=>aa none (T.int?
 i64 x) λn=>bif n== (2:Int) then aa none (if(0:Int)<=a/\a < (↑b.length:Int) then some () else none) λx=>aa none (bI a.toNat 1 [T.int i64 (1:Int)] b) λl=>O pj [I
 e,I f,I g,I h,AV.own (Id.c 0),I (i64.wrap (a+ (1:Int)))] [ab.sl false 3 d l] else O pj [I e,I f,I g,I h,AV.own (Id.c 0),I (i64.wrap (a+ (1:Int)))] [ab.sl false 3 d b]
 else aa none (O (Key.call 5) [I e,I (7:Int)] []) λl=>aa none l.head? λx=>aa none (T.int? i64 x) λn=>aa none (O (Key.call 5) [I f,I (7:Int)] []) λl=>aa none l.head? λx=>aa
 none (T.int? i64 x) λi=>aa none (O (Key.call 6) [AV.t (T.ae 3 d b),I (2:Int),AV.t (T.ae 1 false [[T.int i64 (i64.wrap (n - (3:Int)))],[T.int i64 (i64.wrap (i -
 (3:Int)))]]),I (2000:Int)] []) λl=>aa none l.head? λx=>aa none (T.int? i64 x) λk=>aa none l.tail.head? λx=>aa none (T.int? i64 x) λm=>aa none l.tail.tail.head? λx
 =>aa none (T.int? i64 x) λo=>aa none (List.drop 2 l.tail).head? λx=>aa none (T.aP 2 x) λp=>aa none (List.drop 2 l.tail).tail.head? λx=>aa none (T.aP 2 x) λj=>aa none
 (List.drop 2 l.tail).tail.tail.head? λx=>aa none (T.int? i64 x) λq=>aa none (List.drop 2 l.tail).tail.tail.tail.head? λx=>aa none (T.int? i64 x) λr=>aa none (O (Key.call 5) [I
 g,I (21:Int)] []) λl=>aa none l.head? λx=>aa none (T.int? i64 x) λs=>aa none (O (Key.call 5) [I h,I (21:Int)] []) λl=>aa none l.head? λx=>aa none (T.int? i64 x) fun
 u=>O ph [AV.t (T.ae 3 d b),AV.t (T.ae 1 false [[T.int i64 (i64.wrap (n - (3:Int)))],[T.int i64 (i64.wrap (i - (3:Int)))]]),I k,AV.ref (Id.c 0) 0,AV.t (T.ae 2 p.fst
 p.snd),AV.t (T.ae 2 j.fst j.snd),AV.ref (Id.c 1) 0,AV.own (Id.c 2),B true,I (0:Int)] [ab.box [I m,I o],ab.box [I q,I r],ab.sl false 2 false [[T.int i64 (i64.wrap (s - (10:
 Int))),T.int i64 (1:Int)],[T.int i64 (i64.wrap (u - (10:Int))),T.int i64 (1:Int)]]]):=by kernel_rfl
theorem Ew(O:aB)(j:Bool)(f:List (List T))(k:Bool)(e:List (List T))(a:Int)(m:Bool)(r:List (List T))(q:Bool)(y:List (List T))(s:Bool)(g:Int)(h:Int)(i:Int)(d:Int)(u:Int)(v:Bool)(o:List (List T)):aF ar ann O ph [(AV.t (T.ae 3 j f)),(AV.t (T.ae 1 k e)),(I a),(AV.ref (Id.c 0) 0),(AV.t (T.ae 2 m r)),(AV.t (T.ae 2 q y)),(AV.ref (Id.c 1) 0),(AV.own (Id.c 2)),(B s),(I g)] [(ab.box [(I h),(I i)]),(ab.box [(I d),(I u)]),(ab.sl false 2 v o)]=
 (bif decide (g < (↑f.length:Int)) then aa none (if(0:Int)<=g/\g < (↑f.length:Int) then some () else none) λx=>aa none f[g.toNat]? λl=>aa none l.head? λx=>aa none l.tail.head? fun
 D=>aa none l.tail.tail.head? λE=>aa none (T.aP 1 x) λp=>aa none (T.int? i64 D) λn=>aa none (T.int? i64 E) λw=>aa none (O (Key.call 7) [AV.agg [AV.t (T.ae 1 p.fst
 p.snd),I n,I w],AV.t (T.ae 2 v o)] []) λl=>aa none l.head? λx=>aa none x.bool? λb=>aa none l.tail.head? λx=>aa none (T.int? i64 x) λn=>aa none l.tail.tail.head? λx=>aa
 none (T.int? i64 x) λz=>O ph [AV.t (T.ae 3 j f),AV.t (T.ae 1 k e),I a,AV.ref (Id.c 0) 0,AV.t (T.ae 2 m r),AV.t (T.ae 2 q y),AV.ref (Id.c 1) 0,AV.own (Id.c 2),B (bif bif
 s then b else false then n== (0:Int) else false),I (i64.wrap (g+ (1:Int)))] [ab.box [I h,I i],ab.box [I d,I u],ab.sl false 2 v o] else aa none (cB (some !bif !d== (0:Int)
 then true else a== (4:Int)) (O (Key.call 8) [] [])) λl=>aa (some !bif !d== (0:Int) then true else a== (4:Int)) l.head? λx=>aa (some !bif !d== (0:Int) then true else a== (4:Int))
 x.bool? λb=>bif bif bif !d== (0:Int) then true else a== (4:Int) then true else !b then some [T.bool false] else aa none (if(0:Int)<=(0:Int)/\(0:Int) < (↑e.length:Int) then some () else none)
 λx=>aa none e[0]? λl=>aa none l.head? λx=>aa none (T.int? i64 x) λn=>aa none (if(0:Int)<=(0:Int)/\(0:Int) < (↑o.length:Int) then some () else none) λx=>aa none o[0]?
 λl=>aa none l.head? λx=>aa none (T.int? i64 x) λw=>aa none (if(0:Int)<=(1:Int)/\(1:Int) < (↑e.length:Int) then some () else none) λx=>aa none e[1]? λl=>aa none
 l.head? λx=>aa none (T.int? i64 x) λz=>aa none (if(0:Int)<=(1:Int)/\(1:Int) < (↑o.length:Int) then some () else none) λx=>aa none o[1]? λl=>aa none l.head? λx=>aa none
 (T.int? i64 x) λC=>bif a== (1:Int) then aa none (O (Key.call 9) [AV.t (T.ae 3 j f),I (2:Int),AV.t (T.ae 1 k e),AV.agg [I h,I i],AV.t (T.ae 2 m r),AV.t (T.ae 2 q
 y)] []) λl=>aa none l.head? λx=>aa none x.bool? λb=>aa none l.tail.head? λx=>aa none (T.int? i64 x) λA=>aa none l.tail.tail.head? λx=>aa none (T.int? i64 x) λF
 =>some [T.bool (bif bif A== (0:Int) then b else false then bif !s then true else decide (i64.wrap (i64.wrap (i64.wrap (n * w)+i64.wrap (z * C)) * i)<=h) else false)]
 else bif a== (3:Int) then aa none (O (Key.call 10) [AV.t (T.ae 3 j f),I (2:Int),AV.t (T.ae 1 k e),AV.t (T.ae 2 m r)] []) λl=>aa none l.head? λx=>aa none x.bool? λb=>aa none
 l.tail.head? λx=>aa none (T.int? i64 x) λn=>aa none l.tail.tail.head? λx=>aa none (T.int? i64 x) λA=>some [T.bool (bif n== (0:Int) then b else false)] else some [T.bool (bif a
 == (2:Int) then !s else false)]):=by kernel_rfl
open Go Go.Aev Go.Aev.Gen Go.Aev.Wd Go.Aev.Wd.Lg Go.Aev.Tb Go.IntKind
def pk(x n:Int):Int:=if x.tmod n < 0 then x.tmod n+n else x.tmod n
theorem kC(x:Int){n:Int}(h: 0 < n): 0<=pk x n/\pk x n < n:=by unfold pk;have h1:=Int.tmod_lt_of_pos x h;have a:=Int.lt_tmod_of_pos x h;split <;> omega
theorem s5(x:Int){n:Int}(h: 0 < n)(d:n<=1000):Or (.call 5) [I x,I n] []=some [ti (pk x n)]:=by
 have h1:=Int.tmod_lt_of_pos x h;have e:=Int.lt_tmod_of_pos x h;have a:¬n=0:=by omega
 refine ao ?_;rw [e5];unfold pk;by_cases c:x.tmod n < 0
 .have b:i64.wrap (x.tmod n+n)=x.tmod n+n:=Go.Aev.wr (by omega);rw [if_pos c];simp only [al,↓reduceIte,Int.reduceBEq,Int.reduceEq,GD,a,c,b]
 .rw [if_neg c];simp only [al,↓reduceIte,Int.reduceBEq,Int.reduceEq,GD,a,c]
def q3(x:Int):Int:=i64.wrap (x.tdiv 3)
def oO(x:Int):Int:=i64.wrap (x.tdiv 21)
def mu(x:Int):Int:=i64.wrap (x.tdiv 147)
def fH(x:Int):R:=⟨false,[pk (q3 x) 7 - 3,pk (oO x) 7 - 3],1+pk x 3,pk (mu x) 11 - 5⟩
theorem Lf(l:List R)(r:R):bX l++ [[T.ae 1 r.e (enc r.of),ti r.kd,ti r.tv]]=bX (l++ [r]):=by simp [bX,eR]
theorem Pe(er:Bool)(l:List Int):∀(b:List Int) (i:Nat) (a:List R) (ec:Bool),l.drop i=b->i<=6->a.length=i->
  ∃e,Or sE [ae er l,I 6,B false,AV.own (Id.c 0),I (i:Int)] [ab.sl false 3 ec (bX a)]=some [T.ae 3 e (bX (a++ (b.take (6 - i)).map fH))]:=by
 intro b;induction b with
 | nil=>
  intro i a ec h hi j;have h1:¬(i:Int) < (l.length:Int):=by have:=bP h;omega
  refine⟨ec,ao ?_⟩;rw [z4];simp only [al,↓reduceIte,Int.reduceBEq,Int.reduceEq,GD,dC,h1,decide_false,U7,SX,Sg]
 | cons x b w=>
  intro i a ec h hi j;obtain⟨s,H,t⟩:=bG h;have h1:(i:Int) < (l.length:Int):=by omega
  have u: 0<=(i:Int):=by omega
  by_cases v:i=6
  .subst v;have f:¬((6:Nat):Int) < 6:=by decide
   refine⟨ec,ao ?_⟩;rw [z4];simp only [al,↓reduceIte,Int.reduceBEq,Int.reduceEq,GD,dC,h1,f,decide_true,decide_false,TU,TZ,SX,Sg]
  .have f:(i:Int) < 6:=by omega
   obtain⟨e,k⟩:=w (i+1) (a++ [fH x]) (ec && false) t (by omega) (by simp [j]);have E:=kC x (n:=3) (by decide);have F:=kC (q3 x) (n:=7) (by decide);have G:=kC (oO x) (n:=7) (by decide);have D:=kC (mu x) (n:=11) (by decide);have z:=s5 x (n:=3) (by decide) (by decide);have m:=s5 (q3 x) (n:=7) (by decide) (by decide);have o:=s5 (oO x) (n:=7) (by decide) (by decide);have d:=s5 (mu x) (n:=11) (by decide) (by decide);have A:i64.wrap (1+pk x 3)=1+pk x 3:=Go.Aev.wr (by omega);have p:i64.wrap (pk (q3 x) 7 - 3)=pk (q3 x) 7 - 3:=Go.Aev.wr (by omega);have q:i64.wrap (pk (oO x) 7 - 3)=pk (oO x) 7 - 3:=Go.Aev.wr (by omega);have r:i64.wrap (pk (mu x) 11 - 5)=pk (mu x) 11 - 5:=Go.Aev.wr (by omega);have C:i64.wrap ((i:Int)+1)= ((i+1:Nat):Int):=by rw [Go.Aev.wr (by omega)];omega
   have sm:∀y:List T,bY 40 ((bX a).length+ [y].length)=some ():=λy=>lK (by rw [cu,U9];omega);have g:=Lf a (fH x);refine⟨e,ao ?_⟩;rw [z4];simp only [q3,oO,mu] at m o d p q r;simp only [fH,q3,oO,mu,enc,RX,SX] at g;simp only [al,↓reduceIte,Int.reduceBEq,Int.reduceEq,GD,dC,h1,f,u,and_self,decide_true,jB s,z,m,o,d,A,p,q,r,C,sm,g];rw [show 6 - i= (6 - (i+1))+1 by omega,Ur,RX];rw [R6,List.singleton_append,U0] at k;exact k
theorem s4(er:Bool)(l:List Int):∃a,Or (.call 4) [ae er l,I 6,B false] []=some [T.ae 3 a (bX ((l.take 6).map fH))]:=by obtain⟨a,b⟩:=Pe er l l 0 [] true rfl (by decide) rfl;refine⟨a,ao ?_⟩;rw [e4];exact b
def mz(r:R):R:=if r.kd=2 then⟨r.e,r.of,1,r.tv⟩ else r
theorem Px(b:List R)(r:R)(a:List R):bI ((b.length:Nat):Int).toNat 1 [ti 1] (bX (b++r::a))=some (bX (b++ ⟨r.e,r.of,1,r.tv⟩::a)):=by
 have c:(bX (b++r::a))[((b.length:Nat):Int).toNat]? =some (eR r):=by simp [bX]
 unfold bI;rw [c];simp only;rw [if_pos (by simp [eR])];simp [bX,eR,bQ,List.set_append_right]
theorem Pd(a b p q:Int){g:List R}{i:List T}(hm:g.length<=6)(j:∀ec,Or pj [I a,I b,I p,I q,AV.own (Id.c 0),I (g.length:Int)] [ab.sl false 3 ec (bX g)]=some i):
  ∀(d f:List R) (ec:Bool),f++d.map mz=g->Or pj [I a,I b,I p,I q,AV.own (Id.c 0),I (f.length:Int)] [ab.sl false 3 ec (bX (f++d))]=some i:=by
 intro d;induction d with
 | nil=>intro f ec h;rw [SX,Sg] at h;subst h;rw [Sg];exact j ec
 | cons r d n=>
  intro f ec h;have o:f.length+ (d.length+1)=g.length:=by rw [<-h];simp
  have h1:(f.length:Int) < (((f++r::d).length:Nat):Int):=by simp;omega
  have l: 0<=(f.length:Int):=by omega
  have k:(f++r::d)[f.length]? =some r:=by simp
  have m:i64.wrap ((f.length:Int)+1)= ((f.length+1:Nat):Int):=by rw [Go.Aev.wr (by omega)];omega
  have hi:=n (f++ [mz r]) ec (by rw [<-h];simp);rw [Sw,U9,R6,List.singleton_append] at hi;refine ao ?_;rw [wL];have st:=Px f r d;by_cases c:r.kd=2
  .have hz:mz r= ⟨r.e,r.of,1,r.tv⟩:=by unfold mz;rw [if_pos c]
   rw [hz] at hi;simp only [al,↓reduceIte,Int.reduceBEq,Int.reduceEq,GD,cu,h1,l,and_self,decide_true,gy k,c,st,m];exact hi
  .have hz:mz r=r:=by unfold mz;rw [if_neg c]
   rw [hz] at hi;simp only [al,↓reduceIte,Int.reduceBEq,Int.reduceEq,GD,cu,h1,l,and_self,decide_true,gy k,c,m];exact hi
theorem Mu(x:Int):aY (x,1)= (x:Rat):=by unfold aY;show Rat.divInt x 1=_;rw [U4];show(x:Rat) / ((1:Int):Rat)=_;rw [Rat.intCast_one,Sv];grind
theorem MY{a:Int}{v:Fr}(hv:bw v)(h:(a:Rat)<=aY v):a * v.2<=v.1:=by have c:(0:Rat) < (v.2:Rat):=Rat.intCast_pos.2 (by have:=hv.1;omega);unfold aY at h;rw [U4] at h;have b:=Vk h (Uq c);rw [Rat.div_mul_cancel (by grind),<-VP] at b;exact Rat.intCast_le_intCast.1 b
def gH(a b:Int):List Fr:= [(a,1),(b,1)]
theorem lr{a b m n:Int}(h1: -m<=a/\a<=m)(d: -n<=b/\b<=n): -(m * n)<=a * b/\a * b<=m * n:=by
 have hm: 0<=m:=by omega
 have c: 0<=n:=by omega
 have e:(a * b).natAbs<=m.natAbs * n.natAbs:=by rw [Sq];exact UD (by omega) (by omega)
 have f:((m.natAbs * n.natAbs:Nat):Int)=m * n:=by rw [Ub,Vf hm,Vf c]
 omega
set_option maxRecDepth 20000 in
theorem Lo(er g k:Bool)(i:List R)(a b d e kind:Int)(v:Fr)(l p:List (List T))(lj:Bool)
  (A: -3<=a/\a<=3) (C: -3<=b/\b<=3) (D: -10<=d/\d<=10) (E: -10<=e/\e<=10)
  (h:(kind=1/\Or (.call 9) [LR er i,I 2,ae false [a,b],AV.agg [I v.1,I v.2],AV.t (T.ae 2 g l),AV.t (T.ae 2 k p)] []=some [tb true,ti 0,ti 0]/\bw v/\(lj=true->(a * d+b * e) * v.2<=v.1))\/
   (kind=3/\Or (.call 10) [LR er i,I 2,ae false [a,b],AV.t (T.ae 2 g l)] []=some [tb true,ti 0,ti 0])\/(kind=2/\lj=false)):
  Or ph [LR er i,ae false [a,b],I kind,r0,AV.t (T.ae 2 g l),AV.t (T.ae 2 k p),AV.ref (Id.c 1) 0,AV.own (Id.c 2),B lj,I (i.length:Int)]
   [ab.box [I v.1,I v.2],ab.box [I 0,I 0],ab.sl false 2 false (dN (gH d e))]=some [tb true]:=by
 have q:¬(i.length:Int) < (i.length:Int):=by omega
 have H:=lr A D;have J:=lr C E;have w:i64.wrap (a * d)=a * d:=Go.Aev.wr (by omega);have x:i64.wrap (b * e)=b * e:=Go.Aev.wr (by omega);have y:i64.wrap (a * d+b * e)=a * d+b * e:=Go.Aev.wr (by omega);have eg:enc [a,b]= [[ti a],[ti b]]:=rfl;have F:dN (gH d e)= [[ti d,ti 1],[ti e,ti 1]]:=rfl;have r:((0:Int)<=0/\(0:Int) < 2):=by omega
 have s:((0:Int)<=1/\(1:Int) < 2):=by omega
 have ln:(([[ti a],[ti b]]:List (List T)).length:Int)=2:=rfl;have u:(([[ti d,ti 1],[ti e,ti 1]]:List (List T)).length:Int)=2:=rfl;refine ao ?_;rw [Ew];rw [F];have j:∀m:Option (List T),cB (some true) m=m:=λm=>rfl;rcases h with⟨rfl,z,hv,hi⟩ | ⟨rfl,o⟩ | ⟨rfl,rfl⟩
 .simp only [ae,eg] at z;rw [eg];have mv: -(60 * 1073741824)<=(a * d+b * e) * v.2/\(a * d+b * e) * v.2<=60 * 1073741824:=lr (m:=60) (n:=1073741824) (by omega) (by have:=hv.1;have:=hv.2.1;omega);have G:i64.wrap ((a * d+b * e) * v.2)= (a * d+b * e) * v.2:=Go.Aev.wr (by omega);have f:=s8;simp only [cm,al,↓reduceIte,Int.reduceBEq,Int.reduceEq,GD,cu,q,f,ln,u,r,s,and_self,w,x,y,G,z,RH,RJ,decide_false,j,SQ,SR];cases lj with
  | false=>rfl
  | true=>have:=hi rfl;simp [this]
 .simp only [ae,eg] at o;rw [eg];have f:=s8;simp only [cm,al,↓reduceIte,Int.reduceBEq,Int.reduceEq,GD,cu,q,f,ln,u,r,s,and_self,w,x,y,o,RH,RJ,decide_false,j,SQ,SR]
 .rw [eg];have f:=s8;simp only [cm,al,↓reduceIte,Int.reduceBEq,Int.reduceEq,GD,cu,q,f,ln,u,r,s,and_self,w,x,y,RH,RJ,decide_false,j,SQ,SR]
theorem Pc(er j k eg:Bool)(d:List R)(gl:List Int)(f g kind:Int)(v:Fr)(m n:List (List T))(lj:Bool){l:List T}(hm:d.length<=6)(ok:∀r∈d,fM 2 r)(y:∀x∈gH f g,bw x)
  (o:Or ph [LR er d,ae eg gl,I kind,r0,AV.t (T.ae 2 j m),AV.t (T.ae 2 k n),AV.ref (Id.c 1) 0,AV.own (Id.c 2),B lj,I (d.length:Int)]
   [ab.box [I v.1,I v.2],ab.box [I 0,I 0],ab.sl false 2 false (dN (gH f g))]=some l):
  ∀(a:List R) (i:Nat) (b:Bool),d.drop i=a->i<=d.length->(b && a.all λr=>ez r (bg r.of ((gH f g).map aY)))=lj->
   Or ph [LR er d,ae eg gl,I kind,r0,AV.t (T.ae 2 j m),AV.t (T.ae 2 k n),AV.ref (Id.c 1) 0,AV.own (Id.c 2),B b,I (i:Int)]
   [ab.box [I v.1,I v.2],ab.box [I 0,I 0],ab.sl false 2 false (dN (gH f g))]=some l:=by
 intro a;induction a with
 | nil=>
  intro i b h hi hb;have:=bP h;have e:i=d.length:=by omega
  subst e;rw [List.all_nil,Us] at hb;subst hb;exact o
 | cons r a z=>
  intro i b h hi hb;obtain⟨q,D,u⟩:=bG h;have h1:(i:Int) < (d.length:Int):=by omega
  have w: 0<=(i:Int):=by omega
  have A:=IY r false (gH f g) (by show 2<=12;omega) (ok r (Rt q)) y;have C:i64.wrap ((i:Int)+1)= ((i+1:Nat):Int):=by rw [Go.Aev.wr (by omega)];omega
  have s:=z (i+1) (b && ez r (bg r.of ((gH f g).map aY))) u (by omega) (by rw [<-hb,SZ,VU]);refine ao ?_;rw [Ew];simp only [al,↓reduceIte,Int.reduceBEq,Int.reduceEq,GD,cu,h1,w,and_self,decide_true,gy q,A,C];have eb:(bif b then ez r (bg r.of ((gH f g).map aY)) else false)= (b && ez r (bg r.of ((gH f g).map aY))):=by cases b <;> rfl
  have p:∀c:Bool,(bif c then true else false)=c:=λc=>by cases c <;> rfl
  rw [eb,p];exact s
theorem Nz(r:R):(mz r).of=r.of/\(mz r).tv=r.tv/\(mz r).e=r.e:=by unfold mz;split <;> exact⟨rfl,rfl,rfl⟩
def gA(a b:Int):List Int:= [pk a 7 - 3,pk b 7 - 3]
theorem yk(x:Int):fM 2 (mz (fH x))/\(mz (fH x)).kd≠2/\(∀c∈(mz (fH x)).of, -9<=c/\c<=9)/\(-9<=(mz (fH x)).tv/\(mz (fH x)).tv<=9):=by
 obtain⟨a,d,e3⟩:=Nz (fH x);have i:=kC x (n:=3) (by decide);have j:=kC (q3 x) (n:=7) (by decide);have k:=kC (oO x) (n:=7) (by decide);have g:=kC (mu x) (n:=11) (by decide);have l:(mz (fH x)).kd=1\/(mz (fH x)).kd=3:=by
  have h:(fH x).kd=1+pk x 3:=rfl;unfold mz;split
  .exact .inl rfl
  .omega
 have e:∀c∈(fH x).of, -9<=c/\c<=9:=by intro c b;simp only [fH,RC,Um,or_false] at b;omega
 have f: -9<=(fH x).tv/\(fH x).tv<=9:=by show -9<=pk (mu x) 11 - 5/\pk (mu x) 11 - 5<=9;omega
 refine⟨⟨λh=> ?_,by omega, ?_, ?_, ?_⟩,by omega,by rw [a];exact e,by rw [d];exact f⟩
 .rw [e3] at h;cases h
 .rw [a];exact RI 2
 .rw [a];exact λc b=>by have:=e c b;omega
 .rw [d];omega
theorem DH:∀{l:List Int} {i:Nat},(∀x∈l, -1000000<=x/\x<=1000000)->kW l i= (0,0)
 | [],_,_=>rfl
 | x::l,i,h=>by have:=h x Rs;rw [kW,if_pos (by omega)];exact DH λd a=>h d (Ru _ a)
theorem J8{n:Nat}{r:R}(h:fM n r):(kX n r).1=0:=by
 have:=h.kd;have:=h.len;unfold kX;rw [if_neg (by omega),if_neg (by omega),DH λx a=> ?_];rcases RM.1 a with a | a
 .exact h.of x a
 .have:=h.tv;simp at a;omega
theorem DK{n:Nat}:∀{l:List R} {i:Nat},(∀r∈l,fM n r)->(mL n l i).1=0
 | [],_,_=>rfl
 | r::l,i,h=>by rw [mL,if_pos (J8 (h r Rs))];exact DK λd a=>h d (Ru _ a)
theorem F6:∀{l:List R} {i:Nat},(∀r∈l,r.kd≠2)->fa l i= (0,0)
 | [],_,_=>rfl
 | r::l,i,h=>by rw [fa,if_neg (h r Rs)];exact F6 λd a=>h d (Ru _ a)
theorem FO:∀{gl:List Int} {i:Nat},(∀c∈gl, -9<=c/\c<=9)->eQ gl i= (0,0)
 | [],_,_=>rfl
 | c::gl,i,h=>by have:=h c Rs;rw [eQ,if_pos (by omega)];exact FO λd a=>h d (Ru _ a)
theorem J9{rows:List R}{gl:List Int}(hm:rows.length<=6)(ok:∀r∈rows,fM 2 r)(k2:∀r∈rows,r.kd≠2)(b:gl.length=2)(a:∀c∈gl, -9<=c/\c<=9):(eF 2 rows gl).1=0:=by
 have h1:(l0 2 rows).1=0:=by unfold l0 sY;rw [if_neg (by omega),if_neg (by omega)];exact DK ok
 unfold eF;rw [if_neg (by omega),F6 k2,if_neg (by decide),if_neg (by omega),FO a]
theorem P4{n:Int}{rows:List R}{gl:List Int}{v:Fr}{p t:List Fr}(e:(eF n rows gl).1=0)(hv:bw v)(h1:(p.length:Int)=n)(d:t.length=rows.length)(b:∀x∈p,bw x)(c:∀x∈t,bw x):(lP n rows gl v p t).1=0:=by unfold lP;rw [if_neg (by omega),if_neg (by omega),decide_eq_true hv,RK.2 λx a=>decide_eq_true (b x a),RK.2 λx a=>decide_eq_true (c x a)];rfl
theorem P5{n:Int}{rows:List R}{gl:List Int}{p:List Fr}(c:(eF n rows gl).1=0)(h1:(p.length:Int)=n)(a:∀x∈p,bw x):(lQ n rows gl p).1=0:=by unfold lQ;rw [if_neg (by omega),if_neg (by omega),RK.2 λx b=>decide_eq_true (a x b)];rfl
theorem Kv(a b c d:Int):bg [a,b] ((gH c d).map aY)= ((a * c+b * d:Int):Rat):=by simp only [gH,RX,SX,Mu,bg,Rat.intCast_add,VP];grind
set_option maxRecDepth 20000 in
theorem MX(e:Bool)(z:List Int)(a b p q:Int):Or (.call 3) [ae e z,I a,I b,I p,I q] []=some [tb true]:=by
 obtain⟨W,Z⟩:=s4 e z;have s:∃d,((z.take 6).map fH).map mz=d:=⟨_,rfl⟩;obtain⟨d,s⟩:=s;have hm:d.length<=6:=by rw [<-s,SI,SI,So];omega
 have m:∀r∈d,∃x,r=mz (fH x):=by intro r f;rw [<-s] at f;obtain⟨y,hy,rfl⟩:=RU.1 f;obtain⟨x,_,rfl⟩:=RU.1 hy;exact⟨x,rfl⟩
 have ok:∀r∈d,fM 2 r:=λr f=>by obtain⟨x,rfl⟩:=m r f;exact(yk x).1
 have k2:∀r∈d,r.kd≠2:=λr f=>by obtain⟨x,rfl⟩:=m r f;exact(yk x).2.1
 have so:∀r∈d,∀c∈r.of, -9<=c/\c<=9:=λr f=>by obtain⟨x,rfl⟩:=m r f;exact(yk x).2.2.1
 have st:∀r∈d, -9<=r.tv/\r.tv<=9:=λr f=>by obtain⟨x,rfl⟩:=m r f;exact(yk x).2.2.2
 have f:∀r∈d,r.e=true->r.of= []:=λr f=>(ok r f).e;have ba:=kC a (n:=7) (by decide);have bb:=kC b (n:=7) (by decide);have bp:=kC p (n:=21) (by decide);have bq:=kC q (n:=21) (by decide);have S:∀c∈gA a b, -9<=c/\c<=9:=by intro c D;simp only [gA,RC,Um,or_false] at D;omega
 have D:=J9 hm ok k2 (gl:=gA a b) rfl S;have go:eC 2 d (gA a b):=(FP f D).2;have sm:mH 2 d:=⟨by decide,by omega,so,st⟩;have k6:∀er,Or (.call 6) [LR er d,I 2,ae false (gA a b),I 2000] []=some (iI 2 d (gA a b) 2000):=by intro er;have:=Qd d er false 2 (gA a b) 2000 f;rw [if_neg (by omega),if_neg (by decide)] at this;exact this
 have ka:=s5 a (n:=7) (by decide) (by decide);have kb:=s5 b (n:=7) (by decide) (by decide);have M:=s5 p (n:=21) (by decide) (by decide);have N:=s5 q (n:=21) (by decide) (by decide);have O:i64.wrap (pk a 7 - 3)=pk a 7 - 3:=Go.Aev.wr (by omega);have P:i64.wrap (pk b 7 - 3)=pk b 7 - 3:=Go.Aev.wr (by omega);have wp:i64.wrap (pk p 21 - 10)=pk p 21 - 10:=Go.Aev.wr (by omega);have Q:i64.wrap (pk q 21 - 10)=pk q 21 - 10:=Go.Aev.wr (by omega);have F:∀x∈gH (pk p 21 - 10) (pk q 21 - 10),bw x:=by
  intro x F;simp only [gH,RC,Um,or_false] at F;rcases F with rfl | rfl
  .exact⟨by show(1:Int)<=1;omega,by show(1:Int)<=1073741824;omega,by show -1073741824<=pk p 21 - 10;omega,by show pk p 21 - 10<=1073741824;omega,by simp⟩
  .exact⟨by show(1:Int)<=1;omega,by show(1:Int)<=1073741824;omega,by show -1073741824<=pk q 21 - 10;omega,by show pk q 21 - 10<=1073741824;omega,by simp⟩
 have G:(d.all λr=>ez r (bg r.of ((gH (pk p 21 - 10) (pk q 21 - 10)).map aY)))=true->Pt 2 d ((gH (pk p 21 - 10) (pk q 21 - 10)).map aY):=λh=>⟨rfl,λr f=>RK.1 h r f⟩;have R:∀er,Or pj [I a,I b,I p,I q,AV.own (Id.c 0),I (d.length:Int)] [ab.sl false 3 er (bX d)]=some [tb true]:=by
  intro er;have K:¬(d.length:Int) < (d.length:Int):=by omega
  have g:=k6 er
  have C:∀(i j:Bool) (kind:Int) (v:Fr) (l u:List (List T)),(kind=1/\Or (.call 9) [LR er d,I 2,ae false (gA a b),AV.agg [I v.1,I v.2],AV.t (T.ae 2 i l),AV.t (T.ae 2 j u)] []=some [tb true,ti 0,ti 0]/\bw v/\((d.all λr=>ez r (bg r.of ((gH (pk p 21 - 10) (pk q 21 - 10)).map aY)))=true->((pk a 7 - 3) * (pk p 21 - 10)+ (pk b 7 - 3) * (pk q 21 - 10)) * v.2<=v.1))\/
    (kind=3/\Or (.call 10) [LR er d,I 2,ae false (gA a b),AV.t (T.ae 2 i l)] []=some [tb true,ti 0,ti 0])\/(kind=2/\(d.all λr=>ez r (bg r.of ((gH (pk p 21 - 10) (pk q 21 - 10)).map aY)))=false)->
    Or ph [LR er d,ae false (gA a b),I kind,r0,AV.t (T.ae 2 i l),AV.t (T.ae 2 j u),AV.ref (Id.c 1) 0,AV.own (Id.c 2),B true,I 0]
     [ab.box [I v.1,I v.2],ab.box [I 0,I 0],ab.sl false 2 false (dN (gH (pk p 21 - 10) (pk q 21 - 10)))]=some [tb true]:=by
   intro i j kind v l u h;have:=Lo er i j d (pk a 7 - 3) (pk b 7 - 3) (pk p 21 - 10) (pk q 21 - 10) kind v l u _ (by omega) (by omega) (by omega) (by omega) h;exact Pc er i j false d (gA a b) _ _ kind v l u _ hm ok F this d 0 true rfl (by omega) (by rw [S0])
  rcases Ku go sm S with⟨v,pl,k,A,hv,h1,X,J,U,E⟩ | ⟨k,T',A,Y⟩ | ⟨pl,t,A,h1,J,E,ht⟩
  .have hz:=P4 D hv (p:=pl.map bL) (t:=k.map bL) (by rw [SI,h1];rfl) (by rw [SI];exact X) (vR J) (vR U);have L:=u8 d er false (decide (pl= [])) (decide (k= [])) 2 (gA a b) v (pl.map bL) (k.map bL) f;rw [if_pos hz] at L;have V:Or (.call 9) [LR er d,I 2,ae false (gA a b),AV.agg [I v.1,I v.2],AV.t (T.ae 2 (decide (pl= [])) (dN (pl.map bL))),AV.t (T.ae 2 (decide (k= [])) (dN (k.map bL)))] []=some [tb true,ti 0,ti 0]:=by
    rw [show kF (2:Int).toNat d (gA a b) v (pl.map bL) (k.map bL)=true from E] at L;exact L
   have o:=C (decide (pl= [])) (decide (k= [])) 1 v (dN (pl.map bL)) (dN (k.map bL)) (.inl ⟨rfl,V,hv,λh=>by
    have w:=Rd go E (vR U) (G h);unfold gA at w;rw [Kv] at w;exact MY hv w⟩)
   rw [A] at g;unfold gA at o g;simp only [ae,enc,RX,SX] at g;refine ao ?_;rw [wL];simp only [al,↓reduceIte,Int.reduceBEq,Int.reduceEq,GD,cu,K,decide_false,ka,kb,M,N,O,P,wp,Q,g,AW];exact o
  .have o:=C true (decide (k= [])) 2 (0,0) [] (dN (k.map bL)) (.inr (.inr ⟨rfl,Bool.eq_false_iff.2 λh=>OE go.ro go.k2 Y (G h)⟩));rw [A] at g;unfold gA at o g;simp only [ae,enc,RX,SX] at g;refine ao ?_;rw [wL];simp only [al,↓reduceIte,Int.reduceBEq,Int.reduceEq,GD,cu,K,decide_false,ka,kb,M,N,O,P,wp,Q,g,AW];exact o
  .have hz:=P5 D (p:=pl.map bL) (by rw [SI,h1];rfl) (vR J);have H:=u9 d er false (decide (pl= [])) 2 (gA a b) (pl.map bL) f;rw [if_pos hz,E] at H;have o:=C (decide (pl= [])) true 3 (0,0) (dN (pl.map bL)) [] (.inr (.inl ⟨rfl,H⟩));rw [A] at g;unfold gA at o g;simp only [ae,enc,RX,SX] at g;refine ao ?_;rw [wL];simp only [al,↓reduceIte,Int.reduceBEq,Int.reduceEq,GD,cu,K,decide_false,ka,kb,M,N,O,P,wp,Q,g,AW];exact o
 have:=Pd a b p q hm R ((z.take 6).map fH) [] W (by rw [Ry];exact s);refine ao ?_;rw [e3];simp only [al,↓reduceIte,Int.reduceBEq,Int.reduceEq,GD,Z];exact this
end Go.Aev.Aa
