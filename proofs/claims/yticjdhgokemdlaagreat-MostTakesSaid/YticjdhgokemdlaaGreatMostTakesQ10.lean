import Derived.Test.YticjdhgokemdlaaGreatMostTakesQ9
set_option linter.unusedSimpArgs false
set_option linter.unusedVariables false
namespace Go.Aev.Wd
open Go Go.Aev Go.Aev.Gen
def lc(X Y:Int)(L:Nat)(R:List T):Prop:= ∃e1 Q e2 Z,R= [T.lst 1 e1 (ac Q),T.lst 1 e2 (ac Z)]/\Dg Q/\Dg Z/\val Q=X / Y/\val Z=X % Y/\Q.length<=L/\Z.length<=L
theorem cA{α:Type}{l:List α}{n:Nat}(h:l.length=n+1):∃l' x,l=l'++ [x]/\l'.length=n:=by
 rcases List.eq_nil_or_concat l with rfl | ⟨l',x,rfl⟩
 ·simp at h
 ·exact⟨l',x,by simp,by simpa using h⟩
def nn(s L:Nat)(V N0:Int)(n:Nat)(R:List T):Prop:= ∃e1 Q e2 Z Rf,R= [T.lst 1 e1 (ac Q),T.lst 1 e2 (ac Z)]/\Dg Q/\Dg Z/\Q.length=L/\Z.length=n/\0<=Rf/\Rf < V/\val Q * V+Rf=N0/\val Z=Rf / 2 ^ s
theorem DZ(n:Nat):Dg (List.replicate n 0):=fun a ha=>by have:=List.eq_of_mem_replicate ha;omega
theorem w17(s:Nat)(hs:s < 32)(ev ec0 ec1:Bool)(v':List Int)(v2 v1:Int)(hv:Dg (v'++ [v2,v1]))(hvl:v'.length<=400)(h1: 1<=v1)(L:Nat)(N0:Int):∀(j:Nat) (lo R hi qs:List Int),lo.length=j->j<=900->R.length=v'.length+2->Dg lo->Dg R->Dg qs->val R < val (v'++ [v2,v1])->j+qs.length=L->
  val lo+4294967296 ^ j * (val R+val (v'++ [v2,v1]) * val qs)=N0->Good (nn s L (val (v'++ [v2,v1])) N0 (v'.length+2)) (K17 s ev ec0 ec1 (v'++ [v2,v1]) (lo++ (R++hi)) (List.replicate j 0++qs) ((j:Int) - 1)):=by
 have hvlen:(v'++ [v2,v1]).length=v'.length+2:=by simp
 have hval:val (v'++ [v2,v1])=val v'+4294967296 ^ v'.length * v2+4294967296 * (4294967296 ^ v'.length * v1):=by
  rw [bt];simp only [val]
  rw [Int.mul_add,Int.mul_left_comm _ 4294967296];simp;omega
 have hv0:=bf hv.left
 have hv0':=bw hv.left
 have hPp:=bP v'.length
 have dv2:=hv v2 (by simp)
 have dv1:=hv v1 (by simp)
 have hp1:(4294967296:Int) ^ v'.length * 1<=4294967296 ^ v'.length * v1:=Int.mul_le_mul_of_nonneg_left h1 (by omega)
 have hp2: 0<=(4294967296:Int) ^ v'.length * v2:=Int.mul_nonneg (by omega) dv2.1
 have hVp: 0 < val (v'++ [v2,v1]):=by omega
 have e1:(ac (v'++ [v2,v1]))[(((v'++ [v2,v1]).length - 1:Nat):Int).toNat]? =some [T.int .u32 v1]:=by
  have:=bC (v'++ [v2]) v1 [] (v'.length+1) (by simp)
  rw [hvlen];simpa using this
 have e2:(ac (v'++ [v2,v1]))[(((v'++ [v2,v1]).length - 2:Nat):Int).toNat]? =some [T.int .u32 v2]:=by
  have:=bC v' v2 [v1] v'.length rfl
  rw [hvlen];simpa using this
 intro j
 induction j with
 | zero=>
  intro lo R hi qs hlo hj hR dlo dR dqs hlt hL hN
  obtain rfl:=List.length_eq_zero_iff.1 hlo
  have h80:=s80 s hs ec0 R dR (by omega) (by omega)
  obtain⟨g1,g2,g3⟩:=pg (bS s) (fT (n:=s) (by omega)) (bS (32 - s)) dR
  refine⟨_,aa ?_,ec1,qs,false,_,val R,rfl,dqs,g3,by omega,by rw [g2,hR],bf dR,hlt,by
   simp only [val,Int.pow_zero,Int.one_mul,Int.zero_add] at hN
   rw [<-hN,Int.mul_comm];omega,g1⟩
  rw [wv]
  have c0:¬(((0:Nat):Int) - 1)>=0:=by omega
  have hi0:inB 0 ((v'++ [v2,v1]).length:Int) ((([] ++ (R++hi)).length:Nat):Int)=some ():=by unfold inB;rw [if_pos (by simp [hR];omega)]
  have ht:(ac ([] ++ (R++hi))).take (((v'++ [v2,v1]).length:Int).toNat - 0)=ac R:=by
   have hnn:((v'++ [v2,v1]).length:Int).toNat - 0=R.length:=by rw [hvlen,hR];omega
   simp only [hnn,List.nil_append,ac,List.map_append]
   rw [List.take_append_of_le_length (by simp),List.take_of_length_le (by simp)]
  simp only [List.replicate_zero,List.nil_append] at hi0 ht⊢
  simp only [STL,↓reduceIte,Int.reduceBEq,Int.reduceEq,GD,c0,af,hi0,ht,h80]
 | succ j ih=>
  intro lo R hi qs hlo hj hR dlo dR dqs hlt hL hN
  obtain⟨lo',x,rfl,hl'⟩:=cA hlo
  obtain⟨w,top,hw,hwl⟩:=cA (l:=x::R) (n:=v'.length+2) (by simp [hR])
  obtain⟨w1,u1,rfl,hw1⟩:=cA hwl
  obtain⟨w2,u2,rfl,hw2⟩:=cA hw1
  have dW:Dg (w2++ [u2] ++ [u1] ++ [top]):=by rw [<-hw];exact Dg.append (a:= [x]) dlo.right dR
  have dw:=dW.left
  have dtop:=dW top (by simp)
  have du1:=dW u1 (by simp)
  have du2:=dW u2 (by simp)
  have hw0:=bf dw.left.left
  have hw0':=bw dw.left.left
  have hlists:lo'++ [x] ++ (R++hi)=lo'++ ((w2++ [u2] ++ [u1])++top::hi):=by
   have: [x] ++R=w2++ [u2] ++ [u1] ++ [top]:=hw
   simp only [List.append_assoc] at this⊢
   rw [<-List.append_assoc [x],this];simp
  have hUval:val (x::R)=val (w2++ [u2] ++ [u1])+4294967296 ^ (v'++ [v2,v1]).length * top:=by
   rw [hw,bt,hvlen,hwl];simp [val]
  have hwval:val (w2++ [u2] ++ [u1])=val w2+4294967296 ^ v'.length * u2+4294967296 * (4294967296 ^ v'.length * u1):=by
   rw [List.append_assoc,bt,hw2];simp only [List.cons_append,List.nil_append,val]
   rw [Int.mul_add,Int.mul_left_comm _ 4294967296];simp;omega
  have hU3:val (x::R)=val w2+4294967296 ^ v'.length * u2+4294967296 * (4294967296 ^ v'.length * (top * 4294967296+u1)):=by
   rw [hUval,hwval,hvlen,show(4294967296:Int) ^ (v'.length+2)=4294967296 ^ v'.length * (4294967296 * 4294967296) from by rw [Int.pow_add];rfl]
   rw [Int.mul_add (4294967296 ^ v'.length) (top * 4294967296),Int.mul_add 4294967296,<-Int.mul_assoc (4294967296 ^ v'.length) top 4294967296]
   have:(4294967296:Int) ^ v'.length * (4294967296 * 4294967296) * top=4294967296 * (4294967296 ^ v'.length * top * 4294967296):=by
    rw [Int.mul_comm (4294967296 ^ v'.length * top) 4294967296,<-Int.mul_assoc 4294967296 4294967296,Int.mul_comm (4294967296 ^ v'.length),Int.mul_assoc]
   omega
  have dx:=dlo x (by simp)
  have hUx:val (x::R)=x+4294967296 * val R:=rfl
  have hR0:=bf dR
  have hU0: 0<=val (x::R):=by omega
  have hUV:val (x::R) < val (v'++ [v2,v1]) * 4294967296:=by omega
  generalize hqd:val (x::R) / val (v'++ [v2,v1])=q at *
  have hq0: 0<=q:=by rw [<-hqd];exact Int.ediv_nonneg hU0 (by omega)
  have hqB:q < 4294967296:=by rw [<-hqd];exact Int.ediv_lt_of_lt_mul hVp (by rw [Int.mul_comm];exact hUV)
  have hqV:q * val (v'++ [v2,v1])<=val (x::R):=by rw [<-hqd];exact Int.ediv_mul_le _ (by omega)
  have hrep:List.replicate (j+1) (0:Int)++qs=List.replicate lo'.length 0++0::qs:=by
   rw [hl',List.replicate_succ',List.append_assoc];rfl
  have hg0:=vV hPp hU3 hval ⟨hw0,by rw [hw2] at hw0';exact hw0'⟩ hv0 du2.2 dv2.1 hq0 hqV
  have hT0: 0<=top * 4294967296+u1:=by omega
  have hqt:q<=(top * 4294967296+u1) / v1:=by rw [Int.le_ediv_iff_mul_le (by omega)];exact hg0
  have hTle:(top * 4294967296+u1) / v1<=top * 4294967296+u1:=Int.ediv_le_self _ hT0
  have hrm0:=Int.emod_nonneg (top * 4294967296+u1) (show v1≠0 by omega)
  have hrm1:=Int.emod_lt_of_pos (top * 4294967296+u1) (show 0 < v1 by omega)
  have hdm:=Int.mul_ediv_add_emod (top * 4294967296+u1) v1
  have hn2: 2<=(v'++ [v2,v1]).length:=by omega
  have e3:(ac (lo'++ ((w2++ [u2] ++ [u1])++top::hi)))[((lo'.length+ (v'++ [v2,v1]).length - 2:Nat):Int).toNat]? =some [T.int .u32 u2]:=by
   have:=bC (lo'++w2) u2 ([u1] ++top::hi) (lo'.length+ (v'++ [v2,v1]).length - 2) (by simp [hw2];try omega)
   simpa using this
  have e4:(ac (lo'++ ((w2++ [u2] ++ [u1])++top::hi)))[((lo'.length+ (v'++ [v2,v1]).length - 1:Nat):Int).toNat]? =some [T.int .u32 u1]:=by
   have:=bC (lo'++w2++ [u2]) u1 (top::hi) (lo'.length+ (v'++ [v2,v1]).length - 1) (by simp [hw2];try omega)
   simpa using this
  have e5:(ac (lo'++ ((w2++ [u2] ++ [u1])++top::hi)))[((lo'.length+ (v'++ [v2,v1]).length:Nat):Int).toNat]? =some [T.int .u32 top]:=by
   have:=bC (lo'++w2++ [u2] ++ [u1]) top hi (lo'.length+ (v'++ [v2,v1]).length) (by simp [hw2];try omega)
   simpa using this
  have hlenu:((lo'++ ((w2++ [u2] ++ [u1])++top::hi)).length:Int)= ((lo'.length+v'.length+3+hi.length:Nat):Int):=by simp [hw2];omega
  have hgood:=m21 s lo'.length ev ec0 ec1 (v'++ [v2,v1]) (lo'++ ((w2++ [u2] ++ [u1])++top::hi)) (List.replicate lo'.length 0++0::qs) (nn s L (val (v'++ [v2,v1])) N0 (v'.length+2)) (by omega) (by omega) hn2 (by simp [hw2] <;> omega) e1 e2 e3 hPp hU3 hval ⟨hw0,by rw [hw2] at hw0';exact hw0'⟩ ⟨hv0,hv0'⟩ du2 dv2 ⟨h1,dv1.2⟩ hU0 hUV hVp hqd.symm
   (fun q' a1 a2 a3 a4=>CG s ev ec0 ec1 (v'++ [v2,v1]) lo' hi hv (by omega) (by omega) (w2++ [u2] ++ [u1]) top dw (by rw [hvlen];exact hwl) dtop hVp qs _ q (by rw [<-hqd,hUval]) q' a1 a2 ⟨a3,a4⟩ hq0 (fun R' d1 d2 d3=>by
    have:=ih lo' R' (0::hi) (q::qs) hl' (by omega) (by rw [d2,hvlen]) dlo.left d1 (fun a ha=>by
     rcases List.mem_cons.1 ha with rfl | ha
     ·exact⟨hq0,hqB⟩
     ·exact dqs a ha) (by rw [d3];exact Int.emod_lt_of_pos _ hVp) (by simp;omega) (by
     rw [<-hUval] at d3
     have hdv:=Int.mul_ediv_add_emod (val (x::R)) (val (v'++ [v2,v1]))
     rw [hqd] at hdv
     have key:val R'+val (v'++ [v2,v1]) * val (q::qs)=x+4294967296 * (val R+val (v'++ [v2,v1]) * val qs):=by
      rw [show val (q::qs)=q+4294967296 * val qs from rfl,d3,Int.mul_add,Int.mul_add 4294967296,Int.mul_left_comm _ 4294967296]
      omega
     rw [<-hN,bt lo' [x],hl',key,show val [x]=x from by simp [val],Int.pow_succ,Int.mul_assoc,Int.add_assoc,<-Int.mul_add])
    rw [<-hl'] at this
    exact this))
   4294967296 ((top * 4294967296+u1) / v1) ((top * 4294967296+u1) % v1) (by omega) (by rw [Int.mul_comm];exact hdm) (by omega) hqt (by omega)
  have c0:((j+1:Nat):Int) - 1>=0:=by omega
  have cj:((j+1:Nat):Int) - 1= (lo'.length:Int):=by omega
  have or1:=fG dtop du1
  have x1:IntKind.u64.wrap v1=v1:=w64 (by omega)
  have x2:IntKind.u64.wrap top=top:=w64 (by omega)
  have x3:(top * 4294967296+u1).tdiv v1= (top * 4294967296+u1) / v1:=Int.tdiv_eq_ediv_of_nonneg hT0
  have x4:(top * 4294967296+u1).tmod v1= (top * 4294967296+u1) % v1:=Int.tmod_eq_emod_of_nonneg hT0
  have x5:IntKind.u64.wrap ((top * 4294967296+u1) / v1)= (top * 4294967296+u1) / v1:=w64 (by omega)
  have nz:¬v1=0:=by omega
  have w3:IntKind.i64.wrap (((v'++ [v2,v1]).length:Int) - 1)= (((v'++ [v2,v1]).length - 1:Nat):Int):=by rw [Go.Aev.wr (by omega)];omega
  have w2':IntKind.i64.wrap (((lo'.length+ (v'++ [v2,v1]).length:Nat):Int) - 1)= ((lo'.length+ (v'++ [v2,v1]).length - 1:Nat):Int):=by rw [Go.Aev.wr (by omega)];omega
  have b1: 0<=((lo'.length+ (v'++ [v2,v1]).length:Nat):Int)/\((lo'.length+ (v'++ [v2,v1]).length:Nat):Int) < ((lo'.length+v'.length+3+hi.length:Nat):Int):=by omega
  have b2: 0<=((lo'.length+ (v'++ [v2,v1]).length - 1:Nat):Int)/\((lo'.length+ (v'++ [v2,v1]).length - 1:Nat):Int) < ((lo'.length+v'.length+3+hi.length:Nat):Int):=by omega
  have b3: 0<=(((v'++ [v2,v1]).length - 1:Nat):Int)/\(((v'++ [v2,v1]).length - 1:Nat):Int) < ((v'++ [v2,v1]).length:Int):=by omega
  rw [hlists,hrep,cj]
  refine hgood.step fun R hR=>aa ?_
  rw [wv]
  have c1:(lo'.length:Int)>=0:=by omega
  simp only [STL,↓reduceIte,Int.reduceBEq,Int.reduceEq,GD,c1,af,ad lo'.length (v'++ [v2,v1]).length (by omega),hlenu,b1,b2,b3,and_self,e5,e4,e1,w2',w3,x1,x2,or1,nz,x3,x4,x5]
  exact hR
theorem w4(ex ey:Bool)(x:List Int)(b:Int)(hx:Dg x)(hl:x.length<=900)(hb: 0 < b/\b < 4294967296):∀(k:Nat) (r:Int) (qs:List Int),k<=x.length->0<=r/\r < b->
  ∃Q R,Or mA [lu ex x,lu ey [b],o0,u6 r,I ((k:Int) - 1)] [Blk.sl false 1 false (ac (List.replicate k 0++qs))]=some [T.lst 1 false (ac (Q++qs)),T.lst 1 false (ac [R])]/\Q.length=k/\Dg Q/\0<=R/\R < b/\val Q * b+R=val (x.take k)+4294967296 ^ k * r
 | 0,r,qs,hk,hr=>by
  refine⟨[],r,aa ?_,rfl,(by intro a ha;cases ha),hr.1,hr.2,by simp [val]⟩
  rw [wN]
  have c0:¬(((0:Nat):Int) - 1)>=0:=by omega
  have wr0:IntKind.u32.wrap r=r:=by rw [aH];omega
  simp only [STL,↓reduceIte,Int.reduceBEq,Int.reduceEq,GD,c0,wr0]
  rfl
 | k+1,r,qs,hk,hr=>by
  have hkx:k < x.length:=by omega
  have ha: 0<=dat x k/\dat x k < 4294967296:=by
   have:dat x k∈x:=by
    simp only [dat,List.getD_eq_getElem?_getD,List.getElem?_eq_getElem hkx,Option.getD_some]
    exact List.getElem_mem hkx
   exact hx _ this
  have hT0: 0<=r * 4294967296+dat x k:=by omega
  have hq0: 0<=(r * 4294967296+dat x k) / b:=Int.ediv_nonneg hT0 (by omega)
  have hqB:(r * 4294967296+dat x k) / b < 4294967296:=by
   rw [Int.ediv_lt_iff_lt_mul hb.1]
   have:(r+1) * 4294967296<=b * 4294967296:=Int.mul_le_mul_of_nonneg_right (by omega) (by decide)
   rw [Int.mul_comm 4294967296 b];omega
  have hr0:=Int.emod_nonneg (r * 4294967296+dat x k) (show b≠0 by omega)
  have hr1:=Int.emod_lt_of_pos (r * 4294967296+dat x k) hb.1
  have hdm:=Int.mul_ediv_add_emod (r * 4294967296+dat x k) b
  obtain⟨Q,R,h1,h2,h3,h4,h5,h6⟩:=w4 ex ey x b hx hl hb k ((r * 4294967296+dat x k) % b) ((r * 4294967296+dat x k) / b::qs) (by omega) ⟨hr0,hr1⟩
  refine⟨Q++ [(r * 4294967296+dat x k) / b],R,aa ?_,by simp [h2],Dg.append h3 (by intro a ha;simp at ha;subst ha;exact⟨hq0,hqB⟩),h4,h5, ?_⟩
  ·rw [wN]
   have c0:((k+1:Nat):Int) - 1= (k:Int):=by omega
   have c1:(k:Int)>=0:=by omega
   have c2: 0<=(k:Int)/\(k:Int) < (x.length:Int):=by omega
   have hrep:List.replicate (k+1) (0:Int)++qs=List.replicate k 0++0::qs:=by
    rw [List.replicate_succ',List.append_assoc];rfl
   have c3: 0<=(k:Int)/\(k:Int) < ((List.replicate k (0:Int)++0::qs).length:Int):=by simp;omega
   have hor:=fG (v:=r) (n:=dat x k) (by omega) ha
   have y1:IntKind.u64.wrap b=b:=w64 (by omega)
   have y2:(r * 4294967296+dat x k).tdiv b= (r * 4294967296+dat x k) / b:=Int.tdiv_eq_ediv_of_nonneg hT0
   have y3:(r * 4294967296+dat x k).tmod b= (r * 4294967296+dat x k) % b:=Int.tmod_eq_emod_of_nonneg hT0
   have y4:IntKind.u32.wrap (IntKind.u64.wrap ((r * 4294967296+dat x k) / b))= (r * 4294967296+dat x k) / b:=by rw [w64 (by omega),aH];omega
   have nz:¬b=0:=by omega
   have hb1:(0:Int)<=0/\(0:Int) < (([b]:List Int).length:Int):=by simp
   have hbe:(ac [b])[(0:Nat)]? =some [T.int .u32 b]:=rfl
   have wk:IntKind.i64.wrap ((k:Int) - 1)= (k:Int) - 1:=Go.Aev.wr (by omega)
   rw [c0,hrep]
   simp only [STL,↓reduceIte,Int.reduceBEq,Int.reduceEq,GD,c1,c2,af,aq hkx,hor,y1,y2,y3,y4,nz,hb1,hbe,c3,and_self,bv (List.replicate k 0) 0 _ qs k (by simp),wk]
   rw [show Q++ [(r * 4294967296+dat x k) / b] ++qs=Q++ (r * 4294967296+dat x k) / b::qs from by simp]
   exact h1
  ·rw [bt,h2,fJ hkx,Int.pow_succ,Int.add_mul]
   simp only [val,Int.mul_zero,Int.add_zero]
   have e1: 4294967296 ^ k * ((r * 4294967296+dat x k) / b) * b=4294967296 ^ k * (b * ((r * 4294967296+dat x k) / b)):=by
    rw [Int.mul_assoc,Int.mul_comm _ b]
   have e2:(4294967296:Int) ^ k * (r * 4294967296+dat x k)=4294967296 ^ k * (b * ((r * 4294967296+dat x k) / b))+4294967296 ^ k * ((r * 4294967296+dat x k) % b):=by
    rw [<-Int.mul_add,hdm]
   have e3:(4294967296:Int) ^ k * (r * 4294967296+dat x k)=4294967296 ^ k * 4294967296 * r+4294967296 ^ k * dat x k:=by
    rw [Int.mul_add,Int.mul_assoc,Int.mul_comm r]
   rw [e1]
   omega
structure qQ (s:Nat) (x y UU VV:List Int) (V2:List Int) (w2 w1:Int):Prop where
 hs:s < 32
 vv:VV=V2++ [w2] ++ [w1] ++ [0]
 dV:Dg (V2++ [w2,w1])
 h1: 1<=w1
 vval:val (V2++ [w2,w1])=val y * 2 ^ s
 ly:y.length=V2.length+2
 ge: 4294967296 ^ (V2.length+1)<=val y
 dU:Dg UU
 uval:val UU=val x * 2 ^ s
 lu:UU.length=x.length+1
theorem z8{s:Nat}{x y UU VV V2:List Int}{w2' w1':Int}(ld:qQ s x y UU VV V2 w2' w1')(hx:Dg x)(hxl:x.length<=400)(hyl:V2.length+2<=x.length):
  ∃j:Nat,j+ (V2.length+2)=x.length+1/\Good (lc (val x) (val y) (x.length+1)) (K17 s false false false (V2++ [w2',w1']) UU (List.replicate UU.length 0) ((j:Int) - 1)):=by
 have hps:=bS s
 have hxlt:=bw hx
 obtain⟨j,hj⟩:∃j:Nat,j+ (V2.length+2)=x.length+1:=⟨x.length+1 - (V2.length+2),by omega⟩
 refine⟨j,hj, ?_⟩
 have hUl:=ld.lu
 have hsplit:UU=UU.take j++ (UU.drop j++ []):=by simp
 have hdl:(UU.drop j).length=V2.length+2:=by simp [hUl];omega
 have hdl2:(UU.take j).length=j:=by simp [hUl];omega
 have hU:=bt (UU.take j) (UU.drop j)
 rw [List.take_append_drop,hdl2] at hU
 have dD:Dg (UU.drop j):=fun a ha=>ld.dU a (List.mem_of_mem_drop ha)
 have dT:=ld.dU.take j
 have hVval:=ld.vval
 have hRlt:val (UU.drop j) < val (V2++ [w2',w1']):=by
  rcases Int.lt_or_le (val (UU.drop j)) (val (V2++ [w2',w1'])) with h | h
  ·exact h
  ·exfalso
   have h1:(4294967296:Int) ^ j * val (V2++ [w2',w1'])<=4294967296 ^ j * val (UU.drop j):=Int.mul_le_mul_of_nonneg_left h (Int.le_of_lt (bP _))
   have h2:=bf dT
   have h3:val x * (2:Int) ^ s < 4294967296 ^ x.length * 2 ^ s:=Int.mul_lt_mul_of_pos_right hxlt hps
   have h4:(4294967296:Int) ^ (V2.length+1) * 2 ^ s<=val y * 2 ^ s:=Int.mul_le_mul_of_nonneg_right ld.ge (by omega)
   have h5:(4294967296:Int) ^ j * (4294967296 ^ (V2.length+1) * 2 ^ s)<=4294967296 ^ j * val (V2++ [w2',w1']):=by
    rw [hVval];exact Int.mul_le_mul_of_nonneg_left h4 (Int.le_of_lt (bP _))
   rw [<-Int.mul_assoc,<-Int.pow_add,show j+ (V2.length+1)=x.length from by omega] at h5
   have:=ld.uval
   omega
 have hw17:=w17 s ld.hs false false false V2 w2' w1' ld.dV (by omega) ld.h1 (x.length+1) (val UU) j (UU.take j) (UU.drop j) [] (List.replicate (V2.length+2) 0) hdl2 (by omega) hdl dT dD (DZ _) hRlt (by simp;omega) (by rw [l8,Int.mul_zero,Int.add_zero];omega)
 rw [<-hsplit,List.replicate_append_replicate,hj,<-hUl] at hw17
 obtain⟨R,r1,e1',Q,e2',Z,Rf,rfl,q1,q2,q3,q4,q5,q6,q7,q8⟩:=hw17
 have hVp: 0 < val y:=by have:=bP (V2.length+1);have:=ld.ge;omega
 have hRdiv:val x * 2 ^ s=val Q * (val y * 2 ^ s)+Rf:=by rw [<-ld.uval,<-hVval];exact q7.symm
 have hRf:Rf= (val x - val Q * val y) * 2 ^ s:=by rw [Int.sub_mul,Int.mul_assoc];omega
 have hz1:val Z=val x - val Q * val y:=by rw [q8,hRf,Int.mul_ediv_cancel _ (by omega)]
 have hz2:val Z < val y:=by
  rw [hVval] at q6
  rw [hRf,<-hz1] at q6
  exact Int.lt_of_mul_lt_mul_right q6 (by omega)
 have hz3:=bf q2
 have hu:=Int.ediv_emod_unique hVp (a:=val x) (q:=val Q) (r:=val Z)
 obtain⟨hq,hzm⟩:=hu.2 ⟨by rw [Int.mul_comm];omega,hz3,hz2⟩
 exact⟨_,r1,e1',Q,e2',Z,rfl,q1,q2,hq.symm,hzm.symm,by omega,by omega⟩
theorem uf{x y':List Int}{y2 y1:Int}(hx:Dg x)(hy:Dg (y'++ [y2,y1]))(h1: 1<=y1)(s:Nat)(hs:s < 32)(hsm:y1 * 2 ^ s < 4294967296):
  ∃V2 w2 w1,V2.length=y'.length/\qQ s x (y'++ [y2,y1]) (bm (2 ^ s) x 0) (bm (2 ^ s) (y'++ [y2,y1]) 0) V2 w2 w1:=by
 have hlen:(y'++ [y2,y1]).length=y'.length+2:=by simp
 have hps:=bS s
 have hk:=fT (n:=s) (by omega)
 obtain⟨v1,v2',v3⟩:=kO hps hk (x:=y'++ [y2,y1]) (c:=0) hy ⟨Int.le_refl _,hps⟩
 obtain⟨u1,u2,u3⟩:=kO hps hk (x:=x) (c:=0) hx ⟨Int.le_refl _,hps⟩
 generalize bm (2 ^ s) (y'++ [y2,y1]) 0=VV at *
 generalize bm (2 ^ s) x 0=UU at *
 rw [Int.add_zero] at v1 u1
 have hyv:=bt y' [y2,y1]
 have hylt:=bw hy.left
 have hy2:=hy y2 (by simp)
 have hy1:=hy y1 (by simp)
 have hPp:=bP y'.length
 obtain⟨V0,vt,rfl,hV0⟩:=cA (l:=VV) (n:=y'.length+2) (by rw [v2',hlen])
 have dvt:=v3 vt (by simp)
 have hVV:=bt V0 [vt]
 rw [hV0] at hVV
 simp only [val,Int.mul_zero,Int.add_zero] at hVV hyv
 have hV0n:=bf v3.left
 have hbound:val (y'++ [y2,y1]) * 2 ^ s < 4294967296 ^ (y'.length+2):=by
  have hle:val (y'++ [y2,y1])<=4294967296 ^ (y'.length+1) * (y1+1) - 1:=by
   have hsp:=bw (d:=y'++ [y2]) (by
    have:y'++ [y2,y1]= (y'++ [y2])++ [y1]:=by simp
    rw [this] at hy;exact hy.left)
   have e:=bt (y'++ [y2]) [y1]
   rw [show(y'++ [y2])++ [y1]=y'++ [y2,y1] from by simp] at e
   simp only [val,Int.mul_zero,Int.add_zero,List.length_append,List.length_cons,List.length_nil,Nat.zero_add] at e hsp
   rw [Int.mul_add,Int.mul_one]
   omega
  have hy1s:(y1+1) * (2:Int) ^ s<=4294967296:=by
   rw [hk] at hsm⊢
   have:y1 < 2 ^ (32 - s):=Int.lt_of_mul_lt_mul_right hsm (by omega)
   exact Int.mul_le_mul_of_nonneg_right (by omega) (by omega)
  have hpp:=bP (y'.length+1)
  have m1:val (y'++ [y2,y1]) * (2:Int) ^ s<=(4294967296 ^ (y'.length+1) * (y1+1) - 1) * 2 ^ s:=Int.mul_le_mul_of_nonneg_right hle (by omega)
  have m2:(4294967296:Int) ^ (y'.length+1) * ((y1+1) * 2 ^ s)<=4294967296 ^ (y'.length+1) * 4294967296:=Int.mul_le_mul_of_nonneg_left hy1s (by omega)
  rw [Int.sub_mul,Int.one_mul,Int.mul_assoc] at m1
  rw [show y'.length+2=y'.length+1+1 from rfl,Int.pow_succ 4294967296 (y'.length+1)]
  omega
 have hvt:vt=0:=by
  rcases Int.lt_or_le 0 vt with h | h
  ·exfalso
   have:(4294967296:Int) ^ (y'.length+2) * 1<=4294967296 ^ (y'.length+2) * vt:=Int.mul_le_mul_of_nonneg_left (by omega) (Int.le_of_lt (bP _))
   omega
  ·omega
 subst hvt
 have hVval:val V0=val (y'++ [y2,y1]) * 2 ^ s:=by omega
 obtain⟨V1,w1',rfl,hV1⟩:=cA hV0
 obtain⟨V2,w2',rfl,hV2⟩:=cA hV1
 have hrw:V2++ [w2'] ++ [w1']=V2++ [w2',w1']:=by simp
 rw [hrw] at hVval v3 hV0
 have dV:=v3.left
 have hyge: 4294967296 ^ (y'.length+1)<=val (y'++ [y2,y1]):=by
  rw [hyv,Int.pow_succ]
  have:(4294967296:Int) ^ y'.length * (4294967296 * 1)<=4294967296 ^ y'.length * (y2+4294967296 * y1):=Int.mul_le_mul_of_nonneg_left (by omega) (by omega)
  have:=bf hy.left
  omega
 have hp1: 1<=(2:Int) ^ s:=by omega
 have hVge: 4294967296 ^ (y'.length+1)<=val (V2++ [w2',w1']):=by
  rw [hVval]
  have:val (y'++ [y2,y1]) * 1<=val (y'++ [y2,y1]) * 2 ^ s:=Int.mul_le_mul_of_nonneg_left hp1 (by have:=bP (y'.length+1);omega)
  omega
 have hw1: 1<=w1':=by
  have dw1:=dV w1' (by simp)
  rcases Int.lt_or_le w1' 1 with h | h
  ·exfalso
   have h0:w1'=0:=by omega
   subst h0
   have e:=bt (V2++ [w2']) [(0:Int)]
   have hl2:=bw (d:=V2++ [w2']) (by
    have:V2++ [w2',(0:Int)]= (V2++ [w2'])++ [0]:=by simp
    rw [this] at dV;exact dV.left)
   rw [show V2++ [w2'] ++ [(0:Int)]=V2++ [w2',0] from by simp] at e
   simp only [val,Int.mul_zero,Int.add_zero,List.length_append,List.length_cons,List.length_nil,hV2,Nat.zero_add] at e hl2
   omega
  ·exact h
 exact⟨V2,w2',w1',hV2,hs,rfl,dV,hw1,hVval,by rw [hlen,hV2],by rw [hV2];exact hyge,u3,u1,u2⟩
theorem n11(ex ey:Bool)(x y':List Int)(y2 y1:Int)(hx:Dg x)(hy:Dg (y'++ [y2,y1]))(h1: 1<=y1)(hxl:x.length<=400)(hyl:y'.length+2<=x.length):∀(m s:Nat),s+m=32->s < 32->y1 * 2 ^ s < 4294967296->
  Good (lc (val x) (val (y'++ [y2,y1])) (x.length+1)) (Or lX [lu ex x,lu ey (y'++ [y2,y1]),I (s:Int)] [])
 | 0,s,hm,hs,_=>by omega
 | m+1,s,hm,hs,hsm=>by
  have hlen:(y'++ [y2,y1]).length=y'.length+2:=by simp
  have e1:(ac (y'++ [y2,y1]))[(((y'.length+1:Nat):Int)).toNat]? =some [T.int .u32 y1]:=by
   have:=bC (y'++ [y2]) y1 [] (y'.length+1) (by simp)
   simpa using this
  have w1:IntKind.i64.wrap (((y'++ [y2,y1]).length:Int) - 1)= ((y'.length+1:Nat):Int):=by rw [Go.Aev.wr (by omega)];omega
  have b1: 0<=((y'.length+1:Nat):Int)/\((y'.length+1:Nat):Int) < ((y'++ [y2,y1]).length:Int):=by omega
  have t3:min ((s:Int)).toNat 32=s:=by simp;omega
  have t4:¬(s:Int) < 0:=by omega
  have hps:=bS s
  have hy0: 0<=y1 * (2:Int) ^ s:=Int.mul_nonneg (by omega) (by omega)
  have wq:IntKind.u32.wrap (y1 * (2:Int) ^ s)=y1 * 2 ^ s:=by rw [aH];omega
  have fd31:(y1 * (2:Int) ^ s).fdiv ((2:Int) ^ 31)=y1 * 2 ^ s / 2147483648:=by
   rw [show((2:Int) ^ 31)=2147483648 from by decide,Int.fdiv_eq_ediv_of_nonneg _ (by omega)]
  by_cases hz:y1 * (2:Int) ^ s / 2147483648=0
  ·have hp2:(2:Int) ^ (s+1)=2 ^ s * 2:=Int.pow_succ 2 s
   have hsm2:y1 * (2:Int) ^ (s+1) < 4294967296:=by rw [hp2,<-Int.mul_assoc];omega
   have hs2:s+1 < 32:=by
    rcases Nat.lt_or_ge (s+1) 32 with h | h
    ·exact h
    ·exfalso
     have:s=31:=by omega
     subst this
     have hp:((2:Int) ^ 31)=2147483648:=by decide
     rw [hp] at hz
     omega
   refine(n11 ex ey x y' y2 y1 hx hy h1 hxl hyl m (s+1) (by omega) hs2 hsm2).step fun R hR=>aa ?_
   rw [wl]
   simp only [STL,↓reduceIte,Int.reduceBEq,Int.reduceEq,GD,af,w1,b1,and_self,e1,t3,t4,wq,fd31,hz,nx s (by omega)]
   exact hR
  ·obtain⟨V2,w2',w1',hV2,ld⟩:=uf hx hy h1 s hs hsm
   obtain⟨j,hj,hg⟩:=z8 ld hx hxl (by omega)
   have hv79:=s79 s hs ey (y'++ [y2,y1]) hy (by omega)
   have hu79:=s79 s hs ex x hx (by omega)
   rw [ld.vv] at hv79
   have hUl:=ld.lu
   generalize bm (2 ^ s) x 0=UU at *
   refine hg.step fun R hR=>aa ?_
   have hrw:V2++ [w2'] ++ [w1']=V2++ [w2',w1']:=by simp
   have hin:inB 0 ((y'++ [y2,y1]).length:Int) ((V2++ [w2'] ++ [w1'] ++ [0]).length:Int)=some ():=by unfold inB;rw [if_pos (by simp [hV2];omega)]
   have hmk:ap (UU.length:Int) (UU.length:Int)=some ():=by unfold ap lim;rw [if_pos (by omega)]
   have htk:List.take (((y'++ [y2,y1]).length:Int).toNat - 0) (ac (V2++ [w2'] ++ [w1'] ++ [0]))=ac (V2++ [w2',w1']):=by
    have hnn:((y'++ [y2,y1]).length:Int).toNat - 0= (V2++ [w2',w1']).length:=by rw [hlen];simp only [List.length_append,List.length_cons,List.length_nil,hV2];omega
    simp only [hnn,hrw,ac,List.map_append]
    rw [List.take_append_of_le_length (by simp),List.take_of_length_le (by simp)]
   have wk:IntKind.i64.wrap (IntKind.i64.wrap ((UU.length:Int) - ((y'++ [y2,y1]).length:Int)) - 1)= (j:Int) - 1:=by
    rw [Go.Aev.wr (v:=(UU.length:Int) - _) (by omega),Go.Aev.wr (by omega)];omega
   have hzr:List.replicate ((UU.length:Int)).toNat [T.int IntKind.u32 (0:Int)]=ac (List.replicate UU.length 0):=by simp [ac]
   have hlq:((V2++ [w2',w1']).length:Int)= ((y'++ [y2,y1]).length:Int):=by simp [hV2]
   have hR2:Or jf [I (s:Int),I ((V2++ [w2',w1']).length:Int),lu false (V2++ [w2',w1']),o0,o1,I ((j:Int) - 1)] (U2 false false UU (List.replicate UU.length 0))=some R:=hR
   rw [hlq] at hR2
   rw [wl]
   simp only [STL,↓reduceIte,Int.reduceBEq,Int.reduceEq,GD,af,w1,b1,and_self,e1,t3,t4,wq,fd31,hz,hv79,hu79,hin,hmk,htk,wk,hzr]
   exact hR2
theorem s78(ex ey:Bool)(x y:List Int)(hx:Dg x)(hy:Dg y)(hc:Can y)(hyn:y≠[])(hxl:x.length<=400)(hle:val y<=val x):Good (lc (val x) (val y) (x.length+1)) (Or (.call 149) [lu ex x,lu ey y] []):=by
 have hyp:=iY hy hc hyn
 have hlen:y.length<=x.length:=by
  rcases Nat.lt_or_ge x.length y.length with h | h
  ·have:=eQ hx hy hc h;omega
  ·exact h
 by_cases h1:(y.length:Int)=1
 ·match y,h1 with
  | [b],_=>
   have hb:=hy b (by simp)
   have hb0: 0 < b:=by simpa [val] using hyp
   obtain⟨Q,R,k1,k2,k3,k4,k5,k6⟩:=w4 ex ey x b hx (by omega) ⟨hb0,hb.2⟩ x.length 0 [] (by omega) ⟨by omega,hb0⟩
   rw [List.take_length,Int.mul_zero,Int.add_zero] at k6
   rw [List.append_nil,List.append_nil] at k1
   have hvb:val [b]=b:=by simp [val]
   have hu:=Int.ediv_emod_unique hb0 (a:=val x) (q:=val Q) (r:=R)
   obtain⟨q1,q2⟩:=hu.2 ⟨by rw [Int.mul_comm];omega,k4,k5⟩
   refine⟨_,aa ?_,false,Q,false,[R],rfl,k3,(by intro a ha;simp at ha;subst ha;omega),by rw [hvb];exact q1.symm,by rw [hvb];simp [val];omega,by omega,by simp⟩
   rw [e78]
   have hmk:ap (x.length:Int) (x.length:Int)=some ():=by unfold ap lim;rw [if_pos (by omega)]
   have w1:IntKind.i64.wrap ((x.length:Int) - 1)= (x.length:Int) - 1:=Go.Aev.wr (by omega)
   have hzr:List.replicate ((x.length:Int)).toNat [T.int IntKind.u32 (0:Int)]=ac (List.replicate x.length 0):=by simp [ac]
   have h11:(([b]:List Int).length:Int)=1:=by simp
   simp only [STL,↓reduceIte,Int.reduceBEq,Int.reduceEq,GD,af,h11,hmk,w1,hzr]
   exact k1
 ·have h2: 2<=y.length:=by have:=List.length_pos_iff.2 hyn;omega
  obtain⟨y0,y1,rfl,g1⟩:=cA (l:=y) (n:=y.length - 1) (by omega)
  obtain⟨y',y2,rfl,g2⟩:=cA (l:=y0) (n:=y0.length - 1) (by simp at h2;omega)
  have hrw:y'++ [y2] ++ [y1]=y'++ [y2,y1]:=by simp
  have hy1: 1<=y1:=by
   have:=hc (y'.length+1) (by simp)
   rw [show dat (y'++ [y2] ++ [y1]) (y'.length+1)=y1 from by
    have:=jK (y'++ [y2]) y1 [] (y'.length+1) (by simp)
    simpa using this] at this
   have:=hy y1 (by simp)
   omega
  have hy1b:=hy y1 (by simp)
  rw [hrw] at hy hlen h1⊢
  refine(n11 ex ey x y' y2 y1 hx hy hy1 hxl (by simpa using hlen) 32 0 rfl (by omega) (by simpa using hy1b.2)).step fun R hR=>aa ?_
  rw [e78]
  simp only [STL,↓reduceIte,Int.reduceBEq,Int.reduceEq,GD,af,h1]
  exact hR
open Go Go.Aev Go.Aev.Gen
theorem wY{z w:Int}{s t:Bool}{d a:List Int}(h:Rep z s d)(ha:Rep w t a)(hz:z.natAbs<=w.natAbs):d.length<=a.length:=pp h a.length (by
 have:=bw ha.dg
 rw [fh ha] at this
 omega)
def tB(z m:Int)(r:Option (List T)):Prop:= ∃s e d s' e' d',r=some [T.nilp,T.nilp,tb s,T.lst 1 e (ac d),tb s',T.lst 1 e' (ac d')]/\Rep z s d/\Rep m s' d'
theorem uy(s:Bool)(y:T)(s2 e2 s3 e3 s4:Bool)(y4:T)(a b:List Int)(u v:Int)(ha:Rep u s2 a)(hb:Rep v s3 b)(la:a.length<=400)(lb:b.length<=400)(hv:v≠0):
  tB (u.tdiv v) (u.tmod v) (Or (.call 139) [r0,AV.t (T.ptr [tb s2,T.lst 1 e2 (ac a)]),AV.t (T.ptr [tb s3,T.lst 1 e3 (ac b)]),AV.ref (Id.c 1) 0] [Blk.box [AV.t (T.bool s),AV.t y],Blk.box [AV.t (T.bool s4),AV.t y4]]):=by
 have h67:=s67 a b s2 e2 s3 e3 ha.dg hb.dg ha.can hb.can (by omega) (by omega)
 have hA:=bf ha.dg
 have hB:=tG hb hv
 obtain⟨hq,hm⟩:=wW s3 s2 (val a) (val b) hA hB
 have hu:=ha.z
 have hv':=hb.z
 unfold num at hu hv'
 rw [hu,hv'] at hq hm
 by_cases hc:val a < val b
 ·have h0:ao (val a) (val b) < 0:=by unfold ao;rw [if_pos hc];omega
  obtain⟨s',e',d',k1,k2,k3⟩:=s48 s y 0 (by omega)
  rw [Int.ediv_eq_zero_of_lt hA hc] at hq
  rw [Int.emod_eq_of_lt hA hc,hu] at hm
  refine⟨s',e',d',s2,false,a,aa ?_, ?_,by rw [hm];exact ha⟩
  ·rw [e70]
   simp only [STL,↓reduceIte,Int.reduceBEq,Int.reduceEq,GD,h67,h0,s69 s4 y4 s2 e2 a (by omega),k1]
  ·rw [hq];simpa using k2
 ·have hlen:b.length<=a.length:=by
   rcases Nat.lt_or_ge a.length b.length with h | h
   ·have:=eQ ha.dg hb.dg hb.can h;omega
   ·exact h
  by_cases h3:(a.length:Int) < 3
  ·obtain⟨sq,eq,dq,sm,em,dm,k1,k2,k3,_,_⟩:=s70 s y s2 e2 s3 e3 s4 y4 a b u v ha hb (by omega) (by omega) hv
   exact⟨sq,eq,dq,sm,em,dm,k1,k2,k3⟩
  ·have h0:¬ao (val a) (val b) < 0:=by unfold ao;rw [if_neg hc];split <;> omega
   have hbn:b≠[]:=by intro h;subst h;simp [val] at hB
   obtain⟨R,r1,e5,Q,e6,Z,rfl,q1,q2,q3,q4,q5,q6⟩:=s78 e2 e3 a b ha.dg hb.dg hb.can hbn la (by omega)
   have t5:=s51 (!s2==s3) e5 Q (by omega)
   have t6:=s51 s2 e6 Z (by omega)
   refine⟨(!s2==s3) && decide (ay Q≠[]),e5,ay Q,s2 && decide (ay Z≠[]),e6,ay Z,aa ?_,fV (s:= !s2==s3) q1 ?_,fV (s:=s2) q2 ?_⟩
   ·rw [e70]
    simp only [STL,↓reduceIte,Int.reduceBEq,Int.reduceEq,GD,h67,h0,af,h3,r1,t5,t6]
   ·rw [hq];unfold num;rw [q3]
   ·rw [hm];unfold num;rw [q4]
theorem Bc(s:Bool)(y:T)(s2 e2 s3 e3 s4:Bool)(y4:T)(a b:List Int)(u v:Int)(ha:Rep u s2 a)(hb:Rep v s3 b)(la:a.length<=390)(lb:b.length<=390)(hv: 0 < v):
  tB (u / v) (u % v) (Or (.call 138) [r0,AV.t (T.ptr [tb s2,T.lst 1 e2 (ac a)]),AV.t (T.ptr [tb s3,T.lst 1 e3 (ac b)]),AV.ref (Id.c 1) 0] [Blk.box [AV.t (T.bool s),AV.t y],Blk.box [AV.t (T.bool s4),AV.t y4]]):=by
 have h69:=s69 false (T.emp true) s3 e3 b (by omega)
 obtain⟨sq,eq,dq,sm,em,dm,k1,k2,k3⟩:=uy s y s2 e2 s3 e3 s4 y4 a b u v ha hb (by omega) (by omega) (by omega)
 have hs3:=f7 hb
 have:s3=false:=by rw [hs3];simp;omega
 subst this
 have hsm:=f7 k3
 obtain⟨f1,f2⟩:=uZ (u:=u) hv
 have ldq:=wY k2 ha (by rw [Int.natAbs_tdiv];exact Nat.div_le_self _ _)
 have ldm:=wY k3 ha (by rw [Int.natAbs_tmod];exact Nat.mod_le _ _)
 by_cases hn:u.tmod v < 0
 ·have:sm=true:=by rw [hsm];simpa using hn
  subst this
  obtain⟨q1,q2⟩:=f1 hn
  obtain⟨x1,j1,j2⟩:=s35 1 (by omega)
  obtain⟨s',e',d',rfl,j3⟩:=j2
  have l1:=iI j3 (by omega)
  obtain⟨sq',eq',dq',m1,m2,m3⟩:=uV sq eq s' e' dq d' _ _ k2 j3 (by omega) (by omega)
  obtain⟨sm',em',dm',w1,w2,w3⟩:=ke true em false e3 dm b _ _ k3 hb (by omega) (by omega)
  rw [q1] at m2
  rw [q2] at w2
  have w1':=(ke true em false false dm b _ _ k3 hb (by omega) (by omega))
  rw [q2] at w1'
  obtain⟨sm2,em2,dm2,x1,x2,x3⟩:=w1'
  refine⟨sq',eq',dq',sm2,em2,dm2,aa ?_,m2,x2⟩
  rw [e52]
  simp only [STL,↓reduceIte,Int.reduceBEq,Int.reduceEq,GD,h69,k1,j1,m1,x1]
 ·have:sm=false:=by rw [hsm];simpa using hn
  subst this
  obtain⟨q1,q2⟩:=f2 hn
  rw [q1] at k2
  rw [q2] at k3
  refine⟨sq,eq,dq,false,em,dm,aa ?_,k2,k3⟩
  rw [e52]
  simp only [STL,↓reduceIte,Int.reduceBEq,Int.reduceEq,GD,h69,k1]
open Go Go.Aev Go.Aev.Gen
def Lim(z:Int):Prop:=(z.natAbs:Int) < 4294967296 ^ 200
theorem Lim.len{z:Int}{s:Bool}{d:List Int}(h:Lim z)(r:Rep z s d):d.length<=200:=pp r 200 h
theorem Lim.le{z w:Int}(h:Lim z)(hw:w.natAbs<=z.natAbs):Lim w:=by
 unfold Lim at *
 have:(w.natAbs:Int)<=(z.natAbs:Int):=by omega
 exact Int.lt_of_le_of_lt this h
def Sm(z:Int):Prop:= -9223372036854775808 < z/\z < 9223372036854775808
theorem Sm.lim{z:Int}(h:Sm z):Lim z:=by
 unfold Sm at h;unfold Lim
 have h1:(4294967296:Int) ^ 2<=4294967296 ^ 200:=kD (by omega)
 have h2:(4294967296:Int) ^ 2=18446744073709551616:=by decide
 rw [h2] at h1
 exact Int.lt_of_lt_of_le (by omega) h1
def dS(z:Int)(r:Option (List T)):Prop:= ∃s e d,r=some [T.nilp,tb s,T.lst 1 e (ac d)]/\Rep z s d
theorem Sets.g{z:Int}{n:Nat}{r:Option (List T)}(h:Sets z n r):dS z r:=by obtain⟨s,e,d,k1,k2,_⟩:=h;exact⟨s,e,d,k1,k2⟩
abbrev r1:AV:=AV.ref (Id.c 1) 0
abbrev pt(s e:Bool)(d:List Int):T:=T.ptr [T.bool s,T.lst 1 e (ac d)]
theorem wi{z:Int}{s e:Bool}{d:List Int}(h:Rep z s d):WI z (pt s e d):=⟨s,e,d,rfl,h⟩
theorem g77(s:Bool)(y:T){x1 x2:T}{u v:Int}(h1:WI u x1)(h2:WI v x2)(lu:Lim u)(lv:Lim v)(hv:v≠0):
  dS (u.tdiv v) (Or (.call 117) [r0,AV.t x1,AV.t x2] [Blk.box [AV.t (T.bool s),AV.t y]]):=by
 obtain⟨s2,e2,a,rfl,ha⟩:=h1
 obtain⟨s3,e3,b,rfl,hb⟩:=h2
 have:=lu.len ha
 have:=lv.len hb
 obtain⟨sq,eq,dq,sm,em,dm,k1,k2,k3⟩:=uy s y s2 e2 s3 e3 false (T.emp true) a b u v ha hb (by omega) (by omega) hv
 refine⟨sq,eq,dq,aa ?_,k2⟩
 rw [e77]
 simp only [STL,↓reduceIte,Int.reduceBEq,Int.reduceEq,GD,k1]
theorem g73(s:Bool)(y:T){x1 x2:T}{u v:Int}(h1:WI u x1)(h2:WI v x2)(lu:Lim u)(lv:Lim v)(hv: 0 < v):
  dS (u % v) (Or (.call 113) [r0,AV.t x1,AV.t x2] [Blk.box [AV.t (T.bool s),AV.t y]]):=by
 obtain⟨s2,e2,a,rfl,ha⟩:=h1
 obtain⟨s3,e3,b,rfl,hb⟩:=h2
 have:=lu.len ha
 have:=lv.len hb
 obtain⟨sq,eq,dq,sm,em,dm,k1,k2,k3⟩:=Bc false (T.emp true) s2 e2 s3 e3 s y a b u v ha hb (by omega) (by omega) hv
 refine⟨sm,em,dm,aa ?_,k3⟩
 rw [e73]
 simp only [STL,↓reduceIte,Int.reduceBEq,Int.reduceEq,GD,k1]
theorem g37(s:Bool)(y:T){x1 x2:T}{u v:Int}(h1:WI u x1)(h2:WI v x2)(lu:Lim u)(lv:Lim v):
  dS (u * v) (Or (.call 91) [r0,AV.t x1,AV.t x2] [Blk.box [AV.t (T.bool s),AV.t y]]):=by
 obtain⟨s2,e2,a,rfl,ha⟩:=h1
 obtain⟨s3,e3,b,rfl,hb⟩:=h2
 have:=lu.len ha
 have:=lv.len hb
 exact(s37 s y s2 e2 s3 e3 a b u v ha hb (by omega) (by omega)).g
theorem BI{s2 e2:Bool}{a:List Int}{x2:T}{u v:Int}(ha:Rep u s2 a)(h2:WI v x2)(lu:Lim u)(lv:Lim v):
  dS (u+v) (Or (.call 94) [r0,r0,AV.t x2] [Blk.box [AV.t (T.bool s2),AV.t (T.lst 1 e2 (ac a))]]):=by
 obtain⟨s3,e3,b,rfl,hb⟩:=h2
 have:=lu.len ha
 have:=lv.len hb
 exact(ke s2 e2 s3 e3 a b u v ha hb (by omega) (by omega)).g
theorem sI(s:Bool)(y:T)(s2 e2:Bool)(d:List Int)(r:List T)(hd:d.length<=1000):Or (.call 114) [r0,AV.t (T.ptr (T.bool s2::T.lst 1 e2 (ac d)::r))] [Blk.box [AV.t (T.bool s),AV.t y]]=some [T.nilp,tb s2,T.lst 1 false (ac d)]:=by
 refine aa ?_
 rw [Bh]
 have:aA 4 (ac d).length=some ():=d9 (by rw [af];omega)
 simp only [STL,↓reduceIte,Int.reduceBEq,Int.reduceEq,GD,this]
theorem zS(s e:Bool)(d:List Int)(hd:d.length<=1000):Or (.call 114) [r0,r0] [Blk.box [AV.t (T.bool s),AV.t (T.lst 1 e (ac d))]]=some [T.nilp,tb s,T.lst 1 false (ac d)]:=by
 refine aa ?_
 rw [BO]
 have:aA 4 (ac d).length=some ():=d9 (by rw [af];omega)
 simp only [STL,↓reduceIte,Int.reduceBEq,Int.reduceEq,GD,this]
theorem sH(s:Bool)(y:T)(t:Bool)(u:T)(s2 e2:Bool)(d:List Int)(hd:d.length<=1000):Or (.call 114) [r0,AV.t (pt s2 e2 d)] [Blk.box [AV.t (T.bool s),AV.t y,AV.t (T.bool t),AV.t u]]=some [T.nilp,tb s2,T.lst 1 false (ac d),tb t,u]:=by
 refine aa ?_
 rw [zu]
 have:aA 4 (ac d).length=some ():=d9 (by rw [af];omega)
 simp only [STL,↓reduceIte,Int.reduceBEq,Int.reduceEq,GD,this]
theorem yo(s:Bool)(y:T)(t:Bool)(u:T)(s2 e2:Bool)(d:List Int)(hd:d.length<=1000):Or (.call 114) [AV.ref (Id.c 0) 2,AV.t (pt s2 e2 d)] [Blk.box [AV.t (T.bool s),AV.t y,AV.t (T.bool t),AV.t u]]=some [T.nilp,tb s,y,tb s2,T.lst 1 false (ac d)]:=by
 refine aa ?_
 rw [C9]
 have:aA 4 (ac d).length=some ():=d9 (by rw [af];omega)
 simp only [STL,↓reduceIte,Int.reduceBEq,Int.reduceEq,GD,this]
theorem uF{s2:Bool}{d:List Int}{z:Int}(hz:Rep z s2 d):Rep (-z) (!s2 && decide ((d.length:Int) > 0)) d:=by
 refine⟨hz.dg,hz.can,fun h=> ?_, ?_⟩
 ·simp only [Bool.and_eq_true,decide_eq_true_eq] at h
  intro h';subst h'
  simp at h
 ·have:=hz.z
  unfold num at this⊢
  cases s2 with
  | true=>simp at this⊢;omega
  | false=>
   simp only [Bool.false_eq_true,if_false] at this
   by_cases hl:(d.length:Int) > 0
   ·simp [hl];omega
   ·have:d= []:=List.length_eq_zero_iff.1 (by omega)
    subst this
    simp [val] at *
    omega
theorem Eh(s:Bool)(y:T)(s2 e2:Bool)(d:List Int)(r:List T)(z:Int)(hd:d.length<=1000)(hz:Rep z s2 d):dS (-z) (Or (.call 118) [r0,AV.t (T.ptr (T.bool s2::T.lst 1 e2 (ac d)::r))] [Blk.box [AV.t (T.bool s),AV.t y]]):=by
 refine⟨_,false,d,aa ?_,uF hz⟩
 rw [Cm]
 simp only [STL,↓reduceIte,Int.reduceBEq,Int.reduceEq,GD,sI s y s2 e2 d r hd,af,bh]
theorem sR(s e:Bool)(d:List Int)(z:Int)(hd:d.length<=1000)(hz:Rep z s d):dS (-z) (Or (.call 118) [r0,r0] [Blk.box [AV.t (T.bool s),AV.t (T.lst 1 e (ac d))]]):=by
 refine⟨_,false,d,aa ?_,uF hz⟩
 rw [Da]
 simp only [STL,↓reduceIte,Int.reduceBEq,Int.reduceEq,GD,zS s e d hd,af,bh]
theorem s71(s:Bool)(y:T){x:T}{z:Int}(h:WI z x)(lz:Lim z):dS (z.natAbs:Int) (Or (.call 110) [r0,AV.t x] [Blk.box [AV.t (T.bool s),AV.t y]]):=by
 obtain⟨s2,e2,d,rfl,hr⟩:=h
 have:=lz.len hr
 refine⟨false,false,d,aa ?_,⟨hr.dg,hr.can,fun h=>(by cases h),by simp [num,fh hr]⟩⟩
 rw [e71]
 simp only [STL,↓reduceIte,Int.reduceBEq,Int.reduceEq,GD,s69 s y s2 e2 d (by omega)]
theorem s72(s2 e2:Bool)(d:List Int)(r:List T)(z:Int)(h:Rep z s2 d):Or (.call 75) [AV.t (T.ptr (T.bool s2::T.lst 1 e2 (ac d)::r))] []=some [ti z.sign]:=by
 refine aa ?_
 rw [e72]
 have hs:=f7 h
 have ha:=fh h
 by_cases hd:d= []
 ·subst hd
  have:z=0:=by simp [val] at ha;omega
  subst this
  simp only [STL,↓reduceIte,Int.reduceBEq,Int.reduceEq,GD,af,List.length_nil]
  rfl
 ·have hp:=iY h.dg h.can hd
  have hl:¬(d.length:Int)=0:=by have:=List.length_pos_iff.2 hd;omega
  cases s2 with
  | true=>
   have:z < 0:=by simpa using hs.symm
   have:z.sign= -1:=Int.sign_eq_neg_one_of_neg this
   simp only [STL,↓reduceIte,Int.reduceBEq,Int.reduceEq,GD,af,hl,this]
  | false=>
   have:¬z < 0:=by simpa using hs.symm
   have:z.sign=1:=Int.sign_eq_one_of_pos (by omega)
   simp only [STL,↓reduceIte,Int.reduceBEq,Int.reduceEq,GD,af,hl,this]
theorem s55{x1 x2:T}{u v:Int}(h1:WI u x1)(h2:WI v x2)(lu:Lim u)(lv:Lim v):Or (.call 73) [AV.t x1,AV.t x2] []=some [ti (ao u v)]:=by
 obtain⟨s2,e2,a,rfl,ha⟩:=h1
 obtain⟨s3,e3,b,rfl,hb⟩:=h2
 have:=lu.len ha
 have:=lv.len hb
 have h67:=s67 a b s2 e2 s3 e3 ha.dg hb.dg ha.can hb.can (by omega) (by omega)
 have h67':=s67 b a s3 e3 s2 e2 hb.dg ha.dg hb.can ha.can (by omega) (by omega)
 have sa:=f7 ha
 have sb:=f7 hb
 have za:=fh ha
 have zb:=fh hb
 refine aa ?_
 rw [e55]
 cases s2 <;> cases s3 <;> simp only [Bool.true_eq,Bool.false_eq,decide_eq_true_eq,decide_eq_false_iff_not] at sa sb
 ·simp only [STL,↓reduceIte,Int.reduceBEq,Int.reduceEq,GD,ff,h67]
  have:ao (val a) (val b)=ao u v:=by rw [za,zb];unfold ao;split <;> split <;> (try split) <;> (try split) <;> omega
  rw [this]
 ·simp only [STL,↓reduceIte,Int.reduceBEq,Int.reduceEq,GD,ft]
  have:ao u v=1:=by unfold ao;rw [if_neg (by omega),if_neg (by omega)]
  rw [this]
 ·simp only [STL,↓reduceIte,Int.reduceBEq,Int.reduceEq,GD,tf]
  have:ao u v= -1:=by unfold ao;rw [if_pos (by omega)]
  rw [this]
 ·simp only [STL,↓reduceIte,Int.reduceBEq,Int.reduceEq,GD,tt,h67']
  have:ao (val b) (val a)=ao u v:=by rw [za,zb];unfold ao;split <;> split <;> (try split) <;> (try split) <;> omega
  rw [this]
theorem n54(s:Bool)(y:T):∀(d c:Nat),c < 18446744073709551616->d < 18446744073709551616->dS ((Nat.gcd c d:Nat):Int) (Or mY [r0,AV.t (T.int .u64 (c:Int)),AV.t (T.int .u64 (d:Int))] [Blk.box [AV.t (T.bool s),AV.t y]]):=by
 intro d
 induction d using Nat.strongRecOn with
 | _ d ih=>
  intro c hc hd
  by_cases h0:(d:Int) > 0
  ·have hm:(c:Int).tmod (d:Int)= ((c % d:Nat):Int):=by rw [Int.tmod_eq_emod_of_nonneg (by omega),Int.natCast_emod]
   have hlt:c % d < d:=Nat.mod_lt _ (by omega)
   obtain⟨s',e',d',k1,k2⟩:=ih (c % d) hlt d hd (by omega)
   have hg:Nat.gcd d (c % d)=Nat.gcd c d:=by rw [Nat.gcd_comm c d,Nat.gcd_rec d c,Nat.gcd_comm]
   rw [hg] at k2
   have hn:¬(d:Int)=0:=by omega
   refine⟨s',e',d',aa ?_,k2⟩
   rw [xG]
   simp only [STL,↓reduceIte,Int.reduceBEq,Int.reduceEq,GD,h0,hn,hm]
   exact k1
  ·have:d=0:=by omega
   subst this
   obtain⟨e',d',k1,k2,k3,k4,k5⟩:=s65 s y (c:Int) (by omega)
   refine⟨false,e',d',aa ?_,⟨k2,k3,fun h=>(by cases h),by simp [num,k4]⟩⟩
   rw [xG]
   simp only [STL,↓reduceIte,Int.reduceBEq,Int.reduceEq,GD,h0,k1]
theorem Be(s:Bool)(y:T):∀(b a:Nat) (x1 x2:T),WI (a:Int) x1->WI (b:Int) x2->Lim (a:Int)->Lim (b:Int)->dS ((Nat.gcd a b:Nat):Int) (Or nI [r0,AV.t x1,AV.t x2] [Blk.box [AV.t (T.bool s),AV.t y]]):=by
 intro b
 induction b using Nat.strongRecOn with
 | _ b ih=>
  intro a x1 x2 h1 h2 la lb
  obtain⟨s2,e2,p,rfl,hp⟩:=h1
  obtain⟨s3,e3,q,rfl,hq⟩:=h2
  have lp:=la.len hp
  have lq:=lb.len hq
  have h72:=s72 s3 e3 q [] (b:Int) hq
  by_cases h0:b=0
  ·subst h0
   refine⟨s2,false,p,aa ?_,by simpa using hp⟩
   rw [pI]
   have:((0:Nat):Int).sign=0:=rfl
   rw [this] at h72
   simp only [STL,↓reduceIte,Int.reduceBEq,Int.reduceEq,GD,h72,s69 s y s2 e2 p (by omega)]
  ·have hs:(b:Int).sign=1:=Int.sign_eq_one_of_pos (by omega)
   rw [hs] at h72
   have h10:¬(1:Int)=0:=by omega
   by_cases hl:(p.length:Int) < 3/\(q.length:Int) < 3
   ·have h53a:=s53 s2 e2 p hp.dg (by omega)
    have h53b:=s53 s3 e3 q hq.dg (by omega)
    have va:=fh hp
    have vb:=fh hq
    have ba:=bw hp.dg
    have bb:=bw hq.dg
    have h2:∀d:List Int,d.length<=2->(4294967296:Int) ^ d.length<=18446744073709551616:=fun d hd=>by
     have h2:(4294967296:Int) ^ d.length<=4294967296 ^ 2:=kD hd
     rw [show((4294967296:Int) ^ 2)=18446744073709551616 from by decide] at h2
     exact h2
    have ha2:=h2 p (by omega)
    have hb2:=h2 q (by omega)
    have va':val p= (a:Int):=by omega
    have vb':val q= (b:Int):=by omega
    rw [va'] at h53a
    rw [vb'] at h53b
    obtain⟨s',e',d',k1,k2⟩:=n54 s y b a (by omega) (by omega)
    refine⟨s',e',d',aa ?_,k2⟩
    rw [pI]
    simp only [bh,<-Bool.decide_and]
    simp only [STL,↓reduceIte,Int.reduceBEq,Int.reduceEq,GD,h72,h10,af,hl,and_self,h53a,h53b]
    exact k1
   ·obtain⟨sm,em,dm,m1,m2⟩:=g73 false (T.emp true) (wi (e:=e2) hp) (wi (e:=e3) hq) la lb (by omega)
    have hm:(a:Int) % (b:Int)= ((a % b:Nat):Int):=by simp
    rw [hm] at m2
    have hlt:a % b < b:=Nat.mod_lt _ (by omega)
    obtain⟨s',e',d',k1,k2⟩:=ih (a % b) hlt b _ _ (wi (e:=e3) hq) (wi (e:=em) m2) lb (lb.le (by omega))
    have hg:Nat.gcd b (a % b)=Nat.gcd a b:=by rw [Nat.gcd_comm a b,Nat.gcd_rec b a,Nat.gcd_comm]
    rw [hg] at k2
    refine⟨s',e',d',aa ?_,k2⟩
    rw [pI]
    simp only [bh,<-Bool.decide_and]
    simp only [STL,↓reduceIte,Int.reduceBEq,Int.reduceEq,GD,h72,h10,af,hl,m1]
    exact k1
theorem g54(s:Bool)(y:T){x1 x2:T}{u v:Int}(h1:WI u x1)(h2:WI v x2)(lu:Lim u)(lv:Lim v):
  dS ((Int.gcd u v:Nat):Int) (Or (.call 71) [r0,AV.t T.nilp,AV.t T.nilp,AV.t x1,AV.t x2] [Blk.box [AV.t (T.bool s),AV.t y]]):=by
 obtain⟨sa,ea,da,a1,a2⟩:=s71 false (T.emp true) h1 lu
 obtain⟨sb,eb,db,b1,b2⟩:=s71 false (T.emp true) h2 lv
 obtain⟨s',e',d',k1,k2⟩:=Be s y v.natAbs u.natAbs _ _ (wi (e:=ea) a2) (wi (e:=eb) b2) (lu.le (by omega)) (lv.le (by omega))
 obtain⟨s2,e2,a,rfl,ha⟩:=h1
 obtain⟨s3,e3,b,rfl,hb⟩:=h2
 refine⟨s',e',d',aa ?_,k2⟩
 rw [e54]
 simp only [STL,↓reduceIte,Int.reduceBEq,Int.reduceEq,GD,a1,b1]
 exact k1
def WR(q:Rat)(x:T):Prop:= ∃s e d s' e' d',x=T.ptr [tb s,T.lst 1 e (ac d),tb s',T.lst 1 e' (ac d')]/\Rep q.num s d/\Rep (q.den:Int) s' d'
def LQ(q:Rat):Prop:=Lim q.num/\Lim (q.den:Int)
def iq(q:Rat)(r:Option (List T)):Prop:= ∃s e d s' e' d',r=some [T.nilp,tb s,T.lst 1 e (ac d),tb s',T.lst 1 e' (ac d')]/\Rep q.num s d/\Rep (q.den:Int) s' d'
abbrev b4(s:Bool)(y:T)(t:Bool)(u:T):Blk:=Blk.box [AV.t (T.bool s),AV.t y,AV.t (T.bool t),AV.t u]
theorem qR{u v:Int}(hv:v≠0):(v < 0->(Rat.divInt u v).num= -(u.tdiv (Int.gcd u v:Nat))/\((Rat.divInt u v).den:Int)= -(v.tdiv (Int.gcd u v:Nat)))/\
  (¬v < 0->(Rat.divInt u v).num=u.tdiv (Int.gcd u v:Nat)/\((Rat.divInt u v).den:Int)=v.tdiv (Int.gcd u v:Nat)):=by
 have hn:=Rat.num_divInt u v
 have hd:=Rat.den_divInt u v
 rw [if_neg hv] at hd
 rw [Int.gcd_comm v u] at hn hd
 have g1:((Int.gcd u v:Nat):Int) ∣ u:=Int.gcd_dvd_left u v
 have g2:((Int.gcd u v:Nat):Int) ∣ v:=Int.gcd_dvd_right u v
 have e1:u.tdiv (Int.gcd u v:Nat)=u / (Int.gcd u v:Nat):=Int.tdiv_eq_ediv_of_dvd g1
 have e2:v.tdiv (Int.gcd u v:Nat)=v / (Int.gcd u v:Nat):=Int.tdiv_eq_ediv_of_dvd g2
 rw [e1,e2]
 constructor
 ·intro h
  have hs:v.sign= -1:=Int.sign_eq_neg_one_of_neg h
  rw [hs] at hn
  constructor
  ·rw [hn,show -1 * u= -u from by omega,Int.neg_ediv_of_dvd g1]
  ·rw [hd,Int.natCast_ediv,Int.ofNat_natAbs_of_nonpos (by omega),Int.neg_ediv_of_dvd g2]
 ·intro h
  have hs:v.sign=1:=Int.sign_eq_one_of_pos (by omega)
  rw [hs,Int.one_mul] at hn
  constructor
  ·exact hn
  ·rw [hd,Int.natCast_ediv,Int.natAbs_of_nonneg (by omega)]
theorem vL(u:Int)(n:Nat):(u.tdiv (n:Int)).natAbs<=u.natAbs:=by
 rw [Int.natAbs_tdiv]
 exact Nat.div_le_self _ _
theorem g61(s:Bool)(y:T)(t:Bool)(w:T)(ew:Bool)(xw:List (List T))(hw:w.lst? 1=some (ew,xw)){x1 x2:T}{u v:Int}(h1:WI u x1)(h2:WI v x2)(lu:Lim u)(lv:Lim v)(hv:v≠0):
  iq (Rat.divInt u v) (Or (.call 74) [r0,AV.t x1,AV.t x2] [b4 s y t w]):=by
 obtain⟨sg,eg,dg,k1,k2⟩:=g54 false (T.emp true) h1 h2 lu lv
 have hg0:((Int.gcd u v:Nat):Int)≠0:=by
  have:=Int.gcd_pos_of_ne_zero_right (a:=u) hv
  omega
 have lg:Lim ((Int.gcd u v:Nat):Int):=lv.le (by
  have:=Nat.le_of_dvd (by omega) (Int.gcd_dvd_natAbs_right u v)
  omega)
 obtain⟨sx,ex,dx,m1,m2⟩:=g77 false (T.emp true) h1 (wi (e:=eg) k2) lu lg hg0
 obtain⟨sy,ey,dy,n1,n2⟩:=g77 false (T.emp true) h2 (wi (e:=eg) k2) lv lg hg0
 have lx:Lim (u.tdiv (Int.gcd u v:Nat)):=lu.le (vL _ _)
 have ly:Lim (v.tdiv (Int.gcd u v:Nat)):=lv.le (vL _ _)
 have lx':=lx.len m2
 have ly':=ly.len n2
 obtain⟨p1,p2⟩:=qR (u:=u) hv
 have hsy:=f7 n2
 have hsgn:v.tdiv (Int.gcd u v:Nat) < 0↔v < 0:=by
  have g2:((Int.gcd u v:Nat):Int) ∣ v:=Int.gcd_dvd_right u v
  obtain⟨k,hk⟩:=g2
  have hpos: 0 < ((Int.gcd u v:Nat):Int):=by omega
  generalize ((Int.gcd u v:Nat):Int)=g at *
  subst hk
  rw [Int.mul_tdiv_cancel_left _ hg0]
  constructor
  ·intro h;exact Int.mul_neg_of_pos_of_neg hpos h
  ·intro h
   rcases Int.lt_or_le k 0 with h' | h'
   ·exact h'
   ·have:=Int.mul_nonneg (Int.le_of_lt hpos) h';omega
 obtain⟨s2,e2,a,rfl,ha⟩:=h1
 obtain⟨s3,e3,b,rfl,hb⟩:=h2
 by_cases hneg:v < 0
 ·obtain⟨q1,q2⟩:=p1 hneg
  have:sy=true:=by rw [hsy];simpa using hsgn.2 hneg
  subst this
  obtain⟨sx',ex',dx',j1,j2⟩:=sR sx ex dx _ (by omega) m2
  obtain⟨sy',ey',dy',i1,i2⟩:=sR true ey dy _ (by omega) n2
  have jl:=(lx.le (w:= -(u.tdiv (Int.gcd u v:Nat))) (by omega)).len j2
  have il:=(ly.le (w:= -(v.tdiv (Int.gcd u v:Nat))) (by omega)).len i2
  have a1:=sH s y t w sx' ex' dx' (by omega)
  have a2:=yo sx' (T.lst 1 false (ac dx')) t (T.lst 1 ew xw) sy' ey' dy' (by omega)
  refine⟨sx',false,dx',sy',false,dy',aa ?_,by rw [q1];exact j2,by rw [q2];exact i2⟩
  rw [e61]
  simp only [STL,↓reduceIte,Int.reduceBEq,Int.reduceEq,GD,k1,m1,n1,j1,i1,a1,hw,a2]
 ·obtain⟨q1,q2⟩:=p2 hneg
  have:sy=false:=by rw [hsy,decide_eq_false_iff_not];exact fun h=>hneg (hsgn.1 h)
  subst this
  have a1:=sH s y t w sx ex dx (by omega)
  have a2:=yo sx (T.lst 1 false (ac dx)) t (T.lst 1 ew xw) false ey dy (by omega)
  refine⟨sx,false,dx,false,false,dy,aa ?_,by rw [q1];exact m2,by rw [q2];exact n2⟩
  rw [e61]
  simp only [STL,↓reduceIte,Int.reduceBEq,Int.reduceEq,GD,k1,m1,n1,a1,hw,a2]
open Go Go.Aev Go.Aev.Gen
theorem wr{q:Rat}{s e s' e':Bool}{d d':List Int}(h1:Rep q.num s d)(h2:Rep (q.den:Int) s' d'):WR q (T.ptr [tb s,T.lst 1 e (ac d),tb s',T.lst 1 e' (ac d')]):=⟨s,e,d,s',e',d',rfl,h1,h2⟩
theorem lP(q:Rat):(-q).num= -q.num:=rfl
theorem kF(q:Rat):(-q).den=q.den:=rfl
theorem sgd(q:Rat):(q.den:Int).sign=1:=Int.sign_eq_one_of_pos (by have:=q.den_pos;omega)
theorem g74{q:Rat}{x:T}(h:WR q x)(lq:LQ q):∃y,Or (.call 92) [AV.t x] []=some [y]/\WI q.num y:=by
 obtain⟨s,e,d,s',e',d',rfl,h1,h2⟩:=h
 have l1:=lq.1.len h1
 refine⟨pt s false d,aa ?_,wi h1⟩
 rw [e74]
 simp only [STL,↓reduceIte,Int.reduceBEq,Int.reduceEq,GD,sI false (T.emp true) s e d [tb s',T.lst 1 e' (ac d')] (by omega)]
theorem g75{q:Rat}{x:T}(h:WR q x)(lq:LQ q):∃y,Or (.call 93) [AV.t x] []=some [y]/\WI (q.den:Int) y:=by
 obtain⟨s,e,d,s',e',d',rfl,h1,h2⟩:=h
 have l2:=lq.2.len h2
 have h72:=s72 s' e' d' [] _ h2
 rw [sgd] at h72
 refine⟨pt s' false d',aa ?_,wi h2⟩
 rw [e75]
 have h10:¬(1:Int)=0:=by omega
 simp only [STL,↓reduceIte,Int.reduceBEq,Int.reduceEq,GD,h72,h10,s69 false (T.emp true) s' e' d' (by omega)]
theorem g60{q:Rat}{x:T}(h:WR q x):Or (.call 37) [AV.t x] []=some [ti q.num.sign]:=by
 obtain⟨s,e,d,s',e',d',rfl,h1,h2⟩:=h
 refine aa ?_
 rw [e60]
 simp only [STL,↓reduceIte,Int.reduceBEq,Int.reduceEq,GD,s72 s e d _ _ h1]
theorem pw(p q:Rat):Rat.divInt (p.num * q.num) ((p.den:Int) * (q.den:Int))=p * q:=by
 conv=>rhs;rw [<-Rat.num_divInt_den p,<-Rat.num_divInt_den q]
 rw [Rat.divInt_mul_divInt]
theorem rf(p q:Rat):Rat.divInt (p.num * (q.den:Int)+q.num * (p.den:Int)) ((p.den:Int) * (q.den:Int))=p+q:=by
 conv=>rhs;rw [<-Rat.num_divInt_den p,<-Rat.num_divInt_den q]
 rw [Rat.divInt_add_divInt _ _ (by have:=p.den_pos;omega) (by have:=q.den_pos;omega)]
theorem Ee(q:Rat):Rat.divInt (-q.num) (q.den:Int)= -q:=by
 conv=>rhs;rw [<-Rat.num_divInt_den q]
 rw [Rat.neg_divInt]
theorem jI(p q:Rat):(p.den:Int) * (q.den:Int)≠0:=by
 have h1:=p.den_pos
 have h2:=q.den_pos
 exact Int.mul_ne_zero (by omega) (by omega)
abbrev z4:Blk:=b4 false (T.emp true) false (T.emp true)
theorem le0:(T.emp true).lst? 1=some (true,[]):=le1 _ _
theorem g56{p q:Rat}{x y:T}(hx:WR p x)(hy:WR q y)(lp:LQ p)(lq:LQ q)(l1:Lim (p.num * q.num))(l2:Lim ((p.den:Int) * (q.den:Int))):
  iq (p * q) (Or (.call 46) [r0,AV.t x,AV.t y] [z4]):=by
 obtain⟨a,a1,a2⟩:=g74 hx lp
 obtain⟨b,b1,b2⟩:=g74 hy lq
 obtain⟨c,c1,c2⟩:=g75 hx lp
 obtain⟨d,d1,d2⟩:=g75 hy lq
 obtain⟨sm,em,dm,m1,m2⟩:=g37 false (T.emp true) a2 b2 lp.1 lq.1
 obtain⟨sn,en,dn,n1,n2⟩:=g37 false (T.emp true) c2 d2 lp.2 lq.2
 obtain⟨s1,e1,D1,s2,e2,D2,k1,k2,k3⟩:=g61 false (T.emp true) false (T.emp true) true [] le0 (wi (e:=em) m2) (wi (e:=en) n2) l1 l2 (jI p q)
 rw [pw] at k2 k3
 obtain⟨_,_,_,_,_,_,rfl,_,_⟩:=hx
 obtain⟨_,_,_,_,_,_,rfl,_,_⟩:=hy
 refine⟨s1,e1,D1,s2,e2,D2,aa ?_,k2,k3⟩
 rw [e56]
 simp only [STL,↓reduceIte,Int.reduceBEq,Int.reduceEq,GD,a1,b1,c1,d1,m1,n1,k1]
theorem g58{p q:Rat}{x y:T}(hx:WR p x)(hy:WR q y)(lp:LQ p)(lq:LQ q)(l1:Lim (p.num * (q.den:Int)))(l2:Lim (q.num * (p.den:Int)))(l3:Lim (p.num * (q.den:Int)+q.num * (p.den:Int)))
  (l4:Lim ((p.den:Int) * (q.den:Int))):iq (p+q) (Or (.call 47) [r0,AV.t x,AV.t y] [z4]):=by
 obtain⟨a,a1,a2⟩:=g74 hx lp
 obtain⟨b,b1,b2⟩:=g75 hy lq
 obtain⟨c,c1,c2⟩:=g74 hy lq
 obtain⟨d,d1,d2⟩:=g75 hx lp
 obtain⟨sm,em,dm,m1,m2⟩:=g37 false (T.emp true) a2 b2 lp.1 lq.2
 obtain⟨sn,en,dn,n1,n2⟩:=g37 false (T.emp true) c2 d2 lq.1 lp.2
 obtain⟨so,eo,do',o1,o2⟩:=g37 false (T.emp true) d2 b2 lp.2 lq.2
 obtain⟨st,et,dt,t1,t2⟩:=BI (e2:=em) m2 (wi (e:=en) n2) l1 l2
 obtain⟨s1,e1,D1,s2,e2,D2,k1,k2,k3⟩:=g61 false (T.emp true) false (T.emp true) true [] le0 (wi (e:=et) t2) (wi (e:=eo) o2) l3 l4 (jI p q)
 rw [rf] at k2 k3
 obtain⟨_,_,_,_,_,_,rfl,_,_⟩:=hx
 obtain⟨_,_,_,_,_,_,rfl,_,_⟩:=hy
 refine⟨s1,e1,D1,s2,e2,D2,aa ?_,k2,k3⟩
 rw [e58]
 simp only [STL,↓reduceIte,Int.reduceBEq,Int.reduceEq,GD,a1,b1,c1,d1,m1,n1,o1,t1,k1]
theorem LQ.neg{q:Rat}(h:LQ q):LQ (-q):=⟨h.1.le (by rw [lP];omega),h.2⟩
theorem g76{q:Rat}{x:T}(hx:WR q x)(lq:LQ q):iq (-q) (Or (.call 95) [r0,AV.t x] [z4]):=by
 obtain⟨d,d1,d2⟩:=g75 hx lq
 obtain⟨s,e,D,s',e',D',rfl,h1,h2⟩:=hx
 have hl:=lq.1.len h1
 obtain⟨sm,em,dm,m1,m2⟩:=Eh false (T.emp true) s e D [tb s',T.lst 1 e' (ac D')] _ (by omega) h1
 obtain⟨s1,e1,D1,s2,e2,D2,k1,k2,k3⟩:=g61 false (T.emp true) false (T.emp true) true [] le0 (wi (e:=em) m2) d2 (lq.1.le (by omega)) lq.2 (by have:=q.den_pos;omega)
 rw [Ee] at k2 k3
 refine⟨s1,e1,D1,s2,e2,D2,aa ?_,k2,k3⟩
 rw [e76]
 simp only [STL,↓reduceIte,Int.reduceBEq,Int.reduceEq,GD,d1,m1,k1]
theorem g59{p q:Rat}{x y:T}(hx:WR p x)(hy:WR q y)(lp:LQ p)(lq:LQ q)(l1:Lim (p.num * (q.den:Int)))(l2:Lim (q.num * (p.den:Int)))(l3:Lim (p.num * (q.den:Int) - q.num * (p.den:Int)))
  (l4:Lim ((p.den:Int) * (q.den:Int))):iq (p - q) (Or (.call 48) [r0,AV.t x,AV.t y] [z4]):=by
 obtain⟨sa,ea,da,sb,eb,db,a1,a2,a3⟩:=g76 hy lq
 have e0:(-q).num * (p.den:Int)= -(q.num * (p.den:Int)):=by rw [lP,Int.neg_mul]
 obtain⟨s1,e1,D1,s2,e2,D2,k1,k2,k3⟩:=g58 hx (wr (e:=ea) (e':=eb) a2 a3) lp lq.neg (by rw [kF];exact l1) (by rw [e0];exact l2.le (by omega)) (by rw [e0,kF,<-Int.sub_eq_add_neg];exact l3) (by rw [kF];exact l4)
 rw [<-Rat.sub_eq_add_neg] at k2 k3
 obtain⟨_,_,_,_,_,_,rfl,_,_⟩:=hx
 obtain⟨_,_,_,_,_,_,rfl,_,_⟩:=hy
 refine⟨s1,e1,D1,s2,e2,D2,aa ?_,k2,k3⟩
 rw [e59]
 simp only [STL,↓reduceIte,Int.reduceBEq,Int.reduceEq,GD,a1,k1]
def eA(p q:Rat):Int:=(p - q).num.sign
theorem g42{p q:Rat}{x y:T}(hx:WR p x)(hy:WR q y)(lp:LQ p)(lq:LQ q)(l1:Lim (p.num * (q.den:Int)))(l2:Lim (q.num * (p.den:Int)))(l3:Lim (p.num * (q.den:Int) - q.num * (p.den:Int)))
  (l4:Lim ((p.den:Int) * (q.den:Int))):Or (.call 17) [AV.t x,AV.t y] []=some [ti (eA p q)]:=by
 obtain⟨s1,e1,D1,s2,e2,D2,k1,k2,k3⟩:=g59 hx hy lp lq l1 l2 l3 l4
 have:=g60 (wr (e:=e1) (e':=e2) k2 k3)
 obtain⟨_,_,_,_,_,_,rfl,_,_⟩:=hx
 obtain⟨_,_,_,_,_,_,rfl,_,_⟩:=hy
 refine aa ?_
 rw [e42]
 simp only [STL,↓reduceIte,Int.reduceBEq,Int.reduceEq,GD,k1,this]
 rfl
theorem g43(n m:Int)(ln:Sm n)(lm:Sm m)(hm:m≠0):∃x,Or (.call 36) [I n,I m] []=some [x]/\WR (Rat.divInt n m) x:=by
 obtain⟨a,a1,a2⟩:=s35 n (by unfold Sm at ln;omega)
 obtain⟨b,b1,b2⟩:=s35 m (by unfold Sm at lm;omega)
 obtain⟨s1,e1,D1,s2,e2,D2,k1,k2,k3⟩:=g61 false (T.emp true) false (T.emp true) true [] le0 a2 b2 ln.lim lm.lim hm
 refine⟨_,aa ?_,wr (e:=e1) (e':=e2) k2 k3⟩
 rw [e43]
 simp only [STL,↓reduceIte,Int.reduceBEq,Int.reduceEq,GD,a1,b1,k1]
theorem g57(n m:Int)(ln:Sm n)(lm:Sm m)(hm:m≠0):∃x,Or (.call 18) [AV.agg [I n,I m]] []=some [x]/\WR (Rat.divInt n m) x:=by
 obtain⟨x,k1,k2⟩:=g43 n m ln lm hm
 refine⟨x,aa ?_,k2⟩
 rw [e57]
 simp only [STL,↓reduceIte,Int.reduceBEq,Int.reduceEq,GD,k1]
theorem g40(n m:Int):∃b,Or (.call 34) [AV.agg [I n,I m]] []=some [tb b]/\(b=true↔(1<=m/\m<=1073741824/\ -1073741824<=n/\n<=1073741824/\Int.gcd n m=1)):=by
 by_cases hb:((m < 1\/m > 1073741824)\/n < -1073741824)\/n > 1073741824
 ·refine⟨false,aa ?_,by simp;omega⟩
  rw [e40]
  simp only [cor,<-Bool.decide_or]
  simp only [STL,↓reduceIte,Int.reduceBEq,Int.reduceEq,GD,hb]
 ·obtain⟨a,a1,a2⟩:=s35 n (by omega)
  obtain⟨b,b1,b2⟩:=s35 m (by omega)
  obtain⟨c,c1,c2⟩:=s35 1 (by omega)
  obtain⟨sg,eg,dg,k1,k2⟩:=g54 false (T.emp true) a2 b2 (Sm.lim (by unfold Sm;omega)) (Sm.lim (by unfold Sm;omega))
  have hle:Int.gcd n m<=m.natAbs:=Nat.le_of_dvd (by omega) (Int.gcd_dvd_natAbs_right n m)
  have h55:=s55 (wi (e:=eg) k2) c2 (Sm.lim (by unfold Sm;omega)) (Sm.lim (by unfold Sm;omega))
  refine⟨(ao ((Int.gcd n m:Nat):Int) 1==0),aa ?_, ?_⟩
  ·rw [e40]
   simp only [cor,<-Bool.decide_or]
   simp only [STL,↓reduceIte,Int.reduceBEq,Int.reduceEq,GD,hb,a1,b1,c1,k1,h55]
  ·have:ao ((Int.gcd n m:Nat):Int) 1=0↔Int.gcd n m=1:=by
    unfold ao
    split
    ·constructor <;> intro h <;> omega
    ·split <;> constructor <;> intro h <;> omega
   simp only [beq_iff_eq,this]
   omega
open Go Go.Aev Go.Aev.Gen
theorem rE{u v:Int}(hv:v≠0):(Rat.divInt u v).num.natAbs<=u.natAbs/\(Rat.divInt u v).den<=v.natAbs:=by
 obtain⟨h1,h2⟩:=qR (u:=u) hv
 have t1:(u.tdiv (Int.gcd u v:Nat)).natAbs<=u.natAbs:=by rw [Int.natAbs_tdiv];exact Nat.div_le_self _ _
 have t2:(v.tdiv (Int.gcd u v:Nat)).natAbs<=v.natAbs:=by rw [Int.natAbs_tdiv];exact Nat.div_le_self _ _
 by_cases h:v < 0
 ·obtain⟨a,b⟩:=h1 h;constructor <;> omega
 ·obtain⟨a,b⟩:=h2 h;constructor <;> omega
def QB(m:Nat)(q:Rat):Prop:=q.num.natAbs<=2 ^ m/\q.den<=2 ^ m
theorem pwk(k:Nat):(4294967296:Int) ^ k= ((2 ^ (32 * k):Nat):Int):=by
 rw [Nat.pow_mul,Int.natCast_pow];rfl
theorem yT{m k:Nat}{z:Int}(hm:m < 32 * k)(h:z.natAbs<=2 ^ m):(z.natAbs:Int) < 4294967296 ^ k:=by
 rw [pwk k]
 exact Int.ofNat_lt.2 (Nat.lt_of_le_of_lt h (Nat.pow_lt_pow_right (by omega) hm))
theorem cZ{m:Nat}{z:Int}(hm:m<=6300)(h:z.natAbs<=2 ^ m):Lim z:=yT (by omega) h
theorem QB.lq{m:Nat}{q:Rat}(h:QB m q)(hm:m<=6300):LQ q:=⟨cZ hm h.1,cZ hm (by simpa using h.2)⟩
theorem QB.mono{m k:Nat}{q:Rat}(h:QB m q)(hm:m<=k):QB k q:=
 ⟨Nat.le_trans h.1 (Nat.pow_le_pow_right (by omega) hm),Nat.le_trans h.2 (Nat.pow_le_pow_right (by omega) hm)⟩
theorem bF{a b m k:Nat}(ha:a<=2 ^ m)(hb:b<=2 ^ k):a * b<=2 ^ (m+k):=by rw [Nat.pow_add];exact Nat.mul_le_mul ha hb
theorem QB.mul{m k:Nat}{p q:Rat}(hp:QB m p)(hq:QB k q):QB (m+k) (p * q):=by
 rw [<-pw]
 obtain⟨h1,h2⟩:=rE (u:=p.num * q.num) (jI p q)
 refine⟨Nat.le_trans h1 ?_,Nat.le_trans h2 ?_⟩
 ·rw [Int.natAbs_mul];exact bF hp.1 hq.1
 ·rw [Int.natAbs_mul,Int.natAbs_natCast,Int.natAbs_natCast];exact bF hp.2 hq.2
theorem nD{m k:Nat}{p q:Rat}(hp:QB m p)(hq:QB k q):(p.num * (q.den:Int)+q.num * (p.den:Int)).natAbs<=2 ^ (m+k+1):=by
 have h1:(p.num * (q.den:Int)).natAbs<=2 ^ (m+k):=by rw [Int.natAbs_mul,Int.natAbs_natCast];exact bF hp.1 hq.2
 have h2:(q.num * (p.den:Int)).natAbs<=2 ^ (m+k):=by rw [Int.natAbs_mul,Int.natAbs_natCast,Nat.add_comm m k];exact bF hq.1 hp.2
 have h3:=Int.natAbs_add_le (p.num * (q.den:Int)) (q.num * (p.den:Int))
 rw [Nat.pow_succ]
 omega
theorem QB.add{m k:Nat}{p q:Rat}(hp:QB m p)(hq:QB k q):QB (m+k+1) (p+q):=by
 rw [<-rf]
 obtain⟨h1,h2⟩:=rE (u:=p.num * (q.den:Int)+q.num * (p.den:Int)) (jI p q)
 refine⟨Nat.le_trans h1 (nD hp hq),Nat.le_trans h2 ?_⟩
 rw [Int.natAbs_mul,Int.natAbs_natCast,Int.natAbs_natCast]
 exact Nat.le_trans (bF hp.2 hq.2) (Nat.pow_le_pow_right (by omega) (by omega))
theorem QB.neg{m:Nat}{q:Rat}(h:QB m q):QB m (-q):=⟨by rw [lP,Int.natAbs_neg];exact h.1,h.2⟩
theorem QB.sub{m k:Nat}{p q:Rat}(hp:QB m p)(hq:QB k q):QB (m+k+1) (p - q):=by rw [Rat.sub_eq_add_neg];exact hp.add hq.neg
theorem QB.divInt{m:Nat}{u v:Int}(hv:v≠0)(h1:u.natAbs<=2 ^ m)(h2:v.natAbs<=2 ^ m):QB m (Rat.divInt u v):=by
 obtain⟨a,b⟩:=rE (u:=u) hv
 exact⟨Nat.le_trans a h1,Nat.le_trans b h2⟩
theorem pO{m k:Nat}{p q:Rat}{x y:T}(hx:WR p x)(hy:WR q y)(hp:QB m p)(hq:QB k q)(h:m+k<=6300):iq (p * q) (Or (.call 46) [r0,AV.t x,AV.t y] [z4])/\QB (m+k) (p * q):=by
 refine⟨g56 hx hy (hp.lq (by omega)) (hq.lq (by omega)) (cZ h ?_) (cZ h ?_),hp.mul hq⟩
 ·rw [Int.natAbs_mul];exact bF hp.1 hq.1
 ·rw [Int.natAbs_mul,Int.natAbs_natCast,Int.natAbs_natCast];exact bF hp.2 hq.2
theorem rS{m k:Nat}{p q:Rat}{x y:T}(hx:WR p x)(hy:WR q y)(hp:QB m p)(hq:QB k q)(h:m+k+1<=6300):iq (p+q) (Or (.call 47) [r0,AV.t x,AV.t y] [z4])/\QB (m+k+1) (p+q):=by
 refine⟨g58 hx hy (hp.lq (by omega)) (hq.lq (by omega)) (cZ (m:=m+k) (by omega) ?_) (cZ (m:=k+m) (by omega) ?_) (cZ h (nD hp hq)) (cZ (m:=m+k) (by omega) ?_),hp.add hq⟩
 ·rw [Int.natAbs_mul,Int.natAbs_natCast];exact bF hp.1 hq.2
 ·rw [Int.natAbs_mul,Int.natAbs_natCast];exact bF hq.1 hp.2
 ·rw [Int.natAbs_mul,Int.natAbs_natCast,Int.natAbs_natCast];exact bF hp.2 hq.2
theorem xv{m k:Nat}{p q:Rat}(hp:QB m p)(hq:QB k q):(p.num * (q.den:Int) - q.num * (p.den:Int)).natAbs<=2 ^ (m+k+1):=by
 have:=nD hp hq.neg
 rw [lP,kF,Int.neg_mul,<-Int.sub_eq_add_neg] at this
 exact this
theorem kB{m k:Nat}{p q:Rat}{x y:T}(hx:WR p x)(hy:WR q y)(hp:QB m p)(hq:QB k q)(h:m+k+1<=6300):Or (.call 17) [AV.t x,AV.t y] []=some [ti (eA p q)]:=by
 refine g42 hx hy (hp.lq (by omega)) (hq.lq (by omega)) (cZ (m:=m+k) (by omega) ?_) (cZ (m:=k+m) (by omega) ?_) (cZ h (xv hp hq)) (cZ (m:=m+k) (by omega) ?_)
 ·rw [Int.natAbs_mul,Int.natAbs_natCast];exact bF hp.1 hq.2
 ·rw [Int.natAbs_mul,Int.natAbs_natCast];exact bF hq.1 hp.2
 ·rw [Int.natAbs_mul,Int.natAbs_natCast,Int.natAbs_natCast];exact bF hp.2 hq.2
theorem CX(p q:Rat):eA p q < 0↔p < q:=by
 unfold eA
 have hs:(p - q).num.sign < 0↔(p - q).num < 0:=by
  rcases Int.lt_trichotomy (p - q).num 0 with h | h | h
  ·rw [Int.sign_eq_neg_one_of_neg h];omega
  ·rw [h];simp
  ·rw [Int.sign_eq_one_of_pos h];omega
 rw [hs]
 have hn:(p - q).num < 0↔¬0<=(p - q).num:=by omega
 rw [hn,Rat.num_nonneg,<-Rat.le_iff_sub_nonneg,Rat.not_le]
theorem gu(p q:Rat):eA p q=0↔p=q:=by
 unfold eA
 rw [Int.sign_eq_zero_iff_zero,Rat.num_eq_zero]
 constructor
 ·intro h;grind
 ·intro h;grind
abbrev Fr:=Int×Int
def ch(l:List Fr):List (List T):=l.map fun x=> [ti x.1,ti x.2]
abbrev LN(e:Bool)(l:List Fr):AV:=AV.t (T.lst 2 e (ch l))
theorem aG(l:List Fr):(ch l).length=l.length:=by simp [ch]
theorem bE{l:List Fr}{i:Nat}{r:Fr}(h:l[i]? =some r):(ch l)[((i:Nat):Int).toNat]? =some [ti r.1,ti r.2]:=by simp [ch,h]
def FrR(x:Fr):Prop:=1<=x.2/\x.2<=1073741824/\ -1073741824<=x.1/\x.1<=1073741824/\Int.gcd x.1 x.2=1
instance (x:Fr):Decidable (FrR x):=by unfold FrR;infer_instance
def frQ(x:Fr):Rat:=Rat.divInt x.1 x.2
theorem jr{x:Fr}(h1: 1<=x.2/\x.2<=1073741824)(h2: -1073741824<=x.1/\x.1<=1073741824):QB 30 (frQ x):=QB.divInt (by omega) (by omega) (by omega)
def bA:List Int->List Fr->Rat->Rat
 | [],_,acc=>acc
 | c::of,x::xs,acc=>bA of xs (acc+frQ x * Rat.divInt c 1)
 | _::_,[],acc=>acc
def FrB(x:Fr):Prop:=(1<=x.2/\x.2<=1073741824)/\ -1073741824<=x.1/\x.1<=1073741824
theorem FrR.b{x:Fr}(h:FrR x):FrB x:=⟨⟨h.1,h.2.1⟩,h.2.2.1,h.2.2.2.1⟩
theorem n41(e en:Bool)(of:List Int)(nums:List Fr)(hb:∀c∈of, -1000000<=c/\c<=1000000)(hx:∀x∈nums,FrB x)(hl:of.length<=nums.length)(hn:of.length<=100):∀(rest:List Int) (i m:Nat) (acc:Rat) (v:T),of.drop i=rest->WR acc v->QB m acc->m+51 * rest.length<=6200->
  ∃y,Or nk [lst e of,LN en nums,AV.t v,I (i:Int)] []=some [y]/\WR (bA rest (nums.drop i) acc) y/\QB (m+51 * rest.length) (bA rest (nums.drop i) acc):=by
 intro rest
 induction rest with
 | nil=>
  intro i m acc v h hv hq hm
  have h1:¬(i:Int) < (of.length:Int):=by have:=ax h;omega
  refine⟨v,aa ?_,by simpa [bA] using hv,by simpa [bA] using hq⟩
  rw [uU]
  simp only [STL,↓reduceIte,Int.reduceBEq,Int.reduceEq,GD,h1,aE]
 | cons c rest ih=>
  intro i m acc v h hv hq hm
  obtain⟨g1,g2,g3⟩:=ar h
  have h1:(i:Int) < (of.length:Int):=by omega
  have h2:(i:Int) < (nums.length:Int):=by omega
  have h0: 0<=(i:Int):=by omega
  obtain⟨x,hxi⟩:∃x,nums[i]? =some x:=⟨_,List.getElem?_eq_getElem (by omega)⟩
  have hxb:=hx x (List.mem_of_getElem? hxi)
  have hcb:=hb c (List.mem_of_getElem? g1)
  unfold FrB at hxb
  have hd:nums.drop i=x::nums.drop (i+1):=by
   rw [List.drop_eq_getElem_cons (by omega)]
   congr 1
   rw [List.getElem?_eq_getElem (by omega)] at hxi
   simpa using hxi
  obtain⟨a,a1,a2⟩:=g57 x.1 x.2 (by unfold Sm;omega) (by unfold Sm;omega) (by omega)
  obtain⟨b,b1,b2⟩:=g43 c 1 (by unfold Sm;omega) (by unfold Sm;omega) (by omega)
  obtain⟨⟨s1,e1,D1,s2,e2,D2,k1,k2,k3⟩,kq⟩:=pO (m:=30) (k:=20) (p:=frQ x) (q:=Rat.divInt c 1) a2 b2 (jr hxb.1 hxb.2) (QB.divInt (by omega) (by omega) (by omega)) (by omega)
  simp only [List.length_cons] at hm
  obtain⟨⟨t1,f1,E1,t2,f2,E2,j1,j2,j3⟩,jq⟩:=rS (m:=m) (k:=50) hv (wr (e:=e1) (e':=e2) k2 k3) hq kq (by omega)
  obtain⟨y,y1,y2,y3⟩:=ih (i+1) (m+50+1) _ _ g3 (wr (e:=f1) (e':=f2) j2 j3) jq (by omega)
  refine⟨y,aa ?_,by rw [hd,bA];exact y2,by rw [hd,bA,List.length_cons];exact y3.mono (by omega)⟩
  rw [uU]
  simp only [STL,↓reduceIte,Int.reduceBEq,Int.reduceEq,GD,h1,h2,h0,and_self,aE,aG,b9 g1,bE hxi,a1,b1,k1,j1,next i (by omega)]
  exact y1
theorem s41(e en:Bool)(of:List Int)(nums:List Fr)(hb:∀c∈of, -1000000<=c/\c<=1000000)(hx:∀x∈nums,FrB x)(hl:of.length<=nums.length)(hn:of.length<=100):
  ∃y,Or (.call 16) [lst e of,LN en nums] []=some [y]/\WR (bA of nums 0) y/\QB (51 * of.length) (bA of nums 0):=by
 obtain⟨a,a1,a2⟩:=g43 0 1 (by unfold Sm;omega) (by unfold Sm;omega) (by omega)
 have h0:Rat.divInt 0 1=0:=by simp
 rw [h0] at a2
 obtain⟨y,y1,y2,y3⟩:=n41 e en of nums hb hx hl hn of 0 0 0 a rfl a2 ⟨by simp,by simp⟩ (by omega)
 refine⟨y,aa ?_,by simpa using y2,by simpa using y3⟩
 rw [e41]
 simp only [STL,↓reduceIte,Int.reduceBEq,Int.reduceEq,GD,a1]
 exact y1
end Go.Aev.Wd
