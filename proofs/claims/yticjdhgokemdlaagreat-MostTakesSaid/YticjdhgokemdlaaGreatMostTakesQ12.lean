import Derived.Test.YticjdhgokemdlaaGreatMostTakesQ11
set_option linter.unusedSimpArgs false
set_option linter.unusedVariables false
namespace Go.Aev.Wd.Lg
open Go Go.Aev Go.Aev.Gen Go.Aev.Wd
theorem ye(ex:Bool)(x:List Int)(b:Int)(hx:Dg x)(hl:x.length<=900)(hb: 0 < b/\b < 4294967296):∀(k:Nat) (r:Int) (qs:List Int),k<=x.length->0<=r/\r < b->
  ∃Q R,Or mX [lu ex x,AV.t (T.int .u32 b),o0,u6 r,I ((k:Int) - 1)] [Blk.sl false 1 false (ac (List.replicate k 0++qs))]=some [T.lst 1 false (ac (Q++qs)),T.int .u32 R]/\Q.length=k/\Dg Q/\0<=R/\R < b/\val Q * b+R=val (x.take k)+4294967296 ^ k * r
 | 0,r,qs,hk,hr=>by
  refine⟨[],r,aa ?_,rfl,(by intro a ha;cases ha),hr.1,hr.2,by simp [val]⟩
  rw [ux]
  have c0:¬(((0:Nat):Int) - 1)>=0:=by omega
  have wr0:IntKind.u32.wrap r=r:=by rw [aH];omega
  simp only [STL,↓reduceIte,Int.reduceBEq,Int.reduceEq,GD,c0,wr0]
  rfl
 | k+1,r,qs,hk,hr=>by
  have hkx:k < x.length:=by omega
  have ha: 0<=dat x k/\dat x k < 4294967296:=by
   have:dat x k∈x:=by
    simp only [dat,List.getD_eq_getElem?_getD,List.getElem?_eq_getElem hkx,Option.getD_some]
    exact List.getElem_mem hkx
   exact hx _ this
  have hT0: 0<=r * 4294967296+dat x k:=by omega
  have hq0: 0<=(r * 4294967296+dat x k) / b:=Int.ediv_nonneg hT0 (by omega)
  have hqB:(r * 4294967296+dat x k) / b < 4294967296:=by
   rw [Int.ediv_lt_iff_lt_mul hb.1]
   have:(r+1) * 4294967296<=b * 4294967296:=Int.mul_le_mul_of_nonneg_right (by omega) (by decide)
   rw [Int.mul_comm 4294967296 b];omega
  have hr0:=Int.emod_nonneg (r * 4294967296+dat x k) (show b≠0 by omega)
  have hr1:=Int.emod_lt_of_pos (r * 4294967296+dat x k) hb.1
  have hdm:=Int.mul_ediv_add_emod (r * 4294967296+dat x k) b
  obtain⟨Q,R,h1,h2,h3,h4,h5,h6⟩:=ye ex x b hx hl hb k ((r * 4294967296+dat x k) % b) ((r * 4294967296+dat x k) / b::qs) (by omega) ⟨hr0,hr1⟩
  refine⟨Q++ [(r * 4294967296+dat x k) / b],R,aa ?_,by simp [h2],Dg.append h3 (by intro a ha;simp at ha;subst ha;exact⟨hq0,hqB⟩),h4,h5, ?_⟩
  ·rw [ux]
   have c0:((k+1:Nat):Int) - 1= (k:Int):=by omega
   have c1:(k:Int)>=0:=by omega
   have c2: 0<=(k:Int)/\(k:Int) < (x.length:Int):=by omega
   have hrep:List.replicate (k+1) (0:Int)++qs=List.replicate k 0++0::qs:=by
    rw [List.replicate_succ',List.append_assoc];rfl
   have c3: 0<=(k:Int)/\(k:Int) < ((List.replicate k (0:Int)++0::qs).length:Int):=by simp;omega
   have hor:=fG (v:=r) (n:=dat x k) (by omega) ha
   have y1:IntKind.u64.wrap b=b:=w64 (by omega)
   have y2:(r * 4294967296+dat x k).tdiv b= (r * 4294967296+dat x k) / b:=Int.tdiv_eq_ediv_of_nonneg hT0
   have y3:(r * 4294967296+dat x k).tmod b= (r * 4294967296+dat x k) % b:=Int.tmod_eq_emod_of_nonneg hT0
   have y4:IntKind.u32.wrap (IntKind.u64.wrap ((r * 4294967296+dat x k) / b))= (r * 4294967296+dat x k) / b:=by rw [w64 (by omega),aH];omega
   have nz:¬b=0:=by omega
   have wk:IntKind.i64.wrap ((k:Int) - 1)= (k:Int) - 1:=aF (by omega)
   rw [c0,hrep]
   simp only [STL,↓reduceIte,Int.reduceBEq,Int.reduceEq,GD,c1,c2,af,aq hkx,hor,y1,y2,y3,y4,nz,c3,and_self,bv (List.replicate k 0) 0 _ qs k (by simp),wk]
   rw [show Q++ [(r * 4294967296+dat x k) / b] ++qs=Q++ (r * 4294967296+dat x k) / b::qs from by simp]
   exact h1
  ·rw [bt,h2,fJ hkx,Int.pow_succ,Int.add_mul]
   simp only [val,Int.mul_zero,Int.add_zero]
   have e1: 4294967296 ^ k * ((r * 4294967296+dat x k) / b) * b=4294967296 ^ k * (b * ((r * 4294967296+dat x k) / b)):=by
    rw [Int.mul_assoc,Int.mul_comm _ b]
   have e2:(4294967296:Int) ^ k * (r * 4294967296+dat x k)=4294967296 ^ k * (b * ((r * 4294967296+dat x k) / b))+4294967296 ^ k * ((r * 4294967296+dat x k) % b):=by
    rw [<-Int.mul_add,hdm]
   have e3:(4294967296:Int) ^ k * (r * 4294967296+dat x k)=4294967296 ^ k * 4294967296 * r+4294967296 ^ k * dat x k:=by
    rw [Int.mul_add,Int.mul_assoc,Int.mul_comm r]
   rw [e1]
   omega
theorem zx(ex:Bool)(x:List Int)(b:Int)(hx:Dg x)(hl:x.length<=900)(hb: 0 < b/\b < 4294967296):
  ∃Q R,Or (.call 141) [lu ex x,AV.t (T.int .u32 b)] []=some [T.lst 1 false (ac Q),T.int .u32 R]/\Q.length=x.length/\Dg Q/\0<=R/\R < 4294967296/\val Q=val x / b/\R=val x % b:=by
 obtain⟨Q,R,k1,k2,k3,k4,k5,k6⟩:=ye ex x b hx hl hb x.length 0 [] (Nat.le_refl _) ⟨by omega,hb.1⟩
 rw [List.take_length,Int.mul_zero,Int.add_zero] at k6
 rw [List.append_nil,List.append_nil] at k1
 have hu:=Int.ediv_emod_unique hb.1 (a:=val x) (q:=val Q) (r:=R)
 obtain⟨q1,q2⟩:=hu.2 ⟨by rw [Int.mul_comm];omega,k4,k5⟩
 refine⟨Q,R,aa ?_,k2,k3,k4,by omega,q1.symm,q2.symm⟩
 have hmk:ap (x.length:Int) (x.length:Int)=some ():=by unfold ap lim;rw [if_pos (by omega)]
 have w1:IntKind.i64.wrap ((x.length:Int) - 1)= (x.length:Int) - 1:=aF (by omega)
 have hzr:List.replicate ((x.length:Int)).toNat [T.int IntKind.u32 (0:Int)]=ac (List.replicate x.length 0):=by simp [ac]
 rw [CD]
 simp only [STL,↓reduceIte,Int.reduceBEq,Int.reduceEq,GD,af,hmk,w1,hzr]
 exact k1
theorem zE{y z:Int}{n t:Nat}(hn:n<=32)(hy: 0<=y/\y < (2:Int) ^ n)(hz:z= ((2 ^ n * t:Nat):Int))(hb:z < 4294967296)(hyz:z+y < 4294967296):
  IntKind.u32.wrap (((BitVec.ofInt 32 z ||| BitVec.ofInt 32 y).toNat:Nat):Int)=z+y:=by
 rw [BitVec.or_comm];exact hH hn hy hz hb hyz
theorem CR(n:Nat)(hn:n < 32)(e:Bool)(x:List Int)(hx:Dg x)(hl:x.length<=900):∀(xr:List Int) (i:Nat) (c:Int) (done:List Int),x.drop i=xr->done.length=i->i<=x.length->0<=c/\c < (2:Int) ^ n->
  Or nC [I (n:Int),o0,AV.t (T.int .u32 c),lu e x,I (x.length:Int),I (i:Int)] [Blk.sl false 1 false (ac done)]=some [T.lst 1 false (ac (done++bm (2 ^ n) xr c))]:=by
 have hp:=bS n
 have hk:=fT (n:=n) (by omega)
 have hkp:=bS (32 - n)
 have t2:(n:Int).tmod 32= (n:Int):=by rw [Int.tmod_eq_emod_of_nonneg (by omega)];omega
 have t3:min ((n:Int)).toNat 32=n:=by rw [Int.toNat_natCast];omega
 have t4:¬(n:Int) < 0:=by omega
 have t5:IntKind.i64.wrap (32 - (n:Int))= ((32 - n:Nat):Int):=by rw [aF (by omega)];omega
 have t6:min (((32 - n:Nat):Int)).toNat 64=32 - n:=by rw [Int.toNat_natCast];omega
 have t7:¬((32 - n:Nat):Int) < 0:=by omega
 intro xr
 induction xr with
 | nil=>
  intro i c done h hd hi hc
  have h1:¬(i:Int) < (x.length:Int):=by have:=ax h;omega
  refine aa ?_
  rw [xg]
  simp only [STL,↓reduceIte,Int.reduceBEq,Int.reduceEq,GD,h1,af,fO,fm,sm4 (done.length+1) (by omega),bm]
 | cons a xr ih=>
  intro i c done h hd hi hc
  obtain⟨g1,g2,g3⟩:=ar h
  have ha:=hx a (List.mem_of_getElem? g1)
  have hda:=bG h
  have h1:(i:Int) < (x.length:Int):=by omega
  have h0: 0<=(i:Int):=by omega
  have hm0: 0<=a * (2:Int) ^ n:=Int.mul_nonneg ha.1 (by omega)
  have hm1:a * (2:Int) ^ n < 4294967296 * (2:Int) ^ n:=Int.mul_lt_mul_of_pos_right ha.2 hp
  have hd3: 0<=a * (2:Int) ^ n / 4294967296:=Int.ediv_nonneg hm0 (by decide)
  have hd2:a * (2:Int) ^ n / 4294967296 < (2:Int) ^ n:=by
   rw [Int.ediv_lt_iff_lt_mul (by decide),Int.mul_comm (2 ^ n)];exact hm1
  have hdv:a.fdiv ((2:Int) ^ (32 - n))=a * (2:Int) ^ n / 4294967296:=by
   rw [Int.fdiv_eq_ediv_of_nonneg _ (by omega)]
   conv=>rhs;rw [hk]
   rw [Int.mul_ediv_mul_of_pos_left _ _ hp]
  have hsp:=kO hp hk (x:= [a]) (c:=c) (by intro u hu;simp at hu;subst hu;exact ha) hc
  have hdg:=hsp.2.2 (a * 2 ^ n % 4294967296+c) (by simp [bm])
  have hmd:=lZ (a:=a) hp hk
  have hor:IntKind.u32.wrap (((BitVec.ofInt 32 (a * (2:Int) ^ n % 4294967296) ||| BitVec.ofInt 32 c).toNat:Nat):Int)=a * (2:Int) ^ n % 4294967296+c:=by
   have hk0:=Int.emod_nonneg a (show(2:Int) ^ (32 - n)≠0 by omega)
   obtain⟨t,ht⟩:=Int.eq_ofNat_of_zero_le hk0
   exact zE (n:=n) (t:=t) (by omega) hc (by rw [hmd,ht,pw2,Int.mul_comm,<-Int.natCast_mul]) (by omega) (by omega)
  have w1:IntKind.u64.wrap a=a:=w64 (by omega)
  have hp31:(2:Int) ^ n<=2147483648:=by
   have:(2:Nat) ^ n<=2 ^ 31:=Nat.pow_le_pow_right (by decide) (by omega)
   rw [pw2];omega
  have w5:IntKind.u32.wrap (a * (2:Int) ^ n / 4294967296)=a * (2:Int) ^ n / 4294967296:=by rw [aH];omega
  have:=ih (i+1) (a * (2:Int) ^ n / 4294967296) (done++ [a * (2:Int) ^ n % 4294967296+c]) g3 (by simp [hd]) (by omega) ⟨hd3,hd2⟩
  refine aa ?_
  rw [xg]
  simp only [t2,t3,t5,t6]
  simp only [STL,↓reduceIte,Int.reduceBEq,Int.reduceEq,GD,h1,h0,and_self,af,aq g2,hda,t4,t7,w1,aH (a * (2:Int) ^ n),hor,hdv,w5,fO,fm,sm4 (done.length+1) (by omega),nx i (by omega)]
  rw [bm,show done++ (a * 2 ^ n % 4294967296+c)::bm (2 ^ n) xr (a * 2 ^ n / 4294967296)= (done++ [a * 2 ^ n % 4294967296+c])++bm (2 ^ n) xr (a * 2 ^ n / 4294967296) from by simp]
  exact this
theorem vS(n:Nat)(hn:n < 32)(e:Bool)(x:List Int)(hx:Dg x)(hl:x.length<=900):Or (.call 143) [lu e x,I (n:Int)] []=some [T.lst 1 false (ac (bm (2 ^ n) x 0))]:=by
 have h1:=CR n hn e x hx hl x 0 0 [] rfl rfl (by omega) ⟨Int.le_refl _,bS n⟩
 have t1:(n:Int).tdiv 32=0:=by rw [Int.tdiv_eq_ediv_of_nonneg (by omega)];omega
 have w3:IntKind.i64.wrap 0=0:=aF (by omega)
 have w4:IntKind.i64.wrap ((x.length:Int)+0)= (x.length:Int):=by rw [aF (by omega)];omega
 have hmk:ap 0 ((x.length+1:Nat):Int)=some ():=by unfold ap lim;rw [if_pos (by omega)]
 refine aa ?_
 rw [D9]
 simp only [t1,w3,af,w4,nx x.length (by omega)]
 simp only [STL,↓reduceIte,Int.reduceBEq,Int.reduceEq,GD,hmk]
 exact h1
theorem De(n:Nat)(hn:n < 32)(e e':Bool)(v6:Bool)(x:List Int)(hx:Dg x)(hl:x.length<=900):∀(xr:List Int) (i:Nat) (done:List Int),x.drop i=xr->done.length=i->i<=x.length->
  Or jD [lu e x,I (n:Int),B v6,o0,lu e' x,I (x.length:Int),I (i:Int)] [Blk.sl false 1 false (ac (done++List.replicate xr.length 0))]=some [T.lst 1 false (ac (done++aL (2 ^ n) (2 ^ (32 - n)) xr)),tb v6]:=by
 have hp:=bS n
 have hk:=fT (n:=n) (by omega)
 have hkp:=bS (32 - n)
 have t3:min ((n:Int)).toNat 32=n:=by rw [Int.toNat_natCast];omega
 have t4:¬(n:Int) < 0:=by omega
 have t5:IntKind.i64.wrap (32 - (n:Int))= ((32 - n:Nat):Int):=by rw [aF (by omega)];omega
 have t6:min (((32 - n:Nat):Int)).toNat 32=32 - n:=by rw [Int.toNat_natCast];omega
 have t7:¬((32 - n:Nat):Int) < 0:=by omega
 intro xr
 induction xr with
 | nil=>
  intro i done h hd hi
  have h1:¬(i:Int) < (x.length:Int):=by have:=ax h;omega
  refine aa ?_
  rw [oM]
  simp only [STL,↓reduceIte,Int.reduceBEq,Int.reduceEq,GD,h1,aL,List.length_nil,List.replicate_zero]
 | cons a xr ih=>
  intro i done h hd hi
  obtain⟨g1,g2,g3⟩:=ar h
  have ha:=hx a (List.mem_of_getElem? g1)
  have hda:=bG h
  have h1:(i:Int) < (x.length:Int):=by omega
  have h0: 0<=(i:Int):=by omega
  have hrep:done++List.replicate (a::xr).length 0=done++0::List.replicate xr.length 0:=by simp [List.replicate_succ]
  have hlen: 0<=(i:Int)/\(i:Int) < ((done++0::List.replicate xr.length 0).length:Int):=by simp;omega
  have hfd:a.fdiv ((2:Int) ^ n)=a / 2 ^ n:=Int.fdiv_eq_ediv_of_nonneg _ (by omega)
  have hlen2: 0<=(i:Int)/\(i:Int) < ((done++ (a / 2 ^ n)::List.replicate xr.length 0).length:Int):=by simp;omega
  have hmd:∀b:Int,0<=b/\b < 4294967296->(b * (2:Int) ^ (32 - n)) % 4294967296= (b % 2 ^ n) * 2 ^ (32 - n):=fun b hb=>lZ hkp (by rw [Int.mul_comm];exact hk)
  have hdiv0: 0<=a / (2:Int) ^ n:=Int.ediv_nonneg ha.1 (by omega)
  have hdivk:a / (2:Int) ^ n < 2 ^ (32 - n):=by rw [Int.ediv_lt_iff_lt_mul hp,<-hk];exact ha.2
  match xr,g3,ih with
  | [],g3,ih=>
   have hle:=ax g3
   have h2:¬((i+1:Nat):Int) < (x.length:Int):=by omega
   have:=ih (i+1) (done++ [a / 2 ^ n]) g3 (by simp [hd]) (by omega)
   refine aa ?_
   rw [oM,hrep]
   simp only [t3,bh,<-Bool.decide_and]
   simp only [STL,↓reduceIte,Int.reduceBEq,Int.reduceEq,GD,h1,h0,and_self,af,aq g2,hda,t4,hlen,hfd,bv done 0 _ _ i hd,nx i (by omega),h2,false_and]
   rw [show done++ (a / 2 ^ n)::List.replicate ([]:List Int).length 0= (done++ [a / 2 ^ n])++List.replicate ([]:List Int).length 0 from by simp,
    show done++aL (2 ^ n) (2 ^ (32 - n)) [a]= (done++ [a / 2 ^ n])++aL (2 ^ n) (2 ^ (32 - n)) [] from by simp [aL]]
   exact this
  | b::xr,g3,ih=>
   obtain⟨k1,k2,k3⟩:=ar g3
   have hb:=hx b (List.mem_of_getElem? k1)
   have hdb:=bG g3
   have h2:((i+1:Nat):Int) < (x.length:Int):=by omega
   have h20: 0<=((i+1:Nat):Int):=by omega
   have hbm0:=Int.emod_nonneg b (show(2:Int) ^ n≠0 by omega)
   have hbm1:=Int.emod_lt_of_pos b hp
   have hz1:(b % 2 ^ n+1) * (2:Int) ^ (32 - n)<=2 ^ n * 2 ^ (32 - n):=Int.mul_le_mul_of_nonneg_right (by omega) (by omega)
   rw [Int.add_mul,Int.one_mul,Int.mul_comm ((2:Int) ^ n),<-hk] at hz1
   have hz0: 0<=(b % 2 ^ n) * (2:Int) ^ (32 - n):=Int.mul_nonneg hbm0 (by omega)
   by_cases hn0:(n:Int) > 0
   ·have:=ih (i+1) (done++ [a / 2 ^ n+b * 2 ^ (32 - n) % 4294967296]) g3 (by simp [hd]) (by omega)
    have hor:IntKind.u32.wrap (((BitVec.ofInt 32 (a / (2:Int) ^ n) ||| BitVec.ofInt 32 (b * (2:Int) ^ (32 - n) % 4294967296)).toNat:Nat):Int)=a / 2 ^ n+b * 2 ^ (32 - n) % 4294967296:=by
     obtain⟨t,ht⟩:=Int.eq_ofNat_of_zero_le hbm0
     rw [hH (n:=32 - n) (t:=t) (by omega) ⟨hdiv0,hdivk⟩ (by rw [hmd b hb,ht,pw2 (32 - n),Int.mul_comm,<-Int.natCast_mul]) (by rw [hmd b hb];omega) (by rw [hmd b hb];omega)]
     omega
    have hcond:((i+1:Nat):Int) < (x.length:Int)/\(n:Int) > 0:=⟨h2,hn0⟩
    refine aa ?_
    rw [oM,hrep]
    simp only [t3,bh,<-Bool.decide_and]
    simp only [STL,↓reduceIte,Int.reduceBEq,Int.reduceEq,GD,h1,h0,and_self,af,aq g2,hda,t4,hlen,hfd,bv done 0 _ _ i hd,nx i (by omega),hcond,hlen2,bC done _ _ i hd,h20,aq k2,hdb,t5,t6,t7,aH (b * (2:Int) ^ (32 - n)),hor,bv done (a / 2 ^ n) _ _ i hd]
    rw [show done++ (a / 2 ^ n+b * 2 ^ (32 - n) % 4294967296)::List.replicate (b::xr).length 0= (done++ [a / 2 ^ n+b * 2 ^ (32 - n) % 4294967296])++List.replicate (b::xr).length 0 from by simp,
     show done++aL (2 ^ n) (2 ^ (32 - n)) (a::b::xr)= (done++ [a / 2 ^ n+b * 2 ^ (32 - n) % 4294967296])++aL (2 ^ n) (2 ^ (32 - n)) (b::xr) from by simp [aL]]
    exact this
   ·have hn0':n=0:=by omega
    have hz:b * (2:Int) ^ (32 - n) % 4294967296=0:=by
     rw [hn0',show((2:Int) ^ (32 - 0))=4294967296 from by decide];omega
    have:=ih (i+1) (done++ [a / 2 ^ n+b * 2 ^ (32 - n) % 4294967296]) g3 (by simp [hd]) (by omega)
    rw [hz,Int.add_zero] at this
    refine aa ?_
    rw [oM,hrep]
    simp only [t3,bh,<-Bool.decide_and]
    simp only [STL,↓reduceIte,Int.reduceBEq,Int.reduceEq,GD,h1,h0,and_self,af,aq g2,hda,t4,hlen,hfd,bv done 0 _ _ i hd,nx i (by omega),hn0,and_false]
    rw [show done++ (a / 2 ^ n)::List.replicate (b::xr).length 0= (done++ [a / 2 ^ n])++List.replicate (b::xr).length 0 from by simp,
     show done++aL (2 ^ n) (2 ^ (32 - n)) (a::b::xr)= (done++ [a / 2 ^ n])++aL (2 ^ n) (2 ^ (32 - n)) (b::xr) from by simp [aL,hz]]
    exact this
theorem Dp(n:Nat)(hn:n < 32)(e:Bool)(x:List Int)(hx:Dg x)(hl:x.length<=900)(h0: 0 < x.length):∃lost,Or (.call 145) [lu e x,I (n:Int)] []=some [T.lst 1 false (ac (aL (2 ^ n) (2 ^ (32 - n)) x)),tb lost]:=by
 obtain⟨a,r,rfl⟩:∃a r,x=a::r:=by
  cases x with
  | nil=>simp at h0
  | cons a r=>exact⟨a,r,rfl⟩
 have t1:(n:Int).tdiv 32=0:=by rw [Int.tdiv_eq_ediv_of_nonneg (by omega)];omega
 have t2:(n:Int).tmod 32= (n:Int):=by rw [Int.tmod_eq_emod_of_nonneg (by omega)];omega
 have t5:IntKind.i64.wrap (32 - (n:Int))= ((32 - n:Nat):Int):=by rw [aF (by omega)];omega
 have t7:¬((32 - n:Nat):Int) < 0:=by omega
 have w3:IntKind.i64.wrap 0=0:=aF (by omega)
 have hmm:mm false 0 ((a::r).length:Int)=0:=by rw [vX];omega
 have hi0:inB 0 0 ((a::r).length:Int)=some ():=by unfold inB;rw [if_pos (by omega)]
 have hi1:inB 0 ((a::r).length:Int) ((a::r).length:Int)=some ():=by unfold inB;rw [if_pos (by omega)]
 have hs0:sub 0 0 (ac (a::r))= []:=by simp [sub]
 have hs1:sub 0 ((a::r).length:Int) (ac (a::r))=ac (a::r):=by
  unfold sub
  rw [Int.toNat_natCast,Int.toNat_zero,List.drop_zero,Nat.sub_zero,List.take_of_length_le (by rw [af];exact Nat.le_refl _)]
 have hmk:ap ((a::r).length:Int) ((a::r).length:Int)=some ():=by unfold ap lim;rw [if_pos (by omega)]
 have he:ac ([] ++List.replicate (a::r).length 0)=List.replicate (a::r).length [T.int IntKind.u32 0]:=by simp [ac]
 have hne:¬((a::r).length:Int)=0:=by omega
 have hg:(ac (a::r))[(0:Nat)]? =some [T.int .u32 a]:=rfl
 have hr:(0:Int)<=0/\(0:Int) < ((a::r).length:Int):=by omega
 have key:∀v6:Bool,Or jD [lu e (a::r),I (n:Int),B v6,o0,lu e (a::r),I ((a::r).length:Int),I 0] [Blk.sl false 1 false (List.replicate (a::r).length [T.int IntKind.u32 0])]=some [T.lst 1 false (ac (aL (2 ^ n) (2 ^ (32 - n)) (a::r))),tb v6]:=fun v6=>by
  have:=De n hn e e v6 (a::r) hx hl (a::r) 0 [] rfl rfl (by omega)
  rw [he] at this
  exact this
 have nd:∃lost,Or jT [lu e (a::r),I (n:Int),B false,I 0,AV.t (T.lst 1 e []),I (([]:List (List T)).length:Int),I 0] []=some [T.lst 1 false (ac (aL (2 ^ n) (2 ^ (32 - n)) (a::r))),tb lost]:=by
  have st:∃lost,stepO PROG ann Or jT [lu e (a::r),I (n:Int),B false,I 0,AV.t (T.lst 1 e []),I (([]:List (List T)).length:Int),I 0] []=some [T.lst 1 false (ac (aL (2 ^ n) (2 ^ (32 - n)) (a::r))),tb lost]:=by
   rw [Bi]
   have h00:¬(0:Int) < (([]:List (List T)).length:Int):=by simp
   simp only [t2,t5]
   simp only [STL,↓reduceIte,Int.reduceBEq,Int.reduceEq,GD,h00,af,hi1,hs1,hne,hr,hg,t7,hmk,Int.toNat_natCast]
   exact⟨_,key _⟩
  obtain⟨lost,st⟩:=st
  exact⟨lost,aa st⟩
 obtain⟨lost,hnd⟩:=nd
 refine⟨lost,aa ?_⟩
 rw [AX]
 simp only [t1,w3,af,hmm]
 simp only [STL,↓reduceIte,Int.reduceBEq,Int.reduceEq,GD,hi0,hs0]
 exact hnd
theorem qK{t:Int}(h: 0<=t/\t < 18446744073709551616):IntKind.u64.wrap (((BitVec.ofInt 64 t &&& BitVec.ofInt 64 4294967295).toNat:Nat):Int)=t % 4294967296:=by
 obtain⟨a,rfl⟩:=Int.eq_ofNat_of_zero_le h.1
 have e1:a % 2 ^ 64=a:=Nat.mod_eq_of_lt (by omega)
 have e2:(BitVec.ofInt 64 4294967295).toNat=2 ^ 32 - 1:=by decide
 rw [BitVec.toNat_and,e2,Nat.and_two_pow_sub_one_eq_mod,BitVec.ofInt_natCast,BitVec.toNat_ofNat,e1,w64 (by omega)]
 omega
theorem qu(a:List Int)(b:Int)(r:List Int)(i:Nat)(h:a.length=i):(ac (a++b::r))[i]? =some [T.int .u32 b]:=by
 have:=bC a b r i h
 rwa [Int.toNat_natCast] at this
theorem jZ(a:List Int)(b v:Int)(r:List Int)(i:Nat)(h:a.length=i):aB i 0 [T.int .u32 v] (ac (a++b::r))=some (ac (a++v::r)):=by
 have:=bv a b v r i h
 rwa [Int.toNat_natCast] at this
theorem Bk(ev ec:Bool)(v:List Int)(hv:Dg v)(lo hi:List Int)(top q:Int)(ht: 0<=top/\top < 4294967296)(hq: 0<=q/\q < 4294967296)(hvl:v.length<=1000):∀(vs:List Int) (i:Nat) (c b:Int) (done us:List Int),v.drop i=vs->i<=v.length->done.length=i->us.length=vs.length->Dg us->0<=c/\c < 4294967296->0<=b/\b<=1->
  Or jz [AV.part (Id.c 0) 1 lo.length (v.length+1),lu ev v,u6 q,u6 b,u6 c,I ((v.length+1:Nat):Int),I (i:Int)] [Blk.sl false 1 ec (ac (lo++ (done++us++top::hi)))]=
   some [tb (decide (bor (top - (msC q us vs c b).1 - (msC q us vs c b).2) > 0)),T.lst 1 ec (ac (lo++ (done++msL q us vs c b++ ((top - (msC q us vs c b).1 - (msC q us vs c b).2) % 4294967296)::hi)))]:=by
 intro vs
 induction vs with
 | nil=>
  intro i c b done us h hil hd hus hdu hc hb
  have hle:=ax h
  obtain rfl:i=v.length:=by omega
  obtain rfl:us= []:=List.length_eq_zero_iff.1 (by simpa using hus)
  simp only [msL,msC]
  have h1:(v.length:Int) < ((v.length+1:Nat):Int):=by omega
  have h2:¬(v.length:Int) < (v.length:Int):=by omega
  have h0: 0<=(v.length:Int):=by omega
  have hu:∀z,lo++ (done++ [] ++z::hi)= (lo++done)++z::hi:=fun z=>by simp
  have hk:(lo++done).length=lo.length+v.length:=by simp [hd]
  have w5:IntKind.u64.wrap top=top:=w64 (by omega)
  have hcm:c % 4294967296=c:=by omega
  have hn:IntKind.i64.wrap ((v.length:Int)+1)= ((v.length+1:Nat):Int):=nx _ (by omega)
  have hend:¬((v.length+1:Nat):Int) < ((v.length+1:Nat):Int):=by omega
  have fin:Or jz [AV.part (Id.c 0) 1 lo.length (v.length+1),lu ev v,u6 q,u6 (bor (top - c - b)),u6 (c / 4294967296),I ((v.length+1:Nat):Int),I ((v.length+1:Nat):Int)] [Blk.sl false 1 ec (ac ((lo++done)++ ((top - c - b) % 4294967296)::hi))]=
    some [tb (decide (bor (top - c - b) > 0)),T.lst 1 ec (ac ((lo++done)++ ((top - c - b) % 4294967296)::hi))]:=by
   refine aa ?_
   rw [p6]
   simp only [STL,↓reduceIte,Int.reduceBEq,Int.reduceEq,GD,hend]
  refine aa ?_
  rw [p6]
  simp only [hu]
  simp only [STL,↓reduceIte,Int.reduceBEq,Int.reduceEq,GD,h1,h2,h0,and_self,af,Int.toNat_natCast,qu (lo++done) top hi _ hk,w5,qK (t:=c) (by omega),hcm,gN,lQ,jZ (lo++done) top _ hi _ hk,bZ,gc (v:=top - c - b) (by omega),hn]
  exact fin
 | cons a vs ih=>
  intro i c b done us h hil hd hus hdu hc hb
  obtain⟨g1,g2,g3⟩:=ar h
  have ha:=hv a (List.mem_of_getElem? g1)
  have hda:=bG h
  match us,hus,hdu with
  | x::us,hus,hdu=>
   have hx:=hdu x List.mem_cons_self
   have hqa:=dI hq ha
   rw [msL,msC]
   have:=ih (i+1) ((c+q * a) / 4294967296) (bor (x - (c+q * a) % 4294967296 - b)) (done++ [(x - (c+q * a) % 4294967296 - b) % 4294967296]) us g3 (by omega) (by simp [hd]) (by simpa using hus) hdu.tail (by omega) (rP _)
   have h1:(i:Int) < ((v.length+1:Nat):Int):=by omega
   have h2:(i:Int) < (v.length:Int):=by omega
   have h0: 0<=(i:Int):=by omega
   have hu:lo++ (done++x::us++top::hi)= (lo++done)++x:: (us++top::hi):=by simp
   have hu':lo++ (done++ [(x - (c+q * a) % 4294967296 - b) % 4294967296] ++us++top::hi)= (lo++done)++ ((x - (c+q * a) % 4294967296 - b) % 4294967296):: (us++top::hi):=by simp
   have hk:(lo++done).length=lo.length+i:=by simp [hd]
   rw [hu'] at this
   rw [hu]
   have w1:IntKind.u64.wrap a=a:=w64 (by omega)
   have w2:IntKind.u64.wrap (q * a)=q * a:=w64 (by omega)
   have w3:IntKind.u64.wrap (c+q * a)=c+q * a:=w64 (by omega)
   have w5:IntKind.u64.wrap x=x:=w64 (by omega)
   refine aa ?_
   rw [p6]
   simp only [STL,↓reduceIte,Int.reduceBEq,Int.reduceEq,GD,h1,h2,h0,and_self,af,aq g2,hda,Int.toNat_natCast,qu (lo++done) x _ _ hk,w1,w2,w3,w5,qK (t:=c+q * a) (by omega),gN,lQ,jZ (lo++done) x _ _ _ hk,bZ,gc (v:=x - (c+q * a) % 4294967296 - b) (by omega),nx i (by omega)]
   have hg:(ac v)[i]? =some [T.int .u32 a]:=by
    have:=aq g2
    rw [Int.toNat_natCast,hda] at this;exact this
   simp only [STL,↓reduceIte,Int.reduceBEq,Int.reduceEq,GD,hg,w1,w2,w3,w5,qK (t:=c+q * a) (by omega),gN,lQ,jZ (lo++done) x _ _ _ hk,bZ,gc (v:=x - (c+q * a) % 4294967296 - b) (by omega),qu (lo++done) x _ _ hk]
   exact this.trans (by simp)
theorem Ea(ev ec:Bool)(v:List Int)(hv:Dg v)(lo hi w:List Int)(top q:Int)(ht: 0<=top/\top < 4294967296)(hq: 0<=q/\q < 4294967296)(hvl:v.length<=1000)(hw:Dg w)(hwl:w.length=v.length):
  Or (.call 144) [AV.part (Id.c 0) 1 lo.length (v.length+1),lu ev v,u6 q] [Blk.sl false 1 ec (ac (lo++ (w++top::hi)))]=
   some [tb (decide (bor (top - (msC q w v 0 0).1 - (msC q w v 0 0).2) > 0)),T.lst 1 ec (ac (lo++ (msL q w v 0 0++ ((top - (msC q w v 0 0).1 - (msC q w v 0 0).2) % 4294967296)::hi)))]:=by
 have:=Bk ev ec v hv lo hi top q ht hq hvl v 0 0 0 [] w rfl (by omega) rfl hwl hw (by omega) (by omega)
 refine aa ?_
 rw [Ac]
 simpa using this
open Go Go.Aev Go.Aev.Gen Go.Aev.Wd
theorem Bp(s:Nat)(ev ec0 ec1:Bool)(v:List Int)(hv:Dg v)(lo hi out:List Int)(top q:Int)(hlo:lo.length<=1000)(hvl:v.length<=1000)(R:List T):∀(vs:List Int) (i:Nat) (c:Int) (done us:List Int),v.drop i=vs->i<=v.length->done.length=i->us.length=vs.length->Dg us->0<=c/\c<=1->
  Or gV [I (s:Int),lu ev v,o0,I (v.length:Int),o1,I (lo.length:Int),u6 q,u6 (abC us vs c),lu ev v,I (v.length:Int),I (v.length:Int)] (U2 ec0 ec1 (lo++ (done++abL us vs c++top::hi)) out)=some R->
  Or gV [I (s:Int),lu ev v,o0,I (v.length:Int),o1,I (lo.length:Int),u6 q,u6 c,lu ev v,I (v.length:Int),I (i:Int)] (U2 ec0 ec1 (lo++ (done++us++top::hi)) out)=some R:=by
 intro vs
 induction vs with
 | nil=>
  intro i c done us h hil hd hus hdu hc hR
  have hle:=ax h
  obtain rfl:i=v.length:=by omega
  obtain rfl:us= []:=List.length_eq_zero_iff.1 (by simpa using hus)
  simpa only [abL,abC] using hR
 | cons a vs ih=>
  intro i c done us h hil hd hus hdu hc hR
  obtain⟨g1,g2,g3⟩:=ar h
  have ha:=hv a (List.mem_of_getElem? g1)
  have hda:=bG h
  match us,hus,hdu,hR with
  | x::us,hus,hdu,hR=>
   have hx:=hdu x List.mem_cons_self
   rw [abL,abC] at hR
   have:=ih (i+1) ((c+ (x+a)) / 4294967296) (done++ [(c+ (x+a)) % 4294967296]) us g3 (by omega) (by simp [hd]) (by simpa using hus) hdu.tail (by omega) (by
    simpa only [List.append_assoc,List.cons_append,List.nil_append] using hR)
   have h1:(i:Int) < (v.length:Int):=by omega
   have h0: 0<=(i:Int):=by omega
   have hu:lo++ (done++x::us++top::hi)= (lo++done)++x:: (us++top::hi):=by simp
   have hu':lo++ (done++ [(c+ (x+a)) % 4294967296] ++us++top::hi)= (lo++done)++ ((c+ (x+a)) % 4294967296):: (us++top::hi):=by simp
   have hk:(lo++done).length=lo.length+i:=by simp [hd]
   rw [hu'] at this
   rw [hu]
   have hb1: 0<=((lo.length+i:Nat):Int)/\((lo.length+i:Nat):Int) < (((lo++done)++x:: (us++top::hi)).length:Int):=by simp [hd];omega
   have w1:IntKind.u64.wrap a=a:=w64 (by omega)
   have w2:IntKind.u64.wrap x=x:=w64 (by omega)
   have w3:IntKind.u64.wrap (x+a)=x+a:=w64 (by omega)
   have w4:IntKind.u64.wrap (c+ (x+a))=c+ (x+a):=w64 (by omega)
   refine aa ?_
   rw [sV]
   simp only [STL,↓reduceIte,Int.reduceBEq,Int.reduceEq,GD,h1,h0,and_self,af,aq g2,hda,ad lo.length i (by omega),hb1,bC (lo++done) x _ _ hk,w1,w2,w3,w4,aH,bv (lo++done) x _ _ _ hk,bZ,nx i (by omega)]
   exact this
section
variable (s:Nat) (ev ec0 ec1:Bool)
noncomputable abbrev K15(v:List Int)(u out:List Int)(k:Int):Option (List T):=Or iK [I (s:Int),lu ev v,o0,I (v.length:Int),o1,I k] (U2 ec0 ec1 u out)
def sJ(v u:List Int)(k:Nat)(qs:List Int)(Φ:List T->Prop)(q':Int):Prop:=
 (∃u':List Int,Or (.call 144) [AV.part (Id.c 0) 1 k (v.length+1),lu ev v,u6 q'] [Blk.sl false 1 ec0 (ac u)]=some [tb false,T.lst 1 ec0 (ac u')]/\Wd.Good Φ (K15 s ev ec0 ec1 v u' (List.replicate k 0++q'::qs) ((k:Int) - 1)))\/
 (∃u':List Int,Or (.call 144) [AV.part (Id.c 0) 1 k (v.length+1),lu ev v,u6 q'] [Blk.sl false 1 ec0 (ac u)]=some [tb true,T.lst 1 ec0 (ac u')]/\1<=q'/\Wd.Good Φ (Or gV [I (s:Int),lu ev v,o0,I (v.length:Int),o1,I (k:Int),u6 (q' - 1),u6 0,lu ev v,I (v.length:Int),I 0] (U2 ec0 ec1 u' (List.replicate k 0++0::qs))))
theorem dig(v:List Int)(lo hi:List Int)(hv:Dg v)(hvl:v.length<=1000)(hlo:lo.length<=1000)(w:List Int)(top:Int)(hw:Dg w)(hwl:w.length=v.length)(ht: 0<=top/\top < 4294967296)(hVp: 0 < val v)(qs:List Int)(Φ:List T->Prop)
  (q:Int) (hq:q= (val w+4294967296 ^ v.length * top) / val v) (q':Int) (hq1:q<=q') (hq2:q'<=q+1) (hqb: 0<=q'/\q' < 4294967296) (hq0: 0<=q)
  (next:∀R':List Int,Dg R'->R'.length=v.length->val R'= (val w+4294967296 ^ v.length * top) % val v->Wd.Good Φ (K15 s ev ec0 ec1 v (lo++ (R'++0::hi)) (List.replicate lo.length 0++q::qs) ((lo.length:Int) - 1))):
  sJ s ev ec0 ec1 v (lo++ (w++top::hi)) lo.length qs Φ q':=by
 obtain⟨s1,s2,s3,s4,s5,s6,s7⟩:=qf hqb (us:=w) (vs:=v) (c:=0) (b:=0) hwl hw hv (by omega) (by omega)
 have k125:=Ea ev ec0 v hv lo hi w top q' ht hqb hvl hw hwl
 have hvV:=bw hv
 have hm0:=bf s3
 have hmB:=bw s3
 rw [s2] at hmB
 rw [hwl] at s1 hmB
 have hdm:=Int.mul_ediv_add_emod (val w+4294967296 ^ v.length * top) (val v)
 have hr0:=Int.emod_nonneg (val w+4294967296 ^ v.length * top) (show val v≠0 by omega)
 have hr1:=Int.emod_lt_of_pos (val w+4294967296 ^ v.length * top) hVp
 rw [<-hq] at hdm
 generalize (val w+4294967296 ^ v.length * top) % val v=r at *
 have hkz:(List.replicate lo.length (0:Int)).length=lo.length:=by simp
 generalize msL q' w v 0 0=M at *
 generalize msC q' w v 0 0=cb at *
 obtain⟨c,b⟩:=cb
 dsimp only at s1 s4 s5 s6 s7 k125
 have hb2: 0<=(lo.length:Int)/\(lo.length:Int) < ((List.replicate lo.length (0:Int)++0::qs).length:Int):=by simp;omega
 have hend:¬(v.length:Int) < (v.length:Int):=by omega
 have hPp:=bP v.length
 have hval:val M+4294967296 ^ v.length * (top - c - b)= (val w+4294967296 ^ v.length * top) - q' * val v:=by
  rw [s1,Int.mul_sub,Int.mul_sub,Int.mul_add];omega
 have hPt:∀z:Int,z<= -1->4294967296 ^ v.length * z<= -(4294967296 ^ v.length):=fun z hz=>by
  have:(4294967296:Int) ^ v.length * z<=4294967296 ^ v.length * (-1):=Int.mul_le_mul_of_nonneg_left hz (Int.le_of_lt hPp)
  omega
 have hPt2:∀z:Int,1<=z->4294967296 ^ v.length<=(4294967296:Int) ^ v.length * z:=fun z hz=>by
  have:(4294967296:Int) ^ v.length * 1<=4294967296 ^ v.length * z:=Int.mul_le_mul_of_nonneg_left hz (Int.le_of_lt hPp)
  omega
 by_cases he:q'=q
 ·subst he
  have hz:top - c - b=0:=by
   rcases Int.lt_trichotomy (top - c - b) 0 with h | h | h
   ·have:=hPt (top - c - b) (by omega);rw [Int.mul_comm q'] at hval;omega
   ·exact h
   ·have:=hPt2 (top - c - b) (by omega);rw [Int.mul_comm q'] at hval;omega
  have hbr:decide (bor (top - c - b) > 0)=false:=by rw [hz];rfl
  rw [hbr,show(top - c - b) % 4294967296=0 from by rw [hz];rfl] at k125
  exact .inl ⟨_,k125,next M s3 (by rw [s2,hwl]) (by rw [hz] at hval;rw [Int.mul_comm q'] at hval;omega)⟩
 ·have he1:q'=q+1:=by omega
  have hq'V:q' * val v=val v * q+val v:=by rw [he1,Int.add_mul,Int.one_mul,Int.mul_comm]
  have hz:top - c - b= -1:=by
   rcases Int.lt_trichotomy (top - c - b) (-1) with h | h | h
   ·exfalso
    have:(4294967296:Int) ^ v.length * (top - c - b)<=4294967296 ^ v.length * (-2):=Int.mul_le_mul_of_nonneg_left (by omega) (Int.le_of_lt hPp)
    omega
   ·exact h
   ·exfalso
    have:(4294967296:Int) ^ v.length * 0<=4294967296 ^ v.length * (top - c - b):=Int.mul_le_mul_of_nonneg_left (by omega) (Int.le_of_lt hPp)
    omega
  have hbr:decide (bor (top - c - b) > 0)=true:=by rw [hz];rfl
  rw [hbr,show(top - c - b) % 4294967296=4294967295 from by rw [hz];rfl] at k125
  obtain⟨a1,a2,a3,a4,a5⟩:=qm (us:=M) (vs:=v) (c:=0) (by rw [s2,hwl]) s3 hv (by omega)
  rw [s2,hwl] at a1 a2
  have hA0:=bf a3
  have hAB:=bw a3
  rw [a2] at hAB
  rw [hz] at hval
  have hM:val M=r - val v+4294967296 ^ v.length:=by omega
  have hc1:abC M v 0=1:=by
   rcases Int.lt_or_le (abC M v 0) 1 with h | h
   ·exfalso
    have:abC M v 0=0:=by omega
    rw [this] at a1;omega
   ·omega
  rw [hc1] at a1
  have hq'1:q' - 1=q:=by omega
  refine .inr ⟨_,k125,by omega, ?_⟩
  rw [hq'1]
  refine(next (abL M v 0) a3 a2 (by omega)).step fun R hR=> ?_
  have key2:=Bp s ev ec0 ec1 v hv lo hi (List.replicate lo.length 0++0::qs) 4294967295 q hlo hvl R v 0 0 [] M rfl (by omega) rfl (by rw [s2,hwl]) s3 (by omega) (by
   rw [hc1]
   refine aa ?_
   rw [sV]
   have hun2:lo++ ([] ++abL M v 0++4294967295::hi)= (lo++abL M v 0)++4294967295::hi:=by simp
   rw [hun2]
   have hkl2:(lo++abL M v 0).length=lo.length+v.length:=by simp [a2]
   have hb3: 0<=((lo.length+v.length:Nat):Int)/\((lo.length+v.length:Nat):Int) < (((lo++abL M v 0)++4294967295::hi).length:Int):=by simp [a2];omega
   have hz2:IntKind.u32.wrap (4294967295+IntKind.u32.wrap 1)=0:=by rw [aH,aH];rfl
   have wq:IntKind.u32.wrap q=q:=by rw [aH];omega
   rw [show lo++ (abL M v 0++0::hi)= (lo++abL M v 0)++0::hi from by simp] at hR
   simp only [STL,↓reduceIte,Int.reduceBEq,Int.reduceEq,GD,hend,af,ad lo.length v.length (by omega),hb3,and_self,bC (lo++abL M v 0) _ hi _ hkl2,hz2,bv (lo++abL M v 0) _ _ hi _ hkl2,hb2,wq,bv _ 0 _ qs _ hkz,wm1 lo.length (by omega)]
   exact hR)
  simpa using key2
end
theorem C1(s k:Nat)(ev ec0 ec1:Bool)(v u qs:List Int)(Φ:List T->Prop){U V P w0 v0 u2 v2 v1 Tt q:Int}(hvl:v.length<=1000)(hkl:k<=1000)(hn2: 2<=v.length)(hul:k+v.length < u.length)
  (hf1:(ac v)[((v.length - 1:Nat):Int).toNat]? =some [T.int .u32 v1]) (hf2:(ac v)[((v.length - 2:Nat):Int).toNat]? =some [T.int .u32 v2]) (hf3:(ac u)[((k+v.length - 2:Nat):Int).toNat]? =some [T.int .u32 u2])
  (hP: 0 < P) (hU:U=w0+P * u2+4294967296 * (P * Tt)) (hV:V=v0+P * v2+4294967296 * (P * v1)) (hw: 0<=w0/\w0 < P) (hv0: 0<=v0/\v0 < P) (hu2: 0<=u2/\u2 < 4294967296) (hv2: 0<=v2/\v2 < 4294967296) (hv1: 1<=v1/\v1 < 4294967296)
  (hU0: 0<=U) (hUV:U < V * 4294967296) (hVp: 0 < V) (hq:q=U / V)
  (go:∀q',q<=q'->q'<=q+1->0<=q'->q' < 4294967296->sJ s ev ec0 ec1 v u k qs Φ q'):
  ∀(m:Nat) (qh rh:Int),4294967296 - rh<=(m:Int)->qh * v1+rh=Tt->0<=rh/\rh < 4294967296->q<=qh->qh < 18446744073709551616->
   Wd.Good Φ (Or mh [I (s:Int),lu ev v,o0,I (v.length:Int),o1,I (k:Int),u6 qh,u6 rh] (U2 ec0 ec1 u (List.replicate k 0++0::qs))):=by
 have hqV:q * V<=U:=by rw [hq];exact Int.ediv_mul_le _ (by omega)
 have hq0: 0<=q:=by rw [hq];exact Int.ediv_nonneg hU0 (by omega)
 have hqV1:U < (q+1) * V:=by rw [hq,Int.add_mul,Int.one_mul];have:=Int.mul_ediv_add_emod U V;have:=Int.emod_lt_of_pos U hVp;rw [Int.mul_comm V] at *;omega
 have hT3:Tt < 4294967296 * (v1+1):=by
  rcases Int.lt_or_le Tt (4294967296 * (v1+1)) with h | h
  ·exact h
  ·exfalso
   have h1:P * (4294967296 * (v1+1))<=P * Tt:=Int.mul_le_mul_of_nonneg_left h (by omega)
   have h2:P * v2<=P * 4294967295:=Int.mul_le_mul_of_nonneg_left (by omega) (by omega)
   have h3: 0<=P * u2:=Int.mul_nonneg (by omega) hu2.1
   rw [Int.mul_left_comm,Int.mul_add,Int.mul_one] at h1
   omega
 have hkz:(List.replicate k (0:Int)).length=k:=by simp
 have hb2: 0<=(k:Int)/\(k:Int) < ((List.replicate k (0:Int)++0::qs).length:Int):=by simp;omega
 have hadd:IntKind.i64.wrap ((k:Int)+ (v.length:Int))= ((k+v.length:Nat):Int):=ad k v.length (by omega)
 have hadd1:IntKind.i64.wrap (((k+v.length:Nat):Int)+1)= ((k+v.length+1:Nat):Int):=nx _ (by omega)
 have hin:inB (k:Int) ((k+v.length+1:Nat):Int) (u.length:Int)=some ():=by unfold inB;rw [if_pos (by omega)]
 have hsz:((k+v.length+1:Nat):Int).toNat - k=v.length+1:=by omega
 have htn:((k:Int)).toNat=k:=by omega
 intro m
 induction m with
 | zero=>intro qh rh hm _ hr _ _;omega
 | succ m ih=>
  intro qh rh hm hT hr hqq hq64
  have w1:IntKind.i64.wrap ((v.length:Int) - 2)= ((v.length - 2:Nat):Int):=by rw [aF (by omega)];omega
  have w2:IntKind.i64.wrap (((k+v.length:Nat):Int) - 2)= ((k+v.length - 2:Nat):Int):=by rw [aF (by omega)];omega
  have w3:IntKind.i64.wrap ((v.length:Int) - 1)= ((v.length - 1:Nat):Int):=by rw [aF (by omega)];omega
  have b1: 0<=((v.length - 2:Nat):Int)/\((v.length - 2:Nat):Int) < (v.length:Int):=by omega
  have b2: 0<=((k+v.length - 2:Nat):Int)/\((k+v.length - 2:Nat):Int) < (u.length:Int):=by omega
  have b3: 0<=((v.length - 1:Nat):Int)/\((v.length - 1:Nat):Int) < (v.length:Int):=by omega
  have x1:IntKind.u64.wrap v2=v2:=w64 (by omega)
  have x2:IntKind.u64.wrap v1=v1:=w64 (by omega)
  have x3:IntKind.u64.wrap (rh+v1)=rh+v1:=w64 (by omega)
  have hor:=fG hr hu2
  by_cases hc:qh>=4294967296\/qh * v2 > rh * 4294967296+u2
  ·have hle:q<=qh - 1:=by
    rcases hc with hc | hc
    ·have hqB:q < 4294967296:=by rw [hq];exact Int.ediv_lt_of_lt_mul hVp (by rw [Int.mul_comm];exact hUV)
     omega
    ·exact wh hP hU hV hw hv0.1 (by omega) hT hqV hc hVp
   have x4:IntKind.u64.wrap (qh - 1)=qh - 1:=w64 (by omega)
   have hT':(qh - 1) * v1+ (rh+v1)=Tt:=by rw [Int.sub_mul,Int.one_mul];omega
   have hcond:(qh>=4294967296\/IntKind.u64.wrap (qh * v2) > rh * 4294967296+u2):=by
    by_cases hb:qh>=4294967296
    ·left;omega
    ·right
     rcases hc with hc | hc
     ·exact absurd hc hb
     ·have:=dI (a:=qh) (b:=v2) (by omega) hv2
      rw [w64 (by omega)];exact hc
   by_cases hbr:rh+v1 < 4294967296
   ·have hz:¬rh+v1>=4294967296:=by omega
    refine(ih (qh - 1) (rh+v1) (by omega) hT' (by omega) hle (by omega)).step fun R hR=>aa ?_
    rw [kA]
    simp only [cor,<-decide_not,<-Bool.decide_or]
    simp only [STL,↓reduceIte,Int.reduceBEq,Int.reduceEq,GD,af,w1,hadd,w2,w3,b1,b2,b3,and_self,hf1,hf2,hf3,x1,x2,x3,x4,hor,hcond,hz]
    exact hR
   ·have hz:rh+v1>=4294967296:=by omega
    have hsm:qh - 1 < 4294967296:=by
     rcases Int.lt_or_le (qh - 1) 4294967296 with h | h
     ·exact h
     ·exfalso
      have: 4294967296 * v1<=(qh - 1) * v1:=Int.mul_le_mul_of_nonneg_right h (by omega)
      rw [Int.mul_add] at hT3
      omega
    have hup:qh - 1<=q+1:=by
     have h1:=dI (a:=qh - 1) (b:=v2) (by omega) hv2
     have h2:=oF hP hU hV hw.1 hv0 hv2.1 hv1.1 (qh:=qh - 1) (by omega) hT' (by omega)
     rcases Int.lt_or_le (q+1) (qh - 1) with h | h
     ·exfalso
      have:(q+1) * V<=(qh - 1 - 1) * V:=Int.mul_le_mul_of_nonneg_right (by omega) (by omega)
      omega
     ·exact h
    have x5:IntKind.u32.wrap (qh - 1)=qh - 1:=by rw [aH];omega
    rcases go (qh - 1) hle hup (by omega) hsm with⟨u',p1,p2⟩ | ⟨u',p1,p0,p2⟩
    ·refine p2.step fun R hR=>aa ?_
     rw [kA]
     simp only [cor,<-decide_not,<-Bool.decide_or]
     simp only [STL,↓reduceIte,Int.reduceBEq,Int.reduceEq,GD,Option.bind_some,af,w1,hadd,hadd1,hin,hsz,htn,w2,w3,b1,b2,b3,and_self,hf1,hf2,hf3,x1,x2,x3,x4,x5,hor,hcond,hz,p1,hb2,jZ _ 0 _ qs _ hkz,wm1 k (by omega)]
     exact hR
    ·have x6:IntKind.u64.wrap (qh - 1 - 1)=qh - 1 - 1:=w64 (by omega)
     refine p2.step fun R hR=>aa ?_
     rw [kA]
     simp only [cor,<-decide_not,<-Bool.decide_or]
     simp only [STL,↓reduceIte,Int.reduceBEq,Int.reduceEq,GD,Option.bind_some,af,w1,hadd,hadd1,hin,hsz,htn,w2,w3,b1,b2,b3,and_self,hf1,hf2,hf3,x1,x2,x3,x4,x6,hor,hcond,hz,p1]
     exact hR
  ·have hqs:qh < 4294967296:=by omega
   have hle:qh * v2<=rh * 4294967296+u2:=by omega
   have hm2:=dI (a:=qh) (b:=v2) (by omega) hv2
   have x4:IntKind.u64.wrap (qh * v2)=qh * v2:=w64 (by omega)
   have hcond:¬(qh>=4294967296\/qh * v2 > rh * 4294967296+u2):=by omega
   have hup:qh<=q+1:=by
    have h2:=oF hP hU hV hw.1 hv0 hv2.1 hv1.1 (qh:=qh) (by omega) hT hle
    rcases Int.lt_or_le (q+1) qh with h | h
    ·exfalso
     have:(q+1) * V<=(qh - 1) * V:=Int.mul_le_mul_of_nonneg_right (by omega) (by omega)
     omega
    ·exact h
   have x5:IntKind.u32.wrap qh=qh:=by rw [aH];omega
   rcases go qh hqq hup (by omega) hqs with⟨u',p1,p2⟩ | ⟨u',p1,p0,p2⟩
   ·refine p2.step fun R hR=>aa ?_
    rw [kA]
    simp only [cor,<-decide_not,<-Bool.decide_or]
    simp only [STL,↓reduceIte,Int.reduceBEq,Int.reduceEq,GD,Option.bind_some,af,w1,hadd,hadd1,hin,hsz,htn,w2,w3,b1,b2,b3,and_self,hf1,hf2,hf3,x1,x2,x3,x4,x5,hor,hcond,p1,hb2,jZ _ 0 _ qs _ hkz,wm1 k (by omega)]
    exact hR
   ·have x6:IntKind.u64.wrap (qh - 1)=qh - 1:=w64 (by omega)
    refine p2.step fun R hR=>aa ?_
    rw [kA]
    simp only [cor,<-decide_not,<-Bool.decide_or]
    simp only [STL,↓reduceIte,Int.reduceBEq,Int.reduceEq,GD,Option.bind_some,af,w1,hadd,hadd1,hin,hsz,htn,w2,w3,b1,b2,b3,and_self,hf1,hf2,hf3,x1,x2,x3,x4,x6,hor,hcond,p1]
    exact hR
theorem w15(s:Nat)(hs:s < 32)(ev ec0 ec1:Bool)(v':List Int)(v2 v1:Int)(hv:Dg (v'++ [v2,v1]))(hvl:v'.length<=400)(h1: 1<=v1)(L:Nat)(N0:Int):∀(j:Nat) (lo R hi qs:List Int),lo.length=j->j<=900->R.length=v'.length+2->Dg lo->Dg R->Dg qs->val R < val (v'++ [v2,v1])->j+qs.length=L->
  val lo+4294967296 ^ j * (val R+val (v'++ [v2,v1]) * val qs)=N0->Wd.Good (nn s L (val (v'++ [v2,v1])) N0 (v'.length+2)) (K15 s ev ec0 ec1 (v'++ [v2,v1]) (lo++ (R++hi)) (List.replicate j 0++qs) ((j:Int) - 1)):=by
 have hvlen:(v'++ [v2,v1]).length=v'.length+2:=by simp
 have hval:val (v'++ [v2,v1])=val v'+4294967296 ^ v'.length * v2+4294967296 * (4294967296 ^ v'.length * v1):=by
  rw [bt];simp only [val]
  rw [Int.mul_add,Int.mul_left_comm _ 4294967296];simp;omega
 have hv0:=bf hv.left
 have hv0':=bw hv.left
 have hPp:=bP v'.length
 have dv2:=hv v2 (by simp)
 have dv1:=hv v1 (by simp)
 have hp1:(4294967296:Int) ^ v'.length * 1<=4294967296 ^ v'.length * v1:=Int.mul_le_mul_of_nonneg_left h1 (by omega)
 have hp2: 0<=(4294967296:Int) ^ v'.length * v2:=Int.mul_nonneg (by omega) dv2.1
 have hVp: 0 < val (v'++ [v2,v1]):=by omega
 have e1:(ac (v'++ [v2,v1]))[(((v'++ [v2,v1]).length - 1:Nat):Int).toNat]? =some [T.int .u32 v1]:=by
  have:=bC (v'++ [v2]) v1 [] (v'.length+1) (by simp)
  rw [hvlen];simpa using this
 have e2:(ac (v'++ [v2,v1]))[(((v'++ [v2,v1]).length - 2:Nat):Int).toNat]? =some [T.int .u32 v2]:=by
  have:=bC v' v2 [v1] v'.length rfl
  rw [hvlen];simpa using this
 intro j
 induction j with
 | zero=>
  intro lo R hi qs hlo hj hR dlo dR dqs hlt hL hN
  obtain rfl:=List.length_eq_zero_iff.1 hlo
  obtain⟨lost,h80⟩:=Dp s hs ec0 R dR (by omega) (by omega)
  obtain⟨g1,g2,g3⟩:=pg (bS s) (fT (n:=s) (by omega)) (bS (32 - s)) dR
  refine⟨_,aa ?_,ec1,qs,false,_,val R,rfl,dqs,g3,by omega,by rw [g2,hR],bf dR,hlt,by
   simp only [val,Int.pow_zero,Int.one_mul,Int.zero_add] at hN
   rw [<-hN,Int.mul_comm];omega,g1⟩
  rw [xP]
  have c0:¬(((0:Nat):Int) - 1)>=0:=by omega
  have hi0:inB 0 ((v'++ [v2,v1]).length:Int) ((([] ++ (R++hi)).length:Nat):Int)=some ():=by unfold inB;rw [if_pos (by simp [hR];omega)]
  have ht:(ac ([] ++ (R++hi))).take (((v'++ [v2,v1]).length:Int).toNat - 0)=ac R:=by
   have hnn:((v'++ [v2,v1]).length:Int).toNat - 0=R.length:=by rw [hvlen,hR];omega
   simp only [hnn,List.nil_append,ac,List.map_append]
   rw [List.take_append_of_le_length (by simp),List.take_of_length_le (by simp)]
  simp only [List.replicate_zero,List.nil_append] at hi0 ht⊢
  simp only [STL,↓reduceIte,Int.reduceBEq,Int.reduceEq,GD,c0,af,hi0,ht,h80]
 | succ j ih=>
  intro lo R hi qs hlo hj hR dlo dR dqs hlt hL hN
  obtain⟨lo',x,rfl,hl'⟩:=cA hlo
  obtain⟨w,top,hw,hwl⟩:=cA (l:=x::R) (n:=v'.length+2) (by simp [hR])
  obtain⟨w1,u1,rfl,hw1⟩:=cA hwl
  obtain⟨w2,u2,rfl,hw2⟩:=cA hw1
  have dW:Dg (w2++ [u2] ++ [u1] ++ [top]):=by rw [<-hw];exact Dg.append (a:= [x]) dlo.right dR
  have dw:=dW.left
  have dtop:=dW top (by simp)
  have du1:=dW u1 (by simp)
  have du2:=dW u2 (by simp)
  have hw0:=bf dw.left.left
  have hw0':=bw dw.left.left
  have hlists:lo'++ [x] ++ (R++hi)=lo'++ ((w2++ [u2] ++ [u1])++top::hi):=by
   have: [x] ++R=w2++ [u2] ++ [u1] ++ [top]:=hw
   simp only [List.append_assoc] at this⊢
   rw [<-List.append_assoc [x],this];simp
  have hUval:val (x::R)=val (w2++ [u2] ++ [u1])+4294967296 ^ (v'++ [v2,v1]).length * top:=by
   rw [hw,bt,hvlen,hwl];simp [val]
  have hwval:val (w2++ [u2] ++ [u1])=val w2+4294967296 ^ v'.length * u2+4294967296 * (4294967296 ^ v'.length * u1):=by
   rw [List.append_assoc,bt,hw2];simp only [List.cons_append,List.nil_append,val]
   rw [Int.mul_add,Int.mul_left_comm _ 4294967296];simp;omega
  have hU3:val (x::R)=val w2+4294967296 ^ v'.length * u2+4294967296 * (4294967296 ^ v'.length * (top * 4294967296+u1)):=by
   rw [hUval,hwval,hvlen,show(4294967296:Int) ^ (v'.length+2)=4294967296 ^ v'.length * (4294967296 * 4294967296) from by rw [Int.pow_add];rfl]
   rw [Int.mul_add (4294967296 ^ v'.length) (top * 4294967296),Int.mul_add 4294967296,<-Int.mul_assoc (4294967296 ^ v'.length) top 4294967296]
   have:(4294967296:Int) ^ v'.length * (4294967296 * 4294967296) * top=4294967296 * (4294967296 ^ v'.length * top * 4294967296):=by
    rw [Int.mul_comm (4294967296 ^ v'.length * top) 4294967296,<-Int.mul_assoc 4294967296 4294967296,Int.mul_comm (4294967296 ^ v'.length),Int.mul_assoc]
   omega
  have dx:=dlo x (by simp)
  have hUx:val (x::R)=x+4294967296 * val R:=rfl
  have hR0:=bf dR
  have hU0: 0<=val (x::R):=by omega
  have hUV:val (x::R) < val (v'++ [v2,v1]) * 4294967296:=by omega
  generalize hqd:val (x::R) / val (v'++ [v2,v1])=q at *
  have hq0: 0<=q:=by rw [<-hqd];exact Int.ediv_nonneg hU0 (by omega)
  have hqB:q < 4294967296:=by rw [<-hqd];exact Int.ediv_lt_of_lt_mul hVp (by rw [Int.mul_comm];exact hUV)
  have hqV:q * val (v'++ [v2,v1])<=val (x::R):=by rw [<-hqd];exact Int.ediv_mul_le _ (by omega)
  have hrep:List.replicate (j+1) (0:Int)++qs=List.replicate lo'.length 0++0::qs:=by
   rw [hl',List.replicate_succ',List.append_assoc];rfl
  have hg0:=vV hPp hU3 hval ⟨hw0,by rw [hw2] at hw0';exact hw0'⟩ hv0 du2.2 dv2.1 hq0 hqV
  have hT0: 0<=top * 4294967296+u1:=by omega
  have hqt:q<=(top * 4294967296+u1) / v1:=by rw [Int.le_ediv_iff_mul_le (by omega)];exact hg0
  have hTle:(top * 4294967296+u1) / v1<=top * 4294967296+u1:=Int.ediv_le_self _ hT0
  have hrm0:=Int.emod_nonneg (top * 4294967296+u1) (show v1≠0 by omega)
  have hrm1:=Int.emod_lt_of_pos (top * 4294967296+u1) (show 0 < v1 by omega)
  have hdm:=Int.mul_ediv_add_emod (top * 4294967296+u1) v1
  have hn2: 2<=(v'++ [v2,v1]).length:=by omega
  have e3:(ac (lo'++ ((w2++ [u2] ++ [u1])++top::hi)))[((lo'.length+ (v'++ [v2,v1]).length - 2:Nat):Int).toNat]? =some [T.int .u32 u2]:=by
   have:=bC (lo'++w2) u2 ([u1] ++top::hi) (lo'.length+ (v'++ [v2,v1]).length - 2) (by simp [hw2];try omega)
   simpa using this
  have e4:(ac (lo'++ ((w2++ [u2] ++ [u1])++top::hi)))[((lo'.length+ (v'++ [v2,v1]).length - 1:Nat):Int).toNat]? =some [T.int .u32 u1]:=by
   have:=bC (lo'++w2++ [u2]) u1 (top::hi) (lo'.length+ (v'++ [v2,v1]).length - 1) (by simp [hw2];try omega)
   simpa using this
  have e5:(ac (lo'++ ((w2++ [u2] ++ [u1])++top::hi)))[((lo'.length+ (v'++ [v2,v1]).length:Nat):Int).toNat]? =some [T.int .u32 top]:=by
   have:=bC (lo'++w2++ [u2] ++ [u1]) top hi (lo'.length+ (v'++ [v2,v1]).length) (by simp [hw2];try omega)
   simpa using this
  have hlenu:((lo'++ ((w2++ [u2] ++ [u1])++top::hi)).length:Int)= ((lo'.length+v'.length+3+hi.length:Nat):Int):=by simp [hw2];omega
  have hgood:=C1 s lo'.length ev ec0 ec1 (v'++ [v2,v1]) (lo'++ ((w2++ [u2] ++ [u1])++top::hi)) qs (nn s L (val (v'++ [v2,v1])) N0 (v'.length+2)) (by omega) (by omega) hn2 (by simp [hw2] <;> omega) e1 e2 e3 hPp hU3 hval ⟨hw0,by rw [hw2] at hw0';exact hw0'⟩ ⟨hv0,hv0'⟩ du2 dv2 ⟨h1,dv1.2⟩ hU0 hUV hVp hqd.symm
   (fun q' a1 a2 a3 a4=>dig s ev ec0 ec1 (v'++ [v2,v1]) lo' hi hv (by omega) (by omega) (w2++ [u2] ++ [u1]) top dw (by rw [hvlen];exact hwl) dtop hVp qs _ q (by rw [<-hqd,hUval]) q' a1 a2 ⟨a3,a4⟩ hq0 (fun R' d1 d2 d3=>by
    have:=ih lo' R' (0::hi) (q::qs) hl' (by omega) (by rw [d2,hvlen]) dlo.left d1 (fun a ha=>by
     rcases List.mem_cons.1 ha with rfl | ha
     ·exact⟨hq0,hqB⟩
     ·exact dqs a ha) (by rw [d3];exact Int.emod_lt_of_pos _ hVp) (by simp;omega) (by
     rw [<-hUval] at d3
     have hdv:=Int.mul_ediv_add_emod (val (x::R)) (val (v'++ [v2,v1]))
     rw [hqd] at hdv
     have key:val R'+val (v'++ [v2,v1]) * val (q::qs)=x+4294967296 * (val R+val (v'++ [v2,v1]) * val qs):=by
      rw [show val (q::qs)=q+4294967296 * val qs from rfl,d3,Int.mul_add,Int.mul_add 4294967296,Int.mul_left_comm _ 4294967296]
      omega
     rw [<-hN,bt lo' [x],hl',key,show val [x]=x from by simp [val],Int.pow_succ,Int.mul_assoc,Int.add_assoc,<-Int.mul_add])
    rw [<-hl'] at this
    exact this))
   4294967296 ((top * 4294967296+u1) / v1) ((top * 4294967296+u1) % v1) (by omega) (by rw [Int.mul_comm];exact hdm) (by omega) hqt (by omega)
  have cj:((j+1:Nat):Int) - 1= (lo'.length:Int):=by omega
  have or1:=fG dtop du1
  have x1:IntKind.u64.wrap v1=v1:=w64 (by omega)
  have x3:(top * 4294967296+u1).tdiv v1= (top * 4294967296+u1) / v1:=Int.tdiv_eq_ediv_of_nonneg hT0
  have x4:(top * 4294967296+u1).tmod v1= (top * 4294967296+u1) % v1:=Int.tmod_eq_emod_of_nonneg hT0
  have x5:IntKind.u64.wrap ((top * 4294967296+u1) / v1)= (top * 4294967296+u1) / v1:=w64 (by omega)
  have x2:IntKind.u64.wrap top=top:=w64 (by omega)
  have nz:¬v1=0:=by omega
  have w3:IntKind.i64.wrap (((v'++ [v2,v1]).length:Int) - 1)= (((v'++ [v2,v1]).length - 1:Nat):Int):=by rw [aF (by omega)];omega
  have w2':IntKind.i64.wrap (((lo'.length+ (v'++ [v2,v1]).length:Nat):Int) - 1)= ((lo'.length+ (v'++ [v2,v1]).length - 1:Nat):Int):=by rw [aF (by omega)];omega
  have b1: 0<=((lo'.length+ (v'++ [v2,v1]).length:Nat):Int)/\((lo'.length+ (v'++ [v2,v1]).length:Nat):Int) < ((lo'.length+v'.length+3+hi.length:Nat):Int):=by omega
  have b2: 0<=((lo'.length+ (v'++ [v2,v1]).length - 1:Nat):Int)/\((lo'.length+ (v'++ [v2,v1]).length - 1:Nat):Int) < ((lo'.length+v'.length+3+hi.length:Nat):Int):=by omega
  have b3: 0<=(((v'++ [v2,v1]).length - 1:Nat):Int)/\(((v'++ [v2,v1]).length - 1:Nat):Int) < ((v'++ [v2,v1]).length:Int):=by omega
  rw [hlists,hrep,cj]
  refine hgood.step fun R hR=>aa ?_
  rw [xP]
  have c1:(lo'.length:Int)>=0:=by omega
  simp only [STL,↓reduceIte,Int.reduceBEq,Int.reduceEq,GD,c1,af,ad lo'.length (v'++ [v2,v1]).length (by omega),hlenu,b1,b2,b3,and_self,e5,e4,e1,w2',w3,x1,x2,or1,nz,x3,x4,x5]
  exact hR
theorem DU{s:Nat}{x y UU VV V2:List Int}{w2' w1':Int}(ev:Bool)(ld:qQ s x y UU VV V2 w2' w1')(hx:Dg x)(hxl:x.length<=400)(hyl:V2.length+2<=x.length):
  ∃j:Nat,j+ (V2.length+2)=x.length+1/\Wd.Good (lc (val x) (val y) (x.length+1)) (K15 s ev false false (V2++ [w2',w1']) UU (List.replicate j 0) ((j:Int) - 1)):=by
 have hps:=bS s
 have hxlt:=bw hx
 obtain⟨j,hj⟩:∃j:Nat,j+ (V2.length+2)=x.length+1:=⟨x.length+1 - (V2.length+2),by omega⟩
 refine⟨j,hj, ?_⟩
 have hUl:=ld.lu
 have hsplit:UU=UU.take j++ (UU.drop j++ []):=by simp
 have hdl:(UU.drop j).length=V2.length+2:=by simp [hUl];omega
 have hdl2:(UU.take j).length=j:=by simp [hUl];omega
 have hU:=bt (UU.take j) (UU.drop j)
 rw [List.take_append_drop,hdl2] at hU
 have dD:Dg (UU.drop j):=fun a ha=>ld.dU a (List.mem_of_mem_drop ha)
 have dT:=ld.dU.take j
 have hVval:=ld.vval
 have hRlt:val (UU.drop j) < val (V2++ [w2',w1']):=by
  rcases Int.lt_or_le (val (UU.drop j)) (val (V2++ [w2',w1'])) with h | h
  ·exact h
  ·exfalso
   have h1:(4294967296:Int) ^ j * val (V2++ [w2',w1'])<=4294967296 ^ j * val (UU.drop j):=Int.mul_le_mul_of_nonneg_left h (Int.le_of_lt (bP _))
   have h2:=bf dT
   have h3:val x * (2:Int) ^ s < 4294967296 ^ x.length * 2 ^ s:=Int.mul_lt_mul_of_pos_right hxlt hps
   have h4:(4294967296:Int) ^ (V2.length+1) * 2 ^ s<=val y * 2 ^ s:=Int.mul_le_mul_of_nonneg_right ld.ge (by omega)
   have h5:(4294967296:Int) ^ j * (4294967296 ^ (V2.length+1) * 2 ^ s)<=4294967296 ^ j * val (V2++ [w2',w1']):=by
    rw [hVval];exact Int.mul_le_mul_of_nonneg_left h4 (Int.le_of_lt (bP _))
   rw [<-Int.mul_assoc,<-Int.pow_add,show j+ (V2.length+1)=x.length from by omega] at h5
   have:=ld.uval
   omega
 have hw17:=w15 s ld.hs ev false false V2 w2' w1' ld.dV (by omega) ld.h1 j (val UU) j (UU.take j) (UU.drop j) [] [] hdl2 (by omega) hdl dT dD (by intro a ha;cases ha) hRlt (by simp) (by simp only [val,Int.mul_zero,Int.add_zero];omega)
 rw [<-hsplit,List.append_nil] at hw17
 obtain⟨R,r1,e1',Q,e2',Z,Rf,rfl,q1,q2,q3,q4,q5,q6,q7,q8⟩:=hw17
 have hVp: 0 < val y:=by have:=bP (V2.length+1);have:=ld.ge;omega
 have hRdiv:val x * 2 ^ s=val Q * (val y * 2 ^ s)+Rf:=by rw [<-ld.uval,<-hVval];exact q7.symm
 have hRf:Rf= (val x - val Q * val y) * 2 ^ s:=by rw [Int.sub_mul,Int.mul_assoc];omega
 have hz1:val Z=val x - val Q * val y:=by rw [q8,hRf,Int.mul_ediv_cancel _ (by omega)]
 have hz2:val Z < val y:=by
  rw [hVval] at q6
  rw [hRf,<-hz1] at q6
  exact Int.lt_of_mul_lt_mul_right q6 (by omega)
 have hz3:=bf q2
 have hu:=Int.ediv_emod_unique hVp (a:=val x) (q:=val Q) (r:=val Z)
 obtain⟨hq,hzm⟩:=hu.2 ⟨by rw [Int.mul_comm];omega,hz3,hz2⟩
 exact⟨_,r1,e1',Q,e2',Z,rfl,q1,q2,hq.symm,hzm.symm,by omega,by omega⟩
theorem yP(a:Int)(ha: 1<=a/\a < 4294967296):∃n:Nat,Or (.call 142) [AV.t (T.int .u32 a)] []=some [ti (n:Int)]/\n < 32/\a * 2 ^ n < 4294967296:=by
 obtain⟨m,m1,m2,m3,m4⟩:=vZ a (by omega)
 have hm0:m≠0:=by
  intro h
  subst h
  rw [Int.pow_zero] at m3;omega
 have hw:IntKind.i64.wrap (32 - (m:Int))= ((32 - m:Nat):Int):=by rw [aF (by omega)];omega
 refine⟨32 - m,aa ?_,by omega, ?_⟩
 ·rw [Cz]
  simp only [STL,↓reduceIte,Int.reduceBEq,Int.reduceEq,GD,m1,hw]
 ·have hk:=fT (n:=m) m2
  have hp:=bS (32 - m)
  rw [hk,Int.mul_comm]
  exact Int.mul_lt_mul_of_pos_left m3 hp
def QOk(X Y:Int)(L:Nat)(R:List T):Prop:= ∃t e1 Q e2 Z,R= [t,T.lst 1 e2 (ac Z)]/\t.lst? 1=some (e1,ac Q)/\Dg Q/\Dg Z/\val Q=X / Y/\val Z=X % Y/\Q.length<=L/\Z.length<=L
theorem qok{X Y:Int}{L:Nat}{r:Option (List T)}(h:Wd.Good (lc X Y L) r):Wd.Good (QOk X Y L) r:=by
 obtain⟨R,hR,e1,Q,e2,Z,rfl,h1,h2,h3,h4,h5,h6⟩:=h
 exact⟨_,hR,_,e1,Q,e2,Z,rfl,ls1 _ _ _,h1,h2,h3,h4,h5,h6⟩
theorem wM(ex ey:Bool)(x y:List Int)(hx:Dg x)(hy:Dg y)(cx:Can x)(cy:Can y)(hyn:y≠[])(hxl:x.length<=400)(hyl':y.length<=400):
  Wd.Good (QOk (val x) (val y) (x.length+1)) (Or (.call 135) [lu ex x,lu ey y] []):=by
 have hyp:=iY hy cy hyn
 have k1:=gZ ex x (by omega)
 have k2:=gZ ey y (by omega)
 have tx:ay x=x:=by
  have:=iC (eB hx) hx (gr x) cx (fy x);exact this
 have ty:ay y=y:=iC (eB hy) hy (gr y) cy (fy y)
 rw [tx] at k1
 rw [ty] at k2
 have k3:=s96 x y ex ey hx hy cx cy (by omega) (by omega)
 have hx0:=bf hx
 by_cases hlt:val x < val y
 ·have hc:ao (val x) (val y) < 0:=by unfold ao;rw [if_pos hlt];omega
  refine⟨_,aa ?_,T.emp true,true,[],ex,x,rfl,le1 _ _,(by intro a ha;cases ha),hx, ?_, ?_,by simp,by omega⟩
  ·rw [qW]
   simp only [STL,↓reduceIte,Int.reduceBEq,Int.reduceEq,GD,k1,k2,k3,hc]
  ·rw [Int.ediv_eq_zero_of_lt hx0 hlt];rfl
  ·rw [Int.emod_eq_of_lt hx0 hlt]
 ·have hc:¬ao (val x) (val y) < 0:=by unfold ao;rw [if_neg hlt];split <;> omega
  have hlen:y.length<=x.length:=by
   rcases Nat.lt_or_ge x.length y.length with h | h
   ·have:=eQ hx hy cy h;omega
   ·exact h
  by_cases h1:(y.length:Int)=1
  ·match y,h1 with
   | [b],_=>
    have hb:=hy b (by simp)
    have hb0: 0 < b:=by simpa [val] using hyp
    obtain⟨Q,R,q1,q2,q3,q4,q5,q6,q7⟩:=zx ex x b hx (by omega) ⟨hb0,hb.2⟩
    have hvb:val [b]=b:=by simp [val]
    refine⟨_,aa ?_,_,false,Q,false,[R],rfl,ls1 _ _ _,q3,(by intro a ha;simp at ha;subst ha;omega),by rw [hvb];exact q6,by rw [hvb];simp [val];exact q7,by omega,by simp⟩
    rw [qW]
    have h11:(([b]:List Int).length:Int)=1:=by simp
    have hbe:(ac [b])[(0:Nat)]? =some [T.int .u32 b]:=rfl
    have hr:(0:Int)<=0/\(0:Int) < 1:=by omega
    simp only [STL,↓reduceIte,Int.reduceBEq,Int.reduceEq,GD,k1,k2,k3,hc,af,h11,hbe,hr,and_self,q1]
    rfl
  ·have h2: 2<=y.length:=by have:=List.length_pos_iff.2 hyn;omega
   obtain⟨y0,y1,rfl,g1⟩:=cA (l:=y) (n:=y.length - 1) (by omega)
   obtain⟨y',y2,rfl,g2⟩:=cA (l:=y0) (n:=y0.length - 1) (by simp at h2;omega)
   have hrw:y'++ [y2] ++ [y1]=y'++ [y2,y1]:=by simp
   have hy1: 1<=y1:=by
    have:=cy (y'.length+1) (by simp)
    rw [show dat (y'++ [y2] ++ [y1]) (y'.length+1)=y1 from by
     have:=jK (y'++ [y2]) y1 [] (y'.length+1) (by simp)
     simpa using this] at this
    have:=hy y1 (by simp)
    omega
   have hy1b:=hy y1 (by simp)
   rw [hrw] at hy hlen h1 k2 k3 hc⊢
   have hly:(y'++ [y2,y1]).length=y'.length+2:=by simp
   have hyl2:y'.length+2<=x.length:=by omega
   obtain⟨s,c1,c2,c3⟩:=yP y1 ⟨hy1,hy1b.2⟩
   obtain⟨V2,w2',w1',hV2,ld⟩:=uf hx hy hy1 s c2 c3
   obtain⟨j,hj,hg⟩:=DU false ld hx hxl (by omega)
   have hv79:=vS s c2 ey (y'++ [y2,y1]) hy (by omega)
   have hu79:=vS s c2 ex x hx (by omega)
   rw [ld.vv] at hv79
   have hUl:=ld.lu
   generalize bm (2 ^ s) x 0=UU at *
   have e1:(ac (y'++ [y2,y1]))[(((y'.length+1:Nat):Int)).toNat]? =some [T.int .u32 y1]:=by
    have:=bC (y'++ [y2]) y1 [] (y'.length+1) (by simp)
    simpa using this
   have w1:IntKind.i64.wrap (((y'++ [y2,y1]).length:Int) - 1)= ((y'.length+1:Nat):Int):=by rw [aF (by omega)];omega
   have b1: 0<=((y'.length+1:Nat):Int)/\((y'.length+1:Nat):Int) < ((y'++ [y2,y1]).length:Int):=by omega
   have hVl:(V2++ [w2',w1']).length=V2.length+2:=by simp
   have hrwV:V2++ [w2'] ++ [w1'] ++ [0]= (V2++ [w2',w1'])++ [0]:=by simp
   have ktr:Or (.call 134) [lu false (V2++ [w2'] ++ [w1'] ++ [0])] []=some [T.lst 1 false (ac (V2++ [w2',w1']))]:=by
    have:=gZ false (V2++ [w2'] ++ [w1'] ++ [0]) (by simp;omega)
    rw [this]
    have ht:ay (V2++ [w2'] ++ [w1'] ++ [0])=V2++ [w2',w1']:=by
     refine iC (eB (by rw [hrwV];exact Dg.append ld.dV (by intro a ha;simp at ha;subst ha;omega))) ld.dV (gr _) ?_ ?_
     ·intro k hk
      obtain rfl:k=V2.length+1:=by omega
      have:=jK (V2++ [w2']) w1' [] (V2.length+1) (by simp)
      rw [show V2++ [w2'] ++ [w1']=V2++ [w2',w1'] from by simp] at this
      rw [this]
      have:=ld.h1;omega
     ·rw [fy,hrwV,bt];simp [val]
    rw [ht]
   refine(qok hg).step fun R hR=>aa ?_
   have hmk:ap (j:Int) (j:Int)=some ():=by unfold ap lim;rw [if_pos (by omega)]
   have wj:IntKind.i64.wrap ((UU.length:Int) - ((V2++ [w2',w1']).length:Int))= (j:Int):=by rw [aF (by omega)];omega
   have wk:IntKind.i64.wrap ((j:Int) - 1)= (j:Int) - 1:=aF (by omega)
   have hzr:List.replicate ((j:Int)).toNat [T.int IntKind.u32 (0:Int)]=ac (List.replicate j 0):=by simp [ac]
   have wx:IntKind.i64.wrap ((x.length:Int)+1)= ((x.length+1:Nat):Int):=nx _ (by omega)
   have hcl:¬(UU.length:Int) < ((x.length+1:Nat):Int):=by omega
   have n10:Or mC [lu ex x,I (s:Int),lu false (V2++ [w2',w1']),o0] [Blk.sl false 1 false (ac UU)]=some R:=by
    refine aa ?_
    rw [Dr]
    simp only [STL,↓reduceIte,Int.reduceBEq,Int.reduceEq,GD,af,wx,hcl,wj,hmk,hzr,wk]
    exact hR
   rw [qW]
   simp only [STL,↓reduceIte,Int.reduceBEq,Int.reduceEq,GD,k1,k2,k3,hc,af,h1,w1,b1,and_self,e1,c1,hv79,ktr,hu79]
   exact n10
theorem s93(x y:Int)(hx:(dz x).length<=300)(hy:(dz y).length<=300)(hy0:y≠0)(hd:y ∣ x):
  Or (.call 108) [LZ x,LZ y] []=some [tb (decide (x / y < 0)),T.str (aI (dz (x / y))),tb false,T.str (aI (dz 0)),ti 0]:=by
 have k1:=gA y
 have k2:=dE x (by omega)
 have k3:=dE y (by omega)
 obtain⟨R,k4,t,e1,Q,e2,Z,rfl,t1,d1,d2,v1,v2,l1,l2⟩:=wM false false (dz x) (dz y) (aZ x) (aZ y) (cg x) (cg y) (fun h=>hy0 (dz_nil.1 h)) (by omega) (by omega)
 rw [bc,bc] at v1 v2
 obtain⟨c,rfl⟩:=hd
 have hq:y * c / y=c:=Int.mul_ediv_cancel_left _ hy0
 have hyn: 0 < y.natAbs:=by omega
 have e1':((y * c).natAbs:Int) / (y.natAbs:Int)= (c.natAbs:Int):=by
  rw [Int.natAbs_mul,Int.natCast_mul,Int.mul_ediv_cancel_left _ (by omega)]
 have e2':((y * c).natAbs:Int) % (y.natAbs:Int)=0:=by
  rw [Int.natAbs_mul,Int.natCast_mul,Int.mul_emod_right]
 rw [e1'] at v1
 rw [e2'] at v2
 have k5:=s90 (!decide (y * c < 0)==decide (y < 0)) e1 Q d1 (by omega)
 have k6:=s90 (decide (y * c < 0)) e2 Z d2 (by omega)
 have hv5:(if(!decide (y * c < 0)==decide (y < 0))=true then -val Q else val Q)=c:=by
  rw [v1]
  rcases Int.lt_trichotomy c 0 with hc | hc | hc
  ·rcases Int.lt_or_le y 0 with h | h
   ·have:=Int.mul_pos_of_neg_of_neg h hc
    have h':¬y * c < 0:=by omega
    simp [h,h'];omega
   ·have:=Int.mul_neg_of_pos_of_neg (show 0 < y by omega) hc
    have h':¬y < 0:=by omega
    simp [this,h'];omega
  ·subst hc;simp
  ·rcases Int.lt_or_le y 0 with h | h
   ·have:=Int.mul_neg_of_neg_of_pos h hc
    simp [h,this];omega
   ·have:=Int.mul_pos (show 0 < y by omega) hc
    have h':¬y < 0:=by omega
    have h'':¬y * c < 0:=by omega
    simp [h',h''];omega
 have hv6:(if decide (y * c < 0)=true then -val Z else val Z)=0:=by rw [v2];simp
 rw [hv5] at k5
 rw [hv6] at k6
 have k7:=gA 0
 have hsg:y.sign≠0:=by
  intro h
  exact hy0 (Int.sign_eq_zero_iff_zero.1 h)
 unfold RZ at k5 k6
 have h00:decide ((0:Int) < 0)=false:=rfl
 rw [h00] at k6
 have k7':Or (.call 70) [LS false (dz 0)] []=some [ti 0]:=k7
 rw [hq]
 refine aa ?_
 rw [e93]
 have hs0:¬(0:Int) < 0:=by omega
 simp only [STL,↓reduceIte,Int.reduceBEq,Int.reduceEq,GD,k1,hsg,k2,k3,k4,t1,k5,k6,k7',hs0]
theorem sd(a b:Nat):Nat.gcd b (a % b)=Nat.gcd a b:=by rw [Nat.gcd_comm b,<-Nat.gcd_rec,Nat.gcd_comm]
theorem n92(bl:Bool)(y0:ByteArray):∀(m:Nat) (x y:Int) (ex ey:Bool),y.natAbs<=m->(dz x).length<=300->(dz y).length<=300->
  Or oS [r0,lu ex (dz x),lu ey (dz y)] [Blk.box [B bl,AV.t (T.str y0)]]=some (RZ (Nat.gcd x.natAbs y.natAbs:Nat))
 | m,x,y,ex,ey,hm,hx,hy=>by
  by_cases hy0:y=0
  ·subst hy0
   have k:=s90 false ex (dz x) (aZ x) (by omega)
   simp only [Bool.false_eq_true,↓reduceIte,bc] at k
   unfold RZ at k
   refine aa ?_
   rw [uv]
   have h0:¬((dz 0).length:Int) > 0:=by
    have:dz 0= []:=rfl
    rw [this];simp
   have hg:((Nat.gcd x.natAbs (0:Int).natAbs:Nat):Int)= (x.natAbs:Int):=by rw [Int.natAbs_zero,Nat.gcd_zero_right]
   rw [hg]
   simp only [STL,↓reduceIte,Int.reduceBEq,Int.reduceEq,GD,af,h0,k]
   rfl
  ·have hyl:((dz y).length:Int) > 0:=by
    have:dz y≠[]:=fun h=>hy0 (dz_nil.1 h)
    have:=List.length_pos_iff.2 this
    omega
   obtain⟨R,k4,t,e1,Q,e2,Z,rfl,t1,d1,d2,v1,v2,l1,l2⟩:=wM ex ey (dz x) (dz y) (aZ x) (aZ y) (cg x) (cg y) (fun h=>hy0 (dz_nil.1 h)) (by omega) (by omega)
   rw [bc,bc] at v2
   have k5:=gZ e2 Z (by omega)
   have hlt:x.natAbs % y.natAbs < y.natAbs:=Nat.mod_lt _ (by omega)
   have hz:ay Z=dz ((x.natAbs % y.natAbs:Nat):Int):=tQ d2 (by rw [v2,Int.natAbs_natCast];first | rfl | exact(Int.natCast_emod _ _).symm | simp)
   rw [hz] at k5
   match m with
   | 0=>omega
   | m+1=>
    have hln:(dz ((x.natAbs % y.natAbs:Nat):Int)).length<=300:=by
     have:=nH (x:=y) (y:=((x.natAbs % y.natAbs:Nat):Int)) (by rw [Int.natAbs_natCast];omega)
     omega
    have:=n92 bl y0 m y ((x.natAbs % y.natAbs:Nat):Int) ey e2 (by rw [Int.natAbs_natCast];omega) hy hln
    rw [Int.natAbs_natCast,sd] at this
    refine aa ?_
    rw [uv]
    simp only [STL,↓reduceIte,Int.reduceBEq,Int.reduceEq,GD,af,hyl,k4,t1,k5]
    exact this
theorem s92(x y:Int)(hx:(dz x).length<=300)(hy:(dz y).length<=300):Or (.call 107) [LZ x,LZ y] []=some (RZ (Nat.gcd x.natAbs y.natAbs:Nat)):=by
 have k2:=dE x (by omega)
 have k3:=dE y (by omega)
 have k4:=gZ false (dz x) (by omega)
 have k5:=gZ false (dz y) (by omega)
 have tx:ay (dz x)=dz x:=iC (eB (aZ x)) (aZ x) (gr _) (cg x) (fy _)
 have ty:ay (dz y)=dz y:=iC (eB (aZ y)) (aZ y) (gr _) (cg y) (fy _)
 rw [tx] at k4
 rw [ty] at k5
 have:=n92 false ⟨#[]⟩ y.natAbs x y false false (Nat.le_refl _) hx hy
 refine aa ?_
 rw [e92]
 simp only [STL,↓reduceIte,Int.reduceBEq,Int.reduceEq,GD,k2,k3,k4,k5]
 exact this
open Go Go.Aev Go.Aev.Gen Go.Aev.Wd
theorem s53(x y:Int)(hx:(dz x).length<=300)(hy:(dz y).length<=300):Or (.call 66) [LZ x,LZ y] []=some (RZ (x * y)):=by
 have k:=s95 x y hx hy
 refine aa ?_
 rw [e53]
 simp only [STL,↓reduceIte,Int.reduceBEq,Int.reduceEq,GD,k]
 rfl
theorem s52(x y:Int)(hx:(dz x).length<=900)(hy:(dz y).length<=900)(hz:(dz (x+y)).length<=900):Or (.call 102) [LZ x,LZ y] []=some (RZ (x+y)):=by
 have k:=s94 x y hx hy hz
 refine aa ?_
 rw [e52]
 simp only [STL,↓reduceIte,Int.reduceBEq,Int.reduceEq,GD,k]
 rfl
def NQ(q:Rat):List T:=RZ q.num++RZ (q.den:Int)
abbrev EQ(q:Rat):AV:=AV.agg [B (decide (q.num < 0)),AV.t (T.str (aI (dz q.num))),B (decide ((q.den:Int) < 0)),AV.t (T.str (aI (dz (q.den:Int))))]
theorem Ae(q:Rat):(q.den:Int).sign=1:=Int.sign_eq_one_of_pos (by have:=q.den_pos;omega)
theorem s54(q:Rat):Or (.call 67) [EQ q] []=some (RZ (q.den:Int)):=by
 have k:=gA (q.den:Int)
 rw [Ae] at k
 refine aa ?_
 rw [e54]
 have h1:¬(1:Int)=0:=by omega
 simp only [STL,↓reduceIte,Int.reduceBEq,Int.reduceEq,GD,k,h1]
 rfl
theorem s51(x y:Int)(hx:(dz x).length<=300)(hy:(dz y).length<=300)(hy0:y≠0):Or (.call 68) [LZ x,LZ y] []=some (NQ (Rat.divInt x y)):=by
 obtain⟨p1,p2⟩:=qR (u:=x) hy0
 have hg0:((Nat.gcd x.natAbs y.natAbs:Nat):Int)≠0:=by
  have: 0 < Nat.gcd x.natAbs y.natAbs:=Nat.gcd_pos_of_pos_right _ (by omega)
  omega
 have hgle:(dz ((Nat.gcd x.natAbs y.natAbs:Nat):Int)).length<=300:=by
  have h1:Nat.gcd x.natAbs y.natAbs<=y.natAbs:=Nat.gcd_le_right _ (by omega)
  have:=nH (x:=y) (y:=((Nat.gcd x.natAbs y.natAbs:Nat):Int)) (by rw [Int.natAbs_natCast];exact h1)
  omega
 have d1:((Nat.gcd x.natAbs y.natAbs:Nat):Int) ∣ x:=Int.ofNat_dvd_left.2 (Nat.gcd_dvd_left _ _)
 have d2:((Nat.gcd x.natAbs y.natAbs:Nat):Int) ∣ y:=Int.ofNat_dvd_left.2 (Nat.gcd_dvd_right _ _)
 have hgcd:((Int.gcd x y:Nat):Int)= ((Nat.gcd x.natAbs y.natAbs:Nat):Int):=rfl
 have k1:=gA y
 by_cases hn:y < 0
 ·obtain⟨q1,q2⟩:=p1 hn
  rw [hgcd,Int.tdiv_eq_ediv_of_dvd d1,<-Int.neg_ediv_of_dvd d1] at q1
  rw [hgcd,Int.tdiv_eq_ediv_of_dvd d2,<-Int.neg_ediv_of_dvd d2] at q2
  have k2:=rL x
  have k3:=rL y
  have k4:=s92 (-x) (-y) (by rw [kY];exact hx) (by rw [kY];exact hy)
  rw [Int.natAbs_neg,Int.natAbs_neg] at k4
  have k5:=s93 (-x) _ (by rw [kY];exact hx) hgle hg0 ((Int.dvd_neg).2 d1)
  have k6:=s93 (-y) _ (by rw [kY];exact hy) hgle hg0 ((Int.dvd_neg).2 d2)
  rw [Int.sign_eq_neg_one_of_neg hn] at k1
  have h1:(-1:Int) < 0:=by omega
  unfold RZ at k2 k3 k4
  refine aa ?_
  rw [e51]
  unfold NQ RZ
  rw [q1,q2]
  simp only [STL,↓reduceIte,Int.reduceBEq,Int.reduceEq,GD,k1,h1,k2,k3,k4,k5,k6]
  rfl
 ·obtain⟨q1,q2⟩:=p2 hn
  rw [hgcd,Int.tdiv_eq_ediv_of_dvd d1] at q1
  rw [hgcd,Int.tdiv_eq_ediv_of_dvd d2] at q2
  have k4:=s92 x y hx hy
  have k5:=s93 x _ hx hgle hg0 d1
  have k6:=s93 y _ hy hgle hg0 d2
  rw [Int.sign_eq_one_of_pos (by omega)] at k1
  have h1:¬(1:Int) < 0:=by omega
  unfold RZ at k4
  refine aa ?_
  rw [e51]
  unfold NQ RZ
  rw [q1,q2]
  simp only [STL,↓reduceIte,Int.reduceBEq,Int.reduceEq,GD,k1,h1,k4,k5,k6]
  rfl
theorem s20(x:Int)(h: -9223372036854775808<=x/\x < 9223372036854775808):Or (.call 32) [I x] []=some (NQ (x:Rat)):=by
 have k1:=s50 x h
 have k2:=s50 1 (by omega)
 unfold RZ at k1 k2
 refine aa ?_
 rw [e20]
 simp only [STL,↓reduceIte,Int.reduceBEq,Int.reduceEq,GD,k1,k2]
 rfl
theorem ww{x:Int}(h: -9223372036854775808<=x/\x < 9223372036854775808):(dz x).length<=2:=by
 refine nR ?_
 have:(4294967296:Int) ^ 2=18446744073709551616:=by decide
 rw [this];omega
theorem s88(x y:Int)(hx: -9223372036854775808<=x/\x < 9223372036854775808)(hy: -9223372036854775808<=y/\y < 9223372036854775808)(hy0:y≠0):Or (.call 30) [AV.agg [I x,I y]] []=some (NQ (Rat.divInt x y)):=by
 have k1:=s50 x hx
 have k2:=s50 y hy
 have k3:=s51 x y (by have:=ww hx;omega) (by have:=ww hy;omega) hy0
 unfold NQ at k3⊢
 unfold RZ at k1 k2 k3⊢
 refine aa ?_
 rw [e88]
 simp only [List.cons_append,List.nil_append] at k3⊢
 simp only [STL,↓reduceIte,Int.reduceBEq,Int.reduceEq,GD,k1,k2,k3]
theorem QB.ln{m:Nat}{q:Rat}(h:QB m q)(hm:m<=6300):(dz q.num).length<=200/\(dz (q.den:Int)).length<=200:=⟨pN (h.lq hm).1,pN (h.lq hm).2⟩
theorem eS{m:Nat}{z:Int}(hm:m<=6300)(h:z.natAbs<=2 ^ m):(dz z).length<=200:=pN (cZ hm h)
theorem BY{q:Rat}(h:q≠0):q.num≠0:=fun h0=>h (Rat.num_eq_zero.1 h0)
theorem D7(p:Rat){q:Rat}(hq:q≠0):Rat.divInt (p.num * (q.den:Int)) ((p.den:Int) * q.num)=p / q:=by
 conv=>rhs;rw [<-Rat.num_divInt_den p,<-Rat.num_divInt_den q]
 rw [Rat.div_def,Rat.inv_divInt,Rat.divInt_mul_divInt]
theorem Ce(p q:Rat):ao (p.num * (q.den:Int)) (q.num * (p.den:Int))=if p < q then -1 else if p=q then 0 else 1:=by
 unfold ao
 have h1:(p.num * (q.den:Int) < q.num * (p.den:Int))↔p < q:=(Rat.lt_iff p q).symm
 have h2:(q.num * (p.den:Int) < p.num * (q.den:Int))↔q < p:=(Rat.lt_iff q p).symm
 have h3:(p.num * (q.den:Int)=q.num * (p.den:Int))↔p=q:=by
  constructor
  ·intro h
   have a:¬p < q:=fun h'=>by have:=h1.2 h';omega
   have b:¬q < p:=fun h'=>by have:=h2.2 h';omega
   exact Rat.le_antisymm (Rat.not_lt.1 b) (Rat.not_lt.1 a)
  ·rintro rfl;rfl
 simp only [h1,h3]
theorem s44(x:Int)(h: -9223372036854775808 < x/\x < 9223372036854775808):Or (.call 99) [I x] []=some [T.int .u64 (x.natAbs:Int)]:=by
 refine aa ?_
 rw [e44]
 by_cases hn:x < 0
 ·have hw:IntKind.u64.wrap (0 - IntKind.u64.wrap x)= (x.natAbs:Int):=by simp only [d8];omega
  simp only [STL,↓reduceIte,Int.reduceBEq,Int.reduceEq,GD,hn,hw]
 ·have hw:IntKind.u64.wrap x= (x.natAbs:Int):=by rw [d8];omega
  simp only [STL,↓reduceIte,Int.reduceBEq,Int.reduceEq,GD,hn,hw]
theorem n43:∀(m:Nat) (a b:Nat),b<=m->a < 9223372036854775808->b < 9223372036854775808->Or oa [u6 (a:Int),u6 (b:Int)] []=some [T.int .u64 (Nat.gcd a b:Nat)]
 | m,a,b,hm,ha,hb=>by
  refine aa ?_
  rw [D5]
  by_cases h0:b=0
  ·subst h0
   have h0:((0:Nat):Int)=0:=rfl
   simp only [STL,↓reduceIte,Int.reduceBEq,Int.reduceEq,GD,h0,Nat.gcd_zero_right]
  ·have h0':¬(b:Int)=0:=by omega
   have hlt:a % b < b:=Nat.mod_lt _ (by omega)
   have ht:(a:Int).tmod (b:Int)= ((a % b:Nat):Int):=rfl
   match m with
   | 0=>omega
   | m+1=>
    have:=n43 m b (a % b) (by omega) hb (by omega)
    rw [sd] at this
    simp only [STL,↓reduceIte,Int.reduceBEq,Int.reduceEq,GD,h0',ht]
    exact this
theorem s16(x:Fr):Or (.call 59) [AV.agg [I x.1,I x.2]] []=some [ti (if FrR x then 0 else 3),ti 0]:=by
 refine aa ?_
 rw [e16]
 by_cases hb:((x.2 < 1\/x.2 > 1073741824)\/x.1 < -1073741824)\/x.1 > 1073741824
 ·have hn:¬FrR x:=by unfold FrR;omega
  rw [if_neg hn]
  simp only [cor,<-Bool.decide_or]
  simp only [STL,↓reduceIte,Int.reduceBEq,Int.reduceEq,GD,gdF,hb,decide_true]
  rfl
 ·have k1:=s44 x.1 (by omega)
  have k2:=s44 x.2 (by omega)
  have k3:Or (.call 98) [u6 (x.1.natAbs:Int),u6 (x.2.natAbs:Int)] []=some [T.int .u64 (Nat.gcd x.1.natAbs x.2.natAbs:Nat)]:=by
   refine aa ?_
   rw [e43]
   exact n43 _ _ _ (Nat.le_refl _) (by omega) (by omega)
  have hg:(((Nat.gcd x.1.natAbs x.2.natAbs:Nat):Int)=1)↔Int.gcd x.1 x.2=1:=by
   show _↔Nat.gcd _ _=1
   omega
  simp only [cor,<-Bool.decide_or]
  by_cases h1:Int.gcd x.1 x.2=1
  ·have hr:FrR x:=by unfold FrR;exact⟨by omega,by omega,by omega,by omega,h1⟩
   have h1':=hg.2 h1
   rw [if_pos hr]
   simp only [STL,↓reduceIte,Int.reduceBEq,Int.reduceEq,GD,hb,decide_false,k1,k2,k3,h1']
   try rfl
  ·have hr:¬FrR x:=fun h=>h1 h.2.2.2.2
   have h1':¬((Nat.gcd x.1.natAbs x.2.natAbs:Nat):Int)=1:=fun h=>h1 (hg.1 h)
   have h1b:(((Nat.gcd x.1.natAbs x.2.natAbs:Nat):Int)==1)=false:=by simpa using h1'
   rw [if_neg hr]
   simp only [STL,↓reduceIte,Int.reduceBEq,Int.reduceEq,GD,hb,decide_false,k1,k2,k3,h1',h1b]
   try rfl
open Go Go.Aev Go.Aev.Gen Go.Aev.Wd
abbrev Nm:=Option Rat
def nv:Nm->Rat
 | none=>0
 | some q=>q
def nc:Nm->Bool
 | none=>false
 | some q=>decide ((q.den:Int) < 0)
def nd:Nm->ByteArray
 | none=>ByteArray.mk #[]
 | some q=>aI (dz (q.den:Int))
abbrev EN(x:Nm):AV:=AV.agg [B (decide ((nv x).num < 0)),AV.t (T.str (aI (dz (nv x).num))),B (nc x),AV.t (T.str (nd x))]
def NC(x:Nm):List T:= [tb (decide ((nv x).num < 0)),T.str (aI (dz (nv x).num)),tb (nc x),T.str (nd x)]
theorem Cd(x:Nm):NC x= [tb (decide ((nv x).num < 0)),T.str (aI (dz (nv x).num)),tb (nc x),T.str (nd x)]:=rfl
theorem oY(q:Rat):NC (some q)=NQ q:=rfl
theorem BR(q:Rat):nv (some q)=q:=rfl
theorem nQ:nv none=0:=rfl
theorem d54(x:Nm):Or (.call 67) [EN x] []=some (RZ ((nv x).den:Int)):=by
 cases x with
 | some q=>exact s54 q
 | none=>
  have k:=gA 0
  have k0:=s50 1 (by omega)
  have hz:LZ 0=AV.agg [B false,AV.t (T.str (ByteArray.mk #[]))]:=rfl
  have he:EN none=AV.agg [B false,AV.t (T.str (ByteArray.mk #[])),B false,AV.t (T.str (ByteArray.mk #[]))]:=rfl
  have h1:((nv none).den:Int)=1:=rfl
  have h0:Int.sign 0=0:=rfl
  rw [hz,h0] at k
  rw [he,h1]
  unfold RZ at k0⊢
  refine aa ?_
  rw [e54]
  simp only [STL,↓reduceIte,Int.reduceBEq,Int.reduceEq,GD,k,k0]
theorem t32(x:Int)(h: -9223372036854775808<=x/\x < 9223372036854775808):Or (.call 32) [I x] []=some (NC (some (x:Rat))):=s20 x h
theorem t30(x y:Int)(hx: -9223372036854775808<=x/\x < 9223372036854775808)(hy: -9223372036854775808<=y/\y < 9223372036854775808)(hy0:y≠0):
  Or (.call 30) [AV.agg [I x,I y]] []=some (NC (some (Rat.divInt x y))):=s88 x y hx hy hy0
theorem t63{m k:Nat}{x y:Nm}(hp:QB m (nv x))(hq:QB k (nv y))(h:m+k+1<=6300):Or (.call 63) [EN x,EN y] []=some (NC (some (nv x+nv y))):=by
 obtain⟨a1,a2⟩:=QB.ln hp (by omega)
 obtain⟨b1,b2⟩:=QB.ln hq (by omega)
 have l1:(dz ((nv x).num * ((nv y).den:Int))).length<=200:=eS (m:=m+k) (by omega) (by rw [Int.natAbs_mul,Int.natAbs_natCast];exact bF hp.1 hq.2)
 have l2:(dz ((nv y).num * ((nv x).den:Int))).length<=200:=eS (m:=k+m) (by omega) (by rw [Int.natAbs_mul,Int.natAbs_natCast];exact bF hq.1 hp.2)
 have l3:(dz ((nv x).num * ((nv y).den:Int)+ (nv y).num * ((nv x).den:Int))).length<=200:=eS h (nD hp hq)
 have l4:(dz (((nv x).den:Int) * ((nv y).den:Int))).length<=200:=eS (m:=m+k) (by omega) (by rw [Int.natAbs_mul,Int.natAbs_natCast,Int.natAbs_natCast];exact bF hp.2 hq.2)
 have k1:=d54 x
 have k2:=d54 y
 have k3:=s53 (nv x).num ((nv y).den:Int) (by omega) (by omega)
 have k4:=s53 (nv y).num ((nv x).den:Int) (by omega) (by omega)
 have k5:=s52 ((nv x).num * ((nv y).den:Int)) ((nv y).num * ((nv x).den:Int)) (by omega) (by omega) (by omega)
 have k6:=s53 ((nv x).den:Int) ((nv y).den:Int) (by omega) (by omega)
 have k7:=s51 ((nv x).num * ((nv y).den:Int)+ (nv y).num * ((nv x).den:Int)) (((nv x).den:Int) * ((nv y).den:Int)) (by omega) (by omega) (jI _ _)
 rw [rf] at k7
 rw [oY]
 unfold NQ at k7⊢
 unfold RZ at k1 k2 k3 k4 k5 k6 k7⊢
 refine aa ?_
 rw [e21]
 simp only [List.cons_append,List.nil_append] at k7⊢
 simp only [STL,↓reduceIte,Int.reduceBEq,Int.reduceEq,GD,k1,k2,k3,k4,k5,k6,k7]
theorem yI(x:Nm):Or (.call 120) [EN x] []=some (NC (some (-(nv x)))):=by
 have k1:=rL (nv x).num
 have k2:=d54 x
 rw [oY]
 unfold NQ
 rw [lP,kF]
 unfold RZ at k1 k2⊢
 refine aa ?_
 rw [e49]
 simp only [STL,↓reduceIte,Int.reduceBEq,Int.reduceEq,GD,k1,k2]
 rfl
theorem Df{m k:Nat}{x y:Nm}(hp:QB m (nv x))(hq:QB k (nv y))(h:m+k+1<=6300):Or (.call 121) [EN x,EN y] []=some (NC (some (nv x - nv y))):=by
 have k1:=yI y
 have k2:=t63 (x:=x) (y:=some (-(nv y))) hp hq.neg h
 have e:nv x+nv (some (-(nv y)))=nv x - nv y:=by rw [BR,Rat.sub_eq_add_neg]
 rw [e] at k2
 rw [Cd] at k1 k2⊢
 refine aa ?_
 rw [e19]
 simp only [STL,↓reduceIte,Int.reduceBEq,Int.reduceEq,GD,k1,k2]
theorem t64{m k:Nat}{x y:Nm}(hp:QB m (nv x))(hq:QB k (nv y))(h:m+k<=6300):Or (.call 64) [EN x,EN y] []=some (NC (some (nv x * nv y))):=by
 obtain⟨a1,a2⟩:=QB.ln hp (by omega)
 obtain⟨b1,b2⟩:=QB.ln hq (by omega)
 have l1:(dz ((nv x).num * (nv y).num)).length<=200:=eS (m:=m+k) (by omega) (by rw [Int.natAbs_mul];exact bF hp.1 hq.1)
 have l4:(dz (((nv x).den:Int) * ((nv y).den:Int))).length<=200:=eS (m:=m+k) (by omega) (by rw [Int.natAbs_mul,Int.natAbs_natCast,Int.natAbs_natCast];exact bF hp.2 hq.2)
 have k1:=d54 x
 have k2:=d54 y
 have k3:=s53 (nv x).num (nv y).num (by omega) (by omega)
 have k6:=s53 ((nv x).den:Int) ((nv y).den:Int) (by omega) (by omega)
 have k7:=s51 ((nv x).num * (nv y).num) (((nv x).den:Int) * ((nv y).den:Int)) (by omega) (by omega) (jI _ _)
 rw [pw] at k7
 rw [oY]
 unfold NQ at k7⊢
 unfold RZ at k1 k2 k3 k6 k7⊢
 refine aa ?_
 rw [e87]
 simp only [List.cons_append,List.nil_append] at k7⊢
 simp only [STL,↓reduceIte,Int.reduceBEq,Int.reduceEq,GD,k1,k2,k3,k6,k7]
theorem t83{m k:Nat}{x y:Nm}(hp:QB m (nv x))(hq:QB k (nv y))(h:m+k<=6300)(hq0:nv y≠0):Or (.call 83) [EN x,EN y] []=some (NC (some (nv x / nv y)))/\QB (m+k) (nv x / nv y):=by
 obtain⟨a1,a2⟩:=QB.ln hp (by omega)
 obtain⟨b1,b2⟩:=QB.ln hq (by omega)
 have n1:((nv x).num * ((nv y).den:Int)).natAbs<=2 ^ (m+k):=by rw [Int.natAbs_mul,Int.natAbs_natCast];exact bF hp.1 hq.2
 have n2:(((nv x).den:Int) * (nv y).num).natAbs<=2 ^ (m+k):=by rw [Int.natAbs_mul,Int.natAbs_natCast];exact bF hp.2 hq.1
 have hne:((nv x).den:Int) * (nv y).num≠0:=Int.mul_ne_zero (by have:=(nv x).den_pos;omega) (BY hq0)
 have l1:=eS h n1
 have l2:=eS h n2
 have k1:=d54 x
 have k2:=d54 y
 have k3:=s53 (nv x).num ((nv y).den:Int) (by omega) (by omega)
 have k6:=s53 ((nv x).den:Int) (nv y).num (by omega) (by omega)
 have k7:=s51 ((nv x).num * ((nv y).den:Int)) (((nv x).den:Int) * (nv y).num) (by omega) (by omega) hne
 have kq:=QB.divInt hne n1 n2
 rw [D7 _ hq0] at k7 kq
 refine⟨?_,kq⟩
 rw [oY]
 unfold NQ at k7⊢
 unfold RZ at k1 k2 k3 k6 k7⊢
 refine aa ?_
 rw [e23]
 simp only [List.cons_append,List.nil_append] at k7⊢
 simp only [STL,↓reduceIte,Int.reduceBEq,Int.reduceEq,GD,k1,k2,k3,k6,k7]
def cq(p q:Rat):Int:=if p < q then -1 else if p=q then 0 else 1
theorem t29{m k:Nat}{x y:Nm}(hp:QB m (nv x))(hq:QB k (nv y))(h:m+k<=6300):Or (.call 29) [EN x,EN y] []=some [ti (cq (nv x) (nv y))]:=by
 obtain⟨a1,a2⟩:=QB.ln hp (by omega)
 obtain⟨b1,b2⟩:=QB.ln hq (by omega)
 have l1:=eS (z:=(nv x).num * ((nv y).den:Int)) h (by rw [Int.natAbs_mul,Int.natAbs_natCast];exact bF hp.1 hq.2)
 have l2:=eS (m:=k+m) (z:=(nv y).num * ((nv x).den:Int)) (by omega) (by rw [Int.natAbs_mul,Int.natAbs_natCast];exact bF hq.1 hp.2)
 have k1:=d54 x
 have k2:=d54 y
 have k3:=s53 (nv x).num ((nv y).den:Int) (by omega) (by omega)
 have k4:=s53 (nv y).num ((nv x).den:Int) (by omega) (by omega)
 have k5:=zy ((nv x).num * ((nv y).den:Int)) ((nv y).num * ((nv x).den:Int)) (by omega) (by omega)
 rw [Ce] at k5
 unfold cq
 unfold RZ at k1 k2 k3 k4
 refine aa ?_
 rw [e22]
 simp only [STL,↓reduceIte,Int.reduceBEq,Int.reduceEq,GD,k1,k2,k3,k4,k5]
theorem t33(x:Nm):Or (.call 33) [EN x] []=some [ti (nv x).num.sign]:=by
 have k:=gA (nv x).num
 refine aa ?_
 rw [BD]
 simp only [STL,↓reduceIte,Int.reduceBEq,Int.reduceEq,GD,k]
def jA(q:Rat):Bool:=decide (-1073741824<=q.num/\q.num<=1073741824/\(q.den:Int)<=1073741824)
theorem zj(q:Rat):Int.gcd q.num (q.den:Int)=1:=q.reduced
theorem wZ(q:Rat):FrR (q.num,(q.den:Int))↔jA q=true:=by
 have h1:=q.den_pos
 have h2:=zj q
 unfold FrR jA
 rw [decide_eq_true_iff]
 constructor
 ·rintro⟨a,b,c,d,_⟩;exact⟨c,d,b⟩
 ·rintro⟨a,b,c⟩;exact⟨by dsimp only;omega,c,a,b,h2⟩
theorem t43{m:Nat}{x:Nm}(hq:QB m (nv x))(h:m<=6300):Or (.call 43) [EN x] []=some (if jA (nv x)=true then [ti (nv x).num,ti ((nv x).den:Int),tb true] else [ti 0,ti 0,tb false]):=by
 obtain⟨a1,a2⟩:=QB.ln hq h
 have k1:=s56 (nv x).num (by omega)
 have k2:=d54 x
 have k3:=s56 ((nv x).den:Int) (by omega)
 have k4:=s16 ((nv x).num,((nv x).den:Int))
 have hd:=(nv x).den_pos
 unfold RZ at k2
 refine aa ?_
 rw [e24]
 by_cases hf:jA (nv x)=true
 ·have hr:=(wZ _).2 hf
  rw [if_pos hr] at k4
  rw [if_pos hf]
  unfold jA at hf
  have hf':=of_decide_eq_true hf
  rw [if_pos (by omega)] at k1 k3
  simp only [STL,↓reduceIte,Int.reduceBEq,Int.reduceEq,GD,k1,k2,k3,k4]
 ·have hr:¬FrR ((nv x).num,((nv x).den:Int)):=fun h=>hf ((wZ _).1 h)
  rw [if_neg hr] at k4
  rw [if_neg hf]
  by_cases h1: -9223372036854775808<=(nv x).num/\(nv x).num < 9223372036854775808
  ·by_cases h2: -9223372036854775808<=((nv x).den:Int)/\((nv x).den:Int) < 9223372036854775808
   ·rw [if_pos h1] at k1
    rw [if_pos h2] at k3
    have h30:((3:Int)==0)=false:=rfl
    simp only [STL,↓reduceIte,Int.reduceBEq,Int.reduceEq,GD,k1,k2,k3,k4,h30]
    try rfl
   ·rw [if_pos h1] at k1
    rw [if_neg h2] at k3
    simp only [STL,↓reduceIte,Int.reduceBEq,Int.reduceEq,GD,gdF,k1,k2,k3]
    try rfl
  ·rw [if_neg h1] at k1
   by_cases h2: -9223372036854775808<=((nv x).den:Int)/\((nv x).den:Int) < 9223372036854775808
   ·rw [if_pos h2] at k3
    simp only [STL,↓reduceIte,Int.reduceBEq,Int.reduceEq,GD,gdF,k1,k2,k3]
    try rfl
   ·rw [if_neg h2] at k3
    simp only [STL,↓reduceIte,Int.reduceBEq,Int.reduceEq,GD,gdF,k1,k2,k3]
    try rfl
def aM(l:List Nm):List (List T):=l.map NC
theorem fM(l:List Nm):(aM l).length=l.length:=by simp [aM]
theorem fY{l:List Nm}{i:Nat}{x:Nm}(h:l[i]? =some x):(aM l)[((i:Nat):Int).toNat]? =some [tb (decide ((nv x).num < 0)),T.str (aI (dz (nv x).num)),tb (nc x),T.str (nd x)]:=by
 simp [aM,h,NC]
theorem C8{l:List Nm}{i:Nat}(hi:i < l.length)(x:Nm):aB ((i:Nat):Int).toNat 0 [tb (decide ((nv x).num < 0)),T.str (aI (dz (nv x).num)),tb (nc x),T.str (nd x)] (aM l)=some (aM (l.set i x)):=by
 have h1:(aM l)[((i:Nat):Int).toNat]? =some (NC l[i]):=by simp [aM,hi]
 simp only [aB,h1]
 simp [repl,aM,NC,List.map_set]
theorem zO(a b:List Nm):aM a++aM b=aM (a++b):=by simp [aM]
theorem DY(x:Nm): [[tb (decide ((nv x).num < 0)),T.str (aI (dz (nv x).num)),tb (nc x),T.str (nd x)]]=aM [x]:=rfl
theorem CL(n:Nat):List.replicate n [tb false,T.str (ByteArray.mk #[]),tb false,T.str (ByteArray.mk #[])]=aM (List.replicate n none):=by
 unfold aM
 rw [List.map_replicate];rfl
end Go.Aev.Wd.Lg
