import Derived.Test.YticjdhgokemdlaaGreatMostWeakQ10
import Derived.Test.YticjdhgokemdlaaGreatMostWeakQ6
import Derived.Test.YticjdhgokemdlaaGreatMostWeakQ7
set_option linter.all false
namespace Go.Aev.Wd.Lg
open Go Go.Aev Go.Aev.Gen Go.Aev.Wd Go.IntKind
def nf:Nat->Nat->List Int
 | 0,_=> []
 | f+1,n=>if n=0 then [] else((n % 4294967296:Nat):Int)::nf f (n / 4294967296)
theorem yg:∀(f n:Nat),n<=f->Dg (nf f n)/\Can (nf f n)/\val (nf f n)= (n:Int)
 | 0,n,h=>by
  obtain rfl:n=0:=by omega
  exact⟨λa b=>by simp [nf] at b,λk c=>by simp [nf] at c,rfl⟩
 | f+1,n,h=>by
  rw [nf];by_cases e:n=0
  .subst e;rw [if_pos rfl];exact⟨(λa b=>by cases b),(λk c=>by cases c),rfl⟩
  .rw [if_neg e];have j:n / 4294967296 < n:=Nat.div_lt_self (by omega) (by omega);obtain⟨h1,g,d⟩:=yg f (n / 4294967296) (by omega);have hm:n % 4294967296 < 4294967296:=XD _ (by omega);refine⟨λa b=> ?_,λk c=> ?_, ?_⟩
   .rcases Uw.1 b with rfl | b
    .omega
    .exact h1 a b
   .cases k with
    | zero=>have i:nf f (n / 4294967296)= []:=UA.1 (by simpa using c);rw [i] at d;have hv:val []=0:=rfl;rw [hv] at d;show(_:Int)≠0;simp only [aM,List.getD_cons_zero];omega
    | succ k=>have:=g k (by simpa using c);simpa [aM] using this
   .rw [val,d];omega
def dz(z:Int):List Int:=nf z.natAbs z.natAbs
theorem dN(z:Int):Dg (dz z):=(yg _ _ (UC _)).1
theorem iP(z:Int):Can (dz z):=(yg _ _ (UC _)).2.1
theorem ef(z:Int):val (dz z)= (z.natAbs:Int):=(yg _ _ (UC _)).2.2
theorem E4{a:Int}{d:List Int}(h:Can (a::d)):Can d:=λk b=>by have:=h (k+1) (by simp [b]);simpa [aM] using this
theorem pM:∀{a b:List Int},Dg a->Dg b->Can a->Can b->val a=val b->a=b
 | [],[],_,_,_,_,_=>rfl
 | [],y::b,_,hb,_,e,h=>by have:=rG hb e (by simp);rw [<-h] at this;simp [val] at this
 | x::a,[],c,_,d,_,h=>by have:=rG c d (by simp);rw [h] at this;simp [val] at this
 | x::a,y::b,c,hb,d,e,h=>by
  have h1:=c x Uk;have i:=hb y Uk;rw [val,val] at h;have g:x=y:=by omega
  subst g;have:=pM (λu f=>c u (Um _ f)) (λu f=>hb u (Um _ f)) (E4 d) (E4 e) (by omega);rw [this]
theorem Mz{d:List Int}{z:Int}(h:Dg d)(c:Can d)(hv:val d= (z.natAbs:Int)):d=dz z:=pM h (dN z) c (iP z) (by rw [hv,ef])
theorem rR{z:Int}:dz z= []↔z=0:=by
 constructor
 .intro h;have:=ef z;rw [h] at this;simp [val] at this;exact this.symm▸by omega
 .rintro rfl;rfl
theorem uw(z:Int):dz (-z)=dz z:=by unfold dz;rw [Ym]
theorem yl{z:Int}{k:Nat}(h:(z.natAbs:Int) < 4294967296 ^ k):(dz z).length<=k:=by
 rcases Ws k (dz z).length with h1 | h1
 .exfalso;obtain⟨m,hm⟩:∃m,(dz z).length=m+1:=⟨(dz z).length - 1,by omega⟩;have a:=Bk (dN z) (iP z) hm;rw [ef] at a;have b:(4294967296:Int) ^ k<=4294967296 ^ m:=vp (by omega);omega
 .exact h1
theorem Cw{z:Int}(h:b9 z):(dz z).length<=200:=yl h
def gr(a:Int):List UInt8:= [UInt8.ofNat (a.toNat % 256),UInt8.ofNat (a.toNat / 256 % 256),UInt8.ofNat (a.toNat / 65536 % 256),UInt8.ofNat (a.toNat / 16777216 % 256)]
def fO:List Int->List UInt8
 | []=> []
 | a::d=>gr a++fO d
def bJ(d:List Int):ByteArray:=⟨(fO d).toArray⟩
theorem EW:∀d:List Int,(fO d).length=4 * d.length
 | []=>rfl
 | a::d=>by rw [fO,Vu,EW d,UH];simp [gr];omega
theorem EU:∀(i:Nat) (d:List Int),(fO d).drop (4 * i)=fO (d.drop i)
 | 0,d=>by simp
 | i+1,[]=>by simp [fO]
 | i+1,a::d=>by rw [fO,show 4 * (i+1)= (gr a).length+4 * i from by simp [gr];omega,List.drop_append,List.drop_of_length_le (by omega),Uq,List.drop_succ_cons];rw [show(gr a).length+4 * i - (gr a).length=4 * i from by omega];exact EU i d
theorem GB(d:List Int):(bJ d).size=4 * d.length:=by show(fO d).toArray.size=_;rw [VX,EW]
theorem OF(A:Array UInt8)(a n x y:Nat)(h:A.size<=a+n):((#[]:Array UInt8).extract 0 0++A.extract a (a+n)++ (#[]:Array UInt8).extract x y).toList=A.toList.drop a:=by simp only [Array.toList_append,XB,W7,Yz,Yy,Uq,Ve];rw [Vh (by simp;omega)]
theorem OG(s:ByteArray)(a n:Nat)(h:n=s.size):(s.extract a n).size=n - a:=by subst h;have:(s.extract a s.size).size=min s.size s.size - a:=ByteArray.size_extract;rw [this];omega
theorem EX{n:Nat}(h:n < 256):((UInt8.ofNat n).toNat:Int)= (n:Int):=by rw [UInt8.toNat_ofNat'];omega
theorem Da:(2:Int) ^ 8=256:=by decide
theorem C8:(2:Int) ^ 16=65536:=by decide
theorem C9:(2:Int) ^ 24=16777216:=by decide
theorem mZ{v:Int}(h: 0<=v/\v < 4294967296):u32.wrap v=v:=by rw [cD];omega
theorem PC{a:Int}(h: 0<=a/\a < 4294967296)(d x2 b c:Int)(i:d= ((a.toNat % 256:Nat):Int))(j:x2= ((a.toNat / 256 % 256:Nat):Int))(k:b= ((a.toNat / 65536 % 256:Nat):Int))(l:c= ((a.toNat / 16777216 % 256:Nat):Int)):
  u32.wrap (((BitVec.ofInt 32 (u32.wrap (((BitVec.ofInt 32 (u32.wrap (((BitVec.ofInt 32 (u32.wrap d) ||| BitVec.ofInt 32 (u32.wrap (u32.wrap x2 * (2:Int) ^ 8))).toNat:Nat):Int)) ||| BitVec.ofInt 32 (u32.wrap (u32.wrap b * (2:Int) ^ 16))).toNat:Nat):Int)) ||| BitVec.ofInt 32 (u32.wrap (u32.wrap c * (2:Int) ^ 24))).toNat:Nat):Int)=a:=by
 have e: 0<=d/\d < 256:=by omega
 have f: 0<=x2/\x2 < 256:=by omega
 have b4: 0<=b/\b < 256:=by omega
 have g: 0<=c/\c < 256:=by omega
 rw [mZ (v:=d) (by omega),mZ (v:=x2) (by omega),mZ (v:=b) (by omega),mZ (v:=c) (by omega),Da,C8,C9];rw [mZ (v:=x2 * 256) (by omega),mZ (v:=b * 65536) (by omega),mZ (v:=c * 16777216) (by omega)];rw [qo (y:=d) (z:=x2 * 256) (n:=8) (t:=x2.toNat) (by omega) (by rw [Da];omega) (by show x2 * 256= ((256 * x2.toNat:Nat):Int);omega) (by omega) (by omega)];rw [qo (y:=x2 * 256+d) (z:=b * 65536) (n:=16) (t:=b.toNat) (by omega) (by rw [C8];omega) (by show b * 65536= ((65536 * b.toNat:Nat):Int);omega) (by omega) (by omega)];rw [qo (y:=b * 65536+ (x2 * 256+d)) (z:=c * 16777216) (n:=24) (t:=c.toNat) (by omega) (by rw [C9];omega) (by show c * 16777216= ((16777216 * c.toNat:Nat):Int);omega) (by omega) (by omega)];omega
abbrev LS(s:Bool)(d:List Int):AV:=AV.agg [B s,AV.t (T.str (bJ d))]
theorem Qz(s:Bool)(d:List Int)(D:Dg d)(J:d.length<=1000):∀(b:List Int) (i:Nat) (done:List Int),d.drop i=b->done.length=i->d=done++b->
  Or xh [r0,o1,I (d.length:Int),I (i:Int)] [ab.box [B s,AV.t (T.str (bJ d))],ab.sl false 1 false (ax (done++List.replicate b.length 0))]=some [T.aa 1 false (ax d)]:=by
 intro b;induction b with
 | nil=>
  intro i done h hi c;have h1:¬(i:Int) < (d.length:Int):=by have:=bu h;omega
  refine ak ?_;rw [Gr];simp only [ai,↓reduceIte,Int.reduceBEq,Int.reduceEq,GD,h1,UX,VW];rw [c]
 | cons a b G=>
  intro i done h hi c;obtain⟨w,H,z⟩:=bq h;have C:=D a (Uj w);have h1:(i:Int) < (d.length:Int):=by omega
  have F:i64.wrap (4 * (i:Int))= ((4 * i:Nat):Int):=by rw [Go.Aev.wr (by omega)];omega
  have l:=GB d;have j:bO ((4 * i:Nat):Int) ((bJ d).size:Int) ((bJ d).size:Int)=some ():=uM (by omega);have g:((bJ d).extract (4 * i) (bJ d).size).size=4 * d.length - 4 * i:=by rw [OG _ _ _ rfl,l]
  have A:∀x y:Nat,((#[]:Array UInt8).extract 0 0++ (bJ d).data.extract (4 * i) (4 * i+ ((bJ d).size - 4 * i))++ (#[]:Array UInt8).extract x y).toList=gr a++fO b:=λx y=>by rw [OF _ _ _ _ _ (by show(bJ d).size<=_;omega)];show(fO d).toArray.toList.drop (4 * i)=_;rw [List.toList_toArray,EU,h,fO]
  have m:(0:Int)<=0/\(0:Int) < ((4 * d.length - 4 * i:Nat):Int):=by omega
  have n:(0:Int)<=1/\(1:Int) < ((4 * d.length - 4 * i:Nat):Int):=by omega
  have o:(0:Int)<=2/\(2:Int) < ((4 * d.length - 4 * i:Nat):Int):=by omega
  have p:(0:Int)<=3/\(3:Int) < ((4 * d.length - 4 * i:Nat):Int):=by omega
  have q:(gr a++fO b)[0]? =some (UInt8.ofNat (a.toNat % 256)):=rfl;have r:(gr a++fO b)[1]? =some (UInt8.ofNat (a.toNat / 256 % 256)):=rfl;have u:(gr a++fO b)[2]? =some (UInt8.ofNat (a.toNat / 65536 % 256)):=rfl;have v:(gr a++fO b)[3]? =some (UInt8.ofNat (a.toNat / 16777216 % 256)):=rfl;have E:=PC C _ _ _ _ rfl rfl rfl rfl;have f: 0<=(i:Int):=by omega
  have e:(i:Int) < ((ax (done++List.replicate (a::b).length 0)).length:Int):=by rw [aL];simp;omega
  have k:bm i 0 [T.int .u32 a] (ax (done++List.replicate (a::b).length 0))=some (ax ((done++ [a])++List.replicate b.length 0)):=by have:=fi done 0 a (List.replicate b.length 0) i hi;rw [UL] at this;rw [UH,U7,this];simp
  have:=G (i+1) (done++ [a]) z (by simp [hi]) (by rw [c];simp);refine ak ?_;rw [Gr];simp only [ai,↓reduceIte,Int.reduceBEq,Int.reduceEq,GD,h1,F,j,UL,g,A,m,n,o,p,q,r,u,v,EX (XD _ (by decide:(0:Nat) < 256)),E,f,e,and_self,k,next i (by omega)];exact this
theorem Sf(s:Bool)(d:List Int)(b:Dg d)(c:d.length<=1000):Or (.call 104) [LS s d] []=some [T.aa 1 false (ax d)]:=by
 have a:=GB d;have f:i64.wrap (((bJ d).size:Int).tdiv 4)= (d.length:Int):=by rw [a,Vg (by omega),Go.Aev.wr (by omega)];omega
 have hm:br (d.length:Int) (d.length:Int)=some ():=by unfold br;rw [if_pos (by unfold cZ;omega)]
 have e:List.replicate ((d.length:Int)).toNat [T.int .u32 0]=ax (List.replicate d.length 0):=by simp [ax]
 have:=Qz s d b c d 0 [] rfl rfl rfl;refine ak ?_;rw [NH];simp only [ai,↓reduceIte,Int.reduceBEq,Int.reduceEq,GD,f,hm,e,aL,We];exact this
theorem Iy(e:Bool)(l:List Int)(h:l.length<=1000):∀k,k<=l.length->Or wG [lu e (l.take k)] []=some [T.aa 1 e (ax (l.take (fk l k)))]
 | 0,g=>by
  refine ak ?_;rw [FL];have a:¬((0:Nat):Int) > 0:=by omega
  simp only [ai,↓reduceIte,Int.reduceBEq,Int.reduceEq,GD,bT,aL,Xb,UX,a,decide_false,fk]
 | k+1,g=>by
  have j:=Iy e l h k (by omega);have a:((k+1:Nat):Int) > 0:=by omega
  have f:i64.wrap (((k+1:Nat):Int) - 1)= (k:Int):=by rw [Go.Aev.wr (by omega)];omega
  have c: 0<=(k:Int)/\(k:Int) < ((k+1:Nat):Int):=by omega
  have hi:bO 0 (k:Int) ((k+1:Nat):Int)=some ():=uM (by omega);have b:(l.take (k+1)).length=k+1:=by rw [Vd];omega
  have d:(ax (l.take (k+1)))[((k:Nat):Int).toNat]? =some [T.int .u32 (aM l k)]:=by rw [bD (by omega)];simp [aM,Ul,WZ]
  have i:sub 0 (k:Int) (ax (l.take (k+1)))=ax (l.take k):=by simp only [sub,ax,UL,Int.toNat_zero,Xv,Vv,<-List.map_take,List.take_take];rw [YL (by omega)]
  refine ak ?_;rw [FL,fk];by_cases hz:aM l k=0
  .rw [if_pos hz];simp only [ai,↓reduceIte,Int.reduceBEq,Int.reduceEq,GD,aL,b,a,decide_true,f,c,and_self,d,hz,hi,i];exact j
  .rw [if_neg hz];simp only [ai,↓reduceIte,Int.reduceBEq,Int.reduceEq,GD,aL,b,a,decide_true,f,c,and_self,d,hz]
theorem qB(e:Bool)(l:List Int)(a:l.length<=1000):Or (.call 134) [lu e l] []=some [T.aa 1 e (ax (bG l))]:=by have:=Iy e l a l.length (UC _);rw [WK] at this;refine ak ?_;rw [MB];exact this
theorem mX{l:List Int}(h:Dg l):Dg (bG l):=λa b=>h a (Wk b)
theorem KO{l:List Int}{z:Int}(h:Dg l)(hv:val l= (z.natAbs:Int)):bG l=dz z:=Mz (mX h) (pv l) (by rw [n6,hv])
def kU(l:List UInt8):List (List T):=l.map λb=> [T.int .u8 (b.toNat:Int)]
theorem EZ:∀l:List UInt8,bytesOf (kU l)=some l
 | []=>rfl
 | b::l=>by have h1:=EZ l;unfold kU at h1⊢;simp only [U5,bytesOf,VT,Ut,Cn,h1];simp
theorem w8(v:Int):u8.wrap v=v % 256:=by simp [IntKind.wrap,IntKind.signed,IntKind.bits]
theorem OV(a:Int)(h: 0<=a/\a < 4294967296): [[T.int .u8 (u8.wrap a)],[T.int .u8 (u8.wrap (a.fdiv (2 ^ 8)))],[T.int .u8 (u8.wrap (a.fdiv (2 ^ 16)))],[T.int .u8 (u8.wrap (a.fdiv (2 ^ 24)))]]=kU (gr a):=by
 have e:∀n:Nat,n < 256->((UInt8.ofNat n).toNat:Int)= (n:Int):=λn b=>EX b;simp only [kU,gr,U5,Xf,e _ (XD _ (by decide:(0:Nat) < 256)),w8,Da,C8,C9];rw [Vf _ (by omega),Vf _ (by omega),Vf _ (by omega)];have c:a % 256= ((a.toNat % 256:Nat):Int):=by omega
 have q1:a / 256 % 256= ((a.toNat / 256 % 256:Nat):Int):=by omega
 have d:a / 65536 % 256= ((a.toNat / 65536 % 256:Nat):Int):=by omega
 have f:a / 16777216 % 256= ((a.toNat / 16777216 % 256:Nat):Int):=by omega
 rw [c,q1,d,f]
theorem Qy(s s0 e g:Bool)(l:List Int)(y:ByteArray)(o:Dg l)(u:l.length<=1000):∀(b:List Int) (i:Nat) (done:List UInt8) (e2:Bool),l.drop i=b->done.length=4 * i->
  Or xe [B s,lu e l,r0,o1,lu g l,I (l.length:Int),I (i:Int)] [ab.box [B s0,AV.t (T.str y)],ab.sl false 1 e2 (kU done)]=some [tb (s && decide (l≠[])),T.str ⟨(done++fO b).toArray⟩]:=by
 intro b;induction b with
 | nil=>
  intro i done e2 h hi;have h1:¬(i:Int) < (l.length:Int):=by have:=bu h;omega
  refine ak ?_;rw [Gn];simp only [ai,↓reduceIte,Int.reduceBEq,Int.reduceEq,GD,h1,EZ,aL,fO,Ve];cases l with
  | nil=>cases s <;> simp
  | cons a l=>cases s <;> (try simp) <;> (try omega)
 | cons a b r=>
  intro i done e2 h hi;obtain⟨d,j,k⟩:=bq h;have n:=o a (Uj d);have h1:(i:Int) < (l.length:Int):=by omega
  have m: 0<=(i:Int):=by omega
  have q:(ax l)[((i:Nat):Int).toNat]? =some [T.int .u32 a]:=by rw [bD j,Mj d]
  have p:=OV a n;have f:bL 1 ((kU done).length+ (kU (gr a)).length)=some ():=jw (by simp [kU,gr];omega);have c:kU done++kU (gr a)=kU (done++gr a):=by simp [kU]
  have:=r (i+1) (done++gr a) (e2 && false) k (by simp [gr];omega);rw [XZ,UR] at this;refine ak ?_;rw [Gn,fO];simp only [ai,↓reduceIte,Int.reduceBEq,Int.reduceEq,GD,h1,m,and_self,aL,q,p,f,c,next i (by omega)];exact this
def RZ(z:Int):List T:= [tb (decide (z < 0)),T.str (bJ (dz z))]
abbrev LZ(z:Int):AV:=LS (decide (z < 0)) (dz z)
theorem nR(s e:Bool)(l:List Int)(a:Dg l)(d:l.length<=1000):Or (.call 109) [B s,lu e l] []=some (RZ (if s then -val l else val l)):=by
 have g:=eB a;have f:=qB e l d;have c:bG l=dz (if s then -val l else val l):=KO a (by split <;> omega);have b:(bG l).length<=1000:=by
  have:(bG l).length<=l.length:=by(unfold bG;rw [Vd];omega)
  omega
 have hm:br 0 (i64.wrap (4 * ((bG l).length:Int)))=some ():=by rw [Go.Aev.wr (by omega)];unfold br;rw [if_pos (by unfold cZ;omega)]
 have k2:=Qy s false e e (bG l) ⟨#[]⟩ (mX a) b (bG l) 0 [] false rfl rfl;have hv:(s && decide (bG l≠[]))=decide ((if s then -val l else val l) < 0):=by
  have hz:bG l= []↔val l=0:=by rw [c,rR];split <;> omega
  cases s with
  | false=>simp;omega
  | true=>simp only [VU,if_true];refine decide_eq_decide.2 ?_;rw [ne_eq,hz];omega
 refine ak ?_;rw [Ny];simp only [ai,↓reduceIte,Int.reduceBEq,Int.reduceEq,GD,f,aL,hm];refine k2.trans ?_;rw [Uq,hv,c];rfl
open Go Go.Aev Go.Aev.Gen Go.Aev.Wd
theorem cr{v:Int}(h: -9223372036854775808<=v/\v < 9223372036854775808):i64.wrap v=v:=Go.Aev.wr h
theorem GA(d:List Int):((bJ d).toList== (ByteArray.mk #[]).toList)=decide (d= []):=by
 have h1:∀s:ByteArray,s.toList=s.data.toList:=λs=>by rw [ByteArray.toList_eq]
 cases d with
 | nil=>rw [h1,h1];simp [bJ,fO]
 | cons a d=>rw [h1,h1];simp [bJ,fO,gr]
theorem pk(z:Int):Or (.call 70) [LZ z] []=some [ti z.sign]:=by
 refine ak ?_;rw [Nz,GA];by_cases a:z=0
 .subst a;rfl
 .have b:¬dz z= []:=λh=>a (rR.1 h);rcases Wc z 0 with h | h | h
  .simp only [ai,↓reduceIte,Int.reduceBEq,Int.reduceEq,GD,b,h,decide_true,Vx h]
  .exact absurd h a
  .have c:¬z < 0:=by omega
   simp only [ai,↓reduceIte,Int.reduceBEq,Int.reduceEq,GD,b,c,decide_false,Vj h]
theorem Dz(z:Int):Or (.call 106) [LZ z] []=some (RZ (-z)):=by
 refine ak ?_;rw [Nx,GA];unfold RZ;rw [uw];have:(bif !decide (z < 0) then !decide (dz z= []) else false)=decide (-z < 0):=by
  have h:=@rR z;by_cases a:z < 0
  .have:¬ -z < 0:=by omega
   rw [decide_eq_true a,decide_eq_false this];rfl
  .by_cases h1:z=0
   .subst h1;rfl
   .have b: -z < 0:=by omega
    rw [decide_eq_false a,decide_eq_false (mt h.1 h1),decide_eq_true b];rfl
 rw [this]
theorem lA(z:Int)(h:(dz z).length<=1000):Or (.call 104) [LZ z] []=some [T.aa 1 false (ax (dz z))]:=Sf _ _ (dN z) h
theorem IH(a b:List Int)(h eb:Bool)(g:Dg a)(hb:Dg b)(l:a.length=b.length)(m:a.length<=1000):∀(k:Nat) (z:Int),z= (k:Int) - 1->k<=a.length->
  Or xg [lu h a,lu eb b,I z] []=some [ti (bz (val (a.take k)) (val (b.take k)))]
 | 0,z,hz,j=>by
  refine ak ?_;rw [Gq];have h1:¬z>=0:=by omega
  simp only [ai,↓reduceIte,Int.reduceBEq,Int.reduceEq,GD,h1];simp [bz]
 | k+1,z,hz,j=>by
  obtain rfl:z= (k:Int):=by omega
  have h1:(k:Int)>=0:=by omega
  have e: 0<=(k:Int)/\(k:Int) < (a.length:Int):=by omega
  have f:(k:Int) < (b.length:Int):=by omega
  have n:i64.wrap ((k:Int) - 1)= (k:Int) - 1:=cr (by omega);refine ak ?_;rw [Gq];by_cases c:aM a k < aM b k
  .have:=x8 g hb (show k < a.length by omega) (by omega) c;simp only [ai,↓reduceIte,Int.reduceBEq,Int.reduceEq,GD,h1,e,f,and_self,aL,bD (show k < a.length by omega),bD (show k < b.length by omega),c];unfold bz;rw [if_pos this]
  .by_cases d:aM a k > aM b k
   .have:=x8 hb g (show k < b.length by omega) (by omega) d;simp only [ai,↓reduceIte,Int.reduceBEq,Int.reduceEq,GD,h1,e,f,and_self,aL,bD (show k < a.length by omega),bD (show k < b.length by omega),c,d];unfold bz;rw [if_neg (by omega),if_neg (by omega)]
   .have i:aM a k=aM b k:=by omega
    have:=IH a b h eb g hb l m k ((k:Int) - 1) rfl (by omega);have hv:bz (val (a.take (k+1))) (val (b.take (k+1)))=bz (val (a.take k)) (val (b.take k)):=by rw [n9 (by omega),n9 (by omega),i,Fh]
    rw [hv];simp only [ai,↓reduceIte,Int.reduceBEq,Int.reduceEq,GD,h1,e,f,and_self,aL,bD (show k < a.length by omega),bD (show k < b.length by omega),c,d,n];exact this
theorem zO(a b:List Int)(f eb:Bool)(e:Dg a)(hb:Dg b)(h:Can a)(i:Can b)(g:a.length<=1000)(k:b.length<=1000):
  Or (.call 103) [lu f a,lu eb b] []=some [ti (bz (val a) (val b))]:=by
 refine ak ?_;rw [NG];by_cases c:(a.length:Int)= (b.length:Int)
 .have:=IH a b f eb e hb (by omega) g a.length _ rfl (UC _);rw [WK,show b.take a.length=b from Vh (by omega)] at this;have j:i64.wrap ((a.length:Int) - 1)= (a.length:Int) - 1:=cr (by omega);simp only [aL,j];simp only [ai,↓reduceIte,Int.reduceBEq,Int.reduceEq,GD,c];rw [c] at this;exact this
 .by_cases d:(a.length:Int) < (b.length:Int)
  .have:=mK e hb i (by omega);simp only [ai,↓reduceIte,Int.reduceBEq,Int.reduceEq,GD,aL,c,d];unfold bz;rw [if_pos this]
  .have:=mK hb e h (by omega);simp only [ai,↓reduceIte,Int.reduceBEq,Int.reduceEq,GD,aL,c,d];unfold bz;rw [if_neg (by omega),if_neg (by omega)]
theorem R5(x y:Int)(b:(dz x).length<=1000)(hy:(dz y).length<=1000):Or (.call 65) [LZ x,LZ y] []=some [ti (bz x y)]:=by
 have e:=pk x;have k2:=pk y;have f:=lA x b;have g:=lA y hy;have c:=zO (dz x) (dz y) false false (dN x) (dN y) (iP x) (iP y) b hy;have d:=zO (dz y) (dz x) false false (dN y) (dN x) (iP y) (iP x) hy b;rw [ef,ef] at c d;have key:(if x.sign=y.sign then(if x < 0 then bz (y.natAbs:Int) (x.natAbs:Int) else bz (x.natAbs:Int) (y.natAbs:Int)) else if x.sign < y.sign then -1 else 1)=bz x y:=by
  rcases Wc x 0 with h | h | h <;> rcases Wc y 0 with a | a | a <;>
   (first | rw [Vx h] | rw [Vj h] | rw [h,Int.sign_zero]) <;>
   (first | rw [Vx a] | rw [Vj a] | rw [a,Int.sign_zero]) <;> unfold bz <;> (repeat' split) <;> omega
 refine ak ?_;rw [BL];simp only [ai,↓reduceIte,Int.reduceBEq,Int.reduceEq,GD,e,k2,f,g,c,d];rw [<-key];split
 .split <;> rfl
 .split <;> rfl
theorem nV(n:Nat)(h:n<=100000):bL 4 n=some ():=jw h
theorem m7(d:List Int)(v:Int):ax d++ [[T.int .u32 v]]=ax (d++ [v]):=by simp [ax]
theorem m8(n:Nat)(v:Int):n+ ([[T.int .u32 v]]:List (List T)).length=n+1:=by simp
theorem IA(x y:List Int)(z A:Bool)(D:Dg x)(hy:Dg y)(K:y.length<=x.length)(L:x.length<=1000):∀(d:List Int) (i:Nat) (c:Int) (done:List Int),x.drop i=d->done.length=i->i<=x.length->0<=c/\c<=1->
  Or rp [lu A y,o0,AV.t (T.int .u64 c),lu z x,I (x.length:Int),I (i:Int)] [ab.sl false 1 false (ax done)]=some [T.aa 1 false (ax (done++du d (y.drop i) c))]:=by
 intro d;induction d with
 | nil=>
  intro i c done h l hi C;have G:=bu h;obtain rfl:i=x.length:=by omega
  have h1:¬(x.length:Int) < (x.length:Int):=by omega
  refine ak ?_;rw [FV];simp only [ai,↓reduceIte,Int.reduceBEq,Int.reduceEq,GD,h1,aL,mZ (v:=c) (by omega),m7,m8,nV (done.length+1) (by omega),du]
 | cons a d u=>
  intro i c done h l hi C;obtain⟨B,m,n⟩:=bq h;have h1:(i:Int) < (x.length:Int):=by omega
  have o: 0<=(i:Int):=by omega
  have J:=D a (Uj B);have j:=fD h;refine ak ?_;rw [FV];cases g:y.drop i with
  | nil=>
   have H:=bu g;have k:¬(i:Int) < (y.length:Int):=by omega
   have e:u64.wrap a=a:=bc (by omega);have f:u64.wrap (c+a)=c+a:=bc (by omega);have s:y.drop (i+1)= []:=by simp;omega
   have:=u (i+1) ((c+a) / 4294967296) (done++ [(c+a) % 4294967296]) n (by simp [l]) (by omega) (by omega);rw [s,show done++ [(c+a) % 4294967296] ++du d [] ((c+a) / 4294967296)=done++du (a::d) [] c from by simp [du]] at this;simp only [ai,↓reduceIte,Int.reduceBEq,Int.reduceEq,GD,h1,o,and_self,aL,bD m,j,k,e,f,cD,ig,m7,m8,nV (done.length+1) (by omega),next i (by omega)];exact this
  | cons b w=>
   obtain⟨E,k2,F⟩:=bq g;have hb:=hy b (Uj E);have p:=fD g;have k:(i:Int) < (y.length:Int):=by omega
   have e:u64.wrap a=a:=bc (by omega);have f:u64.wrap (c+a)=c+a:=bc (by omega);have q:u64.wrap b=b:=bc (by omega);have r:u64.wrap (c+a+b)=c+a+b:=bc (by omega);have:=u (i+1) ((c+a+b) / 4294967296) (done++ [(c+a+b) % 4294967296]) n (by simp [l]) (by omega) (by omega);rw [F,show done++ [(c+a+b) % 4294967296] ++du d w ((c+a+b) / 4294967296)=done++du (a::d) (b::w) c from by simp [du]] at this;simp only [ai,↓reduceIte,Int.reduceBEq,Int.reduceEq,GD,h1,o,and_self,aL,bD m,bD k2,j,p,k,e,f,q,r,cD,ig,m7,m8,nV (done.length+1) (by omega),next i (by omega)];exact this
theorem RR(x y:List Int)(c e:Bool)(b:Dg x)(hy:Dg y)(h:x.length<=900)(i:y.length<=900):∃d,Or (.call 146) [lu c x,lu e y] []=some [T.aa 1 false (ax d)]/\Dg d/\val d=val x+val y/\d.length<=max x.length y.length+1:=by
 by_cases g:(x.length:Int) < (y.length:Int)
 .have h1:=IA y x e c hy b (by omega) (by omega) y 0 0 [] rfl rfl (by omega) (by omega);refine⟨du y x 0,ak ?_,sY hy b (by omega),by rw [s9 (by omega)];omega,by rw [sZ];omega⟩;have f:i64.wrap ((y.length:Int)+1)= ((y.length+1:Nat):Int):=next y.length (by omega);have a:br 0 ((y.length+1:Nat):Int)=some ():=by unfold br cZ;rw [if_pos (by omega)]
  rw [FU];simp only [ai,↓reduceIte,Int.reduceBEq,Int.reduceEq,GD,aL,g,f,a];exact h1
 .have h1:=IA x y c e b hy (by omega) (by omega) x 0 0 [] rfl rfl (by omega) (by omega);refine⟨du x y 0,ak ?_,sY b hy (by omega),by rw [s9 (by omega)];omega,by rw [sZ];omega⟩;have f:i64.wrap ((x.length:Int)+1)= ((x.length+1:Nat):Int):=next x.length (by omega);have a:br 0 ((x.length+1:Nat):Int)=some ():=by unfold br cZ;rw [if_pos (by omega)]
  rw [FU];simp only [ai,↓reduceIte,Int.reduceBEq,Int.reduceEq,GD,aL,g,f,a];exact h1
theorem Qk(x y:List Int)(w z:Bool)(C:Dg x)(hy:Dg y)(d:x.length<=1000):∀(e:List Int) (i:Nat) (c:Int) (done:List Int),x.drop i=e->done.length=i->0<=c/\c<=1->
  Or pG [lu z y,o0,I c,lu w x,I (x.length:Int),I (i:Int)] [ab.sl false 1 false (ax done)]=some [T.aa 1 false (ax (done++dL e (y.drop i) c))]:=by
 intro e;induction e with
 | nil=>
  intro i c done h r B;have F:=bu h;have h1:¬(i:Int) < (x.length:Int):=by omega
  refine ak ?_;rw [FW];simp only [ai,↓reduceIte,Int.reduceBEq,Int.reduceEq,GD,h1];simp [dL]
 | cons a e u=>
  intro i c done h r B;obtain⟨A,m,s⟩:=bq h;have h1:(i:Int) < (x.length:Int):=by omega
  have n: 0<=(i:Int):=by omega
  have H:=C a (Uj A);have f:=fD h;have g:i64.wrap a=a:=cr (by omega);have j:i64.wrap (a - c)=a - c:=cr (by omega);refine ak ?_;rw [FW];cases l:y.drop i with
  | nil=>
   have G:=bu l;have k:¬(i:Int) < (y.length:Int):=by omega
   have t:y.drop (i+1)= []:=by simp;omega
   have:=u (i+1) (cm (a - c)) (done++ [(a - c) % 4294967296]) s (by simp [r]) (by unfold cm;split <;> omega);rw [t,show done++ [(a - c) % 4294967296] ++dL e [] (cm (a - c))=done++dL (a::e) [] c from by simp [dL]] at this;by_cases d:a - c < 0
   .have hv:u32.wrap (i64.wrap (a - c+4294967296))= (a - c) % 4294967296:=by rw [cD,cr (by omega)];omega
    unfold cm at this;rw [if_pos d] at this;simp only [ai,↓reduceIte,Int.reduceBEq,Int.reduceEq,GD,h1,n,and_self,aL,bD m,f,k,g,j,d,hv,m7,m8,nV (done.length+1) (by omega),next i (by omega)];exact this
   .have hv:u32.wrap (a - c)= (a - c) % 4294967296:=cD _;unfold cm at this;rw [if_neg d] at this;simp only [ai,↓reduceIte,Int.reduceBEq,Int.reduceEq,GD,h1,n,and_self,aL,bD m,f,k,g,j,d,hv,m7,m8,nV (done.length+1) (by omega),next i (by omega)];exact this
  | cons b v=>
   obtain⟨D,k2,E⟩:=bq l;have hb:=hy b (Uj D);have o:=fD l;have k:(i:Int) < (y.length:Int):=by omega
   have p:i64.wrap b=b:=cr (by omega);have q:i64.wrap (a - c - b)=a - c - b:=cr (by omega);have:=u (i+1) (cm (a - c - b)) (done++ [(a - c - b) % 4294967296]) s (by simp [r]) (by unfold cm;split <;> omega);rw [E,show done++ [(a - c - b) % 4294967296] ++dL e v (cm (a - c - b))=done++dL (a::e) (b::v) c from by simp [dL]] at this;by_cases d:a - c - b < 0
   .have hv:u32.wrap (i64.wrap (a - c - b+4294967296))= (a - c - b) % 4294967296:=by rw [cD,cr (by omega)];omega
    unfold cm at this;rw [if_pos d] at this;simp only [ai,↓reduceIte,Int.reduceBEq,Int.reduceEq,GD,h1,n,and_self,aL,bD m,bD k2,f,o,k,g,j,p,q,d,hv,m7,m8,nV (done.length+1) (by omega),next i (by omega)];exact this
   .have hv:u32.wrap (a - c - b)= (a - c - b) % 4294967296:=cD _;unfold cm at this;rw [if_neg d] at this;simp only [ai,↓reduceIte,Int.reduceBEq,Int.reduceEq,GD,h1,n,and_self,aL,bD m,bD k2,f,o,k,g,j,p,q,d,hv,m7,m8,nV (done.length+1) (by omega),next i (by omega)];exact this
theorem JQ(x y:List Int)(a b:Bool)(e:Dg x)(hy:Dg y)(f:y.length<=x.length)(hv:val y<=val x)(g:x.length<=900):∃d,Or (.call 147) [lu a x,lu b y] []=some [T.aa 1 false (ax d)]/\Dg d/\val d=val x - val y/\d.length=x.length:=by
 have h1:=Qk x y a b e hy (by omega) x 0 0 [] rfl rfl (by omega);refine⟨dL x y 0,ak ?_,zd,by rw [zf e hy f (by omega) (by omega)];omega,ze⟩;have c:br 0 (x.length:Int)=some ():=by unfold br cZ;rw [if_pos (by omega)]
 rw [MM];simp only [ai,↓reduceIte,Int.reduceBEq,Int.reduceEq,GD,aL,c];exact h1
theorem yk{x y:Int}(h:y.natAbs<=x.natAbs):(dz y).length<=(dz x).length:=by
 rcases Ws (dz x).length (dz y).length with h1 | h1
 .have:=mK (dN x) (dN y) (iP y) h1;rw [ef,ef] at this;omega
 .exact h1
theorem RL(x y:Int)(k:(dz x).length<=900)(hy:(dz y).length<=900):Or (.call 136) [LZ x,LZ y] []=some (RZ (x+y)):=by
 have h:=lA x (by omega);have k2:=lA y (by omega);refine ak ?_;rw [MD];by_cases hs:decide (x < 0)=decide (y < 0)
 .obtain⟨d,c,e,f,i⟩:=RR (dz x) (dz y) false false (dN x) (dN y) k hy;have a:=nR (decide (x < 0)) false d e (by omega);have hb:(decide (x < 0)==decide (y < 0))=true:=by simpa using hs
  have hv:(if decide (x < 0)=true then -val d else val d)=x+y:=by
   rw [f,ef,ef];simp only [decide_eq_true_eq];have j:x < 0↔y < 0:=by simpa using hs
   split <;> omega
  rw [hv] at a;unfold RZ at a;simp only [ai,↓reduceIte,Int.reduceBEq,Int.reduceEq,GD,h,k2,hb,c,a];rfl
 .have hb:(decide (x < 0)==decide (y < 0))=false:=by simpa using hs
  have j:¬(x < 0↔y < 0):=by simpa using hs
  have a:=zO (dz x) (dz y) false false (dN x) (dN y) (iP x) (iP y) (by omega) (by omega);rw [ef,ef] at a;by_cases l:(y.natAbs:Int)<=(x.natAbs:Int)
  .have g:bz (x.natAbs:Int) (y.natAbs:Int)>=0:=by unfold bz;rw [if_neg (by omega)];split <;> omega
   obtain⟨d,c,e,f,i⟩:=JQ (dz x) (dz y) false false (dN x) (dN y) (yk (by omega)) (by rw [ef,ef];exact l) k;have b:=nR (decide (x < 0)) false d e (by omega);have hv:(if decide (x < 0)=true then -val d else val d)=x+y:=by rw [f,ef,ef];simp only [decide_eq_true_eq];split <;> omega
   rw [hv] at b;unfold RZ at b;simp only [ai,↓reduceIte,Int.reduceBEq,Int.reduceEq,GD,h,k2,hb,a,g,c,b];rfl
  .have g:¬bz (x.natAbs:Int) (y.natAbs:Int)>=0:=by unfold bz;rw [if_pos (by omega)];omega
   obtain⟨d,c,e,f,i⟩:=JQ (dz y) (dz x) false false (dN y) (dN x) (yk (by omega)) (by rw [ef,ef];omega) hy;have b:=nR (decide (y < 0)) false d e (by omega);have hv:(if decide (y < 0)=true then -val d else val d)=x+y:=by rw [f,ef,ef];simp only [decide_eq_true_eq];split <;> omega
   rw [hv] at b;unfold RZ at b;simp only [ai,↓reduceIte,Int.reduceBEq,Int.reduceEq,GD,h,k2,hb,a,g,c,b];rfl
theorem xD:∀n,n < 256->∃u,L8[n]? =some u/\u.toNat<=8/\n < 2 ^ u.toNat/\(n≠0->2 ^ u.toNat<=2 * n):=by
 have:∀n,n < 256->(match L8[n]? with | some u=>decide (u.toNat<=8/\n < 2 ^ u.toNat/\(n≠0->2 ^ u.toNat<=2 * n)) | none=>false)=true:=by decide+kernel
 intro n b;have h:=this n b;cases a:L8[n]? with
 | none=>rw [a] at h;cases h
 | some u=>rw [a] at h;exact⟨u,rfl,of_decide_eq_true h⟩
set_option maxRecDepth 100000 in
theorem JR(a:Int)(I: 0<=a/\a < 4294967296):∃n:Nat,Or (.call 140) [AV.t (T.int .u32 a)] []=some [ti (n:Int)]/\n<=32/\a < 2 ^ n/\(a≠0->(2:Int) ^ n<=2 * a):=by
 have p:(2:Int) ^ 8=256:=by decide
 have e:(2:Int) ^ 16=65536:=by decide
 have q:∀v:Int,v.fdiv 256=v / 256:=λv=>Vf _ (by omega);have l:∀v:Int,v.fdiv 65536=v / 65536:=λv=>Vf _ (by omega)
 have m:∀(k:Nat) (n:Nat) (u:UInt8),k<=24->n < 256->(n:Int)=a / 2 ^ k->(k≠0->n≠0)->u.toNat<=8/\n < 2 ^ u.toNat/\(n≠0->2 ^ u.toNat<=2 * n)->
   (k+u.toNat)<=32/\a < (2:Int) ^ (k+u.toNat)/\(a≠0->(2:Int) ^ (k+u.toNat)<=2 * a):=by
  intro k n u J b s B h;have w:=gG k;obtain⟨h1,H,D⟩:=h;have y:(n:Int)+1<=(2:Int) ^ u.toNat:=by rw [nL];omega
  have E:a < (2:Int) ^ k * ((n:Int)+1):=by rw [s];have:=Int.lt_mul_ediv_self_add (x:=a) w;rw [UO,Xq];exact this
  have F:(2:Int) ^ k * (n:Int)<=a:=by rw [s];exact Int.mul_ediv_self_le (by omega)
  refine⟨by omega, ?_,λG=> ?_⟩
  .rw [Xa];have:=Ur y (Vw w);omega
  .have A:n≠0:=by
    rcases Nat.eq_zero_or_pos k with r | r
    .subst r;rw [Xy,Int.ediv_one] at s;omega
    .exact B (by omega)
   have z:(2:Int) ^ u.toNat<=2 * (n:Int):=by rw [nL];have:=D A;omega
   rw [Xa];have:=Ur z (Vw w);rw [U3] at this;omega
 by_cases o:a>=65536
 .by_cases d:a / 65536>=256
  .have b:(a / 65536 / 256).toNat < 256:=by omega
   obtain⟨u,i,j⟩:=xD _ b;have g:u8.wrap (a / 65536 / 256)=a / 65536 / 256:=by rw [w8];omega
   have f: 0<=a / 65536 / 256/\a / 65536 / 256 < 256:=by omega
   have c:i64.wrap (i64.wrap (16+8)+i64.wrap (u.toNat:Int))= ((24+u.toNat:Nat):Int):=by rw [cr (v:=16+8) (by omega),cr (v:=(u.toNat:Int)) (by omega),cr (by omega)];omega
   refine⟨24+u.toNat,ak ?_,m 24 _ u (by omega) b (by rw [show((2:Int) ^ 24)=16777216 from by decide];omega) (λ_=>by omega) j⟩;rw [yn];simp only [ai,↓reduceIte,Int.reduceBEq,Int.reduceEq,GD,o,p,e,q,l,d,g,f,and_self,i,c]
  .have b:(a / 65536).toNat < 256:=by omega
   obtain⟨u,i,j⟩:=xD _ b;have g:u8.wrap (a / 65536)=a / 65536:=by rw [w8];omega
   have f: 0<=a / 65536/\a / 65536 < 256:=by omega
   have c:i64.wrap (16+i64.wrap (u.toNat:Int))= ((16+u.toNat:Nat):Int):=by rw [cr (v:=(u.toNat:Int)) (by omega),cr (by omega)];omega
   refine⟨16+u.toNat,ak ?_,m 16 _ u (by omega) b (by rw [e];omega) (λ_=>by omega) j⟩;rw [yn];simp only [ai,↓reduceIte,Int.reduceBEq,Int.reduceEq,GD,o,p,e,q,l,d,g,f,and_self,i,c]
 .by_cases d:a>=256
  .have b:(a / 256).toNat < 256:=by omega
   obtain⟨u,i,j⟩:=xD _ b;have g:u8.wrap (a / 256)=a / 256:=by rw [w8];omega
   have f: 0<=a / 256/\a / 256 < 256:=by omega
   have c:i64.wrap (i64.wrap (0+8)+i64.wrap (u.toNat:Int))= ((8+u.toNat:Nat):Int):=by rw [cr (v:=0+8) (by omega),cr (v:=(u.toNat:Int)) (by omega),cr (by omega)];omega
   refine⟨8+u.toNat,ak ?_,m 8 _ u (by omega) b (by rw [p];omega) (λ_=>by omega) j⟩;rw [yn];simp only [ai,↓reduceIte,Int.reduceBEq,Int.reduceEq,GD,o,p,e,q,l,d,g,f,and_self,i,c]
  .have b:a.toNat < 256:=by omega
   obtain⟨u,i,j⟩:=xD _ b;have g:u8.wrap a=a:=by rw [w8];omega
   have f: 0<=a/\a < 256:=by omega
   have c:i64.wrap (i64.wrap (u.toNat:Int))= ((0+u.toNat:Nat):Int):=by rw [cr (v:=(u.toNat:Int)) (by omega),cr (by omega)];omega
   have C:i64.wrap (0+i64.wrap (u.toNat:Int))= ((0+u.toNat:Nat):Int):=by rw [cr (v:=(u.toNat:Int)) (by omega),cr (by omega)];omega
   refine⟨0+u.toNat,ak ?_,m 0 _ u (by omega) b (by rw [Xy];omega) (λh=>absurd rfl h) j⟩;rw [yn];simp only [ai,↓reduceIte,Int.reduceBEq,Int.reduceEq,GD,o,p,e,q,l,d,g,f,and_self,i,c,C]
open Go Go.Aev Go.Aev.Gen Go.Aev.Wd
theorem Dv(z:Int)(h:(dz z).length<=900):∃m:Int,Or (.call 131) [LZ z] []=some [ti m]/\0<=m/\m<=32 * ((dz z).length:Int):=by
 have d:=lA z (by omega);by_cases j:(dz z).length=0
 .refine⟨0,ak ?_,by omega,by omega⟩;rw [FO];have a:((dz z).length:Int)=0:=by omega
  simp only [ai,↓reduceIte,Int.reduceBEq,Int.reduceEq,GD,d,aL,a]
 .have a:¬((dz z).length:Int)=0:=by omega
  have g:i64.wrap (((dz z).length:Int) - 1)= (((dz z).length - 1:Nat):Int):=by rw [cr (by omega)];omega
  have f: 0<=(((dz z).length - 1:Nat):Int)/\(((dz z).length - 1:Nat):Int) < ((dz z).length:Int):=by omega
  have b:(dz z).length - 1 < (dz z).length:=by omega
  have e:=dN z (aM (dz z) ((dz z).length - 1)) (by
   have:(dz z)[(dz z).length - 1]? =some (aM (dz z) ((dz z).length - 1)):=by rw [Up b];simp [aM,Ul,b]
   exact Uj this)
  obtain⟨n,i,k,_,_⟩:=JR _ e;have c:i64.wrap (32 * (((dz z).length - 1:Nat):Int))=32 * (((dz z).length - 1:Nat):Int):=cr (by omega);refine⟨32 * (((dz z).length - 1:Nat):Int)+ (n:Int),ak ?_,by omega,by omega⟩;rw [FO];simp only [ai,↓reduceIte,Int.reduceBEq,Int.reduceEq,GD,d,aL,a,g,f,and_self,bD b,i,c,cr (v:=32 * (((dz z).length - 1:Nat):Int)+ (n:Int)) (by omega)]
theorem JO(z:Int)(h:(dz z).length<=900):Or (.call 132) [LZ z] []=some [tb (decide (z < 0)),T.str (bJ (dz z)),ti 0]:=by
 obtain⟨m,a,b,c⟩:=Dv z h;have h1:¬m > 131072:=by omega
 refine ak ?_;rw [ME];simp only [ai,↓reduceIte,Int.reduceBEq,Int.reduceEq,GD,a,h1]
theorem Sd(x y:Int)(b:(dz x).length<=900)(hy:(dz y).length<=900)(hz:(dz (x+y)).length<=900):Or (.call 130) [LZ x,LZ y] []=some [tb (decide (x+y < 0)),T.str (bJ (dz (x+y))),ti 0]:=by have a:=RL x y b hy;have k2:=JO (x+y) hz;unfold RZ at a;refine ak ?_;rw [ND];simp only [ai,↓reduceIte,Int.reduceBEq,Int.reduceEq,GD,a,k2]
theorem Qg(q s u:Bool)(x y:List Int)(a:Int)(E: 0<=a/\a < 4294967296)(hy:Dg y)(i:Nat)(hi:i<=1000)(S:y.length<=1000)(R:List T):∀(l:List Int) (j:Nat) (c:Int) (e f:List Int),y.drop j=l->j<=y.length->e.length=i+j->l.length < f.length->Dg f->0<=c/\c < 4294967296->
  Or tE [lu s y,o0,lu q x,I (x.length:Int),I ((i+1:Nat):Int)] [ab.sl false 1 false (ax (e++gz a l f c))]=some R->
  Or wJ [lu s y,o0,I (i:Int),AV.t (T.int .u32 a),AV.t (T.int .u64 c),lu q x,I (x.length:Int),I (i:Int),lu u y,I (y.length:Int),I (j:Int)] [ab.sl false 1 false (ax (e++f))]=some R:=by
 intro l;induction l with
 | nil=>
  intro j c e f h H m hm g F k;have Q:=bu h;obtain rfl:j=y.length:=by omega
  match f,hm with
  | o::r,_=>
   have h1:¬(y.length:Int) < (y.length:Int):=by omega
   have p:i64.wrap ((i:Int)+ (y.length:Int))= ((i+y.length:Nat):Int):=by rw [cr (by omega)];omega
   have n: 0<=((i+y.length:Nat):Int)/\((i+y.length:Nat):Int) < ((e++o::r).length:Int):=by simp;omega
   have hs:=oH (d:=e++o::r) (i:=i+y.length) (by simp;omega) c;rw [nS e o c r _ m] at hs;have z:u32.wrap c=c:=by rw [cD];omega
   refine ak ?_;rw [FQ];simp only [ai,↓reduceIte,Int.reduceBEq,Int.reduceEq,GD,h1,aL,p,n,and_self,z,hs,next i (by omega)];exact k
 | cons b l J=>
  intro j c e f h H m hm g F k;obtain⟨A,B,C⟩:=bq h;have hb:=hy b (Uj A);have w:=fD h
  match f,hm,g,k with
  | o::r,hm,g,k=>
   have U:=g o Uk;have P:=lh E hb;have h1:(j:Int) < (y.length:Int):=by omega
   have D: 0<=(j:Int):=by omega
   have p:i64.wrap ((i:Int)+ (j:Int))= ((i+j:Nat):Int):=by rw [cr (by omega)];omega
   have n: 0<=((i+j:Nat):Int)/\((i+j:Nat):Int) < ((e++o::r).length:Int):=by simp;omega
   have G:(ax (e++o::r))[((i+j:Nat):Int).toNat]? =some [T.int .u32 o]:=by rw [bD (by simp;omega),rJ e o r _ m]
   have hs:∀v,bm ((i+j:Nat):Int).toNat 0 [T.int .u32 v] (ax (e++o::r))=some (ax ((e++ [v])++r)):=λv=>by rw [oH (by simp;omega),nS e o v r _ m];simp
   have K:u64.wrap a=a:=bc (by omega);have L:u64.wrap b=b:=bc (by omega);have M:u64.wrap o=o:=bc (by omega);have w4:u64.wrap (a * b)=a * b:=bc (by omega);have N:u64.wrap (a * b+o)=a * b+o:=bc (by omega);have O:u64.wrap (c+ (a * b+o))=c+a * b+o:=by rw [bc (by omega)];omega
   have:=J (j+1) ((c+a * b+o) / 4294967296) (e++ [(c+a * b+o) % 4294967296]) r C (by omega) (by simp;omega) (by simpa using hm) g.tail (by omega) (by
    rw [gz] at k;rw [UR];exact k)
   refine ak ?_;rw [FQ];simp only [ai,↓reduceIte,Int.reduceBEq,Int.reduceEq,GD,h1,D,and_self,aL,bD B,w,p,n,G,K,L,M,w4,N,O,cD,hs,ig,next j (by omega)];exact this
theorem Qf(z s:Bool)(x y:List Int)(M:Dg x)(hy:Dg y)(S:x.length<=400)(U:y.length<=400):∀(e:List Int) (i:Nat) (f b:List Int),x.drop i=e->i<=x.length->f.length=i->b.length=y.length->Dg f->Dg b->
  ∃d,Or tE [lu s y,o0,lu z x,I (x.length:Int),I (i:Int)] [ab.sl false 1 false (ax (f++ (b++List.replicate e.length 0)))]=some [T.aa 1 false (ax d)]/\
   Dg d/\d.length=x.length+y.length/\val d=val (f++b)+4294967296 ^ i * (val e * val y):=by
 intro e;induction e with
 | nil=>
  intro i f b h hi m g l j;have R:=bu h;have h1:¬(i:Int) < (x.length:Int):=by omega
  have w:(f++b).length=x.length+y.length:=by simp;omega
  refine⟨f++b,ak ?_,λu hu=> ?_,w,by simp [val]⟩
  .rw [FP];simp only [UX,VW,Ve];simp only [ai,↓reduceIte,Int.reduceBEq,Int.reduceEq,GD,h1]
  .rcases UB.1 hu with hu | hu
   .exact l u hu
   .exact j u hu
 | cons a e N=>
  intro i f b h hi m g l j;obtain⟨H,J,K⟩:=bq h;have v:=M a (Uj H);have B:=fD h;have h1:(i:Int) < (x.length:Int):=by omega
  have L: 0<=(i:Int):=by omega
  have A:Dg (b++ [0]):=λu hu=>by
   rcases UB.1 hu with hu | hu
   .exact j u hu
   .simp only [Uv] at hu;subst hu;omega
  have F:=CL v (y:=y) (o:=b) (r:= []) (c:=0) g.symm;have p:=CJ (a:=a) (y:=y) (o:=b++ [0]) (c:=0);have n:=CI v (y:=y) (o:=b++ [0]) (c:=0) hy A (by omega);have E:=CK (a:=a) (y:=y) (o:=b) (r:=List.replicate e.length 0) (q:=0) (c:=0) g.symm;have C:Dg (b++List.replicate (a::e).length 0):=λu hu=>by
   rcases UB.1 hu with hu | hu
   .exact j u hu
   .have:=VO hu;omega
  generalize gz a y (b++ [0]) 0=res at *
  cases res with
  | nil=>simp at p
  | cons k t=>
   simp only [UH,Vu,UX] at p;obtain⟨d,O,k2,P,Q⟩:=N (i+1) (f++ [k]) t K (by omega) (by simp [m]) (by omega) (λu hu=>by
    rcases UB.1 hu with hu | hu
    .exact l u hu
    .simp only [Uv] at hu;subst hu;exact n u Uk) n.tail
   have D:=Qg z s s x y a v hy i (by omega) (by omega) _ y 0 0 f (b++List.replicate (a::e).length 0) rfl (by omega) (by omega) (by simp;omega) C (by omega) (by
    rw [show b++List.replicate (a::e).length 0=b++0::List.replicate e.length 0 from rfl,E];rw [show f++ (k::t++List.replicate e.length 0)=f++ [k] ++ (t++List.replicate e.length 0) from by simp];exact O)
   refine⟨d,ak ?_,k2,P, ?_⟩
   .rw [FP];simp only [ai,↓reduceIte,Int.reduceBEq,Int.reduceEq,GD,h1,L,and_self,aL,bD J,B];exact D
   .rw [Q];have G:f++ [k] ++t=f++k::t:=by simp
    have e2:val (b++ [0])=val b:=by rw [eS];simp [val]
    have e3:(4294967296:Int) ^ i * ((a+4294967296 * val e) * val y)=4294967296 ^ i * (a * val y)+4294967296 ^ i * 4294967296 * (val e * val y):=by rw [Wv,UO];simp only [U0]
    rw [G,eS,eS,m,F,e2,Wm];simp only [val];rw [e3,Yc,UO];omega
theorem RM(b c:Bool)(x y:List Int)(k:Dg x)(hy:Dg y)(f:x.length<=400)(g:y.length<=400):∃d,Or (.call 133) [lu b x,lu c y] []=some [T.aa 1 false (ax d)]/\Dg d/\d.length=x.length+y.length/\val d=val x * val y:=by
 obtain⟨d,h,k2,l,m⟩:=Qf b c x y k hy f g x 0 [] (List.replicate y.length 0) rfl (by omega) rfl (by simp) (λu a=>by cases a) (λu a=>by
  have:=VO a;omega)
 have j:i64.wrap ((x.length:Int)+ (y.length:Int))= ((y.length+x.length:Nat):Int):=by rw [cr (by omega)];omega
 have e:br ((y.length+x.length:Nat):Int) ((y.length+x.length:Nat):Int)=some ():=by unfold br cZ;rw [if_pos (by omega)]
 have i:ax ([] ++ (List.replicate y.length 0++List.replicate x.length 0))=List.replicate (y.length+x.length) [T.int u32 0]:=by rw [Uq,Xk];simp [ax]
 rw [i] at h;refine⟨d,ak ?_,k2,l,by rw [m,Uq,Ac];simp⟩;rw [MF];simp only [aL,j];simp only [ai,↓reduceIte,Int.reduceBEq,Int.reduceEq,GD,e,UL];exact h
theorem Se(x y:Int)(z:(dz x).length<=300)(hy:(dz y).length<=300):Or (.call 105) [LZ x,LZ y] []=some [tb (decide (x * y < 0)),T.str (bJ (dz (x * y))),ti 0]:=by
 obtain⟨m,i,r,s⟩:=Dv x (by omega);obtain⟨n,j,t,u⟩:=Dv y (by omega);have h:¬m+n > 131073:=by omega
 have p:=lA x (by omega);have k2:=lA y (by omega);obtain⟨d,l,f,w,g⟩:=RM false false (dz x) (dz y) (dN x) (dN y) (by omega) (by omega);have e:=nR (!decide (x < 0)==decide (y < 0)) false d f (by omega);have hv:(if(!decide (x < 0)==decide (y < 0))=true then -val d else val d)=x * y:=by
  rw [g,ef,ef,<-WS,<-UZ];have c:∀a b:Int,0<=a->0<=b->0<=a * b:=λa b=>Vi;by_cases h1:x < 0 <;> by_cases o:y < 0 <;> simp only [h1,o,decide_true,decide_false]
  .have:=c (-x) (-y) (by omega) (by omega);rw [Int.neg_mul_neg] at this;simp;omega
  .have:=c (-x) y (by omega) (by omega);rw [X2] at this;simp;omega
  .have:=c x (-y) (by omega) (by omega);rw [Int.mul_neg] at this;simp;omega
  .have:=c x y (by omega) (by omega);simp;omega
 rw [hv] at e;have hz:(dz (x * y)).length<=900:=by refine UY (yl (k:=d.length) ?_) (by omega);have:=fp f;rw [g,ef,ef,<-WS,<-UZ] at this;exact this
 have q:=JO (x * y) hz;unfold RZ at e;refine ak ?_;rw [NF];simp only [ai,↓reduceIte,Int.reduceBEq,Int.reduceEq,GD,i,j,cr (v:=m+n) (by omega),h,p,k2,l,e,q]
theorem qD(x:Int)(h: -9223372036854775808<=x/\x < 9223372036854775808):Or (.call 69) [I x] []=some (RZ x):=by
 refine ak ?_;rw [BI];by_cases g:x < 0
 .have f:u64.wrap (0 - u64.wrap x)= -x:=by simp only [my];omega
  have c:Dg [(-x) % 4294967296,(-x) / 4294967296]:=λu e=>by simp only [Uw,X7,or_false] at e;omega
  have hv:val [(-x) % 4294967296,(-x) / 4294967296]= -x:=by simp only [val];omega
  have k:=nR true false _ c (by simp);rw [hv,if_pos rfl,Int.neg_neg] at k;have d:ax [(-x) % 4294967296,(-x) / 4294967296]= [[T.int .u32 ((-x) % 4294967296)],[T.int .u32 ((-x) / 4294967296)]]:=rfl;simp only [lu,d] at k;unfold RZ at k;have b:u32.wrap ((-x) / 4294967296)= (-x) / 4294967296:=mZ (by omega);have a:decide (x < 0)=true:=decide_eq_true g;rw [a];simp only [ai,↓reduceIte,Int.reduceBEq,Int.reduceEq,GD,f,ig,cD (-x),b,k];rfl
 .have f:u64.wrap x=x:=bc (by omega);have c:Dg [x % 4294967296,x / 4294967296]:=λu e=>by
   simp only [Uw,X7,or_false] at e;omega
  have hv:val [x % 4294967296,x / 4294967296]=x:=by simp only [val];omega
  have k:=nR false false _ c (by simp);rw [hv] at k;have d:ax [x % 4294967296,x / 4294967296]= [[T.int .u32 (x % 4294967296)],[T.int .u32 (x / 4294967296)]]:=rfl;simp only [lu,d] at k;unfold RZ at k;have b:u32.wrap (x / 4294967296)=x / 4294967296:=mZ (by omega);have a:decide (x < 0)=false:=decide_eq_false g;simp only [UM,↓reduceIte] at k;rw [a];simp only [ai,↓reduceIte,Int.reduceBEq,Int.reduceEq,GD,f,ig,cD x,b,k];unfold RZ;rfl
theorem QW{v n:Int}(hv: 0<=v/\v < 4294967296)(a: 0<=n/\n < 4294967296):
  u64.wrap (((BitVec.ofInt 64 n ||| BitVec.ofInt 64 (u64.wrap (v * (2:Int) ^ 32))).toNat:Nat):Int)=v * 4294967296+n:=by
 have h:=nH hv a;rw [BitVec.or_comm,bc (v:=n) (by omega)] at h;exact h
theorem I2{n:Int}(a: 0<=n/\n < 4294967296):u64.wrap (((BitVec.ofInt 64 0 ||| BitVec.ofInt 64 n).toNat:Nat):Int)=n:=by have h:=nH (v:=0) (n:=n) (by omega) a;rw [Int.zero_mul,bc (v:=0) (by omega),bc (v:=n) (by omega),Int.zero_mul,Yc] at h;exact h
theorem BM(u:Int)(s:Bool)(d:List Int)(x:ByteArray)(f: 0<=u/\u < 18446744073709551616)(i:Nat)(hi:i=d.length)(e:Bool):
  Or rr [r0,AV.t (T.int .u64 u),lu e d,I (d.length:Int),I (i:Int)] [ab.box [B s,AV.t (T.str x)]]=
   some (if -9223372036854775808<=(if s then -u else u)/\(if s then -u else u) < 9223372036854775808 then [ti (if s then -u else u),tb true] else [ti 0,tb false]):=by
 subst hi;refine ak ?_;rw [yu];have h1:¬(d.length:Int) < (d.length:Int):=by omega
 cases s with
 | true=>
  by_cases b:u<=9223372036854775808
  .have c:i64.wrap (0 - i64.wrap u)= -u:=by
    simp only [IntKind.wrap,IntKind.signed,IntKind.bits];simp;omega
   have a: -9223372036854775808<= -u/\ -u < 9223372036854775808:=by omega
   simp only [ai,↓reduceIte,Int.reduceBEq,Int.reduceEq,GD,h1,b,c,decide_true,a,and_self]
  .have a:¬(-9223372036854775808<= -u/\ -u < 9223372036854775808):=by omega
   simp only [ai,↓reduceIte,Int.reduceBEq,Int.reduceEq,GD,h1,b,decide_false,a]
 | false=>
  by_cases b:u < 9223372036854775808
  .have c:i64.wrap u=u:=cr (by omega);have a: -9223372036854775808<=u/\u < 9223372036854775808:=by omega
   simp only [ai,↓reduceIte,Int.reduceBEq,Int.reduceEq,GD,h1,b,c,decide_true,UM,a,and_self]
  .have a:¬(-9223372036854775808<=u/\u < 9223372036854775808):=by omega
   simp only [ai,↓reduceIte,Int.reduceBEq,Int.reduceEq,GD,h1,b,decide_false,UM,a,and_false]
theorem JZ(z:Int)(h:(dz z).length<=900):Or (.call 89) [LZ z] []=some (if -9223372036854775808<=z/\z < 9223372036854775808 then [ti z,tb true] else [ti 0,tb false]):=by
 have D:=lA z (by omega);have e:=dN z;have hv:=ef z;have H:=iP z;by_cases f:((dz z).length:Int) > 2
 .have E:¬(-9223372036854775808<=z/\z < 9223372036854775808):=by
   intro hz;have:=@yl z 2 (by
    have:(4294967296:Int) ^ 2=18446744073709551616:=by decide
    rw [this];omega)
   omega
  refine ak ?_;rw [yt,if_neg E];simp only [ai,↓reduceIte,Int.reduceBEq,Int.reduceEq,GD,D,aL,f]
 .have k:∀u:Int,u= (z.natAbs:Int)->(if decide (z < 0)=true then -u else u)=z:=λu J=>by
   simp only [decide_eq_true_eq];split <;> omega
  have s:∀(d:List Int),d=dz z->Or rr [r0,AV.t (T.int .u64 0),lu false d,I (d.length:Int),I 0] [ab.box [B (decide (z < 0)),AV.t (T.str (bJ (dz z)))]]=some (if -9223372036854775808<=z/\z < 9223372036854775808 then [ti z,tb true] else [ti 0,tb false]):=by
   intro d w;rw [<-w] at hv e f
   match d,w,hv,e,f with
   | [],_,hv,_,_=>have:=BM 0 (decide (z < 0)) [] (bJ (dz z)) (by omega) 0 rfl false;rw [k 0 (by rw [<-hv];rfl)] at this;exact this
   | [a],_,hv,e,_=>
    have l:=e a Uk;simp only [val,WH,Wf] at hv;have:=BM a (decide (z < 0)) [a] (bJ (dz z)) (by omega) 1 rfl false;rw [k a hv] at this;refine ak ?_;rw [yu];have r:i64.wrap (32 * 0)=0:=by decide
    have q:min (0:Int).toNat 64=0:=rfl;have p:u64.wrap a=a:=bc (by omega);have i:(0:Int) < (([a]:List Int).length:Int):=by simp
    have n:(ax [a])[(0:Int).toNat]? =some [T.int .u32 a]:=rfl;have g:¬(0:Int) < 0:=by omega
    have j:i64.wrap (0+1)= ((1:Nat):Int):=by decide
    have o:(0:Int)<=0/\(0:Int) < (([a]:List Int).length:Int):=⟨by omega,i⟩;simp only [ai,↓reduceIte,Int.reduceBEq,Int.reduceEq,GD,aL,i,o,and_self,n,r,q,g,Xy,Xq,p,I2 l,j];exact this
   | [a,b],_,hv,e,_=>
    have l:=e a Uk;have hb:=e b (Um _ Uk);simp only [val,WH,Wf] at hv;have:=BM (b * 4294967296+a) (decide (z < 0)) [a,b] (bJ (dz z)) (by omega) 2 rfl false;rw [k (b * 4294967296+a) (by omega)] at this;have r:i64.wrap (32 * 0)=0:=by decide
    have q:min (0:Int).toNat 64=0:=rfl;have G:i64.wrap (32 * ((1:Nat):Int))=32:=by decide
    have F:min (32:Int).toNat 64=32:=rfl;have p:u64.wrap a=a:=bc (by omega);have C:u64.wrap b=b:=bc (by omega);have i:(0:Int) < (([a,b]:List Int).length:Int):=by simp
    have m:((1:Nat):Int) < (([a,b]:List Int).length:Int):=by simp
    have n:(ax [a,b])[(0:Int).toNat]? =some [T.int .u32 a]:=rfl;have x:(ax [a,b])[((1:Nat):Int).toNat]? =some [T.int .u32 b]:=rfl;have g:¬(0:Int) < 0:=by omega
    have v:¬(32:Int) < 0:=by omega
    have j:i64.wrap (0+1)= ((1:Nat):Int):=by decide
    have y:i64.wrap (((1:Nat):Int)+1)= ((2:Nat):Int):=by decide
    have o:(0:Int)<=0/\(0:Int) < (([a,b]:List Int).length:Int):=⟨by omega,i⟩;have A:(0:Int)<=((1:Nat):Int)/\((1:Nat):Int) < (([a,b]:List Int).length:Int):=⟨by omega,m⟩;have step:Or rr [r0,AV.t (T.int .u64 a),lu false [a,b],I (([a,b]:List Int).length:Int),I ((1:Nat):Int)] [ab.box [B (decide (z < 0)),AV.t (T.str (bJ (dz z)))]]=some (if -9223372036854775808<=z/\z < 9223372036854775808 then [ti z,tb true] else [ti 0,tb false]):=by refine ak ?_;rw [yu];simp only [ai,↓reduceIte,Int.reduceBEq,Int.reduceEq,GD,aL,m,A,and_self,x,G,F,v,C,QW hb l,y];exact this
    refine ak ?_;rw [yu];simp only [ai,↓reduceIte,Int.reduceBEq,Int.reduceEq,GD,aL,i,o,and_self,n,r,q,g,Xy,Xq,p,I2 l,j];exact step
   | a::b::c::d,_,_,_,f=>simp at f;omega
  refine ak ?_;rw [yt];simp only [ai,↓reduceIte,Int.reduceBEq,Int.reduceEq,GD,D,aL,f];exact s _ rfl
end Go.Aev.Wd.Lg
