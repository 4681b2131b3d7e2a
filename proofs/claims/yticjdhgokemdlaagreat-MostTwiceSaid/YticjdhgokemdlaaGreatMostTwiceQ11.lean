import Derived.Test.YticjdhgokemdlaaGreatMostTwiceQ10
import Derived.Test.YticjdhgokemdlaaGreatMostTwiceQ6
import Derived.Test.YticjdhgokemdlaaGreatMostTwiceQ7
set_option linter.all false
namespace Go.Aev.Wd.Lg
open Go Go.Aev Go.Aev.Gen Go.Aev.Wd Go.IntKind
def nB:Nat->Nat->List Int
 | 0,_=> []
 | f+1,n=>if n=0 then [] else((n % 4294967296:Nat):Int)::nB f (n / 4294967296)
theorem yF:∀(f n:Nat),n<=f->Dg (nB f n)/\Can (nB f n)/\val (nB f n)= (n:Int)
 | 0,n,h=>by
  obtain rfl:n=0:=by omega
  exact⟨λa b=>by simp [nB] at b,λk c=>by simp [nB] at c,rfl⟩
 | f+1,n,h=>by
  rw [nB];by_cases e:n=0
  .subst e;rw [if_pos rfl];exact⟨(λa b=>by cases b),(λk c=>by cases c),rfl⟩
  .rw [if_neg e];have j:n / 4294967296 < n:=Nat.div_lt_self (by omega) (by omega);obtain⟨h1,g,d⟩:=yF f (n / 4294967296) (by omega);have hm:n % 4294967296 < 4294967296:=Yw _ (by omega);refine⟨λa b=> ?_,λk c=> ?_, ?_⟩
   .rcases Vo.1 b with rfl | b
    .omega
    .exact h1 a b
   .cases k with
    | zero=>have i:nB f (n / 4294967296)= []:=Vt.1 (by simpa using c);rw [i] at d;have hv:val []=0:=rfl;rw [hv] at d;show(_:Int)≠0;simp only [aN,List.getD_cons_zero];omega
    | succ k=>have:=g k (by simpa using c);simpa [aN] using this
   .rw [val,d];omega
def dz(z:Int):List Int:=nB z.natAbs z.natAbs
theorem dS(z:Int):Dg (dz z):=(yF _ _ (Vq _)).1
theorem iT(z:Int):Can (dz z):=(yF _ _ (Vq _)).2.1
theorem eD(z:Int):val (dz z)= (z.natAbs:Int):=(yF _ _ (Vq _)).2.2
theorem FJ{a:Int}{d:List Int}(h:Can (a::d)):Can d:=λk b=>by have:=h (k+1) (by simp [b]);simpa [aN] using this
theorem qg:∀{a b:List Int},Dg a->Dg b->Can a->Can b->val a=val b->a=b
 | [],[],_,_,_,_,_=>rfl
 | [],y::b,_,hb,_,e,h=>by have:=sd hb e (by simp);rw [<-h] at this;simp [val] at this
 | x::a,[],c,_,d,_,h=>by have:=sd c d (by simp);rw [h] at this;simp [val] at this
 | x::a,y::b,c,hb,d,e,h=>by
  have h1:=c x Vb;have i:=hb y Vb;rw [val,val] at h;have g:x=y:=by omega
  subst g;have:=qg (λu f=>c u (Vc _ f)) (λu f=>hb u (Vc _ f)) (FJ d) (FJ e) (by omega);rw [this]
theorem Nr{d:List Int}{z:Int}(h:Dg d)(c:Can d)(hv:val d= (z.natAbs:Int)):d=dz z:=qg h (dS z) c (iT z) (by rw [hv,eD])
theorem sD{z:Int}:dz z= []↔z=0:=by
 constructor
 .intro h;have:=eD z;rw [h] at this;simp [val] at this;exact this.symm▸by omega
 .rintro rfl;rfl
theorem uS(z:Int):dz (-z)=dz z:=by unfold dz;rw [Zo]
theorem yK{z:Int}{k:Nat}(h:(z.natAbs:Int) < 4294967296 ^ k):(dz z).length<=k:=by
 rcases Xr k (dz z).length with h1 | h1
 .exfalso;obtain⟨m,hm⟩:∃m,(dz z).length=m+1:=⟨(dz z).length - 1,by omega⟩;have a:=BL (dS z) (iT z) hm;rw [eD] at a;have b:(4294967296:Int) ^ k<=4294967296 ^ m:=vS (by omega);omega
 .exact h1
theorem C2{z:Int}(h:cE z):(dz z).length<=200:=yK h
def gy(a:Int):List UInt8:= [UInt8.ofNat (a.toNat % 256),UInt8.ofNat (a.toNat / 256 % 256),UInt8.ofNat (a.toNat / 65536 % 256),UInt8.ofNat (a.toNat / 16777216 % 256)]
def fX:List Int->List UInt8
 | []=> []
 | a::d=>gy a++fX d
def bM(d:List Int):ByteArray:=⟨(fX d).toArray⟩
theorem FC:∀d:List Int,(fX d).length=4 * d.length
 | []=>rfl
 | a::d=>by rw [fX,Ws,FC d,Vy];simp [gy];omega
theorem FB:∀(i:Nat) (d:List Int),(fX d).drop (4 * i)=fX (d.drop i)
 | 0,d=>by simp
 | i+1,[]=>by simp [fX]
 | i+1,a::d=>by rw [fX,show 4 * (i+1)= (gy a).length+4 * i from by simp [gy];omega,List.drop_append,List.drop_of_length_le (by omega),Vg,List.drop_succ_cons];rw [show(gy a).length+4 * i - (gy a).length=4 * i from by omega];exact FB i d
theorem Ht(d:List Int):(bM d).size=4 * d.length:=by show(fX d).toArray.size=_;rw [WX,FC]
theorem Py(A:Array UInt8)(a n x y:Nat)(h:A.size<=a+n):((#[]:Array UInt8).extract 0 0++A.extract a (a+n)++ (#[]:Array UInt8).extract x y).toList=A.toList.drop a:=by simp only [Array.toList_append,Yu,X1,ZA,Zz,Vg,We];rw [V9 (by simp;omega)]
theorem Pz(s:ByteArray)(a n:Nat)(h:n=s.size):(s.extract a n).size=n - a:=by subst h;have:(s.extract a s.size).size=min s.size s.size - a:=ByteArray.size_extract;rw [this];omega
theorem FD{n:Nat}(h:n < 256):((UInt8.ofNat n).toNat:Int)= (n:Int):=by rw [UInt8.toNat_ofNat'];omega
theorem DM:(2:Int) ^ 8=256:=by decide
theorem DK:(2:Int) ^ 16=65536:=by decide
theorem DL:(2:Int) ^ 24=16777216:=by decide
theorem nk{v:Int}(h: 0<=v/\v < 4294967296):u32.wrap v=v:=by rw [cF];omega
theorem Qo{a:Int}(h: 0<=a/\a < 4294967296)(d x2 b c:Int)(i:d= ((a.toNat % 256:Nat):Int))(j:x2= ((a.toNat / 256 % 256:Nat):Int))(k:b= ((a.toNat / 65536 % 256:Nat):Int))(l:c= ((a.toNat / 16777216 % 256:Nat):Int)):
  u32.wrap (((BitVec.ofInt 32 (u32.wrap (((BitVec.ofInt 32 (u32.wrap (((BitVec.ofInt 32 (u32.wrap d) ||| BitVec.ofInt 32 (u32.wrap (u32.wrap x2 * (2:Int) ^ 8))).toNat:Nat):Int)) ||| BitVec.ofInt 32 (u32.wrap (u32.wrap b * (2:Int) ^ 16))).toNat:Nat):Int)) ||| BitVec.ofInt 32 (u32.wrap (u32.wrap c * (2:Int) ^ 24))).toNat:Nat):Int)=a:=by
 have e: 0<=d/\d < 256:=by omega
 have f: 0<=x2/\x2 < 256:=by omega
 have b4: 0<=b/\b < 256:=by omega
 have g: 0<=c/\c < 256:=by omega
 rw [nk (v:=d) (by omega),nk (v:=x2) (by omega),nk (v:=b) (by omega),nk (v:=c) (by omega),DM,DK,DL];rw [nk (v:=x2 * 256) (by omega),nk (v:=b * 65536) (by omega),nk (v:=c * 16777216) (by omega)];rw [qU (y:=d) (z:=x2 * 256) (n:=8) (t:=x2.toNat) (by omega) (by rw [DM];omega) (by show x2 * 256= ((256 * x2.toNat:Nat):Int);omega) (by omega) (by omega)];rw [qU (y:=x2 * 256+d) (z:=b * 65536) (n:=16) (t:=b.toNat) (by omega) (by rw [DK];omega) (by show b * 65536= ((65536 * b.toNat:Nat):Int);omega) (by omega) (by omega)];rw [qU (y:=b * 65536+ (x2 * 256+d)) (z:=c * 16777216) (n:=24) (t:=c.toNat) (by omega) (by rw [DL];omega) (by show c * 16777216= ((16777216 * c.toNat:Nat):Int);omega) (by omega) (by omega)];omega
abbrev LS(s:Bool)(d:List Int):AV:=AV.agg [B s,AV.t (T.str (bM d))]
theorem Rv(s:Bool)(d:List Int)(D:Dg d)(J:d.length<=1000):∀(b:List Int) (i:Nat) (done:List Int),d.drop i=b->done.length=i->d=done++b->
  Or xI [r0,o1,I (d.length:Int),I (i:Int)] [ab.box [B s,AV.t (T.str (bM d))],ab.sl false 1 false (ax (done++List.replicate b.length 0))]=some [T.aa 1 false (ax d)]:=by
 intro b;induction b with
 | nil=>
  intro i done h hi c;have h1:¬(i:Int) < (d.length:Int):=by have:=bw h;omega
  refine al ?_;rw [Hj];simp only [ai,↓reduceIte,Int.reduceBEq,Int.reduceEq,GD,h1,VS,WW];rw [c]
 | cons a b G=>
  intro i done h hi c;obtain⟨w,H,z⟩:=bt h;have C:=D a (Va w);have h1:(i:Int) < (d.length:Int):=by omega
  have F:i64.wrap (4 * (i:Int))= ((4 * i:Nat):Int):=by rw [Go.Aev.wr (by omega)];omega
  have l:=Ht d;have j:bQ ((4 * i:Nat):Int) ((bM d).size:Int) ((bM d).size:Int)=some ():=vo (by omega);have g:((bM d).extract (4 * i) (bM d).size).size=4 * d.length - 4 * i:=by rw [Pz _ _ _ rfl,l]
  have A:∀x y:Nat,((#[]:Array UInt8).extract 0 0++ (bM d).data.extract (4 * i) (4 * i+ ((bM d).size - 4 * i))++ (#[]:Array UInt8).extract x y).toList=gy a++fX b:=λx y=>by rw [Py _ _ _ _ _ (by show(bM d).size<=_;omega)];show(fX d).toArray.toList.drop (4 * i)=_;rw [List.toList_toArray,FB,h,fX]
  have m:(0:Int)<=0/\(0:Int) < ((4 * d.length - 4 * i:Nat):Int):=by omega
  have n:(0:Int)<=1/\(1:Int) < ((4 * d.length - 4 * i:Nat):Int):=by omega
  have o:(0:Int)<=2/\(2:Int) < ((4 * d.length - 4 * i:Nat):Int):=by omega
  have p:(0:Int)<=3/\(3:Int) < ((4 * d.length - 4 * i:Nat):Int):=by omega
  have q:(gy a++fX b)[0]? =some (UInt8.ofNat (a.toNat % 256)):=rfl;have r:(gy a++fX b)[1]? =some (UInt8.ofNat (a.toNat / 256 % 256)):=rfl;have u:(gy a++fX b)[2]? =some (UInt8.ofNat (a.toNat / 65536 % 256)):=rfl;have v:(gy a++fX b)[3]? =some (UInt8.ofNat (a.toNat / 16777216 % 256)):=rfl;have E:=Qo C _ _ _ _ rfl rfl rfl rfl;have f: 0<=(i:Int):=by omega
  have e:(i:Int) < ((ax (done++List.replicate (a::b).length 0)).length:Int):=by rw [aM];simp;omega
  have k:bo i 0 [T.int .u32 a] (ax (done++List.replicate (a::b).length 0))=some (ax ((done++ [a])++List.replicate b.length 0)):=by have:=fp done 0 a (List.replicate b.length 0) i hi;rw [VE] at this;rw [Vy,VX,this];simp
  have:=G (i+1) (done++ [a]) z (by simp [hi]) (by rw [c];simp);refine al ?_;rw [Hj];simp only [ai,↓reduceIte,Int.reduceBEq,Int.reduceEq,GD,h1,F,j,VE,g,A,m,n,o,p,q,r,u,v,FD (Yw _ (by decide:(0:Nat) < 256)),E,f,e,and_self,k,next i (by omega)];exact this
theorem Tf(s:Bool)(d:List Int)(b:Dg d)(c:d.length<=1000):Or (.call 104) [LS s d] []=some [T.aa 1 false (ax d)]:=by
 have a:=Ht d;have f:i64.wrap (((bM d).size:Int).tdiv 4)= (d.length:Int):=by rw [a,Wg (by omega),Go.Aev.wr (by omega)];omega
 have hm:br (d.length:Int) (d.length:Int)=some ():=by unfold br;rw [if_pos (by unfold dY;omega)]
 have e:List.replicate ((d.length:Int)).toNat [T.int .u32 0]=ax (List.replicate d.length 0):=by simp [ax]
 have:=Rv s d b c d 0 [] rfl rfl rfl;refine al ?_;rw [Oy];simp only [ai,↓reduceIte,Int.reduceBEq,Int.reduceEq,GD,f,hm,e,aM,W7];exact this
theorem Jk(e:Bool)(l:List Int)(h:l.length<=1000):∀k,k<=l.length->Or xe [lu e (l.take k)] []=some [T.aa 1 e (ax (l.take (fq l k)))]
 | 0,g=>by
  refine al ?_;rw [Gt];have a:¬((0:Nat):Int) > 0:=by omega
  simp only [ai,↓reduceIte,Int.reduceBEq,Int.reduceEq,GD,bE,aM,X5,VS,a,decide_false,fq]
 | k+1,g=>by
  have j:=Jk e l h k (by omega);have a:((k+1:Nat):Int) > 0:=by omega
  have f:i64.wrap (((k+1:Nat):Int) - 1)= (k:Int):=by rw [Go.Aev.wr (by omega)];omega
  have c: 0<=(k:Int)/\(k:Int) < ((k+1:Nat):Int):=by omega
  have hi:bQ 0 (k:Int) ((k+1:Nat):Int)=some ():=vo (by omega);have b:(l.take (k+1)).length=k+1:=by rw [Wb];omega
  have d:(ax (l.take (k+1)))[((k:Nat):Int).toNat]? =some [T.int .u32 (aN l k)]:=by rw [bD (by omega)];simp [aN,U9,XT]
  have i:sub 0 (k:Int) (ax (l.take (k+1)))=ax (l.take k):=by simp only [sub,ax,VE,Int.toNat_zero,Yo,Wq,<-List.map_take,List.take_take];rw [ZO (by omega)]
  refine al ?_;rw [Gt,fq];by_cases hz:aN l k=0
  .rw [if_pos hz];simp only [ai,↓reduceIte,Int.reduceBEq,Int.reduceEq,GD,aM,b,a,decide_true,f,c,and_self,d,hz,hi,i];exact j
  .rw [if_neg hz];simp only [ai,↓reduceIte,Int.reduceBEq,Int.reduceEq,GD,aM,b,a,decide_true,f,c,and_self,d,hz]
theorem rm(e:Bool)(l:List Int)(a:l.length<=1000):Or (.call 134) [lu e l] []=some [T.aa 1 e (ax (bH l))]:=by have:=Jk e l a l.length (Vq _);rw [XE] at this;refine al ?_;rw [Nt];exact this
theorem nf{l:List Int}(h:Dg l):Dg (bH l):=λa b=>h a (Xe b)
theorem LK{l:List Int}{z:Int}(h:Dg l)(hv:val l= (z.natAbs:Int)):bH l=dz z:=Nr (nf h) (pO l) (by rw [oq,hv])
def kX(l:List UInt8):List (List T):=l.map λb=> [T.int .u8 (b.toNat:Int)]
theorem FG:∀l:List UInt8,bytesOf (kX l)=some l
 | []=>rfl
 | b::l=>by have h1:=FG l;unfold kX at h1⊢;simp only [V6,bytesOf,WU,Vj,CS,h1];simp
theorem w8(v:Int):u8.wrap v=v % 256:=by simp [IntKind.wrap,IntKind.signed,IntKind.bits]
theorem PN(a:Int)(h: 0<=a/\a < 4294967296): [[T.int .u8 (u8.wrap a)],[T.int .u8 (u8.wrap (a.fdiv (2 ^ 8)))],[T.int .u8 (u8.wrap (a.fdiv (2 ^ 16)))],[T.int .u8 (u8.wrap (a.fdiv (2 ^ 24)))]]=kX (gy a):=by
 have e:∀n:Nat,n < 256->((UInt8.ofNat n).toNat:Int)= (n:Int):=λn b=>FD b;simp only [kX,gy,V6,X9,e _ (Yw _ (by decide:(0:Nat) < 256)),w8,DM,DK,DL];rw [Wf _ (by omega),Wf _ (by omega),Wf _ (by omega)];have c:a % 256= ((a.toNat % 256:Nat):Int):=by omega
 have q1:a / 256 % 256= ((a.toNat / 256 % 256:Nat):Int):=by omega
 have d:a / 65536 % 256= ((a.toNat / 65536 % 256:Nat):Int):=by omega
 have f:a / 16777216 % 256= ((a.toNat / 16777216 % 256:Nat):Int):=by omega
 rw [c,q1,d,f]
theorem Ru(s s0 e g:Bool)(l:List Int)(y:ByteArray)(o:Dg l)(u:l.length<=1000):∀(b:List Int) (i:Nat) (done:List UInt8) (e2:Bool),l.drop i=b->done.length=4 * i->
  Or xF [B s,lu e l,r0,o1,lu g l,I (l.length:Int),I (i:Int)] [ab.box [B s0,AV.t (T.str y)],ab.sl false 1 e2 (kX done)]=some [tb (s && decide (l≠[])),T.str ⟨(done++fX b).toArray⟩]:=by
 intro b;induction b with
 | nil=>
  intro i done e2 h hi;have h1:¬(i:Int) < (l.length:Int):=by have:=bw h;omega
  refine al ?_;rw [Hg];simp only [ai,↓reduceIte,Int.reduceBEq,Int.reduceEq,GD,h1,FG,aM,fX,We];cases l with
  | nil=>cases s <;> simp
  | cons a l=>cases s <;> (try simp) <;> (try omega)
 | cons a b r=>
  intro i done e2 h hi;obtain⟨d,j,k⟩:=bt h;have n:=o a (Va d);have h1:(i:Int) < (l.length:Int):=by omega
  have m: 0<=(i:Int):=by omega
  have q:(ax l)[((i:Nat):Int).toNat]? =some [T.int .u32 a]:=by rw [bD j,Nb d]
  have p:=PN a n;have f:bu 1 ((kX done).length+ (kX (gy a)).length)=some ():=iL (by simp [kX,gy];omega);have c:kX done++kX (gy a)=kX (done++gy a):=by simp [kX]
  have:=r (i+1) (done++gy a) (e2 && false) k (by simp [gy];omega);rw [YN,VJ] at this;refine al ?_;rw [Hg,fX];simp only [ai,↓reduceIte,Int.reduceBEq,Int.reduceEq,GD,h1,m,and_self,aM,q,p,f,c,next i (by omega)];exact this
def RZ(z:Int):List T:= [tb (decide (z < 0)),T.str (bM (dz z))]
abbrev LZ(z:Int):AV:=LS (decide (z < 0)) (dz z)
theorem n8(s e:Bool)(l:List Int)(a:Dg l)(d:l.length<=1000):Or (.call 109) [B s,lu e l] []=some (RZ (if s then -val l else val l)):=by
 have g:=eJ a;have f:=rm e l d;have c:bH l=dz (if s then -val l else val l):=LK a (by split <;> omega);have b:(bH l).length<=1000:=by
  have:(bH l).length<=l.length:=by(unfold bH;rw [Wb];omega)
  omega
 have hm:br 0 (i64.wrap (4 * ((bH l).length:Int)))=some ():=by rw [Go.Aev.wr (by omega)];unfold br;rw [if_pos (by unfold dY;omega)]
 have k2:=Ru s false e e (bH l) ⟨#[]⟩ (nf a) b (bH l) 0 [] false rfl rfl;have hv:(s && decide (bH l≠[]))=decide ((if s then -val l else val l) < 0):=by
  have hz:bH l= []↔val l=0:=by rw [c,sD];split <;> omega
  cases s with
  | false=>simp;omega
  | true=>simp only [WS,if_true];refine decide_eq_decide.2 ?_;rw [ne_eq,hz];omega
 refine al ?_;rw [Oo];simp only [ai,↓reduceIte,Int.reduceBEq,Int.reduceEq,GD,f,aM,hm];refine k2.trans ?_;rw [Vg,hv,c];rfl
open Go Go.Aev Go.Aev.Gen Go.Aev.Wd
theorem cu{v:Int}(h: -9223372036854775808<=v/\v < 9223372036854775808):i64.wrap v=v:=Go.Aev.wr h
theorem Hs(d:List Int):((bM d).toList== (ByteArray.mk #[]).toList)=decide (d= []):=by
 have h1:∀s:ByteArray,s.toList=s.data.toList:=λs=>by rw [ByteArray.toList_eq]
 cases d with
 | nil=>rw [h1,h1];simp [bM,fX]
 | cons a d=>rw [h1,h1];simp [bM,fX,gy]
theorem pI(z:Int):Or (.call 70) [LZ z] []=some [ti z.sign]:=by
 refine al ?_;rw [Oq,Hs];by_cases a:z=0
 .subst a;rfl
 .have b:¬dz z= []:=λh=>a (sD.1 h);rcases Xj z 0 with h | h | h
  .simp only [ai,↓reduceIte,Int.reduceBEq,Int.reduceEq,GD,b,h,decide_true,WH h]
  .exact absurd h a
  .have c:¬z < 0:=by omega
   simp only [ai,↓reduceIte,Int.reduceBEq,Int.reduceEq,GD,b,c,decide_false,Wp h]
theorem Ee(z:Int):Or (.call 106) [LZ z] []=some (RZ (-z)):=by
 refine al ?_;rw [On,Hs];unfold RZ;rw [uS];have:(bif !decide (z < 0) then !decide (dz z= []) else false)=decide (-z < 0):=by
  have h:=@sD z;by_cases a:z < 0
  .have:¬ -z < 0:=by omega
   rw [decide_eq_true a,decide_eq_false this];rfl
  .by_cases h1:z=0
   .subst h1;rfl
   .have b: -z < 0:=by omega
    rw [decide_eq_false a,decide_eq_false (mt h.1 h1),decide_eq_true b];rfl
 rw [this]
theorem lC(z:Int)(h:(dz z).length<=1000):Or (.call 104) [LZ z] []=some [T.aa 1 false (ax (dz z))]:=Tf _ _ (dS z) h
theorem Jy(a b:List Int)(h eb:Bool)(g:Dg a)(hb:Dg b)(l:a.length=b.length)(m:a.length<=1000):∀(k:Nat) (z:Int),z= (k:Int) - 1->k<=a.length->
  Or xH [lu h a,lu eb b,I z] []=some [ti (cf (val (a.take k)) (val (b.take k)))]
 | 0,z,hz,j=>by
  refine al ?_;rw [Hi];have h1:¬z>=0:=by omega
  simp only [ai,↓reduceIte,Int.reduceBEq,Int.reduceEq,GD,h1];simp [cf]
 | k+1,z,hz,j=>by
  obtain rfl:z= (k:Int):=by omega
  have h1:(k:Int)>=0:=by omega
  have e: 0<=(k:Int)/\(k:Int) < (a.length:Int):=by omega
  have f:(k:Int) < (b.length:Int):=by omega
  have n:i64.wrap ((k:Int) - 1)= (k:Int) - 1:=cu (by omega);refine al ?_;rw [Hi];by_cases c:aN a k < aN b k
  .have:=yz g hb (show k < a.length by omega) (by omega) c;simp only [ai,↓reduceIte,Int.reduceBEq,Int.reduceEq,GD,h1,e,f,and_self,aM,bD (show k < a.length by omega),bD (show k < b.length by omega),c];unfold cf;rw [if_pos this]
  .by_cases d:aN a k > aN b k
   .have:=yz hb g (show k < b.length by omega) (by omega) d;simp only [ai,↓reduceIte,Int.reduceBEq,Int.reduceEq,GD,h1,e,f,and_self,aM,bD (show k < a.length by omega),bD (show k < b.length by omega),c,d];unfold cf;rw [if_neg (by omega),if_neg (by omega)]
   .have i:aN a k=aN b k:=by omega
    have:=Jy a b h eb g hb l m k ((k:Int) - 1) rfl (by omega);have hv:cf (val (a.take (k+1))) (val (b.take (k+1)))=cf (val (a.take k)) (val (b.take k)):=by rw [ow (by omega),ow (by omega),i,FX]
    rw [hv];simp only [ai,↓reduceIte,Int.reduceBEq,Int.reduceEq,GD,h1,e,f,and_self,aM,bD (show k < a.length by omega),bD (show k < b.length by omega),c,d,n];exact this
theorem Af(a b:List Int)(f eb:Bool)(e:Dg a)(hb:Dg b)(h:Can a)(i:Can b)(g:a.length<=1000)(k:b.length<=1000):
  Or (.call 103) [lu f a,lu eb b] []=some [ti (cf (val a) (val b))]:=by
 refine al ?_;rw [Ox];by_cases c:(a.length:Int)= (b.length:Int)
 .have:=Jy a b f eb e hb (by omega) g a.length _ rfl (Vq _);rw [XE,show b.take a.length=b from V9 (by omega)] at this;have j:i64.wrap ((a.length:Int) - 1)= (a.length:Int) - 1:=cu (by omega);simp only [aM,j];simp only [ai,↓reduceIte,Int.reduceBEq,Int.reduceEq,GD,c];rw [c] at this;exact this
 .by_cases d:(a.length:Int) < (b.length:Int)
  .have:=mU e hb i (by omega);simp only [ai,↓reduceIte,Int.reduceBEq,Int.reduceEq,GD,aM,c,d];unfold cf;rw [if_pos this]
  .have:=mU hb e h (by omega);simp only [ai,↓reduceIte,Int.reduceBEq,Int.reduceEq,GD,aM,c,d];unfold cf;rw [if_neg (by omega),if_neg (by omega)]
theorem SY(x y:Int)(b:(dz x).length<=1000)(hy:(dz y).length<=1000):Or (.call 65) [LZ x,LZ y] []=some [ti (cf x y)]:=by
 have e:=pI x;have k2:=pI y;have f:=lC x b;have g:=lC y hy;have c:=Af (dz x) (dz y) false false (dS x) (dS y) (iT x) (iT y) b hy;have d:=Af (dz y) (dz x) false false (dS y) (dS x) (iT y) (iT x) hy b;rw [eD,eD] at c d;have key:(if x.sign=y.sign then(if x < 0 then cf (y.natAbs:Int) (x.natAbs:Int) else cf (x.natAbs:Int) (y.natAbs:Int)) else if x.sign < y.sign then -1 else 1)=cf x y:=by
  rcases Xj x 0 with h | h | h <;> rcases Xj y 0 with a | a | a <;>
   (first | rw [WH h] | rw [Wp h] | rw [h,Int.sign_zero]) <;>
   (first | rw [WH a] | rw [Wp a] | rw [a,Int.sign_zero]) <;> unfold cf <;> (repeat' split) <;> omega
 refine al ?_;rw [GU];simp only [ai,↓reduceIte,Int.reduceBEq,Int.reduceEq,GD,e,k2,f,g,c,d];rw [<-key];split
 .split <;> rfl
 .split <;> rfl
theorem od(n:Nat)(h:n<=100000):bu 4 n=some ():=iL h
theorem nq(d:List Int)(v:Int):ax d++ [[T.int .u32 v]]=ax (d++ [v]):=by simp [ax]
theorem nr(n:Nat)(v:Int):n+ ([[T.int .u32 v]]:List (List T)).length=n+1:=by simp
theorem Jn(x y:List Int)(z A:Bool)(D:Dg x)(hy:Dg y)(K:y.length<=x.length)(L:x.length<=1000):∀(d:List Int) (i:Nat) (c:Int) (done:List Int),x.drop i=d->done.length=i->i<=x.length->0<=c/\c<=1->
  Or rS [lu A y,o0,AV.t (T.int .u64 c),lu z x,I (x.length:Int),I (i:Int)] [ab.sl false 1 false (ax done)]=some [T.aa 1 false (ax (done++dE d (y.drop i) c))]:=by
 intro d;induction d with
 | nil=>
  intro i c done h l hi C;have G:=bw h;obtain rfl:i=x.length:=by omega
  have h1:¬(x.length:Int) < (x.length:Int):=by omega
  refine al ?_;rw [GC];simp only [ai,↓reduceIte,Int.reduceBEq,Int.reduceEq,GD,h1,aM,nk (v:=c) (by omega),nq,nr,od (done.length+1) (by omega),dE]
 | cons a d u=>
  intro i c done h l hi C;obtain⟨B,m,n⟩:=bt h;have h1:(i:Int) < (x.length:Int):=by omega
  have o: 0<=(i:Int):=by omega
  have J:=D a (Va B);have j:=fI h;refine al ?_;rw [GC];cases g:y.drop i with
  | nil=>
   have H:=bw g;have k:¬(i:Int) < (y.length:Int):=by omega
   have e:u64.wrap a=a:=bf (by omega);have f:u64.wrap (c+a)=c+a:=bf (by omega);have s:y.drop (i+1)= []:=by simp;omega
   have:=u (i+1) ((c+a) / 4294967296) (done++ [(c+a) % 4294967296]) n (by simp [l]) (by omega) (by omega);rw [s,show done++ [(c+a) % 4294967296] ++dE d [] ((c+a) / 4294967296)=done++dE (a::d) [] c from by simp [dE]] at this;simp only [ai,↓reduceIte,Int.reduceBEq,Int.reduceEq,GD,h1,o,and_self,aM,bD m,j,k,e,f,cF,ij,nq,nr,od (done.length+1) (by omega),next i (by omega)];exact this
  | cons b w=>
   obtain⟨E,k2,F⟩:=bt g;have hb:=hy b (Va E);have p:=fI g;have k:(i:Int) < (y.length:Int):=by omega
   have e:u64.wrap a=a:=bf (by omega);have f:u64.wrap (c+a)=c+a:=bf (by omega);have q:u64.wrap b=b:=bf (by omega);have r:u64.wrap (c+a+b)=c+a+b:=bf (by omega);have:=u (i+1) ((c+a+b) / 4294967296) (done++ [(c+a+b) % 4294967296]) n (by simp [l]) (by omega) (by omega);rw [F,show done++ [(c+a+b) % 4294967296] ++dE d w ((c+a+b) / 4294967296)=done++dE (a::d) (b::w) c from by simp [dE]] at this;simp only [ai,↓reduceIte,Int.reduceBEq,Int.reduceEq,GD,h1,o,and_self,aM,bD m,bD k2,j,p,k,e,f,q,r,cF,ij,nq,nr,od (done.length+1) (by omega),next i (by omega)];exact this
theorem SL(x y:List Int)(c e:Bool)(b:Dg x)(hy:Dg y)(h:x.length<=900)(i:y.length<=900):∃d,Or (.call 146) [lu c x,lu e y] []=some [T.aa 1 false (ax d)]/\Dg d/\val d=val x+val y/\d.length<=max x.length y.length+1:=by
 by_cases g:(x.length:Int) < (y.length:Int)
 .have h1:=Jn y x e c hy b (by omega) (by omega) y 0 0 [] rfl rfl (by omega) (by omega);refine⟨dE y x 0,al ?_,tI hy b (by omega),by rw [tK (by omega)];omega,by rw [tJ];omega⟩;have f:i64.wrap ((y.length:Int)+1)= ((y.length+1:Nat):Int):=next y.length (by omega);have a:br 0 ((y.length+1:Nat):Int)=some ():=by unfold br dY;rw [if_pos (by omega)]
  rw [GB];simp only [ai,↓reduceIte,Int.reduceBEq,Int.reduceEq,GD,aM,g,f,a];exact h1
 .have h1:=Jn x y c e b hy (by omega) (by omega) x 0 0 [] rfl rfl (by omega) (by omega);refine⟨dE x y 0,al ?_,tI b hy (by omega),by rw [tK (by omega)];omega,by rw [tJ];omega⟩;have f:i64.wrap ((x.length:Int)+1)= ((x.length+1:Nat):Int):=next x.length (by omega);have a:br 0 ((x.length+1:Nat):Int)=some ():=by unfold br dY;rw [if_pos (by omega)]
  rw [GB];simp only [ai,↓reduceIte,Int.reduceBEq,Int.reduceEq,GD,aM,g,f,a];exact h1
theorem Rj(x y:List Int)(w z:Bool)(C:Dg x)(hy:Dg y)(d:x.length<=1000):∀(e:List Int) (i:Nat) (c:Int) (done:List Int),x.drop i=e->done.length=i->0<=c/\c<=1->
  Or p6 [lu z y,o0,I c,lu w x,I (x.length:Int),I (i:Int)] [ab.sl false 1 false (ax done)]=some [T.aa 1 false (ax (done++dN e (y.drop i) c))]:=by
 intro e;induction e with
 | nil=>
  intro i c done h r B;have F:=bw h;have h1:¬(i:Int) < (x.length:Int):=by omega
  refine al ?_;rw [GF];simp only [ai,↓reduceIte,Int.reduceBEq,Int.reduceEq,GD,h1];simp [dN]
 | cons a e u=>
  intro i c done h r B;obtain⟨A,m,s⟩:=bt h;have h1:(i:Int) < (x.length:Int):=by omega
  have n: 0<=(i:Int):=by omega
  have H:=C a (Va A);have f:=fI h;have g:i64.wrap a=a:=cu (by omega);have j:i64.wrap (a - c)=a - c:=cu (by omega);refine al ?_;rw [GF];cases l:y.drop i with
  | nil=>
   have G:=bw l;have k:¬(i:Int) < (y.length:Int):=by omega
   have t:y.drop (i+1)= []:=by simp;omega
   have:=u (i+1) (ct (a - c)) (done++ [(a - c) % 4294967296]) s (by simp [r]) (by unfold ct;split <;> omega);rw [t,show done++ [(a - c) % 4294967296] ++dN e [] (ct (a - c))=done++dN (a::e) [] c from by simp [dN]] at this;by_cases d:a - c < 0
   .have hv:u32.wrap (i64.wrap (a - c+4294967296))= (a - c) % 4294967296:=by rw [cF,cu (by omega)];omega
    unfold ct at this;rw [if_pos d] at this;simp only [ai,↓reduceIte,Int.reduceBEq,Int.reduceEq,GD,h1,n,and_self,aM,bD m,f,k,g,j,d,hv,nq,nr,od (done.length+1) (by omega),next i (by omega)];exact this
   .have hv:u32.wrap (a - c)= (a - c) % 4294967296:=cF _;unfold ct at this;rw [if_neg d] at this;simp only [ai,↓reduceIte,Int.reduceBEq,Int.reduceEq,GD,h1,n,and_self,aM,bD m,f,k,g,j,d,hv,nq,nr,od (done.length+1) (by omega),next i (by omega)];exact this
  | cons b v=>
   obtain⟨D,k2,E⟩:=bt l;have hb:=hy b (Va D);have o:=fI l;have k:(i:Int) < (y.length:Int):=by omega
   have p:i64.wrap b=b:=cu (by omega);have q:i64.wrap (a - c - b)=a - c - b:=cu (by omega);have:=u (i+1) (ct (a - c - b)) (done++ [(a - c - b) % 4294967296]) s (by simp [r]) (by unfold ct;split <;> omega);rw [E,show done++ [(a - c - b) % 4294967296] ++dN e v (ct (a - c - b))=done++dN (a::e) (b::v) c from by simp [dN]] at this;by_cases d:a - c - b < 0
   .have hv:u32.wrap (i64.wrap (a - c - b+4294967296))= (a - c - b) % 4294967296:=by rw [cF,cu (by omega)];omega
    unfold ct at this;rw [if_pos d] at this;simp only [ai,↓reduceIte,Int.reduceBEq,Int.reduceEq,GD,h1,n,and_self,aM,bD m,bD k2,f,o,k,g,j,p,q,d,hv,nq,nr,od (done.length+1) (by omega),next i (by omega)];exact this
   .have hv:u32.wrap (a - c - b)= (a - c - b) % 4294967296:=cF _;unfold ct at this;rw [if_neg d] at this;simp only [ai,↓reduceIte,Int.reduceBEq,Int.reduceEq,GD,h1,n,and_self,aM,bD m,bD k2,f,o,k,g,j,p,q,d,hv,nq,nr,od (done.length+1) (by omega),next i (by omega)];exact this
theorem KG(x y:List Int)(a b:Bool)(e:Dg x)(hy:Dg y)(f:y.length<=x.length)(hv:val y<=val x)(g:x.length<=900):∃d,Or (.call 147) [lu a x,lu b y] []=some [T.aa 1 false (ax d)]/\Dg d/\val d=val x - val y/\d.length=x.length:=by
 have h1:=Rj x y a b e hy (by omega) x 0 0 [] rfl rfl (by omega);refine⟨dN x y 0,al ?_,zw,by rw [zy e hy f (by omega) (by omega)];omega,zx⟩;have c:br 0 (x.length:Int)=some ():=by unfold br dY;rw [if_pos (by omega)]
 rw [NG];simp only [ai,↓reduceIte,Int.reduceBEq,Int.reduceEq,GD,aM,c];exact h1
theorem yJ{x y:Int}(h:y.natAbs<=x.natAbs):(dz y).length<=(dz x).length:=by
 rcases Xr (dz x).length (dz y).length with h1 | h1
 .have:=mU (dS x) (dS y) (iT y) h1;rw [eD,eD] at this;omega
 .exact h1
theorem SF(x y:Int)(k:(dz x).length<=900)(hy:(dz y).length<=900):Or (.call 136) [LZ x,LZ y] []=some (RZ (x+y)):=by
 have h:=lC x (by omega);have k2:=lC y (by omega);refine al ?_;rw [Nv];by_cases hs:decide (x < 0)=decide (y < 0)
 .obtain⟨d,c,e,f,i⟩:=SL (dz x) (dz y) false false (dS x) (dS y) k hy;have a:=n8 (decide (x < 0)) false d e (by omega);have hb:(decide (x < 0)==decide (y < 0))=true:=by simpa using hs
  have hv:(if decide (x < 0)=true then -val d else val d)=x+y:=by
   rw [f,eD,eD];simp only [decide_eq_true_eq];have j:x < 0↔y < 0:=by simpa using hs
   split <;> omega
  rw [hv] at a;unfold RZ at a;simp only [ai,↓reduceIte,Int.reduceBEq,Int.reduceEq,GD,h,k2,hb,c,a];rfl
 .have hb:(decide (x < 0)==decide (y < 0))=false:=by simpa using hs
  have j:¬(x < 0↔y < 0):=by simpa using hs
  have a:=Af (dz x) (dz y) false false (dS x) (dS y) (iT x) (iT y) (by omega) (by omega);rw [eD,eD] at a;by_cases l:(y.natAbs:Int)<=(x.natAbs:Int)
  .have g:cf (x.natAbs:Int) (y.natAbs:Int)>=0:=by unfold cf;rw [if_neg (by omega)];split <;> omega
   obtain⟨d,c,e,f,i⟩:=KG (dz x) (dz y) false false (dS x) (dS y) (yJ (by omega)) (by rw [eD,eD];exact l) k;have b:=n8 (decide (x < 0)) false d e (by omega);have hv:(if decide (x < 0)=true then -val d else val d)=x+y:=by rw [f,eD,eD];simp only [decide_eq_true_eq];split <;> omega
   rw [hv] at b;unfold RZ at b;simp only [ai,↓reduceIte,Int.reduceBEq,Int.reduceEq,GD,h,k2,hb,a,g,c,b];rfl
  .have g:¬cf (x.natAbs:Int) (y.natAbs:Int)>=0:=by unfold cf;rw [if_pos (by omega)];omega
   obtain⟨d,c,e,f,i⟩:=KG (dz y) (dz x) false false (dS y) (dS x) (yJ (by omega)) (by rw [eD,eD];omega) hy;have b:=n8 (decide (y < 0)) false d e (by omega);have hv:(if decide (y < 0)=true then -val d else val d)=x+y:=by rw [f,eD,eD];simp only [decide_eq_true_eq];split <;> omega
   rw [hv] at b;unfold RZ at b;simp only [ai,↓reduceIte,Int.reduceBEq,Int.reduceEq,GD,h,k2,hb,a,g,c,b];rfl
theorem xY:∀n,n < 256->∃u,L8[n]? =some u/\u.toNat<=8/\n < 2 ^ u.toNat/\(n≠0->2 ^ u.toNat<=2 * n):=by
 have:∀n,n < 256->(match L8[n]? with | some u=>decide (u.toNat<=8/\n < 2 ^ u.toNat/\(n≠0->2 ^ u.toNat<=2 * n)) | none=>false)=true:=by decide+kernel
 intro n b;have h:=this n b;cases a:L8[n]? with
 | none=>rw [a] at h;cases h
 | some u=>rw [a] at h;exact⟨u,rfl,of_decide_eq_true h⟩
set_option maxRecDepth 100000 in
theorem KH(a:Int)(I: 0<=a/\a < 4294967296):∃n:Nat,Or (.call 140) [AV.t (T.int .u32 a)] []=some [ti (n:Int)]/\n<=32/\a < 2 ^ n/\(a≠0->(2:Int) ^ n<=2 * a):=by
 have p:(2:Int) ^ 8=256:=by decide
 have e:(2:Int) ^ 16=65536:=by decide
 have q:∀v:Int,v.fdiv 256=v / 256:=λv=>Wf _ (by omega);have l:∀v:Int,v.fdiv 65536=v / 65536:=λv=>Wf _ (by omega)
 have m:∀(k:Nat) (n:Nat) (u:UInt8),k<=24->n < 256->(n:Int)=a / 2 ^ k->(k≠0->n≠0)->u.toNat<=8/\n < 2 ^ u.toNat/\(n≠0->2 ^ u.toNat<=2 * n)->
   (k+u.toNat)<=32/\a < (2:Int) ^ (k+u.toNat)/\(a≠0->(2:Int) ^ (k+u.toNat)<=2 * a):=by
  intro k n u J b s B h;have w:=gL k;obtain⟨h1,H,D⟩:=h;have y:(n:Int)+1<=(2:Int) ^ u.toNat:=by rw [nX];omega
  have E:a < (2:Int) ^ k * ((n:Int)+1):=by rw [s];have:=Int.lt_mul_ediv_self_add (x:=a) w;rw [VG,Yi];exact this
  have F:(2:Int) ^ k * (n:Int)<=a:=by rw [s];exact Int.mul_ediv_self_le (by omega)
  refine⟨by omega, ?_,λG=> ?_⟩
  .rw [X4];have:=Vh y (Wu w);omega
  .have A:n≠0:=by
    rcases Nat.eq_zero_or_pos k with r | r
    .subst r;rw [Yr,Int.ediv_one] at s;omega
    .exact B (by omega)
   have z:(2:Int) ^ u.toNat<=2 * (n:Int):=by rw [nX];have:=D A;omega
   rw [X4];have:=Vh z (Wu w);rw [VU] at this;omega
 by_cases o:a>=65536
 .by_cases d:a / 65536>=256
  .have b:(a / 65536 / 256).toNat < 256:=by omega
   obtain⟨u,i,j⟩:=xY _ b;have g:u8.wrap (a / 65536 / 256)=a / 65536 / 256:=by rw [w8];omega
   have f: 0<=a / 65536 / 256/\a / 65536 / 256 < 256:=by omega
   have c:i64.wrap (i64.wrap (16+8)+i64.wrap (u.toNat:Int))= ((24+u.toNat:Nat):Int):=by rw [cu (v:=16+8) (by omega),cu (v:=(u.toNat:Int)) (by omega),cu (by omega)];omega
   refine⟨24+u.toNat,al ?_,m 24 _ u (by omega) b (by rw [show((2:Int) ^ 24)=16777216 from by decide];omega) (λ_=>by omega) j⟩;rw [yM];simp only [ai,↓reduceIte,Int.reduceBEq,Int.reduceEq,GD,o,p,e,q,l,d,g,f,and_self,i,c]
  .have b:(a / 65536).toNat < 256:=by omega
   obtain⟨u,i,j⟩:=xY _ b;have g:u8.wrap (a / 65536)=a / 65536:=by rw [w8];omega
   have f: 0<=a / 65536/\a / 65536 < 256:=by omega
   have c:i64.wrap (16+i64.wrap (u.toNat:Int))= ((16+u.toNat:Nat):Int):=by rw [cu (v:=(u.toNat:Int)) (by omega),cu (by omega)];omega
   refine⟨16+u.toNat,al ?_,m 16 _ u (by omega) b (by rw [e];omega) (λ_=>by omega) j⟩;rw [yM];simp only [ai,↓reduceIte,Int.reduceBEq,Int.reduceEq,GD,o,p,e,q,l,d,g,f,and_self,i,c]
 .by_cases d:a>=256
  .have b:(a / 256).toNat < 256:=by omega
   obtain⟨u,i,j⟩:=xY _ b;have g:u8.wrap (a / 256)=a / 256:=by rw [w8];omega
   have f: 0<=a / 256/\a / 256 < 256:=by omega
   have c:i64.wrap (i64.wrap (0+8)+i64.wrap (u.toNat:Int))= ((8+u.toNat:Nat):Int):=by rw [cu (v:=0+8) (by omega),cu (v:=(u.toNat:Int)) (by omega),cu (by omega)];omega
   refine⟨8+u.toNat,al ?_,m 8 _ u (by omega) b (by rw [p];omega) (λ_=>by omega) j⟩;rw [yM];simp only [ai,↓reduceIte,Int.reduceBEq,Int.reduceEq,GD,o,p,e,q,l,d,g,f,and_self,i,c]
  .have b:a.toNat < 256:=by omega
   obtain⟨u,i,j⟩:=xY _ b;have g:u8.wrap a=a:=by rw [w8];omega
   have f: 0<=a/\a < 256:=by omega
   have c:i64.wrap (i64.wrap (u.toNat:Int))= ((0+u.toNat:Nat):Int):=by rw [cu (v:=(u.toNat:Int)) (by omega),cu (by omega)];omega
   have C:i64.wrap (0+i64.wrap (u.toNat:Int))= ((0+u.toNat:Nat):Int):=by rw [cu (v:=(u.toNat:Int)) (by omega),cu (by omega)];omega
   refine⟨0+u.toNat,al ?_,m 0 _ u (by omega) b (by rw [Yr];omega) (λh=>absurd rfl h) j⟩;rw [yM];simp only [ai,↓reduceIte,Int.reduceBEq,Int.reduceEq,GD,o,p,e,q,l,d,g,f,and_self,i,c,C]
open Go Go.Aev Go.Aev.Gen Go.Aev.Wd
theorem D8(z:Int)(h:(dz z).length<=900):∃m:Int,Or (.call 131) [LZ z] []=some [ti m]/\0<=m/\m<=32 * ((dz z).length:Int):=by
 have d:=lC z (by omega);by_cases j:(dz z).length=0
 .refine⟨0,al ?_,by omega,by omega⟩;rw [Gw];have a:((dz z).length:Int)=0:=by omega
  simp only [ai,↓reduceIte,Int.reduceBEq,Int.reduceEq,GD,d,aM,a]
 .have a:¬((dz z).length:Int)=0:=by omega
  have g:i64.wrap (((dz z).length:Int) - 1)= (((dz z).length - 1:Nat):Int):=by rw [cu (by omega)];omega
  have f: 0<=(((dz z).length - 1:Nat):Int)/\(((dz z).length - 1:Nat):Int) < ((dz z).length:Int):=by omega
  have b:(dz z).length - 1 < (dz z).length:=by omega
  have e:=dS z (aN (dz z) ((dz z).length - 1)) (by
   have:(dz z)[(dz z).length - 1]? =some (aN (dz z) ((dz z).length - 1)):=by rw [Vd b];simp [aN,U9,b]
   exact Va this)
  obtain⟨n,i,k,_,_⟩:=KH _ e;have c:i64.wrap (32 * (((dz z).length - 1:Nat):Int))=32 * (((dz z).length - 1:Nat):Int):=cu (by omega);refine⟨32 * (((dz z).length - 1:Nat):Int)+ (n:Int),al ?_,by omega,by omega⟩;rw [Gw];simp only [ai,↓reduceIte,Int.reduceBEq,Int.reduceEq,GD,d,aM,a,g,f,and_self,bD b,i,c,cu (v:=32 * (((dz z).length - 1:Nat):Int)+ (n:Int)) (by omega)]
theorem KE(z:Int)(h:(dz z).length<=900):Or (.call 132) [LZ z] []=some [tb (decide (z < 0)),T.str (bM (dz z)),ti 0]:=by
 obtain⟨m,a,b,c⟩:=D8 z h;have h1:¬m > 131072:=by omega
 refine al ?_;rw [Nw];simp only [ai,↓reduceIte,Int.reduceBEq,Int.reduceEq,GD,a,h1]
theorem Td(x y:Int)(b:(dz x).length<=900)(hy:(dz y).length<=900)(hz:(dz (x+y)).length<=900):Or (.call 130) [LZ x,LZ y] []=some [tb (decide (x+y < 0)),T.str (bM (dz (x+y))),ti 0]:=by have a:=SF x y b hy;have k2:=KE (x+y) hz;unfold RZ at a;refine al ?_;rw [Ov];simp only [ai,↓reduceIte,Int.reduceBEq,Int.reduceEq,GD,a,k2]
theorem Re(q s u:Bool)(x y:List Int)(a:Int)(E: 0<=a/\a < 4294967296)(hy:Dg y)(i:Nat)(hi:i<=1000)(S:y.length<=1000)(R:List T):∀(l:List Int) (j:Nat) (c:Int) (e f:List Int),y.drop j=l->j<=y.length->e.length=i+j->l.length < f.length->Dg f->0<=c/\c < 4294967296->
  Or ud [lu s y,o0,lu q x,I (x.length:Int),I ((i+1:Nat):Int)] [ab.sl false 1 false (ax (e++gE a l f c))]=some R->
  Or xh [lu s y,o0,I (i:Int),AV.t (T.int .u32 a),AV.t (T.int .u64 c),lu q x,I (x.length:Int),I (i:Int),lu u y,I (y.length:Int),I (j:Int)] [ab.sl false 1 false (ax (e++f))]=some R:=by
 intro l;induction l with
 | nil=>
  intro j c e f h H m hm g F k;have Q:=bw h;obtain rfl:j=y.length:=by omega
  match f,hm with
  | o::r,_=>
   have h1:¬(y.length:Int) < (y.length:Int):=by omega
   have p:i64.wrap ((i:Int)+ (y.length:Int))= ((i+y.length:Nat):Int):=by rw [cu (by omega)];omega
   have n: 0<=((i+y.length:Nat):Int)/\((i+y.length:Nat):Int) < ((e++o::r).length:Int):=by simp;omega
   have hs:=oV (d:=e++o::r) (i:=i+y.length) (by simp;omega) c;rw [n9 e o c r _ m] at hs;have z:u32.wrap c=c:=by rw [cF];omega
   refine al ?_;rw [Gy];simp only [ai,↓reduceIte,Int.reduceBEq,Int.reduceEq,GD,h1,aM,p,n,and_self,z,hs,next i (by omega)];exact k
 | cons b l J=>
  intro j c e f h H m hm g F k;obtain⟨A,B,C⟩:=bt h;have hb:=hy b (Va A);have w:=fI h
  match f,hm,g,k with
  | o::r,hm,g,k=>
   have U:=g o Vb;have P:=lk E hb;have h1:(j:Int) < (y.length:Int):=by omega
   have D: 0<=(j:Int):=by omega
   have p:i64.wrap ((i:Int)+ (j:Int))= ((i+j:Nat):Int):=by rw [cu (by omega)];omega
   have n: 0<=((i+j:Nat):Int)/\((i+j:Nat):Int) < ((e++o::r).length:Int):=by simp;omega
   have G:(ax (e++o::r))[((i+j:Nat):Int).toNat]? =some [T.int .u32 o]:=by rw [bD (by simp;omega),sv e o r _ m]
   have hs:∀v,bo ((i+j:Nat):Int).toNat 0 [T.int .u32 v] (ax (e++o::r))=some (ax ((e++ [v])++r)):=λv=>by rw [oV (by simp;omega),n9 e o v r _ m];simp
   have K:u64.wrap a=a:=bf (by omega);have L:u64.wrap b=b:=bf (by omega);have M:u64.wrap o=o:=bf (by omega);have w4:u64.wrap (a * b)=a * b:=bf (by omega);have N:u64.wrap (a * b+o)=a * b+o:=bf (by omega);have O:u64.wrap (c+ (a * b+o))=c+a * b+o:=by rw [bf (by omega)];omega
   have:=J (j+1) ((c+a * b+o) / 4294967296) (e++ [(c+a * b+o) % 4294967296]) r C (by omega) (by simp;omega) (by simpa using hm) g.tail (by omega) (by
    rw [gE] at k;rw [VJ];exact k)
   refine al ?_;rw [Gy];simp only [ai,↓reduceIte,Int.reduceBEq,Int.reduceEq,GD,h1,D,and_self,aM,bD B,w,p,n,G,K,L,M,w4,N,O,cF,hs,ij,next j (by omega)];exact this
theorem Rd(z s:Bool)(x y:List Int)(M:Dg x)(hy:Dg y)(S:x.length<=400)(U:y.length<=400):∀(e:List Int) (i:Nat) (f b:List Int),x.drop i=e->i<=x.length->f.length=i->b.length=y.length->Dg f->Dg b->
  ∃d,Or ud [lu s y,o0,lu z x,I (x.length:Int),I (i:Int)] [ab.sl false 1 false (ax (f++ (b++List.replicate e.length 0)))]=some [T.aa 1 false (ax d)]/\
   Dg d/\d.length=x.length+y.length/\val d=val (f++b)+4294967296 ^ i * (val e * val y):=by
 intro e;induction e with
 | nil=>
  intro i f b h hi m g l j;have R:=bw h;have h1:¬(i:Int) < (x.length:Int):=by omega
  have w:(f++b).length=x.length+y.length:=by simp;omega
  refine⟨f++b,al ?_,λu hu=> ?_,w,by simp [val]⟩
  .rw [Gx];simp only [VS,WW,We];simp only [ai,↓reduceIte,Int.reduceBEq,Int.reduceEq,GD,h1]
  .rcases Vr.1 hu with hu | hu
   .exact l u hu
   .exact j u hu
 | cons a e N=>
  intro i f b h hi m g l j;obtain⟨H,J,K⟩:=bt h;have v:=M a (Va H);have B:=fI h;have h1:(i:Int) < (x.length:Int):=by omega
  have L: 0<=(i:Int):=by omega
  have A:Dg (b++ [0]):=λu hu=>by
   rcases Vr.1 hu with hu | hu
   .exact j u hu
   .simp only [Vk] at hu;subst hu;omega
  have F:=Di v (y:=y) (o:=b) (r:= []) (c:=0) g.symm;have p:=Df (a:=a) (y:=y) (o:=b++ [0]) (c:=0);have n:=De v (y:=y) (o:=b++ [0]) (c:=0) hy A (by omega);have E:=Dh (a:=a) (y:=y) (o:=b) (r:=List.replicate e.length 0) (q:=0) (c:=0) g.symm;have C:Dg (b++List.replicate (a::e).length 0):=λu hu=>by
   rcases Vr.1 hu with hu | hu
   .exact j u hu
   .have:=WD hu;omega
  generalize gE a y (b++ [0]) 0=res at *
  cases res with
  | nil=>simp at p
  | cons k t=>
   simp only [Vy,Ws,VS] at p;obtain⟨d,O,k2,P,Q⟩:=N (i+1) (f++ [k]) t K (by omega) (by simp [m]) (by omega) (λu hu=>by
    rcases Vr.1 hu with hu | hu
    .exact l u hu
    .simp only [Vk] at hu;subst hu;exact n u Vb) n.tail
   have D:=Re z s s x y a v hy i (by omega) (by omega) _ y 0 0 f (b++List.replicate (a::e).length 0) rfl (by omega) (by omega) (by simp;omega) C (by omega) (by
    rw [show b++List.replicate (a::e).length 0=b++0::List.replicate e.length 0 from rfl,E];rw [show f++ (k::t++List.replicate e.length 0)=f++ [k] ++ (t++List.replicate e.length 0) from by simp];exact O)
   refine⟨d,al ?_,k2,P, ?_⟩
   .rw [Gx];simp only [ai,↓reduceIte,Int.reduceBEq,Int.reduceEq,GD,h1,L,and_self,aM,bD J,B];exact D
   .rw [Q];have G:f++ [k] ++t=f++k::t:=by simp
    have e2:val (b++ [0])=val b:=by rw [eV];simp [val]
    have e3:(4294967296:Int) ^ i * ((a+4294967296 * val e) * val y)=4294967296 ^ i * (a * val y)+4294967296 ^ i * 4294967296 * (val e * val y):=by rw [Xs,VG];simp only [VT]
    rw [G,eV,eV,m,F,e2,Xh];simp only [val];rw [e3,Zb,VG];omega
theorem SG(b c:Bool)(x y:List Int)(k:Dg x)(hy:Dg y)(f:x.length<=400)(g:y.length<=400):∃d,Or (.call 133) [lu b x,lu c y] []=some [T.aa 1 false (ax d)]/\Dg d/\d.length=x.length+y.length/\val d=val x * val y:=by
 obtain⟨d,h,k2,l,m⟩:=Rd b c x y k hy f g x 0 [] (List.replicate y.length 0) rfl (by omega) rfl (by simp) (λu a=>by cases a) (λu a=>by
  have:=WD a;omega)
 have j:i64.wrap ((x.length:Int)+ (y.length:Int))= ((y.length+x.length:Nat):Int):=by rw [cu (by omega)];omega
 have e:br ((y.length+x.length:Nat):Int) ((y.length+x.length:Nat):Int)=some ():=by unfold br dY;rw [if_pos (by omega)]
 have i:ax ([] ++ (List.replicate y.length 0++List.replicate x.length 0))=List.replicate (y.length+x.length) [T.int u32 0]:=by rw [Vg,Ya];simp [ax]
 rw [i] at h;refine⟨d,al ?_,k2,l,by rw [m,Vg,AB];simp⟩;rw [Nx];simp only [aM,j];simp only [ai,↓reduceIte,Int.reduceBEq,Int.reduceEq,GD,e,VE];exact h
theorem Te(x y:Int)(z:(dz x).length<=300)(hy:(dz y).length<=300):Or (.call 105) [LZ x,LZ y] []=some [tb (decide (x * y < 0)),T.str (bM (dz (x * y))),ti 0]:=by
 obtain⟨m,i,r,s⟩:=D8 x (by omega);obtain⟨n,j,t,u⟩:=D8 y (by omega);have h:¬m+n > 131073:=by omega
 have p:=lC x (by omega);have k2:=lC y (by omega);obtain⟨d,l,f,w,g⟩:=SG false false (dz x) (dz y) (dS x) (dS y) (by omega) (by omega);have e:=n8 (!decide (x < 0)==decide (y < 0)) false d f (by omega);have hv:(if(!decide (x < 0)==decide (y < 0))=true then -val d else val d)=x * y:=by
  rw [g,eD,eD,<-XK,<-Wi];have c:∀a b:Int,0<=a->0<=b->0<=a * b:=λa b=>Wh;by_cases h1:x < 0 <;> by_cases o:y < 0 <;> simp only [h1,o,decide_true,decide_false]
  .have:=c (-x) (-y) (by omega) (by omega);rw [Int.neg_mul_neg] at this;simp;omega
  .have:=c (-x) y (by omega) (by omega);rw [YR] at this;simp;omega
  .have:=c x (-y) (by omega) (by omega);rw [Int.mul_neg] at this;simp;omega
  .have:=c x y (by omega) (by omega);simp;omega
 rw [hv] at e;have hz:(dz (x * y)).length<=900:=by refine VO (yK (k:=d.length) ?_) (by omega);have:=fu f;rw [g,eD,eD,<-XK,<-Wi] at this;exact this
 have q:=KE (x * y) hz;unfold RZ at e;refine al ?_;rw [Ow];simp only [ai,↓reduceIte,Int.reduceBEq,Int.reduceEq,GD,i,j,cu (v:=m+n) (by omega),h,p,k2,l,e,q]
theorem rp(x:Int)(h: -9223372036854775808<=x/\x < 9223372036854775808):Or (.call 69) [I x] []=some (RZ x):=by
 refine al ?_;rw [B5];by_cases g:x < 0
 .have f:u64.wrap (0 - u64.wrap x)= -x:=by simp only [mF];omega
  have c:Dg [(-x) % 4294967296,(-x) / 4294967296]:=λu e=>by simp only [Vo,YW,or_false] at e;omega
  have hv:val [(-x) % 4294967296,(-x) / 4294967296]= -x:=by simp only [val];omega
  have k:=n8 true false _ c (by simp);rw [hv,if_pos rfl,Int.neg_neg] at k;have d:ax [(-x) % 4294967296,(-x) / 4294967296]= [[T.int .u32 ((-x) % 4294967296)],[T.int .u32 ((-x) / 4294967296)]]:=rfl;simp only [lu,d] at k;unfold RZ at k;have b:u32.wrap ((-x) / 4294967296)= (-x) / 4294967296:=nk (by omega);have a:decide (x < 0)=true:=decide_eq_true g;rw [a];simp only [ai,↓reduceIte,Int.reduceBEq,Int.reduceEq,GD,f,ij,cF (-x),b,k];rfl
 .have f:u64.wrap x=x:=bf (by omega);have c:Dg [x % 4294967296,x / 4294967296]:=λu e=>by
   simp only [Vo,YW,or_false] at e;omega
  have hv:val [x % 4294967296,x / 4294967296]=x:=by simp only [val];omega
  have k:=n8 false false _ c (by simp);rw [hv] at k;have d:ax [x % 4294967296,x / 4294967296]= [[T.int .u32 (x % 4294967296)],[T.int .u32 (x / 4294967296)]]:=rfl;simp only [lu,d] at k;unfold RZ at k;have b:u32.wrap (x / 4294967296)=x / 4294967296:=nk (by omega);have a:decide (x < 0)=false:=decide_eq_false g;simp only [VF,↓reduceIte] at k;rw [a];simp only [ai,↓reduceIte,Int.reduceBEq,Int.reduceEq,GD,f,ij,cF x,b,k];unfold RZ;rfl
theorem RP{v n:Int}(hv: 0<=v/\v < 4294967296)(a: 0<=n/\n < 4294967296):
  u64.wrap (((BitVec.ofInt 64 n ||| BitVec.ofInt 64 (u64.wrap (v * (2:Int) ^ 32))).toNat:Nat):Int)=v * 4294967296+n:=by
 have h:=nT hv a;rw [BitVec.or_comm,bf (v:=n) (by omega)] at h;exact h
theorem JX{n:Int}(a: 0<=n/\n < 4294967296):u64.wrap (((BitVec.ofInt 64 0 ||| BitVec.ofInt 64 n).toNat:Nat):Int)=n:=by have h:=nT (v:=0) (n:=n) (by omega) a;rw [Int.zero_mul,bf (v:=0) (by omega),bf (v:=n) (by omega),Int.zero_mul,Zb] at h;exact h
theorem B9(u:Int)(s:Bool)(d:List Int)(x:ByteArray)(f: 0<=u/\u < 18446744073709551616)(i:Nat)(hi:i=d.length)(e:Bool):
  Or rU [r0,AV.t (T.int .u64 u),lu e d,I (d.length:Int),I (i:Int)] [ab.box [B s,AV.t (T.str x)]]=
   some (if -9223372036854775808<=(if s then -u else u)/\(if s then -u else u) < 9223372036854775808 then [ti (if s then -u else u),tb true] else [ti 0,tb false]):=by
 subst hi;refine al ?_;rw [yQ];have h1:¬(d.length:Int) < (d.length:Int):=by omega
 cases s with
 | true=>
  by_cases b:u<=9223372036854775808
  .have c:i64.wrap (0 - i64.wrap u)= -u:=by
    simp only [IntKind.wrap,IntKind.signed,IntKind.bits];simp;omega
   have a: -9223372036854775808<= -u/\ -u < 9223372036854775808:=by omega
   simp only [ai,↓reduceIte,Int.reduceBEq,Int.reduceEq,GD,h1,b,c,decide_true,a,and_self]
  .have a:¬(-9223372036854775808<= -u/\ -u < 9223372036854775808):=by omega
   simp only [ai,↓reduceIte,Int.reduceBEq,Int.reduceEq,GD,h1,b,decide_false,a]
 | false=>
  by_cases b:u < 9223372036854775808
  .have c:i64.wrap u=u:=cu (by omega);have a: -9223372036854775808<=u/\u < 9223372036854775808:=by omega
   simp only [ai,↓reduceIte,Int.reduceBEq,Int.reduceEq,GD,h1,b,c,decide_true,VF,a,and_self]
  .have a:¬(-9223372036854775808<=u/\u < 9223372036854775808):=by omega
   simp only [ai,↓reduceIte,Int.reduceBEq,Int.reduceEq,GD,h1,b,decide_false,VF,a,and_false]
theorem KO(z:Int)(h:(dz z).length<=900):Or (.call 89) [LZ z] []=some (if -9223372036854775808<=z/\z < 9223372036854775808 then [ti z,tb true] else [ti 0,tb false]):=by
 have D:=lC z (by omega);have e:=dS z;have hv:=eD z;have H:=iT z;by_cases f:((dz z).length:Int) > 2
 .have E:¬(-9223372036854775808<=z/\z < 9223372036854775808):=by
   intro hz;have:=@yK z 2 (by
    have:(4294967296:Int) ^ 2=18446744073709551616:=by decide
    rw [this];omega)
   omega
  refine al ?_;rw [B8,if_neg E];simp only [ai,↓reduceIte,Int.reduceBEq,Int.reduceEq,GD,D,aM,f]
 .have k:∀u:Int,u= (z.natAbs:Int)->(if decide (z < 0)=true then -u else u)=z:=λu J=>by
   simp only [decide_eq_true_eq];split <;> omega
  have s:∀(d:List Int),d=dz z->Or rU [r0,AV.t (T.int .u64 0),lu false d,I (d.length:Int),I 0] [ab.box [B (decide (z < 0)),AV.t (T.str (bM (dz z)))]]=some (if -9223372036854775808<=z/\z < 9223372036854775808 then [ti z,tb true] else [ti 0,tb false]):=by
   intro d w;rw [<-w] at hv e f
   match d,w,hv,e,f with
   | [],_,hv,_,_=>have:=B9 0 (decide (z < 0)) [] (bM (dz z)) (by omega) 0 rfl false;rw [k 0 (by rw [<-hv];rfl)] at this;exact this
   | [a],_,hv,e,_=>
    have l:=e a Vb;simp only [val,XB,W8] at hv;have:=B9 a (decide (z < 0)) [a] (bM (dz z)) (by omega) 1 rfl false;rw [k a hv] at this;refine al ?_;rw [yQ];have r:i64.wrap (32 * 0)=0:=by decide
    have q:min (0:Int).toNat 64=0:=rfl;have p:u64.wrap a=a:=bf (by omega);have i:(0:Int) < (([a]:List Int).length:Int):=by simp
    have n:(ax [a])[(0:Int).toNat]? =some [T.int .u32 a]:=rfl;have g:¬(0:Int) < 0:=by omega
    have j:i64.wrap (0+1)= ((1:Nat):Int):=by decide
    have o:(0:Int)<=0/\(0:Int) < (([a]:List Int).length:Int):=⟨by omega,i⟩;simp only [ai,↓reduceIte,Int.reduceBEq,Int.reduceEq,GD,aM,i,o,and_self,n,r,q,g,Yr,Yi,p,JX l,j];exact this
   | [a,b],_,hv,e,_=>
    have l:=e a Vb;have hb:=e b (Vc _ Vb);simp only [val,XB,W8] at hv;have:=B9 (b * 4294967296+a) (decide (z < 0)) [a,b] (bM (dz z)) (by omega) 2 rfl false;rw [k (b * 4294967296+a) (by omega)] at this;have r:i64.wrap (32 * 0)=0:=by decide
    have q:min (0:Int).toNat 64=0:=rfl;have G:i64.wrap (32 * ((1:Nat):Int))=32:=by decide
    have F:min (32:Int).toNat 64=32:=rfl;have p:u64.wrap a=a:=bf (by omega);have C:u64.wrap b=b:=bf (by omega);have i:(0:Int) < (([a,b]:List Int).length:Int):=by simp
    have m:((1:Nat):Int) < (([a,b]:List Int).length:Int):=by simp
    have n:(ax [a,b])[(0:Int).toNat]? =some [T.int .u32 a]:=rfl;have x:(ax [a,b])[((1:Nat):Int).toNat]? =some [T.int .u32 b]:=rfl;have g:¬(0:Int) < 0:=by omega
    have v:¬(32:Int) < 0:=by omega
    have j:i64.wrap (0+1)= ((1:Nat):Int):=by decide
    have y:i64.wrap (((1:Nat):Int)+1)= ((2:Nat):Int):=by decide
    have o:(0:Int)<=0/\(0:Int) < (([a,b]:List Int).length:Int):=⟨by omega,i⟩;have A:(0:Int)<=((1:Nat):Int)/\((1:Nat):Int) < (([a,b]:List Int).length:Int):=⟨by omega,m⟩;have step:Or rU [r0,AV.t (T.int .u64 a),lu false [a,b],I (([a,b]:List Int).length:Int),I ((1:Nat):Int)] [ab.box [B (decide (z < 0)),AV.t (T.str (bM (dz z)))]]=some (if -9223372036854775808<=z/\z < 9223372036854775808 then [ti z,tb true] else [ti 0,tb false]):=by refine al ?_;rw [yQ];simp only [ai,↓reduceIte,Int.reduceBEq,Int.reduceEq,GD,aM,m,A,and_self,x,G,F,v,C,RP hb l,y];exact this
    refine al ?_;rw [yQ];simp only [ai,↓reduceIte,Int.reduceBEq,Int.reduceEq,GD,aM,i,o,and_self,n,r,q,g,Yr,Yi,p,JX l,j];exact step
   | a::b::c::d,_,_,_,f=>simp at f;omega
  refine al ?_;rw [B8];simp only [ai,↓reduceIte,Int.reduceBEq,Int.reduceEq,GD,D,aM,f];exact s _ rfl
end Go.Aev.Wd.Lg
