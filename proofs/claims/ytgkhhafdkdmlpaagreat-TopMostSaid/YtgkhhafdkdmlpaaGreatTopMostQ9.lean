import Derived.Test.YtgkhhafdkdmlpaaGreatTopMostQ8
import Derived.Test.YtgkhhafdkdmlpaaGreatTopMostQ6
import Derived.Test.YtgkhhafdkdmlpaaGreatTopMostQ7
set_option linter.all false
namespace Go.Aev.Wd.Lg
open Go Go.Aev Go.Aev.Gen Go.Aev.Wd Go.IntKind
def mO:Nat->Nat->List Int
 | 0,_=> []
 | f+1,n=>if n=0 then [] else((n % 4294967296:Nat):Int)::mO f (n / 4294967296)
theorem wE:∀(f n:Nat),n<=f->Dg (mO f n)/\Can (mO f n)/\val (mO f n)= (n:Int)
 | 0,n,h=>by
  obtain rfl:n=0:=by omega
  exact⟨λa b=>by simp [mO] at b,λk c=>by simp [mO] at c,rfl⟩
 | f+1,n,h=>by
  rw [mO];by_cases e:n=0
  .subst e;rw [if_pos rfl];exact⟨(λa b=>by cases b),(λk c=>by cases c),rfl⟩
  .rw [if_neg e];have j:n / 4294967296 < n:=Nat.div_lt_self (by omega) (by omega);obtain⟨h1,g,d⟩:=wE f (n / 4294967296) (by omega);have hm:n % 4294967296 < 4294967296:=Vd _ (by omega);refine⟨λa b=> ?_,λk c=> ?_, ?_⟩
   .rcases RC.1 b with rfl | b
    .omega
    .exact h1 a b
   .cases k with
    | zero=>have i:mO f (n / 4294967296)= []:=RN.1 (by simpa using c);rw [i] at d;have hv:val []=0:=rfl;rw [hv] at d;show(_:Int)≠0;simp only [be,List.getD_cons_zero];omega
    | succ k=>have:=g k (by simpa using c);simpa [be] using this
   .rw [val,d];omega
def dz(z:Int):List Int:=mO z.natAbs z.natAbs
theorem dA(z:Int):Dg (dz z):=(wE _ _ (RI _)).1
theorem im(z:Int):Can (dz z):=(wE _ _ (RI _)).2.1
theorem dM(z:Int):val (dz z)= (z.natAbs:Int):=(wE _ _ (RI _)).2.2
theorem DA{a:Int}{d:List Int}(h:Can (a::d)):Can d:=λk b=>by have:=h (k+1) (by simp [b]);simpa [be] using this
theorem pr:∀{a b:List Int},Dg a->Dg b->Can a->Can b->val a=val b->a=b
 | [],[],_,_,_,_,_=>rfl
 | [],y::b,_,hb,_,e,h=>by have:=zI hb e (by simp);rw [<-h] at this;simp [val] at this
 | x::a,[],c,_,d,_,h=>by have:=zI c d (by simp);rw [h] at this;simp [val] at this
 | x::a,y::b,c,hb,d,e,h=>by
  have h1:=c x Rs;have i:=hb y Rs;rw [val,val] at h;have g:x=y:=by omega
  subst g;have:=pr (λu f=>c u (Ru _ f)) (λu f=>hb u (Ru _ f)) (DA d) (DA e) (by omega);rw [this]
theorem Kw{d:List Int}{z:Int}(h:Dg d)(c:Can d)(hv:val d= (z.natAbs:Int)):d=dz z:=pr h (dA z) c (im z) (by rw [hv,dM])
theorem qV{z:Int}:dz z= []↔z=0:=by
 constructor
 .intro h;have:=dM z;rw [h] at this;simp [val] at this;exact this.symm▸by omega
 .rintro rfl;rfl
theorem te(z:Int):dz (-z)=dz z:=by unfold dz;rw [Vq]
theorem wI{z:Int}{k:Nat}(h:(z.natAbs:Int) < 4294967296 ^ k):(dz z).length<=k:=by
 rcases UE k (dz z).length with h1 | h1
 .exfalso;obtain⟨m,hm⟩:∃m,(dz z).length=m+1:=⟨(dz z).length - 1,by omega⟩;have a:=zG (dA z) (im z) hm;rw [dM] at a;have b:(4294967296:Int) ^ k<=4294967296 ^ m:=Bs (by omega);omega
 .exact h1
theorem A2{z:Int}(h:jU z):(dz z).length<=200:=wI h
def fQ(a:Int):List UInt8:= [UInt8.ofNat (a.toNat % 256),UInt8.ofNat (a.toNat / 256 % 256),UInt8.ofNat (a.toNat / 65536 % 256),UInt8.ofNat (a.toNat / 16777216 % 256)]
def fy:List Int->List UInt8
 | []=> []
 | a::d=>fQ a++fy d
def bF(d:List Int):ByteArray:=⟨(fy d).toArray⟩
theorem Du:∀d:List Int,(fy d).length=4 * d.length
 | []=>rfl
 | a::d=>by rw [fy,Sw,Du d,RP];simp [fQ];omega
theorem Dt:∀(i:Nat) (d:List Int),(fy d).drop (4 * i)=fy (d.drop i)
 | 0,d=>by simp
 | i+1,[]=>by simp [fy]
 | i+1,a::d=>by rw [fy,show 4 * (i+1)= (fQ a).length+4 * i from by simp [fQ];omega,List.drop_append,List.drop_of_length_le (by omega),Ry,List.drop_succ_cons];rw [show(fQ a).length+4 * i - (fQ a).length=4 * i from by omega];exact Dt i d
theorem EO(d:List Int):(bF d).size=4 * d.length:=by show(fy d).toArray.size=_;rw [SY,Du]
theorem Mg(A:Array UInt8)(a n x y:Nat)(h:A.size<=a+n):((#[]:Array UInt8).extract 0 0++A.extract a (a+n)++ (#[]:Array UInt8).extract x y).toList=A.toList.drop a:=by simp only [Array.toList_append,UJ,Uf,U7,Vz,Ry,Sg];rw [SM (by simp;omega)]
theorem Mh(s:ByteArray)(a n:Nat)(h:n=s.size):(s.extract a n).size=n - a:=by subst h;have:(s.extract a s.size).size=min s.size s.size - a:=ByteArray.size_extract;rw [this];omega
theorem Dv{n:Nat}(h:n < 256):((UInt8.ofNat n).toNat:Int)= (n:Int):=by rw [UInt8.toNat_ofNat'];omega
theorem BC:(2:Int) ^ 8=256:=by decide
theorem BA:(2:Int) ^ 16=65536:=by decide
theorem BB:(2:Int) ^ 24=16777216:=by decide
theorem mE{v:Int}(h: 0<=v/\v < 4294967296):u32.wrap v=v:=by rw [eY];omega
theorem MS{a:Int}(h: 0<=a/\a < 4294967296)(d x2 b c:Int)(i:d= ((a.toNat % 256:Nat):Int))(j:x2= ((a.toNat / 256 % 256:Nat):Int))(k:b= ((a.toNat / 65536 % 256:Nat):Int))(l:c= ((a.toNat / 16777216 % 256:Nat):Int)):
  u32.wrap (((BitVec.ofInt 32 (u32.wrap (((BitVec.ofInt 32 (u32.wrap (((BitVec.ofInt 32 (u32.wrap d) ||| BitVec.ofInt 32 (u32.wrap (u32.wrap x2 * (2:Int) ^ 8))).toNat:Nat):Int)) ||| BitVec.ofInt 32 (u32.wrap (u32.wrap b * (2:Int) ^ 16))).toNat:Nat):Int)) ||| BitVec.ofInt 32 (u32.wrap (u32.wrap c * (2:Int) ^ 24))).toNat:Nat):Int)=a:=by
 have e: 0<=d/\d < 256:=by omega
 have f: 0<=x2/\x2 < 256:=by omega
 have b4: 0<=b/\b < 256:=by omega
 have g: 0<=c/\c < 256:=by omega
 rw [mE (v:=d) (by omega),mE (v:=x2) (by omega),mE (v:=b) (by omega),mE (v:=c) (by omega),BC,BA,BB];rw [mE (v:=x2 * 256) (by omega),mE (v:=b * 65536) (by omega),mE (v:=c * 16777216) (by omega)];rw [tV (y:=d) (z:=x2 * 256) (n:=8) (t:=x2.toNat) (by omega) (by rw [BC];omega) (by show x2 * 256= ((256 * x2.toNat:Nat):Int);omega) (by omega) (by omega)];rw [tV (y:=x2 * 256+d) (z:=b * 65536) (n:=16) (t:=b.toNat) (by omega) (by rw [BA];omega) (by show b * 65536= ((65536 * b.toNat:Nat):Int);omega) (by omega) (by omega)];rw [tV (y:=b * 65536+ (x2 * 256+d)) (z:=c * 16777216) (n:=24) (t:=c.toNat) (by omega) (by rw [BB];omega) (by show c * 16777216= ((16777216 * c.toNat:Nat):Int);omega) (by omega) (by omega)];omega
abbrev LS(s:Bool)(d:List Int):AV:=AV.agg [B s,AV.t (T.str (bF d))]
theorem NO(s:Bool)(d:List Int)(D:Dg d)(J:d.length<=1000):∀(b:List Int) (i:Nat) (done:List Int),d.drop i=b->done.length=i->d=done++b->
  Or vu [r0,o1,I (d.length:Int),I (i:Int)] [ab.box [B s,AV.t (T.str (bF d))],ab.sl false 1 false (aM (done++List.replicate b.length 0))]=some [T.ae 1 false (aM d)]:=by
 intro b;induction b with
 | nil=>
  intro i done h hi c;have h1:¬(i:Int) < (d.length:Int):=by have:=bP h;omega
  refine ao ?_;rw [EE];simp only [al,↓reduceIte,Int.reduceBEq,Int.reduceEq,GD,h1,Su,TY];rw [c]
 | cons a b G=>
  intro i done h hi c;obtain⟨w,H,z⟩:=bG h;have C:=D a (Rt w);have h1:(i:Int) < (d.length:Int):=by omega
  have F:i64.wrap (4 * (i:Int))= ((4 * i:Nat):Int):=by rw [Go.Aev.wr (by omega)];omega
  have l:=EO d;have j:cZ ((4 * i:Nat):Int) ((bF d).size:Int) ((bF d).size:Int)=some ():=tC (by omega);have g:((bF d).extract (4 * i) (bF d).size).size=4 * d.length - 4 * i:=by rw [Mh _ _ _ rfl,l]
  have A:∀x y:Nat,((#[]:Array UInt8).extract 0 0++ (bF d).data.extract (4 * i) (4 * i+ ((bF d).size - 4 * i))++ (#[]:Array UInt8).extract x y).toList=fQ a++fy b:=λx y=>by rw [Mg _ _ _ _ _ (by show(bF d).size<=_;omega)];show(fy d).toArray.toList.drop (4 * i)=_;rw [List.toList_toArray,Dt,h,fy]
  have m:(0:Int)<=0/\(0:Int) < ((4 * d.length - 4 * i:Nat):Int):=by omega
  have n:(0:Int)<=1/\(1:Int) < ((4 * d.length - 4 * i:Nat):Int):=by omega
  have o:(0:Int)<=2/\(2:Int) < ((4 * d.length - 4 * i:Nat):Int):=by omega
  have p:(0:Int)<=3/\(3:Int) < ((4 * d.length - 4 * i:Nat):Int):=by omega
  have q:(fQ a++fy b)[0]? =some (UInt8.ofNat (a.toNat % 256)):=rfl;have r:(fQ a++fy b)[1]? =some (UInt8.ofNat (a.toNat / 256 % 256)):=rfl;have u:(fQ a++fy b)[2]? =some (UInt8.ofNat (a.toNat / 65536 % 256)):=rfl;have v:(fQ a++fy b)[3]? =some (UInt8.ofNat (a.toNat / 16777216 % 256)):=rfl;have E:=MS C _ _ _ _ rfl rfl rfl rfl;have f: 0<=(i:Int):=by omega
  have e:(i:Int) < ((aM (done++List.replicate (a::b).length 0)).length:Int):=by rw [bo];simp;omega
  have k:bI i 0 [T.int .u32 a] (aM (done++List.replicate (a::b).length 0))=some (aM ((done++ [a])++List.replicate b.length 0)):=by have:=mA done 0 a (List.replicate b.length 0) i hi;rw [R5] at this;rw [RP,Sj,this];simp
  have:=G (i+1) (done++ [a]) z (by simp [hi]) (by rw [c];simp);refine ao ?_;rw [EE];simp only [al,↓reduceIte,Int.reduceBEq,Int.reduceEq,GD,h1,F,j,R5,g,A,m,n,o,p,q,r,u,v,Dv (Vd _ (by decide:(0:Nat) < 256)),E,f,e,and_self,k,next i (by omega)];exact this
theorem Pp(s:Bool)(d:List Int)(b:Dg d)(c:d.length<=1000):Or (.call 76) [LS s d] []=some [T.ae 1 false (aM d)]:=by
 have a:=EO d;have f:i64.wrap (((bF d).size:Int).tdiv 4)= (d.length:Int):=by rw [a,TH (by omega),Go.Aev.wr (by omega)];omega
 have hm:cv (d.length:Int) (d.length:Int)=some ():=by unfold cv;rw [if_pos (by unfold fV;omega)]
 have e:List.replicate ((d.length:Int)).toNat [T.int .u32 0]=aM (List.replicate d.length 0):=by simp [aM]
 have:=NO s d b c d 0 [] rfl rfl rfl;refine ao ?_;rw [Lc];simp only [al,↓reduceIte,Int.reduceBEq,Int.reduceEq,GD,f,hm,e,bo,Td];exact this
theorem GF(e:Bool)(l:List Int)(h:l.length<=1000):∀k,k<=l.length->Or uX [lu e (l.take k)] []=some [T.ae 1 e (aM (l.take (kM l k)))]
 | 0,g=>by
  refine ao ?_;rw [Eh];have a:¬((0:Nat):Int) > 0:=by omega
  simp only [al,↓reduceIte,Int.reduceBEq,Int.reduceEq,GD,cm,bo,TZ,Su,a,decide_false,kM]
 | k+1,g=>by
  have j:=GF e l h k (by omega);have a:((k+1:Nat):Int) > 0:=by omega
  have f:i64.wrap (((k+1:Nat):Int) - 1)= (k:Int):=by rw [Go.Aev.wr (by omega)];omega
  have c: 0<=(k:Int)/\(k:Int) < ((k+1:Nat):Int):=by omega
  have hi:cZ 0 (k:Int) ((k+1:Nat):Int)=some ():=tC (by omega);have b:(l.take (k+1)).length=k+1:=by rw [So];omega
  have d:(aM (l.take (k+1)))[((k:Nat):Int).toNat]? =some [T.int .u32 (be l k)]:=by rw [dm (by omega)];simp [be,Rr,T4]
  have i:sub 0 (k:Int) (aM (l.take (k+1)))=aM (l.take k):=by simp only [sub,aM,R5,Int.toNat_zero,UG,Sr,<-List.map_take,List.take_take];rw [VN (by omega)]
  refine ao ?_;rw [Eh,kM];by_cases hz:be l k=0
  .rw [if_pos hz];simp only [al,↓reduceIte,Int.reduceBEq,Int.reduceEq,GD,bo,b,a,decide_true,f,c,and_self,d,hz,hi,i];exact j
  .rw [if_neg hz];simp only [al,↓reduceIte,Int.reduceBEq,Int.reduceEq,GD,bo,b,a,decide_true,f,c,and_self,d,hz]
theorem pX(e:Bool)(l:List Int)(a:l.length<=1000):Or (.call 105) [lu e l] []=some [T.ae 1 e (aM (eL l))]:=by have:=GF e l a l.length (RI _);rw [Uo] at this;refine ao ?_;rw [Ky];exact this
theorem o6{l:List Int}(h:Dg l):Dg (eL l):=λa b=>h a (Tl b)
theorem IT{l:List Int}{z:Int}(h:Dg l)(hv:val l= (z.natAbs:Int)):eL l=dz z:=Kw (o6 h) (r7 l) (by rw [r8,hv])
def kk(l:List UInt8):List (List T):=l.map λb=> [T.int .u8 (b.toNat:Int)]
theorem Dx:∀l:List UInt8,bytesOf (kk l)=some l
 | []=>rfl
 | b::l=>by have h1:=Dx l;unfold kk at h1⊢;simp only [RX,bytesOf,SW,RA,AN,h1];simp
theorem w8(v:Int):u8.wrap v=v % 256:=by simp [IntKind.wrap,IntKind.signed,IntKind.bits]
theorem Mo(a:Int)(h: 0<=a/\a < 4294967296): [[T.int .u8 (u8.wrap a)],[T.int .u8 (u8.wrap (a.fdiv (2 ^ 8)))],[T.int .u8 (u8.wrap (a.fdiv (2 ^ 16)))],[T.int .u8 (u8.wrap (a.fdiv (2 ^ 24)))]]=kk (fQ a):=by
 have e:∀n:Nat,n < 256->((UInt8.ofNat n).toNat:Int)= (n:Int):=λn b=>Dv b;simp only [kk,fQ,RX,SX,e _ (Vd _ (by decide:(0:Nat) < 256)),w8,BC,BA,BB];rw [SE _ (by omega),SE _ (by omega),SE _ (by omega)];have c:a % 256= ((a.toNat % 256:Nat):Int):=by omega
 have q1:a / 256 % 256= ((a.toNat / 256 % 256:Nat):Int):=by omega
 have d:a / 65536 % 256= ((a.toNat / 65536 % 256:Nat):Int):=by omega
 have q3:a / 16777216 % 256= ((a.toNat / 16777216 % 256:Nat):Int):=by omega
 rw [c,q1,d,q3]
theorem NN(s s0 e j:Bool)(l:List Int)(y:ByteArray)(p:Dg l)(v:l.length<=1000):∀(b:List Int) (i:Nat) (done:List UInt8) (c:Bool),l.drop i=b->done.length=4 * i->
  Or vl [B s,lu e l,r0,o1,lu j l,I (l.length:Int),I (i:Int)] [ab.box [B s0,AV.t (T.str y)],ab.sl false 1 c (kk done)]=some [tb (s && decide (l≠[])),T.str ⟨(done++fy b).toArray⟩]:=by
 intro b;induction b with
 | nil=>
  intro i done c h hi;have h1:¬(i:Int) < (l.length:Int):=by have:=bP h;omega
  refine ao ?_;rw [EB];simp only [al,↓reduceIte,Int.reduceBEq,Int.reduceEq,GD,h1,Dx,bo,fy,Sg];cases l with
  | nil=>cases s <;> simp
  | cons a l=>cases s <;> (try simp) <;> (try omega)
 | cons a b u=>
  intro i done c h hi;obtain⟨f,k,m⟩:=bG h;have o:=p a (Rt f);have h1:(i:Int) < (l.length:Int):=by omega
  have n: 0<=(i:Int):=by omega
  have r:(aM l)[((i:Nat):Int).toNat]? =some [T.int .u32 a]:=by rw [dm k,Kh f]
  have q:=Mo a o;have g:bY 1 ((kk done).length+ (kk (fQ a)).length)=some ():=lK (by simp [kk,fQ];omega);have d:kk done++kk (fQ a)=kk (done++fQ a):=by simp [kk]
  have:=u (i+1) (done++fQ a) (c && false) m (by simp [fQ];omega);rw [U0,R6] at this;refine ao ?_;rw [EB,fy];simp only [al,↓reduceIte,Int.reduceBEq,Int.reduceEq,GD,h1,n,and_self,bo,r,q,g,d,next i (by omega)];exact this
def RZ(z:Int):List T:= [tb (decide (z < 0)),T.str (bF (dz z))]
abbrev LZ(z:Int):AV:=LS (decide (z < 0)) (dz z)
theorem nC(s e:Bool)(l:List Int)(a:Dg l)(d:l.length<=1000):Or (.call 82) [B s,lu e l] []=some (RZ (if s then -val l else val l)):=by
 have g:=gP a;have f:=pX e l d;have c:eL l=dz (if s then -val l else val l):=IT a (by split <;> omega);have b:(eL l).length<=1000:=by
  have:(eL l).length<=l.length:=by(unfold eL;rw [So];omega)
  omega
 have hm:cv 0 (i64.wrap (4 * ((eL l).length:Int)))=some ():=by rw [Go.Aev.wr (by omega)];unfold cv;rw [if_pos (by unfold fV;omega)]
 have k2:=NN s false e e (eL l) ⟨#[]⟩ (o6 a) b (eL l) 0 [] false rfl rfl;have hv:(s && decide (eL l≠[]))=decide ((if s then -val l else val l) < 0):=by
  have hz:eL l= []↔val l=0:=by rw [c,qV];split <;> omega
  cases s with
  | false=>simp;omega
  | true=>simp only [S0,if_true];refine decide_eq_decide.2 ?_;rw [ne_eq,hz];omega
 refine ao ?_;rw [K5];simp only [al,↓reduceIte,Int.reduceBEq,Int.reduceEq,GD,f,bo,hm];refine k2.trans ?_;rw [Ry,hv,c];rfl
open Go Go.Aev Go.Aev.Gen Go.Aev.Wd Go.IntKind
theorem cd{v:Int}(h: -9223372036854775808<=v/\v < 9223372036854775808):i64.wrap v=v:=Go.Aev.wr h
theorem EM(d:List Int):((bF d).toList== (ByteArray.mk #[]).toList)=decide (d= []):=by
 have h1:∀s:ByteArray,s.toList=s.data.toList:=λs=>by rw [ByteArray.toList_eq]
 cases d with
 | nil=>rw [h1,h1];simp [bF,fy]
 | cons a d=>rw [h1,h1];simp [bF,fy,fQ]
theorem oV(z:Int):Or (.call 68) [LZ z] []=some [ti z.sign]:=by
 refine ao ?_;rw [K6,EM];by_cases a:z=0
 .subst a;rfl
 .have b:¬dz z= []:=λh=>a (qV.1 h);rcases TW z 0 with h | h | h
  .simp only [al,↓reduceIte,Int.reduceBEq,Int.reduceEq,GD,b,h,decide_true,SO h]
  .exact absurd h a
  .have c:¬z < 0:=by omega
   simp only [al,↓reduceIte,Int.reduceBEq,Int.reduceEq,GD,b,c,decide_false,SV h]
theorem BW(z:Int):Or (.call 98) [LZ z] []=some (RZ (-z)):=by
 refine ao ?_;rw [K4,EM];unfold RZ;rw [te];have:(bif !decide (z < 0) then !decide (dz z= []) else false)=decide (-z < 0):=by
  have h:=@qV z;by_cases a:z < 0
  .have:¬ -z < 0:=by omega
   rw [decide_eq_true a,decide_eq_false this];rfl
  .by_cases h1:z=0
   .subst h1;rfl
   .have b: -z < 0:=by omega
    rw [decide_eq_false a,decide_eq_false (mt h.1 h1),decide_eq_true b];rfl
 rw [this]
theorem kD(z:Int)(h:(dz z).length<=1000):Or (.call 76) [LZ z] []=some [T.ae 1 false (aM (dz z))]:=Pp _ _ (dA z) h
theorem GL(a b:List Int)(h eb:Bool)(g:Dg a)(hb:Dg b)(l:a.length=b.length)(m:a.length<=1000):∀(k:Nat) (z:Int),z= (k:Int) - 1->k<=a.length->
  Or vr [lu h a,lu eb b,I z] []=some [ti (dX (val (a.take k)) (val (b.take k)))]
 | 0,z,hz,j=>by
  refine ao ?_;rw [ED];have h1:¬z>=0:=by omega
  simp only [al,↓reduceIte,Int.reduceBEq,Int.reduceEq,GD,h1];simp [dX]
 | k+1,z,hz,j=>by
  obtain rfl:z= (k:Int):=by omega
  have h1:(k:Int)>=0:=by omega
  have e: 0<=(k:Int)/\(k:Int) < (a.length:Int):=by omega
  have f:(k:Int) < (b.length:Int):=by omega
  have n:i64.wrap ((k:Int) - 1)= (k:Int) - 1:=cd (by omega);refine ao ?_;rw [ED];by_cases c:be a k < be b k
  .have:=DS g hb (show k < a.length by omega) (by omega) c;simp only [al,↓reduceIte,Int.reduceBEq,Int.reduceEq,GD,h1,e,f,and_self,bo,dm (show k < a.length by omega),dm (show k < b.length by omega),c];unfold dX;rw [if_pos this]
  .by_cases d:be a k > be b k
   .have:=DS hb g (show k < b.length by omega) (by omega) d;simp only [al,↓reduceIte,Int.reduceBEq,Int.reduceEq,GD,h1,e,f,and_self,bo,dm (show k < a.length by omega),dm (show k < b.length by omega),c,d];unfold dX;rw [if_neg (by omega),if_neg (by omega)]
   .have i:be a k=be b k:=by omega
    have:=GL a b h eb g hb l m k ((k:Int) - 1) rfl (by omega);have hv:dX (val (a.take (k+1))) (val (b.take (k+1)))=dX (val (a.take k)) (val (b.take k)):=by rw [sf (by omega),sf (by omega),i,Kb]
    rw [hv];simp only [al,↓reduceIte,Int.reduceBEq,Int.reduceEq,GD,h1,e,f,and_self,bo,dm (show k < a.length by omega),dm (show k < b.length by omega),c,d,n];exact this
theorem yd(a b:List Int)(f eb:Bool)(e:Dg a)(hb:Dg b)(h:Can a)(i:Can b)(g:a.length<=1000)(k:b.length<=1000):
  Or (.call 80) [lu f a,lu eb b] []=some [ti (dX (val a) (val b))]:=by
 refine ao ?_;rw [Lb];by_cases c:(a.length:Int)= (b.length:Int)
 .have:=GL a b f eb e hb (by omega) g a.length _ rfl (RI _);rw [Uo,show b.take a.length=b from SM (by omega)] at this;have j:i64.wrap ((a.length:Int) - 1)= (a.length:Int) - 1:=cd (by omega);simp only [bo,j];simp only [al,↓reduceIte,Int.reduceBEq,Int.reduceEq,GD,c];rw [c] at this;exact this
 .by_cases d:(a.length:Int) < (b.length:Int)
  .have:=xv e hb i (by omega);simp only [al,↓reduceIte,Int.reduceBEq,Int.reduceEq,GD,bo,c,d];unfold dX;rw [if_pos this]
  .have:=xv hb e h (by omega);simp only [al,↓reduceIte,Int.reduceBEq,Int.reduceEq,GD,bo,c,d];unfold dX;rw [if_neg (by omega),if_neg (by omega)]
theorem Ph(x y:Int)(b:(dz x).length<=1000)(hy:(dz y).length<=1000):Or (.call 54) [LZ x,LZ y] []=some [ti (dX x y)]:=by
 have e:=oV x;have k2:=oV y;have f:=kD x b;have g:=kD y hy;have c:=yd (dz x) (dz y) false false (dA x) (dA y) (im x) (im y) b hy;have d:=yd (dz y) (dz x) false false (dA y) (dA x) (im y) (im x) hy b;rw [dM,dM] at c d;have key:(if x.sign=y.sign then(if x < 0 then dX (y.natAbs:Int) (x.natAbs:Int) else dX (x.natAbs:Int) (y.natAbs:Int)) else if x.sign < y.sign then -1 else 1)=dX x y:=by
  rcases TW x 0 with h | h | h <;> rcases TW y 0 with a | a | a <;>
   (first | rw [SO h] | rw [SV h] | rw [h,Int.sign_zero]) <;>
   (first | rw [SO a] | rw [SV a] | rw [a,Int.sign_zero]) <;> unfold dX <;> (repeat' split) <;> omega
 refine ao ?_;rw [K0];simp only [al,↓reduceIte,Int.reduceBEq,Int.reduceEq,GD,e,k2,f,g,c,d];rw [<-key];split
 .split <;> rfl
 .split <;> rfl
theorem nF(n:Nat)(h:n<=100000):bY 4 n=some ():=lK h
theorem mI(d:List Int)(v:Int):aM d++ [[T.int .u32 v]]=aM (d++ [v]):=by simp [aM]
theorem mJ(n:Nat)(v:Int):n+ ([[T.int .u32 v]]:List (List T)).length=n+1:=by simp
theorem GH(x y:List Int)(z A:Bool)(D:Dg x)(hy:Dg y)(K:y.length<=x.length)(L:x.length<=1000):∀(d:List Int) (i:Nat) (c:Int) (done:List Int),x.drop i=d->done.length=i->i<=x.length->0<=c/\c<=1->
  Or qE [lu A y,o0,AV.t (T.int .u64 c),lu z x,I (x.length:Int),I (i:Int)] [ab.sl false 1 false (aM done)]=some [T.ae 1 false (aM (done++fc d (y.drop i) c))]:=by
 intro d;induction d with
 | nil=>
  intro i c done h l hi C;have G:=bP h;obtain rfl:i=x.length:=by omega
  have h1:¬(x.length:Int) < (x.length:Int):=by omega
  refine ao ?_;rw [Er];simp only [al,↓reduceIte,Int.reduceBEq,Int.reduceEq,GD,h1,bo,mE (v:=c) (by omega),mI,mJ,nF (done.length+1) (by omega),fc]
 | cons a d u=>
  intro i c done h l hi C;obtain⟨B,m,n⟩:=bG h;have h1:(i:Int) < (x.length:Int):=by omega
  have o: 0<=(i:Int):=by omega
  have J:=D a (Rt B);have j:=kZ h;refine ao ?_;rw [Er];cases g:y.drop i with
  | nil=>
   have H:=bP g;have k:¬(i:Int) < (y.length:Int):=by omega
   have e:u64.wrap a=a:=bZ (by omega);have f:u64.wrap (c+a)=c+a:=bZ (by omega);have s:y.drop (i+1)= []:=by simp;omega
   have:=u (i+1) ((c+a) / 4294967296) (done++ [(c+a) % 4294967296]) n (by simp [l]) (by omega) (by omega);rw [s,show done++ [(c+a) % 4294967296] ++fc d [] ((c+a) / 4294967296)=done++fc (a::d) [] c from by simp [fc]] at this;simp only [al,↓reduceIte,Int.reduceBEq,Int.reduceEq,GD,h1,o,and_self,bo,dm m,j,k,e,f,eY,mV,mI,mJ,nF (done.length+1) (by omega),next i (by omega)];exact this
  | cons b w=>
   obtain⟨E,k2,F⟩:=bG g;have hb:=hy b (Rt E);have p:=kZ g;have k:(i:Int) < (y.length:Int):=by omega
   have e:u64.wrap a=a:=bZ (by omega);have f:u64.wrap (c+a)=c+a:=bZ (by omega);have q:u64.wrap b=b:=bZ (by omega);have r:u64.wrap (c+a+b)=c+a+b:=bZ (by omega);have:=u (i+1) ((c+a+b) / 4294967296) (done++ [(c+a+b) % 4294967296]) n (by simp [l]) (by omega) (by omega);rw [F,show done++ [(c+a+b) % 4294967296] ++fc d w ((c+a+b) / 4294967296)=done++fc (a::d) (b::w) c from by simp [fc]] at this;simp only [al,↓reduceIte,Int.reduceBEq,Int.reduceEq,GD,h1,o,and_self,bo,dm m,dm k2,j,p,k,e,f,q,r,eY,mV,mI,mJ,nF (done.length+1) (by omega),next i (by omega)];exact this
theorem O8(x y:List Int)(c e:Bool)(b:Dg x)(hy:Dg y)(h:x.length<=900)(i:y.length<=900):∃d,Or (.call 176) [lu c x,lu e y] []=some [T.ae 1 false (aM d)]/\Dg d/\val d=val x+val y/\d.length<=max x.length y.length+1:=by
 by_cases g:(x.length:Int) < (y.length:Int)
 .have h1:=GH y x e c hy b (by omega) (by omega) y 0 0 [] rfl rfl (by omega) (by omega);refine⟨fc y x 0,ao ?_,yl hy b (by omega),by rw [yn (by omega)];omega,by rw [ym];omega⟩;have f:i64.wrap ((y.length:Int)+1)= ((y.length+1:Nat):Int):=next y.length (by omega);have a:cv 0 ((y.length+1:Nat):Int)=some ():=by unfold cv fV;rw [if_pos (by omega)]
  rw [Ep];simp only [al,↓reduceIte,Int.reduceBEq,Int.reduceEq,GD,bo,g,f,a];exact h1
 .have h1:=GH x y c e b hy (by omega) (by omega) x 0 0 [] rfl rfl (by omega) (by omega);refine⟨fc x y 0,ao ?_,yl b hy (by omega),by rw [yn (by omega)];omega,by rw [ym];omega⟩;have f:i64.wrap ((x.length:Int)+1)= ((x.length+1:Nat):Int):=next x.length (by omega);have a:cv 0 ((x.length+1:Nat):Int)=some ():=by unfold cv fV;rw [if_pos (by omega)]
  rw [Ep];simp only [al,↓reduceIte,Int.reduceBEq,Int.reduceEq,GD,bo,g,f,a];exact h1
theorem NJ(x y:List Int)(w z:Bool)(C:Dg x)(hy:Dg y)(d:x.length<=1000):∀(e:List Int) (i:Nat) (c:Int) (done:List Int),x.drop i=e->done.length=i->0<=c/\c<=1->
  Or pg [lu z y,o0,I c,lu w x,I (x.length:Int),I (i:Int)] [ab.sl false 1 false (aM done)]=some [T.ae 1 false (aM (done++fm e (y.drop i) c))]:=by
 intro e;induction e with
 | nil=>
  intro i c done h r B;have F:=bP h;have h1:¬(i:Int) < (x.length:Int):=by omega
  refine ao ?_;rw [Es];simp only [al,↓reduceIte,Int.reduceBEq,Int.reduceEq,GD,h1];simp [fm]
 | cons a e u=>
  intro i c done h r B;obtain⟨A,m,s⟩:=bG h;have h1:(i:Int) < (x.length:Int):=by omega
  have n: 0<=(i:Int):=by omega
  have H:=C a (Rt A);have f:=kZ h;have g:i64.wrap a=a:=cd (by omega);have j:i64.wrap (a - c)=a - c:=cd (by omega);refine ao ?_;rw [Es];cases l:y.drop i with
  | nil=>
   have G:=bP l;have k:¬(i:Int) < (y.length:Int):=by omega
   have t:y.drop (i+1)= []:=by simp;omega
   have:=u (i+1) (cO (a - c)) (done++ [(a - c) % 4294967296]) s (by simp [r]) (by unfold cO;split <;> omega);rw [t,show done++ [(a - c) % 4294967296] ++fm e [] (cO (a - c))=done++fm (a::e) [] c from by simp [fm]] at this;by_cases d:a - c < 0
   .have hv:u32.wrap (i64.wrap (a - c+4294967296))= (a - c) % 4294967296:=by rw [eY,cd (by omega)];omega
    unfold cO at this;rw [if_pos d] at this;simp only [al,↓reduceIte,Int.reduceBEq,Int.reduceEq,GD,h1,n,and_self,bo,dm m,f,k,g,j,d,hv,mI,mJ,nF (done.length+1) (by omega),next i (by omega)];exact this
   .have hv:u32.wrap (a - c)= (a - c) % 4294967296:=eY _;unfold cO at this;rw [if_neg d] at this;simp only [al,↓reduceIte,Int.reduceBEq,Int.reduceEq,GD,h1,n,and_self,bo,dm m,f,k,g,j,d,hv,mI,mJ,nF (done.length+1) (by omega),next i (by omega)];exact this
  | cons b v=>
   obtain⟨D,k2,E⟩:=bG l;have hb:=hy b (Rt D);have o:=kZ l;have k:(i:Int) < (y.length:Int):=by omega
   have p:i64.wrap b=b:=cd (by omega);have q:i64.wrap (a - c - b)=a - c - b:=cd (by omega);have:=u (i+1) (cO (a - c - b)) (done++ [(a - c - b) % 4294967296]) s (by simp [r]) (by unfold cO;split <;> omega);rw [E,show done++ [(a - c - b) % 4294967296] ++fm e v (cO (a - c - b))=done++fm (a::e) (b::v) c from by simp [fm]] at this;by_cases d:a - c - b < 0
   .have hv:u32.wrap (i64.wrap (a - c - b+4294967296))= (a - c - b) % 4294967296:=by rw [eY,cd (by omega)];omega
    unfold cO at this;rw [if_pos d] at this;simp only [al,↓reduceIte,Int.reduceBEq,Int.reduceEq,GD,h1,n,and_self,bo,dm m,dm k2,f,o,k,g,j,p,q,d,hv,mI,mJ,nF (done.length+1) (by omega),next i (by omega)];exact this
   .have hv:u32.wrap (a - c - b)= (a - c - b) % 4294967296:=eY _;unfold cO at this;rw [if_neg d] at this;simp only [al,↓reduceIte,Int.reduceBEq,Int.reduceEq,GD,h1,n,and_self,bo,dm m,dm k2,f,o,k,g,j,p,q,d,hv,mI,mJ,nF (done.length+1) (by omega),next i (by omega)];exact this
theorem H3(x y:List Int)(a b:Bool)(e:Dg x)(hy:Dg y)(f:y.length<=x.length)(hv:val y<=val x)(g:x.length<=900):∃d,Or (.call 177) [lu a x,lu b y] []=some [T.ae 1 false (aM d)]/\Dg d/\val d=val x - val y/\d.length=x.length:=by
 have h1:=NJ x y a b e hy (by omega) x 0 0 [] rfl rfl (by omega);refine⟨fm x y 0,ao ?_,AX,by rw [AZ e hy f (by omega) (by omega)];omega,AY⟩;have c:cv 0 (x.length:Int)=some ():=by unfold cv fV;rw [if_pos (by omega)]
 rw [KJ];simp only [al,↓reduceIte,Int.reduceBEq,Int.reduceEq,GD,bo,c];exact h1
theorem wH{x y:Int}(h:y.natAbs<=x.natAbs):(dz y).length<=(dz x).length:=by
 rcases UE (dz x).length (dz y).length with h1 | h1
 .have:=xv (dA x) (dA y) (im y) h1;rw [dM,dM] at this;omega
 .exact h1
theorem OX(x y:Int)(k:(dz x).length<=900)(hy:(dz y).length<=900):Or (.call 134) [LZ x,LZ y] []=some (RZ (x+y)):=by
 have h:=kD x (by omega);have k2:=kD y (by omega);refine ao ?_;rw [KA];by_cases hs:decide (x < 0)=decide (y < 0)
 .obtain⟨d,c,e,f,i⟩:=O8 (dz x) (dz y) false false (dA x) (dA y) k hy;have a:=nC (decide (x < 0)) false d e (by omega);have hb:(decide (x < 0)==decide (y < 0))=true:=by simpa using hs
  have hv:(if decide (x < 0)=true then -val d else val d)=x+y:=by
   rw [f,dM,dM];simp only [decide_eq_true_eq];have j:x < 0↔y < 0:=by simpa using hs
   split <;> omega
  rw [hv] at a;unfold RZ at a;simp only [al,↓reduceIte,Int.reduceBEq,Int.reduceEq,GD,h,k2,hb,c,a];rfl
 .have hb:(decide (x < 0)==decide (y < 0))=false:=by simpa using hs
  have j:¬(x < 0↔y < 0):=by simpa using hs
  have a:=yd (dz x) (dz y) false false (dA x) (dA y) (im x) (im y) (by omega) (by omega);rw [dM,dM] at a;by_cases l:(y.natAbs:Int)<=(x.natAbs:Int)
  .have g:dX (x.natAbs:Int) (y.natAbs:Int)>=0:=by unfold dX;rw [if_neg (by omega)];split <;> omega
   obtain⟨d,c,e,f,i⟩:=H3 (dz x) (dz y) false false (dA x) (dA y) (wH (by omega)) (by rw [dM,dM];exact l) k;have b:=nC (decide (x < 0)) false d e (by omega);have hv:(if decide (x < 0)=true then -val d else val d)=x+y:=by rw [f,dM,dM];simp only [decide_eq_true_eq];split <;> omega
   rw [hv] at b;unfold RZ at b;simp only [al,↓reduceIte,Int.reduceBEq,Int.reduceEq,GD,h,k2,hb,a,g,c,b];rfl
  .have g:¬dX (x.natAbs:Int) (y.natAbs:Int)>=0:=by unfold dX;rw [if_pos (by omega)];omega
   obtain⟨d,c,e,f,i⟩:=H3 (dz y) (dz x) false false (dA y) (dA x) (wH (by omega)) (by rw [dM,dM];omega) hy;have b:=nC (decide (y < 0)) false d e (by omega);have hv:(if decide (y < 0)=true then -val d else val d)=x+y:=by rw [f,dM,dM];simp only [decide_eq_true_eq];split <;> omega
   rw [hv] at b;unfold RZ at b;simp only [al,↓reduceIte,Int.reduceBEq,Int.reduceEq,GD,h,k2,hb,a,g,c,b];rfl
theorem vN:∀n,n < 256->∃u,L8[n]? =some u/\u.toNat<=8/\n < 2 ^ u.toNat/\(n≠0->2 ^ u.toNat<=2 * n):=by
 have:∀n,n < 256->(match L8[n]? with | some u=>decide (u.toNat<=8/\n < 2 ^ u.toNat/\(n≠0->2 ^ u.toNat<=2 * n)) | none=>false)=true:=by decide+kernel
 intro n b;have h:=this n b;cases a:L8[n]? with
 | none=>rw [a] at h;cases h
 | some u=>rw [a] at h;exact⟨u,rfl,of_decide_eq_true h⟩
set_option maxRecDepth 100000 in
theorem H4(a:Int)(I: 0<=a/\a < 4294967296):∃n:Nat,Or (.call 136) [AV.t (T.int .u32 a)] []=some [ti (n:Int)]/\n<=32/\a < 2 ^ n/\(a≠0->(2:Int) ^ n<=2 * a):=by
 have p:(2:Int) ^ 8=256:=by decide
 have e:(2:Int) ^ 16=65536:=by decide
 have q:∀v:Int,v.fdiv 256=v / 256:=λv=>SE _ (by omega);have l:∀v:Int,v.fdiv 65536=v / 65536:=λv=>SE _ (by omega)
 have m:∀(k:Nat) (n:Nat) (u:UInt8),k<=24->n < 256->(n:Int)=a / 2 ^ k->(k≠0->n≠0)->u.toNat<=8/\n < 2 ^ u.toNat/\(n≠0->2 ^ u.toNat<=2 * n)->
   (k+u.toNat)<=32/\a < (2:Int) ^ (k+u.toNat)/\(a≠0->(2:Int) ^ (k+u.toNat)<=2 * a):=by
  intro k n u J b s B h;have w:=lE k;obtain⟨h1,H,D⟩:=h;have y:(n:Int)+1<=(2:Int) ^ u.toNat:=by rw [rL];omega
  have E:a < (2:Int) ^ k * ((n:Int)+1):=by rw [s];have:=Int.lt_mul_ediv_self_add (x:=a) w;rw [R7,UP];exact this
  have F:(2:Int) ^ k * (n:Int)<=a:=by rw [s];exact Int.mul_ediv_self_le (by omega)
  refine⟨by omega, ?_,λG=> ?_⟩
  .rw [UQ];have:=RG y (S8 w);omega
  .have A:n≠0:=by
    rcases Nat.eq_zero_or_pos k with r | r
    .subst r;rw [UY,Int.ediv_one] at s;omega
    .exact B (by omega)
   have z:(2:Int) ^ u.toNat<=2 * (n:Int):=by rw [rL];have:=D A;omega
   rw [UQ];have:=RG z (S8 w);rw [Si] at this;omega
 by_cases o:a>=65536
 .by_cases d:a / 65536>=256
  .have b:(a / 65536 / 256).toNat < 256:=by omega
   obtain⟨u,i,j⟩:=vN _ b;have g:u8.wrap (a / 65536 / 256)=a / 65536 / 256:=by rw [w8];omega
   have f: 0<=a / 65536 / 256/\a / 65536 / 256 < 256:=by omega
   have c:i64.wrap (i64.wrap (16+8)+i64.wrap (u.toNat:Int))= ((24+u.toNat:Nat):Int):=by rw [cd (v:=16+8) (by omega),cd (v:=(u.toNat:Int)) (by omega),cd (by omega)];omega
   refine⟨24+u.toNat,ao ?_,m 24 _ u (by omega) b (by rw [show((2:Int) ^ 24)=16777216 from by decide];omega) (λ_=>by omega) j⟩;rw [wK];simp only [al,↓reduceIte,Int.reduceBEq,Int.reduceEq,GD,o,p,e,q,l,d,g,f,and_self,i,c]
  .have b:(a / 65536).toNat < 256:=by omega
   obtain⟨u,i,j⟩:=vN _ b;have g:u8.wrap (a / 65536)=a / 65536:=by rw [w8];omega
   have f: 0<=a / 65536/\a / 65536 < 256:=by omega
   have c:i64.wrap (16+i64.wrap (u.toNat:Int))= ((16+u.toNat:Nat):Int):=by rw [cd (v:=(u.toNat:Int)) (by omega),cd (by omega)];omega
   refine⟨16+u.toNat,ao ?_,m 16 _ u (by omega) b (by rw [e];omega) (λ_=>by omega) j⟩;rw [wK];simp only [al,↓reduceIte,Int.reduceBEq,Int.reduceEq,GD,o,p,e,q,l,d,g,f,and_self,i,c]
 .by_cases d:a>=256
  .have b:(a / 256).toNat < 256:=by omega
   obtain⟨u,i,j⟩:=vN _ b;have g:u8.wrap (a / 256)=a / 256:=by rw [w8];omega
   have f: 0<=a / 256/\a / 256 < 256:=by omega
   have c:i64.wrap (i64.wrap (0+8)+i64.wrap (u.toNat:Int))= ((8+u.toNat:Nat):Int):=by rw [cd (v:=0+8) (by omega),cd (v:=(u.toNat:Int)) (by omega),cd (by omega)];omega
   refine⟨8+u.toNat,ao ?_,m 8 _ u (by omega) b (by rw [p];omega) (λ_=>by omega) j⟩;rw [wK];simp only [al,↓reduceIte,Int.reduceBEq,Int.reduceEq,GD,o,p,e,q,l,d,g,f,and_self,i,c]
  .have b:a.toNat < 256:=by omega
   obtain⟨u,i,j⟩:=vN _ b;have g:u8.wrap a=a:=by rw [w8];omega
   have f: 0<=a/\a < 256:=by omega
   have c:i64.wrap (i64.wrap (u.toNat:Int))= ((0+u.toNat:Nat):Int):=by rw [cd (v:=(u.toNat:Int)) (by omega),cd (by omega)];omega
   have C:i64.wrap (0+i64.wrap (u.toNat:Int))= ((0+u.toNat:Nat):Int):=by rw [cd (v:=(u.toNat:Int)) (by omega),cd (by omega)];omega
   refine⟨0+u.toNat,ao ?_,m 0 _ u (by omega) b (by rw [UY];omega) (λh=>absurd rfl h) j⟩;rw [wK];simp only [al,↓reduceIte,Int.reduceBEq,Int.reduceEq,GD,o,p,e,q,l,d,g,f,and_self,i,c,C]
open Go Go.Aev Go.Aev.Gen Go.Aev.Wd Go.IntKind
theorem BU(z:Int)(h:(dz z).length<=900):∃m:Int,Or (.call 102) [LZ z] []=some [ti m]/\0<=m/\m<=32 * ((dz z).length:Int):=by
 have d:=kD z (by omega);by_cases j:(dz z).length=0
 .refine⟨0,ao ?_,by omega,by omega⟩;rw [Ek];have a:((dz z).length:Int)=0:=by omega
  simp only [al,↓reduceIte,Int.reduceBEq,Int.reduceEq,GD,d,bo,a]
 .have a:¬((dz z).length:Int)=0:=by omega
  have g:i64.wrap (((dz z).length:Int) - 1)= (((dz z).length - 1:Nat):Int):=by rw [cd (by omega)];omega
  have f: 0<=(((dz z).length - 1:Nat):Int)/\(((dz z).length - 1:Nat):Int) < ((dz z).length:Int):=by omega
  have b:(dz z).length - 1 < (dz z).length:=by omega
  have e:=dA z (be (dz z) ((dz z).length - 1)) (by
   have:(dz z)[(dz z).length - 1]? =some (be (dz z) ((dz z).length - 1)):=by rw [Rv b];simp [be,Rr,b]
   exact Rt this)
  obtain⟨n,i,k,_,_⟩:=H4 _ e;have c:i64.wrap (32 * (((dz z).length - 1:Nat):Int))=32 * (((dz z).length - 1:Nat):Int):=cd (by omega);refine⟨32 * (((dz z).length - 1:Nat):Int)+ (n:Int),ao ?_,by omega,by omega⟩;rw [Ek];simp only [al,↓reduceIte,Int.reduceBEq,Int.reduceEq,GD,d,bo,a,g,f,and_self,dm b,i,c,cd (v:=32 * (((dz z).length - 1:Nat):Int)+ (n:Int)) (by omega)]
theorem HZ(z:Int)(h:(dz z).length<=900):Or (.call 103) [LZ z] []=some [tb (decide (z < 0)),T.str (bF (dz z)),ti 0]:=by
 obtain⟨m,a,b,c⟩:=BU z h;have h1:¬m > 131072:=by omega
 refine ao ?_;rw [KB];simp only [al,↓reduceIte,Int.reduceBEq,Int.reduceEq,GD,a,h1]
theorem Pn(x y:Int)(b:(dz x).length<=900)(hy:(dz y).length<=900)(hz:(dz (x+y)).length<=900):Or (.call 101) [LZ x,LZ y] []=some [tb (decide (x+y < 0)),T.str (bF (dz (x+y))),ti 0]:=by have a:=OX x y b hy;have k2:=HZ (x+y) hz;unfold RZ at a;refine ao ?_;rw [K9];simp only [al,↓reduceIte,Int.reduceBEq,Int.reduceEq,GD,a,k2]
theorem NF(q s u:Bool)(x y:List Int)(a:Int)(E: 0<=a/\a < 4294967296)(hy:Dg y)(i:Nat)(hi:i<=1000)(U:y.length<=1000)(R:List T):∀(l:List Int) (j:Nat) (c:Int) (e f:List Int),y.drop j=l->j<=y.length->e.length=i+j->l.length < f.length->Dg f->0<=c/\c < 4294967296->
  Or sC [lu s y,o0,lu q x,I (x.length:Int),I ((i+1:Nat):Int)] [ab.sl false 1 false (aM (e++hH a l f c))]=some R->
  Or u4 [lu s y,o0,I (i:Int),AV.t (T.int .u32 a),AV.t (T.int .u64 c),lu q x,I (x.length:Int),I (i:Int),lu u y,I (y.length:Int),I (j:Int)] [ab.sl false 1 false (aM (e++f))]=some R:=by
 intro l;induction l with
 | nil=>
  intro j c e f h H m hm g F k;have S:=bP h;obtain rfl:j=y.length:=by omega
  match f,hm with
  | o::r,_=>
   have h1:¬(y.length:Int) < (y.length:Int):=by omega
   have p:i64.wrap ((i:Int)+ (y.length:Int))= ((i+y.length:Nat):Int):=by rw [cd (by omega)];omega
   have n: 0<=((i+y.length:Nat):Int)/\((i+y.length:Nat):Int) < ((e++o::r).length:Int):=by simp;omega
   have hs:=z6 (d:=e++o::r) (i:=i+y.length) (by simp;omega) c;rw [yf e o c r _ m] at hs;have z:u32.wrap c=c:=by rw [eY];omega
   refine ao ?_;rw [Em];simp only [al,↓reduceIte,Int.reduceBEq,Int.reduceEq,GD,h1,bo,p,n,and_self,z,hs,next i (by omega)];exact k
 | cons b l J=>
  intro j c e f h H m hm g F k;obtain⟨A,B,C⟩:=bG h;have hb:=hy b (Rt A);have w:=kZ h
  match f,hm,g,k with
  | o::r,hm,g,k=>
   have V:=g o Rs;have Q:=lr E hb;have h1:(j:Int) < (y.length:Int):=by omega
   have D: 0<=(j:Int):=by omega
   have p:i64.wrap ((i:Int)+ (j:Int))= ((i+j:Nat):Int):=by rw [cd (by omega)];omega
   have n: 0<=((i+j:Nat):Int)/\((i+j:Nat):Int) < ((e++o::r).length:Int):=by simp;omega
   have G:(aM (e++o::r))[((i+j:Nat):Int).toNat]? =some [T.int .u32 o]:=by rw [dm (by simp;omega),wu e o r _ m]
   have hs:∀v,bI ((i+j:Nat):Int).toNat 0 [T.int .u32 v] (aM (e++o::r))=some (aM ((e++ [v])++r)):=λv=>by rw [z6 (by simp;omega),yf e o v r _ m];simp
   have K:u64.wrap a=a:=bZ (by omega);have L:u64.wrap b=b:=bZ (by omega);have M:u64.wrap o=o:=bZ (by omega);have N:u64.wrap (a * b)=a * b:=bZ (by omega);have O:u64.wrap (a * b+o)=a * b+o:=bZ (by omega);have P:u64.wrap (c+ (a * b+o))=c+a * b+o:=by rw [bZ (by omega)];omega
   have:=J (j+1) ((c+a * b+o) / 4294967296) (e++ [(c+a * b+o) % 4294967296]) r C (by omega) (by simp;omega) (by simpa using hm) g.tail (by omega) (by
    rw [hH] at k;rw [R6];exact k)
   refine ao ?_;rw [Em];simp only [al,↓reduceIte,Int.reduceBEq,Int.reduceEq,GD,h1,D,and_self,bo,dm B,w,p,n,G,K,L,M,N,O,P,eY,hs,mV,next j (by omega)];exact this
theorem ND(z s:Bool)(x y:List Int)(N:Dg x)(hy:Dg y)(U:x.length<=400)(V:y.length<=400):∀(e:List Int) (i:Nat) (f b:List Int),x.drop i=e->i<=x.length->f.length=i->b.length=y.length->Dg f->Dg b->
  ∃d,Or sC [lu s y,o0,lu z x,I (x.length:Int),I (i:Int)] [ab.sl false 1 false (aM (f++ (b++List.replicate e.length 0)))]=some [T.ae 1 false (aM d)]/\
   Dg d/\d.length=x.length+y.length/\val d=val (f++b)+4294967296 ^ i * (val e * val y):=by
 intro e;induction e with
 | nil=>
  intro i f b h hi m g l j;have S:=bP h;have h1:¬(i:Int) < (x.length:Int):=by omega
  have w:(f++b).length=x.length+y.length:=by simp;omega
  refine⟨f++b,ao ?_,λu hu=> ?_,w,by simp [val]⟩
  .rw [El];simp only [Su,TY,Sg];simp only [al,↓reduceIte,Int.reduceBEq,Int.reduceEq,GD,h1]
  .rcases RM.1 hu with hu | hu
   .exact l u hu
   .exact j u hu
 | cons a e O=>
  intro i f b h hi m g l j;obtain⟨J,K,L⟩:=bG h;have v:=N a (Rt J);have B:=kZ h;have h1:(i:Int) < (x.length:Int):=by omega
  have M: 0<=(i:Int):=by omega
  have A:Dg (b++ [0]):=λu hu=>by
   rcases RM.1 hu with hu | hu
   .exact j u hu
   .simp only [RF] at hu;subst hu;omega
  have F:=Gx v (y:=y) (o:=b) (r:= []) (c:=0) g.symm;have p:=Gv (a:=a) (y:=y) (o:=b++ [0]) (c:=0);have n:=Gu v (y:=y) (o:=b++ [0]) (c:=0) hy A (by omega);have E:=Gw (a:=a) (y:=y) (o:=b) (r:=List.replicate e.length 0) (q:=0) (c:=0) g.symm;have C:Dg (b++List.replicate (a::e).length 0):=λu hu=>by
   rcases RM.1 hu with hu | hu
   .exact j u hu
   .have:=Te hu;omega
  generalize hH a y (b++ [0]) 0=res at *
  cases res with
  | nil=>simp at p
  | cons k t=>
   simp only [RP,Sw,Su] at p;obtain⟨d,P,k2,Q,R⟩:=O (i+1) (f++ [k]) t L (by omega) (by simp [m]) (by omega) (λu hu=>by
    rcases RM.1 hu with hu | hu
    .exact l u hu
    .simp only [RF] at hu;subst hu;exact n u Rs) n.tail
   have D:=NF z s s x y a v hy i (by omega) (by omega) _ y 0 0 f (b++List.replicate (a::e).length 0) rfl (by omega) (by omega) (by simp;omega) C (by omega) (by
    rw [show b++List.replicate (a::e).length 0=b++0::List.replicate e.length 0 from rfl,E];rw [show f++ (k::t++List.replicate e.length 0)=f++ [k] ++ (t++List.replicate e.length 0) from by simp];exact P)
   refine⟨d,ao ?_,k2,Q, ?_⟩
   .rw [El];simp only [al,↓reduceIte,Int.reduceBEq,Int.reduceEq,GD,h1,M,and_self,bo,dm K,B];exact D
   .rw [R];have G:f++ [k] ++t=f++k::t:=by simp
    have H:val (b++ [0])=val b:=by rw [hJ];simp [val]
    have e3:(4294967296:Int) ^ i * ((a+4294967296 * val e) * val y)=4294967296 ^ i * (a * val y)+4294967296 ^ i * 4294967296 * (val e * val y):=by rw [Uy,R7];simp only [SA]
    rw [G,hJ,hJ,m,F,H,T6];simp only [val];rw [e3,Int.zero_add,R7];omega
theorem OY(b c:Bool)(x y:List Int)(k:Dg x)(hy:Dg y)(f:x.length<=400)(g:y.length<=400):∃d,Or (.call 104) [lu b x,lu c y] []=some [T.ae 1 false (aM d)]/\Dg d/\d.length=x.length+y.length/\val d=val x * val y:=by
 obtain⟨d,h,k2,l,m⟩:=ND b c x y k hy f g x 0 [] (List.replicate y.length 0) rfl (by omega) rfl (by simp) (λu a=>by cases a) (λu a=>by
  have:=Te a;omega)
 have j:i64.wrap ((x.length:Int)+ (y.length:Int))= ((y.length+x.length:Nat):Int):=by rw [cd (by omega)];omega
 have e:cv ((y.length+x.length:Nat):Int) ((y.length+x.length:Nat):Int)=some ():=by unfold cv fV;rw [if_pos (by omega)]
 have i:aM ([] ++ (List.replicate y.length 0++List.replicate x.length 0))=List.replicate (y.length+x.length) [T.int u32 0]:=by rw [Ry,List.replicate_append_replicate];simp [aM]
 rw [i] at h;refine⟨d,ao ?_,k2,l,by rw [m,Ry,I7];simp⟩;rw [KC];simp only [bo,j];simp only [al,↓reduceIte,Int.reduceBEq,Int.reduceEq,GD,e,R5];exact h
theorem Po(x y:Int)(z:(dz x).length<=300)(hy:(dz y).length<=300):Or (.call 81) [LZ x,LZ y] []=some [tb (decide (x * y < 0)),T.str (bF (dz (x * y))),ti 0]:=by
 obtain⟨m,i,r,s⟩:=BU x (by omega);obtain⟨n,j,t,u⟩:=BU y (by omega);have h:¬m+n > 131073:=by omega
 have p:=kD x (by omega);have k2:=kD y (by omega);obtain⟨d,l,f,w,g⟩:=OY false false (dz x) (dz y) (dA x) (dA y) (by omega) (by omega);have e:=nC (!decide (x < 0)==decide (y < 0)) false d f (by omega);have hv:(if(!decide (x < 0)==decide (y < 0))=true then -val d else val d)=x * y:=by
  rw [g,dM,dM,<-Ub,<-Sq];have c:∀a b:Int,0<=a->0<=b->0<=a * b:=λa b=>SK;by_cases h1:x < 0 <;> by_cases o:y < 0 <;> simp only [h1,o,decide_true,decide_false]
  .have:=c (-x) (-y) (by omega) (by omega);rw [Int.neg_mul_neg] at this;simp;omega
  .have:=c (-x) y (by omega) (by omega);rw [VS] at this;simp;omega
  .have:=c x (-y) (by omega) (by omega);rw [Int.mul_neg] at this;simp;omega
  .have:=c x y (by omega) (by omega);simp;omega
 rw [hv] at e;have hz:(dz (x * y)).length<=900:=by refine R4 (wI (k:=d.length) ?_) (by omega);have:=jT f;rw [g,dM,dM,<-Ub,<-Sq] at this;exact this
 have q:=HZ (x * y) hz;unfold RZ at e;refine ao ?_;rw [La];simp only [al,↓reduceIte,Int.reduceBEq,Int.reduceEq,GD,i,j,cd (v:=m+n) (by omega),h,p,k2,l,e,q]
theorem uq(x:Int)(h: -9223372036854775808<=x/\x < 9223372036854775808):Or (.call 56) [I x] []=some (RZ x):=by
 refine ao ?_;rw [KX];by_cases g:x < 0
 .have f:u64.wrap (0 - u64.wrap x)= -x:=by simp only [p9];omega
  have c:Dg [(-x) % 4294967296,(-x) / 4294967296]:=λu e=>by simp only [RC,Um,or_false] at e;omega
  have hv:val [(-x) % 4294967296,(-x) / 4294967296]= -x:=by simp only [val];omega
  have k:=nC true false _ c (by simp);rw [hv,if_pos rfl,Int.neg_neg] at k;have d:aM [(-x) % 4294967296,(-x) / 4294967296]= [[T.int .u32 ((-x) % 4294967296)],[T.int .u32 ((-x) / 4294967296)]]:=rfl;simp only [lu,d] at k;unfold RZ at k;have b:u32.wrap ((-x) / 4294967296)= (-x) / 4294967296:=mE (by omega);have a:decide (x < 0)=true:=decide_eq_true g;rw [a];simp only [al,↓reduceIte,Int.reduceBEq,Int.reduceEq,GD,f,mV,eY (-x),b,k];rfl
 .have f:u64.wrap x=x:=bZ (by omega);have c:Dg [x % 4294967296,x / 4294967296]:=λu e=>by
   simp only [RC,Um,or_false] at e;omega
  have hv:val [x % 4294967296,x / 4294967296]=x:=by simp only [val];omega
  have k:=nC false false _ c (by simp);rw [hv] at k;have d:aM [x % 4294967296,x / 4294967296]= [[T.int .u32 (x % 4294967296)],[T.int .u32 (x / 4294967296)]]:=rfl;simp only [lu,d] at k;unfold RZ at k;have b:u32.wrap (x / 4294967296)=x / 4294967296:=mE (by omega);have a:decide (x < 0)=false:=decide_eq_false g;simp only [RS,↓reduceIte] at k;rw [a];simp only [al,↓reduceIte,Int.reduceBEq,Int.reduceEq,GD,f,mV,eY x,b,k];unfold RZ;rfl
theorem N8{v n:Int}(hv: 0<=v/\v < 4294967296)(a: 0<=n/\n < 4294967296):
  u64.wrap (((BitVec.ofInt 64 n ||| BitVec.ofInt 64 (u64.wrap (v * (2:Int) ^ 32))).toNat:Nat):Int)=v * 4294967296+n:=by
 have h:=tW hv a;rw [BitVec.or_comm,bZ (v:=n) (by omega)] at h;exact h
theorem Hg{n:Int}(a: 0<=n/\n < 4294967296):u64.wrap (((BitVec.ofInt 64 0 ||| BitVec.ofInt 64 n).toNat:Nat):Int)=n:=by have h:=tW (v:=0) (n:=n) (by omega) a;rw [Int.zero_mul,bZ (v:=0) (by omega),bZ (v:=n) (by omega),Int.zero_mul,Int.zero_add] at h;exact h
theorem z5(u:Int)(s:Bool)(d:List Int)(x:ByteArray)(f: 0<=u/\u < 18446744073709551616)(i:Nat)(hi:i=d.length)(e:Bool):
  Or qF [r0,AV.t (T.int .u64 u),lu e d,I (d.length:Int),I (i:Int)] [ab.box [B s,AV.t (T.str x)]]=
   some (if -9223372036854775808<=(if s then -u else u)/\(if s then -u else u) < 9223372036854775808 then [ti (if s then -u else u),tb true] else [ti 0,tb false]):=by
 subst hi;refine ao ?_;rw [wM];have h1:¬(d.length:Int) < (d.length:Int):=by omega
 cases s with
 | true=>
  by_cases b:u<=9223372036854775808
  .have c:i64.wrap (0 - i64.wrap u)= -u:=by
    simp only [IntKind.wrap,IntKind.signed,IntKind.bits];simp;omega
   have a: -9223372036854775808<= -u/\ -u < 9223372036854775808:=by omega
   simp only [al,↓reduceIte,Int.reduceBEq,Int.reduceEq,GD,h1,b,c,decide_true,a,and_self]
  .have a:¬(-9223372036854775808<= -u/\ -u < 9223372036854775808):=by omega
   simp only [al,↓reduceIte,Int.reduceBEq,Int.reduceEq,GD,h1,b,decide_false,a]
 | false=>
  by_cases b:u < 9223372036854775808
  .have c:i64.wrap u=u:=cd (by omega);have a: -9223372036854775808<=u/\u < 9223372036854775808:=by omega
   simp only [al,↓reduceIte,Int.reduceBEq,Int.reduceEq,GD,h1,b,c,decide_true,RS,a,and_self]
  .have a:¬(-9223372036854775808<=u/\u < 9223372036854775808):=by omega
   simp only [al,↓reduceIte,Int.reduceBEq,Int.reduceEq,GD,h1,b,decide_false,RS,a,and_false]
theorem H7(z:Int)(h:(dz z).length<=900):Or (.call 50) [LZ z] []=some (if -9223372036854775808<=z/\z < 9223372036854775808 then [ti z,tb true] else [ti 0,tb false]):=by
 have D:=kD z (by omega);have e:=dA z;have hv:=dM z;have H:=im z;by_cases f:((dz z).length:Int) > 2
 .have E:¬(-9223372036854775808<=z/\z < 9223372036854775808):=by
   intro hz;have:=@wI z 2 (by
    have:(4294967296:Int) ^ 2=18446744073709551616:=by decide
    rw [this];omega)
   omega
  refine ao ?_;rw [Ez,if_neg E];simp only [al,↓reduceIte,Int.reduceBEq,Int.reduceEq,GD,D,bo,f]
 .have k:∀u:Int,u= (z.natAbs:Int)->(if decide (z < 0)=true then -u else u)=z:=λu J=>by
   simp only [decide_eq_true_eq];split <;> omega
  have s:∀(d:List Int),d=dz z->Or qF [r0,AV.t (T.int .u64 0),lu false d,I (d.length:Int),I 0] [ab.box [B (decide (z < 0)),AV.t (T.str (bF (dz z)))]]=some (if -9223372036854775808<=z/\z < 9223372036854775808 then [ti z,tb true] else [ti 0,tb false]):=by
   intro d w;rw [<-w] at hv e f
   match d,w,hv,e,f with
   | [],_,hv,_,_=>have:=z5 0 (decide (z < 0)) [] (bF (dz z)) (by omega) 0 rfl false;rw [k 0 (by rw [<-hv];rfl)] at this;exact this
   | [a],_,hv,e,_=>
    have l:=e a Rs;simp only [val,Up,TT] at hv;have:=z5 a (decide (z < 0)) [a] (bF (dz z)) (by omega) 1 rfl false;rw [k a hv] at this;refine ao ?_;rw [wM];have r:i64.wrap (32 * 0)=0:=by decide
    have q:min (0:Int).toNat 64=0:=rfl;have p:u64.wrap a=a:=bZ (by omega);have i:(0:Int) < (([a]:List Int).length:Int):=by simp
    have n:(aM [a])[(0:Int).toNat]? =some [T.int .u32 a]:=rfl;have g:¬(0:Int) < 0:=by omega
    have j:i64.wrap (0+1)= ((1:Nat):Int):=by decide
    have o:(0:Int)<=0/\(0:Int) < (([a]:List Int).length:Int):=⟨by omega,i⟩;simp only [al,↓reduceIte,Int.reduceBEq,Int.reduceEq,GD,bo,i,o,and_self,n,r,q,g,UY,UP,p,Hg l,j];exact this
   | [a,b],_,hv,e,_=>
    have l:=e a Rs;have hb:=e b (Ru _ Rs);simp only [val,Up,TT] at hv;have:=z5 (b * 4294967296+a) (decide (z < 0)) [a,b] (bF (dz z)) (by omega) 2 rfl false;rw [k (b * 4294967296+a) (by omega)] at this;have r:i64.wrap (32 * 0)=0:=by decide
    have q:min (0:Int).toNat 64=0:=rfl;have G:i64.wrap (32 * ((1:Nat):Int))=32:=by decide
    have F:min (32:Int).toNat 64=32:=rfl;have p:u64.wrap a=a:=bZ (by omega);have C:u64.wrap b=b:=bZ (by omega);have i:(0:Int) < (([a,b]:List Int).length:Int):=by simp
    have m:((1:Nat):Int) < (([a,b]:List Int).length:Int):=by simp
    have n:(aM [a,b])[(0:Int).toNat]? =some [T.int .u32 a]:=rfl;have x:(aM [a,b])[((1:Nat):Int).toNat]? =some [T.int .u32 b]:=rfl;have g:¬(0:Int) < 0:=by omega
    have v:¬(32:Int) < 0:=by omega
    have j:i64.wrap (0+1)= ((1:Nat):Int):=by decide
    have y:i64.wrap (((1:Nat):Int)+1)= ((2:Nat):Int):=by decide
    have o:(0:Int)<=0/\(0:Int) < (([a,b]:List Int).length:Int):=⟨by omega,i⟩;have A:(0:Int)<=((1:Nat):Int)/\((1:Nat):Int) < (([a,b]:List Int).length:Int):=⟨by omega,m⟩;have step:Or qF [r0,AV.t (T.int .u64 a),lu false [a,b],I (([a,b]:List Int).length:Int),I ((1:Nat):Int)] [ab.box [B (decide (z < 0)),AV.t (T.str (bF (dz z)))]]=some (if -9223372036854775808<=z/\z < 9223372036854775808 then [ti z,tb true] else [ti 0,tb false]):=by refine ao ?_;rw [wM];simp only [al,↓reduceIte,Int.reduceBEq,Int.reduceEq,GD,bo,m,A,and_self,x,G,F,v,C,N8 hb l,y];exact this
    refine ao ?_;rw [wM];simp only [al,↓reduceIte,Int.reduceBEq,Int.reduceEq,GD,bo,i,o,and_self,n,r,q,g,UY,UP,p,Hg l,j];exact step
   | a::b::c::d,_,_,_,f=>simp at f;omega
  refine ao ?_;rw [Ez];simp only [al,↓reduceIte,Int.reduceBEq,Int.reduceEq,GD,D,bo,f];exact s _ rfl
end Go.Aev.Wd.Lg
