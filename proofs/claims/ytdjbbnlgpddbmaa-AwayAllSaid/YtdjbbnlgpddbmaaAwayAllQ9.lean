import Derived.Test.YtdjbbnlgpddbmaaAwayAllQ8
import Derived.Test.YtdjbbnlgpddbmaaAwayAllQ6
import Derived.Test.YtdjbbnlgpddbmaaAwayAllQ7
set_option linter.all false
namespace Go.Aev.Wd.Lg
open Go Go.Aev Go.Aev.Gen Go.Aev.Wd Go.IntKind
def mz:Nat->Nat->List Int
 | 0,_=> []
 | f+1,n=>if n=0 then [] else((n % 4294967296:Nat):Int)::mz f (n / 4294967296)
theorem vr:∀(f n:Nat),n<=f->Dg (mz f n)/\Can (mz f n)/\val (mz f n)= (n:Int)
 | 0,n,h=>by
  obtain rfl:n=0:=by omega
  exact⟨λa b=>by simp [mz] at b,λk hk=>by simp [mz] at hk,rfl⟩
 | f+1,n,h=>by
  rw [mz];by_cases hn:n=0
  .subst hn;rw [if_pos rfl];exact⟨(λa b=>by cases b),(λk hk=>by cases hk),rfl⟩
  .rw [if_neg hn];have e:n / 4294967296 < n:=Nat.div_lt_self (by omega) (by omega);obtain⟨h1,d,c⟩:=vr f (n / 4294967296) (by omega);have hm:n % 4294967296 < 4294967296:=U5 _ (by omega);refine⟨λa b=> ?_,λk hk=> ?_, ?_⟩
   .rcases RV.1 b with rfl | b
    .omega
    .exact h1 a b
   .cases k with
    | zero=>have hl:mz f (n / 4294967296)= []:=R4.1 (by simpa using hk);rw [hl] at c;have hv:val []=0:=rfl;rw [hv] at c;show(_:Int)≠0;simp only [aV,List.getD_cons_zero];omega
    | succ k=>have:=d k (by simpa using hk);simpa [aV] using this
   .rw [val,c];omega
def dz(z:Int):List Int:=mz z.natAbs z.natAbs
theorem cX(z:Int):Dg (dz z):=(vr _ _ (R3 _)).1
theorem gV(z:Int):Can (dz z):=(vr _ _ (R3 _)).2.1
theorem dr(z:Int):val (dz z)= (z.natAbs:Int):=(vr _ _ (R3 _)).2.2
theorem Du{a:Int}{d:List Int}(h:Can (a::d)):Can d:=λk hk=>by have:=h (k+1) (by simp [hk]);simpa [aV] using this
theorem oQ:∀{a b:List Int},Dg a->Dg b->Can a->Can b->val a=val b->a=b
 | [],[],_,_,_,_,_=>rfl
 | [],y::b,_,hb,_,e,h=>by have:=yZ hb e (by simp);rw [<-h] at this;simp [val] at this
 | x::a,[],c,_,d,_,h=>by have:=yZ c d (by simp);rw [h] at this;simp [val] at this
 | x::a,y::b,c,hb,d,e,h=>by
  have h1:=c x RL;have i:=hb y RL;rw [val,val] at h;have g:x=y:=by omega
  subst g;have:=oQ (λu f=>c u (RM _ f)) (λu f=>hb u (RM _ f)) (Du d) (Du e) (by omega);rw [this]
theorem KX{d:List Int}{z:Int}(h:Dg d)(c:Can d)(hv:val d= (z.natAbs:Int)):d=dz z:=oQ h (cX z) c (gV z) (by rw [hv,dr])
theorem qe{z:Int}:dz z= []↔z=0:=by
 constructor
 .intro h;have:=dr z;rw [h] at this;simp [val] at this;exact this.symm▸by omega
 .rintro rfl;rfl
theorem sb(z:Int):dz (-z)=dz z:=by unfold dz;rw [VM]
theorem vD{z:Int}{k:Nat}(h:(z.natAbs:Int) < 4294967296 ^ k):(dz z).length<=k:=by
 rcases UG k (dz z).length with h1 | h1
 .exfalso;obtain⟨m,hm⟩:∃m,(dz z).length=m+1:=⟨(dz z).length - 1,by omega⟩;have a:=yX (cX z) (gV z) hm;rw [dr] at a;have b:(4294967296:Int) ^ k<=4294967296 ^ m:=AW (by omega);omega
 .exact h1
theorem Ap{z:Int}(h:jF z):(dz z).length<=200:=vD h
def fk(a:Int):List UInt8:= [UInt8.ofNat (a.toNat % 256),UInt8.ofNat (a.toNat / 256 % 256),UInt8.ofNat (a.toNat / 65536 % 256),UInt8.ofNat (a.toNat / 16777216 % 256)]
def eY:List Int->List UInt8
 | []=> []
 | a::d=>fk a++eY d
def bA(d:List Int):ByteArray:=⟨(eY d).toArray⟩
theorem Dk:∀d:List Int,(eY d).length=4 * d.length
 | []=>rfl
 | a::d=>by rw [eY,SI,Dk d,Sc];simp [fk];omega
theorem Dj:∀(i:Nat) (d:List Int),(eY d).drop (4 * i)=eY (d.drop i)
 | 0,d=>by simp
 | i+1,[]=>by simp [eY]
 | i+1,a::d=>by rw [eY,show 4 * (i+1)= (fk a).length+4 * i from by simp [fk];omega,List.drop_append,List.drop_of_length_le (by omega),R0,List.drop_succ_cons];rw [show(fk a).length+4 * i - (fk a).length=4 * i from by omega];exact Dj i d
theorem EU(d:List Int):(bA d).size=4 * d.length:=by show(eY d).toArray.size=_;rw [Ta,Dk]
theorem MC(A:Array UInt8)(a n x y:Nat)(h:A.size<=a+n):((#[]:Array UInt8).extract 0 0++A.extract a (a+n)++ (#[]:Array UInt8).extract x y).toList=A.toList.drop a:=by simp only [Array.toList_append,U3,Uz,VW,VU,R0,SN];rw [Th (by simp;omega)]
theorem MD(s:ByteArray)(a n:Nat)(h:n=s.size):(s.extract a n).size=n - a:=by subst h;have:(s.extract a s.size).size=min s.size s.size - a:=ByteArray.size_extract;rw [this];omega
theorem Dl{n:Nat}(h:n < 256):((UInt8.ofNat n).toNat:Int)= (n:Int):=by rw [UInt8.toNat_ofNat'];omega
theorem A8:(2:Int) ^ 8=256:=by decide
theorem A6:(2:Int) ^ 16=65536:=by decide
theorem A7:(2:Int) ^ 24=16777216:=by decide
theorem ma{v:Int}(h: 0<=v/\v < 4294967296):u32.wrap v=v:=by rw [eC];omega
theorem Ng{a:Int}(h: 0<=a/\a < 4294967296)(d x2 b c:Int)(i:d= ((a.toNat % 256:Nat):Int))(j:x2= ((a.toNat / 256 % 256:Nat):Int))(k:b= ((a.toNat / 65536 % 256:Nat):Int))(l:c= ((a.toNat / 16777216 % 256:Nat):Int)):
  u32.wrap (((BitVec.ofInt 32 (u32.wrap (((BitVec.ofInt 32 (u32.wrap (((BitVec.ofInt 32 (u32.wrap d) ||| BitVec.ofInt 32 (u32.wrap (u32.wrap x2 * (2:Int) ^ 8))).toNat:Nat):Int)) ||| BitVec.ofInt 32 (u32.wrap (u32.wrap b * (2:Int) ^ 16))).toNat:Nat):Int)) ||| BitVec.ofInt 32 (u32.wrap (u32.wrap c * (2:Int) ^ 24))).toNat:Nat):Int)=a:=by
 have e: 0<=d/\d < 256:=by omega
 have f: 0<=x2/\x2 < 256:=by omega
 have b4: 0<=b/\b < 256:=by omega
 have g: 0<=c/\c < 256:=by omega
 rw [ma (v:=d) (by omega),ma (v:=x2) (by omega),ma (v:=b) (by omega),ma (v:=c) (by omega),A8,A6,A7];rw [ma (v:=x2 * 256) (by omega),ma (v:=b * 65536) (by omega),ma (v:=c * 16777216) (by omega)];rw [sP (y:=d) (z:=x2 * 256) (n:=8) (t:=x2.toNat) (by omega) (by rw [A8];omega) (by show x2 * 256= ((256 * x2.toNat:Nat):Int);omega) (by omega) (by omega)];rw [sP (y:=x2 * 256+d) (z:=b * 65536) (n:=16) (t:=b.toNat) (by omega) (by rw [A6];omega) (by show b * 65536= ((65536 * b.toNat:Nat):Int);omega) (by omega) (by omega)];rw [sP (y:=b * 65536+ (x2 * 256+d)) (z:=c * 16777216) (n:=24) (t:=c.toNat) (by omega) (by rw [A7];omega) (by show c * 16777216= ((16777216 * c.toNat:Nat):Int);omega) (by omega) (by omega)];omega
abbrev LS(s:Bool)(d:List Int):AV:=AV.agg [B s,AV.t (T.str (bA d))]
theorem Od(s:Bool)(d:List Int)(D:Dg d)(hl:d.length<=1000):∀(b:List Int) (i:Nat) (done:List Int),d.drop i=b->done.length=i->d=done++b->
  Or uD [r0,o1,I (d.length:Int),I (i:Int)] [ab.box [B s,AV.t (T.str (bA d))],ab.sl false 1 false (aK (done++List.replicate b.length 0))]=some [T.ae 1 false (aK d)]:=by
 intro b;induction b with
 | nil=>
  intro i done h hi c;have h1:¬(i:Int) < (d.length:Int):=by have:=bU h;omega
  refine an ?_;rw [EJ];simp only [aj,↓reduceIte,Int.reduceBEq,Int.reduceEq,GD,h1,Sx,Tw];rw [c]
 | cons a b G=>
  intro i done h hi c;obtain⟨w,H,z⟩:=bR h;have C:=D a (RN w);have h1:(i:Int) < (d.length:Int):=by omega
  have F:i64.wrap (4 * (i:Int))= ((4 * i:Nat):Int):=by rw [Go.Aev.wr (by omega)];omega
  have l:=EU d;have j:cU ((4 * i:Nat):Int) ((bA d).size:Int) ((bA d).size:Int)=some ():=sw (by omega);have g:((bA d).extract (4 * i) (bA d).size).size=4 * d.length - 4 * i:=by rw [MD _ _ _ rfl,l]
  have A:∀x y:Nat,((#[]:Array UInt8).extract 0 0++ (bA d).data.extract (4 * i) (4 * i+ ((bA d).size - 4 * i))++ (#[]:Array UInt8).extract x y).toList=fk a++eY b:=λx y=>by rw [MC _ _ _ _ _ (by show(bA d).size<=_;omega)];show(eY d).toArray.toList.drop (4 * i)=_;rw [List.toList_toArray,Dj,h,eY]
  have m:(0:Int)<=0/\(0:Int) < ((4 * d.length - 4 * i:Nat):Int):=by omega
  have n:(0:Int)<=1/\(1:Int) < ((4 * d.length - 4 * i:Nat):Int):=by omega
  have o:(0:Int)<=2/\(2:Int) < ((4 * d.length - 4 * i:Nat):Int):=by omega
  have p:(0:Int)<=3/\(3:Int) < ((4 * d.length - 4 * i:Nat):Int):=by omega
  have q:(fk a++eY b)[0]? =some (UInt8.ofNat (a.toNat % 256)):=rfl;have r:(fk a++eY b)[1]? =some (UInt8.ofNat (a.toNat / 256 % 256)):=rfl;have u:(fk a++eY b)[2]? =some (UInt8.ofNat (a.toNat / 65536 % 256)):=rfl;have v:(fk a++eY b)[3]? =some (UInt8.ofNat (a.toNat / 16777216 % 256)):=rfl;have E:=Ng C _ _ _ _ rfl rfl rfl rfl;have f: 0<=(i:Int):=by omega
  have e:(i:Int) < ((aK (done++List.replicate (a::b).length 0)).length:Int):=by rw [bc];simp;omega
  have k:bt i 0 [T.int .u32 a] (aK (done++List.replicate (a::b).length 0))=some (aK ((done++ [a])++List.replicate b.length 0)):=by have:=l0 done 0 a (List.replicate b.length 0) i hi;rw [Sr] at this;rw [Sc,Sv,this];simp
  have:=G (i+1) (done++ [a]) z (by simp [hi]) (by rw [c];simp);refine an ?_;rw [EJ];simp only [aj,↓reduceIte,Int.reduceBEq,Int.reduceEq,GD,h1,F,j,Sr,g,A,m,n,o,p,q,r,u,v,Dl (U5 _ (by decide:(0:Nat) < 256)),E,f,e,and_self,k,next i (by omega)];exact this
theorem PW(s:Bool)(d:List Int)(b:Dg d)(hl:d.length<=1000):Or (.call 85) [LS s d] []=some [T.ae 1 false (aK d)]:=by
 have a:=EU d;have c:i64.wrap (((bA d).size:Int).tdiv 4)= (d.length:Int):=by rw [a,TR (by omega),Go.Aev.wr (by omega)];omega
 have hm:bJ (d.length:Int) (d.length:Int)=some ():=by unfold bJ;rw [if_pos (by unfold eH;omega)]
 have hr:List.replicate ((d.length:Int)).toNat [T.int .u32 0]=aK (List.replicate d.length 0):=by simp [aK]
 have:=Od s d b hl d 0 [] rfl rfl rfl;refine an ?_;rw [L5];simp only [aj,↓reduceIte,Int.reduceBEq,Int.reduceEq,GD,c,hm,hr,bc,S0];exact this
theorem GC(e:Bool)(l:List Int)(hn:l.length<=1000):∀k,k<=l.length->Or tV [lu e (l.take k)] []=some [T.ae 1 e (aK (l.take (kz l k)))]
 | 0,hk=>by
  refine an ?_;rw [Eb];have a:¬((0:Nat):Int) > 0:=by omega
  simp only [aj,↓reduceIte,Int.reduceBEq,Int.reduceEq,GD,dG,bc,Uc,Sx,a,decide_false,kz]
 | k+1,hk=>by
  have h:=GC e l hn k (by omega);have a:((k+1:Nat):Int) > 0:=by omega
  have f:i64.wrap (((k+1:Nat):Int) - 1)= (k:Int):=by rw [Go.Aev.wr (by omega)];omega
  have c: 0<=(k:Int)/\(k:Int) < ((k+1:Nat):Int):=by omega
  have hi:cU 0 (k:Int) ((k+1:Nat):Int)=some ():=sw (by omega);have b:(l.take (k+1)).length=k+1:=by rw [SD];omega
  have d:(aK (l.take (k+1)))[((k:Nat):Int).toNat]? =some [T.int .u32 (aV l k)]:=by rw [cJ (by omega)];simp [aV,RO,TA]
  have g:sub 0 (k:Int) (aK (l.take (k+1)))=aK (l.take k):=by simp only [sub,aK,Sr,Int.toNat_zero,Vp,Te,<-List.map_take,Wu];rw [Wi (by omega)]
  refine an ?_;rw [Eb,kz];by_cases hz:aV l k=0
  .rw [if_pos hz];simp only [aj,↓reduceIte,Int.reduceBEq,Int.reduceEq,GD,bc,b,a,decide_true,f,c,and_self,d,hz,hi,g];exact h
  .rw [if_neg hz];simp only [aj,↓reduceIte,Int.reduceBEq,Int.reduceEq,GD,bc,b,a,decide_true,f,c,and_self,d,hz]
theorem pk(e:Bool)(l:List Int)(hn:l.length<=1000):Or (.call 86) [lu e l] []=some [T.ae 1 e (aK (dX l))]:=by have:=GC e l hn l.length (R3 _);rw [Ti] at this;refine an ?_;rw [KZ];exact this
theorem ou{l:List Int}(h:Dg l):Dg (dX l):=λa b=>h a (Td b)
theorem I9{l:List Int}{z:Int}(h:Dg l)(hv:val l= (z.natAbs:Int)):dX l=dz z:=KX (ou h) (rk l) (by rw [rl,hv])
def jR(l:List UInt8):List (List T):=l.map λb=> [T.int .u8 (b.toNat:Int)]
theorem Dp:∀l:List UInt8,bytesOf (jR l)=some l
 | []=>rfl
 | b::l=>by have h1:=Dp l;unfold jR at h1⊢;simp only [Se,bytesOf,S8,R2,z7,h1];simp
theorem w8(v:Int):u8.wrap v=v % 256:=by simp [IntKind.wrap,IntKind.signed,IntKind.bits]
theorem ML(a:Int)(h: 0<=a/\a < 4294967296): [[T.int .u8 (u8.wrap a)],[T.int .u8 (u8.wrap (a.fdiv (2 ^ 8)))],[T.int .u8 (u8.wrap (a.fdiv (2 ^ 16)))],[T.int .u8 (u8.wrap (a.fdiv (2 ^ 24)))]]=jR (fk a):=by
 have e:∀n:Nat,n < 256->((UInt8.ofNat n).toNat:Int)= (n:Int):=λn hn=>Dl hn;simp only [jR,fk,Se,T0,e _ (U5 _ (by decide:(0:Nat) < 256)),w8,A8,A6,A7];rw [SY _ (by omega),SY _ (by omega),SY _ (by omega)];have b:a % 256= ((a.toNat % 256:Nat):Int):=by omega
 have q1:a / 256 % 256= ((a.toNat / 256 % 256:Nat):Int):=by omega
 have c:a / 65536 % 256= ((a.toNat / 65536 % 256:Nat):Int):=by omega
 have d:a / 16777216 % 256= ((a.toNat / 16777216 % 256:Nat):Int):=by omega
 rw [b,q1,c,d]
theorem Oc(s s0 e j:Bool)(l:List Int)(y:ByteArray)(p:Dg l)(hl:l.length<=1000):∀(b:List Int) (i:Nat) (done:List UInt8) (c:Bool),l.drop i=b->done.length=4 * i->
  Or uA [B s,lu e l,r0,o1,lu j l,I (l.length:Int),I (i:Int)] [ab.box [B s0,AV.t (T.str y)],ab.sl false 1 c (jR done)]=some [tb (s && decide (l≠[])),T.str ⟨(done++eY b).toArray⟩]:=by
 intro b;induction b with
 | nil=>
  intro i done c h hi;have h1:¬(i:Int) < (l.length:Int):=by have:=bU h;omega
  refine an ?_;rw [EG];simp only [aj,↓reduceIte,Int.reduceBEq,Int.reduceEq,GD,h1,Dp,bc,eY,SN];cases l with
  | nil=>cases s <;> simp
  | cons a l=>cases s <;> (try simp) <;> (try omega)
 | cons a b u=>
  intro i done c h hi;obtain⟨f,k,m⟩:=bR h;have o:=p a (RN f);have h1:(i:Int) < (l.length:Int):=by omega
  have n: 0<=(i:Int):=by omega
  have r:(aK l)[((i:Nat):Int).toNat]? =some [T.int .u32 a]:=by rw [cJ k,KJ f]
  have q:=ML a o;have g:bw 1 ((jR done).length+ (jR (fk a)).length)=some ():=iD (by simp [jR,fk];omega);have d:jR done++jR (fk a)=jR (done++fk a):=by simp [jR]
  have:=u (i+1) (done++fk a) (c && false) m (by simp [fk];omega);rw [TS,Sj] at this;refine an ?_;rw [EG,eY];simp only [aj,↓reduceIte,Int.reduceBEq,Int.reduceEq,GD,h1,n,and_self,bc,r,q,g,d,next i (by omega)];exact this
def RZ(z:Int):List T:= [tb (decide (z < 0)),T.str (bA (dz z))]
abbrev LZ(z:Int):AV:=LS (decide (z < 0)) (dz z)
theorem mY(s e:Bool)(l:List Int)(a:Dg l)(hl:l.length<=1000):Or (.call 79) [B s,lu e l] []=some (RZ (if s then -val l else val l)):=by
 have f:=gy a;have d:=pk e l hl;have c:dX l=dz (if s then -val l else val l):=I9 a (by split <;> omega);have b:(dX l).length<=1000:=by
  have:(dX l).length<=l.length:=by(unfold dX;rw [SD];omega)
  omega
 have hm:bJ 0 (i64.wrap (4 * ((dX l).length:Int)))=some ():=by rw [Go.Aev.wr (by omega)];unfold bJ;rw [if_pos (by unfold eH;omega)]
 have k2:=Oc s false e e (dX l) ⟨#[]⟩ (ou a) b (dX l) 0 [] false rfl rfl;have hv:(s && decide (dX l≠[]))=decide ((if s then -val l else val l) < 0):=by
  have hz:dX l= []↔val l=0:=by rw [c,qe];split <;> omega
  cases s with
  | false=>simp;omega
  | true=>simp only [U9,if_true];refine decide_eq_decide.2 ?_;rw [ne_eq,hz];omega
 refine an ?_;rw [LV];simp only [aj,↓reduceIte,Int.reduceBEq,Int.reduceEq,GD,d,bc,hm];refine k2.trans ?_;rw [R0,hv,c];rfl
open Go Go.Aev Go.Aev.Gen Go.Aev.Wd Go.IntKind
theorem bP{v:Int}(h: -9223372036854775808<=v/\v < 9223372036854775808):i64.wrap v=v:=Go.Aev.wr h
theorem ET(d:List Int):((bA d).toList== (ByteArray.mk #[]).toList)=decide (d= []):=by
 have h1:∀s:ByteArray,s.toList=s.data.toList:=λs=>by rw [ByteArray.toList_eq]
 cases d with
 | nil=>rw [h1,h1];simp [bA,eY]
 | cons a d=>rw [h1,h1];simp [bA,eY,fk]
theorem oe(z:Int):Or (.call 72) [LZ z] []=some [ti z.sign]:=by
 refine an ?_;rw [LW,ET];by_cases a:z=0
 .subst a;rfl
 .have hn:¬dz z= []:=λh=>a (qe.1 h);rcases T9 z 0 with h | h | h
  .simp only [aj,↓reduceIte,Int.reduceBEq,Int.reduceEq,GD,hn,h,decide_true,S5 h]
  .exact absurd h a
  .have b:¬z < 0:=by omega
   simp only [aj,↓reduceIte,Int.reduceBEq,Int.reduceEq,GD,hn,b,decide_false,S6 h]
theorem xn(z:Int):Or (.call 78) [LZ z] []=some (RZ (-z)):=by
 refine an ?_;rw [LU,ET];unfold RZ;rw [sb];have:(bif !decide (z < 0) then !decide (dz z= []) else false)=decide (-z < 0):=by
  have h:=@qe z;by_cases a:z < 0
  .have:¬ -z < 0:=by omega
   rw [decide_eq_true a,decide_eq_false this];rfl
  .by_cases h1:z=0
   .subst h1;rfl
   .have b: -z < 0:=by omega
    rw [decide_eq_false a,decide_eq_false (mt h.1 h1),decide_eq_true b];rfl
 rw [this]
theorem kg(z:Int)(h:(dz z).length<=1000):Or (.call 85) [LZ z] []=some [T.ae 1 false (aK (dz z))]:=PW _ _ (cX z) h
theorem GN(a b:List Int)(h eb:Bool)(g:Dg a)(hb:Dg b)(hl:a.length=b.length)(hn:a.length<=1000):∀(k:Nat) (z:Int),z= (k:Int) - 1->k<=a.length->
  Or uC [lu h a,lu eb b,I z] []=some [ti (dC (val (a.take k)) (val (b.take k)))]
 | 0,z,hz,hk=>by
  refine an ?_;rw [EI];have h1:¬z>=0:=by omega
  simp only [aj,↓reduceIte,Int.reduceBEq,Int.reduceEq,GD,h1];simp [dC]
 | k+1,z,hz,hk=>by
  obtain rfl:z= (k:Int):=by omega
  have h1:(k:Int)>=0:=by omega
  have e: 0<=(k:Int)/\(k:Int) < (a.length:Int):=by omega
  have f:(k:Int) < (b.length:Int):=by omega
  have j:i64.wrap ((k:Int) - 1)= (k:Int) - 1:=bP (by omega);refine an ?_;rw [EI];by_cases c:aV a k < aV b k
  .have:=DH g hb (show k < a.length by omega) (by omega) c;simp only [aj,↓reduceIte,Int.reduceBEq,Int.reduceEq,GD,h1,e,f,and_self,bc,cJ (show k < a.length by omega),cJ (show k < b.length by omega),c];unfold dC;rw [if_pos this]
  .by_cases d:aV a k > aV b k
   .have:=DH hb g (show k < b.length by omega) (by omega) d;simp only [aj,↓reduceIte,Int.reduceBEq,Int.reduceEq,GD,h1,e,f,and_self,bc,cJ (show k < a.length by omega),cJ (show k < b.length by omega),c,d];unfold dC;rw [if_neg (by omega),if_neg (by omega)]
   .have i:aV a k=aV b k:=by omega
    have:=GN a b h eb g hb hl hn k ((k:Int) - 1) rfl (by omega);have hv:dC (val (a.take (k+1))) (val (b.take (k+1)))=dC (val (a.take k)) (val (b.take k)):=by rw [ru (by omega),ru (by omega),i,KE]
    rw [hv];simp only [aj,↓reduceIte,Int.reduceBEq,Int.reduceEq,GD,h1,e,f,and_self,bc,cJ (show k < a.length by omega),cJ (show k < b.length by omega),c,d,j];exact this
theorem xp(a b:List Int)(e eb:Bool)(d:Dg a)(hb:Dg b)(g:Can a)(h:Can b)(f:a.length<=1000)(j:b.length<=1000):
  Or (.call 84) [lu e a,lu eb b] []=some [ti (dC (val a) (val b))]:=by
 refine an ?_;rw [L4];by_cases hl:(a.length:Int)= (b.length:Int)
 .have:=GN a b e eb d hb (by omega) f a.length _ rfl (R3 _);rw [Ti,show b.take a.length=b from Th (by omega)] at this;have i:i64.wrap ((a.length:Int) - 1)= (a.length:Int) - 1:=bP (by omega);simp only [bc,i];simp only [aj,↓reduceIte,Int.reduceBEq,Int.reduceEq,GD,hl];rw [hl] at this;exact this
 .by_cases c:(a.length:Int) < (b.length:Int)
  .have:=wB d hb h (by omega);simp only [aj,↓reduceIte,Int.reduceBEq,Int.reduceEq,GD,bc,hl,c];unfold dC;rw [if_pos this]
  .have:=wB hb d g (by omega);simp only [aj,↓reduceIte,Int.reduceBEq,Int.reduceEq,GD,bc,hl,c];unfold dC;rw [if_neg (by omega),if_neg (by omega)]
theorem PR(x y:Int)(b:(dz x).length<=1000)(hy:(dz y).length<=1000):Or (.call 65) [LZ x,LZ y] []=some [ti (dC x y)]:=by
 have e:=oe x;have k2:=oe y;have f:=kg x b;have g:=kg y hy;have c:=xp (dz x) (dz y) false false (cX x) (cX y) (gV x) (gV y) b hy;have d:=xp (dz y) (dz x) false false (cX y) (cX x) (gV y) (gV x) hy b;rw [dr,dr] at c d;have key:(if x.sign=y.sign then(if x < 0 then dC (y.natAbs:Int) (x.natAbs:Int) else dC (x.natAbs:Int) (y.natAbs:Int)) else if x.sign < y.sign then -1 else 1)=dC x y:=by
  rcases T9 x 0 with h | h | h <;> rcases T9 y 0 with a | a | a <;>
   (first | rw [S5 h] | rw [S6 h] | rw [h,Int.sign_zero]) <;>
   (first | rw [S5 a] | rw [S6 a] | rw [a,Int.sign_zero]) <;> unfold dC <;> (repeat' split) <;> omega
 refine an ?_;rw [LH];simp only [aj,↓reduceIte,Int.reduceBEq,Int.reduceEq,GD,e,k2,f,g,c,d];rw [<-key];split
 .split <;> rfl
 .split <;> rfl
theorem m6(n:Nat)(h:n<=100000):bw 4 n=some ():=iD h
theorem mh(d:List Int)(v:Int):aK d++ [[T.int .u32 v]]=aK (d++ [v]):=by simp [aK]
theorem mj(n:Nat)(v:Int):n+ ([[T.int .u32 v]]:List (List T)).length=n+1:=by simp
theorem GG(x y:List Int)(z A:Bool)(D:Dg x)(hy:Dg y)(hl:y.length<=x.length)(hn:x.length<=1000):∀(d:List Int) (i:Nat) (c:Int) (done:List Int),x.drop i=d->done.length=i->i<=x.length->0<=c/\c<=1->
  Or pO [lu A y,o0,AV.t (T.int .u64 c),lu z x,I (x.length:Int),I (i:Int)] [ab.sl false 1 false (aK done)]=some [T.ae 1 false (aK (done++eK d (y.drop i) c))]:=by
 intro d;induction d with
 | nil=>
  intro i c done h l hi C;have G:=bU h;obtain rfl:i=x.length:=by omega
  have h1:¬(x.length:Int) < (x.length:Int):=by omega
  refine an ?_;rw [Ek];simp only [aj,↓reduceIte,Int.reduceBEq,Int.reduceEq,GD,h1,bc,ma (v:=c) (by omega),mh,mj,m6 (done.length+1) (by omega),eK]
 | cons a d u=>
  intro i c done h l hi C;obtain⟨B,m,n⟩:=bR h;have h1:(i:Int) < (x.length:Int):=by omega
  have o: 0<=(i:Int):=by omega
  have J:=D a (RN B);have j:=kL h;refine an ?_;rw [Ek];cases g:y.drop i with
  | nil=>
   have H:=bU g;have k:¬(i:Int) < (y.length:Int):=by omega
   have e:u64.wrap a=a:=bN (by omega);have f:u64.wrap (c+a)=c+a:=bN (by omega);have s:y.drop (i+1)= []:=by simp;omega
   have:=u (i+1) ((c+a) / 4294967296) (done++ [(c+a) % 4294967296]) n (by simp [l]) (by omega) (by omega);rw [s,show done++ [(c+a) % 4294967296] ++eK d [] ((c+a) / 4294967296)=done++eK (a::d) [] c from by simp [eK]] at this;simp only [aj,↓reduceIte,Int.reduceBEq,Int.reduceEq,GD,h1,o,and_self,bc,cJ m,j,k,e,f,eC,mE,mh,mj,m6 (done.length+1) (by omega),next i (by omega)];exact this
  | cons b w=>
   obtain⟨E,k2,F⟩:=bR g;have hb:=hy b (RN E);have p:=kL g;have k:(i:Int) < (y.length:Int):=by omega
   have e:u64.wrap a=a:=bN (by omega);have f:u64.wrap (c+a)=c+a:=bN (by omega);have q:u64.wrap b=b:=bN (by omega);have r:u64.wrap (c+a+b)=c+a+b:=bN (by omega);have:=u (i+1) ((c+a+b) / 4294967296) (done++ [(c+a+b) % 4294967296]) n (by simp [l]) (by omega) (by omega);rw [F,show done++ [(c+a+b) % 4294967296] ++eK d w ((c+a+b) / 4294967296)=done++eK (a::d) (b::w) c from by simp [eK]] at this;simp only [aj,↓reduceIte,Int.reduceBEq,Int.reduceEq,GD,h1,o,and_self,bc,cJ m,cJ k2,j,p,k,e,f,q,r,eC,mE,mh,mj,m6 (done.length+1) (by omega),next i (by omega)];exact this
theorem PD(x y:List Int)(c e:Bool)(b:Dg x)(hy:Dg y)(g:x.length<=900)(h:y.length<=900):∃d,Or (.call 98) [lu c x,lu e y] []=some [T.ae 1 false (aK d)]/\Dg d/\val d=val x+val y/\d.length<=max x.length y.length+1:=by
 by_cases hl:(x.length:Int) < (y.length:Int)
 .have h1:=GG y x e c hy b (by omega) (by omega) y 0 0 [] rfl rfl (by omega) (by omega);refine⟨eK y x 0,an ?_,xA hy b (by omega),by rw [xC (by omega)];omega,by rw [xB];omega⟩;have f:i64.wrap ((y.length:Int)+1)= ((y.length+1:Nat):Int):=next y.length (by omega);have a:bJ 0 ((y.length+1:Nat):Int)=some ():=by unfold bJ eH;rw [if_pos (by omega)]
  rw [Ej];simp only [aj,↓reduceIte,Int.reduceBEq,Int.reduceEq,GD,bc,hl,f,a];exact h1
 .have h1:=GG x y c e b hy (by omega) (by omega) x 0 0 [] rfl rfl (by omega) (by omega);refine⟨eK x y 0,an ?_,xA b hy (by omega),by rw [xC (by omega)];omega,by rw [xB];omega⟩;have f:i64.wrap ((x.length:Int)+1)= ((x.length+1:Nat):Int):=next x.length (by omega);have a:bJ 0 ((x.length+1:Nat):Int)=some ():=by unfold bJ eH;rw [if_pos (by omega)]
  rw [Ej];simp only [aj,↓reduceIte,Int.reduceBEq,Int.reduceEq,GD,bc,hl,f,a];exact h1
theorem NV(x y:List Int)(v w:Bool)(B:Dg x)(hy:Dg y)(hn:x.length<=1000):∀(d:List Int) (i:Nat) (c:Int) (done:List Int),x.drop i=d->done.length=i->0<=c/\c<=1->
  Or oI [lu w y,o0,I c,lu v x,I (x.length:Int),I (i:Int)] [ab.sl false 1 false (aK done)]=some [T.ae 1 false (aK (done++eS d (y.drop i) c))]:=by
 intro d;induction d with
 | nil=>
  intro i c done h q A;have E:=bU h;have h1:¬(i:Int) < (x.length:Int):=by omega
  refine an ?_;rw [El];simp only [aj,↓reduceIte,Int.reduceBEq,Int.reduceEq,GD,h1];simp [eS]
 | cons a d t=>
  intro i c done h q A;obtain⟨z,l,r⟩:=bR h;have h1:(i:Int) < (x.length:Int):=by omega
  have m: 0<=(i:Int):=by omega
  have G:=B a (RN z);have e:=kL h;have f:i64.wrap a=a:=bP (by omega);have g:i64.wrap (a - c)=a - c:=bP (by omega);refine an ?_;rw [El];cases k:y.drop i with
  | nil=>
   have F:=bU k;have j:¬(i:Int) < (y.length:Int):=by omega
   have s:y.drop (i+1)= []:=by simp;omega
   have:=t (i+1) (cm (a - c)) (done++ [(a - c) % 4294967296]) r (by simp [q]) (by unfold cm;split <;> omega);rw [s,show done++ [(a - c) % 4294967296] ++eS d [] (cm (a - c))=done++eS (a::d) [] c from by simp [eS]] at this;by_cases hn:a - c < 0
   .have hv:u32.wrap (i64.wrap (a - c+4294967296))= (a - c) % 4294967296:=by rw [eC,bP (by omega)];omega
    unfold cm at this;rw [if_pos hn] at this;simp only [aj,↓reduceIte,Int.reduceBEq,Int.reduceEq,GD,h1,m,and_self,bc,cJ l,e,j,f,g,hn,hv,mh,mj,m6 (done.length+1) (by omega),next i (by omega)];exact this
   .have hv:u32.wrap (a - c)= (a - c) % 4294967296:=eC _;unfold cm at this;rw [if_neg hn] at this;simp only [aj,↓reduceIte,Int.reduceBEq,Int.reduceEq,GD,h1,m,and_self,bc,cJ l,e,j,f,g,hn,hv,mh,mj,m6 (done.length+1) (by omega),next i (by omega)];exact this
  | cons b u=>
   obtain⟨C,k2,D⟩:=bR k;have hb:=hy b (RN C);have n:=kL k;have j:(i:Int) < (y.length:Int):=by omega
   have o:i64.wrap b=b:=bP (by omega);have p:i64.wrap (a - c - b)=a - c - b:=bP (by omega);have:=t (i+1) (cm (a - c - b)) (done++ [(a - c - b) % 4294967296]) r (by simp [q]) (by unfold cm;split <;> omega);rw [D,show done++ [(a - c - b) % 4294967296] ++eS d u (cm (a - c - b))=done++eS (a::d) (b::u) c from by simp [eS]] at this;by_cases hn:a - c - b < 0
   .have hv:u32.wrap (i64.wrap (a - c - b+4294967296))= (a - c - b) % 4294967296:=by rw [eC,bP (by omega)];omega
    unfold cm at this;rw [if_pos hn] at this;simp only [aj,↓reduceIte,Int.reduceBEq,Int.reduceEq,GD,h1,m,and_self,bc,cJ l,cJ k2,e,n,j,f,g,o,p,hn,hv,mh,mj,m6 (done.length+1) (by omega),next i (by omega)];exact this
   .have hv:u32.wrap (a - c - b)= (a - c - b) % 4294967296:=eC _;unfold cm at this;rw [if_neg hn] at this;simp only [aj,↓reduceIte,Int.reduceBEq,Int.reduceEq,GD,h1,m,and_self,bc,cJ l,cJ k2,e,n,j,f,g,o,p,hn,hv,mh,mj,m6 (done.length+1) (by omega),next i (by omega)];exact this
theorem Ib(x y:List Int)(a b:Bool)(e:Dg x)(hy:Dg y)(hl:y.length<=x.length)(hv:val y<=val x)(hn:x.length<=900):∃d,Or (.call 99) [lu a x,lu b y] []=some [T.ae 1 false (aK d)]/\Dg d/\val d=val x - val y/\d.length=x.length:=by
 have h1:=NV x y a b e hy (by omega) x 0 0 [] rfl rfl (by omega);refine⟨eS x y 0,an ?_,Al,by rw [Ao e hy hl (by omega) (by omega)];omega,Am⟩;have c:bJ 0 (x.length:Int)=some ():=by unfold bJ eH;rw [if_pos (by omega)]
 rw [Lb];simp only [aj,↓reduceIte,Int.reduceBEq,Int.reduceEq,GD,bc,c];exact h1
theorem vC{x y:Int}(h:y.natAbs<=x.natAbs):(dz y).length<=(dz x).length:=by
 rcases UG (dz x).length (dz y).length with h1 | h1
 .have:=wB (cX x) (cX y) (gV y) h1;rw [dr,dr] at this;omega
 .exact h1
theorem Px(x y:Int)(k:(dz x).length<=900)(hy:(dz y).length<=900):Or (.call 88) [LZ x,LZ y] []=some (RZ (x+y)):=by
 have h:=kg x (by omega);have k2:=kg y (by omega);refine an ?_;rw [K1];by_cases hs:decide (x < 0)=decide (y < 0)
 .obtain⟨d,c,e,f,i⟩:=PD (dz x) (dz y) false false (cX x) (cX y) k hy;have a:=mY (decide (x < 0)) false d e (by omega);have hb:(decide (x < 0)==decide (y < 0))=true:=by simpa using hs
  have hv:(if decide (x < 0)=true then -val d else val d)=x+y:=by
   rw [f,dr,dr];simp only [decide_eq_true_eq];have j:x < 0↔y < 0:=by simpa using hs
   split <;> omega
  rw [hv] at a;unfold RZ at a;simp only [aj,↓reduceIte,Int.reduceBEq,Int.reduceEq,GD,h,k2,hb,c,a];rfl
 .have hb:(decide (x < 0)==decide (y < 0))=false:=by simpa using hs
  have j:¬(x < 0↔y < 0):=by simpa using hs
  have a:=xp (dz x) (dz y) false false (cX x) (cX y) (gV x) (gV y) (by omega) (by omega);rw [dr,dr] at a;by_cases l:(y.natAbs:Int)<=(x.natAbs:Int)
  .have g:dC (x.natAbs:Int) (y.natAbs:Int)>=0:=by unfold dC;rw [if_neg (by omega)];split <;> omega
   obtain⟨d,c,e,f,i⟩:=Ib (dz x) (dz y) false false (cX x) (cX y) (vC (by omega)) (by rw [dr,dr];exact l) k;have b:=mY (decide (x < 0)) false d e (by omega);have hv:(if decide (x < 0)=true then -val d else val d)=x+y:=by rw [f,dr,dr];simp only [decide_eq_true_eq];split <;> omega
   rw [hv] at b;unfold RZ at b;simp only [aj,↓reduceIte,Int.reduceBEq,Int.reduceEq,GD,h,k2,hb,a,g,c,b];rfl
  .have g:¬dC (x.natAbs:Int) (y.natAbs:Int)>=0:=by unfold dC;rw [if_pos (by omega)];omega
   obtain⟨d,c,e,f,i⟩:=Ib (dz y) (dz x) false false (cX y) (cX x) (vC (by omega)) (by rw [dr,dr];omega) hy;have b:=mY (decide (y < 0)) false d e (by omega);have hv:(if decide (y < 0)=true then -val d else val d)=x+y:=by rw [f,dr,dr];simp only [decide_eq_true_eq];split <;> omega
   rw [hv] at b;unfold RZ at b;simp only [aj,↓reduceIte,Int.reduceBEq,Int.reduceEq,GD,h,k2,hb,a,g,c,b];rfl
theorem uM:∀n,n < 256->∃u,L8[n]? =some u/\u.toNat<=8/\n < 2 ^ u.toNat/\(n≠0->2 ^ u.toNat<=2 * n):=by
 have:∀n,n < 256->(match L8[n]? with | some u=>decide (u.toNat<=8/\n < 2 ^ u.toNat/\(n≠0->2 ^ u.toNat<=2 * n)) | none=>false)=true:=by decide+kernel
 intro n hn;have h:=this n hn;cases a:L8[n]? with
 | none=>rw [a] at h;cases h
 | some u=>rw [a] at h;exact⟨u,rfl,of_decide_eq_true h⟩
set_option maxRecDepth 100000 in
theorem Ic(a:Int)(F: 0<=a/\a < 4294967296):∃n:Nat,Or (.call 100) [AV.t (T.int .u32 a)] []=some [ti (n:Int)]/\n<=32/\a < 2 ^ n/\(a≠0->(2:Int) ^ n<=2 * a):=by
 have l:(2:Int) ^ 8=256:=by decide
 have d:(2:Int) ^ 16=65536:=by decide
 have m:∀v:Int,v.fdiv 256=v / 256:=λv=>SY _ (by omega);have g:∀v:Int,v.fdiv 65536=v / 65536:=λv=>SY _ (by omega)
 have i:∀(k:Nat) (n:Nat) (u:UInt8),k<=24->n < 256->(n:Int)=a / 2 ^ k->(k≠0->n≠0)->u.toNat<=8/\n < 2 ^ u.toNat/\(n≠0->2 ^ u.toNat<=2 * n)->
   (k+u.toNat)<=32/\a < (2:Int) ^ (k+u.toNat)/\(a≠0->(2:Int) ^ (k+u.toNat)<=2 * a):=by
  intro k n u hk hn p y h;have q:=kW k;obtain⟨h1,E,A⟩:=h;have r:(n:Int)+1<=(2:Int) ^ u.toNat:=by rw [qP];omega
  have B:a < (2:Int) ^ k * ((n:Int)+1):=by rw [p];have:=Int.lt_mul_ediv_self_add (x:=a) q;rw [Sk,Vb];exact this
  have C:(2:Int) ^ k * (n:Int)<=a:=by rw [p];exact Int.mul_ediv_self_le (by omega)
  refine⟨by omega, ?_,λD=> ?_⟩
  .rw [Vc];have:=R1 r (Tf q);omega
  .have w:n≠0:=by
    rcases Ul k with o | o
    .subst o;rw [Vk,Int.ediv_one] at p;omega
    .exact y (by omega)
   have s:(2:Int) ^ u.toNat<=2 * (n:Int):=by rw [qP];have:=A w;omega
   rw [Vc];have:=R1 s (Tf q);rw [SC] at this;omega
 by_cases j:a>=65536
 .by_cases c:a / 65536>=256
  .have hn:(a / 65536 / 256).toNat < 256:=by omega
   obtain⟨u,f,u2⟩:=uM _ hn;have e:u8.wrap (a / 65536 / 256)=a / 65536 / 256:=by rw [w8];omega
   have hr: 0<=a / 65536 / 256/\a / 65536 / 256 < 256:=by omega
   have b:i64.wrap (i64.wrap (16+8)+i64.wrap (u.toNat:Int))= ((24+u.toNat:Nat):Int):=by rw [bP (v:=16+8) (by omega),bP (v:=(u.toNat:Int)) (by omega),bP (by omega)];omega
   refine⟨24+u.toNat,an ?_,i 24 _ u (by omega) hn (by rw [show((2:Int) ^ 24)=16777216 from by decide];omega) (λ_=>by omega) u2⟩;rw [vF];simp only [aj,↓reduceIte,Int.reduceBEq,Int.reduceEq,GD,j,l,d,m,g,c,e,hr,and_self,f,b]
  .have hn:(a / 65536).toNat < 256:=by omega
   obtain⟨u,f,u2⟩:=uM _ hn;have e:u8.wrap (a / 65536)=a / 65536:=by rw [w8];omega
   have hr: 0<=a / 65536/\a / 65536 < 256:=by omega
   have b:i64.wrap (16+i64.wrap (u.toNat:Int))= ((16+u.toNat:Nat):Int):=by rw [bP (v:=(u.toNat:Int)) (by omega),bP (by omega)];omega
   refine⟨16+u.toNat,an ?_,i 16 _ u (by omega) hn (by rw [d];omega) (λ_=>by omega) u2⟩;rw [vF];simp only [aj,↓reduceIte,Int.reduceBEq,Int.reduceEq,GD,j,l,d,m,g,c,e,hr,and_self,f,b]
 .by_cases c:a>=256
  .have hn:(a / 256).toNat < 256:=by omega
   obtain⟨u,f,u2⟩:=uM _ hn;have e:u8.wrap (a / 256)=a / 256:=by rw [w8];omega
   have hr: 0<=a / 256/\a / 256 < 256:=by omega
   have b:i64.wrap (i64.wrap (0+8)+i64.wrap (u.toNat:Int))= ((8+u.toNat:Nat):Int):=by rw [bP (v:=0+8) (by omega),bP (v:=(u.toNat:Int)) (by omega),bP (by omega)];omega
   refine⟨8+u.toNat,an ?_,i 8 _ u (by omega) hn (by rw [l];omega) (λ_=>by omega) u2⟩;rw [vF];simp only [aj,↓reduceIte,Int.reduceBEq,Int.reduceEq,GD,j,l,d,m,g,c,e,hr,and_self,f,b]
  .have hn:a.toNat < 256:=by omega
   obtain⟨u,f,u2⟩:=uM _ hn;have e:u8.wrap a=a:=by rw [w8];omega
   have hr: 0<=a/\a < 256:=by omega
   have b:i64.wrap (i64.wrap (u.toNat:Int))= ((0+u.toNat:Nat):Int):=by rw [bP (v:=(u.toNat:Int)) (by omega),bP (by omega)];omega
   have z:i64.wrap (0+i64.wrap (u.toNat:Int))= ((0+u.toNat:Nat):Int):=by rw [bP (v:=(u.toNat:Int)) (by omega),bP (by omega)];omega
   refine⟨0+u.toNat,an ?_,i 0 _ u (by omega) hn (by rw [Vk];omega) (λh=>absurd rfl h) u2⟩;rw [vF];simp only [aj,↓reduceIte,Int.reduceBEq,Int.reduceEq,GD,j,l,d,m,g,c,e,hr,and_self,f,b,z]
open Go Go.Aev Go.Aev.Gen Go.Aev.Wd Go.IntKind
theorem Bs(z:Int)(h:(dz z).length<=900):∃m:Int,Or (.call 91) [LZ z] []=some [ti m]/\0<=m/\m<=32 * ((dz z).length:Int):=by
 have d:=kg z (by omega);by_cases i:(dz z).length=0
 .refine⟨0,an ?_,by omega,by omega⟩;rw [Ee];have a:((dz z).length:Int)=0:=by omega
  simp only [aj,↓reduceIte,Int.reduceBEq,Int.reduceEq,GD,d,bc,a]
 .have a:¬((dz z).length:Int)=0:=by omega
  have f:i64.wrap (((dz z).length:Int) - 1)= (((dz z).length - 1:Nat):Int):=by rw [bP (by omega)];omega
  have hr: 0<=(((dz z).length - 1:Nat):Int)/\(((dz z).length - 1:Nat):Int) < ((dz z).length:Int):=by omega
  have b:(dz z).length - 1 < (dz z).length:=by omega
  have e:=cX z (aV (dz z) ((dz z).length - 1)) (by
   have:(dz z)[(dz z).length - 1]? =some (aV (dz z) ((dz z).length - 1)):=by rw [RR b];simp [aV,RO,b]
   exact RN this)
  obtain⟨n,g,j,_,_⟩:=Ic _ e;have c:i64.wrap (32 * (((dz z).length - 1:Nat):Int))=32 * (((dz z).length - 1:Nat):Int):=bP (by omega);refine⟨32 * (((dz z).length - 1:Nat):Int)+ (n:Int),an ?_,by omega,by omega⟩;rw [Ee];simp only [aj,↓reduceIte,Int.reduceBEq,Int.reduceEq,GD,d,bc,a,f,hr,and_self,cJ b,g,c,bP (v:=32 * (((dz z).length - 1:Nat):Int)+ (n:Int)) (by omega)]
theorem H9(z:Int)(h:(dz z).length<=900):Or (.call 90) [LZ z] []=some [tb (decide (z < 0)),T.str (bA (dz z)),ti 0]:=by
 obtain⟨m,a,b,c⟩:=Bs z h;have h1:¬m > 131072:=by omega
 refine an ?_;rw [K2];simp only [aj,↓reduceIte,Int.reduceBEq,Int.reduceEq,GD,a,h1]
theorem PU(x y:Int)(b:(dz x).length<=900)(hy:(dz y).length<=900)(hz:(dz (x+y)).length<=900):Or (.call 82) [LZ x,LZ y] []=some [tb (decide (x+y < 0)),T.str (bA (dz (x+y))),ti 0]:=by have a:=Px x y b hy;have k2:=H9 (x+y) hz;unfold RZ at a;refine an ?_;rw [L0];simp only [aj,↓reduceIte,Int.reduceBEq,Int.reduceEq,GD,a,k2]
theorem NR(q s u:Bool)(x y:List Int)(a:Int)(E: 0<=a/\a < 4294967296)(hy:Dg y)(i:Nat)(hi:i<=1000)(U:y.length<=1000)(R:List T):∀(l:List Int) (j:Nat) (c:Int) (e f:List Int),y.drop j=l->j<=y.length->e.length=i+j->l.length < f.length->Dg f->0<=c/\c < 4294967296->
  Or rC [lu s y,o0,lu q x,I (x.length:Int),I ((i+1:Nat):Int)] [ab.sl false 1 false (aK (e++gH a l f c))]=some R->
  Or tY [lu s y,o0,I (i:Int),AV.t (T.int .u32 a),AV.t (T.int .u64 c),lu q x,I (x.length:Int),I (i:Int),lu u y,I (y.length:Int),I (j:Int)] [ab.sl false 1 false (aK (e++f))]=some R:=by
 intro l;induction l with
 | nil=>
  intro j c e f h H m hm g F k;have S:=bU h;obtain rfl:j=y.length:=by omega
  match f,hm with
  | o::r,_=>
   have h1:¬(y.length:Int) < (y.length:Int):=by omega
   have p:i64.wrap ((i:Int)+ (y.length:Int))= ((i+y.length:Nat):Int):=by rw [bP (by omega)];omega
   have n: 0<=((i+y.length:Nat):Int)/\((i+y.length:Nat):Int) < ((e++o::r).length:Int):=by simp;omega
   have hs:=zC (d:=e++o::r) (i:=i+y.length) (by simp;omega) c;rw [po e o c r _ m] at hs;have z:u32.wrap c=c:=by rw [eC];omega
   refine an ?_;rw [Eg];simp only [aj,↓reduceIte,Int.reduceBEq,Int.reduceEq,GD,h1,bc,p,n,and_self,z,hs,next i (by omega)];exact k
 | cons b l J=>
  intro j c e f h H m hm g F k;obtain⟨A,B,C⟩:=bR h;have hb:=hy b (RN A);have w:=kL h
  match f,hm,g,k with
  | o::r,hm,g,k=>
   have V:=g o RL;have Q:=pa E hb;have h1:(j:Int) < (y.length:Int):=by omega
   have D: 0<=(j:Int):=by omega
   have p:i64.wrap ((i:Int)+ (j:Int))= ((i+j:Nat):Int):=by rw [bP (by omega)];omega
   have n: 0<=((i+j:Nat):Int)/\((i+j:Nat):Int) < ((e++o::r).length:Int):=by simp;omega
   have G:(aK (e++o::r))[((i+j:Nat):Int).toNat]? =some [T.int .u32 o]:=by rw [cJ (by simp;omega),vf e o r _ m]
   have hs:∀v,bt ((i+j:Nat):Int).toNat 0 [T.int .u32 v] (aK (e++o::r))=some (aK ((e++ [v])++r)):=λv=>by rw [zC (by simp;omega),po e o v r _ m];simp
   have K:u64.wrap a=a:=bN (by omega);have L:u64.wrap b=b:=bN (by omega);have M:u64.wrap o=o:=bN (by omega);have N:u64.wrap (a * b)=a * b:=bN (by omega);have O:u64.wrap (a * b+o)=a * b+o:=bN (by omega);have P:u64.wrap (c+ (a * b+o))=c+a * b+o:=by rw [bN (by omega)];omega
   have:=J (j+1) ((c+a * b+o) / 4294967296) (e++ [(c+a * b+o) % 4294967296]) r C (by omega) (by simp;omega) (by simpa using hm) g.tail (by omega) (by
    rw [gH] at k;rw [Sj];exact k)
   refine an ?_;rw [Eg];simp only [aj,↓reduceIte,Int.reduceBEq,Int.reduceEq,GD,h1,D,and_self,bc,cJ B,w,p,n,G,K,L,M,N,O,P,eC,hs,mE,next j (by omega)];exact this
theorem NP(z s:Bool)(x y:List Int)(N:Dg x)(hy:Dg y)(U:x.length<=400)(V:y.length<=400):∀(e:List Int) (i:Nat) (f b:List Int),x.drop i=e->i<=x.length->f.length=i->b.length=y.length->Dg f->Dg b->
  ∃d,Or rC [lu s y,o0,lu z x,I (x.length:Int),I (i:Int)] [ab.sl false 1 false (aK (f++ (b++List.replicate e.length 0)))]=some [T.ae 1 false (aK d)]/\
   Dg d/\d.length=x.length+y.length/\val d=val (f++b)+4294967296 ^ i * (val e * val y):=by
 intro e;induction e with
 | nil=>
  intro i f b h hi m g l j;have S:=bU h;have h1:¬(i:Int) < (x.length:Int):=by omega
  have w:(f++b).length=x.length+y.length:=by simp;omega
  refine⟨f++b,an ?_,λu hu=> ?_,w,by simp [val]⟩
  .rw [Ef];simp only [Sx,Tw,SN];simp only [aj,↓reduceIte,Int.reduceBEq,Int.reduceEq,GD,h1]
  .rcases RX.1 hu with hu | hu
   .exact l u hu
   .exact j u hu
 | cons a e O=>
  intro i f b h hi m g l j;obtain⟨J,K,L⟩:=bR h;have v:=N a (RN J);have B:=kL h;have h1:(i:Int) < (x.length:Int):=by omega
  have M: 0<=(i:Int):=by omega
  have A:Dg (b++ [0]):=λu hu=>by
   rcases RX.1 hu with hu | hu
   .exact j u hu
   .simp only [RP] at hu;subst hu;omega
  have F:=Gx v (y:=y) (o:=b) (r:= []) (c:=0) g.symm;have p:=Gv (a:=a) (y:=y) (o:=b++ [0]) (c:=0);have n:=Gu v (y:=y) (o:=b++ [0]) (c:=0) hy A (by omega);have E:=Gw (a:=a) (y:=y) (o:=b) (r:=List.replicate e.length 0) (q:=0) (c:=0) g.symm;have C:Dg (b++List.replicate (a::e).length 0):=λu hu=>by
   rcases RX.1 hu with hu | hu
   .exact j u hu
   .have:=T1 hu;omega
  generalize gH a y (b++ [0]) 0=res at *
  cases res with
  | nil=>simp at p
  | cons k t=>
   simp only [Sc,SI,Sx] at p;obtain⟨d,P,k2,Q,R⟩:=O (i+1) (f++ [k]) t L (by omega) (by simp [m]) (by omega) (λu hu=>by
    rcases RX.1 hu with hu | hu
    .exact l u hu
    .simp only [RP] at hu;subst hu;exact n u RL) n.tail
   have D:=NR z s s x y a v hy i (by omega) (by omega) _ y 0 0 f (b++List.replicate (a::e).length 0) rfl (by omega) (by omega) (by simp;omega) C (by omega) (by
    rw [show b++List.replicate (a::e).length 0=b++0::List.replicate e.length 0 from rfl,E];rw [show f++ (k::t++List.replicate e.length 0)=f++ [k] ++ (t++List.replicate e.length 0) from by simp];exact P)
   refine⟨d,an ?_,k2,Q, ?_⟩
   .rw [Ef];simp only [aj,↓reduceIte,Int.reduceBEq,Int.reduceEq,GD,h1,M,and_self,bc,cJ K,B];exact D
   .rw [R];have G:f++ [k] ++t=f++k::t:=by simp
    have H:val (b++ [0])=val b:=by rw [gL];simp [val]
    have e3:(4294967296:Int) ^ i * ((a+4294967296 * val e) * val y)=4294967296 ^ i * (a * val y)+4294967296 ^ i * 4294967296 * (val e * val y):=by rw [UT,Sk];simp only [SQ]
    rw [G,gL,gL,m,F,H,Um];simp only [val];rw [e3,Int.zero_add,Sk];omega
theorem Py(b c:Bool)(x y:List Int)(k:Dg x)(hy:Dg y)(f:x.length<=400)(g:y.length<=400):∃d,Or (.call 92) [lu b x,lu c y] []=some [T.ae 1 false (aK d)]/\Dg d/\d.length=x.length+y.length/\val d=val x * val y:=by
 obtain⟨d,h,k2,l,m⟩:=NP b c x y k hy f g x 0 [] (List.replicate y.length 0) rfl (by omega) rfl (by simp) (λu a=>by cases a) (λu a=>by
  have:=T1 a;omega)
 have j:i64.wrap ((x.length:Int)+ (y.length:Int))= ((y.length+x.length:Nat):Int):=by rw [bP (by omega)];omega
 have e:bJ ((y.length+x.length:Nat):Int) ((y.length+x.length:Nat):Int)=some ():=by unfold bJ eH;rw [if_pos (by omega)]
 have i:aK ([] ++ (List.replicate y.length 0++List.replicate x.length 0))=List.replicate (y.length+x.length) [T.int u32 0]:=by rw [R0,List.replicate_append_replicate];simp [aK]
 rw [i] at h;refine⟨d,an ?_,k2,l,by rw [m,R0,Jx];simp⟩;rw [K3];simp only [bc,j];simp only [aj,↓reduceIte,Int.reduceBEq,Int.reduceEq,GD,e,Sr];exact h
theorem PV(x y:Int)(z:(dz x).length<=300)(hy:(dz y).length<=300):Or (.call 83) [LZ x,LZ y] []=some [tb (decide (x * y < 0)),T.str (bA (dz (x * y))),ti 0]:=by
 obtain⟨m,i,r,s⟩:=Bs x (by omega);obtain⟨n,j,t,u⟩:=Bs y (by omega);have h:¬m+n > 131073:=by omega
 have p:=kg x (by omega);have k2:=kg y (by omega);obtain⟨d,l,f,w,g⟩:=Py false false (dz x) (dz y) (cX x) (cX y) (by omega) (by omega);have e:=mY (!decide (x < 0)==decide (y < 0)) false d f (by omega);have hv:(if(!decide (x < 0)==decide (y < 0))=true then -val d else val d)=x * y:=by
  rw [g,dr,dr,<-UO,<-Ss];have c:∀a b:Int,0<=a->0<=b->0<=a * b:=λa b=>S3;by_cases h1:x < 0 <;> by_cases o:y < 0 <;> simp only [h1,o,decide_true,decide_false]
  .have:=c (-x) (-y) (by omega) (by omega);rw [Int.neg_mul_neg] at this;simp;omega
  .have:=c (-x) y (by omega) (by omega);rw [Wp] at this;simp;omega
  .have:=c x (-y) (by omega) (by omega);rw [Int.mul_neg] at this;simp;omega
  .have:=c x y (by omega) (by omega);simp;omega
 rw [hv] at e;have hz:(dz (x * y)).length<=900:=by refine Sh (vD (k:=d.length) ?_) (by omega);have:=jD f;rw [g,dr,dr,<-UO,<-Ss] at this;exact this
 have q:=H9 (x * y) hz;unfold RZ at e;refine an ?_;rw [L3];simp only [aj,↓reduceIte,Int.reduceBEq,Int.reduceEq,GD,i,j,bP (v:=m+n) (by omega),h,p,k2,l,e,q]
theorem th(x:Int)(h: -9223372036854775808<=x/\x < 9223372036854775808):Or (.call 60) [I x] []=some (RZ x):=by
 refine an ?_;rw [LC];by_cases hn:x < 0
 .have f:u64.wrap (0 - u64.wrap x)= -x:=by simp only [pA];omega
  have c:Dg [(-x) % 4294967296,(-x) / 4294967296]:=λu e=>by simp only [RV,Wc,or_false] at e;omega
  have hv:val [(-x) % 4294967296,(-x) / 4294967296]= -x:=by simp only [val];omega
  have k:=mY true false _ c (by simp);rw [hv,if_pos rfl,Int.neg_neg] at k;have d:aK [(-x) % 4294967296,(-x) / 4294967296]= [[T.int .u32 ((-x) % 4294967296)],[T.int .u32 ((-x) / 4294967296)]]:=rfl;simp only [lu,d] at k;unfold RZ at k;have b:u32.wrap ((-x) / 4294967296)= (-x) / 4294967296:=ma (by omega);have a:decide (x < 0)=true:=decide_eq_true hn;rw [a];simp only [aj,↓reduceIte,Int.reduceBEq,Int.reduceEq,GD,f,mE,eC (-x),b,k];rfl
 .have f:u64.wrap x=x:=bN (by omega);have c:Dg [x % 4294967296,x / 4294967296]:=λu e=>by
   simp only [RV,Wc,or_false] at e;omega
  have hv:val [x % 4294967296,x / 4294967296]=x:=by simp only [val];omega
  have k:=mY false false _ c (by simp);rw [hv] at k;have d:aK [x % 4294967296,x / 4294967296]= [[T.int .u32 (x % 4294967296)],[T.int .u32 (x / 4294967296)]]:=rfl;simp only [lu,d] at k;unfold RZ at k;have b:u32.wrap (x / 4294967296)=x / 4294967296:=ma (by omega);have a:decide (x < 0)=false:=decide_eq_false hn;simp only [R9,↓reduceIte] at k;rw [a];simp only [aj,↓reduceIte,Int.reduceBEq,Int.reduceEq,GD,f,mE,eC x,b,k];unfold RZ;rfl
theorem OB{v n:Int}(hv: 0<=v/\v < 4294967296)(hn: 0<=n/\n < 4294967296):
  u64.wrap (((BitVec.ofInt 64 n ||| BitVec.ofInt 64 (u64.wrap (v * (2:Int) ^ 32))).toNat:Nat):Int)=v * 4294967296+n:=by
 have h:=sQ hv hn;rw [BitVec.or_comm,bN (v:=n) (by omega)] at h;exact h
theorem Hk{n:Int}(hn: 0<=n/\n < 4294967296):u64.wrap (((BitVec.ofInt 64 0 ||| BitVec.ofInt 64 n).toNat:Nat):Int)=n:=by have h:=sQ (v:=0) (n:=n) (by omega) hn;rw [Int.zero_mul,bN (v:=0) (by omega),bN (v:=n) (by omega),Int.zero_mul,Int.zero_add] at h;exact h
theorem zy(u:Int)(s:Bool)(d:List Int)(x:ByteArray)(f: 0<=u/\u < 18446744073709551616)(i:Nat)(hi:i=d.length)(e:Bool):
  Or pR [r0,AV.t (T.int .u64 u),lu e d,I (d.length:Int),I (i:Int)] [ab.box [B s,AV.t (T.str x)]]=
   some (if -9223372036854775808<=(if s then -u else u)/\(if s then -u else u) < 9223372036854775808 then [ti (if s then -u else u),tb true] else [ti 0,tb false]):=by
 subst hi;refine an ?_;rw [vJ];have h1:¬(d.length:Int) < (d.length:Int):=by omega
 cases s with
 | true=>
  by_cases b:u<=9223372036854775808
  .have c:i64.wrap (0 - i64.wrap u)= -u:=by
    simp only [IntKind.wrap,IntKind.signed,IntKind.bits];simp;omega
   have a: -9223372036854775808<= -u/\ -u < 9223372036854775808:=by omega
   simp only [aj,↓reduceIte,Int.reduceBEq,Int.reduceEq,GD,h1,b,c,decide_true,a,and_self]
  .have a:¬(-9223372036854775808<= -u/\ -u < 9223372036854775808):=by omega
   simp only [aj,↓reduceIte,Int.reduceBEq,Int.reduceEq,GD,h1,b,decide_false,a]
 | false=>
  by_cases b:u < 9223372036854775808
  .have c:i64.wrap u=u:=bP (by omega);have a: -9223372036854775808<=u/\u < 9223372036854775808:=by omega
   simp only [aj,↓reduceIte,Int.reduceBEq,Int.reduceEq,GD,h1,b,c,decide_true,R9,a,and_self]
  .have a:¬(-9223372036854775808<=u/\u < 9223372036854775808):=by omega
   simp only [aj,↓reduceIte,Int.reduceBEq,Int.reduceEq,GD,h1,b,decide_false,R9,a,and_false]
theorem Ii(z:Int)(h:(dz z).length<=900):Or (.call 66) [LZ z] []=some (if -9223372036854775808<=z/\z < 9223372036854775808 then [ti z,tb true] else [ti 0,tb false]):=by
 have A:=kg z (by omega);have e:=cX z;have hv:=dr z;have F:=gV z;by_cases f:((dz z).length:Int) > 2
 .have C:¬(-9223372036854775808<=z/\z < 9223372036854775808):=by
   intro hz;have:=@vD z 2 (by
    have:(4294967296:Int) ^ 2=18446744073709551616:=by decide
    rw [this];omega)
   omega
  refine an ?_;rw [EB,if_neg C];simp only [aj,↓reduceIte,Int.reduceBEq,Int.reduceEq,GD,A,bc,f]
 .have j:∀u:Int,u= (z.natAbs:Int)->(if decide (z < 0)=true then -u else u)=z:=λu G=>by
   simp only [decide_eq_true_eq];split <;> omega
  have q:∀(d:List Int),d=dz z->Or pR [r0,AV.t (T.int .u64 0),lu false d,I (d.length:Int),I 0] [ab.box [B (decide (z < 0)),AV.t (T.str (bA (dz z)))]]=some (if -9223372036854775808<=z/\z < 9223372036854775808 then [ti z,tb true] else [ti 0,tb false]):=by
   intro d s;rw [<-s] at hv e f
   match d,s,hv,e,f with
   | [],_,hv,_,_=>have:=zy 0 (decide (z < 0)) [] (bA (dz z)) (by omega) 0 rfl false;rw [j 0 (by rw [<-hv];rfl)] at this;exact this
   | [a],_,hv,e,_=>
    have k:=e a RL;simp only [val,T5,T4] at hv;have:=zy a (decide (z < 0)) [a] (bA (dz z)) (by omega) 1 rfl false;rw [j a hv] at this;refine an ?_;rw [vJ];have p:i64.wrap (32 * 0)=0:=by decide
    have o:min (0:Int).toNat 64=0:=rfl;have n:u64.wrap a=a:=bN (by omega);have hl:(0:Int) < (([a]:List Int).length:Int):=by simp
    have m:(aK [a])[(0:Int).toNat]? =some [T.int .u32 a]:=rfl;have g:¬(0:Int) < 0:=by omega
    have i:i64.wrap (0+1)= ((1:Nat):Int):=by decide
    have hr:(0:Int)<=0/\(0:Int) < (([a]:List Int).length:Int):=⟨by omega,hl⟩;simp only [aj,↓reduceIte,Int.reduceBEq,Int.reduceEq,GD,bc,hl,hr,and_self,m,p,o,g,Vk,Vb,n,Hk k,i];exact this
   | [a,b],_,hv,e,_=>
    have k:=e a RL;have hb:=e b (RM _ RL);simp only [val,T5,T4] at hv;have:=zy (b * 4294967296+a) (decide (z < 0)) [a,b] (bA (dz z)) (by omega) 2 rfl false;rw [j (b * 4294967296+a) (by omega)] at this;have p:i64.wrap (32 * 0)=0:=by decide
    have o:min (0:Int).toNat 64=0:=rfl;have E:i64.wrap (32 * ((1:Nat):Int))=32:=by decide
    have D:min (32:Int).toNat 64=32:=rfl;have n:u64.wrap a=a:=bN (by omega);have y:u64.wrap b=b:=bN (by omega);have hl:(0:Int) < (([a,b]:List Int).length:Int):=by simp
    have l:((1:Nat):Int) < (([a,b]:List Int).length:Int):=by simp
    have m:(aK [a,b])[(0:Int).toNat]? =some [T.int .u32 a]:=rfl;have v:(aK [a,b])[((1:Nat):Int).toNat]? =some [T.int .u32 b]:=rfl;have g:¬(0:Int) < 0:=by omega
    have r:¬(32:Int) < 0:=by omega
    have i:i64.wrap (0+1)= ((1:Nat):Int):=by decide
    have w:i64.wrap (((1:Nat):Int)+1)= ((2:Nat):Int):=by decide
    have hr:(0:Int)<=0/\(0:Int) < (([a,b]:List Int).length:Int):=⟨by omega,hl⟩;have x:(0:Int)<=((1:Nat):Int)/\((1:Nat):Int) < (([a,b]:List Int).length:Int):=⟨by omega,l⟩;have step:Or pR [r0,AV.t (T.int .u64 a),lu false [a,b],I (([a,b]:List Int).length:Int),I ((1:Nat):Int)] [ab.box [B (decide (z < 0)),AV.t (T.str (bA (dz z)))]]=some (if -9223372036854775808<=z/\z < 9223372036854775808 then [ti z,tb true] else [ti 0,tb false]):=by refine an ?_;rw [vJ];simp only [aj,↓reduceIte,Int.reduceBEq,Int.reduceEq,GD,bc,l,x,and_self,v,E,D,r,y,OB hb k,w];exact this
    refine an ?_;rw [vJ];simp only [aj,↓reduceIte,Int.reduceBEq,Int.reduceEq,GD,bc,hl,hr,and_self,m,p,o,g,Vk,Vb,n,Hk k,i];exact step
   | a::b::c::d,_,_,_,f=>simp at f;omega
  refine an ?_;rw [EB];simp only [aj,↓reduceIte,Int.reduceBEq,Int.reduceEq,GD,A,bc,f];exact q _ rfl
end Go.Aev.Wd.Lg
