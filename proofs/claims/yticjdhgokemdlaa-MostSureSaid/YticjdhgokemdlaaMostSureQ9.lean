import Derived.Test.YticjdhgokemdlaaMostSureQ8
import Derived.Test.YticjdhgokemdlaaMostSureQ6
import Derived.Test.YticjdhgokemdlaaMostSureQ7
set_option linter.all false
namespace Go.Aev.Wd.Lg
open Go Go.Aev Go.Aev.Gen Go.Aev.Wd Go.IntKind
def m7:Nat->Nat->List Int
 | 0,_=> []
 | f+1,n=>if n=0 then [] else((n % 4294967296:Nat):Int)::m7 f (n / 4294967296)
theorem xo:∀(f n:Nat),n<=f->Dg (m7 f n)/\Can (m7 f n)/\val (m7 f n)= (n:Int)
 | 0,n,h=>by
  obtain rfl:n=0:=by omega
  exact⟨λa b=>by simp [m7] at b,λk c=>by simp [m7] at c,rfl⟩
 | f+1,n,h=>by
  rw [m7];by_cases e:n=0
  .subst e;rw [if_pos rfl];exact⟨(λa b=>by cases b),(λk c=>by cases c),rfl⟩
  .rw [if_neg e];have j:n / 4294967296 < n:=Nat.div_lt_self (by omega) (by omega);obtain⟨h1,g,d⟩:=xo f (n / 4294967296) (by omega);have hm:n % 4294967296 < 4294967296:=WN _ (by omega);refine⟨λa b=> ?_,λk c=> ?_, ?_⟩
   .rcases Tg.1 b with rfl | b
    .omega
    .exact h1 a b
   .cases k with
    | zero=>have i:m7 f (n / 4294967296)= []:=To.1 (by simpa using c);rw [i] at d;have hv:val []=0:=rfl;rw [hv] at d;show(_:Int)≠0;simp only [be,List.getD_cons_zero];omega
    | succ k=>have:=g k (by simpa using c);simpa [be] using this
   .rw [val,d];omega
def dz(z:Int):List Int:=m7 z.natAbs z.natAbs
theorem dE(z:Int):Dg (dz z):=(xo _ _ (Tl _)).1
theorem iz(z:Int):Can (dz z):=(xo _ _ (Tl _)).2.1
theorem dP(z:Int):val (dz z)= (z.natAbs:Int):=(xo _ _ (Tl _)).2.2
theorem Ea{a:Int}{d:List Int}(h:Can (a::d)):Can d:=λk b=>by have:=h (k+1) (by simp [b]);simpa [be] using this
theorem pE:∀{a b:List Int},Dg a->Dg b->Can a->Can b->val a=val b->a=b
 | [],[],_,_,_,_,_=>rfl
 | [],y::b,_,hb,_,e,h=>by have:=Ak hb e (by simp);rw [<-h] at this;simp [val] at this
 | x::a,[],c,_,d,_,h=>by have:=Ak c d (by simp);rw [h] at this;simp [val] at this
 | x::a,y::b,c,hb,d,e,h=>by
  have h1:=c x SW;have i:=hb y SW;rw [val,val] at h;have g:x=y:=by omega
  subst g;have:=pE (λu f=>c u (SY _ f)) (λu f=>hb u (SY _ f)) (Ea d) (Ea e) (by omega);rw [this]
theorem Lw{d:List Int}{z:Int}(h:Dg d)(c:Can d)(hv:val d= (z.natAbs:Int)):d=dz z:=pE h (dE z) c (iz z) (by rw [hv,dP])
theorem rv{z:Int}:dz z= []↔z=0:=by
 constructor
 .intro h;have:=dP z;rw [h] at this;simp [val] at this;exact this.symm▸by omega
 .rintro rfl;rfl
theorem tF(z:Int):dz (-z)=dz z:=by unfold dz;rw [W0]
theorem xv{z:Int}{k:Nat}(h:(z.natAbs:Int) < 4294967296 ^ k):(dz z).length<=k:=by
 rcases Wb k (dz z).length with h1 | h1
 .exfalso;obtain⟨m,hm⟩:∃m,(dz z).length=m+1:=⟨(dz z).length - 1,by omega⟩;have a:=Ai (dE z) (iz z) hm;rw [dP] at a;have b:(4294967296:Int) ^ k<=4294967296 ^ m:=B9 (by omega);omega
 .exact h1
theorem BC{z:Int}(h:kA z):(dz z).length<=200:=xv h
def fU(a:Int):List UInt8:= [UInt8.ofNat (a.toNat % 256),UInt8.ofNat (a.toNat / 256 % 256),UInt8.ofNat (a.toNat / 65536 % 256),UInt8.ofNat (a.toNat / 16777216 % 256)]
def fD:List Int->List UInt8
 | []=> []
 | a::d=>fU a++fD d
def bC(d:List Int):ByteArray:=⟨(fD d).toArray⟩
theorem D3:∀d:List Int,(fD d).length=4 * d.length
 | []=>rfl
 | a::d=>by rw [fD,Uh,D3 d,Tr];simp [fU];omega
theorem D2:∀(i:Nat) (d:List Int),(fD d).drop (4 * i)=fD (d.drop i)
 | 0,d=>by simp
 | i+1,[]=>by simp [fD]
 | i+1,a::d=>by rw [fD,show 4 * (i+1)= (fU a).length+4 * i from by simp [fU];omega,List.drop_append,List.drop_of_length_le (by omega),S8,List.drop_succ_cons];rw [show(fU a).length+4 * i - (fU a).length=4 * i from by omega];exact D2 i d
theorem FC(d:List Int):(bC d).size=4 * d.length:=by show(fD d).toArray.size=_;rw [Uw,D3]
theorem Ng(A:Array UInt8)(a n x y:Nat)(h:A.size<=a+n):((#[]:Array UInt8).extract 0 0++A.extract a (a+n)++ (#[]:Array UInt8).extract x y).toList=A.toList.drop a:=by simp only [Array.toList_append,Wi,VM,Xb,Xa,S8,T7];rw [Um (by simp;omega)]
theorem Nh(s:ByteArray)(a n:Nat)(h:n=s.size):(s.extract a n).size=n - a:=by subst h;have:(s.extract a s.size).size=min s.size s.size - a:=ByteArray.size_extract;rw [this];omega
theorem D4{n:Nat}(h:n < 256):((UInt8.ofNat n).toNat:Int)= (n:Int):=by rw [UInt8.toNat_ofNat'];omega
theorem Cl:(2:Int) ^ 8=256:=by decide
theorem Ci:(2:Int) ^ 16=65536:=by decide
theorem Cj:(2:Int) ^ 24=16777216:=by decide
theorem mS{v:Int}(h: 0<=v/\v < 4294967296):u32.wrap v=v:=by rw [fa];omega
theorem N4{a:Int}(h: 0<=a/\a < 4294967296)(d x2 b c:Int)(i:d= ((a.toNat % 256:Nat):Int))(j:x2= ((a.toNat / 256 % 256:Nat):Int))(k:b= ((a.toNat / 65536 % 256:Nat):Int))(l:c= ((a.toNat / 16777216 % 256:Nat):Int)):
  u32.wrap (((BitVec.ofInt 32 (u32.wrap (((BitVec.ofInt 32 (u32.wrap (((BitVec.ofInt 32 (u32.wrap d) ||| BitVec.ofInt 32 (u32.wrap (u32.wrap x2 * (2:Int) ^ 8))).toNat:Nat):Int)) ||| BitVec.ofInt 32 (u32.wrap (u32.wrap b * (2:Int) ^ 16))).toNat:Nat):Int)) ||| BitVec.ofInt 32 (u32.wrap (u32.wrap c * (2:Int) ^ 24))).toNat:Nat):Int)=a:=by
 have e: 0<=d/\d < 256:=by omega
 have f: 0<=x2/\x2 < 256:=by omega
 have b4: 0<=b/\b < 256:=by omega
 have g: 0<=c/\c < 256:=by omega
 rw [mS (v:=d) (by omega),mS (v:=x2) (by omega),mS (v:=b) (by omega),mS (v:=c) (by omega),Cl,Ci,Cj];rw [mS (v:=x2 * 256) (by omega),mS (v:=b * 65536) (by omega),mS (v:=c * 16777216) (by omega)];rw [uw (y:=d) (z:=x2 * 256) (n:=8) (t:=x2.toNat) (by omega) (by rw [Cl];omega) (by show x2 * 256= ((256 * x2.toNat:Nat):Int);omega) (by omega) (by omega)];rw [uw (y:=x2 * 256+d) (z:=b * 65536) (n:=16) (t:=b.toNat) (by omega) (by rw [Ci];omega) (by show b * 65536= ((65536 * b.toNat:Nat):Int);omega) (by omega) (by omega)];rw [uw (y:=b * 65536+ (x2 * 256+d)) (z:=c * 16777216) (n:=24) (t:=c.toNat) (by omega) (by rw [Cj];omega) (by show c * 16777216= ((16777216 * c.toNat:Nat):Int);omega) (by omega) (by omega)];omega
abbrev LS(s:Bool)(d:List Int):AV:=AV.agg [B s,AV.t (T.str (bC d))]
theorem O6(s:Bool)(d:List Int)(D:Dg d)(J:d.length<=1000):∀(b:List Int) (i:Nat) (done:List Int),d.drop i=b->done.length=i->d=done++b->
  Or wc [r0,o1,I (d.length:Int),I (i:Int)] [aa.box [B s,AV.t (T.str (bC d))],aa.sl false 1 false (aN (done++List.replicate b.length 0))]=some [T.ae 1 false (aN d)]:=by
 intro b;induction b with
 | nil=>
  intro i done h hi c;have h1:¬(i:Int) < (d.length:Int):=by have:=bF h;omega
  refine an ?_;rw [Ft];simp only [ak,↓reduceIte,Int.reduceBEq,Int.reduceEq,GD,h1,T6,Vr];rw [c]
 | cons a b G=>
  intro i done h hi c;obtain⟨w,H,z⟩:=bz h;have C:=D a (SX w);have h1:(i:Int) < (d.length:Int):=by omega
  have F:i64.wrap (4 * (i:Int))= ((4 * i:Nat):Int):=by rw [Go.Aev.wr (by omega)];omega
  have l:=FC d;have j:cT ((4 * i:Nat):Int) ((bC d).size:Int) ((bC d).size:Int)=some ():=rM (by omega);have g:((bC d).extract (4 * i) (bC d).size).size=4 * d.length - 4 * i:=by rw [Nh _ _ _ rfl,l]
  have A:∀x y:Nat,((#[]:Array UInt8).extract 0 0++ (bC d).data.extract (4 * i) (4 * i+ ((bC d).size - 4 * i))++ (#[]:Array UInt8).extract x y).toList=fU a++fD b:=λx y=>by rw [Ng _ _ _ _ _ (by show(bC d).size<=_;omega)];show(fD d).toArray.toList.drop (4 * i)=_;rw [List.toList_toArray,D2,h,fD]
  have m:(0:Int)<=0/\(0:Int) < ((4 * d.length - 4 * i:Nat):Int):=by omega
  have n:(0:Int)<=1/\(1:Int) < ((4 * d.length - 4 * i:Nat):Int):=by omega
  have o:(0:Int)<=2/\(2:Int) < ((4 * d.length - 4 * i:Nat):Int):=by omega
  have p:(0:Int)<=3/\(3:Int) < ((4 * d.length - 4 * i:Nat):Int):=by omega
  have q:(fU a++fD b)[0]? =some (UInt8.ofNat (a.toNat % 256)):=rfl;have r:(fU a++fD b)[1]? =some (UInt8.ofNat (a.toNat / 256 % 256)):=rfl;have u:(fU a++fD b)[2]? =some (UInt8.ofNat (a.toNat / 65536 % 256)):=rfl;have v:(fU a++fD b)[3]? =some (UInt8.ofNat (a.toNat / 16777216 % 256)):=rfl;have E:=N4 C _ _ _ _ rfl rfl rfl rfl;have f: 0<=(i:Int):=by omega
  have e:(i:Int) < ((aN (done++List.replicate (a::b).length 0)).length:Int):=by rw [br];simp;omega
  have k:bT i 0 [T.int .u32 a] (aN (done++List.replicate (a::b).length 0))=some (aN ((done++ [a])++List.replicate b.length 0)):=by have:=mL done 0 a (List.replicate b.length 0) i hi;rw [TB] at this;rw [Tr,TX,this];simp
  have:=G (i+1) (done++ [a]) z (by simp [hi]) (by rw [c];simp);refine an ?_;rw [Ft];simp only [ak,↓reduceIte,Int.reduceBEq,Int.reduceEq,GD,h1,F,j,TB,g,A,m,n,o,p,q,r,u,v,D4 (WN _ (by decide:(0:Nat) < 256)),E,f,e,and_self,k,next i (by omega)];exact this
theorem QQ(s:Bool)(d:List Int)(b:Dg d)(c:d.length<=1000):Or (.call 72) [LS s d] []=some [T.ae 1 false (aN d)]:=by
 have a:=FC d;have e:i64.wrap (((bC d).size:Int).tdiv 4)= (d.length:Int):=by rw [a,Vc (by omega),Go.Aev.wr (by omega)];omega
 have hm:cr (d.length:Int) (d.length:Int)=some ():=by unfold cr;rw [if_pos (by unfold gf;omega)]
 have hr:List.replicate ((d.length:Int)).toNat [T.int .u32 0]=aN (List.replicate d.length 0):=by simp [aN]
 have:=O6 s d b c d 0 [] rfl rfl rfl;refine an ?_;rw [Mm];simp only [ak,↓reduceIte,Int.reduceBEq,Int.reduceEq,GD,e,hm,hr,br,UD];exact this
theorem HC(e:Bool)(l:List Int)(h:l.length<=1000):∀k,k<=l.length->Or vJ [lu e (l.take k)] []=some [T.ae 1 e (aN (l.take (lj l k)))]
 | 0,g=>by
  refine an ?_;rw [EZ];have a:¬((0:Nat):Int) > 0:=by omega
  simp only [ak,↓reduceIte,Int.reduceBEq,Int.reduceEq,GD,bD,br,Vs,T6,a,decide_false,lj]
 | k+1,g=>by
  have j:=HC e l h k (by omega);have a:((k+1:Nat):Int) > 0:=by omega
  have f:i64.wrap (((k+1:Nat):Int) - 1)= (k:Int):=by rw [Go.Aev.wr (by omega)];omega
  have c: 0<=(k:Int)/\(k:Int) < ((k+1:Nat):Int):=by omega
  have hi:cT 0 (k:Int) ((k+1:Nat):Int)=some ():=rM (by omega);have b:(l.take (k+1)).length=k+1:=by rw [T3];omega
  have d:(aN (l.take (k+1)))[((k:Nat):Int).toNat]? =some [T.int .u32 (be l k)]:=by rw [dq (by omega)];simp [be,SV,Vy]
  have i:sub 0 (k:Int) (aN (l.take (k+1)))=aN (l.take k):=by simp only [sub,aN,TB,Int.toNat_zero,We,TZ,<-List.map_take,List.take_take];rw [Xs (by omega)]
  refine an ?_;rw [EZ,lj];by_cases hz:be l k=0
  .rw [if_pos hz];simp only [ak,↓reduceIte,Int.reduceBEq,Int.reduceEq,GD,br,b,a,decide_true,f,c,and_self,d,hz,hi,i];exact j
  .rw [if_neg hz];simp only [ak,↓reduceIte,Int.reduceBEq,Int.reduceEq,GD,br,b,a,decide_true,f,c,and_self,d,hz]
theorem qf(e:Bool)(l:List Int)(a:l.length<=1000):Or (.call 90) [lu e l] []=some [T.ae 1 e (aN (eO l))]:=by have:=HC e l a l.length (Tl _);rw [Vt] at this;refine an ?_;rw [Ly];exact this
theorem pf{l:List Int}(h:Dg l):Dg (eO l):=λa b=>h a (Uy b)
theorem JS{l:List Int}{z:Int}(h:Dg l)(hv:val l= (z.natAbs:Int)):eO l=dz z:=Lw (pf h) (sC l) (by rw [sD,hv])
def kK(l:List UInt8):List (List T):=l.map λb=> [T.int .u8 (b.toNat:Int)]
theorem D7:∀l:List UInt8,bytesOf (kK l)=some l
 | []=>rfl
 | b::l=>by have h1:=D7 l;unfold kK at h1⊢;simp only [TQ,bytesOf,Ut,S9,Bq,h1];simp
theorem w8(v:Int):u8.wrap v=v % 256:=by simp [IntKind.wrap,IntKind.signed,IntKind.bits]
theorem Ny(a:Int)(h: 0<=a/\a < 4294967296): [[T.int .u8 (u8.wrap a)],[T.int .u8 (u8.wrap (a.fdiv (2 ^ 8)))],[T.int .u8 (u8.wrap (a.fdiv (2 ^ 16)))],[T.int .u8 (u8.wrap (a.fdiv (2 ^ 24)))]]=kK (fU a):=by
 have e:∀n:Nat,n < 256->((UInt8.ofNat n).toNat:Int)= (n:Int):=λn b=>D4 b;simp only [kK,fU,TQ,VA,e _ (WN _ (by decide:(0:Nat) < 256)),w8,Cl,Ci,Cj];rw [Ui _ (by omega),Ui _ (by omega),Ui _ (by omega)];have c:a % 256= ((a.toNat % 256:Nat):Int):=by omega
 have q1:a / 256 % 256= ((a.toNat / 256 % 256:Nat):Int):=by omega
 have d:a / 65536 % 256= ((a.toNat / 65536 % 256:Nat):Int):=by omega
 have f:a / 16777216 % 256= ((a.toNat / 16777216 % 256:Nat):Int):=by omega
 rw [c,q1,d,f]
theorem O5(s s0 e j:Bool)(l:List Int)(y:ByteArray)(p:Dg l)(v:l.length<=1000):∀(b:List Int) (i:Nat) (done:List UInt8) (c:Bool),l.drop i=b->done.length=4 * i->
  Or vX [B s,lu e l,r0,o1,lu j l,I (l.length:Int),I (i:Int)] [aa.box [B s0,AV.t (T.str y)],aa.sl false 1 c (kK done)]=some [tb (s && decide (l≠[])),T.str ⟨(done++fD b).toArray⟩]:=by
 intro b;induction b with
 | nil=>
  intro i done c h hi;have h1:¬(i:Int) < (l.length:Int):=by have:=bF h;omega
  refine an ?_;rw [Fp];simp only [ak,↓reduceIte,Int.reduceBEq,Int.reduceEq,GD,h1,D7,br,fD,T7];cases l with
  | nil=>cases s <;> simp
  | cons a l=>cases s <;> (try simp) <;> (try omega)
 | cons a b u=>
  intro i done c h hi;obtain⟨f,k,m⟩:=bz h;have o:=p a (SX f);have h1:(i:Int) < (l.length:Int):=by omega
  have n: 0<=(i:Int):=by omega
  have r:(aN l)[((i:Nat):Int).toNat]? =some [T.int .u32 a]:=by rw [dq k,Lh f]
  have q:=Ny a o;have g:small 1 ((kK done).length+ (kK (fU a)).length)=some ():=jE (by simp [kK,fU];omega);have d:kK done++kK (fU a)=kK (done++fU a):=by simp [kK]
  have:=u (i+1) (done++fU a) (c && false) m (by simp [fU];omega);rw [WZ,TN] at this;refine an ?_;rw [Fp,fD];simp only [ak,↓reduceIte,Int.reduceBEq,Int.reduceEq,GD,h1,n,and_self,br,r,q,g,d,next i (by omega)];exact this
def RZ(z:Int):List T:= [tb (decide (z < 0)),T.str (bC (dz z))]
abbrev LZ(z:Int):AV:=LS (decide (z < 0)) (dz z)
theorem nP(s e:Bool)(l:List Int)(a:Dg l)(d:l.length<=1000):Or (.call 85) [B s,lu e l] []=some (RZ (if s then -val l else val l)):=by
 have g:=gU a;have f:=qf e l d;have c:eO l=dz (if s then -val l else val l):=JS a (by split <;> omega);have b:(eO l).length<=1000:=by
  have:(eO l).length<=l.length:=by(unfold eO;rw [T3];omega)
  omega
 have hm:cr 0 (i64.wrap (4 * ((eO l).length:Int)))=some ():=by rw [Go.Aev.wr (by omega)];unfold cr;rw [if_pos (by unfold gf;omega)]
 have k2:=O5 s false e e (eO l) ⟨#[]⟩ (pf a) b (eO l) 0 [] false rfl rfl;have hv:(s && decide (eO l≠[]))=decide ((if s then -val l else val l) < 0):=by
  have hz:eO l= []↔val l=0:=by rw [c,rv];split <;> omega
  cases s with
  | false=>simp;omega
  | true=>simp only [Uo,if_true];refine decide_eq_decide.2 ?_;rw [ne_eq,hz];omega
 refine an ?_;rw [Mf];simp only [ak,↓reduceIte,Int.reduceBEq,Int.reduceEq,GD,f,br,hm];refine k2.trans ?_;rw [S8,hv,c];rfl
open Go Go.Aev Go.Aev.Gen Go.Aev.Wd
theorem b9{v:Int}(h: -9223372036854775808<=v/\v < 9223372036854775808):i64.wrap v=v:=Go.Aev.wr h
theorem FB(d:List Int):((bC d).toList== (ByteArray.mk #[]).toList)=decide (d= []):=by
 have h1:∀s:ByteArray,s.toList=s.data.toList:=λs=>by rw [ByteArray.toList_eq]
 cases d with
 | nil=>rw [h1,h1];simp [bC,fD]
 | cons a d=>rw [h1,h1];simp [bC,fD,fU]
theorem o9(z:Int):Or (.call 64) [LZ z] []=some [ti z.sign]:=by
 refine an ?_;rw [Mg,FB];by_cases a:z=0
 .subst a;rfl
 .have b:¬dz z= []:=λh=>a (rv.1 h);rcases Vp z 0 with h | h | h
  .simp only [ak,↓reduceIte,Int.reduceBEq,Int.reduceEq,GD,b,h,decide_true,Up h]
  .exact absurd h a
  .have c:¬z < 0:=by omega
   simp only [ak,↓reduceIte,Int.reduceBEq,Int.reduceEq,GD,b,c,decide_false,Us h]
theorem CG(z:Int):Or (.call 82) [LZ z] []=some (RZ (-z)):=by
 refine an ?_;rw [Me,FB];unfold RZ;rw [tF];have:(bif !decide (z < 0) then !decide (dz z= []) else false)=decide (-z < 0):=by
  have h:=@rv z;by_cases a:z < 0
  .have:¬ -z < 0:=by omega
   rw [decide_eq_true a,decide_eq_false this];rfl
  .by_cases h1:z=0
   .subst h1;rfl
   .have b: -z < 0:=by omega
    rw [decide_eq_false a,decide_eq_false (mt h.1 h1),decide_eq_true b];rfl
 rw [this]
theorem kU(z:Int)(h:(dz z).length<=1000):Or (.call 72) [LZ z] []=some [T.ae 1 false (aN (dz z))]:=QQ _ _ (dE z) h
theorem HH(a b:List Int)(h eb:Bool)(g:Dg a)(hb:Dg b)(l:a.length=b.length)(m:a.length<=1000):∀(k:Nat) (z:Int),z= (k:Int) - 1->k<=a.length->
  Or vZ [lu h a,lu eb b,I z] []=some [ti (ei (val (a.take k)) (val (b.take k)))]
 | 0,z,hz,j=>by
  refine an ?_;rw [Fs];have h1:¬z>=0:=by omega
  simp only [ak,↓reduceIte,Int.reduceBEq,Int.reduceEq,GD,h1];simp [ei]
 | k+1,z,hz,j=>by
  obtain rfl:z= (k:Int):=by omega
  have h1:(k:Int)>=0:=by omega
  have e: 0<=(k:Int)/\(k:Int) < (a.length:Int):=by omega
  have f:(k:Int) < (b.length:Int):=by omega
  have n:i64.wrap ((k:Int) - 1)= (k:Int) - 1:=b9 (by omega);refine an ?_;rw [Fs];by_cases c:be a k < be b k
  .have:=Ev g hb (show k < a.length by omega) (by omega) c;simp only [ak,↓reduceIte,Int.reduceBEq,Int.reduceEq,GD,h1,e,f,and_self,br,dq (show k < a.length by omega),dq (show k < b.length by omega),c];unfold ei;rw [if_pos this]
  .by_cases d:be a k > be b k
   .have:=Ev hb g (show k < b.length by omega) (by omega) d;simp only [ak,↓reduceIte,Int.reduceBEq,Int.reduceEq,GD,h1,e,f,and_self,br,dq (show k < a.length by omega),dq (show k < b.length by omega),c,d];unfold ei;rw [if_neg (by omega),if_neg (by omega)]
   .have i:be a k=be b k:=by omega
    have:=HH a b h eb g hb l m k ((k:Int) - 1) rfl (by omega);have hv:ei (val (a.take (k+1))) (val (b.take (k+1)))=ei (val (a.take k)) (val (b.take k)):=by rw [sK (by omega),sK (by omega),i,K5]
    rw [hv];simp only [ak,↓reduceIte,Int.reduceBEq,Int.reduceEq,GD,h1,e,f,and_self,br,dq (show k < a.length by omega),dq (show k < b.length by omega),c,d,n];exact this
theorem yM(a b:List Int)(f eb:Bool)(e:Dg a)(hb:Dg b)(h:Can a)(i:Can b)(g:a.length<=1000)(k:b.length<=1000):
  Or (.call 80) [lu f a,lu eb b] []=some [ti (ei (val a) (val b))]:=by
 refine an ?_;rw [Ml];by_cases c:(a.length:Int)= (b.length:Int)
 .have:=HH a b f eb e hb (by omega) g a.length _ rfl (Tl _);rw [Vt,show b.take a.length=b from Um (by omega)] at this;have j:i64.wrap ((a.length:Int) - 1)= (a.length:Int) - 1:=b9 (by omega);simp only [br,j];simp only [ak,↓reduceIte,Int.reduceBEq,Int.reduceEq,GD,c];rw [c] at this;exact this
 .by_cases d:(a.length:Int) < (b.length:Int)
  .have:=x8 e hb i (by omega);simp only [ak,↓reduceIte,Int.reduceBEq,Int.reduceEq,GD,br,c,d];unfold ei;rw [if_pos this]
  .have:=x8 hb e h (by omega);simp only [ak,↓reduceIte,Int.reduceBEq,Int.reduceEq,GD,br,c,d];unfold ei;rw [if_neg (by omega),if_neg (by omega)]
theorem QH(x y:Int)(b:(dz x).length<=1000)(hy:(dz y).length<=1000):Or (.call 60) [LZ x,LZ y] []=some [ti (ei x y)]:=by
 have e:=o9 x;have k2:=o9 y;have f:=kU x b;have g:=kU y hy;have c:=yM (dz x) (dz y) false false (dE x) (dE y) (iz x) (iz y) b hy;have d:=yM (dz y) (dz x) false false (dE y) (dE x) (iz y) (iz x) hy b;rw [dP,dP] at c d;have key:(if x.sign=y.sign then(if x < 0 then ei (y.natAbs:Int) (x.natAbs:Int) else ei (x.natAbs:Int) (y.natAbs:Int)) else if x.sign < y.sign then -1 else 1)=ei x y:=by
  rcases Vp x 0 with h | h | h <;> rcases Vp y 0 with a | a | a <;>
   (first | rw [Up h] | rw [Us h] | rw [h,Int.sign_zero]) <;>
   (first | rw [Up a] | rw [Us a] | rw [a,Int.sign_zero]) <;> unfold ei <;> (repeat' split) <;> omega
 refine an ?_;rw [Ma];simp only [ak,↓reduceIte,Int.reduceBEq,Int.reduceEq,GD,e,k2,f,g,c,d];rw [<-key];split
 .split <;> rfl
 .split <;> rfl
theorem nS(n:Nat)(h:n<=100000):small 4 n=some ():=jE h
theorem mW(d:List Int)(v:Int):aN d++ [[T.int .u32 v]]=aN (d++ [v]):=by simp [aN]
theorem mX(n:Nat)(v:Int):n+ ([[T.int .u32 v]]:List (List T)).length=n+1:=by simp
theorem HE(x y:List Int)(z A:Bool)(D:Dg x)(hy:Dg y)(K:y.length<=x.length)(L:x.length<=1000):∀(d:List Int) (i:Nat) (c:Int) (done:List Int),x.drop i=d->done.length=i->i<=x.length->0<=c/\c<=1->
  Or qR [lu A y,o0,AV.t (T.int .u64 c),lu z x,I (x.length:Int),I (i:Int)] [aa.sl false 1 false (aN done)]=some [T.ae 1 false (aN (done++fh d (y.drop i) c))]:=by
 intro d;induction d with
 | nil=>
  intro i c done h l hi C;have G:=bF h;obtain rfl:i=x.length:=by omega
  have h1:¬(x.length:Int) < (x.length:Int):=by omega
  refine an ?_;rw [Fa];simp only [ak,↓reduceIte,Int.reduceBEq,Int.reduceEq,GD,h1,br,mS (v:=c) (by omega),mW,mX,nS (done.length+1) (by omega),fh]
 | cons a d u=>
  intro i c done h l hi C;obtain⟨B,m,n⟩:=bz h;have h1:(i:Int) < (x.length:Int):=by omega
  have o: 0<=(i:Int):=by omega
  have J:=D a (SX B);have j:=lK h;refine an ?_;rw [Fa];cases g:y.drop i with
  | nil=>
   have H:=bF g;have k:¬(i:Int) < (y.length:Int):=by omega
   have e:u64.wrap a=a:=bY (by omega);have f:u64.wrap (c+a)=c+a:=bY (by omega);have s:y.drop (i+1)= []:=by simp;omega
   have:=u (i+1) ((c+a) / 4294967296) (done++ [(c+a) % 4294967296]) n (by simp [l]) (by omega) (by omega);rw [s,show done++ [(c+a) % 4294967296] ++fh d [] ((c+a) / 4294967296)=done++fh (a::d) [] c from by simp [fh]] at this;simp only [ak,↓reduceIte,Int.reduceBEq,Int.reduceEq,GD,h1,o,and_self,br,dq m,j,k,e,f,fa,nk,mW,mX,nS (done.length+1) (by omega),next i (by omega)];exact this
  | cons b w=>
   obtain⟨E,k2,F⟩:=bz g;have hb:=hy b (SX E);have p:=lK g;have k:(i:Int) < (y.length:Int):=by omega
   have e:u64.wrap a=a:=bY (by omega);have f:u64.wrap (c+a)=c+a:=bY (by omega);have q:u64.wrap b=b:=bY (by omega);have r:u64.wrap (c+a+b)=c+a+b:=bY (by omega);have:=u (i+1) ((c+a+b) / 4294967296) (done++ [(c+a+b) % 4294967296]) n (by simp [l]) (by omega) (by omega);rw [F,show done++ [(c+a+b) % 4294967296] ++fh d w ((c+a+b) / 4294967296)=done++fh (a::d) (b::w) c from by simp [fh]] at this;simp only [ak,↓reduceIte,Int.reduceBEq,Int.reduceEq,GD,h1,o,and_self,br,dq m,dq k2,j,p,k,e,f,q,r,fa,nk,mW,mX,nS (done.length+1) (by omega),next i (by omega)];exact this
theorem Qy(x y:List Int)(c e:Bool)(b:Dg x)(hy:Dg y)(h:x.length<=900)(i:y.length<=900):∃d,Or (.call 100) [lu c x,lu e y] []=some [T.ae 1 false (aN d)]/\Dg d/\val d=val x+val y/\d.length<=max x.length y.length+1:=by
 by_cases g:(x.length:Int) < (y.length:Int)
 .have h1:=HE y x e c hy b (by omega) (by omega) y 0 0 [] rfl rfl (by omega) (by omega);refine⟨fh y x 0,an ?_,yR hy b (by omega),by rw [yT (by omega)];omega,by rw [yS];omega⟩;have f:i64.wrap ((y.length:Int)+1)= ((y.length+1:Nat):Int):=next y.length (by omega);have a:cr 0 ((y.length+1:Nat):Int)=some ():=by unfold cr gf;rw [if_pos (by omega)]
  rw [E9];simp only [ak,↓reduceIte,Int.reduceBEq,Int.reduceEq,GD,br,g,f,a];exact h1
 .have h1:=HE x y c e b hy (by omega) (by omega) x 0 0 [] rfl rfl (by omega) (by omega);refine⟨fh x y 0,an ?_,yR b hy (by omega),by rw [yT (by omega)];omega,by rw [yS];omega⟩;have f:i64.wrap ((x.length:Int)+1)= ((x.length+1:Nat):Int):=next x.length (by omega);have a:cr 0 ((x.length+1:Nat):Int)=some ():=by unfold cr gf;rw [if_pos (by omega)]
  rw [E9];simp only [ak,↓reduceIte,Int.reduceBEq,Int.reduceEq,GD,br,g,f,a];exact h1
theorem OV(x y:List Int)(w z:Bool)(C:Dg x)(hy:Dg y)(d:x.length<=1000):∀(e:List Int) (i:Nat) (c:Int) (done:List Int),x.drop i=e->done.length=i->0<=c/\c<=1->
  Or pw [lu z y,o0,I c,lu w x,I (x.length:Int),I (i:Int)] [aa.sl false 1 false (aN done)]=some [T.ae 1 false (aN (done++fu e (y.drop i) c))]:=by
 intro e;induction e with
 | nil=>
  intro i c done h r B;have F:=bF h;have h1:¬(i:Int) < (x.length:Int):=by omega
  refine an ?_;rw [Fb];simp only [ak,↓reduceIte,Int.reduceBEq,Int.reduceEq,GD,h1];simp [fu]
 | cons a e u=>
  intro i c done h r B;obtain⟨A,m,s⟩:=bz h;have h1:(i:Int) < (x.length:Int):=by omega
  have n: 0<=(i:Int):=by omega
  have H:=C a (SX A);have f:=lK h;have g:i64.wrap a=a:=b9 (by omega);have j:i64.wrap (a - c)=a - c:=b9 (by omega);refine an ?_;rw [Fb];cases l:y.drop i with
  | nil=>
   have G:=bF l;have k:¬(i:Int) < (y.length:Int):=by omega
   have t:y.drop (i+1)= []:=by simp;omega
   have:=u (i+1) (cO (a - c)) (done++ [(a - c) % 4294967296]) s (by simp [r]) (by unfold cO;split <;> omega);rw [t,show done++ [(a - c) % 4294967296] ++fu e [] (cO (a - c))=done++fu (a::e) [] c from by simp [fu]] at this;by_cases d:a - c < 0
   .have hv:u32.wrap (i64.wrap (a - c+4294967296))= (a - c) % 4294967296:=by rw [fa,b9 (by omega)];omega
    unfold cO at this;rw [if_pos d] at this;simp only [ak,↓reduceIte,Int.reduceBEq,Int.reduceEq,GD,h1,n,and_self,br,dq m,f,k,g,j,d,hv,mW,mX,nS (done.length+1) (by omega),next i (by omega)];exact this
   .have hv:u32.wrap (a - c)= (a - c) % 4294967296:=fa _;unfold cO at this;rw [if_neg d] at this;simp only [ak,↓reduceIte,Int.reduceBEq,Int.reduceEq,GD,h1,n,and_self,br,dq m,f,k,g,j,d,hv,mW,mX,nS (done.length+1) (by omega),next i (by omega)];exact this
  | cons b v=>
   obtain⟨D,k2,E⟩:=bz l;have hb:=hy b (SX D);have o:=lK l;have k:(i:Int) < (y.length:Int):=by omega
   have p:i64.wrap b=b:=b9 (by omega);have q:i64.wrap (a - c - b)=a - c - b:=b9 (by omega);have:=u (i+1) (cO (a - c - b)) (done++ [(a - c - b) % 4294967296]) s (by simp [r]) (by unfold cO;split <;> omega);rw [E,show done++ [(a - c - b) % 4294967296] ++fu e v (cO (a - c - b))=done++fu (a::e) (b::v) c from by simp [fu]] at this;by_cases d:a - c - b < 0
   .have hv:u32.wrap (i64.wrap (a - c - b+4294967296))= (a - c - b) % 4294967296:=by rw [fa,b9 (by omega)];omega
    unfold cO at this;rw [if_pos d] at this;simp only [ak,↓reduceIte,Int.reduceBEq,Int.reduceEq,GD,h1,n,and_self,br,dq m,dq k2,f,o,k,g,j,p,q,d,hv,mW,mX,nS (done.length+1) (by omega),next i (by omega)];exact this
   .have hv:u32.wrap (a - c - b)= (a - c - b) % 4294967296:=fa _;unfold cO at this;rw [if_neg d] at this;simp only [ak,↓reduceIte,Int.reduceBEq,Int.reduceEq,GD,h1,n,and_self,br,dq m,dq k2,f,o,k,g,j,p,q,d,hv,mW,mX,nS (done.length+1) (by omega),next i (by omega)];exact this
theorem IS(x y:List Int)(a b:Bool)(e:Dg x)(hy:Dg y)(f:y.length<=x.length)(hv:val y<=val x)(g:x.length<=900):∃d,Or (.call 101) [lu a x,lu b y] []=some [T.ae 1 false (aN d)]/\Dg d/\val d=val x - val y/\d.length=x.length:=by
 have h1:=OV x y a b e hy (by omega) x 0 0 [] rfl rfl (by omega);refine⟨fu x y 0,an ?_,Bz,by rw [BB e hy f (by omega) (by omega)];omega,BA⟩;have c:cr 0 (x.length:Int)=some ():=by unfold cr gf;rw [if_pos (by omega)]
 rw [LL];simp only [ak,↓reduceIte,Int.reduceBEq,Int.reduceEq,GD,br,c];exact h1
theorem xu{x y:Int}(h:y.natAbs<=x.natAbs):(dz y).length<=(dz x).length:=by
 rcases Wb (dz x).length (dz y).length with h1 | h1
 .have:=x8 (dE x) (dE y) (iz y) h1;rw [dP,dP] at this;omega
 .exact h1
theorem Qs(x y:Int)(k:(dz x).length<=900)(hy:(dz y).length<=900):Or (.call 92) [LZ x,LZ y] []=some (RZ (x+y)):=by
 have h:=kU x (by omega);have k2:=kU y (by omega);refine an ?_;rw [LA];by_cases hs:decide (x < 0)=decide (y < 0)
 .obtain⟨d,c,e,f,i⟩:=Qy (dz x) (dz y) false false (dE x) (dE y) k hy;have a:=nP (decide (x < 0)) false d e (by omega);have hb:(decide (x < 0)==decide (y < 0))=true:=by simpa using hs
  have hv:(if decide (x < 0)=true then -val d else val d)=x+y:=by
   rw [f,dP,dP];simp only [decide_eq_true_eq];have j:x < 0↔y < 0:=by simpa using hs
   split <;> omega
  rw [hv] at a;unfold RZ at a;simp only [ak,↓reduceIte,Int.reduceBEq,Int.reduceEq,GD,h,k2,hb,c,a];rfl
 .have hb:(decide (x < 0)==decide (y < 0))=false:=by simpa using hs
  have j:¬(x < 0↔y < 0):=by simpa using hs
  have a:=yM (dz x) (dz y) false false (dE x) (dE y) (iz x) (iz y) (by omega) (by omega);rw [dP,dP] at a;by_cases l:(y.natAbs:Int)<=(x.natAbs:Int)
  .have g:ei (x.natAbs:Int) (y.natAbs:Int)>=0:=by unfold ei;rw [if_neg (by omega)];split <;> omega
   obtain⟨d,c,e,f,i⟩:=IS (dz x) (dz y) false false (dE x) (dE y) (xu (by omega)) (by rw [dP,dP];exact l) k;have b:=nP (decide (x < 0)) false d e (by omega);have hv:(if decide (x < 0)=true then -val d else val d)=x+y:=by rw [f,dP,dP];simp only [decide_eq_true_eq];split <;> omega
   rw [hv] at b;unfold RZ at b;simp only [ak,↓reduceIte,Int.reduceBEq,Int.reduceEq,GD,h,k2,hb,a,g,c,b];rfl
  .have g:¬ei (x.natAbs:Int) (y.natAbs:Int)>=0:=by unfold ei;rw [if_pos (by omega)];omega
   obtain⟨d,c,e,f,i⟩:=IS (dz y) (dz x) false false (dE y) (dE x) (xu (by omega)) (by rw [dP,dP];omega) hy;have b:=nP (decide (y < 0)) false d e (by omega);have hv:(if decide (y < 0)=true then -val d else val d)=x+y:=by rw [f,dP,dP];simp only [decide_eq_true_eq];split <;> omega
   rw [hv] at b;unfold RZ at b;simp only [ak,↓reduceIte,Int.reduceBEq,Int.reduceEq,GD,h,k2,hb,a,g,c,b];rfl
theorem wI:∀n,n < 256->∃u,L8[n]? =some u/\u.toNat<=8/\n < 2 ^ u.toNat/\(n≠0->2 ^ u.toNat<=2 * n):=by
 have:∀n,n < 256->(match L8[n]? with | some u=>decide (u.toNat<=8/\n < 2 ^ u.toNat/\(n≠0->2 ^ u.toNat<=2 * n)) | none=>false)=true:=by decide+kernel
 intro n b;have h:=this n b;cases a:L8[n]? with
 | none=>rw [a] at h;cases h
 | some u=>rw [a] at h;exact⟨u,rfl,of_decide_eq_true h⟩
set_option maxRecDepth 100000 in
theorem IT(a:Int)(G: 0<=a/\a < 4294967296):∃n:Nat,Or (.call 94) [AV.t (T.int .u32 a)] []=some [ti (n:Int)]/\n<=32/\a < 2 ^ n/\(a≠0->(2:Int) ^ n<=2 * a):=by
 have m:(2:Int) ^ 8=256:=by decide
 have e:(2:Int) ^ 16=65536:=by decide
 have o:∀v:Int,v.fdiv 256=v / 256:=λv=>Ui _ (by omega);have i:∀v:Int,v.fdiv 65536=v / 65536:=λv=>Ui _ (by omega)
 have j:∀(k:Nat) (n:Nat) (u:UInt8),k<=24->n < 256->(n:Int)=a / 2 ^ k->(k≠0->n≠0)->u.toNat<=8/\n < 2 ^ u.toNat/\(n≠0->2 ^ u.toNat<=2 * n)->
   (k+u.toNat)<=32/\a < (2:Int) ^ (k+u.toNat)/\(a≠0->(2:Int) ^ (k+u.toNat)<=2 * a):=by
  intro k n u H b q z h;have r:=lV k;obtain⟨h1,F,B⟩:=h;have s:(n:Int)+1<=(2:Int) ^ u.toNat:=by rw [r6];omega
  have C:a < (2:Int) ^ k * ((n:Int)+1):=by rw [q];have:=Int.lt_mul_ediv_self_add (x:=a) r;rw [TG,Wq];exact this
  have D:(2:Int) ^ k * (n:Int)<=a:=by rw [q];exact Int.mul_ediv_self_le (by omega)
  refine⟨by omega, ?_,λE=> ?_⟩
  .rw [Wr];have:=Ti s (Uz r);omega
  .have y:n≠0:=by
    rcases Nat.eq_zero_or_pos k with p | p
    .subst p;rw [Wy,Int.ediv_one] at q;omega
    .exact z (by omega)
   have w:(2:Int) ^ u.toNat<=2 * (n:Int):=by rw [r6];have:=B y;omega
   rw [Wr];have:=Ti w (Uz r);rw [TW] at this;omega
 by_cases l:a>=65536
 .by_cases d:a / 65536>=256
  .have b:(a / 65536 / 256).toNat < 256:=by omega
   obtain⟨u,g,u2⟩:=wI _ b;have f:u8.wrap (a / 65536 / 256)=a / 65536 / 256:=by rw [w8];omega
   have hr: 0<=a / 65536 / 256/\a / 65536 / 256 < 256:=by omega
   have c:i64.wrap (i64.wrap (16+8)+i64.wrap (u.toNat:Int))= ((24+u.toNat:Nat):Int):=by rw [b9 (v:=16+8) (by omega),b9 (v:=(u.toNat:Int)) (by omega),b9 (by omega)];omega
   refine⟨24+u.toNat,an ?_,j 24 _ u (by omega) b (by rw [show((2:Int) ^ 24)=16777216 from by decide];omega) (λ_=>by omega) u2⟩;rw [xx];simp only [ak,↓reduceIte,Int.reduceBEq,Int.reduceEq,GD,l,m,e,o,i,d,f,hr,and_self,g,c]
  .have b:(a / 65536).toNat < 256:=by omega
   obtain⟨u,g,u2⟩:=wI _ b;have f:u8.wrap (a / 65536)=a / 65536:=by rw [w8];omega
   have hr: 0<=a / 65536/\a / 65536 < 256:=by omega
   have c:i64.wrap (16+i64.wrap (u.toNat:Int))= ((16+u.toNat:Nat):Int):=by rw [b9 (v:=(u.toNat:Int)) (by omega),b9 (by omega)];omega
   refine⟨16+u.toNat,an ?_,j 16 _ u (by omega) b (by rw [e];omega) (λ_=>by omega) u2⟩;rw [xx];simp only [ak,↓reduceIte,Int.reduceBEq,Int.reduceEq,GD,l,m,e,o,i,d,f,hr,and_self,g,c]
 .by_cases d:a>=256
  .have b:(a / 256).toNat < 256:=by omega
   obtain⟨u,g,u2⟩:=wI _ b;have f:u8.wrap (a / 256)=a / 256:=by rw [w8];omega
   have hr: 0<=a / 256/\a / 256 < 256:=by omega
   have c:i64.wrap (i64.wrap (0+8)+i64.wrap (u.toNat:Int))= ((8+u.toNat:Nat):Int):=by rw [b9 (v:=0+8) (by omega),b9 (v:=(u.toNat:Int)) (by omega),b9 (by omega)];omega
   refine⟨8+u.toNat,an ?_,j 8 _ u (by omega) b (by rw [m];omega) (λ_=>by omega) u2⟩;rw [xx];simp only [ak,↓reduceIte,Int.reduceBEq,Int.reduceEq,GD,l,m,e,o,i,d,f,hr,and_self,g,c]
  .have b:a.toNat < 256:=by omega
   obtain⟨u,g,u2⟩:=wI _ b;have f:u8.wrap a=a:=by rw [w8];omega
   have hr: 0<=a/\a < 256:=by omega
   have c:i64.wrap (i64.wrap (u.toNat:Int))= ((0+u.toNat:Nat):Int):=by rw [b9 (v:=(u.toNat:Int)) (by omega),b9 (by omega)];omega
   have A:i64.wrap (0+i64.wrap (u.toNat:Int))= ((0+u.toNat:Nat):Int):=by rw [b9 (v:=(u.toNat:Int)) (by omega),b9 (by omega)];omega
   refine⟨0+u.toNat,an ?_,j 0 _ u (by omega) b (by rw [Wy];omega) (λh=>absurd rfl h) u2⟩;rw [xx];simp only [ak,↓reduceIte,Int.reduceBEq,Int.reduceEq,GD,l,m,e,o,i,d,f,hr,and_self,g,c,A]
open Go Go.Aev Go.Aev.Gen Go.Aev.Wd
theorem CE(z:Int)(h:(dz z).length<=900):∃m:Int,Or (.call 87) [LZ z] []=some [ti m]/\0<=m/\m<=32 * ((dz z).length:Int):=by
 have d:=kU z (by omega);by_cases i:(dz z).length=0
 .refine⟨0,an ?_,by omega,by omega⟩;rw [E4];have a:((dz z).length:Int)=0:=by omega
  simp only [ak,↓reduceIte,Int.reduceBEq,Int.reduceEq,GD,d,br,a]
 .have a:¬((dz z).length:Int)=0:=by omega
  have f:i64.wrap (((dz z).length:Int) - 1)= (((dz z).length - 1:Nat):Int):=by rw [b9 (by omega)];omega
  have hr: 0<=(((dz z).length - 1:Nat):Int)/\(((dz z).length - 1:Nat):Int) < ((dz z).length:Int):=by omega
  have b:(dz z).length - 1 < (dz z).length:=by omega
  have e:=dE z (be (dz z) ((dz z).length - 1)) (by
   have:(dz z)[(dz z).length - 1]? =some (be (dz z) ((dz z).length - 1)):=by rw [SZ b];simp [be,SV,b]
   exact SX this)
  obtain⟨n,g,j,_,_⟩:=IT _ e;have c:i64.wrap (32 * (((dz z).length - 1:Nat):Int))=32 * (((dz z).length - 1:Nat):Int):=b9 (by omega);refine⟨32 * (((dz z).length - 1:Nat):Int)+ (n:Int),an ?_,by omega,by omega⟩;rw [E4];simp only [ak,↓reduceIte,Int.reduceBEq,Int.reduceEq,GD,d,br,a,f,hr,and_self,dq b,g,c,b9 (v:=32 * (((dz z).length - 1:Nat):Int)+ (n:Int)) (by omega)]
theorem IP(z:Int)(h:(dz z).length<=900):Or (.call 88) [LZ z] []=some [tb (decide (z < 0)),T.str (bC (dz z)),ti 0]:=by
 obtain⟨m,a,b,c⟩:=CE z h;have h1:¬m > 131072:=by omega
 refine an ?_;rw [LB];simp only [ak,↓reduceIte,Int.reduceBEq,Int.reduceEq,GD,a,h1]
theorem QO(x y:Int)(b:(dz x).length<=900)(hy:(dz y).length<=900)(hz:(dz (x+y)).length<=900):Or (.call 86) [LZ x,LZ y] []=some [tb (decide (x+y < 0)),T.str (bC (dz (x+y))),ti 0]:=by have a:=Qs x y b hy;have k2:=IP (x+y) hz;unfold RZ at a;refine an ?_;rw [Mj];simp only [ak,↓reduceIte,Int.reduceBEq,Int.reduceEq,GD,a,k2]
theorem OR(q s u:Bool)(x y:List Int)(a:Int)(E: 0<=a/\a < 4294967296)(hy:Dg y)(i:Nat)(hi:i<=1000)(U:y.length<=1000)(R:List T):∀(l:List Int) (j:Nat) (c:Int) (e f:List Int),y.drop j=l->j<=y.length->e.length=i+j->l.length < f.length->Dg f->0<=c/\c < 4294967296->
  Or sU [lu s y,o0,lu q x,I (x.length:Int),I ((i+1:Nat):Int)] [aa.sl false 1 false (aN (e++ic a l f c))]=some R->
  Or vM [lu s y,o0,I (i:Int),AV.t (T.int .u32 a),AV.t (T.int .u64 c),lu q x,I (x.length:Int),I (i:Int),lu u y,I (y.length:Int),I (j:Int)] [aa.sl false 1 false (aN (e++f))]=some R:=by
 intro l;induction l with
 | nil=>
  intro j c e f h H m hm g F k;have S:=bF h;obtain rfl:j=y.length:=by omega
  match f,hm with
  | o::r,_=>
   have h1:¬(y.length:Int) < (y.length:Int):=by omega
   have p:i64.wrap ((i:Int)+ (y.length:Int))= ((i+y.length:Nat):Int):=by rw [b9 (by omega)];omega
   have n: 0<=((i+y.length:Nat):Int)/\((i+y.length:Nat):Int) < ((e++o::r).length:Int):=by simp;omega
   have hs:=AK (d:=e++o::r) (i:=i+y.length) (by simp;omega) c;rw [yO e o c r _ m] at hs;have z:u32.wrap c=c:=by rw [fa];omega
   refine an ?_;rw [E6];simp only [ak,↓reduceIte,Int.reduceBEq,Int.reduceEq,GD,h1,br,p,n,and_self,z,hs,next i (by omega)];exact k
 | cons b l J=>
  intro j c e f h H m hm g F k;obtain⟨A,B,C⟩:=bz h;have hb:=hy b (SX A);have w:=lK h
  match f,hm,g,k with
  | o::r,hm,g,k=>
   have V:=g o SW;have Q:=pX E hb;have h1:(j:Int) < (y.length:Int):=by omega
   have D: 0<=(j:Int):=by omega
   have p:i64.wrap ((i:Int)+ (j:Int))= ((i+j:Nat):Int):=by rw [b9 (by omega)];omega
   have n: 0<=((i+j:Nat):Int)/\((i+j:Nat):Int) < ((e++o::r).length:Int):=by simp;omega
   have G:(aN (e++o::r))[((i+j:Nat):Int).toNat]? =some [T.int .u32 o]:=by rw [dq (by simp;omega),xe e o r _ m]
   have hs:∀v,bT ((i+j:Nat):Int).toNat 0 [T.int .u32 v] (aN (e++o::r))=some (aN ((e++ [v])++r)):=λv=>by rw [AK (by simp;omega),yO e o v r _ m];simp
   have K:u64.wrap a=a:=bY (by omega);have L:u64.wrap b=b:=bY (by omega);have M:u64.wrap o=o:=bY (by omega);have N:u64.wrap (a * b)=a * b:=bY (by omega);have O:u64.wrap (a * b+o)=a * b+o:=bY (by omega);have P:u64.wrap (c+ (a * b+o))=c+a * b+o:=by rw [bY (by omega)];omega
   have:=J (j+1) ((c+a * b+o) / 4294967296) (e++ [(c+a * b+o) % 4294967296]) r C (by omega) (by simp;omega) (by simpa using hm) g.tail (by omega) (by
    rw [ic] at k;rw [TN];exact k)
   refine an ?_;rw [E6];simp only [ak,↓reduceIte,Int.reduceBEq,Int.reduceEq,GD,h1,D,and_self,br,dq B,w,p,n,G,K,L,M,N,O,P,fa,hs,nk,next j (by omega)];exact this
theorem OQ(z s:Bool)(x y:List Int)(N:Dg x)(hy:Dg y)(U:x.length<=400)(V:y.length<=400):∀(e:List Int) (i:Nat) (f b:List Int),x.drop i=e->i<=x.length->f.length=i->b.length=y.length->Dg f->Dg b->
  ∃d,Or sU [lu s y,o0,lu z x,I (x.length:Int),I (i:Int)] [aa.sl false 1 false (aN (f++ (b++List.replicate e.length 0)))]=some [T.ae 1 false (aN d)]/\
   Dg d/\d.length=x.length+y.length/\val d=val (f++b)+4294967296 ^ i * (val e * val y):=by
 intro e;induction e with
 | nil=>
  intro i f b h hi m g l j;have S:=bF h;have h1:¬(i:Int) < (x.length:Int):=by omega
  have w:(f++b).length=x.length+y.length:=by simp;omega
  refine⟨f++b,an ?_,λu hu=> ?_,w,by simp [val]⟩
  .rw [E5];simp only [T6,Vr,T7];simp only [ak,↓reduceIte,Int.reduceBEq,Int.reduceEq,GD,h1]
  .rcases Tm.1 hu with hu | hu
   .exact l u hu
   .exact j u hu
 | cons a e O=>
  intro i f b h hi m g l j;obtain⟨J,K,L⟩:=bz h;have v:=N a (SX J);have B:=lK h;have h1:(i:Int) < (x.length:Int):=by omega
  have M: 0<=(i:Int):=by omega
  have A:Dg (b++ [0]):=λu hu=>by
   rcases Tm.1 hu with hu | hu
   .exact j u hu
   .simp only [Tc] at hu;subst hu;omega
  have F:=Hw v (y:=y) (o:=b) (r:= []) (c:=0) g.symm;have p:=Hu (a:=a) (y:=y) (o:=b++ [0]) (c:=0);have n:=Ht v (y:=y) (o:=b++ [0]) (c:=0) hy A (by omega);have E:=Hv (a:=a) (y:=y) (o:=b) (r:=List.replicate e.length 0) (q:=0) (c:=0) g.symm;have C:Dg (b++List.replicate (a::e).length 0):=λu hu=>by
   rcases Tm.1 hu with hu | hu
   .exact j u hu
   .have:=UE hu;omega
  generalize ic a y (b++ [0]) 0=res at *
  cases res with
  | nil=>simp at p
  | cons k t=>
   simp only [Tr,Uh,T6] at p;obtain⟨d,P,k2,Q,R⟩:=O (i+1) (f++ [k]) t L (by omega) (by simp [m]) (by omega) (λu hu=>by
    rcases Tm.1 hu with hu | hu
    .exact l u hu
    .simp only [Tc] at hu;subst hu;exact n u SW) n.tail
   have D:=OR z s s x y a v hy i (by omega) (by omega) _ y 0 0 f (b++List.replicate (a::e).length 0) rfl (by omega) (by omega) (by simp;omega) C (by omega) (by
    rw [show b++List.replicate (a::e).length 0=b++0::List.replicate e.length 0 from rfl,E];rw [show f++ (k::t++List.replicate e.length 0)=f++ [k] ++ (t++List.replicate e.length 0) from by simp];exact P)
   refine⟨d,an ?_,k2,Q, ?_⟩
   .rw [E5];simp only [ak,↓reduceIte,Int.reduceBEq,Int.reduceEq,GD,h1,M,and_self,br,dq K,B];exact D
   .rw [R];have G:f++ [k] ++t=f++k::t:=by simp
    have H:val (b++ [0])=val b:=by rw [il];simp [val]
    have e3:(4294967296:Int) ^ i * ((a+4294967296 * val e) * val y)=4294967296 ^ i * (a * val y)+4294967296 ^ i * 4294967296 * (val e * val y):=by rw [VP,TG];simp only [Ub]
    rw [G,il,il,m,F,H,VE];simp only [val];rw [e3,Int.zero_add,TG];omega
theorem Qt(b c:Bool)(x y:List Int)(k:Dg x)(hy:Dg y)(f:x.length<=400)(g:y.length<=400):∃d,Or (.call 89) [lu b x,lu c y] []=some [T.ae 1 false (aN d)]/\Dg d/\d.length=x.length+y.length/\val d=val x * val y:=by
 obtain⟨d,h,k2,l,m⟩:=OQ b c x y k hy f g x 0 [] (List.replicate y.length 0) rfl (by omega) rfl (by simp) (λu a=>by cases a) (λu a=>by
  have:=UE a;omega)
 have j:i64.wrap ((x.length:Int)+ (y.length:Int))= ((y.length+x.length:Nat):Int):=by rw [b9 (by omega)];omega
 have e:cr ((y.length+x.length:Nat):Int) ((y.length+x.length:Nat):Int)=some ():=by unfold cr gf;rw [if_pos (by omega)]
 have i:aN ([] ++ (List.replicate y.length 0++List.replicate x.length 0))=List.replicate (y.length+x.length) [T.int u32 0]:=by rw [S8,List.replicate_append_replicate];simp [aN]
 rw [i] at h;refine⟨d,an ?_,k2,l,by rw [m,S8,J9];simp⟩;rw [LC];simp only [br,j];simp only [ak,↓reduceIte,Int.reduceBEq,Int.reduceEq,GD,e,TB];exact h
theorem QP(x y:Int)(z:(dz x).length<=300)(hy:(dz y).length<=300):Or (.call 81) [LZ x,LZ y] []=some [tb (decide (x * y < 0)),T.str (bC (dz (x * y))),ti 0]:=by
 obtain⟨m,i,r,s⟩:=CE x (by omega);obtain⟨n,j,t,u⟩:=CE y (by omega);have h:¬m+n > 131073:=by omega
 have p:=kU x (by omega);have k2:=kU y (by omega);obtain⟨d,l,f,w,g⟩:=Qt false false (dz x) (dz y) (dE x) (dE y) (by omega) (by omega);have e:=nP (!decide (x < 0)==decide (y < 0)) false d f (by omega);have hv:(if(!decide (x < 0)==decide (y < 0))=true then -val d else val d)=x * y:=by
  rw [g,dP,dP,<-VZ,<-T8];have c:∀a b:Int,0<=a->0<=b->0<=a * b:=λa b=>T9;by_cases h1:x < 0 <;> by_cases o:y < 0 <;> simp only [h1,o,decide_true,decide_false]
  .have:=c (-x) (-y) (by omega) (by omega);rw [Int.neg_mul_neg] at this;simp;omega
  .have:=c (-x) y (by omega) (by omega);rw [Xv] at this;simp;omega
  .have:=c x (-y) (by omega) (by omega);rw [Int.mul_neg] at this;simp;omega
  .have:=c x y (by omega) (by omega);simp;omega
 rw [hv] at e;have hz:(dz (x * y)).length<=900:=by refine Tz (xv (k:=d.length) ?_) (by omega);have:=kx f;rw [g,dP,dP,<-VZ,<-T8] at this;exact this
 have q:=IP (x * y) hz;unfold RZ at e;refine an ?_;rw [Mk];simp only [ak,↓reduceIte,Int.reduceBEq,Int.reduceEq,GD,i,j,b9 (v:=m+n) (by omega),h,p,k2,l,e,q]
theorem uM(x:Int)(h: -9223372036854775808<=x/\x < 9223372036854775808):Or (.call 63) [I x] []=some (RZ x):=by
 refine an ?_;rw [L6];by_cases g:x < 0
 .have f:u64.wrap (0 - u64.wrap x)= -x:=by simp only [qB];omega
  have c:Dg [(-x) % 4294967296,(-x) / 4294967296]:=λu e=>by simp only [Tg,Xo,or_false] at e;omega
  have hv:val [(-x) % 4294967296,(-x) / 4294967296]= -x:=by simp only [val];omega
  have k:=nP true false _ c (by simp);rw [hv,if_pos rfl,Int.neg_neg] at k;have d:aN [(-x) % 4294967296,(-x) / 4294967296]= [[T.int .u32 ((-x) % 4294967296)],[T.int .u32 ((-x) / 4294967296)]]:=rfl;simp only [lu,d] at k;unfold RZ at k;have b:u32.wrap ((-x) / 4294967296)= (-x) / 4294967296:=mS (by omega);have a:decide (x < 0)=true:=decide_eq_true g;rw [a];simp only [ak,↓reduceIte,Int.reduceBEq,Int.reduceEq,GD,f,nk,fa (-x),b,k];rfl
 .have f:u64.wrap x=x:=bY (by omega);have c:Dg [x % 4294967296,x / 4294967296]:=λu e=>by
   simp only [Tg,Xo,or_false] at e;omega
  have hv:val [x % 4294967296,x / 4294967296]=x:=by simp only [val];omega
  have k:=nP false false _ c (by simp);rw [hv] at k;have d:aN [x % 4294967296,x / 4294967296]= [[T.int .u32 (x % 4294967296)],[T.int .u32 (x / 4294967296)]]:=rfl;simp only [lu,d] at k;unfold RZ at k;have b:u32.wrap (x / 4294967296)=x / 4294967296:=mS (by omega);have a:decide (x < 0)=false:=decide_eq_false g;simp only [Tv,↓reduceIte] at k;rw [a];simp only [ak,↓reduceIte,Int.reduceBEq,Int.reduceEq,GD,f,nk,fa x,b,k];unfold RZ;rfl
theorem Px{v n:Int}(hv: 0<=v/\v < 4294967296)(a: 0<=n/\n < 4294967296):
  u64.wrap (((BitVec.ofInt 64 n ||| BitVec.ofInt 64 (u64.wrap (v * (2:Int) ^ 32))).toNat:Nat):Int)=v * 4294967296+n:=by
 have h:=ux hv a;rw [BitVec.or_comm,bY (v:=n) (by omega)] at h;exact h
theorem H6{n:Int}(a: 0<=n/\n < 4294967296):u64.wrap (((BitVec.ofInt 64 0 ||| BitVec.ofInt 64 n).toNat:Nat):Int)=n:=by have h:=ux (v:=0) (n:=n) (by omega) a;rw [Int.zero_mul,bY (v:=0) (by omega),bY (v:=n) (by omega),Int.zero_mul,Int.zero_add] at h;exact h
theorem AJ(u:Int)(s:Bool)(d:List Int)(x:ByteArray)(f: 0<=u/\u < 18446744073709551616)(i:Nat)(hi:i=d.length)(e:Bool):
  Or qS [r0,AV.t (T.int .u64 u),lu e d,I (d.length:Int),I (i:Int)] [aa.box [B s,AV.t (T.str x)]]=
   some (if -9223372036854775808<=(if s then -u else u)/\(if s then -u else u) < 9223372036854775808 then [ti (if s then -u else u),tb true] else [ti 0,tb false]):=by
 subst hi;refine an ?_;rw [xy];have h1:¬(d.length:Int) < (d.length:Int):=by omega
 cases s with
 | true=>
  by_cases b:u<=9223372036854775808
  .have c:i64.wrap (0 - i64.wrap u)= -u:=by
    simp only [IntKind.wrap,IntKind.signed,IntKind.bits];simp;omega
   have a: -9223372036854775808<= -u/\ -u < 9223372036854775808:=by omega
   simp only [ak,↓reduceIte,Int.reduceBEq,Int.reduceEq,GD,h1,b,c,decide_true,a,and_self]
  .have a:¬(-9223372036854775808<= -u/\ -u < 9223372036854775808):=by omega
   simp only [ak,↓reduceIte,Int.reduceBEq,Int.reduceEq,GD,h1,b,decide_false,a]
 | false=>
  by_cases b:u < 9223372036854775808
  .have c:i64.wrap u=u:=b9 (by omega);have a: -9223372036854775808<=u/\u < 9223372036854775808:=by omega
   simp only [ak,↓reduceIte,Int.reduceBEq,Int.reduceEq,GD,h1,b,c,decide_true,Tv,a,and_self]
  .have a:¬(-9223372036854775808<=u/\u < 9223372036854775808):=by omega
   simp only [ak,↓reduceIte,Int.reduceBEq,Int.reduceEq,GD,h1,b,decide_false,Tv,a,and_false]
theorem IY(z:Int)(h:(dz z).length<=900):Or (.call 51) [LZ z] []=some (if -9223372036854775808<=z/\z < 9223372036854775808 then [ti z,tb true] else [ti 0,tb false]):=by
 have C:=kU z (by omega);have e:=dE z;have hv:=dP z;have G:=iz z;by_cases f:((dz z).length:Int) > 2
 .have D:¬(-9223372036854775808<=z/\z < 9223372036854775808):=by
   intro hz;have:=@xv z 2 (by
    have:(4294967296:Int) ^ 2=18446744073709551616:=by decide
    rw [this];omega)
   omega
  refine an ?_;rw [Fk,if_neg D];simp only [ak,↓reduceIte,Int.reduceBEq,Int.reduceEq,GD,C,br,f]
 .have k:∀u:Int,u= (z.natAbs:Int)->(if decide (z < 0)=true then -u else u)=z:=λu H=>by
   simp only [decide_eq_true_eq];split <;> omega
  have r:∀(d:List Int),d=dz z->Or qS [r0,AV.t (T.int .u64 0),lu false d,I (d.length:Int),I 0] [aa.box [B (decide (z < 0)),AV.t (T.str (bC (dz z)))]]=some (if -9223372036854775808<=z/\z < 9223372036854775808 then [ti z,tb true] else [ti 0,tb false]):=by
   intro d v;rw [<-v] at hv e f
   match d,v,hv,e,f with
   | [],_,hv,_,_=>have:=AJ 0 (decide (z < 0)) [] (bC (dz z)) (by omega) 0 rfl false;rw [k 0 (by rw [<-hv];rfl)] at this;exact this
   | [a],_,hv,e,_=>
    have l:=e a SW;simp only [val,VT,Vn] at hv;have:=AJ a (decide (z < 0)) [a] (bC (dz z)) (by omega) 1 rfl false;rw [k a hv] at this;refine an ?_;rw [xy];have q:i64.wrap (32 * 0)=0:=by decide
    have p:min (0:Int).toNat 64=0:=rfl;have o:u64.wrap a=a:=bY (by omega);have i:(0:Int) < (([a]:List Int).length:Int):=by simp
    have n:(aN [a])[(0:Int).toNat]? =some [T.int .u32 a]:=rfl;have g:¬(0:Int) < 0:=by omega
    have j:i64.wrap (0+1)= ((1:Nat):Int):=by decide
    have hr:(0:Int)<=0/\(0:Int) < (([a]:List Int).length:Int):=⟨by omega,i⟩;simp only [ak,↓reduceIte,Int.reduceBEq,Int.reduceEq,GD,br,i,hr,and_self,n,q,p,g,Wy,Wq,o,H6 l,j];exact this
   | [a,b],_,hv,e,_=>
    have l:=e a SW;have hb:=e b (SY _ SW);simp only [val,VT,Vn] at hv;have:=AJ (b * 4294967296+a) (decide (z < 0)) [a,b] (bC (dz z)) (by omega) 2 rfl false;rw [k (b * 4294967296+a) (by omega)] at this;have q:i64.wrap (32 * 0)=0:=by decide
    have p:min (0:Int).toNat 64=0:=rfl;have F:i64.wrap (32 * ((1:Nat):Int))=32:=by decide
    have E:min (32:Int).toNat 64=32:=rfl;have o:u64.wrap a=a:=bY (by omega);have A:u64.wrap b=b:=bY (by omega);have i:(0:Int) < (([a,b]:List Int).length:Int):=by simp
    have m:((1:Nat):Int) < (([a,b]:List Int).length:Int):=by simp
    have n:(aN [a,b])[(0:Int).toNat]? =some [T.int .u32 a]:=rfl;have w:(aN [a,b])[((1:Nat):Int).toNat]? =some [T.int .u32 b]:=rfl;have g:¬(0:Int) < 0:=by omega
    have s:¬(32:Int) < 0:=by omega
    have j:i64.wrap (0+1)= ((1:Nat):Int):=by decide
    have x:i64.wrap (((1:Nat):Int)+1)= ((2:Nat):Int):=by decide
    have hr:(0:Int)<=0/\(0:Int) < (([a,b]:List Int).length:Int):=⟨by omega,i⟩;have y:(0:Int)<=((1:Nat):Int)/\((1:Nat):Int) < (([a,b]:List Int).length:Int):=⟨by omega,m⟩;have step:Or qS [r0,AV.t (T.int .u64 a),lu false [a,b],I (([a,b]:List Int).length:Int),I ((1:Nat):Int)] [aa.box [B (decide (z < 0)),AV.t (T.str (bC (dz z)))]]=some (if -9223372036854775808<=z/\z < 9223372036854775808 then [ti z,tb true] else [ti 0,tb false]):=by refine an ?_;rw [xy];simp only [ak,↓reduceIte,Int.reduceBEq,Int.reduceEq,GD,br,m,y,and_self,w,F,E,s,A,Px hb l,x];exact this
    refine an ?_;rw [xy];simp only [ak,↓reduceIte,Int.reduceBEq,Int.reduceEq,GD,br,i,hr,and_self,n,q,p,g,Wy,Wq,o,H6 l,j];exact step
   | a::b::c::d,_,_,_,f=>simp at f;omega
  refine an ?_;rw [Fk];simp only [ak,↓reduceIte,Int.reduceBEq,Int.reduceEq,GD,C,br,f];exact r _ rfl
end Go.Aev.Wd.Lg
