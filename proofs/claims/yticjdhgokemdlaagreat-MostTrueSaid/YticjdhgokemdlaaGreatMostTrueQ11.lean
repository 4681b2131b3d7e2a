import Derived.Test.YticjdhgokemdlaaGreatMostTrueQ10
import Derived.Test.YticjdhgokemdlaaGreatMostTrueQ6
import Derived.Test.YticjdhgokemdlaaGreatMostTrueQ7
set_option linter.all false
namespace Go.Aev.Wd.Lg
open Go Go.Aev Go.Aev.Gen Go.Aev.Wd Go.IntKind
def nC:Nat->Nat->List Int
 | 0,_=> []
 | f+1,n=>if n=0 then [] else((n % 4294967296:Nat):Int)::nC f (n / 4294967296)
theorem yS:∀(f n:Nat),n<=f->Dg (nC f n)/\Can (nC f n)/\val (nC f n)= (n:Int)
 | 0,n,h=>by
  obtain rfl:n=0:=by omega
  exact⟨λa b=>by simp [nC] at b,λk c=>by simp [nC] at c,rfl⟩
 | f+1,n,h=>by
  rw [nC];by_cases e:n=0
  .subst e;rw [if_pos rfl];exact⟨(λa b=>by cases b),(λk c=>by cases c),rfl⟩
  .rw [if_neg e];have j:n / 4294967296 < n:=Nat.div_lt_self (by omega) (by omega);obtain⟨h1,g,d⟩:=yS f (n / 4294967296) (by omega);have hm:n % 4294967296 < 4294967296:=Yo _ (by omega);refine⟨λa b=> ?_,λk c=> ?_, ?_⟩
   .rcases Vk.1 b with rfl | b
    .omega
    .exact h1 a b
   .cases k with
    | zero=>have i:nC f (n / 4294967296)= []:=Vq.1 (by simpa using c);rw [i] at d;have hv:val []=0:=rfl;rw [hv] at d;show(_:Int)≠0;simp only [aN,List.getD_cons_zero];omega
    | succ k=>have:=g k (by simpa using c);simpa [aN] using this
   .rw [val,d];omega
def dz(z:Int):List Int:=nC z.natAbs z.natAbs
theorem eA(z:Int):Dg (dz z):=(yS _ _ (Vs _)).1
theorem iX(z:Int):Can (dz z):=(yS _ _ (Vs _)).2.1
theorem eK(z:Int):val (dz z)= (z.natAbs:Int):=(yS _ _ (Vs _)).2.2
theorem FM{a:Int}{d:List Int}(h:Can (a::d)):Can d:=λk b=>by have:=h (k+1) (by simp [b]);simpa [aN] using this
theorem pV:∀{a b:List Int},Dg a->Dg b->Can a->Can b->val a=val b->a=b
 | [],[],_,_,_,_,_=>rfl
 | [],y::b,_,hb,_,e,h=>by have:=rQ hb e (by simp);rw [<-h] at this;simp [val] at this
 | x::a,[],c,_,d,_,h=>by have:=rQ c d (by simp);rw [h] at this;simp [val] at this
 | x::a,y::b,c,hb,d,e,h=>by
  have h1:=c x U9;have i:=hb y U9;rw [val,val] at h;have g:x=y:=by omega
  subst g;have:=pV (λu f=>c u (Va _ f)) (λu f=>hb u (Va _ f)) (FM d) (FM e) (by omega);rw [this]
theorem Nq{d:List Int}{z:Int}(h:Dg d)(c:Can d)(hv:val d= (z.natAbs:Int)):d=dz z:=pV h (eA z) c (iX z) (by rw [hv,eK])
theorem r7{z:Int}:dz z= []↔z=0:=by
 constructor
 .intro h;have:=eK z;rw [h] at this;simp [val] at this;exact this.symm▸by omega
 .rintro rfl;rfl
theorem uM(z:Int):dz (-z)=dz z:=by unfold dz;rw [Zh]
theorem yV{z:Int}{k:Nat}(h:(z.natAbs:Int) < 4294967296 ^ k):(dz z).length<=k:=by
 rcases Xk k (dz z).length with h1 | h1
 .exfalso;obtain⟨m,hm⟩:∃m,(dz z).length=m+1:=⟨(dz z).length - 1,by omega⟩;have a:=BY (eA z) (iX z) hm;rw [eK] at a;have b:(4294967296:Int) ^ k<=4294967296 ^ m:=vQ (by omega);omega
 .exact h1
theorem Df{z:Int}(h:ct z):(dz z).length<=200:=yV h
def gF(a:Int):List UInt8:= [UInt8.ofNat (a.toNat % 256),UInt8.ofNat (a.toNat / 256 % 256),UInt8.ofNat (a.toNat / 65536 % 256),UInt8.ofNat (a.toNat / 16777216 % 256)]
def gw:List Int->List UInt8
 | []=> []
 | a::d=>gF a++gw d
def bJ(d:List Int):ByteArray:=⟨(gw d).toArray⟩
theorem FG:∀d:List Int,(gw d).length=4 * d.length
 | []=>rfl
 | a::d=>by rw [gw,Wr,FG d,Vw];simp [gF];omega
theorem FF:∀(i:Nat) (d:List Int),(gw d).drop (4 * i)=gw (d.drop i)
 | 0,d=>by simp
 | i+1,[]=>by simp [gw]
 | i+1,a::d=>by rw [gw,show 4 * (i+1)= (gF a).length+4 * i from by simp [gF];omega,List.drop_append,List.drop_of_length_le (by omega),Ve,List.drop_succ_cons];rw [show(gF a).length+4 * i - (gF a).length=4 * i from by omega];exact FF i d
theorem Hm(d:List Int):(bJ d).size=4 * d.length:=by show(gw d).toArray.size=_;rw [WW,FG]
theorem PD(A:Array UInt8)(a n x y:Nat)(h:A.size<=a+n):((#[]:Array UInt8).extract 0 0++A.extract a (a+n)++ (#[]:Array UInt8).extract x y).toList=A.toList.drop a:=by simp only [Array.toList_append,Ym,XV,Zu,Zt,Ve,V9];rw [We (by simp;omega)]
theorem PE(s:ByteArray)(a n:Nat)(h:n=s.size):(s.extract a n).size=n - a:=by subst h;have:(s.extract a s.size).size=min s.size s.size - a:=ByteArray.size_extract;rw [this];omega
theorem FH{n:Nat}(h:n < 256):((UInt8.ofNat n).toNat:Int)= (n:Int):=by rw [UInt8.toNat_ofNat'];omega
theorem DX:(2:Int) ^ 8=256:=by decide
theorem DV:(2:Int) ^ 16=65536:=by decide
theorem DW:(2:Int) ^ 24=16777216:=by decide
theorem nh{v:Int}(h: 0<=v/\v < 4294967296):u32.wrap v=v:=by rw [cJ];omega
theorem Qj{a:Int}(h: 0<=a/\a < 4294967296)(d x2 b c:Int)(i:d= ((a.toNat % 256:Nat):Int))(j:x2= ((a.toNat / 256 % 256:Nat):Int))(k:b= ((a.toNat / 65536 % 256:Nat):Int))(l:c= ((a.toNat / 16777216 % 256:Nat):Int)):
  u32.wrap (((BitVec.ofInt 32 (u32.wrap (((BitVec.ofInt 32 (u32.wrap (((BitVec.ofInt 32 (u32.wrap d) ||| BitVec.ofInt 32 (u32.wrap (u32.wrap x2 * (2:Int) ^ 8))).toNat:Nat):Int)) ||| BitVec.ofInt 32 (u32.wrap (u32.wrap b * (2:Int) ^ 16))).toNat:Nat):Int)) ||| BitVec.ofInt 32 (u32.wrap (u32.wrap c * (2:Int) ^ 24))).toNat:Nat):Int)=a:=by
 have e: 0<=d/\d < 256:=by omega
 have f: 0<=x2/\x2 < 256:=by omega
 have b4: 0<=b/\b < 256:=by omega
 have g: 0<=c/\c < 256:=by omega
 rw [nh (v:=d) (by omega),nh (v:=x2) (by omega),nh (v:=b) (by omega),nh (v:=c) (by omega),DX,DV,DW];rw [nh (v:=x2 * 256) (by omega),nh (v:=b * 65536) (by omega),nh (v:=c * 16777216) (by omega)];rw [qF (y:=d) (z:=x2 * 256) (n:=8) (t:=x2.toNat) (by omega) (by rw [DX];omega) (by show x2 * 256= ((256 * x2.toNat:Nat):Int);omega) (by omega) (by omega)];rw [qF (y:=x2 * 256+d) (z:=b * 65536) (n:=16) (t:=b.toNat) (by omega) (by rw [DV];omega) (by show b * 65536= ((65536 * b.toNat:Nat):Int);omega) (by omega) (by omega)];rw [qF (y:=b * 65536+ (x2 * 256+d)) (z:=c * 16777216) (n:=24) (t:=c.toNat) (by omega) (by rw [DW];omega) (by show c * 16777216= ((16777216 * c.toNat:Nat):Int);omega) (by omega) (by omega)];omega
abbrev LS(s:Bool)(d:List Int):AV:=AV.agg [B s,AV.t (T.str (bJ d))]
theorem Rp(s:Bool)(d:List Int)(D:Dg d)(J:d.length<=1000):∀(b:List Int) (i:Nat) (done:List Int),d.drop i=b->done.length=i->d=done++b->
  Or xQ [r0,o1,I (d.length:Int),I (i:Int)] [ab.box [B s,AV.t (T.str (bJ d))],ab.sl false 1 false (ay (done++List.replicate b.length 0))]=some [T.aa 1 false (ay d)]:=by
 intro b;induction b with
 | nil=>
  intro i done h hi c;have h1:¬(i:Int) < (d.length:Int):=by have:=bm h;omega
  refine aj ?_;rw [He];simp only [ai,↓reduceIte,h1,VL,WV];rw [c]
 | cons a b G=>
  intro i done h hi c;obtain⟨w,H,z⟩:=bh h;have C:=D a (U8 w);have h1:(i:Int) < (d.length:Int):=by omega
  have F:i64.wrap (4 * (i:Int))= ((4 * i:Nat):Int):=by rw [Go.Aev.wr (by omega)];omega
  have l:=Hm d;have j:bO ((4 * i:Nat):Int) ((bJ d).size:Int) ((bJ d).size:Int)=some ():=sI (by omega);have g:((bJ d).extract (4 * i) (bJ d).size).size=4 * d.length - 4 * i:=by rw [PE _ _ _ rfl,l]
  have A:∀x y:Nat,((#[]:Array UInt8).extract 0 0++ (bJ d).data.extract (4 * i) (4 * i+ ((bJ d).size - 4 * i))++ (#[]:Array UInt8).extract x y).toList=gF a++gw b:=λx y=>by rw [PD _ _ _ _ _ (by show(bJ d).size<=_;omega)];show(gw d).toArray.toList.drop (4 * i)=_;rw [List.toList_toArray,FF,h,gw]
  have m:(0:Int)<=0/\(0:Int) < ((4 * d.length - 4 * i:Nat):Int):=by omega
  have n:(0:Int)<=1/\(1:Int) < ((4 * d.length - 4 * i:Nat):Int):=by omega
  have o:(0:Int)<=2/\(2:Int) < ((4 * d.length - 4 * i:Nat):Int):=by omega
  have p:(0:Int)<=3/\(3:Int) < ((4 * d.length - 4 * i:Nat):Int):=by omega
  have q:(gF a++gw b)[0]? =some (UInt8.ofNat (a.toNat % 256)):=rfl;have r:(gF a++gw b)[1]? =some (UInt8.ofNat (a.toNat / 256 % 256)):=rfl;have u:(gF a++gw b)[2]? =some (UInt8.ofNat (a.toNat / 65536 % 256)):=rfl;have v:(gF a++gw b)[3]? =some (UInt8.ofNat (a.toNat / 16777216 % 256)):=rfl;have E:=Qj C _ _ _ _ rfl rfl rfl rfl;have f: 0<=(i:Int):=by omega
  have e:(i:Int) < ((ay (done++List.replicate (a::b).length 0)).length:Int):=by rw [aL];simp;omega
  have k:bp i 0 [T.int .u32 a] (ay (done++List.replicate (a::b).length 0))=some (ay ((done++ [a])++List.replicate b.length 0)):=by have:=fD done 0 a (List.replicate b.length 0) i hi;rw [VA] at this;rw [Vw,VX,this];simp
  have:=G (i+1) (done++ [a]) z (by simp [hi]) (by rw [c];simp);refine aj ?_;rw [He];simp only [ai,↓reduceIte,GD,h1,F,j,VA,g,A,m,n,o,p,q,r,u,v,FH (Yo _ (by decide:(0:Nat) < 256)),E,f,e,and_self,k,next i (by omega)];exact this
theorem Ta(s:Bool)(d:List Int)(b:Dg d)(c:d.length<=1000):Or (.call 104) [LS s d] []=some [T.aa 1 false (ay d)]:=by
 have a:=Hm d;have f:i64.wrap (((bJ d).size:Int).tdiv 4)= (d.length:Int):=by rw [a,Wc (by omega),Go.Aev.wr (by omega)];omega
 have hm:bu (d.length:Int) (d.length:Int)=some ():=by unfold bu;rw [if_pos (by unfold du;omega)]
 have e:List.replicate ((d.length:Int)).toNat [T.int .u32 0]=ay (List.replicate d.length 0):=by simp [ay]
 have:=Rp s d b c d 0 [] rfl rfl rfl;refine aj ?_;rw [Oy];simp only [GD,f,hm,e,aL,W7];exact this
theorem Jf(e:Bool)(l:List Int)(h:l.length<=1000):∀k,k<=l.length->Or xk [lu e (l.take k)] []=some [T.aa 1 e (ay (l.take (fF l k)))]
 | 0,g=>by
  refine aj ?_;rw [Gi];have a:¬((0:Nat):Int) > 0:=by omega
  simp only [ai,GD,bL,aL,XI,VL,a,decide_false,fF]
 | k+1,g=>by
  have j:=Jf e l h k (by omega);have a:((k+1:Nat):Int) > 0:=by omega
  have f:i64.wrap (((k+1:Nat):Int) - 1)= (k:Int):=by rw [Go.Aev.wr (by omega)];omega
  have c: 0<=(k:Int)/\(k:Int) < ((k+1:Nat):Int):=by omega
  have hi:bO 0 (k:Int) ((k+1:Nat):Int)=some ():=sI (by omega);have b:(l.take (k+1)).length=k+1:=by rw [V7];omega
  have d:(ay (l.take (k+1)))[((k:Nat):Int).toNat]? =some [T.int .u32 (aN l k)]:=by rw [bE (by omega)];simp [aN]
  have i:sub 0 (k:Int) (ay (l.take (k+1)))=ay (l.take k):=by simp only [sub,ay,VA,Int.toNat_zero,Yi,Ws,<-List.map_take,List.take_take];rw [ZH (by omega)]
  refine aj ?_;rw [Gi,fF];by_cases hz:aN l k=0
  .rw [if_pos hz];simp only [ai,↓reduceIte,GD,aL,b,a,decide_true,f,c,and_self,d,hz,hi,i];exact j
  .rw [if_neg hz];simp only [ai,↓reduceIte,GD,aL,b,a,decide_true,f,c,and_self,d,hz]
theorem qM(e:Bool)(l:List Int)(a:l.length<=1000):Or (.call 134) [lu e l] []=some [T.aa 1 e (ay (bI l))]:=by have:=Jf e l a l.length (Vs _);rw [Xv] at this;refine aj ?_;rw [Ns];exact this
theorem m9{l:List Int}(h:Dg l):Dg (bI l):=λa b=>h a (WZ b)
theorem Lt{l:List Int}{z:Int}(h:Dg l)(hv:val l= (z.natAbs:Int)):bI l=dz z:=Nq (m9 h) (pC l) (by rw [oq,hv])
def kX(l:List UInt8):List (List T):=l.map λb=> [T.int .u8 (b.toNat:Int)]
theorem FJ:∀l:List UInt8,bytesOf (kX l)=some l
 | []=>rfl
 | b::l=>by have h1:=FJ l;unfold kX at h1⊢;simp only [VN,bytesOf,WS,Vf,C5,h1];simp
theorem w8(v:Int):u8.wrap v=v % 256:=by simp [IntKind.wrap,IntKind.signed,IntKind.bits]
theorem PT(a:Int)(h: 0<=a/\a < 4294967296): [[T.int .u8 (u8.wrap a)],[T.int .u8 (u8.wrap (a.fdiv (2 ^ 8)))],[T.int .u8 (u8.wrap (a.fdiv (2 ^ 16)))],[T.int .u8 (u8.wrap (a.fdiv (2 ^ 24)))]]=kX (gF a):=by
 have e:∀n:Nat,n < 256->((UInt8.ofNat n).toNat:Int)= (n:Int):=λn b=>FH b;simp only [kX,gF,VN,XA,e _ (Yo _ (by decide:(0:Nat) < 256)),w8,DX,DV,DW];rw [Wb _ (by omega),Wb _ (by omega),Wb _ (by omega)];have c:a % 256= ((a.toNat % 256:Nat):Int):=by omega
 have q1:a / 256 % 256= ((a.toNat / 256 % 256:Nat):Int):=by omega
 have d:a / 65536 % 256= ((a.toNat / 65536 % 256:Nat):Int):=by omega
 have f:a / 16777216 % 256= ((a.toNat / 16777216 % 256:Nat):Int):=by omega
 rw [c,q1,d,f]
theorem Rn(s s0 e g:Bool)(l:List Int)(y:ByteArray)(o:Dg l)(u:l.length<=1000):∀(b:List Int) (i:Nat) (done:List UInt8) (e2:Bool),l.drop i=b->done.length=4 * i->
  Or xN [B s,lu e l,r0,o1,lu g l,I (l.length:Int),I (i:Int)] [ab.box [B s0,AV.t (T.str y)],ab.sl false 1 e2 (kX done)]=some [tb (s && decide (l≠[])),T.str ⟨(done++gw b).toArray⟩]:=by
 intro b;induction b with
 | nil=>
  intro i done e2 h hi;have h1:¬(i:Int) < (l.length:Int):=by have:=bm h;omega
  refine aj ?_;rw [Hb];simp only [ai,↓reduceIte,GD,h1,FJ,aL,gw,V9];cases l with
  | nil=>cases s <;> simp
  | cons a l=>cases s <;> (try simp) <;> (try omega)
 | cons a b r=>
  intro i done e2 h hi;obtain⟨d,j,k⟩:=bh h;have n:=o a (U8 d);have h1:(i:Int) < (l.length:Int):=by omega
  have m: 0<=(i:Int):=by omega
  have q:(ay l)[((i:Nat):Int).toNat]? =some [T.int .u32 a]:=by rw [bE j,M8 d]
  have p:=PT a n;have f:bM 1 ((kX done).length+ (kX (gF a)).length)=some ():=jb (by simp [kX,gF];omega);have c:kX done++kX (gF a)=kX (done++gF a):=by simp [kX]
  have:=r (i+1) (done++gF a) (e2 && false) k (by simp [gF];omega);rw [YK,VI] at this;refine aj ?_;rw [Hb,gw];simp only [ai,↓reduceIte,GD,h1,m,and_self,aL,q,p,f,c,next i (by omega)];exact this
def RZ(z:Int):List T:= [tb (decide (z < 0)),T.str (bJ (dz z))]
abbrev LZ(z:Int):AV:=LS (decide (z < 0)) (dz z)
theorem n8(s e:Bool)(l:List Int)(a:Dg l)(d:l.length<=1000):Or (.call 109) [B s,lu e l] []=some (RZ (if s then -val l else val l)):=by
 have g:=eQ a;have f:=qM e l d;have c:bI l=dz (if s then -val l else val l):=Lt a (by split <;> omega);have b:(bI l).length<=1000:=by
  have:(bI l).length<=l.length:=by(unfold bI;rw [V7];omega)
  omega
 have hm:bu 0 (i64.wrap (4 * ((bI l).length:Int)))=some ():=by rw [Go.Aev.wr (by omega)];unfold bu;rw [if_pos (by unfold du;omega)]
 have k2:=Rn s false e e (bI l) ⟨#[]⟩ (m9 a) b (bI l) 0 [] false rfl rfl;have hv:(s && decide (bI l≠[]))=decide ((if s then -val l else val l) < 0):=by
  have hz:bI l= []↔val l=0:=by rw [c,r7];split <;> omega
  cases s with
  | false=>simp;omega
  | true=>simp only [Wa,if_true];refine decide_eq_decide.2 ?_;rw [ne_eq,hz];omega
 refine aj ?_;rw [Oo];simp only [ai,GD,f,aL,hm];refine k2.trans ?_;rw [Ve,hv,c];rfl
open Go Go.Aev Go.Aev.Gen Go.Aev.Wd
theorem cB{v:Int}(h: -9223372036854775808<=v/\v < 9223372036854775808):i64.wrap v=v:=Go.Aev.wr h
theorem Hl(d:List Int):((bJ d).toList== (ByteArray.mk #[]).toList)=decide (d= []):=by
 have h1:∀s:ByteArray,s.toList=s.data.toList:=λs=>by rw [ByteArray.toList_eq]
 cases d with
 | nil=>rw [h1,h1];simp [bJ,gw]
 | cons a d=>rw [h1,h1];simp [bJ,gw,gF]
theorem pw(z:Int):Or (.call 70) [LZ z] []=some [ti z.sign]:=by
 refine aj ?_;rw [Oq,Hl];by_cases a:z=0
 .subst a;rfl
 .have b:¬dz z= []:=λh=>a (r7.1 h);rcases W6 z 0 with h | h | h
  .simp only [ai,↓reduceIte,b,h,decide_true,Wv h]
  .exact absurd h a
  .have c:¬z < 0:=by omega
   simp only [ai,b,c,decide_false,Wh h]
theorem Em(z:Int):Or (.call 106) [LZ z] []=some (RZ (-z)):=by
 refine aj ?_;rw [On,Hl];unfold RZ;rw [uM];have:(bif !decide (z < 0) then !decide (dz z= []) else false)=decide (-z < 0):=by
  have h:=@r7 z;by_cases a:z < 0
  .have:¬ -z < 0:=by omega
   rw [decide_eq_true a,decide_eq_false this];rfl
  .by_cases h1:z=0
   .subst h1;rfl
   .have b: -z < 0:=by omega
    rw [decide_eq_false a,decide_eq_false (mt h.1 h1),decide_eq_true b];rfl
 rw [this]
theorem lD(z:Int)(h:(dz z).length<=1000):Or (.call 104) [LZ z] []=some [T.aa 1 false (ay (dz z))]:=Ta _ _ (eA z) h
theorem Ju(a b:List Int)(h eb:Bool)(g:Dg a)(hb:Dg b)(l:a.length=b.length)(m:a.length<=1000):∀(k:Nat) (z:Int),z= (k:Int) - 1->k<=a.length->
  Or xP [lu h a,lu eb b,I z] []=some [ti (bA (val (a.take k)) (val (b.take k)))]
 | 0,z,hz,j=>by
  refine aj ?_;rw [Hd];have h1:¬z>=0:=by omega
  simp only [ai,↓reduceIte,GD,h1];simp [bA]
 | k+1,z,hz,j=>by
  obtain rfl:z= (k:Int):=by omega
  have h1:(k:Int)>=0:=by omega
  have e: 0<=(k:Int)/\(k:Int) < (a.length:Int):=by omega
  have f:(k:Int) < (b.length:Int):=by omega
  have n:i64.wrap ((k:Int) - 1)= (k:Int) - 1:=cB (by omega);refine aj ?_;rw [Hd];by_cases c:aN a k < aN b k
  .have:=yM g hb (show k < a.length by omega) (by omega) c;simp only [ai,↓reduceIte,GD,h1,e,f,and_self,aL,bE (show k < a.length by omega),bE (show k < b.length by omega),c];unfold bA;rw [if_pos this]
  .by_cases d:aN a k > aN b k
   .have:=yM hb g (show k < b.length by omega) (by omega) d;simp only [ai,↓reduceIte,GD,h1,e,f,and_self,aL,bE (show k < a.length by omega),bE (show k < b.length by omega),c,d];unfold bA;rw [if_neg (by omega),if_neg (by omega)]
   .have i:aN a k=aN b k:=by omega
    have:=Ju a b h eb g hb l m k ((k:Int) - 1) rfl (by omega);have hv:bA (val (a.take (k+1))) (val (b.take (k+1)))=bA (val (a.take k)) (val (b.take k)):=by rw [ou (by omega),ou (by omega),i,FV]
    rw [hv];simp only [ai,↓reduceIte,GD,h1,e,f,and_self,aL,bE (show k < a.length by omega),bE (show k < b.length by omega),c,d,n];exact this
theorem AB(a b:List Int)(f eb:Bool)(e:Dg a)(hb:Dg b)(h:Can a)(i:Can b)(g:a.length<=1000)(k:b.length<=1000):
  Or (.call 103) [lu f a,lu eb b] []=some [ti (bA (val a) (val b))]:=by
 refine aj ?_;rw [Ox];by_cases c:(a.length:Int)= (b.length:Int)
 .have:=Ju a b f eb e hb (by omega) g a.length _ rfl (Vs _);rw [Xv,show b.take a.length=b from We (by omega)] at this;have j:i64.wrap ((a.length:Int) - 1)= (a.length:Int) - 1:=cB (by omega);simp only [aL,j];simp only [ai,c];rw [c] at this;exact this
 .by_cases d:(a.length:Int) < (b.length:Int)
  .have:=mQ e hb i (by omega);simp only [ai,↓reduceIte,aL,c,d];unfold bA;rw [if_pos this]
  .have:=mQ hb e h (by omega);simp only [ai,↓reduceIte,aL,c,d];unfold bA;rw [if_neg (by omega),if_neg (by omega)]
theorem SQ(x y:Int)(b:(dz x).length<=1000)(hy:(dz y).length<=1000):Or (.call 65) [LZ x,LZ y] []=some [ti (bA x y)]:=by
 have e:=pw x;have k2:=pw y;have f:=lD x b;have g:=lD y hy;have c:=AB (dz x) (dz y) false false (eA x) (eA y) (iX x) (iX y) b hy;have d:=AB (dz y) (dz x) false false (eA y) (eA x) (iX y) (iX x) hy b;rw [eK,eK] at c d;have key:(if x.sign=y.sign then(if x < 0 then bA (y.natAbs:Int) (x.natAbs:Int) else bA (x.natAbs:Int) (y.natAbs:Int)) else if x.sign < y.sign then -1 else 1)=bA x y:=by
  rcases W6 x 0 with h | h | h <;> rcases W6 y 0 with a | a | a <;>
   (first | rw [Wv h] | rw [Wh h] | rw [h,Int.sign_zero]) <;>
   (first | rw [Wv a] | rw [Wh a] | rw [a,Int.sign_zero]) <;> unfold bA <;> (repeat' split) <;> omega
 refine aj ?_;rw [Ct];simp only [ai,GD,e,k2,f,g,c,d];rw [<-key];split
 .split <;> rfl
 .split <;> rfl
theorem od(n:Nat)(h:n<=100000):bM 4 n=some ():=jb h
theorem nu(d:List Int)(v:Int):ay d++ [[T.int .u32 v]]=ay (d++ [v]):=by simp [ay]
theorem nw(n:Nat)(v:Int):n+ ([[T.int .u32 v]]:List (List T)).length=n+1:=by simp
theorem Jj(x y:List Int)(z A:Bool)(D:Dg x)(hy:Dg y)(K:y.length<=x.length)(L:x.length<=1000):∀(d:List Int) (i:Nat) (c:Int) (done:List Int),x.drop i=d->done.length=i->i<=x.length->0<=c/\c<=1->
  Or rE [lu A y,o0,AV.t (T.int .u64 c),lu z x,I (x.length:Int),I (i:Int)] [ab.sl false 1 false (ay done)]=some [T.aa 1 false (ay (done++dF d (y.drop i) c))]:=by
 intro d;induction d with
 | nil=>
  intro i c done h l hi C;have G:=bm h;obtain rfl:i=x.length:=by omega
  have h1:¬(x.length:Int) < (x.length:Int):=by omega
  refine aj ?_;rw [Gt];simp only [ai,↓reduceIte,GD,h1,aL,nh (v:=c) (by omega),nu,nw,od (done.length+1) (by omega),dF]
 | cons a d u=>
  intro i c done h l hi C;obtain⟨B,m,n⟩:=bh h;have h1:(i:Int) < (x.length:Int):=by omega
  have o: 0<=(i:Int):=by omega
  have J:=D a (U8 B);have j:=fU h;refine aj ?_;rw [Gt];cases g:y.drop i with
  | nil=>
   have H:=bm g;have k:¬(i:Int) < (y.length:Int):=by omega
   have e:u64.wrap a=a:=be (by omega);have f:u64.wrap (c+a)=c+a:=be (by omega);have s:y.drop (i+1)= []:=by simp;omega
   have:=u (i+1) ((c+a) / 4294967296) (done++ [(c+a) % 4294967296]) n (by simp [l]) (by omega) (by omega);rw [s,show done++ [(c+a) % 4294967296] ++dF d [] ((c+a) / 4294967296)=done++dF (a::d) [] c from by simp [dF]] at this;simp only [ai,↓reduceIte,GD,h1,o,and_self,aL,bE m,j,k,e,f,cJ,ix,nu,nw,od (done.length+1) (by omega),next i (by omega)];exact this
  | cons b w=>
   obtain⟨E,k2,F⟩:=bh g;have hb:=hy b (U8 E);have p:=fU g;have k:(i:Int) < (y.length:Int):=by omega
   have e:u64.wrap a=a:=be (by omega);have f:u64.wrap (c+a)=c+a:=be (by omega);have q:u64.wrap b=b:=be (by omega);have r:u64.wrap (c+a+b)=c+a+b:=be (by omega);have:=u (i+1) ((c+a+b) / 4294967296) (done++ [(c+a+b) % 4294967296]) n (by simp [l]) (by omega) (by omega);rw [F,show done++ [(c+a+b) % 4294967296] ++dF d w ((c+a+b) / 4294967296)=done++dF (a::d) (b::w) c from by simp [dF]] at this;simp only [ai,↓reduceIte,GD,h1,o,and_self,aL,bE m,bE k2,j,p,k,e,f,q,r,cJ,ix,nu,nw,od (done.length+1) (by omega),next i (by omega)];exact this
theorem SE(x y:List Int)(c e:Bool)(b:Dg x)(hy:Dg y)(h:x.length<=900)(i:y.length<=900):∃d,Or (.call 146) [lu c x,lu e y] []=some [T.aa 1 false (ay d)]/\Dg d/\val d=val x+val y/\d.length<=max x.length y.length+1:=by
 by_cases g:(x.length:Int) < (y.length:Int)
 .have h1:=Jj y x e c hy b (by omega) (by omega) y 0 0 [] rfl rfl (by omega) (by omega);refine⟨dF y x 0,aj ?_,tu hy b (by omega),by rw [tz (by omega)];omega,by rw [tw];omega⟩;have f:i64.wrap ((y.length:Int)+1)= ((y.length+1:Nat):Int):=next y.length (by omega);have a:bu 0 ((y.length+1:Nat):Int)=some ():=by unfold bu du;rw [if_pos (by omega)]
  rw [Gr];simp only [ai,↓reduceIte,GD,aL,g,f,a];exact h1
 .have h1:=Jj x y c e b hy (by omega) (by omega) x 0 0 [] rfl rfl (by omega) (by omega);refine⟨dF x y 0,aj ?_,tu b hy (by omega),by rw [tz (by omega)];omega,by rw [tw];omega⟩;have f:i64.wrap ((x.length:Int)+1)= ((x.length+1:Nat):Int):=next x.length (by omega);have a:bu 0 ((x.length+1:Nat):Int)=some ():=by unfold bu du;rw [if_pos (by omega)]
  rw [Gr];simp only [ai,↓reduceIte,GD,aL,g,f,a];exact h1
theorem Q7(x y:List Int)(w z:Bool)(C:Dg x)(hy:Dg y)(d:x.length<=1000):∀(e:List Int) (i:Nat) (c:Int) (done:List Int),x.drop i=e->done.length=i->0<=c/\c<=1->
  Or pN [lu z y,o0,I c,lu w x,I (x.length:Int),I (i:Int)] [ab.sl false 1 false (ay done)]=some [T.aa 1 false (ay (done++ee e (y.drop i) c))]:=by
 intro e;induction e with
 | nil=>
  intro i c done h r B;have F:=bm h;have h1:¬(i:Int) < (x.length:Int):=by omega
  refine aj ?_;rw [Gu];simp only [ai,↓reduceIte,GD,h1];simp [ee]
 | cons a e u=>
  intro i c done h r B;obtain⟨A,m,s⟩:=bh h;have h1:(i:Int) < (x.length:Int):=by omega
  have n: 0<=(i:Int):=by omega
  have H:=C a (U8 A);have f:=fU h;have g:i64.wrap a=a:=cB (by omega);have j:i64.wrap (a - c)=a - c:=cB (by omega);refine aj ?_;rw [Gu];cases l:y.drop i with
  | nil=>
   have G:=bm l;have k:¬(i:Int) < (y.length:Int):=by omega
   have t:y.drop (i+1)= []:=by simp;omega
   have:=u (i+1) (cA (a - c)) (done++ [(a - c) % 4294967296]) s (by simp [r]) (by unfold cA;split <;> omega);rw [t,show done++ [(a - c) % 4294967296] ++ee e [] (cA (a - c))=done++ee (a::e) [] c from by simp [ee]] at this;by_cases d:a - c < 0
   .have hv:u32.wrap (i64.wrap (a - c+4294967296))= (a - c) % 4294967296:=by rw [cJ,cB (by omega)];omega
    unfold cA at this;rw [if_pos d] at this;simp only [ai,↓reduceIte,GD,h1,n,and_self,aL,bE m,f,k,g,j,d,hv,nu,nw,od (done.length+1) (by omega),next i (by omega)];exact this
   .have hv:u32.wrap (a - c)= (a - c) % 4294967296:=cJ _;unfold cA at this;rw [if_neg d] at this;simp only [ai,↓reduceIte,GD,h1,n,and_self,aL,bE m,f,k,g,j,d,hv,nu,nw,od (done.length+1) (by omega),next i (by omega)];exact this
  | cons b v=>
   obtain⟨D,k2,E⟩:=bh l;have hb:=hy b (U8 D);have o:=fU l;have k:(i:Int) < (y.length:Int):=by omega
   have p:i64.wrap b=b:=cB (by omega);have q:i64.wrap (a - c - b)=a - c - b:=cB (by omega);have:=u (i+1) (cA (a - c - b)) (done++ [(a - c - b) % 4294967296]) s (by simp [r]) (by unfold cA;split <;> omega);rw [E,show done++ [(a - c - b) % 4294967296] ++ee e v (cA (a - c - b))=done++ee (a::e) (b::v) c from by simp [ee]] at this;by_cases d:a - c - b < 0
   .have hv:u32.wrap (i64.wrap (a - c - b+4294967296))= (a - c - b) % 4294967296:=by rw [cJ,cB (by omega)];omega
    unfold cA at this;rw [if_pos d] at this;simp only [ai,↓reduceIte,GD,h1,n,and_self,aL,bE m,bE k2,f,o,k,g,j,p,q,d,hv,nu,nw,od (done.length+1) (by omega),next i (by omega)];exact this
   .have hv:u32.wrap (a - c - b)= (a - c - b) % 4294967296:=cJ _;unfold cA at this;rw [if_neg d] at this;simp only [ai,↓reduceIte,GD,h1,n,and_self,aL,bE m,bE k2,f,o,k,g,j,p,q,d,hv,nu,nw,od (done.length+1) (by omega),next i (by omega)];exact this
theorem Ks(x y:List Int)(a b:Bool)(e:Dg x)(hy:Dg y)(f:y.length<=x.length)(hv:val y<=val x)(g:x.length<=900):∃d,Or (.call 147) [lu a x,lu b y] []=some [T.aa 1 false (ay d)]/\Dg d/\val d=val x - val y/\d.length=x.length:=by
 have h1:=Q7 x y a b e hy (by omega) x 0 0 [] rfl rfl (by omega);refine⟨ee x y 0,aj ?_,zS,by rw [zU e hy f (by omega) (by omega)];omega,zT⟩;have c:bu 0 (x.length:Int)=some ():=by unfold bu du;rw [if_pos (by omega)]
 rw [NF];simp only [GD,aL,c];exact h1
theorem yU{x y:Int}(h:y.natAbs<=x.natAbs):(dz y).length<=(dz x).length:=by
 rcases Xk (dz x).length (dz y).length with h1 | h1
 .have:=mQ (eA x) (eA y) (iX y) h1;rw [eK,eK] at this;omega
 .exact h1
theorem Sw(x y:Int)(k:(dz x).length<=900)(hy:(dz y).length<=900):Or (.call 136) [LZ x,LZ y] []=some (RZ (x+y)):=by
 have h:=lD x (by omega);have k2:=lD y (by omega);refine aj ?_;rw [Nu];by_cases hs:decide (x < 0)=decide (y < 0)
 .obtain⟨d,c,e,f,i⟩:=SE (dz x) (dz y) false false (eA x) (eA y) k hy;have a:=n8 (decide (x < 0)) false d e (by omega);have hb:(decide (x < 0)==decide (y < 0))=true:=by simpa using hs
  have hv:(if decide (x < 0)=true then -val d else val d)=x+y:=by
   rw [f,eK,eK];simp only [decide_eq_true_eq];have j:x < 0↔y < 0:=by simpa using hs
   split <;> omega
  rw [hv] at a;unfold RZ at a;simp only [ai,GD,h,k2,hb,c,a];rfl
 .have hb:(decide (x < 0)==decide (y < 0))=false:=by simpa using hs
  have j:¬(x < 0↔y < 0):=by simpa using hs
  have a:=AB (dz x) (dz y) false false (eA x) (eA y) (iX x) (iX y) (by omega) (by omega);rw [eK,eK] at a;by_cases l:(y.natAbs:Int)<=(x.natAbs:Int)
  .have g:bA (x.natAbs:Int) (y.natAbs:Int)>=0:=by unfold bA;rw [if_neg (by omega)];split <;> omega
   obtain⟨d,c,e,f,i⟩:=Ks (dz x) (dz y) false false (eA x) (eA y) (yU (by omega)) (by rw [eK,eK];exact l) k;have b:=n8 (decide (x < 0)) false d e (by omega);have hv:(if decide (x < 0)=true then -val d else val d)=x+y:=by rw [f,eK,eK];simp only [decide_eq_true_eq];split <;> omega
   rw [hv] at b;unfold RZ at b;simp only [ai,↓reduceIte,GD,h,k2,hb,a,g,c,b];rfl
  .have g:¬bA (x.natAbs:Int) (y.natAbs:Int)>=0:=by unfold bA;rw [if_pos (by omega)];omega
   obtain⟨d,c,e,f,i⟩:=Ks (dz y) (dz x) false false (eA y) (eA x) (yU (by omega)) (by rw [eK,eK];omega) hy;have b:=n8 (decide (y < 0)) false d e (by omega);have hv:(if decide (y < 0)=true then -val d else val d)=x+y:=by rw [f,eK,eK];simp only [decide_eq_true_eq];split <;> omega
   rw [hv] at b;unfold RZ at b;simp only [ai,↓reduceIte,GD,h,k2,hb,a,g,c,b];rfl
theorem ym:∀n,n < 256->∃u,L8[n]? =some u/\u.toNat<=8/\n < 2 ^ u.toNat/\(n≠0->2 ^ u.toNat<=2 * n):=by
 have:∀n,n < 256->(match L8[n]? with | some u=>decide (u.toNat<=8/\n < 2 ^ u.toNat/\(n≠0->2 ^ u.toNat<=2 * n)) | none=>false)=true:=by decide+kernel
 intro n b;have h:=this n b;cases a:L8[n]? with
 | none=>rw [a] at h;cases h
 | some u=>rw [a] at h;exact⟨u,rfl,of_decide_eq_true h⟩
set_option maxRecDepth 100000 in
theorem Kt(a:Int)(I: 0<=a/\a < 4294967296):∃n:Nat,Or (.call 140) [AV.t (T.int .u32 a)] []=some [ti (n:Int)]/\n<=32/\a < 2 ^ n/\(a≠0->(2:Int) ^ n<=2 * a):=by
 have p:(2:Int) ^ 8=256:=by decide
 have e:(2:Int) ^ 16=65536:=by decide
 have q:∀v:Int,v.fdiv 256=v / 256:=λv=>Wb _ (by omega);have l:∀v:Int,v.fdiv 65536=v / 65536:=λv=>Wb _ (by omega)
 have m:∀(k:Nat) (n:Nat) (u:UInt8),k<=24->n < 256->(n:Int)=a / 2 ^ k->(k≠0->n≠0)->u.toNat<=8/\n < 2 ^ u.toNat/\(n≠0->2 ^ u.toNat<=2 * n)->
   (k+u.toNat)<=32/\a < (2:Int) ^ (k+u.toNat)/\(a≠0->(2:Int) ^ (k+u.toNat)<=2 * a):=by
  intro k n u J b s B h;have w:=gQ k;obtain⟨h1,H,D⟩:=h;have y:(n:Int)+1<=(2:Int) ^ u.toNat:=by rw [nV];omega
  have E:a < (2:Int) ^ k * ((n:Int)+1):=by rw [s];have:=Int.lt_mul_ediv_self_add (x:=a) w;rw [VF,Yd];exact this
  have F:(2:Int) ^ k * (n:Int)<=a:=by rw [s];exact Int.mul_ediv_self_le (by omega)
  refine⟨by omega, ?_,λG=> ?_⟩
  .rw [XZ];have:=Vg y (Wu w);omega
  .have A:n≠0:=by
    rcases Nat.eq_zero_or_pos k with r | r
    .subst r;rw [Yl,Int.ediv_one] at s;omega
    .exact B (by omega)
   have z:(2:Int) ^ u.toNat<=2 * (n:Int):=by rw [nV];have:=D A;omega
   rw [XZ];have:=Vg z (Wu w);rw [VT] at this;omega
 by_cases o:a>=65536
 .by_cases d:a / 65536>=256
  .have b:(a / 65536 / 256).toNat < 256:=by omega
   obtain⟨u,i,j⟩:=ym _ b;have g:u8.wrap (a / 65536 / 256)=a / 65536 / 256:=by rw [w8];omega
   have f: 0<=a / 65536 / 256/\a / 65536 / 256 < 256:=by omega
   have c:i64.wrap (i64.wrap (16+8)+i64.wrap (u.toNat:Int))= ((24+u.toNat:Nat):Int):=by rw [cB (v:=16+8) (by omega),cB (v:=(u.toNat:Int)) (by omega),cB (by omega)];omega
   refine⟨24+u.toNat,aj ?_,m 24 _ u (by omega) b (by rw [show((2:Int) ^ 24)=16777216 from by decide];omega) (λ_=>by omega) j⟩;rw [yX];simp only [ai,↓reduceIte,GD,o,p,e,q,l,d,g,f,and_self,i,c]
  .have b:(a / 65536).toNat < 256:=by omega
   obtain⟨u,i,j⟩:=ym _ b;have g:u8.wrap (a / 65536)=a / 65536:=by rw [w8];omega
   have f: 0<=a / 65536/\a / 65536 < 256:=by omega
   have c:i64.wrap (16+i64.wrap (u.toNat:Int))= ((16+u.toNat:Nat):Int):=by rw [cB (v:=(u.toNat:Int)) (by omega),cB (by omega)];omega
   refine⟨16+u.toNat,aj ?_,m 16 _ u (by omega) b (by rw [e];omega) (λ_=>by omega) j⟩;rw [yX];simp only [ai,↓reduceIte,GD,o,p,e,q,l,d,g,f,and_self,i,c]
 .by_cases d:a>=256
  .have b:(a / 256).toNat < 256:=by omega
   obtain⟨u,i,j⟩:=ym _ b;have g:u8.wrap (a / 256)=a / 256:=by rw [w8];omega
   have f: 0<=a / 256/\a / 256 < 256:=by omega
   have c:i64.wrap (i64.wrap (0+8)+i64.wrap (u.toNat:Int))= ((8+u.toNat:Nat):Int):=by rw [cB (v:=0+8) (by omega),cB (v:=(u.toNat:Int)) (by omega),cB (by omega)];omega
   refine⟨8+u.toNat,aj ?_,m 8 _ u (by omega) b (by rw [p];omega) (λ_=>by omega) j⟩;rw [yX];simp only [ai,↓reduceIte,GD,o,p,e,q,l,d,g,f,and_self,i,c]
  .have b:a.toNat < 256:=by omega
   obtain⟨u,i,j⟩:=ym _ b;have g:u8.wrap a=a:=by rw [w8];omega
   have f: 0<=a/\a < 256:=by omega
   have c:i64.wrap (i64.wrap (u.toNat:Int))= ((0+u.toNat:Nat):Int):=by rw [cB (v:=(u.toNat:Int)) (by omega),cB (by omega)];omega
   have C:i64.wrap (0+i64.wrap (u.toNat:Int))= ((0+u.toNat:Nat):Int):=by rw [cB (v:=(u.toNat:Int)) (by omega),cB (by omega)];omega
   refine⟨0+u.toNat,aj ?_,m 0 _ u (by omega) b (by rw [Yl];omega) (λh=>absurd rfl h) j⟩;rw [yX];simp only [ai,↓reduceIte,GD,o,p,e,q,l,d,g,f,and_self,i,C]
open Go Go.Aev Go.Aev.Gen Go.Aev.Wd
theorem Ei(z:Int)(h:(dz z).length<=900):∃m:Int,Or (.call 131) [LZ z] []=some [ti m]/\0<=m/\m<=32 * ((dz z).length:Int):=by
 have d:=lD z (by omega);by_cases j:(dz z).length=0
 .refine⟨0,aj ?_,by omega,by omega⟩;rw [Gl];have a:((dz z).length:Int)=0:=by omega
  simp only [ai,↓reduceIte,GD,d,aL,a]
 .have a:¬((dz z).length:Int)=0:=by omega
  have g:i64.wrap (((dz z).length:Int) - 1)= (((dz z).length - 1:Nat):Int):=by rw [cB (by omega)];omega
  have f: 0<=(((dz z).length - 1:Nat):Int)/\(((dz z).length - 1:Nat):Int) < ((dz z).length:Int):=by omega
  have b:(dz z).length - 1 < (dz z).length:=by omega
  have e:=eA z (aN (dz z) ((dz z).length - 1)) (by
   have:(dz z)[(dz z).length - 1]? =some (aN (dz z) ((dz z).length - 1)):=by rw [Vb b];simp [aN,b]
   exact U8 this)
  obtain⟨n,i,k,_,_⟩:=Kt _ e;have c:i64.wrap (32 * (((dz z).length - 1:Nat):Int))=32 * (((dz z).length - 1:Nat):Int):=cB (by omega);refine⟨32 * (((dz z).length - 1:Nat):Int)+ (n:Int),aj ?_,by omega,by omega⟩;rw [Gl];simp only [ai,↓reduceIte,GD,d,aL,a,g,f,and_self,bE b,i,c,cB (v:=32 * (((dz z).length - 1:Nat):Int)+ (n:Int)) (by omega)]
theorem Kq(z:Int)(h:(dz z).length<=900):Or (.call 132) [LZ z] []=some [tb (decide (z < 0)),T.str (bJ (dz z)),ti 0]:=by
 obtain⟨m,a,b,c⟩:=Ei z h;have h1:¬m > 131072:=by omega
 refine aj ?_;rw [Nv];simp only [ai,↓reduceIte,GD,a,h1]
theorem S8(x y:Int)(b:(dz x).length<=900)(hy:(dz y).length<=900)(hz:(dz (x+y)).length<=900):Or (.call 130) [LZ x,LZ y] []=some [tb (decide (x+y < 0)),T.str (bJ (dz (x+y))),ti 0]:=by have a:=Sw x y b hy;have k2:=Kq (x+y) hz;unfold RZ at a;refine aj ?_;rw [Ov];simp only [ai,GD,a,k2]
theorem QX(q s u:Bool)(x y:List Int)(a:Int)(E: 0<=a/\a < 4294967296)(hy:Dg y)(i:Nat)(hi:i<=1000)(S:y.length<=1000)(R:List T):∀(l:List Int) (j:Nat) (c:Int) (e f:List Int),y.drop j=l->j<=y.length->e.length=i+j->l.length < f.length->Dg f->0<=c/\c < 4294967296->
  Or tQ [lu s y,o0,lu q x,I (x.length:Int),I ((i+1:Nat):Int)] [ab.sl false 1 false (ay (e++gK a l f c))]=some R->
  Or xo [lu s y,o0,I (i:Int),AV.t (T.int .u32 a),AV.t (T.int .u64 c),lu q x,I (x.length:Int),I (i:Int),lu u y,I (y.length:Int),I (j:Int)] [ab.sl false 1 false (ay (e++f))]=some R:=by
 intro l;induction l with
 | nil=>
  intro j c e f h H m hm g F k;have Q:=bm h;obtain rfl:j=y.length:=by omega
  match f,hm with
  | o::r,_=>
   have h1:¬(y.length:Int) < (y.length:Int):=by omega
   have p:i64.wrap ((i:Int)+ (y.length:Int))= ((i+y.length:Nat):Int):=by rw [cB (by omega)];omega
   have n: 0<=((i+y.length:Nat):Int)/\((i+y.length:Nat):Int) < ((e++o::r).length:Int):=by simp;omega
   have hs:=oO (d:=e++o::r) (i:=i+y.length) (by simp;omega) c;rw [n9 e o c r _ m] at hs;have z:u32.wrap c=c:=by rw [cJ];omega
   refine aj ?_;rw [Gn];simp only [ai,↓reduceIte,GD,h1,aL,p,n,and_self,z,hs,next i (by omega)];exact k
 | cons b l J=>
  intro j c e f h H m hm g F k;obtain⟨A,B,C⟩:=bh h;have hb:=hy b (U8 A);have w:=fU h
  match f,hm,g,k with
  | o::r,hm,g,k=>
   have U:=g o U9;have P:=lk E hb;have h1:(j:Int) < (y.length:Int):=by omega
   have D: 0<=(j:Int):=by omega
   have p:i64.wrap ((i:Int)+ (j:Int))= ((i+j:Nat):Int):=by rw [cB (by omega)];omega
   have n: 0<=((i+j:Nat):Int)/\((i+j:Nat):Int) < ((e++o::r).length:Int):=by simp;omega
   have G:(ay (e++o::r))[((i+j:Nat):Int).toNat]? =some [T.int .u32 o]:=by rw [bE (by simp;omega),rT e o r _ m]
   have hs:∀v,bp ((i+j:Nat):Int).toNat 0 [T.int .u32 v] (ay (e++o::r))=some (ay ((e++ [v])++r)):=λv=>by rw [oO (by simp;omega),n9 e o v r _ m];simp
   have K:u64.wrap a=a:=be (by omega);have L:u64.wrap b=b:=be (by omega);have M:u64.wrap o=o:=be (by omega);have w4:u64.wrap (a * b)=a * b:=be (by omega);have N:u64.wrap (a * b+o)=a * b+o:=be (by omega);have O:u64.wrap (c+ (a * b+o))=c+a * b+o:=by rw [be (by omega)];omega
   have:=J (j+1) ((c+a * b+o) / 4294967296) (e++ [(c+a * b+o) % 4294967296]) r C (by omega) (by simp;omega) (by simpa using hm) g.tail (by omega) (by
    rw [gK] at k;rw [VI];exact k)
   refine aj ?_;rw [Gn];simp only [ai,↓reduceIte,GD,h1,D,and_self,aL,bE B,w,p,n,G,K,L,M,w4,N,O,cJ,hs,ix,next j (by omega)];exact this
theorem QW(z s:Bool)(x y:List Int)(M:Dg x)(hy:Dg y)(S:x.length<=400)(U:y.length<=400):∀(e:List Int) (i:Nat) (f b:List Int),x.drop i=e->i<=x.length->f.length=i->b.length=y.length->Dg f->Dg b->
  ∃d,Or tQ [lu s y,o0,lu z x,I (x.length:Int),I (i:Int)] [ab.sl false 1 false (ay (f++ (b++List.replicate e.length 0)))]=some [T.aa 1 false (ay d)]/\
   Dg d/\d.length=x.length+y.length/\val d=val (f++b)+4294967296 ^ i * (val e * val y):=by
 intro e;induction e with
 | nil=>
  intro i f b h hi m g l j;have R:=bm h;have h1:¬(i:Int) < (x.length:Int):=by omega
  have w:(f++b).length=x.length+y.length:=by simp;omega
  refine⟨f++b,aj ?_,λu hu=> ?_,w,by simp [val]⟩
  .rw [Gm];simp only [VL,WV,V9];simp only [ai,↓reduceIte,GD,h1]
  .rcases Vr.1 hu with hu | hu
   .exact l u hu
   .exact j u hu
 | cons a e N=>
  intro i f b h hi m g l j;obtain⟨H,J,K⟩:=bh h;have v:=M a (U8 H);have B:=fU h;have h1:(i:Int) < (x.length:Int):=by omega
  have L: 0<=(i:Int):=by omega
  have A:Dg (b++ [0]):=λu hu=>by
   rcases Vr.1 hu with hu | hu
   .exact j u hu
   .simp only [Vj] at hu;subst hu;omega
  have F:=Dx v (y:=y) (o:=b) (r:= []) (c:=0) g.symm;have p:=Dv (a:=a) (y:=y) (o:=b++ [0]) (c:=0);have n:=Du v (y:=y) (o:=b++ [0]) (c:=0) hy A (by omega);have E:=Dw (a:=a) (y:=y) (o:=b) (r:=List.replicate e.length 0) (q:=0) (c:=0) g.symm;have C:Dg (b++List.replicate (a::e).length 0):=λu hu=>by
   rcases Vr.1 hu with hu | hu
   .exact j u hu
   .have:=WN hu;omega
  generalize gK a y (b++ [0]) 0=res at *
  cases res with
  | nil=>simp at p
  | cons k t=>
   simp only [Vw,Wr,VL] at p;obtain⟨d,O,k2,P,Q⟩:=N (i+1) (f++ [k]) t K (by omega) (by simp [m]) (by omega) (λu hu=>by
    rcases Vr.1 hu with hu | hu
    .exact l u hu
    .simp only [Vj] at hu;subst hu;exact n u U9) n.tail
   have D:=QX z s s x y a v hy i (by omega) (by omega) _ y 0 0 f (b++List.replicate (a::e).length 0) rfl (by omega) (by omega) (by simp;omega) C (by omega) (by
    rw [show b++List.replicate (a::e).length 0=b++0::List.replicate e.length 0 from rfl,E];rw [show f++ (k::t++List.replicate e.length 0)=f++ [k] ++ (t++List.replicate e.length 0) from by simp];exact O)
   refine⟨d,aj ?_,k2,P, ?_⟩
   .rw [Gm];simp only [ai,↓reduceIte,GD,h1,L,and_self,aL,bE J,B];exact D
   .rw [Q];have G:f++ [k] ++t=f++k::t:=by simp
    have e2:val (b++ [0])=val b:=by rw [fc];simp [val]
    have e3:(4294967296:Int) ^ i * ((a+4294967296 * val e) * val y)=4294967296 ^ i * (a * val y)+4294967296 ^ i * 4294967296 * (val e * val y):=by rw [Xl,VF];simp only [VQ]
    rw [G,fc,fc,m,F,e2,Xd];simp only [val];rw [e3,YY,VF];omega
theorem Sx(b c:Bool)(x y:List Int)(k:Dg x)(hy:Dg y)(f:x.length<=400)(g:y.length<=400):∃d,Or (.call 133) [lu b x,lu c y] []=some [T.aa 1 false (ay d)]/\Dg d/\d.length=x.length+y.length/\val d=val x * val y:=by
 obtain⟨d,h,k2,l,m⟩:=QW b c x y k hy f g x 0 [] (List.replicate y.length 0) rfl (by omega) rfl (by simp) (λu a=>by cases a) (λu a=>by
  have:=WN a;omega)
 have j:i64.wrap ((x.length:Int)+ (y.length:Int))= ((y.length+x.length:Nat):Int):=by rw [cB (by omega)];omega
 have e:bu ((y.length+x.length:Nat):Int) ((y.length+x.length:Nat):Int)=some ():=by unfold bu du;rw [if_pos (by omega)]
 have i:ay ([] ++ (List.replicate y.length 0++List.replicate x.length 0))=List.replicate (y.length+x.length) [T.int u32 0]:=by rw [Ve,X8];simp [ay]
 rw [i] at h;refine⟨d,aj ?_,k2,l,by rw [m,Ve,AW];simp⟩;rw [Nw];simp only [aL,j];simp only [GD,e,VA];exact h
theorem S9(x y:Int)(z:(dz x).length<=300)(hy:(dz y).length<=300):Or (.call 105) [LZ x,LZ y] []=some [tb (decide (x * y < 0)),T.str (bJ (dz (x * y))),ti 0]:=by
 obtain⟨m,i,r,s⟩:=Ei x (by omega);obtain⟨n,j,t,u⟩:=Ei y (by omega);have h:¬m+n > 131073:=by omega
 have p:=lD x (by omega);have k2:=lD y (by omega);obtain⟨d,l,f,w,g⟩:=Sx false false (dz x) (dz y) (eA x) (eA y) (by omega) (by omega);have e:=n8 (!decide (x < 0)==decide (y < 0)) false d f (by omega);have hv:(if(!decide (x < 0)==decide (y < 0))=true then -val d else val d)=x * y:=by
  rw [g,eK,eK,<-XC,<-VP];have c:∀a b:Int,0<=a->0<=b->0<=a * b:=λa b=>Wg;by_cases h1:x < 0 <;> by_cases o:y < 0 <;> simp only [h1,o,decide_true,decide_false]
  .have:=c (-x) (-y) (by omega) (by omega);rw [Int.neg_mul_neg] at this;simp;omega
  .have:=c (-x) y (by omega) (by omega);rw [YO] at this;simp;omega
  .have:=c x (-y) (by omega) (by omega);rw [Int.mul_neg] at this;simp;omega
  .have:=c x y (by omega) (by omega);simp;omega
 rw [hv] at e;have hz:(dz (x * y)).length<=900:=by refine VU (yV (k:=d.length) ?_) (by omega);have:=fH f;rw [g,eK,eK,<-XC,<-VP] at this;exact this
 have q:=Kq (x * y) hz;unfold RZ at e;refine aj ?_;rw [Ow];simp only [ai,↓reduceIte,GD,i,j,cB (v:=m+n) (by omega),h,p,k2,l,e,q]
theorem qO(x:Int)(h: -9223372036854775808<=x/\x < 9223372036854775808):Or (.call 69) [I x] []=some (RZ x):=by
 refine aj ?_;rw [Cq];by_cases g:x < 0
 .have f:u64.wrap (0 - u64.wrap x)= -x:=by simp only [mE];omega
  have c:Dg [(-x) % 4294967296,(-x) / 4294967296]:=λu e=>by simp only [Vk,YT,or_false] at e;omega
  have hv:val [(-x) % 4294967296,(-x) / 4294967296]= -x:=by simp only [val];omega
  have k:=n8 true false _ c (by simp);rw [hv,if_pos rfl,Int.neg_neg] at k;have d:ay [(-x) % 4294967296,(-x) / 4294967296]= [[T.int .u32 ((-x) % 4294967296)],[T.int .u32 ((-x) / 4294967296)]]:=rfl;simp only [lu,d] at k;unfold RZ at k;have b:u32.wrap ((-x) / 4294967296)= (-x) / 4294967296:=nh (by omega);have a:decide (x < 0)=true:=decide_eq_true g;rw [a];simp only [ai,GD,f,ix,cJ (-x),b,k];rfl
 .have f:u64.wrap x=x:=be (by omega);have c:Dg [x % 4294967296,x / 4294967296]:=λu e=>by
   simp only [Vk,YT,or_false] at e;omega
  have hv:val [x % 4294967296,x / 4294967296]=x:=by simp only [val];omega
  have k:=n8 false false _ c (by simp);rw [hv] at k;have d:ay [x % 4294967296,x / 4294967296]= [[T.int .u32 (x % 4294967296)],[T.int .u32 (x / 4294967296)]]:=rfl;simp only [lu,d] at k;unfold RZ at k;have b:u32.wrap (x / 4294967296)=x / 4294967296:=nh (by omega);have a:decide (x < 0)=false:=decide_eq_false g;simp only [VD,↓reduceIte] at k;rw [a];simp only [ai,GD,f,ix,cJ x,b,k];unfold RZ;rfl
theorem RJ{v n:Int}(hv: 0<=v/\v < 4294967296)(a: 0<=n/\n < 4294967296):
  u64.wrap (((BitVec.ofInt 64 n ||| BitVec.ofInt 64 (u64.wrap (v * (2:Int) ^ 32))).toNat:Nat):Int)=v * 4294967296+n:=by
 have h:=nS hv a;rw [BitVec.or_comm,be (v:=n) (by omega)] at h;exact h
theorem JO{n:Int}(a: 0<=n/\n < 4294967296):u64.wrap (((BitVec.ofInt 64 0 ||| BitVec.ofInt 64 n).toNat:Nat):Int)=n:=by have h:=nS (v:=0) (n:=n) (by omega) a;rw [Int.zero_mul,be (v:=0) (by omega),be (v:=n) (by omega),Int.zero_mul,YY] at h;exact h
theorem Cu(u:Int)(s:Bool)(d:List Int)(x:ByteArray)(f: 0<=u/\u < 18446744073709551616)(i:Nat)(hi:i=d.length)(e:Bool):
  Or rG [r0,AV.t (T.int .u64 u),lu e d,I (d.length:Int),I (i:Int)] [ab.box [B s,AV.t (T.str x)]]=
   some (if -9223372036854775808<=(if s then -u else u)/\(if s then -u else u) < 9223372036854775808 then [ti (if s then -u else u),tb true] else [ti 0,tb false]):=by
 subst hi;refine aj ?_;rw [y7];have h1:¬(d.length:Int) < (d.length:Int):=by omega
 cases s with
 | true=>
  by_cases b:u<=9223372036854775808
  .have c:i64.wrap (0 - i64.wrap u)= -u:=by
    simp only [IntKind.wrap,IntKind.signed,IntKind.bits];simp;omega
   have a: -9223372036854775808<= -u/\ -u < 9223372036854775808:=by omega
   simp only [ai,↓reduceIte,GD,h1,b,c,decide_true,a,and_self]
  .have a:¬(-9223372036854775808<= -u/\ -u < 9223372036854775808):=by omega
   simp only [ai,↓reduceIte,GD,h1,b,decide_false,a]
 | false=>
  by_cases b:u < 9223372036854775808
  .have c:i64.wrap u=u:=cB (by omega);have a: -9223372036854775808<=u/\u < 9223372036854775808:=by omega
   simp only [ai,↓reduceIte,GD,h1,b,c,decide_true,VD,a,and_self]
  .have a:¬(-9223372036854775808<=u/\u < 9223372036854775808):=by omega
   simp only [ai,↓reduceIte,GD,h1,b,decide_false,VD,and_false]
theorem KC(z:Int)(h:(dz z).length<=900):Or (.call 89) [LZ z] []=some (if -9223372036854775808<=z/\z < 9223372036854775808 then [ti z,tb true] else [ti 0,tb false]):=by
 have D:=lD z (by omega);have e:=eA z;have hv:=eK z;have H:=iX z;by_cases f:((dz z).length:Int) > 2
 .have E:¬(-9223372036854775808<=z/\z < 9223372036854775808):=by
   intro hz;have:=@yV z 2 (by
    have:(4294967296:Int) ^ 2=18446744073709551616:=by decide
    rw [this];omega)
   omega
  refine aj ?_;rw [y6,if_neg E];simp only [ai,↓reduceIte,GD,D,aL,f]
 .have k:∀u:Int,u= (z.natAbs:Int)->(if decide (z < 0)=true then -u else u)=z:=λu J=>by
   simp only [decide_eq_true_eq];split <;> omega
  have s:∀(d:List Int),d=dz z->Or rG [r0,AV.t (T.int .u64 0),lu false d,I (d.length:Int),I 0] [ab.box [B (decide (z < 0)),AV.t (T.str (bJ (dz z)))]]=some (if -9223372036854775808<=z/\z < 9223372036854775808 then [ti z,tb true] else [ti 0,tb false]):=by
   intro d w;rw [<-w] at hv e f
   match d,w,hv,e,f with
   | [],_,hv,_,_=>have:=Cu 0 (decide (z < 0)) [] (bJ (dz z)) (by omega) 0 rfl false;rw [k 0 (by rw [<-hv];rfl)] at this;exact this
   | [a],_,hv,e,_=>
    have l:=e a U9;simp only [val,Xt,W8] at hv;have:=Cu a (decide (z < 0)) [a] (bJ (dz z)) (by omega) 1 rfl false;rw [k a hv] at this;refine aj ?_;rw [y7];have r:i64.wrap (32 * 0)=0:=by decide
    have q:min (0:Int).toNat 64=0:=rfl;have p:u64.wrap a=a:=be (by omega);have i:(0:Int) < (([a]:List Int).length:Int):=by simp
    have n:(ay [a])[(0:Int).toNat]? =some [T.int .u32 a]:=rfl;have g:¬(0:Int) < 0:=by omega
    have j:i64.wrap (0+1)= ((1:Nat):Int):=by decide
    have o:(0:Int)<=0/\(0:Int) < (([a]:List Int).length:Int):=⟨by omega,i⟩;simp only [ai,↓reduceIte,GD,aL,i,o,and_self,n,r,q,g,Yl,Yd,p,JO l,j];exact this
   | [a,b],_,hv,e,_=>
    have l:=e a U9;have hb:=e b (Va _ U9);simp only [val,Xt,W8] at hv;have:=Cu (b * 4294967296+a) (decide (z < 0)) [a,b] (bJ (dz z)) (by omega) 2 rfl false;rw [k (b * 4294967296+a) (by omega)] at this;have r:i64.wrap (32 * 0)=0:=by decide
    have q:min (0:Int).toNat 64=0:=rfl;have G:i64.wrap (32 * ((1:Nat):Int))=32:=by decide
    have F:min (32:Int).toNat 64=32:=rfl;have p:u64.wrap a=a:=be (by omega);have C:u64.wrap b=b:=be (by omega);have i:(0:Int) < (([a,b]:List Int).length:Int):=by simp
    have m:((1:Nat):Int) < (([a,b]:List Int).length:Int):=by simp
    have n:(ay [a,b])[(0:Int).toNat]? =some [T.int .u32 a]:=rfl;have x:(ay [a,b])[((1:Nat):Int).toNat]? =some [T.int .u32 b]:=rfl;have g:¬(0:Int) < 0:=by omega
    have v:¬(32:Int) < 0:=by omega
    have j:i64.wrap (0+1)= ((1:Nat):Int):=by decide
    have y:i64.wrap (((1:Nat):Int)+1)= ((2:Nat):Int):=by decide
    have o:(0:Int)<=0/\(0:Int) < (([a,b]:List Int).length:Int):=⟨by omega,i⟩;have A:(0:Int)<=((1:Nat):Int)/\((1:Nat):Int) < (([a,b]:List Int).length:Int):=⟨by omega,m⟩;have step:Or rG [r0,AV.t (T.int .u64 a),lu false [a,b],I (([a,b]:List Int).length:Int),I ((1:Nat):Int)] [ab.box [B (decide (z < 0)),AV.t (T.str (bJ (dz z)))]]=some (if -9223372036854775808<=z/\z < 9223372036854775808 then [ti z,tb true] else [ti 0,tb false]):=by refine aj ?_;rw [y7];simp only [ai,↓reduceIte,GD,aL,m,A,and_self,x,G,F,v,C,RJ hb l,y];exact this
    refine aj ?_;rw [y7];simp only [ai,↓reduceIte,GD,aL,i,o,and_self,n,r,q,g,Yl,Yd,p,JO l,j];exact step
   | a::b::c::d,_,_,_,f=>simp at f;omega
  refine aj ?_;rw [y6];simp only [ai,↓reduceIte,GD,D,aL,f];exact s _ rfl
end Go.Aev.Wd.Lg
