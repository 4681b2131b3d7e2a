import Derived.Test.YtcffabneepdohaaGreatDoorBlastMeansQ9
import Derived.Test.YtcffabneepdohaaGreatDoorBlastMeansQ19
import Derived.Test.YtcffabneepdohaaGreatDoorBlastMeansQ20
set_option linter.all false
namespace Go.Aev.Gen.Wo
open Go Go.Aev Go.Aev.Gen Go.IntKind
abbrev bI(a b:Int):aa:=aa.box [I a,I b]
def gw(b:Int):Prop:=1<=b/\b<=8
instance (b:Int):Decidable (gw b):=by unfold gw;infer_instance
theorem CK{b:Int}(a:gw b):pw b=2\/pw b=4\/pw b=8\/pw b=16\/pw b=32\/pw b=64\/pw b=128\/pw b=256:=by
 have:b=1\/b=2\/b=3\/b=4\/b=5\/b=6\/b=7\/b=8:=by unfold gw at a;omega
 unfold pw;rcases this with rfl | rfl | rfl | rfl | rfl | rfl | rfl | rfl <;> simp
theorem mV{b:Int}(a:gw b):i64.wrap (1 * 2 ^ min b.toNat 64)=pw b:=by
 have:b=1\/b=2\/b=3\/b=4\/b=5\/b=6\/b=7\/b=8:=by unfold gw at a;omega
 rcases this with rfl | rfl | rfl | rfl | rfl | rfl | rfl | rfl <;> decide
def iC(w b:Int):Prop:=0<=w/\w < pw b
instance (w b:Int):Decidable (iC w b):=by unfold iC;infer_instance
theorem zy(b:Int):Or (.call 110) [I b] []=some [tb (decide (gw b))]:=by refine ai ?_;rw [Vc];simp only [s5,ge_iff_le,<-ZC,gw]
def mS(o:Int):Int:=if o=15 then 0 else if o=16\/o=23 then 1 else 2
theorem C0(o:Int):Or (.call 111) [I o] []=some [ti (mS o)]:=by
 refine ai ?_;rw [Vd];unfold mS;by_cases a:o=15
 .simp only [an,↓reduceIte,Int.reduceBEq,Int.reduceEq,a]
 .by_cases b:o=16
  .simp only [an,↓reduceIte,Int.reduceBEq,Int.reduceEq,b,true_or]
  .by_cases c:o=23
   .simp only [an,↓reduceIte,Int.reduceBEq,Int.reduceEq,c,or_true]
   .simp only [an,↓reduceIte,Int.reduceBEq,Int.reduceEq,a,b,c,or_self]
theorem zz(w b:Int)(a:gw b):Or (.call 112) [I w,I b] []=some [tb (decide (iC w b))]:=by
 refine ai ?_;rw [Ve,mV a];have h0:¬b < 0:=by unfold gw at a;omega
 simp only [s5,ge_iff_le,<-ZC];simp only [an,↓reduceIte,Int.reduceBEq,Int.reduceEq,h0,iC]
def lZ(o b n:Int):Prop:=if o=15 then iC n b else if o=23 then 0<=n/\n<=8 else n=0
instance (o b n:Int):Decidable (lZ o b n):=by unfold lZ;infer_instance
theorem nb(o b n:Int)(d:gw b):Or (.call 113) [I o,I b,I n] []=some [tb (decide (lZ o b n))]:=by
 refine ai ?_;rw [Vf];unfold lZ;by_cases a:o=15
 .simp only [an,↓reduceIte,Int.reduceBEq,Int.reduceEq,a,zz n b d]
 .by_cases c:o=23
  .simp only [s5,ge_iff_le,<-ZC];simp only [an,↓reduceIte,Int.reduceBEq,Int.reduceEq,c]
  .simp only [an,↓reduceIte,Int.reduceBEq,Int.reduceEq,a,c];rfl
theorem nS(b v:Int)(g:gw b):i64.wrap (BitVec.ofInt 64 v &&& BitVec.ofInt 64 (i64.wrap (pw b - 1))).toNat=v % pw b:=by
 have key:∀k:Nat,k<=8->((BitVec.ofInt 64 v &&& BitVec.ofNat 64 (2 ^ k - 1)).toNat:Int)=v % 2 ^ k:=by
  intro k d;have f: 2 ^ k - 1 < 2 ^ 64:=by have: 2 ^ k<=2 ^ 8:=YB (by decide) d;omega
  rw [ZA,BitVec.toNat_ofNat,Zs f,Nat.and_two_pow_sub_one_eq_mod,BitVec.toNat_ofInt];have i:(2 ^ k:Int) ∣ 2 ^ 64:=⟨2 ^ (64 - k),by rw [<-Int.pow_add];congr 1;omega⟩;have l:(0:Int)<=v % 2 ^ 64:=Int.emod_nonneg _ (by decide);rw [Int.natCast_emod];show((v % 2 ^ 64).toNat:Int) % ((2 ^ k:Nat):Int)=_;rw [Int.toNat_of_nonneg l];rw [show((2 ^ k:Nat):Int)= (2:Int) ^ k from by simp];exact Int.emod_emod_of_dvd _ i
 have a:∀k:Nat,k<=8->b.toNat=k->BitVec.ofInt 64 (i64.wrap (2 ^ k - 1))=BitVec.ofNat 64 (2 ^ k - 1)->i64.wrap (BitVec.ofInt 64 v &&& BitVec.ofInt 64 (i64.wrap (pw b - 1))).toNat=v % pw b:=by
  intro k d e j;unfold pw;rw [e,j,key k d];have c:(0:Int) < 2 ^ k:=Int.pow_pos (by decide);have o:=Int.emod_nonneg v (Int.ne_of_gt c);have p:=Int.emod_lt_of_pos v c;have q:(2:Int) ^ k<=256:=by have h:=YB (n:=2) (by decide) d;have:((2 ^ k:Nat):Int)<=((2 ^ 8:Nat):Int):=Int.ofNat_le.2 h;simpa using this
  exact wr (by omega)
 have:b=1\/b=2\/b=3\/b=4\/b=5\/b=6\/b=7\/b=8:=by unfold gw at g;omega
 rcases this with rfl | rfl | rfl | rfl | rfl | rfl | rfl | rfl
 .exact a 1 (by decide) rfl (by decide)
 .exact a 2 (by decide) rfl (by decide)
 .exact a 3 (by decide) rfl (by decide)
 .exact a 4 (by decide) rfl (by decide)
 .exact a 5 (by decide) rfl (by decide)
 .exact a 6 (by decide) rfl (by decide)
 .exact a 7 (by decide) rfl (by decide)
 .exact a 8 (by decide) rfl (by decide)
theorem uJ(v b:Int)(c:gw b):i64.wrap v % pw b=v % pw b:=by
 have a:pw b ∣ 18446744073709551616:=by rcases CK c with h | h | h | h | h | h | h | h <;> rw [h] <;> decide
 have:∃k,i64.wrap v=v+18446744073709551616 * k:=by
  simp only [IntKind.wrap,IntKind.signed,IntKind.bits];simp;split
  .exact⟨-(v / 18446744073709551616) - 1,by omega⟩
  .exact⟨-(v / 18446744073709551616),by omega⟩
 obtain⟨k,e⟩:=this;obtain⟨d,a⟩:=a;rw [e,a,Int.mul_assoc,Zm]
theorem sC{n:Int}(h: 0<=n/\n < 256):(BitVec.ofInt 64 n).toNat=n.toNat:=by
 rw [BitVec.toNat_ofInt];show(n % 18446744073709551616).toNat=n.toNat
 rw [Y5 h.1 (by omega)]
def mB(b:Int):List Int->Nat->Option Nat
 | [],_=>none
 | k::ks,i=>if iC k b then mB b ks (i+1) else some i
def lE(o b:Int)(ks:List Int)(n:Int):List T:=
 if o < 15\/o > 23 then [ti 0,ti 4,ti 0]
 else if ¬gw b then [ti 0,ti 3,ti (-1)]
 else if ¬(ks.length:Int)=mS o then [ti 0,ti 9,ti 0]
 else match mB b ks 0 with
  | some i=> [ti 0,ti 3,ti i]
  | none=>if lZ o b n then [ti (iA o b ks n),ti 0,ti 0] else [ti 0,ti 5,ti 0]
theorem Jk(b:Int):pw b= ((2 ^ b.toNat:Nat):Int):=by simp [pw]
theorem w6{k b:Int}(h:iC k b):k.toNat < 2 ^ b.toNat:=by have:=h.2;rw [Jk] at this;have h0:=h.1;omega
theorem Da{x:Nat}{b:Int}(h:x < 2 ^ b.toNat):(x:Int) % pw b= (x:Int):=by rw [Jk];exact Y5 (by omega) (by omega)
theorem sD{k b:Int}(c:gw b)(h:iC k b): 0<=k/\k < 256:=by have h0:=h.1;have a:=h.2;rcases CK c with e | e | e | e | e | e | e | e <;> rw [e] at a <;> omega
theorem RY{k:Int}(h: 0<=k/\k < 256):i64.wrap (BitVec.ofInt 64 (if i64.signed=true then -1 else i64.max) ^^^ BitVec.ofInt 64 k).toNat= -1 - k:=by
 have e:BitVec.ofInt 64 (if i64.signed=true then -1 else i64.max)=BitVec.allOnes 64:=by decide
 rw [e,BitVec.xor_comm,BitVec.xor_allOnes,BitVec.toNat_not,sC h];simp only [IntKind.wrap,IntKind.signed,IntKind.bits];simp;omega
theorem Es{b:Int}:∀{ks:List Int} {i:Nat},mB b ks i=none->∀k∈ks,iC k b
 | [],_,_,k,c=>by cases c
 | a::ks,i,h,k,c=>by
  simp only [mB] at h;by_cases d:iC a b
  .rw [if_pos d] at h;rcases WC.1 c with rfl | c
   .exact d
   .exact Es h k c
  .rw [if_neg d] at h;cases h
abbrev Dy(o b:Int)(e:Bool)(ks:List Int)(n i:Int):List AV:= [I o,I b,ad e ks,I n,r0,ad e ks,I (ks.length:Int),I i]
theorem RF(o b:Int)(g:gw b)(e:Bool)(ks:List Int)(n:Int)(hl:ks.length<=2)(j:Nat):∀(c:List Int) (i:Nat),ks.drop i=c->mB b c i=some j->
  Or sQ (Dy o b e ks n (i:Int)) [bI 0 0]=some [ti 0,ti 3,ti j]:=by
 intro c;induction c with
 | nil=>intro i _ h;simp [mB] at h
 | cons k c q=>
  intro i p a;obtain⟨f,r,l⟩:=br p;refine ai ?_;rw [DF];have h:(i:Int) < (ks.length:Int):=by omega
  have h0:(0:Int)<=(i:Int):=by omega
  have w:i64.wrap ((i:Int)+1)= ((i+1:Nat):Int):=by rw [wr (by omega)];omega
  simp only [mB] at a;by_cases d:iC k b
  .rw [if_pos d] at a;simp only [an,↓reduceIte,Int.reduceBEq,Int.reduceEq,h,h0,and_self,aD,bP f,zz k b g,d,decide_true,w,q (i+1) l a]
  .rw [if_neg d] at a;simp only [Wj] at a;subst a;simp only [an,↓reduceIte,Int.reduceBEq,Int.reduceEq,h,h0,and_self,aD,bP f,zz k b g,d,decide_false]
theorem g0(k:Int)(r:List Int):(enc (k::r))[0]? =some [ti k]:=by simp [enc]
theorem g1(k l:Int)(r:List Int):(enc (k::l::r))[1]? =some [ti l]:=by simp [enc]
theorem HQ(k:Int):(0:Int) < (([k]:List Int).length:Int):=by simp
theorem rR(k l:Int):(0:Int) < (([k,l]:List Int).length:Int):=by simp
theorem rS(k l:Int):(1:Int) < (([k,l]:List Int).length:Int):=by simp
theorem oH:(0:Int)<=0:=by decide
theorem rQ:(0:Int)<=1:=by decide
theorem RG(o b:Int)(a:gw b)(ho: 15<=o/\o<=23)(e:Bool)(ks:List Int)(n:Int)(hl:(ks.length:Int)=mS o)(i:∀k∈ks,iC k b):
  Or sQ (Dy o b e ks n (ks.length:Int)) [bI 0 0]=some (if lZ o b n then [ti (iA o b ks n),ti 0,ti 0] else [ti 0,ti 5,ti 0]):=by
 refine ai ?_;rw [DF];have h:¬(ks.length:Int) < (ks.length:Int):=by omega
 have d:¬b < 0:=by unfold gw at a;omega
 by_cases f:lZ o b n
 .have one:mS o=1->∃k,ks= [k]/\iC k b:=by
   intro r;rw [r] at hl;obtain⟨k,rfl⟩:=X0.1 (show ks.length=1 by omega);exact⟨k,rfl,i k (by simp)⟩
  have j:mS o=2->∃k l,ks= [k,l]/\iC k b/\iC l b:=by
   intro r;rw [r] at hl
   match ks,hl,i with
   | [k,l],_,i=>exact⟨k,l,rfl,i k (by simp),i l (by simp)⟩
  have:o=15\/o=16\/o=17\/o=18\/o=19\/o=20\/o=21\/o=22\/o=23:=by omega
  rcases this with rfl | rfl | rfl | rfl | rfl | rfl | rfl | rfl | rfl
  .have t:iC n b:=by simpa [lZ] using f
   have hm:n % pw b=n:=Y5 t.1 t.2;simp only [an,↓reduceIte,Int.reduceBEq,Int.reduceEq,h,nb 15 b n a,f,decide_true,d,mV a,nS b _ a,iA,hm]
  .obtain⟨k,rfl,g⟩:=one (by decide);simp only [an,↓reduceIte,Int.reduceBEq,Int.reduceEq,h,nb 16 b n a,f,decide_true,d,mV a,nS b _ a,iA,aD,oH,HQ,and_self,g0,RY (sD a g),XR]
  .obtain⟨k,l,rfl,g,c⟩:=j (by decide);have p:i64.wrap (((k.toNat &&& l.toNat:Nat):Nat):Int) % pw b= ((k.toNat &&& l.toNat:Nat):Int):=by
    rw [uJ _ _ a,Da (Nat.and_lt_two_pow _ (w6 c))]
   simp only [an,↓reduceIte,Int.reduceBEq,Int.reduceEq,h,nb 17 b n a,f,decide_true,d,mV a,nS b _ a,iA,aD,oH,rQ,rR,rS,and_self,g0,g1,XR,XG];simp only [ZA,sC (sD a g),sC (sD a c),p]
  .obtain⟨k,l,rfl,g,c⟩:=j (by decide);have p:i64.wrap (((k.toNat ||| l.toNat:Nat):Nat):Int) % pw b= ((k.toNat ||| l.toNat:Nat):Int):=by
    rw [uJ _ _ a,Da (Nat.or_lt_two_pow (w6 g) (w6 c))]
   simp only [an,↓reduceIte,Int.reduceBEq,Int.reduceEq,h,nb 18 b n a,f,decide_true,d,mV a,nS b _ a,iA,aD,oH,rQ,rR,rS,and_self,g0,g1,XR,XG];simp only [BitVec.toNat_or,sC (sD a g),sC (sD a c),p]
  .obtain⟨k,l,rfl,g,c⟩:=j (by decide);have p:i64.wrap (((k.toNat ^^^ l.toNat:Nat):Nat):Int) % pw b= ((k.toNat ^^^ l.toNat:Nat):Int):=by
    rw [uJ _ _ a,Da (Nat.xor_lt_two_pow (w6 g) (w6 c))]
   simp only [an,↓reduceIte,Int.reduceBEq,Int.reduceEq,h,nb 19 b n a,f,decide_true,d,mV a,nS b _ a,iA,aD,oH,rQ,rR,rS,and_self,g0,g1,XR,XG];simp only [BitVec.toNat_xor,sC (sD a g),sC (sD a c),p]
  .obtain⟨k,l,rfl,g,c⟩:=j (by decide);simp only [an,↓reduceIte,Int.reduceBEq,Int.reduceEq,h,nb 20 b n a,f,decide_true,d,mV a,nS b _ a,iA,aD,oH,rQ,rR,rS,and_self,g0,g1,uJ _ _ a,XR,XG]
  .obtain⟨k,l,rfl,g,c⟩:=j (by decide);simp only [an,↓reduceIte,Int.reduceBEq,Int.reduceEq,h,nb 21 b n a,f,decide_true,d,mV a,nS b _ a,iA,aD,oH,rQ,rR,rS,and_self,g0,g1,uJ _ _ a,XR,XG]
  .obtain⟨k,l,rfl,g,c⟩:=j (by decide);have w:(1:Int) % pw b=1:=by rcases CK a with e | e | e | e | e | e | e | e <;> rw [e] <;> decide
   have v:(0:Int) % pw b=0:=by simp
   by_cases q:k < l
   .simp only [an,↓reduceIte,Int.reduceBEq,Int.reduceEq,h,nb 22 b n a,f,decide_true,d,mV a,nS b _ a,iA,aD,oH,rQ,rR,rS,and_self,g0,g1,q,w,XR,XG]
   .simp only [an,↓reduceIte,Int.reduceBEq,Int.reduceEq,h,nb 22 b n a,f,decide_true,d,mV a,nS b _ a,iA,aD,oH,rQ,rR,rS,and_self,g0,g1,q,v,XR,XG]
  .obtain⟨k,rfl,g⟩:=one (by decide);have t: 0<=n/\n<=8:=by simpa [lZ] using f
   have u:¬n < 0:=by omega
   have s:min n.toNat 64=n.toNat:=by omega
   simp only [an,↓reduceIte,Int.reduceBEq,Int.reduceEq,h,nb 23 b n a,f,decide_true,d,u,mV a,nS b _ a,iA,aD,oH,HQ,and_self,g0,s,uJ _ _ a,XR]
 .simp only [an,↓reduceIte,Int.reduceBEq,Int.reduceEq,h,nb o b n a,f,decide_false]
theorem RH(o b:Int)(g:gw b)(ho: 15<=o/\o<=23)(e:Bool)(ks:List Int)(n:Int)(hl:(ks.length:Int)=mS o)(q:ks.length<=2)(c:∀k∈ks,iC k b):∀(a:List Int) (i:Nat),ks.drop i=a->i<=ks.length->
  Or sQ (Dy o b e ks n (i:Int)) [bI 0 0]=some (if lZ o b n then [ti (iA o b ks n),ti 0,ti 0] else [ti 0,ti 5,ti 0]):=by
 intro a;induction a with
 | nil=>
  intro i d l;have:=bt d;have:i=ks.length:=by omega
  subst this;exact RG o b g ho e ks n hl c
 | cons k a r=>
  intro i d l;obtain⟨f,s,j⟩:=br d;have p:=c k (Wx f);refine ai ?_;rw [DF];have h:(i:Int) < (ks.length:Int):=by omega
  have h0:(0:Int)<=(i:Int):=by omega
  have w:i64.wrap ((i:Int)+1)= ((i+1:Nat):Int):=by rw [wr (by omega)];omega
  simp only [an,↓reduceIte,Int.reduceBEq,Int.reduceEq,h,h0,and_self,aD,bP f,zz k b g,p,decide_true,w,r (i+1) j (by omega)]
theorem R9(o:Int):mS o<=2:=by unfold mS;split <;> (try split) <;> omega
theorem s8(o b:Int)(e:Bool)(ks:List Int)(n:Int):Or (.call 94) [I o,I b,ad e ks,I n] []=some (lE o b ks n):=by
 refine ai ?_;rw [VW];unfold lE;have g:(bif decide (o < 15) then true else decide (o > 23))=decide (o < 15\/o > 23):=by rw [vf,<-Bool.decide_or]
 rw [g];by_cases c:o < 15\/o > 23
 .simp only [an,↓reduceIte,Int.reduceBEq,Int.reduceEq,c,decide_true]
 .by_cases a:gw b
  .by_cases hl:(ks.length:Int)=mS o
   .have f:ks.length<=2:=by have:=R9 o;omega
    cases d:mB b ks 0 with
    | some j=>have:=RF o b a e ks n f j ks 0 rfl d;simp only [an,↓reduceIte,Int.reduceBEq,Int.reduceEq,c,a,hl,decide_true,decide_false,not_true_eq_false,zy,C0,aD];rw [<-hl];exact this
    | none=>have:=RH o b a (by omega) e ks n hl f (Es d) ks 0 rfl (Xr _);simp only [an,↓reduceIte,Int.reduceBEq,Int.reduceEq,c,a,hl,decide_true,decide_false,not_true_eq_false,zy,C0,aD];rw [<-hl];exact this
   .simp only [an,↓reduceIte,Int.reduceBEq,Int.reduceEq,c,a,hl,decide_true,decide_false,not_true_eq_false,not_false_eq_true,zy,C0,aD]
  .simp only [an,↓reduceIte,Int.reduceBEq,Int.reduceEq,c,a,decide_false,not_false_eq_true,zy]
end Go.Aev.Gen.Wo
namespace Go.Aev.Gen
open Go Go.Aev Go.IntKind
theorem Ka{n:Int}(h: -9223372036854775808<=n/\n<=9223372036854775807):Or (.call 105) [I n] []=some [.int .u64 (n.natAbs:Int)]:=by
 have b:∀v:Int,u64.wrap v=v % 18446744073709551616:=λv=>by simp [IntKind.wrap,IntKind.bits,IntKind.signed]
 refine ai ?_;rw [Fe];by_cases h0:n < 0
 .have a:u64.wrap (0 - u64.wrap n)= (n.natAbs:Int):=by
   rw [b,b];omega
  simp only [h0,decide_true,aR,a]
 .have a:u64.wrap n= (n.natAbs:Int):=by rw [b];omega
  simp only [h0,decide_false,aX,a]
theorem wrap_i64(v:Int): -9223372036854775808<=i64.wrap v/\i64.wrap v<=9223372036854775807:=by simp only [IntKind.wrap,IntKind.signed,IntKind.bits];simp;split <;> omega
theorem Ia{n d:Int}(k: -9223372036854775808<=n/\n<=9223372036854775807)(g: -9223372036854775808<=d/\d<=9223372036854775807):∃a b c t:Int,Or (.call 127) [I n,I d] []=some [ti a,ti b,ti c,ti t]:=by
 have k1:=Ka k;have k2:=Ka g;have k3:Or (.call 104) [AV.t (.int .u64 (n.natAbs:Int)),AV.t (.int .u64 (d.natAbs:Int))] []=some [.int .u64 (Nat.gcd d.natAbs n.natAbs:Nat)]:=by refine ai ?_;rw [Fc];exact Im _ _
 by_cases h0:d=0
 .refine⟨0,0,6,0,ai ?_⟩;rw [KY];subst h0;rfl
 .have f:(d==0)=false:=by simpa using h0
  have i:¬((Nat.gcd d.natAbs n.natAbs:Nat):Int)=0:=by have: 0 < Nat.gcd d.natAbs n.natAbs:=Nat.gcd_pos_of_pos_left _ (by omega);omega
  have key:∀{x z:Bool} {a b c e:Int},∃p q r s:Int,(bif x then some [ti 0,ti 0,ti 10,ti 0] else bif z then some [ti a,ti b,ti 0,ti 0] else some [ti c,ti e,ti 0,ti 0])=some [ti p,ti q,ti r,ti s]:=by
   intro x z a b c e;cases x
   .cases z
    .exact⟨_,_,_,_,rfl⟩
    .exact⟨_,_,_,_,rfl⟩
   .exact⟨_,_,_,_,rfl⟩
  have h:∃p q r s:Int,au aj ann Or (.call 127) [I n,I d] []=some [ti p,ti q,ti r,ti s]:=by rw [KY];simp only [f,aX,k1,k2,k3,aI,aL,aO,if_neg i];exact key
  obtain⟨p,q,r,s,j⟩:=h;exact⟨p,q,r,s,ai j⟩
abbrev A2(a b:Int):AV:=AV.agg [I a,I b]
theorem AI(a b c d:Int):∃k t:Int,Or (.call 109) [AV.t (T.ad 2 false [[ti a,ti b],[ti c,ti d]])] []=some [ti k,ti t]:=by
 have g:Or uQ [r0,AV.t (T.ad 2 false [[ti a,ti b],[ti c,ti d]]),I 2,I 2] [aa.box [I 0,I 0]]=some [ti 0,ti 0]:=by refine ai ?_;rw [xc];rfl
 have f:∃k t:Int,Or uQ [r0,AV.t (T.ad 2 false [[ti a,ti b],[ti c,ti d]]),I 2,I 1] [aa.box [I 0,I 0]]=some [ti k,ti t]:=by
  have k:=C3 c d;by_cases h:kF c d=0
  .have e:(kF c d==0)=true:=by simpa using h
   refine⟨0,0,ai ?_⟩;rw [xc];have w:i64.wrap (1+1)=2:=by decide
   show(ab none (Or (.call 82) [A2 c d] []) _)=_;rw [k];simp only [aI,aL,aV,aO,e,Ws,aX,w];exact g
  .have e:(kF c d==0)=false:=by simpa using h
   refine⟨3,1,ai ?_⟩;rw [xc];show(ab none (Or (.call 82) [A2 c d] []) _)=_;rw [k];simp only [aI,aL,aV,aO,e,Wu,aR]
 obtain⟨k1,i,f⟩:=f;have k:=C3 a b;by_cases h:kF a b=0
 .have e:(kF a b==0)=true:=by simpa using h
  refine⟨k1,i,ai ?_⟩;rw [KT];refine ai ?_;rw [xc];have w:i64.wrap (0+1)=1:=by decide
  show(ab none (Or (.call 82) [A2 a b] []) _)=_;rw [k];simp only [aI,aL,aV,aO,e,Ws,aX,w];exact f
 .have e:(kF a b==0)=false:=by simpa using h
  refine⟨3,0,ai ?_⟩;rw [KT];refine ai ?_;rw [xc];show(ab none (Or (.call 82) [A2 a b] []) _)=_;rw [k];simp only [aI,aL,aV,aO,e,Wu,aR]
theorem Ls(a b c d:Int):∃p q r s:Int,Or (.call 108) [A2 a b,A2 c d] []=some [ti p,ti q,ti r,ti s]:=by
 obtain⟨k,t,i⟩:=AI a b c d;have g:Or (.call 121) [A2 a b,A2 c d] []=some [ti (i64.wrap (i64.wrap (a * d)+i64.wrap (c * b))),ti (i64.wrap (b * d))]:=by refine ai ?_;rw [Vh]
 obtain⟨p,q,r,s,hm⟩:=Ia (wrap_i64 (i64.wrap (a * d)+i64.wrap (c * b))) (wrap_i64 (b * d));have f:∃p q r s:Int,Or (.call 119) [A2 a b,A2 c d,AV.fn 121 [] []] []=some [ti p,ti q,ti r,ti s]:=by
  by_cases h:k=0
  .have e:(k==0)=true:=by simpa using h
   refine⟨p,q,r,s,ai ?_⟩;rw [KX];simp only [aI,aL,aV,eP,fB,aO,i,e,Ws,aX,g,hm]
  .have e:(k==0)=false:=by simpa using h
   refine⟨0,0,k,t,ai ?_⟩;rw [KX];simp only [aI,aL,aV,aO,i,e,Wu,aR]
 obtain⟨p,q,r,s,h⟩:=f;refine⟨p,q,r,s,ai ?_⟩;rw [Vb];simp only [aI,aL,aV,eP,fB,aO,h]
theorem UI(a b c d:Int):∃p q r s:Int,Or (.call 107) [A2 a b,A2 c d] []=some [ti p,ti q,ti r,ti s]:=by
 obtain⟨k,t,i⟩:=AI a b c d;have g:Or (.call 120) [A2 a b,A2 c d] []=some [ti (i64.wrap (a * c)),ti (i64.wrap (b * d))]:=by refine ai ?_;rw [Vg]
 obtain⟨p,q,r,s,hm⟩:=Ia (wrap_i64 (a * c)) (wrap_i64 (b * d));have f:∃p q r s:Int,Or (.call 119) [A2 a b,A2 c d,AV.fn 120 [] []] []=some [ti p,ti q,ti r,ti s]:=by
  by_cases h:k=0
  .have e:(k==0)=true:=by simpa using h
   refine⟨p,q,r,s,ai ?_⟩;rw [KV];simp only [aI,aL,aV,eP,fB,aO,i,e,Ws,aX,g,hm]
  .have e:(k==0)=false:=by simpa using h
   refine⟨0,0,k,t,ai ?_⟩;rw [KV];simp only [aI,aL,aV,aO,i,e,Wu,aR]
 obtain⟨p,q,r,s,h⟩:=f;refine⟨p,q,r,s,ai ?_⟩;rw [U9];simp only [aI,aL,aV,eP,fB,aO,h]
theorem PY(a b c d:Int):∃(z:Bool) (k t:Int),Or (.call 90) [A2 a b,A2 c d] []=some [tb z,ti k,ti t]:=by
 obtain⟨k,t,f⟩:=AI a b c d;by_cases h:k=0
 .have e:(k==0)=true:=by simpa using h
  refine⟨decide (i64.wrap (a * d) < i64.wrap (c * b)),0,0,ai ?_⟩;rw [K5];simp only [aI,aL,aV,aO,f,e,Ws,aX]
 .have e:(k==0)=false:=by simpa using h
  refine⟨false,k,t,ai ?_⟩;rw [K5];simp only [aI,aL,aV,aO,f,e,Wu,aR]
noncomputable def Jm(o:Option (List T)):Int×Int×Int:=match o with
 | some [.int _ a, .int _ b, .int _ c,_]=>(a,b,c)
 | _=>(0,0,1)
noncomputable def jf(a b c d:Int):Int×Int×Int:=Jm (Or (.call 108) [A2 a b,A2 c d] [])
noncomputable def lV(a b c d:Int):Int×Int×Int:=Jm (Or (.call 107) [A2 a b,A2 c d] [])
noncomputable def rT(a b c d:Int):Bool:=match Or (.call 90) [A2 a b,A2 c d] [] with
 | some (.bool z::_)=>z
 | _=>false
theorem Lr(a b c d:Int):∃s:Int,Or (.call 108) [A2 a b,A2 c d] []=some [ti (jf a b c d).1,ti (jf a b c d).2.1,ti (jf a b c d).2.2,ti s]:=by obtain⟨p,q,r,s,h⟩:=Ls a b c d;refine⟨s, ?_⟩;unfold jf;rw [h];rfl
theorem UH(a b c d:Int):∃s:Int,Or (.call 107) [A2 a b,A2 c d] []=some [ti (lV a b c d).1,ti (lV a b c d).2.1,ti (lV a b c d).2.2,ti s]:=by obtain⟨p,q,r,s,h⟩:=UI a b c d;refine⟨s, ?_⟩;unfold lV;rw [h];rfl
theorem HX(a b c d:Int):∃k t:Int,Or (.call 90) [A2 a b,A2 c d] []=some [tb (rT a b c d),ti k,ti t]:=by obtain⟨z,k,t,h⟩:=PY a b c d;refine⟨k,t, ?_⟩;unfold rT;rw [h]
noncomputable def wY:Int->Int->List Vv->Option Vv
 | a,b,[]=>some ⟨a,b,[],0⟩
 | a,b,k::r=>if(jf a b k.n k.d).2.2=0 then wY (jf a b k.n k.d).1 (jf a b k.n k.d).2.1 r else none
noncomputable def wA(op n d:Int)(ks:List Vv):Option Vv:=
 if op=12 then(if(lV (cv ks 0).n (cv ks 0).d n d).2.2=0 then some ⟨(lV (cv ks 0).n (cv ks 0).d n d).1,(lV (cv ks 0).n (cv ks 0).d n d).2.1,[],0⟩ else none) else wY 0 1 ks
def rK(r x:Int):List (Int×Int)->Int
 | []=>r
 | c::t=>if c.1=x then c.2 else rK r x t
def fe(x y:Int):Bool->List (Int×Int)->List (Int×Int)
 | z,[]=>bif z then [] else [(x,y)]
 | z,c::t=>(bif !z && decide (c.1>=x) then [(x,y)] else [])++ ((if c.1=x then [] else [c])++fe x y (z || (!z && decide (c.1>=x))) t)
def pe(o b:Int)(ks:List Int)(n:Int):Int:=match Wo.lE o b ks n with
 | .int _ w::_=>w
 | _=>0
noncomputable def PM:Pm:=⟨wA,λu v=>rT u.n u.d v.n v.d,λv x=>rK v.r x v.cs,λv x y=>⟨0,0,fe x y (y==v.r) v.cs,v.r⟩,pe⟩
theorem Sj:sR PM:=by
 intro o b ks n h g hl d c;show pe o b ks n=iA o b ks n;have a:Wo.mB b ks 0=none:=by
  have:∀(l:List Int) (i:Nat),(∀k∈l,0<=k/\k < pw b)->Wo.mB b l i=none:=by
   intro l;induction l with
   | nil=>intro i _;rfl
   | cons k l f=>intro i h;rw [Wo.mB,if_pos (show Wo.iC k b from h k Wl)];exact f (i+1) λy e=>h y (Wn _ e)
  exact this ks 0 d
 unfold pe Wo.lE;rw [if_neg (by omega),if_neg (by unfold Wo.gw;omega),if_neg (by rw [hl];simp [wD,Wo.mS]),a];show(match(if Wo.lZ o b n then [ti (iA o b ks n),ti 0,ti 0] else _) with | .int _ w::_=>w | _=>0)=_;rw [if_pos (show Wo.lZ o b n from c)]
open Go Go.Aev Go.IntKind
def cO(l:List Va):List (List T):=l.map λv=> [ti v.n,ti v.d,cT v,ti v.r]
theorem dQ(l:List Va):(cO l).length=l.length:=by simp [cO]
theorem oz{l:List Va}{i:Nat}{v:Va}(h:l[i]? =some v):(cO l)[((i:Nat):Int).toNat]? =some [ti v.n,ti v.d,cT v,ti v.r]:=by simp [cO,h]
theorem iG{l:List Va}{i:Nat}{v:Va}(h:l[i]? =some v):(cO l)[i]? =some [ti v.n,ti v.d,cT v,ti v.r]:=by simp [cO,h]
theorem Bw(l:List Va)(v:Va):cO l++ [[ti v.n,ti v.d,T.ad 2 v.ec (bL v.cs),ti v.r]]=cO (l++ [nV v]):=by simp [cO,nV,cT]
structure gR (b:Nat) (v:Va):Prop where
 l:v.cs.length<=b
 e:v.ec=true->v.cs= []
abbrev VL(e:Bool)(vs:List Va):AV:=AV.t (T.ad 4 e (cO vs))
structure An (R:Option (List T)) (v:Va):Prop where
 a:∃c,R=some [ti v.n,ti v.d,c,ti v.r]/\c.aQ 2=some (v.ec,bL v.cs)
theorem C1{v:Va}(h:gR 1000000 v):An (Or (.call 62) [VG v] []) v:=by obtain⟨x,a,b⟩:=zA (e:=v.ec) (l:=v.cs) h.e (by have:=h.l;unfold ML;omega);refine⟨T.ad 2 v.ec (bL v.cs),ai ?_,rfl⟩;rw [Vj];simp only [aI,aL,aO,a,b]
theorem oX(b:Bool):Or (.call 86) [B b] []=some [ti (bif b then 1 else 0),ti 1,T.ad 2 true [],ti 0]:=by
 have k:∀n:Int,Or (.call 91) [I n] []=some [ti n,ti 1,T.aB true,ti 0]:=λn=>by refine ai ?_;rw [K6]
 refine ai ?_;rw [VQ];cases b
 .simp only [aX,aI,aL,aV,k];rfl
 .simp only [aR,aI,aL,aV,k];rfl
theorem J3(n:Int):Or (.call 91) [I n] []=some [ti n,ti 1,T.aB true,ti 0]:=by refine ai ?_;rw [K6]
theorem zE{e:Bool}{vs:List Va}{i:Nat}{v:Va}(h:vs[i]? =some v):Or (.call 83) [I (i:Int),AV.t (T.ptr [T.ad 4 e (cO vs)])] []=some [tb (v.n==1)]:=by
 have a: 0<=(i:Int)/\(i:Int) < (vs.length:Int):=by have:=(Wm.1 h).1;omega
 refine ai ?_;rw [VN];simp only [aI,aL,aV,aO,dQ,if_pos a,oz h]
theorem Qo{e:Bool}{vs:List Va}(hl:vs.length<=1000):∀(r:List Va) (i:Nat),vs.drop i=r->∃z:Int,Or pD [VL e vs,AV.fn 84 [] [],I (vs.length:Int),I (i:Int)] []=some [ti z]/\decide (z>=0)=r.any λv=>v.n==1:=by
 intro r;induction r with
 | nil=>
  intro i g;have b:¬(i:Int) < (vs.length:Int):=by have:=bt g;omega
  refine⟨-1,ai ?_,rfl⟩;rw [DA];simp only [decide_eq_false b,aX]
 | cons v r j=>
  intro i g;obtain⟨g1,k,f⟩:=br g;have b:(i:Int) < (vs.length:Int):=by omega
  have h0: 0<=(i:Int)/\(i:Int) < (vs.length:Int):=by omega
  obtain⟨z,h,d⟩:=j (i+1) f;have a:Or (.call 84) [VG v] []=some [tb (v.n==1)]:=by refine ai ?_;rw [VO]
  cases c:(v.n==1) with
  | true=>rw [c] at a;refine⟨(i:Int),ai ?_,by rw [Xz,c];simp⟩;rw [DA];simp only [decide_eq_true b,aR,dQ,if_pos h0,aI,aL,aV,aO,bK,oz g1,dv,a]
  | false=>rw [c] at a;refine⟨z,ai ?_,by rw [Xz,c,W4];exact d⟩;rw [DA];simp only [decide_eq_true b,aR,aX,dQ,if_pos h0,aI,aL,aV,aO,bK,oz g1,dv,a,next i (show i<=1000000 by omega)];exact h
theorem T1{e:Bool}{vs:List Va}(hl:vs.length<=1000):Or (.call 87) [VL e vs,AV.fn 84 [] []] []=some [tb (vs.any λv=>v.n==1)]:=by
 obtain⟨z,c,b⟩:=Qo (e:=e) hl vs 0 rfl;have a:Or (.call 106) [VL e vs,AV.fn 84 [] []] []=some [ti z]:=by refine ai ?_;rw [U7];simp only [dQ];exact c
 refine ai ?_;rw [VR];simp only [aI,aL,aO,a,b]
theorem Qp{e:Bool}{vs:List Va}(hl:vs.length<=1000):∀(r:List Va) (i:Nat),vs.drop i=r->∃z:Int,Or pD [VL e vs,AV.fn 85 [] [],I (vs.length:Int),I (i:Int)] []=some [ti z]/\decide (z>=0)=r.any λv=>v.n==0:=by
 intro r;induction r with
 | nil=>
  intro i g;have b:¬(i:Int) < (vs.length:Int):=by have:=bt g;omega
  refine⟨-1,ai ?_,rfl⟩;rw [DB];simp only [decide_eq_false b,aX]
 | cons v r j=>
  intro i g;obtain⟨g1,k,f⟩:=br g;have b:(i:Int) < (vs.length:Int):=by omega
  have h0: 0<=(i:Int)/\(i:Int) < (vs.length:Int):=by omega
  obtain⟨z,h,d⟩:=j (i+1) f;have a:Or (.call 85) [VG v] []=some [tb (v.n==0)]:=by refine ai ?_;rw [VP]
  cases c:(v.n==0) with
  | true=>rw [c] at a;refine⟨(i:Int),ai ?_,by rw [Xz,c];simp⟩;rw [DB];simp only [decide_eq_true b,aR,dQ,if_pos h0,aI,aL,aV,aO,bK,oz g1,dv,a]
  | false=>rw [c] at a;refine⟨z,ai ?_,by rw [Xz,c,W4];exact d⟩;rw [DB];simp only [decide_eq_true b,aR,aX,dQ,if_pos h0,aI,aL,aV,aO,bK,oz g1,dv,a,next i (show i<=1000000 by omega)];exact h
theorem T2{e:Bool}{vs:List Va}(hl:vs.length<=1000):Or (.call 87) [VL e vs,AV.fn 85 [] []] []=some [tb (vs.any λv=>v.n==0)]:=by
 obtain⟨z,c,b⟩:=Qp (e:=e) hl vs 0 rfl;have a:Or (.call 106) [VL e vs,AV.fn 85 [] []] []=some [ti z]:=by refine ai ?_;rw [U8];simp only [dQ];exact c
 refine ai ?_;rw [VS];simp only [aI,aL,aO,a,b]
open Go Go.Aev Go.IntKind
theorem uV{k:Key}{vs:List AV}{b:List aa}{v:Va}(h:An (au aj ann Or k vs b) v):An (Or k vs b) v:=by obtain⟨c,d,e⟩:=h.a;exact⟨c,ai d,e⟩
theorem An.go{R:Option (List T)}{v:Va}(h:An R v){K:List T->Option (List T)}(f:∀c:T,c.aQ 2=some (v.ec,bL v.cs)->An (K [ti v.n,ti v.d,c,ti v.r]) v):An (ab none R K) v:=by obtain⟨c,b,e⟩:=h.a;rw [b,aI];exact f c e
abbrev Ce(er:Bool)(m:Me):aa:=aa.box [AV.t (T.ad 5 er (aM m.rs)),I m.re.n,I m.re.d,AV.t (T.ad 2 m.re.ec (bL m.re.cs)),I m.re.r]
abbrev qF:aa:=aa.box [I 0,I 0,AV.t (T.aB true),I 0]
abbrev r2:AV:=Y'2
section
variable {er ev:Bool} {m:Me} {vs:List Va}
theorem Rz{k:Nat}{e:En}{v:Va}(F:k<=1000)(z:e.ar.length=vs.length)(hl:vs.length<=1000)(ho:gR 1000000 e.to)(d:e.ar≠vs.map (λv=>v.n)->An (Or uR [VL ev vs,r0,r1,AV.t (T.ad 5 er (aM m.rs)),I (m.rs.length:Int),I ((k+1:Nat):Int)] [Ce er m,qF]) v)(A:e.ar=vs.map (λv=>v.n)->v=e.to):
  ∀(r:List Int) (i:Nat) (same:Bool),e.ar.drop i=r->same=decide (e.ar.take i= (vs.map λv=>v.n).take i)->An (Or xA [VL ev vs,r0,r1,r2,B same,AV.t (T.ad 5 er (aM m.rs)),I (m.rs.length:Int),I (k:Int),ad e.ea e.ar,I (e.ar.length:Int),I (i:Int)] [Ce er m,qF,eB e]) v:=by
 intro r;induction r with
 | nil=>
  intro i same g hs;have h0:=bt g;have j:¬(i:Int) < (e.ar.length:Int):=by omega
  have s:decide (e.ar.take i= (vs.map λv=>v.n).take i)=decide (e.ar=vs.map λv=>v.n):=by rw [Yn h0,Yn (by rw [W6];omega)]
  rw [s] at hs;apply uV;rw [K3,decide_eq_false j,aX];cases same with
  | true=>
   have l:e.ar=vs.map λv=>v.n:=by simpa using hs.symm
   have:=A l;subst this;rw [aR];refine An.go (C1 ho) λc y=>⟨T.ad 2 e.to.ec (bL e.to.cs), ?_,rfl⟩;simp only [aI,aL,aV,aO,y]
  | false=>
   have l:e.ar≠vs.map λv=>v.n:=λh=>by rw [decide_eq_true h] at hs;cases hs
   rw [aX,next k (by omega)];exact d l
 | cons a r C=>
  intro i same g hs;obtain⟨g1,E,w⟩:=br g;have j:(i:Int) < (e.ar.length:Int):=by omega
  have h0: 0<=(i:Int)/\(i:Int) < (e.ar.length:Int):=by omega
  have x: 0<=(i:Int)/\(i:Int) < (vs.length:Int):=by omega
  have f:vs[i]? =some vs[i]:=Wv (by omega);have es:(same && (vs[i].n==a))=decide (e.ar.take (i+1)= (vs.map λv=>v.n).take (i+1)):=by
   rw [hs,X9,X9,g1,Xh,f];show _=decide (e.ar.take i++ [a]= (vs.map λv=>v.n).take i++ [vs[i].n]);by_cases o:e.ar.take i= (vs.map λv=>v.n).take i
   .rw [o,decide_eq_true rfl,Xe];by_cases p:vs[i].n=a
    .rw [p];simp
    .have D:¬a=vs[i].n:=λe=>p e.symm;simp [p,D]
   .rw [decide_eq_false o,Xm,decide_eq_false];intro q;have:=congrArg List.length q;exact o (List.append_inj_left q (by rw [Xk,Xk,W6];omega))
  have b:=C (i+1) _ w es;generalize vs[i]=u at f b;apply uV;rw [K3,decide_eq_true j,aR];cases same with
  | true=>simp only [aI,aL,aO,aD,if_pos h0,bP g1,dQ,if_pos x,oz f,aR,next i (show i<=1000000 by omega)];rw [Xe] at b;exact b
  | false=>simp only [aI,bE,aL,aO,aD,if_pos h0,bP g1,aX,next i (show i<=1000000 by omega)];rw [Xm] at b;exact b
theorem Ry(hrl:m.rs.length<=1000)(hl:vs.length<=1000)(b:∀e∈m.rs,e.ar.length=vs.length/\gR 1000000 e.to)(d:gR 1000000 m.re):∀(r:List En) (k:Nat),m.rs.drop k=r->An (Or uR [VL ev vs,r0,r1,AV.t (T.ad 5 er (aM m.rs)),I (m.rs.length:Int),I (k:Int)] [Ce er m,qF]) (fu r m.re (vs.map λv=>v.n)):=by
 intro r;induction r with
 | nil=>
  intro k g;have a:¬(k:Int) < (m.rs.length:Int):=by have:=bt g;omega
  apply uV;rw [K2,decide_eq_false a,aX];refine An.go (C1 d) λc l=>⟨T.ad 2 m.re.ec (bL m.re.cs), ?_,rfl⟩;simp only [aI,aL,aV,aO,l]
 | cons e r p=>
  intro k g;obtain⟨g1,q,j⟩:=br g;have a:(k:Int) < (m.rs.length:Int):=by omega
  have h0: 0<=(k:Int)/\(k:Int) < (m.rs.length:Int):=by omega
  obtain⟨f,i⟩:=b e (Wx g1);have o:=Rz (er:=er) (ev:=ev) (m:=m) (vs:=vs) (k:=k) (e:=e) (v:=fu (e::r) m.re (vs.map λv=>v.n)) (by omega) f hl i (λh=>by rw [fu,if_neg h];exact p (k+1) j) (λh=>by rw [fu,if_pos h]) e.ar 0 true rfl rfl;apply uV;rw [K2,decide_eq_true a,aR];simp only [aI,aL,aV,aO,fj,if_pos h0,kD g1,dv,aD,cu];exact o
theorem T3(hrl:m.rs.length<=1000)(hl:vs.length<=1000)(a:∀e∈m.rs,e.ar.length=vs.length/\gR 1000000 e.to)(b:gR 1000000 m.re):An (Or (.call 88) [AV.agg [AV.t (T.ad 5 er (aM m.rs)),I m.re.n,I m.re.d,AV.t (T.ad 2 m.re.ec (bL m.re.cs)),I m.re.r],VL ev vs] []) (fu m.rs m.re (vs.map λv=>v.n)):=by have h:=Ry (er:=er) (ev:=ev) hrl hl a b m.rs 0 rfl;apply uV;rw [VT];simp only [fj];exact h
theorem RI{v:Va}{x:Int}(hl:v.cs.length<=1000000):∀(r:List (Int×Int)) (i:Nat),v.cs.drop i=r->Or xC [I x,r0,AV.t (T.ad 2 v.ec (bL v.cs)),I (v.cs.length:Int),I (i:Int)] [aa.box [I v.n,I v.d,AV.t (T.ad 2 v.ec (bL v.cs)),I v.r]]=some [ti (rK v.r x r)]:=by
 intro r;induction r with
 | nil=>
  intro i g;have b:¬(i:Int) < (v.cs.length:Int):=by have:=bt g;omega
  refine ai ?_;rw [K7,decide_eq_false b];rfl
 | cons c r j=>
  intro i g;obtain⟨g1,k,f⟩:=br g;have b:(i:Int) < (v.cs.length:Int):=by omega
  have h0: 0<=(i:Int)/\(i:Int) < (v.cs.length:Int):=by omega
  have h:=j (i+1) f;refine ai ?_;rw [K7,decide_eq_true b,aR,rK];by_cases a:c.1=x
  .have e:(c.1==x)=true:=by simpa using a
   simp only [aI,aL,aV,aO,iU,if_pos h0,l7 g1,e,aR,if_pos a]
  .have e:(c.1==x)=false:=by simpa using a
   simp only [aI,aL,aV,aO,iU,if_pos h0,l7 g1,e,aX,if_neg a,next i (show i<=1000000 by omega)];exact h
theorem T5{v:Va}{x:Int}(hl:v.cs.length<=1000000):Or (.call 92) [VG v,I x] []=some [ti (rK v.r x v.cs)]:=by have h:=RI (x:=x) hl v.cs 0 rfl;refine ai ?_;rw [VU];simp only [iU];exact h
theorem RD{x:Nd}(hl:vs.length<=1000):∀(r:List Va) (i:Nat) (a b c d:Int),vs.drop i=r->∃(w:Va) (z:Bool),Or xB [r0,r1,r2,VL ev vs,I (vs.length:Int),I (i:Int)] [qF,aa.box [I a,I b],aa.box [I c,I d]]=some [ti w.n,ti w.d,T.aB true,ti 0,tb z]/\(wY a b (r.map vv)=if z then some ⟨w.n,w.d,[],0⟩ else none):=by
 intro r;induction r with
 | nil=>
  intro i a b c d g;have e:¬(i:Int) < (vs.length:Int):=by have:=bt g;omega
  refine⟨⟨true,a,b,true,[],0⟩,true,ai ?_,rfl⟩;rw [DE,decide_eq_false e];rfl
 | cons v r o=>
  intro i a b c d g;obtain⟨g1,p,k⟩:=br g;have e:(i:Int) < (vs.length:Int):=by omega
  have h0: 0<=(i:Int)/\(i:Int) < (vs.length:Int):=by omega
  obtain⟨s,hs⟩:=Lr a b v.n v.d;rw [WL,wY];show ∃(w:Va) (z:Bool),_/\((if(jf a b v.n v.d).2.2=0 then wY (jf a b v.n v.d).1 (jf a b v.n v.d).2.1 (r.map vv) else none)=_);by_cases f:(jf a b v.n v.d).2.2=0
  .obtain⟨w,z,l,j⟩:=o (i+1) (jf a b v.n v.d).1 (jf a b v.n v.d).2.1 (jf a b v.n v.d).2.2 s k;have h:((jf a b v.n v.d).2.2==0)=true:=by simpa using f
   refine⟨w,z,ai ?_,by rw [if_pos f];exact j⟩;rw [DE,decide_eq_true e,aR];simp only [aI,aL,aV,fA,eP,fB,aO,dQ,if_pos h0,oz g1,dv,hs,h,Ws,aX,next i (show i<=1000000 by omega)];exact l
  .have h:((jf a b v.n v.d).2.2==0)=false:=by simpa using f
   refine⟨⟨true,0,0,true,[],0⟩,false,ai ?_,by rw [if_neg f];rfl⟩;rw [DE,decide_eq_true e,aR];simp only [aI,aL,aV,fA,eP,fB,aO,dQ,if_pos h0,oz g1,dv,hs,h,Wu,aR]
abbrev NG(x:Nd):AV:=AV.agg [I x.op,ad x.ek x.ks,I x.n,I x.d,AV.t (T.str x.nm)]
theorem J2{x:Nd}(hl:vs.length<=1000)(f:x.op=12->1<=vs.length):∃(w:Va) (z:Bool),Or (.call 89) [NG x,VL ev vs] []=some [ti w.n,ti w.d,T.aB true,ti 0,tb z]/\(wA x.op x.n x.d (vs.map vv)=if z then some ⟨w.n,w.d,[],0⟩ else none):=by
 unfold wA;by_cases a:x.op=12
 .have c:(x.op==12)=true:=by simpa using a
  have e:=f a;have g:vs[0]? =some vs[0]:=Wv e;obtain⟨s,hs⟩:=UH vs[0].n vs[0].d x.n x.d;have j:cv (vs.map vv) 0=vv vs[0]:=by unfold cv;rw [Wp,Xh,g];rfl
  rw [if_pos a,j];show ∃(w:Va) (z:Bool),_/\((if(lV vs[0].n vs[0].d x.n x.d).2.2=0 then _ else none)=_);generalize vs[0]=v at g hs;have h0:(0:Int)<=0/\(0:Int) < (vs.length:Int):=by omega
  refine⟨⟨true,(lV v.n v.d x.n x.d).1,(lV v.n v.d x.n x.d).2.1,true,[],0⟩,(lV v.n v.d x.n x.d).2.2==0,ai ?_, ?_⟩
  .rw [K4,c,aR];simp only [aI,aL,aV,fA,eP,fB,aO,dQ,if_pos h0,iG g,hs]
  .by_cases b:(lV v.n v.d x.n x.d).2.2=0
   .rw [if_pos b,b];rfl
   .have:((lV v.n v.d x.n x.d).2.2==0)=false:=by simpa using b
    rw [if_neg b,this];rfl
 .have c:(x.op==12)=false:=by simpa using a
  obtain⟨w,z,h,i⟩:=RD (ev:=ev) (x:=x) hl vs 0 0 1 0 0 rfl;refine⟨w,z,ai ?_,by rw [if_neg a];exact i⟩;rw [K4,c,aX];simp only [dQ];exact h
end
end Go.Aev.Gen
