import Derived.Test.YtcffabneepdohaaGreatDoorBlastBackQ9
import Derived.Test.YtcffabneepdohaaGreatDoorBlastBackQ19
import Derived.Test.YtcffabneepdohaaGreatDoorBlastBackQ20
set_option linter.all false
namespace Go.Aev.Gen.Wo
open Go Go.Aev Go.Aev.Gen Go.IntKind
abbrev bM(a b:Int):ad:=ad.box [I a,I b]
def gz(b:Int):Prop:=1<=b/\b<=8
instance (b:Int):Decidable (gz b):=by unfold gz;infer_instance
theorem Da{b:Int}(a:gz b):pw b=2\/pw b=4\/pw b=8\/pw b=16\/pw b=32\/pw b=64\/pw b=128\/pw b=256:=by
 have:b=1\/b=2\/b=3\/b=4\/b=5\/b=6\/b=7\/b=8:=by unfold gz at a;omega
 unfold pw;rcases this with rfl | rfl | rfl | rfl | rfl | rfl | rfl | rfl <;> simp
theorem mS{b:Int}(a:gz b):i64.wrap (1 * 2 ^ min b.toNat 64)=pw b:=by
 have:b=1\/b=2\/b=3\/b=4\/b=5\/b=6\/b=7\/b=8:=by unfold gz at a;omega
 rcases this with rfl | rfl | rfl | rfl | rfl | rfl | rfl | rfl <;> decide
def iE(w b:Int):Prop:=0<=w/\w < pw b
instance (w b:Int):Decidable (iE w b):=by unfold iE;infer_instance
theorem zX(b:Int):Or (.call 110) [I b] []=some [tb (decide (gz b))]:=by refine ai ?_;rw [VV];simp only [tw,ge_iff_le,<-aap,gz]
def mQ(o:Int):Int:=if o=15 then 0 else if o=16\/o=23 then 1 else 2
theorem Ds(o:Int):Or (.call 111) [I o] []=some [ti (mQ o)]:=by
 refine ai ?_;rw [VW];unfold mQ;by_cases a:o=15
 .simp only [ao,↓reduceIte,Int.reduceBEq,Int.reduceEq,a]
 .by_cases b:o=16
  .simp only [ao,↓reduceIte,Int.reduceBEq,Int.reduceEq,b,true_or]
  .by_cases c:o=23
   .simp only [ao,↓reduceIte,Int.reduceBEq,Int.reduceEq,c,or_true]
   .simp only [ao,↓reduceIte,Int.reduceBEq,Int.reduceEq,a,b,c,or_self]
theorem zY(w b:Int)(a:gz b):Or (.call 112) [I w,I b] []=some [tb (decide (iE w b))]:=by
 refine ai ?_;rw [VX,mS a];have h0:¬b < 0:=by unfold gz at a;omega
 simp only [tw,ge_iff_le,<-aap];simp only [ao,↓reduceIte,Int.reduceBEq,Int.reduceEq,h0,iE]
def lW(o b n:Int):Prop:=if o=15 then iE n b else if o=23 then 0<=n/\n<=8 else n=0
instance (o b n:Int):Decidable (lW o b n):=by unfold lW;infer_instance
theorem mZ(o b n:Int)(d:gz b):Or (.call 113) [I o,I b,I n] []=some [tb (decide (lW o b n))]:=by
 refine ai ?_;rw [VY];unfold lW;by_cases a:o=15
 .simp only [ao,↓reduceIte,Int.reduceBEq,Int.reduceEq,a,zY n b d]
 .by_cases c:o=23
  .simp only [tw,ge_iff_le,<-aap];simp only [ao,↓reduceIte,Int.reduceBEq,Int.reduceEq,c]
  .simp only [ao,↓reduceIte,Int.reduceBEq,Int.reduceEq,a,c];rfl
theorem nX(b v:Int)(g:gz b):i64.wrap (BitVec.ofInt 64 v &&& BitVec.ofInt 64 (i64.wrap (pw b - 1))).toNat=v % pw b:=by
 have key:∀k:Nat,k<=8->((BitVec.ofInt 64 v &&& BitVec.ofNat 64 (2 ^ k - 1)).toNat:Int)=v % 2 ^ k:=by
  intro k d;have f: 2 ^ k - 1 < 2 ^ 64:=by have: 2 ^ k<=2 ^ 8:=Y2 (by decide) d;omega
  rw [BitVec.toNat_and,ZI,Zk f,Nat.and_two_pow_sub_one_eq_mod,BitVec.toNat_ofInt];have i:(2 ^ k:Int) ∣ 2 ^ 64:=⟨2 ^ (64 - k),by rw [<-Int.pow_add];congr 1;omega⟩;have l:(0:Int)<=v % 2 ^ 64:=Int.emod_nonneg _ (by decide);rw [Int.natCast_emod];show((v % 2 ^ 64).toNat:Int) % ((2 ^ k:Nat):Int)=_;rw [Int.toNat_of_nonneg l];rw [show((2 ^ k:Nat):Int)= (2:Int) ^ k from by simp];exact Int.emod_emod_of_dvd _ i
 have a:∀k:Nat,k<=8->b.toNat=k->BitVec.ofInt 64 (i64.wrap (2 ^ k - 1))=BitVec.ofNat 64 (2 ^ k - 1)->i64.wrap (BitVec.ofInt 64 v &&& BitVec.ofInt 64 (i64.wrap (pw b - 1))).toNat=v % pw b:=by
  intro k d e j;unfold pw;rw [e,j,key k d];have c:(0:Int) < 2 ^ k:=Int.pow_pos (by decide);have o:=Int.emod_nonneg v (Int.ne_of_gt c);have p:=Int.emod_lt_of_pos v c;have q:(2:Int) ^ k<=256:=by have h:=Y2 (n:=2) (by decide) d;have:((2 ^ k:Nat):Int)<=((2 ^ 8:Nat):Int):=Int.ofNat_le.2 h;simpa using this
  exact wr (by omega)
 have:b=1\/b=2\/b=3\/b=4\/b=5\/b=6\/b=7\/b=8:=by unfold gz at g;omega
 rcases this with rfl | rfl | rfl | rfl | rfl | rfl | rfl | rfl
 .exact a 1 (by decide) rfl (by decide)
 .exact a 2 (by decide) rfl (by decide)
 .exact a 3 (by decide) rfl (by decide)
 .exact a 4 (by decide) rfl (by decide)
 .exact a 5 (by decide) rfl (by decide)
 .exact a 6 (by decide) rfl (by decide)
 .exact a 7 (by decide) rfl (by decide)
 .exact a 8 (by decide) rfl (by decide)
theorem uW(v b:Int)(c:gz b):i64.wrap v % pw b=v % pw b:=by
 have a:pw b ∣ 18446744073709551616:=by rcases Da c with h | h | h | h | h | h | h | h <;> rw [h] <;> decide
 have:∃k,i64.wrap v=v+18446744073709551616 * k:=by
  simp only [IntKind.wrap,IntKind.signed,IntKind.bits];simp;split
  .exact⟨-(v / 18446744073709551616) - 1,by omega⟩
  .exact⟨-(v / 18446744073709551616),by omega⟩
 obtain⟨k,e⟩:=this;obtain⟨d,a⟩:=a;rw [e,a,Int.mul_assoc,aaa]
theorem sS{n:Int}(h: 0<=n/\n < 256):(BitVec.ofInt 64 n).toNat=n.toNat:=by
 rw [BitVec.toNat_ofInt];show(n % 18446744073709551616).toNat=n.toNat
 rw [ZP h.1 (by omega)]
def mA(b:Int):List Int->Nat->Option Nat
 | [],_=>none
 | k::ks,i=>if iE k b then mA b ks (i+1) else some i
def lC(o b:Int)(ks:List Int)(n:Int):List T:=
 if o < 15\/o > 23 then [ti 0,ti 4,ti 0]
 else if ¬gz b then [ti 0,ti 3,ti (-1)]
 else if ¬(ks.length:Int)=mQ o then [ti 0,ti 9,ti 0]
 else match mA b ks 0 with
  | some i=> [ti 0,ti 3,ti i]
  | none=>if lW o b n then [ti (iD o b ks n),ti 0,ti 0] else [ti 0,ti 5,ti 0]
theorem JQ(b:Int):pw b= ((2 ^ b.toNat:Nat):Int):=by simp [pw]
theorem xq{k b:Int}(h:iE k b):k.toNat < 2 ^ b.toNat:=by have:=h.2;rw [JQ] at this;have h0:=h.1;omega
theorem DD{x:Nat}{b:Int}(h:x < 2 ^ b.toNat):(x:Int) % pw b= (x:Int):=by rw [JQ];exact ZP (by omega) (by omega)
theorem sT{k b:Int}(c:gz b)(h:iE k b): 0<=k/\k < 256:=by have h0:=h.1;have a:=h.2;rcases Da c with e | e | e | e | e | e | e | e <;> rw [e] at a <;> omega
theorem SB{k:Int}(h: 0<=k/\k < 256):i64.wrap (BitVec.ofInt 64 (if i64.signed=true then -1 else i64.max) ^^^ BitVec.ofInt 64 k).toNat= -1 - k:=by
 have e:BitVec.ofInt 64 (if i64.signed=true then -1 else i64.max)=BitVec.allOnes 64:=by decide
 rw [e,BitVec.xor_comm,BitVec.xor_allOnes,BitVec.toNat_not,sS h];simp only [IntKind.wrap,IntKind.signed,IntKind.bits];simp;omega
theorem EU{b:Int}:∀{ks:List Int} {i:Nat},mA b ks i=none->∀k∈ks,iE k b
 | [],_,_,k,c=>by cases c
 | a::ks,i,h,k,c=>by
  simp only [mA] at h;by_cases d:iE a b
  .rw [if_pos d] at h;rcases Xl.1 c with rfl | c
   .exact d
   .exact EU h k c
  .rw [if_neg d] at h;cases h
abbrev D2(o b:Int)(e:Bool)(ks:List Int)(n i:Int):List AV:= [I o,I b,aa e ks,I n,r0,aa e ks,I (ks.length:Int),I i]
theorem Sj(o b:Int)(f:gz b)(e:Bool)(ks:List Int)(n:Int)(hl:ks.length<=2)(j:Nat):∀(rest:List Int) (i:Nat),ks.drop i=rest->mA b rest i=some j->
  Or te (D2 o b e ks n (i:Int)) [bM 0 0]=some [ti 0,ti 3,ti j]:=by
 intro rest;induction rest with
 | nil=>intro i _ h;simp [mA] at h
 | cons k rest p=>
  intro i l a;obtain⟨d,q,g⟩:=bt l;refine ai ?_;rw [D9];have h:(i:Int) < (ks.length:Int):=by omega
  have h0:(0:Int)<=(i:Int):=by omega
  have w:i64.wrap ((i:Int)+1)= ((i+1:Nat):Int):=by rw [wr (by omega)];omega
  simp only [mA] at a;by_cases c:iE k b
  .rw [if_pos c] at a;simp only [ao,↓reduceIte,Int.reduceBEq,Int.reduceEq,h,h0,and_self,aE,bR d,zY k b f,c,decide_true,w,p (i+1) g a]
  .rw [if_neg c] at a;simp only [W5] at a;subst a;simp only [ao,↓reduceIte,Int.reduceBEq,Int.reduceEq,h,h0,and_self,aE,bR d,zY k b f,c,decide_false]
theorem g0(k:Int)(r:List Int):(enc (k::r))[0]? =some [ti k]:=by simp [enc]
theorem g1(k l:Int)(r:List Int):(enc (k::l::r))[1]? =some [ti l]:=by simp [enc]
theorem Is(k:Int):(0:Int) < (([k]:List Int).length:Int):=by simp
theorem sn(k l:Int):(0:Int) < (([k,l]:List Int).length:Int):=by simp
theorem sq(k l:Int):(1:Int) < (([k,l]:List Int).length:Int):=by simp
theorem oQ:(0:Int)<=0:=by decide
theorem sf:(0:Int)<=1:=by decide
theorem Sk(o b:Int)(a:gz b)(ho: 15<=o/\o<=23)(e:Bool)(ks:List Int)(n:Int)(hl:(ks.length:Int)=mQ o)(i:∀k∈ks,iE k b):
  Or te (D2 o b e ks n (ks.length:Int)) [bM 0 0]=some (if lW o b n then [ti (iD o b ks n),ti 0,ti 0] else [ti 0,ti 5,ti 0]):=by
 refine ai ?_;rw [D9];have h:¬(ks.length:Int) < (ks.length:Int):=by omega
 have d:¬b < 0:=by unfold gz at a;omega
 by_cases f:lW o b n
 .have one:mQ o=1->∃k,ks= [k]/\iE k b:=by
   intro r;rw [r] at hl;obtain⟨k,rfl⟩:=YF.1 (show ks.length=1 by omega);exact⟨k,rfl,i k (by simp)⟩
  have j:mQ o=2->∃k l,ks= [k,l]/\iE k b/\iE l b:=by
   intro r;rw [r] at hl
   match ks,hl,i with
   | [k,l],_,i=>exact⟨k,l,rfl,i k (by simp),i l (by simp)⟩
  have:o=15\/o=16\/o=17\/o=18\/o=19\/o=20\/o=21\/o=22\/o=23:=by omega
  rcases this with rfl | rfl | rfl | rfl | rfl | rfl | rfl | rfl | rfl
  .have t:iE n b:=by simpa [lW] using f
   have hm:n % pw b=n:=ZP t.1 t.2;simp only [ao,↓reduceIte,Int.reduceBEq,Int.reduceEq,h,mZ 15 b n a,f,decide_true,d,mS a,nX b _ a,iD,hm]
  .obtain⟨k,rfl,g⟩:=one (by decide);simp only [ao,↓reduceIte,Int.reduceBEq,Int.reduceEq,h,mZ 16 b n a,f,decide_true,d,mS a,nX b _ a,iD,aE,oQ,Is,and_self,g0,SB (sT a g),Yw]
  .obtain⟨k,l,rfl,g,c⟩:=j (by decide);have p:i64.wrap (((k.toNat &&& l.toNat:Nat):Nat):Int) % pw b= ((k.toNat &&& l.toNat:Nat):Int):=by
    rw [uW _ _ a,DD (Nat.and_lt_two_pow _ (xq c))]
   simp only [ao,↓reduceIte,Int.reduceBEq,Int.reduceEq,h,mZ 17 b n a,f,decide_true,d,mS a,nX b _ a,iD,aE,oQ,sf,sn,sq,and_self,g0,g1,Yw,Ym];simp only [BitVec.toNat_and,sS (sT a g),sS (sT a c),p]
  .obtain⟨k,l,rfl,g,c⟩:=j (by decide);have p:i64.wrap (((k.toNat ||| l.toNat:Nat):Nat):Int) % pw b= ((k.toNat ||| l.toNat:Nat):Int):=by
    rw [uW _ _ a,DD (Nat.or_lt_two_pow (xq g) (xq c))]
   simp only [ao,↓reduceIte,Int.reduceBEq,Int.reduceEq,h,mZ 18 b n a,f,decide_true,d,mS a,nX b _ a,iD,aE,oQ,sf,sn,sq,and_self,g0,g1,Yw,Ym];simp only [BitVec.toNat_or,sS (sT a g),sS (sT a c),p]
  .obtain⟨k,l,rfl,g,c⟩:=j (by decide);have p:i64.wrap (((k.toNat ^^^ l.toNat:Nat):Nat):Int) % pw b= ((k.toNat ^^^ l.toNat:Nat):Int):=by
    rw [uW _ _ a,DD (Nat.xor_lt_two_pow (xq g) (xq c))]
   simp only [ao,↓reduceIte,Int.reduceBEq,Int.reduceEq,h,mZ 19 b n a,f,decide_true,d,mS a,nX b _ a,iD,aE,oQ,sf,sn,sq,and_self,g0,g1,Yw,Ym];simp only [BitVec.toNat_xor,sS (sT a g),sS (sT a c),p]
  .obtain⟨k,l,rfl,g,c⟩:=j (by decide);simp only [ao,↓reduceIte,Int.reduceBEq,Int.reduceEq,h,mZ 20 b n a,f,decide_true,d,mS a,nX b _ a,iD,aE,oQ,sf,sn,sq,and_self,g0,g1,uW _ _ a,Yw,Ym]
  .obtain⟨k,l,rfl,g,c⟩:=j (by decide);simp only [ao,↓reduceIte,Int.reduceBEq,Int.reduceEq,h,mZ 21 b n a,f,decide_true,d,mS a,nX b _ a,iD,aE,oQ,sf,sn,sq,and_self,g0,g1,uW _ _ a,Yw,Ym]
  .obtain⟨k,l,rfl,g,c⟩:=j (by decide);have w:(1:Int) % pw b=1:=by rcases Da a with e | e | e | e | e | e | e | e <;> rw [e] <;> decide
   have v:(0:Int) % pw b=0:=by simp
   by_cases q:k < l
   .simp only [ao,↓reduceIte,Int.reduceBEq,Int.reduceEq,h,mZ 22 b n a,f,decide_true,d,mS a,nX b _ a,iD,aE,oQ,sf,sn,sq,and_self,g0,g1,q,w,Yw,Ym]
   .simp only [ao,↓reduceIte,Int.reduceBEq,Int.reduceEq,h,mZ 22 b n a,f,decide_true,d,mS a,nX b _ a,iD,aE,oQ,sf,sn,sq,and_self,g0,g1,q,v,Yw,Ym]
  .obtain⟨k,rfl,g⟩:=one (by decide);have t: 0<=n/\n<=8:=by simpa [lW] using f
   have u:¬n < 0:=by omega
   have s:min n.toNat 64=n.toNat:=by omega
   simp only [ao,↓reduceIte,Int.reduceBEq,Int.reduceEq,h,mZ 23 b n a,f,decide_true,d,u,mS a,nX b _ a,iD,aE,oQ,Is,and_self,g0,s,uW _ _ a,Yw]
 .simp only [ao,↓reduceIte,Int.reduceBEq,Int.reduceEq,h,mZ o b n a,f,decide_false]
theorem Sl(o b:Int)(f:gz b)(ho: 15<=o/\o<=23)(e:Bool)(ks:List Int)(n:Int)(hl:(ks.length:Int)=mQ o)(p:ks.length<=2)(a:∀k∈ks,iE k b):∀(rest:List Int) (i:Nat),ks.drop i=rest->i<=ks.length->
  Or te (D2 o b e ks n (i:Int)) [bM 0 0]=some (if lW o b n then [ti (iD o b ks n),ti 0,ti 0] else [ti 0,ti 5,ti 0]):=by
 intro rest;induction rest with
 | nil=>
  intro i c j;have:=bu c;have:i=ks.length:=by omega
  subst this;exact Sk o b f ho e ks n hl a
 | cons k rest q=>
  intro i c j;obtain⟨d,r,g⟩:=bt c;have l:=a k (Xg d);refine ai ?_;rw [D9];have h:(i:Int) < (ks.length:Int):=by omega
  have h0:(0:Int)<=(i:Int):=by omega
  have w:i64.wrap ((i:Int)+1)= ((i+1:Nat):Int):=by rw [wr (by omega)];omega
  simp only [ao,↓reduceIte,Int.reduceBEq,Int.reduceEq,h,h0,and_self,aE,bR d,zY k b f,l,decide_true,w,q (i+1) g (by omega)]
theorem SL(o:Int):mQ o<=2:=by unfold mQ;split <;> (try split) <;> omega
theorem s8(o b:Int)(e:Bool)(ks:List Int)(n:Int):Or (.call 94) [I o,I b,aa e ks,I n] []=some (lC o b ks n):=by
 refine ai ?_;rw [WM];unfold lC;have g:(bif decide (o < 15) then true else decide (o > 23))=decide (o < 15\/o > 23):=by rw [vE,<-Bool.decide_or]
 rw [g];by_cases c:o < 15\/o > 23
 .simp only [ao,↓reduceIte,Int.reduceBEq,Int.reduceEq,c,decide_true]
 .by_cases a:gz b
  .by_cases hl:(ks.length:Int)=mQ o
   .have f:ks.length<=2:=by have:=SL o;omega
    cases d:mA b ks 0 with
    | some j=>have:=Sj o b a e ks n f j ks 0 rfl d;simp only [ao,↓reduceIte,Int.reduceBEq,Int.reduceEq,c,a,hl,decide_true,decide_false,not_true_eq_false,zX,Ds,aE];rw [<-hl];exact this
    | none=>have:=Sl o b a (by omega) e ks n hl f (EU d) ks 0 rfl (XZ _);simp only [ao,↓reduceIte,Int.reduceBEq,Int.reduceEq,c,a,hl,decide_true,decide_false,not_true_eq_false,zX,Ds,aE];rw [<-hl];exact this
   .simp only [ao,↓reduceIte,Int.reduceBEq,Int.reduceEq,c,a,hl,decide_true,decide_false,not_true_eq_false,not_false_eq_true,zX,Ds,aE]
  .simp only [ao,↓reduceIte,Int.reduceBEq,Int.reduceEq,c,a,decide_false,not_false_eq_true,zX]
end Go.Aev.Gen.Wo
namespace Go.Aev.Gen
open Go Go.Aev Go.IntKind
theorem KG{n:Int}(h: -9223372036854775808<=n/\n<=9223372036854775807):Or (.call 105) [I n] []=some [.int .u64 (n.natAbs:Int)]:=by
 have b:∀v:Int,u64.wrap v=v % 18446744073709551616:=λv=>by simp [IntKind.wrap,IntKind.bits,IntKind.signed]
 refine ai ?_;rw [FI];by_cases h0:n < 0
 .have a:u64.wrap (0 - u64.wrap n)= (n.natAbs:Int):=by
   rw [b,b];omega
  simp only [h0,decide_true,aS,a]
 .have a:u64.wrap n= (n.natAbs:Int):=by rw [b];omega
  simp only [h0,decide_false,aV,a]
theorem wrap_i64(v:Int): -9223372036854775808<=i64.wrap v/\i64.wrap v<=9223372036854775807:=by simp only [IntKind.wrap,IntKind.signed,IntKind.bits];simp;split <;> omega
theorem IK{n d:Int}(k: -9223372036854775808<=n/\n<=9223372036854775807)(g: -9223372036854775808<=d/\d<=9223372036854775807):∃a b c t:Int,Or (.call 127) [I n,I d] []=some [ti a,ti b,ti c,ti t]:=by
 have k1:=KG k;have k2:=KG g;have k3:Or (.call 104) [AV.t (.int .u64 (n.natAbs:Int)),AV.t (.int .u64 (d.natAbs:Int))] []=some [.int .u64 (Nat.gcd d.natAbs n.natAbs:Nat)]:=by refine ai ?_;rw [FH];exact IU _ _
 by_cases h0:d=0
 .refine⟨0,0,6,0,ai ?_⟩;rw [Lz];subst h0;rfl
 .have f:(d==0)=false:=by simpa using h0
  have i:¬((Nat.gcd d.natAbs n.natAbs:Nat):Int)=0:=by have: 0 < Nat.gcd d.natAbs n.natAbs:=Nat.gcd_pos_of_pos_left _ (by omega);omega
  have key:∀{x z:Bool} {a b c e:Int},∃p q r s:Int,(bif x then some [ti 0,ti 0,ti 10,ti 0] else bif z then some [ti a,ti b,ti 0,ti 0] else some [ti c,ti e,ti 0,ti 0])=some [ti p,ti q,ti r,ti s]:=by
   intro x z a b c e;cases x
   .cases z
    .exact⟨_,_,_,_,rfl⟩
    .exact⟨_,_,_,_,rfl⟩
   .exact⟨_,_,_,_,rfl⟩
  have h:∃p q r s:Int,au aj ann Or (.call 127) [I n,I d] []=some [ti p,ti q,ti r,ti s]:=by rw [Lz];simp only [f,aV,k1,k2,k3,aI,aL,aP,if_neg i];exact key
  obtain⟨p,q,r,s,j⟩:=h;exact⟨p,q,r,s,ai j⟩
abbrev A2(a b:Int):AV:=AV.agg [I a,I b]
theorem Bf(a b c d:Int):∃k t:Int,Or (.call 109) [AV.t (T.aa 2 false [[ti a,ti b],[ti c,ti d]])] []=some [ti k,ti t]:=by
 have g:Or vl [r0,AV.t (T.aa 2 false [[ti a,ti b],[ti c,ti d]]),I 2,I 2] [ad.box [I 0,I 0]]=some [ti 0,ti 0]:=by refine ai ?_;rw [xv];rfl
 have f:∃k t:Int,Or vl [r0,AV.t (T.aa 2 false [[ti a,ti b],[ti c,ti d]]),I 2,I 1] [ad.box [I 0,I 0]]=some [ti k,ti t]:=by
  have k:=Dw c d;by_cases h:jq c d=0
  .have e:(jq c d==0)=true:=by simpa using h
   refine⟨0,0,ai ?_⟩;rw [xv];have w:i64.wrap (1+1)=2:=by decide
   show(ab none (Or (.call 82) [A2 c d] []) _)=_;rw [k];simp only [aI,aL,aU,aP,e,Xc,aV,w];exact g
  .have e:(jq c d==0)=false:=by simpa using h
   refine⟨3,1,ai ?_⟩;rw [xv];show(ab none (Or (.call 82) [A2 c d] []) _)=_;rw [k];simp only [aI,aL,aU,aP,e,Xe,aS]
 obtain⟨k1,i,f⟩:=f;have k:=Dw a b;by_cases h:jq a b=0
 .have e:(jq a b==0)=true:=by simpa using h
  refine⟨k1,i,ai ?_⟩;rw [Lu];refine ai ?_;rw [xv];have w:i64.wrap (0+1)=1:=by decide
  show(ab none (Or (.call 82) [A2 a b] []) _)=_;rw [k];simp only [aI,aL,aU,aP,e,Xc,aV,w];exact f
 .have e:(jq a b==0)=false:=by simpa using h
  refine⟨3,0,ai ?_⟩;rw [Lu];refine ai ?_;rw [xv];show(ab none (Or (.call 82) [A2 a b] []) _)=_;rw [k];simp only [aI,aL,aU,aP,e,Xe,aS]
theorem Mb(a b c d:Int):∃p q r s:Int,Or (.call 108) [A2 a b,A2 c d] []=some [ti p,ti q,ti r,ti s]:=by
 obtain⟨k,t,i⟩:=Bf a b c d;have g:Or (.call 121) [A2 a b,A2 c d] []=some [ti (i64.wrap (i64.wrap (a * d)+i64.wrap (c * b))),ti (i64.wrap (b * d))]:=by refine ai ?_;rw [V0]
 obtain⟨p,q,r,s,hm⟩:=IK (wrap_i64 (i64.wrap (a * d)+i64.wrap (c * b))) (wrap_i64 (b * d));have f:∃p q r s:Int,Or (.call 119) [A2 a b,A2 c d,AV.fn 121 [] []] []=some [ti p,ti q,ti r,ti s]:=by
  by_cases h:k=0
  .have e:(k==0)=true:=by simpa using h
   refine⟨p,q,r,s,ai ?_⟩;rw [Ly];simp only [aI,aL,aU,dz,dJ,aP,i,e,Xc,aV,g,hm]
  .have e:(k==0)=false:=by simpa using h
   refine⟨0,0,k,t,ai ?_⟩;rw [Ly];simp only [aI,aL,aU,aP,i,e,Xe,aS]
 obtain⟨p,q,r,s,h⟩:=f;refine⟨p,q,r,s,ai ?_⟩;rw [VU];simp only [aI,aL,aU,dz,dJ,aP,h]
theorem Vp(a b c d:Int):∃p q r s:Int,Or (.call 107) [A2 a b,A2 c d] []=some [ti p,ti q,ti r,ti s]:=by
 obtain⟨k,t,i⟩:=Bf a b c d;have g:Or (.call 120) [A2 a b,A2 c d] []=some [ti (i64.wrap (a * c)),ti (i64.wrap (b * d))]:=by refine ai ?_;rw [VZ]
 obtain⟨p,q,r,s,hm⟩:=IK (wrap_i64 (a * c)) (wrap_i64 (b * d));have f:∃p q r s:Int,Or (.call 119) [A2 a b,A2 c d,AV.fn 120 [] []] []=some [ti p,ti q,ti r,ti s]:=by
  by_cases h:k=0
  .have e:(k==0)=true:=by simpa using h
   refine⟨p,q,r,s,ai ?_⟩;rw [Lx];simp only [aI,aL,aU,dz,dJ,aP,i,e,Xc,aV,g,hm]
  .have e:(k==0)=false:=by simpa using h
   refine⟨0,0,k,t,ai ?_⟩;rw [Lx];simp only [aI,aL,aU,aP,i,e,Xe,aS]
 obtain⟨p,q,r,s,h⟩:=f;refine⟨p,q,r,s,ai ?_⟩;rw [VT];simp only [aI,aL,aU,dz,dJ,aP,h]
theorem Qz(a b c d:Int):∃(z:Bool) (k t:Int),Or (.call 90) [A2 a b,A2 c d] []=some [tb z,ti k,ti t]:=by
 obtain⟨k,t,f⟩:=Bf a b c d;by_cases h:k=0
 .have e:(k==0)=true:=by simpa using h
  refine⟨decide (i64.wrap (a * d) < i64.wrap (c * b)),0,0,ai ?_⟩;rw [LH];simp only [aI,aL,aU,aP,f,e,Xc,aV]
 .have e:(k==0)=false:=by simpa using h
  refine⟨false,k,t,ai ?_⟩;rw [LH];simp only [aI,aL,aU,aP,f,e,Xe,aS]
noncomputable def JS(o:Option (List T)):Int×Int×Int:=match o with
 | some [.int _ a, .int _ b, .int _ c,_]=>(a,b,c)
 | _=>(0,0,1)
noncomputable def ji(a b c d:Int):Int×Int×Int:=JS (Or (.call 108) [A2 a b,A2 c d] [])
noncomputable def lS(a b c d:Int):Int×Int×Int:=JS (Or (.call 107) [A2 a b,A2 c d] [])
noncomputable def sr(a b c d:Int):Bool:=match Or (.call 90) [A2 a b,A2 c d] [] with
 | some (.bool z::_)=>z
 | _=>false
theorem Ma(a b c d:Int):∃s:Int,Or (.call 108) [A2 a b,A2 c d] []=some [ti (ji a b c d).1,ti (ji a b c d).2.1,ti (ji a b c d).2.2,ti s]:=by obtain⟨p,q,r,s,h⟩:=Mb a b c d;refine⟨s, ?_⟩;unfold ji;rw [h];rfl
theorem Vo(a b c d:Int):∃s:Int,Or (.call 107) [A2 a b,A2 c d] []=some [ti (lS a b c d).1,ti (lS a b c d).2.1,ti (lS a b c d).2.2,ti s]:=by obtain⟨p,q,r,s,h⟩:=Vp a b c d;refine⟨s, ?_⟩;unfold lS;rw [h];rfl
theorem Iy(a b c d:Int):∃k t:Int,Or (.call 90) [A2 a b,A2 c d] []=some [tb (sr a b c d),ti k,ti t]:=by obtain⟨z,k,t,h⟩:=Qz a b c d;refine⟨k,t, ?_⟩;unfold sr;rw [h]
noncomputable def xo:Int->Int->List Vv->Option Vv
 | a,b,[]=>some ⟨a,b,[],0⟩
 | a,b,k::r=>if(ji a b k.n k.d).2.2=0 then xo (ji a b k.n k.d).1 (ji a b k.n k.d).2.1 r else none
noncomputable def wQ(op n d:Int)(ks:List Vv):Option Vv:=
 if op=12 then(if(lS (cy ks 0).n (cy ks 0).d n d).2.2=0 then some ⟨(lS (cy ks 0).n (cy ks 0).d n d).1,(lS (cy ks 0).n (cy ks 0).d n d).2.1,[],0⟩ else none) else xo 0 1 ks
def r8(r x:Int):List (Int×Int)->Int
 | []=>r
 | c::t=>if c.1=x then c.2 else r8 r x t
def fk(x y:Int):Bool->List (Int×Int)->List (Int×Int)
 | z,[]=>bif z then [] else [(x,y)]
 | z,c::t=>(bif !z && decide (c.1>=x) then [(x,y)] else [])++ ((if c.1=x then [] else [c])++fk x y (z || (!z && decide (c.1>=x))) t)
def pE(o b:Int)(ks:List Int)(n:Int):Int:=match Wo.lC o b ks n with
 | .int _ w::_=>w
 | _=>0
noncomputable def PM:Pm:=⟨wQ,λu v=>sr u.n u.d v.n v.d,λv x=>r8 v.r x v.cs,λv x y=>⟨0,0,fk x y (y==v.r) v.cs,v.r⟩,pE⟩
theorem SX:tf PM:=by
 intro o b ks n h g hl d c;show pE o b ks n=iD o b ks n;have a:Wo.mA b ks 0=none:=by
  have:∀(l:List Int) (i:Nat),(∀k∈l,0<=k/\k < pw b)->Wo.mA b l i=none:=by
   intro l;induction l with
   | nil=>intro i _;rfl
   | cons k l f=>intro i h;rw [Wo.mA,if_pos (show Wo.iE k b from h k W7)];exact f (i+1) λy e=>h y (W8 _ e)
  exact this ks 0 d
 unfold pE Wo.lC;rw [if_neg (by omega),if_neg (by unfold Wo.gz;omega),if_neg (by rw [hl];simp [wT,Wo.mQ]),a];show(match(if Wo.lW o b n then [ti (iD o b ks n),ti 0,ti 0] else _) with | .int _ w::_=>w | _=>0)=_;rw [if_pos (show Wo.lW o b n from c)]
open Go Go.Aev Go.IntKind
def cS(l:List Va):List (List T):=l.map λv=> [ti v.n,ti v.d,cT v,ti v.r]
theorem dU(l:List Va):(cS l).length=l.length:=by simp [cS]
theorem oH{l:List Va}{i:Nat}{v:Va}(h:l[i]? =some v):(cS l)[((i:Nat):Int).toNat]? =some [ti v.n,ti v.d,cT v,ti v.r]:=by simp [cS,h]
theorem iK{l:List Va}{i:Nat}{v:Va}(h:l[i]? =some v):(cS l)[i]? =some [ti v.n,ti v.d,cT v,ti v.r]:=by simp [cS,h]
theorem BV(l:List Va)(v:Va):cS l++ [[ti v.n,ti v.d,T.aa 2 v.ec (bW v.cs),ti v.r]]=cS (l++ [nV v]):=by simp [cS,nV,cT]
structure gV (b:Nat) (v:Va):Prop where
 l:v.cs.length<=b
 e:v.ec=true->v.cs= []
abbrev VL(e:Bool)(vs:List Va):AV:=AV.t (T.aa 4 e (cS vs))
structure An (R:Option (List T)) (v:Va):Prop where
 a:∃c,R=some [ti v.n,ti v.d,c,ti v.r]/\c.aQ 2=some (v.ec,bW v.cs)
theorem Du{v:Va}(h:gV 1000000 v):An (Or (.call 62) [VG v] []) v:=by obtain⟨x,a,b⟩:=zZ (e:=v.ec) (l:=v.cs) h.e (by have:=h.l;unfold ML;omega);refine⟨T.aa 2 v.ec (bW v.cs),ai ?_,rfl⟩;rw [V6];simp only [aI,aL,aP,a,b]
theorem pg(b:Bool):Or (.call 86) [B b] []=some [ti (bif b then 1 else 0),ti 1,T.aa 2 true [],ti 0]:=by
 have k:∀n:Int,Or (.call 91) [I n] []=some [ti n,ti 1,T.aC true,ti 0]:=λn=>by refine ai ?_;rw [LI]
 refine ai ?_;rw [WE];cases b
 .simp only [aV,aI,aL,aU,k];rfl
 .simp only [aS,aI,aL,aU,k];rfl
theorem Kz(n:Int):Or (.call 91) [I n] []=some [ti n,ti 1,T.aC true,ti 0]:=by refine ai ?_;rw [LI]
theorem Ab{e:Bool}{vs:List Va}{i:Nat}{v:Va}(h:vs[i]? =some v):Or (.call 83) [I (i:Int),AV.t (T.ptr [T.aa 4 e (cS vs)])] []=some [tb (v.n==1)]:=by
 have a: 0<=(i:Int)/\(i:Int) < (vs.length:Int):=by have:=(W9.1 h).1;omega
 refine ai ?_;rw [WB];simp only [aI,aL,aU,aP,dU,if_pos a,oH h]
theorem QZ{e:Bool}{vs:List Va}(hl:vs.length<=1000):∀(r:List Va) (i:Nat),vs.drop i=r->∃z:Int,Or pW [VL e vs,AV.fn 84 [] [],I (vs.length:Int),I (i:Int)] []=some [ti z]/\decide (z>=0)=r.any λv=>v.n==1:=by
 intro r;induction r with
 | nil=>
  intro i g;have b:¬(i:Int) < (vs.length:Int):=by have:=bu g;omega
  refine⟨-1,ai ?_,rfl⟩;rw [D4];simp only [decide_eq_false b,aV]
 | cons v r j=>
  intro i g;obtain⟨g1,k,f⟩:=bt g;have b:(i:Int) < (vs.length:Int):=by omega
  have h0: 0<=(i:Int)/\(i:Int) < (vs.length:Int):=by omega
  obtain⟨z,h,d⟩:=j (i+1) f;have a:Or (.call 84) [VG v] []=some [tb (v.n==1)]:=by refine ai ?_;rw [WC]
  cases c:(v.n==1) with
  | true=>rw [c] at a;refine⟨(i:Int),ai ?_,by rw [X9,c];simp⟩;rw [D4];simp only [decide_eq_true b,aS,dU,if_pos h0,aI,aL,aU,aP,bA,oH g1,cY,a]
  | false=>rw [c] at a;refine⟨z,ai ?_,by rw [X9,c,XG];exact d⟩;rw [D4];simp only [decide_eq_true b,aS,aV,dU,if_pos h0,aI,aL,aU,aP,bA,oH g1,cY,a,next i (show i<=1000000 by omega)];exact h
theorem UG{e:Bool}{vs:List Va}(hl:vs.length<=1000):Or (.call 87) [VL e vs,AV.fn 84 [] []] []=some [tb (vs.any λv=>v.n==1)]:=by
 obtain⟨z,c,b⟩:=QZ (e:=e) hl vs 0 rfl;have a:Or (.call 106) [VL e vs,AV.fn 84 [] []] []=some [ti z]:=by refine ai ?_;rw [VR];simp only [dU];exact c
 refine ai ?_;rw [WH];simp only [aI,aL,aP,a,b]
theorem Q6{e:Bool}{vs:List Va}(hl:vs.length<=1000):∀(r:List Va) (i:Nat),vs.drop i=r->∃z:Int,Or pW [VL e vs,AV.fn 85 [] [],I (vs.length:Int),I (i:Int)] []=some [ti z]/\decide (z>=0)=r.any λv=>v.n==0:=by
 intro r;induction r with
 | nil=>
  intro i g;have b:¬(i:Int) < (vs.length:Int):=by have:=bu g;omega
  refine⟨-1,ai ?_,rfl⟩;rw [D5];simp only [decide_eq_false b,aV]
 | cons v r j=>
  intro i g;obtain⟨g1,k,f⟩:=bt g;have b:(i:Int) < (vs.length:Int):=by omega
  have h0: 0<=(i:Int)/\(i:Int) < (vs.length:Int):=by omega
  obtain⟨z,h,d⟩:=j (i+1) f;have a:Or (.call 85) [VG v] []=some [tb (v.n==0)]:=by refine ai ?_;rw [WD]
  cases c:(v.n==0) with
  | true=>rw [c] at a;refine⟨(i:Int),ai ?_,by rw [X9,c];simp⟩;rw [D5];simp only [decide_eq_true b,aS,dU,if_pos h0,aI,aL,aU,aP,bA,oH g1,cY,a]
  | false=>rw [c] at a;refine⟨z,ai ?_,by rw [X9,c,XG];exact d⟩;rw [D5];simp only [decide_eq_true b,aS,aV,dU,if_pos h0,aI,aL,aU,aP,bA,oH g1,cY,a,next i (show i<=1000000 by omega)];exact h
theorem UH{e:Bool}{vs:List Va}(hl:vs.length<=1000):Or (.call 87) [VL e vs,AV.fn 85 [] []] []=some [tb (vs.any λv=>v.n==0)]:=by
 obtain⟨z,c,b⟩:=Q6 (e:=e) hl vs 0 rfl;have a:Or (.call 106) [VL e vs,AV.fn 85 [] []] []=some [ti z]:=by refine ai ?_;rw [VS];simp only [dU];exact c
 refine ai ?_;rw [WI];simp only [aI,aL,aP,a,b]
open Go Go.Aev Go.IntKind
theorem vt{k:Key}{vs:List AV}{b:List ad}{v:Va}(h:An (au aj ann Or k vs b) v):An (Or k vs b) v:=by obtain⟨c,d,e⟩:=h.a;exact⟨c,ai d,e⟩
theorem An.go{R:Option (List T)}{v:Va}(h:An R v){K:List T->Option (List T)}(f:∀c:T,c.aQ 2=some (v.ec,bW v.cs)->An (K [ti v.n,ti v.d,c,ti v.r]) v):An (ab none R K) v:=by obtain⟨c,b,e⟩:=h.a;rw [b,aI];exact f c e
abbrev CG(er:Bool)(m:Me):ad:=ad.box [AV.t (T.aa 5 er (aO m.rs)),I m.re.n,I m.re.d,AV.t (T.aa 2 m.re.ec (bW m.re.cs)),I m.re.r]
abbrev qX:ad:=ad.box [I 0,I 0,AV.t (T.aC true),I 0]
abbrev r2:AV:=Y'2
section
variable {er ev:Bool} {m:Me} {vs:List Va}
theorem Se{k:Nat}{e:En}{v:Va}(F:k<=1000)(z:e.ar.length=vs.length)(hl:vs.length<=1000)(ho:gV 1000000 e.to)(d:e.ar≠vs.map (λv=>v.n)->An (Or vo [VL ev vs,r0,r1,AV.t (T.aa 5 er (aO m.rs)),I (m.rs.length:Int),I ((k+1:Nat):Int)] [CG er m,qX]) v)(A:e.ar=vs.map (λv=>v.n)->v=e.to):
  ∀(r:List Int) (i:Nat) (same:Bool),e.ar.drop i=r->same=decide (e.ar.take i= (vs.map λv=>v.n).take i)->An (Or xR [VL ev vs,r0,r1,r2,B same,AV.t (T.aa 5 er (aO m.rs)),I (m.rs.length:Int),I (k:Int),aa e.ea e.ar,I (e.ar.length:Int),I (i:Int)] [CG er m,qX,eB e]) v:=by
 intro r;induction r with
 | nil=>
  intro i same g hs;have h0:=bu g;have j:¬(i:Int) < (e.ar.length:Int):=by omega
  have s:decide (e.ar.take i= (vs.map λv=>v.n).take i)=decide (e.ar=vs.map λv=>v.n):=by rw [Y6 h0,Y6 (by rw [XQ];omega)]
  rw [s] at hs;apply vt;rw [LF,decide_eq_false j,aV];cases same with
  | true=>
   have l:e.ar=vs.map λv=>v.n:=by simpa using hs.symm
   have:=A l;subst this;rw [aS];refine An.go (Du ho) λc y=>⟨T.aa 2 e.to.ec (bW e.to.cs), ?_,rfl⟩;simp only [aI,aL,aU,aP,y]
  | false=>
   have l:e.ar≠vs.map λv=>v.n:=λh=>by rw [decide_eq_true h] at hs;cases hs
   rw [aV,next k (by omega)];exact d l
 | cons a r C=>
  intro i same g hs;obtain⟨g1,E,w⟩:=bt g;have j:(i:Int) < (e.ar.length:Int):=by omega
  have h0: 0<=(i:Int)/\(i:Int) < (e.ar.length:Int):=by omega
  have x: 0<=(i:Int)/\(i:Int) < (vs.length:Int):=by omega
  have f:vs[i]? =some vs[i]:=Xd (by omega);have es:(same && (vs[i].n==a))=decide (e.ar.take (i+1)= (vs.map λv=>v.n).take (i+1)):=by
   rw [hs,YP,YP,g1,XU,f];show _=decide (e.ar.take i++ [a]= (vs.map λv=>v.n).take i++ [vs[i].n]);by_cases o:e.ar.take i= (vs.map λv=>v.n).take i
   .rw [o,decide_eq_true rfl,XR];by_cases p:vs[i].n=a
    .rw [p];simp
    .have D:¬a=vs[i].n:=λe=>p e.symm;simp [p,D]
   .rw [decide_eq_false o,X3,decide_eq_false];intro q;have:=congrArg List.length q;exact o (List.append_inj_left q (by rw [XW,XW,XQ];omega))
  have b:=C (i+1) _ w es;generalize vs[i]=u at f b;apply vt;rw [LF,decide_eq_true j,aS];cases same with
  | true=>simp only [aI,aL,aP,aE,if_pos h0,bR g1,dU,if_pos x,oH f,aS,next i (show i<=1000000 by omega)];rw [XR] at b;exact b
  | false=>simp only [aI,bI,aL,aP,aE,if_pos h0,bR g1,aV,next i (show i<=1000000 by omega)];rw [X3] at b;exact b
theorem Sd(hrl:m.rs.length<=1000)(hl:vs.length<=1000)(b:∀e∈m.rs,e.ar.length=vs.length/\gV 1000000 e.to)(d:gV 1000000 m.re):∀(r:List En) (k:Nat),m.rs.drop k=r->An (Or vo [VL ev vs,r0,r1,AV.t (T.aa 5 er (aO m.rs)),I (m.rs.length:Int),I (k:Int)] [CG er m,qX]) (eR r m.re (vs.map λv=>v.n)):=by
 intro r;induction r with
 | nil=>
  intro k g;have a:¬(k:Int) < (m.rs.length:Int):=by have:=bu g;omega
  apply vt;rw [LD,decide_eq_false a,aV];refine An.go (Du d) λc l=>⟨T.aa 2 m.re.ec (bW m.re.cs), ?_,rfl⟩;simp only [aI,aL,aU,aP,l]
 | cons e r p=>
  intro k g;obtain⟨g1,q,j⟩:=bt g;have a:(k:Int) < (m.rs.length:Int):=by omega
  have h0: 0<=(k:Int)/\(k:Int) < (m.rs.length:Int):=by omega
  obtain⟨f,i⟩:=b e (Xg g1);have o:=Se (er:=er) (ev:=ev) (m:=m) (vs:=vs) (k:=k) (e:=e) (v:=eR (e::r) m.re (vs.map λv=>v.n)) (by omega) f hl i (λh=>by rw [eR,if_neg h];exact p (k+1) j) (λh=>by rw [eR,if_pos h]) e.ar 0 true rfl rfl;apply vt;rw [LD,decide_eq_true a,aS];simp only [aI,aL,aU,aP,dA,if_pos h0,iv g1,cY,aE,bO];exact o
theorem UI(hrl:m.rs.length<=1000)(hl:vs.length<=1000)(a:∀e∈m.rs,e.ar.length=vs.length/\gV 1000000 e.to)(b:gV 1000000 m.re):An (Or (.call 88) [AV.agg [AV.t (T.aa 5 er (aO m.rs)),I m.re.n,I m.re.d,AV.t (T.aa 2 m.re.ec (bW m.re.cs)),I m.re.r],VL ev vs] []) (eR m.rs m.re (vs.map λv=>v.n)):=by have h:=Sd (er:=er) (ev:=ev) hrl hl a b m.rs 0 rfl;apply vt;rw [WJ];simp only [dA];exact h
theorem Sm{v:Va}{x:Int}(hl:v.cs.length<=1000000):∀(r:List (Int×Int)) (i:Nat),v.cs.drop i=r->Or xT [I x,r0,AV.t (T.aa 2 v.ec (bW v.cs)),I (v.cs.length:Int),I (i:Int)] [ad.box [I v.n,I v.d,AV.t (T.aa 2 v.ec (bW v.cs)),I v.r]]=some [ti (r8 v.r x r)]:=by
 intro r;induction r with
 | nil=>
  intro i g;have b:¬(i:Int) < (v.cs.length:Int):=by have:=bu g;omega
  refine ai ?_;rw [LJ,decide_eq_false b];rfl
 | cons c r j=>
  intro i g;obtain⟨g1,k,f⟩:=bt g;have b:(i:Int) < (v.cs.length:Int):=by omega
  have h0: 0<=(i:Int)/\(i:Int) < (v.cs.length:Int):=by omega
  have h:=j (i+1) f;refine ai ?_;rw [LJ,decide_eq_true b,aS,r8];by_cases a:c.1=x
  .have e:(c.1==x)=true:=by simpa using a
   simp only [aI,aL,aU,aP,iX,if_pos h0,l6 g1,e,aS,if_pos a]
  .have e:(c.1==x)=false:=by simpa using a
   simp only [aI,aL,aU,aP,iX,if_pos h0,l6 g1,e,aV,if_neg a,next i (show i<=1000000 by omega)];exact h
theorem UK{v:Va}{x:Int}(hl:v.cs.length<=1000000):Or (.call 92) [VG v,I x] []=some [ti (r8 v.r x v.cs)]:=by have h:=Sm (x:=x) hl v.cs 0 rfl;refine ai ?_;rw [WK];simp only [iX];exact h
theorem Sh{x:Nd}(hl:vs.length<=1000):∀(r:List Va) (i:Nat) (a b c d:Int),vs.drop i=r->∃(w:Va) (z:Bool),Or xS [r0,r1,r2,VL ev vs,I (vs.length:Int),I (i:Int)] [qX,ad.box [I a,I b],ad.box [I c,I d]]=some [ti w.n,ti w.d,T.aC true,ti 0,tb z]/\(xo a b (r.map vv)=if z then some ⟨w.n,w.d,[],0⟩ else none):=by
 intro r;induction r with
 | nil=>
  intro i a b c d g;have e:¬(i:Int) < (vs.length:Int):=by have:=bu g;omega
  refine⟨⟨true,a,b,true,[],0⟩,true,ai ?_,rfl⟩;rw [D8,decide_eq_false e];rfl
 | cons v r o=>
  intro i a b c d g;obtain⟨g1,p,k⟩:=bt g;have e:(i:Int) < (vs.length:Int):=by omega
  have h0: 0<=(i:Int)/\(i:Int) < (vs.length:Int):=by omega
  obtain⟨s,hs⟩:=Ma a b v.n v.d;rw [Xq,xo];show ∃(w:Va) (z:Bool),_/\((if(ji a b v.n v.d).2.2=0 then xo (ji a b v.n v.d).1 (ji a b v.n v.d).2.1 (r.map vv) else none)=_);by_cases f:(ji a b v.n v.d).2.2=0
  .obtain⟨w,z,l,j⟩:=o (i+1) (ji a b v.n v.d).1 (ji a b v.n v.d).2.1 (ji a b v.n v.d).2.2 s k;have h:((ji a b v.n v.d).2.2==0)=true:=by simpa using f
   refine⟨w,z,ai ?_,by rw [if_pos f];exact j⟩;rw [D8,decide_eq_true e,aS];simp only [aI,aL,aU,dI,dz,dJ,aP,dU,if_pos h0,oH g1,cY,hs,h,Xc,aV,next i (show i<=1000000 by omega)];exact l
  .have h:((ji a b v.n v.d).2.2==0)=false:=by simpa using f
   refine⟨⟨true,0,0,true,[],0⟩,false,ai ?_,by rw [if_neg f];rfl⟩;rw [D8,decide_eq_true e,aS];simp only [aI,aL,aU,dI,dz,dJ,aP,dU,if_pos h0,oH g1,cY,hs,h,Xe,aS]
abbrev NG(x:Nd):AV:=AV.agg [I x.op,aa x.ek x.ks,I x.n,I x.d,AV.t (T.str x.nm)]
theorem Ky{x:Nd}(hl:vs.length<=1000)(f:x.op=12->1<=vs.length):∃(w:Va) (z:Bool),Or (.call 89) [NG x,VL ev vs] []=some [ti w.n,ti w.d,T.aC true,ti 0,tb z]/\(wQ x.op x.n x.d (vs.map vv)=if z then some ⟨w.n,w.d,[],0⟩ else none):=by
 unfold wQ;by_cases a:x.op=12
 .have c:(x.op==12)=true:=by simpa using a
  have e:=f a;have g:vs[0]? =some vs[0]:=Xd e;obtain⟨s,hs⟩:=Vo vs[0].n vs[0].d x.n x.d;have j:cy (vs.map vv) 0=vv vs[0]:=by unfold cy;rw [Xa,XU,g];rfl
  rw [if_pos a,j];show ∃(w:Va) (z:Bool),_/\((if(lS vs[0].n vs[0].d x.n x.d).2.2=0 then _ else none)=_);generalize vs[0]=v at g hs;have h0:(0:Int)<=0/\(0:Int) < (vs.length:Int):=by omega
  refine⟨⟨true,(lS v.n v.d x.n x.d).1,(lS v.n v.d x.n x.d).2.1,true,[],0⟩,(lS v.n v.d x.n x.d).2.2==0,ai ?_, ?_⟩
  .rw [LG,c,aS];simp only [aI,aL,aU,dI,dz,dJ,aP,dU,if_pos h0,iK g,hs]
  .by_cases b:(lS v.n v.d x.n x.d).2.2=0
   .rw [if_pos b,b];rfl
   .have:((lS v.n v.d x.n x.d).2.2==0)=false:=by simpa using b
    rw [if_neg b,this];rfl
 .have c:(x.op==12)=false:=by simpa using a
  obtain⟨w,z,h,i⟩:=Sh (ev:=ev) (x:=x) hl vs 0 0 1 0 0 rfl;refine⟨w,z,ai ?_,by rw [if_neg a];exact i⟩;rw [LG,c,aV];simp only [dU];exact h
end
end Go.Aev.Gen
