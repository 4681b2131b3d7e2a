import Derived.Test.YtcjplcpngagalaaGreatDoorBlastDownsQ7
import Derived.Test.YtcjplcpngagalaaGreatDoorBlastDownsQ11
set_option linter.all false
namespace Go.Aev.Gen
open Go Go.Aev Go.IntKind
def pB(s:Int):Bool:=s==1
def pN(s:Int):Bool:=s==2 || s==3
def pI(s:Int):Bool:=s==2
theorem Lv(n:Int):Or (.call 97) [I n] []=some [tb (pB n)]:=by refine ah ?_;rw [G6];rfl
theorem Kh(n:Int):Or (.call 105) [I n,AV.t (T.ptr [T.cr 97])] []=some [tb (!pB n)]:=by have k:=Lv n;refine ah ?_;rw [E8];simp only [ai,↓reduceIte,Int.reduceBEq,Int.reduceEq,k]
theorem Jo{e:Bool}{l:List Int}(hl:l.length<=1000):∀(r:List Int) (i:Nat),l.drop i=r->
  ∃z:Int,Or dS [ab e l,AV.fn 105 [] [AV.t (T.ptr [T.cr 97])],I (l.length:Int),I (i:Int)] []=some [ti z]/\decide (z>=0)= !r.all pB:=by
 intro r;induction r with
 | nil=>
  intro i g;have a:¬(i:Int) < (l.length:Int):=by have:=bh g;omega
  refine⟨-1,ah ?_,by simp⟩;rw [vN];simp only [ai,↓reduceIte,Int.reduceBEq,Int.reduceEq,a]
 | cons d r h=>
  intro i g;obtain⟨c,o,f⟩:=bp g;have a:(i:Int) < (l.length:Int):=by omega
  have h0: 0<=(i:Int):=by omega
  have k:=Kh d;cases b:pB d with
  | false=>rw [b] at k;refine⟨(i:Int),ah ?_,by simp [b]⟩;rw [vN];simp only [ai,↓reduceIte,Int.reduceBEq,Int.reduceEq,a,h0,and_self,aC,bD c,k,MA]
  | true=>rw [b] at k;obtain⟨z,j,m⟩:=h (i+1) f;refine⟨z,ah ?_,by rw [m];simp [b]⟩;rw [vN];simp only [ai,↓reduceIte,Int.reduceBEq,Int.reduceEq,a,h0,and_self,aC,bD c,k,Mz,next i (by omega)];exact j
theorem uk{e:Bool}{l:List Int}(hl:l.length<=1000):Or (.call 96) [ab e l,AV.fn 97 [] []] []=some [tb (l.all pB)]:=by
 obtain⟨z,c,f⟩:=Jo (e:=e) hl l 0 rfl;have b:Or (.call 86) [ab e l,AV.fn 105 [] [AV.t (T.ptr [T.cr 97])]] []=some [ti z]:=by refine ah ?_;rw [GO];simp only [aC];exact c
 have a:Or (.call 48) [ab e l,AV.fn 105 [] [AV.t (T.ptr [T.cr 97])]] []=some [tb (!l.all pB)]:=by refine ah ?_;rw [FJ];simp only [ai,↓reduceIte,Int.reduceBEq,Int.reduceEq,b,f]
 refine ah ?_;rw [G3];simp only [ai,↓reduceIte,Int.reduceBEq,Int.reduceEq,a,Bool.not_not]
theorem C9(n:Int):Or (.call 98) [I n] []=some [tb (pN n)]:=by refine ah ?_;rw [G7];unfold pN;cases h:n==2 <;> simp
theorem Ki(n:Int):Or (.call 105) [I n,AV.t (T.ptr [T.cr 98])] []=some [tb (!pN n)]:=by have k:=C9 n;refine ah ?_;rw [E9];simp only [ai,↓reduceIte,Int.reduceBEq,Int.reduceEq,k]
theorem Jp{e:Bool}{l:List Int}(hl:l.length<=1000):∀(r:List Int) (i:Nat),l.drop i=r->
  ∃z:Int,Or dS [ab e l,AV.fn 105 [] [AV.t (T.ptr [T.cr 98])],I (l.length:Int),I (i:Int)] []=some [ti z]/\decide (z>=0)= !r.all pN:=by
 intro r;induction r with
 | nil=>
  intro i g;have a:¬(i:Int) < (l.length:Int):=by have:=bh g;omega
  refine⟨-1,ah ?_,by simp⟩;rw [vO];simp only [ai,↓reduceIte,Int.reduceBEq,Int.reduceEq,a]
 | cons d r h=>
  intro i g;obtain⟨c,o,f⟩:=bp g;have a:(i:Int) < (l.length:Int):=by omega
  have h0: 0<=(i:Int):=by omega
  have k:=Ki d;cases b:pN d with
  | false=>rw [b] at k;refine⟨(i:Int),ah ?_,by simp [b]⟩;rw [vO];simp only [ai,↓reduceIte,Int.reduceBEq,Int.reduceEq,a,h0,and_self,aC,bD c,k,MA]
  | true=>rw [b] at k;obtain⟨z,j,m⟩:=h (i+1) f;refine⟨z,ah ?_,by rw [m];simp [b]⟩;rw [vO];simp only [ai,↓reduceIte,Int.reduceBEq,Int.reduceEq,a,h0,and_self,aC,bD c,k,Mz,next i (by omega)];exact j
theorem um{e:Bool}{l:List Int}(hl:l.length<=1000):Or (.call 96) [ab e l,AV.fn 98 [] []] []=some [tb (l.all pN)]:=by
 obtain⟨z,c,f⟩:=Jp (e:=e) hl l 0 rfl;have b:Or (.call 86) [ab e l,AV.fn 105 [] [AV.t (T.ptr [T.cr 98])]] []=some [ti z]:=by refine ah ?_;rw [GP];simp only [aC];exact c
 have a:Or (.call 48) [ab e l,AV.fn 105 [] [AV.t (T.ptr [T.cr 98])]] []=some [tb (!l.all pN)]:=by refine ah ?_;rw [FK];simp only [ai,↓reduceIte,Int.reduceBEq,Int.reduceEq,b,f]
 refine ah ?_;rw [G4];simp only [ai,↓reduceIte,Int.reduceBEq,Int.reduceEq,a,Bool.not_not]
theorem Ke(n:Int):Or (.call 100) [I n] []=some [tb (pI n)]:=by refine ah ?_;rw [E3];rfl
theorem Kg(n:Int):Or (.call 105) [I n,AV.t (T.ptr [T.cr 100])] []=some [tb (!pI n)]:=by have k:=Ke n;refine ah ?_;rw [Fa];simp only [ai,↓reduceIte,Int.reduceBEq,Int.reduceEq,k]
theorem Jn{e:Bool}{l:List Int}(hl:l.length<=1000):∀(r:List Int) (i:Nat),l.drop i=r->
  ∃z:Int,Or dS [ab e l,AV.fn 105 [] [AV.t (T.ptr [T.cr 100])],I (l.length:Int),I (i:Int)] []=some [ti z]/\decide (z>=0)= !r.all pI:=by
 intro r;induction r with
 | nil=>
  intro i g;have a:¬(i:Int) < (l.length:Int):=by have:=bh g;omega
  refine⟨-1,ah ?_,by simp⟩;rw [vM];simp only [ai,↓reduceIte,Int.reduceBEq,Int.reduceEq,a]
 | cons d r h=>
  intro i g;obtain⟨c,o,f⟩:=bp g;have a:(i:Int) < (l.length:Int):=by omega
  have h0: 0<=(i:Int):=by omega
  have k:=Kg d;cases b:pI d with
  | false=>rw [b] at k;refine⟨(i:Int),ah ?_,by simp [b]⟩;rw [vM];simp only [ai,↓reduceIte,Int.reduceBEq,Int.reduceEq,a,h0,and_self,aC,bD c,k,MA]
  | true=>rw [b] at k;obtain⟨z,j,m⟩:=h (i+1) f;refine⟨z,ah ?_,by rw [m];simp [b]⟩;rw [vM];simp only [ai,↓reduceIte,Int.reduceBEq,Int.reduceEq,a,h0,and_self,aC,bD c,k,Mz,next i (by omega)];exact j
theorem Lu{e:Bool}{l:List Int}(hl:l.length<=1000):Or (.call 96) [ab e l,AV.fn 100 [] []] []=some [tb (l.all pI)]:=by
 obtain⟨z,c,f⟩:=Jn (e:=e) hl l 0 rfl;have b:Or (.call 86) [ab e l,AV.fn 105 [] [AV.t (T.ptr [T.cr 100])]] []=some [ti z]:=by refine ah ?_;rw [GN];simp only [aC];exact c
 have a:Or (.call 48) [ab e l,AV.fn 105 [] [AV.t (T.ptr [T.cr 100])]] []=some [tb (!l.all pI)]:=by refine ah ?_;rw [FI];simp only [ai,↓reduceIte,Int.reduceBEq,Int.reduceEq,b,f]
 refine ah ?_;rw [G5];simp only [ai,↓reduceIte,Int.reduceBEq,Int.reduceEq,a,Bool.not_not]
theorem IZ{e e':Bool}{a b:List Int}(v:a.length=b.length)(hl:a.length<=1000):∀(g c:List Int) (i:Nat),a.drop i=g->b.drop i=c->Or rT [ab e a,ab e' b,I (a.length:Int),I (i:Int)] []=some [tb (decide (g=c))]:=by
 intro g;induction g with
 | nil=>
  intro c i l h;have j:¬(i:Int) < (a.length:Int):=by have:=bh l;omega
  have:c= []:=by rw [<-h];exact Oi (by omega)
  subst this;refine ah ?_;rw [vu];simp only [ai,↓reduceIte,Int.reduceBEq,Int.reduceEq,j,decide_true]
 | cons x g u=>
  intro c i l h;obtain⟨m,w,r⟩:=bp l;cases c with
  | nil=>exact absurd (bh h) (by omega)
  | cons y c=>
   obtain⟨o,z,s⟩:=bp h;have j:(i:Int) < (a.length:Int):=by omega
   have p:(i:Int) < (b.length:Int):=by omega
   have h0: 0<=(i:Int):=by omega
   by_cases f:x=y
   .have t:=u c (i+1) r s;have k:decide (x::g=y::c)=decide (g=c):=by simp [f]
    rw [k];refine ah ?_;rw [vu];simp only [ai,↓reduceIte,Int.reduceBEq,Int.reduceEq,j,p,h0,and_self,aC,bD m,bD o,f,Mz,next i (by omega)];exact t
   .have k:decide (x::g=y::c)=false:=by simp [f]
    have q:(x==y)=false:=by simpa using f
    rw [k];refine ah ?_;rw [vu];simp only [ai,↓reduceIte,Int.reduceBEq,Int.reduceEq,j,p,h0,and_self,aC,bD m,bD o,q,f,MA]
theorem C4{e e':Bool}{a b:List Int}(hl:a.length<=1000):Or (.call 52) [ab e a,ab e' b] []=some [tb (decide (a=b))]:=by
 by_cases c:a.length=b.length
 .have i:=IZ (e:=e) (e':=e') c hl a b 0 rfl rfl;have h:(a.length:Int)= (b.length:Int):=by omega
  refine ah ?_;rw [zH];simp only [ai,↓reduceIte,Int.reduceBEq,Int.reduceEq,aC,h,Mz];rw [<-h];exact i
 .have h:¬(a.length:Int)= (b.length:Int):=by omega
  have g:((a.length:Int)== (b.length:Int))=false:=by simpa using h
  have f:decide (a=b)=false:=by rw [decide_eq_false_iff_not];rintro rfl;exact c rfl
  rw [f];refine ah ?_;rw [zH];simp only [ai,↓reduceIte,Int.reduceBEq,Int.reduceEq,aC,g,h,MA]
theorem xB{e e':Bool}{l da:List Int}(hl:l.length<=1000):Or (.call 95) [ab e da,AV.t (T.ptr [T.ab 1 e' (enc l)])] []=some [tb (decide (l=da))]:=by have k:=C4 (e:=e') (e':=e) (b:=da) hl;refine ah ?_;rw [G2];simp only [ai,↓reduceIte,Int.reduceBEq,Int.reduceEq,k]
theorem lK(b:Bool):Or (.call 99) [B b] []=some [ti (if b then 2 else 3)]:=by refine ah ?_;rw [G8];cases b <;> rfl
def be(op d:Int)(l da:List Int)(so:Int):Int:=
 if op=1\/op=2 then 1
 else if op=3\/op=4\/op=5\/op=6 then(if l.all pB then 1 else 0)
 else if op=7 then(if l.getD 0 0=1/\l.getD 1 0=l.getD 2 0/\l.getD 1 0≠5 then l.getD 1 0 else 0)
 else if op=8 then(if l.all pN=true\/(l.getD 0 0=l.getD 1 0/\(l.getD 0 0=4\/aH (l.getD 0 0)=true)) then 1 else 0)
 else if op=9 then(if l=da then so else 0)
 else if op=10 then(if d=1 then 2 else 3)
 else if op=11 then(if l.all pN then(if l.all pI then 2 else 3) else 0)
 else if op=12 then(if pN (l.getD 0 0) then(if l.getD 0 0=2/\d=1 then 2 else 3) else 0)
 else if op=13\/op=14 then(if l.all pN then 1 else 0)
 else if op=15 then 10+d
 else if op=16\/op=23 then(if aH (l.getD 0 0) then l.getD 0 0 else 0)
 else if op=22 then(if l.getD 0 0=l.getD 1 0/\aH (l.getD 0 0)=true then 1 else 0)
 else if op=24 then(if l= [5,4] then 4 else 0)
 else if op=25 then(if l= [5,4,4] then 5 else 0)
 else(if l.getD 0 0=l.getD 1 0/\aH (l.getD 0 0)=true then l.getD 0 0 else 0)
abbrev SA(op:Int)(ek:Bool)(ks:List (List T))(n d:Int)(nm:ByteArray)(es:Bool)(l:List Int)(dn:ByteArray)(ea:Bool)(da:List Int)(so:Int):List AV:=
 [AV.agg [I op,AV.t (T.ab 1 ek ks),I n,I d,AV.t (T.str nm)],ab es l,AV.agg [AV.t (T.str dn),ab ea da,I so]]
section
variable {ek:Bool} {ks:List (List T)} {n d:Int} {nm:ByteArray} {es:Bool} {dn:ByteArray} {ea:Bool} {da:List Int} {so:Int}
theorem bL:(0:Int)<=0/\(0:Int) < 2:=by decide
theorem bN:(0:Int)<=1/\(1:Int) < 2:=by decide
theorem bK:(0:Int)<=0/\(0:Int) < 1:=by decide
theorem bM:(0:Int)<=0/\(0:Int) < 3:=by decide
theorem bO:(0:Int)<=1/\(1:Int) < 3:=by decide
theorem bx:(0:Int)<=2/\(2:Int) < 3:=by decide
theorem L0:((([]:List Int).length:Nat):Int)=0:=rfl
theorem L1(a:Int):((([a]:List Int).length:Nat):Int)=1:=rfl
theorem L2(a b:Int):((([a,b]:List Int).length:Nat):Int)=2:=rfl
theorem L3(a b c:Int):((([a,b,c]:List Int).length:Nat):Int)=3:=rfl
theorem E1(a:Int):(enc [a])[0]? =some [ti a]:=rfl
theorem bF(a b:Int):(enc [a,b])[0]? =some [ti a]:=rfl
theorem bG(a b:Int):(enc [a,b])[1]? =some [ti b]:=rfl
theorem bH(a b c:Int):(enc [a,b,c])[0]? =some [ti a]:=rfl
theorem bI(a b c:Int):(enc [a,b,c])[1]? =some [ti b]:=rfl
theorem bJ(a b c:Int):(enc [a,b,c])[2]? =some [ti c]:=rfl
theorem K1:Or (.call 84) (SA 1 ek ks n d nm es [] dn ea da so) []=some [ti (be 1 d [] da so)]:=by refine ah ?_;rw [Gp];simp only [bm,ai,↓reduceIte,Int.reduceBEq,Int.reduceEq,aC,L0,L1,L2,L3,E1,bF,bG,bH,bI,bJ,bL,bN,bK,bM,bO,bx,and_self];rfl
theorem Lc:Or (.call 84) (SA 2 ek ks n d nm es [] dn ea da so) []=some [ti (be 2 d [] da so)]:=by refine ah ?_;rw [Gy];simp only [bm,ai,↓reduceIte,Int.reduceBEq,Int.reduceEq,aC,L0,L1,L2,L3,E1,bF,bG,bH,bI,bJ,bL,bN,bK,bM,bO,bx,and_self];rfl
theorem Lk{l:List Int}(hl:l.length<=1000):Or (.call 84) (SA 3 ek ks n d nm es l dn ea da so) []=some [ti (be 3 d l da so)]:=by
 have k:=uk (e:=es) hl;unfold be;by_cases f:l.length=2
 .obtain⟨a,b,rfl⟩:∃a b,l= [a,b]:=by
   match l,f with
   | [a,b],_=>exact⟨a,b,rfl⟩
  cases c:List.all [a,b] pB <;> rw [c] at k <;>
  .refine ah ?_;rw [Af];simp only [bm,ai,↓reduceIte,Int.reduceBEq,Int.reduceEq,aC,L0,L1,L2,L3,E1,bF,bG,bH,bI,bJ,bL,bN,bK,bM,bO,bx,and_self,k,Mz,MA];rfl
 .have g:((l.length:Int)==2)=false:=by simp;omega
  have h:¬(l.length:Int)=2:=by omega
  cases c:l.all pB <;> rw [c] at k <;>
  .refine ah ?_;rw [Af];simp only [bm,ai,↓reduceIte,Int.reduceBEq,Int.reduceEq,aC,L0,L1,L2,L3,E1,bF,bG,bH,bI,bJ,bL,bN,bK,bM,bO,bx,and_self,g,h,k,Mz,MA];rfl
theorem Ll{l:List Int}(hl:l.length<=1000):Or (.call 84) (SA 4 ek ks n d nm es l dn ea da so) []=some [ti (be 4 d l da so)]:=by
 have k:=uk (e:=es) hl;unfold be;by_cases f:l.length=2
 .obtain⟨a,b,rfl⟩:∃a b,l= [a,b]:=by
   match l,f with
   | [a,b],_=>exact⟨a,b,rfl⟩
  cases c:List.all [a,b] pB <;> rw [c] at k <;>
  .refine ah ?_;rw [Ag];simp only [bm,ai,↓reduceIte,Int.reduceBEq,Int.reduceEq,aC,L0,L1,L2,L3,E1,bF,bG,bH,bI,bJ,bL,bN,bK,bM,bO,bx,and_self,k,Mz,MA];rfl
 .have g:((l.length:Int)==2)=false:=by simp;omega
  have h:¬(l.length:Int)=2:=by omega
  cases c:l.all pB <;> rw [c] at k <;>
  .refine ah ?_;rw [Ag];simp only [bm,ai,↓reduceIte,Int.reduceBEq,Int.reduceEq,aC,L0,L1,L2,L3,E1,bF,bG,bH,bI,bJ,bL,bN,bK,bM,bO,bx,and_self,g,h,k,Mz,MA];rfl
theorem Lm{l:List Int}(hl:l.length<=1000):Or (.call 84) (SA 5 ek ks n d nm es l dn ea da so) []=some [ti (be 5 d l da so)]:=by
 have k:=uk (e:=es) hl;unfold be;by_cases f:l.length=2
 .obtain⟨a,b,rfl⟩:∃a b,l= [a,b]:=by
   match l,f with
   | [a,b],_=>exact⟨a,b,rfl⟩
  cases c:List.all [a,b] pB <;> rw [c] at k <;>
  .refine ah ?_;rw [Ah];simp only [bm,ai,↓reduceIte,Int.reduceBEq,Int.reduceEq,aC,L0,L1,L2,L3,E1,bF,bG,bH,bI,bJ,bL,bN,bK,bM,bO,bx,and_self,k,Mz,MA];rfl
 .have g:((l.length:Int)==2)=false:=by simp;omega
  have h:¬(l.length:Int)=2:=by omega
  cases c:l.all pB <;> rw [c] at k <;>
  .refine ah ?_;rw [Ah];simp only [bm,ai,↓reduceIte,Int.reduceBEq,Int.reduceEq,aC,L0,L1,L2,L3,E1,bF,bG,bH,bI,bJ,bL,bN,bK,bM,bO,bx,and_self,g,h,k,Mz,MA];rfl
theorem Ln{l:List Int}(hl:l.length<=1000):Or (.call 84) (SA 6 ek ks n d nm es l dn ea da so) []=some [ti (be 6 d l da so)]:=by
 have k:=uk (e:=es) hl;unfold be;by_cases f:l.length=2
 .obtain⟨a,b,rfl⟩:∃a b,l= [a,b]:=by
   match l,f with
   | [a,b],_=>exact⟨a,b,rfl⟩
  cases c:List.all [a,b] pB <;> rw [c] at k <;>
  .refine ah ?_;rw [Ai];simp only [bm,ai,↓reduceIte,Int.reduceBEq,Int.reduceEq,aC,L0,L1,L2,L3,E1,bF,bG,bH,bI,bJ,bL,bN,bK,bM,bO,bx,and_self,k,Mz,MA];rfl
 .have g:((l.length:Int)==2)=false:=by simp;omega
  have h:¬(l.length:Int)=2:=by omega
  cases c:l.all pB <;> rw [c] at k <;>
  .refine ah ?_;rw [Ai];simp only [bm,ai,↓reduceIte,Int.reduceBEq,Int.reduceEq,aC,L0,L1,L2,L3,E1,bF,bG,bH,bI,bJ,bL,bN,bK,bM,bO,bx,and_self,g,h,k,Mz,MA];rfl
theorem K5{l:List Int}(hl:l.length<=1000):Or (.call 84) (SA 13 ek ks n d nm es l dn ea da so) []=some [ti (be 13 d l da so)]:=by
 have k:=um (e:=es) hl;unfold be;by_cases f:l.length=2
 .obtain⟨a,b,rfl⟩:∃a b,l= [a,b]:=by
   match l,f with
   | [a,b],_=>exact⟨a,b,rfl⟩
  cases c:List.all [a,b] pN <;> rw [c] at k <;>
  .refine ah ?_;rw [Aa];simp only [bm,ai,↓reduceIte,Int.reduceBEq,Int.reduceEq,aC,L0,L1,L2,L3,E1,bF,bG,bH,bI,bJ,bL,bN,bK,bM,bO,bx,and_self,k,Mz,MA];rfl
 .have g:((l.length:Int)==2)=false:=by simp;omega
  have h:¬(l.length:Int)=2:=by omega
  cases c:l.all pN <;> rw [c] at k <;>
  .refine ah ?_;rw [Aa];simp only [bm,ai,↓reduceIte,Int.reduceBEq,Int.reduceEq,aC,L0,L1,L2,L3,E1,bF,bG,bH,bI,bJ,bL,bN,bK,bM,bO,bx,and_self,g,h,k,Mz,MA];rfl
theorem K6{l:List Int}(hl:l.length<=1000):Or (.call 84) (SA 14 ek ks n d nm es l dn ea da so) []=some [ti (be 14 d l da so)]:=by
 have k:=um (e:=es) hl;unfold be;by_cases f:l.length=2
 .obtain⟨a,b,rfl⟩:∃a b,l= [a,b]:=by
   match l,f with
   | [a,b],_=>exact⟨a,b,rfl⟩
  cases c:List.all [a,b] pN <;> rw [c] at k <;>
  .refine ah ?_;rw [Ab];simp only [bm,ai,↓reduceIte,Int.reduceBEq,Int.reduceEq,aC,L0,L1,L2,L3,E1,bF,bG,bH,bI,bJ,bL,bN,bK,bM,bO,bx,and_self,k,Mz,MA];rfl
 .have g:((l.length:Int)==2)=false:=by simp;omega
  have h:¬(l.length:Int)=2:=by omega
  cases c:l.all pN <;> rw [c] at k <;>
  .refine ah ?_;rw [Ab];simp only [bm,ai,↓reduceIte,Int.reduceBEq,Int.reduceEq,aC,L0,L1,L2,L3,E1,bF,bG,bH,bI,bJ,bL,bN,bK,bM,bO,bx,and_self,g,h,k,Mz,MA];rfl
theorem K3{l:List Int}(hl:l.length<=1000):Or (.call 84) (SA 11 ek ks n d nm es l dn ea da so) []=some [ti (be 11 d l da so)]:=by
 have k:=um (e:=es) hl;have f:=Lu (e:=es) hl;have g:=lK (l.all pI);unfold be;by_cases h:l.length=2
 .obtain⟨a,b,rfl⟩:∃a b,l= [a,b]:=by
   match l,h with
   | [a,b],_=>exact⟨a,b,rfl⟩
  cases c:List.all [a,b] pN <;> rw [c] at k <;>
  .refine ah ?_;rw [z8];simp only [bm,ai,↓reduceIte,Int.reduceBEq,Int.reduceEq,aC,L0,L1,L2,L3,E1,bF,bG,bH,bI,bJ,bL,bN,bK,bM,bO,bx,and_self,k,f,g,Mz,MA];rfl
 .have i:((l.length:Int)==2)=false:=by simp;omega
  have j:¬(l.length:Int)=2:=by omega
  cases c:l.all pN <;> rw [c] at k <;>
  .refine ah ?_;rw [z8];simp only [bm,ai,↓reduceIte,Int.reduceBEq,Int.reduceEq,aC,L0,L1,L2,L3,E1,bF,bG,bH,bI,bJ,bL,bN,bK,bM,bO,bx,and_self,i,j,k,f,g,Mz,MA];rfl
theorem Lo{a b c:Int}:Or (.call 84) (SA 7 ek ks n d nm es [a,b,c] dn ea da so) []=some [ti (be 7 d [a,b,c] da so)]:=by
 have e:be 7 d [a,b,c] da so=if a=1/\b=c/\b≠5 then b else 0:=rfl;rw [e];refine ah ?_;rw [GD];by_cases g:a=1
 .have k:(a==1)=true:=by simpa using g
  by_cases i:b=c
  .have l:(b==c)=true:=by simpa using i
   by_cases j:b=5
   .have f:(b==5)=true:=by simpa using j
    refine O8 (b:=some [ti 0]) ?_ (by rw [if_neg (λh=>h.2.2 j)]);simp only [bm,aP,aX,bQ,bT,bn,bU,aZ,bo,fR,fQ,fy,dJ,dY,↓reduceIte,Int.reduceBEq,Mz,MA,aC,L0,L1,L2,L3,E1,bF,bG,bH,bI,bJ,bL,bN,bK,bM,bO,bx,and_self,k,l,f]
   .have f:(b==5)=false:=by simpa using j
    refine O8 (b:=some [ti b]) ?_ (by rw [if_pos ⟨g,i,j⟩]);simp only [bm,aP,aX,bQ,bT,bn,bU,aZ,bo,fR,fQ,fy,dJ,dY,↓reduceIte,Int.reduceBEq,Mz,MA,aC,L0,L1,L2,L3,E1,bF,bG,bH,bI,bJ,bL,bN,bK,bM,bO,bx,and_self,k,l,f]
  .have f:(b==c)=false:=by simpa using i
   refine O8 (b:=some [ti 0]) ?_ (by rw [if_neg (λh=>i h.2.1)]);simp only [bm,aP,aX,bQ,bT,bn,bU,aZ,bo,fR,fQ,fy,dJ,dY,↓reduceIte,Int.reduceBEq,Mz,MA,aC,L0,L1,L2,L3,E1,bF,bG,bH,bI,bJ,bL,bN,bK,bM,bO,bx,and_self,k,f]
 .have f:(a==1)=false:=by simpa using g
  refine O8 (b:=some [ti 0]) ?_ (by rw [if_neg (λh=>g h.1)]);simp only [bm,aP,aX,bQ,bT,bn,bU,aZ,bo,fR,fQ,fy,dJ,dY,↓reduceIte,Int.reduceBEq,Mz,MA,aC,L0,L1,L2,L3,E1,bF,bG,bH,bI,bJ,bL,bN,bK,bM,bO,bx,and_self,f]
theorem Lp{a b:Int}:Or (.call 84) (SA 8 ek ks n d nm es [a,b] dn ea da so) []=some [ti (be 8 d [a,b] da so)]:=by
 have k:=um (e:=es) (l:= [a,b]) (by simp);have f:=fI a;have e:be 8 d [a,b] da so=if List.all [a,b] pN=true\/(a=b/\(a=4\/aH a=true)) then 1 else 0:=rfl;rw [e];refine ah ?_;rw [GF];cases m:List.all [a,b] pN with
 | true=>rw [m] at k;simp only [bm,ai,↓reduceIte,Int.reduceBEq,Int.reduceEq,aC,L0,L1,L2,L3,E1,bF,bG,bH,bI,bJ,bL,bN,bK,bM,bO,bx,and_self,k,Mz,true_or,MA]
 | false=>
  rw [m] at k;by_cases c:a=b
  .have g:(a==b)=true:=by simpa using c
   by_cases i:a=4
   .have j:(a==4)=true:=by simpa using i
    refine O8 (b:=some [ti 1]) ?_ (by rw [if_pos (.inr ⟨c, .inl i⟩)]);simp only [bm,aP,aX,bQ,bT,bn,bU,aZ,bo,fR,fQ,fy,dJ,dY,↓reduceIte,Int.reduceBEq,Mz,MA,aC,L0,L1,L2,L3,E1,bF,bG,bH,bI,bJ,bL,bN,bK,bM,bO,bx,and_self,k,g,j]
   .have j:(a==4)=false:=by simpa using i
    cases o:aH a <;> rw [o] at f
    .refine O8 (b:=some [ti 0]) ?_ (by rw [if_neg (by rintro(h | ⟨_,h | h⟩);cases h;exact i h;cases h)]);simp only [bm,aP,aX,bQ,bT,bn,bU,aZ,bo,fR,fQ,fy,dJ,dY,↓reduceIte,Int.reduceBEq,Mz,MA,aC,L0,L1,L2,L3,E1,bF,bG,bH,bI,bJ,bL,bN,bK,bM,bO,bx,and_self,k,g,j,f]
    .refine O8 (b:=some [ti 1]) ?_ (by rw [if_pos (.inr ⟨c, .inr rfl⟩)]);simp only [bm,aP,aX,bQ,bT,bn,bU,aZ,bo,fR,fQ,fy,dJ,dY,↓reduceIte,Int.reduceBEq,Mz,MA,aC,L0,L1,L2,L3,E1,bF,bG,bH,bI,bJ,bL,bN,bK,bM,bO,bx,and_self,k,g,j,f]
  .have g:(a==b)=false:=by simpa using c
   refine O8 (b:=some [ti 0]) ?_ (by rw [if_neg (by rintro(h | ⟨h,_⟩);cases h;exact c h)]);simp only [bm,aP,aX,bQ,bT,bn,bU,aZ,bo,fR,fQ,fy,dJ,dY,↓reduceIte,Int.reduceBEq,Mz,MA,aC,L0,L1,L2,L3,E1,bF,bG,bH,bI,bJ,bL,bN,bK,bM,bO,bx,and_self,k,g]
theorem Lq{l:List Int}(hl:l.length<=1000):Or (.call 84) (SA 9 ek ks n d nm es l dn ea da so) []=some [ti (be 9 d l da so)]:=by
 have k:=xB (e:=ea) (e':=es) (da:=da) hl;have e:be 9 d l da so=if l=da then so else 0:=rfl;rw [e];by_cases h:l.length=2
 .obtain⟨a,b,rfl⟩:∃a b,l= [a,b]:=by
   match l,h with
   | [a,b],_=>exact⟨a,b,rfl⟩
  by_cases c: [a,b]=da
  .rw [decide_eq_true c] at k;rw [if_pos c];refine ah ?_;rw [sK];simp only [bm,ai,↓reduceIte,Int.reduceBEq,Int.reduceEq,aC,L0,L1,L2,L3,E1,bF,bG,bH,bI,bJ,bL,bN,bK,bM,bO,bx,and_self,k,Mz]
  .rw [decide_eq_false c] at k;rw [if_neg c];refine ah ?_;rw [sK];simp only [bm,ai,↓reduceIte,Int.reduceBEq,Int.reduceEq,aC,L0,L1,L2,L3,E1,bF,bG,bH,bI,bJ,bL,bN,bK,bM,bO,bx,and_self,k,MA]
 .have f:((l.length:Int)==2)=false:=by simp;omega
  have g:¬(l.length:Int)=2:=by omega
  by_cases c:l=da
  .rw [decide_eq_true c] at k;rw [if_pos c];refine ah ?_;rw [sK];simp only [bm,ai,↓reduceIte,Int.reduceBEq,Int.reduceEq,aC,L0,L1,L2,L3,E1,bF,bG,bH,bI,bJ,bL,bN,bK,bM,bO,bx,and_self,f,g,k,Mz]
  .rw [decide_eq_false c] at k;rw [if_neg c];refine ah ?_;rw [sK];simp only [bm,ai,↓reduceIte,Int.reduceBEq,Int.reduceEq,aC,L0,L1,L2,L3,E1,bF,bG,bH,bI,bJ,bL,bN,bK,bM,bO,bx,and_self,f,g,k,MA]
theorem K2:Or (.call 84) (SA 10 ek ks n d nm es [] dn ea da so) []=some [ti (be 10 d [] da so)]:=by have e:be 10 d [] da so=if d=1 then 2 else 3:=rfl;have k:=lK (d==1);rw [e];refine ah ?_;rw [Gq];simp only [bm,ai,↓reduceIte,Int.reduceBEq,Int.reduceEq,aC,L0,L1,L2,L3,E1,bF,bG,bH,bI,bJ,bL,bN,bK,bM,bO,bx,and_self,k];by_cases h:d=1 <;> simp [h]
theorem K4{a:Int}:Or (.call 84) (SA 12 ek ks n d nm es [a] dn ea da so) []=some [ti (be 12 d [a] da so)]:=by
 have e:be 12 d [a] da so=if pN a then(if a=2/\d=1 then 2 else 3) else 0:=rfl;have k:=C9 a;have b:=lK (bif a==2 then d==1 else false);rw [e];refine ah ?_;rw [Gr];cases j:pN a <;> rw [j] at k
 .cases i:(bif a==2 then d==1 else false) <;> rw [i] at b <;> simp only [bm,aP,aX,bQ,bT,bn,bU,aZ,bo,fR,fQ,fy,dJ,dY,↓reduceIte,Int.reduceBEq,Mz,MA,aC,L0,L1,L2,L3,E1,bF,bG,bH,bI,bJ,bL,bN,bK,bM,bO,bx,and_self,k,b,i] <;> rfl
 .by_cases f:a=2
  .have c:(a==2)=true:=by simpa using f
   rw [c] at b;by_cases g:d=1
   .have x2:(d==1)=true:=by simpa using g
    rw [x2] at b;rw [show(if(true:Bool)=true then(if a=2/\d=1 then(2:Int) else 3) else 0)=2 from by rw [if_pos rfl,if_pos ⟨f,g⟩]];simp only [bm,aP,aX,bQ,bT,bn,bU,aZ,bo,fR,fQ,fy,dJ,dY,↓reduceIte,Int.reduceBEq,Mz,MA,aC,L0,L1,L2,L3,E1,bF,bG,bH,bI,bJ,bL,bN,bK,bM,bO,bx,and_self,k,lK true,lK false,c,x2]
    try rfl
   .have x2:(d==1)=false:=by simpa using g
    rw [x2] at b;rw [show(if(true:Bool)=true then(if a=2/\d=1 then(2:Int) else 3) else 0)=3 from by rw [if_pos rfl,if_neg (λh=>g h.2)]];simp only [bm,aP,aX,bQ,bT,bn,bU,aZ,bo,fR,fQ,fy,dJ,dY,↓reduceIte,Int.reduceBEq,Mz,MA,aC,L0,L1,L2,L3,E1,bF,bG,bH,bI,bJ,bL,bN,bK,bM,bO,bx,and_self,k,lK true,lK false,c,x2]
    try rfl
  .have c:(a==2)=false:=by simpa using f
   rw [c] at b;rw [show(if(true:Bool)=true then(if a=2/\d=1 then(2:Int) else 3) else 0)=3 from by rw [if_pos rfl,if_neg (λh=>f h.1)]];simp only [bm,aP,aX,bQ,bT,bn,bU,aZ,bo,fR,fQ,fy,dJ,dY,↓reduceIte,Int.reduceBEq,Mz,MA,aC,L0,L1,L2,L3,E1,bF,bG,bH,bI,bJ,bL,bN,bK,bM,bO,bx,and_self,k,lK true,lK false,c]
   try rfl
theorem K7(a: 0<=d/\d<=1000):Or (.call 84) (SA 15 ek ks n d nm es [] dn ea da so) []=some [ti (be 15 d [] da so)]:=by have e:be 15 d [] da so=10+d:=rfl;have w:i64.wrap (10+d)=10+d:=wr (by omega);rw [e];refine ah ?_;rw [Gt];simp only [bm,ai,↓reduceIte,Int.reduceBEq,Int.reduceEq,aC,L0,L1,L2,L3,E1,bF,bG,bH,bI,bJ,bL,bN,bK,bM,bO,bx,and_self,w]
theorem K8{a:Int}:Or (.call 84) (SA 16 ek ks n d nm es [a] dn ea da so) []=some [ti (be 16 d [a] da so)]:=by have e:be 16 d [a] da so=if aH a then a else 0:=rfl;have k:=fI a;rw [e];refine ah ?_;rw [Gu];cases b:aH a <;> rw [b] at k <;> simp only [bm,ai,↓reduceIte,Int.reduceBEq,Int.reduceEq,aC,L0,L1,L2,L3,E1,bF,bG,bH,bI,bJ,bL,bN,bK,bM,bO,bx,and_self,k,Mz,MA] <;> rfl
theorem Lh{a:Int}:Or (.call 84) (SA 23 ek ks n d nm es [a] dn ea da so) []=some [ti (be 23 d [a] da so)]:=by have e:be 23 d [a] da so=if aH a then a else 0:=rfl;have k:=fI a;rw [e];refine ah ?_;rw [GC];cases b:aH a <;> rw [b] at k <;> simp only [bm,ai,↓reduceIte,Int.reduceBEq,Int.reduceEq,aC,L0,L1,L2,L3,E1,bF,bG,bH,bI,bJ,bL,bN,bK,bM,bO,bx,and_self,k,Mz,MA] <;> rfl
theorem K9{a b:Int}:Or (.call 84) (SA 17 ek ks n d nm es [a,b] dn ea da so) []=some [ti (be 17 d [a,b] da so)]:=by
 have e:be 17 d [a,b] da so=if a=b/\aH a=true then a else 0:=rfl;have k:=fI a;rw [e];refine ah ?_;rw [Gv];by_cases h:a=b
 .have y:(a==b)=true:=by simpa using h
  cases c:aH a <;> rw [c] at k
  .simp only [bm,ai,↓reduceIte,Int.reduceBEq,Int.reduceEq,aC,L0,L1,L2,L3,E1,bF,bG,bH,bI,bJ,bL,bN,bK,bM,bO,bx,and_self,y,k,Mz,MA];simp [h,c]
   try (subst h;simp [c])
  .simp only [bm,ai,↓reduceIte,Int.reduceBEq,Int.reduceEq,aC,L0,L1,L2,L3,E1,bF,bG,bH,bI,bJ,bL,bN,bK,bM,bO,bx,and_self,y,k,Mz,MA];simp [h,c]
   try (subst h;simp [c])
 .have y:(a==b)=false:=by simpa using h
  simp only [bm,ai,↓reduceIte,Int.reduceBEq,Int.reduceEq,aC,L0,L1,L2,L3,E1,bF,bG,bH,bI,bJ,bL,bN,bK,bM,bO,bx,and_self,y,MA];simp [h]
theorem La{a b:Int}:Or (.call 84) (SA 18 ek ks n d nm es [a,b] dn ea da so) []=some [ti (be 18 d [a,b] da so)]:=by
 have e:be 18 d [a,b] da so=if a=b/\aH a=true then a else 0:=rfl;have k:=fI a;rw [e];refine ah ?_;rw [Gw];by_cases h:a=b
 .have y:(a==b)=true:=by simpa using h
  cases c:aH a <;> rw [c] at k
  .simp only [bm,ai,↓reduceIte,Int.reduceBEq,Int.reduceEq,aC,L0,L1,L2,L3,E1,bF,bG,bH,bI,bJ,bL,bN,bK,bM,bO,bx,and_self,y,k,Mz,MA];simp [h,c]
   try (subst h;simp [c])
  .simp only [bm,ai,↓reduceIte,Int.reduceBEq,Int.reduceEq,aC,L0,L1,L2,L3,E1,bF,bG,bH,bI,bJ,bL,bN,bK,bM,bO,bx,and_self,y,k,Mz,MA];simp [h,c]
   try (subst h;simp [c])
 .have y:(a==b)=false:=by simpa using h
  simp only [bm,ai,↓reduceIte,Int.reduceBEq,Int.reduceEq,aC,L0,L1,L2,L3,E1,bF,bG,bH,bI,bJ,bL,bN,bK,bM,bO,bx,and_self,y,MA];simp [h]
theorem Lb{a b:Int}:Or (.call 84) (SA 19 ek ks n d nm es [a,b] dn ea da so) []=some [ti (be 19 d [a,b] da so)]:=by
 have e:be 19 d [a,b] da so=if a=b/\aH a=true then a else 0:=rfl;have k:=fI a;rw [e];refine ah ?_;rw [Gx];by_cases h:a=b
 .have y:(a==b)=true:=by simpa using h
  cases c:aH a <;> rw [c] at k
  .simp only [bm,ai,↓reduceIte,Int.reduceBEq,Int.reduceEq,aC,L0,L1,L2,L3,E1,bF,bG,bH,bI,bJ,bL,bN,bK,bM,bO,bx,and_self,y,k,Mz,MA];simp [h,c]
   try (subst h;simp [c])
  .simp only [bm,ai,↓reduceIte,Int.reduceBEq,Int.reduceEq,aC,L0,L1,L2,L3,E1,bF,bG,bH,bI,bJ,bL,bN,bK,bM,bO,bx,and_self,y,k,Mz,MA];simp [h,c]
   try (subst h;simp [c])
 .have y:(a==b)=false:=by simpa using h
  simp only [bm,ai,↓reduceIte,Int.reduceBEq,Int.reduceEq,aC,L0,L1,L2,L3,E1,bF,bG,bH,bI,bJ,bL,bN,bK,bM,bO,bx,and_self,y,MA];simp [h]
theorem Ld{a b:Int}:Or (.call 84) (SA 20 ek ks n d nm es [a,b] dn ea da so) []=some [ti (be 20 d [a,b] da so)]:=by
 have e:be 20 d [a,b] da so=if a=b/\aH a=true then a else 0:=rfl;have k:=fI a;rw [e];refine ah ?_;rw [Gz];by_cases h:a=b
 .have y:(a==b)=true:=by simpa using h
  cases c:aH a <;> rw [c] at k
  .simp only [bm,ai,↓reduceIte,Int.reduceBEq,Int.reduceEq,aC,L0,L1,L2,L3,E1,bF,bG,bH,bI,bJ,bL,bN,bK,bM,bO,bx,and_self,y,k,Mz,MA];simp [h,c]
   try (subst h;simp [c])
  .simp only [bm,ai,↓reduceIte,Int.reduceBEq,Int.reduceEq,aC,L0,L1,L2,L3,E1,bF,bG,bH,bI,bJ,bL,bN,bK,bM,bO,bx,and_self,y,k,Mz,MA];simp [h,c]
   try (subst h;simp [c])
 .have y:(a==b)=false:=by simpa using h
  simp only [bm,ai,↓reduceIte,Int.reduceBEq,Int.reduceEq,aC,L0,L1,L2,L3,E1,bF,bG,bH,bI,bJ,bL,bN,bK,bM,bO,bx,and_self,y,MA];simp [h]
theorem Lf{a b:Int}:Or (.call 84) (SA 21 ek ks n d nm es [a,b] dn ea da so) []=some [ti (be 21 d [a,b] da so)]:=by
 have e:be 21 d [a,b] da so=if a=b/\aH a=true then a else 0:=rfl;have k:=fI a;rw [e];refine ah ?_;rw [GA];by_cases h:a=b
 .have y:(a==b)=true:=by simpa using h
  cases c:aH a <;> rw [c] at k
  .simp only [bm,ai,↓reduceIte,Int.reduceBEq,Int.reduceEq,aC,L0,L1,L2,L3,E1,bF,bG,bH,bI,bJ,bL,bN,bK,bM,bO,bx,and_self,y,k,Mz,MA];simp [h,c]
   try (subst h;simp [c])
  .simp only [bm,ai,↓reduceIte,Int.reduceBEq,Int.reduceEq,aC,L0,L1,L2,L3,E1,bF,bG,bH,bI,bJ,bL,bN,bK,bM,bO,bx,and_self,y,k,Mz,MA];simp [h,c]
   try (subst h;simp [c])
 .have y:(a==b)=false:=by simpa using h
  simp only [bm,ai,↓reduceIte,Int.reduceBEq,Int.reduceEq,aC,L0,L1,L2,L3,E1,bF,bG,bH,bI,bJ,bL,bN,bK,bM,bO,bx,and_self,y,MA];simp [h]
theorem Lg{a b:Int}:Or (.call 84) (SA 22 ek ks n d nm es [a,b] dn ea da so) []=some [ti (be 22 d [a,b] da so)]:=by
 have e:be 22 d [a,b] da so=if a=b/\aH a=true then 1 else 0:=rfl;have k:=fI a;rw [e];refine ah ?_;rw [GB];by_cases h:a=b
 .have y:(a==b)=true:=by simpa using h
  cases c:aH a <;> rw [c] at k
  .simp only [bm,ai,↓reduceIte,Int.reduceBEq,Int.reduceEq,aC,L0,L1,L2,L3,E1,bF,bG,bH,bI,bJ,bL,bN,bK,bM,bO,bx,and_self,y,k,Mz,MA];simp [h,c]
   try (subst h;simp [c])
  .simp only [bm,ai,↓reduceIte,Int.reduceBEq,Int.reduceEq,aC,L0,L1,L2,L3,E1,bF,bG,bH,bI,bJ,bL,bN,bK,bM,bO,bx,and_self,y,k,Mz,MA];simp [h,c]
   try (subst h;simp [c])
 .have y:(a==b)=false:=by simpa using h
  simp only [bm,ai,↓reduceIte,Int.reduceBEq,Int.reduceEq,aC,L0,L1,L2,L3,E1,bF,bG,bH,bI,bJ,bL,bN,bK,bM,bO,bx,and_self,y,MA];simp [h]
theorem Li{a b:Int}:Or (.call 84) (SA 24 ek ks n d nm es [a,b] dn ea da so) []=some [ti (be 24 d [a,b] da so)]:=by
 have e:be 24 d [a,b] da so=if [a,b]= [5,4] then 4 else 0:=rfl;have k:=xB (e:=false) (e':=es) (l:= [a,b]) (da:= [5,4]) (by simp);replace k:Or (.call 95) [AV.t (T.ab 1 false [[ti 5],[ti 4]]),AV.t (T.ptr [T.ab 1 es (enc [a,b])])] []=_:=k;rw [e];by_cases c: [a,b]= [5,4]
 .rw [decide_eq_true c] at k;rw [if_pos c];refine ah ?_;rw [Ac];simp only [bm,ai,↓reduceIte,Int.reduceBEq,Int.reduceEq,aC,L0,L1,L2,L3,E1,bF,bG,bH,bI,bJ,bL,bN,bK,bM,bO,bx,and_self,k,Mz]
 .rw [decide_eq_false c] at k;rw [if_neg c];refine ah ?_;rw [Ac];simp only [bm,ai,↓reduceIte,Int.reduceBEq,Int.reduceEq,aC,L0,L1,L2,L3,E1,bF,bG,bH,bI,bJ,bL,bN,bK,bM,bO,bx,and_self,k,MA]
theorem Lj{a b c:Int}:Or (.call 84) (SA 25 ek ks n d nm es [a,b,c] dn ea da so) []=some [ti (be 25 d [a,b,c] da so)]:=by
 have e:be 25 d [a,b,c] da so=if [a,b,c]= [5,4,4] then 5 else 0:=rfl;have k:=xB (e:=false) (e':=es) (l:= [a,b,c]) (da:= [5,4,4]) (by simp);replace k:Or (.call 95) [AV.t (T.ab 1 false [[ti 5],[ti 4],[ti 4]]),AV.t (T.ptr [T.ab 1 es (enc [a,b,c])])] []=_:=k;rw [e];by_cases f: [a,b,c]= [5,4,4]
 .rw [decide_eq_true f] at k;rw [if_pos f];refine ah ?_;rw [Ae];simp only [bm,ai,↓reduceIte,Int.reduceBEq,Int.reduceEq,aC,L0,L1,L2,L3,E1,bF,bG,bH,bI,bJ,bL,bN,bK,bM,bO,bx,and_self,k,Mz]
 .rw [decide_eq_false f] at k;rw [if_neg f];refine ah ?_;rw [Ae];simp only [bm,ai,↓reduceIte,Int.reduceBEq,Int.reduceEq,aC,L0,L1,L2,L3,E1,bF,bG,bH,bI,bJ,bL,bN,bK,bM,bO,bx,and_self,k,MA]
end
open Go Go.Aev Go.IntKind
theorem JD(i:Nat)(h:i<=9223372036854775806):i64.wrap ((i:Int)+1)= ((i+1:Nat):Int):=by rw [wr (by omega)];omega
def sq(i:Nat)(u:UInt8):Bool:=
 !((!((((u.toNat:Int)==95) || (decide ((u.toNat:Int)>=97) && decide ((u.toNat:Int)<=122))) || (decide ((u.toNat:Int)>=65) && decide ((u.toNat:Int)<=90)))) && ((((i:Int)==0) || decide ((u.toNat:Int) < 48)) || decide ((u.toNat:Int) > 57)))
def qe:Nat->List UInt8->Bool
 | _,[]=>true
 | i,u::r=>sq i u && qe (i+1) r
def oX(s:ByteArray):Bool:=qe 0 s.data.toList && (decide ((s.size:Int)>=1) && decide ((s.size:Int)<=12))
theorem eN(a b:Bool):(bif a then true else b)= (a || b):=by cases a <;> rfl
theorem Jb(s:ByteArray)(hs:s.size<=9223372036854775807):∀(r:List UInt8) (i:Nat),s.data.toList.drop i=r->Or rV [AV.t (T.str s),I (s.size:Int),I (i:Int)] []=some [tb (qe i r && (decide ((s.size:Int)>=1) && decide ((s.size:Int)<=12)))]:=by
 intro r;induction r with
 | nil=>
  intro i g;have b:¬(i:Int) < (s.size:Int):=by have:=bh g;rw [oq] at this;omega
  refine ah ?_;rw [zW];simp only [aP,bo,aZ,b,decide_false,qe,NA,fY]
 | cons u r j=>
  intro i g;obtain⟨c,e,f⟩:=bp g;rw [oq] at e;have b:(i:Int) < (s.size:Int):=by omega
  have h0: 0<=(i:Int):=by omega
  have h:=j (i+1) f;rw [qe];refine ah ?_;rw [zW];simp only [aP,bo,aZ,b,h0,and_self,decide_true,↓reduceIte,Nf,c,fY,eN];cases a:sq i u with
  | true=>unfold sq at a;rw [Np] at a;simp only [a,cond_false,NA,JD i (by omega)];exact h
  | false=>unfold sq at a;rw [Ol] at a;simp only [a,cond_true,NF]
theorem KY(s:ByteArray)(hs:s.size<=9223372036854775807):Or (.call 77) [AV.t (T.str s)] []=some [tb (oX s)]:=by have:=Jb s hs s.data.toList 0 rfl;refine ah ?_;rw [Gi];exact this
def oY(s:Int):Bool:=(decide (s>=1) && decide (s<=5)) || aH s
theorem KZ(s:Int):Or (.call 79) [I s] []=some [tb (oY s)]:=by
 have k:=fI s;unfold oY;refine ah ?_;rw [Gk];simp only [fY];cases h:(decide (s>=1) && decide (s<=5)) with
 | true=>simp only [bm,ai,↓reduceIte,Int.reduceBEq,Int.reduceEq,Mz];rfl
 | false=>simp only [ai,↓reduceIte,Int.reduceBEq,Int.reduceEq,MA,k];rfl
theorem Jv{e:Bool}{ds:List Dc}{d:Dc}(hl:ds.length<=1000):∀(r:List Dc) (i:Nat),ds.drop i=r->
  ∃z:Int,Or fX [AV.t (T.ab 3 e (aI ds)),AV.fn 78 [] [AV.t (T.ptr [T.str d.nm,T.ab 1 d.ea (enc d.ar),ti d.so])],I (ds.length:Int),I (i:Int)] []=some [ti z]/\decide (z>=0)=r.any λx=>decide (x.nm=d.nm):=by
 intro r;induction r with
 | nil=>
  intro i g;have a:¬(i:Int) < (ds.length:Int):=by have:=bh g;omega
  refine⟨-1,ah ?_,by simp⟩;rw [vS];simp only [ai,↓reduceIte,Int.reduceBEq,Int.reduceEq,a]
 | cons x r h=>
  intro i g;obtain⟨c,m,f⟩:=bp g;have a:(i:Int) < (ds.length:Int):=by omega
  have h0: 0<=(i:Int):=by omega
  have k:Or (.call 78) [AV.agg [AV.t (T.str x.nm),AV.t (T.ab 1 x.ea (enc x.ar)),I x.so],AV.t (T.ptr [T.str d.nm,T.ab 1 d.ea (enc d.ar),ti d.so])] []=some [tb (decide (x.nm=d.nm))]:=by refine ah ?_;rw [Gj,pM]
  cases b:decide (x.nm=d.nm) with
  | true=>rw [b] at k;refine⟨(i:Int),ah ?_,by simp [b]⟩;rw [vS];simp only [ai,↓reduceIte,Int.reduceBEq,Int.reduceEq,a,h0,and_self,bZ,dK c,k]
  | false=>rw [b] at k;obtain⟨z,j,l⟩:=h (i+1) f;refine⟨z,ah ?_,by rw [l];simp [b]⟩;rw [vS];simp only [ai,↓reduceIte,Int.reduceBEq,Int.reduceEq,a,h0,and_self,bZ,dK c,k,next i (by omega)];exact j
theorem KO{e:Bool}{ds:List Dc}{d:Dc}(hl:ds.length<=1000):Or (.call 55) [AV.t (T.ab 3 e (aI ds)),AV.fn 78 [] [AV.t (T.ptr [T.str d.nm,T.ab 1 d.ea (enc d.ar),ti d.so])]] []=some [tb (ds.any λx=>decide (x.nm=d.nm))]:=by
 obtain⟨z,b,c⟩:=Jv (e:=e) (d:=d) hl ds 0 rfl;have a:Or (.call 89) [AV.t (T.ab 3 e (aI ds)),AV.fn 78 [] [AV.t (T.ptr [T.str d.nm,T.ab 1 d.ea (enc d.ar),ti d.so])]] []=some [ti z]:=by refine ah ?_;rw [GX];simp only [bZ];exact b
 refine ah ?_;rw [FT];simp only [ai,↓reduceIte,Int.reduceBEq,Int.reduceEq,a,c]
theorem Jr{e:Bool}{l:List Int}(hl:l.length<=1000):∀(r:List Int) (i:Nat),l.drop i=r->
  ∃z:Int,Or dS [ab e l,AV.fn 80 [] [],I (l.length:Int),I (i:Int)] []=some [ti z]/\decide (z>=0)=r.any λs=> !(s==4):=by
 intro r;induction r with
 | nil=>
  intro i g;have a:¬(i:Int) < (l.length:Int):=by have:=bh g;omega
  refine⟨-1,ah ?_,by simp⟩;rw [vL];simp only [ai,↓reduceIte,Int.reduceBEq,Int.reduceEq,a]
 | cons d r h=>
  intro i g;obtain⟨c,o,f⟩:=bp g;have a:(i:Int) < (l.length:Int):=by omega
  have h0: 0<=(i:Int):=by omega
  have k:Or (.call 80) [I d] []=some [tb (!(d==4))]:=by refine ah ?_;rw [Gm]
  cases b: !(d==4) with
  | true=>rw [b] at k;refine⟨(i:Int),ah ?_,by simp only [NR,b,NX];simp⟩;rw [vL];simp only [aP,aX,bT,bn,a,h0,and_self,aC,bD c,k,aZ,et,↓reduceIte]
  | false=>rw [b] at k;obtain⟨z,j,m⟩:=h (i+1) f;refine⟨z,ah ?_,by rw [m];simp only [NR,b,M8]⟩;rw [vL];simp only [aP,aX,bT,bn,a,h0,and_self,aC,bD c,k,bo,et,↓reduceIte,next i (by omega)];exact j
theorem KL{e:Bool}{l:List Int}(hl:l.length<=1000):Or (.call 48) [ab e l,AV.fn 80 [] []] []=some [tb (l.any λs=> !(s==4))]:=by
 obtain⟨z,b,c⟩:=Jr (e:=e) hl l 0 rfl;have a:Or (.call 86) [ab e l,AV.fn 80 [] []] []=some [ti z]:=by refine ah ?_;rw [GM];simp only [aC];exact b
 refine ah ?_;rw [FH];simp only [ai,↓reduceIte,Int.reduceBEq,Int.reduceEq,a,c]
def fm(a:List Dc)(d:Dc):Int:=
 if oX d.nm=false then 12
 else if(a.any λx=>decide (x.nm=d.nm))=true then 7
 else if 8 < d.ar.length then 9
 else if oY d.so=false\/(d.ar.any λs=> !(s==4))=true\/(d.so=5/\0 < d.ar.length) then 4
 else 0
def fN:List Dc->Nat->List Dc->Int×Int
 | _,_,[]=>(0,0)
 | a,i,d::r=>if fm a d=0 then fN (a++ [d]) (i+1) r else(fm a d,(i:Int))
theorem Dw{i:Nat}(l:List (List T)):sub 0 (i:Int) l=l.take i:=by simp [sub]
theorem IU{e:Bool}{ds:List Dc}(hl:ds.length<=100)(K:∀d∈ds,d.nm.size<=9223372036854775807):∀(r:List Dc) (i:Nat) (a:List Dc),ds.drop i=r->a=ds.take i->i<=ds.length->
  Or n9 [AV.t (T.ab 3 e (aI ds)),r0,AV.t (T.ab 3 e (aI ds)),I (ds.length:Int),I (i:Int)] [mL]=some [ti (fN a i r).1,ti (fN a i r).2]:=by
 intro r;induction r with
 | nil=>
  intro i a g D J;have u:¬(i:Int) < (ds.length:Int):=by have:=bh g;omega
  refine ah ?_;rw [l5];simp only [ai,↓reduceIte,Int.reduceBEq,Int.reduceEq,u,fN]
 | cons d r M=>
  intro i a g D J;obtain⟨q,O,H⟩:=bp g;have hm:=MD q;have u:(i:Int) < (ds.length:Int):=by omega
  have h0: 0<=(i:Int):=by omega
  have b:=KY d.nm (K d hm);have m:fD 0 (i:Int) (ds.length:Int)=some ():=by unfold fD;rw [if_pos ⟨by omega,by omega,by omega⟩]
  have f:sub 0 (i:Int) (aI ds)=aI a:=by rw [Dw,D];simp [aI,List.map_take]
  have j:=KO (e:=e) (ds:=a) (d:=d) (by rw [D,Nv];omega);have L:=M (i+1) (a++ [d]) H (by rw [D,Ou,q];rfl) (by omega);have N:=next i (by omega);rw [fN];cases p:oX d.nm with
  | false=>
   rw [p] at b;have c:fm a d=12:=by simp [fm,p]
   rw [c,if_neg (by decide)];refine ah ?_;rw [l5];simp only [ai,↓reduceIte,Int.reduceBEq,Int.reduceEq,u,h0,and_self,bZ,dK q,b,MA]
  | true=>
  rw [p] at b;cases v:a.any λx=>decide (x.nm=d.nm) with
  | true=>
   rw [v] at j;have c:fm a d=7:=by unfold fm;rw [p,v];rfl
   rw [c,if_neg (by decide)];refine ah ?_;rw [l5];simp only [ai,↓reduceIte,Int.reduceBEq,Int.reduceEq,u,h0,and_self,bZ,dK q,b,Mz,m,f,j]
  | false=>
  rw [v] at j;by_cases z: 8 < d.ar.length
  .have k:(d.ar.length:Int) > 8:=by omega
   have c:fm a d=9:=by unfold fm;rw [p,v,if_neg (by decide),if_neg (by decide),if_pos z]
   rw [c,if_neg (by decide)];refine ah ?_;rw [l5];simp only [ai,↓reduceIte,Int.reduceBEq,Int.reduceEq,u,h0,and_self,bZ,dK q,b,Mz,m,f,j,aC,k]
  have k:¬(d.ar.length:Int) > 8:=by omega
  have o:=KZ d.so;have w:=KL (e:=d.ea) (l:=d.ar) (by omega);cases A:oY d.so with
  | false=>
   rw [A] at o;have c:fm a d=4:=by unfold fm;rw [p,v,if_neg (by decide),if_neg (by decide),if_neg z,if_pos (.inl A)]
   rw [c,if_neg (by decide)];refine ah ?_;rw [l5];simp only [ai,↓reduceIte,Int.reduceBEq,Int.reduceEq,u,h0,and_self,bZ,dK q,b,Mz,m,f,j,aC,k,o,MA]
  | true=>
  rw [A] at o;cases B:d.ar.any λs=> !(s==4) with
  | true=>
   rw [B] at w;have c:fm a d=4:=by unfold fm;rw [p,v,if_neg (by decide),if_neg (by decide),if_neg z,if_pos (.inr (.inl B))]
   rw [c,if_neg (by decide)];refine ah ?_;rw [l5];simp only [ai,↓reduceIte,Int.reduceBEq,Int.reduceEq,u,h0,and_self,bZ,dK q,b,Mz,m,f,j,aC,k,o,w]
  | false=>
  rw [B] at w;by_cases C:d.so=5/\0 < d.ar.length
  .have F:(d.ar.length:Int) > 0:=by omega
   have G:(d.so==5)=true:=by simpa using C.1
   have E:(bif d.so==5 then decide ((d.ar.length:Int) > 0) else false)=true:=by rw [G,decide_eq_true F];rfl
   have c:fm a d=4:=by unfold fm;rw [p,v,if_neg (by decide),if_neg (by decide),if_neg z,if_pos (.inr (.inr C))]
   rw [c,if_neg (by decide)];refine ah ?_;rw [l5];simp only [aP,aX,bQ,bT,bn,fS,bU,aZ,bo,et,↓reduceIte,u,h0,and_self,bZ,dK q,b,Mz,m,f,j,aC,k,o,w,E]
  .have c:fm a d=0:=by unfold fm;rw [p,v,if_neg (by decide),if_neg (by decide),if_neg z,A,B,if_neg (by rintro(h | h | h);cases h;cases h;exact C h)]
   rw [if_pos c];have E:(bif d.so==5 then decide ((d.ar.length:Int) > 0) else false)=false:=by
    by_cases x:d.so=5
    .have:¬(d.ar.length:Int) > 0:=λy=>C ⟨x,by omega⟩;rw [decide_eq_false this];cases d.so==5 <;> rfl
    .have:(d.so==5)=false:=by simpa using x
     rw [this];rfl
   refine ah ?_;rw [l5];simp only [aP,aX,bQ,bT,bn,fS,bU,aZ,bo,et,↓reduceIte,u,h0,and_self,bZ,dK q,b,Mz,m,f,j,aC,k,o,w,E,N];exact L
theorem KD{e:Bool}{ds:List Dc}(b:∀d∈ds,d.nm.size<=9223372036854775807):Or (.call 40) [AV.t (T.ab 3 e (aI ds))] []=some (if 30 < ds.length then [ti 2,ti 0] else [ti (fN [] 0 ds).1,ti (fN [] 0 ds).2]):=by
 by_cases h: 30 < ds.length
 .have a:(ds.length:Int) > 30:=by omega
  rw [if_pos h];refine ah ?_;rw [zF];simp only [ai,↓reduceIte,Int.reduceBEq,Int.reduceEq,bZ,a]
 .have a:¬(ds.length:Int) > 30:=by omega
  have c:=IU (e:=e) (show ds.length<=100 by omega) b ds 0 [] rfl rfl (Oj _);rw [if_neg h];refine ah ?_;rw [zF];simp only [ai,↓reduceIte,Int.reduceBEq,Int.reduceEq,bZ,a];exact c
open Go Go.Aev Go.IntKind
def dT(op:Int):Int:=
 if op=1\/op=2\/op=10\/op=15 then 0 else if op=3\/op=12\/op=16\/op=23 then 1 else if op=7\/op=25 then 3 else if op=4\/op=5\/op=11 then -1 else 2
theorem w7{op:Int}(h: 1<=op/\op<=25):op=1\/op=2\/op=3\/op=4\/op=5\/op=6\/op=7\/op=8\/op=9\/op=10\/op=11\/op=12\/op=13\/op=14\/op=15\/op=16\/op=17\/op=18\/op=19\/op=20\/op=21\/op=22\/op=23\/op=24\/op=25:=by omega
theorem K0{op:Int}(h: 1<=op/\op<=25):Or (.call 81) [I op] []=some [ti (dT op)]:=by rcases w7 h with rfl | rfl | rfl | rfl | rfl | rfl | rfl | rfl | rfl | rfl | rfl | rfl | rfl | rfl | rfl | rfl | rfl | rfl | rfl | rfl | rfl | rfl | rfl | rfl | rfl <;> exact w8 (n:=5) (by kernel_rfl)
theorem uh{op:Int}{ek:Bool}{ks:List (List T)}{n d:Int}{nm:ByteArray}{es:Bool}{l:List Int}{dn:ByteArray}{ea:Bool}{da:List Int}{so:Int}(h: 1<=op/\op<=25)(hl:l.length<=1000)(e:op≠9->0<=dT op->(l.length:Int)=dT op)(m:op=15->0<=d/\d<=1000):
  Or (.call 84) (SA op ek ks n d nm es l dn ea da so) []=some [ti (be op d l da so)]:=by
 have g:(l.length:Int)=0->l= []:=λh=>MW.1 (by omega);have i:(l.length:Int)=1->∃a,l= [a]:=λh=>by
  have j:l.length=1:=by omega
  exact OG.1 j
 have f:(l.length:Int)=2->∃a b,l= [a,b]:=λh=>by
  have j:l.length=2:=by omega
  match l,j with
  | [a,b],_=>exact⟨a,b,rfl⟩
 have k:(l.length:Int)=3->∃a b c,l= [a,b,c]:=λh=>by
  have j:l.length=3:=by omega
  match l,j with
  | [a,b,c],_=>exact⟨a,b,c,rfl⟩
 rcases w7 h with rfl | rfl | rfl | rfl | rfl | rfl | rfl | rfl | rfl | rfl | rfl | rfl | rfl | rfl | rfl | rfl | rfl | rfl | rfl | rfl | rfl | rfl | rfl | rfl | rfl
 .rw [g (e (by decide) (by decide))];exact K1
 .rw [g (e (by decide) (by decide))];exact Lc
 .exact Lk hl
 .exact Ll hl
 .exact Lm hl
 .exact Ln hl
 .obtain⟨a,b,c,rfl⟩:=k (e (by decide) (by decide));exact Lo
 .obtain⟨a,b,rfl⟩:=f (e (by decide) (by decide));exact Lp
 .exact Lq hl
 .rw [g (e (by decide) (by decide))];exact K2
 .exact K3 hl
 .obtain⟨a,rfl⟩:=i (e (by decide) (by decide));exact K4
 .exact K5 hl
 .exact K6 hl
 .rw [g (e (by decide) (by decide))];exact K7 (m rfl)
 .obtain⟨a,rfl⟩:=i (e (by decide) (by decide));exact K8
 .obtain⟨a,b,rfl⟩:=f (e (by decide) (by decide));exact K9
 .obtain⟨a,b,rfl⟩:=f (e (by decide) (by decide));exact La
 .obtain⟨a,b,rfl⟩:=f (e (by decide) (by decide));exact Lb
 .obtain⟨a,b,rfl⟩:=f (e (by decide) (by decide));exact Ld
 .obtain⟨a,b,rfl⟩:=f (e (by decide) (by decide));exact Lf
 .obtain⟨a,b,rfl⟩:=f (e (by decide) (by decide));exact Lg
 .obtain⟨a,rfl⟩:=i (e (by decide) (by decide));exact Lh
 .obtain⟨a,b,rfl⟩:=f (e (by decide) (by decide));exact Li
 .obtain⟨a,b,c,rfl⟩:=k (e (by decide) (by decide));exact Lj
def kY(x:Nd):Bool:=
 ((decide (x.nm=s0) || (x.op==9)) && (((x.n==0) || (((x.op==10) || (x.op==12)) || (x.op==15))) || (x.op==23))) && ((x.d==0) || (((x.op==10) || (x.op==12)) || (x.op==15)))
theorem uf(x:Nd):Or (.call 82) [AV.agg [I x.op,ab x.ek x.ks,I x.n,I x.d,AV.t (T.str x.nm)]] []=some [tb (kY x)]:=by refine ah ?_;rw [Gn];simp only [fY,eN,pM];rfl
def nw(a b:Int):Int:=if h:b=0 then mm true a (i64.wrap (0 - a)) else nw b (a.tmod b)
termination_by b.natAbs
decreasing_by
 rw [Int.natAbs_tmod];exact Pz _ (Int.natAbs_pos.2 h)
theorem Jx:∀(n:Nat) (a b:Int),b.natAbs<=n->Or rY [I a,I b] []=some [ti (nw a b)]:=by
 intro n;induction n with
 | zero=>
  intro a b e;have h0:b=0:=by omega
  subst h0;rw [nw,dif_pos rfl];refine ah ?_;rw [vT];simp only [ai,↓reduceIte,Int.reduceBEq,Int.reduceEq,Mz]
 | succ n g=>
  intro a b e;by_cases h:b=0
  .subst h;rw [nw,dif_pos rfl];refine ah ?_;rw [vT];simp only [ai,↓reduceIte,Int.reduceBEq,Int.reduceEq,Mz]
  .have c:(b==0)=false:=by simpa using h
   have f:=g b (a.tmod b) (by
    have i:=Int.natAbs_tmod a b;have j:=Pz a.natAbs (Int.natAbs_pos.2 h);omega)
   rw [nw,dif_neg h];refine ah ?_;rw [vT];simp only [ai,↓reduceIte,Int.reduceBEq,Int.reduceEq,c,h,MA];exact f
theorem Lt(a b:Int):Or (.call 94) [I a,I b] []=some [ti (nw a b)]:=by have:=Jx b.natAbs a b (M2 _);refine ah ?_;rw [G1];exact this
def rp(n d:Int):Bool:=((decide (n>= -1000000) && decide (n<=1000000)) && decide (d>=1)) && decide (d<=1000000)
def iH(x:Nd):Bool:=
 if x.op=10\/x.op=12 then rp x.n x.d && (nw x.n x.d==1)
 else if x.op=15 then((decide (x.d>=1) && decide (x.d<=8)) && decide (x.n>=0)) && decide (x.n < i64.wrap (1 * 2 ^ min x.d.toNat 64))
 else if x.op=23 then decide (x.n>=0) && decide (x.n<=8)
 else true
theorem ug(x:Nd):Or (.call 83) [AV.agg [I x.op,ab x.ek x.ks,I x.n,I x.d,AV.t (T.str x.nm)]] []=some [tb (iH x)]:=by
 have k:=Lt x.n x.d;have g:(((decide (x.n>= -1000000) && decide (x.n<=1000000)) && decide (x.d>=1)) && decide (x.d<=1000000))=rp x.n x.d:=rfl;unfold iH;by_cases a:x.op=10\/x.op=12
 .rw [if_pos a];rcases a with a | a
  .have y:(x.op==10)=true:=by simpa using a
   cases b:rp x.n x.d with
   | true=>refine ah ?_;rw [l6];simp only [fY,g,b,aP,aX,bn,aZ,dJ,y,k,NA]
   | false=>refine ah ?_;rw [l6];simp only [fY,g,b,bm,aZ,dY,y,aP,NF]
  .have y:(x.op==10)=false:=by simp [a]
   have c:(x.op==12)=true:=by simpa using a
   cases b:rp x.n x.d with
   | true=>refine ah ?_;rw [l6];simp only [fY,g,b,aP,aX,bn,aZ,bo,dJ,y,c,k,NA]
   | false=>refine ah ?_;rw [l6];simp only [fY,g,b,bm,aZ,bo,dY,y,c,aP,NF]
 .have y:(x.op==10)=false:=by simp;exact λh=>a (.inl h)
  have c:(x.op==12)=false:=by simp;exact λh=>a (.inr h)
  rw [if_neg a];by_cases f:x.op=15
  .have e:(x.op==15)=true:=by simpa using f
   rw [if_pos f];cases b:((decide (x.d>=1) && decide (x.d<=8)) && decide (x.n>=0)) with
   | true=>
    have j:¬x.d < 0:=by simp only [MB,decide_eq_true_eq] at b;omega
    refine ah ?_;rw [l6];simp only [fY,b,aP,aZ,bo,y,c,e,j,↓reduceIte,NA]
   | false=>refine ah ?_;rw [l6];simp only [fY,b,bm,aZ,bo,y,c,e,NF]
  .have e:(x.op==15)=false:=by simpa using f
   rw [if_neg f];by_cases c3:x.op=23
   .have i:(x.op==23)=true:=by simpa using c3
    rw [if_pos c3];refine ah ?_;rw [l6];simp only [fY,aZ,bo,y,c,e,i]
   .have i:(x.op==23)=false:=by simpa using c3
    rw [if_neg c3];refine ah ?_;rw [l6];simp only [bo,y,c,e,i]
def eJ(x:Nd)(i:Int)(ss:List Int)(da:List Int)(so:Int):Int×Int:=
 if(x.ks.any λk=>decide (k < 0) || decide (k>=i))=true then(0,3)
 else if kY x=false then(0,5)
 else if iH x=false then(0,3)
 else if be x.op x.d (x.ks.map λk=>ss.getD k.toNat 0) da so=0 then(0,8)
 else(be x.op x.d (x.ks.map λk=>ss.getD k.toNat 0) da so,0)
def dL(ds:List Dc)(x:Nd)(i:Int)(ss:List Int):Int×Int:=
 if x.op < 1\/25 < x.op then(0,4)
 else if x.op=9 then
  (if bu ds x.nm < 0 then(0,6)
  else if(x.ks.length≠((ds.getD (bu ds x.nm).toNat ⟨s0,true,[],0⟩).ar).length)\/8 < x.ks.length then(0,9)
  else eJ x i ss (ds.getD (bu ds x.nm).toNat ⟨s0,true,[],0⟩).ar (ds.getD (bu ds x.nm).toNat ⟨s0,true,[],0⟩).so)
 else if(0<=dT x.op/\(x.ks.length:Int)≠dT x.op)\/8 < x.ks.length then(0,9)
 else eJ x i ss [] 0
theorem qP{x:Nd}(h:iH x=true)(a:x.op=15): 1<=x.d/\x.d<=8/\0<=x.n/\x.n < i64.wrap (1 * 2 ^ min x.d.toNat 64):=by unfold iH at h;rw [if_neg (by omega),if_pos a] at h;simp only [MB,decide_eq_true_eq] at h;omega
theorem IV{x:Nd}{i:Nat}{ss:List Int}{es:Bool}{dn:ByteArray}{ea:Bool}{da:List Int}{so:Int}(K:x.op=9)(D: 1<=x.op/\x.op<=25)(O:x.ks.length<=8)(P:ss.length=i):∀(r:List Int) (j:Nat) (a:List Int),x.ks.drop j=r->j<=x.ks.length->a.length=j->a≠[]->(∀k∈x.ks.take j,0<=k/\k < (i:Int))->a= (x.ks.take j).map (λk=>ss.getD k.toNat 0)->
  Or hI [I (i:Int),ab es ss,r0,r1,o2,ab x.ek x.ks,I (x.ks.length:Int),I (j:Int)] [ad.box [I x.op,ab x.ek x.ks,I x.n,I x.d,AV.t (T.str x.nm)],ad.box [AV.t (T.str dn),ab ea da,I so],ad.sl false 1 false (enc a)]=some [ti (eJ x (i:Int) ss da so).1,ti (eJ x (i:Int) ss da so).2]:=by
 intro r;induction r with
 | nil=>
  intro j a g L p C s o;have e:¬(j:Int) < (x.ks.length:Int):=by have:=bh g;omega
  have B:x.ks.take j=x.ks:=O5 (by have:=bh g;omega);rw [B] at s o;have b:=uf x;have c:=ug x;have w:(x.ks.any λk=>decide (k < 0) || decide (k>=(i:Int)))=false:=by rw [NZ];intro k hm;have:=s k hm;simp;omega
  unfold eJ;rw [w,if_neg (by decide),<-o];cases A:kY x with
  | false=>rw [A] at b;rw [if_pos rfl];refine ah ?_;rw [oG];simp only [ai,↓reduceIte,Int.reduceBEq,Int.reduceEq,e,b,MA]
  | true=>
  rw [A] at b;rw [if_neg (by decide)];cases v:iH x with
  | false=>rw [v] at c;rw [if_pos rfl];refine ah ?_;rw [oG];simp only [ai,↓reduceIte,Int.reduceBEq,Int.reduceEq,e,b,Mz,c,MA]
  | true=>
  rw [v] at c;rw [if_neg (by decide)];have q:=uh (op:=x.op) (ek:=x.ek) (ks:=enc x.ks) (n:=x.n) (d:=x.d) (nm:=x.nm) (es:=false) (l:=a) (dn:=dn) (ea:=ea) (da:=da) (so:=so) D (by omega) (by rw [o];exact(λh=>absurd K h)) (λh=>by have:=qP v h;omega);by_cases f:be x.op x.d a da so=0
  .rw [f] at q;rw [if_pos f];refine ah ?_;rw [oG];simp only [ai,↓reduceIte,Int.reduceBEq,Int.reduceEq,e,b,Mz,c,q]
  .have F:(be x.op x.d a da so==0)=false:=by simpa using f
   rw [if_neg f];refine ah ?_;rw [oG];simp only [ai,↓reduceIte,Int.reduceBEq,Int.reduceEq,e,b,Mz,c,q,f,F]
 | cons k r N=>
  intro j a g L p C s o;obtain⟨m,Q,G⟩:=bp g;have e:(j:Int) < (x.ks.length:Int):=by omega
  have h0: 0<=(j:Int):=by omega
  by_cases u:k < 0\/k>=(i:Int)
  .have w:(x.ks.any λk=>decide (k < 0) || decide (k>=(i:Int)))=true:=Oe.2 ⟨k,MD m,by simpa using u⟩;have z:(decide (k < 0) || decide (k>=(i:Int)))=true:=by simpa using u
   unfold eJ;rw [w,if_pos rfl];refine ah ?_;rw [oG];simp only [aP,aX,bn,aZ,↓reduceIte,e,h0,and_self,decide_true,aC,bD m,eN,z]
  .have z:(decide (k < 0) || decide (k>=(i:Int)))=false:=by simp;omega
   have H: 0<=k/\k < (ss.length:Int):=by omega
   have J:(enc ss)[k.toNat]? =some [ti (ss.getD k.toNat 0)]:=eB (by rw [MT,MJ (by omega)];rfl);have M:=N (j+1) (a++ [ss.getD k.toNat 0]) G (by omega) (by simp [p]) (by simp) (λy E=>by
    rw [Ou,m] at E;rcases MQ.1 E with h | h
    .exact s y h
    .simp at h;subst h;omega) (by rw [Ou,m,OE,<-o];rfl)
   refine ah ?_;rw [oG];simp only [aP,aX,bn,aZ,bo,↓reduceIte,e,h0,and_self,decide_true,aC,bD m,eN,z,H,J,MC,cm (show a.length+1<=1000000 by omega),NS,dP,next j (by omega)];exact M
theorem IW{x:Nd}{i:Nat}{ss:List Int}{es:Bool}{dn:ByteArray}{ea:Bool}{da:List Int}{so:Int}(v:x.op=9)(j: 1<=x.op/\x.op<=25)(w:x.ks.length<=8)(z:ss.length=i):
  Or hI [I (i:Int),ab es ss,r0,r1,AV.t (T.af true),ab x.ek x.ks,I (x.ks.length:Int),I 0] [ad.box [I x.op,ab x.ek x.ks,I x.n,I x.d,AV.t (T.str x.nm)],ad.box [AV.t (T.str dn),ab ea da,I so]]=some [ti (eJ x (i:Int) ss da so).1,ti (eJ x (i:Int) ss da so).2]:=by
 cases a:x.ks with
 | nil=>
  have b:=uf x;have c:=ug x;rw [a] at b c;unfold eJ;rw [a,List.any_nil,if_neg (by decide),ND];cases q:kY x with
  | false=>rw [q] at b;rw [if_pos rfl];refine ah ?_;rw [oE];simp only [ai,↓reduceIte,Int.reduceBEq,Int.reduceEq,MS,M4,Na,decide_false,b,MA]
  | true=>
  rw [q] at b;rw [if_neg (by decide)];cases m:iH x with
  | false=>rw [m] at c;rw [if_pos rfl];refine ah ?_;rw [oE];simp only [ai,↓reduceIte,Int.reduceBEq,Int.reduceEq,MS,M4,Na,decide_false,b,Mz,c,MA]
  | true=>
  rw [m] at c;rw [if_neg (by decide)];have e:=uh (op:=x.op) (ek:=x.ek) (ks:=enc []) (n:=x.n) (d:=x.d) (nm:=x.nm) (es:=true) (l:= []) (dn:=dn) (ea:=ea) (da:=da) (so:=so) j (by simp) (λh=>absurd v h) (λh=>by have:=qP m h;omega);replace e:Or (.call 84) [AV.agg [I x.op,AV.t (T.ab 1 x.ek (enc [])),I x.n,I x.d,AV.t (T.str x.nm)],AV.t (T.ab 1 true []),AV.agg [AV.t (T.str dn),ab ea da,I so]] []=_:=e;by_cases f:be x.op x.d [] da so=0
  .rw [f] at e;rw [if_pos f];refine ah ?_;rw [oE];simp only [ai,↓reduceIte,Int.reduceBEq,Int.reduceEq,MS,M4,Na,decide_false,b,Mz,c,e]
  .have B:(be x.op x.d [] da so==0)=false:=by simpa using f
   rw [if_neg f];refine ah ?_;rw [oE];simp only [ai,↓reduceIte,Int.reduceBEq,Int.reduceEq,MS,M4,Na,decide_false,b,Mz,c,e,f,B]
 | cons k r=>
  have u:(0:Int) < (((k::r).length:Nat):Int):=by simp
  have h0:(0:Int)<=0:=by omega
  have s:(enc (k::r))[(0:Int).toNat]? =some [ti k]:=rfl;have F:i64.wrap (0+1)= ((1:Nat):Int):=by decide
  by_cases g:k < 0\/k>=(i:Int)
  .have C:(x.ks.any λk=>decide (k < 0) || decide (k>=(i:Int)))=true:=Oe.2 ⟨k,by rw [a];exact Mv,by simpa using g⟩;have o:(decide (k < 0) || decide (k>=(i:Int)))=true:=by simpa using g
   unfold eJ;rw [C,if_pos rfl];refine ah ?_;rw [oE];simp only [aP,aX,bn,aZ,↓reduceIte,u,h0,and_self,decide_true,aC,s,eN,o]
  .have o:(decide (k < 0) || decide (k>=(i:Int)))=false:=by simp;omega
   have D: 0<=k/\k < (ss.length:Int):=by omega
   have E:(enc ss)[k.toNat]? =some [ti (ss.getD k.toNat 0)]:=eB (by rw [MT,MJ (by omega)];rfl);have A:=IV (x:=x) (i:=i) (ss:=ss) (es:=es) (dn:=dn) (ea:=ea) (da:=da) (so:=so) v j w z r 1 [ss.getD k.toNat 0] (by rw [a];rfl) (by rw [a];simp) rfl (by simp) (λy p=>by rw [a] at p;simp at p;subst p;omega) (by rw [a];rfl);rw [a] at A;refine ah ?_;rw [oE];simp only [aP,aX,bn,aZ,bo,↓reduceIte,u,h0,and_self,decide_true,aC,s,eN,o,D,E,NS,F];exact A
theorem IX{x:Nd}{i:Nat}{ss:List Int}{es:Bool}(R:x.op≠9)(L: 0<=dT x.op->(x.ks.length:Int)=dT x.op)(D: 1<=x.op/\x.op<=25)(O:x.ks.length<=8)(P:ss.length=i):∀(r:List Int) (j:Nat) (a:List Int),x.ks.drop j=r->j<=x.ks.length->a.length=j->a≠[]->(∀k∈x.ks.take j,0<=k/\k < (i:Int))->a= (x.ks.take j).map (λk=>ss.getD k.toNat 0)->
  Or hI [I (i:Int),ab es ss,r0,r1,o2,ab x.ek x.ks,I (x.ks.length:Int),I (j:Int)] [ad.box [I x.op,ab x.ek x.ks,I x.n,I x.d,AV.t (T.str x.nm)],ad.box [AV.t (T.str s0),AV.t (T.af true),I 0],ad.sl false 1 false (enc a)]=some [ti (eJ x (i:Int) ss [] 0).1,ti (eJ x (i:Int) ss [] 0).2]:=by
 intro r;induction r with
 | nil=>
  intro j a g K q C s p;have f:¬(j:Int) < (x.ks.length:Int):=by have:=bh g;omega
  have B:x.ks.take j=x.ks:=O5 (by have:=bh g;omega);rw [B] at s p;have b:=uf x;have c:=ug x;have w:(x.ks.any λk=>decide (k < 0) || decide (k>=(i:Int)))=false:=by rw [NZ];intro k hm;have:=s k hm;simp;omega
  unfold eJ;rw [w,if_neg (by decide),<-p];cases A:kY x with
  | false=>rw [A] at b;rw [if_pos rfl];refine ah ?_;rw [oH];simp only [ai,↓reduceIte,Int.reduceBEq,Int.reduceEq,f,b,MA]
  | true=>
  rw [A] at b;rw [if_neg (by decide)];cases v:iH x with
  | false=>rw [v] at c;rw [if_pos rfl];refine ah ?_;rw [oH];simp only [ai,↓reduceIte,Int.reduceBEq,Int.reduceEq,f,b,Mz,c,MA]
  | true=>
  rw [v] at c;rw [if_neg (by decide)];have e:=uh (op:=x.op) (ek:=x.ek) (ks:=enc x.ks) (n:=x.n) (d:=x.d) (nm:=x.nm) (es:=false) (l:=a) (dn:=s0) (ea:=true) (da:= []) (so:=0) D (by omega) (by rw [p];exact(λ_ h=>by rw [NM];exact L h)) (λh=>by have:=qP v h;omega);replace e:Or (.call 84) [AV.agg [I x.op,AV.t (T.ab 1 x.ek (enc x.ks)),I x.n,I x.d,AV.t (T.str x.nm)],ab false a,AV.agg [AV.t (T.str s0),AV.t (T.ab 1 true []),I 0]] []=_:=e;by_cases m:be x.op x.d a [] 0=0
  .rw [m] at e;rw [if_pos m];refine ah ?_;rw [oH];simp only [ai,↓reduceIte,Int.reduceBEq,Int.reduceEq,f,b,Mz,c,e]
  .have F:(be x.op x.d a [] 0==0)=false:=by simpa using m
   rw [if_neg m];refine ah ?_;rw [oH];simp only [ai,↓reduceIte,Int.reduceBEq,Int.reduceEq,f,b,Mz,c,e,m,F]
 | cons k r N=>
  intro j a g K q C s p;obtain⟨o,Q,G⟩:=bp g;have f:(j:Int) < (x.ks.length:Int):=by omega
  have h0: 0<=(j:Int):=by omega
  by_cases u:k < 0\/k>=(i:Int)
  .have w:(x.ks.any λk=>decide (k < 0) || decide (k>=(i:Int)))=true:=Oe.2 ⟨k,MD o,by simpa using u⟩;have z:(decide (k < 0) || decide (k>=(i:Int)))=true:=by simpa using u
   unfold eJ;rw [w,if_pos rfl];refine ah ?_;rw [oH];simp only [aP,aX,bn,aZ,↓reduceIte,f,h0,and_self,decide_true,aC,bD o,eN,z]
  .have z:(decide (k < 0) || decide (k>=(i:Int)))=false:=by simp;omega
   have H: 0<=k/\k < (ss.length:Int):=by omega
   have J:(enc ss)[k.toNat]? =some [ti (ss.getD k.toNat 0)]:=eB (by rw [MT,MJ (by omega)];rfl);have M:=N (j+1) (a++ [ss.getD k.toNat 0]) G (by omega) (by simp [q]) (by simp) (λy E=>by
    rw [Ou,o] at E;rcases MQ.1 E with h | h
    .exact s y h
    .simp at h;subst h;omega) (by rw [Ou,o,OE,<-p];rfl)
   refine ah ?_;rw [oH];simp only [aP,aX,bn,aZ,bo,↓reduceIte,f,h0,and_self,decide_true,aC,bD o,eN,z,H,J,MC,cm (show a.length+1<=1000000 by omega),NS,dP,next j (by omega)];exact M
theorem IY{x:Nd}{i:Nat}{ss:List Int}{es:Bool}(F:x.op≠9)(v: 0<=dT x.op->(x.ks.length:Int)=dT x.op)(j: 1<=x.op/\x.op<=25)(w:x.ks.length<=8)(z:ss.length=i):
  Or hI [I (i:Int),ab es ss,r0,r1,AV.t (T.af true),ab x.ek x.ks,I (x.ks.length:Int),I 0] [ad.box [I x.op,ab x.ek x.ks,I x.n,I x.d,AV.t (T.str x.nm)],ad.box [AV.t (T.str s0),AV.t (T.af true),I 0]]=some [ti (eJ x (i:Int) ss [] 0).1,ti (eJ x (i:Int) ss [] 0).2]:=by
 cases a:x.ks with
 | nil=>
  have b:=uf x;have c:=ug x;rw [a] at b c;unfold eJ;rw [a,List.any_nil,if_neg (by decide),ND];cases q:kY x with
  | false=>rw [q] at b;rw [if_pos rfl];refine ah ?_;rw [oF];simp only [ai,↓reduceIte,Int.reduceBEq,Int.reduceEq,MS,M4,Na,decide_false,b,MA]
  | true=>
  rw [q] at b;rw [if_neg (by decide)];cases m:iH x with
  | false=>rw [m] at c;rw [if_pos rfl];refine ah ?_;rw [oF];simp only [ai,↓reduceIte,Int.reduceBEq,Int.reduceEq,MS,M4,Na,decide_false,b,Mz,c,MA]
  | true=>
  rw [m] at c;rw [if_neg (by decide)];have e:=uh (op:=x.op) (ek:=x.ek) (ks:=enc []) (n:=x.n) (d:=x.d) (nm:=x.nm) (es:=true) (l:= []) (dn:=s0) (ea:=true) (da:= []) (so:=0) j (by simp) (λ_ h=>by have:=v h;rw [a] at this;exact this) (λh=>by have:=qP m h;omega);replace e:Or (.call 84) [AV.agg [I x.op,AV.t (T.ab 1 x.ek (enc [])),I x.n,I x.d,AV.t (T.str x.nm)],AV.t (T.ab 1 true []),AV.agg [AV.t (T.str s0),AV.t (T.ab 1 true []),I 0]] []=_:=e;by_cases f:be x.op x.d [] [] 0=0
  .rw [f] at e;rw [if_pos f];refine ah ?_;rw [oF];simp only [ai,↓reduceIte,Int.reduceBEq,Int.reduceEq,MS,M4,Na,decide_false,b,Mz,c,e]
  .have B:(be x.op x.d [] [] 0==0)=false:=by simpa using f
   rw [if_neg f];refine ah ?_;rw [oF];simp only [ai,↓reduceIte,Int.reduceBEq,Int.reduceEq,MS,M4,Na,decide_false,b,Mz,c,e,f,B]
 | cons k r=>
  have u:(0:Int) < (((k::r).length:Nat):Int):=by simp
  have h0:(0:Int)<=0:=by omega
  have s:(enc (k::r))[(0:Int).toNat]? =some [ti k]:=rfl;have G:i64.wrap (0+1)= ((1:Nat):Int):=by decide
  by_cases g:k < 0\/k>=(i:Int)
  .have C:(x.ks.any λk=>decide (k < 0) || decide (k>=(i:Int)))=true:=Oe.2 ⟨k,by rw [a];exact Mv,by simpa using g⟩;have o:(decide (k < 0) || decide (k>=(i:Int)))=true:=by simpa using g
   unfold eJ;rw [C,if_pos rfl];refine ah ?_;rw [oF];simp only [aP,aX,bn,aZ,↓reduceIte,u,h0,and_self,decide_true,aC,s,eN,o]
  .have o:(decide (k < 0) || decide (k>=(i:Int)))=false:=by simp;omega
   have D: 0<=k/\k < (ss.length:Int):=by omega
   have E:(enc ss)[k.toNat]? =some [ti (ss.getD k.toNat 0)]:=eB (by rw [MT,MJ (by omega)];rfl);have A:=IX (x:=x) (i:=i) (ss:=ss) (es:=es) F v j w z r 1 [ss.getD k.toNat 0] (by rw [a];rfl) (by rw [a];simp) rfl (by simp) (λy p=>by rw [a] at p;simp at p;subst p;omega) (by rw [a];rfl);rw [a] at A;refine ah ?_;rw [oF];simp only [aP,aX,bn,aZ,bo,↓reduceIte,u,h0,and_self,decide_true,aC,s,eN,o,D,E,NS,G];exact A
theorem we{nm:ByteArray}:∀{i:Nat} {ds:List Dc},0<=iD nm i ds->∃j d,iD nm i ds= ((i+j:Nat):Int)/\ds[j]? =some d/\d.nm=nm
 | i,[],h=>by simp [iD] at h
 | i,d::r,h=>by
  rw [iD] at h⊢;split
  .rename_i e;exact⟨0,d,rfl,rfl,e⟩
  .rename_i e;rw [if_neg e] at h;obtain⟨j,a,b,c,f⟩:=we h;exact⟨j+1,a,by rw [b];congr 1;omega,c,f⟩
theorem C3{a:As}{x:Nd}{i:Nat}{ss:List Int}{es:Bool}(f:a.ns[i]? =some x)(A:a.ds.length<=100)(s:ss.length=i):
  Or (.call 41) [AG a,I (i:Int),ab es ss] []=some [ti (dL a.ds x (i:Int) ss).1,ti (dL a.ds x (i:Int) ss).2]:=by
 have o: 0<=(i:Int)/\(i:Int) < (a.ns.length:Int):=by have:=(My.1 f).1;omega
 unfold dL;by_cases t:x.op < 1\/25 < x.op
 .have c:(decide (x.op < 1) || decide (x.op > 25))=true:=by simpa using t
  rw [if_pos t];refine ah ?_;rw [oD];simp only [aP,aX,bQ,bn,bU,fS,aZ,↓reduceIte,o,and_self,dm,eA f,eN,c]
 have c:(decide (x.op < 1) || decide (x.op > 25))=false:=by simp;omega
 have p: 1<=x.op/\x.op<=25:=by omega
 rw [if_neg t];have b:=K0 p;by_cases m:x.op=9
 .have k:(x.op==9)=true:=by simpa using m
  have g:=rz (ed:=a.ed) (en:=a.en) (eh:=a.eh) (ns:=a.ns) (hs:=a.hs) (nm:=x.nm) A;rw [if_pos m];by_cases l:bu a.ds x.nm < 0
  .have q:=decide_eq_true l;rw [if_pos l];refine ah ?_;rw [oD];simp only [aP,aX,bQ,bn,bU,fS,aZ,bo,↓reduceIte,o,and_self,dm,eA f,eN,c,b,k,g,q]
  .rw [if_neg l];obtain⟨j,d,v,r,F⟩:=we (nm:=x.nm) (i:=0) (ds:=a.ds) (by unfold bu at l;omega);have B:bu a.ds x.nm= ((j:Nat):Int):=by unfold bu;rw [v,Nc]
   have E:a.ds.getD (bu a.ds x.nm).toNat ⟨s0,true,[],0⟩=d:=by rw [B,Nf,MT,r];rfl
   rw [E];rw [B] at g l;have q:=decide_eq_false l;have z: 0<=(j:Int)/\(j:Int) < (a.ds.length:Int):=by have:=(My.1 r).1;omega
   by_cases c3:x.ks.length≠d.ar.length\/8 < x.ks.length
   .have e:((!((x.ks.length:Int)== (d.ar.length:Int))) || decide ((x.ks.length:Int) > 8))=true:=by
     rcases c3 with h | h
     .have:((x.ks.length:Int)== (d.ar.length:Int))=false:=by simp;omega
      rw [this];rfl
     .have:(x.ks.length:Int) > 8:=by omega
      rw [decide_eq_true this,Pg]
    rw [if_pos c3];refine ah ?_;rw [oD];simp only [aP,aX,bQ,bn,bU,fS,aZ,bo,↓reduceIte,o,and_self,dm,eA f,eN,c,b,k,g,q,z,bZ,dK r,aC,e]
   .have e:((!((x.ks.length:Int)== (d.ar.length:Int))) || decide ((x.ks.length:Int) > 8))=false:=by
     have D:((x.ks.length:Int)== (d.ar.length:Int))=true:=by simp;omega
     have w:¬(x.ks.length:Int) > 8:=by omega
     rw [D,decide_eq_false w];rfl
    have y:=IW (x:=x) (i:=i) (ss:=ss) (es:=es) (dn:=d.nm) (ea:=d.ea) (da:=d.ar) (so:=d.so) m p (by omega) s;rw [if_neg c3];refine ah ?_;rw [oD];simp only [aP,aX,bQ,bn,bU,fS,aZ,bo,↓reduceIte,o,and_self,dm,eA f,eN,c,b,k,g,q,z,bZ,dK r,aC,e];exact y
 .have k:(x.op==9)=false:=by simpa using m
  rw [if_neg m];by_cases c3:(0<=dT x.op/\(x.ks.length:Int)≠dT x.op)\/8 < x.ks.length
  .have e:((decide (dT x.op>=0) && !((x.ks.length:Int)==dT x.op)) || decide ((x.ks.length:Int) > 8))=true:=by
    rcases c3 with⟨h,C⟩ | h
    .have u:((x.ks.length:Int)==dT x.op)=false:=by simpa using C
     have v:dT x.op>=0:=h;rw [u,decide_eq_true v];rfl
    .have:(x.ks.length:Int) > 8:=by omega
     rw [decide_eq_true this,Pg]
   rw [if_pos c3];refine ah ?_;rw [oD];simp only [aP,aX,bQ,bn,bU,fS,aZ,bo,↓reduceIte,o,and_self,dm,eA f,eN,fY,c,b,k,aC,e]
  .have e:((decide (dT x.op>=0) && !((x.ks.length:Int)==dT x.op)) || decide ((x.ks.length:Int) > 8))=false:=by
    have w:¬(x.ks.length:Int) > 8:=by omega
    rw [decide_eq_false w,Bool.or_false];by_cases h: 0<=dT x.op
    .have u:((x.ks.length:Int)==dT x.op)=true:=by simp;omega
     rw [u];simp
    .have:¬dT x.op>=0:=h;rw [decide_eq_false this];rfl
   have y:=IY (x:=x) (i:=i) (ss:=ss) (es:=es) m (λh=>by omega) p (by omega) s;rw [if_neg c3];refine ah ?_;rw [oD];simp only [aP,aX,bQ,bn,bU,fS,aZ,bo,↓reduceIte,o,and_self,dm,eA f,eN,fY,c,b,k,aC,e];exact y
open Go Go.Aev Go.IntKind
def eX(ds:List Dc):List Nd->Nat->List Int->List Int×Int×Int
 | [],_,ss=>(ss,0,0)
 | x::r,i,ss=>if(dL ds x (i:Int) ss).2=0 then eX ds r (i+1) (ss++ [(dL ds x (i:Int) ss).1]) else([],(dL ds x (i:Int) ss).2,(i:Int))
def eE(ss:List Int):List Int->Nat->Int×Int
 | [],_=>(0,0)
 | k::r,j=>if k < 0\/(ss.length:Int)<=k then(3,(j:Int)) else if ss.getD k.toNat 0≠1 then(8,(j:Int)) else eE ss r (j+1)
def iR(a:As)(q:List Int×Int×Int):List Int×Int×Int:=
 if q.2.1≠0 then([],q.2.1,q.2.2)
 else if 200 < a.hs.length then([],2,0)
 else if(eE q.1 a.hs 0).1≠0 then([],(eE q.1 a.hs 0).1,(eE q.1 a.hs 0).2)
 else(q.1,0,0)
def cY(a:As):List Int×Int×Int:=
 if 30 < a.ds.length then([],2,0)
 else if(fN [] 0 a.ds).1≠0 then([],(fN [] 0 a.ds).1,(fN [] 0 a.ds).2)
 else if 200 < a.ns.length then([],2,0)
 else iR a (eX a.ds a.ns 0 [])
abbrev R3(x:T)(q:List Int×Int×Int):Option (List T):=some [x,ti q.2.1,ti q.2.2]
theorem It{ss:List Int}{e:Bool}{hs:List Int}(hl:hs.length<=1000):∀(r:List Int) (j:Nat),hs.drop j=r->
  ∃x,Or lT [r0,o1,ab e hs,I (hs.length:Int),I (j:Int)] [mL,ad.sl false 1 false (enc ss)]=some [x,ti (eE ss r j).1,ti (eE ss r j).2]/\((eE ss r j).1=0->x=T.ab 1 false (enc ss))/\((eE ss r j).1≠0->x=T.af true):=by
 intro r;induction r with
 | nil=>
  intro j g;have a:¬(j:Int) < (hs.length:Int):=by have:=bh g;omega
  refine⟨T.ab 1 false (enc ss),ah ?_,λ_=>rfl,λh=>absurd rfl h⟩;rw [sI];simp only [ai,↓reduceIte,Int.reduceBEq,Int.reduceEq,a,eE]
 | cons k r q=>
  intro j g;obtain⟨l,v,p⟩:=bp g;have a:(j:Int) < (hs.length:Int):=by omega
  have h0: 0<=(j:Int):=by omega
  rw [eE];by_cases i:k < 0\/(ss.length:Int)<=k
  .have b:(decide (k < 0) || decide (k>=(ss.length:Int)))=true:=by simpa using i
   rw [if_pos i];refine⟨T.af true,ah ?_,λh=>absurd (show(3:Int)=0 from h) (by decide),λ_=>rfl⟩;rw [sI];simp only [aP,aX,bn,aZ,bo,↓reduceIte,a,h0,and_self,decide_true,aC,bD l,eN,b]
  .have b:(decide (k < 0) || decide (k>=(ss.length:Int)))=false:=by simp;omega
   have m: 0<=k/\k < (ss.length:Int):=by omega
   have o:(enc ss)[k.toNat]? =some [ti (ss.getD k.toNat 0)]:=eB (by rw [MT,MJ (by omega)];rfl);rw [if_neg i];by_cases c:ss.getD k.toNat 0=1
   .have f:(ss.getD k.toNat 0==1)=true:=by simpa using c
    obtain⟨x,s,t,u⟩:=q (j+1) p;rw [if_neg (by simpa using c)];refine⟨x,ah ?_,t,u⟩;rw [sI];simp only [aP,aX,bn,aZ,bo,↓reduceIte,a,h0,and_self,decide_true,aC,bD l,eN,b,m,o,f,Mz,next j (by omega)];exact s
   .have f:(ss.getD k.toNat 0==1)=false:=by simpa using c
    rw [if_pos c];refine⟨T.af true,ah ?_,λh=>absurd (show(8:Int)=0 from h) (by decide),λ_=>rfl⟩;rw [sI];simp only [aP,aX,bn,aZ,bo,↓reduceIte,a,h0,and_self,decide_true,aC,bD l,eN,b,m,o,f,MA]
theorem Is{a:As}(t:a.ds.length<=100)(D:a.ns.length<=200):∀(r:List Nd) (i:Nat) (ss:List Int),a.ns.drop i=r->i<=a.ns.length->ss.length=i->ss≠[]->
  ∃x,Or mO [r0,r1,o2,I (a.ns.length:Int),I (i:Int)] [fh a,mL,ad.sl false 1 false (enc ss)]=R3 x (iR a (eX a.ds r i ss))/\x.an 1=some ((iR a (eX a.ds r i ss)).1.isEmpty,enc (iR a (eX a.ds r i ss)).1):=by
 intro r;induction r with
 | nil=>
  intro i ss g z hs o;have f:¬(i:Int) < (a.ns.length:Int):=by have:=bh g;omega
  rw [eX];unfold iR;rw [if_neg (by simp)];by_cases c: 200 < a.hs.length
  .have b:(a.hs.length:Int) > 200:=by omega
   rw [if_pos c];refine⟨T.af true,ah ?_,rfl⟩;rw [qn];simp only [ai,↓reduceIte,Int.reduceBEq,Int.reduceEq,f,aC,b]
  .have b:¬(a.hs.length:Int) > 200:=by omega
   rw [if_neg c];obtain⟨x,m,s,C⟩:=It (ss:=ss) (e:=a.eh) (hs:=a.hs) (by omega) a.hs 0 rfl;by_cases l:(eE ss a.hs 0).1=0
   .rw [if_neg (by simpa using l)];have u:eE ss a.hs 0= (0,0):=by
     have:∀(r:List Int) (j:Nat),(eE ss r j).1=0->eE ss r j= (0,0):=by
      intro r;induction r with
      | nil=>intro j _;rfl
      | cons k r q=>
       intro j h;rw [eE] at h⊢;split at h
       .exact absurd (show(3:Int)=0 from h) (by decide)
       .rename_i A;rw [if_neg A];split at h
        .exact absurd (show(8:Int)=0 from h) (by decide)
        .rename_i B;rw [if_neg B];exact q _ h
     exact this _ _ l
    refine⟨x,ah ?_, ?_⟩
    .rw [qn];simp only [ai,↓reduceIte,Int.reduceBEq,Int.reduceEq,f,aC,b];rw [u] at m;exact m
    .rw [s l,bU];cases ss with
     | nil=>exact absurd rfl o
     | cons=>rfl
   .rw [if_pos l];refine⟨x,ah ?_,by rw [C l];rfl⟩;rw [qn];simp only [ai,↓reduceIte,Int.reduceBEq,Int.reduceEq,f,aC,b];exact m
 | cons x r q=>
  intro i ss g z hs o;obtain⟨v,E,w⟩:=bp g;have f:(i:Int) < (a.ns.length:Int):=by omega
  have p:=C3 (a:=a) (es:=false) v t hs;rw [eX];by_cases c:(dL a.ds x (i:Int) ss).2=0
  .have b:((dL a.ds x (i:Int) ss).2==0)=true:=by simpa using c
   obtain⟨y,m,s⟩:=q (i+1) (ss++ [(dL a.ds x (i:Int) ss).1]) w (by omega) (by simp [hs]) (by simp);rw [if_pos c];refine⟨y,ah ?_,s⟩;rw [qn];simp only [aP,aX,bQ,bn,aZ,bo,↓reduceIte,f,decide_true,p,b,Mz,aC,MC,cm (show ss.length+1<=1000000 by omega),NS,dP,next i (by omega)];exact m
  .have b:((dL a.ds x (i:Int) ss).2==0)=false:=by simpa using c
   rw [if_neg c];unfold iR;rw [if_pos c];refine⟨T.af true,ah ?_,rfl⟩;rw [qn];simp only [aP,aX,bQ,bn,aZ,bo,↓reduceIte,f,decide_true,p,b,MA]
theorem CX{a:As}(D:∀d∈a.ds,d.nm.size<=9223372036854775807):∃x,Or (.call 15) [AG a] []=R3 x (cY a)/\x.an 1=some ((cY a).1.isEmpty,enc (cY a).1):=by
 have b:=KD (e:=a.ed) D;unfold cY;by_cases l: 30 < a.ds.length
 .rw [if_pos l] at b;rw [if_pos l];refine⟨T.af true,ah ?_,rfl⟩;rw [sH];simp only [ai,↓reduceIte,Int.reduceBEq,Int.reduceEq,b,MA]
 rw [if_neg l] at b;rw [if_neg l];by_cases m:(fN [] 0 a.ds).1=0
 .have j:((fN [] 0 a.ds).1==0)=true:=by simpa using m
  rw [if_neg (by simpa using m)];by_cases c3: 200 < a.ns.length
  .have s:((a.ns.length:Int) > 200):=by omega
   rw [if_pos c3];refine⟨T.af true,ah ?_,rfl⟩;rw [sH];simp only [aP,aX,bQ,bn,aZ,bo,↓reduceIte,b,j,Mz,dm,s,decide_true]
  .have s:¬((a.ns.length:Int) > 200):=by omega
   rw [if_neg c3];have w:∃x,Or mO [r0,r1,AV.t (T.af true),I (a.ns.length:Int),I 0] [fh a,mL]=R3 x (iR a (eX a.ds a.ns 0 []))/\x.an 1=some ((iR a (eX a.ds a.ns 0 [])).1.isEmpty,enc (iR a (eX a.ds a.ns 0 [])).1):=by
    cases g:a.ns with
    | nil=>
     rw [eX];unfold iR;rw [if_neg (by simp)];by_cases f: 200 < a.hs.length
     .have c:(a.hs.length:Int) > 200:=by omega
      rw [if_pos f];refine⟨T.af true,ah ?_,rfl⟩;rw [qm];simp only [ai,↓reduceIte,Int.reduceBEq,Int.reduceEq,MS,M4,Na,decide_false,aC,c]
     .have c:¬(a.hs.length:Int) > 200:=by omega
      rw [if_neg f];cases p:a.hs with
      | nil=>
       refine⟨T.af true,ah ?_,rfl⟩;have u:Or lT [r0,AV.t (T.af true),ab a.eh [],I 0,I 0] [mL]=some [T.af true,ti 0,ti 0]:=by refine ah ?_;rw [y8];simp only [ai,↓reduceIte,Int.reduceBEq,Int.reduceEq,Na,decide_false]
       rw [p] at c;rw [qm];simp only [ai,↓reduceIte,Int.reduceBEq,Int.reduceEq,MS,M4,Na,decide_false,aC,p];exact u
      | cons k r=>
       have B:eE [] (k::r) 0= (3,0):=by rw [eE,if_pos (by simp;omega)];rfl
       rw [B,if_pos (by decide)];refine⟨T.af true,ah ?_,rfl⟩;have o:(0:Int) < (((k::r).length:Nat):Int):=by simp
       have h0:(0:Int)<=0:=by omega
       have C:(enc (k::r))[(0:Int).toNat]? =some [ti k]:=rfl;have A:(decide (k < 0) || decide (k>=0))=true:=by simp;omega
       have u:Or lT [r0,AV.t (T.af true),ab a.eh (k::r),I (((k::r).length:Nat):Int),I 0] [mL]=some [T.af true,ti 3,ti 0]:=by refine ah ?_;rw [y8];simp only [aP,aX,bn,aZ,bo,↓reduceIte,o,h0,and_self,decide_true,aC,C,eN,A]
       rw [p] at c;rw [qm];simp only [ai,↓reduceIte,Int.reduceBEq,Int.reduceEq,MS,M4,Na,decide_false,aC,p,c];exact u
    | cons y r=>
     have E:a.ns[0]? =some y:=by rw [g];rfl
     have h:=C3 (a:=a) (i:=0) (ss:= []) (es:=true) E (by omega) rfl;replace h:Or (.call 41) [AG a,I 0,AV.t (T.ab 1 true [])] []=some [ti (dL a.ds y 0 []).1,ti (dL a.ds y 0 []).2]:=h;have o:(0:Int) < (((y::r).length:Nat):Int):=by simp
     have F:i64.wrap (0+1)= ((1:Nat):Int):=by decide
     rw [eX];by_cases f:(dL a.ds y 0 []).2=0
     .have c:((dL a.ds y 0 []).2==0)=true:=by simpa using f
      obtain⟨z,q,v⟩:=Is (a:=a) (by omega) (by omega) r 1 [(dL a.ds y 0 []).1] (by rw [g];rfl) (by rw [g];simp) rfl (by simp);rw [if_pos (show(dL a.ds y ((0:Nat):Int) []).2=0 from f)];refine⟨z,ah ?_,v⟩;rw [qm];rw [g] at q;simp only [aP,aX,bQ,bn,aZ,bo,↓reduceIte,o,decide_true,h,c,Mz,NS,F];exact q
     .have c:((dL a.ds y 0 []).2==0)=false:=by simpa using f
      rw [if_neg (show ¬(dL a.ds y ((0:Nat):Int) []).2=0 from f)];unfold iR;rw [if_pos (show(dL a.ds y ((0:Nat):Int) []).2≠0 from f)];refine⟨T.af true,ah ?_,rfl⟩;rw [qm];simp only [aP,aX,bQ,bn,aZ,bo,↓reduceIte,o,decide_true,h,c,MA];rfl
   obtain⟨x,q,v⟩:=w;refine⟨x,ah ?_,v⟩;rw [sH];simp only [aP,aX,bQ,bn,aZ,bo,↓reduceIte,b,j,Mz,dm,s,decide_false];exact q
 .have j:((fN [] 0 a.ds).1==0)=false:=by simpa using m
  rw [if_pos m];refine⟨T.af true,ah ?_,rfl⟩;rw [sH];simp only [aP,aX,bQ,bn,aZ,bo,↓reduceIte,b,j,MA]
open Go Go.Aev Go.IntKind
theorem ER{e:List Dc}{d:Dc}(h:fm e d=0):d.nm.size<=12/\d.ar.length<=8/\(∀s∈d.ar,s=4)/\oX d.nm=true/\oY d.so=true/\(e.any λx=>decide (x.nm=d.nm))=false/\(d.so=5->d.ar= []):=by
 unfold fm at h;split at h
 .cases h
 rename_i i;split at h
 .cases h
 rename_i j;split at h
 .cases h
 rename_i l;split at h
 .cases h
 rename_i f;have g:oX d.nm=true:=by simpa using i
 refine⟨?_,by omega,λs hs=> ?_,g, ?_,by simpa using j,λk=> ?_⟩
 .unfold oX at g;simp only [MB,decide_eq_true_eq] at g;omega
 .have:(d.ar.any λs=> !(s==4))=false:=by
   cases c:d.ar.any λs=> !(s==4) with
   | false=>rfl
   | true=>exact absurd (.inr (.inl c)) f
  rw [NZ] at this;have:=this s hs;simpa using this
 .cases c:oY d.so with
  | true=>rfl
  | false=>exact absurd (.inl c) f
 .cases c:d.ar with
  | nil=>rfl
  | cons a b=>exact absurd (.inr (.inr ⟨k,by rw [c];simp⟩)) f
theorem yC:∀{r:List Dc} {a:List Dc} {i:Nat},(fN a i r).1=0->∀(j:Nat) (d:Dc),r[j]? =some d->fm (a++r.take j) d=0
 | [],_,_,_,j,d,h=>by simp at h
 | x::r,a,i,h,j,d,b=>by
  rw [fN] at h;split at h
  .rename_i h0;cases j with
   | zero=>simp at b;subst b;simpa using h0
   | succ j=>have:=yC h j d (by simpa using b);simpa using this
  .rename_i h0;exact absurd h h0
theorem Bf{ss:List Int}:∀{r:List Int} {j:Nat},(eE ss r j).1=0->∀k∈r,0<=k/\ss[k.toNat]? =some 1
 | [],_,_,k,h=>by cases h
 | x::r,j,h,k,b=>by
  rw [eE] at h;split at h
  .exact absurd (show(3:Int)=0 from h) (by decide)
  rename_i e;split at h
  .exact absurd (show(8:Int)=0 from h) (by decide)
  rename_i c;rcases MN.1 b with rfl | b
  .refine⟨by omega, ?_⟩;have a:ss.getD k.toNat 0=1:=by simpa using c
   rw [MT] at a;rw [MJ (by omega)] at a⊢;exact congrArg some a
  .exact Bf h k b
theorem Dm{ds:List Dc}:∀{r:List Nd} {i:Nat} {ss:List Int},ss.length=i->(eX ds r i ss).2.1=0->
  ∃t,eX ds r i ss= (ss++t,0,0)/\t.length=r.length/\∀(j:Nat) (x:Nd),r[j]? =some x->(dL ds x ((i+j:Nat):Int) (ss++t.take j)).2=0/\t[j]? =some (dL ds x ((i+j:Nat):Int) (ss++t.take j)).1
 | [],i,ss,hs,_=>⟨[],by rw [eX,MU],rfl,λj x h=>by simp at h⟩
 | y::r,i,ss,hs,h=>by
  rw [eX] at h⊢;split at h
  .rename_i h0;rw [if_pos h0];obtain⟨t,b,c,e⟩:=Dm (r:=r) (i:=i+1) (ss:=ss++ [(dL ds y (i:Int) ss).1]) (by simp [hs]) h;refine⟨(dL ds y (i:Int) ss).1::t,by rw [b];simp,by simp [c],λj x a=> ?_⟩;cases j with
   | zero=>simp at a;subst a;simp [h0]
   | succ j=>have:=e j x (by simpa using a);rw [show i+1+j=i+ (j+1) by omega] at this;simpa using this
  .rename_i h0;exact absurd h h0
theorem AN{x:Nd}{i:Int}{ss da:List Int}{so:Int}(h:(eJ x i ss da so).2=0):
  (∀k∈x.ks,0<=k/\k < i)/\kY x=true/\iH x=true/\(eJ x i ss da so).1=be x.op x.d (x.ks.map λk=>ss.getD k.toNat 0) da so/\be x.op x.d (x.ks.map λk=>ss.getD k.toNat 0) da so≠0:=by
 unfold eJ at h⊢;split at h
 .exact absurd (show(3:Int)=0 from h) (by decide)
 rename_i a;split at h
 .exact absurd (show(5:Int)=0 from h) (by decide)
 rename_i b;split at h
 .exact absurd (show(3:Int)=0 from h) (by decide)
 rename_i c;split at h
 .exact absurd (show(8:Int)=0 from h) (by decide)
 rename_i e;rw [if_neg a,if_neg b,if_neg c,if_neg e];refine⟨λk g=> ?_,by simpa using b,by simpa using c,rfl,e⟩;have f:(x.ks.any λk=>decide (k < 0) || decide (k>=i))=false:=by simpa using a
 rw [NZ] at f;have:=f k g;simp at this;omega
theorem AU{x:Nd}(b:kY x=true)(a:iH x=true):(-1000000<=x.n/\x.n<=1000000)/\(-1000000<=x.d/\x.d<=1000000)/\(x.nm=s0\/x.op=9):=by
 unfold kY at b;simp only [MB,Nk,decide_eq_true_eq,beq_iff_eq] at b;obtain⟨⟨e,i⟩,j⟩:=b;refine⟨?_, ?_,e⟩ <;>
 .unfold iH at a;split at a
  .unfold rp at a;simp only [MB,decide_eq_true_eq] at a;omega
  rename_i g;split at a
  .simp only [MB,decide_eq_true_eq] at a;rename_i c;have k:i64.wrap (1 * 2 ^ min x.d.toNat 64)<=256:=by
    have f:x.d.toNat=1\/x.d.toNat=2\/x.d.toNat=3\/x.d.toNat=4\/x.d.toNat=5\/x.d.toNat=6\/x.d.toNat=7\/x.d.toNat=8:=by omega
    rcases f with h | h | h | h | h | h | h | h <;> rw [h] <;> decide
   omega
  rename_i c;split at a
  .simp only [MB,decide_eq_true_eq] at a;omega
  rename_i c3;omega
theorem qU{s:Int}(h:pN s=true):aH s=false:=by unfold pN at h;simp only [Nk,beq_iff_eq] at h;rcases h with rfl | rfl <;> rfl
theorem tK{s:Int}(h:pB s=true):aH s=false:=by unfold pB at h;simp only [beq_iff_eq] at h;subst h;rfl
theorem JA{c:Cx}{x:Nd}{i:Nat}{pre:List Int}(hpre:pre.length=i)(Q:∀k,k < i->c.ss[k]? =pre[k]?)(Y:∀d∈c.ds,d.nm.size<=12/\d.ar.length<=8/\∀s∈d.ar,s=4)(h:(dL c.ds x (i:Int) pre).2=0):r6 c i x (dL c.ds x (i:Int) pre).1:=by
 unfold dL at h⊢;by_cases U:x.op < 1\/25 < x.op
 .rw [if_pos U] at h;exact absurd (show(4:Int)=0 from h) (by decide)
 rw [if_neg U] at h⊢;have p: 1<=x.op/\x.op<=25:=by omega
 have B:∀k,0<=k->k < (i:Int)->KW c i k (pre.getD k.toNat 0):=λk h1 K=>⟨h1,K,by
  rw [Q k.toNat (by omega),MT,MJ (by omega)];rfl⟩
 by_cases J:x.op=9
 .rw [if_pos J] at h⊢;by_cases N:bu c.ds x.nm < 0
  .rw [if_pos N] at h;exact absurd (show(6:Int)=0 from h) (by decide)
  rw [if_neg N] at h⊢;by_cases c3:(x.ks.length≠((c.ds.getD (bu c.ds x.nm).toNat ⟨s0,true,[],0⟩).ar).length)\/8 < x.ks.length
  .rw [if_pos c3] at h;exact absurd (show(9:Int)=0 from h) (by decide)
  rw [if_neg c3] at h⊢;obtain⟨j,d,h3,X,h5⟩:=we (nm:=x.nm) (i:=0) (ds:=c.ds) (by unfold bu at N;omega);have hf:bu c.ds x.nm= ((j:Nat):Int):=by unfold bu;rw [h3,Nc]
  have P:c.ds.getD (bu c.ds x.nm).toNat ⟨s0,true,[],0⟩=d:=by rw [hf,Nf,MT,X];rfl
  rw [P] at h c3⊢;obtain⟨m,S,I,M,g⟩:=AN h;rw [M];obtain⟨y,z,W⟩:=AU S I;obtain⟨d1,d2,d3⟩:=Y d (MD X);have es:be x.op x.d (x.ks.map λk=>pre.getD k.toNat 0) d.ar d.so=if(x.ks.map λk=>pre.getD k.toNat 0)=d.ar then d.so else 0:=by rw [J];rfl
  rw [es] at g⊢;by_cases e:(x.ks.map λk=>pre.getD k.toNat 0)=d.ar
  .have Z:∀k∈x.ks,∃s',KW c i k s'/\aH s'=false:=λk A=>by
    refine⟨_,B k (m k A).1 (m k A).2, ?_⟩;have:pre.getD k.toNat 0=4:=d3 _ (by rw [<-e];exact M7.2 ⟨k,A,rfl⟩);rw [this];rfl
   exact⟨p,by omega,y,z,by rw [<-h5];exact d1,λk A=>⟨_,B k (m k A).1 (m k A).2⟩,by omega,by omega,by omega,by omega,by omega,by omega,by omega,by omega,λ_ _ _=>⟨λe=>absurd J e,Z⟩⟩
  .rw [if_neg e] at g;exact absurd rfl g
 .rw [if_neg J] at h⊢;by_cases c3:(0<=dT x.op/\(x.ks.length:Int)≠dT x.op)\/8 < x.ks.length
  .rw [if_pos c3] at h;exact absurd (show(9:Int)=0 from h) (by decide)
  rw [if_neg c3] at h⊢;obtain⟨m,S,I,M,g⟩:=AN h;rw [M];obtain⟨y,z,W⟩:=AU S I;have t:x.nm.size<=12:=by
   rcases W with e | e
   .rw [e];decide
   .exact absurd e J
  have q:∀k∈x.ks,∃s',KW c i k s':=λk A=>⟨_,B k (m k A).1 (m k A).2⟩;have r:x.ks.length<=8:=by omega
  have u: 0<=dT x.op->(x.ks.length:Int)=dT x.op:=λe=>by omega
  have l:(∀s∈(x.ks.map λk=>pre.getD k.toNat 0),aH s=false)->∀k∈x.ks,∃s',KW c i k s'/\aH s'=false:=λO k A=>⟨_,B k (m k A).1 (m k A).2,O _ (M7.2 ⟨k,A,rfl⟩)⟩;have E:(x.ks.length:Int)=0->x.ks= []:=λh=>MW.1 (by omega);have F:(x.ks.length:Int)=1->∃a,x.ks= [a]:=λh=>OG.1 (by omega);have D:(x.ks.length:Int)=2->∃a b,x.ks= [a,b]:=λh=>by
   have K:x.ks.length=2:=by omega
   match hh:x.ks,K with
   | [a,b],_=>exact⟨a,b,rfl⟩
  have R:(x.ks.length:Int)=3->∃a b d,x.ks= [a,b,d]:=λh=>by
   have K:x.ks.length=3:=by omega
   match hh:x.ks,K with
   | [a,b,d],_=>exact⟨a,b,d,rfl⟩
  clear h M;rcases w7 p with o | o | o | o | o | o | o | o | o | o | o | o | o | o | o | o | o | o | o | o | o | o | o | o | o
  ·
   have hl:(x.ks.length:Int)=0:=by have:=u (by rw [o];decide);rw [o] at this;exact this
   have G:=E hl;have es:be x.op x.d (x.ks.map λk=>pre.getD k.toNat 0) [] 0=1:=by rw [o];rfl
   rw [es];exact⟨p,r,y,z,t,q,by omega,by omega,by omega,by omega,by omega,by omega,by omega,by omega,λ_ _ _=>⟨λ_=>rfl,λk A=>by rw [G] at A;cases A⟩⟩
  ·
   have hl:(x.ks.length:Int)=0:=by have:=u (by rw [o];decide);rw [o] at this;exact this
   have G:=E hl;have es:be x.op x.d (x.ks.map λk=>pre.getD k.toNat 0) [] 0=1:=by rw [o];rfl
   rw [es];exact⟨p,r,y,z,t,q,by omega,by omega,by omega,by omega,by omega,by omega,by omega,by omega,λ_ _ _=>⟨λ_=>rfl,λk A=>by rw [G] at A;cases A⟩⟩
  ·
   have hl:(x.ks.length:Int)=1:=by have:=u (by rw [o];decide);rw [o] at this;exact this
   have es:be x.op x.d (x.ks.map λk=>pre.getD k.toNat 0) [] 0=if(x.ks.map λk=>pre.getD k.toNat 0).all pB=true then 1 else 0:=by rw [o];rfl
   rw [es] at g⊢;cases v:(x.ks.map λk=>pre.getD k.toNat 0).all pB with
   | false=>rw [v] at g;exact absurd rfl g
   | true=>have C:=l (λs hs=>tK (MR.1 v s hs));rw [if_pos rfl];exact⟨p,r,y,z,t,q,λ_=>by obtain⟨a,O⟩:=F hl;exact⟨a,[],O⟩,by omega,by omega,by omega,by omega,by omega,by omega,by omega,λ_ _ _=>⟨λ_=>rfl,C⟩⟩
  ·
   have es:be x.op x.d (x.ks.map λk=>pre.getD k.toNat 0) [] 0=if(x.ks.map λk=>pre.getD k.toNat 0).all pB=true then 1 else 0:=by rw [o];rfl
   rw [es] at g⊢;cases v:(x.ks.map λk=>pre.getD k.toNat 0).all pB with
   | false=>rw [v] at g;exact absurd rfl g
   | true=>have C:=l (λs hs=>tK (MR.1 v s hs));rw [if_pos rfl];exact⟨p,r,y,z,t,q,by omega,by omega,by omega,by omega,by omega,by omega,by omega,by omega,λ_ _ _=>⟨λ_=>rfl,C⟩⟩
  ·
   have es:be x.op x.d (x.ks.map λk=>pre.getD k.toNat 0) [] 0=if(x.ks.map λk=>pre.getD k.toNat 0).all pB=true then 1 else 0:=by rw [o];rfl
   rw [es] at g⊢;cases v:(x.ks.map λk=>pre.getD k.toNat 0).all pB with
   | false=>rw [v] at g;exact absurd rfl g
   | true=>have C:=l (λs hs=>tK (MR.1 v s hs));rw [if_pos rfl];exact⟨p,r,y,z,t,q,by omega,by omega,by omega,by omega,by omega,by omega,by omega,by omega,λ_ _ _=>⟨λ_=>rfl,C⟩⟩
  ·
   have hl:(x.ks.length:Int)=2:=by have:=u (by rw [o];decide);rw [o] at this;exact this
   have es:be x.op x.d (x.ks.map λk=>pre.getD k.toNat 0) [] 0=if(x.ks.map λk=>pre.getD k.toNat 0).all pB=true then 1 else 0:=by rw [o];rfl
   rw [es] at g⊢;cases v:(x.ks.map λk=>pre.getD k.toNat 0).all pB with
   | false=>rw [v] at g;exact absurd rfl g
   | true=>have C:=l (λs hs=>tK (MR.1 v s hs));rw [if_pos rfl];exact⟨p,r,y,z,t,q,by omega,by omega,by omega,by omega,by omega,by omega,by omega,by omega,λ_ _ _=>⟨λ_=>rfl,C⟩⟩
  ·
   have hl:(x.ks.length:Int)=3:=by have:=u (by rw [o];decide);rw [o] at this;exact this
   obtain⟨a,b,d,f⟩:=R hl;have es:be x.op x.d (x.ks.map λk=>pre.getD k.toNat 0) [] 0=if pre.getD a.toNat 0=1/\pre.getD b.toNat 0=pre.getD d.toNat 0/\pre.getD b.toNat 0≠5 then pre.getD b.toNat 0 else 0:=by rw [o,f];rfl
   rw [es] at g⊢;by_cases e:pre.getD a.toNat 0=1/\pre.getD b.toNat 0=pre.getD d.toNat 0/\pre.getD b.toNat 0≠5
   .rw [if_pos e];have ka:=B a (m a (by rw [f];simp)).1 (m a (by rw [f];simp)).2;have kb:=B b (m b (by rw [f];simp)).1 (m b (by rw [f];simp)).2;have kd:=B d (m d (by rw [f];simp)).1 (m d (by rw [f];simp)).2;rw [e.1] at ka;rw [<-e.2.1] at kd;exact⟨p,r,y,z,t,q,by omega,λ_=>⟨a,b,d,f,ka,kb,kd⟩,by omega,by omega,by omega,by omega,by omega,by omega,λe=>absurd o e⟩
   .rw [if_neg e] at g;exact absurd rfl g
  ·
   have hl:(x.ks.length:Int)=2:=by have:=u (by rw [o];decide);rw [o] at this;exact this
   obtain⟨a,b,f⟩:=D hl;have ka:=B a (m a (by rw [f];simp)).1 (m a (by rw [f];simp)).2;have kb:=B b (m b (by rw [f];simp)).1 (m b (by rw [f];simp)).2;have es:be x.op x.d (x.ks.map λk=>pre.getD k.toNat 0) [] 0=if(x.ks.map λk=>pre.getD k.toNat 0).all pN=true\/(pre.getD a.toNat 0=pre.getD b.toNat 0/\(pre.getD a.toNat 0=4\/aH (pre.getD a.toNat 0)=true)) then 1 else 0:=by rw [o,f];rfl
   rw [es] at g⊢;by_cases e:(x.ks.map λk=>pre.getD k.toNat 0).all pN=true\/(pre.getD a.toNat 0=pre.getD b.toNat 0/\(pre.getD a.toNat 0=4\/aH (pre.getD a.toNat 0)=true))
   .rw [if_pos e];have c8:aH 1=false/\∃a b s',x.ks= [a,b]/\((aH s'=true/\KW c i a s'/\KW c i b s')\/∀k∈x.ks,∃s',KW c i k s'/\aH s'=false):=by
     refine⟨rfl,a,b,pre.getD a.toNat 0,f, ?_⟩;rcases e with e | ⟨V,L | L⟩
     .exact .inr (l λs hs=>qU (MR.1 e s hs))
     .right;intro k A;rw [f] at A;simp only [MN,N5,or_false] at A;rcases A with rfl | rfl
      .exact⟨_,ka,by rw [L];rfl⟩
      .exact⟨_,kb,by rw [<-V,L];rfl⟩
     .left;rw [<-V] at kb;exact⟨L,ka,kb⟩
    exact⟨p,r,y,z,t,q,by omega,by omega,λ_=>c8,by omega,by omega,by omega,by omega,by omega,λ_ e=>absurd o e⟩
   .rw [if_neg e] at g;exact absurd rfl g
  ·
   exact absurd o J
  ·
   have hl:(x.ks.length:Int)=0:=by have:=u (by rw [o];decide);rw [o] at this;exact this
   have G:=E hl;have es:be x.op x.d (x.ks.map λk=>pre.getD k.toNat 0) [] 0=if x.d=1 then 2 else 3:=by rw [o];rfl
   rw [es];have H:aH (if x.d=1 then 2 else 3)=false:=by split <;> rfl
   exact⟨p,r,y,z,t,q,by omega,by omega,by omega,by omega,by omega,by omega,by omega,by omega,λ_ _ _=>⟨λ_=>H,λk A=>by rw [G] at A;cases A⟩⟩
  ·
   have es:be x.op x.d (x.ks.map λk=>pre.getD k.toNat 0) [] 0=if(x.ks.map λk=>pre.getD k.toNat 0).all pN=true then(if(x.ks.map λk=>pre.getD k.toNat 0).all pI=true then 2 else 3) else 0:=by rw [o];rfl
   rw [es] at g⊢;cases v:(x.ks.map λk=>pre.getD k.toNat 0).all pN with
   | false=>rw [v] at g;exact absurd rfl g
   | true=>
    have C:=l (λs hs=>qU (MR.1 v s hs));rw [if_pos rfl];have H:aH (if(x.ks.map λk=>pre.getD k.toNat 0).all pI=true then 2 else 3)=false:=by split <;> rfl
    exact⟨p,r,y,z,t,q,by omega,by omega,by omega,by omega,by omega,by omega,by omega,by omega,λ_ _ _=>⟨λ_=>H,C⟩⟩
  ·
   have hl:(x.ks.length:Int)=1:=by have:=u (by rw [o];decide);rw [o] at this;exact this
   obtain⟨a,f⟩:=F hl;have es:be x.op x.d (x.ks.map λk=>pre.getD k.toNat 0) [] 0=if pN (pre.getD a.toNat 0)=true then(if pre.getD a.toNat 0=2/\x.d=1 then 2 else 3) else 0:=by rw [o,f];rfl
   rw [es] at g⊢;cases v:pN (pre.getD a.toNat 0) with
   | false=>rw [v] at g;exact absurd rfl g
   | true=>
    have C:=l (λs hs=>by rw [f] at hs;simp only [Nh,ND,MI] at hs;subst hs;exact qU v);rw [if_pos rfl];have H:aH (if pre.getD a.toNat 0=2/\x.d=1 then 2 else 3)=false:=by split <;> rfl
    exact⟨p,r,y,z,t,q,by omega,by omega,by omega,by omega,by omega,by omega,by omega,by omega,λ_ _ _=>⟨λ_=>H,C⟩⟩
  ·
   have hl:(x.ks.length:Int)=2:=by have:=u (by rw [o];decide);rw [o] at this;exact this
   have es:be x.op x.d (x.ks.map λk=>pre.getD k.toNat 0) [] 0=if(x.ks.map λk=>pre.getD k.toNat 0).all pN=true then 1 else 0:=by rw [o];rfl
   rw [es] at g⊢;cases v:(x.ks.map λk=>pre.getD k.toNat 0).all pN with
   | false=>rw [v] at g;exact absurd rfl g
   | true=>have C:=l (λs hs=>qU (MR.1 v s hs));rw [if_pos rfl];exact⟨p,r,y,z,t,q,by omega,by omega,by omega,by omega,by omega,by omega,by omega,by omega,λ_ _ _=>⟨λ_=>rfl,C⟩⟩
  ·
   have hl:(x.ks.length:Int)=2:=by have:=u (by rw [o];decide);rw [o] at this;exact this
   have es:be x.op x.d (x.ks.map λk=>pre.getD k.toNat 0) [] 0=if(x.ks.map λk=>pre.getD k.toNat 0).all pN=true then 1 else 0:=by rw [o];rfl
   rw [es] at g⊢;cases v:(x.ks.map λk=>pre.getD k.toNat 0).all pN with
   | false=>rw [v] at g;exact absurd rfl g
   | true=>have C:=l (λs hs=>qU (MR.1 v s hs));rw [if_pos rfl];exact⟨p,r,y,z,t,q,by omega,by omega,by omega,by omega,by omega,by omega,by omega,by omega,λ_ _ _=>⟨λ_=>rfl,C⟩⟩
  ·
   have hl:(x.ks.length:Int)=0:=by have:=u (by rw [o];decide);rw [o] at this;exact this
   have G:=E hl;have es:be x.op x.d (x.ks.map λk=>pre.getD k.toNat 0) [] 0=10+x.d:=by rw [o];rfl
   rw [es];obtain⟨w1,w2,w3,w4⟩:=qP I o;have w5:x.n < 2 ^ x.d.toNat:=by
    have P:x.d.toNat=1\/x.d.toNat=2\/x.d.toNat=3\/x.d.toNat=4\/x.d.toNat=5\/x.d.toNat=6\/x.d.toNat=7\/x.d.toNat=8:=by omega
    have H:i64.wrap (1 * 2 ^ min x.d.toNat 64)=2 ^ x.d.toNat:=by rcases P with h | h | h | h | h | h | h | h <;> rw [h] <;> decide
    rw [H] at w4;exact w4
   exact⟨p,r,y,z,t,q,by omega,by omega,by omega,λ_=>⟨G,w1,w2,w3,w5,rfl⟩,by omega,by omega,by omega,by omega,by omega⟩
  ·
   have hl:(x.ks.length:Int)=1:=by have:=u (by rw [o];decide);rw [o] at this;exact this
   obtain⟨a,f⟩:=F hl;have ka:=B a (m a (by rw [f];simp)).1 (m a (by rw [f];simp)).2;have es:be x.op x.d (x.ks.map λk=>pre.getD k.toNat 0) [] 0=if aH (pre.getD a.toNat 0)=true then pre.getD a.toNat 0 else 0:=by rw [o,f];rfl
   rw [es] at g⊢;cases v:aH (pre.getD a.toNat 0) with
   | false=>rw [v] at g;exact absurd rfl g
   | true=>rw [if_pos rfl];exact⟨p,r,y,z,t,q,by omega,by omega,by omega,by omega,λ_=>⟨v,a,f,ka⟩,by omega,by omega,by omega,by omega⟩
  ·
   have hl:(x.ks.length:Int)=2:=by have:=u (by rw [o];decide);rw [o] at this;exact this
   obtain⟨a,b,f⟩:=D hl;have ka:=B a (m a (by rw [f];simp)).1 (m a (by rw [f];simp)).2;have kb:=B b (m b (by rw [f];simp)).1 (m b (by rw [f];simp)).2;have es:be x.op x.d (x.ks.map λk=>pre.getD k.toNat 0) [] 0=if pre.getD a.toNat 0=pre.getD b.toNat 0/\aH (pre.getD a.toNat 0)=true then pre.getD a.toNat 0 else 0:=by rw [o,f];rfl
   rw [es] at g⊢;by_cases e:pre.getD a.toNat 0=pre.getD b.toNat 0/\aH (pre.getD a.toNat 0)=true
   .rw [if_pos e];rw [<-e.1] at kb;exact⟨p,r,y,z,t,q,by omega,by omega,by omega,by omega,by omega,λ_ _=>⟨e.2,a,b,f,ka,kb⟩,by omega,by omega,by omega⟩
   .rw [if_neg e] at g;exact absurd rfl g
  ·
   have hl:(x.ks.length:Int)=2:=by have:=u (by rw [o];decide);rw [o] at this;exact this
   obtain⟨a,b,f⟩:=D hl;have ka:=B a (m a (by rw [f];simp)).1 (m a (by rw [f];simp)).2;have kb:=B b (m b (by rw [f];simp)).1 (m b (by rw [f];simp)).2;have es:be x.op x.d (x.ks.map λk=>pre.getD k.toNat 0) [] 0=if pre.getD a.toNat 0=pre.getD b.toNat 0/\aH (pre.getD a.toNat 0)=true then pre.getD a.toNat 0 else 0:=by rw [o,f];rfl
   rw [es] at g⊢;by_cases e:pre.getD a.toNat 0=pre.getD b.toNat 0/\aH (pre.getD a.toNat 0)=true
   .rw [if_pos e];rw [<-e.1] at kb;exact⟨p,r,y,z,t,q,by omega,by omega,by omega,by omega,by omega,λ_ _=>⟨e.2,a,b,f,ka,kb⟩,by omega,by omega,by omega⟩
   .rw [if_neg e] at g;exact absurd rfl g
  ·
   have hl:(x.ks.length:Int)=2:=by have:=u (by rw [o];decide);rw [o] at this;exact this
   obtain⟨a,b,f⟩:=D hl;have ka:=B a (m a (by rw [f];simp)).1 (m a (by rw [f];simp)).2;have kb:=B b (m b (by rw [f];simp)).1 (m b (by rw [f];simp)).2;have es:be x.op x.d (x.ks.map λk=>pre.getD k.toNat 0) [] 0=if pre.getD a.toNat 0=pre.getD b.toNat 0/\aH (pre.getD a.toNat 0)=true then pre.getD a.toNat 0 else 0:=by rw [o,f];rfl
   rw [es] at g⊢;by_cases e:pre.getD a.toNat 0=pre.getD b.toNat 0/\aH (pre.getD a.toNat 0)=true
   .rw [if_pos e];rw [<-e.1] at kb;exact⟨p,r,y,z,t,q,by omega,by omega,by omega,by omega,by omega,λ_ _=>⟨e.2,a,b,f,ka,kb⟩,by omega,by omega,by omega⟩
   .rw [if_neg e] at g;exact absurd rfl g
  ·
   have hl:(x.ks.length:Int)=2:=by have:=u (by rw [o];decide);rw [o] at this;exact this
   obtain⟨a,b,f⟩:=D hl;have ka:=B a (m a (by rw [f];simp)).1 (m a (by rw [f];simp)).2;have kb:=B b (m b (by rw [f];simp)).1 (m b (by rw [f];simp)).2;have es:be x.op x.d (x.ks.map λk=>pre.getD k.toNat 0) [] 0=if pre.getD a.toNat 0=pre.getD b.toNat 0/\aH (pre.getD a.toNat 0)=true then pre.getD a.toNat 0 else 0:=by rw [o,f];rfl
   rw [es] at g⊢;by_cases e:pre.getD a.toNat 0=pre.getD b.toNat 0/\aH (pre.getD a.toNat 0)=true
   .rw [if_pos e];rw [<-e.1] at kb;exact⟨p,r,y,z,t,q,by omega,by omega,by omega,by omega,by omega,λ_ _=>⟨e.2,a,b,f,ka,kb⟩,by omega,by omega,by omega⟩
   .rw [if_neg e] at g;exact absurd rfl g
  ·
   have hl:(x.ks.length:Int)=2:=by have:=u (by rw [o];decide);rw [o] at this;exact this
   obtain⟨a,b,f⟩:=D hl;have ka:=B a (m a (by rw [f];simp)).1 (m a (by rw [f];simp)).2;have kb:=B b (m b (by rw [f];simp)).1 (m b (by rw [f];simp)).2;have es:be x.op x.d (x.ks.map λk=>pre.getD k.toNat 0) [] 0=if pre.getD a.toNat 0=pre.getD b.toNat 0/\aH (pre.getD a.toNat 0)=true then pre.getD a.toNat 0 else 0:=by rw [o,f];rfl
   rw [es] at g⊢;by_cases e:pre.getD a.toNat 0=pre.getD b.toNat 0/\aH (pre.getD a.toNat 0)=true
   .rw [if_pos e];rw [<-e.1] at kb;exact⟨p,r,y,z,t,q,by omega,by omega,by omega,by omega,by omega,λ_ _=>⟨e.2,a,b,f,ka,kb⟩,by omega,by omega,by omega⟩
   .rw [if_neg e] at g;exact absurd rfl g
  ·
   have hl:(x.ks.length:Int)=2:=by have:=u (by rw [o];decide);rw [o] at this;exact this
   obtain⟨a,b,f⟩:=D hl;have ka:=B a (m a (by rw [f];simp)).1 (m a (by rw [f];simp)).2;have kb:=B b (m b (by rw [f];simp)).1 (m b (by rw [f];simp)).2;have es:be x.op x.d (x.ks.map λk=>pre.getD k.toNat 0) [] 0=if pre.getD a.toNat 0=pre.getD b.toNat 0/\aH (pre.getD a.toNat 0)=true then 1 else 0:=by rw [o,f];rfl
   rw [es] at g⊢;by_cases e:pre.getD a.toNat 0=pre.getD b.toNat 0/\aH (pre.getD a.toNat 0)=true
   .rw [if_pos e];rw [<-e.1] at kb;exact⟨p,r,y,z,t,q,by omega,by omega,by omega,by omega,by omega,by omega,λ_=>⟨rfl,a,b,_,e.2,f,ka,kb⟩,by omega,by omega⟩
   .rw [if_neg e] at g;exact absurd rfl g
  ·
   have hl:(x.ks.length:Int)=1:=by have:=u (by rw [o];decide);rw [o] at this;exact this
   obtain⟨a,f⟩:=F hl;have ka:=B a (m a (by rw [f];simp)).1 (m a (by rw [f];simp)).2;have es:be x.op x.d (x.ks.map λk=>pre.getD k.toNat 0) [] 0=if aH (pre.getD a.toNat 0)=true then pre.getD a.toNat 0 else 0:=by rw [o,f];rfl
   rw [es] at g⊢;cases v:aH (pre.getD a.toNat 0) with
   | false=>rw [v] at g;exact absurd rfl g
   | true=>
    rw [if_pos rfl];have w: 0<=x.n/\x.n<=8:=by unfold iH at I;rw [if_neg (by omega),if_neg (by omega),if_pos o] at I;simpa using I
    exact⟨p,r,y,z,t,q,by omega,by omega,by omega,by omega,λ_=>⟨v,a,f,ka⟩,by omega,by omega,λ_=>w,by omega⟩
  ·
   have hl:(x.ks.length:Int)=2:=by have:=u (by rw [o];decide);rw [o] at this;exact this
   have es:be x.op x.d (x.ks.map λk=>pre.getD k.toNat 0) [] 0=if(x.ks.map λk=>pre.getD k.toNat 0)= [5,4] then 4 else 0:=by rw [o];rfl
   rw [es] at g⊢;by_cases e:(x.ks.map λk=>pre.getD k.toNat 0)= [5,4]
   .rw [if_pos e];have C:=l (λs hs=>by
     rw [e] at hs;simp only [MN,N5,or_false] at hs;rcases hs with rfl | rfl <;> rfl)
    exact⟨p,r,y,z,t,q,by omega,by omega,by omega,by omega,by omega,by omega,by omega,by omega,λ_ _ _=>⟨λ_=>rfl,C⟩⟩
   .rw [if_neg e] at g;exact absurd rfl g
  ·
   have hl:(x.ks.length:Int)=3:=by have:=u (by rw [o];decide);rw [o] at this;exact this
   have es:be x.op x.d (x.ks.map λk=>pre.getD k.toNat 0) [] 0=if(x.ks.map λk=>pre.getD k.toNat 0)= [5,4,4] then 5 else 0:=by rw [o];rfl
   rw [es] at g⊢;by_cases e:(x.ks.map λk=>pre.getD k.toNat 0)= [5,4,4]
   .rw [if_pos e];have C:=l (λs hs=>by
     rw [e] at hs;simp only [MN,N5,or_false] at hs;rcases hs with rfl | rfl | rfl <;> rfl)
    exact⟨p,r,y,z,t,q,by omega,by omega,by omega,by omega,by omega,by omega,by omega,by omega,λ_ _ _=>⟨λ_=>rfl,C⟩⟩
   .rw [if_neg e] at g;exact absurd rfl g
theorem u6{a:As}{es:Bool}(h:(cY a).2.1=0):pV (kS a es (cY a).1)/\(∀d∈a.ds,d.ar.length<=8):=by
 unfold cY at h⊢;by_cases p: 30 < a.ds.length
 .rw [if_pos p] at h;exact absurd (show(2:Int)=0 from h) (by decide)
 rw [if_neg p] at h⊢;by_cases g:(fN [] 0 a.ds).1≠0
 .rw [if_pos g] at h;exact absurd h g
 rw [if_neg g] at h⊢;by_cases c3: 200 < a.ns.length
 .rw [if_pos c3] at h;exact absurd (show(2:Int)=0 from h) (by decide)
 rw [if_neg c3] at h⊢;have f:∀d∈a.ds,d.nm.size<=12/\d.ar.length<=8/\∀s∈d.ar,s=4:=λd e=>by obtain⟨j,y⟩:=Oy e;obtain⟨m,o,B,_⟩:=ER (yC (by simpa using g) j d y);exact⟨m,o,B⟩
 unfold iR at h⊢;by_cases l:(eX a.ds a.ns 0 []).2.1≠0
 .rw [if_pos l] at h;exact absurd h l
 rw [if_neg l] at h⊢;by_cases q: 200 < a.hs.length
 .rw [if_pos q] at h;exact absurd (show(2:Int)=0 from h) (by decide)
 rw [if_neg q] at h⊢;by_cases b:(eE (eX a.ds a.ns 0 []).1 a.hs 0).1≠0
 .rw [if_pos b] at h;exact absurd h b
 rw [if_neg b];obtain⟨t,u,v,w⟩:=Dm (ds:=a.ds) (r:=a.ns) (i:=0) (ss:= []) rfl (by simpa using l);rw [Oq] at u;rw [u] at b⊢;refine⟨⟨v,by show a.ns.length<=200;omega,by show a.ds.length<=30;omega,by show a.hs.length<=200;omega,λd e=>(f d e).1,λi x s A hs=> ?_,Bf (show(eE t a.hs 0).1=0 by simpa using b)⟩,λd e=>(f d e).2.1⟩;obtain⟨m,o⟩:=w i x A;rw [Nc,Oq] at m o;have C:i < t.length:=(My.1 hs).1;replace hs:t[i]? =some s:=hs;rw [o] at hs;simp only [Mt] at hs;subst hs;exact JA (c:=kS a es t) (x:=x) (i:=i) (pre:=t.take i) (by rw [Nv];omega) (λk z=>by show t[k]? =_;rw [List.getElem?_take_of_lt z]) f m
theorem LL{a:As}(h:(cY a).2.1=0):(cY a).2.2=0:=by
 unfold cY at h⊢;by_cases f: 30 < a.ds.length
 .rw [if_pos f] at h;exact absurd (show(2:Int)=0 from h) (by decide)
 rw [if_neg f] at h⊢;by_cases b:(fN [] 0 a.ds).1≠0
 .rw [if_pos b] at h;exact absurd h b
 rw [if_neg b] at h⊢;by_cases c3: 200 < a.ns.length
 .rw [if_pos c3] at h;exact absurd (show(2:Int)=0 from h) (by decide)
 rw [if_neg c3] at h⊢;unfold iR at h⊢;by_cases c:(eX a.ds a.ns 0 []).2.1≠0
 .rw [if_pos c] at h;exact absurd h c
 rw [if_neg c] at h⊢;by_cases g: 200 < a.hs.length
 .rw [if_pos g] at h;exact absurd (show(2:Int)=0 from h) (by decide)
 rw [if_neg g] at h⊢;by_cases e:(eE (eX a.ds a.ns 0 []).1 a.hs 0).1≠0
 .rw [if_pos e] at h;exact absurd h e
 rw [if_neg e]
def sD(a:As):List T:=if(cY a).2.1=0 then sE a (cY a).1.isEmpty (cY a).1 else [T.af true,T.af true,T.af true,ti (cY a).2.1,ti (cY a).2.2]
theorem Lw{a:As}(wf:pU a)(j:∀d∈a.ds,d.nm.size<=9223372036854775807):Or (.call 9) [AG a] []=some (sD a):=by
 obtain⟨x,c,f⟩:=CX (a:=a) j;unfold sD;by_cases h:(cY a).2.1=0
 .obtain⟨ok,e⟩:=u6 (es:=(cY a).1.isEmpty) h;have g:(cY a).2.2=0:=by
   exact LL h
  rw [if_pos h];replace c:Or (.call 15) [AG a] []=some [x,ti (cY a).2.1,ti (cY a).2.2]:=c;rw [h,g] at c;exact s9 wf ok (λd i=>by have:=e d i;omega) c f
 .have b:((cY a).2.1==0)=false:=by simpa using h
  rw [if_neg h];refine ah ?_;rw [e9];simp only [aP,aX,bQ,bn,f,aZ,c,b,MA]
end Go.Aev.Gen
