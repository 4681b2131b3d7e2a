import Derived.Test.YtcjplcpngagalaaGreatDoorBlastFormQ7
import Derived.Test.YtcjplcpngagalaaGreatDoorBlastFormQ11
set_option linter.all false
namespace Go.Aev.Gen
open Go Go.Aev Go.IntKind
def pB(s:Int):Bool:=s==1
def pN(s:Int):Bool:=s==2 || s==3
def pI(s:Int):Bool:=s==2
theorem LR(n:Int):Or (.call 97) [I n] []=some [tb (pB n)]:=by refine ah ?_;rw [Hy];rfl
theorem KH(n:Int):Or (.call 105) [I n,AV.t (T.ptr [T.cw 97])] []=some [tb (!pB n)]:=by have k:=LR n;refine ah ?_;rw [F2];simp only [aj,↓reduceIte,Int.reduceBEq,Int.reduceEq,k]
theorem JD{e:Bool}{l:List Int}(hl:l.length<=1000):∀(r:List Int) (i:Nat),l.drop i=r->
  ∃z:Int,Or ff [ad e l,AV.fn 105 [] [AV.t (T.ptr [T.cw 97])],I (l.length:Int),I (i:Int)] []=some [ti z]/\decide (z>=0)= !r.all pB:=by
 intro r;induction r with
 | nil=>
  intro i g;have a:¬(i:Int) < (l.length:Int):=by have:=bx g;omega
  refine⟨-1,ah ?_,by simp⟩;rw [vU];simp only [aj,↓reduceIte,Int.reduceBEq,Int.reduceEq,a]
 | cons d r h=>
  intro i g;obtain⟨c,o,f⟩:=bz g;have a:(i:Int) < (l.length:Int):=by omega
  have h0: 0<=(i:Int):=by omega
  have k:=KH d;cases b:pB d with
  | false=>rw [b] at k;refine⟨(i:Int),ah ?_,by simp [b]⟩;rw [vU];simp only [aj,↓reduceIte,Int.reduceBEq,Int.reduceEq,a,h0,and_self,aD,bC c,k,Nb]
  | true=>rw [b] at k;obtain⟨z,j,m⟩:=h (i+1) f;refine⟨z,ah ?_,by rw [m];simp [b]⟩;rw [vU];simp only [aj,↓reduceIte,Int.reduceBEq,Int.reduceEq,a,h0,and_self,aD,bC c,k,M8,next i (by omega)];exact j
theorem uz{e:Bool}{l:List Int}(hl:l.length<=1000):Or (.call 96) [ad e l,AV.fn 97 [] []] []=some [tb (l.all pB)]:=by
 obtain⟨z,c,f⟩:=JD (e:=e) hl l 0 rfl;have b:Or (.call 86) [ad e l,AV.fn 105 [] [AV.t (T.ptr [T.cw 97])]] []=some [ti z]:=by refine ah ?_;rw [Hl];simp only [aD];exact c
 have a:Or (.call 48) [ad e l,AV.fn 105 [] [AV.t (T.ptr [T.cw 97])]] []=some [tb (!l.all pB)]:=by refine ah ?_;rw [Gr];simp only [aj,↓reduceIte,Int.reduceBEq,Int.reduceEq,b,f]
 refine ah ?_;rw [Hv];simp only [aj,↓reduceIte,Int.reduceBEq,Int.reduceEq,a,Bool.not_not]
theorem DX(n:Int):Or (.call 98) [I n] []=some [tb (pN n)]:=by refine ah ?_;rw [Hz];unfold pN;cases h:n==2 <;> simp
theorem KI(n:Int):Or (.call 105) [I n,AV.t (T.ptr [T.cw 98])] []=some [tb (!pN n)]:=by have k:=DX n;refine ah ?_;rw [F3];simp only [aj,↓reduceIte,Int.reduceBEq,Int.reduceEq,k]
theorem JE{e:Bool}{l:List Int}(hl:l.length<=1000):∀(r:List Int) (i:Nat),l.drop i=r->
  ∃z:Int,Or ff [ad e l,AV.fn 105 [] [AV.t (T.ptr [T.cw 98])],I (l.length:Int),I (i:Int)] []=some [ti z]/\decide (z>=0)= !r.all pN:=by
 intro r;induction r with
 | nil=>
  intro i g;have a:¬(i:Int) < (l.length:Int):=by have:=bx g;omega
  refine⟨-1,ah ?_,by simp⟩;rw [vV];simp only [aj,↓reduceIte,Int.reduceBEq,Int.reduceEq,a]
 | cons d r h=>
  intro i g;obtain⟨c,o,f⟩:=bz g;have a:(i:Int) < (l.length:Int):=by omega
  have h0: 0<=(i:Int):=by omega
  have k:=KI d;cases b:pN d with
  | false=>rw [b] at k;refine⟨(i:Int),ah ?_,by simp [b]⟩;rw [vV];simp only [aj,↓reduceIte,Int.reduceBEq,Int.reduceEq,a,h0,and_self,aD,bC c,k,Nb]
  | true=>rw [b] at k;obtain⟨z,j,m⟩:=h (i+1) f;refine⟨z,ah ?_,by rw [m];simp [b]⟩;rw [vV];simp only [aj,↓reduceIte,Int.reduceBEq,Int.reduceEq,a,h0,and_self,aD,bC c,k,M8,next i (by omega)];exact j
theorem uA{e:Bool}{l:List Int}(hl:l.length<=1000):Or (.call 96) [ad e l,AV.fn 98 [] []] []=some [tb (l.all pN)]:=by
 obtain⟨z,c,f⟩:=JE (e:=e) hl l 0 rfl;have b:Or (.call 86) [ad e l,AV.fn 105 [] [AV.t (T.ptr [T.cw 98])]] []=some [ti z]:=by refine ah ?_;rw [Hm];simp only [aD];exact c
 have a:Or (.call 48) [ad e l,AV.fn 105 [] [AV.t (T.ptr [T.cw 98])]] []=some [tb (!l.all pN)]:=by refine ah ?_;rw [Gt];simp only [aj,↓reduceIte,Int.reduceBEq,Int.reduceEq,b,f]
 refine ah ?_;rw [Hw];simp only [aj,↓reduceIte,Int.reduceBEq,Int.reduceEq,a,Bool.not_not]
theorem KE(n:Int):Or (.call 100) [I n] []=some [tb (pI n)]:=by refine ah ?_;rw [F0];rfl
theorem KG(n:Int):Or (.call 105) [I n,AV.t (T.ptr [T.cw 100])] []=some [tb (!pI n)]:=by have k:=KE n;refine ah ?_;rw [F4];simp only [aj,↓reduceIte,Int.reduceBEq,Int.reduceEq,k]
theorem JC{e:Bool}{l:List Int}(hl:l.length<=1000):∀(r:List Int) (i:Nat),l.drop i=r->
  ∃z:Int,Or ff [ad e l,AV.fn 105 [] [AV.t (T.ptr [T.cw 100])],I (l.length:Int),I (i:Int)] []=some [ti z]/\decide (z>=0)= !r.all pI:=by
 intro r;induction r with
 | nil=>
  intro i g;have a:¬(i:Int) < (l.length:Int):=by have:=bx g;omega
  refine⟨-1,ah ?_,by simp⟩;rw [vT];simp only [aj,↓reduceIte,Int.reduceBEq,Int.reduceEq,a]
 | cons d r h=>
  intro i g;obtain⟨c,o,f⟩:=bz g;have a:(i:Int) < (l.length:Int):=by omega
  have h0: 0<=(i:Int):=by omega
  have k:=KG d;cases b:pI d with
  | false=>rw [b] at k;refine⟨(i:Int),ah ?_,by simp [b]⟩;rw [vT];simp only [aj,↓reduceIte,Int.reduceBEq,Int.reduceEq,a,h0,and_self,aD,bC c,k,Nb]
  | true=>rw [b] at k;obtain⟨z,j,m⟩:=h (i+1) f;refine⟨z,ah ?_,by rw [m];simp [b]⟩;rw [vT];simp only [aj,↓reduceIte,Int.reduceBEq,Int.reduceEq,a,h0,and_self,aD,bC c,k,M8,next i (by omega)];exact j
theorem LQ{e:Bool}{l:List Int}(hl:l.length<=1000):Or (.call 96) [ad e l,AV.fn 100 [] []] []=some [tb (l.all pI)]:=by
 obtain⟨z,c,f⟩:=JC (e:=e) hl l 0 rfl;have b:Or (.call 86) [ad e l,AV.fn 105 [] [AV.t (T.ptr [T.cw 100])]] []=some [ti z]:=by refine ah ?_;rw [Hk];simp only [aD];exact c
 have a:Or (.call 48) [ad e l,AV.fn 105 [] [AV.t (T.ptr [T.cw 100])]] []=some [tb (!l.all pI)]:=by refine ah ?_;rw [Gq];simp only [aj,↓reduceIte,Int.reduceBEq,Int.reduceEq,b,f]
 refine ah ?_;rw [Hx];simp only [aj,↓reduceIte,Int.reduceBEq,Int.reduceEq,a,Bool.not_not]
theorem Jo{e e':Bool}{a b:List Int}(v:a.length=b.length)(hl:a.length<=1000):∀(g c:List Int) (i:Nat),a.drop i=g->b.drop i=c->Or sf [ad e a,ad e' b,I (a.length:Int),I (i:Int)] []=some [tb (decide (g=c))]:=by
 intro g;induction g with
 | nil=>
  intro c i l h;have j:¬(i:Int) < (a.length:Int):=by have:=bx l;omega
  have:c= []:=by rw [<-h];exact OW (by omega)
  subst this;refine ah ?_;rw [vL];simp only [aj,↓reduceIte,Int.reduceBEq,Int.reduceEq,j,decide_true]
 | cons x g u=>
  intro c i l h;obtain⟨m,w,r⟩:=bz l;cases c with
  | nil=>exact absurd (bx h) (by omega)
  | cons y c=>
   obtain⟨o,z,s⟩:=bz h;have j:(i:Int) < (a.length:Int):=by omega
   have p:(i:Int) < (b.length:Int):=by omega
   have h0: 0<=(i:Int):=by omega
   by_cases f:x=y
   .have t:=u c (i+1) r s;have k:decide (x::g=y::c)=decide (g=c):=by simp [f]
    rw [k];refine ah ?_;rw [vL];simp only [aj,↓reduceIte,Int.reduceBEq,Int.reduceEq,j,p,h0,and_self,aD,bC m,bC o,f,M8,next i (by omega)];exact t
   .have k:decide (x::g=y::c)=false:=by simp [f]
    have q:(x==y)=false:=by simpa using f
    rw [k];refine ah ?_;rw [vL];simp only [aj,↓reduceIte,Int.reduceBEq,Int.reduceEq,j,p,h0,and_self,aD,bC m,bC o,q,f,Nb]
theorem K9{e e':Bool}{a b:List Int}(hl:a.length<=1000):Or (.call 52) [ad e a,ad e' b] []=some [tb (decide (a=b))]:=by
 by_cases c:a.length=b.length
 .have i:=Jo (e:=e) (e':=e') c hl a b 0 rfl rfl;have h:(a.length:Int)= (b.length:Int):=by omega
  refine ah ?_;rw [Ah];simp only [aj,↓reduceIte,Int.reduceBEq,Int.reduceEq,aD,h,M8];rw [<-h];exact i
 .have h:¬(a.length:Int)= (b.length:Int):=by omega
  have g:((a.length:Int)== (b.length:Int))=false:=by simpa using h
  have f:decide (a=b)=false:=by rw [decide_eq_false_iff_not];rintro rfl;exact c rfl
  rw [f];refine ah ?_;rw [Ah];simp only [aj,↓reduceIte,Int.reduceBEq,Int.reduceEq,aD,g,h,Nb]
theorem xZ{e e':Bool}{l da:List Int}(hl:l.length<=1000):Or (.call 95) [ad e da,AV.t (T.ptr [T.ad 1 e' (enc l)])] []=some [tb (decide (l=da))]:=by have k:=K9 (e:=e') (e':=e) (b:=da) hl;refine ah ?_;rw [Hu];simp only [aj,↓reduceIte,Int.reduceBEq,Int.reduceEq,k]
theorem lQ(b:Bool):Or (.call 99) [B b] []=some [ti (if b then 2 else 3)]:=by refine ah ?_;rw [HA];cases b <;> rfl
def aY(op d:Int)(l da:List Int)(so:Int):Int:=
 if op=1\/op=2 then 1
 else if op=3\/op=4\/op=5\/op=6 then(if l.all pB then 1 else 0)
 else if op=7 then(if l.getD 0 0=1/\l.getD 1 0=l.getD 2 0/\l.getD 1 0≠5 then l.getD 1 0 else 0)
 else if op=8 then(if l.all pN=true\/(l.getD 0 0=l.getD 1 0/\(l.getD 0 0=4\/aF (l.getD 0 0)=true)) then 1 else 0)
 else if op=9 then(if l=da then so else 0)
 else if op=10 then(if d=1 then 2 else 3)
 else if op=11 then(if l.all pN then(if l.all pI then 2 else 3) else 0)
 else if op=12 then(if pN (l.getD 0 0) then(if l.getD 0 0=2/\d=1 then 2 else 3) else 0)
 else if op=13\/op=14 then(if l.all pN then 1 else 0)
 else if op=15 then 10+d
 else if op=16\/op=23 then(if aF (l.getD 0 0) then l.getD 0 0 else 0)
 else if op=22 then(if l.getD 0 0=l.getD 1 0/\aF (l.getD 0 0)=true then 1 else 0)
 else if op=24 then(if l= [5,4] then 4 else 0)
 else if op=25 then(if l= [5,4,4] then 5 else 0)
 else(if l.getD 0 0=l.getD 1 0/\aF (l.getD 0 0)=true then l.getD 0 0 else 0)
abbrev SA(op:Int)(ek:Bool)(ks:List (List T))(n d:Int)(nm:ByteArray)(es:Bool)(l:List Int)(dn:ByteArray)(ea:Bool)(da:List Int)(so:Int):List AV:=
 [AV.agg [I op,AV.t (T.ad 1 ek ks),I n,I d,AV.t (T.str nm)],ad es l,AV.agg [AV.t (T.str dn),ad ea da,I so]]
section
variable {ek:Bool} {ks:List (List T)} {n d:Int} {nm:ByteArray} {es:Bool} {dn:ByteArray} {ea:Bool} {da:List Int} {so:Int}
theorem bN:(0:Int)<=0/\(0:Int) < 2:=by decide
theorem bP:(0:Int)<=1/\(1:Int) < 2:=by decide
theorem bM:(0:Int)<=0/\(0:Int) < 1:=by decide
theorem bO:(0:Int)<=0/\(0:Int) < 3:=by decide
theorem bQ:(0:Int)<=1/\(1:Int) < 3:=by decide
theorem bq:(0:Int)<=2/\(2:Int) < 3:=by decide
theorem L0:((([]:List Int).length:Nat):Int)=0:=rfl
theorem L1(a:Int):((([a]:List Int).length:Nat):Int)=1:=rfl
theorem L2(a b:Int):((([a,b]:List Int).length:Nat):Int)=2:=rfl
theorem L3(a b c:Int):((([a,b,c]:List Int).length:Nat):Int)=3:=rfl
theorem E1(a:Int):(enc [a])[0]? =some [ti a]:=rfl
theorem bH(a b:Int):(enc [a,b])[0]? =some [ti a]:=rfl
theorem bI(a b:Int):(enc [a,b])[1]? =some [ti b]:=rfl
theorem bJ(a b c:Int):(enc [a,b,c])[0]? =some [ti a]:=rfl
theorem bK(a b c:Int):(enc [a,b,c])[1]? =some [ti b]:=rfl
theorem bL(a b c:Int):(enc [a,b,c])[2]? =some [ti c]:=rfl
theorem Ln:Or (.call 84) (SA 1 ek ks n d nm es [] dn ea da so) []=some [ti (aY 1 d [] da so)]:=by refine ah ?_;rw [G3];simp only [bo,aj,↓reduceIte,Int.reduceBEq,Int.reduceEq,aD,L0,L1,L2,L3,E1,bH,bI,bJ,bK,bL,bN,bP,bM,bO,bQ,bq,and_self];rfl
theorem Ly:Or (.call 84) (SA 2 ek ks n d nm es [] dn ea da so) []=some [ti (aY 2 d [] da so)]:=by refine ah ?_;rw [Hb];simp only [bo,aj,↓reduceIte,Int.reduceBEq,Int.reduceEq,aD,L0,L1,L2,L3,E1,bH,bI,bJ,bK,bL,bN,bP,bM,bO,bQ,bq,and_self];rfl
theorem LG{l:List Int}(hl:l.length<=1000):Or (.call 84) (SA 3 ek ks n d nm es l dn ea da so) []=some [ti (aY 3 d l da so)]:=by
 have k:=uz (e:=es) hl;unfold aY;by_cases f:l.length=2
 .obtain⟨a,b,rfl⟩:∃a b,l= [a,b]:=by
   match l,f with
   | [a,b],_=>exact⟨a,b,rfl⟩
  cases c:List.all [a,b] pB <;> rw [c] at k <;>
  .refine ah ?_;rw [AI];simp only [bo,aj,↓reduceIte,Int.reduceBEq,Int.reduceEq,aD,L0,L1,L2,L3,E1,bH,bI,bJ,bK,bL,bN,bP,bM,bO,bQ,bq,and_self,k,M8,Nb];rfl
 .have g:((l.length:Int)==2)=false:=by simp;omega
  have h:¬(l.length:Int)=2:=by omega
  cases c:l.all pB <;> rw [c] at k <;>
  .refine ah ?_;rw [AI];simp only [bo,aj,↓reduceIte,Int.reduceBEq,Int.reduceEq,aD,L0,L1,L2,L3,E1,bH,bI,bJ,bK,bL,bN,bP,bM,bO,bQ,bq,and_self,g,h,k,M8,Nb];rfl
theorem LH{l:List Int}(hl:l.length<=1000):Or (.call 84) (SA 4 ek ks n d nm es l dn ea da so) []=some [ti (aY 4 d l da so)]:=by
 have k:=uz (e:=es) hl;unfold aY;by_cases f:l.length=2
 .obtain⟨a,b,rfl⟩:∃a b,l= [a,b]:=by
   match l,f with
   | [a,b],_=>exact⟨a,b,rfl⟩
  cases c:List.all [a,b] pB <;> rw [c] at k <;>
  .refine ah ?_;rw [AJ];simp only [bo,aj,↓reduceIte,Int.reduceBEq,Int.reduceEq,aD,L0,L1,L2,L3,E1,bH,bI,bJ,bK,bL,bN,bP,bM,bO,bQ,bq,and_self,k,M8,Nb];rfl
 .have g:((l.length:Int)==2)=false:=by simp;omega
  have h:¬(l.length:Int)=2:=by omega
  cases c:l.all pB <;> rw [c] at k <;>
  .refine ah ?_;rw [AJ];simp only [bo,aj,↓reduceIte,Int.reduceBEq,Int.reduceEq,aD,L0,L1,L2,L3,E1,bH,bI,bJ,bK,bL,bN,bP,bM,bO,bQ,bq,and_self,g,h,k,M8,Nb];rfl
theorem LI{l:List Int}(hl:l.length<=1000):Or (.call 84) (SA 5 ek ks n d nm es l dn ea da so) []=some [ti (aY 5 d l da so)]:=by
 have k:=uz (e:=es) hl;unfold aY;by_cases f:l.length=2
 .obtain⟨a,b,rfl⟩:∃a b,l= [a,b]:=by
   match l,f with
   | [a,b],_=>exact⟨a,b,rfl⟩
  cases c:List.all [a,b] pB <;> rw [c] at k <;>
  .refine ah ?_;rw [AK];simp only [bo,aj,↓reduceIte,Int.reduceBEq,Int.reduceEq,aD,L0,L1,L2,L3,E1,bH,bI,bJ,bK,bL,bN,bP,bM,bO,bQ,bq,and_self,k,M8,Nb];rfl
 .have g:((l.length:Int)==2)=false:=by simp;omega
  have h:¬(l.length:Int)=2:=by omega
  cases c:l.all pB <;> rw [c] at k <;>
  .refine ah ?_;rw [AK];simp only [bo,aj,↓reduceIte,Int.reduceBEq,Int.reduceEq,aD,L0,L1,L2,L3,E1,bH,bI,bJ,bK,bL,bN,bP,bM,bO,bQ,bq,and_self,g,h,k,M8,Nb];rfl
theorem LJ{l:List Int}(hl:l.length<=1000):Or (.call 84) (SA 6 ek ks n d nm es l dn ea da so) []=some [ti (aY 6 d l da so)]:=by
 have k:=uz (e:=es) hl;unfold aY;by_cases f:l.length=2
 .obtain⟨a,b,rfl⟩:∃a b,l= [a,b]:=by
   match l,f with
   | [a,b],_=>exact⟨a,b,rfl⟩
  cases c:List.all [a,b] pB <;> rw [c] at k <;>
  .refine ah ?_;rw [AL];simp only [bo,aj,↓reduceIte,Int.reduceBEq,Int.reduceEq,aD,L0,L1,L2,L3,E1,bH,bI,bJ,bK,bL,bN,bP,bM,bO,bQ,bq,and_self,k,M8,Nb];rfl
 .have g:((l.length:Int)==2)=false:=by simp;omega
  have h:¬(l.length:Int)=2:=by omega
  cases c:l.all pB <;> rw [c] at k <;>
  .refine ah ?_;rw [AL];simp only [bo,aj,↓reduceIte,Int.reduceBEq,Int.reduceEq,aD,L0,L1,L2,L3,E1,bH,bI,bJ,bK,bL,bN,bP,bM,bO,bQ,bq,and_self,g,h,k,M8,Nb];rfl
theorem Lr{l:List Int}(hl:l.length<=1000):Or (.call 84) (SA 13 ek ks n d nm es l dn ea da so) []=some [ti (aY 13 d l da so)]:=by
 have k:=uA (e:=es) hl;unfold aY;by_cases f:l.length=2
 .obtain⟨a,b,rfl⟩:∃a b,l= [a,b]:=by
   match l,f with
   | [a,b],_=>exact⟨a,b,rfl⟩
  cases c:List.all [a,b] pN <;> rw [c] at k <;>
  .refine ah ?_;rw [AD];simp only [bo,aj,↓reduceIte,Int.reduceBEq,Int.reduceEq,aD,L0,L1,L2,L3,E1,bH,bI,bJ,bK,bL,bN,bP,bM,bO,bQ,bq,and_self,k,M8,Nb];rfl
 .have g:((l.length:Int)==2)=false:=by simp;omega
  have h:¬(l.length:Int)=2:=by omega
  cases c:l.all pN <;> rw [c] at k <;>
  .refine ah ?_;rw [AD];simp only [bo,aj,↓reduceIte,Int.reduceBEq,Int.reduceEq,aD,L0,L1,L2,L3,E1,bH,bI,bJ,bK,bL,bN,bP,bM,bO,bQ,bq,and_self,g,h,k,M8,Nb];rfl
theorem Ls{l:List Int}(hl:l.length<=1000):Or (.call 84) (SA 14 ek ks n d nm es l dn ea da so) []=some [ti (aY 14 d l da so)]:=by
 have k:=uA (e:=es) hl;unfold aY;by_cases f:l.length=2
 .obtain⟨a,b,rfl⟩:∃a b,l= [a,b]:=by
   match l,f with
   | [a,b],_=>exact⟨a,b,rfl⟩
  cases c:List.all [a,b] pN <;> rw [c] at k <;>
  .refine ah ?_;rw [AE];simp only [bo,aj,↓reduceIte,Int.reduceBEq,Int.reduceEq,aD,L0,L1,L2,L3,E1,bH,bI,bJ,bK,bL,bN,bP,bM,bO,bQ,bq,and_self,k,M8,Nb];rfl
 .have g:((l.length:Int)==2)=false:=by simp;omega
  have h:¬(l.length:Int)=2:=by omega
  cases c:l.all pN <;> rw [c] at k <;>
  .refine ah ?_;rw [AE];simp only [bo,aj,↓reduceIte,Int.reduceBEq,Int.reduceEq,aD,L0,L1,L2,L3,E1,bH,bI,bJ,bK,bL,bN,bP,bM,bO,bQ,bq,and_self,g,h,k,M8,Nb];rfl
theorem Lp{l:List Int}(hl:l.length<=1000):Or (.call 84) (SA 11 ek ks n d nm es l dn ea da so) []=some [ti (aY 11 d l da so)]:=by
 have k:=uA (e:=es) hl;have f:=LQ (e:=es) hl;have g:=lQ (l.all pI);unfold aY;by_cases h:l.length=2
 .obtain⟨a,b,rfl⟩:∃a b,l= [a,b]:=by
   match l,h with
   | [a,b],_=>exact⟨a,b,rfl⟩
  cases c:List.all [a,b] pN <;> rw [c] at k <;>
  .refine ah ?_;rw [AB];simp only [bo,aj,↓reduceIte,Int.reduceBEq,Int.reduceEq,aD,L0,L1,L2,L3,E1,bH,bI,bJ,bK,bL,bN,bP,bM,bO,bQ,bq,and_self,k,f,g,M8,Nb];rfl
 .have i:((l.length:Int)==2)=false:=by simp;omega
  have j:¬(l.length:Int)=2:=by omega
  cases c:l.all pN <;> rw [c] at k <;>
  .refine ah ?_;rw [AB];simp only [bo,aj,↓reduceIte,Int.reduceBEq,Int.reduceEq,aD,L0,L1,L2,L3,E1,bH,bI,bJ,bK,bL,bN,bP,bM,bO,bQ,bq,and_self,i,j,k,f,g,M8,Nb];rfl
theorem LK{a b c:Int}:Or (.call 84) (SA 7 ek ks n d nm es [a,b,c] dn ea da so) []=some [ti (aY 7 d [a,b,c] da so)]:=by
 have e:aY 7 d [a,b,c] da so=if a=1/\b=c/\b≠5 then b else 0:=rfl;rw [e];refine ah ?_;rw [Hg];by_cases g:a=1
 .have k:(a==1)=true:=by simpa using g
  by_cases i:b=c
  .have l:(b==c)=true:=by simpa using i
   by_cases j:b=5
   .have f:(b==5)=true:=by simpa using j
    refine PL (b:=some [ti 0]) ?_ (by rw [if_neg (λh=>h.2.2 j)]);simp only [bo,bu,bA,cC,eN,bG,dP,bt,bB,iz,iy,ig,fh,fY,↓reduceIte,Int.reduceBEq,M8,Nb,aD,L0,L1,L2,L3,E1,bH,bI,bJ,bK,bL,bN,bP,bM,bO,bQ,bq,and_self,k,l,f]
   .have f:(b==5)=false:=by simpa using j
    refine PL (b:=some [ti b]) ?_ (by rw [if_pos ⟨g,i,j⟩]);simp only [bo,bu,bA,cC,eN,bG,dP,bt,bB,iz,iy,ig,fh,fY,↓reduceIte,Int.reduceBEq,M8,Nb,aD,L0,L1,L2,L3,E1,bH,bI,bJ,bK,bL,bN,bP,bM,bO,bQ,bq,and_self,k,l,f]
  .have f:(b==c)=false:=by simpa using i
   refine PL (b:=some [ti 0]) ?_ (by rw [if_neg (λh=>i h.2.1)]);simp only [bo,bu,bA,cC,eN,bG,dP,bt,bB,iz,iy,ig,fh,fY,↓reduceIte,Int.reduceBEq,M8,Nb,aD,L0,L1,L2,L3,E1,bH,bI,bJ,bK,bL,bN,bP,bM,bO,bQ,bq,and_self,k,f]
 .have f:(a==1)=false:=by simpa using g
  refine PL (b:=some [ti 0]) ?_ (by rw [if_neg (λh=>g h.1)]);simp only [bo,bu,bA,cC,eN,bG,dP,bt,bB,iz,iy,ig,fh,fY,↓reduceIte,Int.reduceBEq,M8,Nb,aD,L0,L1,L2,L3,E1,bH,bI,bJ,bK,bL,bN,bP,bM,bO,bQ,bq,and_self,f]
theorem LL{a b:Int}:Or (.call 84) (SA 8 ek ks n d nm es [a,b] dn ea da so) []=some [ti (aY 8 d [a,b] da so)]:=by
 have k:=uA (e:=es) (l:= [a,b]) (by simp);have f:=gX a;have e:aY 8 d [a,b] da so=if List.all [a,b] pN=true\/(a=b/\(a=4\/aF a=true)) then 1 else 0:=rfl;rw [e];refine ah ?_;rw [Hh];cases m:List.all [a,b] pN with
 | true=>rw [m] at k;simp only [bo,aj,↓reduceIte,Int.reduceBEq,Int.reduceEq,aD,L0,L1,L2,L3,E1,bH,bI,bJ,bK,bL,bN,bP,bM,bO,bQ,bq,and_self,k,M8,true_or,Nb]
 | false=>
  rw [m] at k;by_cases c:a=b
  .have g:(a==b)=true:=by simpa using c
   by_cases i:a=4
   .have j:(a==4)=true:=by simpa using i
    refine PL (b:=some [ti 1]) ?_ (by rw [if_pos (.inr ⟨c, .inl i⟩)]);simp only [bo,bu,bA,cC,eN,bG,dP,bt,bB,iz,iy,ig,fh,fY,↓reduceIte,Int.reduceBEq,M8,Nb,aD,L0,L1,L2,L3,E1,bH,bI,bJ,bK,bL,bN,bP,bM,bO,bQ,bq,and_self,k,g,j]
   .have j:(a==4)=false:=by simpa using i
    cases o:aF a <;> rw [o] at f
    .refine PL (b:=some [ti 0]) ?_ (by rw [if_neg (by rintro(h | ⟨_,h | h⟩);cases h;exact i h;cases h)]);simp only [bo,bu,bA,cC,eN,bG,dP,bt,bB,iz,iy,ig,fh,fY,↓reduceIte,Int.reduceBEq,M8,Nb,aD,L0,L1,L2,L3,E1,bH,bI,bJ,bK,bL,bN,bP,bM,bO,bQ,bq,and_self,k,g,j,f]
    .refine PL (b:=some [ti 1]) ?_ (by rw [if_pos (.inr ⟨c, .inr rfl⟩)]);simp only [bo,bu,bA,cC,eN,bG,dP,bt,bB,iz,iy,ig,fh,fY,↓reduceIte,Int.reduceBEq,M8,Nb,aD,L0,L1,L2,L3,E1,bH,bI,bJ,bK,bL,bN,bP,bM,bO,bQ,bq,and_self,k,g,j,f]
  .have g:(a==b)=false:=by simpa using c
   refine PL (b:=some [ti 0]) ?_ (by rw [if_neg (by rintro(h | ⟨h,_⟩);cases h;exact c h)]);simp only [bo,bu,bA,cC,eN,bG,dP,bt,bB,iz,iy,ig,fh,fY,↓reduceIte,Int.reduceBEq,M8,Nb,aD,L0,L1,L2,L3,E1,bH,bI,bJ,bK,bL,bN,bP,bM,bO,bQ,bq,and_self,k,g]
theorem LM{l:List Int}(hl:l.length<=1000):Or (.call 84) (SA 9 ek ks n d nm es l dn ea da so) []=some [ti (aY 9 d l da so)]:=by
 have k:=xZ (e:=ea) (e':=es) (da:=da) hl;have e:aY 9 d l da so=if l=da then so else 0:=rfl;rw [e];by_cases h:l.length=2
 .obtain⟨a,b,rfl⟩:∃a b,l= [a,b]:=by
   match l,h with
   | [a,b],_=>exact⟨a,b,rfl⟩
  by_cases c: [a,b]=da
  .rw [decide_eq_true c] at k;rw [if_pos c];refine ah ?_;rw [sV];simp only [bo,aj,↓reduceIte,Int.reduceBEq,Int.reduceEq,aD,L0,L1,L2,L3,E1,bH,bI,bJ,bK,bL,bN,bP,bM,bO,bQ,bq,and_self,k,M8]
  .rw [decide_eq_false c] at k;rw [if_neg c];refine ah ?_;rw [sV];simp only [bo,aj,↓reduceIte,Int.reduceBEq,Int.reduceEq,aD,L0,L1,L2,L3,E1,bH,bI,bJ,bK,bL,bN,bP,bM,bO,bQ,bq,and_self,k,Nb]
 .have f:((l.length:Int)==2)=false:=by simp;omega
  have g:¬(l.length:Int)=2:=by omega
  by_cases c:l=da
  .rw [decide_eq_true c] at k;rw [if_pos c];refine ah ?_;rw [sV];simp only [bo,aj,↓reduceIte,Int.reduceBEq,Int.reduceEq,aD,L0,L1,L2,L3,E1,bH,bI,bJ,bK,bL,bN,bP,bM,bO,bQ,bq,and_self,f,g,k,M8]
  .rw [decide_eq_false c] at k;rw [if_neg c];refine ah ?_;rw [sV];simp only [bo,aj,↓reduceIte,Int.reduceBEq,Int.reduceEq,aD,L0,L1,L2,L3,E1,bH,bI,bJ,bK,bL,bN,bP,bM,bO,bQ,bq,and_self,f,g,k,Nb]
theorem Lo:Or (.call 84) (SA 10 ek ks n d nm es [] dn ea da so) []=some [ti (aY 10 d [] da so)]:=by have e:aY 10 d [] da so=if d=1 then 2 else 3:=rfl;have k:=lQ (d==1);rw [e];refine ah ?_;rw [G4];simp only [bo,aj,↓reduceIte,Int.reduceBEq,Int.reduceEq,aD,L0,L1,L2,L3,E1,bH,bI,bJ,bK,bL,bN,bP,bM,bO,bQ,bq,and_self,k];by_cases h:d=1 <;> simp [h]
theorem Lq{a:Int}:Or (.call 84) (SA 12 ek ks n d nm es [a] dn ea da so) []=some [ti (aY 12 d [a] da so)]:=by
 have e:aY 12 d [a] da so=if pN a then(if a=2/\d=1 then 2 else 3) else 0:=rfl;have k:=DX a;have b:=lQ (bif a==2 then d==1 else false);rw [e];refine ah ?_;rw [G5];cases j:pN a <;> rw [j] at k
 .cases i:(bif a==2 then d==1 else false) <;> rw [i] at b <;> simp only [bo,bu,bA,cC,eN,bG,dP,bt,bB,iz,iy,ig,fh,fY,↓reduceIte,Int.reduceBEq,M8,Nb,aD,L0,L1,L2,L3,E1,bH,bI,bJ,bK,bL,bN,bP,bM,bO,bQ,bq,and_self,k,b,i] <;> rfl
 .by_cases f:a=2
  .have c:(a==2)=true:=by simpa using f
   rw [c] at b;by_cases g:d=1
   .have x2:(d==1)=true:=by simpa using g
    rw [x2] at b;rw [show(if(true:Bool)=true then(if a=2/\d=1 then(2:Int) else 3) else 0)=2 from by rw [if_pos rfl,if_pos ⟨f,g⟩]];simp only [bo,bu,bA,cC,eN,bG,dP,bt,bB,iz,iy,ig,fh,fY,↓reduceIte,Int.reduceBEq,M8,Nb,aD,L0,L1,L2,L3,E1,bH,bI,bJ,bK,bL,bN,bP,bM,bO,bQ,bq,and_self,k,lQ true,lQ false,c,x2]
    try rfl
   .have x2:(d==1)=false:=by simpa using g
    rw [x2] at b;rw [show(if(true:Bool)=true then(if a=2/\d=1 then(2:Int) else 3) else 0)=3 from by rw [if_pos rfl,if_neg (λh=>g h.2)]];simp only [bo,bu,bA,cC,eN,bG,dP,bt,bB,iz,iy,ig,fh,fY,↓reduceIte,Int.reduceBEq,M8,Nb,aD,L0,L1,L2,L3,E1,bH,bI,bJ,bK,bL,bN,bP,bM,bO,bQ,bq,and_self,k,lQ true,lQ false,c,x2]
    try rfl
  .have c:(a==2)=false:=by simpa using f
   rw [c] at b;rw [show(if(true:Bool)=true then(if a=2/\d=1 then(2:Int) else 3) else 0)=3 from by rw [if_pos rfl,if_neg (λh=>f h.1)]];simp only [bo,bu,bA,cC,eN,bG,dP,bt,bB,iz,iy,ig,fh,fY,↓reduceIte,Int.reduceBEq,M8,Nb,aD,L0,L1,L2,L3,E1,bH,bI,bJ,bK,bL,bN,bP,bM,bO,bQ,bq,and_self,k,lQ true,lQ false,c]
   try rfl
theorem Lt(a: 0<=d/\d<=1000):Or (.call 84) (SA 15 ek ks n d nm es [] dn ea da so) []=some [ti (aY 15 d [] da so)]:=by have e:aY 15 d [] da so=10+d:=rfl;have w:i64.wrap (10+d)=10+d:=wr (by omega);rw [e];refine ah ?_;rw [G6];simp only [bo,aj,↓reduceIte,Int.reduceBEq,Int.reduceEq,aD,L0,L1,L2,L3,E1,bH,bI,bJ,bK,bL,bN,bP,bM,bO,bQ,bq,and_self,w]
theorem Lu{a:Int}:Or (.call 84) (SA 16 ek ks n d nm es [a] dn ea da so) []=some [ti (aY 16 d [a] da so)]:=by have e:aY 16 d [a] da so=if aF a then a else 0:=rfl;have k:=gX a;rw [e];refine ah ?_;rw [G7];cases b:aF a <;> rw [b] at k <;> simp only [bo,aj,↓reduceIte,Int.reduceBEq,Int.reduceEq,aD,L0,L1,L2,L3,E1,bH,bI,bJ,bK,bL,bN,bP,bM,bO,bQ,bq,and_self,k,M8,Nb] <;> rfl
theorem LC{a:Int}:Or (.call 84) (SA 23 ek ks n d nm es [a] dn ea da so) []=some [ti (aY 23 d [a] da so)]:=by have e:aY 23 d [a] da so=if aF a then a else 0:=rfl;have k:=gX a;rw [e];refine ah ?_;rw [Hf];cases b:aF a <;> rw [b] at k <;> simp only [bo,aj,↓reduceIte,Int.reduceBEq,Int.reduceEq,aD,L0,L1,L2,L3,E1,bH,bI,bJ,bK,bL,bN,bP,bM,bO,bQ,bq,and_self,k,M8,Nb] <;> rfl
theorem Lv{a b:Int}:Or (.call 84) (SA 17 ek ks n d nm es [a,b] dn ea da so) []=some [ti (aY 17 d [a,b] da so)]:=by
 have e:aY 17 d [a,b] da so=if a=b/\aF a=true then a else 0:=rfl;have k:=gX a;rw [e];refine ah ?_;rw [G8];by_cases h:a=b
 .have y:(a==b)=true:=by simpa using h
  cases c:aF a <;> rw [c] at k
  .simp only [bo,aj,↓reduceIte,Int.reduceBEq,Int.reduceEq,aD,L0,L1,L2,L3,E1,bH,bI,bJ,bK,bL,bN,bP,bM,bO,bQ,bq,and_self,y,k,M8,Nb];simp [h,c]
   try (subst h;simp [c])
  .simp only [bo,aj,↓reduceIte,Int.reduceBEq,Int.reduceEq,aD,L0,L1,L2,L3,E1,bH,bI,bJ,bK,bL,bN,bP,bM,bO,bQ,bq,and_self,y,k,M8,Nb];simp [h,c]
   try (subst h;simp [c])
 .have y:(a==b)=false:=by simpa using h
  simp only [bo,aj,↓reduceIte,Int.reduceBEq,Int.reduceEq,aD,L0,L1,L2,L3,E1,bH,bI,bJ,bK,bL,bN,bP,bM,bO,bQ,bq,and_self,y,Nb];simp [h]
theorem Lw{a b:Int}:Or (.call 84) (SA 18 ek ks n d nm es [a,b] dn ea da so) []=some [ti (aY 18 d [a,b] da so)]:=by
 have e:aY 18 d [a,b] da so=if a=b/\aF a=true then a else 0:=rfl;have k:=gX a;rw [e];refine ah ?_;rw [G9];by_cases h:a=b
 .have y:(a==b)=true:=by simpa using h
  cases c:aF a <;> rw [c] at k
  .simp only [bo,aj,↓reduceIte,Int.reduceBEq,Int.reduceEq,aD,L0,L1,L2,L3,E1,bH,bI,bJ,bK,bL,bN,bP,bM,bO,bQ,bq,and_self,y,k,M8,Nb];simp [h,c]
   try (subst h;simp [c])
  .simp only [bo,aj,↓reduceIte,Int.reduceBEq,Int.reduceEq,aD,L0,L1,L2,L3,E1,bH,bI,bJ,bK,bL,bN,bP,bM,bO,bQ,bq,and_self,y,k,M8,Nb];simp [h,c]
   try (subst h;simp [c])
 .have y:(a==b)=false:=by simpa using h
  simp only [bo,aj,↓reduceIte,Int.reduceBEq,Int.reduceEq,aD,L0,L1,L2,L3,E1,bH,bI,bJ,bK,bL,bN,bP,bM,bO,bQ,bq,and_self,y,Nb];simp [h]
theorem Lx{a b:Int}:Or (.call 84) (SA 19 ek ks n d nm es [a,b] dn ea da so) []=some [ti (aY 19 d [a,b] da so)]:=by
 have e:aY 19 d [a,b] da so=if a=b/\aF a=true then a else 0:=rfl;have k:=gX a;rw [e];refine ah ?_;rw [Ha];by_cases h:a=b
 .have y:(a==b)=true:=by simpa using h
  cases c:aF a <;> rw [c] at k
  .simp only [bo,aj,↓reduceIte,Int.reduceBEq,Int.reduceEq,aD,L0,L1,L2,L3,E1,bH,bI,bJ,bK,bL,bN,bP,bM,bO,bQ,bq,and_self,y,k,M8,Nb];simp [h,c]
   try (subst h;simp [c])
  .simp only [bo,aj,↓reduceIte,Int.reduceBEq,Int.reduceEq,aD,L0,L1,L2,L3,E1,bH,bI,bJ,bK,bL,bN,bP,bM,bO,bQ,bq,and_self,y,k,M8,Nb];simp [h,c]
   try (subst h;simp [c])
 .have y:(a==b)=false:=by simpa using h
  simp only [bo,aj,↓reduceIte,Int.reduceBEq,Int.reduceEq,aD,L0,L1,L2,L3,E1,bH,bI,bJ,bK,bL,bN,bP,bM,bO,bQ,bq,and_self,y,Nb];simp [h]
theorem Lz{a b:Int}:Or (.call 84) (SA 20 ek ks n d nm es [a,b] dn ea da so) []=some [ti (aY 20 d [a,b] da so)]:=by
 have e:aY 20 d [a,b] da so=if a=b/\aF a=true then a else 0:=rfl;have k:=gX a;rw [e];refine ah ?_;rw [Hc];by_cases h:a=b
 .have y:(a==b)=true:=by simpa using h
  cases c:aF a <;> rw [c] at k
  .simp only [bo,aj,↓reduceIte,Int.reduceBEq,Int.reduceEq,aD,L0,L1,L2,L3,E1,bH,bI,bJ,bK,bL,bN,bP,bM,bO,bQ,bq,and_self,y,k,M8,Nb];simp [h,c]
   try (subst h;simp [c])
  .simp only [bo,aj,↓reduceIte,Int.reduceBEq,Int.reduceEq,aD,L0,L1,L2,L3,E1,bH,bI,bJ,bK,bL,bN,bP,bM,bO,bQ,bq,and_self,y,k,M8,Nb];simp [h,c]
   try (subst h;simp [c])
 .have y:(a==b)=false:=by simpa using h
  simp only [bo,aj,↓reduceIte,Int.reduceBEq,Int.reduceEq,aD,L0,L1,L2,L3,E1,bH,bI,bJ,bK,bL,bN,bP,bM,bO,bQ,bq,and_self,y,Nb];simp [h]
theorem LA{a b:Int}:Or (.call 84) (SA 21 ek ks n d nm es [a,b] dn ea da so) []=some [ti (aY 21 d [a,b] da so)]:=by
 have e:aY 21 d [a,b] da so=if a=b/\aF a=true then a else 0:=rfl;have k:=gX a;rw [e];refine ah ?_;rw [Hd];by_cases h:a=b
 .have y:(a==b)=true:=by simpa using h
  cases c:aF a <;> rw [c] at k
  .simp only [bo,aj,↓reduceIte,Int.reduceBEq,Int.reduceEq,aD,L0,L1,L2,L3,E1,bH,bI,bJ,bK,bL,bN,bP,bM,bO,bQ,bq,and_self,y,k,M8,Nb];simp [h,c]
   try (subst h;simp [c])
  .simp only [bo,aj,↓reduceIte,Int.reduceBEq,Int.reduceEq,aD,L0,L1,L2,L3,E1,bH,bI,bJ,bK,bL,bN,bP,bM,bO,bQ,bq,and_self,y,k,M8,Nb];simp [h,c]
   try (subst h;simp [c])
 .have y:(a==b)=false:=by simpa using h
  simp only [bo,aj,↓reduceIte,Int.reduceBEq,Int.reduceEq,aD,L0,L1,L2,L3,E1,bH,bI,bJ,bK,bL,bN,bP,bM,bO,bQ,bq,and_self,y,Nb];simp [h]
theorem LB{a b:Int}:Or (.call 84) (SA 22 ek ks n d nm es [a,b] dn ea da so) []=some [ti (aY 22 d [a,b] da so)]:=by
 have e:aY 22 d [a,b] da so=if a=b/\aF a=true then 1 else 0:=rfl;have k:=gX a;rw [e];refine ah ?_;rw [He];by_cases h:a=b
 .have y:(a==b)=true:=by simpa using h
  cases c:aF a <;> rw [c] at k
  .simp only [bo,aj,↓reduceIte,Int.reduceBEq,Int.reduceEq,aD,L0,L1,L2,L3,E1,bH,bI,bJ,bK,bL,bN,bP,bM,bO,bQ,bq,and_self,y,k,M8,Nb];simp [h,c]
   try (subst h;simp [c])
  .simp only [bo,aj,↓reduceIte,Int.reduceBEq,Int.reduceEq,aD,L0,L1,L2,L3,E1,bH,bI,bJ,bK,bL,bN,bP,bM,bO,bQ,bq,and_self,y,k,M8,Nb];simp [h,c]
   try (subst h;simp [c])
 .have y:(a==b)=false:=by simpa using h
  simp only [bo,aj,↓reduceIte,Int.reduceBEq,Int.reduceEq,aD,L0,L1,L2,L3,E1,bH,bI,bJ,bK,bL,bN,bP,bM,bO,bQ,bq,and_self,y,Nb];simp [h]
theorem LD{a b:Int}:Or (.call 84) (SA 24 ek ks n d nm es [a,b] dn ea da so) []=some [ti (aY 24 d [a,b] da so)]:=by
 have e:aY 24 d [a,b] da so=if [a,b]= [5,4] then 4 else 0:=rfl;have k:=xZ (e:=false) (e':=es) (l:= [a,b]) (da:= [5,4]) (by simp);replace k:Or (.call 95) [AV.t (T.ad 1 false [[ti 5],[ti 4]]),AV.t (T.ptr [T.ad 1 es (enc [a,b])])] []=_:=k;rw [e];by_cases c: [a,b]= [5,4]
 .rw [decide_eq_true c] at k;rw [if_pos c];refine ah ?_;rw [AF];simp only [bo,aj,↓reduceIte,Int.reduceBEq,Int.reduceEq,aD,L0,L1,L2,L3,E1,bH,bI,bJ,bK,bL,bN,bP,bM,bO,bQ,bq,and_self,k,M8]
 .rw [decide_eq_false c] at k;rw [if_neg c];refine ah ?_;rw [AF];simp only [bo,aj,↓reduceIte,Int.reduceBEq,Int.reduceEq,aD,L0,L1,L2,L3,E1,bH,bI,bJ,bK,bL,bN,bP,bM,bO,bQ,bq,and_self,k,Nb]
theorem LF{a b c:Int}:Or (.call 84) (SA 25 ek ks n d nm es [a,b,c] dn ea da so) []=some [ti (aY 25 d [a,b,c] da so)]:=by
 have e:aY 25 d [a,b,c] da so=if [a,b,c]= [5,4,4] then 5 else 0:=rfl;have k:=xZ (e:=false) (e':=es) (l:= [a,b,c]) (da:= [5,4,4]) (by simp);replace k:Or (.call 95) [AV.t (T.ad 1 false [[ti 5],[ti 4],[ti 4]]),AV.t (T.ptr [T.ad 1 es (enc [a,b,c])])] []=_:=k;rw [e];by_cases f: [a,b,c]= [5,4,4]
 .rw [decide_eq_true f] at k;rw [if_pos f];refine ah ?_;rw [AH];simp only [bo,aj,↓reduceIte,Int.reduceBEq,Int.reduceEq,aD,L0,L1,L2,L3,E1,bH,bI,bJ,bK,bL,bN,bP,bM,bO,bQ,bq,and_self,k,M8]
 .rw [decide_eq_false f] at k;rw [if_neg f];refine ah ?_;rw [AH];simp only [bo,aj,↓reduceIte,Int.reduceBEq,Int.reduceEq,aD,L0,L1,L2,L3,E1,bH,bI,bJ,bK,bL,bN,bP,bM,bO,bQ,bq,and_self,k,Nb]
end
open Go Go.Aev Go.IntKind
theorem JQ(i:Nat)(h:i<=9223372036854775806):i64.wrap ((i:Int)+1)= ((i+1:Nat):Int):=by rw [wr (by omega)];omega
def mb(i:Nat)(u:UInt8):Bool:=
 !((!((((u.toNat:Int)==95) || (decide ((u.toNat:Int)>=97) && decide ((u.toNat:Int)<=122))) || (decide ((u.toNat:Int)>=65) && decide ((u.toNat:Int)<=90)))) && ((((i:Int)==0) || decide ((u.toNat:Int) < 48)) || decide ((u.toNat:Int) > 57)))
def jC:Nat->List UInt8->Bool
 | _,[]=>true
 | i,u::r=>mb i u && jC (i+1) r
def iO(s:ByteArray):Bool:=jC 0 s.data.toList && (decide ((s.size:Int)>=1) && decide ((s.size:Int)<=12))
theorem fi(a b:Bool):(bif a then true else b)= (a || b):=by cases a <;> rfl
theorem JB(s:ByteArray)(hs:s.size<=9223372036854775807):∀(r:List UInt8) (i:Nat),s.data.toList.drop i=r->Or sr [AV.t (T.str s),I (s.size:Int),I (i:Int)] []=some [tb (jC i r && (decide ((s.size:Int)>=1) && decide ((s.size:Int)<=12)))]:=by
 intro r;induction r with
 | nil=>
  intro i g;have b:¬(i:Int) < (s.size:Int):=by have:=bx g;rw [nE] at this;omega
  refine ah ?_;rw [Az];simp only [bu,bB,bt,b,decide_false,jC,N1,fZ]
 | cons u r j=>
  intro i g;obtain⟨c,e,f⟩:=bz g;rw [nE] at e;have b:(i:Int) < (s.size:Int):=by omega
  have h0: 0<=(i:Int):=by omega
  have h:=j (i+1) f;rw [jC];refine ah ?_;rw [Az];simp only [bu,bB,bt,b,h0,and_self,decide_true,↓reduceIte,NM,c,fZ,fi];cases a:mb i u with
  | true=>unfold mb at a;rw [N4] at a;simp only [a,cond_false,N1,JQ i (by omega)];exact h
  | false=>unfold mb at a;rw [PY] at a;simp only [a,cond_true,OG]
theorem Lk(s:ByteArray)(hs:s.size<=9223372036854775807):Or (.call 77) [AV.t (T.str s)] []=some [tb (iO s)]:=by have:=JB s hs s.data.toList 0 rfl;refine ah ?_;rw [GY];exact this
def lB(s:Int):Bool:=(decide (s>=1) && decide (s<=5)) || aF s
theorem Ll(s:Int):Or (.call 79) [I s] []=some [tb (lB s)]:=by
 have k:=gX s;unfold lB;refine ah ?_;rw [G0];simp only [fZ];cases h:(decide (s>=1) && decide (s<=5)) with
 | true=>simp only [bo,aj,↓reduceIte,Int.reduceBEq,Int.reduceEq,M8];rfl
 | false=>simp only [aj,↓reduceIte,Int.reduceBEq,Int.reduceEq,Nb,k];rfl
theorem JI{e:Bool}{ds:List Dc}{d:Dc}(hl:ds.length<=1000):∀(r:List Dc) (i:Nat),ds.drop i=r->
  ∃z:Int,Or fX [AV.t (T.ad 3 e (aI ds)),AV.fn 78 [] [AV.t (T.ptr [T.str d.nm,T.ad 1 d.ea (enc d.ar),ti d.so])],I (ds.length:Int),I (i:Int)] []=some [ti z]/\decide (z>=0)=r.any λx=>decide (x.nm=d.nm):=by
 intro r;induction r with
 | nil=>
  intro i g;have a:¬(i:Int) < (ds.length:Int):=by have:=bx g;omega
  refine⟨-1,ah ?_,by simp⟩;rw [vY];simp only [aj,↓reduceIte,Int.reduceBEq,Int.reduceEq,a]
 | cons x r h=>
  intro i g;obtain⟨c,m,f⟩:=bz g;have a:(i:Int) < (ds.length:Int):=by omega
  have h0: 0<=(i:Int):=by omega
  have k:Or (.call 78) [AV.agg [AV.t (T.str x.nm),AV.t (T.ad 1 x.ea (enc x.ar)),I x.so],AV.t (T.ptr [T.str d.nm,T.ad 1 d.ea (enc d.ar),ti d.so])] []=some [tb (decide (x.nm=d.nm))]:=by refine ah ?_;rw [GZ,mX]
  cases b:decide (x.nm=d.nm) with
  | true=>rw [b] at k;refine⟨(i:Int),ah ?_,by simp [b]⟩;rw [vY];simp only [aj,↓reduceIte,Int.reduceBEq,Int.reduceEq,a,h0,and_self,ca,dv c,k]
  | false=>rw [b] at k;obtain⟨z,j,l⟩:=h (i+1) f;refine⟨z,ah ?_,by rw [l];simp [b]⟩;rw [vY];simp only [aj,↓reduceIte,Int.reduceBEq,Int.reduceEq,a,h0,and_self,ca,dv c,k,next i (by omega)];exact j
theorem La{e:Bool}{ds:List Dc}{d:Dc}(hl:ds.length<=1000):Or (.call 55) [AV.t (T.ad 3 e (aI ds)),AV.fn 78 [] [AV.t (T.ptr [T.str d.nm,T.ad 1 d.ea (enc d.ar),ti d.so])]] []=some [tb (ds.any λx=>decide (x.nm=d.nm))]:=by
 obtain⟨z,b,c⟩:=JI (e:=e) (d:=d) hl ds 0 rfl;have a:Or (.call 89) [AV.t (T.ad 3 e (aI ds)),AV.fn 78 [] [AV.t (T.ptr [T.str d.nm,T.ad 1 d.ea (enc d.ar),ti d.so])]] []=some [ti z]:=by refine ah ?_;rw [Hp];simp only [ca];exact b
 refine ah ?_;rw [Gv];simp only [aj,↓reduceIte,Int.reduceBEq,Int.reduceEq,a,c]
theorem JF{e:Bool}{l:List Int}(hl:l.length<=1000):∀(r:List Int) (i:Nat),l.drop i=r->
  ∃z:Int,Or ff [ad e l,AV.fn 80 [] [],I (l.length:Int),I (i:Int)] []=some [ti z]/\decide (z>=0)=r.any λs=> !(s==4):=by
 intro r;induction r with
 | nil=>
  intro i g;have a:¬(i:Int) < (l.length:Int):=by have:=bx g;omega
  refine⟨-1,ah ?_,by simp⟩;rw [vS];simp only [aj,↓reduceIte,Int.reduceBEq,Int.reduceEq,a]
 | cons d r h=>
  intro i g;obtain⟨c,o,f⟩:=bz g;have a:(i:Int) < (l.length:Int):=by omega
  have h0: 0<=(i:Int):=by omega
  have k:Or (.call 80) [I d] []=some [tb (!(d==4))]:=by refine ah ?_;rw [G1]
  cases b: !(d==4) with
  | true=>rw [b] at k;refine⟨(i:Int),ah ?_,by simp only [List.any_cons,b,Bool.true_or];simp⟩;rw [vS];simp only [bu,bA,eN,bG,a,h0,and_self,aD,bC c,k,bt,oM,↓reduceIte]
  | false=>rw [b] at k;obtain⟨z,j,m⟩:=h (i+1) f;refine⟨z,ah ?_,by rw [m];simp only [List.any_cons,b,NT]⟩;rw [vS];simp only [bu,bA,eN,bG,a,h0,and_self,aD,bC c,k,bB,oM,↓reduceIte,next i (by omega)];exact j
theorem K8{e:Bool}{l:List Int}(hl:l.length<=1000):Or (.call 48) [ad e l,AV.fn 80 [] []] []=some [tb (l.any λs=> !(s==4))]:=by
 obtain⟨z,b,c⟩:=JF (e:=e) hl l 0 rfl;have a:Or (.call 86) [ad e l,AV.fn 80 [] []] []=some [ti z]:=by refine ah ?_;rw [Hj];simp only [aD];exact b
 refine ah ?_;rw [Gp];simp only [aj,↓reduceIte,Int.reduceBEq,Int.reduceEq,a,c]
def eW(a:List Dc)(d:Dc):Int:=
 if iO d.nm=false then 12
 else if(a.any λx=>decide (x.nm=d.nm))=true then 7
 else if 8 < d.ar.length then 9
 else if lB d.so=false\/(d.ar.any λs=> !(s==4))=true\/(d.so=5/\0 < d.ar.length) then 4
 else 0
def dY:List Dc->Nat->List Dc->Int×Int
 | _,_,[]=>(0,0)
 | a,i,d::r=>if eW a d=0 then dY (a++ [d]) (i+1) r else(eW a d,(i:Int))
theorem Mt{i:Nat}(l:List (List T)):sub 0 (i:Int) l=l.take i:=by simp [sub]
theorem Ji{e:Bool}{ds:List Dc}(hl:ds.length<=100)(K:∀d∈ds,d.nm.size<=9223372036854775807):∀(r:List Dc) (i:Nat) (a:List Dc),ds.drop i=r->a=ds.take i->i<=ds.length->
  Or oD [AV.t (T.ad 3 e (aI ds)),r0,AV.t (T.ad 3 e (aI ds)),I (ds.length:Int),I (i:Int)] [nb]=some [ti (dY a i r).1,ti (dY a i r).2]:=by
 intro r;induction r with
 | nil=>
  intro i a g D J;have u:¬(i:Int) < (ds.length:Int):=by have:=bx g;omega
  refine ah ?_;rw [mj];simp only [aj,↓reduceIte,Int.reduceBEq,Int.reduceEq,u,dY]
 | cons d r M=>
  intro i a g D J;obtain⟨q,O,H⟩:=bz g;have hm:=Nh q;have u:(i:Int) < (ds.length:Int):=by omega
  have h0: 0<=(i:Int):=by omega
  have b:=Lk d.nm (K d hm);have m:eZ 0 (i:Int) (ds.length:Int)=some ():=by unfold eZ;rw [if_pos ⟨by omega,by omega,by omega⟩]
  have f:sub 0 (i:Int) (aI ds)=aI a:=by rw [Mt,D];simp [aI,List.map_take]
  have j:=La (e:=e) (ds:=a) (d:=d) (by rw [D,N2];omega);have L:=M (i+1) (a++ [d]) H (by rw [D,Pj,q];rfl) (by omega);have N:=next i (by omega);rw [dY];cases p:iO d.nm with
  | false=>
   rw [p] at b;have c:eW a d=12:=by simp [eW,p]
   rw [c,if_neg (by decide)];refine ah ?_;rw [mj];simp only [aj,↓reduceIte,Int.reduceBEq,Int.reduceEq,u,h0,and_self,ca,dv q,b,Nb]
  | true=>
  rw [p] at b;cases v:a.any λx=>decide (x.nm=d.nm) with
  | true=>
   rw [v] at j;have c:eW a d=7:=by unfold eW;rw [p,v];rfl
   rw [c,if_neg (by decide)];refine ah ?_;rw [mj];simp only [aj,↓reduceIte,Int.reduceBEq,Int.reduceEq,u,h0,and_self,ca,dv q,b,M8,m,f,j]
  | false=>
  rw [v] at j;by_cases z: 8 < d.ar.length
  .have k:(d.ar.length:Int) > 8:=by omega
   have c:eW a d=9:=by unfold eW;rw [p,v,if_neg (by decide),if_neg (by decide),if_pos z]
   rw [c,if_neg (by decide)];refine ah ?_;rw [mj];simp only [aj,↓reduceIte,Int.reduceBEq,Int.reduceEq,u,h0,and_self,ca,dv q,b,M8,m,f,j,aD,k]
  have k:¬(d.ar.length:Int) > 8:=by omega
  have o:=Ll d.so;have w:=K8 (e:=d.ea) (l:=d.ar) (by omega);cases A:lB d.so with
  | false=>
   rw [A] at o;have c:eW a d=4:=by unfold eW;rw [p,v,if_neg (by decide),if_neg (by decide),if_neg z,if_pos (.inl A)]
   rw [c,if_neg (by decide)];refine ah ?_;rw [mj];simp only [aj,↓reduceIte,Int.reduceBEq,Int.reduceEq,u,h0,and_self,ca,dv q,b,M8,m,f,j,aD,k,o,Nb]
  | true=>
  rw [A] at o;cases B:d.ar.any λs=> !(s==4) with
  | true=>
   rw [B] at w;have c:eW a d=4:=by unfold eW;rw [p,v,if_neg (by decide),if_neg (by decide),if_neg z,if_pos (.inr (.inl B))]
   rw [c,if_neg (by decide)];refine ah ?_;rw [mj];simp only [aj,↓reduceIte,Int.reduceBEq,Int.reduceEq,u,h0,and_self,ca,dv q,b,M8,m,f,j,aD,k,o,w]
  | false=>
  rw [B] at w;by_cases C:d.so=5/\0 < d.ar.length
  .have F:(d.ar.length:Int) > 0:=by omega
   have G:(d.so==5)=true:=by simpa using C.1
   have E:(bif d.so==5 then decide ((d.ar.length:Int) > 0) else false)=true:=by rw [G,decide_eq_true F];rfl
   have c:eW a d=4:=by unfold eW;rw [p,v,if_neg (by decide),if_neg (by decide),if_neg z,if_pos (.inr (.inr C))]
   rw [c,if_neg (by decide)];refine ah ?_;rw [mj];simp only [bu,bA,cC,eN,bG,eT,dP,bt,bB,oM,↓reduceIte,u,h0,and_self,ca,dv q,b,M8,m,f,j,aD,k,o,w,E]
  .have c:eW a d=0:=by unfold eW;rw [p,v,if_neg (by decide),if_neg (by decide),if_neg z,A,B,if_neg (by rintro(h | h | h);cases h;cases h;exact C h)]
   rw [if_pos c];have E:(bif d.so==5 then decide ((d.ar.length:Int) > 0) else false)=false:=by
    by_cases x:d.so=5
    .have:¬(d.ar.length:Int) > 0:=λy=>C ⟨x,by omega⟩;rw [decide_eq_false this];cases d.so==5 <;> rfl
    .have:(d.so==5)=false:=by simpa using x
     rw [this];rfl
   refine ah ?_;rw [mj];simp only [bu,bA,cC,eN,bG,eT,dP,bt,bB,oM,↓reduceIte,u,h0,and_self,ca,dv q,b,M8,m,f,j,aD,k,o,w,E,N];exact L
theorem K6{e:Bool}{ds:List Dc}(b:∀d∈ds,d.nm.size<=9223372036854775807):Or (.call 40) [AV.t (T.ad 3 e (aI ds))] []=some (if 30 < ds.length then [ti 2,ti 0] else [ti (dY [] 0 ds).1,ti (dY [] 0 ds).2]):=by
 by_cases h: 30 < ds.length
 .have a:(ds.length:Int) > 30:=by omega
  rw [if_pos h];refine ah ?_;rw [Af];simp only [aj,↓reduceIte,Int.reduceBEq,Int.reduceEq,ca,a]
 .have a:¬(ds.length:Int) > 30:=by omega
  have c:=Ji (e:=e) (show ds.length<=100 by omega) b ds 0 [] rfl rfl (OY _);rw [if_neg h];refine ah ?_;rw [Af];simp only [aj,↓reduceIte,Int.reduceBEq,Int.reduceEq,ca,a];exact c
open Go Go.Aev Go.IntKind
def dF(op:Int):Int:=
 if op=1\/op=2\/op=10\/op=15 then 0 else if op=3\/op=12\/op=16\/op=23 then 1 else if op=7\/op=25 then 3 else if op=4\/op=5\/op=11 then -1 else 2
theorem xw{op:Int}(h: 1<=op/\op<=25):op=1\/op=2\/op=3\/op=4\/op=5\/op=6\/op=7\/op=8\/op=9\/op=10\/op=11\/op=12\/op=13\/op=14\/op=15\/op=16\/op=17\/op=18\/op=19\/op=20\/op=21\/op=22\/op=23\/op=24\/op=25:=by omega
theorem Lm{op:Int}(h: 1<=op/\op<=25):Or (.call 81) [I op] []=some [ti (dF op)]:=by rcases xw h with rfl | rfl | rfl | rfl | rfl | rfl | rfl | rfl | rfl | rfl | rfl | rfl | rfl | rfl | rfl | rfl | rfl | rfl | rfl | rfl | rfl | rfl | rfl | rfl | rfl <;> exact xz (n:=5) (by kernel_rfl)
theorem uy{op:Int}{ek:Bool}{ks:List (List T)}{n d:Int}{nm:ByteArray}{es:Bool}{l:List Int}{dn:ByteArray}{ea:Bool}{da:List Int}{so:Int}(h: 1<=op/\op<=25)(hl:l.length<=1000)(e:op≠9->0<=dF op->(l.length:Int)=dF op)(m:op=15->0<=d/\d<=1000):
  Or (.call 84) (SA op ek ks n d nm es l dn ea da so) []=some [ti (aY op d l da so)]:=by
 have g:(l.length:Int)=0->l= []:=λh=>Ny.1 (by omega);have i:(l.length:Int)=1->∃a,l= [a]:=λh=>by
  have j:l.length=1:=by omega
  exact OX.1 j
 have f:(l.length:Int)=2->∃a b,l= [a,b]:=λh=>by
  have j:l.length=2:=by omega
  match l,j with
  | [a,b],_=>exact⟨a,b,rfl⟩
 have k:(l.length:Int)=3->∃a b c,l= [a,b,c]:=λh=>by
  have j:l.length=3:=by omega
  match l,j with
  | [a,b,c],_=>exact⟨a,b,c,rfl⟩
 rcases xw h with rfl | rfl | rfl | rfl | rfl | rfl | rfl | rfl | rfl | rfl | rfl | rfl | rfl | rfl | rfl | rfl | rfl | rfl | rfl | rfl | rfl | rfl | rfl | rfl | rfl
 .rw [g (e (by decide) (by decide))];exact Ln
 .rw [g (e (by decide) (by decide))];exact Ly
 .exact LG hl
 .exact LH hl
 .exact LI hl
 .exact LJ hl
 .obtain⟨a,b,c,rfl⟩:=k (e (by decide) (by decide));exact LK
 .obtain⟨a,b,rfl⟩:=f (e (by decide) (by decide));exact LL
 .exact LM hl
 .rw [g (e (by decide) (by decide))];exact Lo
 .exact Lp hl
 .obtain⟨a,rfl⟩:=i (e (by decide) (by decide));exact Lq
 .exact Lr hl
 .exact Ls hl
 .rw [g (e (by decide) (by decide))];exact Lt (m rfl)
 .obtain⟨a,rfl⟩:=i (e (by decide) (by decide));exact Lu
 .obtain⟨a,b,rfl⟩:=f (e (by decide) (by decide));exact Lv
 .obtain⟨a,b,rfl⟩:=f (e (by decide) (by decide));exact Lw
 .obtain⟨a,b,rfl⟩:=f (e (by decide) (by decide));exact Lx
 .obtain⟨a,b,rfl⟩:=f (e (by decide) (by decide));exact Lz
 .obtain⟨a,b,rfl⟩:=f (e (by decide) (by decide));exact LA
 .obtain⟨a,b,rfl⟩:=f (e (by decide) (by decide));exact LB
 .obtain⟨a,rfl⟩:=i (e (by decide) (by decide));exact LC
 .obtain⟨a,b,rfl⟩:=f (e (by decide) (by decide));exact LD
 .obtain⟨a,b,c,rfl⟩:=k (e (by decide) (by decide));exact LF
def eX(x:Nd):Bool:=
 ((decide (x.nm=s0) || (x.op==9)) && (((x.n==0) || (((x.op==10) || (x.op==12)) || (x.op==15))) || (x.op==23))) && ((x.d==0) || (((x.op==10) || (x.op==12)) || (x.op==15)))
theorem uw(x:Nd):Or (.call 82) [AV.agg [I x.op,ad x.ek x.ks,I x.n,I x.d,AV.t (T.str x.nm)]] []=some [tb (eX x)]:=by refine ah ?_;rw [G2];simp only [fZ,fi,mX];rfl
def nS(a b:Int):Int:=if h:b=0 then mm true a (i64.wrap (0 - a)) else nS b (a.tmod b)
termination_by b.natAbs
decreasing_by
 rw [Int.natAbs_tmod];exact Nat.mod_lt _ (Int.natAbs_pos.2 h)
theorem JK:∀(n:Nat) (a b:Int),b.natAbs<=n->Or su [I a,I b] []=some [ti (nS a b)]:=by
 intro n;induction n with
 | zero=>
  intro a b e;have h0:b=0:=by omega
  subst h0;rw [nS,dif_pos rfl];refine ah ?_;rw [vZ];simp only [aj,↓reduceIte,Int.reduceBEq,Int.reduceEq,M8]
 | succ n g=>
  intro a b e;by_cases h:b=0
  .subst h;rw [nS,dif_pos rfl];refine ah ?_;rw [vZ];simp only [aj,↓reduceIte,Int.reduceBEq,Int.reduceEq,M8]
  .have c:(b==0)=false:=by simpa using h
   have f:=g b (a.tmod b) (by
    have i:=Int.natAbs_tmod a b;have j:=Nat.mod_lt a.natAbs (Int.natAbs_pos.2 h);omega)
   rw [nS,dif_neg h];refine ah ?_;rw [vZ];simp only [aj,↓reduceIte,Int.reduceBEq,Int.reduceEq,c,h,Nb];exact f
theorem LP(a b:Int):Or (.call 94) [I a,I b] []=some [ti (nS a b)]:=by have:=JK b.natAbs a b (Ns _);refine ah ?_;rw [Ht];exact this
def rK(n d:Int):Bool:=((decide (n>= -1000000) && decide (n<=1000000)) && decide (d>=1)) && decide (d<=1000000)
def eB(x:Nd):Bool:=
 if x.op=10\/x.op=12 then rK x.n x.d && (nS x.n x.d==1)
 else if x.op=15 then((decide (x.d>=1) && decide (x.d<=8)) && decide (x.n>=0)) && decide (x.n < i64.wrap (1 * 2 ^ min x.d.toNat 64))
 else if x.op=23 then decide (x.n>=0) && decide (x.n<=8)
 else true
theorem ux(x:Nd):Or (.call 83) [AV.agg [I x.op,ad x.ek x.ks,I x.n,I x.d,AV.t (T.str x.nm)]] []=some [tb (eB x)]:=by
 have k:=LP x.n x.d;have g:(((decide (x.n>= -1000000) && decide (x.n<=1000000)) && decide (x.d>=1)) && decide (x.d<=1000000))=rK x.n x.d:=rfl;unfold eB;by_cases a:x.op=10\/x.op=12
 .rw [if_pos a];rcases a with a | a
  .have y:(x.op==10)=true:=by simpa using a
   cases b:rK x.n x.d with
   | true=>refine ah ?_;rw [mn];simp only [fZ,g,b,bu,bA,bG,bt,fh,y,k,N1]
   | false=>refine ah ?_;rw [mn];simp only [fZ,g,b,bo,bt,fY,y,bu,OG]
  .have y:(x.op==10)=false:=by simp [a]
   have c:(x.op==12)=true:=by simpa using a
   cases b:rK x.n x.d with
   | true=>refine ah ?_;rw [mn];simp only [fZ,g,b,bu,bA,bG,bt,bB,fh,y,c,k,N1]
   | false=>refine ah ?_;rw [mn];simp only [fZ,g,b,bo,bt,bB,fY,y,c,bu,OG]
 .have y:(x.op==10)=false:=by simp;exact λh=>a (.inl h)
  have c:(x.op==12)=false:=by simp;exact λh=>a (.inr h)
  rw [if_neg a];by_cases f:x.op=15
  .have e:(x.op==15)=true:=by simpa using f
   rw [if_pos f];cases b:((decide (x.d>=1) && decide (x.d<=8)) && decide (x.n>=0)) with
   | true=>
    have j:¬x.d < 0:=by simp only [M7,decide_eq_true_eq] at b;omega
    refine ah ?_;rw [mn];simp only [fZ,b,bu,bt,bB,y,c,e,j,↓reduceIte,N1]
   | false=>refine ah ?_;rw [mn];simp only [fZ,b,bo,bt,bB,y,c,e,OG]
  .have e:(x.op==15)=false:=by simpa using f
   rw [if_neg f];by_cases c3:x.op=23
   .have i:(x.op==23)=true:=by simpa using c3
    rw [if_pos c3];refine ah ?_;rw [mn];simp only [fZ,bt,bB,y,c,e,i]
   .have i:(x.op==23)=false:=by simpa using c3
    rw [if_neg c3];refine ah ?_;rw [mn];simp only [bB,y,c,e,i]
def cP(x:Nd)(i:Int)(ss:List Int)(da:List Int)(so:Int):Int×Int:=
 if(x.ks.any λk=>decide (k < 0) || decide (k>=i))=true then(0,3)
 else if eX x=false then(0,5)
 else if eB x=false then(0,3)
 else if aY x.op x.d (x.ks.map λk=>ss.getD k.toNat 0) da so=0 then(0,8)
 else(aY x.op x.d (x.ks.map λk=>ss.getD k.toNat 0) da so,0)
def bT(ds:List Dc)(x:Nd)(i:Int)(ss:List Int):Int×Int:=
 if x.op < 1\/25 < x.op then(0,4)
 else if x.op=9 then
  (if bf ds x.nm < 0 then(0,6)
  else if(x.ks.length≠((ds.getD (bf ds x.nm).toNat ⟨s0,true,[],0⟩).ar).length)\/8 < x.ks.length then(0,9)
  else cP x i ss (ds.getD (bf ds x.nm).toNat ⟨s0,true,[],0⟩).ar (ds.getD (bf ds x.nm).toNat ⟨s0,true,[],0⟩).so)
 else if(0<=dF x.op/\(x.ks.length:Int)≠dF x.op)\/8 < x.ks.length then(0,9)
 else cP x i ss [] 0
theorem rv{x:Nd}(h:eB x=true)(a:x.op=15): 1<=x.d/\x.d<=8/\0<=x.n/\x.n < i64.wrap (1 * 2 ^ min x.d.toNat 64):=by unfold eB at h;rw [if_neg (by omega),if_pos a] at h;simp only [M7,decide_eq_true_eq] at h;omega
theorem Jj{x:Nd}{i:Nat}{ss:List Int}{es:Bool}{dn:ByteArray}{ea:Bool}{da:List Int}{so:Int}(J:x.op=9)(C: 1<=x.op/\x.op<=25)(N:x.ks.length<=8)(O:ss.length=i):∀(r:List Int) (j:Nat) (acc:List Int),x.ks.drop j=r->j<=x.ks.length->acc.length=j->acc≠[]->(∀k∈x.ks.take j,0<=k/\k < (i:Int))->acc= (x.ks.take j).map (λk=>ss.getD k.toNat 0)->
  Or hZ [I (i:Int),ad es ss,r0,r1,o2,ad x.ek x.ks,I (x.ks.length:Int),I (j:Int)] [ab.box [I x.op,ad x.ek x.ks,I x.n,I x.d,AV.t (T.str x.nm)],ab.box [AV.t (T.str dn),ad ea da,I so],ab.sl false 1 false (enc acc)]=some [ti (cP x (i:Int) ss da so).1,ti (cP x (i:Int) ss da so).2]:=by
 intro r;induction r with
 | nil=>
  intro j acc g K o B q m;have c:¬(j:Int) < (x.ks.length:Int):=by have:=bx g;omega
  have A:x.ks.take j=x.ks:=PH (by have:=bx g;omega);rw [A] at q m;have a:=uw x;have b:=ux x;have v:(x.ks.any λk=>decide (k < 0) || decide (k>=(i:Int)))=false:=by rw [NV];intro k hm;have:=q k hm;simp;omega
  unfold cP;rw [v,if_neg (by decide),<-m];cases z:eX x with
  | false=>rw [z] at a;rw [if_pos rfl];refine ah ?_;rw [oY];simp only [aj,↓reduceIte,Int.reduceBEq,Int.reduceEq,c,a,Nb]
  | true=>
  rw [z] at a;rw [if_neg (by decide)];cases u:eB x with
  | false=>rw [u] at b;rw [if_pos rfl];refine ah ?_;rw [oY];simp only [aj,↓reduceIte,Int.reduceBEq,Int.reduceEq,c,a,M8,b,Nb]
  | true=>
  rw [u] at b;rw [if_neg (by decide)];have p:=uy (op:=x.op) (ek:=x.ek) (ks:=enc x.ks) (n:=x.n) (d:=x.d) (nm:=x.nm) (es:=false) (l:=acc) (dn:=dn) (ea:=ea) (da:=da) (so:=so) C (by omega) (by rw [m];exact(λh=>absurd J h)) (λh=>by have:=rv u h;omega);by_cases e:aY x.op x.d acc da so=0
  .rw [e] at p;rw [if_pos e];refine ah ?_;rw [oY];simp only [aj,↓reduceIte,Int.reduceBEq,Int.reduceEq,c,a,M8,b,p]
  .have E:(aY x.op x.d acc da so==0)=false:=by simpa using e
   rw [if_neg e];refine ah ?_;rw [oY];simp only [aj,↓reduceIte,Int.reduceBEq,Int.reduceEq,c,a,M8,b,p,e,E]
 | cons k r M=>
  intro j acc g K o B q m;obtain⟨f,P,F⟩:=bz g;have c:(j:Int) < (x.ks.length:Int):=by omega
  have h0: 0<=(j:Int):=by omega
  by_cases s:k < 0\/k>=(i:Int)
  .have v:(x.ks.any λk=>decide (k < 0) || decide (k>=(i:Int)))=true:=OU.2 ⟨k,Nh f,by simpa using s⟩;have w:(decide (k < 0) || decide (k>=(i:Int)))=true:=by simpa using s
   unfold cP;rw [v,if_pos rfl];refine ah ?_;rw [oY];simp only [bu,bA,bG,bt,↓reduceIte,c,h0,and_self,decide_true,aD,bC f,fi,w]
  .have w:(decide (k < 0) || decide (k>=(i:Int)))=false:=by simp;omega
   have G: 0<=k/\k < (ss.length:Int):=by omega
   have H:(enc ss)[k.toNat]? =some [ti (ss.getD k.toNat 0)]:=eO (by rw [Na,Nc (by omega)];rfl);have L:=M (j+1) (acc++ [ss.getD k.toNat 0]) F (by omega) (by simp [o]) (by simp) (λy D=>by
    rw [Pj,f] at D;rcases Nq.1 D with h | h
    .exact q y h
    .simp at h;subst h;omega) (by rw [Pj,f,Pf,<-m];rfl)
   refine ah ?_;rw [oY];simp only [bu,bA,bG,bt,bB,↓reduceIte,c,h0,and_self,decide_true,aD,bC f,fi,w,G,H,Nk,cS (show acc.length+1<=1000000 by omega),Oc,ez,next j (by omega)];exact L
theorem Jk{x:Nd}{i:Nat}{ss:List Int}{es:Bool}{dn:ByteArray}{ea:Bool}{da:List Int}{so:Int}(v:x.op=9)(j: 1<=x.op/\x.op<=25)(w:x.ks.length<=8)(z:ss.length=i):
  Or hZ [I (i:Int),ad es ss,r0,r1,AV.t (T.af true),ad x.ek x.ks,I (x.ks.length:Int),I 0] [ab.box [I x.op,ad x.ek x.ks,I x.n,I x.d,AV.t (T.str x.nm)],ab.box [AV.t (T.str dn),ad ea da,I so]]=some [ti (cP x (i:Int) ss da so).1,ti (cP x (i:Int) ss da so).2]:=by
 cases a:x.ks with
 | nil=>
  have b:=uw x;have c:=ux x;rw [a] at b c;unfold cP;rw [a,List.any_nil,if_neg (by decide),Oe];cases q:eX x with
  | false=>rw [q] at b;rw [if_pos rfl];refine ah ?_;rw [oW];simp only [aj,↓reduceIte,Int.reduceBEq,Int.reduceEq,Nw,NK,NO,decide_false,b,Nb]
  | true=>
  rw [q] at b;rw [if_neg (by decide)];cases m:eB x with
  | false=>rw [m] at c;rw [if_pos rfl];refine ah ?_;rw [oW];simp only [aj,↓reduceIte,Int.reduceBEq,Int.reduceEq,Nw,NK,NO,decide_false,b,M8,c,Nb]
  | true=>
  rw [m] at c;rw [if_neg (by decide)];have e:=uy (op:=x.op) (ek:=x.ek) (ks:=enc []) (n:=x.n) (d:=x.d) (nm:=x.nm) (es:=true) (l:= []) (dn:=dn) (ea:=ea) (da:=da) (so:=so) j (by simp) (λh=>absurd v h) (λh=>by have:=rv m h;omega);replace e:Or (.call 84) [AV.agg [I x.op,AV.t (T.ad 1 x.ek (enc [])),I x.n,I x.d,AV.t (T.str x.nm)],AV.t (T.ad 1 true []),AV.agg [AV.t (T.str dn),ad ea da,I so]] []=_:=e;by_cases f:aY x.op x.d [] da so=0
  .rw [f] at e;rw [if_pos f];refine ah ?_;rw [oW];simp only [aj,↓reduceIte,Int.reduceBEq,Int.reduceEq,Nw,NK,NO,decide_false,b,M8,c,e]
  .have B:(aY x.op x.d [] da so==0)=false:=by simpa using f
   rw [if_neg f];refine ah ?_;rw [oW];simp only [aj,↓reduceIte,Int.reduceBEq,Int.reduceEq,Nw,NK,NO,decide_false,b,M8,c,e,f,B]
 | cons k r=>
  have u:(0:Int) < (((k::r).length:Nat):Int):=by simp
  have h0:(0:Int)<=0:=by omega
  have s:(enc (k::r))[(0:Int).toNat]? =some [ti k]:=rfl;have F:i64.wrap (0+1)= ((1:Nat):Int):=by decide
  by_cases g:k < 0\/k>=(i:Int)
  .have C:(x.ks.any λk=>decide (k < 0) || decide (k>=(i:Int)))=true:=OU.2 ⟨k,by rw [a];exact M3,by simpa using g⟩;have o:(decide (k < 0) || decide (k>=(i:Int)))=true:=by simpa using g
   unfold cP;rw [C,if_pos rfl];refine ah ?_;rw [oW];simp only [bu,bA,bG,bt,↓reduceIte,u,h0,and_self,decide_true,aD,s,fi,o]
  .have o:(decide (k < 0) || decide (k>=(i:Int)))=false:=by simp;omega
   have D: 0<=k/\k < (ss.length:Int):=by omega
   have E:(enc ss)[k.toNat]? =some [ti (ss.getD k.toNat 0)]:=eO (by rw [Na,Nc (by omega)];rfl);have A:=Jj (x:=x) (i:=i) (ss:=ss) (es:=es) (dn:=dn) (ea:=ea) (da:=da) (so:=so) v j w z r 1 [ss.getD k.toNat 0] (by rw [a];rfl) (by rw [a];simp) rfl (by simp) (λy p=>by rw [a] at p;simp at p;subst p;omega) (by rw [a];rfl);rw [a] at A;refine ah ?_;rw [oW];simp only [bu,bA,bG,bt,bB,↓reduceIte,u,h0,and_self,decide_true,aD,s,fi,o,D,E,Oc,F];exact A
theorem Jl{x:Nd}{i:Nat}{ss:List Int}{es:Bool}(Q:x.op≠9)(K: 0<=dF x.op->(x.ks.length:Int)=dF x.op)(C: 1<=x.op/\x.op<=25)(N:x.ks.length<=8)(O:ss.length=i):∀(r:List Int) (j:Nat) (acc:List Int),x.ks.drop j=r->j<=x.ks.length->acc.length=j->acc≠[]->(∀k∈x.ks.take j,0<=k/\k < (i:Int))->acc= (x.ks.take j).map (λk=>ss.getD k.toNat 0)->
  Or hZ [I (i:Int),ad es ss,r0,r1,o2,ad x.ek x.ks,I (x.ks.length:Int),I (j:Int)] [ab.box [I x.op,ad x.ek x.ks,I x.n,I x.d,AV.t (T.str x.nm)],ab.box [AV.t (T.str s0),AV.t (T.af true),I 0],ab.sl false 1 false (enc acc)]=some [ti (cP x (i:Int) ss [] 0).1,ti (cP x (i:Int) ss [] 0).2]:=by
 intro r;induction r with
 | nil=>
  intro j acc g J p B q o;have e:¬(j:Int) < (x.ks.length:Int):=by have:=bx g;omega
  have A:x.ks.take j=x.ks:=PH (by have:=bx g;omega);rw [A] at q o;have a:=uw x;have b:=ux x;have v:(x.ks.any λk=>decide (k < 0) || decide (k>=(i:Int)))=false:=by rw [NV];intro k hm;have:=q k hm;simp;omega
  unfold cP;rw [v,if_neg (by decide),<-o];cases z:eX x with
  | false=>rw [z] at a;rw [if_pos rfl];refine ah ?_;rw [oZ];simp only [aj,↓reduceIte,Int.reduceBEq,Int.reduceEq,e,a,Nb]
  | true=>
  rw [z] at a;rw [if_neg (by decide)];cases u:eB x with
  | false=>rw [u] at b;rw [if_pos rfl];refine ah ?_;rw [oZ];simp only [aj,↓reduceIte,Int.reduceBEq,Int.reduceEq,e,a,M8,b,Nb]
  | true=>
  rw [u] at b;rw [if_neg (by decide)];have c:=uy (op:=x.op) (ek:=x.ek) (ks:=enc x.ks) (n:=x.n) (d:=x.d) (nm:=x.nm) (es:=false) (l:=acc) (dn:=s0) (ea:=true) (da:= []) (so:=0) C (by omega) (by rw [o];exact(λ_ h=>by rw [N3];exact K h)) (λh=>by have:=rv u h;omega);replace c:Or (.call 84) [AV.agg [I x.op,AV.t (T.ad 1 x.ek (enc x.ks)),I x.n,I x.d,AV.t (T.str x.nm)],ad false acc,AV.agg [AV.t (T.str s0),AV.t (T.ad 1 true []),I 0]] []=_:=c;by_cases f:aY x.op x.d acc [] 0=0
  .rw [f] at c;rw [if_pos f];refine ah ?_;rw [oZ];simp only [aj,↓reduceIte,Int.reduceBEq,Int.reduceEq,e,a,M8,b,c]
  .have E:(aY x.op x.d acc [] 0==0)=false:=by simpa using f
   rw [if_neg f];refine ah ?_;rw [oZ];simp only [aj,↓reduceIte,Int.reduceBEq,Int.reduceEq,e,a,M8,b,c,f,E]
 | cons k r M=>
  intro j acc g J p B q o;obtain⟨m,P,F⟩:=bz g;have e:(j:Int) < (x.ks.length:Int):=by omega
  have h0: 0<=(j:Int):=by omega
  by_cases s:k < 0\/k>=(i:Int)
  .have v:(x.ks.any λk=>decide (k < 0) || decide (k>=(i:Int)))=true:=OU.2 ⟨k,Nh m,by simpa using s⟩;have w:(decide (k < 0) || decide (k>=(i:Int)))=true:=by simpa using s
   unfold cP;rw [v,if_pos rfl];refine ah ?_;rw [oZ];simp only [bu,bA,bG,bt,↓reduceIte,e,h0,and_self,decide_true,aD,bC m,fi,w]
  .have w:(decide (k < 0) || decide (k>=(i:Int)))=false:=by simp;omega
   have G: 0<=k/\k < (ss.length:Int):=by omega
   have H:(enc ss)[k.toNat]? =some [ti (ss.getD k.toNat 0)]:=eO (by rw [Na,Nc (by omega)];rfl);have L:=M (j+1) (acc++ [ss.getD k.toNat 0]) F (by omega) (by simp [p]) (by simp) (λy D=>by
    rw [Pj,m] at D;rcases Nq.1 D with h | h
    .exact q y h
    .simp at h;subst h;omega) (by rw [Pj,m,Pf,<-o];rfl)
   refine ah ?_;rw [oZ];simp only [bu,bA,bG,bt,bB,↓reduceIte,e,h0,and_self,decide_true,aD,bC m,fi,w,G,H,Nk,cS (show acc.length+1<=1000000 by omega),Oc,ez,next j (by omega)];exact L
theorem Jm{x:Nd}{i:Nat}{ss:List Int}{es:Bool}(F:x.op≠9)(v: 0<=dF x.op->(x.ks.length:Int)=dF x.op)(j: 1<=x.op/\x.op<=25)(w:x.ks.length<=8)(z:ss.length=i):
  Or hZ [I (i:Int),ad es ss,r0,r1,AV.t (T.af true),ad x.ek x.ks,I (x.ks.length:Int),I 0] [ab.box [I x.op,ad x.ek x.ks,I x.n,I x.d,AV.t (T.str x.nm)],ab.box [AV.t (T.str s0),AV.t (T.af true),I 0]]=some [ti (cP x (i:Int) ss [] 0).1,ti (cP x (i:Int) ss [] 0).2]:=by
 cases a:x.ks with
 | nil=>
  have b:=uw x;have c:=ux x;rw [a] at b c;unfold cP;rw [a,List.any_nil,if_neg (by decide),Oe];cases q:eX x with
  | false=>rw [q] at b;rw [if_pos rfl];refine ah ?_;rw [oX];simp only [aj,↓reduceIte,Int.reduceBEq,Int.reduceEq,Nw,NK,NO,decide_false,b,Nb]
  | true=>
  rw [q] at b;rw [if_neg (by decide)];cases m:eB x with
  | false=>rw [m] at c;rw [if_pos rfl];refine ah ?_;rw [oX];simp only [aj,↓reduceIte,Int.reduceBEq,Int.reduceEq,Nw,NK,NO,decide_false,b,M8,c,Nb]
  | true=>
  rw [m] at c;rw [if_neg (by decide)];have e:=uy (op:=x.op) (ek:=x.ek) (ks:=enc []) (n:=x.n) (d:=x.d) (nm:=x.nm) (es:=true) (l:= []) (dn:=s0) (ea:=true) (da:= []) (so:=0) j (by simp) (λ_ h=>by have:=v h;rw [a] at this;exact this) (λh=>by have:=rv m h;omega);replace e:Or (.call 84) [AV.agg [I x.op,AV.t (T.ad 1 x.ek (enc [])),I x.n,I x.d,AV.t (T.str x.nm)],AV.t (T.ad 1 true []),AV.agg [AV.t (T.str s0),AV.t (T.ad 1 true []),I 0]] []=_:=e;by_cases f:aY x.op x.d [] [] 0=0
  .rw [f] at e;rw [if_pos f];refine ah ?_;rw [oX];simp only [aj,↓reduceIte,Int.reduceBEq,Int.reduceEq,Nw,NK,NO,decide_false,b,M8,c,e]
  .have B:(aY x.op x.d [] [] 0==0)=false:=by simpa using f
   rw [if_neg f];refine ah ?_;rw [oX];simp only [aj,↓reduceIte,Int.reduceBEq,Int.reduceEq,Nw,NK,NO,decide_false,b,M8,c,e,f,B]
 | cons k r=>
  have u:(0:Int) < (((k::r).length:Nat):Int):=by simp
  have h0:(0:Int)<=0:=by omega
  have s:(enc (k::r))[(0:Int).toNat]? =some [ti k]:=rfl;have G:i64.wrap (0+1)= ((1:Nat):Int):=by decide
  by_cases g:k < 0\/k>=(i:Int)
  .have C:(x.ks.any λk=>decide (k < 0) || decide (k>=(i:Int)))=true:=OU.2 ⟨k,by rw [a];exact M3,by simpa using g⟩;have o:(decide (k < 0) || decide (k>=(i:Int)))=true:=by simpa using g
   unfold cP;rw [C,if_pos rfl];refine ah ?_;rw [oX];simp only [bu,bA,bG,bt,↓reduceIte,u,h0,and_self,decide_true,aD,s,fi,o]
  .have o:(decide (k < 0) || decide (k>=(i:Int)))=false:=by simp;omega
   have D: 0<=k/\k < (ss.length:Int):=by omega
   have E:(enc ss)[k.toNat]? =some [ti (ss.getD k.toNat 0)]:=eO (by rw [Na,Nc (by omega)];rfl);have A:=Jl (x:=x) (i:=i) (ss:=ss) (es:=es) F v j w z r 1 [ss.getD k.toNat 0] (by rw [a];rfl) (by rw [a];simp) rfl (by simp) (λy p=>by rw [a] at p;simp at p;subst p;omega) (by rw [a];rfl);rw [a] at A;refine ah ?_;rw [oX];simp only [bu,bA,bG,bt,bB,↓reduceIte,u,h0,and_self,decide_true,aD,s,fi,o,D,E,Oc,G];exact A
theorem td{nm:ByteArray}:∀{i:Nat} {ds:List Dc},0<=gO nm i ds->∃j d,gO nm i ds= ((i+j:Nat):Int)/\ds[j]? =some d/\d.nm=nm
 | i,[],h=>by simp [gO] at h
 | i,d::r,h=>by
  rw [gO] at h⊢;split
  .rename_i e;exact⟨0,d,rfl,rfl,e⟩
  .rename_i e;rw [if_neg e] at h;obtain⟨j,a,b,c,f⟩:=td h;exact⟨j+1,a,by rw [b];congr 1;omega,c,f⟩
theorem DS{a:As}{x:Nd}{i:Nat}{ss:List Int}{es:Bool}(f:a.ns[i]? =some x)(A:a.ds.length<=100)(s:ss.length=i):
  Or (.call 41) [AG a,I (i:Int),ad es ss] []=some [ti (bT a.ds x (i:Int) ss).1,ti (bT a.ds x (i:Int) ss).2]:=by
 have o: 0<=(i:Int)/\(i:Int) < (a.ns.length:Int):=by have:=(M5.1 f).1;omega
 unfold bT;by_cases t:x.op < 1\/25 < x.op
 .have c:(decide (x.op < 1) || decide (x.op > 25))=true:=by simpa using t
  rw [if_pos t];refine ah ?_;rw [oV];simp only [bu,bA,cC,bG,dP,eT,bt,↓reduceIte,o,and_self,cK,ew f,fi,c]
 have c:(decide (x.op < 1) || decide (x.op > 25))=false:=by simp;omega
 have p: 1<=x.op/\x.op<=25:=by omega
 rw [if_neg t];have b:=Lm p;by_cases m:x.op=9
 .have k:(x.op==9)=true:=by simpa using m
  have g:=rP (ed:=a.ed) (en:=a.en) (eh:=a.eh) (ns:=a.ns) (hs:=a.hs) (nm:=x.nm) A;rw [if_pos m];by_cases l:bf a.ds x.nm < 0
  .have q:=decide_eq_true l;rw [if_pos l];refine ah ?_;rw [oV];simp only [bu,bA,cC,bG,dP,eT,bt,bB,↓reduceIte,o,and_self,cK,ew f,fi,c,b,k,g,q]
  .rw [if_neg l];obtain⟨j,d,v,r,F⟩:=td (nm:=x.nm) (i:=0) (ds:=a.ds) (by unfold bf at l;omega);have B:bf a.ds x.nm= ((j:Nat):Int):=by unfold bf;rw [v,NF]
   have E:a.ds.getD (bf a.ds x.nm).toNat ⟨s0,true,[],0⟩=d:=by rw [B,NM,Na,r];rfl
   rw [E];rw [B] at g l;have q:=decide_eq_false l;have z: 0<=(j:Int)/\(j:Int) < (a.ds.length:Int):=by have:=(M5.1 r).1;omega
   by_cases c3:x.ks.length≠d.ar.length\/8 < x.ks.length
   .have e:((!((x.ks.length:Int)== (d.ar.length:Int))) || decide ((x.ks.length:Int) > 8))=true:=by
     rcases c3 with h | h
     .have:((x.ks.length:Int)== (d.ar.length:Int))=false:=by simp;omega
      rw [this];rfl
     .have:(x.ks.length:Int) > 8:=by omega
      rw [decide_eq_true this,Bool.or_true]
    rw [if_pos c3];refine ah ?_;rw [oV];simp only [bu,bA,cC,bG,dP,eT,bt,bB,↓reduceIte,o,and_self,cK,ew f,fi,c,b,k,g,q,z,ca,dv r,aD,e]
   .have e:((!((x.ks.length:Int)== (d.ar.length:Int))) || decide ((x.ks.length:Int) > 8))=false:=by
     have D:((x.ks.length:Int)== (d.ar.length:Int))=true:=by simp;omega
     have w:¬(x.ks.length:Int) > 8:=by omega
     rw [D,decide_eq_false w];rfl
    have y:=Jk (x:=x) (i:=i) (ss:=ss) (es:=es) (dn:=d.nm) (ea:=d.ea) (da:=d.ar) (so:=d.so) m p (by omega) s;rw [if_neg c3];refine ah ?_;rw [oV];simp only [bu,bA,cC,bG,dP,eT,bt,bB,↓reduceIte,o,and_self,cK,ew f,fi,c,b,k,g,q,z,ca,dv r,aD,e];exact y
 .have k:(x.op==9)=false:=by simpa using m
  rw [if_neg m];by_cases c3:(0<=dF x.op/\(x.ks.length:Int)≠dF x.op)\/8 < x.ks.length
  .have e:((decide (dF x.op>=0) && !((x.ks.length:Int)==dF x.op)) || decide ((x.ks.length:Int) > 8))=true:=by
    rcases c3 with⟨h,C⟩ | h
    .have u:((x.ks.length:Int)==dF x.op)=false:=by simpa using C
     have v:dF x.op>=0:=h;rw [u,decide_eq_true v];rfl
    .have:(x.ks.length:Int) > 8:=by omega
     rw [decide_eq_true this,Bool.or_true]
   rw [if_pos c3];refine ah ?_;rw [oV];simp only [bu,bA,cC,bG,dP,eT,bt,bB,↓reduceIte,o,and_self,cK,ew f,fi,fZ,c,b,k,aD,e]
  .have e:((decide (dF x.op>=0) && !((x.ks.length:Int)==dF x.op)) || decide ((x.ks.length:Int) > 8))=false:=by
    have w:¬(x.ks.length:Int) > 8:=by omega
    rw [decide_eq_false w,Bool.or_false];by_cases h: 0<=dF x.op
    .have u:((x.ks.length:Int)==dF x.op)=true:=by simp;omega
     rw [u];simp
    .have:¬dF x.op>=0:=h;rw [decide_eq_false this];rfl
   have y:=Jm (x:=x) (i:=i) (ss:=ss) (es:=es) m (λh=>by omega) p (by omega) s;rw [if_neg c3];refine ah ?_;rw [oV];simp only [bu,bA,cC,bG,dP,eT,bt,bB,↓reduceIte,o,and_self,cK,ew f,fi,fZ,c,b,k,aD,e];exact y
open Go Go.Aev Go.IntKind
def dH(ds:List Dc):List Nd->Nat->List Int->List Int×Int×Int
 | [],_,ss=>(ss,0,0)
 | x::r,i,ss=>if(bT ds x (i:Int) ss).2=0 then dH ds r (i+1) (ss++ [(bT ds x (i:Int) ss).1]) else([],(bT ds x (i:Int) ss).2,(i:Int))
def dZ(ss:List Int):List Int->Nat->Int×Int
 | [],_=>(0,0)
 | k::r,j=>if k < 0\/(ss.length:Int)<=k then(3,(j:Int)) else if ss.getD k.toNat 0≠1 then(8,(j:Int)) else dZ ss r (j+1)
def hF(a:As)(q:List Int×Int×Int):List Int×Int×Int:=
 if q.2.1≠0 then([],q.2.1,q.2.2)
 else if 200 < a.hs.length then([],2,0)
 else if(dZ q.1 a.hs 0).1≠0 then([],(dZ q.1 a.hs 0).1,(dZ q.1 a.hs 0).2)
 else(q.1,0,0)
def br(a:As):List Int×Int×Int:=
 if 30 < a.ds.length then([],2,0)
 else if(dY [] 0 a.ds).1≠0 then([],(dY [] 0 a.ds).1,(dY [] 0 a.ds).2)
 else if 200 < a.ns.length then([],2,0)
 else hF a (dH a.ds a.ns 0 [])
abbrev R3(x:T)(q:List Int×Int×Int):Option (List T):=some [x,ti q.2.1,ti q.2.2]
theorem IT{ss:List Int}{e:Bool}{hs:List Int}(hl:hs.length<=1000):∀(r:List Int) (j:Nat),hs.drop j=r->
  ∃x,Or l0 [r0,o1,ad e hs,I (hs.length:Int),I (j:Int)] [nb,ab.sl false 1 false (enc ss)]=some [x,ti (dZ ss r j).1,ti (dZ ss r j).2]/\((dZ ss r j).1=0->x=T.ad 1 false (enc ss))/\((dZ ss r j).1≠0->x=T.af true):=by
 intro r;induction r with
 | nil=>
  intro j g;have a:¬(j:Int) < (hs.length:Int):=by have:=bx g;omega
  refine⟨T.ad 1 false (enc ss),ah ?_,λ_=>rfl,λh=>absurd rfl h⟩;rw [sR];simp only [aj,↓reduceIte,Int.reduceBEq,Int.reduceEq,a,dZ]
 | cons k r q=>
  intro j g;obtain⟨l,v,p⟩:=bz g;have a:(j:Int) < (hs.length:Int):=by omega
  have h0: 0<=(j:Int):=by omega
  rw [dZ];by_cases i:k < 0\/(ss.length:Int)<=k
  .have b:(decide (k < 0) || decide (k>=(ss.length:Int)))=true:=by simpa using i
   rw [if_pos i];refine⟨T.af true,ah ?_,λh=>absurd (show(3:Int)=0 from h) (by decide),λ_=>rfl⟩;rw [sR];simp only [bu,bA,bG,bt,bB,↓reduceIte,a,h0,and_self,decide_true,aD,bC l,fi,b]
  .have b:(decide (k < 0) || decide (k>=(ss.length:Int)))=false:=by simp;omega
   have m: 0<=k/\k < (ss.length:Int):=by omega
   have o:(enc ss)[k.toNat]? =some [ti (ss.getD k.toNat 0)]:=eO (by rw [Na,Nc (by omega)];rfl);rw [if_neg i];by_cases c:ss.getD k.toNat 0=1
   .have f:(ss.getD k.toNat 0==1)=true:=by simpa using c
    obtain⟨x,s,t,u⟩:=q (j+1) p;rw [if_neg (by simpa using c)];refine⟨x,ah ?_,t,u⟩;rw [sR];simp only [bu,bA,bG,bt,bB,↓reduceIte,a,h0,and_self,decide_true,aD,bC l,fi,b,m,o,f,M8,next j (by omega)];exact s
   .have f:(ss.getD k.toNat 0==1)=false:=by simpa using c
    rw [if_pos c];refine⟨T.af true,ah ?_,λh=>absurd (show(8:Int)=0 from h) (by decide),λ_=>rfl⟩;rw [sR];simp only [bu,bA,bG,bt,bB,↓reduceIte,a,h0,and_self,decide_true,aD,bC l,fi,b,m,o,f,Nb]
theorem IS{a:As}(t:a.ds.length<=100)(D:a.ns.length<=200):∀(r:List Nd) (i:Nat) (ss:List Int),a.ns.drop i=r->i<=a.ns.length->ss.length=i->ss≠[]->
  ∃x,Or nn [r0,r1,o2,I (a.ns.length:Int),I (i:Int)] [gI a,nb,ab.sl false 1 false (enc ss)]=R3 x (hF a (dH a.ds r i ss))/\x.au 1=some ((hF a (dH a.ds r i ss)).1.isEmpty,enc (hF a (dH a.ds r i ss)).1):=by
 intro r;induction r with
 | nil=>
  intro i ss g z hs o;have f:¬(i:Int) < (a.ns.length:Int):=by have:=bx g;omega
  rw [dH];unfold hF;rw [if_neg (by simp)];by_cases c: 200 < a.hs.length
  .have b:(a.hs.length:Int) > 200:=by omega
   rw [if_pos c];refine⟨T.af true,ah ?_,rfl⟩;rw [qD];simp only [aj,↓reduceIte,Int.reduceBEq,Int.reduceEq,f,aD,b]
  .have b:¬(a.hs.length:Int) > 200:=by omega
   rw [if_neg c];obtain⟨x,m,s,C⟩:=IT (ss:=ss) (e:=a.eh) (hs:=a.hs) (by omega) a.hs 0 rfl;by_cases l:(dZ ss a.hs 0).1=0
   .rw [if_neg (by simpa using l)];have u:dZ ss a.hs 0= (0,0):=by
     have:∀(r:List Int) (j:Nat),(dZ ss r j).1=0->dZ ss r j= (0,0):=by
      intro r;induction r with
      | nil=>intro j _;rfl
      | cons k r q=>
       intro j h;rw [dZ] at h⊢;split at h
       .exact absurd (show(3:Int)=0 from h) (by decide)
       .rename_i A;rw [if_neg A];split at h
        .exact absurd (show(8:Int)=0 from h) (by decide)
        .rename_i B;rw [if_neg B];exact q _ h
     exact this _ _ l
    refine⟨x,ah ?_, ?_⟩
    .rw [qD];simp only [aj,↓reduceIte,Int.reduceBEq,Int.reduceEq,f,aD,b];rw [u] at m;exact m
    .rw [s l,dP];cases ss with
     | nil=>exact absurd rfl o
     | cons=>rfl
   .rw [if_pos l];refine⟨x,ah ?_,by rw [C l];rfl⟩;rw [qD];simp only [aj,↓reduceIte,Int.reduceBEq,Int.reduceEq,f,aD,b];exact m
 | cons x r q=>
  intro i ss g z hs o;obtain⟨v,E,w⟩:=bz g;have f:(i:Int) < (a.ns.length:Int):=by omega
  have p:=DS (a:=a) (es:=false) v t hs;rw [dH];by_cases c:(bT a.ds x (i:Int) ss).2=0
  .have b:((bT a.ds x (i:Int) ss).2==0)=true:=by simpa using c
   obtain⟨y,m,s⟩:=q (i+1) (ss++ [(bT a.ds x (i:Int) ss).1]) w (by omega) (by simp [hs]) (by simp);rw [if_pos c];refine⟨y,ah ?_,s⟩;rw [qD];simp only [bu,bA,cC,bG,bt,bB,↓reduceIte,f,decide_true,p,b,M8,aD,Nk,cS (show ss.length+1<=1000000 by omega),Oc,ez,next i (by omega)];exact m
  .have b:((bT a.ds x (i:Int) ss).2==0)=false:=by simpa using c
   rw [if_neg c];unfold hF;rw [if_pos c];refine⟨T.af true,ah ?_,rfl⟩;rw [qD];simp only [bu,bA,cC,bG,bt,bB,↓reduceIte,f,decide_true,p,b,Nb]
theorem xV{a:As}(D:∀d∈a.ds,d.nm.size<=9223372036854775807):∃x,Or (.call 15) [AG a] []=R3 x (br a)/\x.au 1=some ((br a).1.isEmpty,enc (br a).1):=by
 have b:=K6 (e:=a.ed) D;unfold br;by_cases l: 30 < a.ds.length
 .rw [if_pos l] at b;rw [if_pos l];refine⟨T.af true,ah ?_,rfl⟩;rw [sQ];simp only [aj,↓reduceIte,Int.reduceBEq,Int.reduceEq,b,Nb]
 rw [if_neg l] at b;rw [if_neg l];by_cases m:(dY [] 0 a.ds).1=0
 .have j:((dY [] 0 a.ds).1==0)=true:=by simpa using m
  rw [if_neg (by simpa using m)];by_cases c3: 200 < a.ns.length
  .have s:((a.ns.length:Int) > 200):=by omega
   rw [if_pos c3];refine⟨T.af true,ah ?_,rfl⟩;rw [sQ];simp only [bu,bA,cC,bG,bt,bB,↓reduceIte,b,j,M8,cK,s,decide_true]
  .have s:¬((a.ns.length:Int) > 200):=by omega
   rw [if_neg c3];have w:∃x,Or nn [r0,r1,AV.t (T.af true),I (a.ns.length:Int),I 0] [gI a,nb]=R3 x (hF a (dH a.ds a.ns 0 []))/\x.au 1=some ((hF a (dH a.ds a.ns 0 [])).1.isEmpty,enc (hF a (dH a.ds a.ns 0 [])).1):=by
    cases g:a.ns with
    | nil=>
     rw [dH];unfold hF;rw [if_neg (by simp)];by_cases f: 200 < a.hs.length
     .have c:(a.hs.length:Int) > 200:=by omega
      rw [if_pos f];refine⟨T.af true,ah ?_,rfl⟩;rw [qC];simp only [aj,↓reduceIte,Int.reduceBEq,Int.reduceEq,Nw,NK,NO,decide_false,aD,c]
     .have c:¬(a.hs.length:Int) > 200:=by omega
      rw [if_neg f];cases p:a.hs with
      | nil=>
       refine⟨T.af true,ah ?_,rfl⟩;have u:Or l0 [r0,AV.t (T.af true),ad a.eh [],I 0,I 0] [nb]=some [T.af true,ti 0,ti 0]:=by refine ah ?_;rw [zE];simp only [aj,↓reduceIte,Int.reduceBEq,Int.reduceEq,NO,decide_false]
       rw [p] at c;rw [qC];simp only [aj,↓reduceIte,Int.reduceBEq,Int.reduceEq,Nw,NK,NO,decide_false,aD,p];exact u
      | cons k r=>
       have B:dZ [] (k::r) 0= (3,0):=by rw [dZ,if_pos (by simp;omega)];rfl
       rw [B,if_pos (by decide)];refine⟨T.af true,ah ?_,rfl⟩;have o:(0:Int) < (((k::r).length:Nat):Int):=by simp
       have h0:(0:Int)<=0:=by omega
       have C:(enc (k::r))[(0:Int).toNat]? =some [ti k]:=rfl;have A:(decide (k < 0) || decide (k>=0))=true:=by simp;omega
       have u:Or l0 [r0,AV.t (T.af true),ad a.eh (k::r),I (((k::r).length:Nat):Int),I 0] [nb]=some [T.af true,ti 3,ti 0]:=by refine ah ?_;rw [zE];simp only [bu,bA,bG,bt,bB,↓reduceIte,o,h0,and_self,decide_true,aD,C,fi,A]
       rw [p] at c;rw [qC];simp only [aj,↓reduceIte,Int.reduceBEq,Int.reduceEq,Nw,NK,NO,decide_false,aD,p,c];exact u
    | cons y r=>
     have E:a.ns[0]? =some y:=by rw [g];rfl
     have h:=DS (a:=a) (i:=0) (ss:= []) (es:=true) E (by omega) rfl;replace h:Or (.call 41) [AG a,I 0,AV.t (T.ad 1 true [])] []=some [ti (bT a.ds y 0 []).1,ti (bT a.ds y 0 []).2]:=h;have o:(0:Int) < (((y::r).length:Nat):Int):=by simp
     have F:i64.wrap (0+1)= ((1:Nat):Int):=by decide
     rw [dH];by_cases f:(bT a.ds y 0 []).2=0
     .have c:((bT a.ds y 0 []).2==0)=true:=by simpa using f
      obtain⟨z,q,v⟩:=IS (a:=a) (by omega) (by omega) r 1 [(bT a.ds y 0 []).1] (by rw [g];rfl) (by rw [g];simp) rfl (by simp);rw [if_pos (show(bT a.ds y ((0:Nat):Int) []).2=0 from f)];refine⟨z,ah ?_,v⟩;rw [qC];rw [g] at q;simp only [bu,bA,cC,bG,bt,bB,↓reduceIte,o,decide_true,h,c,M8,Oc,F];exact q
     .have c:((bT a.ds y 0 []).2==0)=false:=by simpa using f
      rw [if_neg (show ¬(bT a.ds y ((0:Nat):Int) []).2=0 from f)];unfold hF;rw [if_pos (show(bT a.ds y ((0:Nat):Int) []).2≠0 from f)];refine⟨T.af true,ah ?_,rfl⟩;rw [qC];simp only [bu,bA,cC,bG,bt,bB,↓reduceIte,o,decide_true,h,c,Nb];rfl
   obtain⟨x,q,v⟩:=w;refine⟨x,ah ?_,v⟩;rw [sQ];simp only [bu,bA,cC,bG,bt,bB,↓reduceIte,b,j,M8,cK,s,decide_false];exact q
 .have j:((dY [] 0 a.ds).1==0)=false:=by simpa using m
  rw [if_pos m];refine⟨T.af true,ah ?_,rfl⟩;rw [sQ];simp only [bu,bA,cC,bG,bt,bB,↓reduceIte,b,j,Nb]
open Go Go.Aev Go.IntKind
theorem vt{e:List Dc}{d:Dc}(h:eW e d=0):d.nm.size<=12/\d.ar.length<=8/\(∀s∈d.ar,s=4)/\iO d.nm=true/\lB d.so=true/\(e.any λx=>decide (x.nm=d.nm))=false/\(d.so=5->d.ar= []):=by
 unfold eW at h;split at h
 .cases h
 rename_i i;split at h
 .cases h
 rename_i j;split at h
 .cases h
 rename_i l;split at h
 .cases h
 rename_i f;have g:iO d.nm=true:=by simpa using i
 refine⟨?_,by omega,λs hs=> ?_,g, ?_,by simpa using j,λk=> ?_⟩
 .unfold iO at g;simp only [M7,decide_eq_true_eq] at g;omega
 .have:(d.ar.any λs=> !(s==4))=false:=by
   cases c:d.ar.any λs=> !(s==4) with
   | false=>rfl
   | true=>exact absurd (.inr (.inl c)) f
  rw [NV] at this;have:=this s hs;simpa using this
 .cases c:lB d.so with
  | true=>rfl
  | false=>exact absurd (.inl c) f
 .cases c:d.ar with
  | nil=>rfl
  | cons a b=>exact absurd (.inr (.inr ⟨k,by rw [c];simp⟩)) f
theorem vo:∀{r:List Dc} {a:List Dc} {i:Nat},(dY a i r).1=0->∀(j:Nat) (d:Dc),r[j]? =some d->eW (a++r.take j) d=0
 | [],_,_,_,j,d,h=>by simp at h
 | x::r,a,i,h,j,d,b=>by
  rw [dY] at h;split at h
  .rename_i h0;cases j with
   | zero=>simp at b;subst b;simpa using h0
   | succ j=>have:=vo h j d (by simpa using b);simpa using this
  .rename_i h0;exact absurd h h0
theorem BF{ss:List Int}:∀{r:List Int} {j:Nat},(dZ ss r j).1=0->∀k∈r,0<=k/\ss[k.toNat]? =some 1
 | [],_,_,k,h=>by cases h
 | x::r,j,h,k,b=>by
  rw [dZ] at h;split at h
  .exact absurd (show(3:Int)=0 from h) (by decide)
  rename_i e;split at h
  .exact absurd (show(8:Int)=0 from h) (by decide)
  rename_i c;rcases Nj.1 b with rfl | b
  .refine⟨by omega, ?_⟩;have a:ss.getD k.toNat 0=1:=by simpa using c
   rw [Na] at a;rw [Nc (by omega)] at a⊢;exact congrArg some a
  .exact BF h k b
theorem uC{ds:List Dc}:∀{r:List Nd} {i:Nat} {ss:List Int},ss.length=i->(dH ds r i ss).2.1=0->
  ∃t,dH ds r i ss= (ss++t,0,0)/\t.length=r.length/\∀(j:Nat) (x:Nd),r[j]? =some x->(bT ds x ((i+j:Nat):Int) (ss++t.take j)).2=0/\t[j]? =some (bT ds x ((i+j:Nat):Int) (ss++t.take j)).1
 | [],i,ss,hs,_=>⟨[],by rw [dH,Nz],rfl,λj x h=>by simp at h⟩
 | y::r,i,ss,hs,h=>by
  rw [dH] at h⊢;split at h
  .rename_i h0;rw [if_pos h0];obtain⟨t,b,c,e⟩:=uC (r:=r) (i:=i+1) (ss:=ss++ [(bT ds y (i:Int) ss).1]) (by simp [hs]) h;refine⟨(bT ds y (i:Int) ss).1::t,by rw [b];simp,by simp [c],λj x a=> ?_⟩;cases j with
   | zero=>simp at a;subst a;simp [h0]
   | succ j=>have:=e j x (by simpa using a);rw [show i+1+j=i+ (j+1) by omega] at this;simpa using this
  .rename_i h0;exact absurd h h0
theorem nN{x:Nd}{i:Int}{ss da:List Int}{so:Int}(h:(cP x i ss da so).2=0):
  (∀k∈x.ks,0<=k/\k < i)/\eX x=true/\eB x=true/\(cP x i ss da so).1=aY x.op x.d (x.ks.map λk=>ss.getD k.toNat 0) da so/\aY x.op x.d (x.ks.map λk=>ss.getD k.toNat 0) da so≠0:=by
 unfold cP at h⊢;split at h
 .exact absurd (show(3:Int)=0 from h) (by decide)
 rename_i a;split at h
 .exact absurd (show(5:Int)=0 from h) (by decide)
 rename_i b;split at h
 .exact absurd (show(3:Int)=0 from h) (by decide)
 rename_i c;split at h
 .exact absurd (show(8:Int)=0 from h) (by decide)
 rename_i e;rw [if_neg a,if_neg b,if_neg c,if_neg e];refine⟨λk g=> ?_,by simpa using b,by simpa using c,rfl,e⟩;have f:(x.ks.any λk=>decide (k < 0) || decide (k>=i))=false:=by simpa using a
 rw [NV] at f;have:=f k g;simp at this;omega
theorem wq{x:Nd}(b:eX x=true)(a:eB x=true):(-1000000<=x.n/\x.n<=1000000)/\(-1000000<=x.d/\x.d<=1000000)/\(x.nm=s0\/x.op=9):=by
 unfold eX at b;simp only [M7,NS,decide_eq_true_eq,beq_iff_eq] at b;obtain⟨⟨e,i⟩,j⟩:=b;refine⟨?_, ?_,e⟩ <;>
 .unfold eB at a;split at a
  .unfold rK at a;simp only [M7,decide_eq_true_eq] at a;omega
  rename_i g;split at a
  .simp only [M7,decide_eq_true_eq] at a;rename_i c;have k:i64.wrap (1 * 2 ^ min x.d.toNat 64)<=256:=by
    have f:x.d.toNat=1\/x.d.toNat=2\/x.d.toNat=3\/x.d.toNat=4\/x.d.toNat=5\/x.d.toNat=6\/x.d.toNat=7\/x.d.toNat=8:=by omega
    rcases f with h | h | h | h | h | h | h | h <;> rw [h] <;> decide
   omega
  rename_i c;split at a
  .simp only [M7,decide_eq_true_eq] at a;omega
  rename_i c3;omega
theorem rC{s:Int}(h:pN s=true):aF s=false:=by unfold pN at h;simp only [NS,beq_iff_eq] at h;rcases h with rfl | rfl <;> rfl
theorem tU{s:Int}(h:pB s=true):aF s=false:=by unfold pB at h;simp only [beq_iff_eq] at h;subst h;rfl
theorem JN{c:Cx}{x:Nd}{i:Nat}{pre:List Int}(hpre:pre.length=i)(Q:∀k,k < i->c.ss[k]? =pre[k]?)(Y:∀d∈c.ds,d.nm.size<=12/\d.ar.length<=8/\∀s∈d.ar,s=4)(h:(bT c.ds x (i:Int) pre).2=0):kR c i x (bT c.ds x (i:Int) pre).1:=by
 unfold bT at h⊢;by_cases U:x.op < 1\/25 < x.op
 .rw [if_pos U] at h;exact absurd (show(4:Int)=0 from h) (by decide)
 rw [if_neg U] at h⊢;have p: 1<=x.op/\x.op<=25:=by omega
 have B:∀k,0<=k->k < (i:Int)->KW c i k (pre.getD k.toNat 0):=λk h1 K=>⟨h1,K,by
  rw [Q k.toNat (by omega),Na,Nc (by omega)];rfl⟩
 by_cases J:x.op=9
 .rw [if_pos J] at h⊢;by_cases N:bf c.ds x.nm < 0
  .rw [if_pos N] at h;exact absurd (show(6:Int)=0 from h) (by decide)
  rw [if_neg N] at h⊢;by_cases c3:(x.ks.length≠((c.ds.getD (bf c.ds x.nm).toNat ⟨s0,true,[],0⟩).ar).length)\/8 < x.ks.length
  .rw [if_pos c3] at h;exact absurd (show(9:Int)=0 from h) (by decide)
  rw [if_neg c3] at h⊢;obtain⟨j,d,h3,X,h5⟩:=td (nm:=x.nm) (i:=0) (ds:=c.ds) (by unfold bf at N;omega);have hf:bf c.ds x.nm= ((j:Nat):Int):=by unfold bf;rw [h3,NF]
  have P:c.ds.getD (bf c.ds x.nm).toNat ⟨s0,true,[],0⟩=d:=by rw [hf,NM,Na,X];rfl
  rw [P] at h c3⊢;obtain⟨m,S,I,M,g⟩:=nN h;rw [M];obtain⟨y,z,W⟩:=wq S I;obtain⟨d1,d2,d3⟩:=Y d (Nh X);have es:aY x.op x.d (x.ks.map λk=>pre.getD k.toNat 0) d.ar d.so=if(x.ks.map λk=>pre.getD k.toNat 0)=d.ar then d.so else 0:=by rw [J];rfl
  rw [es] at g⊢;by_cases e:(x.ks.map λk=>pre.getD k.toNat 0)=d.ar
  .have Z:∀k∈x.ks,∃s',KW c i k s'/\aF s'=false:=λk A=>by
    refine⟨_,B k (m k A).1 (m k A).2, ?_⟩;have:pre.getD k.toNat 0=4:=d3 _ (by rw [<-e];exact NG.2 ⟨k,A,rfl⟩);rw [this];rfl
   exact⟨p,by omega,y,z,by rw [<-h5];exact d1,λk A=>⟨_,B k (m k A).1 (m k A).2⟩,by omega,by omega,by omega,by omega,by omega,by omega,by omega,by omega,λ_ _ _=>⟨λe=>absurd J e,Z⟩⟩
  .rw [if_neg e] at g;exact absurd rfl g
 .rw [if_neg J] at h⊢;by_cases c3:(0<=dF x.op/\(x.ks.length:Int)≠dF x.op)\/8 < x.ks.length
  .rw [if_pos c3] at h;exact absurd (show(9:Int)=0 from h) (by decide)
  rw [if_neg c3] at h⊢;obtain⟨m,S,I,M,g⟩:=nN h;rw [M];obtain⟨y,z,W⟩:=wq S I;have t:x.nm.size<=12:=by
   rcases W with e | e
   .rw [e];decide
   .exact absurd e J
  have q:∀k∈x.ks,∃s',KW c i k s':=λk A=>⟨_,B k (m k A).1 (m k A).2⟩;have r:x.ks.length<=8:=by omega
  have u: 0<=dF x.op->(x.ks.length:Int)=dF x.op:=λe=>by omega
  have l:(∀s∈(x.ks.map λk=>pre.getD k.toNat 0),aF s=false)->∀k∈x.ks,∃s',KW c i k s'/\aF s'=false:=λO k A=>⟨_,B k (m k A).1 (m k A).2,O _ (NG.2 ⟨k,A,rfl⟩)⟩;have E:(x.ks.length:Int)=0->x.ks= []:=λh=>Ny.1 (by omega);have F:(x.ks.length:Int)=1->∃a,x.ks= [a]:=λh=>OX.1 (by omega);have D:(x.ks.length:Int)=2->∃a b,x.ks= [a,b]:=λh=>by
   have K:x.ks.length=2:=by omega
   match hh:x.ks,K with
   | [a,b],_=>exact⟨a,b,rfl⟩
  have R:(x.ks.length:Int)=3->∃a b d,x.ks= [a,b,d]:=λh=>by
   have K:x.ks.length=3:=by omega
   match hh:x.ks,K with
   | [a,b,d],_=>exact⟨a,b,d,rfl⟩
  clear h M;rcases xw p with o | o | o | o | o | o | o | o | o | o | o | o | o | o | o | o | o | o | o | o | o | o | o | o | o
  ·
   have hl:(x.ks.length:Int)=0:=by have:=u (by rw [o];decide);rw [o] at this;exact this
   have G:=E hl;have es:aY x.op x.d (x.ks.map λk=>pre.getD k.toNat 0) [] 0=1:=by rw [o];rfl
   rw [es];exact⟨p,r,y,z,t,q,by omega,by omega,by omega,by omega,by omega,by omega,by omega,by omega,λ_ _ _=>⟨λ_=>rfl,λk A=>by rw [G] at A;cases A⟩⟩
  ·
   have hl:(x.ks.length:Int)=0:=by have:=u (by rw [o];decide);rw [o] at this;exact this
   have G:=E hl;have es:aY x.op x.d (x.ks.map λk=>pre.getD k.toNat 0) [] 0=1:=by rw [o];rfl
   rw [es];exact⟨p,r,y,z,t,q,by omega,by omega,by omega,by omega,by omega,by omega,by omega,by omega,λ_ _ _=>⟨λ_=>rfl,λk A=>by rw [G] at A;cases A⟩⟩
  ·
   have hl:(x.ks.length:Int)=1:=by have:=u (by rw [o];decide);rw [o] at this;exact this
   have es:aY x.op x.d (x.ks.map λk=>pre.getD k.toNat 0) [] 0=if(x.ks.map λk=>pre.getD k.toNat 0).all pB=true then 1 else 0:=by rw [o];rfl
   rw [es] at g⊢;cases v:(x.ks.map λk=>pre.getD k.toNat 0).all pB with
   | false=>rw [v] at g;exact absurd rfl g
   | true=>have C:=l (λs hs=>tU (Nt.1 v s hs));rw [if_pos rfl];exact⟨p,r,y,z,t,q,λ_=>by obtain⟨a,O⟩:=F hl;exact⟨a,[],O⟩,by omega,by omega,by omega,by omega,by omega,by omega,by omega,λ_ _ _=>⟨λ_=>rfl,C⟩⟩
  ·
   have es:aY x.op x.d (x.ks.map λk=>pre.getD k.toNat 0) [] 0=if(x.ks.map λk=>pre.getD k.toNat 0).all pB=true then 1 else 0:=by rw [o];rfl
   rw [es] at g⊢;cases v:(x.ks.map λk=>pre.getD k.toNat 0).all pB with
   | false=>rw [v] at g;exact absurd rfl g
   | true=>have C:=l (λs hs=>tU (Nt.1 v s hs));rw [if_pos rfl];exact⟨p,r,y,z,t,q,by omega,by omega,by omega,by omega,by omega,by omega,by omega,by omega,λ_ _ _=>⟨λ_=>rfl,C⟩⟩
  ·
   have es:aY x.op x.d (x.ks.map λk=>pre.getD k.toNat 0) [] 0=if(x.ks.map λk=>pre.getD k.toNat 0).all pB=true then 1 else 0:=by rw [o];rfl
   rw [es] at g⊢;cases v:(x.ks.map λk=>pre.getD k.toNat 0).all pB with
   | false=>rw [v] at g;exact absurd rfl g
   | true=>have C:=l (λs hs=>tU (Nt.1 v s hs));rw [if_pos rfl];exact⟨p,r,y,z,t,q,by omega,by omega,by omega,by omega,by omega,by omega,by omega,by omega,λ_ _ _=>⟨λ_=>rfl,C⟩⟩
  ·
   have hl:(x.ks.length:Int)=2:=by have:=u (by rw [o];decide);rw [o] at this;exact this
   have es:aY x.op x.d (x.ks.map λk=>pre.getD k.toNat 0) [] 0=if(x.ks.map λk=>pre.getD k.toNat 0).all pB=true then 1 else 0:=by rw [o];rfl
   rw [es] at g⊢;cases v:(x.ks.map λk=>pre.getD k.toNat 0).all pB with
   | false=>rw [v] at g;exact absurd rfl g
   | true=>have C:=l (λs hs=>tU (Nt.1 v s hs));rw [if_pos rfl];exact⟨p,r,y,z,t,q,by omega,by omega,by omega,by omega,by omega,by omega,by omega,by omega,λ_ _ _=>⟨λ_=>rfl,C⟩⟩
  ·
   have hl:(x.ks.length:Int)=3:=by have:=u (by rw [o];decide);rw [o] at this;exact this
   obtain⟨a,b,d,f⟩:=R hl;have es:aY x.op x.d (x.ks.map λk=>pre.getD k.toNat 0) [] 0=if pre.getD a.toNat 0=1/\pre.getD b.toNat 0=pre.getD d.toNat 0/\pre.getD b.toNat 0≠5 then pre.getD b.toNat 0 else 0:=by rw [o,f];rfl
   rw [es] at g⊢;by_cases e:pre.getD a.toNat 0=1/\pre.getD b.toNat 0=pre.getD d.toNat 0/\pre.getD b.toNat 0≠5
   .rw [if_pos e];have ka:=B a (m a (by rw [f];simp)).1 (m a (by rw [f];simp)).2;have kb:=B b (m b (by rw [f];simp)).1 (m b (by rw [f];simp)).2;have kd:=B d (m d (by rw [f];simp)).1 (m d (by rw [f];simp)).2;rw [e.1] at ka;rw [<-e.2.1] at kd;exact⟨p,r,y,z,t,q,by omega,λ_=>⟨a,b,d,f,ka,kb,kd⟩,by omega,by omega,by omega,by omega,by omega,by omega,λe=>absurd o e⟩
   .rw [if_neg e] at g;exact absurd rfl g
  ·
   have hl:(x.ks.length:Int)=2:=by have:=u (by rw [o];decide);rw [o] at this;exact this
   obtain⟨a,b,f⟩:=D hl;have ka:=B a (m a (by rw [f];simp)).1 (m a (by rw [f];simp)).2;have kb:=B b (m b (by rw [f];simp)).1 (m b (by rw [f];simp)).2;have es:aY x.op x.d (x.ks.map λk=>pre.getD k.toNat 0) [] 0=if(x.ks.map λk=>pre.getD k.toNat 0).all pN=true\/(pre.getD a.toNat 0=pre.getD b.toNat 0/\(pre.getD a.toNat 0=4\/aF (pre.getD a.toNat 0)=true)) then 1 else 0:=by rw [o,f];rfl
   rw [es] at g⊢;by_cases e:(x.ks.map λk=>pre.getD k.toNat 0).all pN=true\/(pre.getD a.toNat 0=pre.getD b.toNat 0/\(pre.getD a.toNat 0=4\/aF (pre.getD a.toNat 0)=true))
   .rw [if_pos e];have c8:aF 1=false/\∃a b s',x.ks= [a,b]/\((aF s'=true/\KW c i a s'/\KW c i b s')\/∀k∈x.ks,∃s',KW c i k s'/\aF s'=false):=by
     refine⟨rfl,a,b,pre.getD a.toNat 0,f, ?_⟩;rcases e with e | ⟨V,L | L⟩
     .exact .inr (l λs hs=>rC (Nt.1 e s hs))
     .right;intro k A;rw [f] at A;simp only [Nj,Ol,or_false] at A;rcases A with rfl | rfl
      .exact⟨_,ka,by rw [L];rfl⟩
      .exact⟨_,kb,by rw [<-V,L];rfl⟩
     .left;rw [<-V] at kb;exact⟨L,ka,kb⟩
    exact⟨p,r,y,z,t,q,by omega,by omega,λ_=>c8,by omega,by omega,by omega,by omega,by omega,λ_ e=>absurd o e⟩
   .rw [if_neg e] at g;exact absurd rfl g
  ·
   exact absurd o J
  ·
   have hl:(x.ks.length:Int)=0:=by have:=u (by rw [o];decide);rw [o] at this;exact this
   have G:=E hl;have es:aY x.op x.d (x.ks.map λk=>pre.getD k.toNat 0) [] 0=if x.d=1 then 2 else 3:=by rw [o];rfl
   rw [es];have H:aF (if x.d=1 then 2 else 3)=false:=by split <;> rfl
   exact⟨p,r,y,z,t,q,by omega,by omega,by omega,by omega,by omega,by omega,by omega,by omega,λ_ _ _=>⟨λ_=>H,λk A=>by rw [G] at A;cases A⟩⟩
  ·
   have es:aY x.op x.d (x.ks.map λk=>pre.getD k.toNat 0) [] 0=if(x.ks.map λk=>pre.getD k.toNat 0).all pN=true then(if(x.ks.map λk=>pre.getD k.toNat 0).all pI=true then 2 else 3) else 0:=by rw [o];rfl
   rw [es] at g⊢;cases v:(x.ks.map λk=>pre.getD k.toNat 0).all pN with
   | false=>rw [v] at g;exact absurd rfl g
   | true=>
    have C:=l (λs hs=>rC (Nt.1 v s hs));rw [if_pos rfl];have H:aF (if(x.ks.map λk=>pre.getD k.toNat 0).all pI=true then 2 else 3)=false:=by split <;> rfl
    exact⟨p,r,y,z,t,q,by omega,by omega,by omega,by omega,by omega,by omega,by omega,by omega,λ_ _ _=>⟨λ_=>H,C⟩⟩
  ·
   have hl:(x.ks.length:Int)=1:=by have:=u (by rw [o];decide);rw [o] at this;exact this
   obtain⟨a,f⟩:=F hl;have es:aY x.op x.d (x.ks.map λk=>pre.getD k.toNat 0) [] 0=if pN (pre.getD a.toNat 0)=true then(if pre.getD a.toNat 0=2/\x.d=1 then 2 else 3) else 0:=by rw [o,f];rfl
   rw [es] at g⊢;cases v:pN (pre.getD a.toNat 0) with
   | false=>rw [v] at g;exact absurd rfl g
   | true=>
    have C:=l (λs hs=>by rw [f] at hs;simp only [NH,Oe,Ng] at hs;subst hs;exact rC v);rw [if_pos rfl];have H:aF (if pre.getD a.toNat 0=2/\x.d=1 then 2 else 3)=false:=by split <;> rfl
    exact⟨p,r,y,z,t,q,by omega,by omega,by omega,by omega,by omega,by omega,by omega,by omega,λ_ _ _=>⟨λ_=>H,C⟩⟩
  ·
   have hl:(x.ks.length:Int)=2:=by have:=u (by rw [o];decide);rw [o] at this;exact this
   have es:aY x.op x.d (x.ks.map λk=>pre.getD k.toNat 0) [] 0=if(x.ks.map λk=>pre.getD k.toNat 0).all pN=true then 1 else 0:=by rw [o];rfl
   rw [es] at g⊢;cases v:(x.ks.map λk=>pre.getD k.toNat 0).all pN with
   | false=>rw [v] at g;exact absurd rfl g
   | true=>have C:=l (λs hs=>rC (Nt.1 v s hs));rw [if_pos rfl];exact⟨p,r,y,z,t,q,by omega,by omega,by omega,by omega,by omega,by omega,by omega,by omega,λ_ _ _=>⟨λ_=>rfl,C⟩⟩
  ·
   have hl:(x.ks.length:Int)=2:=by have:=u (by rw [o];decide);rw [o] at this;exact this
   have es:aY x.op x.d (x.ks.map λk=>pre.getD k.toNat 0) [] 0=if(x.ks.map λk=>pre.getD k.toNat 0).all pN=true then 1 else 0:=by rw [o];rfl
   rw [es] at g⊢;cases v:(x.ks.map λk=>pre.getD k.toNat 0).all pN with
   | false=>rw [v] at g;exact absurd rfl g
   | true=>have C:=l (λs hs=>rC (Nt.1 v s hs));rw [if_pos rfl];exact⟨p,r,y,z,t,q,by omega,by omega,by omega,by omega,by omega,by omega,by omega,by omega,λ_ _ _=>⟨λ_=>rfl,C⟩⟩
  ·
   have hl:(x.ks.length:Int)=0:=by have:=u (by rw [o];decide);rw [o] at this;exact this
   have G:=E hl;have es:aY x.op x.d (x.ks.map λk=>pre.getD k.toNat 0) [] 0=10+x.d:=by rw [o];rfl
   rw [es];obtain⟨w1,w2,w3,w4⟩:=rv I o;have w5:x.n < 2 ^ x.d.toNat:=by
    have P:x.d.toNat=1\/x.d.toNat=2\/x.d.toNat=3\/x.d.toNat=4\/x.d.toNat=5\/x.d.toNat=6\/x.d.toNat=7\/x.d.toNat=8:=by omega
    have H:i64.wrap (1 * 2 ^ min x.d.toNat 64)=2 ^ x.d.toNat:=by rcases P with h | h | h | h | h | h | h | h <;> rw [h] <;> decide
    rw [H] at w4;exact w4
   exact⟨p,r,y,z,t,q,by omega,by omega,by omega,λ_=>⟨G,w1,w2,w3,w5,rfl⟩,by omega,by omega,by omega,by omega,by omega⟩
  ·
   have hl:(x.ks.length:Int)=1:=by have:=u (by rw [o];decide);rw [o] at this;exact this
   obtain⟨a,f⟩:=F hl;have ka:=B a (m a (by rw [f];simp)).1 (m a (by rw [f];simp)).2;have es:aY x.op x.d (x.ks.map λk=>pre.getD k.toNat 0) [] 0=if aF (pre.getD a.toNat 0)=true then pre.getD a.toNat 0 else 0:=by rw [o,f];rfl
   rw [es] at g⊢;cases v:aF (pre.getD a.toNat 0) with
   | false=>rw [v] at g;exact absurd rfl g
   | true=>rw [if_pos rfl];exact⟨p,r,y,z,t,q,by omega,by omega,by omega,by omega,λ_=>⟨v,a,f,ka⟩,by omega,by omega,by omega,by omega⟩
  ·
   have hl:(x.ks.length:Int)=2:=by have:=u (by rw [o];decide);rw [o] at this;exact this
   obtain⟨a,b,f⟩:=D hl;have ka:=B a (m a (by rw [f];simp)).1 (m a (by rw [f];simp)).2;have kb:=B b (m b (by rw [f];simp)).1 (m b (by rw [f];simp)).2;have es:aY x.op x.d (x.ks.map λk=>pre.getD k.toNat 0) [] 0=if pre.getD a.toNat 0=pre.getD b.toNat 0/\aF (pre.getD a.toNat 0)=true then pre.getD a.toNat 0 else 0:=by rw [o,f];rfl
   rw [es] at g⊢;by_cases e:pre.getD a.toNat 0=pre.getD b.toNat 0/\aF (pre.getD a.toNat 0)=true
   .rw [if_pos e];rw [<-e.1] at kb;exact⟨p,r,y,z,t,q,by omega,by omega,by omega,by omega,by omega,λ_ _=>⟨e.2,a,b,f,ka,kb⟩,by omega,by omega,by omega⟩
   .rw [if_neg e] at g;exact absurd rfl g
  ·
   have hl:(x.ks.length:Int)=2:=by have:=u (by rw [o];decide);rw [o] at this;exact this
   obtain⟨a,b,f⟩:=D hl;have ka:=B a (m a (by rw [f];simp)).1 (m a (by rw [f];simp)).2;have kb:=B b (m b (by rw [f];simp)).1 (m b (by rw [f];simp)).2;have es:aY x.op x.d (x.ks.map λk=>pre.getD k.toNat 0) [] 0=if pre.getD a.toNat 0=pre.getD b.toNat 0/\aF (pre.getD a.toNat 0)=true then pre.getD a.toNat 0 else 0:=by rw [o,f];rfl
   rw [es] at g⊢;by_cases e:pre.getD a.toNat 0=pre.getD b.toNat 0/\aF (pre.getD a.toNat 0)=true
   .rw [if_pos e];rw [<-e.1] at kb;exact⟨p,r,y,z,t,q,by omega,by omega,by omega,by omega,by omega,λ_ _=>⟨e.2,a,b,f,ka,kb⟩,by omega,by omega,by omega⟩
   .rw [if_neg e] at g;exact absurd rfl g
  ·
   have hl:(x.ks.length:Int)=2:=by have:=u (by rw [o];decide);rw [o] at this;exact this
   obtain⟨a,b,f⟩:=D hl;have ka:=B a (m a (by rw [f];simp)).1 (m a (by rw [f];simp)).2;have kb:=B b (m b (by rw [f];simp)).1 (m b (by rw [f];simp)).2;have es:aY x.op x.d (x.ks.map λk=>pre.getD k.toNat 0) [] 0=if pre.getD a.toNat 0=pre.getD b.toNat 0/\aF (pre.getD a.toNat 0)=true then pre.getD a.toNat 0 else 0:=by rw [o,f];rfl
   rw [es] at g⊢;by_cases e:pre.getD a.toNat 0=pre.getD b.toNat 0/\aF (pre.getD a.toNat 0)=true
   .rw [if_pos e];rw [<-e.1] at kb;exact⟨p,r,y,z,t,q,by omega,by omega,by omega,by omega,by omega,λ_ _=>⟨e.2,a,b,f,ka,kb⟩,by omega,by omega,by omega⟩
   .rw [if_neg e] at g;exact absurd rfl g
  ·
   have hl:(x.ks.length:Int)=2:=by have:=u (by rw [o];decide);rw [o] at this;exact this
   obtain⟨a,b,f⟩:=D hl;have ka:=B a (m a (by rw [f];simp)).1 (m a (by rw [f];simp)).2;have kb:=B b (m b (by rw [f];simp)).1 (m b (by rw [f];simp)).2;have es:aY x.op x.d (x.ks.map λk=>pre.getD k.toNat 0) [] 0=if pre.getD a.toNat 0=pre.getD b.toNat 0/\aF (pre.getD a.toNat 0)=true then pre.getD a.toNat 0 else 0:=by rw [o,f];rfl
   rw [es] at g⊢;by_cases e:pre.getD a.toNat 0=pre.getD b.toNat 0/\aF (pre.getD a.toNat 0)=true
   .rw [if_pos e];rw [<-e.1] at kb;exact⟨p,r,y,z,t,q,by omega,by omega,by omega,by omega,by omega,λ_ _=>⟨e.2,a,b,f,ka,kb⟩,by omega,by omega,by omega⟩
   .rw [if_neg e] at g;exact absurd rfl g
  ·
   have hl:(x.ks.length:Int)=2:=by have:=u (by rw [o];decide);rw [o] at this;exact this
   obtain⟨a,b,f⟩:=D hl;have ka:=B a (m a (by rw [f];simp)).1 (m a (by rw [f];simp)).2;have kb:=B b (m b (by rw [f];simp)).1 (m b (by rw [f];simp)).2;have es:aY x.op x.d (x.ks.map λk=>pre.getD k.toNat 0) [] 0=if pre.getD a.toNat 0=pre.getD b.toNat 0/\aF (pre.getD a.toNat 0)=true then pre.getD a.toNat 0 else 0:=by rw [o,f];rfl
   rw [es] at g⊢;by_cases e:pre.getD a.toNat 0=pre.getD b.toNat 0/\aF (pre.getD a.toNat 0)=true
   .rw [if_pos e];rw [<-e.1] at kb;exact⟨p,r,y,z,t,q,by omega,by omega,by omega,by omega,by omega,λ_ _=>⟨e.2,a,b,f,ka,kb⟩,by omega,by omega,by omega⟩
   .rw [if_neg e] at g;exact absurd rfl g
  ·
   have hl:(x.ks.length:Int)=2:=by have:=u (by rw [o];decide);rw [o] at this;exact this
   obtain⟨a,b,f⟩:=D hl;have ka:=B a (m a (by rw [f];simp)).1 (m a (by rw [f];simp)).2;have kb:=B b (m b (by rw [f];simp)).1 (m b (by rw [f];simp)).2;have es:aY x.op x.d (x.ks.map λk=>pre.getD k.toNat 0) [] 0=if pre.getD a.toNat 0=pre.getD b.toNat 0/\aF (pre.getD a.toNat 0)=true then 1 else 0:=by rw [o,f];rfl
   rw [es] at g⊢;by_cases e:pre.getD a.toNat 0=pre.getD b.toNat 0/\aF (pre.getD a.toNat 0)=true
   .rw [if_pos e];rw [<-e.1] at kb;exact⟨p,r,y,z,t,q,by omega,by omega,by omega,by omega,by omega,by omega,λ_=>⟨rfl,a,b,_,e.2,f,ka,kb⟩,by omega,by omega⟩
   .rw [if_neg e] at g;exact absurd rfl g
  ·
   have hl:(x.ks.length:Int)=1:=by have:=u (by rw [o];decide);rw [o] at this;exact this
   obtain⟨a,f⟩:=F hl;have ka:=B a (m a (by rw [f];simp)).1 (m a (by rw [f];simp)).2;have es:aY x.op x.d (x.ks.map λk=>pre.getD k.toNat 0) [] 0=if aF (pre.getD a.toNat 0)=true then pre.getD a.toNat 0 else 0:=by rw [o,f];rfl
   rw [es] at g⊢;cases v:aF (pre.getD a.toNat 0) with
   | false=>rw [v] at g;exact absurd rfl g
   | true=>
    rw [if_pos rfl];have w: 0<=x.n/\x.n<=8:=by unfold eB at I;rw [if_neg (by omega),if_neg (by omega),if_pos o] at I;simpa using I
    exact⟨p,r,y,z,t,q,by omega,by omega,by omega,by omega,λ_=>⟨v,a,f,ka⟩,by omega,by omega,λ_=>w,by omega⟩
  ·
   have hl:(x.ks.length:Int)=2:=by have:=u (by rw [o];decide);rw [o] at this;exact this
   have es:aY x.op x.d (x.ks.map λk=>pre.getD k.toNat 0) [] 0=if(x.ks.map λk=>pre.getD k.toNat 0)= [5,4] then 4 else 0:=by rw [o];rfl
   rw [es] at g⊢;by_cases e:(x.ks.map λk=>pre.getD k.toNat 0)= [5,4]
   .rw [if_pos e];have C:=l (λs hs=>by
     rw [e] at hs;simp only [Nj,Ol,or_false] at hs;rcases hs with rfl | rfl <;> rfl)
    exact⟨p,r,y,z,t,q,by omega,by omega,by omega,by omega,by omega,by omega,by omega,by omega,λ_ _ _=>⟨λ_=>rfl,C⟩⟩
   .rw [if_neg e] at g;exact absurd rfl g
  ·
   have hl:(x.ks.length:Int)=3:=by have:=u (by rw [o];decide);rw [o] at this;exact this
   have es:aY x.op x.d (x.ks.map λk=>pre.getD k.toNat 0) [] 0=if(x.ks.map λk=>pre.getD k.toNat 0)= [5,4,4] then 5 else 0:=by rw [o];rfl
   rw [es] at g⊢;by_cases e:(x.ks.map λk=>pre.getD k.toNat 0)= [5,4,4]
   .rw [if_pos e];have C:=l (λs hs=>by
     rw [e] at hs;simp only [Nj,Ol,or_false] at hs;rcases hs with rfl | rfl | rfl <;> rfl)
    exact⟨p,r,y,z,t,q,by omega,by omega,by omega,by omega,by omega,by omega,by omega,by omega,λ_ _ _=>⟨λ_=>rfl,C⟩⟩
   .rw [if_neg e] at g;exact absurd rfl g
theorem qx{a:As}{es:Bool}(h:(br a).2.1=0):nc (jf a es (br a).1)/\(∀d∈a.ds,d.ar.length<=8):=by
 unfold br at h⊢;by_cases p: 30 < a.ds.length
 .rw [if_pos p] at h;exact absurd (show(2:Int)=0 from h) (by decide)
 rw [if_neg p] at h⊢;by_cases g:(dY [] 0 a.ds).1≠0
 .rw [if_pos g] at h;exact absurd h g
 rw [if_neg g] at h⊢;by_cases c3: 200 < a.ns.length
 .rw [if_pos c3] at h;exact absurd (show(2:Int)=0 from h) (by decide)
 rw [if_neg c3] at h⊢;have f:∀d∈a.ds,d.nm.size<=12/\d.ar.length<=8/\∀s∈d.ar,s=4:=λd e=>by obtain⟨j,y⟩:=Oi e;obtain⟨m,o,B,_⟩:=vt (vo (by simpa using g) j d y);exact⟨m,o,B⟩
 unfold hF at h⊢;by_cases l:(dH a.ds a.ns 0 []).2.1≠0
 .rw [if_pos l] at h;exact absurd h l
 rw [if_neg l] at h⊢;by_cases q: 200 < a.hs.length
 .rw [if_pos q] at h;exact absurd (show(2:Int)=0 from h) (by decide)
 rw [if_neg q] at h⊢;by_cases b:(dZ (dH a.ds a.ns 0 []).1 a.hs 0).1≠0
 .rw [if_pos b] at h;exact absurd h b
 rw [if_neg b];obtain⟨t,u,v,w⟩:=uC (ds:=a.ds) (r:=a.ns) (i:=0) (ss:= []) rfl (by simpa using l);rw [Ow] at u;rw [u] at b⊢;refine⟨⟨v,by show a.ns.length<=200;omega,by show a.ds.length<=30;omega,by show a.hs.length<=200;omega,λd e=>(f d e).1,λi x s A hs=> ?_,BF (show(dZ t a.hs 0).1=0 by simpa using b)⟩,λd e=>(f d e).2.1⟩;obtain⟨m,o⟩:=w i x A;rw [NF,Ow] at m o;have C:i < t.length:=(M5.1 hs).1;replace hs:t[i]? =some s:=hs;rw [o] at hs;simp only [M1] at hs;subst hs;exact JN (c:=jf a es t) (x:=x) (i:=i) (pre:=t.take i) (by rw [N2];omega) (λk z=>by show t[k]? =_;rw [PD z]) f m
theorem yf{a:As}(h:(br a).2.1=0):(br a).2.2=0:=by
 unfold br at h⊢;by_cases f: 30 < a.ds.length
 .rw [if_pos f] at h;exact absurd (show(2:Int)=0 from h) (by decide)
 rw [if_neg f] at h⊢;by_cases b:(dY [] 0 a.ds).1≠0
 .rw [if_pos b] at h;exact absurd h b
 rw [if_neg b] at h⊢;by_cases c3: 200 < a.ns.length
 .rw [if_pos c3] at h;exact absurd (show(2:Int)=0 from h) (by decide)
 rw [if_neg c3] at h⊢;unfold hF at h⊢;by_cases c:(dH a.ds a.ns 0 []).2.1≠0
 .rw [if_pos c] at h;exact absurd h c
 rw [if_neg c] at h⊢;by_cases g: 200 < a.hs.length
 .rw [if_pos g] at h;exact absurd (show(2:Int)=0 from h) (by decide)
 rw [if_neg g] at h⊢;by_cases e:(dZ (dH a.ds a.ns 0 []).1 a.hs 0).1≠0
 .rw [if_pos e] at h;exact absurd h e
 rw [if_neg e]
def oS(a:As):List T:=if(br a).2.1=0 then sO a (br a).1.isEmpty (br a).1 else [T.af true,T.af true,T.af true,ti (br a).2.1,ti (br a).2.2]
theorem LS{a:As}(wf:lX a)(j:∀d∈a.ds,d.nm.size<=9223372036854775807):Or (.call 9) [AG a] []=some (oS a):=by
 obtain⟨x,c,f⟩:=xV (a:=a) j;unfold oS;by_cases h:(br a).2.1=0
 .obtain⟨ok,e⟩:=qx (es:=(br a).1.isEmpty) h;have g:(br a).2.2=0:=by
   exact yf h
  rw [if_pos h];replace c:Or (.call 15) [AG a] []=some [x,ti (br a).2.1,ti (br a).2.2]:=c;rw [h,g] at c;exact s9 wf ok (λd i=>by have:=e d i;omega) c f
 .have b:((br a).2.1==0)=false:=by simpa using h
  rw [if_neg h];refine ah ?_;rw [e9];simp only [bu,bA,cC,bG,f,bt,c,b,Nb]
end Go.Aev.Gen
