import Derived.Test.YtcffabneepdohaaGreatDoorBlastMeansQ7
import Derived.Test.YtcffabneepdohaaGreatDoorBlastMeansQ12
set_option linter.all false
namespace Go.Aev.Gen
open Go Go.Aev Go.IntKind
def pB(s:Int):Bool:=s==1
def pN(s:Int):Bool:=s==2 || s==3
def pI(s:Int):Bool:=s==2
theorem T9(n:Int):Or (.call 98) [I n] []=some [tb (pB n)]:=by refine ai ?_;rw [OP];rfl
theorem SO(n:Int):Or (.call 114) [I n,AV.t (T.ptr [T.cQ 98])] []=some [tb (!pB n)]:=by have k:=T9 n;refine ai ?_;rw [MS];simp only [an,↓reduceIte,Int.reduceBEq,Int.reduceEq,k]
theorem Rs{e:Bool}{l:List Int}(hl:l.length<=1000):∀(r:List Int) (i:Nat),l.drop i=r->
  ∃z:Int,Or fN [ad e l,AV.fn 114 [] [AV.t (T.ptr [T.cQ 98])],I (l.length:Int),I (i:Int)] []=some [ti z]/\decide (z>=0)= !r.all pB:=by
 intro r;induction r with
 | nil=>
  intro i g;have a:¬(i:Int) < (l.length:Int):=by have:=bt g;omega
  refine⟨-1,ai ?_,by simp⟩;rw [Bm];simp only [an,↓reduceIte,Int.reduceBEq,Int.reduceEq,a]
 | cons d r f=>
  intro i g;obtain⟨g1,m,c⟩:=br g;have a:(i:Int) < (l.length:Int):=by omega
  have h0: 0<=(i:Int):=by omega
  have k:=SO d;cases b:pB d with
  | false=>rw [b] at k;refine⟨(i:Int),ai ?_,by simp [b]⟩;rw [Bm];simp only [an,↓reduceIte,Int.reduceBEq,Int.reduceEq,a,h0,and_self,aD,bP g1,k,Wu]
  | true=>rw [b] at k;obtain⟨z,h,j⟩:=f (i+1) c;refine⟨z,ai ?_,by rw [j];simp [b]⟩;rw [Bm];simp only [an,↓reduceIte,Int.reduceBEq,Int.reduceEq,a,h0,and_self,aD,bP g1,k,Ws,next i (by omega)];exact h
theorem zG{e:Bool}{l:List Int}(hl:l.length<=1000):Or (.call 97) [ad e l,AV.fn 98 [] []] []=some [tb (l.all pB)]:=by
 obtain⟨z,c,f⟩:=Rs (e:=e) hl l 0 rfl;have b:Or (.call 74) [ad e l,AV.fn 114 [] [AV.t (T.ptr [T.cQ 98])]] []=some [ti z]:=by refine ai ?_;rw [Oy];simp only [aD];exact c
 have a:Or (.call 31) [ad e l,AV.fn 114 [] [AV.t (T.ptr [T.cQ 98])]] []=some [tb (!l.all pB)]:=by refine ai ?_;rw [Np];simp only [an,↓reduceIte,Int.reduceBEq,Int.reduceEq,b,f]
 refine ai ?_;rw [OM];simp only [an,↓reduceIte,Int.reduceBEq,Int.reduceEq,a,Zw]
theorem J4(n:Int):Or (.call 99) [I n] []=some [tb (pN n)]:=by refine ai ?_;rw [OQ];unfold pN;cases h:n==2 <;> simp
theorem SP(n:Int):Or (.call 114) [I n,AV.t (T.ptr [T.cQ 99])] []=some [tb (!pN n)]:=by have k:=J4 n;refine ai ?_;rw [MT];simp only [an,↓reduceIte,Int.reduceBEq,Int.reduceEq,k]
theorem Rt{e:Bool}{l:List Int}(hl:l.length<=1000):∀(r:List Int) (i:Nat),l.drop i=r->
  ∃z:Int,Or fN [ad e l,AV.fn 114 [] [AV.t (T.ptr [T.cQ 99])],I (l.length:Int),I (i:Int)] []=some [ti z]/\decide (z>=0)= !r.all pN:=by
 intro r;induction r with
 | nil=>
  intro i g;have a:¬(i:Int) < (l.length:Int):=by have:=bt g;omega
  refine⟨-1,ai ?_,by simp⟩;rw [Bn];simp only [an,↓reduceIte,Int.reduceBEq,Int.reduceEq,a]
 | cons d r f=>
  intro i g;obtain⟨g1,m,c⟩:=br g;have a:(i:Int) < (l.length:Int):=by omega
  have h0: 0<=(i:Int):=by omega
  have k:=SP d;cases b:pN d with
  | false=>rw [b] at k;refine⟨(i:Int),ai ?_,by simp [b]⟩;rw [Bn];simp only [an,↓reduceIte,Int.reduceBEq,Int.reduceEq,a,h0,and_self,aD,bP g1,k,Wu]
  | true=>rw [b] at k;obtain⟨z,h,j⟩:=f (i+1) c;refine⟨z,ai ?_,by rw [j];simp [b]⟩;rw [Bn];simp only [an,↓reduceIte,Int.reduceBEq,Int.reduceEq,a,h0,and_self,aD,bP g1,k,Ws,next i (by omega)];exact h
theorem zH{e:Bool}{l:List Int}(hl:l.length<=1000):Or (.call 97) [ad e l,AV.fn 99 [] []] []=some [tb (l.all pN)]:=by
 obtain⟨z,c,f⟩:=Rt (e:=e) hl l 0 rfl;have b:Or (.call 74) [ad e l,AV.fn 114 [] [AV.t (T.ptr [T.cQ 99])]] []=some [ti z]:=by refine ai ?_;rw [Oz];simp only [aD];exact c
 have a:Or (.call 31) [ad e l,AV.fn 114 [] [AV.t (T.ptr [T.cQ 99])]] []=some [tb (!l.all pN)]:=by refine ai ?_;rw [Nq];simp only [an,↓reduceIte,Int.reduceBEq,Int.reduceEq,b,f]
 refine ai ?_;rw [ON];simp only [an,↓reduceIte,Int.reduceBEq,Int.reduceEq,a,Zw]
theorem SL(n:Int):Or (.call 101) [I n] []=some [tb (pI n)]:=by refine ai ?_;rw [MP];rfl
theorem SN(n:Int):Or (.call 114) [I n,AV.t (T.ptr [T.cQ 101])] []=some [tb (!pI n)]:=by have k:=SL n;refine ai ?_;rw [MU];simp only [an,↓reduceIte,Int.reduceBEq,Int.reduceEq,k]
theorem Rr{e:Bool}{l:List Int}(hl:l.length<=1000):∀(r:List Int) (i:Nat),l.drop i=r->
  ∃z:Int,Or fN [ad e l,AV.fn 114 [] [AV.t (T.ptr [T.cQ 101])],I (l.length:Int),I (i:Int)] []=some [ti z]/\decide (z>=0)= !r.all pI:=by
 intro r;induction r with
 | nil=>
  intro i g;have a:¬(i:Int) < (l.length:Int):=by have:=bt g;omega
  refine⟨-1,ai ?_,by simp⟩;rw [Bl];simp only [an,↓reduceIte,Int.reduceBEq,Int.reduceEq,a]
 | cons d r f=>
  intro i g;obtain⟨g1,m,c⟩:=br g;have a:(i:Int) < (l.length:Int):=by omega
  have h0: 0<=(i:Int):=by omega
  have k:=SN d;cases b:pI d with
  | false=>rw [b] at k;refine⟨(i:Int),ai ?_,by simp [b]⟩;rw [Bl];simp only [an,↓reduceIte,Int.reduceBEq,Int.reduceEq,a,h0,and_self,aD,bP g1,k,Wu]
  | true=>rw [b] at k;obtain⟨z,h,j⟩:=f (i+1) c;refine⟨z,ai ?_,by rw [j];simp [b]⟩;rw [Bl];simp only [an,↓reduceIte,Int.reduceBEq,Int.reduceEq,a,h0,and_self,aD,bP g1,k,Ws,next i (by omega)];exact h
theorem T8{e:Bool}{l:List Int}(hl:l.length<=1000):Or (.call 97) [ad e l,AV.fn 101 [] []] []=some [tb (l.all pI)]:=by
 obtain⟨z,c,f⟩:=Rr (e:=e) hl l 0 rfl;have b:Or (.call 74) [ad e l,AV.fn 114 [] [AV.t (T.ptr [T.cQ 101])]] []=some [ti z]:=by refine ai ?_;rw [Ox];simp only [aD];exact c
 have a:Or (.call 31) [ad e l,AV.fn 114 [] [AV.t (T.ptr [T.cQ 101])]] []=some [tb (!l.all pI)]:=by refine ai ?_;rw [Nn];simp only [an,↓reduceIte,Int.reduceBEq,Int.reduceEq,b,f]
 refine ai ?_;rw [OO];simp only [an,↓reduceIte,Int.reduceBEq,Int.reduceEq,a,Zw]
theorem QW{e e':Bool}{a b:List Int}(u:a.length=b.length)(hl:a.length<=1000):∀(g c:List Int) (i:Nat),a.drop i=g->b.drop i=c->Or xr [ad e a,ad e' b,I (a.length:Int),I (i:Int)] []=some [tb (decide (g=c))]:=by
 intro g;induction g with
 | nil=>
  intro c i l h;have j:¬(i:Int) < (a.length:Int):=by have:=bt l;omega
  have:c= []:=by rw [<-h];exact Yo (by omega)
  subst this;refine ai ?_;rw [A7];simp only [an,↓reduceIte,Int.reduceBEq,Int.reduceEq,j,decide_true]
 | cons x g t=>
  intro c i l h;obtain⟨g1,v,q⟩:=br l;cases c with
  | nil=>exact absurd (bt h) (by omega)
  | cons y c=>
   obtain⟨m,w,r⟩:=br h;have j:(i:Int) < (a.length:Int):=by omega
   have o:(i:Int) < (b.length:Int):=by omega
   have h0: 0<=(i:Int):=by omega
   by_cases f:x=y
   .have s:=t c (i+1) q r;have k:decide (x::g=y::c)=decide (g=c):=by simp [f]
    rw [k];refine ai ?_;rw [A7];simp only [an,↓reduceIte,Int.reduceBEq,Int.reduceEq,j,o,h0,and_self,aD,bP g1,bP m,f,Ws,next i (by omega)];exact s
   .have k:decide (x::g=y::c)=false:=by simp [f]
    have p:(x==y)=false:=by simpa using f
    rw [k];refine ai ?_;rw [A7];simp only [an,↓reduceIte,Int.reduceBEq,Int.reduceEq,j,o,h0,and_self,aD,bP g1,bP m,p,f,Wu]
theorem JX{e e':Bool}{a b:List Int}(hl:a.length<=1000):Or (.call 59) [ad e a,ad e' b] []=some [tb (decide (a=b))]:=by
 by_cases c:a.length=b.length
 .have i:=QW (e:=e) (e':=e') c hl a b 0 rfl rfl;have h:(a.length:Int)= (b.length:Int):=by omega
  refine ai ?_;rw [FN];simp only [an,↓reduceIte,Int.reduceBEq,Int.reduceEq,aD,h,Ws];rw [<-h];exact i
 .have h:¬(a.length:Int)= (b.length:Int):=by omega
  have g:((a.length:Int)== (b.length:Int))=false:=by simpa using h
  have f:decide (a=b)=false:=by rw [decide_eq_false_iff_not];rintro rfl;exact c rfl
  rw [f];refine ai ?_;rw [FN];simp only [an,↓reduceIte,Int.reduceBEq,Int.reduceEq,aD,g,h,Wu]
theorem C4{e e':Bool}{l da:List Int}(hl:l.length<=1000):Or (.call 96) [ad e da,AV.t (T.ptr [T.ad 1 e' (enc l)])] []=some [tb (decide (l=da))]:=by have k:=JX (e:=e') (e':=e) (b:=da) hl;refine ai ?_;rw [OL];simp only [an,↓reduceIte,Int.reduceBEq,Int.reduceEq,k]
theorem oY(b:Bool):Or (.call 100) [B b] []=some [ti (if b then 2 else 3)]:=by refine ai ?_;rw [OR];cases b <;> rfl
def bc(op d:Int)(l da:List Int)(so:Int):Int:=
 if op=1\/op=2 then 1
 else if op=3\/op=4\/op=5\/op=6 then(if l.all pB then 1 else 0)
 else if op=7 then(if l.getD 0 0=1/\l.getD 1 0=l.getD 2 0/\l.getD 1 0≠5 then l.getD 1 0 else 0)
 else if op=8 then(if l.all pN=true\/(l.getD 0 0=l.getD 1 0/\(l.getD 0 0=4\/aE (l.getD 0 0)=true)) then 1 else 0)
 else if op=9 then(if l=da then so else 0)
 else if op=10 then(if d=1 then 2 else 3)
 else if op=11 then(if l.all pN then(if l.all pI then 2 else 3) else 0)
 else if op=12 then(if pN (l.getD 0 0) then(if l.getD 0 0=2/\d=1 then 2 else 3) else 0)
 else if op=13\/op=14 then(if l.all pN then 1 else 0)
 else if op=15 then 10+d
 else if op=16\/op=23 then(if aE (l.getD 0 0) then l.getD 0 0 else 0)
 else if op=22 then(if l.getD 0 0=l.getD 1 0/\aE (l.getD 0 0)=true then 1 else 0)
 else if op=24 then(if l= [5,4] then 4 else 0)
 else if op=25 then(if l= [5,4,4] then 5 else 0)
 else(if l.getD 0 0=l.getD 1 0/\aE (l.getD 0 0)=true then l.getD 0 0 else 0)
abbrev SA(op:Int)(ek:Bool)(ks:List (List T))(n d:Int)(nm:ByteArray)(es:Bool)(l:List Int)(dn:ByteArray)(ea:Bool)(da:List Int)(so:Int):List AV:=
 [AV.agg [I op,AV.t (T.ad 1 ek ks),I n,I d,AV.t (T.str nm)],ad es l,AV.agg [AV.t (T.str dn),ad ea da,I so]]
section
variable {ek:Bool} {ks:List (List T)} {n d:Int} {nm:ByteArray} {es:Bool} {dn:ByteArray} {ea:Bool} {da:List Int} {so:Int}
theorem cn:(0:Int)<=0/\(0:Int) < 2:=by decide
theorem cr:(0:Int)<=1/\(1:Int) < 2:=by decide
theorem cm:(0:Int)<=0/\(0:Int) < 1:=by decide
theorem cq:(0:Int)<=0/\(0:Int) < 3:=by decide
theorem ct:(0:Int)<=1/\(1:Int) < 3:=by decide
theorem bH:(0:Int)<=2/\(2:Int) < 3:=by decide
theorem L0:((([]:List Int).length:Nat):Int)=0:=rfl
theorem L1(a:Int):((([a]:List Int).length:Nat):Int)=1:=rfl
theorem L2(a b:Int):((([a,b]:List Int).length:Nat):Int)=2:=rfl
theorem L3(a b c:Int):((([a,b,c]:List Int).length:Nat):Int)=3:=rfl
theorem E1(a:Int):(enc [a])[0]? =some [ti a]:=rfl
theorem bZ(a b:Int):(enc [a,b])[0]? =some [ti a]:=rfl
theorem ca(a b:Int):(enc [a,b])[1]? =some [ti b]:=rfl
theorem cb(a b c:Int):(enc [a,b,c])[0]? =some [ti a]:=rfl
theorem cf(a b c:Int):(enc [a,b,c])[1]? =some [ti b]:=rfl
theorem cg(a b c:Int):(enc [a,b,c])[2]? =some [ti c]:=rfl
theorem TB:Or (.call 73) (SA 1 ek ks n d nm es [] dn ea da so) []=some [ti (bc 1 d [] da so)]:=by refine ai ?_;rw [N7];simp only [bE,an,↓reduceIte,Int.reduceBEq,Int.reduceEq,aD,L0,L1,L2,L3,E1,bZ,ca,cb,cf,cg,cn,cr,cm,cq,ct,bH,and_self];rfl
theorem TM:Or (.call 73) (SA 2 ek ks n d nm es [] dn ea da so) []=some [ti (bc 2 d [] da so)]:=by refine ai ?_;rw [Og];simp only [bE,an,↓reduceIte,Int.reduceBEq,Int.reduceEq,aD,L0,L1,L2,L3,E1,bZ,ca,cb,cf,cg,cn,cr,cm,cq,ct,bH,and_self];rfl
theorem TT{l:List Int}(hl:l.length<=1000):Or (.call 73) (SA 3 ek ks n d nm es l dn ea da so) []=some [ti (bc 3 d l da so)]:=by
 have k:=zG (e:=es) hl;unfold bc;by_cases f:l.length=2
 .obtain⟨a,b,rfl⟩:∃a b,l= [a,b]:=by
   match l,f with
   | [a,b],_=>exact⟨a,b,rfl⟩
  cases c:List.all [a,b] pB <;> rw [c] at k <;>
  .refine ai ?_;rw [Ge];simp only [bE,an,↓reduceIte,Int.reduceBEq,Int.reduceEq,aD,L0,L1,L2,L3,E1,bZ,ca,cb,cf,cg,cn,cr,cm,cq,ct,bH,and_self,k,Ws,Wu];rfl
 .have g:((l.length:Int)==2)=false:=by simp;omega
  have h:¬(l.length:Int)=2:=by omega
  cases c:l.all pB <;> rw [c] at k <;>
  .refine ai ?_;rw [Ge];simp only [bE,an,↓reduceIte,Int.reduceBEq,Int.reduceEq,aD,L0,L1,L2,L3,E1,bZ,ca,cb,cf,cg,cn,cr,cm,cq,ct,bH,and_self,g,h,k,Ws,Wu];rfl
theorem TU{l:List Int}(hl:l.length<=1000):Or (.call 73) (SA 4 ek ks n d nm es l dn ea da so) []=some [ti (bc 4 d l da so)]:=by
 have k:=zG (e:=es) hl;unfold bc;by_cases f:l.length=2
 .obtain⟨a,b,rfl⟩:∃a b,l= [a,b]:=by
   match l,f with
   | [a,b],_=>exact⟨a,b,rfl⟩
  cases c:List.all [a,b] pB <;> rw [c] at k <;>
  .refine ai ?_;rw [Gf];simp only [bE,an,↓reduceIte,Int.reduceBEq,Int.reduceEq,aD,L0,L1,L2,L3,E1,bZ,ca,cb,cf,cg,cn,cr,cm,cq,ct,bH,and_self,k,Ws,Wu];rfl
 .have g:((l.length:Int)==2)=false:=by simp;omega
  have h:¬(l.length:Int)=2:=by omega
  cases c:l.all pB <;> rw [c] at k <;>
  .refine ai ?_;rw [Gf];simp only [bE,an,↓reduceIte,Int.reduceBEq,Int.reduceEq,aD,L0,L1,L2,L3,E1,bZ,ca,cb,cf,cg,cn,cr,cm,cq,ct,bH,and_self,g,h,k,Ws,Wu];rfl
theorem TV{l:List Int}(hl:l.length<=1000):Or (.call 73) (SA 5 ek ks n d nm es l dn ea da so) []=some [ti (bc 5 d l da so)]:=by
 have k:=zG (e:=es) hl;unfold bc;by_cases f:l.length=2
 .obtain⟨a,b,rfl⟩:∃a b,l= [a,b]:=by
   match l,f with
   | [a,b],_=>exact⟨a,b,rfl⟩
  cases c:List.all [a,b] pB <;> rw [c] at k <;>
  .refine ai ?_;rw [Gg];simp only [bE,an,↓reduceIte,Int.reduceBEq,Int.reduceEq,aD,L0,L1,L2,L3,E1,bZ,ca,cb,cf,cg,cn,cr,cm,cq,ct,bH,and_self,k,Ws,Wu];rfl
 .have g:((l.length:Int)==2)=false:=by simp;omega
  have h:¬(l.length:Int)=2:=by omega
  cases c:l.all pB <;> rw [c] at k <;>
  .refine ai ?_;rw [Gg];simp only [bE,an,↓reduceIte,Int.reduceBEq,Int.reduceEq,aD,L0,L1,L2,L3,E1,bZ,ca,cb,cf,cg,cn,cr,cm,cq,ct,bH,and_self,g,h,k,Ws,Wu];rfl
theorem TW{l:List Int}(hl:l.length<=1000):Or (.call 73) (SA 6 ek ks n d nm es l dn ea da so) []=some [ti (bc 6 d l da so)]:=by
 have k:=zG (e:=es) hl;unfold bc;by_cases f:l.length=2
 .obtain⟨a,b,rfl⟩:∃a b,l= [a,b]:=by
   match l,f with
   | [a,b],_=>exact⟨a,b,rfl⟩
  cases c:List.all [a,b] pB <;> rw [c] at k <;>
  .refine ai ?_;rw [Gh];simp only [bE,an,↓reduceIte,Int.reduceBEq,Int.reduceEq,aD,L0,L1,L2,L3,E1,bZ,ca,cb,cf,cg,cn,cr,cm,cq,ct,bH,and_self,k,Ws,Wu];rfl
 .have g:((l.length:Int)==2)=false:=by simp;omega
  have h:¬(l.length:Int)=2:=by omega
  cases c:l.all pB <;> rw [c] at k <;>
  .refine ai ?_;rw [Gh];simp only [bE,an,↓reduceIte,Int.reduceBEq,Int.reduceEq,aD,L0,L1,L2,L3,E1,bZ,ca,cb,cf,cg,cn,cr,cm,cq,ct,bH,and_self,g,h,k,Ws,Wu];rfl
theorem TF{l:List Int}(hl:l.length<=1000):Or (.call 73) (SA 13 ek ks n d nm es l dn ea da so) []=some [ti (bc 13 d l da so)]:=by
 have k:=zH (e:=es) hl;unfold bc;by_cases f:l.length=2
 .obtain⟨a,b,rfl⟩:∃a b,l= [a,b]:=by
   match l,f with
   | [a,b],_=>exact⟨a,b,rfl⟩
  cases c:List.all [a,b] pN <;> rw [c] at k <;>
  .refine ai ?_;rw [Ga];simp only [bE,an,↓reduceIte,Int.reduceBEq,Int.reduceEq,aD,L0,L1,L2,L3,E1,bZ,ca,cb,cf,cg,cn,cr,cm,cq,ct,bH,and_self,k,Ws,Wu];rfl
 .have g:((l.length:Int)==2)=false:=by simp;omega
  have h:¬(l.length:Int)=2:=by omega
  cases c:l.all pN <;> rw [c] at k <;>
  .refine ai ?_;rw [Ga];simp only [bE,an,↓reduceIte,Int.reduceBEq,Int.reduceEq,aD,L0,L1,L2,L3,E1,bZ,ca,cb,cf,cg,cn,cr,cm,cq,ct,bH,and_self,g,h,k,Ws,Wu];rfl
theorem TG{l:List Int}(hl:l.length<=1000):Or (.call 73) (SA 14 ek ks n d nm es l dn ea da so) []=some [ti (bc 14 d l da so)]:=by
 have k:=zH (e:=es) hl;unfold bc;by_cases f:l.length=2
 .obtain⟨a,b,rfl⟩:∃a b,l= [a,b]:=by
   match l,f with
   | [a,b],_=>exact⟨a,b,rfl⟩
  cases c:List.all [a,b] pN <;> rw [c] at k <;>
  .refine ai ?_;rw [Gb];simp only [bE,an,↓reduceIte,Int.reduceBEq,Int.reduceEq,aD,L0,L1,L2,L3,E1,bZ,ca,cb,cf,cg,cn,cr,cm,cq,ct,bH,and_self,k,Ws,Wu];rfl
 .have g:((l.length:Int)==2)=false:=by simp;omega
  have h:¬(l.length:Int)=2:=by omega
  cases c:l.all pN <;> rw [c] at k <;>
  .refine ai ?_;rw [Gb];simp only [bE,an,↓reduceIte,Int.reduceBEq,Int.reduceEq,aD,L0,L1,L2,L3,E1,bZ,ca,cb,cf,cg,cn,cr,cm,cq,ct,bH,and_self,g,h,k,Ws,Wu];rfl
theorem TD{l:List Int}(hl:l.length<=1000):Or (.call 73) (SA 11 ek ks n d nm es l dn ea da so) []=some [ti (bc 11 d l da so)]:=by
 have k:=zH (e:=es) hl;have f:=T8 (e:=es) hl;have k9:=oY (l.all pI);unfold bc;by_cases g:l.length=2
 .obtain⟨a,b,rfl⟩:∃a b,l= [a,b]:=by
   match l,g with
   | [a,b],_=>exact⟨a,b,rfl⟩
  cases c:List.all [a,b] pN <;> rw [c] at k <;>
  .refine ai ?_;rw [F9];simp only [bE,an,↓reduceIte,Int.reduceBEq,Int.reduceEq,aD,L0,L1,L2,L3,E1,bZ,ca,cb,cf,cg,cn,cr,cm,cq,ct,bH,and_self,k,f,k9,Ws,Wu];rfl
 .have h:((l.length:Int)==2)=false:=by simp;omega
  have i:¬(l.length:Int)=2:=by omega
  cases c:l.all pN <;> rw [c] at k <;>
  .refine ai ?_;rw [F9];simp only [bE,an,↓reduceIte,Int.reduceBEq,Int.reduceEq,aD,L0,L1,L2,L3,E1,bZ,ca,cb,cf,cg,cn,cr,cm,cq,ct,bH,and_self,h,i,k,f,k9,Ws,Wu];rfl
theorem TX{a b c:Int}:Or (.call 73) (SA 7 ek ks n d nm es [a,b,c] dn ea da so) []=some [ti (bc 7 d [a,b,c] da so)]:=by
 have e:bc 7 d [a,b,c] da so=if a=1/\b=c/\b≠5 then b else 0:=rfl;rw [e];refine ai ?_;rw [Om];by_cases g:a=1
 .have k:(a==1)=true:=by simpa using g
  by_cases i:b=c
  .have l:(b==c)=true:=by simpa using i
   by_cases j:b=5
   .have f:(b==5)=true:=by simpa using j
    refine YS (b:=some [ti 0]) ?_ (by rw [if_neg (λh=>h.2.2 j)]);simp only [bE,aI,aL,aV,bK,aO,cu,aR,aX,iX,iW,iR,fx,fO,↓reduceIte,Int.reduceBEq,Ws,Wu,aD,L0,L1,L2,L3,E1,bZ,ca,cb,cf,cg,cn,cr,cm,cq,ct,bH,and_self,k,l,f]
   .have f:(b==5)=false:=by simpa using j
    refine YS (b:=some [ti b]) ?_ (by rw [if_pos ⟨g,i,j⟩]);simp only [bE,aI,aL,aV,bK,aO,cu,aR,aX,iX,iW,iR,fx,fO,↓reduceIte,Int.reduceBEq,Ws,Wu,aD,L0,L1,L2,L3,E1,bZ,ca,cb,cf,cg,cn,cr,cm,cq,ct,bH,and_self,k,l,f]
  .have f:(b==c)=false:=by simpa using i
   refine YS (b:=some [ti 0]) ?_ (by rw [if_neg (λh=>i h.2.1)]);simp only [bE,aI,aL,aV,bK,aO,cu,aR,aX,iX,iW,iR,fx,fO,↓reduceIte,Int.reduceBEq,Ws,Wu,aD,L0,L1,L2,L3,E1,bZ,ca,cb,cf,cg,cn,cr,cm,cq,ct,bH,and_self,k,f]
 .have f:(a==1)=false:=by simpa using g
  refine YS (b:=some [ti 0]) ?_ (by rw [if_neg (λh=>g h.1)]);simp only [bE,aI,aL,aV,bK,aO,cu,aR,aX,iX,iW,iR,fx,fO,↓reduceIte,Int.reduceBEq,Ws,Wu,aD,L0,L1,L2,L3,E1,bZ,ca,cb,cf,cg,cn,cr,cm,cq,ct,bH,and_self,f]
theorem TY{a b:Int}:Or (.call 73) (SA 8 ek ks n d nm es [a,b] dn ea da so) []=some [ti (bc 8 d [a,b] da so)]:=by
 have k:=zH (e:=es) (l:= [a,b]) (by simp);have f:=hH a;have e:bc 8 d [a,b] da so=if List.all [a,b] pN=true\/(a=b/\(a=4\/aE a=true)) then 1 else 0:=rfl;rw [e];refine ai ?_;rw [On];cases m:List.all [a,b] pN with
 | true=>rw [m] at k;simp only [bE,an,↓reduceIte,Int.reduceBEq,Int.reduceEq,aD,L0,L1,L2,L3,E1,bZ,ca,cb,cf,cg,cn,cr,cm,cq,ct,bH,and_self,k,Ws,true_or,Wu]
 | false=>
  rw [m] at k;by_cases c:a=b
  .have g:(a==b)=true:=by simpa using c
   by_cases i:a=4
   .have j:(a==4)=true:=by simpa using i
    refine YS (b:=some [ti 1]) ?_ (by rw [if_pos (.inr ⟨c, .inl i⟩)]);simp only [bE,aI,aL,aV,bK,aO,cu,aR,aX,iX,iW,iR,fx,fO,↓reduceIte,Int.reduceBEq,Ws,Wu,aD,L0,L1,L2,L3,E1,bZ,ca,cb,cf,cg,cn,cr,cm,cq,ct,bH,and_self,k,g,j]
   .have j:(a==4)=false:=by simpa using i
    cases o:aE a <;> rw [o] at f
    .refine YS (b:=some [ti 0]) ?_ (by rw [if_neg (by rintro(h | ⟨_,h | h⟩);cases h;exact i h;cases h)]);simp only [bE,aI,aL,aV,bK,aO,cu,aR,aX,iX,iW,iR,fx,fO,↓reduceIte,Int.reduceBEq,Ws,Wu,aD,L0,L1,L2,L3,E1,bZ,ca,cb,cf,cg,cn,cr,cm,cq,ct,bH,and_self,k,g,j,f]
    .refine YS (b:=some [ti 1]) ?_ (by rw [if_pos (.inr ⟨c, .inr rfl⟩)]);simp only [bE,aI,aL,aV,bK,aO,cu,aR,aX,iX,iW,iR,fx,fO,↓reduceIte,Int.reduceBEq,Ws,Wu,aD,L0,L1,L2,L3,E1,bZ,ca,cb,cf,cg,cn,cr,cm,cq,ct,bH,and_self,k,g,j,f]
  .have g:(a==b)=false:=by simpa using c
   refine YS (b:=some [ti 0]) ?_ (by rw [if_neg (by rintro(h | ⟨h,_⟩);cases h;exact c h)]);simp only [bE,aI,aL,aV,bK,aO,cu,aR,aX,iX,iW,iR,fx,fO,↓reduceIte,Int.reduceBEq,Ws,Wu,aD,L0,L1,L2,L3,E1,bZ,ca,cb,cf,cg,cn,cr,cm,cq,ct,bH,and_self,k,g]
theorem TZ{l:List Int}(hl:l.length<=1000):Or (.call 73) (SA 9 ek ks n d nm es l dn ea da so) []=some [ti (bc 9 d l da so)]:=by
 have k:=C4 (e:=ea) (e':=es) (da:=da) hl;have e:bc 9 d l da so=if l=da then so else 0:=rfl;rw [e];by_cases h:l.length=2
 .obtain⟨a,b,rfl⟩:∃a b,l= [a,b]:=by
   match l,h with
   | [a,b],_=>exact⟨a,b,rfl⟩
  by_cases c: [a,b]=da
  .rw [decide_eq_true c] at k;rw [if_pos c];refine ai ?_;rw [yk];simp only [bE,an,↓reduceIte,Int.reduceBEq,Int.reduceEq,aD,L0,L1,L2,L3,E1,bZ,ca,cb,cf,cg,cn,cr,cm,cq,ct,bH,and_self,k,Ws]
  .rw [decide_eq_false c] at k;rw [if_neg c];refine ai ?_;rw [yk];simp only [bE,an,↓reduceIte,Int.reduceBEq,Int.reduceEq,aD,L0,L1,L2,L3,E1,bZ,ca,cb,cf,cg,cn,cr,cm,cq,ct,bH,and_self,k,Wu]
 .have f:((l.length:Int)==2)=false:=by simp;omega
  have g:¬(l.length:Int)=2:=by omega
  by_cases c:l=da
  .rw [decide_eq_true c] at k;rw [if_pos c];refine ai ?_;rw [yk];simp only [bE,an,↓reduceIte,Int.reduceBEq,Int.reduceEq,aD,L0,L1,L2,L3,E1,bZ,ca,cb,cf,cg,cn,cr,cm,cq,ct,bH,and_self,f,g,k,Ws]
  .rw [decide_eq_false c] at k;rw [if_neg c];refine ai ?_;rw [yk];simp only [bE,an,↓reduceIte,Int.reduceBEq,Int.reduceEq,aD,L0,L1,L2,L3,E1,bZ,ca,cb,cf,cg,cn,cr,cm,cq,ct,bH,and_self,f,g,k,Wu]
theorem TC:Or (.call 73) (SA 10 ek ks n d nm es [] dn ea da so) []=some [ti (bc 10 d [] da so)]:=by have e:bc 10 d [] da so=if d=1 then 2 else 3:=rfl;have k:=oY (d==1);rw [e];refine ai ?_;rw [N8];simp only [bE,an,↓reduceIte,Int.reduceBEq,Int.reduceEq,aD,L0,L1,L2,L3,E1,bZ,ca,cb,cf,cg,cn,cr,cm,cq,ct,bH,and_self,k];by_cases h:d=1 <;> simp [h]
theorem TE{a:Int}:Or (.call 73) (SA 12 ek ks n d nm es [a] dn ea da so) []=some [ti (bc 12 d [a] da so)]:=by
 have e:bc 12 d [a] da so=if pN a then(if a=2/\d=1 then 2 else 3) else 0:=rfl;have k:=J4 a;have k9:=oY (bif a==2 then d==1 else false);rw [e];refine ai ?_;rw [N9];cases i:pN a <;> rw [i] at k
 .cases g:(bif a==2 then d==1 else false) <;> rw [g] at k9 <;> simp only [bE,aI,aL,aV,bK,aO,cu,aR,aX,iX,iW,iR,fx,fO,↓reduceIte,Int.reduceBEq,Ws,Wu,aD,L0,L1,L2,L3,E1,bZ,ca,cb,cf,cg,cn,cr,cm,cq,ct,bH,and_self,k,k9,g] <;> rfl
 .by_cases c:a=2
  .have b:(a==2)=true:=by simpa using c
   rw [b] at k9;by_cases f:d=1
   .have x2:(d==1)=true:=by simpa using f
    rw [x2] at k9;rw [show(if(true:Bool)=true then(if a=2/\d=1 then(2:Int) else 3) else 0)=2 from by rw [if_pos rfl,if_pos ⟨c,f⟩]];simp only [bE,aI,aL,aV,bK,aO,cu,aR,aX,iX,iW,iR,fx,fO,↓reduceIte,Int.reduceBEq,Ws,Wu,aD,L0,L1,L2,L3,E1,bZ,ca,cb,cf,cg,cn,cr,cm,cq,ct,bH,and_self,k,oY true,oY false,b,x2]
    try rfl
   .have x2:(d==1)=false:=by simpa using f
    rw [x2] at k9;rw [show(if(true:Bool)=true then(if a=2/\d=1 then(2:Int) else 3) else 0)=3 from by rw [if_pos rfl,if_neg (λh=>f h.2)]];simp only [bE,aI,aL,aV,bK,aO,cu,aR,aX,iX,iW,iR,fx,fO,↓reduceIte,Int.reduceBEq,Ws,Wu,aD,L0,L1,L2,L3,E1,bZ,ca,cb,cf,cg,cn,cr,cm,cq,ct,bH,and_self,k,oY true,oY false,b,x2]
    try rfl
  .have b:(a==2)=false:=by simpa using c
   rw [b] at k9;rw [show(if(true:Bool)=true then(if a=2/\d=1 then(2:Int) else 3) else 0)=3 from by rw [if_pos rfl,if_neg (λh=>c h.1)]];simp only [bE,aI,aL,aV,bK,aO,cu,aR,aX,iX,iW,iR,fx,fO,↓reduceIte,Int.reduceBEq,Ws,Wu,aD,L0,L1,L2,L3,E1,bZ,ca,cb,cf,cg,cn,cr,cm,cq,ct,bH,and_self,k,oY true,oY false,b]
   try rfl
theorem TH(a: 0<=d/\d<=1000):Or (.call 73) (SA 15 ek ks n d nm es [] dn ea da so) []=some [ti (bc 15 d [] da so)]:=by have e:bc 15 d [] da so=10+d:=rfl;have w:i64.wrap (10+d)=10+d:=wr (by omega);rw [e];refine ai ?_;rw [Oa];simp only [bE,an,↓reduceIte,Int.reduceBEq,Int.reduceEq,aD,L0,L1,L2,L3,E1,bZ,ca,cb,cf,cg,cn,cr,cm,cq,ct,bH,and_self,w]
theorem TI{a:Int}:Or (.call 73) (SA 16 ek ks n d nm es [a] dn ea da so) []=some [ti (bc 16 d [a] da so)]:=by have e:bc 16 d [a] da so=if aE a then a else 0:=rfl;have k:=hH a;rw [e];refine ai ?_;rw [Ob];cases b:aE a <;> rw [b] at k <;> simp only [bE,an,↓reduceIte,Int.reduceBEq,Int.reduceEq,aD,L0,L1,L2,L3,E1,bZ,ca,cb,cf,cg,cn,cr,cm,cq,ct,bH,and_self,k,Ws,Wu] <;> rfl
theorem TQ{a:Int}:Or (.call 73) (SA 23 ek ks n d nm es [a] dn ea da so) []=some [ti (bc 23 d [a] da so)]:=by have e:bc 23 d [a] da so=if aE a then a else 0:=rfl;have k:=hH a;rw [e];refine ai ?_;rw [Ol];cases b:aE a <;> rw [b] at k <;> simp only [bE,an,↓reduceIte,Int.reduceBEq,Int.reduceEq,aD,L0,L1,L2,L3,E1,bZ,ca,cb,cf,cg,cn,cr,cm,cq,ct,bH,and_self,k,Ws,Wu] <;> rfl
theorem TJ{a b:Int}:Or (.call 73) (SA 17 ek ks n d nm es [a,b] dn ea da so) []=some [ti (bc 17 d [a,b] da so)]:=by
 have e:bc 17 d [a,b] da so=if a=b/\aE a=true then a else 0:=rfl;have k:=hH a;rw [e];refine ai ?_;rw [Oc];by_cases h:a=b
 .have y:(a==b)=true:=by simpa using h
  cases c:aE a <;> rw [c] at k
  .simp only [bE,an,↓reduceIte,Int.reduceBEq,Int.reduceEq,aD,L0,L1,L2,L3,E1,bZ,ca,cb,cf,cg,cn,cr,cm,cq,ct,bH,and_self,y,k,Ws,Wu];simp [h,c]
   try (subst h;simp [c])
  .simp only [bE,an,↓reduceIte,Int.reduceBEq,Int.reduceEq,aD,L0,L1,L2,L3,E1,bZ,ca,cb,cf,cg,cn,cr,cm,cq,ct,bH,and_self,y,k,Ws,Wu];simp [h,c]
   try (subst h;simp [c])
 .have y:(a==b)=false:=by simpa using h
  simp only [bE,an,↓reduceIte,Int.reduceBEq,Int.reduceEq,aD,L0,L1,L2,L3,E1,bZ,ca,cb,cf,cg,cn,cr,cm,cq,ct,bH,and_self,y,Wu];simp [h]
theorem TK{a b:Int}:Or (.call 73) (SA 18 ek ks n d nm es [a,b] dn ea da so) []=some [ti (bc 18 d [a,b] da so)]:=by
 have e:bc 18 d [a,b] da so=if a=b/\aE a=true then a else 0:=rfl;have k:=hH a;rw [e];refine ai ?_;rw [Od];by_cases h:a=b
 .have y:(a==b)=true:=by simpa using h
  cases c:aE a <;> rw [c] at k
  .simp only [bE,an,↓reduceIte,Int.reduceBEq,Int.reduceEq,aD,L0,L1,L2,L3,E1,bZ,ca,cb,cf,cg,cn,cr,cm,cq,ct,bH,and_self,y,k,Ws,Wu];simp [h,c]
   try (subst h;simp [c])
  .simp only [bE,an,↓reduceIte,Int.reduceBEq,Int.reduceEq,aD,L0,L1,L2,L3,E1,bZ,ca,cb,cf,cg,cn,cr,cm,cq,ct,bH,and_self,y,k,Ws,Wu];simp [h,c]
   try (subst h;simp [c])
 .have y:(a==b)=false:=by simpa using h
  simp only [bE,an,↓reduceIte,Int.reduceBEq,Int.reduceEq,aD,L0,L1,L2,L3,E1,bZ,ca,cb,cf,cg,cn,cr,cm,cq,ct,bH,and_self,y,Wu];simp [h]
theorem TL{a b:Int}:Or (.call 73) (SA 19 ek ks n d nm es [a,b] dn ea da so) []=some [ti (bc 19 d [a,b] da so)]:=by
 have e:bc 19 d [a,b] da so=if a=b/\aE a=true then a else 0:=rfl;have k:=hH a;rw [e];refine ai ?_;rw [Oe];by_cases h:a=b
 .have y:(a==b)=true:=by simpa using h
  cases c:aE a <;> rw [c] at k
  .simp only [bE,an,↓reduceIte,Int.reduceBEq,Int.reduceEq,aD,L0,L1,L2,L3,E1,bZ,ca,cb,cf,cg,cn,cr,cm,cq,ct,bH,and_self,y,k,Ws,Wu];simp [h,c]
   try (subst h;simp [c])
  .simp only [bE,an,↓reduceIte,Int.reduceBEq,Int.reduceEq,aD,L0,L1,L2,L3,E1,bZ,ca,cb,cf,cg,cn,cr,cm,cq,ct,bH,and_self,y,k,Ws,Wu];simp [h,c]
   try (subst h;simp [c])
 .have y:(a==b)=false:=by simpa using h
  simp only [bE,an,↓reduceIte,Int.reduceBEq,Int.reduceEq,aD,L0,L1,L2,L3,E1,bZ,ca,cb,cf,cg,cn,cr,cm,cq,ct,bH,and_self,y,Wu];simp [h]
theorem TN{a b:Int}:Or (.call 73) (SA 20 ek ks n d nm es [a,b] dn ea da so) []=some [ti (bc 20 d [a,b] da so)]:=by
 have e:bc 20 d [a,b] da so=if a=b/\aE a=true then a else 0:=rfl;have k:=hH a;rw [e];refine ai ?_;rw [Oh];by_cases h:a=b
 .have y:(a==b)=true:=by simpa using h
  cases c:aE a <;> rw [c] at k
  .simp only [bE,an,↓reduceIte,Int.reduceBEq,Int.reduceEq,aD,L0,L1,L2,L3,E1,bZ,ca,cb,cf,cg,cn,cr,cm,cq,ct,bH,and_self,y,k,Ws,Wu];simp [h,c]
   try (subst h;simp [c])
  .simp only [bE,an,↓reduceIte,Int.reduceBEq,Int.reduceEq,aD,L0,L1,L2,L3,E1,bZ,ca,cb,cf,cg,cn,cr,cm,cq,ct,bH,and_self,y,k,Ws,Wu];simp [h,c]
   try (subst h;simp [c])
 .have y:(a==b)=false:=by simpa using h
  simp only [bE,an,↓reduceIte,Int.reduceBEq,Int.reduceEq,aD,L0,L1,L2,L3,E1,bZ,ca,cb,cf,cg,cn,cr,cm,cq,ct,bH,and_self,y,Wu];simp [h]
theorem TO{a b:Int}:Or (.call 73) (SA 21 ek ks n d nm es [a,b] dn ea da so) []=some [ti (bc 21 d [a,b] da so)]:=by
 have e:bc 21 d [a,b] da so=if a=b/\aE a=true then a else 0:=rfl;have k:=hH a;rw [e];refine ai ?_;rw [Oi];by_cases h:a=b
 .have y:(a==b)=true:=by simpa using h
  cases c:aE a <;> rw [c] at k
  .simp only [bE,an,↓reduceIte,Int.reduceBEq,Int.reduceEq,aD,L0,L1,L2,L3,E1,bZ,ca,cb,cf,cg,cn,cr,cm,cq,ct,bH,and_self,y,k,Ws,Wu];simp [h,c]
   try (subst h;simp [c])
  .simp only [bE,an,↓reduceIte,Int.reduceBEq,Int.reduceEq,aD,L0,L1,L2,L3,E1,bZ,ca,cb,cf,cg,cn,cr,cm,cq,ct,bH,and_self,y,k,Ws,Wu];simp [h,c]
   try (subst h;simp [c])
 .have y:(a==b)=false:=by simpa using h
  simp only [bE,an,↓reduceIte,Int.reduceBEq,Int.reduceEq,aD,L0,L1,L2,L3,E1,bZ,ca,cb,cf,cg,cn,cr,cm,cq,ct,bH,and_self,y,Wu];simp [h]
theorem TP{a b:Int}:Or (.call 73) (SA 22 ek ks n d nm es [a,b] dn ea da so) []=some [ti (bc 22 d [a,b] da so)]:=by
 have e:bc 22 d [a,b] da so=if a=b/\aE a=true then 1 else 0:=rfl;have k:=hH a;rw [e];refine ai ?_;rw [Oj];by_cases h:a=b
 .have y:(a==b)=true:=by simpa using h
  cases c:aE a <;> rw [c] at k
  .simp only [bE,an,↓reduceIte,Int.reduceBEq,Int.reduceEq,aD,L0,L1,L2,L3,E1,bZ,ca,cb,cf,cg,cn,cr,cm,cq,ct,bH,and_self,y,k,Ws,Wu];simp [h,c]
   try (subst h;simp [c])
  .simp only [bE,an,↓reduceIte,Int.reduceBEq,Int.reduceEq,aD,L0,L1,L2,L3,E1,bZ,ca,cb,cf,cg,cn,cr,cm,cq,ct,bH,and_self,y,k,Ws,Wu];simp [h,c]
   try (subst h;simp [c])
 .have y:(a==b)=false:=by simpa using h
  simp only [bE,an,↓reduceIte,Int.reduceBEq,Int.reduceEq,aD,L0,L1,L2,L3,E1,bZ,ca,cb,cf,cg,cn,cr,cm,cq,ct,bH,and_self,y,Wu];simp [h]
theorem TR{a b:Int}:Or (.call 73) (SA 24 ek ks n d nm es [a,b] dn ea da so) []=some [ti (bc 24 d [a,b] da so)]:=by
 have e:bc 24 d [a,b] da so=if [a,b]= [5,4] then 4 else 0:=rfl;have k:=C4 (e:=false) (e':=es) (l:= [a,b]) (da:= [5,4]) (by simp);replace k:Or (.call 96) [AV.t (T.ad 1 false [[ti 5],[ti 4]]),AV.t (T.ptr [T.ad 1 es (enc [a,b])])] []=_:=k;rw [e];by_cases c: [a,b]= [5,4]
 .rw [decide_eq_true c] at k;rw [if_pos c];refine ai ?_;rw [Gc];simp only [bE,an,↓reduceIte,Int.reduceBEq,Int.reduceEq,aD,L0,L1,L2,L3,E1,bZ,ca,cb,cf,cg,cn,cr,cm,cq,ct,bH,and_self,k,Ws]
 .rw [decide_eq_false c] at k;rw [if_neg c];refine ai ?_;rw [Gc];simp only [bE,an,↓reduceIte,Int.reduceBEq,Int.reduceEq,aD,L0,L1,L2,L3,E1,bZ,ca,cb,cf,cg,cn,cr,cm,cq,ct,bH,and_self,k,Wu]
theorem TS{a b c:Int}:Or (.call 73) (SA 25 ek ks n d nm es [a,b,c] dn ea da so) []=some [ti (bc 25 d [a,b,c] da so)]:=by
 have e:bc 25 d [a,b,c] da so=if [a,b,c]= [5,4,4] then 5 else 0:=rfl;have k:=C4 (e:=false) (e':=es) (l:= [a,b,c]) (da:= [5,4,4]) (by simp);replace k:Or (.call 96) [AV.t (T.ad 1 false [[ti 5],[ti 4],[ti 4]]),AV.t (T.ptr [T.ad 1 es (enc [a,b,c])])] []=_:=k;rw [e];by_cases f: [a,b,c]= [5,4,4]
 .rw [decide_eq_true f] at k;rw [if_pos f];refine ai ?_;rw [Gd];simp only [bE,an,↓reduceIte,Int.reduceBEq,Int.reduceEq,aD,L0,L1,L2,L3,E1,bZ,ca,cb,cf,cg,cn,cr,cm,cq,ct,bH,and_self,k,Ws]
 .rw [decide_eq_false f] at k;rw [if_neg f];refine ai ?_;rw [Gd];simp only [bE,an,↓reduceIte,Int.reduceBEq,Int.reduceEq,aD,L0,L1,L2,L3,E1,bZ,ca,cb,cf,cg,cn,cr,cm,cq,ct,bH,and_self,k,Wu]
end
open Go Go.Aev Go.IntKind
theorem RR(i:Nat)(h:i<=9223372036854775806):i64.wrap ((i:Int)+1)= ((i+1:Nat):Int):=by rw [wr (by omega)];omega
def pJ(i:Nat)(u:UInt8):Bool:=
 !((!((((u.toNat:Int)==95) || (decide ((u.toNat:Int)>=97) && decide ((u.toNat:Int)<=122))) || (decide ((u.toNat:Int)>=65) && decide ((u.toNat:Int)<=90)))) && ((((i:Int)==0) || decide ((u.toNat:Int) < 48)) || decide ((u.toNat:Int) > 57)))
def mE:Nat->List UInt8->Bool
 | _,[]=>true
 | i,u::r=>pJ i u && mE (i+1) r
def lJ(s:ByteArray):Bool:=mE 0 s.data.toList && (decide ((s.size:Int)>=1) && decide ((s.size:Int)<=12))
theorem gS(a b:Bool):(bif a then true else b)= (a || b):=by cases a <;> rfl
theorem Rf(s:ByteArray)(hs:s.size<=9223372036854775807):∀(r:List UInt8) (i:Nat),s.data.toList.drop i=r->Or xu [AV.t (T.str s),I (s.size:Int),I (i:Int)] []=some [tb (mE i r && (decide ((s.size:Int)>=1) && decide ((s.size:Int)<=12)))]:=by
 intro r;induction r with
 | nil=>
  intro i g;have b:¬(i:Int) < (s.size:Int):=by have:=bt g;rw [sX] at this;omega
  refine ai ?_;rw [F3];simp only [aI,aX,aR,b,decide_false,mE,Xe,jg]
 | cons u r h=>
  intro i g;obtain⟨g1,c,e⟩:=br g;rw [sX] at c;have b:(i:Int) < (s.size:Int):=by omega
  have h0: 0<=(i:Int):=by omega
  have f:=h (i+1) e;rw [mE];refine ai ?_;rw [F3];simp only [aI,aX,aR,b,h0,and_self,decide_true,↓reduceIte,WW,g1,jg,gS];cases a:pJ i u with
  | true=>unfold pJ at a;rw [Xo] at a;simp only [a,cond_false,Xe,RR i (by omega)];exact f
  | false=>unfold pJ at a;rw [Yp] at a;simp only [a,cond_true,Xm]
theorem Tx(s:ByteArray)(hs:s.size<=9223372036854775807):Or (.call 66) [AV.t (T.str s)] []=some [tb (lJ s)]:=by have:=Rf s hs s.data.toList 0 rfl;refine ai ?_;rw [N1];exact this
def nN(s:Int):Bool:=(decide (s>=1) && decide (s<=5)) || aE s
theorem Tz(s:Int):Or (.call 68) [I s] []=some [tb (nN s)]:=by
 have k:=hH s;unfold nN;refine ai ?_;rw [N3];simp only [jg];cases h:(decide (s>=1) && decide (s<=5)) with
 | true=>simp only [bE,an,↓reduceIte,Int.reduceBEq,Int.reduceEq,Ws];rfl
 | false=>simp only [an,↓reduceIte,Int.reduceBEq,Int.reduceEq,Wu,k];rfl
theorem RC{e:Bool}{ds:List Dc}{d:Dc}(hl:ds.length<=1000):∀(r:List Dc) (i:Nat),ds.drop i=r->
  ∃z:Int,Or jd [AV.t (T.ad 3 e (aN ds)),AV.fn 67 [] [AV.t (T.ptr [T.str d.nm,T.ad 1 d.ea (enc d.ar),ti d.so])],I (ds.length:Int),I (i:Int)] []=some [ti z]/\decide (z>=0)=r.any λx=>decide (x.nm=d.nm):=by
 intro r;induction r with
 | nil=>
  intro i g;have a:¬(i:Int) < (ds.length:Int):=by have:=bt g;omega
  refine⟨-1,ai ?_,by simp⟩;rw [Br];simp only [an,↓reduceIte,Int.reduceBEq,Int.reduceEq,a]
 | cons x r f=>
  intro i g;obtain⟨g1,l,c⟩:=br g;have a:(i:Int) < (ds.length:Int):=by omega
  have h0: 0<=(i:Int):=by omega
  have k:Or (.call 67) [AV.agg [AV.t (T.str x.nm),AV.t (T.ad 1 x.ea (enc x.ar)),I x.so],AV.t (T.ptr [T.str d.nm,T.ad 1 d.ea (enc d.ar),ti d.so])] []=some [tb (decide (x.nm=d.nm))]:=by refine ai ?_;rw [N2,uD]
  cases b:decide (x.nm=d.nm) with
  | true=>rw [b] at k;refine⟨(i:Int),ai ?_,by simp [b]⟩;rw [Br];simp only [an,↓reduceIte,Int.reduceBEq,Int.reduceEq,a,h0,and_self,cX,fR g1,k]
  | false=>rw [b] at k;obtain⟨z,h,j⟩:=f (i+1) c;refine⟨z,ai ?_,by rw [j];simp [b]⟩;rw [Br];simp only [an,↓reduceIte,Int.reduceBEq,Int.reduceEq,a,h0,and_self,cX,fR g1,k,next i (by omega)];exact h
theorem Tm{e:Bool}{ds:List Dc}{d:Dc}(hl:ds.length<=1000):Or (.call 32) [AV.t (T.ad 3 e (aN ds)),AV.fn 67 [] [AV.t (T.ptr [T.str d.nm,T.ad 1 d.ea (enc d.ar),ti d.so])]] []=some [tb (ds.any λx=>decide (x.nm=d.nm))]:=by
 obtain⟨z,b,c⟩:=RC (e:=e) (d:=d) hl ds 0 rfl;have a:Or (.call 75) [AV.t (T.ad 3 e (aN ds)),AV.fn 67 [] [AV.t (T.ptr [T.str d.nm,T.ad 1 d.ea (enc d.ar),ti d.so])]] []=some [ti z]:=by refine ai ?_;rw [OG];simp only [cX];exact b
 refine ai ?_;rw [Ny];simp only [an,↓reduceIte,Int.reduceBEq,Int.reduceEq,a,c]
theorem Rv{e:Bool}{l:List Int}(hl:l.length<=1000):∀(r:List Int) (i:Nat),l.drop i=r->
  ∃z:Int,Or fN [ad e l,AV.fn 69 [] [],I (l.length:Int),I (i:Int)] []=some [ti z]/\decide (z>=0)=r.any λs=> !(s==4):=by
 intro r;induction r with
 | nil=>
  intro i g;have a:¬(i:Int) < (l.length:Int):=by have:=bt g;omega
  refine⟨-1,ai ?_,by simp⟩;rw [Bk];simp only [an,↓reduceIte,Int.reduceBEq,Int.reduceEq,a]
 | cons d r f=>
  intro i g;obtain⟨g1,m,c⟩:=br g;have a:(i:Int) < (l.length:Int):=by omega
  have h0: 0<=(i:Int):=by omega
  have k:Or (.call 69) [I d] []=some [tb (!(d==4))]:=by refine ai ?_;rw [N5]
  cases b: !(d==4) with
  | true=>rw [b] at k;refine⟨(i:Int),ai ?_,by simp only [Xz,b,XZ];simp⟩;rw [Bk];simp only [aI,aL,bK,aO,a,h0,and_self,aD,bP g1,k,aR,im,↓reduceIte]
  | false=>rw [b] at k;obtain⟨z,h,j⟩:=f (i+1) c;refine⟨z,ai ?_,by rw [j];simp only [Xz,b,W4]⟩;rw [Bk];simp only [aI,aL,bK,aO,a,h0,and_self,aD,bP g1,k,aX,im,↓reduceIte,next i (by omega)];exact h
theorem Tj{e:Bool}{l:List Int}(hl:l.length<=1000):Or (.call 31) [ad e l,AV.fn 69 [] []] []=some [tb (l.any λs=> !(s==4))]:=by
 obtain⟨z,b,c⟩:=Rv (e:=e) hl l 0 rfl;have a:Or (.call 74) [ad e l,AV.fn 69 [] []] []=some [ti z]:=by refine ai ?_;rw [Ow];simp only [aD];exact b
 refine ai ?_;rw [Nl];simp only [an,↓reduceIte,Int.reduceBEq,Int.reduceEq,a,c]
def gJ(a:List Dc)(d:Dc):Int:=
 if lJ d.nm=false then 12
 else if(a.any λx=>decide (x.nm=d.nm))=true then 7
 else if 8 < d.ar.length then 9
 else if nN d.so=false\/(d.ar.any λs=> !(s==4))=true\/(d.so=5/\0 < d.ar.length) then 4
 else 0
def eN:List Dc->Nat->List Dc->Int×Int
 | _,_,[]=>(0,0)
 | a,i,d::r=>if gJ a d=0 then eN (a++ [d]) (i+1) r else(gJ a d,(i:Int))
theorem Kt{i:Nat}(l:List (List T)):sub 0 (i:Int) l=l.take i:=by simp [sub]
theorem QR{e:Bool}{ds:List Dc}(hl:ds.length<=100)(J:∀d∈ds,d.nm.size<=9223372036854775807):∀(r:List Dc) (i:Nat) (a:List Dc),ds.drop i=r->a=ds.take i->i<=ds.length->
  Or sM [AV.t (T.ad 3 e (aN ds)),r0,AV.t (T.ad 3 e (aN ds)),I (ds.length:Int),I (i:Int)] [kP]=some [ti (eN a i r).1,ti (eN a i r).2]:=by
 intro r;induction r with
 | nil=>
  intro i a g C H;have q:¬(i:Int) < (ds.length:Int):=by have:=bt g;omega
  refine ai ?_;rw [pR];simp only [an,↓reduceIte,Int.reduceBEq,Int.reduceEq,q,eN]
 | cons d r L=>
  intro i a g C H;obtain⟨g1,N,G⟩:=br g;have hm:=Wx g1;have q:(i:Int) < (ds.length:Int):=by omega
  have h0: 0<=(i:Int):=by omega
  have b:=Tx d.nm (J d hm);have m:iI 0 (i:Int) (ds.length:Int)=some ():=by unfold iI;rw [if_pos ⟨by omega,by omega,by omega⟩]
  have f:sub 0 (i:Int) (aN ds)=aN a:=by rw [Kt,C];simp [aN,List.map_take]
  have j:=Tm (e:=e) (ds:=a) (d:=d) (by rw [C,Xk];omega);have K:=L (i+1) (a++ [d]) G (by rw [C,X9,g1];rfl) (by omega);have M:=next i (by omega);rw [eN];cases p:lJ d.nm with
  | false=>
   rw [p] at b;have c:gJ a d=12:=by simp [gJ,p]
   rw [c,if_neg (by decide)];refine ai ?_;rw [pR];simp only [an,↓reduceIte,Int.reduceBEq,Int.reduceEq,q,h0,and_self,cX,fR g1,b,Wu]
  | true=>
  rw [p] at b;cases u:a.any λx=>decide (x.nm=d.nm) with
  | true=>
   rw [u] at j;have c:gJ a d=7:=by unfold gJ;rw [p,u];rfl
   rw [c,if_neg (by decide)];refine ai ?_;rw [pR];simp only [an,↓reduceIte,Int.reduceBEq,Int.reduceEq,q,h0,and_self,cX,fR g1,b,Ws,m,f,j]
  | false=>
  rw [u] at j;by_cases w: 8 < d.ar.length
  .have k:(d.ar.length:Int) > 8:=by omega
   have c:gJ a d=9:=by unfold gJ;rw [p,u,if_neg (by decide),if_neg (by decide),if_pos w]
   rw [c,if_neg (by decide)];refine ai ?_;rw [pR];simp only [an,↓reduceIte,Int.reduceBEq,Int.reduceEq,q,h0,and_self,cX,fR g1,b,Ws,m,f,j,aD,k]
  have k:¬(d.ar.length:Int) > 8:=by omega
  have o:=Tz d.so;have v:=Tj (e:=d.ea) (l:=d.ar) (by omega);cases z:nN d.so with
  | false=>
   rw [z] at o;have c:gJ a d=4:=by unfold gJ;rw [p,u,if_neg (by decide),if_neg (by decide),if_neg w,if_pos (.inl z)]
   rw [c,if_neg (by decide)];refine ai ?_;rw [pR];simp only [an,↓reduceIte,Int.reduceBEq,Int.reduceEq,q,h0,and_self,cX,fR g1,b,Ws,m,f,j,aD,k,o,Wu]
  | true=>
  rw [z] at o;cases A:d.ar.any λs=> !(s==4) with
  | true=>
   rw [A] at v;have c:gJ a d=4:=by unfold gJ;rw [p,u,if_neg (by decide),if_neg (by decide),if_neg w,if_pos (.inr (.inl A))]
   rw [c,if_neg (by decide)];refine ai ?_;rw [pR];simp only [an,↓reduceIte,Int.reduceBEq,Int.reduceEq,q,h0,and_self,cX,fR g1,b,Ws,m,f,j,aD,k,o,v]
  | false=>
  rw [A] at v;by_cases B:d.so=5/\0 < d.ar.length
  .have E:(d.ar.length:Int) > 0:=by omega
   have F:(d.so==5)=true:=by simpa using B.1
   have D:(bif d.so==5 then decide ((d.ar.length:Int) > 0) else false)=true:=by rw [F,decide_eq_true E];rfl
   have c:gJ a d=4:=by unfold gJ;rw [p,u,if_neg (by decide),if_neg (by decide),if_neg w,if_pos (.inr (.inr B))]
   rw [c,if_neg (by decide)];refine ai ?_;rw [pR];simp only [aI,aL,aV,bK,aO,iO,cu,aR,aX,im,↓reduceIte,q,h0,and_self,cX,fR g1,b,Ws,m,f,j,aD,k,o,v,D]
  .have c:gJ a d=0:=by unfold gJ;rw [p,u,if_neg (by decide),if_neg (by decide),if_neg w,z,A,if_neg (by rintro(h | h | h);cases h;cases h;exact B h)]
   rw [if_pos c];have D:(bif d.so==5 then decide ((d.ar.length:Int) > 0) else false)=false:=by
    by_cases x:d.so=5
    .have:¬(d.ar.length:Int) > 0:=λy=>B ⟨x,by omega⟩;rw [decide_eq_false this];cases d.so==5 <;> rfl
    .have:(d.so==5)=false:=by simpa using x
     rw [this];rfl
   refine ai ?_;rw [pR];simp only [aI,aL,aV,bK,aO,iO,cu,aR,aX,im,↓reduceIte,q,h0,and_self,cX,fR g1,b,Ws,m,f,j,aD,k,o,v,D,M];exact K
theorem Tb{e:Bool}{ds:List Dc}(b:∀d∈ds,d.nm.size<=9223372036854775807):Or (.call 29) [AV.t (T.ad 3 e (aN ds))] []=some (if 30 < ds.length then [ti 2,ti 0] else [ti (eN [] 0 ds).1,ti (eN [] 0 ds).2]):=by
 by_cases h: 30 < ds.length
 .have a:(ds.length:Int) > 30:=by omega
  rw [if_pos h];refine ai ?_;rw [FL];simp only [an,↓reduceIte,Int.reduceBEq,Int.reduceEq,cX,a]
 .have a:¬(ds.length:Int) > 30:=by omega
  have c:=QR (e:=e) (show ds.length<=100 by omega) b ds 0 [] rfl rfl (Xr _);rw [if_neg h];refine ai ?_;rw [FL];simp only [an,↓reduceIte,Int.reduceBEq,Int.reduceEq,cX,a];exact c
open Go Go.Aev Go.IntKind
def dS(op:Int):Int:=
 if op=1\/op=2\/op=10\/op=15 then 0 else if op=3\/op=12\/op=16\/op=23 then 1 else if op=7\/op=25 then 3 else if op=4\/op=5\/op=11 then -1 else 2
theorem tZ{op:Int}(h: 1<=op/\op<=25):op=1\/op=2\/op=3\/op=4\/op=5\/op=6\/op=7\/op=8\/op=9\/op=10\/op=11\/op=12\/op=13\/op=14\/op=15\/op=16\/op=17\/op=18\/op=19\/op=20\/op=21\/op=22\/op=23\/op=24\/op=25:=by omega
theorem TA{op:Int}(h: 1<=op/\op<=25):Or (.call 70) [I op] []=some [ti (dS op)]:=by rcases tZ h with rfl | rfl | rfl | rfl | rfl | rfl | rfl | rfl | rfl | rfl | rfl | rfl | rfl | rfl | rfl | rfl | rfl | rfl | rfl | rfl | rfl | rfl | rfl | rfl | rfl <;> exact CC (n:=5) (by kernel_rfl)
theorem zF{op:Int}{ek:Bool}{ks:List (List T)}{n d:Int}{nm:ByteArray}{es:Bool}{l:List Int}{dn:ByteArray}{ea:Bool}{da:List Int}{so:Int}(h: 1<=op/\op<=25)(hl:l.length<=1000)(e:op≠9->0<=dS op->(l.length:Int)=dS op)(m:op=15->0<=d/\d<=1000):
  Or (.call 73) (SA op ek ks n d nm es l dn ea da so) []=some [ti (bc op d l da so)]:=by
 have g:(l.length:Int)=0->l= []:=λh=>WT.1 (by omega);have i:(l.length:Int)=1->∃a,l= [a]:=λh=>by
  have j:l.length=1:=by omega
  exact X0.1 j
 have f:(l.length:Int)=2->∃a b,l= [a,b]:=λh=>by
  have j:l.length=2:=by omega
  match l,j with
  | [a,b],_=>exact⟨a,b,rfl⟩
 have k:(l.length:Int)=3->∃a b c,l= [a,b,c]:=λh=>by
  have j:l.length=3:=by omega
  match l,j with
  | [a,b,c],_=>exact⟨a,b,c,rfl⟩
 rcases tZ h with rfl | rfl | rfl | rfl | rfl | rfl | rfl | rfl | rfl | rfl | rfl | rfl | rfl | rfl | rfl | rfl | rfl | rfl | rfl | rfl | rfl | rfl | rfl | rfl | rfl
 .rw [g (e (by decide) (by decide))];exact TB
 .rw [g (e (by decide) (by decide))];exact TM
 .exact TT hl
 .exact TU hl
 .exact TV hl
 .exact TW hl
 .obtain⟨a,b,c,rfl⟩:=k (e (by decide) (by decide));exact TX
 .obtain⟨a,b,rfl⟩:=f (e (by decide) (by decide));exact TY
 .exact TZ hl
 .rw [g (e (by decide) (by decide))];exact TC
 .exact TD hl
 .obtain⟨a,rfl⟩:=i (e (by decide) (by decide));exact TE
 .exact TF hl
 .exact TG hl
 .rw [g (e (by decide) (by decide))];exact TH (m rfl)
 .obtain⟨a,rfl⟩:=i (e (by decide) (by decide));exact TI
 .obtain⟨a,b,rfl⟩:=f (e (by decide) (by decide));exact TJ
 .obtain⟨a,b,rfl⟩:=f (e (by decide) (by decide));exact TK
 .obtain⟨a,b,rfl⟩:=f (e (by decide) (by decide));exact TL
 .obtain⟨a,b,rfl⟩:=f (e (by decide) (by decide));exact TN
 .obtain⟨a,b,rfl⟩:=f (e (by decide) (by decide));exact TO
 .obtain⟨a,b,rfl⟩:=f (e (by decide) (by decide));exact TP
 .obtain⟨a,rfl⟩:=i (e (by decide) (by decide));exact TQ
 .obtain⟨a,b,rfl⟩:=f (e (by decide) (by decide));exact TR
 .obtain⟨a,b,c,rfl⟩:=k (e (by decide) (by decide));exact TS
def gg(x:Nd):Bool:=
 ((decide (x.nm=s0) || (x.op==9)) && (((x.n==0) || (((x.op==10) || (x.op==12)) || (x.op==15))) || (x.op==23))) && ((x.d==0) || (((x.op==10) || (x.op==12)) || (x.op==15)))
theorem zC(x:Nd):Or (.call 71) [AV.agg [I x.op,ad x.ek x.ks,I x.n,I x.d,AV.t (T.str x.nm)]] []=some [tb (gg x)]:=by refine ai ?_;rw [N6];simp only [jg,gS,uD];rfl
def rI(a b:Int):Int:=if h:b=0 then mm true a (i64.wrap (0 - a)) else rI b (a.tmod b)
termination_by b.natAbs
decreasing_by
 rw [Int.natAbs_tmod];exact Zo _ (Int.natAbs_pos.2 h)
theorem RK:∀(n:Nat) (a b:Int),b.natAbs<=n->Or xx [I a,I b] []=some [ti (rI a b)]:=by
 intro n;induction n with
 | zero=>
  intro a b e;have h0:b=0:=by omega
  subst h0;rw [rI,dif_pos rfl];refine ai ?_;rw [Bs];simp only [an,↓reduceIte,Int.reduceBEq,Int.reduceEq,Ws]
 | succ n g=>
  intro a b e;by_cases h:b=0
  .subst h;rw [rI,dif_pos rfl];refine ai ?_;rw [Bs];simp only [an,↓reduceIte,Int.reduceBEq,Int.reduceEq,Ws]
  .have c:(b==0)=false:=by simpa using h
   have f:=g b (a.tmod b) (by
    have i:=Int.natAbs_tmod a b;have j:=Zo a.natAbs (Int.natAbs_pos.2 h);omega)
   rw [rI,dif_neg h];refine ai ?_;rw [Bs];simp only [an,↓reduceIte,Int.reduceBEq,Int.reduceEq,c,h,Wu];exact f
theorem T7(a b:Int):Or (.call 95) [I a,I b] []=some [ti (rI a b)]:=by have:=RK b.natAbs a b (WH _);refine ai ?_;rw [OK];exact this
def wO(n d:Int):Bool:=((decide (n>= -1000000) && decide (n<=1000000)) && decide (d>=1)) && decide (d<=1000000)
def fL(x:Nd):Bool:=
 if x.op=10\/x.op=12 then wO x.n x.d && (rI x.n x.d==1)
 else if x.op=15 then((decide (x.d>=1) && decide (x.d<=8)) && decide (x.n>=0)) && decide (x.n < i64.wrap (1 * 2 ^ min x.d.toNat 64))
 else if x.op=23 then decide (x.n>=0) && decide (x.n<=8)
 else true
theorem zD(x:Nd):Or (.call 72) [AV.agg [I x.op,ad x.ek x.ks,I x.n,I x.d,AV.t (T.str x.nm)]] []=some [tb (fL x)]:=by
 have k:=T7 x.n x.d;have g:(((decide (x.n>= -1000000) && decide (x.n<=1000000)) && decide (x.d>=1)) && decide (x.d<=1000000))=wO x.n x.d:=rfl;unfold fL;by_cases a:x.op=10\/x.op=12
 .rw [if_pos a];rcases a with a | a
  .have y:(x.op==10)=true:=by simpa using a
   cases b:wO x.n x.d with
   | true=>refine ai ?_;rw [pS];simp only [jg,g,b,aI,aL,aO,aR,fx,y,k,Xe]
   | false=>refine ai ?_;rw [pS];simp only [jg,g,b,bE,aR,fO,y,aI,Xm]
  .have y:(x.op==10)=false:=by simp [a]
   have c:(x.op==12)=true:=by simpa using a
   cases b:wO x.n x.d with
   | true=>refine ai ?_;rw [pS];simp only [jg,g,b,aI,aL,aO,aR,aX,fx,y,c,k,Xe]
   | false=>refine ai ?_;rw [pS];simp only [jg,g,b,bE,aR,aX,fO,y,c,aI,Xm]
 .have y:(x.op==10)=false:=by simp;exact λh=>a (.inl h)
  have c:(x.op==12)=false:=by simp;exact λh=>a (.inr h)
  rw [if_neg a];by_cases f:x.op=15
  .have e:(x.op==15)=true:=by simpa using f
   rw [if_pos f];cases b:((decide (x.d>=1) && decide (x.d<=8)) && decide (x.n>=0)) with
   | true=>
    have j:¬x.d < 0:=by simp only [Ww,decide_eq_true_eq] at b;omega
    refine ai ?_;rw [pS];simp only [jg,b,aI,aR,aX,y,c,e,j,↓reduceIte,Xe]
   | false=>refine ai ?_;rw [pS];simp only [jg,b,bE,aR,aX,y,c,e,Xm]
  .have e:(x.op==15)=false:=by simpa using f
   rw [if_neg f];by_cases c3:x.op=23
   .have i:(x.op==23)=true:=by simpa using c3
    rw [if_pos c3];refine ai ?_;rw [pS];simp only [jg,aR,aX,y,c,e,i]
   .have i:(x.op==23)=false:=by simpa using c3
    rw [if_neg c3];refine ai ?_;rw [pS];simp only [aX,y,c,e,i]
def dz(x:Nd)(i:Int)(ss:List Int)(da:List Int)(so:Int):Int×Int:=
 if(x.ks.any λk=>decide (k < 0) || decide (k>=i))=true then(0,3)
 else if gg x=false then(0,5)
 else if fL x=false then(0,3)
 else if bc x.op x.d (x.ks.map λk=>ss.getD k.toNat 0) da so=0 then(0,8)
 else(bc x.op x.d (x.ks.map λk=>ss.getD k.toNat 0) da so,0)
def bU(ds:List Dc)(x:Nd)(i:Int)(ss:List Int):Int×Int:=
 if x.op < 1\/25 < x.op then(0,4)
 else if x.op=9 then
  (if bm ds x.nm < 0 then(0,6)
  else if(x.ks.length≠((ds.getD (bm ds x.nm).toNat ⟨s0,true,[],0⟩).ar).length)\/8 < x.ks.length then(0,9)
  else dz x i ss (ds.getD (bm ds x.nm).toNat ⟨s0,true,[],0⟩).ar (ds.getD (bm ds x.nm).toNat ⟨s0,true,[],0⟩).so)
 else if(0<=dS x.op/\(x.ks.length:Int)≠dS x.op)\/8 < x.ks.length then(0,9)
 else dz x i ss [] 0
theorem tW{x:Nd}(h:fL x=true)(a:x.op=15): 1<=x.d/\x.d<=8/\0<=x.n/\x.n < i64.wrap (1 * 2 ^ min x.d.toNat 64):=by unfold fL at h;rw [if_neg (by omega),if_pos a] at h;simp only [Ww,decide_eq_true_eq] at h;omega
theorem QS{x:Nd}{i:Nat}{ss:List Int}{es:Bool}{dn:ByteArray}{ea:Bool}{da:List Int}{so:Int}(J:x.op=9)(C: 1<=x.op/\x.op<=25)(N:x.ks.length<=8)(O:ss.length=i):∀(r:List Int) (j:Nat) (a:List Int),x.ks.drop j=r->j<=x.ks.length->a.length=j->a≠[]->(∀k∈x.ks.take j,0<=k/\k < (i:Int))->a= (x.ks.take j).map (λk=>ss.getD k.toNat 0)->
  Or kc [I (i:Int),ad es ss,r0,r1,o2,ad x.ek x.ks,I (x.ks.length:Int),I (j:Int)] [aa.box [I x.op,ad x.ek x.ks,I x.n,I x.d,AV.t (T.str x.nm)],aa.box [AV.t (T.str dn),ad ea da,I so],aa.sl false 1 false (enc a)]=some [ti (dz x (i:Int) ss da so).1,ti (dz x (i:Int) ss da so).2]:=by
 intro r;induction r with
 | nil=>
  intro j a g K o B q m;have e:¬(j:Int) < (x.ks.length:Int):=by have:=bt g;omega
  have A:x.ks.take j=x.ks:=Yn (by have:=bt g;omega);rw [A] at q m;have b:=zC x;have c:=zD x;have v:(x.ks.any λk=>decide (k < 0) || decide (k>=(i:Int)))=false:=by rw [Xd];intro k hm;have:=q k hm;simp;omega
  unfold dz;rw [v,if_neg (by decide),<-m];cases z:gg x with
  | false=>rw [z] at b;rw [if_pos rfl];refine ai ?_;rw [tw];simp only [an,↓reduceIte,Int.reduceBEq,Int.reduceEq,e,b,Wu]
  | true=>
  rw [z] at b;rw [if_neg (by decide)];cases u:fL x with
  | false=>rw [u] at c;rw [if_pos rfl];refine ai ?_;rw [tw];simp only [an,↓reduceIte,Int.reduceBEq,Int.reduceEq,e,b,Ws,c,Wu]
  | true=>
  rw [u] at c;rw [if_neg (by decide)];have p:=zF (op:=x.op) (ek:=x.ek) (ks:=enc x.ks) (n:=x.n) (d:=x.d) (nm:=x.nm) (es:=false) (l:=a) (dn:=dn) (ea:=ea) (da:=da) (so:=so) C (by omega) (by rw [m];exact(λh=>absurd J h)) (λh=>by have:=tW u h;omega);by_cases f:bc x.op x.d a da so=0
  .rw [f] at p;rw [if_pos f];refine ai ?_;rw [tw];simp only [an,↓reduceIte,Int.reduceBEq,Int.reduceEq,e,b,Ws,c,p]
  .have E:(bc x.op x.d a da so==0)=false:=by simpa using f
   rw [if_neg f];refine ai ?_;rw [tw];simp only [an,↓reduceIte,Int.reduceBEq,Int.reduceEq,e,b,Ws,c,p,f,E]
 | cons k r M=>
  intro j a g K o B q m;obtain⟨g1,P,F⟩:=br g;have e:(j:Int) < (x.ks.length:Int):=by omega
  have h0: 0<=(j:Int):=by omega
  by_cases s:k < 0\/k>=(i:Int)
  .have v:(x.ks.any λk=>decide (k < 0) || decide (k>=(i:Int)))=true:=Yl.2 ⟨k,Wx g1,by simpa using s⟩;have w:(decide (k < 0) || decide (k>=(i:Int)))=true:=by simpa using s
   unfold dz;rw [v,if_pos rfl];refine ai ?_;rw [tw];simp only [aI,aL,aO,aR,↓reduceIte,e,h0,and_self,decide_true,aD,bP g1,gS,w]
  .have w:(decide (k < 0) || decide (k>=(i:Int)))=false:=by simp;omega
   have G: 0<=k/\k < (ss.length:Int):=by omega
   have H:(enc ss)[k.toNat]? =some [ti (ss.getD k.toNat 0)]:=fS (by rw [Wp,Wv (by omega)];rfl);have L:=M (j+1) (a++ [ss.getD k.toNat 0]) F (by omega) (by simp [o]) (by simp) (λy D=>by
    rw [X9,g1] at D;rcases WK.1 D with h | h
    .exact q y h
    .simp at h;subst h;omega) (by rw [X9,g1,Yf,<-m];rfl)
   refine ai ?_;rw [tw];simp only [aI,aL,aO,aR,aX,↓reduceIte,e,h0,and_self,decide_true,aD,bP g1,gS,w,G,H,Wy,cM (show a.length+1<=1000000 by omega),Xn,fI,next j (by omega)];exact L
theorem QT{x:Nd}{i:Nat}{ss:List Int}{es:Bool}{dn:ByteArray}{ea:Bool}{da:List Int}{so:Int}(u:x.op=9)(j: 1<=x.op/\x.op<=25)(v:x.ks.length<=8)(w:ss.length=i):
  Or kc [I (i:Int),ad es ss,r0,r1,AV.t (T.aB true),ad x.ek x.ks,I (x.ks.length:Int),I 0] [aa.box [I x.op,ad x.ek x.ks,I x.n,I x.d,AV.t (T.str x.nm)],aa.box [AV.t (T.str dn),ad ea da,I so]]=some [ti (dz x (i:Int) ss da so).1,ti (dz x (i:Int) ss da so).2]:=by
 cases a:x.ks with
 | nil=>
  have b:=zC x;have c:=zD x;rw [a] at b c;unfold dz;rw [a,Zx,if_neg (by decide),Xj];cases q:gg x with
  | false=>rw [q] at b;rw [if_pos rfl];refine ai ?_;rw [tu];simp only [an,↓reduceIte,Int.reduceBEq,Int.reduceEq,WN,W3,Xb,decide_false,b,Wu]
  | true=>
  rw [q] at b;rw [if_neg (by decide)];cases m:fL x with
  | false=>rw [m] at c;rw [if_pos rfl];refine ai ?_;rw [tu];simp only [an,↓reduceIte,Int.reduceBEq,Int.reduceEq,WN,W3,Xb,decide_false,b,Ws,c,Wu]
  | true=>
  rw [m] at c;rw [if_neg (by decide)];have e:=zF (op:=x.op) (ek:=x.ek) (ks:=enc []) (n:=x.n) (d:=x.d) (nm:=x.nm) (es:=true) (l:= []) (dn:=dn) (ea:=ea) (da:=da) (so:=so) j (by simp) (λh=>absurd u h) (λh=>by have:=tW m h;omega);replace e:Or (.call 73) [AV.agg [I x.op,AV.t (T.ad 1 x.ek (enc [])),I x.n,I x.d,AV.t (T.str x.nm)],AV.t (T.ad 1 true []),AV.agg [AV.t (T.str dn),ad ea da,I so]] []=_:=e;by_cases f:bc x.op x.d [] da so=0
  .rw [f] at e;rw [if_pos f];refine ai ?_;rw [tu];simp only [an,↓reduceIte,Int.reduceBEq,Int.reduceEq,WN,W3,Xb,decide_false,b,Ws,c,e]
  .have A:(bc x.op x.d [] da so==0)=false:=by simpa using f
   rw [if_neg f];refine ai ?_;rw [tu];simp only [an,↓reduceIte,Int.reduceBEq,Int.reduceEq,WN,W3,Xb,decide_false,b,Ws,c,e,f,A]
 | cons k r=>
  have s:(0:Int) < (((k::r).length:Nat):Int):=by simp
  have h0:(0:Int)<=0:=by omega
  have g1:(enc (k::r))[(0:Int).toNat]? =some [ti k]:=rfl;have E:i64.wrap (0+1)= ((1:Nat):Int):=by decide
  by_cases g:k < 0\/k>=(i:Int)
  .have B:(x.ks.any λk=>decide (k < 0) || decide (k>=(i:Int)))=true:=Yl.2 ⟨k,by rw [a];exact Wl,by simpa using g⟩;have o:(decide (k < 0) || decide (k>=(i:Int)))=true:=by simpa using g
   unfold dz;rw [B,if_pos rfl];refine ai ?_;rw [tu];simp only [aI,aL,aO,aR,↓reduceIte,s,h0,and_self,decide_true,aD,g1,gS,o]
  .have o:(decide (k < 0) || decide (k>=(i:Int)))=false:=by simp;omega
   have C: 0<=k/\k < (ss.length:Int):=by omega
   have D:(enc ss)[k.toNat]? =some [ti (ss.getD k.toNat 0)]:=fS (by rw [Wp,Wv (by omega)];rfl);have z:=QS (x:=x) (i:=i) (ss:=ss) (es:=es) (dn:=dn) (ea:=ea) (da:=da) (so:=so) u j v w r 1 [ss.getD k.toNat 0] (by rw [a];rfl) (by rw [a];simp) rfl (by simp) (λy p=>by rw [a] at p;simp at p;subst p;omega) (by rw [a];rfl);rw [a] at z;refine ai ?_;rw [tu];simp only [aI,aL,aO,aR,aX,↓reduceIte,s,h0,and_self,decide_true,aD,g1,gS,o,C,D,Xn,E];exact z
theorem QU{x:Nd}{i:Nat}{ss:List Int}{es:Bool}(Q:x.op≠9)(K: 0<=dS x.op->(x.ks.length:Int)=dS x.op)(C: 1<=x.op/\x.op<=25)(N:x.ks.length<=8)(O:ss.length=i):∀(r:List Int) (j:Nat) (a:List Int),x.ks.drop j=r->j<=x.ks.length->a.length=j->a≠[]->(∀k∈x.ks.take j,0<=k/\k < (i:Int))->a= (x.ks.take j).map (λk=>ss.getD k.toNat 0)->
  Or kc [I (i:Int),ad es ss,r0,r1,o2,ad x.ek x.ks,I (x.ks.length:Int),I (j:Int)] [aa.box [I x.op,ad x.ek x.ks,I x.n,I x.d,AV.t (T.str x.nm)],aa.box [AV.t (T.str s0),AV.t (T.aB true),I 0],aa.sl false 1 false (enc a)]=some [ti (dz x (i:Int) ss [] 0).1,ti (dz x (i:Int) ss [] 0).2]:=by
 intro r;induction r with
 | nil=>
  intro j a g J p B q o;have f:¬(j:Int) < (x.ks.length:Int):=by have:=bt g;omega
  have A:x.ks.take j=x.ks:=Yn (by have:=bt g;omega);rw [A] at q o;have b:=zC x;have c:=zD x;have v:(x.ks.any λk=>decide (k < 0) || decide (k>=(i:Int)))=false:=by rw [Xd];intro k hm;have:=q k hm;simp;omega
  unfold dz;rw [v,if_neg (by decide),<-o];cases z:gg x with
  | false=>rw [z] at b;rw [if_pos rfl];refine ai ?_;rw [tz];simp only [an,↓reduceIte,Int.reduceBEq,Int.reduceEq,f,b,Wu]
  | true=>
  rw [z] at b;rw [if_neg (by decide)];cases u:fL x with
  | false=>rw [u] at c;rw [if_pos rfl];refine ai ?_;rw [tz];simp only [an,↓reduceIte,Int.reduceBEq,Int.reduceEq,f,b,Ws,c,Wu]
  | true=>
  rw [u] at c;rw [if_neg (by decide)];have e:=zF (op:=x.op) (ek:=x.ek) (ks:=enc x.ks) (n:=x.n) (d:=x.d) (nm:=x.nm) (es:=false) (l:=a) (dn:=s0) (ea:=true) (da:= []) (so:=0) C (by omega) (by rw [o];exact(λ_ h=>by rw [W6];exact K h)) (λh=>by have:=tW u h;omega);replace e:Or (.call 73) [AV.agg [I x.op,AV.t (T.ad 1 x.ek (enc x.ks)),I x.n,I x.d,AV.t (T.str x.nm)],ad false a,AV.agg [AV.t (T.str s0),AV.t (T.ad 1 true []),I 0]] []=_:=e;by_cases m:bc x.op x.d a [] 0=0
  .rw [m] at e;rw [if_pos m];refine ai ?_;rw [tz];simp only [an,↓reduceIte,Int.reduceBEq,Int.reduceEq,f,b,Ws,c,e]
  .have E:(bc x.op x.d a [] 0==0)=false:=by simpa using m
   rw [if_neg m];refine ai ?_;rw [tz];simp only [an,↓reduceIte,Int.reduceBEq,Int.reduceEq,f,b,Ws,c,e,m,E]
 | cons k r M=>
  intro j a g J p B q o;obtain⟨g1,P,F⟩:=br g;have f:(j:Int) < (x.ks.length:Int):=by omega
  have h0: 0<=(j:Int):=by omega
  by_cases s:k < 0\/k>=(i:Int)
  .have v:(x.ks.any λk=>decide (k < 0) || decide (k>=(i:Int)))=true:=Yl.2 ⟨k,Wx g1,by simpa using s⟩;have w:(decide (k < 0) || decide (k>=(i:Int)))=true:=by simpa using s
   unfold dz;rw [v,if_pos rfl];refine ai ?_;rw [tz];simp only [aI,aL,aO,aR,↓reduceIte,f,h0,and_self,decide_true,aD,bP g1,gS,w]
  .have w:(decide (k < 0) || decide (k>=(i:Int)))=false:=by simp;omega
   have G: 0<=k/\k < (ss.length:Int):=by omega
   have H:(enc ss)[k.toNat]? =some [ti (ss.getD k.toNat 0)]:=fS (by rw [Wp,Wv (by omega)];rfl);have L:=M (j+1) (a++ [ss.getD k.toNat 0]) F (by omega) (by simp [p]) (by simp) (λy D=>by
    rw [X9,g1] at D;rcases WK.1 D with h | h
    .exact q y h
    .simp at h;subst h;omega) (by rw [X9,g1,Yf,<-o];rfl)
   refine ai ?_;rw [tz];simp only [aI,aL,aO,aR,aX,↓reduceIte,f,h0,and_self,decide_true,aD,bP g1,gS,w,G,H,Wy,cM (show a.length+1<=1000000 by omega),Xn,fI,next j (by omega)];exact L
theorem QV{x:Nd}{i:Nat}{ss:List Int}{es:Bool}(E:x.op≠9)(u: 0<=dS x.op->(x.ks.length:Int)=dS x.op)(j: 1<=x.op/\x.op<=25)(v:x.ks.length<=8)(w:ss.length=i):
  Or kc [I (i:Int),ad es ss,r0,r1,AV.t (T.aB true),ad x.ek x.ks,I (x.ks.length:Int),I 0] [aa.box [I x.op,ad x.ek x.ks,I x.n,I x.d,AV.t (T.str x.nm)],aa.box [AV.t (T.str s0),AV.t (T.aB true),I 0]]=some [ti (dz x (i:Int) ss [] 0).1,ti (dz x (i:Int) ss [] 0).2]:=by
 cases a:x.ks with
 | nil=>
  have b:=zC x;have c:=zD x;rw [a] at b c;unfold dz;rw [a,Zx,if_neg (by decide),Xj];cases q:gg x with
  | false=>rw [q] at b;rw [if_pos rfl];refine ai ?_;rw [tv];simp only [an,↓reduceIte,Int.reduceBEq,Int.reduceEq,WN,W3,Xb,decide_false,b,Wu]
  | true=>
  rw [q] at b;rw [if_neg (by decide)];cases m:fL x with
  | false=>rw [m] at c;rw [if_pos rfl];refine ai ?_;rw [tv];simp only [an,↓reduceIte,Int.reduceBEq,Int.reduceEq,WN,W3,Xb,decide_false,b,Ws,c,Wu]
  | true=>
  rw [m] at c;rw [if_neg (by decide)];have e:=zF (op:=x.op) (ek:=x.ek) (ks:=enc []) (n:=x.n) (d:=x.d) (nm:=x.nm) (es:=true) (l:= []) (dn:=s0) (ea:=true) (da:= []) (so:=0) j (by simp) (λ_ h=>by have:=u h;rw [a] at this;exact this) (λh=>by have:=tW m h;omega);replace e:Or (.call 73) [AV.agg [I x.op,AV.t (T.ad 1 x.ek (enc [])),I x.n,I x.d,AV.t (T.str x.nm)],AV.t (T.ad 1 true []),AV.agg [AV.t (T.str s0),AV.t (T.ad 1 true []),I 0]] []=_:=e;by_cases f:bc x.op x.d [] [] 0=0
  .rw [f] at e;rw [if_pos f];refine ai ?_;rw [tv];simp only [an,↓reduceIte,Int.reduceBEq,Int.reduceEq,WN,W3,Xb,decide_false,b,Ws,c,e]
  .have A:(bc x.op x.d [] [] 0==0)=false:=by simpa using f
   rw [if_neg f];refine ai ?_;rw [tv];simp only [an,↓reduceIte,Int.reduceBEq,Int.reduceEq,WN,W3,Xb,decide_false,b,Ws,c,e,f,A]
 | cons k r=>
  have s:(0:Int) < (((k::r).length:Nat):Int):=by simp
  have h0:(0:Int)<=0:=by omega
  have g1:(enc (k::r))[(0:Int).toNat]? =some [ti k]:=rfl;have F:i64.wrap (0+1)= ((1:Nat):Int):=by decide
  by_cases g:k < 0\/k>=(i:Int)
  .have B:(x.ks.any λk=>decide (k < 0) || decide (k>=(i:Int)))=true:=Yl.2 ⟨k,by rw [a];exact Wl,by simpa using g⟩;have o:(decide (k < 0) || decide (k>=(i:Int)))=true:=by simpa using g
   unfold dz;rw [B,if_pos rfl];refine ai ?_;rw [tv];simp only [aI,aL,aO,aR,↓reduceIte,s,h0,and_self,decide_true,aD,g1,gS,o]
  .have o:(decide (k < 0) || decide (k>=(i:Int)))=false:=by simp;omega
   have C: 0<=k/\k < (ss.length:Int):=by omega
   have D:(enc ss)[k.toNat]? =some [ti (ss.getD k.toNat 0)]:=fS (by rw [Wp,Wv (by omega)];rfl);have z:=QU (x:=x) (i:=i) (ss:=ss) (es:=es) E u j v w r 1 [ss.getD k.toNat 0] (by rw [a];rfl) (by rw [a];simp) rfl (by simp) (λy p=>by rw [a] at p;simp at p;subst p;omega) (by rw [a];rfl);rw [a] at z;refine ai ?_;rw [tv];simp only [aI,aL,aO,aR,aX,↓reduceIte,s,h0,and_self,decide_true,aD,g1,gS,o,C,D,Xn,F];exact z
theorem yy{nm:ByteArray}:∀{i:Nat} {ds:List Dc},0<=jK nm i ds->∃j d,jK nm i ds= ((i+j:Nat):Int)/\ds[j]? =some d/\d.nm=nm
 | i,[],h=>by simp [jK] at h
 | i,d::r,h=>by
  rw [jK] at h⊢;split
  .rename_i e;exact⟨0,d,rfl,rfl,e⟩
  .rename_i e;rw [if_neg e] at h;obtain⟨j,a,b,c,f⟩:=yy h;exact⟨j+1,a,by rw [b];congr 1;omega,c,f⟩
theorem JW{a:As}{x:Nd}{i:Nat}{ss:List Int}{es:Bool}(f:a.ns[i]? =some x)(A:a.ds.length<=100)(s:ss.length=i):
  Or (.call 30) [AG a,I (i:Int),ad es ss] []=some [ti (bU a.ds x (i:Int) ss).1,ti (bU a.ds x (i:Int) ss).2]:=by
 have o: 0<=(i:Int)/\(i:Int) < (a.ns.length:Int):=by have:=(Wm.1 f).1;omega
 unfold bU;by_cases t:x.op < 1\/25 < x.op
 .have c:(decide (x.op < 1) || decide (x.op > 25))=true:=by simpa using t
  rw [if_pos t];refine ai ?_;rw [tq];simp only [aI,aL,aV,aO,cu,iO,aR,↓reduceIte,o,and_self,dR,gf f,gS,c]
 have c:(decide (x.op < 1) || decide (x.op > 25))=false:=by simp;omega
 have p: 1<=x.op/\x.op<=25:=by omega
 rw [if_neg t];have b:=TA p;by_cases m:x.op=9
 .have k:(x.op==9)=true:=by simpa using m
  have g:=ur (ed:=a.ed) (en:=a.en) (eh:=a.eh) (ns:=a.ns) (hs:=a.hs) (nm:=x.nm) A;rw [if_pos m];by_cases l:bm a.ds x.nm < 0
  .have q:=decide_eq_true l;rw [if_pos l];refine ai ?_;rw [tq];simp only [aI,aL,aV,aO,cu,iO,aR,aX,↓reduceIte,o,and_self,dR,gf f,gS,c,b,k,g,q]
  .rw [if_neg l];obtain⟨j,d,v,r,F⟩:=yy (nm:=x.nm) (i:=0) (ds:=a.ds) (by unfold bm at l;omega);have B:bm a.ds x.nm= ((j:Nat):Int):=by unfold bm;rw [v,WZ]
   have E:a.ds.getD (bm a.ds x.nm).toNat ⟨s0,true,[],0⟩=d:=by rw [B,WW,Wp,r];rfl
   rw [E];rw [B] at g l;have q:=decide_eq_false l;have z: 0<=(j:Int)/\(j:Int) < (a.ds.length:Int):=by have:=(Wm.1 r).1;omega
   by_cases c3:x.ks.length≠d.ar.length\/8 < x.ks.length
   .have e:((!((x.ks.length:Int)== (d.ar.length:Int))) || decide ((x.ks.length:Int) > 8))=true:=by
     rcases c3 with h | h
     .have:((x.ks.length:Int)== (d.ar.length:Int))=false:=by simp;omega
      rw [this];rfl
     .have:(x.ks.length:Int) > 8:=by omega
      rw [decide_eq_true this,YZ]
    rw [if_pos c3];refine ai ?_;rw [tq];simp only [aI,aL,aV,aO,cu,iO,aR,aX,↓reduceIte,o,and_self,dR,gf f,gS,c,b,k,g,q,z,cX,fR r,aD,e]
   .have e:((!((x.ks.length:Int)== (d.ar.length:Int))) || decide ((x.ks.length:Int) > 8))=false:=by
     have D:((x.ks.length:Int)== (d.ar.length:Int))=true:=by simp;omega
     have w:¬(x.ks.length:Int) > 8:=by omega
     rw [D,decide_eq_false w];rfl
    have y:=QT (x:=x) (i:=i) (ss:=ss) (es:=es) (dn:=d.nm) (ea:=d.ea) (da:=d.ar) (so:=d.so) m p (by omega) s;rw [if_neg c3];refine ai ?_;rw [tq];simp only [aI,aL,aV,aO,cu,iO,aR,aX,↓reduceIte,o,and_self,dR,gf f,gS,c,b,k,g,q,z,cX,fR r,aD,e];exact y
 .have k:(x.op==9)=false:=by simpa using m
  rw [if_neg m];by_cases c3:(0<=dS x.op/\(x.ks.length:Int)≠dS x.op)\/8 < x.ks.length
  .have e:((decide (dS x.op>=0) && !((x.ks.length:Int)==dS x.op)) || decide ((x.ks.length:Int) > 8))=true:=by
    rcases c3 with⟨h,C⟩ | h
    .have u:((x.ks.length:Int)==dS x.op)=false:=by simpa using C
     have v:dS x.op>=0:=h;rw [u,decide_eq_true v];rfl
    .have:(x.ks.length:Int) > 8:=by omega
     rw [decide_eq_true this,YZ]
   rw [if_pos c3];refine ai ?_;rw [tq];simp only [aI,aL,aV,aO,cu,iO,aR,aX,↓reduceIte,o,and_self,dR,gf f,gS,jg,c,b,k,aD,e]
  .have e:((decide (dS x.op>=0) && !((x.ks.length:Int)==dS x.op)) || decide ((x.ks.length:Int) > 8))=false:=by
    have w:¬(x.ks.length:Int) > 8:=by omega
    rw [decide_eq_false w,Y7];by_cases h: 0<=dS x.op
    .have u:((x.ks.length:Int)==dS x.op)=true:=by simp;omega
     rw [u];simp
    .have:¬dS x.op>=0:=h;rw [decide_eq_false this];rfl
   have y:=QV (x:=x) (i:=i) (ss:=ss) (es:=es) m (λh=>by omega) p (by omega) s;rw [if_neg c3];refine ai ?_;rw [tq];simp only [aI,aL,aV,aO,cu,iO,aR,aX,↓reduceIte,o,and_self,dR,gf f,gS,jg,c,b,k,aD,e];exact y
open Go Go.Aev Go.IntKind
def eT(ds:List Dc):List Nd->Nat->List Int->List Int×Int×Int
 | [],_,ss=>(ss,0,0)
 | x::r,i,ss=>if(bU ds x (i:Int) ss).2=0 then eT ds r (i+1) (ss++ [(bU ds x (i:Int) ss).1]) else([],(bU ds x (i:Int) ss).2,(i:Int))
def fC(ss:List Int):List Int->Nat->Int×Int
 | [],_=>(0,0)
 | k::r,j=>if k < 0\/(ss.length:Int)<=k then(3,(j:Int)) else if ss.getD k.toNat 0≠1 then(8,(j:Int)) else fC ss r (j+1)
def jV(a:As)(q:List Int×Int×Int):List Int×Int×Int:=
 if q.2.1≠0 then([],q.2.1,q.2.2)
 else if 200 < a.hs.length then([],2,0)
 else if(fC q.1 a.hs 0).1≠0 then([],(fC q.1 a.hs 0).1,(fC q.1 a.hs 0).2)
 else(q.1,0,0)
def bg(a:As):List Int×Int×Int:=
 if 30 < a.ds.length then([],2,0)
 else if(eN [] 0 a.ds).1≠0 then([],(eN [] 0 a.ds).1,(eN [] 0 a.ds).2)
 else if 200 < a.ns.length then([],2,0)
 else jV a (eT a.ds a.ns 0 [])
abbrev R3(x:T)(q:List Int×Int×Int):Option (List T):=some [x,ti q.2.1,ti q.2.2]
theorem Qs{ss:List Int}{e:Bool}{hs:List Int}(hl:hs.length<=1000):∀(r:List Int) (j:Nat),hs.drop j=r->
  ∃x,Or po [r0,o1,ad e hs,I (hs.length:Int),I (j:Int)] [kP,aa.sl false 1 false (enc ss)]=some [x,ti (fC ss r j).1,ti (fC ss r j).2]/\((fC ss r j).1=0->x=T.ad 1 false (enc ss))/\((fC ss r j).1≠0->x=T.aB true):=by
 intro r;induction r with
 | nil=>
  intro j g;have a:¬(j:Int) < (hs.length:Int):=by have:=bt g;omega
  refine⟨T.ad 1 false (enc ss),ai ?_,λ_=>rfl,λh=>absurd rfl h⟩;rw [yg];simp only [an,↓reduceIte,Int.reduceBEq,Int.reduceEq,a,fC]
 | cons k r p=>
  intro j g;obtain⟨g1,u,o⟩:=br g;have a:(j:Int) < (hs.length:Int):=by omega
  have h0: 0<=(j:Int):=by omega
  rw [fC];by_cases i:k < 0\/(ss.length:Int)<=k
  .have b:(decide (k < 0) || decide (k>=(ss.length:Int)))=true:=by simpa using i
   rw [if_pos i];refine⟨T.aB true,ai ?_,λh=>absurd (show(3:Int)=0 from h) (by decide),λ_=>rfl⟩;rw [yg];simp only [aI,aL,aO,aR,aX,↓reduceIte,a,h0,and_self,decide_true,aD,bP g1,gS,b]
  .have b:(decide (k < 0) || decide (k>=(ss.length:Int)))=false:=by simp;omega
   have l: 0<=k/\k < (ss.length:Int):=by omega
   have m:(enc ss)[k.toNat]? =some [ti (ss.getD k.toNat 0)]:=fS (by rw [Wp,Wv (by omega)];rfl);rw [if_neg i];by_cases c:ss.getD k.toNat 0=1
   .have f:(ss.getD k.toNat 0==1)=true:=by simpa using c
    obtain⟨x,q,s,t⟩:=p (j+1) o;rw [if_neg (by simpa using c)];refine⟨x,ai ?_,s,t⟩;rw [yg];simp only [aI,aL,aO,aR,aX,↓reduceIte,a,h0,and_self,decide_true,aD,bP g1,gS,b,l,m,f,Ws,next j (by omega)];exact q
   .have f:(ss.getD k.toNat 0==1)=false:=by simpa using c
    rw [if_pos c];refine⟨T.aB true,ai ?_,λh=>absurd (show(8:Int)=0 from h) (by decide),λ_=>rfl⟩;rw [yg];simp only [aI,aL,aO,aR,aX,↓reduceIte,a,h0,and_self,decide_true,aD,bP g1,gS,b,l,m,f,Wu]
theorem Qr{a:As}(t:a.ds.length<=100)(C:a.ns.length<=200):∀(r:List Nd) (i:Nat) (ss:List Int),a.ns.drop i=r->i<=a.ns.length->ss.length=i->ss≠[]->
  ∃x,Or qL [r0,r1,o2,I (a.ns.length:Int),I (i:Int)] [kZ a,kP,aa.sl false 1 false (enc ss)]=R3 x (jV a (eT a.ds r i ss))/\x.aQ 1=some ((jV a (eT a.ds r i ss)).1.isEmpty,enc (jV a (eT a.ds r i ss)).1):=by
 intro r;induction r with
 | nil=>
  intro i ss g w hs o;have f:¬(i:Int) < (a.ns.length:Int):=by have:=bt g;omega
  rw [eT];unfold jV;rw [if_neg (by simp)];by_cases c: 200 < a.hs.length
  .have b:(a.hs.length:Int) > 200:=by omega
   rw [if_pos c];refine⟨T.aB true,ai ?_,rfl⟩;rw [vB];simp only [an,↓reduceIte,Int.reduceBEq,Int.reduceEq,f,aD,b]
  .have b:¬(a.hs.length:Int) > 200:=by omega
   rw [if_neg c];obtain⟨x,m,s,B⟩:=Qs (ss:=ss) (e:=a.eh) (hs:=a.hs) (by omega) a.hs 0 rfl;by_cases l:(fC ss a.hs 0).1=0
   .rw [if_neg (by simpa using l)];have u:fC ss a.hs 0= (0,0):=by
     have:∀(r:List Int) (j:Nat),(fC ss r j).1=0->fC ss r j= (0,0):=by
      intro r;induction r with
      | nil=>intro j _;rfl
      | cons k r q=>
       intro j h;rw [fC] at h⊢;split at h
       .exact absurd (show(3:Int)=0 from h) (by decide)
       .rename_i z;rw [if_neg z];split at h
        .exact absurd (show(8:Int)=0 from h) (by decide)
        .rename_i A;rw [if_neg A];exact q _ h
     exact this _ _ l
    refine⟨x,ai ?_, ?_⟩
    .rw [vB];simp only [an,↓reduceIte,Int.reduceBEq,Int.reduceEq,f,aD,b];rw [u] at m;exact m
    .rw [s l,cu];cases ss with
     | nil=>exact absurd rfl o
     | cons=>rfl
   .rw [if_pos l];refine⟨x,ai ?_,by rw [B l];rfl⟩;rw [vB];simp only [an,↓reduceIte,Int.reduceBEq,Int.reduceEq,f,aD,b];exact m
 | cons x r q=>
  intro i ss g w hs o;obtain⟨g1,D,v⟩:=br g;have f:(i:Int) < (a.ns.length:Int):=by omega
  have p:=JW (a:=a) (es:=false) g1 t hs;rw [eT];by_cases c:(bU a.ds x (i:Int) ss).2=0
  .have b:((bU a.ds x (i:Int) ss).2==0)=true:=by simpa using c
   obtain⟨y,m,s⟩:=q (i+1) (ss++ [(bU a.ds x (i:Int) ss).1]) v (by omega) (by simp [hs]) (by simp);rw [if_pos c];refine⟨y,ai ?_,s⟩;rw [vB];simp only [aI,aL,aV,aO,aR,aX,↓reduceIte,f,decide_true,p,b,Ws,aD,Wy,cM (show ss.length+1<=1000000 by omega),Xn,fI,next i (by omega)];exact m
  .have b:((bU a.ds x (i:Int) ss).2==0)=false:=by simpa using c
   rw [if_neg c];unfold jV;rw [if_pos c];refine⟨T.aB true,ai ?_,rfl⟩;rw [vB];simp only [aI,aL,aV,aO,aR,aX,↓reduceIte,f,decide_true,p,b,Wu]
theorem CZ{a:As}(C:∀d∈a.ds,d.nm.size<=9223372036854775807):∃x,Or (.call 12) [AG a] []=R3 x (bg a)/\x.aQ 1=some ((bg a).1.isEmpty,enc (bg a).1):=by
 have b:=Tb (e:=a.ed) C;unfold bg;by_cases l: 30 < a.ds.length
 .rw [if_pos l] at b;rw [if_pos l];refine⟨T.aB true,ai ?_,rfl⟩;rw [yf];simp only [an,↓reduceIte,Int.reduceBEq,Int.reduceEq,b,Wu]
 rw [if_neg l] at b;rw [if_neg l];by_cases m:(eN [] 0 a.ds).1=0
 .have j:((eN [] 0 a.ds).1==0)=true:=by simpa using m
  rw [if_neg (by simpa using m)];by_cases c3: 200 < a.ns.length
  .have s:((a.ns.length:Int) > 200):=by omega
   rw [if_pos c3];refine⟨T.aB true,ai ?_,rfl⟩;rw [yf];simp only [aI,aL,aV,aO,aR,aX,↓reduceIte,b,j,Ws,dR,s,decide_true]
  .have s:¬((a.ns.length:Int) > 200):=by omega
   rw [if_neg c3];have w:∃x,Or qL [r0,r1,AV.t (T.aB true),I (a.ns.length:Int),I 0] [kZ a,kP]=R3 x (jV a (eT a.ds a.ns 0 []))/\x.aQ 1=some ((jV a (eT a.ds a.ns 0 [])).1.isEmpty,enc (jV a (eT a.ds a.ns 0 [])).1):=by
    cases g:a.ns with
    | nil=>
     rw [eT];unfold jV;rw [if_neg (by simp)];by_cases f: 200 < a.hs.length
     .have c:(a.hs.length:Int) > 200:=by omega
      rw [if_pos f];refine⟨T.aB true,ai ?_,rfl⟩;rw [vA];simp only [an,↓reduceIte,Int.reduceBEq,Int.reduceEq,WN,W3,Xb,decide_false,aD,c]
     .have c:¬(a.hs.length:Int) > 200:=by omega
      rw [if_neg f];cases p:a.hs with
      | nil=>
       refine⟨T.aB true,ai ?_,rfl⟩;have u:Or po [r0,AV.t (T.aB true),ad a.eh [],I 0,I 0] [kP]=some [T.aB true,ti 0,ti 0]:=by refine ai ?_;rw [Ff];simp only [an,↓reduceIte,Int.reduceBEq,Int.reduceEq,Xb,decide_false]
       rw [p] at c;rw [vA];simp only [an,↓reduceIte,Int.reduceBEq,Int.reduceEq,WN,W3,Xb,decide_false,aD,p];exact u
      | cons k r=>
       have B:fC [] (k::r) 0= (3,0):=by rw [fC,if_pos (by simp;omega)];rfl
       rw [B,if_pos (by decide)];refine⟨T.aB true,ai ?_,rfl⟩;have o:(0:Int) < (((k::r).length:Nat):Int):=by simp
       have h0:(0:Int)<=0:=by omega
       have g1:(enc (k::r))[(0:Int).toNat]? =some [ti k]:=rfl;have A:(decide (k < 0) || decide (k>=0))=true:=by simp;omega
       have u:Or po [r0,AV.t (T.aB true),ad a.eh (k::r),I (((k::r).length:Nat):Int),I 0] [kP]=some [T.aB true,ti 3,ti 0]:=by refine ai ?_;rw [Ff];simp only [aI,aL,aO,aR,aX,↓reduceIte,o,h0,and_self,decide_true,aD,g1,gS,A]
       rw [p] at c;rw [vA];simp only [an,↓reduceIte,Int.reduceBEq,Int.reduceEq,WN,W3,Xb,decide_false,aD,p,c];exact u
    | cons y r=>
     have D:a.ns[0]? =some y:=by rw [g];rfl
     have h:=JW (a:=a) (i:=0) (ss:= []) (es:=true) D (by omega) rfl;replace h:Or (.call 30) [AG a,I 0,AV.t (T.ad 1 true [])] []=some [ti (bU a.ds y 0 []).1,ti (bU a.ds y 0 []).2]:=h;have o:(0:Int) < (((y::r).length:Nat):Int):=by simp
     have E:i64.wrap (0+1)= ((1:Nat):Int):=by decide
     rw [eT];by_cases f:(bU a.ds y 0 []).2=0
     .have c:((bU a.ds y 0 []).2==0)=true:=by simpa using f
      obtain⟨z,q,v⟩:=Qr (a:=a) (by omega) (by omega) r 1 [(bU a.ds y 0 []).1] (by rw [g];rfl) (by rw [g];simp) rfl (by simp);rw [if_pos (show(bU a.ds y ((0:Nat):Int) []).2=0 from f)];refine⟨z,ai ?_,v⟩;rw [vA];rw [g] at q;simp only [aI,aL,aV,aO,aR,aX,↓reduceIte,o,decide_true,h,c,Ws,Xn,E];exact q
     .have c:((bU a.ds y 0 []).2==0)=false:=by simpa using f
      rw [if_neg (show ¬(bU a.ds y ((0:Nat):Int) []).2=0 from f)];unfold jV;rw [if_pos (show(bU a.ds y ((0:Nat):Int) []).2≠0 from f)];refine⟨T.aB true,ai ?_,rfl⟩;rw [vA];simp only [aI,aL,aV,aO,aR,aX,↓reduceIte,o,decide_true,h,c,Wu];rfl
   obtain⟨x,q,v⟩:=w;refine⟨x,ai ?_,v⟩;rw [yf];simp only [aI,aL,aV,aO,aR,aX,↓reduceIte,b,j,Ws,dR,s,decide_false];exact q
 .have j:((eN [] 0 a.ds).1==0)=false:=by simpa using m
  rw [if_pos m];refine⟨T.aB true,ai ?_,rfl⟩;rw [yf];simp only [aI,aL,aV,aO,aR,aX,↓reduceIte,b,j,Wu]
end Go.Aev.Gen
